import Derived.Test.YtnknippcbecmeaaGreatDoorProg
import Derived.Test.YtnknippcbecmeaaGreatDoorPkExecAll4
set_option maxRecDepth 100000
set_option linter.unusedSimpArgs false
set_option linter.unusedVariables false
set_option linter.unnecessarySimpa false
set_option linter.unusedSectionVars false
section
/- stream, whatever the fuse: Read. -/
namespace Go.Proofs.YtnknippcbecmeaaGreatDoor.Str
open Go Go.Hw Go.Form W Dsk Are
def D.rdG (d : D) (t : Nat) : D := { d with rd := d.rd + t, fuse := d.fuse - t }
theorem Ok.rdG {d : D} (h : Ok d) (t : Nat) : Ok (D.rdG d t) := ⟨h.sec, h.size, h.big, h.per, h.safe, h.cache, Nat.le_trans (Nat.sub_le _ _) h.fz⟩
theorem rdG_zero (d : D) : D.rdG d 0 = d := rfl
theorem rdG_mr (d : D) (t : Nat) : D.mr (D.rdG d t) = D.rdG d (t + 1) := by
  unfold D.mr D.rdG
  simp only [D.mk.injEq, true_and, and_true]
  omega
theorem Prog.rdG (S : Int → Prop) {d : D} (h : Ok d) (hl : d.down = false) {t : Nat} (hf : d.fuse = 0 ∨ t < d.fuse) : Prog S d (D.rdG d t) t 0 :=
  ⟨Ok.rdG h t, hl, rfl, by omega, rfl, rfl, rfl, rfl, fun _ _ => rfl, fun _ _ => rfl, rfl, rfl⟩
theorem Dead.rdG (S : Int → Prop) {d : D} (h : Ok d) (hl : d.down = false) {j : Nat} (hf : d.fuse = j + 1) : Dead S d (D.dead (D.rdG d j)) :=
  (Prog.rdG S h hl (t := j) (by omega)).dead (Dead.one S (Ok.rdG h j) (by show d.fuse - j = 1; omega))
theorem read_loop_g (K : Value → Hp → Prop) {p dp ap : Nat} {d : D} {x : X} (hok : Ok d) (hl : d.down = false) (hx : On d x) {cap peak : Int} {bufs : List (Nat × Nat × Option Addr)} {b rb mb : Nat} (hbm : ∀ y ∈ bufs, y.1 ≠ b) {rl off0 fr0 mm vb : Nat} {el : TypeId} {xs : List Value} {A4 : Option Addr} {n4 m4 : Nat} {all : List (Nat × Nat × Nat)} (hn4 : n4 = all.length) (hn40 : n4 ≤ 1000000000) (ho : d.rd ≤ 4611686010000000000)
    (hK : ∀ H, Sep [pts p (pipO dp ap x), Dk dp (D.rdG d n4), Ar ap cap peak bufs, pts rl (.row (setAt xs off0 (wordVals (pws d x fr0 (all.map (·.2.2)).sum))) el mm)] H → d.fuse = 0 ∨ n4 < d.fuse → K (.int .i64 0) H)
    (hK8 : ∀ j xs' H, j < n4 → d.fuse = j + 1 → xs'.length = xs.length → Sep [pts p (pipO dp ap x), Dk dp (D.dead (D.rdG d j)), Ar ap cap peak bufs, pts rl (.row xs' el mm)] H → K (.int .i64 8) H) :
    ∀ (k fr n j off : Nat) (A : Option Addr) (m : Nat) (ws : List UInt64) (H : Hp), d.fuse = 0 ∨ j < d.fuse → n ≤ k → fr + n ≤ x.w → n ≤ m → all.drop j = pcs (D.per d) x.f k fr n → j ≤ n4 → fr0 + off = fr → ((all.take j).map (·.2.2)).sum = off → off0 + off + n ≤ xs.length → (0 < n → A = some ⟨rl, off0 + off, none⟩) → ws.length = D.per d →
      Sep [pts p (pipO dp ap x), Dk dp (D.rdG d j), Ar ap cap peak (bufs ++ [(b, D.per d, some ⟨rb, 0, none⟩)]), pts rb (.row (wordVals ws) 60 mb), Own 173 3 A4 n4 m4 (all.flatMap pcV), pts rl (.row (setAt xs off0 (wordVals (pws d x fr0 off))) el mm), pts vb (.row [.pointer (some ⟨b, 0, none⟩)] 164 1)] H →
      W_stream_Pipe_Read.l9 K (k + 1) (some ⟨p, 0, none⟩) A n m (some ⟨b, 0, none⟩) A4 n4 m4 (n4 : Int) (j : Int) (some ⟨ap, 0, none⟩) (some ⟨vb, 0, none⟩) 1 1 H
  | k, fr, 0, j, off, A, m, ws, H, hgo, hn, hf, hm, hall, hj, hoff, hsum, hlen, hA, hws, hs => by
    unfold W_stream_Pipe_Read.l9
    have e : pcs (D.per d) x.f k fr 0 = [] := by cases k <;> simp [pcs]
    rw [e] at hall
    have hjn : j = n4 := by
      have := congrArg List.length hall
      simp at this; omega
    subst hjn
    refine BIf_dneg (by omega) ?_
    have htake : all.take j = all := List.take_of_length_le (by omega)
    rw [htake] at hsum
    refine (Give_oneD vb b (D.per d) (some ⟨rb, 0, none⟩) hbm).use hs [2, 6] rfl rfl ?_
    rintro _ _ H ⟨rfl, rfl⟩ hs
    refine hK H ?_ hgo
    rw [hsum]
    exact hs.re [1, 2, 0, 5] rfl
  | 0, fr, n + 1, j, off, A, m, ws, H, hgo, hn, hf, hm, hall, hj, hoff, hsum, hlen, hA, hws, hs => by omega
  | k + 1, fr, n + 1, j, off, A, m, ws, H, hgo, hn, hf, hm, hall, hj, hoff, hsum, hlen, hA, hws, hs => by
    have hp := Ok.per_le hok
    have hsec := hok.sec
    have hroom : x.s * D.per d ≤ 1048576 * 512 := Nat.mul_le_mul (by have := hx.fit; omega) (by omega)
    have h4 := hx.room
    have hfit := hx.fit
    obtain rfl := hA (by omega)
    have e : pcs (D.per d) x.f (k + 1) fr (n + 1) = (x.f + fr / D.per d, fr % D.per d, cN (D.per d) fr (n + 1)) :: pcs (D.per d) x.f k (fr + cN (D.per d) fr (n + 1)) (n + 1 - cN (D.per d) fr (n + 1)) := by
      show (if n + 1 = 0 then [] else _) = _
      rw [if_neg (by omega)]
    rw [e] at hall
    have hjlt : j < all.length := by
      have := congrArg List.length hall
      simp at this; omega
    have hcle := cN_le (D.per d) fr (n + 1)
    have hcpos := cN_pos (per := D.per d) (fr := fr) (n := n + 1) (by omega) (by omega)
    have hcper := cN_per (per := D.per d) (fr := fr) (n := n + 1) (by omega)
    have hmod := Nat.mod_lt fr (show 0 < D.per d by omega)
    have hdiv : fr / D.per d < x.s := by
      rw [Nat.div_lt_iff_lt_mul (by omega)]; omega
    have hget : all[j] = (x.f + fr / D.per d, fr % D.per d, cN (D.per d) fr (n + 1)) := by
      have := List.drop_eq_getElem_cons hjlt
      rw [this] at hall
      exact (List.cons.inj hall).1
    have hrest : all.drop (j + 1) = pcs (D.per d) x.f k (fr + cN (D.per d) fr (n + 1)) (n + 1 - cN (D.per d) fr (n + 1)) := by
      have := List.drop_eq_getElem_cons hjlt
      rw [this] at hall
      exact (List.cons.inj hall).2
    generalize hcv : cN (D.per d) fr (n + 1) = c at *
    have hflat : ∀ (l : List (Nat × Nat × Nat)) (i : Nat) (hi : i < l.length), ((l.flatMap pcV).drop (i * 3)).take 3 = pcV l[i] := by
      intro l
      induction l with
      | nil => intro i hi; simp at hi
      | cons y l ih =>
        intro i hi
        rw [List.flatMap_cons]
        cases i with
        | zero => simp [pcV]
        | succ i =>
          rw [show (i + 1) * 3 = (pcV y).length + i * 3 by simp [pcV]; omega, List.drop_append]
          simp only [Nat.add_sub_cancel_left, List.getElem_cons_succ]
          rw [List.drop_eq_nil_of_le (by omega), List.nil_append]
          exact ih i (by simpa using hi)
    unfold W_stream_Pipe_Read.l9
    refine BIf_dpos (by omega) ?_
    refine (hs.own 4 rfl).rdA (ys := pcV all[j]) rfl (by omega) (hflat all j hjlt) ?_
    rw [hget]
    refine hs.nw fun b2 H hs => ?_
    refine hs.stw 7 rfl rfl rfl rfl fun H hs => ?_
    have hs : Sep [pts p (pipO dp ap x), Dk dp (D.rdG d j), Ar ap cap peak (bufs ++ [(b, D.per d, some ⟨rb, 0, none⟩)]), pts rb (.row (wordVals ws) 60 mb), Own 173 3 A4 n4 m4 (all.flatMap pcV), pts rl (.row (setAt xs off0 (wordVals (pws d x fr0 off))) el mm), pts vb (.row [.pointer (some ⟨b, 0, none⟩)] 164 1),
      pts b2 (.obj (.cells #[.int .i64 ((x.f + fr / D.per d : Nat) : Int), .int .i64 ((fr % D.per d : Nat) : Int), .int .i64 (c : Int)] 173))] H := hs
    simp only [NN_some, Addr.add_lit', Addr.add_zero, Nat.zero_add, Nat.add_zero]
    refine hs.ld 7 rfl rfl ?_
    simp only [HV]
    have hokj := Ok.rdG hok j
    refine (load_g (p := p) (ap := ap) (x := x) (cap := cap) (peak := peak) (b := b) (rb := rb) (m := mb) hokj hl (by show d.rd + j ≤ _; omega) ((x.f + fr / D.per d : Nat) : Int) (Int.natCast_nonneg _) (Int.ofNat_lt.2 (by show _ < d.sec; omega)) (bufs := bufs ++ [(b, D.per d, some ⟨rb, 0, none⟩)]) (List.mem_append_right _ (List.mem_singleton.2 rfl)) (xs := wordVals ws) (by rw [wordVals_length]; exact hws)).use hs [0, 1, 2, 3] rfl rfl ?_
    have hset : (setAt xs off0 (wordVals (pws d x fr0 off))).length = xs.length := setAt_length (by rw [wordVals_length, pws_len]; omega)
    have hfz : (D.rdG d j).fuse = d.fuse - j := rfl
    rintro _ _ H (⟨hf1, rfl, rfl⟩ | ⟨hf1, rfl, rfl⟩) hs
    case inr =>
      simp only [HV]
      refine BIf_bnep (by decide) ?_
      refine (Give_oneD vb b (D.per d) (some ⟨rb, 0, none⟩) hbm).use hs [2, 6] rfl rfl ?_
      rintro _ _ H ⟨rfl, rfl⟩ hs
      exact hK8 j _ H (by omega) (by omega) hset (hs.re [1, 2, 0, 5] rfl)
    rw [rdG_mr] at hs
    have hnow : D.now (D.rdG d j) ((x.f + fr / D.per d : Nat) : Int) = d.now ((x.f + fr / D.per d : Nat) : Int) := rfl
    rw [hnow] at hs
    have hwl : (wordsB (d.now ((x.f + fr / D.per d : Nat) : Int))).length = D.per d := by rw [wordsB_len, hok.now]; rfl
    simp only [HV]
    refine BIf_bnen rfl ?_
    refine hs.ld 7 rfl rfl ?_
    simp only [HV]
    refine slB_to rfl (by omega) ?_
    refine QCall.use (Words_s hs 2 rfl (List.mem_append_right _ (List.mem_singleton.2 rfl))) ?_
    simp only [HV]
    refine hs.ld 7 rfl rfl ?_
    simp only [HV]
    refine slB_from rfl (by omega) ?_
    rw [slA_zero, slA_at (by omega), Nat.zero_add]
    refine hs.cp 5 (k := D.per d - fr % D.per d) (n := c - 0) (off := off0 + off) (ys := wordVals (pws d x fr c)) (by rfl) cell_u64 rfl ?_ ?_ (fun y hy => ?_) fun H hs => ?_
    · have hmin : Nat.min (D.per d - fr % D.per d) (c - 0) = c := Nat.min_eq_right (by omega)
      rw [hmin]
      show H.cells? ⟨rb, fr % D.per d, none⟩ 0 (c * 1) = _
      rw [Nat.mul_one, cells_row (hs.get 3 (b := rb) (o := .row (wordVals (wordsB (d.now ((x.f + fr / D.per d : Nat) : Int)))) 60 mb) rfl) (fr % D.per d) c 0 (by rw [wordVals_length, hwl]; omega)]
      rw [← piece_words hok x (fr := fr) (k := c) (by omega)]
      unfold wordVals
      rw [List.map_take, List.map_drop, Nat.add_zero]
    · rw [wordVals_length, pws_len, hset]; omega
    · obtain ⟨z, _, rfl⟩ := List.mem_map.1 hy; rfl
    simp only [HV]
    refine hs.ld 7 rfl rfl ?_
    simp only [HV]
    refine slB_from rfl (by omega) ?_
    rw [i64w (x := (j : Int) + 1) (by omega) (by omega)]
    have happ : setAt (setAt xs off0 (wordVals (pws d x fr0 off))) (off0 + off) (wordVals (pws d x fr c)) = setAt xs off0 (wordVals (pws d x fr0 (off + c))) := by
      have hl : (wordVals (pws d x fr0 off)).length = off := by rw [wordVals_length, pws_len]
      have := setAt_append (xs := xs) (us := wordVals (pws d x fr0 off)) (bs := wordVals (pws d x fr c)) (off := off0) (by rw [hl, wordVals_length, pws_len]; omega)
      rw [hl] at this
      rw [this, pws_add, hoff]
      unfold wordVals
      rw [List.map_append]
    have hsum' : ((all.take (j + 1)).map (·.2.2)).sum = off + c := by
      rw [List.take_succ_eq_append_getElem hjlt, List.map_append, List.sum_append, hsum, hget]
      simp
    refine read_loop_g K (rb := rb) (mb := mb) hok hl hx hbm hn4 hn40 ho hK hK8 k (fr + c) (n + 1 - c) (j + 1) (off + c) _ (m - c) (wordsB (d.now ((x.f + fr / D.per d : Nat) : Int))) H (by omega) (by omega) (by omega) (by omega) hrest (by omega) (by omega) hsum' (by omega) (fun h0 => ?_) hwl ?_
    · rw [slA_at (by omega), Nat.add_assoc]
    · rw [← happ]
      exact hs.re [0, 1, 2, 3, 4, 5, 6] rfl
def readP (p dp ap : Nat) (d : D) (x : X) (cap peak : Int) (bufs : List (Nat × Nat × Option Addr)) (fr n : Nat) (xs : List Value) (off rl : Nat) (el : TypeId) (mm : Nat) (v : Value) (M : List As) : Prop :=
  ((d.fuse = 0 ∨ (pcs (D.per d) x.f n fr n).length < d.fuse) ∧ v = .int .i64 0 ∧ M = [pts p (pipO dp ap x), Dk dp (D.rdG d (pcs (D.per d) x.f n fr n).length), Ar ap cap (mx peak (sumB bufs + D.per d)) bufs, pts rl (.row (setAt xs off (wordVals (pws d x fr n))) el mm)]) ∨
  (∃ j xs', j < (pcs (D.per d) x.f n fr n).length ∧ d.fuse = j + 1 ∧ xs'.length = xs.length ∧ v = .int .i64 8 ∧ M = [pts p (pipO dp ap x), Dk dp (D.dead (D.rdG d j)), Ar ap cap (mx peak (sumB bufs + D.per d)) bufs, pts rl (.row xs' el mm)])
theorem ReadG_tr {p dp ap : Nat} {d : D} {x : X} {cap peak : Int} {bufs : List (Nat × Nat × Option Addr)} {rl off mm : Nat} {el : TypeId} {xs : List Value} (hok : Ok d) (hl : d.down = false) (hx : On d x) (ho : d.rd ≤ 4611686010000000000) (fr n m : Nat) (hn : 1 ≤ n) (hf : fr + n ≤ x.w) (hm : n ≤ m) (hxl : off + n ≤ xs.length) (hcap : (D.per d : Int) ≤ cap - sumB bufs) :
    Tr Tryz.prog 59 #[.pointer (some ⟨p, 0, none⟩), .int .i64 fr, .slice (some ⟨rl, off, none⟩) n m] [pts p (pipO dp ap x), Dk dp d, Ar ap cap peak bufs, pts rl (.row xs el mm)] fun v M =>
      readP p dp ap d x cap peak bufs fr n xs off rl el mm v M := fun H hs => by
  have hp := Ok.per_le hok
  have hsec := hok.sec
  have hroom : x.s * D.per d ≤ 1048576 * 512 := Nat.mul_le_mul (by have := hx.fit; omega) (by omega)
  have h4 := hx.room
  have hpl := pcs_len (D.per d) x.f n fr n
  apply W_stream_Pipe_Read.ok
  unfold W_stream_Pipe_Read
  refine (pieces_tr (dp := dp) (ap := ap) hok hx fr n hf).use hs [0, 1] rfl rfl ?_
  rintro _ _ H ⟨A4, m4, rfl, rfl⟩ hs
  simp only [HV]
  refine BIf_bnen rfl (BIf_beqn (by omega) ?_)
  simp only [NN_some, Addr.add_lit', Addr.add_zero, Nat.zero_add, Nat.add_zero]
  have rest : ∀ (b rb : Nat) (H : Hp), (∀ y ∈ bufs, y.1 ≠ b) → Sep [Ar ap cap (if sumB bufs + D.per d > peak then sumB bufs + D.per d else peak) (bufs ++ [(b, D.per d, some ⟨rb, 0, none⟩)]), pts rb (.row (zerosU64 (D.per d)) 60 (D.per d)), pts p (pipO dp ap x), Dk dp d, Own 173 3 A4 (pcs (D.per d) x.f n fr n).length m4 ((pcs (D.per d) x.f n fr n).flatMap pcV), pts rl (.row xs el mm)] H →
      W_stream_Pipe_Read.j5 (fun v H' => ∃ M, readP p dp ap d x cap peak bufs fr n xs off rl el mm v M ∧ Sep M H') (some ⟨p, 0, none⟩) (some ⟨rl, off, none⟩) n m A4 (pcs (D.per d) x.f n fr n).length m4 (0 : Int) (some ⟨b, 0, none⟩) H := fun b rb H hbm hs => by
    unfold W_stream_Pipe_Read.j5
    refine BIf_bnen rfl ?_
    simp only [NN_some, Addr.add_lit', Addr.add_zero, Nat.zero_add, Nat.add_zero]
    refine hs.ld 2 rfl rfl ?_
    simp only [HV]
    refine hs.nw fun vb H hs => ?_
    refine ⟨n + 1, ?_⟩
    have hz : zerosU64 (D.per d) = wordVals (List.replicate (D.per d) 0) := by
      unfold zerosU64
      rw [zeroRow_one]
      unfold wordVals
      rw [List.map_replicate]; rfl
    refine read_loop_g _ (p := p) (dp := dp) (ap := ap) (d := d) (x := x) (cap := cap) (peak := mx peak (sumB bufs + D.per d)) (bufs := bufs) (b := b) (rb := rb) (mb := D.per d) (rl := rl) (off0 := off) (fr0 := fr) (mm := mm) (vb := vb) (el := el) (xs := xs) hok hl hx hbm rfl (by omega) ho (fun H hs hgo => ?_) (fun j xs' H hj hfj hx' hs => ⟨_, .inr ⟨j, xs', hj, hfj, hx', rfl, rfl⟩, hs⟩) n fr n 0 0 _ m (List.replicate (D.per d) 0) H (by omega) (Nat.le_refl _) hf hm rfl (Nat.zero_le _) (by omega) rfl (by omega) (fun _ => rfl) (by simp) ?_
    · rw [pcs_sum _ _ (by omega) n fr n (Nat.le_refl _)] at hs
      exact ⟨_, .inl ⟨hgo, rfl, rfl⟩, hs⟩
    · rw [← hz, show setAt xs off (wordVals (pws d x fr 0)) = xs from setAt_nil xs off, rdG_zero]
      exact hs.re [2, 3, 0, 1, 4, 5, 6] rfl
  have fresh : ∀ {L : List As} {H : Hp} (b rb : Nat) (pk : Int), Sep L H → L[0]? = some (Ar ap cap pk (bufs ++ [(b, D.per d, some ⟨rb, 0, none⟩)])) → ∀ y ∈ bufs, y.1 ≠ b := fun b rb pk hs h0 y hy e => by
    obtain ⟨mp, cl, tk, hA⟩ := Sep.ar hs 0 h0
    have := hA.bn
    rw [List.map_append, List.nodup_append] at this
    exact this.2.2 y.1 (List.mem_map_of_mem hy) b (by simp) e
  refine ⟨?_, ?_⟩
  · refine hs.ld 0 rfl rfl ?_
    simp only [HV]
    refine HCalls.use (per_s hs 0 1 rfl rfl hok) ?_
    try simp only [HV]
    refine (Take_tr (a := ap) (cap := cap) (peak := peak) (bufs := bufs) (n := D.per d) (by omega) hcap).use hs [3] rfl rfl ?_
    rintro _ _ H ⟨b, rb, rfl, rfl⟩ hs
    simp only [HV]
    exact rest b rb H (fresh b rb _ hs rfl) (hs.re [0, 1, 2, 3, 4, 5] rfl)
  · refine HCalls.use (per_s hs 0 1 rfl rfl hok) ?_
    try simp only [HV]
    refine hs.ld 0 rfl rfl ?_
    simp only [HV]
    refine (Take_tr (a := ap) (cap := cap) (peak := peak) (bufs := bufs) (n := D.per d) (by omega) hcap).use hs [3] rfl rfl ?_
    rintro _ _ H ⟨b, rb, rfl, rfl⟩ hs
    simp only [HV]
    exact rest b rb H (fresh b rb _ hs rfl) (hs.re [0, 1, 2, 3, 4, 5] rfl)
end Go.Proofs.YtnknippcbecmeaaGreatDoor.Str
end
section
/- stream, whatever the fuse: Write. -/
namespace Go.Proofs.YtnknippcbecmeaaGreatDoor.Str
open Go Go.Hw Go.Form W Dsk Are
def pcsR (per f k fr n : Nat) : Nat := ((pcs per f k fr n).filter fun p => decide (p.2.2 < per)).length
def wpcG (d : D) (s : Nat) (at' : Nat) (src : List UInt64) : D := D.pt (if src.length < D.per d then D.mr d else d) s (setW (wordsB (d.now s)) at' src)
def wrsG (d : D) (x : X) : Nat → Nat → List UInt64 → D
  | 0, _, _ => d
  | k + 1, fr, src => if src = [] then d else wrsG (wpcG d (x.f + fr / D.per d) (fr % D.per d) (src.take (cN (D.per d) fr src.length))) x k (fr + cN (D.per d) fr src.length) (src.drop (cN (D.per d) fr src.length))
theorem wpc_sizeG (d : D) (s at' : Nat) (src : List UInt64) : (wpcG d s at' src).size = d.size ∧ (wpcG d s at' src).sec = d.sec := by
  unfold wpcG
  split <;> exact ⟨rfl, rfl⟩
theorem wpc_perG (d : D) (s at' : Nat) (src : List UInt64) : D.per (wpcG d s at' src) = D.per d := by unfold D.per; rw [(wpc_sizeG d s at' src).1]
theorem wpc_cntG (d : D) (s at' : Nat) (src : List UInt64) : (wpcG d s at' src).wr = d.wr + 1 ∧ (wpcG d s at' src).rd = d.rd + (if src.length < D.per d then 1 else 0) ∧ (wpcG d s at' src).sy = d.sy := by
  unfold wpcG
  split
  · exact ⟨rfl, rfl, rfl⟩
  · exact ⟨rfl, rfl, rfl⟩
theorem write_loop_g (K : Value → Hp → Prop) {p dp ap : Nat} {x : X} {cap peak : Int} {bufs : List (Nat × Nat × Option Addr)} {b rb mb : Nat} (hbm : ∀ y ∈ bufs, y.1 ≠ b) {vb : Nat} {R : As} {A4 : Option Addr} {n4 m4 : Nat} {all : List (Nat × Nat × Nat)} (hn4 : n4 = all.length) (hn40 : n4 ≤ 1000000000) {S : Int → Prop} (hS : ∀ j : Nat, j < x.s → S ((x.f + j : Nat) : Int)) {d0 : D} {R0 W0 : Nat}
    (hK8 : ∀ d' H, Dead S d0 d' → d0.fuse ≤ R0 + W0 → Sep [pts p (pipO dp ap x), Dk dp d', Ar ap cap peak bufs, R] H → K (.int .i64 8) H) :
    ∀ (k fr j : Nat) (d : D) (A : Option Addr) (m : Nat) (src ws : List UInt64) (H : Hp) (r w : Nat), Prog S d0 d r w → r + (pcsR (D.per d) x.f k fr src.length) = R0 → w + (pcs (D.per d) x.f k fr src.length).length = W0 → Ok d → On d x → d.rd + k ≤ 4611686010000000000 → d.wr + k ≤ 4611686010000000000 → src.length ≤ k → fr + src.length ≤ x.w → src.length ≤ m → all.drop j = pcs (D.per d) x.f k fr src.length → j ≤ n4 → (∀ H, R H → Cells H A (wordVals src)) → ws.length = D.per d →
      (∀ H, Prog S d0 (wrsG d x k fr src) R0 W0 → Sep [pts p (pipO dp ap x), Dk dp (wrsG d x k fr src), Ar ap cap peak bufs, R] H → K (.int .i64 0) H) →
      Sep [pts p (pipO dp ap x), Dk dp d, Ar ap cap peak (bufs ++ [(b, D.per d, some ⟨rb, 0, none⟩)]), pts rb (.row (wordVals ws) 60 mb), Own 173 3 A4 n4 m4 (all.flatMap pcV), R, pts vb (.row [.pointer (some ⟨b, 0, none⟩)] 164 1)] H →
      W_stream_Pipe_Write.l9 K (k + 1) (some ⟨p, 0, none⟩) A src.length m (some ⟨b, 0, none⟩) A4 n4 m4 (n4 : Int) (j : Int) (some ⟨ap, 0, none⟩) (some ⟨vb, 0, none⟩) 1 1 H
  | k, fr, j, d, A, m, [], ws, H, r, w, hpg, hR0, hW0, hok, hx, hrd, hwr, hn, hf, hm, hall, hj, hR, hws, hK, hs => by
    unfold W_stream_Pipe_Write.l9
    have e : pcs (D.per d) x.f k fr ([] : List UInt64).length = [] := by cases k <;> simp [pcs]
    have e2 : wrsG d x k fr [] = d := by cases k <;> simp [wrsG]
    have e3 : pcsR (D.per d) x.f k fr ([] : List UInt64).length = 0 := by unfold pcsR; rw [e]; rfl
    rw [e3] at hR0
    rw [e] at hW0
    rw [e] at hall
    have hjn : j = n4 := by
      have := congrArg List.length hall
      simp at this; omega
    subst hjn
    refine BIf_dneg (by omega) ?_
    refine (Give_oneD vb b (D.per d) (some ⟨rb, 0, none⟩) hbm).use hs [2, 6] rfl rfl ?_
    rintro _ _ H ⟨rfl, rfl⟩ hs
    refine hK H ?_ ?_
    · rw [e2, ← hR0, ← hW0]; exact hpg
    · rw [e2]
      exact hs.re [1, 2, 0, 5] rfl
  | 0, fr, j, d, A, m, w0 :: src0, ws, H, r, w, hpg, hR0, hW0, hok, hx, hrd, hwr, hn, hf, hm, hall, hj, hR, hws, hK, hs => by simp at hn
  | k + 1, fr, j, d, A, m, w0 :: src0, ws, H, r, w, hpg, hR0, hW0, hok, hx, hrd, hwr, hn, hf, hm, hall, hj, hR, hws, hK, hs => by
    generalize hsrc : w0 :: src0 = src at *
    have hne : src ≠ [] := by rw [← hsrc]; simp
    have hpos : 0 < src.length := by rw [← hsrc]; simp
    have hp := Ok.per_le hok
    have hsec := hok.sec
    have hroom : x.s * D.per d ≤ 1048576 * 512 := Nat.mul_le_mul (by have := hx.fit; omega) (by omega)
    have h4 := hx.room
    have hfit := hx.fit
    have e : pcs (D.per d) x.f (k + 1) fr src.length = (x.f + fr / D.per d, fr % D.per d, cN (D.per d) fr src.length) :: pcs (D.per d) x.f k (fr + cN (D.per d) fr src.length) (src.length - cN (D.per d) fr src.length) := by
      show (if src.length = 0 then [] else _) = _
      rw [if_neg (by omega)]
    have ew : wrsG d x (k + 1) fr src = wrsG (wpcG d (x.f + fr / D.per d) (fr % D.per d) (src.take (cN (D.per d) fr src.length))) x k (fr + cN (D.per d) fr src.length) (src.drop (cN (D.per d) fr src.length)) := by
      show (if src = [] then d else _) = _
      rw [if_neg hne]
    have hdn := hpg.down
    rw [e] at hall
    have hRs : pcsR (D.per d) x.f (k + 1) fr src.length = (if cN (D.per d) fr src.length < D.per d then 1 else 0) + pcsR (D.per d) x.f k (fr + cN (D.per d) fr src.length) (src.length - cN (D.per d) fr src.length) := by
      unfold pcsR
      rw [e, List.filter_cons]
      by_cases hq : cN (D.per d) fr src.length < D.per d
      · simp only [hq, decide_true, if_true, List.length_cons]; omega
      · simp only [hq, decide_false, Bool.false_eq_true, if_false]; omega
    rw [hRs] at hR0
    rw [e, List.length_cons] at hW0
    rw [ew] at hK
    have hjlt : j < all.length := by
      have := congrArg List.length hall
      simp at this; omega
    have hcle := cN_le (D.per d) fr src.length
    have hcpos := cN_pos (per := D.per d) (fr := fr) (n := src.length) (by omega) hpos
    have hcper := cN_per (per := D.per d) (fr := fr) (n := src.length) (by omega)
    have hmod := Nat.mod_lt fr (show 0 < D.per d by omega)
    have hdiv : fr / D.per d < x.s := by
      rw [Nat.div_lt_iff_lt_mul (by omega)]; omega
    have hget : all[j] = (x.f + fr / D.per d, fr % D.per d, cN (D.per d) fr src.length) := by
      have := List.drop_eq_getElem_cons hjlt
      rw [this] at hall
      exact (List.cons.inj hall).1
    have hrest : all.drop (j + 1) = pcs (D.per d) x.f k (fr + cN (D.per d) fr src.length) (src.length - cN (D.per d) fr src.length) := by
      have := List.drop_eq_getElem_cons hjlt
      rw [this] at hall
      exact (List.cons.inj hall).2
    generalize hcv : cN (D.per d) fr src.length = c at *
    have hflat : ∀ (l : List (Nat × Nat × Nat)) (i : Nat) (hi : i < l.length), ((l.flatMap pcV).drop (i * 3)).take 3 = pcV l[i] := by
      intro l
      induction l with
      | nil => intro i hi; simp at hi
      | cons y l ih =>
        intro i hi
        rw [List.flatMap_cons]
        cases i with
        | zero => simp [pcV]
        | succ i =>
          rw [show (i + 1) * 3 = (pcV y).length + i * 3 by simp [pcV]; omega, List.drop_append]
          simp only [Nat.add_sub_cancel_left, List.getElem_cons_succ]
          rw [List.drop_eq_nil_of_le (by omega), List.nil_append]
          exact ih i (by simpa using hi)
    have hsec1 : ((x.f + fr / D.per d : Nat) : Int) < (d.sec : Int) := Int.ofNat_lt.2 (by omega)
    have htk : (src.take c).length = c := by simp; omega
    have hwl : (wordsB (d.now ((x.f + fr / D.per d : Nat) : Int))).length = D.per d := by rw [wordsB_len, hok.now]; rfl
    unfold W_stream_Pipe_Write.l9
    refine BIf_dpos (by omega) ?_
    refine (hs.own 4 rfl).rdA (ys := pcV all[j]) rfl (by omega) (hflat all j hjlt) ?_
    rw [hget]
    refine hs.nw fun b2 H hs => ?_
    refine hs.stw 7 rfl rfl rfl rfl fun H hs => ?_
    have hs : Sep [pts p (pipO dp ap x), Dk dp d, Ar ap cap peak (bufs ++ [(b, D.per d, some ⟨rb, 0, none⟩)]), pts rb (.row (wordVals ws) 60 mb), Own 173 3 A4 n4 m4 (all.flatMap pcV), R, pts vb (.row [.pointer (some ⟨b, 0, none⟩)] 164 1),
      pts b2 (.obj (.cells #[.int .i64 ((x.f + fr / D.per d : Nat) : Int), .int .i64 ((fr % D.per d : Nat) : Int), .int .i64 (c : Int)] 173))] H := hs
    -- behind the load, if there was one
    have join : ∀ (d1 : D) (ws1 : List UInt64) (H : Hp), (d1 = if c < D.per d then D.mr d else d) → (c < D.per d → d.fuse ≠ 1) → ws1.length = D.per d → (c < D.per d → ws1 = wordsB (d.now ((x.f + fr / D.per d : Nat) : Int))) →
        Sep [pts p (pipO dp ap x), Dk dp d1, Ar ap cap peak (bufs ++ [(b, D.per d, some ⟨rb, 0, none⟩)]), pts rb (.row (wordVals ws1) 60 mb), Own 173 3 A4 n4 m4 (all.flatMap pcV), R, pts vb (.row [.pointer (some ⟨b, 0, none⟩)] 164 1),
          pts b2 (.obj (.cells #[.int .i64 ((x.f + fr / D.per d : Nat) : Int), .int .i64 ((fr % D.per d : Nat) : Int), .int .i64 (c : Int)] 173))] H →
        W_stream_Pipe_Write.j15 K (W_stream_Pipe_Write.l9 K (k + 1)) (some ⟨p, 0, none⟩) A src.length m (some ⟨b, 0, none⟩) ⟨b2, 0, none⟩ A4 n4 m4 (n4 : Int) (j : Int) (some ⟨ap, 0, none⟩) (some ⟨vb, 0, none⟩) 1 1 H := fun d1 ws1 H hd1 hnf hw1 hwe hs => by
      have hd1p : D.per d1 = D.per d ∧ Ok d1 ∧ d1.down = false ∧ d1.wr = d.wr ∧ d1.sec = d.sec ∧ Prog S d0 d1 (r + if c < D.per d then 1 else 0) w := by
        rw [hd1]
        by_cases hlt : c < D.per d
        · simp only [hlt, if_true]
          exact ⟨by trivial, Ok.mr hok, hdn, by trivial, by trivial, hpg.trans (Prog.mr S hok hdn (hnf hlt))⟩
        · simp only [hlt, if_false]
          exact ⟨by trivial, hok, hdn, by trivial, by trivial, hpg⟩
      obtain ⟨q1, q2, q3, q4, q5, q6⟩ := hd1p
      have hwset : setW ws1 (fr % D.per d) (src.take c) = setW (wordsB (d.now ((x.f + fr / D.per d : Nat) : Int))) (fr % D.per d) (src.take c) := by
        by_cases hlt : c < D.per d
        · rw [hwe hlt]
        · have h0 : fr % D.per d = 0 := by omega
          unfold setW
          rw [h0, htk, List.drop_eq_nil_of_le (by omega), List.drop_eq_nil_of_le (by omega)]
          simp
      have hdisk : D.pt d1 ((x.f + fr / D.per d : Nat) : Int) (setW ws1 (fr % D.per d) (src.take c)) = wpcG d (x.f + fr / D.per d) (fr % D.per d) (src.take c) := by
        unfold wpcG
        rw [hwset, hd1, htk]
      unfold W_stream_Pipe_Write.j15
      simp only [NN_some, Addr.add_lit', Addr.add_zero, Nat.zero_add, Nat.add_zero]
      refine QCall.use (Words_s hs 2 rfl (List.mem_append_right _ (List.mem_singleton.2 rfl))) ?_
      simp only [HV]
      refine hs.ld 7 rfl rfl ?_
      simp only [HV]
      refine slB_from rfl (by omega) ?_
      refine hs.ld 7 rfl rfl ?_
      simp only [HV]
      refine slB_to rfl (by omega) ?_
      rw [slA_at (by omega), Nat.zero_add]
      have hcell : ∀ {L : List As} {H : Hp}, Sep L H → L[5]? = some R → Cells H A (wordVals src) := fun hs h5 => by
        obtain ⟨H1, hR1, hle⟩ := hs.see 5 h5
        exact (hR H1 hR1).le hle
      refine hs.cp 3 (b := rb) (off := fr % D.per d) (n := D.per d - fr % D.per d) (k := c - 0) (xs := wordVals ws1) (e' := 60) (m := mb) (ys := wordVals (src.take c)) (by rfl) cell_u64 rfl ?_ ?_ (fun y hy => ?_) fun H hs => ?_
      · have hmin : Nat.min (c - 0) (D.per d - fr % D.per d) = c - 0 := Nat.min_eq_left (by omega)
        rw [hmin]
        have h1 := ((hcell hs rfl).shift (m := m) (l := 0) (by rw [wordVals_length]; omega)).take c
        rw [List.drop_zero, show (wordVals src).take c = wordVals (src.take c) by unfold wordVals; rw [List.map_take]] at h1
        exact src_of h1 (by rw [wordVals_length, htk]; omega)
      · rw [wordVals_length, wordVals_length, htk, hw1]; omega
      · obtain ⟨z, _, rfl⟩ := List.mem_map.1 hy; rfl
      simp only [HV]
      rw [setW_vals] at hs
      refine hs.ld 7 rfl rfl ?_
      simp only [HV]
      have hs : Sep [pts p (pipO dp ap x), Dk dp d1, Ar ap cap peak (bufs ++ [(b, D.per d, some ⟨rb, 0, none⟩)]), pts rb (.row (wordVals (setW ws1 (fr % D.per d) (src.take c))) 60 mb), Own 173 3 A4 n4 m4 (all.flatMap pcV), R, pts vb (.row [.pointer (some ⟨b, 0, none⟩)] 164 1),
          pts b2 (.obj (.cells #[.int .i64 ((x.f + fr / D.per d : Nat) : Int), .int .i64 ((fr % D.per d : Nat) : Int), .int .i64 (c : Int)] 173))] H := hs
      have hsl : (setW ws1 (fr % D.per d) (src.take c)).length = D.per d := by rw [setW_len (by omega)]; exact hw1
      refine (store_g (p := p) (ap := ap) (x := x) (cap := cap) (peak := peak) (b := b) (rb := rb) (m := mb) (d := d1) (ws := setW ws1 (fr % D.per d) (src.take c)) q2 q3 (by omega) ((x.f + fr / D.per d : Nat) : Int) (Int.natCast_nonneg _) (by rw [q5]; exact hsec1) (bufs := bufs ++ [(b, D.per d, some ⟨rb, 0, none⟩)]) (by rw [q1]; exact List.mem_append_right _ (List.mem_singleton.2 rfl)) (by rw [q1]; exact hsl)).use hs [0, 1, 2, 3] rfl rfl ?_
      rintro _ _ H (⟨hf1, rfl, rfl⟩ | ⟨hf1, rfl, rfl⟩) hs
      case inr =>
        simp only [HV]
        refine BIf_bnep (by decide) ?_
        refine (Give_oneD vb b (D.per d) (some ⟨rb, 0, none⟩) hbm).use hs [2, 6] rfl rfl ?_
        rintro _ _ H ⟨rfl, rfl⟩ hs
        refine hK8 _ H (q6.dead (Dead.one S q2 hf1)) ?_ (hs.re [1, 2, 0, 5] rfl)
        have z1 := q6.fuse; have z2 := q6.go
        omega
      have hpg2 := q6.trans (Prog.pt S q2 q3 hf1 (i := ((x.f + fr / D.per d : Nat) : Int)) (hS _ hdiv) (ws := setW ws1 (fr % D.per d) (src.take c)) (by rw [q1]; exact hsl))
      rw [hdisk] at hpg2
      rw [hdisk] at hs
      simp only [HV]
      refine BIf_bnen rfl ?_
      refine hs.ld 7 rfl rfl ?_
      simp only [HV]
      refine slB_from rfl (by omega) ?_
      rw [i64w (x := (j : Int) + 1) (by omega) (by omega)]
      have hcnt := wpc_cntG d (x.f + fr / D.per d) (fr % D.per d) (src.take c)
      have hsz := wpc_sizeG d (x.f + fr / D.per d) (fr % D.per d) (src.take c)
      have hper := wpc_perG d (x.f + fr / D.per d) (fr % D.per d) (src.take c)
      have hdl : (src.drop c).length = src.length - c := by simp
      rw [← hdl]
      refine write_loop_g K (rb := rb) (mb := mb) hbm hn4 hn40 hS hK8 k (fr + c) (j + 1) _ _ (m - c) (src.drop c) (setW ws1 (fr % D.per d) (src.take c)) H _ _ hpg2 (by rw [hper, hdl]; omega) (by rw [hper, hdl]; omega) hpg2.ok ⟨hx.w1, hx.s1, by rw [hsz.2]; exact hfit, by rw [hper]; exact h4⟩ (by rw [hcnt.2.1]; split <;> omega) (by rw [hcnt.1]; omega) (by omega) (by omega) (by omega) (by rw [hper, hdl]; exact hrest) (by omega) (fun H hRH => ?_) (by rw [hper]; exact hsl) hK ?_
      · have := (hR H hRH).shift (m := m) (l := c) (by rw [wordVals_length]; omega)
        rw [show (wordVals src).drop c = wordVals (src.drop c) by unfold wordVals; rw [List.map_drop]] at this
        exact this
      · rw [hper]
        exact hs.re [0, 1, 2, 3, 4, 5, 6] rfl
    simp only [NN_some, Addr.add_lit', Addr.add_zero, Nat.zero_add, Nat.add_zero]
    refine hs.ld 7 rfl rfl ?_
    simp only [HV]
    refine QCall.use (per_s hs 0 1 rfl rfl hok) ?_
    simp only [HV]
    by_cases hlt : c < D.per d
    · refine BIf_dpos (by omega) ?_
      refine hs.ld 7 rfl rfl ?_
      simp only [HV]
      refine (load_g (p := p) (ap := ap) (x := x) (cap := cap) (peak := peak) (b := b) (rb := rb) (m := mb) hok hdn (by omega) ((x.f + fr / D.per d : Nat) : Int) (Int.natCast_nonneg _) hsec1 (bufs := bufs ++ [(b, D.per d, some ⟨rb, 0, none⟩)]) (List.mem_append_right _ (List.mem_singleton.2 rfl)) (xs := wordVals ws) (by rw [wordVals_length]; exact hws)).use hs [0, 1, 2, 3] rfl rfl ?_
      rintro _ _ H (⟨hf1, rfl, rfl⟩ | ⟨hf1, rfl, rfl⟩) hs
      case inr =>
        simp only [HV]
        refine BIf_bnep (by decide) ?_
        refine (Give_oneD vb b (D.per d) (some ⟨rb, 0, none⟩) hbm).use hs [2, 6] rfl rfl ?_
        rintro _ _ H ⟨rfl, rfl⟩ hs
        refine hK8 _ H (hpg.dead (Dead.one S hok hf1)) ?_ (hs.re [1, 2, 0, 5] rfl)
        have z1 := hpg.fuse; have z2 := hpg.go
        rw [if_pos hlt] at hR0
        omega
      simp only [HV]
      refine BIf_bnen rfl ?_
      exact join (D.mr d) _ H (by rw [if_pos hlt]) (fun _ => hf1) hwl (fun _ => rfl) (hs.re [0, 1, 2, 3, 4, 5, 6, 7] rfl)
    · refine BIf_dneg (by omega) ?_
      exact join d ws H (by rw [if_neg hlt]) (fun h => absurd h hlt) hws (fun h => absurd h hlt) hs
def writeP (p dp ap : Nat) (d : D) (x : X) (cap peak : Int) (bufs : List (Nat × Nat × Option Addr)) (fr : Nat) (src : List UInt64) (R : As) (v : Value) (M : List As) : Prop :=
  (Prog (fun i => (x.f : Int) ≤ i ∧ i < ((x.f + x.s : Nat) : Int)) d (wrsG d x src.length fr src) (pcsR (D.per d) x.f src.length fr src.length) (pcs (D.per d) x.f src.length fr src.length).length ∧
    v = .int .i64 0 ∧ M = [pts p (pipO dp ap x), Dk dp (wrsG d x src.length fr src), Ar ap cap (mx peak (sumB bufs + D.per d)) bufs, R]) ∨
  (∃ d', Dead (fun i => (x.f : Int) ≤ i ∧ i < ((x.f + x.s : Nat) : Int)) d d' ∧ d.fuse ≤ pcsR (D.per d) x.f src.length fr src.length + (pcs (D.per d) x.f src.length fr src.length).length ∧
    v = .int .i64 8 ∧ M = [pts p (pipO dp ap x), Dk dp d', Ar ap cap (mx peak (sumB bufs + D.per d)) bufs, R])
theorem WriteG_tr {p dp ap : Nat} {d : D} {x : X} {cap peak : Int} {bufs : List (Nat × Nat × Option Addr)} {R : As} {A : Option Addr} {n m : Nat} {src : List UInt64} (hok : Ok d) (hl : d.down = false) (hx : On d x) (ho : d.rd ≤ 4611686000000000000 ∧ d.wr ≤ 4611686000000000000) (fr : Nat) (hn : n = src.length) (hn1 : 1 ≤ n) (hf : fr + n ≤ x.w) (hm : n ≤ m) (hcap : (D.per d : Int) ≤ cap - sumB bufs) (hR : ∀ H, R H → Cells H A (wordVals src)) :
    Tr Tryz.prog 46 #[.pointer (some ⟨p, 0, none⟩), .int .i64 fr, .slice A n m] [pts p (pipO dp ap x), Dk dp d, Ar ap cap peak bufs, R] fun v M =>
      writeP p dp ap d x cap peak bufs fr src R v M := fun H hs => by
  subst hn
  have hp := Ok.per_le hok
  have hsec := hok.sec
  have hroom : x.s * D.per d ≤ 1048576 * 512 := Nat.mul_le_mul (by have := hx.fit; omega) (by omega)
  have h4 := hx.room
  have hpl := pcs_len (D.per d) x.f src.length fr src.length
  apply W_stream_Pipe_Write.ok
  unfold W_stream_Pipe_Write
  refine (pieces_tr (dp := dp) (ap := ap) hok hx fr src.length hf).use hs [0, 1] rfl rfl ?_
  rintro _ _ H ⟨A4, m4, rfl, rfl⟩ hs
  simp only [HV]
  refine BIf_bnen rfl (BIf_beqn (by omega) ?_)
  simp only [NN_some, Addr.add_lit', Addr.add_zero, Nat.zero_add, Nat.add_zero]
  have rest : ∀ (b rb : Nat) (H : Hp), (∀ y ∈ bufs, y.1 ≠ b) → Sep [Ar ap cap (if sumB bufs + D.per d > peak then sumB bufs + D.per d else peak) (bufs ++ [(b, D.per d, some ⟨rb, 0, none⟩)]), pts rb (.row (zerosU64 (D.per d)) 60 (D.per d)), pts p (pipO dp ap x), Dk dp d, Own 173 3 A4 (pcs (D.per d) x.f src.length fr src.length).length m4 ((pcs (D.per d) x.f src.length fr src.length).flatMap pcV), R] H →
      W_stream_Pipe_Write.j5 (fun v H' => ∃ M, writeP p dp ap d x cap peak bufs fr src R v M ∧ Sep M H') (some ⟨p, 0, none⟩) A src.length m A4 (pcs (D.per d) x.f src.length fr src.length).length m4 (0 : Int) (some ⟨b, 0, none⟩) H := fun b rb H hbm hs => by
    unfold W_stream_Pipe_Write.j5
    refine BIf_bnen rfl ?_
    simp only [NN_some, Addr.add_lit', Addr.add_zero, Nat.zero_add, Nat.add_zero]
    refine hs.ld 2 rfl rfl ?_
    simp only [HV]
    refine hs.nw fun vb H hs => ?_
    refine ⟨src.length + 1, ?_⟩
    have hz : zerosU64 (D.per d) = wordVals (List.replicate (D.per d) 0) := by
      unfold zerosU64
      rw [zeroRow_one]
      unfold wordVals
      rw [List.map_replicate]; rfl
    refine write_loop_g _ (p := p) (dp := dp) (ap := ap) (x := x) (cap := cap) (peak := mx peak (sumB bufs + D.per d)) (bufs := bufs) (b := b) (rb := rb) (mb := D.per d) (vb := vb) (R := R) (all := pcs (D.per d) x.f src.length fr src.length) hbm rfl (by omega) (S := fun i => (x.f : Int) ≤ i ∧ i < ((x.f + x.s : Nat) : Int)) (fun j hj => ⟨by omega, by omega⟩) (d0 := d) (R0 := pcsR (D.per d) x.f src.length fr src.length) (W0 := (pcs (D.per d) x.f src.length fr src.length).length) (fun d' H hd hfu hs => ⟨_, .inr ⟨d', hd, hfu, rfl, rfl⟩, hs⟩) src.length fr 0 d A m src (List.replicate (D.per d) 0) H 0 0 (Prog.refl _ hok hl) (Nat.zero_add _) (Nat.zero_add _) hok hx (by omega) (by omega) (Nat.le_refl _) hf hm rfl (Nat.zero_le _) hR (by simp) (fun H hpg hs => ⟨_, .inl ⟨hpg, rfl, rfl⟩, hs⟩) ?_
    rw [← hz]
    exact hs.re [2, 3, 0, 1, 4, 5, 6] rfl
  have fresh : ∀ {L : List As} {H : Hp} (b rb : Nat) (pk : Int), Sep L H → L[0]? = some (Ar ap cap pk (bufs ++ [(b, D.per d, some ⟨rb, 0, none⟩)])) → ∀ y ∈ bufs, y.1 ≠ b := fun b rb pk hs h0 y hy e => by
    obtain ⟨mp, cl, tk, hA⟩ := Sep.ar hs 0 h0
    have := hA.bn
    rw [List.map_append, List.nodup_append] at this
    exact this.2.2 y.1 (List.mem_map_of_mem hy) b (by simp) e
  refine ⟨?_, ?_⟩
  · refine hs.ld 0 rfl rfl ?_
    simp only [HV]
    refine HCalls.use (per_s hs 0 1 rfl rfl hok) ?_
    try simp only [HV]
    refine (Take_tr (a := ap) (cap := cap) (peak := peak) (bufs := bufs) (n := D.per d) (by omega) hcap).use hs [3] rfl rfl ?_
    rintro _ _ H ⟨b, rb, rfl, rfl⟩ hs
    simp only [HV]
    exact rest b rb H (fresh b rb _ hs rfl) (hs.re [0, 1, 2, 3, 4, 5] rfl)
  · refine HCalls.use (per_s hs 0 1 rfl rfl hok) ?_
    try simp only [HV]
    refine hs.ld 0 rfl rfl ?_
    simp only [HV]
    refine (Take_tr (a := ap) (cap := cap) (peak := peak) (bufs := bufs) (n := D.per d) (by omega) hcap).use hs [3] rfl rfl ?_
    rintro _ _ H ⟨b, rb, rfl, rfl⟩ hs
    simp only [HV]
    exact rest b rb H (fresh b rb _ hs rfl) (hs.re [0, 1, 2, 3, 4, 5] rfl)
end Go.Proofs.YtnknippcbecmeaaGreatDoor.Str
end
section
/- Sums of bits: the plain laws. -/
namespace Go.Crc
open Go
abbrev W32 := BitVec 32
def poly : W32 := 0x82f63b78#32
def bit1 (v : W32) : W32 := (v >>> 1) ^^^ (if v.getLsbD 0 then poly else 0#32)
def it (f : W32 → W32) : Nat → W32 → W32
  | 0, v => v
  | n + 1, v => it f n (f v)
def Lin (f : W32 → W32) : Prop := ∀ x y, f (x ^^^ y) = f x ^^^ f y
theorem Lin.it {f : W32 → W32} (h : Lin f) : ∀ n, Lin (it f n)
  | 0 => fun _ _ => rfl
  | n + 1 => fun x y => by simp only [Crc.it]; rw [h, Lin.it h n]
theorem xor4 (a b c d : W32) : (a ^^^ b) ^^^ (c ^^^ d) = (a ^^^ c) ^^^ (b ^^^ d) := by
  rw [BitVec.xor_assoc, ← BitVec.xor_assoc b, BitVec.xor_comm b c, BitVec.xor_assoc c, ← BitVec.xor_assoc]
theorem lin_bit1 : Lin bit1 := fun x y => by
  unfold bit1
  rw [BitVec.ushiftRight_xor_distrib, BitVec.getLsbD_xor, xor4]
  congr 1
  cases x.getLsbD 0 <;> cases y.getLsbD 0 <;> simp
theorem bit1_shift {v : W32} (h : v.getLsbD 0 = false) : bit1 v = v >>> 1 := by unfold bit1; rw [h]; simp
theorem it_shift : ∀ (n : Nat) {v : W32}, (∀ i, i < n → v.getLsbD i = false) → it bit1 n v = v >>> n
  | 0, v, _ => by simp [it]
  | n + 1, v, h => by
    simp only [it]
    rw [bit1_shift (h 0 (by omega)), it_shift n (fun i hi => by rw [BitVec.getLsbD_ushiftRight]; exact h _ (by omega))]
    rw [← BitVec.shiftRight_add, Nat.add_comm]
theorem nibble (v : W32) : it bit1 4 v = (v >>> 4) ^^^ it bit1 4 (v &&& 15#32) := by
  have h1 : v = (v &&& ~~~15#32) ^^^ (v &&& 15#32) := by
    apply BitVec.eq_of_getLsbD_eq
    intro i hi
    simp only [BitVec.getLsbD_xor, BitVec.getLsbD_and, BitVec.getLsbD_not, hi, decide_true, Bool.true_and]
    cases v.getLsbD i <;> cases (15#32).getLsbD i <;> rfl
  have h2 : it bit1 4 (v &&& ~~~15#32) = (v &&& ~~~15#32) >>> 4 := it_shift 4 (fun i hi => by
    rw [BitVec.getLsbD_and]
    have : (~~~15#32).getLsbD i = false := by
      rcases (by omega : i = 0 ∨ i = 1 ∨ i = 2 ∨ i = 3) with rfl | rfl | rfl | rfl <;> decide
    rw [this, Bool.and_false])
  have h3 : (v &&& ~~~15#32) >>> 4 = v >>> 4 := by
    apply BitVec.eq_of_getLsbD_eq
    intro i hi
    simp only [BitVec.getLsbD_ushiftRight, BitVec.getLsbD_and, BitVec.getLsbD_not]
    by_cases h : 4 + i < 32
    · have : (15#32).getLsbD (4 + i) = false := by
        rw [show (15#32 : W32) = BitVec.ofNat 32 15 from rfl, BitVec.getLsbD_ofNat]
        have : Nat.testBit 15 (4 + i) = false := Nat.testBit_lt_two_pow (Nat.lt_of_lt_of_le (by decide : 15 < 2 ^ 4) (Nat.pow_le_pow_right (by decide) (by omega)))
        rw [this, Bool.and_false]
      simp only [this, h, decide_true, Bool.true_and, Bool.not_false, Bool.and_true]
    · have := BitVec.getLsbD_of_ge v (4 + i) (by omega)
      rw [this]; simp
  conv => lhs; rw [h1]
  rw [Lin.it lin_bit1 4, h2, h3]
def low (c : UInt8) : W32 := c.toBitVec.setWidth 32
def byte (v : W32) (c : UInt8) : W32 := it bit1 8 (v ^^^ low c)
def run (v : W32) (bs : List UInt8) : W32 := bs.foldl byte v
def more (s : W32) (bs : List UInt8) : W32 := ~~~ run (~~~ s) bs
def sum (bs : List UInt8) : W32 := more 0#32 bs
theorem run_append (v : W32) (a b : List UInt8) : run v (a ++ b) = run (run v a) b := List.foldl_append
theorem more_append (s : W32) (a b : List UInt8) : more s (a ++ b) = more (more s a) b := by
  unfold more; rw [run_append, BitVec.not_not]
end Go.Crc
end
section
/- Formulas of functions, printed by wip/tools/hwp.py. -/
namespace Go.Proofs.YtnknippcbecmeaaGreatDoor.W
open Go Go.Hw
theorem mixWcrc : Tryz.prog.follows .mixedOrders = true := by kernel_rfl
def W_crc_Counter_AddWords (p1 : Option Addr) (A1 : Option Addr) (n1 : Nat) (m1 : Nat) (H : Hp) (K : Value → Hp → Prop) : Prop :=
  HCalls Tryz.prog 114 #[.slice A1 n1 m1] H fun v1 H1 => DSl v1 fun A2 n2 m2 => HCalls Tryz.prog 133 #[.pointer p1, .slice A2 n2 m2] H1 fun v2 H2 => K (.tuple #[]) H2
theorem W_crc_Counter_AddWords.ok (p1 : Option Addr) (A1 : Option Addr) (n1 : Nat) (m1 : Nat) (H : Hp) (K : Value → Hp → Prop) (h : W_crc_Counter_AddWords p1 A1 n1 m1 H K) : HCalls Tryz.prog 95 #[.pointer p1, .slice A1 n1 m1] H K :=
  hcalls Tryz.func95 rfl (Nat.le_of_ble_eq_true rfl) (hw_safe (Λ := Cuts.none (fun _ => none)) mixWcrc _ _ _ _ _ (Eq.mp (by kernel_rfl) h) (obs_none _ _ _ _ _))
def W_crc_Counter_Sum (p1 : Option Addr) (H : Hp) (K : Value → Hp → Prop) : Prop :=
  NN p1 fun a1 => Ld H (a1.add 0) fun v1 => DI .u32 v1 fun x1 => K (.int .u32 x1) H
theorem W_crc_Counter_Sum.ok (p1 : Option Addr) (H : Hp) (K : Value → Hp → Prop) (h : W_crc_Counter_Sum p1 H K) : HCalls Tryz.prog 96 #[.pointer p1] H K :=
  hcalls Tryz.func96 rfl (Nat.le_of_ble_eq_true rfl) (hw_safe (Λ := Cuts.none (fun _ => none)) mixWcrc _ _ _ _ _ (Eq.mp (by kernel_rfl) h) (obs_none _ _ _ _ _))
def W_crc_Counter_Add (p1 : Option Addr) (A1 : Option Addr) (n1 : Nat) (m1 : Nat) (H : Hp) (K : Value → Hp → Prop) : Prop :=
  NN p1 fun a1 => Ld H (a1.add 0) fun v1 => DI .u32 v1 fun x1 => HCalls Tryz.prog 166 #[.int .u32 x1, .slice A1 n1 m1] H fun v2 H1 => DI .u32 v2 fun x2 => NN p1 fun a2 => St H1 ((a2.add 0).add 0) (.int .u32 x2) fun H2 => NN p1 fun a3 => Ld H2 (a3.add 1) fun v3 => DI .i64 v3 fun x3 => NN p1 fun a4 => St H2 ((a4.add 1).add 0) (.int .i64 (IntKind.i64.wrap (x3 + ((n1 : Nat) : Int)))) fun H3 => K (.tuple #[]) H3
theorem W_crc_Counter_Add.ok (p1 : Option Addr) (A1 : Option Addr) (n1 : Nat) (m1 : Nat) (H : Hp) (K : Value → Hp → Prop) (h : W_crc_Counter_Add p1 A1 n1 m1 H K) : HCalls Tryz.prog 133 #[.pointer p1, .slice A1 n1 m1] H K :=
  hcalls Tryz.func133 rfl (Nat.le_of_ble_eq_true rfl) (hw_safe (Λ := Cuts.none (fun _ => none)) mixWcrc _ _ _ _ _ (Eq.mp (by kernel_rfl) h) (obs_none _ _ _ _ _))
def W_crc_More.l4 (K : Value → Hp → Prop) : Nat → Addr → Int → Option Addr → Nat → Nat → Int → Int → Hp → Prop
  | 0, _, _, _, _, _, _, _, _ => False
  | k + 1, a1, x2, A2, n2, m2, x3, x4, H =>
    let R4 := W_crc_More.l4 K k
    BIf (decide (x4 < x3)) (ixI x4 n2 (NN A2 fun a2 => Ld H (a2.add (x4.toNat * 1)) fun v2 => DI .u8 v2 fun x5 => (0 ≤ (4 : Int) ∧ ixI (bAnd .u32 (bXor .u32 x2 (IntKind.u32.wrap x5)) (15 : Int)) 16 (Ld H (a1.add ((bAnd .u32 (bXor .u32 x2 (IntKind.u32.wrap x5)) (15 : Int)).toNat * 1)) fun v3 => DI .u32 v3 fun x6 => (0 ≤ (4 : Int) ∧ ixI (bAnd .u32 (bXor .u32 (shrI .u32 (bXor .u32 x2 (IntKind.u32.wrap x5)) (4 : Int)) x6) (15 : Int)) 16 (Ld H (a1.add ((bAnd .u32 (bXor .u32 (shrI .u32 (bXor .u32 x2 (IntKind.u32.wrap x5)) (4 : Int)) x6) (15 : Int)).toNat * 1)) fun v4 => DI .u32 v4 fun x7 => R4 a1 (bXor .u32 (shrI .u32 (bXor .u32 (shrI .u32 (bXor .u32 x2 (IntKind.u32.wrap x5)) (4 : Int)) x6) (4 : Int)) x7) A2 n2 m2 x3 (IntKind.i64.wrap (x4 + (1 : Int))) H)))))) (K (.int .u32 (bXor .u32 IntKind.u32.max x2)) H)
def W_crc_More (x1 : Int) (A1 : Option Addr) (n1 : Nat) (m1 : Nat) (H : Hp) (K : Value → Hp → Prop) : Prop :=
  HCalls Tryz.prog 196 #[] H fun v1 H1 => DA v1 fun y1 => Nw H1 (.obj (.cells #[.int .u32 0, .int .u32 0, .int .u32 0, .int .u32 0, .int .u32 0, .int .u32 0, .int .u32 0, .int .u32 0, .int .u32 0, .int .u32 0, .int .u32 0, .int .u32 0, .int .u32 0, .int .u32 0, .int .u32 0, .int .u32 0] 288)) fun b1 H2 => StA H2 (⟨b1, 0, none⟩ : Addr) y1 16 fun H3 => (∃ k, W_crc_More.l4 K k (⟨b1, 0, none⟩ : Addr) (bXor .u32 IntKind.u32.max x1) A1 n1 m1 ((n1 : Nat) : Int) (0 : Int) H3)
def W_crc_More.l4.L (K : Value → Hp → Prop) (k : Nat) : Mid := fun E D H =>
  eN E 5 fun a1 => eI E 6 .u32 fun x2 => DG (E.get? 12) fun w12 => DSl w12 fun A2 n2 m2 => eI E 13 .i64 fun x3 => eI E 14 .i64 fun x4 => DNilD D (W_crc_More.l4 K k a1 x2 A2 n2 m2 x3 x4 H)
def W_crc_More.Λ4 (_ : Value → Hp → Prop) (_R4 : Addr → Int → Option Addr → Nat → Nat → Int → Int → Hp → Prop) : Cuts := Cuts.none (fun _ => none)
def W_crc_More.Λ (K : Value → Hp → Prop) : Cuts := ⟨fun i => none, fun i => match Nat.beq i 4 with | true => some (fun E D H => ∃ k, W_crc_More.l4.L K k E D H) | false => none, (fun _ => none)⟩
theorem W_crc_More.ok (x1 : Int) (A1 : Option Addr) (n1 : Nat) (m1 : Nat) (H : Hp) (K : Value → Hp → Prop) (h : W_crc_More x1 A1 n1 m1 H K) : HCalls Tryz.prog 166 #[.int .u32 x1, .slice A1 n1 m1] H K :=
  hcalls Tryz.func166 rfl (Nat.le_of_ble_eq_true rfl) (hw_safe (Λ := (W_crc_More.Λ K)) mixWcrc _ _ _ _ _ (Eq.mp (by kernel_rfl) h) (obs_seq obs_region rfl (obs_seq obs_region rfl (obs_seq obs_region rfl (obs_seq (obs_seq obs_region rfl (obs_block (obs_loop rfl (fun E D H h => by
      refine Safe.loop' (W_crc_More.l4.L K) (fun E D H h => ?_) (fun k E D H h => ?_) E D H h
      · obtain ⟨w5, e5, g1⟩ := DG.out h; obtain ⟨pw5, rfl, g2⟩ := DP.out g1; obtain ⟨a1, rfl, g3⟩ := NN.out g2; obtain ⟨w6, e6, g4⟩ := DG.out g3; obtain ⟨x2, rfl, g5⟩ := DI.out g4; obtain ⟨w12, e12, g6⟩ := DG.out g5; obtain ⟨A2, n2, m2, rfl, g7⟩ := DSl.out g6; obtain ⟨w13, e13, g8⟩ := DG.out g7; obtain ⟨x3, rfl, g9⟩ := DI.out g8; obtain ⟨w14, e14, g10⟩ := DG.out g9; obtain ⟨x4, rfl, g11⟩ := DI.out g10; obtain ⟨rfl, h'⟩ := DNilD.out g11; exact h'
      · obtain ⟨a1, e5, g3⟩ := GN h
        obtain ⟨x2, e6, g5⟩ := GI g3
        obtain ⟨w12, e12, g6⟩ := DG.out g5
        obtain ⟨A2, n2, m2, rfl, g7⟩ := DSl.out g6
        obtain ⟨x3, e13, g9⟩ := GI g7; obtain ⟨x4, e14, g11⟩ := GI g9; obtain ⟨rfl, h'⟩ := DNilD.out g11
        exact (hw_safe (Λ := (W_crc_More.Λ4 K (W_crc_More.l4 K k))) mixWcrc _ _ [(5, .pointer (some a1)), (6, .int .u32 x2), (12, .slice A2 n2 m2), (13, .int .i64 x3), (14, .int .i64 x4)] [] H (Eq.mp (by kernel_rfl) h') (obs_seq obs_region rfl (obs_seq (obs_cond obs_skip obs_exit) rfl (obs_seq (obs_block (obs_seq obs_region rfl (obs_seq obs_region rfl (obs_seq obs_region rfl obs_region)))) rfl obs_region)))).weaken (EnvLe.cons e5 (EnvLe.cons e6 (EnvLe.cons e12 (EnvLe.cons e13 (EnvLe.cons e14 (EnvLe.nil _)))))) (Hp.le_refl _))))) rfl (obs_seq obs_region rfl obs_ret))))))
def W_crc_nibbles.l6 (K : Value → Hp → Prop) (R2 : Addr → Int → Hp → Prop) : Nat → Addr → Int → Int → Int → Int → Hp → Prop
  | 0, _, _, _, _, _, _ => False
  | k + 1, a2, x2, x3, x4, x5, H =>
    let R6 := W_crc_nibbles.l6 K R2 k
    BIf (decide (x5 < (4 : Int))) ((0 ≤ (1 : Int) ∧ R6 a2 x2 (bXor .u32 (shrI .u32 x3 (1 : Int)) (IntKind.u32.wrap ((2197175160 : Int) * (bAnd .u32 x3 (1 : Int))))) x4 (IntKind.i64.wrap (x5 + (1 : Int))) H)) (ixI x2 16 (St H ((a2.add (x2.toNat * 1)).add 0) (.int .u32 x3) fun H2 => R2 a2 (IntKind.i64.wrap (x4 + (1 : Int))) H2))
def W_crc_nibbles.l2 (K : Value → Hp → Prop) : Nat → Addr → Int → Hp → Prop
  | 0, _, _, _ => False
  | k + 1, a1, x1, H =>
    let R2 := W_crc_nibbles.l2 K k
    BIf (decide (x1 < (16 : Int))) ((∃ k, W_crc_nibbles.l6 K R2 k a1 x1 (IntKind.u32.wrap x1) x1 (0 : Int) H)) (LdA H a1 16 fun l1 => StA H a1 l1.toArray 16 fun H3 => LdA H3 a1 16 fun l2 => K (.agg l2.toArray) H3)
def W_crc_nibbles (H : Hp) (K : Value → Hp → Prop) : Prop :=
  Nw H (.obj (.cells #[.int .u32 0, .int .u32 0, .int .u32 0, .int .u32 0, .int .u32 0, .int .u32 0, .int .u32 0, .int .u32 0, .int .u32 0, .int .u32 0, .int .u32 0, .int .u32 0, .int .u32 0, .int .u32 0, .int .u32 0, .int .u32 0] 288)) fun b1 H1 => (∃ k, W_crc_nibbles.l2 K k (⟨b1, 0, none⟩ : Addr) (0 : Int) H1)
def W_crc_nibbles.l2.L (K : Value → Hp → Prop) (k : Nat) : Mid := fun E D H =>
  eN E 0 fun a1 => eI E 3 .i64 fun x1 => DNilD D (W_crc_nibbles.l2 K k a1 x1 H)
def W_crc_nibbles.l6.L (K : Value → Hp → Prop) (R2 : Addr → Int → Hp → Prop) (k : Nat) : Mid := fun E D H =>
  eN E 0 fun a2 => eI E 1 .i64 fun x2 => eI E 2 .u32 fun x3 => eI E 3 .i64 fun x4 => eI E 8 .i64 fun x5 => DNilD D (W_crc_nibbles.l6 K R2 k a2 x2 x3 x4 x5 H)
def W_crc_nibbles.Λ6 (_ : Value → Hp → Prop) (_R2 : Addr → Int → Hp → Prop) (_R6 : Addr → Int → Int → Int → Int → Hp → Prop) : Cuts := Cuts.none (fun _ => none)
def W_crc_nibbles.Λ2 (K : Value → Hp → Prop) (R2 : Addr → Int → Hp → Prop) : Cuts := ⟨fun i => none, fun i => match Nat.beq i 6 with | true => some (fun E D H => ∃ k, W_crc_nibbles.l6.L K R2 k E D H) | false => none, (fun _ => none)⟩
def W_crc_nibbles.Λ (K : Value → Hp → Prop) : Cuts := ⟨fun i => none, fun i => match Nat.beq i 2 with | true => some (fun E D H => ∃ k, W_crc_nibbles.l2.L K k E D H) | false => none, (fun _ => none)⟩
theorem W_crc_nibbles.ok (H : Hp) (K : Value → Hp → Prop) (h : W_crc_nibbles H K) : HCalls Tryz.prog 196 #[] H K :=
  hcalls Tryz.func196 rfl (Nat.le_of_ble_eq_true rfl) (hw_safe (Λ := (W_crc_nibbles.Λ K)) mixWcrc _ _ _ _ _ (Eq.mp (by kernel_rfl) h) (obs_seq obs_region rfl (obs_seq (obs_seq obs_region rfl (obs_block (obs_loop rfl (fun E D H h => by
      refine Safe.loop' (W_crc_nibbles.l2.L K) (fun E D H h => ?_) (fun k E D H h => ?_) E D H h
      · obtain ⟨w0, e0, g1⟩ := DG.out h; obtain ⟨pw0, rfl, g2⟩ := DP.out g1; obtain ⟨a1, rfl, g3⟩ := NN.out g2; obtain ⟨w3, e3, g4⟩ := DG.out g3; obtain ⟨x1, rfl, g5⟩ := DI.out g4; obtain ⟨rfl, h'⟩ := DNilD.out g5; exact h'
      · obtain ⟨a1, e0, g3⟩ := GN h
        obtain ⟨x1, e3, g5⟩ := GI g3
        obtain ⟨rfl, h'⟩ := DNilD.out g5
        exact (hw_safe (Λ := (W_crc_nibbles.Λ2 K (W_crc_nibbles.l2 K k))) mixWcrc _ _ [(0, .pointer (some a1)), (3, .int .i64 x1)] [] H (Eq.mp (by kernel_rfl) h') (obs_seq obs_region rfl (obs_seq (obs_cond obs_skip obs_exit) rfl (obs_seq (obs_block (obs_seq obs_region rfl (obs_seq obs_region rfl (obs_seq (obs_seq obs_region rfl (obs_block (obs_loop rfl (fun E D H h => by
            refine Safe.loop' (W_crc_nibbles.l6.L K (W_crc_nibbles.l2 K k)) (fun E D H h => ?_) (fun k E D H h => ?_) E D H h
            · obtain ⟨w0, e0, g1⟩ := DG.out h; obtain ⟨pw0, rfl, g2⟩ := DP.out g1; obtain ⟨a2, rfl, g3⟩ := NN.out g2; obtain ⟨w1, e1, g4⟩ := DG.out g3; obtain ⟨x2, rfl, g5⟩ := DI.out g4; obtain ⟨w2, e2, g6⟩ := DG.out g5; obtain ⟨x3, rfl, g7⟩ := DI.out g6; obtain ⟨w3, e3, g8⟩ := DG.out g7; obtain ⟨x4, rfl, g9⟩ := DI.out g8; obtain ⟨w8, e8, g10⟩ := DG.out g9; obtain ⟨x5, rfl, g11⟩ := DI.out g10; obtain ⟨rfl, h'⟩ := DNilD.out g11; exact h'
            · obtain ⟨a2, e0, g3⟩ := GN h
              obtain ⟨x2, e1, g5⟩ := GI g3; obtain ⟨x3, e2, g7⟩ := GI g5; obtain ⟨x4, e3, g9⟩ := GI g7; obtain ⟨x5, e8, g11⟩ := GI g9; obtain ⟨rfl, h'⟩ := DNilD.out g11
              exact (hw_safe (Λ := (W_crc_nibbles.Λ6 K (W_crc_nibbles.l2 K k) (W_crc_nibbles.l6 K (W_crc_nibbles.l2 K k) k))) mixWcrc _ _ [(0, .pointer (some a2)), (1, .int .i64 x2), (2, .int .u32 x3), (3, .int .i64 x4), (8, .int .i64 x5)] [] H (Eq.mp (by kernel_rfl) h') (obs_seq obs_region rfl (obs_seq (obs_cond obs_skip obs_exit) rfl (obs_seq (obs_block obs_region) rfl obs_region)))).weaken (EnvLe.cons e0 (EnvLe.cons e1 (EnvLe.cons e2 (EnvLe.cons e3 (EnvLe.cons e8 (EnvLe.nil _)))))) (Hp.le_refl _))))) rfl obs_region)))) rfl obs_region)))).weaken (EnvLe.cons e0 (EnvLe.cons e3 (EnvLe.nil _))) (Hp.le_refl _))))) rfl (obs_seq obs_region rfl obs_ret))))
end Go.Proofs.YtnknippcbecmeaaGreatDoor.W
end
section
/- Formulas of functions, printed by wip/tools/hwp.py. -/
namespace Go.Proofs.YtnknippcbecmeaaGreatDoor.W
open Go Go.Hw
theorem mixWabacistref16 : Tryz.prog.follows .mixedOrders = true := by kernel_rfl
def W_abacistref16_OfWords (A1 : Option Addr) (n1 : Nat) (m1 : Nat) (H : Hp) (K : Value → Hp → Prop) : Prop :=
  HCalls Tryz.prog 50 #[.slice A1 n1 m1] H fun v1 H1 => DS v1 fun s1 => HCalls Tryz.prog 49 #[.string s1] H1 fun v2 H2 => DI .u32 v2 fun x1 => K (.int .u32 x1) H2
theorem W_abacistref16_OfWords.ok (A1 : Option Addr) (n1 : Nat) (m1 : Nat) (H : Hp) (K : Value → Hp → Prop) (h : W_abacistref16_OfWords A1 n1 m1 H K) : HCalls Tryz.prog 10 #[.slice A1 n1 m1] H K :=
  hcalls Tryz.func10 rfl (Nat.le_of_ble_eq_true rfl) (hw_safe (Λ := Cuts.none (fun _ => none)) mixWabacistref16 _ _ _ _ _ (Eq.mp (by kernel_rfl) h) (obs_none _ _ _ _ _))
def W_abacistref16_Of.l7 (K : Value → Hp → Prop) (R3 : ByteArray → Int → Int → Hp → Prop) : Nat → ByteArray → Int → Int → Int → Int → Hp → Prop
  | 0, _, _, _, _, _, _ => False
  | k + 1, s3, x4, x5, x6, x7, H =>
    let R7 := W_abacistref16_Of.l7 K R3 k
    BIf (decide (x7 < (8 : Int))) (((2 : Int) ≠ 0 ∧ IntKind.u32 = IntKind.u32 ∧ ((2 : Int) ≠ 0 ∧ IntKind.u32 = IntKind.u32 ∧ ((2 : Int) ≠ 0 ∧ IntKind.u8 = IntKind.u8 ∧ BIf ((Int.tmod (bXor .u32 x4 (IntKind.u32.wrap x6)) (2 : Int)) == (1 : Int)) (R7 s3 (bXor .u32 (IntKind.u32.wrap (Int.tdiv x4 (2 : Int))) (2197175160 : Int)) x5 (IntKind.u8.wrap (Int.tdiv x6 (2 : Int))) (IntKind.i64.wrap (x7 + (1 : Int))) H) (R7 s3 (IntKind.u32.wrap (Int.tdiv x4 (2 : Int))) x5 (IntKind.u8.wrap (Int.tdiv x6 (2 : Int))) (IntKind.i64.wrap (x7 + (1 : Int))) H))))) (R3 s3 x4 (IntKind.i64.wrap (x5 + (1 : Int))) H)
def W_abacistref16_Of.l3 (K : Value → Hp → Prop) : Nat → ByteArray → Int → Int → Hp → Prop
  | 0, _, _, _, _ => False
  | k + 1, s2, x1, x2, H =>
    let R3 := W_abacistref16_Of.l3 K k
    BIf (decide (x2 < ((s2.size : Nat) : Int))) ((0 ≤ x2 ∧ ixB s2 x2.toNat fun x3 => (∃ k, W_abacistref16_Of.l7 K R3 k s2 x1 x2 x3 (0 : Int) H))) (K (.int .u32 (bXor .u32 x1 (4294967295 : Int))) H)
def W_abacistref16_Of (s1 : ByteArray) (H : Hp) (K : Value → Hp → Prop) : Prop :=
  (∃ k, W_abacistref16_Of.l3 K k s1 (4294967295 : Int) (0 : Int) H)
def W_abacistref16_Of.l3.L (K : Value → Hp → Prop) (k : Nat) : Mid := fun E D H =>
  DG (E.get? 0) fun w0 => DS w0 fun s2 => eI E 3 .u32 fun x1 => eI E 4 .i64 fun x2 => DNilD D (W_abacistref16_Of.l3 K k s2 x1 x2 H)
def W_abacistref16_Of.l7.L (K : Value → Hp → Prop) (R3 : ByteArray → Int → Int → Hp → Prop) (k : Nat) : Mid := fun E D H =>
  DG (E.get? 0) fun w0 => DS w0 fun s3 => eI E 3 .u32 fun x4 => eI E 4 .i64 fun x5 => eI E 5 .u8 fun x6 => eI E 6 .i64 fun x7 => DNilD D (W_abacistref16_Of.l7 K R3 k s3 x4 x5 x6 x7 H)
def W_abacistref16_Of.Λ7 (_ : Value → Hp → Prop) (_R3 : ByteArray → Int → Int → Hp → Prop) (_R7 : ByteArray → Int → Int → Int → Int → Hp → Prop) : Cuts := Cuts.none (fun _ => none)
def W_abacistref16_Of.Λ3 (K : Value → Hp → Prop) (R3 : ByteArray → Int → Int → Hp → Prop) : Cuts := ⟨fun i => none, fun i => match Nat.beq i 7 with | true => some (fun E D H => ∃ k, W_abacistref16_Of.l7.L K R3 k E D H) | false => none, (fun _ => none)⟩
def W_abacistref16_Of.Λ (K : Value → Hp → Prop) : Cuts := ⟨fun i => none, fun i => match Nat.beq i 3 with | true => some (fun E D H => ∃ k, W_abacistref16_Of.l3.L K k E D H) | false => none, (fun _ => none)⟩
theorem W_abacistref16_Of.ok (s1 : ByteArray) (H : Hp) (K : Value → Hp → Prop) (h : W_abacistref16_Of s1 H K) : HCalls Tryz.prog 49 #[.string s1] H K :=
  hcalls Tryz.func49 rfl (Nat.le_of_ble_eq_true rfl) (hw_safe (Λ := (W_abacistref16_Of.Λ K)) mixWabacistref16 _ _ _ _ _ (Eq.mp (by kernel_rfl) h) (obs_seq obs_region rfl (obs_seq obs_region rfl (obs_seq (obs_seq obs_region rfl (obs_block (obs_loop rfl (fun E D H h => by
      refine Safe.loop' (W_abacistref16_Of.l3.L K) (fun E D H h => ?_) (fun k E D H h => ?_) E D H h
      · obtain ⟨w0, e0, g1⟩ := DG.out h; obtain ⟨s2, rfl, g2⟩ := DS.out g1; obtain ⟨w3, e3, g3⟩ := DG.out g2; obtain ⟨x1, rfl, g4⟩ := DI.out g3; obtain ⟨w4, e4, g5⟩ := DG.out g4; obtain ⟨x2, rfl, g6⟩ := DI.out g5; obtain ⟨rfl, h'⟩ := DNilD.out g6; exact h'
      · obtain ⟨w0, e0, g1⟩ := DG.out h
        obtain ⟨s2, rfl, g2⟩ := DS.out g1
        obtain ⟨x1, e3, g4⟩ := GI g2; obtain ⟨x2, e4, g6⟩ := GI g4; obtain ⟨rfl, h'⟩ := DNilD.out g6
        exact (hw_safe (Λ := (W_abacistref16_Of.Λ3 K (W_abacistref16_Of.l3 K k))) mixWabacistref16 _ _ [(0, .string s2), (3, .int .u32 x1), (4, .int .i64 x2)] [] H (Eq.mp (by kernel_rfl) h') (obs_seq (obs_seq obs_region rfl (obs_cond obs_skip obs_exit)) rfl (obs_seq (obs_block (obs_seq obs_region rfl (obs_seq obs_region rfl (obs_block (obs_loop rfl (fun E D H h => by
            refine Safe.loop' (W_abacistref16_Of.l7.L K (W_abacistref16_Of.l3 K k)) (fun E D H h => ?_) (fun k E D H h => ?_) E D H h
            · obtain ⟨w0, e0, g1⟩ := DG.out h; obtain ⟨s3, rfl, g2⟩ := DS.out g1; obtain ⟨w3, e3, g3⟩ := DG.out g2; obtain ⟨x4, rfl, g4⟩ := DI.out g3; obtain ⟨w4, e4, g5⟩ := DG.out g4; obtain ⟨x5, rfl, g6⟩ := DI.out g5; obtain ⟨w5, e5, g7⟩ := DG.out g6; obtain ⟨x6, rfl, g8⟩ := DI.out g7; obtain ⟨w6, e6, g9⟩ := DG.out g8; obtain ⟨x7, rfl, g10⟩ := DI.out g9; obtain ⟨rfl, h'⟩ := DNilD.out g10; exact h'
            · obtain ⟨w0, e0, g1⟩ := DG.out h
              obtain ⟨s3, rfl, g2⟩ := DS.out g1
              obtain ⟨x4, e3, g4⟩ := GI g2; obtain ⟨x5, e4, g6⟩ := GI g4; obtain ⟨x6, e5, g8⟩ := GI g6; obtain ⟨x7, e6, g10⟩ := GI g8; obtain ⟨rfl, h'⟩ := DNilD.out g10
              exact (hw_safe (Λ := (W_abacistref16_Of.Λ7 K (W_abacistref16_Of.l3 K k) (W_abacistref16_Of.l7 K (W_abacistref16_Of.l3 K k) k))) mixWabacistref16 _ _ [(0, .string s3), (3, .int .u32 x4), (4, .int .i64 x5), (5, .int .u8 x6), (6, .int .i64 x7)] [] H (Eq.mp (by kernel_rfl) h') (obs_seq (obs_seq obs_region rfl (obs_cond obs_skip obs_exit)) rfl (obs_seq (obs_block (obs_seq obs_region rfl (obs_seq obs_region rfl (obs_seq obs_region rfl (obs_seq obs_region rfl (obs_cond obs_region obs_skip)))))) rfl obs_region))).weaken (EnvLe.cons e0 (EnvLe.cons e3 (EnvLe.cons e4 (EnvLe.cons e5 (EnvLe.cons e6 (EnvLe.nil _)))))) (Hp.le_refl _))))))) rfl obs_region))).weaken (EnvLe.cons e0 (EnvLe.cons e3 (EnvLe.cons e4 (EnvLe.nil _)))) (Hp.le_refl _))))) rfl (obs_seq obs_region rfl obs_ret)))))
end Go.Proofs.YtnknippcbecmeaaGreatDoor.W
end
section
/- crc, codec's forms and the document's answers: what they answer. -/
namespace Go.Proofs.YtnknippcbecmeaaGreatDoor.CrcP
open Go Go.Hw Go.Crc W
theorem bit1_int (v : W32) : bXor .u32 (shrI .u32 (v.toNat : Int) 1) (IntKind.u32.wrap ((2197175160 : Int) * bAnd .u32 (v.toNat : Int) 1)) = ((bit1 v).toNat : Int) := by
  rw [shr32 v (i := 1) (n := 1) rfl (by omega), show (1 : Int) = ((1#32 : W32).toNat : Int) from rfl, and32]
  have : IntKind.u32.wrap ((2197175160 : Int) * ((v &&& 1#32).toNat : Int)) = ((if v.getLsbD 0 then poly else 0#32).toNat : Int) := by
    have h1 : v &&& 1#32 = if v.getLsbD 0 then 1#32 else 0#32 := by
      apply BitVec.eq_of_getLsbD_eq
      intro i hi
      rw [BitVec.getLsbD_and]
      cases i with
      | zero => cases h : v.getLsbD 0 <;> simp
      | succ i => cases h : v.getLsbD 0 <;> simp
    rw [h1]
    cases v.getLsbD 0 <;> decide
  rw [this, xor32]
  rfl
def tbl (i : Nat) : Value := .int .u32 ((it bit1 4 (BitVec.ofNat 32 i)).toNat : Int)
theorem nib_inner (K : Value → Hp → Prop) (R2 : Addr → Int → Hp → Prop) (b : Nat) (c : Array Value) (e : TypeId) (hc : c.size = 16) (H : Hp) (hb : H b = some (.obj (.cells c e))) (x2 : Nat) (hx : x2 < 16) (x4 : Int) (w : W32)
    (k : R2 ⟨b, 0, none⟩ (IntKind.i64.wrap (x4 + 1)) (H.set b (.obj (.cells (c.setIfInBounds x2 (.int .u32 (w.toNat : Int))) e)))) :
    ∀ (d j : Nat) (v : W32), j + d = 4 → it bit1 d v = w → W_crc_nibbles.l6 K R2 (d + 1) ⟨b, 0, none⟩ x2 (v.toNat : Int) x4 j H
  | 0, j, v, hj, hv => by
    unfold W_crc_nibbles.l6
    refine BIf_dneg (by omega) ?_
    refine ⟨by omega, by omega, ?_⟩
    simp only [Addr.add_lit', Int.toNat_natCast, Nat.mul_one, Nat.zero_add, Nat.add_zero]
    refine St_obj hb (by omega) rfl ?_
    obtain rfl : v = w := hv
    exact k
  | d + 1, j, v, hj, hv => by
    unfold W_crc_nibbles.l6
    refine BIf_dpos (by omega) ?_
    refine ⟨by omega, ?_⟩
    rw [bit1_int, i64w (by omega) (by omega)]
    exact nib_inner K R2 b c e hc H hb x2 hx x4 w k d (j + 1) (bit1 v) (by omega) hv
theorem nib_outer (K : Value → Hp → Prop) (b : Nat) (e : TypeId) (H0 : Hp) (hn : H0 b = none)
    (k : ∀ H, H0.le H → K (.agg ((List.range 16).map tbl).toArray) H) : ∀ (d i : Nat) (H : Hp), i + d = 16 → H = H0.set b (.obj (.cells (filled tbl (.int .u32 0) 16 i) e)) → W_crc_nibbles.l2 K (d + 1) ⟨b, 0, none⟩ (i : Int) H
  | 0, i, H, hi, hH => by
    obtain rfl : i = 16 := by omega
    unfold W_crc_nibbles.l2
    refine BIf_dneg (by omega) ?_
    have hb : H b = some (.obj (.cells (filled tbl (.int .u32 0) 16 16) e)) := by rw [hH]; exact Hp.set_same _ _ _
    refine LdA_obj hb (filled_size _ _ _ _) ?_
    refine StA_obj hb (filled_size _ _ _ _) (by simp [filled_size]) ?_ ?_
    · rw [filled_all]; intro v hv; simp at hv; obtain ⟨a, _, rfl⟩ := hv; rfl
    refine LdA_obj (Hp.set_same _ _ _) (by simp [filled_size]) ?_
    rw [Array.toArray_toList, filled_all]
    refine k _ ?_
    rw [hH, Hp.set_set]
    exact Hp.le_set hn
  | d + 1, i, H, hi, hH => by
    unfold W_crc_nibbles.l2
    refine BIf_dpos (by omega) ?_
    refine ⟨5, ?_⟩
    have hb : H b = some (.obj (.cells (filled tbl (.int .u32 0) 16 i) e)) := by rw [hH]; exact Hp.set_same _ _ _
    rw [show IntKind.u32.wrap (i : Int) = ((BitVec.ofNat 32 i).toNat : Int) by rw [BitVec.toNat_ofNat, Nat.mod_eq_of_lt (by omega)]; exact u32n (by omega)]
    refine nib_inner K _ b _ e (filled_size _ _ _ _) H hb i (by omega) i _ ?_ 4 0 _ rfl rfl
    rw [i64w (by omega) (by omega)]
    refine nib_outer K b e H0 hn k d (i + 1) _ (by omega) ?_
    rw [hH, Hp.set_set]
    congr 3
    exact filled_set tbl (.int .u32 0) (by omega)
theorem nibbles_ok (H : Hp) : HCalls Tryz.prog 196 #[] H (RetE (.agg ((List.range 16).map tbl).toArray) H) := by
  apply HCalls.ret
  apply W_crc_nibbles.ok
  unfold W_crc_nibbles
  intro b hb
  refine ⟨17, ?_⟩
  exact nib_outer _ b _ H hb (fun H' hl => ⟨rfl, hl⟩) 16 0 _ rfl rfl
theorem nib_step (v : W32) : (v >>> 4) ^^^ it bit1 4 (v &&& 15#32) = it bit1 4 v := (nibble v).symm
theorem and15 (v : W32) : bAnd .u32 (v.toNat : Int) 15 = ((v &&& 15#32).toNat : Int) := and32 v 15#32
theorem and15_lt (v : W32) : (v &&& 15#32).toNat < 16 := by
  rw [BitVec.toNat_and]
  exact Nat.lt_of_le_of_lt Nat.and_le_right (by decide)
theorem tbl_get (v : W32) : (((List.range 16).map tbl).toArray)[(v &&& 15#32).toNat]? = some (.int .u32 ((it bit1 4 (v &&& 15#32)).toNat : Int)) := by
  have h := and15_lt v
  simp only [List.getElem?_toArray, List.getElem?_map, List.getElem?_range h, Option.map_some]
  unfold tbl
  rw [BitVec.ofNat_toNat, BitVec.setWidth_eq]
theorem More_loop (K : Value → Hp → Prop) (t : Nat) (e : TypeId) (A : Option Addr) (n m : Nat) (bs : List UInt8) (hn : n = bs.length) (hm : n ≤ 9223372036854775807) (H : Hp) (ht : H t = some (.obj (.cells ((List.range 16).map tbl).toArray e))) (hb : Cells H A (byteVals bs)) (w : W32)
    (k : K (.int .u32 ((~~~ w).toNat : Int)) H) : ∀ (d j : Nat) (v : W32), j + d = n → run v (bs.drop j) = w → W_crc_More.l4 K (d + 1) ⟨t, 0, none⟩ (v.toNat : Int) A n m n (j : Int) H
  | 0, j, v, hj, hv => by
    unfold W_crc_More.l4
    refine BIf_dneg (by omega) ?_
    rw [List.drop_eq_nil_of_le (by omega)] at hv
    obtain rfl : v = w := hv
    rw [show IntKind.u32.max = ((BitVec.allOnes 32).toNat : Int) from rfl, xor32, BitVec.allOnes_xor]
    exact k
  | d + 1, j, v, hj, hv => by
    unfold W_crc_More.l4
    refine BIf_dpos (by omega) ?_
    have hlt : j < bs.length := by omega
    refine hb.read (i := j) (v := .int .u8 (bs[j].toNat : Int)) (by rw [byteVals_get, List.getElem?_eq_getElem hlt]; rfl) rfl (by rw [byteVals_length]; omega) ?_
    simp only [HV]
    refine ⟨by omega, ?_⟩
    rw [show (bs[j].toNat : Int) = ((bs[j].toBitVec).toNat : Int) from rfl, low8, xor32, and15]
    refine ⟨by omega, by have := and15_lt (v ^^^ BitVec.setWidth 32 bs[j].toBitVec); omega, ?_⟩
    simp only [Addr.add_lit', Int.toNat_natCast, Nat.mul_one, Nat.zero_add]
    refine Ld_obj ht (tbl_get _) ?_
    simp only [HV]
    refine ⟨by omega, ?_⟩
    rw [shr32 _ (i := 4) (n := 4) rfl (by omega), xor32, nib_step, and15]
    refine ⟨by omega, by have := and15_lt (it bit1 4 (v ^^^ BitVec.setWidth 32 bs[j].toBitVec)); omega, ?_⟩
    simp only [Addr.add_lit', Int.toNat_natCast, Nat.mul_one, Nat.zero_add]
    refine Ld_obj ht (tbl_get _) ?_
    simp only [HV]
    rw [shr32 _ (i := 4) (n := 4) rfl (by omega), xor32, nib_step, i64w (by omega) (by omega)]
    refine More_loop K t e A n m bs hn hm H ht hb w k d (j + 1) _ (by omega) ?_
    rw [List.drop_eq_getElem_cons hlt] at hv
    exact hv
theorem More_ok (s : W32) (A : Option Addr) (n m : Nat) (bs : List UInt8) (hn : n = bs.length) (hm : n ≤ 9223372036854775807) (H : Hp) (hb : Cells H A (byteVals bs)) :
    HCalls Tryz.prog 166 #[.int .u32 (s.toNat : Int), .slice A n m] H (RetE (.int .u32 ((more s bs).toNat : Int)) H) := by
  apply HCalls.ret
  apply W_crc_More.ok
  unfold W_crc_More
  refine HCalls.use (nibbles_ok H) ?_
  try simp only [HV]
  intro b hbn
  refine StA_obj (Hp.set_same _ _ _) rfl (by simp) ?_ ?_
  · intro v hv; simp at hv; obtain ⟨a, _, rfl⟩ := hv; rfl
  rw [Hp.set_set]
  refine ⟨n + 1, ?_⟩
  rw [show IntKind.u32.max = ((BitVec.allOnes 32).toNat : Int) from rfl, xor32, BitVec.allOnes_xor]
  refine More_loop _ b _ A n m bs hn hm _ (Hp.set_same _ _ _) (hb.le (Hp.le_set hbn)) (run (~~~ s) bs) ?_ n 0 _ (by omega) rfl
  exact ⟨rfl, Hp.le_set hbn⟩
end Go.Proofs.YtnknippcbecmeaaGreatDoor.CrcP
end
section
/- The document's sums; the laws CrcTells and CrcJoins' parts. -/
namespace Go.Proofs.YtnknippcbecmeaaGreatDoor.CrcP
open Go Go.Hw Go.Crc Go.Form W
theorem low_shr (c : BitVec 8) : (c >>> 1).setWidth 32 = (c.setWidth 32) >>> 1 := by
  apply BitVec.eq_of_getLsbD_eq
  intro i hi
  simp only [BitVec.getLsbD_setWidth, BitVec.getLsbD_ushiftRight]
  by_cases h : 1 + i < 32
  · simp [hi, h]
  · have := BitVec.getLsbD_of_ge c (1 + i) (by omega)
    simp [this]
theorem xor3 (a b c : W32) : (a ^^^ b) ^^^ c = (a ^^^ c) ^^^ b := by rw [BitVec.xor_assoc, BitVec.xor_comm b c, BitVec.xor_assoc]
theorem ref_step (v : W32) (c : BitVec 8) : ((v >>> 1) ^^^ (if (v ^^^ c.setWidth 32).getLsbD 0 then poly else 0#32)) ^^^ (c >>> 1).setWidth 32 = bit1 (v ^^^ c.setWidth 32) := by
  unfold bit1
  rw [BitVec.ushiftRight_xor_distrib, low_shr]
  exact xor3 _ _ _
theorem rOf_inner (K : Value → Hp → Prop) (R3 : ByteArray → Int → Int → Hp → Prop) (s : ByteArray) (x5 : Int) (H : Hp) (w : W32) (k : R3 s (w.toNat : Int) (IntKind.i64.wrap (x5 + 1)) H) : ∀ (d j : Nat) (v : W32) (c : BitVec 8), j + d = 8 → c >>> d = 0#8 → it bit1 d (v ^^^ c.setWidth 32) = w →
      W_abacistref16_Of.l7 K R3 (d + 1) s (v.toNat : Int) x5 (c.toNat : Int) (j : Int) H
  | 0, j, v, c, hj, hc, hv => by
    unfold W_abacistref16_Of.l7
    refine BIf_dneg (by omega) ?_
    have hc' : c = 0#8 := by simpa using hc
    subst hc'
    obtain rfl : v = w := by simpa [it] using hv
    exact k
  | d + 1, j, v, c, hj, hc, hv => by
    unfold W_abacistref16_Of.l7
    refine BIf_dpos (by omega) ?_
    rw [low8, xor32, mod32, div32, div8, i64w (by omega) (by omega)]
    refine ⟨by omega, rfl, by omega, rfl, by omega, rfl, ?_⟩
    have hc' : (c >>> 1) >>> d = 0#8 := by rw [← BitVec.shiftRight_add, Nat.add_comm]; exact hc
    have hs := ref_step v c
    refine BIf_intro (fun h => ?_) (fun h => ?_)
    · rw [h] at hs
      rw [show (2197175160 : Int) = (poly.toNat : Int) from rfl, xor32]
      exact rOf_inner K R3 s x5 H w k d (j + 1) _ _ (by omega) hc' (by rw [show it bit1 (d + 1) (v ^^^ BitVec.setWidth 32 c) = it bit1 d (bit1 (v ^^^ BitVec.setWidth 32 c)) from rfl, ← hs] at hv; simpa using hv)
    · rw [h] at hs
      exact rOf_inner K R3 s x5 H w k d (j + 1) _ _ (by omega) hc' (by rw [show it bit1 (d + 1) (v ^^^ BitVec.setWidth 32 c) = it bit1 d (bit1 (v ^^^ BitVec.setWidth 32 c)) from rfl, ← hs] at hv; simpa using hv)
theorem shr8 (c : BitVec 8) : c >>> 8 = 0#8 := by
  apply BitVec.eq_of_getLsbD_eq
  intro i hi
  rw [BitVec.getLsbD_ushiftRight, BitVec.getLsbD_of_ge c (8 + i) (by omega)]; simp
theorem rOf_outer (K : Value → Hp → Prop) (bs : List UInt8) (hm : bs.length ≤ 9223372036854775807) (H : Hp) (w : W32) (k : K (.int .u32 ((~~~ w).toNat : Int)) H) : ∀ (d j : Nat) (v : W32), j + d = bs.length → run v (bs.drop j) = w →
      W_abacistref16_Of.l3 K (d + 1) ⟨bs.toArray⟩ (v.toNat : Int) (j : Int) H
  | 0, j, v, hj, hv => by
    unfold W_abacistref16_Of.l3
    refine BIf_dneg (by rw [bsize']; omega) ?_
    rw [List.drop_eq_nil_of_le (by omega)] at hv
    obtain rfl : v = w := hv
    rw [show (4294967295 : Int) = ((BitVec.allOnes 32).toNat : Int) from rfl, xor32, BitVec.xor_allOnes]
    exact k
  | d + 1, j, v, hj, hv => by
    unfold W_abacistref16_Of.l3
    have hlt : j < bs.length := by omega
    refine BIf_dpos (by rw [bsize']; omega) ?_
    refine ⟨by omega, ?_⟩
    rw [Int.toNat_natCast]
    have hg : (ByteArray.mk bs.toArray)[j]? = some bs[j] := by
      rw [getElem?_pos (ByteArray.mk bs.toArray) j (by rw [bsize']; exact hlt)]
      congr 1
    unfold ixB
    rw [hg]
    refine ⟨9, ?_⟩
    rw [show ((bs[j].toNat : Nat) : Int) = ((bs[j].toBitVec).toNat : Int) from rfl]
    refine rOf_inner K _ _ _ H (byte v bs[j]) ?_ 8 0 v _ rfl (shr8 _) rfl
    rw [i64w (by omega) (by omega)]
    refine rOf_outer K bs hm H w k d (j + 1) _ (by omega) ?_
    rw [List.drop_eq_getElem_cons hlt] at hv
    exact hv
where bsize' : (ByteArray.mk bs.toArray).size = bs.length := FormP.bsize bs
theorem rOf_ok (bs : List UInt8) (hm : bs.length ≤ 9223372036854775807) (H : Hp) : HCalls Tryz.prog 49 #[.string ⟨bs.toArray⟩] H (RetE (.int .u32 ((sum bs).toNat : Int)) H) := by
  apply W_abacistref16_Of.ok
  refine ⟨bs.length + 1, ?_⟩
  rw [show (4294967295 : Int) = ((~~~ 0#32 : W32).toNat : Int) from rfl]
  refine rOf_outer _ bs hm H (run (~~~ 0#32) bs) ?_ bs.length 0 _ (by omega) rfl
  exact RetE.mk _ _
theorem rOfWords_ok (A : Option Addr) (n m : Nat) (l : List UInt64) (hn : n = l.length) (hm : n ≤ 10000000000) (H : Hp) (hl : Cells H A (wordVals l)) :
    HCalls Tryz.prog 10 #[.slice A n m] H (RetE (.int .u32 ((sum (form l)).toNat : Int)) H) := by
  apply W_abacistref16_OfWords.ok
  unfold W_abacistref16_OfWords
  refine HCalls.use (FormP.rPut_ok A n m l hn hm H hl) ?_
  try simp only [HV]
  refine HCalls.use (rOf_ok (form l) (by rw [form_length]; omega) H) ?_
  try simp only [HV]
  exact RetE.mk _ _
end Go.Proofs.YtnknippcbecmeaaGreatDoor.CrcP
end
section
/- crc.Join, crc.Sum; the law CrcJoins. -/
namespace Go.Proofs.YtnknippcbecmeaaGreatDoor.CrcP
open Go Go.Hw Go.Crc Go.Form W
def bitM (i : Nat) : W32 := if i = 0 then poly else 1#32 <<< (i - 1)
def Rep (m : Nat → W32) (f : W32 → W32) : Prop := Lin f ∧ ∀ i, i < 32 → m i = f (1#32 <<< i)
theorem Rep.bit : Rep bitM bit1 := ⟨lin_bit1, by
  have : (List.range 32).all (fun i => bitM i == bit1 (1#32 <<< i)) = true := by decide +kernel
  intro i hi
  have := List.all_eq_true.1 this i (by simpa using hi)
  simpa using this⟩
end Go.Proofs.YtnknippcbecmeaaGreatDoor.CrcP
end
section
/- crc.Counter; the law CrcCounts. -/
namespace Go.Proofs.YtnknippcbecmeaaGreatDoor.CrcP
open Go Go.Hw Go.Crc Go.Form W
def counter (s : W32) (n : Nat) : AO := .obj (.cells #[.int .u32 (s.toNat : Int), .int .i64 (n : Int)] 182)
theorem Add_ok (c : Nat) (s : W32) (k : Nat) (A : Option Addr) (n m : Nat) (bs : List UInt8) (hn : n = bs.length) (H : Hp) (hc : H c = some (counter s k)) (hb : Cells H A (byteVals bs)) (hk : k + n ≤ 9223372036854775807) :
    HCalls Tryz.prog 133 #[.pointer (some ⟨c, 0, none⟩), .slice A n m] H (RetE (.tuple #[]) (H.set c (counter (more s bs) (k + n)))) := by
  apply W_crc_Counter_Add.ok
  unfold W_crc_Counter_Add
  simp only [NN_some, Addr.add_lit', Nat.add_zero, Nat.zero_add]
  refine Ld_obj hc (v := .int .u32 (s.toNat : Int)) rfl ?_
  simp only [HV]
  refine HCalls.use (More_ok s A n m bs hn (by omega) H hb) ?_
  try simp only [HV]
  refine St_obj hc (by simp) rfl ?_
  refine Ld_obj (Hp.set_same _ _ _) (v := .int .i64 (k : Int)) rfl ?_
  simp only [HV]
  refine St_obj (Hp.set_same _ _ _) (by simp) rfl ?_
  rw [Hp.set_set, show ((k : Int) + (n : Int)) = ((k + n : Nat) : Int) by omega, i64n hk]
  exact RetE.mk _ _
theorem AddWords_ok (c : Nat) (s : W32) (k : Nat) (A : Option Addr) (n m : Nat) (l : List UInt64) (hn : n = l.length) (H : Hp) (hc : H c = some (counter s k)) (hl : Cells H A (wordVals l)) (hn2 : n ≤ 10000000000) (hk : k ≤ 1000000000000) :
    HCalls Tryz.prog 95 #[.pointer (some ⟨c, 0, none⟩), .slice A n m] H (RetE (.tuple #[]) (H.set c (counter (more s (form l)) (k + 8 * n)))) := by
  apply HCalls.ret
  apply W_crc_Counter_AddWords.ok
  unfold W_crc_Counter_AddWords
  refine (FormP.Put_ok A n m l hn (by omega) H hl).mono ?_
  rintro v H' ⟨b, hb, rfl, rfl⟩
  simp only [HV]
  have hf : (form l).length = 8 * n := by rw [form_length, hn]
  have hle := Hp.le_set (o := .row (byteVals (form l)) 5 (8 * n)) hb
  refine HCalls.use (Add_ok c s k (some ⟨b, 0, none⟩) (8 * n) (8 * n) (form l) hf.symm _ (hle _ _ hc) (by have := Cells.row (Hp.set_same H b (.row (byteVals (form l)) 5 (8 * n))) 0 (8 * n); rwa [List.drop_zero, List.take_of_length_le (by rw [byteVals_length, hf]; omega)] at this) (by omega)) ?_
  try simp only [HV]
  exact ⟨rfl, Hp.set_le hle _ _⟩
theorem CSum_ok (c : Nat) (s : W32) (k : Nat) (H : Hp) (hc : H c = some (counter s k)) : HCalls Tryz.prog 96 #[.pointer (some ⟨c, 0, none⟩)] H (RetE (.int .u32 (s.toNat : Int)) H) := by
  apply W_crc_Counter_Sum.ok
  unfold W_crc_Counter_Sum
  simp only [NN_some, Addr.add_lit', Nat.add_zero, Nat.zero_add]
  refine Ld_obj hc (v := .int .u32 (s.toNat : Int)) rfl ?_
  simp only [HV]
  exact RetE.mk _ _
section
variable (A1 A2 : Option Addr) (n1 m1 n2 m2 : Nat) (ps : List (Option Addr × Nat × Nat × List UInt8)) (ws : List (Option Addr × Nat × Nat × List UInt64)) (H0 : Hp) (c : Nat)
end
end Go.Proofs.YtnknippcbecmeaaGreatDoor.CrcP
end
section
/- turn: a counter within a struct; gathering a band's columns. -/
namespace Go.Proofs.YtnknippcbecmeaaGreatDoor.CrcP
open Go Go.Hw Go.Crc Go.Form W
def ctrC (s : W32) (k : Nat) (r : List Value) : Array Value := (Value.int .u32 (s.toNat : Int) :: Value.int .i64 (k : Int) :: r).toArray
section
variable {L : List As} {H : Hp}
theorem AddG_s (h : Sep L H) (i : Nat) {c : Nat} {s : W32} {k : Nat} {r : List Value} {t : TypeId} (hi : L[i]? = some (pts c (.obj (.cells (ctrC s k r) t)))) (A : Option Addr) (n m : Nat) (bs : List UInt8) (hn : n = bs.length) (hb : ∀ H', H.le H' → Cells H' A (byteVals bs)) (hk : k + n ≤ 9223372036854775807) {K : Value → Hp → Prop}
    (kk : ∀ H', Sep (L.set i (pts c (.obj (.cells (ctrC (more s bs) (k + n) r) t)))) H' → K (.tuple #[]) H') : HCalls Tryz.prog 133 #[.pointer (some ⟨c, 0, none⟩), .slice A n m] H K := by
  apply W_crc_Counter_Add.ok
  unfold W_crc_Counter_Add
  simp only [NN_some]
  refine h.ldf i hi rfl ?_
  simp only [HV]
  refine HCalls.use (More_ok s A n m bs hn (by omega) H (hb H (Hp.le_refl _))) ?_
  try simp only [HV]
  refine h.stf i hi (by show 0 < (_ :: _ :: r : List Value).toArray.size; simp) rfl fun H1 hs1 => ?_
  have hi1 : (L.set i (pts c (.obj (.cells ((ctrC s k r).setIfInBounds 0 (.int .u32 ((more s bs).toNat : Int))) t))))[i]? = some (pts c (.obj (.cells (ctrC (more s bs) k r) t))) := by
    rw [List.getElem?_set]
    simp only [(List.getElem?_eq_some_iff.1 hi).1, if_true]
    rfl
  refine hs1.ldf i hi1 rfl ?_
  simp only [HV]
  refine hs1.stf i hi1 (by show 1 < (_ :: _ :: r : List Value).toArray.size; simp) rfl fun H2 hs2 => ?_
  rw [show ((k : Int) + (n : Int)) = ((k + n : Nat) : Int) by omega, i64n hk, List.set_set] at hs2
  exact kk H2 hs2
theorem AddWordsG_s (h : Sep L H) (i : Nat) {c : Nat} {s : W32} {k : Nat} {r : List Value} {t : TypeId} (hi : L[i]? = some (pts c (.obj (.cells (ctrC s k r) t)))) (A : Option Addr) (n m : Nat) (l : List UInt64) (hn : n = l.length) (hl : Cells H A (wordVals l)) (hn2 : n ≤ 10000000000) (hk : k ≤ 1000000000000) {K : Value → Hp → Prop}
    (kk : ∀ H', Sep (L.set i (pts c (.obj (.cells (ctrC (more s (form l)) (k + 8 * n) r) t)))) H' → K (.tuple #[]) H') : HCalls Tryz.prog 95 #[.pointer (some ⟨c, 0, none⟩), .slice A n m] H K := by
  apply W_crc_Counter_AddWords.ok
  unfold W_crc_Counter_AddWords
  refine (FormP.Put_ok A n m l hn (by omega) H hl).mono ?_
  rintro v H' ⟨b, hb, rfl, rfl⟩
  simp only [HV]
  have hf : (form l).length = 8 * n := by rw [form_length, hn]
  have hs := h.new hb (.row (byteVals (form l)) 5 (8 * n))
  have hlt := (List.getElem?_eq_some_iff.1 hi).1
  refine AddG_s hs i (by rw [List.getElem?_append_left hlt]; exact hi) (some ⟨b, 0, none⟩) (8 * n) (8 * n) (form l) hf.symm (fun H' hle => ?_) (by omega) fun H' hs' => ?_
  · have := Cells.row (hle _ _ (Hp.set_same H b (.row (byteVals (form l)) 5 (8 * n)))) 0 (8 * n)
    rwa [List.drop_zero, List.take_of_length_le (by rw [byteVals_length, hf]; omega)] at this
  · rw [List.set_append_left _ _ hlt] at hs'
    exact kk H' (Sep.take hs')
theorem CSumG_s (h : Sep L H) (i : Nat) {c : Nat} {s : W32} {k : Nat} {r : List Value} {t : TypeId} (hi : L[i]? = some (pts c (.obj (.cells (ctrC s k r) t)))) : HCalls Tryz.prog 96 #[.pointer (some ⟨c, 0, none⟩)] H (RetE (.int .u32 (s.toNat : Int)) H) := by
  apply W_crc_Counter_Sum.ok
  unfold W_crc_Counter_Sum
  simp only [NN_some]
  refine h.ldf i hi rfl ?_
  simp only [HV]
  exact RetE.mk _ _
end
end Go.Proofs.YtnknippcbecmeaaGreatDoor.CrcP
namespace Go.Proofs.YtnknippcbecmeaaGreatDoor.Trn
open Go Go.Hw Go.Crc Go.Form W Shp Str Dsk Are
theorem idx_inj {r a i a' i' : Nat} (hi : i < r) (hi' : i' < r) (h : a * r + i = a' * r + i') : a = a' ∧ i = i' := by
  have h1 : (a * r + i) / r = a := by rw [Nat.add_comm, Nat.add_mul_div_right _ _ (by omega), Nat.div_eq_of_lt hi, Nat.zero_add]
  have h2 : (a' * r + i') / r = a' := by rw [Nat.add_comm, Nat.add_mul_div_right _ _ (by omega), Nat.div_eq_of_lt hi', Nat.zero_add]
  have : a = a' := by rw [← h1, ← h2, h]
  subst this
  exact ⟨rfl, by omega⟩
def runR (p q : Nat) (r c : Nat) (bn : Nat) : List Value := [.pointer (some ⟨p, 0, none⟩), .pointer (some ⟨q, 0, none⟩), .int .i64 (r : Int), .int .i64 (c : Int), .pointer (some ⟨bn, 0, none⟩)]
def runO (s : W32) (k : Nat) (p q : Nat) (r c : Nat) (bn : Nat) : AO := .obj (.cells (CrcP.ctrC s k (runR p q r c bn)) 224)
structure Fil (F : Nat → Nat → UInt64) (rows b i k : Nat) (ws : List UInt64) : Prop where
  len : ws.length = b * rows
  got : ∀ k' i', k' < b → i' < rows → (i' < i ∨ (i' = i ∧ k' < k)) → ws[k' * rows + i']? = some (F i' k')
theorem mul_lt {k b rows i : Nat} (hk : k < b) (hi : i < rows) : k * rows + i < b * rows := by
  have : (k + 1) * rows ≤ b * rows := Nat.mul_le_mul_right rows hk
  rw [Nat.succ_mul] at this; omega
theorem Fil.step {F : Nat → Nat → UInt64} {rows b i k : Nat} {ws : List UInt64} (h : Fil F rows b i k ws) (hk : k < b) (hi : i < rows) : Fil F rows b i (k + 1) (ws.set (k * rows + i) (F i k)) := by
  have hlt := mul_lt hk hi
  refine ⟨by rw [List.length_set]; exact h.len, fun k' i' hk' hi' hc => ?_⟩
  rw [List.getElem?_set]
  by_cases e : k * rows + i = k' * rows + i'
  · obtain ⟨rfl, rfl⟩ := idx_inj hi hi' e
    rw [if_pos rfl, if_pos (by rw [h.len]; exact hlt)]
  · rw [if_neg e]
    refine h.got k' i' hk' hi' ?_
    rcases hc with hc | ⟨rfl, hc⟩
    · exact .inl hc
    · refine .inr ⟨rfl, ?_⟩
      by_cases e2 : k' = k
      · subst e2; exact absurd rfl e
      · omega
theorem Fil.next {F : Nat → Nat → UInt64} {rows b i : Nat} {ws : List UInt64} (h : Fil F rows b i b ws) : Fil F rows b (i + 1) 0 ws := ⟨h.len, fun k' i' hk' hi' hc => h.got k' i' hk' hi' (by omega)⟩
theorem Fil.all {F : Nat → Nat → UInt64} {rows b : Nat} {ws : List UInt64} (hr : 0 < rows) (h : Fil F rows b rows 0 ws) : ws = (List.range (b * rows)).map fun j => F (j % rows) (j / rows) := by
  apply List.ext_getElem?
  intro j
  by_cases hj : j < b * rows
  · have hd : j / rows < b := by rw [Nat.div_lt_iff_lt_mul hr]; exact hj
    have hm := Nat.mod_lt j hr
    have := h.got (j / rows) (j % rows) hd hm (.inl hm)
    rw [Nat.mul_comm, Nat.div_add_mod] at this
    rw [this, List.getElem?_map, List.getElem?_range hj]; rfl
  · rw [List.getElem?_eq_none (by rw [h.len]; omega), List.getElem?_eq_none (by simp; omega)]
theorem wordVals_set (ws : List UInt64) (i : Nat) (w : UInt64) : (wordVals ws).set i (.int .u64 (w.toNat : Int)) = wordVals (ws.set i w) := by
  unfold wordVals; rw [List.map_set]
section
variable {rn p q dp ap bn bb rl : Nat} {s : W32} {sk : Nat} {x : X} {ea eb j : Nat} {cap peak : Int} {bufs : List (Nat × Nat × Option Addr)} {mb mr : Nat}
theorem gather_in (K : Value → Hp → Prop) (R4 : Option Addr → Int → Option Addr → Nat → Nat → Option Addr → Nat → Nat → Int → Int → Hp → Prop) (F : Nat → Nat → UInt64) {rows cols b i : Nat} (hr : rows * b ≤ 4294967296) (hb1 : 1 ≤ b) (hi : i < rows) (c : Int) (row : List UInt64) (hrow : row.length = b) (hF : ∀ k, k < b → row[k]? = some (F i k)) {L : List As}
    (hK : ∀ ws H, Fil F rows b (i + 1) 0 ws → Sep (pts rn (runO s sk p q rows cols bn) :: pts bb (.row (wordVals ws) 60 mb) :: pts rl (.row (wordVals row) 60 mr) :: L) H → R4 (some ⟨rn, 0, none⟩) c (some ⟨bb, 0, none⟩) (b * rows) (b * rows) (some ⟨rl, 0, none⟩) b b (rows : Int) ((i + 1 : Nat) : Int) H) :
    ∀ (t k : Nat) (ws : List UInt64) (H : Hp), k + t = b → Fil F rows b i k ws → Sep (pts rn (runO s sk p q rows cols bn) :: pts bb (.row (wordVals ws) 60 mb) :: pts rl (.row (wordVals row) 60 mr) :: L) H →
      W_turn_run_gather.l10 K R4 (t + 1) (some ⟨rn, 0, none⟩) c (some ⟨bb, 0, none⟩) (b * rows) (b * rows) (some ⟨rl, 0, none⟩) b b (i : Int) (rows : Int) (i : Int) (some ⟨rl, 0, none⟩) b b (b : Int) (k : Int) H := fun t => by
  induction t with
  | zero =>
    intro k ws H hk hf hs
    have hkb : k = b := by omega
    subst hkb
    unfold W_turn_run_gather.l10
    refine BIf_dneg (by omega) ?_
    have hr1 : rows * 1 ≤ rows * k := Nat.mul_le_mul_left rows (by omega)
    rw [show ((i : Int) + 1) = ((i + 1 : Nat) : Int) by omega, i64n (by omega)]
    exact hK ws H hf.next hs
  | succ t ih =>
    intro k ws H hk hf hs
    have hkb : k < b := by omega
    have hlt := mul_lt hkb hi
    have hcm := Nat.mul_comm b rows
    unfold W_turn_run_gather.l10
    refine BIf_dpos (by omega) ?_
    have hg : (wordVals row)[k]? = some (.int .u64 ((F i k).toNat : Int)) := by rw [wordVals_get, hF k hkb]; rfl
    refine ⟨by omega, by omega, ?_⟩
    show Ld H _ _
    rw [Int.toNat_natCast, Nat.mul_one, Addr.add_lit', Nat.zero_add]
    refine hs.ldr 2 rfl hg ?_
    simp only [HV]
    refine hs.ldg 0 rfl rfl ?_
    simp only [HV]
    have e : IntKind.i64.wrap (IntKind.i64.wrap ((k : Int) * (rows : Int)) + (i : Int)) = ((k * rows + i : Nat) : Int) := by
      rw [← Int.natCast_mul, i64n (by omega), show (((k * rows : Nat) : Int) + (i : Int)) = ((k * rows + i : Nat) : Int) by omega, i64n (by omega)]
    rw [e]
    refine ⟨by omega, by omega, ?_⟩
    show St H _ _ _
    rw [Int.toNat_natCast, Nat.mul_one, Addr.add_lit', Addr.add_lit', Nat.zero_add, Nat.add_zero]
    refine hs.str 1 (b := bb) (xs := wordVals ws) (e := 60) (m := mb) rfl (by rw [wordVals_length, hf.len]; exact hlt) rfl fun H hs => ?_
    rw [wordVals_set] at hs
    rw [i64w (x := (k : Int) + 1) (by omega) (by have : b * 1 ≤ b * rows := Nat.mul_le_mul_left b (by omega); omega)]
    exact ih (k + 1) _ H (by omega) (hf.step hkb hi) hs
def gR (per f cols c b i : Nat) : Nat := ((List.range i).map fun i' => (pcs per f b (i' * cols + c) b).length).sum
theorem gR_succ (per f cols c b i : Nat) : gR per f cols c b (i + 1) = gR per f cols c b i + (pcs per f b (i * cols + c) b).length := by
  unfold gR
  rw [List.range_succ, List.map_append, List.sum_append]; simp
theorem gR_mono (per f cols c b : Nat) : ∀ {i j : Nat}, i ≤ j → gR per f cols c b i ≤ gR per f cols c b j := fun {i j} h => by
  induction h with
  | refl => exact Nat.le_refl _
  | step h ih => rw [gR_succ]; omega
theorem gR_le (per f cols c b : Nat) : ∀ i, gR per f cols c b i ≤ i * b
  | 0 => by simp [gR]
  | i + 1 => by
    rw [gR_succ, Nat.succ_mul]
    have := gR_le per f cols c b i
    have := pcs_len per f b (i * cols + c) b
    omega
theorem rdG_add (d : D) (a b : Nat) : D.rdG (D.rdG d a) b = D.rdG d (a + b) := by
  unfold D.rdG
  simp only [D.mk.injEq, true_and, and_true]
  omega
theorem mx_mx (a b : Int) : mx (mx a b) b = mx a b := by
  unfold mx
  by_cases h : b > a
  · rw [if_pos h, if_neg (by omega)]
  · rw [if_neg h, if_neg h]
theorem pws_get {d : D} {x : X} {fr n k : Nat} (h : k < n) : (pws d x fr n)[k]? = some (pw d x (fr + k)) := by
  unfold pws
  rw [List.getElem?_map, List.getElem?_range h]; rfl
def gatherP (rn p q dp ap bn bb : Nat) (s : W32) (sk : Nat) (d : D) (x : X) (rows cols b c : Nat) (cap peak : Int) (bufs : List (Nat × Nat × Option Addr)) (mb : Nat) (v : Value) (M : List As) : Prop :=
  ((d.fuse = 0 ∨ gR (D.per d) x.f cols c b rows < d.fuse) ∧ v = .int .i64 0 ∧
    M = [pts rn (runO s sk p q rows cols bn), pts bb (.row (wordVals ((List.range (b * rows)).map fun j => pw d x (j % rows * cols + c + j / rows))) 60 mb), pts p (pipO dp ap x), Dk dp (D.rdG d (gR (D.per d) x.f cols c b rows)), Ar ap cap (mx peak (sumB bufs + D.per d)) bufs]) ∨
  (∃ d', Dead (fun _ => False) d d' ∧ d.fuse ≤ gR (D.per d) x.f cols c b rows ∧ v = .int .i64 8 ∧ M = [pts rn (runO s sk p q rows cols bn), pts p (pipO dp ap x), Dk dp d', Ar ap cap (mx peak (sumB bufs + D.per d)) bufs])
theorem gather_loop (K : Value → Hp → Prop) {d : D} {rows cols b c : Nat} (hok : Ok d) (hl : d.down = false) (hx : On d x) (ho : d.rd ≤ 4000000000000000000) (hw : x.w = rows * cols) (hb1 : 1 ≤ b) (hcb : c + b ≤ cols) (hsz : rows * cols ≤ 4294967296) (hr1 : 1 ≤ rows) (hcap : (D.per d : Int) ≤ cap - sumB bufs)
    (hK : ∀ v M H, gatherP rn p q dp ap bn bb s sk d x rows cols b c cap peak bufs mb v M → Sep M H → K v H) :
    ∀ (t i : Nat) (ws row : List UInt64) (pk : Int) (H : Hp), i + t = rows → (d.fuse = 0 ∨ gR (D.per d) x.f cols c b i < d.fuse) → Fil (fun i k => pw d x (i * cols + c + k)) rows b i 0 ws → row.length = b → mx pk (sumB bufs + D.per d) = mx peak (sumB bufs + D.per d) → (i = 0 ∨ pk = mx peak (sumB bufs + D.per d)) →
      Sep [pts rn (runO s sk p q rows cols bn), pts bb (.row (wordVals ws) 60 mb), pts rl (.row (wordVals row) 60 mr), pts p (pipO dp ap x), Dk dp (D.rdG d (gR (D.per d) x.f cols c b i)), Ar ap cap pk bufs] H →
      W_turn_run_gather.l4 K (t + 1) (some ⟨rn, 0, none⟩) (c : Int) (some ⟨bb, 0, none⟩) (b * rows) (b * rows) (some ⟨rl, 0, none⟩) b b (rows : Int) (i : Int) H := fun t => by
  have hrb : rows * b ≤ 4294967296 := Nat.le_trans (Nat.mul_le_mul_left rows (show b ≤ cols by omega)) hsz
  have hr32 : rows * 1 ≤ rows * cols := Nat.mul_le_mul_left rows (by omega)
  induction t with
  | zero =>
    intro i ws row pk H hi hgo hf hrow hpk hip hs
    have hir : i = rows := by omega
    subst hir
    unfold W_turn_run_gather.l4
    refine BIf_dneg (by omega) (hK _ _ H (.inl ⟨hgo, rfl, ?_⟩) (hs.re [0, 1, 3, 4, 5] rfl))
    rw [← hf.all (by omega), hip.resolve_left (by omega)]
    rfl
  | succ t ih =>
    intro i ws row pk H hi hgo hf hrow hpk hip hs
    have hir : i < rows := by omega
    have hfr : i * cols + c + b ≤ rows * cols := by
      have : (i + 1) * cols ≤ rows * cols := Nat.mul_le_mul_right cols hir
      rw [Nat.succ_mul] at this; omega
    unfold W_turn_run_gather.l4
    refine BIf_dpos (by omega) ?_
    simp only [NN_some]
    refine hs.ldf 0 rfl rfl ?_
    simp only [HV]
    refine hs.ldg 0 rfl rfl ?_
    simp only [HV]
    have e : IntKind.i64.wrap (IntKind.i64.wrap ((i : Int) * (cols : Int)) + (c : Int)) = ((i * cols + c : Nat) : Int) := by
      rw [← Int.natCast_mul, i64n (by omega), show (((i * cols : Nat) : Int) + (c : Int)) = ((i * cols + c : Nat) : Int) by omega, i64n (by omega)]
    rw [e]
    have hgl := gR_le (D.per d) x.f cols c b i
    have hib : i * b ≤ rows * b := Nat.mul_le_mul_right b (by omega)
    have hper : D.per (D.rdG d (gR (D.per d) x.f cols c b i)) = D.per d := rfl
    have hpg := Prog.rdG (fun _ => False) hok hl hgo
    refine (ReadG_tr (p := p) (dp := dp) (ap := ap) (d := D.rdG d (gR (D.per d) x.f cols c b i)) (x := x) (cap := cap) (peak := pk) (bufs := bufs) (rl := rl) (off := 0) (mm := mr) (el := 60) (xs := wordVals row) (Ok.rdG hok _) hl ⟨hx.w1, hx.s1, hx.fit, hx.room⟩ (by show d.rd + _ ≤ _; omega) (i * cols + c) b b hb1 (by omega) (Nat.le_refl _) (by rw [wordVals_length, hrow]; omega) hcap).use hs [3, 4, 5, 2] rfl rfl ?_
    rintro v M H (⟨hgo2, rfl, rfl⟩ | ⟨j, xs', hj, hfj, hx', rfl, rfl⟩) hs
    · simp only [HV]
      refine BIf_bnen rfl ⟨b + 1, ?_⟩
      rw [rdG_add, hper, ← gR_succ] at hs
      have hset : setAt (wordVals row) 0 (wordVals (pws (D.rdG d (gR (D.per d) x.f cols c b i)) x (i * cols + c) b)) = wordVals (pws d x (i * cols + c) b) := by
        rw [setAt_all (by rw [wordVals_length, wordVals_length, pws_len, hrow])]; rfl
      rw [hset, hpk] at hs
      have hgo3 : d.fuse = 0 ∨ gR (D.per d) x.f cols c b (i + 1) < d.fuse := by
        rw [gR_succ]
        have h1 : (D.rdG d (gR (D.per d) x.f cols c b i)).fuse = d.fuse - gR (D.per d) x.f cols c b i := rfl
        rw [h1, hper] at hgo2
        omega
      have hs := hs.re [4, 5, 3, 0, 1, 2] rfl
      refine gather_in K _ (fun i k => pw d x (i * cols + c + k)) hrb hb1 hir (c : Int) (pws d x (i * cols + c) b) (pws_len _ _ _ _) (fun k hk => pws_get hk) (fun ws' H hf' hs => ?_) b 0 ws H (by omega) hf hs
      exact ih (i + 1) ws' _ (mx peak (sumB bufs + D.per d)) H (by omega) hgo3 hf' (pws_len _ _ _ _) (mx_mx _ _) (.inr rfl) hs
    · simp only [HV]
      refine BIf_bnep (by decide) (hK _ _ H (.inr ⟨_, hpg.dead (Dead.rdG _ hpg.ok hpg.down hfj), ?_, rfl, ?_⟩) (hs.re [4, 0, 1, 2] rfl))
      · have h1 : (D.rdG d (gR (D.per d) x.f cols c b i)).fuse = d.fuse - gR (D.per d) x.f cols c b i := rfl
        rw [h1] at hfj
        have h2 := gR_mono (D.per d) x.f cols c b (show i + 1 ≤ rows by omega)
        rw [gR_succ] at h2
        rw [hper] at hj
        omega
      · rw [hper, hpk]; rfl
theorem gather_tr {d : D} {rows cols b c : Nat} (hok : Ok d) (hl : d.down = false) (hx : On d x) (ho : d.rd ≤ 4000000000000000000) (hw : x.w = rows * cols) (hb1 : 1 ≤ b) (hcb : c + b ≤ cols) (hsz : rows * cols ≤ 4294967296) (hr1 : 1 ≤ rows) (hcap : (D.per d : Int) ≤ cap - sumB bufs) (hbn : (bn, b * rows, some ⟨bb, 0, none⟩) ∈ bufs) (ws : List UInt64) (hws : ws.length = b * rows) :
    Tr Tryz.prog 135 #[.pointer (some ⟨rn, 0, none⟩), .int .i64 (c : Int), .int .i64 (b : Int)] [pts rn (runO s sk p q rows cols bn), pts bb (.row (wordVals ws) 60 mb), pts p (pipO dp ap x), Dk dp d, Ar ap cap peak bufs] (gatherP rn p q dp ap bn bb s sk d x rows cols b c cap peak bufs mb) := fun H hs => by
  have hrb : rows * b ≤ 4294967296 := Nat.le_trans (Nat.mul_le_mul_left rows (show b ≤ cols by omega)) hsz
  have hb32 : 1 * b ≤ rows * b := Nat.mul_le_mul_right b hr1
  apply W_turn_run_gather.ok
  unfold W_turn_run_gather
  simp only [NN_some]
  refine hs.ldf 0 rfl rfl ?_
  simp only [HV]
  refine HCalls.use (Words_s hs 4 rfl hbn) ?_
  try simp only [HV]
  refine hs.mks cell_u64 rfl (n := b) (m := b) rfl rfl (Nat.le_refl _) (by omega) (by omega) fun rl H hs => ?_
  simp only [HV]
  refine hs.ldg 0 rfl rfl ?_
  simp only [HV]
  refine ⟨rows + 1, ?_⟩
  have hz : zeroRow (#[Value.int .u64 0] : Array Value).toList b = wordVals (List.replicate b 0) := by
    show zeroRow [Value.int .u64 0] b = _
    rw [zeroRow_one]
    unfold wordVals
    rw [List.map_replicate]; rfl
  rw [hz] at hs
  refine gather_loop (rl := rl) (mr := b * 1) (peak := peak) _ hok hl hx ho hw hb1 hcb hsz hr1 hcap (fun v M H h hs => ⟨M, h, hs⟩) rows 0 ws (List.replicate b 0) peak H (by omega) (by simp [gR]; omega) ⟨hws, fun k' i' _ _ h => by omega⟩ (by simp) rfl (.inl rfl) ?_
  exact hs.re [0, 1, 5, 2, 3, 4] rfl
end
end Go.Proofs.YtnknippcbecmeaaGreatDoor.Trn
end
section
/- stream: what written words leave. -/
namespace Go.Proofs.YtnknippcbecmeaaGreatDoor.Str
open Go Go.Hw Go.Form W Dsk Are
theorem setW_get {ws src : List UInt64} {a : Nat} (ha : a ≤ ws.length) (i : Nat) : (setW ws a src)[i]? = if i < a then ws[i]? else if i < a + src.length then src[i - a]? else ws[i]? := by
  unfold setW
  have hl : (ws.take a).length = a := by rw [List.length_take]; omega
  rw [List.append_assoc]
  by_cases h1 : i < a
  · rw [if_pos h1, List.getElem?_append_left (by omega), List.getElem?_take_of_lt h1]
  · rw [if_neg h1, List.getElem?_append_right (by omega), hl]
    by_cases h2 : i < a + src.length
    · rw [if_pos h2, List.getElem?_append_left (by omega)]
    · rw [if_neg h2, List.getElem?_append_right (by omega), List.getElem?_drop]
      congr 1; omega
theorem wpc_pw {d : D} (hok : Ok d) (x : X) (fr : Nat) (src : List UInt64) (hl : fr % D.per d + src.length ≤ D.per d) (j : Nat) :
    pw (wpc d (x.f + fr / D.per d) (fr % D.per d) src) x j = if fr ≤ j ∧ j < fr + src.length then (src[j - fr]?).getD 0 else pw d x j := by
  have hp := Ok.per_le hok
  have hwl : (wordsB (d.now ((x.f + fr / D.per d : Nat) : Int))).length = D.per d := by rw [wordsB_len, hok.now]; rfl
  unfold pw
  rw [wpc_per, wpc_now]
  have ej := Nat.div_add_mod j (D.per d)
  have ef := Nat.div_add_mod fr (D.per d)
  have mj := Nat.mod_lt j (show 0 < D.per d by omega)
  have mf := Nat.mod_lt fr (show 0 < D.per d by omega)
  by_cases hs : j / D.per d = fr / D.per d
  · rw [hs] at ej ⊢
    rw [if_pos rfl, wordsB_form, setW_get (by omega)]
    generalize D.per d * (fr / D.per d) = q at *
    by_cases h1 : j % D.per d < fr % D.per d
    · rw [if_pos h1, if_neg (by omega)]
    · rw [if_neg h1]
      by_cases h2 : j % D.per d < fr % D.per d + src.length
      · rw [if_pos h2, if_pos (by omega), show j % D.per d - fr % D.per d = j - fr by omega]
      · rw [if_neg h2, if_neg (by omega)]
  · rw [if_neg (by omega), if_neg]
    intro hc
    apply hs
    apply Nat.div_eq_of_lt_le
    · rw [Nat.mul_comm]; omega
    · rw [Nat.succ_mul, Nat.mul_comm]; omega
structure Wrote (d d' : D) (x : X) (fr : Nat) (src : List UInt64) (ps : List (Nat × Nat × Nat)) : Prop where
  ok : Ok d'
  calm : Calm d → Calm d'
  size : d'.size = d.size
  sec : d'.sec = d.sec
  wr : d'.wr = d.wr + ps.length
  rd : d'.rd = d.rd + (ps.filter fun p => decide (p.2.2 < D.per d)).length
  sy : d'.sy = d.sy
  safe : d'.safe = d.safe
  tch : ∀ i, d'.tch i = true → d.tch i = true ∨ ∃ j, j < src.length ∧ i = ((x.f + (fr + j) / D.per d : Nat) : Int)
  now : ∀ i, (∀ j, j < src.length → i ≠ ((x.f + (fr + j) / D.per d : Nat) : Int)) → d'.now i = d.now i
  pw : ∀ j, pw d' x j = if fr ≤ j ∧ j < fr + src.length then (src[j - fr]?).getD 0 else pw d x j
theorem wpc_safe (d : D) (s at' : Nat) (src : List UInt64) : (wpc d s at' src).safe = d.safe ∧ (wpc d s at' src).tch = updT d.tch s := by
  unfold wpc
  split <;> exact ⟨rfl, rfl⟩
theorem wrs_wrote (x : X) : ∀ (k fr : Nat) (d : D) (src : List UInt64), Ok d → src.length ≤ k → Wrote d (wrs d x k fr src) x fr src (pcs (D.per d) x.f k fr src.length)
  | k, fr, d, [], hok, hk => by
    have e1 : wrs d x k fr [] = d := by cases k <;> simp [wrs]
    have e2 : pcs (D.per d) x.f k fr ([] : List UInt64).length = [] := by cases k <;> simp [pcs]
    rw [e1, e2]
    exact ⟨hok, id, rfl, rfl, rfl, rfl, rfl, rfl, fun i h => .inl h, fun _ _ => rfl, fun j => by rw [if_neg (by simp only [List.length_nil]; omega)]⟩
  | 0, fr, d, w0 :: s0, hok, hk => by simp at hk
  | k + 1, fr, d, w0 :: s0, hok, hk => by
    generalize hsrc : w0 :: s0 = src at *
    have hne : src ≠ [] := by rw [← hsrc]; simp
    have hpos : 0 < src.length := by rw [← hsrc]; simp
    have hp := Ok.per_le hok
    have hcle := cN_le (D.per d) fr src.length
    have hcpos := cN_pos (per := D.per d) (fr := fr) (n := src.length) (by omega) hpos
    have hcper := cN_per (per := D.per d) (fr := fr) (n := src.length) (by omega)
    have e : pcs (D.per d) x.f (k + 1) fr src.length = (x.f + fr / D.per d, fr % D.per d, cN (D.per d) fr src.length) :: pcs (D.per d) x.f k (fr + cN (D.per d) fr src.length) (src.length - cN (D.per d) fr src.length) := by
      show (if src.length = 0 then [] else _) = _
      rw [if_neg (by omega)]
    have ew : wrs d x (k + 1) fr src = wrs (wpc d (x.f + fr / D.per d) (fr % D.per d) (src.take (cN (D.per d) fr src.length))) x k (fr + cN (D.per d) fr src.length) (src.drop (cN (D.per d) fr src.length)) := by
      show (if src = [] then d else _) = _
      rw [if_neg hne]
    rw [e, ew]
    generalize hcv : cN (D.per d) fr src.length = c at *
    have htk : (src.take c).length = c := by rw [List.length_take]; omega
    have hdl : (src.drop c).length = src.length - c := by simp
    have hok1 : Ok (wpc d (x.f + fr / D.per d) (fr % D.per d) (src.take c)) := wpc_ok hok _ _ (by omega)
    have hsz := wpc_size d (x.f + fr / D.per d) (fr % D.per d) (src.take c)
    have hper := wpc_per d (x.f + fr / D.per d) (fr % D.per d) (src.take c)
    have hcnt := wpc_cnt d (x.f + fr / D.per d) (fr % D.per d) (src.take c)
    have hsf := wpc_safe d (x.f + fr / D.per d) (fr % D.per d) (src.take c)
    have hnow := wpc_now d (x.f + fr / D.per d) (fr % D.per d) (src.take c)
    have hpw := wpc_pw hok x fr (src.take c) (by omega)
    have ih := wrs_wrote x k (fr + c) _ (src.drop c) hok1 (by omega)
    rw [hper, hdl] at ih
    generalize wrs (wpc d (x.f + fr / D.per d) (fr % D.per d) (src.take c)) x k (fr + c) (src.drop c) = d2 at *
    generalize pcs (D.per d) x.f k (fr + c) (src.length - c) = ps at *
    refine ⟨ih.ok, fun hc => ih.calm (wpc_calm hc _ _ _), ih.size.trans hsz.1, ih.sec.trans hsz.2, ?_, ?_, ih.sy.trans hcnt.2.2, ih.safe.trans hsf.1, fun i hi => ?_, fun i hi => ?_, fun j => ?_⟩
    · rw [ih.wr, hcnt.1, List.length_cons]; omega
    · rw [ih.rd, hcnt.2.1, htk, hper]
      by_cases hlt : c < D.per d
      · rw [if_pos hlt, List.filter_cons_of_pos (by simpa using hlt), List.length_cons]; omega
      · rw [if_neg hlt, List.filter_cons_of_neg (by simpa using hlt)]; omega
    · rcases ih.tch i hi with h | ⟨j, hj, h⟩
      · rw [hsf.2] at h
        unfold updT at h
        by_cases he : i = ((x.f + fr / D.per d : Nat) : Int)
        · exact .inr ⟨0, hpos, by rw [Nat.add_zero]; exact he⟩
        · rw [if_neg he] at h; exact .inl h
      · refine .inr ⟨c + j, by omega, ?_⟩
        rw [h, hper, Nat.add_assoc]
    · rw [ih.now i (fun j hj => ?_), hnow, if_neg]
      · have := hi 0 hpos
        rw [Nat.add_zero] at this
        exact this
      · have := hi (c + j) (by omega)
        rw [hper, Nat.add_assoc]; exact this
    · rw [ih.pw j, hpw j, htk, hdl]
      by_cases h1 : fr + c ≤ j ∧ j < fr + c + (src.length - c)
      · rw [if_pos h1, if_pos (by omega), List.getElem?_drop, show c + (j - (fr + c)) = j - fr by omega]
      · rw [if_neg h1]
        by_cases h2 : fr ≤ j ∧ j < fr + c
        · rw [if_pos h2, if_pos (by omega), List.getElem?_take_of_lt (by omega)]
        · rw [if_neg h2, if_neg (by omega)]
end Go.Proofs.YtnknippcbecmeaaGreatDoor.Str
end
section
/- turn: lay, Run. -/
namespace Go.Proofs.YtnknippcbecmeaaGreatDoor.Str
open Go Go.Hw Go.Form W Dsk Are
def D.fz (d : D) (q : Nat) : D := { d with fuse := q }
theorem wpc_fz (d : D) (q s at' : Nat) (src : List UInt64) : D.fz (wpcG d s at' src) q = wpc (D.fz d q) s at' src := by
  unfold wpcG wpc
  have e : D.per (D.fz d q) = D.per d := rfl
  rw [e]
  split <;> rfl
theorem wrs_fz (x : X) : ∀ (k fr : Nat) (d : D) (src : List UInt64) (q : Nat), D.fz (wrsG d x k fr src) q = wrs (D.fz d q) x k fr src
  | 0, _, _, _, _ => rfl
  | k + 1, fr, d, src, q => by
    unfold wrsG wrs
    have e : D.per (D.fz d q) = D.per d := rfl
    rw [e]
    split
    · rfl
    · rw [wrs_fz x k, wpc_fz]
theorem Prog.now {S : Int → Prop} {d d' : D} {r w : Nat} (h : Prog S d d' r w) {i : Int} (hi : ¬ S i) : d'.now i = d.now i := by
  unfold D.now D.sat
  rw [h.cache i hi, h.safe, h.size]
theorem Prog.pw {S : Int → Prop} {d d' : D} {r w : Nat} (h : Prog S d d' r w) {x : X} (hok : Ok d) (hx : On d x) (hS : ∀ i, S i → i < (x.f : Int) ∨ ((x.f + x.s : Nat) : Int) ≤ i) {j : Nat} (hj : j < x.w) : pw d' x j = pw d x j := by
  have hp := Ok.per_le hok
  have h4 := hx.room
  unfold Str.pw
  rw [h.per, h.now]
  intro hs
  have hdiv : j / D.per d < x.s := by rw [Nat.div_lt_iff_lt_mul (by omega)]; omega
  have := hS _ hs
  generalize j / D.per d = u at *
  omega
theorem wrsG_pw (x : X) {d : D} (hok : Ok d) (fr : Nat) (src : List UInt64) (j : Nat) : pw (wrsG d x src.length fr src) x j = if fr ≤ j ∧ j < fr + src.length then (src[j - fr]?).getD 0 else pw d x j := by
  have hW := (wrs_wrote x src.length fr (D.fz d 0) src ⟨hok.sec, hok.size, hok.big, hok.per, hok.safe, hok.cache, Nat.zero_le _⟩ (Nat.le_refl _)).pw j
  rw [← wrs_fz] at hW
  exact hW
theorem On.prog {S : Int → Prop} {d d' : D} {r w : Nat} {x : X} (hx : On d x) (h : Prog S d d' r w) : On d' x := ⟨hx.w1, hx.s1, by rw [h.sec]; exact hx.fit, by rw [h.per]; exact hx.room⟩
end Go.Proofs.YtnknippcbecmeaaGreatDoor.Str
namespace Go.Proofs.YtnknippcbecmeaaGreatDoor.Trn
open Go Go.Hw Go.Crc Go.Form W Shp Str Dsk Are
def inX (x : X) (i : Int) : Prop := (x.f : Int) ≤ i ∧ i < ((x.f + x.s : Nat) : Int)
section
variable {rn p q dp ap bn bb rl : Nat} {s : W32} {sk : Nat} {x y : X} {ea eb j : Nat} {cap peak : Int} {bufs : List (Nat × Nat × Option Addr)} {mb mr : Nat}
def layP (rn p q dp ap bn bb : Nat) (s : W32) (sk : Nat) (d : D) (y : X) (rows cols c : Nat) (ws : List UInt64) (cap peak : Int) (bufs : List (Nat × Nat × Option Addr)) (mb : Nat) (v : Value) (M : List As) : Prop :=
  (Prog (inX y) d (wrsG d y ws.length (c * rows) ws) (pcsR (D.per d) y.f ws.length (c * rows) ws.length) (pcs (D.per d) y.f ws.length (c * rows) ws.length).length ∧ v = .int .i64 0 ∧
    M = [pts rn (runO (more s (form ws)) (sk + 8 * ws.length) p q rows cols bn), pts bb (.row (wordVals ws) 60 mb), pts q (pipO dp ap y), Dk dp (wrsG d y ws.length (c * rows) ws), Ar ap cap (mx peak (sumB bufs + D.per d)) bufs]) ∨
  (∃ d', Dead (inX y) d d' ∧ d.fuse ≤ pcsR (D.per d) y.f ws.length (c * rows) ws.length + (pcs (D.per d) y.f ws.length (c * rows) ws.length).length ∧ v = .int .i64 8 ∧
    M = [pts q (pipO dp ap y), Dk dp d', Ar ap cap (mx peak (sumB bufs + D.per d)) bufs])
theorem lay_tr {d : D} {rows cols c : Nat} {ws : List UInt64} (hok : Ok d) (hl : d.down = false) (hy : On d y) (ho : d.rd ≤ 4000000000000000000 ∧ d.wr ≤ 4000000000000000000) (hw1 : 1 ≤ ws.length) (hf : c * rows + ws.length ≤ y.w) (hyw : y.w ≤ 4294967296) (hsk : sk ≤ 1000000000000) (hcap : (D.per d : Int) ≤ cap - sumB bufs) (hbn : (bn, ws.length, some ⟨bb, 0, none⟩) ∈ bufs) :
    Tr Tryz.prog 136 #[.pointer (some ⟨rn, 0, none⟩), .int .i64 (c : Int)] [pts rn (runO s sk p q rows cols bn), pts bb (.row (wordVals ws) 60 mb), pts q (pipO dp ap y), Dk dp d, Ar ap cap peak bufs] (layP rn p q dp ap bn bb s sk d y rows cols c ws cap peak bufs mb) := fun H hs => by
  have hcell : ∀ H, pts bb (.row (wordVals ws) 60 mb) H → Cells H (some ⟨bb, 0, none⟩) (wordVals ws) := fun H h => by
    have := Cells.row h 0 ws.length
    rwa [List.drop_zero, List.take_of_length_le (by rw [wordVals_length]; exact Nat.le_refl _)] at this
  apply W_turn_run_lay.ok
  unfold W_turn_run_lay
  simp only [NN_some]
  refine hs.ldf 0 rfl rfl ?_
  simp only [HV]
  refine QCall.use (Words_s hs 4 rfl hbn) ?_
  try simp only [HV]
  rw [Addr.add_zero]
  refine CrcP.AddWordsG_s hs 0 rfl (some ⟨bb, 0, none⟩) ws.length ws.length ws rfl ?_ (by omega) (by omega) fun H hs => ?_
  · obtain ⟨H1, h1, hle⟩ := hs.see 1 rfl
    exact (hcell H1 h1).le hle
  have hs : Sep [pts rn (runO (more s (form ws)) (sk + 8 * ws.length) p q rows cols bn), pts bb (.row (wordVals ws) 60 mb), pts q (pipO dp ap y), Dk dp d, Ar ap cap peak bufs] H := hs
  refine hs.ldf 0 rfl rfl ?_
  simp only [HV]
  refine hs.ldg 0 rfl rfl ?_
  simp only [HV]
  refine hs.ldf 0 rfl rfl ?_
  simp only [HV]
  refine QCall.use (Words_s hs 4 rfl hbn) ?_
  try simp only [HV]
  rw [← Int.natCast_mul, i64n (by omega)]
  refine (WriteG_tr (p := q) (dp := dp) (ap := ap) (d := d) (x := y) (cap := cap) (peak := peak) (bufs := bufs) (R := pts bb (.row (wordVals ws) 60 mb)) (A := some ⟨bb, 0, none⟩) (n := ws.length) (m := ws.length) (src := ws) hok hl hy (by omega) (c * rows) rfl hw1 hf (Nat.le_refl _) hcap hcell).use hs [2, 3, 4, 1] rfl rfl ?_
  rintro v M H (⟨hpg, rfl, rfl⟩ | ⟨d', hd, hfu, rfl, rfl⟩) hs
  · simp only [HV]
    exact ⟨_, .inl ⟨hpg, rfl, rfl⟩, hs.re [4, 3, 0, 1, 2] rfl⟩
  · simp only [HV]
    exact ⟨_, .inr ⟨d', hd, hfu, rfl, rfl⟩, hs.re [0, 1, 2] rfl⟩
def trK (d : D) (x : X) (rows cols k : Nat) : UInt64 := pw d x (k % rows * cols + k / rows)
def trW (d : D) (x : X) (rows cols : Nat) : List UInt64 := (List.range (rows * cols)).map (trK d x rows cols)
theorem trW_len (d : D) (x : X) (rows cols : Nat) : (trW d x rows cols).length = rows * cols := by simp [trW]
theorem band_words (d d1 : D) (x : X) {rows cols b c : Nat} (hr : 0 < rows) (hcb : c + b ≤ cols) (hsame : ∀ k, k < rows * cols → pw d1 x k = pw d x k) :
    ((List.range (b * rows)).map fun j => pw d1 x (j % rows * cols + c + j / rows)) = ((trW d x rows cols).drop (c * rows)).take (b * rows) := by
  apply List.ext_getElem?
  intro j
  have hle : (c + b) * rows ≤ cols * rows := Nat.mul_le_mul_right rows hcb
  rw [Nat.add_mul, Nat.mul_comm cols rows] at hle
  rw [List.getElem?_map, List.getElem?_take]
  by_cases hj : j < b * rows
  · rw [List.getElem?_range hj, if_pos hj, List.getElem?_drop]
    unfold trW
    rw [List.getElem?_map, List.getElem?_range (by omega)]
    simp only [Option.map_some, Option.some.injEq]
    unfold trK
    have hm := Nat.mod_lt j hr
    have hd : j / rows < b := by rw [Nat.div_lt_iff_lt_mul hr]; exact hj
    rw [show c * rows + j = j + c * rows by omega, Nat.add_mul_mod_self_right, Nat.add_mul_div_right _ _ hr, hsame]
    · congr 1; omega
    · have : (j % rows + 1) * cols ≤ rows * cols := Nat.mul_le_mul_right cols hm
      rw [Nat.succ_mul] at this; omega
  · rw [if_neg hj, List.getElem?_eq_none (by simp; omega)]; rfl
def rT (per f f' rows cols b m : Nat) : Nat := ((List.range m).map fun m' => gR per f cols (m' * b) b rows + pcsR per f' (b * rows) (m' * b * rows) (b * rows)).sum
def wT (per f' rows b m : Nat) : Nat := ((List.range m).map fun m' => (pcs per f' (b * rows) (m' * b * rows) (b * rows)).length).sum
theorem rT_succ (per f f' rows cols b m : Nat) : rT per f f' rows cols b (m + 1) = rT per f f' rows cols b m + (gR per f cols (m * b) b rows + pcsR per f' (b * rows) (m * b * rows) (b * rows)) := by
  unfold rT; rw [List.range_succ, List.map_append, List.sum_append]; simp
theorem wT_succ (per f' rows b m : Nat) : wT per f' rows b (m + 1) = wT per f' rows b m + (pcs per f' (b * rows) (m * b * rows) (b * rows)).length := by
  unfold wT; rw [List.range_succ, List.map_append, List.sum_append]; simp
theorem rT_mono (per f f' rows cols b : Nat) {i j : Nat} (h : i ≤ j) : rT per f f' rows cols b i ≤ rT per f f' rows cols b j := by
  induction h with
  | refl => exact Nat.le_refl _
  | step h ih => rw [rT_succ]; omega
theorem wT_mono (per f' rows b : Nat) {i j : Nat} (h : i ≤ j) : wT per f' rows b i ≤ wT per f' rows b j := by
  induction h with
  | refl => exact Nat.le_refl _
  | step h ih => rw [wT_succ]; omega
theorem rT_le (per f f' rows cols b : Nat) : ∀ m, rT per f f' rows cols b m ≤ m * (2 * (b * rows))
  | 0 => by simp [rT]
  | m + 1 => by
    rw [rT_succ, Nat.succ_mul]
    have h1 := rT_le per f f' rows cols b m
    have h2 := gR_le per f cols (m * b) b rows
    have h3 := pcs_len per f' (b * rows) (m * b * rows) (b * rows)
    have h4 : pcsR per f' (b * rows) (m * b * rows) (b * rows) ≤ (pcs per f' (b * rows) (m * b * rows) (b * rows)).length := List.length_filter_le _ _
    have h5 := Nat.mul_comm rows b
    omega
theorem wT_le (per f' rows b : Nat) : ∀ m, wT per f' rows b m ≤ m * (b * rows)
  | 0 => by simp [wT]
  | m + 1 => by
    rw [wT_succ, Nat.succ_mul]
    have h1 := wT_le per f' rows b m
    have h3 := pcs_len per f' (b * rows) (m * b * rows) (b * rows)
    omega
structure TurnI (d d' : D) (x y : X) (rows cols b m : Nat) : Prop where
  pg : Prog (inX y) d d' (rT (D.per d) x.f y.f rows cols b m) (wT (D.per d) y.f rows b m)
  src : ∀ k, k < x.w → pw d' x k = pw d x k
  dst : ∀ k, k < m * b * rows → pw d' y k = trK d x rows cols k
def runP (p q dp ap : Nat) (d : D) (x y : X) (rows cols b : Nat) (cap peak : Int) (bufs : List (Nat × Nat × Option Addr)) (v : Value) (M : List As) : Prop :=
  (∃ d', TurnI d d' x y rows cols b (cols / b) ∧ v = .tuple #[.int .u32 ((sum (form (trW d x rows cols))).toNat : Int), .int .i64 0] ∧
    M = [pts p (pipO dp ap x), pts q (pipO dp ap y), Dk dp d', Ar ap cap (mx peak (sumB bufs + (b * rows : Nat) + D.per d)) bufs]) ∨
  (∃ d', Dead (inX y) d d' ∧ d.fuse ≤ rT (D.per d) x.f y.f rows cols b (cols / b) + wT (D.per d) y.f rows b (cols / b) ∧ v = .tuple #[.int .u32 0, .int .i64 8] ∧
    M = [pts p (pipO dp ap x), pts q (pipO dp ap y), Dk dp d', Ar ap cap (mx peak (sumB bufs + (b * rows : Nat) + D.per d)) bufs])
theorem cut_sum (T : List UInt64) (a n : Nat) : more (sum (form (T.take a))) (form ((T.drop a).take n)) = sum (form (T.take (a + n))) := by
  unfold sum
  rw [← more_append, ← form_append]
  congr 2
  rw [List.take_add]
def turnL (rn p q dp ap bn bb sb vb : Nat) (d0 d' : D) (x y : X) (rows cols b m : Nat) (cap pk : Int) (bufs : List (Nat × Nat × Option Addr)) (ws : List UInt64) (mb : Nat) (TT : As) : List As :=
  [pts sb (.obj (.cells #[.int .i64 (rows : Int), .int .i64 (cols : Int)] 59)), pts rn (runO (sum (form ((trW d0 x rows cols).take (m * b * rows)))) (8 * (m * b * rows)) p q rows cols bn), pts bb (.row (wordVals ws) 60 mb),
    pts p (pipO dp ap x), pts q (pipO dp ap y), Dk dp d', Ar ap cap pk (bufs ++ [(bn, b * rows, some ⟨bb, 0, none⟩)]), pts vb (.row [.pointer (some ⟨bn, 0, none⟩)] 164 1), TT]
theorem run_loop (K : Value → Hp → Prop) {TT : As} {sb vb : Nat} {d : D} {rows cols b : Nat} (hok : Ok d) (hx : On d x) (hy : On d y) (ho : d.rd ≤ 2000000000000000000 ∧ d.wr ≤ 2000000000000000000) (hxw : x.w = rows * cols) (hyw : y.w = rows * cols) (hdis : x.f + x.s ≤ y.f ∨ y.f + y.s ≤ x.f) (hb1 : 1 ≤ b) (hbd : cols = cols / b * b) (hsz : rows * cols ≤ 4294967296) (hr1 : 1 ≤ rows) (hc1 : 1 ≤ cols)
    (hcap : (D.per d : Int) ≤ cap - sumB (bufs ++ [(bn, b * rows, some ⟨bb, 0, none⟩)])) (hbm : ∀ z ∈ bufs, z.1 ≠ bn)
    {P1 : Int} (hP1 : P1 = mx peak (sumB (bufs ++ [(bn, b * rows, some ⟨bb, 0, none⟩)]) + D.per d))
    (hK : ∀ d' H, TurnI d d' x y rows cols b (cols / b) → Sep [pts p (pipO dp ap x), pts q (pipO dp ap y), Dk dp d', Ar ap cap P1 bufs, TT] H → K (.tuple #[.int .u32 ((sum (form (trW d x rows cols))).toNat : Int), .int .i64 0]) H)
    (hK8 : ∀ d' H, Dead (inX y) d d' → d.fuse ≤ rT (D.per d) x.f y.f rows cols b (cols / b) + wT (D.per d) y.f rows b (cols / b) → Sep [pts p (pipO dp ap x), pts q (pipO dp ap y), Dk dp d', Ar ap cap P1 bufs, TT] H → K (.tuple #[.int .u32 0, .int .i64 8]) H) :
    ∀ (t m : Nat) (d' : D) (pk : Int) (ws : List UInt64) (H : Hp), m + t = cols / b → TurnI d d' x y rows cols b m → ws.length = b * rows → mx pk (sumB (bufs ++ [(bn, b * rows, some ⟨bb, 0, none⟩)]) + D.per d) = P1 → (m = 0 ∨ pk = P1) → Sep (turnL rn p q dp ap bn bb sb vb d d' x y rows cols b m cap pk bufs ws mb TT) H →
      W_turn_Run.l14 K (t + 1) ⟨sb, 0, none⟩ (b : Int) ⟨rn, 0, none⟩ ((m * b : Nat) : Int) (some ⟨ap, 0, none⟩) (some ⟨vb, 0, none⟩) 1 1 H := fun t => by
  have hp := Ok.per_le hok
  have hcc : cols / b * b * rows = rows * cols := by rw [← hbd, Nat.mul_comm]
  have hnb : cols / b ≤ cols := Nat.div_le_self _ _
  have hn1 : 1 ≤ cols / b := by
    have : cols / b ≠ 0 := fun h0 => by rw [h0, Nat.zero_mul] at hbd; omega
    exact Nat.pos_of_ne_zero this
  have hbr : b * rows ≤ rows * cols := by
    rw [← hcc, Nat.mul_assoc]
    exact Nat.le_mul_of_pos_left _ hn1
  have hcr : cols * 1 ≤ cols * rows := Nat.mul_le_mul_left cols hr1
  rw [Nat.mul_comm cols rows] at hcr
  have hbr1 : 1 * rows ≤ b * rows := Nat.mul_le_mul_right rows hb1
  have hbr2 : b * 1 ≤ b * rows := Nat.mul_le_mul_left b hr1
  have cnt : ∀ m, m ≤ cols / b → m * (2 * (b * rows)) ≤ 2 * (rows * cols) ∧ m * (b * rows) ≤ rows * cols := fun m hm => by
    have : m * (b * rows) ≤ rows * cols := by
      rw [← hcc, Nat.mul_assoc]; exact Nat.mul_le_mul_right _ hm
    refine ⟨?_, this⟩
    rw [Nat.mul_left_comm]; omega
  induction t with
  | zero =>
    intro m d' pk ws H hm hI hws hpk hip hs
    have hme : m = cols / b := by omega
    subst hme
    unfold turnL at hs
    unfold W_turn_Run.l14
    refine hs.ldf 0 rfl rfl ?_
    simp only [HV]
    rw [← hbd]
    refine BIf_dneg (Int.lt_irrefl _) ?_
    rw [Addr.add_zero]
    refine HCalls.use (CrcP.CSumG_s hs 1 rfl) ?_
    try simp only [HV]
    refine (Give_oneD vb bn (b * rows) (some ⟨bb, 0, none⟩) hbm).use hs [6, 7] rfl rfl ?_
    rintro _ _ H ⟨rfl, rfl⟩ hs
    rw [hcc, List.take_of_length_le (by rw [trW_len]; exact Nat.le_refl _)]
    rw [hip.resolve_left (by omega)] at hs
    exact hK d' H hI (hs.re [4, 5, 6, 0, 7] rfl)
  | succ t ih =>
    intro m d' pk ws H hm hI hws hpk hip hs
    have hmlt : m < cols / b := by omega
    have hmb : (m + 1) * b ≤ cols := by
      have h1 : (m + 1) * b ≤ cols / b * b := Nat.mul_le_mul_right b hmlt
      omega
    have hmb' := hmb
    rw [Nat.succ_mul] at hmb'
    have hper : D.per d' = D.per d := hI.pg.per
    have hxd := hx.prog hI.pg
    have hyd := hy.prog hI.pg
    have hrt := rT_le (D.per d) x.f y.f rows cols b m
    have hwt := wT_le (D.per d) y.f rows b m
    have hcnt := cnt m (by omega)
    have hrd := hI.pg.rd
    have hwr := hI.pg.wr
    unfold turnL at hs
    unfold W_turn_Run.l14
    refine hs.ldf 0 rfl rfl ?_
    simp only [HV]
    refine BIf_dpos (by omega) ?_
    refine (gather_tr (rn := rn) (p := p) (q := q) (dp := dp) (ap := ap) (bn := bn) (bb := bb) (s := sum (form ((trW d x rows cols).take (m * b * rows)))) (sk := 8 * (m * b * rows)) (x := x) (cap := cap) (peak := pk) (bufs := bufs ++ [(bn, b * rows, some ⟨bb, 0, none⟩)]) (mb := mb) (c := m * b) hI.pg.ok hI.pg.down hxd (by omega) hxw hb1 hmb' hsz hr1 (by rw [hper]; exact hcap) (List.mem_append_right _ (List.mem_singleton.2 rfl)) ws hws).use hs [1, 2, 3, 5, 6] rfl rfl ?_
    rintro v M H (⟨hgo, rfl, rfl⟩ | ⟨d2, hdd, hfu, rfl, rfl⟩) hs
    case inr =>
      simp only [HV]
      refine BIf_bnep (by decide) ?_
      refine (Give_oneD vb bn (b * rows) (some ⟨bb, 0, none⟩) hbm).use hs [3, 6] rfl rfl ?_
      rintro _ _ H ⟨rfl, rfl⟩ hs
      rw [hper, hpk] at hs
      refine hK8 d2 H (hI.pg.dead (hdd.mono fun _ h => h.elim)) ?_ (hs.re [2, 5, 3, 0, 6] rfl)
      have z1 := hI.pg.fuse; have z2 := hI.pg.go
      have z3 := rT_mono (D.per d) x.f y.f rows cols b (show m + 1 ≤ cols / b by omega)
      have z4 := wT_mono (D.per d) y.f rows b (show m + 1 ≤ cols / b by omega)
      rw [rT_succ] at z3
      rw [wT_succ] at z4
      rw [hper] at hfu
      omega
    simp only [HV]
    refine BIf_bnen rfl ?_
    rw [hper, hpk, band_words d d' x (by omega) hmb' (fun k hk => hI.src k (by rw [hxw]; exact hk))] at hs
    have hg := Prog.rdG (inX y) hI.pg.ok hI.pg.down hgo
    rw [hper] at hg hgo
    have hpg1 := hI.pg.trans hg
    have hper1 : D.per (D.rdG d' (gR (D.per d) x.f cols (m * b) b rows)) = D.per d := hper
    generalize hbw : ((trW d x rows cols).drop (m * b * rows)).take (b * rows) = bw at *
    have hmr : m * b * rows + b * rows ≤ rows * cols := by
      have h1 : (m * b + b) * rows ≤ cols * rows := Nat.mul_le_mul_right rows hmb'
      rw [Nat.add_mul, Nat.mul_comm cols rows] at h1
      exact h1
    have hbl : bw.length = b * rows := by
      rw [← hbw, List.length_take, List.length_drop, trW_len]; omega
    have hgl := gR_le (D.per d) x.f cols (m * b) b rows
    have hcomm := Nat.mul_comm rows b
    refine (lay_tr (rn := rn) (p := p) (q := q) (dp := dp) (ap := ap) (bn := bn) (bb := bb) (s := sum (form ((trW d x rows cols).take (m * b * rows)))) (sk := 8 * (m * b * rows)) (y := y) (rows := rows) (cols := cols) (c := m * b) (cap := cap) (peak := P1) (bufs := bufs ++ [(bn, b * rows, some ⟨bb, 0, none⟩)]) (mb := mb) (ws := bw) (d := D.rdG d' (gR (D.per d) x.f cols (m * b) b rows)) hpg1.ok hpg1.down (hy.prog hpg1) ⟨by show d'.rd + _ ≤ _; omega, by show d'.wr ≤ _; omega⟩ (by omega) (by rw [hbl, hyw]; exact hmr) (by omega) (by omega) (by rw [hper1]; exact hcap) (by rw [hbl]; exact List.mem_append_right _ (List.mem_singleton.2 rfl))).use hs [0, 1, 6, 3, 4] rfl rfl ?_
    have hPP : mx P1 (sumB (bufs ++ [(bn, b * rows, some ⟨bb, 0, none⟩)]) + D.per d) = P1 := by rw [hP1, mx_mx]
    rintro v M H hQ hs
    unfold layP at hQ
    rw [hper1, hbl] at hQ
    rcases hQ with (⟨hpg2, rfl, rfl⟩ | ⟨d2, hdd, hfu, rfl, rfl⟩)
    case inr =>
      simp only [HV]
      refine BIf_bnep (by decide) ?_
      refine (Give_oneD vb bn (b * rows) (some ⟨bb, 0, none⟩) hbm).use hs [2, 5] rfl rfl ?_
      rintro _ _ H ⟨rfl, rfl⟩ hs
      rw [hPP] at hs
      refine hK8 d2 H (hpg1.dead hdd) ?_ (hs.re [3, 1, 2, 0, 5] rfl)
      have z1 := hpg1.fuse; have z2 := hpg1.go
      have z3 := rT_mono (D.per d) x.f y.f rows cols b (show m + 1 ≤ cols / b by omega)
      have z4 := wT_mono (D.per d) y.f rows b (show m + 1 ≤ cols / b by omega)
      rw [rT_succ] at z3
      rw [wT_succ] at z4
      omega
    simp only [HV]
    refine BIf_bnen rfl ?_
    have hpg3 := hpg1.trans hpg2
    have hrT : rT (D.per d) x.f y.f rows cols b m + gR (D.per d) x.f cols (m * b) b rows + pcsR (D.per d) y.f (b * rows) (m * b * rows) (b * rows) = rT (D.per d) x.f y.f rows cols b (m + 1) := by rw [rT_succ]; omega
    have hwT : wT (D.per d) y.f rows b m + 0 + (pcs (D.per d) y.f (b * rows) (m * b * rows) (b * rows)).length = wT (D.per d) y.f rows b (m + 1) := by rw [wT_succ]; omega
    rw [hrT, hwT] at hpg3
    have hok1 : Ok (D.rdG d' (gR (D.per d) x.f cols (m * b) b rows)) := hpg1.ok
    have hpw := fun k => wrsG_pw y hok1 (m * b * rows) bw k
    rw [hbl] at hpw
    have hI2 : TurnI d (wrsG (D.rdG d' (gR (D.per d) x.f cols (m * b) b rows)) y (b * rows) (m * b * rows) bw) x y rows cols b (m + 1) := by
      refine ⟨hpg3, fun k hk => hpg3.pw hok hx (fun i hi => ?_) hk, fun k hk => ?_⟩
      · unfold inX at hi; omega
      · rw [hpw k]
        have hk2 : k < m * b * rows + b * rows := by
          rw [Nat.succ_mul, Nat.add_mul] at hk; exact hk
        by_cases h1 : m * b * rows ≤ k
        · rw [if_pos ⟨h1, hk2⟩, ← hbw, List.getElem?_take_of_lt (by omega), List.getElem?_drop, show m * b * rows + (k - m * b * rows) = k by omega]
          unfold trW
          rw [List.getElem?_map, List.getElem?_range (by omega)]; rfl
        · rw [if_neg (by omega)]
          have := hI.dst k (by omega)
          exact this
    have hcs := cut_sum (trW d x rows cols) (m * b * rows) (b * rows)
    rw [hbw] at hcs
    have htk : m * b * rows + b * rows = (m + 1) * b * rows := by rw [Nat.succ_mul, Nat.add_mul]
    have hsk : 8 * (m * b * rows) + 8 * (b * rows) = 8 * ((m + 1) * b * rows) := by rw [← htk]; omega
    rw [hcs, hsk, htk, hPP] at hs
    rw [show IntKind.i64.wrap (((m * b : Nat) : Int) + (b : Int)) = (((m + 1) * b : Nat) : Int) by rw [show (((m * b : Nat) : Int) + (b : Int)) = (((m + 1) * b : Nat) : Int) by rw [Nat.succ_mul]; omega, i64n (by omega)]]
    refine ih (m + 1) _ P1 bw H (by omega) hI2 hbl hPP (.inr rfl) ?_
    exact hs.re [6, 0, 1, 5, 2, 3, 4, 7, 8] rfl
end
end Go.Proofs.YtnknippcbecmeaaGreatDoor.Trn
end
section
/- Formulas of functions, printed by wip/tools/hwp.py. -/
namespace Go.Proofs.YtnknippcbecmeaaGreatDoor.W
open Go Go.Hw
theorem mixWpass : Tryz.prog.follows .mixedOrders = true := by kernel_rfl
def W_pass_Cost (x1 : Int) (x2 : Int) (x3 : Int) (x4 : Int) (H : Hp) (K : Value → Hp → Prop) : Prop :=
  Nw H (.obj (.cells #[.int .i64 x1, .int .i64 x2] 59)) fun b1 H1 => Nw H1 (.obj (.cells #[.int .i64 0, .int .i64 0, .int .i64 0] 43)) fun b2 H2 => LdA H2 (⟨b1, 0, none⟩ : Addr) 2 fun l1 => HCalls Tryz.prog 92 #[.agg l1.toArray, .int .i64 x3, .int .i64 x4] H2 fun v1 H3 => DTup v1 fun l2 => DCons l2 fun v2 l3 => DI .i64 v2 fun x5 => DCons l3 fun v3 l4 => DB v3 fun c1 => DNil l4 (BIf (!c1) (StA H3 (⟨b2, 0, none⟩ : Addr) #[.int .i64 0, .int .i64 0, .int .i64 0] 3 fun H4 => LdA H4 (⟨b2, 0, none⟩ : Addr) 3 fun l7 => K (.tuple #[.agg l7.toArray, .int .i64 6]) H4) (Ld H3 ((⟨b1, 0, none⟩ : Addr).add 0) fun v4 => DI .i64 v4 fun x6 => (x5 ≠ 0 ∧ IntKind.i64 = IntKind.i64 ∧ Ld H3 ((⟨b1, 0, none⟩ : Addr).add 1) fun v5 => DI .i64 v5 fun x7 => (x3 ≠ 0 ∧ IntKind.i64 = IntKind.i64 ∧ Nw H3 (.obj (.cells #[.int .i64 0, .int .i64 0, .int .i64 0] 43)) fun b3 H5 => StA H5 (⟨b3, 0, none⟩ : Addr) #[.int .i64 (IntKind.i64.wrap ((IntKind.i64.wrap (Int.tdiv x6 x5)) * (if (IntKind.i64.wrap (Int.tdiv (IntKind.i64.wrap (x5 * x7)) x3)) > (1 : Int) then (IntKind.i64.wrap (Int.tdiv (IntKind.i64.wrap (x5 * x7)) x3)) else (1 : Int)))), .int .i64 (IntKind.i64.wrap ((IntKind.i64.wrap (Int.tdiv x6 x5)) * (if (IntKind.i64.wrap (Int.tdiv (IntKind.i64.wrap (x5 * x7)) x3)) > (1 : Int) then (IntKind.i64.wrap (Int.tdiv (IntKind.i64.wrap (x5 * x7)) x3)) else (1 : Int)))), .int .i64 0] 3 fun H6 => Ld H6 ((⟨b1, 0, none⟩ : Addr).add 1) fun v6 => DI .i64 v6 fun x8 => BIf (decide ((IntKind.i64.wrap (x5 * x8)) < x3)) (Ld H6 ((⟨b3, 0, none⟩ : Addr).add 0) fun v7 => DI .i64 v7 fun x9 => St H6 (((⟨b3, 0, none⟩ : Addr).add 0).add 0) (.int .i64 (IntKind.i64.wrap (x9 + (IntKind.i64.wrap (Int.tdiv x6 x5))))) fun H7 => LdA H7 (⟨b3, 0, none⟩ : Addr) 3 fun l5 => StA H7 (⟨b2, 0, none⟩ : Addr) l5.toArray 3 fun H8 => LdA H8 (⟨b2, 0, none⟩ : Addr) 3 fun l8 => K (.tuple #[.agg l8.toArray, .int .i64 0]) H8) (LdA H6 (⟨b3, 0, none⟩ : Addr) 3 fun l6 => StA H6 (⟨b2, 0, none⟩ : Addr) l6.toArray 3 fun H9 => LdA H9 (⟨b2, 0, none⟩ : Addr) 3 fun l9 => K (.tuple #[.agg l9.toArray, .int .i64 0]) H9)))))
theorem W_pass_Cost.ok (x1 : Int) (x2 : Int) (x3 : Int) (x4 : Int) (H : Hp) (K : Value → Hp → Prop) (h : W_pass_Cost x1 x2 x3 x4 H K) : HCalls Tryz.prog 53 #[.agg #[.int .i64 x1, .int .i64 x2], .int .i64 x3, .int .i64 x4] H K :=
  hcalls Tryz.func53 rfl (Nat.le_of_ble_eq_true rfl) (hw_safe (Λ := Cuts.none (fun _ => none)) mixWpass _ _ _ _ _ (Eq.mp (by kernel_rfl) h) (obs_none _ _ _ _ _))
def W_pass_Batch.l4 (K : Value → Hp → Prop) : Nat → Int → Int → Addr → Int → Hp → Prop
  | 0, _, _, _, _, _ => False
  | k + 1, x7, x8, a1, x9, H =>
    let R4 := W_pass_Batch.l4 K k
    Ld H (a1.add 0) fun v4 => DI .i64 v4 fun x10 => BIf (decide ((IntKind.i64.wrap ((2 : Int) * x9)) ≤ x10)) (Ld H (a1.add 1) fun v5 => DI .i64 v5 fun x11 => (x11 ≠ 0 ∧ IntKind.i64 = IntKind.i64 ∧ BIf (decide ((IntKind.i64.wrap ((IntKind.i64.wrap ((2 : Int) * x9)) + (1 : Int))) ≤ (IntKind.i64.wrap (Int.tdiv (IntKind.i64.wrap (x8 - x7)) x11)))) (R4 x7 x8 a1 (IntKind.i64.wrap (x9 * (2 : Int))) H) (K (.tuple #[.int .i64 x9, .bool true]) H))) (K (.tuple #[.int .i64 x9, .bool true]) H)
def W_pass_Batch (x1 : Int) (x2 : Int) (x3 : Int) (x4 : Int) (H : Hp) (K : Value → Hp → Prop) : Prop :=
  Nw H (.obj (.cells #[.int .i64 x1, .int .i64 x2] 59)) fun b1 H1 => LdA H1 (⟨b1, 0, none⟩ : Addr) 2 fun l1 => HCalls Tryz.prog 132 #[.agg l1.toArray] H1 fun v1 H2 => DB v1 fun c1 => BIf (!c1) (K (.tuple #[.int .i64 0, .bool false]) H2) (Ld H2 ((⟨b1, 0, none⟩ : Addr).add 1) fun v2 => DI .i64 v2 fun x5 => BIf (decide (x5 > (1048576 : Int))) (K (.tuple #[.int .i64 0, .bool false]) H2) (BIf (decide (x3 < (4 : Int))) (K (.tuple #[.int .i64 0, .bool false]) H2) (BIf (decide (x3 > (512 : Int))) (K (.tuple #[.int .i64 0, .bool false]) H2) (BIf ((bAnd .i64 x3 (IntKind.i64.wrap (x3 - (1 : Int)))) != (0 : Int)) (K (.tuple #[.int .i64 0, .bool false]) H2) (BIf (decide (x4 < x3)) (K (.tuple #[.int .i64 0, .bool false]) H2) (Ld H2 ((⟨b1, 0, none⟩ : Addr).add 1) fun v3 => DI .i64 v3 fun x6 => BIf (decide ((IntKind.i64.wrap (x4 - x3)) < (IntKind.i64.wrap ((2 : Int) * x6)))) (K (.tuple #[.int .i64 0, .bool false]) H2) ((∃ k, W_pass_Batch.l4 K k x3 x4 (⟨b1, 0, none⟩ : Addr) (1 : Int) H2))))))))
def W_pass_Batch.l4.L (K : Value → Hp → Prop) (k : Nat) : Mid := fun E D H =>
  eI E 1 .i64 fun x7 => eI E 2 .i64 fun x8 => eN E 3 fun a1 => eI E 6 .i64 fun x9 => DNilD D (W_pass_Batch.l4 K k x7 x8 a1 x9 H)
def W_pass_Batch.Λ4 (_ : Value → Hp → Prop) (_R4 : Int → Int → Addr → Int → Hp → Prop) : Cuts := Cuts.none (fun _ => none)
def W_pass_Batch.Λ (K : Value → Hp → Prop) : Cuts := ⟨fun i => none, fun i => match Nat.beq i 4 with | true => some (fun E D H => ∃ k, W_pass_Batch.l4.L K k E D H) | false => none, (fun _ => none)⟩
theorem W_pass_Batch.ok (x1 : Int) (x2 : Int) (x3 : Int) (x4 : Int) (H : Hp) (K : Value → Hp → Prop) (h : W_pass_Batch x1 x2 x3 x4 H K) : HCalls Tryz.prog 92 #[.agg #[.int .i64 x1, .int .i64 x2], .int .i64 x3, .int .i64 x4] H K :=
  hcalls Tryz.func92 rfl (Nat.le_of_ble_eq_true rfl) (hw_safe (Λ := (W_pass_Batch.Λ K)) mixWpass _ _ _ _ _ (Eq.mp (by kernel_rfl) h) (obs_seq obs_region rfl (obs_seq (obs_seq obs_region rfl (obs_cond (obs_seq obs_region rfl obs_ret) obs_skip)) rfl (obs_seq obs_region rfl (obs_seq (obs_block (obs_loop rfl (fun E D H h => by
      refine Safe.loop' (W_pass_Batch.l4.L K) (fun E D H h => ?_) (fun k E D H h => ?_) E D H h
      · obtain ⟨w1, e1, g1⟩ := DG.out h; obtain ⟨x7, rfl, g2⟩ := DI.out g1; obtain ⟨w2, e2, g3⟩ := DG.out g2; obtain ⟨x8, rfl, g4⟩ := DI.out g3; obtain ⟨w3, e3, g5⟩ := DG.out g4; obtain ⟨pw3, rfl, g6⟩ := DP.out g5; obtain ⟨a1, rfl, g7⟩ := NN.out g6; obtain ⟨w6, e6, g8⟩ := DG.out g7; obtain ⟨x9, rfl, g9⟩ := DI.out g8; obtain ⟨rfl, h'⟩ := DNilD.out g9; exact h'
      · obtain ⟨x7, e1, g2⟩ := GI h
        obtain ⟨x8, e2, g4⟩ := GI g2; obtain ⟨a1, e3, g7⟩ := GN g4; obtain ⟨x9, e6, g9⟩ := GI g7; obtain ⟨rfl, h'⟩ := DNilD.out g9
        exact (hw_safe (Λ := (W_pass_Batch.Λ4 K (W_pass_Batch.l4 K k))) mixWpass _ _ [(1, .int .i64 x7), (2, .int .i64 x8), (3, .pointer (some a1)), (6, .int .i64 x9)] [] H (Eq.mp (by kernel_rfl) h') (obs_seq (obs_seq obs_region rfl (obs_cond obs_skip obs_exit)) rfl (obs_block obs_region))).weaken (EnvLe.cons e1 (EnvLe.cons e2 (EnvLe.cons e3 (EnvLe.cons e6 (EnvLe.nil _))))) (Hp.le_refl _)))) rfl (obs_seq obs_region rfl obs_ret))))))
def W_pass_Run.l17 (K : Value → Hp → Prop) : Nat → Option Addr → Option Addr → Addr → Int → Option Addr → Addr → Int → Option Addr → Option Addr → Nat → Nat → Option Addr → Option Addr → Nat → Nat → Hp → Prop
  | 0, _, _, _, _, _, _, _, _, _, _, _, _, _, _, _, _ => False
  | k + 1, p16, p17, a4, x46, p18, a5, x47, p19, A3, n3, m3, p20, A4, n4, m4, H =>
    let R17 := W_pass_Run.l17 K k
    Ld H ((a4.add 0).add 0) fun v50 => DI .i64 v50 fun x48 => BIf (decide (x47 < x48)) (HCalls Tryz.prog 86 #[.pointer p18] H fun v51 H21 => DSl v51 fun A5 n5 m5 => HCalls Tryz.prog 140 #[.pointer (some a5), .pointer p16, .pointer p17, .slice A5 n5 m5, .int .i64 x47] H21 fun v52 H22 => DI .i64 v52 fun x49 => BIf (x49 != (0 : Int)) (HCallsD Tryz.prog 84 #[.pointer p19, .slice A3 n3 m3] H22 fun _ H25 => HCallsD Tryz.prog 84 #[.pointer p20, .slice A4 n4 m4] H25 fun _ H26 => K (.tuple #[.int .u32 0, .int .i64 x49]) H26) (R17 p16 p17 a4 x46 p18 a5 (IntKind.i64.wrap (x47 + x46)) p19 A3 n3 m3 p20 A4 n4 m4 H22)) (HCalls Tryz.prog 96 #[.pointer (some (a5.add 0))] H fun v53 H23 => DI .u32 v53 fun x50 => HCallsD Tryz.prog 84 #[.pointer p19, .slice A3 n3 m3] H23 fun _ H27 => HCallsD Tryz.prog 84 #[.pointer p20, .slice A4 n4 m4] H27 fun _ H28 => K (.tuple #[.int .u32 x50, .int .i64 0]) H28)
def W_pass_Run.j16 (K : Value → Hp → Prop) (p11 : Option Addr) (p12 : Option Addr) (a2 : Addr) (x45 : Int) (p13 : Option Addr) (a3 : Addr) (p14 : Option Addr) (A1 : Option Addr) (n1 : Nat) (m1 : Nat) (p15 : Option Addr) (A2 : Option Addr) (n2 : Nat) (m2 : Nat) (H : Hp) : Prop :=
  (∃ k, W_pass_Run.l17 K k p11 p12 a2 x45 p13 a3 (0 : Int) p14 A1 n1 m1 p15 A2 n2 m2 H)
def W_pass_Run (p1 : Option Addr) (p2 : Option Addr) (x1 : Int) (x2 : Int) (x3 : Int) (x4 : Int) (x5 : Int) (p3 : Option Addr) (x6 : Int) (H : Hp) (K : Value → Hp → Prop) : Prop :=
  Nw H (.obj (.cells #[.int .i64 x1, .int .i64 x2, .int .i64 x3, .int .i64 x4, .int .u64 x5] 62)) fun b1 H1 => LdA H1 (⟨b1, 0, none⟩ : Addr) 5 fun l1 => HCalls Tryz.prog 137 #[.pointer p1, .pointer p2, .agg l1.toArray, .pointer p3] H1 fun v1 H2 => DI .i64 v1 fun x7 => BIf (x7 != (0 : Int)) (K (.tuple #[.int .u32 0, .int .i64 x7]) H2) (LdA H2 ((⟨b1, 0, none⟩ : Addr).add 0) 2 fun l2 => NN p3 fun a1 => QCall Tryz.prog 128 #[.pointer (some (a1.add 0))] H2 fun v2 => DI .i64 v2 fun x8 => QCall Tryz.prog 92 #[.agg l2.toArray, .int .i64 x6, .int .i64 x8] H2 fun v3 => DTup v3 fun l3 => DCons l3 fun v4 l4 => DI .i64 v4 fun x9 => DCons l4 fun v5 l5 => DB v5 fun c1 => DNil l5 (BIf (!c1) (K (.tuple #[.int .u32 0, .int .i64 6]) H2) (Ld H2 (((⟨b1, 0, none⟩ : Addr).add 0).add 1) fun v6 => DI .i64 v6 fun x10 => HCalls Tryz.prog 82 #[.pointer p3, .int .i64 (IntKind.i64.wrap (x9 * x10))] H2 fun v7 H3 => DTup v7 fun l6 => DCons l6 fun v8 l7 => DP v8 fun p4 => DCons l7 fun v9 l8 => DI .i64 v9 fun x11 => DNil l8 (BIf (x11 != (0 : Int)) (K (.tuple #[.int .u32 0, .int .i64 x11]) H3) (Nw H3 (.row [.pointer p4] 164 1) fun b2 H4 => Ld H4 (((⟨b1, 0, none⟩ : Addr).add 0).add 1) fun v10 => DI .i64 v10 fun x12 => HCalls Tryz.prog 82 #[.pointer p3, .int .i64 x12] H4 fun v11 H5 => DTup v11 fun l9 => DCons l9 fun v12 l10 => DP v12 fun p5 => DCons l10 fun v13 l11 => DI .i64 v13 fun x13 => DNil l11 (BIf (x13 != (0 : Int)) (HCallsD Tryz.prog 84 #[.pointer p3, .slice (some ⟨b2, 0, none⟩) 1 1] H5 fun _ H24 => K (.tuple #[.int .u32 0, .int .i64 x13]) H24) (Nw H5 (.row [.pointer p5] 164 1) fun b3 H6 => (LdA H6 (⟨b1, 0, none⟩ : Addr) 5 fun l12 => Ld H6 (((⟨b1, 0, none⟩ : Addr).add 0).add 1) fun v14 => DI .i64 v14 fun x14 => HCalls Tryz.prog 139 #[.int .u64 (IntKind.u64.wrap x14)] H6 fun v15 H7 => DI .i64 v15 fun x15 => HCalls Tryz.prog 138 #[.int .i64 x15] H7 fun v16 H8 => DP v16 fun p6 => DCons l12.toArray.toList fun v17 l13 => DI .i64 v17 fun x16 => DCons l13 fun v18 l14 => DI .i64 v18 fun x17 => DCons l14 fun v19 l15 => DI .i64 v19 fun x18 => DCons l15 fun v20 l16 => DI .i64 v20 fun x19 => DCons l16 fun v21 l17 => DI .u64 v21 fun x20 => DNil l17 (Nw H8 (.obj (.cells #[.int .u32 0, .int .i64 0, .int .i64 x16, .int .i64 x17, .int .i64 x18, .int .i64 x19, .int .u64 x20, .pointer p6] 231)) fun b4 H9 => W_pass_Run.j16 K p1 p2 (⟨b1, 0, none⟩ : Addr) x9 p4 (⟨b4, 0, none⟩ : Addr) p3 (some ⟨b3, 0, none⟩) 1 1 p3 (some ⟨b2, 0, none⟩) 1 1 H9)) ∧ (Ld H6 (((⟨b1, 0, none⟩ : Addr).add 0).add 1) fun v22 => DI .i64 v22 fun x21 => (LdA H6 (⟨b1, 0, none⟩ : Addr) 5 fun l18 => HCalls Tryz.prog 139 #[.int .u64 (IntKind.u64.wrap x21)] H6 fun v23 H10 => DI .i64 v23 fun x22 => HCalls Tryz.prog 138 #[.int .i64 x22] H10 fun v24 H11 => DP v24 fun p7 => DCons l18.toArray.toList fun v25 l19 => DI .i64 v25 fun x23 => DCons l19 fun v26 l20 => DI .i64 v26 fun x24 => DCons l20 fun v27 l21 => DI .i64 v27 fun x25 => DCons l21 fun v28 l22 => DI .i64 v28 fun x26 => DCons l22 fun v29 l23 => DI .u64 v29 fun x27 => DNil l23 (Nw H11 (.obj (.cells #[.int .u32 0, .int .i64 0, .int .i64 x23, .int .i64 x24, .int .i64 x25, .int .i64 x26, .int .u64 x27, .pointer p7] 231)) fun b5 H12 => W_pass_Run.j16 K p1 p2 (⟨b1, 0, none⟩ : Addr) x9 p4 (⟨b5, 0, none⟩ : Addr) p3 (some ⟨b3, 0, none⟩) 1 1 p3 (some ⟨b2, 0, none⟩) 1 1 H12)) ∧ ((LdA H6 (⟨b1, 0, none⟩ : Addr) 5 fun l24 => HCalls Tryz.prog 139 #[.int .u64 (IntKind.u64.wrap x21)] H6 fun v30 H13 => DI .i64 v30 fun x28 => HCalls Tryz.prog 138 #[.int .i64 x28] H13 fun v31 H14 => DP v31 fun p8 => DCons l24.toArray.toList fun v32 l25 => DI .i64 v32 fun x29 => DCons l25 fun v33 l26 => DI .i64 v33 fun x30 => DCons l26 fun v34 l27 => DI .i64 v34 fun x31 => DCons l27 fun v35 l28 => DI .i64 v35 fun x32 => DCons l28 fun v36 l29 => DI .u64 v36 fun x33 => DNil l29 (Nw H14 (.obj (.cells #[.int .u32 0, .int .i64 0, .int .i64 x29, .int .i64 x30, .int .i64 x31, .int .i64 x32, .int .u64 x33, .pointer p8] 231)) fun b6 H15 => W_pass_Run.j16 K p1 p2 (⟨b1, 0, none⟩ : Addr) x9 p4 (⟨b6, 0, none⟩ : Addr) p3 (some ⟨b3, 0, none⟩) 1 1 p3 (some ⟨b2, 0, none⟩) 1 1 H15)) ∧ (HCalls Tryz.prog 139 #[.int .u64 (IntKind.u64.wrap x21)] H6 fun v37 H16 => DI .i64 v37 fun x34 => (LdA H16 (⟨b1, 0, none⟩ : Addr) 5 fun l30 => HCalls Tryz.prog 138 #[.int .i64 x34] H16 fun v38 H17 => DP v38 fun p9 => DCons l30.toArray.toList fun v39 l31 => DI .i64 v39 fun x35 => DCons l31 fun v40 l32 => DI .i64 v40 fun x36 => DCons l32 fun v41 l33 => DI .i64 v41 fun x37 => DCons l33 fun v42 l34 => DI .i64 v42 fun x38 => DCons l34 fun v43 l35 => DI .u64 v43 fun x39 => DNil l35 (Nw H17 (.obj (.cells #[.int .u32 0, .int .i64 0, .int .i64 x35, .int .i64 x36, .int .i64 x37, .int .i64 x38, .int .u64 x39, .pointer p9] 231)) fun b7 H18 => W_pass_Run.j16 K p1 p2 (⟨b1, 0, none⟩ : Addr) x9 p4 (⟨b7, 0, none⟩ : Addr) p3 (some ⟨b3, 0, none⟩) 1 1 p3 (some ⟨b2, 0, none⟩) 1 1 H18)) ∧ (HCalls Tryz.prog 138 #[.int .i64 x34] H16 fun v44 H19 => DP v44 fun p10 => LdA H19 (⟨b1, 0, none⟩ : Addr) 5 fun l36 => DCons l36.toArray.toList fun v45 l37 => DI .i64 v45 fun x40 => DCons l37 fun v46 l38 => DI .i64 v46 fun x41 => DCons l38 fun v47 l39 => DI .i64 v47 fun x42 => DCons l39 fun v48 l40 => DI .i64 v48 fun x43 => DCons l40 fun v49 l41 => DI .u64 v49 fun x44 => DNil l41 (Nw H19 (.obj (.cells #[.int .u32 0, .int .i64 0, .int .i64 x40, .int .i64 x41, .int .i64 x42, .int .i64 x43, .int .u64 x44, .pointer p10] 231)) fun b8 H20 => W_pass_Run.j16 K p1 p2 (⟨b1, 0, none⟩ : Addr) x9 p4 (⟨b8, 0, none⟩ : Addr) p3 (some ⟨b3, 0, none⟩) 1 1 p3 (some ⟨b2, 0, none⟩) 1 1 H20))))))))))))
def W_pass_Run.l17.L (K : Value → Hp → Prop) (k : Nat) : Mid := fun E D H =>
  eP E 0 fun p16 => eP E 1 fun p17 => eN E 7 fun a4 => eI E 13 .i64 fun x46 => eP E 15 fun p18 => eN E 17 fun a5 => eI E 18 .i64 fun x47 => DDef 84 D fun dc0 da0 D1 => DNil dc0 (DCons da0 fun u0da0 r0da0 => DP u0da0 fun p19 => DCons r0da0 fun u1da0 r1da0 => DSl u1da0 fun A3 n3 m3 => DNil r1da0 (DDef 84 D1 fun dc1 da1 D2 => DNil dc1 (DCons da1 fun u0da1 r0da1 => DP u0da1 fun p20 => DCons r0da1 fun u1da1 r1da1 => DSl u1da1 fun A4 n4 m4 => DNil r1da1 (DNilD D2 (W_pass_Run.l17 K k p16 p17 a4 x46 p18 a5 x47 p19 A3 n3 m3 p20 A4 n4 m4 H)))))
def W_pass_Run.Λ17 (_ : Value → Hp → Prop) (_R17 : Option Addr → Option Addr → Addr → Int → Option Addr → Addr → Int → Option Addr → Option Addr → Nat → Nat → Option Addr → Option Addr → Nat → Nat → Hp → Prop) : Cuts := Cuts.none (fun i => match Nat.beq i 15 with | true => some ([], [0, 0, 2, 6, 14, 30, 62, 127, 255, 511], 0) | false => none)
def W_pass_Run.Λ (K : Value → Hp → Prop) : Cuts := ⟨fun i => match Nat.beq i 16 with | true => some (fun E D H => eP E 0 fun p11 => eP E 1 fun p12 => eN E 7 fun a2 => eI E 13 .i64 fun x45 => eP E 15 fun p13 => eN E 17 fun a3 => DDef 84 D fun dc0 da0 D1 => DNil dc0 (DCons da0 fun u0da0 r0da0 => DP u0da0 fun p14 => DCons r0da0 fun u1da0 r1da0 => DSl u1da0 fun A1 n1 m1 => DNil r1da0 (DDef 84 D1 fun dc1 da1 D2 => DNil dc1 (DCons da1 fun u0da1 r0da1 => DP u0da1 fun p15 => DCons r0da1 fun u1da1 r1da1 => DSl u1da1 fun A2 n2 m2 => DNil r1da1 (DNilD D2 (W_pass_Run.j16 K p11 p12 a2 x45 p13 a3 p14 A1 n1 m1 p15 A2 n2 m2 H)))))) | false => none, fun i => match Nat.beq i 17 with | true => some (fun E D H => ∃ k, W_pass_Run.l17.L K k E D H) | false => none, (fun i => match Nat.beq i 15 with | true => some ([], [0, 0, 2, 6, 14, 30, 62, 127, 255, 511], 0) | false => none)⟩
theorem W_pass_Run.ok (p1 : Option Addr) (p2 : Option Addr) (x1 : Int) (x2 : Int) (x3 : Int) (x4 : Int) (x5 : Int) (p3 : Option Addr) (x6 : Int) (H : Hp) (K : Value → Hp → Prop) (h : W_pass_Run p1 p2 x1 x2 x3 x4 x5 p3 x6 H K) : HCalls Tryz.prog 98 #[.pointer p1, .pointer p2, .agg #[.int .i64 x1, .int .i64 x2, .int .i64 x3, .int .i64 x4, .int .u64 x5], .pointer p3, .int .i64 x6] H K :=
  hcalls Tryz.func98 rfl (Nat.le_of_ble_eq_true rfl) (hw_safe (Λ := (W_pass_Run.Λ K)) mixWpass _ _ _ _ _ (Eq.mp (by kernel_rfl) h) (obs_seq obs_region rfl (obs_seq (obs_seq obs_region rfl (obs_seq obs_region rfl (obs_cond (obs_seq obs_region rfl obs_ret) obs_skip))) rfl (obs_seq obs_region rfl (obs_seq (obs_seq obs_region rfl (obs_cond (obs_seq obs_region rfl obs_ret) obs_skip)) rfl (obs_seq obs_region rfl (obs_seq (obs_seq obs_region rfl (obs_cond (obs_seq obs_region rfl obs_ret) obs_skip)) rfl (obs_seq obs_region rfl (obs_seq obs_region rfl (obs_seq (obs_seq obs_region rfl (obs_cond (obs_seq obs_region rfl obs_ret) obs_skip)) rfl (obs_seq obs_region rfl (obs_seqc obs_region rfl (fun E D H h => by
      obtain ⟨p11, e0, g2⟩ := GP h; obtain ⟨p12, e1, g4⟩ := GP g2; obtain ⟨a2, e7, g7⟩ := GN g4; obtain ⟨x45, e13, g9⟩ := GI g7; obtain ⟨p13, e15, g11⟩ := GP g9; obtain ⟨a3, e17, g14⟩ := GN g11; obtain ⟨dc0, da0, D1, rfl, g15⟩ := DDef.out g14
      obtain ⟨rfl, g16⟩ := DNil.out g15
      obtain ⟨u0da0, r0da0, rfl, g17⟩ := DCons.out g16
      obtain ⟨p14, rfl, g18⟩ := DP.out g17
      obtain ⟨u1da0, r1da0, rfl, g19⟩ := DCons.out g18
      obtain ⟨A1, n1, m1, rfl, g20⟩ := DSl.out g19
      obtain ⟨rfl, g21⟩ := DNil.out g20
      obtain ⟨dc1, da1, D2, rfl, g22⟩ := DDef.out g21
      obtain ⟨rfl, g23⟩ := DNil.out g22
      obtain ⟨u0da1, r0da1, rfl, g24⟩ := DCons.out g23
      obtain ⟨p15, rfl, g25⟩ := DP.out g24
      obtain ⟨u1da1, r1da1, rfl, g26⟩ := DCons.out g25
      obtain ⟨A2, n2, m2, rfl, g27⟩ := DSl.out g26
      obtain ⟨rfl, g28⟩ := DNil.out g27
      obtain ⟨rfl, h'⟩ := DNilD.out g28
      exact (hw_safe (Λ := (W_pass_Run.Λ K)) mixWpass _ _ [(0, .pointer p11), (1, .pointer p12), (7, .pointer (some a2)), (13, .int .i64 x45), (15, .pointer p13), (17, .pointer (some a3))] [{ target := .fn (.func 84) #[], args := #[.pointer p14, .slice A1 n1 m1] }, { target := .fn (.func 84) #[], args := #[.pointer p15, .slice A2 n2 m2] }] H (Eq.mp (by kernel_rfl) h') (obs_seq (obs_seq obs_region rfl (obs_block (obs_loop rfl (fun E D H h => by
          refine Safe.loop' (W_pass_Run.l17.L K) (fun E D H h => ?_) (fun k E D H h => ?_) E D H h
          · obtain ⟨w0, e0, g1⟩ := DG.out h; obtain ⟨p16, rfl, g2⟩ := DP.out g1; obtain ⟨w1, e1, g3⟩ := DG.out g2; obtain ⟨p17, rfl, g4⟩ := DP.out g3; obtain ⟨w7, e7, g5⟩ := DG.out g4; obtain ⟨pw7, rfl, g6⟩ := DP.out g5; obtain ⟨a4, rfl, g7⟩ := NN.out g6; obtain ⟨w13, e13, g8⟩ := DG.out g7; obtain ⟨x46, rfl, g9⟩ := DI.out g8; obtain ⟨w15, e15, g10⟩ := DG.out g9; obtain ⟨p18, rfl, g11⟩ := DP.out g10; obtain ⟨w17, e17, g12⟩ := DG.out g11; obtain ⟨pw17, rfl, g13⟩ := DP.out g12; obtain ⟨a5, rfl, g14⟩ := NN.out g13; obtain ⟨w18, e18, g15⟩ := DG.out g14; obtain ⟨x47, rfl, g16⟩ := DI.out g15; obtain ⟨dc0, da0, D1, rfl, g17⟩ := DDef.out g16; obtain ⟨rfl, g18⟩ := DNil.out g17; obtain ⟨u0da0, r0da0, rfl, g19⟩ := DCons.out g18; obtain ⟨p19, rfl, g20⟩ := DP.out g19; obtain ⟨u1da0, r1da0, rfl, g21⟩ := DCons.out g20; obtain ⟨A3, n3, m3, rfl, g22⟩ := DSl.out g21; obtain ⟨rfl, g23⟩ := DNil.out g22; obtain ⟨dc1, da1, D2, rfl, g24⟩ := DDef.out g23; obtain ⟨rfl, g25⟩ := DNil.out g24; obtain ⟨u0da1, r0da1, rfl, g26⟩ := DCons.out g25; obtain ⟨p20, rfl, g27⟩ := DP.out g26; obtain ⟨u1da1, r1da1, rfl, g28⟩ := DCons.out g27; obtain ⟨A4, n4, m4, rfl, g29⟩ := DSl.out g28; obtain ⟨rfl, g30⟩ := DNil.out g29; obtain ⟨rfl, h'⟩ := DNilD.out g30; exact h'
          · obtain ⟨p16, e0, g2⟩ := GP h
            obtain ⟨p17, e1, g4⟩ := GP g2; obtain ⟨a4, e7, g7⟩ := GN g4; obtain ⟨x46, e13, g9⟩ := GI g7; obtain ⟨p18, e15, g11⟩ := GP g9; obtain ⟨a5, e17, g14⟩ := GN g11; obtain ⟨x47, e18, g16⟩ := GI g14; obtain ⟨dc0, da0, D1, rfl, g17⟩ := DDef.out g16
            obtain ⟨rfl, g18⟩ := DNil.out g17
            obtain ⟨u0da0, r0da0, rfl, g19⟩ := DCons.out g18
            obtain ⟨p19, rfl, g20⟩ := DP.out g19
            obtain ⟨u1da0, r1da0, rfl, g21⟩ := DCons.out g20
            obtain ⟨A3, n3, m3, rfl, g22⟩ := DSl.out g21
            obtain ⟨rfl, g23⟩ := DNil.out g22
            obtain ⟨dc1, da1, D2, rfl, g24⟩ := DDef.out g23
            obtain ⟨rfl, g25⟩ := DNil.out g24
            obtain ⟨u0da1, r0da1, rfl, g26⟩ := DCons.out g25
            obtain ⟨p20, rfl, g27⟩ := DP.out g26
            obtain ⟨u1da1, r1da1, rfl, g28⟩ := DCons.out g27
            obtain ⟨A4, n4, m4, rfl, g29⟩ := DSl.out g28
            obtain ⟨rfl, g30⟩ := DNil.out g29
            obtain ⟨rfl, h'⟩ := DNilD.out g30
            exact (hw_safe (Λ := (W_pass_Run.Λ17 K (W_pass_Run.l17 K k))) mixWpass _ _ [(0, .pointer p16), (1, .pointer p17), (7, .pointer (some a4)), (13, .int .i64 x46), (15, .pointer p18), (17, .pointer (some a5)), (18, .int .i64 x47)] [{ target := .fn (.func 84) #[], args := #[.pointer p19, .slice A3 n3 m3] }, { target := .fn (.func 84) #[], args := #[.pointer p20, .slice A4 n4 m4] }] H (Eq.mp (by kernel_rfl) h') (obs_seq (obs_seq obs_region rfl (obs_cond obs_skip obs_exit)) rfl (obs_seq (obs_block (obs_seq obs_region rfl (obs_seq obs_region rfl (obs_cond (obs_seq obs_region rfl obs_ret) obs_skip)))) rfl obs_region))).weaken (EnvLe.cons e0 (EnvLe.cons e1 (EnvLe.cons e7 (EnvLe.cons e13 (EnvLe.cons e15 (EnvLe.cons e17 (EnvLe.cons e18 (EnvLe.nil _)))))))) (Hp.le_refl _))))) rfl (obs_seq obs_region rfl obs_ret))).weaken (EnvLe.cons e0 (EnvLe.cons e1 (EnvLe.cons e7 (EnvLe.cons e13 (EnvLe.cons e15 (EnvLe.cons e17 (EnvLe.nil _))))))) (Hp.le_refl _))))))))))))))
def W_pass_check (p1 : Option Addr) (p2 : Option Addr) (x1 : Int) (x2 : Int) (x3 : Int) (x4 : Int) (x5 : Int) (p3 : Option Addr) (H : Hp) (K : Value → Hp → Prop) : Prop :=
  Nw H (.obj (.cells #[.int .i64 x1, .int .i64 x2, .int .i64 x3, .int .i64 x4, .int .u64 x5] 62)) fun b1 H1 => BIf p1.isNone (K (.int .i64 1) H1) (BIf p2.isNone (K (.int .i64 1) H1) (BIf p3.isNone (K (.int .i64 1) H1) (LdA H1 ((⟨b1, 0, none⟩ : Addr).add 0) 2 fun l1 => QCall Tryz.prog 132 #[.agg l1.toArray] H1 fun v1 => DB v1 fun c1 => BIf (!c1) (K (.int .i64 19) H1) (QCall Tryz.prog 126 #[.pointer p1] H1 fun v2 => DI .i64 v2 fun x6 => LdA H1 ((⟨b1, 0, none⟩ : Addr).add 0) 2 fun l2 => QCall Tryz.prog 134 #[.agg l2.toArray] H1 fun v3 => DI .i64 v3 fun x7 => BIf (x6 != x7) (K (.int .i64 19) H1) (QCall Tryz.prog 126 #[.pointer p2] H1 fun v4 => DI .i64 v4 fun x8 => LdA H1 ((⟨b1, 0, none⟩ : Addr).add 0) 2 fun l3 => QCall Tryz.prog 134 #[.agg l3.toArray] H1 fun v5 => DI .i64 v5 fun x9 => BIf (x8 != x9) (K (.int .i64 19) H1) (Ld H1 ((⟨b1, 0, none⟩ : Addr).add 2) fun v6 => DI .i64 v6 fun x10 => BIf (decide (x10 < (0 : Int))) (K (.int .i64 18) H1) (Ld H1 ((⟨b1, 0, none⟩ : Addr).add 2) fun v7 => DI .i64 v7 fun x11 => BIf (decide (x11 > (1 : Int))) (K (.int .i64 18) H1) (Ld H1 ((⟨b1, 0, none⟩ : Addr).add 3) fun v8 => DI .i64 v8 fun x12 => BIf (decide (x12 < (-1 : Int))) (K (.int .i64 2) H1) (Ld H1 ((⟨b1, 0, none⟩ : Addr).add 3) fun v9 => DI .i64 v9 fun x13 => BIf (decide (x13 > (32 : Int))) (K (.int .i64 2) H1) (K (.int .i64 0) H1))))))))))
theorem W_pass_check.ok (p1 : Option Addr) (p2 : Option Addr) (x1 : Int) (x2 : Int) (x3 : Int) (x4 : Int) (x5 : Int) (p3 : Option Addr) (H : Hp) (K : Value → Hp → Prop) (h : W_pass_check p1 p2 x1 x2 x3 x4 x5 p3 H K) : HCalls Tryz.prog 137 #[.pointer p1, .pointer p2, .agg #[.int .i64 x1, .int .i64 x2, .int .i64 x3, .int .i64 x4, .int .u64 x5], .pointer p3] H K :=
  hcalls Tryz.func137 rfl (Nat.le_of_ble_eq_true rfl) (hw_safe (Λ := Cuts.none (fun _ => none)) mixWpass _ _ _ _ _ (Eq.mp (by kernel_rfl) h) (obs_none _ _ _ _ _))
def W_pass_run_batch.l6 (K : Value → Hp → Prop) : Nat → Option Addr → Option Addr → Option Addr → Nat → Nat → Int → Int → Int → Hp → Prop
  | 0, _, _, _, _, _, _, _, _, _ => False
  | k + 1, p4, p5, A2, n2, m2, x4, x5, x6, H =>
    let R6 := W_pass_run_batch.l6 K k
    BIf (decide (x6 < ((n2 : Nat) : Int))) (slB n2 m2 (some x6) (some (IntKind.i64.wrap (x6 + x5))) fun n3 n4 => (x5 ≠ 0 ∧ IntKind.i64 = IntKind.i64 ∧ HCalls Tryz.prog 170 #[.pointer p4, .slice (slA A2 m2 n3 1) (n4 - n3) (m2 - n3), .int .i64 (IntKind.i64.wrap (x4 + (IntKind.i64.wrap (Int.tdiv x6 x5))))] H fun v3 H2 => R6 p4 p5 A2 n2 m2 x4 x5 (IntKind.i64.wrap (x6 + x5)) H2)) (NN p4 fun a2 => HCalls Tryz.prog 95 #[.pointer (some (a2.add 0)), .slice A2 n2 m2] H fun v4 H3 => HCalls Tryz.prog 46 #[.pointer p5, .int .i64 (IntKind.i64.wrap (x4 * x5)), .slice A2 n2 m2] H3 fun v5 H4 => DI .i64 v5 fun x7 => K (.int .i64 x7) H4)
def W_pass_run_batch (p1 : Option Addr) (p2 : Option Addr) (p3 : Option Addr) (A1 : Option Addr) (n1 : Nat) (m1 : Nat) (x1 : Int) (H : Hp) (K : Value → Hp → Prop) : Prop :=
  NN p1 fun a1 => Ld H (((a1.add 2).add 0).add 1) fun v1 => DI .i64 v1 fun x2 => HCalls Tryz.prog 59 #[.pointer p2, .int .i64 (IntKind.i64.wrap (x1 * x2)), .slice A1 n1 m1] H fun v2 H1 => DI .i64 v2 fun x3 => BIf (x3 != (0 : Int)) (K (.int .i64 x3) H1) ((∃ k, W_pass_run_batch.l6 K k p1 p3 A1 n1 m1 x1 x2 (0 : Int) H1))
def W_pass_run_batch.l6.L (K : Value → Hp → Prop) (k : Nat) : Mid := fun E D H =>
  eP E 0 fun p4 => eP E 2 fun p5 => DG (E.get? 3) fun w3 => DSl w3 fun A2 n2 m2 => eI E 4 .i64 fun x4 => eI E 11 .i64 fun x5 => eI E 13 .i64 fun x6 => DNilD D (W_pass_run_batch.l6 K k p4 p5 A2 n2 m2 x4 x5 x6 H)
def W_pass_run_batch.Λ6 (_ : Value → Hp → Prop) (_R6 : Option Addr → Option Addr → Option Addr → Nat → Nat → Int → Int → Int → Hp → Prop) : Cuts := Cuts.none (fun i => match Nat.beq i 8 with | true => some ([], [0, 1, 2, 3, 4, 5, 6, 7, 8, 9, 10, 11], 12) | false => none)
def W_pass_run_batch.Λ (K : Value → Hp → Prop) : Cuts := ⟨fun i => none, fun i => match Nat.beq i 6 with | true => some (fun E D H => ∃ k, W_pass_run_batch.l6.L K k E D H) | false => none, (fun i => match Nat.beq i 8 with | true => some ([], [0, 1, 2, 3, 4, 5, 6, 7, 8, 9, 10, 11], 12) | false => none)⟩
theorem W_pass_run_batch.ok (p1 : Option Addr) (p2 : Option Addr) (p3 : Option Addr) (A1 : Option Addr) (n1 : Nat) (m1 : Nat) (x1 : Int) (H : Hp) (K : Value → Hp → Prop) (h : W_pass_run_batch p1 p2 p3 A1 n1 m1 x1 H K) : HCalls Tryz.prog 140 #[.pointer p1, .pointer p2, .pointer p3, .slice A1 n1 m1, .int .i64 x1] H K :=
  hcalls Tryz.func140 rfl (Nat.le_of_ble_eq_true rfl) (hw_safe (Λ := (W_pass_run_batch.Λ K)) mixWpass _ _ _ _ _ (Eq.mp (by kernel_rfl) h) (obs_seq obs_region rfl (obs_seq obs_region rfl (obs_seq (obs_seq obs_region rfl (obs_seq obs_region rfl (obs_cond (obs_seq obs_region rfl obs_ret) obs_skip))) rfl (obs_seq (obs_seq obs_region rfl (obs_block (obs_loop rfl (fun E D H h => by
      refine Safe.loop' (W_pass_run_batch.l6.L K) (fun E D H h => ?_) (fun k E D H h => ?_) E D H h
      · obtain ⟨w0, e0, g1⟩ := DG.out h; obtain ⟨p4, rfl, g2⟩ := DP.out g1; obtain ⟨w2, e2, g3⟩ := DG.out g2; obtain ⟨p5, rfl, g4⟩ := DP.out g3; obtain ⟨w3, e3, g5⟩ := DG.out g4; obtain ⟨A2, n2, m2, rfl, g6⟩ := DSl.out g5; obtain ⟨w4, e4, g7⟩ := DG.out g6; obtain ⟨x4, rfl, g8⟩ := DI.out g7; obtain ⟨w11, e11, g9⟩ := DG.out g8; obtain ⟨x5, rfl, g10⟩ := DI.out g9; obtain ⟨w13, e13, g11⟩ := DG.out g10; obtain ⟨x6, rfl, g12⟩ := DI.out g11; obtain ⟨rfl, h'⟩ := DNilD.out g12; exact h'
      · obtain ⟨p4, e0, g2⟩ := GP h
        obtain ⟨p5, e2, g4⟩ := GP g2
        obtain ⟨w3, e3, g5⟩ := DG.out g4
        obtain ⟨A2, n2, m2, rfl, g6⟩ := DSl.out g5
        obtain ⟨x4, e4, g8⟩ := GI g6; obtain ⟨x5, e11, g10⟩ := GI g8; obtain ⟨x6, e13, g12⟩ := GI g10; obtain ⟨rfl, h'⟩ := DNilD.out g12
        exact (hw_safe (Λ := (W_pass_run_batch.Λ6 K (W_pass_run_batch.l6 K k))) mixWpass _ _ [(0, .pointer p4), (2, .pointer p5), (3, .slice A2 n2 m2), (4, .int .i64 x4), (11, .int .i64 x5), (13, .int .i64 x6)] [] H (Eq.mp (by kernel_rfl) h') (obs_seq (obs_seq obs_region rfl (obs_cond obs_skip obs_exit)) rfl (obs_seq (obs_block obs_region) rfl obs_region))).weaken (EnvLe.cons e0 (EnvLe.cons e2 (EnvLe.cons e3 (EnvLe.cons e4 (EnvLe.cons e11 (EnvLe.cons e13 (EnvLe.nil _))))))) (Hp.le_refl _))))) rfl (obs_seq obs_region rfl (obs_seq obs_region rfl obs_ret)))))))
def W_pass_run_work.j4 (K : Value → Hp → Prop) (p3 : Option Addr) (A4 : Option Addr) (n4 : Nat) (m4 : Nat) (H : Hp) : Prop :=
  NN p3 fun a6 => Ld H ((a6.add 2).add 4) fun v17 => DI .u64 v17 fun x13 => HCalls Tryz.prog 201 #[.slice A4 n4 m4, .int .u64 x13] H fun v18 H6 => DSl v18 fun A5 n5 m5 => CpK Tryz.prog 60 (.slice A4 n4 m4) (.slice A5 n5 m5) H6 fun v19 H7 => DI .i64 v19 fun x14 => K (.tuple #[]) H7
def W_pass_run_work (p1 : Option Addr) (A1 : Option Addr) (n1 : Nat) (m1 : Nat) (x1 : Int) (H : Hp) (K : Value → Hp → Prop) : Prop :=
  NN p1 fun a1 => Ld H (a1.add 7) fun v1 => DP v1 fun p2 => NN p1 fun a2 => Ld H ((a2.add 2).add 2) fun v2 => DI .i64 v2 fun x2 => HCalls Tryz.prog 199 #[.pointer p2, .slice A1 n1 m1, .int .i64 x2] H fun v3 H1 => DI .i64 v3 fun x3 => NN p1 fun a3 => Ld H1 ((a3.add 2).add 3) fun v4 => DI .i64 v4 fun x4 => BIf (decide (x4 ≥ (0 : Int))) (NN p1 fun a4 => NN p1 fun a5 => (Ld H1 ((a4.add 2).add 3) fun v5 => DI .i64 v5 fun x5 => Ld H1 ((a5.add 2).add 2) fun v6 => DI .i64 v6 fun x6 => HCalls Tryz.prog 200 #[.slice A1 n1 m1, .agg #[.int .i64 1, .int .i64 ((n1 : Nat) : Int), .int .i64 x1, .int .i64 0], .int .i64 x5, .int .i64 x6] H1 fun v7 H2 => DTup v7 fun l1 => DCons l1 fun v8 l2 => DSl v8 fun A2 n2 m2 => DCons l2 fun v9 l3 => DI .i64 v9 fun x7 => DNil l3 (CpK Tryz.prog 60 (.slice A1 n1 m1) (.slice A2 n2 m2) H2 fun v15 H4 => DI .i64 v15 fun x11 => W_pass_run_work.j4 K p1 A1 n1 m1 H4)) ∧ (Ld H1 ((a5.add 2).add 2) fun v10 => DI .i64 v10 fun x8 => Ld H1 ((a4.add 2).add 3) fun v11 => DI .i64 v11 fun x9 => HCalls Tryz.prog 200 #[.slice A1 n1 m1, .agg #[.int .i64 1, .int .i64 ((n1 : Nat) : Int), .int .i64 x1, .int .i64 0], .int .i64 x9, .int .i64 x8] H1 fun v12 H3 => DTup v12 fun l4 => DCons l4 fun v13 l5 => DSl v13 fun A3 n3 m3 => DCons l5 fun v14 l6 => DI .i64 v14 fun x10 => DNil l6 (CpK Tryz.prog 60 (.slice A1 n1 m1) (.slice A3 n3 m3) H3 fun v16 H5 => DI .i64 v16 fun x12 => W_pass_run_work.j4 K p1 A1 n1 m1 H5))) (W_pass_run_work.j4 K p1 A1 n1 m1 H1)
def W_pass_run_work.Λ (K : Value → Hp → Prop) : Cuts := ⟨fun i => match Nat.beq i 4 with | true => some (fun E D H => eP E 0 fun p3 => DG (E.get? 1) fun w1 => DSl w1 fun A4 n4 m4 => DNilD D (W_pass_run_work.j4 K p3 A4 n4 m4 H)) | false => none, fun i => none, (fun i => match Nat.beq i 2 with | true => some ([], [0, 0, 2, 6, 0, 30, 0, 64, 192, 448, 960, 0, 2048, 6144, 14336, 30720, 65535, 131071, 262143, 262143, 524287, 2097151], 0) | false => match Nat.beq i 0 with | true => some ([], [0, 1, 2, 3, 4, 5, 6, 7, 8, 9], 10) | false => none)⟩
theorem W_pass_run_work.ok (p1 : Option Addr) (A1 : Option Addr) (n1 : Nat) (m1 : Nat) (x1 : Int) (H : Hp) (K : Value → Hp → Prop) (h : W_pass_run_work p1 A1 n1 m1 x1 H K) : HCalls Tryz.prog 170 #[.pointer p1, .slice A1 n1 m1, .int .i64 x1] H K :=
  hcalls Tryz.func170 rfl (Nat.le_of_ble_eq_true rfl) (hw_safe (Λ := (W_pass_run_work.Λ K)) mixWpass _ _ _ _ _ (Eq.mp (by kernel_rfl) h) (obs_seq obs_region rfl (obs_seqc (obs_seq obs_region rfl (obs_cond (obs_seq obs_region rfl obs_region) obs_skip)) rfl (fun E D H h => by
      obtain ⟨p3, e0, g2⟩ := GP h
      obtain ⟨w1, e1, g3⟩ := DG.out g2
      obtain ⟨A4, n4, m4, rfl, g4⟩ := DSl.out g3
      obtain ⟨rfl, h'⟩ := DNilD.out g4
      exact (hw_safe (Λ := (W_pass_run_work.Λ K)) mixWpass _ _ [(0, .pointer p3), (1, .slice A4 n4 m4)] [] H (Eq.mp (by kernel_rfl) h') obs_region).weaken (EnvLe.cons e0 (EnvLe.cons e1 (EnvLe.nil _))) (Hp.le_refl _)))))
end Go.Proofs.YtnknippcbecmeaaGreatDoor.W
end
section
/- pass: a row. -/
namespace Go.Proofs.YtnknippcbecmeaaGreatDoor.Pas
open Go Go.Hw W Shp Gol Fft Ker
structure J where
  ea : Nat
  eb : Nat
  d : Bool
  tw : Int
  sh : UInt64
def J.a (j : J) : Array Value := #[.int .i64 ((2 ^ j.ea : Nat) : Int), .int .i64 ((2 ^ j.eb : Nat) : Int), .int .i64 (if j.d = true then 1 else 0), .int .i64 j.tw, .int .u64 (j.sh.toNat : Int)]
def runR (j : J) (kp : Nat) : List Value := [.int .i64 ((2 ^ j.ea : Nat) : Int), .int .i64 ((2 ^ j.eb : Nat) : Int), .int .i64 (if j.d = true then 1 else 0), .int .i64 j.tw, .int .u64 (j.sh.toNat : Int), .pointer (some ⟨kp, 0, none⟩)]
def runO (s : Crc.W32) (k : Nat) (j : J) (kp : Nat) : AO := .obj (.cells (CrcP.ctrC s k (runR j kp)) 231)
def twL (j : J) (r : Nat) (l : List UInt64) : List UInt64 := if 0 ≤ j.tw then tileL (pw (rtd j.d j.tw.toNat) r) l else l
def rowP (j : J) (r : Nat) (l : List UInt64) : List UInt64 := sclL (zw j.sh) (twL j r (dftL j.d j.eb l))
theorem twL_len (j : J) (r : Nat) (l : List UInt64) : (twL j r l).length = l.length := by
  unfold twL; split
  · exact tileL_len _ _
  · rfl
theorem rowP_len (j : J) (r : Nat) (l : List UInt64) : (rowP j r l).length = 2 ^ j.eb := by unfold rowP; rw [sclL_len, twL_len, dftL_len]
theorem setAt_over {xs us bs : List Value} {off : Nat} (h : off + us.length ≤ xs.length) (hl : bs.length = us.length) : setAt (setAt xs off us) off bs = setAt xs off bs := by
  apply List.ext_getElem?
  intro i
  rw [setAt_get (by rw [setAt_length h]; omega), setAt_get h, setAt_get (by omega)]
  by_cases h1 : i < off
  · rw [if_pos h1, if_pos h1, if_pos h1]
  · rw [if_neg h1, if_neg h1, if_neg h1]
    by_cases h2 : i < off + bs.length
    · rw [if_pos h2, if_pos h2]
    · rw [if_neg h2, if_neg h2, if_neg (by omega)]
theorem one_vals (ws : List UInt64) : ∀ y ∈ wordVals ws, y.oneCell' = true := fun y hy => by
  unfold wordVals at hy
  obtain ⟨w, _, rfl⟩ := List.mem_map.1 hy
  rfl
theorem own_cells {e : TypeId} {A : Option Addr} {n m : Nat} {ws : List UInt64} {H : Hp} (h : Own e 1 A n m (wordVals ws) H) : Cells H A (wordVals ws) := by
  obtain ⟨h1, h2⟩ := h
  rcases h2 with ⟨rfl, rfl, rfl⟩ | ⟨b, mm, rfl, h4, _⟩
  · rw [Nat.zero_mul] at h1
    rw [List.length_eq_zero_iff.1 h1]
    exact Cells.nil _ _
  · have := Cells.row h4 0 (wordVals ws).length
    rw [List.drop_zero, List.take_of_length_le (Nat.le_refl _)] at this
    exact this
section
variable {TT : As} {kp b off mm n m rn r : Nat} {s : Crc.W32} {sk : Nat} {j : J} {l : List UInt64} {xs : List Value} {e : TypeId}
theorem over_seg {H : Hp} {L : List As} {i : Nat} (hs : Sep L H) {ws us : List UInt64} (hi : L[i]? = some (pts b (.row (setAt xs off (wordVals ws)) e mm))) (hw : ws.length = n) (hu : us.length = n) (hx : off + n ≤ xs.length) {A : Option Addr} {m' : Nat} (hc : Cells H A (wordVals us)) {K : Value → Hp → Prop}
    (kk : ∀ H', Sep (L.set i (pts b (.row (setAt xs off (wordVals us)) e mm))) H' → K (.int .i64 (n : Int)) H') : CpK Tryz.prog 60 (.slice (some ⟨b, off, none⟩) n m) (.slice A n m') H K := by
  refine hs.cp i (k := n) (n := n) (c := m) (x := .slice A n m') (ys := wordVals us) hi cell_u64 rfl (by rw [show Nat.min n n = n from Nat.min_self n]; exact src_of hc (by rw [wordVals_length, hu])) (by rw [row_len (by omega), wordVals_length, hu]; exact hx) (one_vals us) fun H' hs' => ?_
  rw [setAt_over (by rw [wordVals_length]; omega) (by rw [wordVals_length, wordVals_length, hu, hw])] at hs'
  rw [show Nat.min n n = n from Nat.min_self n]
  exact kk H' hs'
theorem work_j4 (hn : n = 2 ^ j.eb) (hb : j.eb ≤ 20) (hx : off + n ≤ xs.length) {ws : List UInt64} (hw : ws.length = n) {L : List As} (K : Value → Hp → Prop)
    (hK : ∀ H, Sep (pts rn (runO s sk j kp) :: pts b (.row (setAt xs off (wordVals (sclL (zw j.sh) ws))) e mm) :: L) H → K (.tuple #[]) H) {H : Hp} (hs : Sep (pts rn (runO s sk j kp) :: pts b (.row (setAt xs off (wordVals ws)) e mm) :: L) H) :
    W_pass_run_work.j4 K (some ⟨rn, 0, none⟩) (some ⟨b, off, none⟩) n m H := by
  have h20 := pow_le hb
  unfold W_pass_run_work.j4
  simp only [NN_some]
  refine hs.ldg 0 rfl rfl ?_
  simp only [HV]
  refine (Scale_tr (n := n) (m := m) (R := pts b (.row (setAt xs off (wordVals ws)) e mm)) j.sh (fun H h => seg_cells h (by omega)) hw (by omega)).use hs [1] rfl rfl ?_
  rintro _ _ H ⟨r1, rfl, rfl⟩ hs
  have hs : Sep (pts r1 (.row (wordVals (sclL (zw j.sh) ws)) 60 (n * 1)) :: pts b (.row (setAt xs off (wordVals ws)) e mm) :: pts rn (runO s sk j kp) :: L) H := by
    have : rest (pts rn (runO s sk j kp) :: pts b (.row (setAt xs off (wordVals ws)) e mm) :: L) [1] = pts rn (runO s sk j kp) :: L := by
      have key : ∀ (L : List As) k, 2 ≤ k → rest.go [1] k L = L := by
        intro L
        induction L with
        | nil => intro k _; rfl
        | cons A L ih =>
          intro k hk
          unfold rest.go
          have : ([1] : List Nat).contains k = false := by simp; omega
          rw [this, ih (k + 1) (by omega)]
      show pts rn (runO s sk j kp) :: rest.go [1] 2 L = _
      rw [key L 2 (Nat.le_refl _)]
    rw [this] at hs
    exact hs
  simp only [HV]
  have hc : Cells H (some ⟨r1, 0, none⟩) (wordVals (sclL (zw j.sh) ws)) := by
    have := Cells.row (hs.get 0 rfl) 0 n
    rw [List.drop_zero, List.take_of_length_le (by rw [wordVals_length, sclL_len]; omega)] at this
    exact this
  refine over_seg (m' := n) hs (i := 1) rfl hw (by rw [sclL_len]; exact hw) hx hc fun H hs => ?_
  simp only [HV]
  refine hK H ?_
  have hs := hs.tail
  exact hs.swap
theorem work_tr (hT : ∀ H, TT H → T64 H) (hn : n = 2 ^ j.eb) (hb : j.eb ≤ 20) (htw : j.tw ≤ 32) (hr : r ≤ 4294967295) (hl : l.length = n) (hm : n ≤ m) (hx : off + n ≤ xs.length) (hseg : setAt xs off (wordVals l) = xs) :
    Tr Tryz.prog 170 #[.pointer (some ⟨rn, 0, none⟩), .slice (some ⟨b, off, none⟩) n m, .int .i64 (r : Int)] [pts rn (runO s sk j kp), pts b (.row xs e mm), Kn kp j.eb, TT] fun v M =>
      v = .tuple #[] ∧ M = [pts rn (runO s sk j kp), pts b (.row (setAt xs off (wordVals (rowP j r l))) e mm), Kn kp j.eb, TT] := fun H hs => by
  have h20 := pow_le hb
  apply W_pass_run_work.ok
  unfold W_pass_run_work
  simp only [NN_some]
  refine hs.ldf 0 rfl rfl ?_
  simp only [HV]
  refine hs.ldg 0 rfl rfl ?_
  simp only [HV]
  refine (Plain_tr (kp := kp) (m := m) (mm := mm) (e := e) hT hb hn hl hx hseg j.d).use hs [1, 2, 3] rfl rfl ?_
  rintro _ _ H ⟨rfl, rfl⟩ hs
  simp only [HV]
  have hs : Sep [pts b (.row (setAt xs off (wordVals (dftL j.d j.eb l))) e mm), Kn kp j.eb, TT, pts rn (runO s sk j kp)] H := hs
  refine hs.ldg 3 rfl rfl ?_
  simp only [HV]
  have hdl : (dftL j.d j.eb l).length = n := by rw [dftL_len, hn]
  have fin : ∀ {ws : List UInt64} {H : Hp}, ws.length = n → twL j r (dftL j.d j.eb l) = ws → Sep [pts b (.row (setAt xs off (wordVals ws)) e mm), Kn kp j.eb, TT, pts rn (runO s sk j kp)] H →
      W_pass_run_work.j4 (fun v H' => ∃ M, (v = .tuple #[] ∧ M = [pts rn (runO s sk j kp), pts b (.row (setAt xs off (wordVals (rowP j r l))) e mm), Kn kp j.eb, TT]) ∧ Sep M H') (some ⟨rn, 0, none⟩) (some ⟨b, off, none⟩) n m H := fun {ws} {H} hw he hs => by
    refine work_j4 (s := s) (sk := sk) (kp := kp) (mm := mm) (e := e) (L := [Kn kp j.eb, TT]) hn hb hx hw _ (fun H hs => ⟨_, ⟨rfl, rfl⟩, ?_⟩) (hs.re [3, 0, 1, 2] rfl)
    unfold rowP
    rw [he]; exact hs
  by_cases ht : 0 ≤ j.tw
  · refine BIf_dpos ht ?_
    obtain ⟨t, ht'⟩ := Int.eq_ofNat_of_zero_le ht
    have hz : pw (rtd j.d j.tw.toNat) r = pw (rtd j.d t) r := by rw [ht', Int.toNat_natCast]
    refine ⟨?_, ?_⟩
    all_goals
      refine hs.ldg 3 rfl rfl ?_
      simp only [HV]
      refine hs.ldg 3 rfl rfl ?_
      simp only [HV]
      rw [ht']
      refine (Tile_tr (n := n) (m := m) (k := t) (r := r) (l := dftL j.d j.eb l) (R := pts b (.row (setAt xs off (wordVals (dftL j.d j.eb l))) e mm)) hT (fun H h => seg_cells h (by omega)) hn hb hdl hm (by omega) hr j.d).use hs [0, 2] rfl rfl ?_
      rintro _ _ H ⟨A', m', rfl, rfl⟩ hs
      simp only [HV]
      refine over_seg (m' := m') hs (i := 1) rfl hdl (by rw [tileL_len]; exact hdl) hx (own_cells (hs.own 0 rfl)) fun H hs => ?_
      simp only [HV]
      exact fin (by rw [tileL_len]; exact hdl) (by unfold twL; rw [if_pos ht, hz]) (hs.re [1, 3, 2, 4] rfl)
  · exact BIf_dneg ht (fin hdl (by unfold twL; rw [if_neg ht]) hs)
end
end Go.Proofs.YtnknippcbecmeaaGreatDoor.Pas
end
section
/- pass: a batch of rows. -/
namespace Go.Proofs.YtnknippcbecmeaaGreatDoor.Pas
open Go Go.Hw Go.Crc Go.Form W Shp Gol Fft Ker Str Dsk Are Trn
def batF (j : J) (r : Nat) (ws : List UInt64) (i : Nat) : List UInt64 := (List.range i).flatMap fun q => rowP j (r + q) ((ws.drop (q * 2 ^ j.eb)).take (2 ^ j.eb))
def batL (j : J) (r : Nat) (ws : List UInt64) (i : Nat) : List UInt64 := batF j r ws i ++ ws.drop (i * 2 ^ j.eb)
theorem batF_len (j : J) (r : Nat) (ws : List UInt64) : ∀ i, (batF j r ws i).length = i * 2 ^ j.eb
  | 0 => by simp [batF]
  | i + 1 => by
    unfold batF
    rw [List.range_succ, List.flatMap_append, List.length_append]
    have := batF_len j r ws i
    unfold batF at this
    rw [this, Nat.succ_mul]
    simp [rowP_len]
theorem batF_succ (j : J) (r : Nat) (ws : List UInt64) (i : Nat) : batF j r ws (i + 1) = batF j r ws i ++ rowP j (r + i) ((ws.drop (i * 2 ^ j.eb)).take (2 ^ j.eb)) := by
  unfold batF
  rw [List.range_succ, List.flatMap_append]; simp
theorem batL_len {j : J} {r : Nat} {ws : List UInt64} {i nb : Nat} (hw : ws.length = nb * 2 ^ j.eb) (hi : i ≤ nb) : (batL j r ws i).length = nb * 2 ^ j.eb := by
  unfold batL
  have : i * 2 ^ j.eb ≤ nb * 2 ^ j.eb := Nat.mul_le_mul_right _ hi
  rw [List.length_append, batF_len, List.length_drop]; omega
theorem batL_zero (j : J) (r : Nat) (ws : List UInt64) : batL j r ws 0 = ws := by simp [batL, batF]
theorem setW_at (a b c : List UInt64) : setW (a ++ b) a.length c = a ++ c ++ b.drop c.length := by
  unfold setW
  rw [List.take_left, ← List.drop_drop, List.drop_left]
section
variable {TT : As} {kp rn p q dp ap bb mb : Nat} {s : W32} {sk : Nat} {j : J} {x y : X} {cap peak : Int} {bufs : List (Nat × Nat × Option Addr)}
theorem batch_loop (K : Value → Hp → Prop) (hT : ∀ H, TT H → T64 H) (hb : j.eb ≤ 20) (htw : j.tw ≤ 32) {nb r : Nat} (hr : r + nb ≤ 4294967296) (hsz : nb * 2 ^ j.eb ≤ 4294967296) {ws : List UInt64} (hw : ws.length = nb * 2 ^ j.eb) {L : List As} {n : Nat} (hn : n = nb * 2 ^ j.eb)
    (hK : ∀ H, Sep (pts rn (runO s sk j kp) :: pts bb (.row (wordVals (batF j r ws nb)) 60 mb) :: Kn kp j.eb :: TT :: L) H → W_pass_run_batch.l6 K 1 (some ⟨rn, 0, none⟩) (some ⟨q, 0, none⟩) (some ⟨bb, 0, none⟩) n n (r : Int) ((2 ^ j.eb : Nat) : Int) (n : Int) H) :
    ∀ (t i : Nat) (z : Int) (H : Hp), z = ((i * 2 ^ j.eb : Nat) : Int) → i + t = nb → Sep (pts rn (runO s sk j kp) :: pts bb (.row (wordVals (batL j r ws i)) 60 mb) :: Kn kp j.eb :: TT :: L) H →
      W_pass_run_batch.l6 K (t + 1) (some ⟨rn, 0, none⟩) (some ⟨q, 0, none⟩) (some ⟨bb, 0, none⟩) n n (r : Int) ((2 ^ j.eb : Nat) : Int) z H
  | 0, i, _, H, rfl, hi, hs => by
    obtain rfl : i = nb := by omega
    rw [← hn]
    refine hK H ?_
    unfold batL at hs
    rw [List.drop_eq_nil_of_le (by omega), List.append_nil] at hs
    exact hs
  | t + 1, i, _, H, rfl, hi, hs => by
    have hc1 := pow_pos j.eb
    have hse : (i + 1) * 2 ^ j.eb = i * 2 ^ j.eb + 2 ^ j.eb := Nat.succ_mul _ _
    have h20 := pow_le hb
    have hi1 : (i + 1) * 2 ^ j.eb ≤ nb * 2 ^ j.eb := Nat.mul_le_mul_right _ (by omega)
    have hi1' := hi1
    rw [Nat.succ_mul] at hi1
    unfold W_pass_run_batch.l6
    refine BIf_dpos (by omega) ?_
    rw [show IntKind.i64.wrap (((i * 2 ^ j.eb : Nat) : Int) + ((2 ^ j.eb : Nat) : Int)) = (((i + 1) * 2 ^ j.eb : Nat) : Int) by rw [Nat.succ_mul, ← Int.natCast_add, i64n (by omega)]]
    refine ⟨by omega, by omega, by omega, by omega, ?_⟩
    rw [Int.toNat_natCast, Int.toNat_natCast]
    refine ⟨by omega, by simp, ?_⟩
    rw [show Int.tdiv ((i * 2 ^ j.eb : Nat) : Int) ((2 ^ j.eb : Nat) : Int) = ((i * 2 ^ j.eb / 2 ^ j.eb : Nat) : Int) from rfl, Nat.mul_div_cancel _ (by omega), i64n (n := i) (by omega), ← Int.natCast_add, i64n (n := r + i) (by omega),
      slA_at (by omega), show (i + 1) * 2 ^ j.eb - i * 2 ^ j.eb = 2 ^ j.eb by rw [Nat.succ_mul]; omega, Nat.zero_add]
    have hA := batF_len j r ws i
    have hlen := batL_len (j := j) (r := r) hw (show i ≤ nb by omega)
    have hseg : setAt (wordVals (batL j r ws i)) (i * 2 ^ j.eb) (wordVals ((ws.drop (i * 2 ^ j.eb)).take (2 ^ j.eb))) = wordVals (batL j r ws i) := by
      rw [setW_vals]
      unfold batL
      rw [← hA, setW_at, hA, List.append_assoc]
      congr 2
      rw [List.length_take, List.length_drop, Nat.min_eq_left (by omega)]
      exact List.take_append_drop _ _
    have hsl : ((ws.drop (i * 2 ^ j.eb)).take (2 ^ j.eb)).length = 2 ^ j.eb := by rw [List.length_take, List.length_drop]; omega
    have ht := work_tr (rn := rn) (kp := kp) (b := bb) (off := i * 2 ^ j.eb) (mm := mb) (n := 2 ^ j.eb) (m := n - i * 2 ^ j.eb) (r := r + i) (s := s) (sk := sk) (j := j) (l := (ws.drop (i * 2 ^ j.eb)).take (2 ^ j.eb)) (xs := wordVals (batL j r ws i)) (e := 60) hT rfl hb htw (by omega) hsl (by omega) (by rw [wordVals_length, hlen]; omega) hseg
    have e0 : sel (pts rn (runO s sk j kp) :: pts bb (.row (wordVals (batL j r ws i)) 60 mb) :: Kn kp j.eb :: TT :: L) [0, 1, 2, 3] = [pts rn (runO s sk j kp), pts bb (.row (wordVals (batL j r ws i)) 60 mb), Kn kp j.eb, TT] := rfl
    refine ht.use hs [0, 1, 2, 3] e0 rfl ?_
    rintro _ _ H ⟨rfl, rfl⟩ hs
    have erest : rest (pts rn (runO s sk j kp) :: pts bb (.row (wordVals (batL j r ws i)) 60 mb) :: Kn kp j.eb :: TT :: L) [0, 1, 2, 3] = L := by
      have key : ∀ (L : List As) k, 4 ≤ k → rest.go [0, 1, 2, 3] k L = L := by
        intro L
        induction L with
        | nil => intro k _; rfl
        | cons A L ih =>
          intro k hk
          unfold rest.go
          have : ([0, 1, 2, 3] : List Nat).contains k = false := by simp; omega
          rw [this, ih (k + 1) (by omega)]
      exact key L 4 (Nat.le_refl _)
    rw [erest] at hs
    have hstep : setAt (wordVals (batL j r ws i)) (i * 2 ^ j.eb) (wordVals (rowP j (r + i) ((ws.drop (i * 2 ^ j.eb)).take (2 ^ j.eb)))) = wordVals (batL j r ws (i + 1)) := by
      rw [setW_vals]
      unfold batL
      rw [← hA, setW_at, hA, batF_succ, rowP_len, List.drop_drop, Nat.succ_mul]
    rw [hstep] at hs
    exact batch_loop K hT hb htw hr hsz hw hn hK t (i + 1) _ H rfl (by omega) hs
def batP (rn p q dp ap kp bb : Nat) (s : W32) (sk : Nat) (j : J) (d : D) (x y : X) (r nb : Nat) (cap peak : Int) (bufs : List (Nat × Nat × Option Addr)) (mb : Nat) (TT : As) (v : Value) (M : List As) : Prop :=
  let n := nb * 2 ^ j.eb
  let f := r * 2 ^ j.eb
  let us := batF j r (pws d x f n) nb
  let t := (pcs (D.per d) x.f n f n).length
  (Prog (inX y) d (wrsG (D.rdG d t) y n f us) (t + pcsR (D.per d) y.f n f n) (pcs (D.per d) y.f n f n).length ∧ v = .int .i64 0 ∧
    M = [pts rn (runO (more s (form us)) (sk + 8 * n) j kp), pts bb (.row (wordVals us) 60 mb), pts p (pipO dp ap x), pts q (pipO dp ap y), Dk dp (wrsG (D.rdG d t) y n f us), Ar ap cap (mx peak (sumB bufs + D.per d)) bufs, Kn kp j.eb, TT]) ∨
  (∃ d', Dead (inX y) d d' ∧ d.fuse ≤ t + pcsR (D.per d) y.f n f n + (pcs (D.per d) y.f n f n).length ∧ v = .int .i64 8 ∧
    M = [pts p (pipO dp ap x), pts q (pipO dp ap y), Dk dp d', Ar ap cap (mx peak (sumB bufs + D.per d)) bufs, TT])
set_option maxHeartbeats 1000000 in
theorem batch_tr {d : D} (hT : ∀ H, TT H → T64 H) (hok : Ok d) (hl : d.down = false) (hx : On d x) (hy : On d y) (ho : d.rd ≤ 4000000000000000000 ∧ d.wr ≤ 4000000000000000000) (hb : j.eb ≤ 20) (htw : j.tw ≤ 32) {r nb : Nat} (hnb : 1 ≤ nb) (hr : r + nb ≤ 4294967296) (hsz : nb * 2 ^ j.eb ≤ 4294967296)
    (hfx : r * 2 ^ j.eb + nb * 2 ^ j.eb ≤ x.w) (hfy : r * 2 ^ j.eb + nb * 2 ^ j.eb ≤ y.w) (hxw : x.w ≤ 4294967296) (hsk : sk ≤ 1000000000000) (hcap : (D.per d : Int) ≤ cap - sumB bufs) (ws : List UInt64) (hws : ws.length = nb * 2 ^ j.eb) :
    Tr Tryz.prog 140 #[.pointer (some ⟨rn, 0, none⟩), .pointer (some ⟨p, 0, none⟩), .pointer (some ⟨q, 0, none⟩), .slice (some ⟨bb, 0, none⟩) (nb * 2 ^ j.eb) (nb * 2 ^ j.eb), .int .i64 (r : Int)]
      [pts rn (runO s sk j kp), pts bb (.row (wordVals ws) 60 mb), pts p (pipO dp ap x), pts q (pipO dp ap y), Dk dp d, Ar ap cap peak bufs, Kn kp j.eb, TT] (batP rn p q dp ap kp bb s sk j d x y r nb cap peak bufs mb TT) := fun H hs => by
  have hp := Ok.per_le hok
  have hc1 := pow_pos j.eb
  have hn1 : 1 * 1 ≤ nb * 2 ^ j.eb := Nat.mul_le_mul hnb hc1
  have hpl := pcs_len (D.per d) x.f (nb * 2 ^ j.eb) (r * 2 ^ j.eb) (nb * 2 ^ j.eb)
  apply W_pass_run_batch.ok
  unfold W_pass_run_batch
  simp only [NN_some]
  rw [show (((⟨rn, 0, none⟩ : Addr).add 2).add 0).add 1 = ⟨rn, 3, none⟩ by rw [Addr.add_zero, Addr.add_lit', Addr.add_lit']]
  refine hs.ld 0 rfl rfl ?_
  simp only [HV]
  rw [← Int.natCast_mul, i64n (by omega)]
  refine (ReadG_tr (p := p) (dp := dp) (ap := ap) (d := d) (x := x) (cap := cap) (peak := peak) (bufs := bufs) (rl := bb) (off := 0) (mm := mb) (el := 60) (xs := wordVals ws) hok hl hx (by omega) (r * 2 ^ j.eb) (nb * 2 ^ j.eb) (nb * 2 ^ j.eb) (by omega) hfx (Nat.le_refl _) (by rw [wordVals_length]; omega) hcap).use hs [2, 4, 5, 1] rfl rfl ?_
  rintro v M H (⟨hgo, rfl, rfl⟩ | ⟨i, xs', hi, hfi, _, rfl, rfl⟩) hs
  case inr =>
    simp only [HV]
    refine BIf_bnep (by decide) ⟨_, .inr ⟨_, (Dead.rdG (fun _ => False) hok hl hfi).mono fun _ h => h.elim, by omega, rfl, rfl⟩, hs.re [0, 5, 1, 2, 7] rfl⟩
  simp only [HV]
  refine BIf_bnen rfl ?_
  rw [setAt_all (by rw [wordVals_length, wordVals_length, pws_len, hws])] at hs
  have hpg := Prog.rdG (inX y) hok hl hgo
  generalize ht : (pcs (D.per d) x.f (nb * 2 ^ j.eb) (r * 2 ^ j.eb) (nb * 2 ^ j.eb)).length = t at *
  have hper : D.per (D.rdG d t) = D.per d := rfl
  refine ⟨nb + 1, ?_⟩
  refine batch_loop (q := q) (s := s) (sk := sk) (kp := kp) (mb := mb) (L := [pts p (pipO dp ap x), Dk dp (D.rdG d t), Ar ap cap (mx peak (sumB bufs + D.per d)) bufs, pts q (pipO dp ap y)]) _ hT hb htw hr hsz (ws := pws d x (r * 2 ^ j.eb) (nb * 2 ^ j.eb)) (pws_len _ _ _ _) rfl (fun H hs => ?_) nb 0 0 H (by rw [Nat.zero_mul]; rfl) (by omega) ?_
  · generalize hus : batF j r (pws d x (r * 2 ^ j.eb) (nb * 2 ^ j.eb)) nb = us at *
    have hul : us.length = nb * 2 ^ j.eb := by rw [← hus]; exact batF_len _ _ _ _
    have hcell : ∀ H, pts bb (.row (wordVals us) 60 mb) H → Cells H (some ⟨bb, 0, none⟩) (wordVals us) := fun H h => by
      have := Cells.row h 0 us.length
      rwa [List.drop_zero, List.take_of_length_le (by rw [wordVals_length]; exact Nat.le_refl _)] at this
    unfold W_pass_run_batch.l6
    refine BIf_dneg (Int.lt_irrefl _) ?_
    simp only [NN_some, Addr.add_zero]
    refine CrcP.AddWordsG_s hs 0 rfl (some ⟨bb, 0, none⟩) (nb * 2 ^ j.eb) (nb * 2 ^ j.eb) us hul.symm ?_ (by omega) (by omega) fun H hs => ?_
    · obtain ⟨H1, h1, hle⟩ := hs.see 1 rfl
      exact (hcell H1 h1).le hle
    have hs : Sep [pts rn (runO (more s (form us)) (sk + 8 * (nb * 2 ^ j.eb)) j kp), pts bb (.row (wordVals us) 60 mb), Kn kp j.eb, TT, pts p (pipO dp ap x), Dk dp (D.rdG d t), Ar ap cap (mx peak (sumB bufs + D.per d)) bufs, pts q (pipO dp ap y)] H := hs
    rw [← Int.natCast_mul, i64n (by omega)]
    refine (WriteG_tr (p := q) (dp := dp) (ap := ap) (d := D.rdG d t) (x := y) (cap := cap) (peak := mx peak (sumB bufs + D.per d)) (bufs := bufs) (R := pts bb (.row (wordVals us) 60 mb)) (A := some ⟨bb, 0, none⟩) (n := nb * 2 ^ j.eb) (m := nb * 2 ^ j.eb) (src := us) hpg.ok hpg.down (hy.prog hpg) ⟨by show d.rd + t ≤ _; omega, by show d.wr ≤ _; omega⟩ (r * 2 ^ j.eb) hul.symm (by omega) hfy (Nat.le_refl _) hcap hcell).use hs [7, 5, 6, 1] rfl rfl ?_
    rintro v M H (⟨hpg2, rfl, rfl⟩ | ⟨d', hd, hfu, rfl, rfl⟩) hs
    · simp only [HV]
      rw [hul, hper, mx_mx] at hs
      rw [hul, hper] at hpg2
      have hpg3 := hpg.trans hpg2
      rw [Nat.zero_add] at hpg3
      subst hus
      subst ht
      exact ⟨_, .inl ⟨hpg3, rfl, rfl⟩, hs.re [4, 3, 7, 0, 1, 2, 5, 6] rfl⟩
    · simp only [HV]
      rw [hper, mx_mx] at hs
      rw [hul, hper] at hfu
      subst hus
      subst ht
      refine ⟨_, .inr ⟨d', hpg.dead hd, ?_, rfl, rfl⟩, hs.re [7, 0, 1, 2, 6] rfl⟩
      have h1 := hpg.fuse
      have h2 := hpg.go
      omega
  · rw [batL_zero]
    exact hs.re [4, 3, 6, 7, 0, 1, 2, 5] rfl
end
end Go.Proofs.YtnknippcbecmeaaGreatDoor.Pas
end
section
/- turn: Run. -/
namespace Go.Proofs.YtnknippcbecmeaaGreatDoor.Trn
open Go Go.Hw Go.Crc Go.Form W Shp Str Dsk Are
theorem BandIs.unique {r c per free : Int} {j j' : Nat} (hr : 1 ≤ r) (h : BandIs r c per free j) (h' : BandIs r c per free j') : j = j' := by
  have key : ∀ {a b : Nat}, BandIs r c per free a → BandIs r c per free b → ¬ a < b := fun {a b} ha hb hlt => by
    have hp : 2 ^ (a + 1) ≤ 2 ^ b := pow_le hlt
    rw [Nat.pow_succ] at hp
    have hz := pow_pos a
    have h1 := hb.le
    have h2 := hb.fit
    rcases ha.most with e | e
    · omega
    · have h3 : 2 * ((2 ^ a : Nat) : Int) ≤ ((2 ^ b : Nat) : Int) := by omega
      have := Int.mul_le_mul_of_nonneg_right h3 (show 0 ≤ r by omega)
      omega
  have h1 := key h h'
  have h2 := key h' h
  omega
theorem Band_is (r c per free : Int) (hper : -9223372036854775808 ≤ per ∧ per ≤ 9223372036854775807) (hf : free ≤ 9223372036854775807) (H : Hp) (hT : T64 H) (hg : goodS r c = true) (hp : perB per = true) (h1 : per ≤ free) (h2 : r ≤ free - per) {j : Nat} (hj : BandIs r c per free j) :
    HCalls Tryz.prog 91 #[.agg #[.int .i64 r, .int .i64 c], .int .i64 per, .int .i64 free] H (RetE (.tuple #[.int .i64 ((2 ^ j : Nat) : Int), .bool true]) H) :=
  (Band_ok r c per free hper hf H hT).mono fun v H' ⟨hq, e⟩ => by
    rcases hq with ⟨h, _⟩ | ⟨_, j', hj', rfl⟩
    · exact absurd ⟨hg, hp, h1, h2⟩ h
    · obtain ⟨ea, _, rfl, _⟩ := goodS_some hg
      have := pow_pos ea
      rw [hj.unique (by omega) hj']
      exact ⟨rfl, e⟩
theorem BandIs.ex {ea eb : Nat} {per free : Int} (hab : ea + eb ≤ 32) (h : ((2 ^ ea : Nat) : Int) ≤ free - per) : ∃ j, j ≤ eb ∧ BandIs ((2 ^ ea : Nat) : Int) ((2 ^ eb : Nat) : Int) per free j := by
  have key : ∀ t j, j + t = eb → ((2 ^ j : Nat) : Int) * ((2 ^ ea : Nat) : Int) ≤ free - per → ∃ j, j ≤ eb ∧ BandIs ((2 ^ ea : Nat) : Int) ((2 ^ eb : Nat) : Int) per free j := fun t => by
    induction t with
    | zero => intro j hj hf; exact ⟨j, by omega, ⟨by rw [show j = eb by omega]; exact Int.le_refl _, hf, .inl (by rw [show j = eb by omega])⟩⟩
    | succ t ih =>
      intro j hj hf
      by_cases hc : ((2 ^ (j + 1) : Nat) : Int) * ((2 ^ ea : Nat) : Int) ≤ free - per
      · exact ih (j + 1) (by omega) hc
      · refine ⟨j, by omega, ⟨Int.ofNat_le.2 (pow_le (by omega)), hf, .inr ?_⟩⟩
        rw [show (2 : Int) * ((2 ^ j : Nat) : Int) = ((2 ^ (j + 1) : Nat) : Int) by rw [Nat.pow_succ]; omega]
        omega
  exact key eb 0 (by omega) (by rw [Nat.pow_zero]; omega)
theorem BandIs.ge {r : Int} {eb : Nat} {per free : Int} {j : Nat} (h : BandIs r ((2 ^ eb : Nat) : Int) per free j) : j ≤ eb := by
  apply Nat.le_of_not_lt
  intro hlt
  have h1 := pow_le (show eb + 1 ≤ j from hlt)
  rw [Nat.pow_succ] at h1
  have := h.le
  have := pow_pos eb
  omega
section
variable {p q dp ap : Nat} {x y : X} {cap peak : Int} {bufs : List (Nat × Nat × Option Addr)} {TT : As}
theorem see_T {L : List As} {H : Hp} (hT : ∀ H, TT H → T64 H) (hs : Sep L H) (i : Nat) (hi : L[i]? = some TT) : T64 H := by
  obtain ⟨H1, h1, hle⟩ := hs.see i hi
  exact (hT H1 h1).le hle
theorem div_pow {a b : Nat} (h : a ≤ b) : 2 ^ b = 2 ^ b / 2 ^ a * 2 ^ a := (Nat.div_mul_cancel (Nat.pow_dvd_pow 2 h)).symm
theorem Run_tr {d : D} {ea eb j : Nat} (hT : ∀ H, TT H → T64 H) (hok : Ok d) (hl : d.down = false) (hx : On d x) (hy : On d y) (ho : d.rd ≤ 2000000000000000000 ∧ d.wr ≤ 2000000000000000000) (hab : ea + eb ≤ 32) (hxw : x.w = 2 ^ ea * 2 ^ eb) (hyw : y.w = 2 ^ ea * 2 ^ eb) (hdis : x.f + x.s ≤ y.f ∨ y.f + y.s ≤ x.f)
    (hper : perB (D.per d : Int) = true) (hcap : cap ≤ 1000000000000) (hsum : 0 ≤ sumB bufs) (hj : BandIs ((2 ^ ea : Nat) : Int) ((2 ^ eb : Nat) : Int) (D.per d) (cap - sumB bufs) j) :
    Tr Tryz.prog 97 #[.pointer (some ⟨p, 0, none⟩), .pointer (some ⟨q, 0, none⟩), .agg #[.int .i64 ((2 ^ ea : Nat) : Int), .int .i64 ((2 ^ eb : Nat) : Int)], .pointer (some ⟨ap, 0, none⟩), .int .i64 (D.per d : Int)]
      [pts p (pipO dp ap x), pts q (pipO dp ap y), Dk dp d, Ar ap cap peak bufs, TT] fun v M => ∃ M0, runP p q dp ap d x y (2 ^ ea) (2 ^ eb) (2 ^ j) cap peak bufs v M0 ∧ M = M0 ++ [TT] := fun H hs => by
  have hp := Ok.per_le hok
  have hg := goodS_pow hab
  have hsz := size_le hab
  have hr1 := pow_pos ea
  have hc1 := pow_pos eb
  have hb1 := pow_pos j
  have hjb := hj.ge
  have hfit := hj.fit
  rw [← Int.natCast_mul] at hfit
  have hbr : 1 * 2 ^ ea ≤ 2 ^ j * 2 ^ ea := Nat.mul_le_mul_right _ hb1
  have hbsz : 2 ^ j * 2 ^ ea ≤ 2 ^ ea * 2 ^ eb := by
    rw [Nat.mul_comm]; exact Nat.mul_le_mul_left _ (pow_le hjb)
  have hS : sizeS ((2 ^ ea : Nat) : Int) ((2 ^ eb : Nat) : Int) = ((2 ^ ea * 2 ^ eb : Nat) : Int) := by
    unfold sizeS; rw [if_pos hg, Int.natCast_mul]
  apply W_turn_Run.ok
  unfold W_turn_Run
  refine hs.nw fun sb H hs => BIf_neg rfl (BIf_neg rfl (BIf_neg rfl ?_))
  first | refine hs.ldw 5 rfl rfl ?_
  try simp only [HV]
  refine QCall.use (Good_ok _ _ H (see_T hT hs 4 rfl)) ?_
  rw [hg]
  simp only [HV]
  refine QCall.use (words_s hs 0 rfl) ?_
  simp only [HV]
  first | refine hs.ldw 5 rfl rfl ?_
  try simp only [HV]
  refine QCall.use (Size_ok _ _ H (see_T hT hs 4 rfl)) ?_
  rw [hS]
  simp only [HV]
  refine BIf_bnen (by rw [hxw]) ?_
  refine QCall.use (words_s hs 1 rfl) ?_
  simp only [HV]
  first | refine hs.ldw 5 rfl rfl ?_
  try simp only [HV]
  refine QCall.use (Size_ok _ _ H (see_T hT hs 4 rfl)) ?_
  rw [hS]
  simp only [HV]
  refine BIf_bnen (by rw [hyw]) ?_
  first | refine hs.ldw 5 rfl rfl ?_
  try simp only [HV]
  simp only [NN_some, Addr.add_zero]
  refine QCall.use (free_s hs 3 rfl) ?_
  simp only [HV]
  refine QCall.use (Band_is _ _ _ _ ⟨by omega, by omega⟩ (by omega) H (see_T hT hs 4 rfl) hg hper (by omega) (by omega) hj) ?_
  simp only [HV]
  refine hs.ld 5 (v := .int .i64 ((2 ^ ea : Nat) : Int)) rfl rfl ?_
  simp only [HV]
  rw [← Int.natCast_mul, i64n (by omega)]
  refine (Take_tr (a := ap) (cap := cap) (peak := peak) (bufs := bufs) (n := 2 ^ j * 2 ^ ea) (by omega) (by omega)).use hs [3] rfl rfl ?_
  rintro _ _ H ⟨bn, bb, rfl, rfl⟩ hs
  simp only [HV]
  refine BIf_bnen rfl ?_
  have hbm : ∀ z ∈ bufs, z.1 ≠ bn := fun z hz e => by
    obtain ⟨mp, cl, tk, hA⟩ := Sep.ar hs 0 rfl
    have := hA.bn
    rw [List.map_append, List.nodup_append] at this
    exact this.2.2 z.1 (List.mem_map_of_mem hz) bn (by simp) e
  refine hs.nw fun vb H hs => ?_
  refine hs.ldw 6 rfl rfl ?_
  simp only [HV]
  refine hs.nw fun rn H hs => ?_
  refine ⟨2 ^ eb / 2 ^ j + 1, ?_⟩
  have hz : zerosU64 (2 ^ j * 2 ^ ea) = wordVals (List.replicate (2 ^ j * 2 ^ ea) 0) := by
    unfold zerosU64
    rw [zeroRow_one]
    unfold wordVals
    rw [List.map_replicate]; rfl
  rw [hz] at hs
  have hsb : sumB (bufs ++ [(bn, 2 ^ j * 2 ^ ea, some ⟨bb, 0, none⟩)]) = sumB bufs + ((2 ^ j * 2 ^ ea : Nat) : Int) := by
    rw [sumB_append]; simp [sumB]
  have hpk : mx (mx peak (sumB bufs + ((2 ^ j * 2 ^ ea : Nat) : Int))) (sumB (bufs ++ [(bn, 2 ^ j * 2 ^ ea, some ⟨bb, 0, none⟩)]) + D.per d) = mx peak (sumB bufs + ((2 ^ j * 2 ^ ea : Nat) : Int) + D.per d) := by
    rw [hsb]
    generalize ((2 ^ j * 2 ^ ea : Nat) : Int) = n at *
    unfold mx
    by_cases h1 : sumB bufs + n > peak
    · rw [if_pos h1, if_pos (by omega), if_pos (by omega)]
    · rw [if_neg h1]
  have out : ∀ {v : Value} {d' : D} {H : Hp}, (∀ {M}, M = [pts p (pipO dp ap x), pts q (pipO dp ap y), Dk dp d', Ar ap cap (mx peak (sumB bufs + ((2 ^ j * 2 ^ ea : Nat) : Int) + D.per d)) bufs] → runP p q dp ap d x y (2 ^ ea) (2 ^ eb) (2 ^ j) cap peak bufs v M) →
      Sep [pts p (pipO dp ap x), pts q (pipO dp ap y), Dk dp d', Ar ap cap (mx (mx peak (sumB bufs + ((2 ^ j * 2 ^ ea : Nat) : Int))) (sumB (bufs ++ [(bn, 2 ^ j * 2 ^ ea, some ⟨bb, 0, none⟩)]) + D.per d)) bufs, TT] H → ∃ M, (∃ M0, runP p q dp ap d x y (2 ^ ea) (2 ^ eb) (2 ^ j) cap peak bufs v M0 ∧ M = M0 ++ [TT]) ∧ Sep M H := fun h hs => by
    rw [hpk] at hs
    exact ⟨_, ⟨_, h rfl, rfl⟩, hs⟩
  have hkk := run_loop (p := p) (q := q) (dp := dp) (ap := ap) (rn := rn) (bn := bn) (bb := bb) (sb := sb) (vb := vb) (x := x) (y := y) (cap := cap) (peak := mx peak (sumB bufs + ((2 ^ j * 2 ^ ea : Nat) : Int))) (bufs := bufs) (mb := 2 ^ j * 2 ^ ea) (TT := TT) (fun v H' => ∃ M, (∃ M0, runP p q dp ap d x y (2 ^ ea) (2 ^ eb) (2 ^ j) cap peak bufs v M0 ∧ M = M0 ++ [TT]) ∧ Sep M H') hok hx hy ho hxw hyw hdis hb1 (div_pow hjb) hsz hr1 hc1 (by rw [hsb]; omega) hbm rfl
    (fun d' H hI hs => out (fun e => .inl ⟨d', hI, rfl, e⟩) hs) (fun d' H hd hfu hs => out (fun e => .inr ⟨d', hd, hfu, rfl, e⟩) hs) (2 ^ eb / 2 ^ j) 0 d _ (List.replicate (2 ^ j * 2 ^ ea) 0) H (by omega)
    ⟨by simpa [rT, wT] using Prog.refl (inX y) hok hl, fun _ _ => rfl, fun k hk => by simp at hk⟩ (by simp) rfl (.inl rfl)
  have e0 : ((0 * 2 ^ j : Nat) : Int) = 0 := by rw [Nat.zero_mul]; rfl
  rw [e0] at hkk
  refine hkk ?_
  have hs := hs.re [6, 8, 1, 2, 3, 4, 0, 7, 5] rfl
  unfold turnL
  simp only [Nat.zero_mul, Nat.mul_zero, List.take_zero]
  exact hs
end
end Go.Proofs.YtnknippcbecmeaaGreatDoor.Trn
end
