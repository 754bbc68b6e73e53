/- Bits that are turned; the law CrcBursts. -/
import Derived.Test.YtdjdielefolfbaaCrcB
set_option linter.unusedSimpArgs false
set_option linter.unusedVariables false
set_option linter.unnecessarySimpa false
namespace Go.Crc
open Go

/-- A bit more. -/
def feed (v : W32) (b : Bool) : W32 := bit1 (v ^^^ (if b then 1#32 else 0#32))
def feedN (f : Nat → Bool) : Nat → Nat → W32 → W32
  | _, 0, v => v
  | s, n + 1, v => feedN f (s + 1) n (feed v (f s))

theorem feedN_add (f : Nat → Bool) : ∀ (a b s : Nat) (v : W32), feedN f s (a + b) v = feedN f (s + a) b (feedN f s a v)
  | 0, b, s, v => by simp [feedN]
  | a + 1, b, s, v => by rw [Nat.add_right_comm]; simp only [feedN]; rw [feedN_add f a b (s + 1), show s + 1 + a = s + (a + 1) by omega]

theorem feedN_congr {f g : Nat → Bool} : ∀ (n s : Nat) (v : W32), (∀ p, s ≤ p → p < s + n → f p = g p) → feedN f s n v = feedN g s n v
  | 0, s, v, _ => rfl
  | n + 1, s, v, h => by simp only [feedN]; rw [h s (by omega) (by omega)]; exact feedN_congr n (s + 1) _ (fun p h1 h2 => h p (by omega) (by omega))

theorem feedN_xor (f g : Nat → Bool) : ∀ (n s : Nat) (v w : W32), feedN f s n v ^^^ feedN g s n w = feedN (fun p => f p ^^ g p) s n (v ^^^ w)
  | 0, _, _, _ => rfl
  | n + 1, s, v, w => by
    simp only [feedN]
    rw [feedN_xor f g n (s + 1)]
    congr 1
    unfold feed
    rw [← lin_bit1, xor4]
    congr 2
    cases f s <;> cases g s <;> simp

theorem feedN_zero : ∀ (n s : Nat) (v : W32), feedN (fun _ => false) s n v = it bit1 n v
  | 0, _, _ => rfl
  | n + 1, s, v => by simp only [feedN, it]; rw [feedN_zero n (s + 1)]; simp [feed]

theorem it_zero (n : Nat) : it bit1 n 0#32 = 0#32 := (Lin.it lin_bit1 n).zero

theorem feed_step (v W : W32) : feed v (W.getLsbD 0) ^^^ (W >>> 1) = bit1 (v ^^^ W) := by
  have h1 : W = (if W.getLsbD 0 then 1#32 else 0#32) ^^^ (W >>> 1) <<< 1 := by
    apply BitVec.eq_of_getLsbD_eq
    intro i hi
    rw [BitVec.getLsbD_xor, BitVec.getLsbD_shiftLeft, BitVec.getLsbD_ushiftRight]
    cases i with
    | zero => cases h : W.getLsbD 0 <;> simp
    | succ i => cases h : W.getLsbD 0 <;> simp [Nat.add_comm, hi]
  have h2 : bit1 ((W >>> 1) <<< 1) = W >>> 1 := by
    rw [bit1_shift (by rw [BitVec.getLsbD_shiftLeft]; simp)]
    apply BitVec.eq_of_getLsbD_eq
    intro i hi
    rw [BitVec.getLsbD_ushiftRight, BitVec.getLsbD_shiftLeft, BitVec.getLsbD_ushiftRight]
    by_cases h : 1 + i < 32
    · simp [h]
    · have := BitVec.getLsbD_of_ge W (1 + i) (by omega)
      simp [this]
  conv => rhs; rw [h1, ← BitVec.xor_assoc, lin_bit1, h2]
  rfl

theorem feedN_word (f : Nat → Bool) : ∀ (r s : Nat) (v W : W32), (∀ j, j < r → f (s + j) = W.getLsbD j) → feedN f s r v ^^^ (W >>> r) = it bit1 r (v ^^^ W)
  | 0, s, v, W, _ => by simp [feedN, it]
  | r + 1, s, v, W, h => by
    simp only [feedN, it]
    have h0 : f s = W.getLsbD 0 := h 0 (by omega)
    rw [h0, Nat.add_comm r 1, BitVec.shiftRight_add, feedN_word f r (s + 1) _ (W >>> 1) (fun j hj => by
      rw [BitVec.getLsbD_ushiftRight, ← h (1 + j) (by omega)]; congr 1; omega), feed_step]

theorem shr_all (W : W32) : W >>> 32 = 0#32 := by
  apply BitVec.eq_of_getLsbD_eq
  intro i hi
  rw [BitVec.getLsbD_ushiftRight, BitVec.getLsbD_of_ge W (32 + i) (by omega)]; simp

def bitOf (bs : List UInt8) (p : Nat) : Bool := match bs[p / 8]? with | some c => c.toBitVec.getLsbD (p % 8) | none => false

theorem byte_feed (c : UInt8) (v : W32) (f : Nat → Bool) (s : Nat) (h : ∀ j, j < 8 → f (s + j) = c.toBitVec.getLsbD j) : feedN f s 8 v = byte v c := by
  have h1 := feedN_word f 8 s v (low c) (fun j hj => by rw [h j hj]; unfold low; rw [BitVec.getLsbD_setWidth]; simp [show j < 32 by omega])
  have h2 : low c >>> 8 = 0#32 := by
    apply BitVec.eq_of_getLsbD_eq
    intro i hi
    unfold low
    rw [BitVec.getLsbD_ushiftRight, BitVec.getLsbD_setWidth, BitVec.getLsbD_of_ge c.toBitVec (8 + i) (by omega)]; simp
  rw [h2, BitVec.xor_zero] at h1
  exact h1

theorem run_feed (f : Nat → Bool) : ∀ (bs : List UInt8) (s : Nat) (v : W32), (∀ p, p < 8 * bs.length → f (s + p) = bitOf bs p) → run v bs = feedN f s (8 * bs.length) v
  | [], _, _, _ => rfl
  | c :: bs, s, v, h => by
    have h1 : feedN f s 8 v = byte v c := byte_feed c v f s (fun j hj => by
      rw [h j (by simp; omega)]; unfold bitOf; rw [show j / 8 = 0 by omega, show j % 8 = j by omega]; rfl)
    simp only [List.length_cons]
    rw [Nat.mul_succ, Nat.add_comm, feedN_add, h1]
    simp only [run, List.foldl_cons]
    exact run_feed f bs (s + 8) _ (fun p hp => by
      rw [show s + 8 + p = s + (p + 8) by omega, h (p + 8) (by simp; omega)]; unfold bitOf; rw [show (p + 8) / 8 = p / 8 + 1 by omega, show (p + 8) % 8 = p % 8 by omega]; rfl)

/-- Turned bits side by side tell: the sums are the same just if none is turned. -/
theorem burst (bs cs : List UInt8) (hl : cs.length = bs.length) (i0 : Nat) (B : W32) (h : ∀ p, p < 8 * bs.length → bitOf cs p = (bitOf bs p ^^ (decide (i0 ≤ p ∧ p < i0 + 32) && B.getLsbD (p - i0)))) :
    sum bs = sum cs ↔ ∀ k, k < 32 → B.getLsbD k = true → 8 * bs.length ≤ i0 + k := by
  let L := 8 * bs.length
  let δ : Nat → Bool := fun p => decide (i0 ≤ p ∧ p < i0 + 32) && B.getLsbD (p - i0)
  have e1 : run (~~~ 0#32) bs = feedN (bitOf bs) 0 L (~~~ 0#32) := run_feed _ bs 0 _ (fun p _ => by rw [Nat.zero_add])
  have e2 : run (~~~ 0#32) cs = feedN (bitOf cs) 0 L (~~~ 0#32) := by
    have := run_feed (bitOf cs) cs 0 (~~~ 0#32) (fun p _ => by rw [Nat.zero_add])
    rw [hl] at this; exact this
  have e3 : run (~~~ 0#32) bs ^^^ run (~~~ 0#32) cs = feedN δ 0 L 0#32 := by
    rw [e1, e2, feedN_xor, BitVec.xor_self]
    refine feedN_congr L 0 _ (fun p _ hp => ?_)
    rw [h p (by simpa using hp)]
    show (bitOf bs p ^^ (bitOf bs p ^^ δ p)) = δ p
    cases bitOf bs p <;> simp
  have e4 : sum bs = sum cs ↔ feedN δ 0 L 0#32 = 0#32 := by
    rw [← e3]
    unfold sum more
    constructor
    · intro hh
      have : run (~~~ 0#32) bs = run (~~~ 0#32) cs := by have := congrArg (fun v => ~~~ v) hh; simpa using this
      rw [this, BitVec.xor_self]
    · intro hh
      have : run (~~~ 0#32) bs = run (~~~ 0#32) cs := by
        have := congrArg (fun v => v ^^^ run (~~~ 0#32) cs) hh
        simpa [BitVec.xor_assoc] using this
      rw [this]
  rw [e4]
  by_cases hi : L ≤ i0
  · have : feedN δ 0 L 0#32 = 0#32 := by
      rw [feedN_congr (g := fun _ => false) L 0 _ (fun p _ hp => by simp [δ]; omega), feedN_zero, it_zero]
    rw [this]
    exact ⟨fun _ k _ _ => by omega, fun _ => rfl⟩
  · let r := min 32 (L - i0)
    have hr32 : r ≤ 32 := Nat.min_le_left _ _
    have hrL : r ≤ L - i0 := Nat.min_le_right _ _
    let W : W32 := BitVec.ofNat 32 (B.toNat % 2 ^ r)
    have hW : ∀ j, W.getLsbD j = (decide (j < r) && B.getLsbD j) := fun j => by
      show (BitVec.ofNat 32 (B.toNat % 2 ^ r)).getLsbD j = _
      rw [BitVec.getLsbD_ofNat, Nat.testBit_mod_two_pow]
      by_cases hj : j < 32
      · simp [hj, BitVec.getLsbD]
      · have : ¬ j < r := by omega
        simp [hj, this]
    have hL : L = i0 + (r + (L - i0 - r)) := by omega
    have e5 : feedN δ 0 L 0#32 = it bit1 (L - i0 - r) (it bit1 r W) := by
      rw [hL, feedN_add, feedN_add]
      have a1 : feedN δ 0 i0 0#32 = 0#32 := by
        rw [feedN_congr (g := fun _ => false) i0 0 _ (fun p _ hp => by simp [δ]; omega), feedN_zero, it_zero]
      have a2 : feedN δ (0 + i0) r 0#32 = it bit1 r W := by
        have := feedN_word δ r (0 + i0) 0#32 W (fun j hj => by
          rw [hW j]
          have : i0 ≤ 0 + i0 + j ∧ 0 + i0 + j < i0 + 32 := by omega
          show (decide (i0 ≤ 0 + i0 + j ∧ 0 + i0 + j < i0 + 32) && B.getLsbD (0 + i0 + j - i0)) = _
          rw [decide_eq_true this, decide_eq_true hj, show 0 + i0 + j - i0 = j by omega])
        have a3 : W >>> r = 0#32 := by
          apply BitVec.eq_of_getLsbD_eq
          intro i hi'
          rw [BitVec.getLsbD_ushiftRight, hW, decide_eq_false (show ¬ r + i < r by omega)]; simp
        rw [a3, BitVec.xor_zero, BitVec.zero_xor] at this
        exact this
      rw [a1, a2, show i0 + (r + (L - i0 - r)) - i0 - r = L - i0 - r by omega]
      have a4 : ∀ (n s : Nat) (v : W32), L ≤ s + n ∨ i0 + 32 ≤ s → i0 + r ≤ s → s + n ≤ L → feedN δ s n v = it bit1 n v := fun n s v _ h1 h2 => by
        rw [feedN_congr (g := fun _ => false) n s _ (fun p h3 h4 => by
          have : ¬ (i0 ≤ p ∧ p < i0 + 32) := by omega
          simp [δ, this]), feedN_zero]
      exact a4 _ _ _ (.inl (by omega)) (by omega) (by omega)
    rw [e5]
    constructor
    · intro hh k hk hb
      have hz : W = 0#32 := it_inj _ (it_inj _ hh)
      have := hW k
      rw [hz, hb] at this
      have hkr : ¬ k < r := fun h' => by simp [h'] at this
      show L ≤ i0 + k
      omega
    · intro hh
      have hz : W = 0#32 := by
        apply BitVec.eq_of_getLsbD_eq
        intro j hj
        rw [hW j]
        cases hb : B.getLsbD j with
        | false => simp
        | true =>
          have : L ≤ i0 + j := hh j hj hb
          have : ¬ j < r := by omega
          simp [this]
      rw [hz, it_zero, it_zero]

end Go.Crc
namespace Go.Proofs.Ytdjdielefolfbaa.CrcP
open Go Go.Hw Go.Crc Go.Proofs.Ytdjdielefolfbaa.W

theorem shl8 {t : Nat} (ht : t < 8) : shlI .u8 1 (t : Int) = ((1#8 <<< t).toNat : Int) := by
  unfold shlI
  rw [Int.toNat_natCast, show IntKind.u8.bits = 8 from rfl, Nat.min_eq_left (by omega), u8mod, Int.one_mul, BitVec.toNat_shiftLeft, Nat.shiftLeft_eq, show ((2 : Int) ^ t) = ((2 ^ t : Nat) : Int) by simp]
  simp

def flip (cs : List UInt8) (i : Nat) : List UInt8 := cs.set (i / 8) (UInt8.ofBitVec ((cs.getD (i / 8) 0).toBitVec ^^^ (1#8 <<< (i % 8))))

theorem getD_at (cs : List UInt8) {k : Nat} (h : k < cs.length) : cs.getD k 0 = cs[k] := by rw [List.getD_eq_getElem?_getD, List.getElem?_eq_getElem h]; rfl

theorem flip_length (cs : List UInt8) (i : Nat) : (flip cs i).length = cs.length := by simp [flip]

theorem flip_bit (cs : List UInt8) (i p : Nat) (hi : i / 8 < cs.length) : bitOf (flip cs i) p = (bitOf cs p ^^ decide (p = i)) := by
  unfold bitOf flip
  rw [List.getElem?_set]
  by_cases h : i / 8 = p / 8
  · rw [if_pos h, if_pos hi, ← h, List.getElem?_eq_getElem hi, getD_at cs hi]
    simp only
    rw [BitVec.getLsbD_xor]
    congr 1
    rw [BitVec.getLsbD_shiftLeft]
    by_cases e : p = i
    · subst e; simp [show p % 8 < 8 by omega]
    · have e' : p % 8 ≠ i % 8 := by omega
      simp only [e, decide_false]
      by_cases h3 : p % 8 < i % 8
      · simp [h3]
      · have : p % 8 - i % 8 ≠ 0 := by omega
        simp [h3, this]
  · rw [if_neg h]
    have e : p ≠ i := by omega
    simp [e]

theorem flip_vals (cs : List UInt8) (i : Nat) (hi : i / 8 < cs.length) : byteVals (flip cs i) = (byteVals cs).set (i / 8) (.int .u8 ((cs[i / 8].toBitVec ^^^ (1#8 <<< (i % 8))).toNat : Int)) := by
  unfold flip byteVals
  rw [List.map_set, getD_at cs hi]
  rfl

theorem u32_ne (a b : W32) : ((a.toNat : Int) != (b.toNat : Int)) = decide (a ≠ b) := by
  rw [bne, u32_eq]
  by_cases h : a = b <;> simp [h]

theorem cb_loop (K : Value → Hp → Prop) (A : Option Addr) (n m : Nat) (bs : List UInt8) (hn : n = bs.length) (hm : n ≤ 200) (H0 : Hp) (hb : Cells H0 A (byteVals bs)) (i0 at' : Nat) (hat : at' ≤ 65535) (hi0 : i0 = at' % 2000) (B : W32) (bb m' mm : Nat) (e : TypeId) (h0 : H0 bb = none)
    (hK : ∀ H, H0.le H → K (.bool true) H) : ∀ (d k : Nat) (cs : List UInt8) (c2 : Bool) (H : Hp), k + d = 32 → cs.length = n → H = H0.set bb (.row (byteVals cs) e mm) →
      (∀ p, p < 8 * bs.length → bitOf cs p = (bitOf bs p ^^ (decide (i0 ≤ p ∧ p < i0 + k) && B.getLsbD (p - i0)))) → (c2 = true ↔ ∃ j, j < k ∧ B.getLsbD j = true ∧ i0 + j < 8 * bs.length) →
      W_abacistlaw16_CrcBursts.l8 K (d + 1) A n m (at' : Int) (B.toNat : Int) (some ⟨bb, 0, none⟩) n m' c2 (k : Int) H
  | 0, k, cs, c2, H, hk, hl, hH, hbit, hc => by
    obtain rfl : k = 32 := by omega
    unfold W_abacistlaw16_CrcBursts.l8
    refine BIf_dneg (by omega) ?_
    have hle : H0.le H := by rw [hH]; exact Hp.le_set h0
    refine HCalls.use (Of_ok A n m bs hn (by omega) H (hb.le hle)) ?_
    try simp only [DI_int', DB_bool, DS_string, DP_pointer, DSl_slice, DM_map, DA_agg, DTup_tuple, DCons_cons, DNil_nil, NN_some, BIf_true, BIf_false, BIf_same, List.toList_toArray, Bool.not_true, Bool.not_false]
    refine HCalls.use (Of_ok (some ⟨bb, 0, none⟩) n m' cs hl.symm (by omega) H (by have := Cells.row (show H bb = some (.row (byteVals cs) e mm) by rw [hH]; exact Hp.set_same _ _ _) 0 n; rwa [List.drop_zero, List.take_of_length_le (by rw [byteVals_length]; omega)] at this)) ?_
    try simp only [DI_int', DB_bool, DS_string, DP_pointer, DSl_slice, DM_map, DA_agg, DTup_tuple, DCons_cons, DNil_nil, NN_some, BIf_true, BIf_false, BIf_same, List.toList_toArray, Bool.not_true, Bool.not_false]
    rw [u32_ne]
    have hbu := burst bs cs (by omega) i0 B hbit
    have : (c2 == decide (sum bs ≠ sum cs)) = true := by
      by_cases hs : sum bs = sum cs
      · have h1 := hbu.1 hs
        have : c2 = false := by
          cases h2 : c2 with
          | false => rfl
          | true => obtain ⟨j, h3, h4, h5⟩ := hc.1 h2; have := h1 j h3 h4; omega
        simp [this, hs]
      · have : c2 = true := by
          cases h2 : c2 with
          | true => rfl
          | false =>
            refine absurd (hbu.2 fun j h3 h4 => ?_) hs
            rcases Nat.lt_or_ge (i0 + j) (8 * bs.length) with h5 | h5
            · have := hc.2 ⟨j, h3, h4, h5⟩; rw [h2] at this; cases this
            · exact h5
        simp [this, hs]
    rw [this]
    exact hK H hle
  | d + 1, k, cs, c2, H, hk, hl, hH, hbit, hc => by
    unfold W_abacistlaw16_CrcBursts.l8
    refine BIf_dpos (by omega) ?_
    have hi : IntKind.i64.wrap ((Int.tmod (IntKind.i64.wrap (at' : Int)) 2000) + (k : Int)) = ((i0 + k : Nat) : Int) := by
      rw [i64n (n := at') (by omega), show Int.tmod (at' : Int) 2000 = ((at' % 2000 : Nat) : Int) from rfl, ← hi0]
      exact i64w (by omega) (by omega)
    have hdiv : IntKind.i64.wrap (Int.tdiv ((i0 + k : Nat) : Int) 8) = (((i0 + k) / 8 : Nat) : Int) := by
      rw [show Int.tdiv ((i0 + k : Nat) : Int) 8 = (((i0 + k) / 8 : Nat) : Int) from rfl]; exact i64n (by omega)
    rw [hi, hdiv, u64w (x := (k : Int)) (by omega) (by omega), shr32 B (i := (k : Int)) (n := k) rfl (by omega), mod32, BitVec.getLsbD_ushiftRight, Nat.add_zero, i64w (x := (k : Int) + 1) (by omega) (by omega)]
    refine ⟨by omega, rfl, by omega, by omega, rfl, ?_⟩
    have next : ∀ (cs' : List UInt8) (c2' : Bool) (H' : Hp), cs'.length = n → H' = H0.set bb (.row (byteVals cs') e mm) →
      (∀ p, p < 8 * bs.length → bitOf cs' p = (bitOf bs p ^^ (decide (i0 ≤ p ∧ p < i0 + (k + 1)) && B.getLsbD (p - i0)))) → (c2' = true ↔ ∃ j, j < k + 1 ∧ B.getLsbD j = true ∧ i0 + j < 8 * bs.length) →
      W_abacistlaw16_CrcBursts.l8 K (d + 1) A n m (at' : Int) (B.toNat : Int) (some ⟨bb, 0, none⟩) n m' c2' ((k : Int) + 1) H' := fun cs' c2' H' h1 h2 h3 h4 => by
      have := cb_loop K A n m bs hn hm H0 hb i0 at' hat hi0 B bb m' mm e h0 hK d (k + 1) cs' c2' H' (by omega) h1 h2 h3 h4
      exact this
    have same : (B.getLsbD k = false ∨ 8 * bs.length ≤ i0 + k) → W_abacistlaw16_CrcBursts.l8 K (d + 1) A n m (at' : Int) (B.toNat : Int) (some ⟨bb, 0, none⟩) n m' c2 ((k : Int) + 1) H := fun hno => by
      refine next cs c2 H hl hH (fun p hp => ?_) (hc.trans ⟨fun ⟨j, h1, h2⟩ => ⟨j, by omega, h2⟩, fun ⟨j, h1, h2, h3⟩ => ⟨j, ?_, h2, h3⟩⟩)
      · rw [hbit p hp]
        congr 1
        by_cases hpe : p = i0 + k
        · subst hpe
          rcases hno with h | h
          · rw [show i0 + k - i0 = k by omega, h]; simp
          · omega
        · congr 1
          simp only [decide_eq_decide]; omega
      · rcases Nat.lt_succ_iff_lt_or_eq.1 h1 with h | rfl
        · exact h
        · rcases hno with h | h
          · rw [h] at h2; cases h2
          · omega
    refine BIf_intro (fun hbk => ?_) (fun hbk => same (.inl hbk))
    refine ⟨by omega, rfl, ?_⟩
    rw [BIf_decide]
    split
    · rename_i hlt
      have hq : (i0 + k) / 8 < cs.length := by omega
      have hbb : H bb = some (.row (byteVals cs) e mm) := by rw [hH]; exact Hp.set_same _ _ _
      refine ⟨by omega, rfl, by omega, rfl, by omega, by omega, ?_⟩
      simp only [NN_some, Addr.add_lit', Int.toNat_natCast, Nat.mul_one, Nat.zero_add, Nat.add_zero]
      refine Ld_row hbb (v := .int .u8 (cs[(i0 + k) / 8].toNat : Int)) (by rw [byteVals_get, List.getElem?_eq_getElem hq]; rfl) ?_
      simp only [DI_int', DB_bool, DS_string, DP_pointer, DSl_slice, DM_map, DA_agg, DTup_tuple, DCons_cons, DNil_nil, NN_some, BIf_true, BIf_false, BIf_same, List.toList_toArray, Bool.not_true, Bool.not_false]
      rw [show Int.tmod ((i0 + k : Nat) : Int) 8 = (((i0 + k) % 8 : Nat) : Int) from rfl, u64n (by omega), shl8 (by omega), show (cs[(i0 + k) / 8].toNat : Int) = ((cs[(i0 + k) / 8].toBitVec).toNat : Int) from rfl, xor8]
      refine ⟨by simp, by simp, by omega, by omega, by omega, ?_⟩
      refine St_row hbb (by rw [byteVals_length]; exact hq) rfl ?_
      rw [← flip_vals cs (i0 + k) hq]
      refine next (flip cs (i0 + k)) true _ (by rw [flip_length]; exact hl) (by rw [hH, Hp.set_set]) (fun p hp => ?_) ⟨fun _ => ⟨k, by omega, hbk, by omega⟩, fun _ => rfl⟩
      rw [flip_bit _ _ _ hq, hbit p hp, Bool.xor_assoc]
      congr 1
      by_cases hpe : p = i0 + k
      · subst hpe
        rw [show i0 + k - i0 = k by omega, hbk]
        simp
      · rw [decide_eq_false hpe, Bool.xor_false]
        congr 1
        simp only [decide_eq_decide]; omega
    · exact same (.inr (by omega))

theorem cell_u8' : cellInfo Try.prog 5 = some (1, 1, some #[.int .u8 0]) := by kernel_rfl

theorem CrcBursts_ok (A : Option Addr) (n m : Nat) (bs : List UInt8) (hn : n = bs.length) (x1 x2 : Int) (h1 : 0 ≤ x1 ∧ x1 ≤ 65535) (h2 : 0 ≤ x2 ∧ x2 ≤ 4294967295) (H : Hp) (hb : Cells H A (byteVals bs)) :
    HCalls Try.prog 6 #[.slice A n m, .int .u16 x1, .int .u32 x2] H (RetE (.bool true) H) := by
  apply HCalls.ret
  apply W_abacistlaw16_CrcBursts.ok
  unfold W_abacistlaw16_CrcBursts
  refine HCalls.use (awake_ok H) ?_
  try simp only [DI_int', DB_bool, DS_string, DP_pointer, DSl_slice, DM_map, DA_agg, DTup_tuple, DCons_cons, DNil_nil, NN_some, BIf_true, BIf_false, BIf_same, List.toList_toArray, Bool.not_true, Bool.not_false]
  rw [BIf_decide]
  split
  · exact ⟨rfl, Hp.le_refl _⟩
  refine BIf_intro (fun _ => ⟨rfl, Hp.le_refl _⟩) (fun _ => ?_)
  intro b0 hb0
  have hle := Hp.le_set (o := .row [] 5 0) hb0
  refine AppK_own cell_u8' rfl (by omega) (Hp.set_same _ _ _) (xs := []) (m := 0) rfl (by omega) rfl (ys := byteVals bs) (src_of (hb.le hle) (by rw [byteVals_length]; exact hn)) (by rw [byteVals_length]; omega) (by intro y hy; simp [byteVals] at hy; obtain ⟨_, _, rfl⟩ := hy; rfl) (by omega) (by omega) ?_
  intro bb c m' hc1 hc2 hbb
  rw [erase_new hb0] at hbb ⊢
  simp only [DI_int', DB_bool, DS_string, DP_pointer, DSl_slice, DM_map, DA_agg, DTup_tuple, DCons_cons, DNil_nil, NN_some, BIf_true, BIf_false, BIf_same, List.toList_toArray, Bool.not_true, Bool.not_false]
  obtain ⟨a1, rfl⟩ := Int.eq_ofNat_of_zero_le h1.1
  obtain ⟨a2, rfl⟩ := Int.eq_ofNat_of_zero_le h2.1
  have hB : (a2 : Int) = ((BitVec.ofNat 32 a2).toNat : Int) := by rw [BitVec.toNat_ofNat, Nat.mod_eq_of_lt (by omega)]
  rw [hB, Nat.zero_add, List.nil_append]
  refine ⟨33, cb_loop _ A n m bs hn (by omega) H hb (a1 % 2000) a1 (by omega) rfl (BitVec.ofNat 32 a2) bb c m' 5 hbb (fun H' hl => ⟨rfl, hl⟩) 32 0 bs false _ rfl hn.symm rfl (fun p hp => ?_) ?_⟩
  · rw [decide_eq_false (show ¬ (a1 % 2000 ≤ p ∧ p < a1 % 2000 + 0) by omega)]
    simp
  · constructor
    · intro h; cases h
    · rintro ⟨j, hj, _⟩; omega
where erase_new {H : Hp} {b : Nat} {o : AO} (h : H b = none) : (H.set b o).erase b = H := by
        funext c
        unfold Hp.erase Hp.set
        split
        · rename_i e; rw [e, h]
        · rfl

end Go.Proofs.Ytdjdielefolfbaa.CrcP
