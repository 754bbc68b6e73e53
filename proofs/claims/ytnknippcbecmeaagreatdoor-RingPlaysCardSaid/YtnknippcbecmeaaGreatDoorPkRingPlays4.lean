import Derived.Test.YtnknippcbecmeaaGreatDoorProg
import Derived.Shelf.Strings.Trim
import Derived.Test.YtnknippcbecmeaaGreatDoorPkRingPlays3
set_option maxRecDepth 100000
set_option linter.unusedVariables false
set_option linter.unusedSimpArgs false
set_option linter.unnecessarySimpa false
set_option linter.unusedSectionVars false
section
/- Formulas of functions, printed by wip/tools/hwp.py. -/
namespace Go.Proofs.YtnknippcbecmeaaGreatDoor.W
open Go Go.Hw
theorem mixWabacistref16 : Tryz.prog.follows .mixedOrders = true := by kernel_rfl
def W_abacistref16_OfWords (A1 : Option Addr) (n1 : Nat) (m1 : Nat) (H : Hp) (K : Value → Hp → Prop) : Prop :=
  HCalls Tryz.prog 50 #[.slice A1 n1 m1] H fun v1 H1 => DS v1 fun s1 => HCalls Tryz.prog 49 #[.string s1] H1 fun v2 H2 => DI .u32 v2 fun x1 => K (.int .u32 x1) H2
theorem W_abacistref16_OfWords.ok (A1 : Option Addr) (n1 : Nat) (m1 : Nat) (H : Hp) (K : Value → Hp → Prop) (h : W_abacistref16_OfWords A1 n1 m1 H K) : HCalls Tryz.prog 10 #[.slice A1 n1 m1] H K :=
  hcalls Tryz.func10 rfl (Nat.le_of_ble_eq_true rfl) (hw_safe (Λ := Cuts.none (fun _ => none)) mixWabacistref16 _ _ _ _ _ (Eq.mp (by kernel_rfl) h) (obs_none _ _ _ _ _))
def W_abacistref16_Of.l7 (K : Value → Hp → Prop) (R3 : ByteArray → Int → Int → Hp → Prop) : Nat → ByteArray → Int → Int → Int → Int → Hp → Prop
  | 0, _, _, _, _, _, _ => False
  | k + 1, s3, x4, x5, x6, x7, H =>
    let R7 := W_abacistref16_Of.l7 K R3 k
    BIf (decide (x7 < (8 : Int))) (((2 : Int) ≠ 0 ∧ IntKind.u32 = IntKind.u32 ∧ ((2 : Int) ≠ 0 ∧ IntKind.u32 = IntKind.u32 ∧ ((2 : Int) ≠ 0 ∧ IntKind.u8 = IntKind.u8 ∧ BIf ((Int.tmod (bXor .u32 x4 (IntKind.u32.wrap x6)) (2 : Int)) == (1 : Int)) (R7 s3 (bXor .u32 (IntKind.u32.wrap (Int.tdiv x4 (2 : Int))) (2197175160 : Int)) x5 (IntKind.u8.wrap (Int.tdiv x6 (2 : Int))) (IntKind.i64.wrap (x7 + (1 : Int))) H) (R7 s3 (IntKind.u32.wrap (Int.tdiv x4 (2 : Int))) x5 (IntKind.u8.wrap (Int.tdiv x6 (2 : Int))) (IntKind.i64.wrap (x7 + (1 : Int))) H))))) (R3 s3 x4 (IntKind.i64.wrap (x5 + (1 : Int))) H)
def W_abacistref16_Of.l3 (K : Value → Hp → Prop) : Nat → ByteArray → Int → Int → Hp → Prop
  | 0, _, _, _, _ => False
  | k + 1, s2, x1, x2, H =>
    let R3 := W_abacistref16_Of.l3 K k
    BIf (decide (x2 < ((s2.size : Nat) : Int))) ((0 ≤ x2 ∧ ixB s2 x2.toNat fun x3 => (∃ k, W_abacistref16_Of.l7 K R3 k s2 x1 x2 x3 (0 : Int) H))) (K (.int .u32 (bXor .u32 x1 (4294967295 : Int))) H)
def W_abacistref16_Of (s1 : ByteArray) (H : Hp) (K : Value → Hp → Prop) : Prop :=
  (∃ k, W_abacistref16_Of.l3 K k s1 (4294967295 : Int) (0 : Int) H)
def W_abacistref16_Of.l3.L (K : Value → Hp → Prop) (k : Nat) : Mid := fun E D H =>
  DG (E.get? 0) fun w0 => DS w0 fun s2 => eI E 3 .u32 fun x1 => eI E 4 .i64 fun x2 => DNilD D (W_abacistref16_Of.l3 K k s2 x1 x2 H)
def W_abacistref16_Of.l7.L (K : Value → Hp → Prop) (R3 : ByteArray → Int → Int → Hp → Prop) (k : Nat) : Mid := fun E D H =>
  DG (E.get? 0) fun w0 => DS w0 fun s3 => eI E 3 .u32 fun x4 => eI E 4 .i64 fun x5 => eI E 5 .u8 fun x6 => eI E 6 .i64 fun x7 => DNilD D (W_abacistref16_Of.l7 K R3 k s3 x4 x5 x6 x7 H)
def W_abacistref16_Of.Λ7 (_ : Value → Hp → Prop) (_R3 : ByteArray → Int → Int → Hp → Prop) (_R7 : ByteArray → Int → Int → Int → Int → Hp → Prop) : Cuts := Cuts.none (fun _ => none)
def W_abacistref16_Of.Λ3 (K : Value → Hp → Prop) (R3 : ByteArray → Int → Int → Hp → Prop) : Cuts := ⟨fun i => none, fun i => match Nat.beq i 7 with | true => some (fun E D H => ∃ k, W_abacistref16_Of.l7.L K R3 k E D H) | false => none, (fun _ => none)⟩
def W_abacistref16_Of.Λ (K : Value → Hp → Prop) : Cuts := ⟨fun i => none, fun i => match Nat.beq i 3 with | true => some (fun E D H => ∃ k, W_abacistref16_Of.l3.L K k E D H) | false => none, (fun _ => none)⟩
theorem W_abacistref16_Of.ok (s1 : ByteArray) (H : Hp) (K : Value → Hp → Prop) (h : W_abacistref16_Of s1 H K) : HCalls Tryz.prog 49 #[.string s1] H K :=
  hcalls Tryz.func49 rfl (Nat.le_of_ble_eq_true rfl) (hw_safe (Λ := (W_abacistref16_Of.Λ K)) mixWabacistref16 _ _ _ _ _ (Eq.mp (by kernel_rfl) h) (obs_seq obs_region rfl (obs_seq obs_region rfl (obs_seq (obs_seq obs_region rfl (obs_block (obs_loop rfl (fun E D H h => by
      refine Safe.loop' (W_abacistref16_Of.l3.L K) (fun E D H h => ?_) (fun k E D H h => ?_) E D H h
      · obtain ⟨w0, e0, g1⟩ := DG.out h; obtain ⟨s2, rfl, g2⟩ := DS.out g1; obtain ⟨w3, e3, g3⟩ := DG.out g2; obtain ⟨x1, rfl, g4⟩ := DI.out g3; obtain ⟨w4, e4, g5⟩ := DG.out g4; obtain ⟨x2, rfl, g6⟩ := DI.out g5; obtain ⟨rfl, h'⟩ := DNilD.out g6; exact h'
      · obtain ⟨w0, e0, g1⟩ := DG.out h
        obtain ⟨s2, rfl, g2⟩ := DS.out g1
        obtain ⟨x1, e3, g4⟩ := GI g2; obtain ⟨x2, e4, g6⟩ := GI g4; obtain ⟨rfl, h'⟩ := DNilD.out g6
        exact (hw_safe (Λ := (W_abacistref16_Of.Λ3 K (W_abacistref16_Of.l3 K k))) mixWabacistref16 _ _ [(0, .string s2), (3, .int .u32 x1), (4, .int .i64 x2)] [] H (Eq.mp (by kernel_rfl) h') (obs_seq (obs_seq obs_region rfl (obs_cond obs_skip obs_exit)) rfl (obs_seq (obs_block (obs_seq obs_region rfl (obs_seq obs_region rfl (obs_block (obs_loop rfl (fun E D H h => by
            refine Safe.loop' (W_abacistref16_Of.l7.L K (W_abacistref16_Of.l3 K k)) (fun E D H h => ?_) (fun k E D H h => ?_) E D H h
            · obtain ⟨w0, e0, g1⟩ := DG.out h; obtain ⟨s3, rfl, g2⟩ := DS.out g1; obtain ⟨w3, e3, g3⟩ := DG.out g2; obtain ⟨x4, rfl, g4⟩ := DI.out g3; obtain ⟨w4, e4, g5⟩ := DG.out g4; obtain ⟨x5, rfl, g6⟩ := DI.out g5; obtain ⟨w5, e5, g7⟩ := DG.out g6; obtain ⟨x6, rfl, g8⟩ := DI.out g7; obtain ⟨w6, e6, g9⟩ := DG.out g8; obtain ⟨x7, rfl, g10⟩ := DI.out g9; obtain ⟨rfl, h'⟩ := DNilD.out g10; exact h'
            · obtain ⟨w0, e0, g1⟩ := DG.out h
              obtain ⟨s3, rfl, g2⟩ := DS.out g1
              obtain ⟨x4, e3, g4⟩ := GI g2; obtain ⟨x5, e4, g6⟩ := GI g4; obtain ⟨x6, e5, g8⟩ := GI g6; obtain ⟨x7, e6, g10⟩ := GI g8; obtain ⟨rfl, h'⟩ := DNilD.out g10
              exact (hw_safe (Λ := (W_abacistref16_Of.Λ7 K (W_abacistref16_Of.l3 K k) (W_abacistref16_Of.l7 K (W_abacistref16_Of.l3 K k) k))) mixWabacistref16 _ _ [(0, .string s3), (3, .int .u32 x4), (4, .int .i64 x5), (5, .int .u8 x6), (6, .int .i64 x7)] [] H (Eq.mp (by kernel_rfl) h') (obs_seq (obs_seq obs_region rfl (obs_cond obs_skip obs_exit)) rfl (obs_seq (obs_block (obs_seq obs_region rfl (obs_seq obs_region rfl (obs_seq obs_region rfl (obs_seq obs_region rfl (obs_cond obs_region obs_skip)))))) rfl obs_region))).weaken (EnvLe.cons e0 (EnvLe.cons e3 (EnvLe.cons e4 (EnvLe.cons e5 (EnvLe.cons e6 (EnvLe.nil _)))))) (Hp.le_refl _))))))) rfl obs_region))).weaken (EnvLe.cons e0 (EnvLe.cons e3 (EnvLe.cons e4 (EnvLe.nil _)))) (Hp.le_refl _))))) rfl (obs_seq obs_region rfl obs_ret)))))
end Go.Proofs.YtnknippcbecmeaaGreatDoor.W
end
section
/- crc, codec's forms and the document's answers: what they answer. -/
namespace Go.Proofs.YtnknippcbecmeaaGreatDoor.CrcP
open Go Go.Hw Go.Crc W
theorem bit1_int (v : W32) : bXor .u32 (shrI .u32 (v.toNat : Int) 1) (IntKind.u32.wrap ((2197175160 : Int) * bAnd .u32 (v.toNat : Int) 1)) = ((bit1 v).toNat : Int) := by
  rw [shr32 v (i := 1) (n := 1) rfl (by omega), show (1 : Int) = ((1#32 : W32).toNat : Int) from rfl, and32]
  have : IntKind.u32.wrap ((2197175160 : Int) * ((v &&& 1#32).toNat : Int)) = ((if v.getLsbD 0 then poly else 0#32).toNat : Int) := by
    have h1 : v &&& 1#32 = if v.getLsbD 0 then 1#32 else 0#32 := by
      apply BitVec.eq_of_getLsbD_eq
      intro i hi
      rw [BitVec.getLsbD_and]
      cases i with
      | zero => cases h : v.getLsbD 0 <;> simp
      | succ i => cases h : v.getLsbD 0 <;> simp
    rw [h1]
    cases v.getLsbD 0 <;> decide
  rw [this, xor32]
  rfl
def tbl (i : Nat) : Value := .int .u32 ((it bit1 4 (BitVec.ofNat 32 i)).toNat : Int)
theorem nib_inner (K : Value → Hp → Prop) (R2 : Addr → Int → Hp → Prop) (b : Nat) (c : Array Value) (e : TypeId) (hc : c.size = 16) (H : Hp) (hb : H b = some (.obj (.cells c e))) (x2 : Nat) (hx : x2 < 16) (x4 : Int) (w : W32)
    (k : R2 ⟨b, 0, none⟩ (IntKind.i64.wrap (x4 + 1)) (H.set b (.obj (.cells (c.setIfInBounds x2 (.int .u32 (w.toNat : Int))) e)))) :
    ∀ (d j : Nat) (v : W32), j + d = 4 → it bit1 d v = w → W_crc_nibbles.l6 K R2 (d + 1) ⟨b, 0, none⟩ x2 (v.toNat : Int) x4 j H
  | 0, j, v, hj, hv => by
    unfold W_crc_nibbles.l6
    refine BIf_dneg (by omega) ?_
    refine ⟨by omega, by omega, ?_⟩
    simp only [Addr.add_lit', Int.toNat_natCast, Nat.mul_one, Nat.zero_add, Nat.add_zero]
    refine St_obj hb (by omega) rfl ?_
    obtain rfl : v = w := hv
    exact k
  | d + 1, j, v, hj, hv => by
    unfold W_crc_nibbles.l6
    refine BIf_dpos (by omega) ?_
    refine ⟨by omega, ?_⟩
    rw [bit1_int, i64w (by omega) (by omega)]
    exact nib_inner K R2 b c e hc H hb x2 hx x4 w k d (j + 1) (bit1 v) (by omega) hv
theorem nib_outer (K : Value → Hp → Prop) (b : Nat) (e : TypeId) (H0 : Hp) (hn : H0 b = none)
    (k : ∀ H, H0.le H → K (.agg ((List.range 16).map tbl).toArray) H) : ∀ (d i : Nat) (H : Hp), i + d = 16 → H = H0.set b (.obj (.cells (filled tbl (.int .u32 0) 16 i) e)) → W_crc_nibbles.l2 K (d + 1) ⟨b, 0, none⟩ (i : Int) H
  | 0, i, H, hi, hH => by
    obtain rfl : i = 16 := by omega
    unfold W_crc_nibbles.l2
    refine BIf_dneg (by omega) ?_
    have hb : H b = some (.obj (.cells (filled tbl (.int .u32 0) 16 16) e)) := by rw [hH]; exact Hp.set_same _ _ _
    refine LdA_obj hb (filled_size _ _ _ _) ?_
    refine StA_obj hb (filled_size _ _ _ _) (by simp [filled_size]) ?_ ?_
    · rw [filled_all]; intro v hv; simp at hv; obtain ⟨a, _, rfl⟩ := hv; rfl
    refine LdA_obj (Hp.set_same _ _ _) (by simp [filled_size]) ?_
    rw [Array.toArray_toList, filled_all]
    refine k _ ?_
    rw [hH, Hp.set_set]
    exact Hp.le_set hn
  | d + 1, i, H, hi, hH => by
    unfold W_crc_nibbles.l2
    refine BIf_dpos (by omega) ?_
    refine ⟨5, ?_⟩
    have hb : H b = some (.obj (.cells (filled tbl (.int .u32 0) 16 i) e)) := by rw [hH]; exact Hp.set_same _ _ _
    rw [show IntKind.u32.wrap (i : Int) = ((BitVec.ofNat 32 i).toNat : Int) by rw [BitVec.toNat_ofNat, Nat.mod_eq_of_lt (by omega)]; exact u32n (by omega)]
    refine nib_inner K _ b _ e (filled_size _ _ _ _) H hb i (by omega) i _ ?_ 4 0 _ rfl rfl
    rw [i64w (by omega) (by omega)]
    refine nib_outer K b e H0 hn k d (i + 1) _ (by omega) ?_
    rw [hH, Hp.set_set]
    congr 3
    exact filled_set tbl (.int .u32 0) (by omega)
theorem nibbles_ok (H : Hp) : HCalls Tryz.prog 196 #[] H (RetE (.agg ((List.range 16).map tbl).toArray) H) := by
  apply HCalls.ret
  apply W_crc_nibbles.ok
  unfold W_crc_nibbles
  intro b hb
  refine ⟨17, ?_⟩
  exact nib_outer _ b _ H hb (fun H' hl => ⟨rfl, hl⟩) 16 0 _ rfl rfl
theorem nib_step (v : W32) : (v >>> 4) ^^^ it bit1 4 (v &&& 15#32) = it bit1 4 v := (nibble v).symm
theorem and15 (v : W32) : bAnd .u32 (v.toNat : Int) 15 = ((v &&& 15#32).toNat : Int) := and32 v 15#32
theorem and15_lt (v : W32) : (v &&& 15#32).toNat < 16 := by
  rw [BitVec.toNat_and]
  exact Nat.lt_of_le_of_lt Nat.and_le_right (by decide)
theorem tbl_get (v : W32) : (((List.range 16).map tbl).toArray)[(v &&& 15#32).toNat]? = some (.int .u32 ((it bit1 4 (v &&& 15#32)).toNat : Int)) := by
  have h := and15_lt v
  simp only [List.getElem?_toArray, List.getElem?_map, List.getElem?_range h, Option.map_some]
  unfold tbl
  rw [BitVec.ofNat_toNat, BitVec.setWidth_eq]
theorem More_loop (K : Value → Hp → Prop) (t : Nat) (e : TypeId) (A : Option Addr) (n m : Nat) (bs : List UInt8) (hn : n = bs.length) (hm : n ≤ 9223372036854775807) (H : Hp) (ht : H t = some (.obj (.cells ((List.range 16).map tbl).toArray e))) (hb : Cells H A (byteVals bs)) (w : W32)
    (k : K (.int .u32 ((~~~ w).toNat : Int)) H) : ∀ (d j : Nat) (v : W32), j + d = n → run v (bs.drop j) = w → W_crc_More.l4 K (d + 1) ⟨t, 0, none⟩ (v.toNat : Int) A n m n (j : Int) H
  | 0, j, v, hj, hv => by
    unfold W_crc_More.l4
    refine BIf_dneg (by omega) ?_
    rw [List.drop_eq_nil_of_le (by omega)] at hv
    obtain rfl : v = w := hv
    rw [show IntKind.u32.max = ((BitVec.allOnes 32).toNat : Int) from rfl, xor32, BitVec.allOnes_xor]
    exact k
  | d + 1, j, v, hj, hv => by
    unfold W_crc_More.l4
    refine BIf_dpos (by omega) ?_
    have hlt : j < bs.length := by omega
    refine hb.read (i := j) (v := .int .u8 (bs[j].toNat : Int)) (by rw [byteVals_get, List.getElem?_eq_getElem hlt]; rfl) rfl (by rw [byteVals_length]; omega) ?_
    simp only [HV]
    refine ⟨by omega, ?_⟩
    rw [show (bs[j].toNat : Int) = ((bs[j].toBitVec).toNat : Int) from rfl, low8, xor32, and15]
    refine ⟨by omega, by have := and15_lt (v ^^^ BitVec.setWidth 32 bs[j].toBitVec); omega, ?_⟩
    simp only [Addr.add_lit', Int.toNat_natCast, Nat.mul_one, Nat.zero_add]
    refine Ld_obj ht (tbl_get _) ?_
    simp only [HV]
    refine ⟨by omega, ?_⟩
    rw [shr32 _ (i := 4) (n := 4) rfl (by omega), xor32, nib_step, and15]
    refine ⟨by omega, by have := and15_lt (it bit1 4 (v ^^^ BitVec.setWidth 32 bs[j].toBitVec)); omega, ?_⟩
    simp only [Addr.add_lit', Int.toNat_natCast, Nat.mul_one, Nat.zero_add]
    refine Ld_obj ht (tbl_get _) ?_
    simp only [HV]
    rw [shr32 _ (i := 4) (n := 4) rfl (by omega), xor32, nib_step, i64w (by omega) (by omega)]
    refine More_loop K t e A n m bs hn hm H ht hb w k d (j + 1) _ (by omega) ?_
    rw [List.drop_eq_getElem_cons hlt] at hv
    exact hv
theorem More_ok (s : W32) (A : Option Addr) (n m : Nat) (bs : List UInt8) (hn : n = bs.length) (hm : n ≤ 9223372036854775807) (H : Hp) (hb : Cells H A (byteVals bs)) :
    HCalls Tryz.prog 166 #[.int .u32 (s.toNat : Int), .slice A n m] H (RetE (.int .u32 ((more s bs).toNat : Int)) H) := by
  apply HCalls.ret
  apply W_crc_More.ok
  unfold W_crc_More
  refine HCalls.use (nibbles_ok H) ?_
  try simp only [HV]
  intro b hbn
  refine StA_obj (Hp.set_same _ _ _) rfl (by simp) ?_ ?_
  · intro v hv; simp at hv; obtain ⟨a, _, rfl⟩ := hv; rfl
  rw [Hp.set_set]
  refine ⟨n + 1, ?_⟩
  rw [show IntKind.u32.max = ((BitVec.allOnes 32).toNat : Int) from rfl, xor32, BitVec.allOnes_xor]
  refine More_loop _ b _ A n m bs hn hm _ (Hp.set_same _ _ _) (hb.le (Hp.le_set hbn)) (run (~~~ s) bs) ?_ n 0 _ (by omega) rfl
  exact ⟨rfl, Hp.le_set hbn⟩
theorem Of_ok (A : Option Addr) (n m : Nat) (bs : List UInt8) (hn : n = bs.length) (hm : n ≤ 9223372036854775807) (H : Hp) (hb : Cells H A (byteVals bs)) :
    HCalls Tryz.prog 174 #[.slice A n m] H (RetE (.int .u32 ((sum bs).toNat : Int)) H) := by
  apply W_crc_Of.ok
  unfold W_crc_Of
  refine HCalls.use (More_ok 0#32 A n m bs hn hm H hb) ?_
  try simp only [HV]
  exact RetE.mk _ _
end Go.Proofs.YtnknippcbecmeaaGreatDoor.CrcP
end
section
/- The document's sums; the laws CrcTells and CrcJoins' parts. -/
namespace Go.Proofs.YtnknippcbecmeaaGreatDoor.CrcP
open Go Go.Hw Go.Crc Go.Form W
theorem low_shr (c : BitVec 8) : (c >>> 1).setWidth 32 = (c.setWidth 32) >>> 1 := by
  apply BitVec.eq_of_getLsbD_eq
  intro i hi
  simp only [BitVec.getLsbD_setWidth, BitVec.getLsbD_ushiftRight]
  by_cases h : 1 + i < 32
  · simp [hi, h]
  · have := BitVec.getLsbD_of_ge c (1 + i) (by omega)
    simp [this]
theorem xor3 (a b c : W32) : (a ^^^ b) ^^^ c = (a ^^^ c) ^^^ b := by rw [BitVec.xor_assoc, BitVec.xor_comm b c, BitVec.xor_assoc]
theorem ref_step (v : W32) (c : BitVec 8) : ((v >>> 1) ^^^ (if (v ^^^ c.setWidth 32).getLsbD 0 then poly else 0#32)) ^^^ (c >>> 1).setWidth 32 = bit1 (v ^^^ c.setWidth 32) := by
  unfold bit1
  rw [BitVec.ushiftRight_xor_distrib, low_shr]
  exact xor3 _ _ _
theorem rOf_inner (K : Value → Hp → Prop) (R3 : ByteArray → Int → Int → Hp → Prop) (s : ByteArray) (x5 : Int) (H : Hp) (w : W32) (k : R3 s (w.toNat : Int) (IntKind.i64.wrap (x5 + 1)) H) : ∀ (d j : Nat) (v : W32) (c : BitVec 8), j + d = 8 → c >>> d = 0#8 → it bit1 d (v ^^^ c.setWidth 32) = w →
      W_abacistref16_Of.l7 K R3 (d + 1) s (v.toNat : Int) x5 (c.toNat : Int) (j : Int) H
  | 0, j, v, c, hj, hc, hv => by
    unfold W_abacistref16_Of.l7
    refine BIf_dneg (by omega) ?_
    have hc' : c = 0#8 := by simpa using hc
    subst hc'
    obtain rfl : v = w := by simpa [it] using hv
    exact k
  | d + 1, j, v, c, hj, hc, hv => by
    unfold W_abacistref16_Of.l7
    refine BIf_dpos (by omega) ?_
    rw [low8, xor32, mod32, div32, div8, i64w (by omega) (by omega)]
    refine ⟨by omega, rfl, by omega, rfl, by omega, rfl, ?_⟩
    have hc' : (c >>> 1) >>> d = 0#8 := by rw [← BitVec.shiftRight_add, Nat.add_comm]; exact hc
    have hs := ref_step v c
    refine BIf_intro (fun h => ?_) (fun h => ?_)
    · rw [h] at hs
      rw [show (2197175160 : Int) = (poly.toNat : Int) from rfl, xor32]
      exact rOf_inner K R3 s x5 H w k d (j + 1) _ _ (by omega) hc' (by rw [show it bit1 (d + 1) (v ^^^ BitVec.setWidth 32 c) = it bit1 d (bit1 (v ^^^ BitVec.setWidth 32 c)) from rfl, ← hs] at hv; simpa using hv)
    · rw [h] at hs
      exact rOf_inner K R3 s x5 H w k d (j + 1) _ _ (by omega) hc' (by rw [show it bit1 (d + 1) (v ^^^ BitVec.setWidth 32 c) = it bit1 d (bit1 (v ^^^ BitVec.setWidth 32 c)) from rfl, ← hs] at hv; simpa using hv)
theorem shr8 (c : BitVec 8) : c >>> 8 = 0#8 := by
  apply BitVec.eq_of_getLsbD_eq
  intro i hi
  rw [BitVec.getLsbD_ushiftRight, BitVec.getLsbD_of_ge c (8 + i) (by omega)]; simp
theorem rOf_outer (K : Value → Hp → Prop) (bs : List UInt8) (hm : bs.length ≤ 9223372036854775807) (H : Hp) (w : W32) (k : K (.int .u32 ((~~~ w).toNat : Int)) H) : ∀ (d j : Nat) (v : W32), j + d = bs.length → run v (bs.drop j) = w →
      W_abacistref16_Of.l3 K (d + 1) ⟨bs.toArray⟩ (v.toNat : Int) (j : Int) H
  | 0, j, v, hj, hv => by
    unfold W_abacistref16_Of.l3
    refine BIf_dneg (by rw [bsize']; omega) ?_
    rw [List.drop_eq_nil_of_le (by omega)] at hv
    obtain rfl : v = w := hv
    rw [show (4294967295 : Int) = ((BitVec.allOnes 32).toNat : Int) from rfl, xor32, BitVec.xor_allOnes]
    exact k
  | d + 1, j, v, hj, hv => by
    unfold W_abacistref16_Of.l3
    have hlt : j < bs.length := by omega
    refine BIf_dpos (by rw [bsize']; omega) ?_
    refine ⟨by omega, ?_⟩
    rw [Int.toNat_natCast]
    have hg : (ByteArray.mk bs.toArray)[j]? = some bs[j] := by
      rw [getElem?_pos (ByteArray.mk bs.toArray) j (by rw [bsize']; exact hlt)]
      congr 1
    unfold ixB
    rw [hg]
    refine ⟨9, ?_⟩
    rw [show ((bs[j].toNat : Nat) : Int) = ((bs[j].toBitVec).toNat : Int) from rfl]
    refine rOf_inner K _ _ _ H (byte v bs[j]) ?_ 8 0 v _ rfl (shr8 _) rfl
    rw [i64w (by omega) (by omega)]
    refine rOf_outer K bs hm H w k d (j + 1) _ (by omega) ?_
    rw [List.drop_eq_getElem_cons hlt] at hv
    exact hv
where bsize' : (ByteArray.mk bs.toArray).size = bs.length := FormP.bsize bs
theorem rOf_ok (bs : List UInt8) (hm : bs.length ≤ 9223372036854775807) (H : Hp) : HCalls Tryz.prog 49 #[.string ⟨bs.toArray⟩] H (RetE (.int .u32 ((sum bs).toNat : Int)) H) := by
  apply W_abacistref16_Of.ok
  refine ⟨bs.length + 1, ?_⟩
  rw [show (4294967295 : Int) = ((~~~ 0#32 : W32).toNat : Int) from rfl]
  refine rOf_outer _ bs hm H (run (~~~ 0#32) bs) ?_ bs.length 0 _ (by omega) rfl
  exact RetE.mk _ _
theorem rOfWords_ok (A : Option Addr) (n m : Nat) (l : List UInt64) (hn : n = l.length) (hm : n ≤ 10000000000) (H : Hp) (hl : Cells H A (wordVals l)) :
    HCalls Tryz.prog 10 #[.slice A n m] H (RetE (.int .u32 ((sum (form l)).toNat : Int)) H) := by
  apply W_abacistref16_OfWords.ok
  unfold W_abacistref16_OfWords
  refine HCalls.use (FormP.rPut_ok A n m l hn hm H hl) ?_
  try simp only [HV]
  refine HCalls.use (rOf_ok (form l) (by rw [form_length]; omega) H) ?_
  try simp only [HV]
  exact RetE.mk _ _
theorem OfWords_ok (A : Option Addr) (n m : Nat) (l : List UInt64) (hn : n = l.length) (hm : n ≤ 10000000000) (H : Hp) (hl : Cells H A (wordVals l)) :
    HCalls Tryz.prog 149 #[.slice A n m] H (RetE (.int .u32 ((sum (form l)).toNat : Int)) H) := by
  apply HCalls.ret
  apply W_crc_OfWords.ok
  unfold W_crc_OfWords
  refine (FormP.Put_ok A n m l hn (by omega) H hl).mono ?_
  rintro v H' ⟨b, hb, rfl, rfl⟩
  simp only [HV]
  have hf : (form l).length = 8 * n := by rw [form_length, hn]
  refine HCalls.use (Of_ok (some ⟨b, 0, none⟩) (8 * n) (8 * n) (form l) hf.symm (by omega) _ (by have := Cells.row (Hp.set_same H b (.row (byteVals (form l)) 5 (8 * n))) 0 (8 * n); rwa [List.drop_zero, List.take_of_length_le (by rw [byteVals_length, hf]; omega)] at this)) ?_
  try simp only [HV]
  exact ⟨rfl, Hp.le_set hb⟩
end Go.Proofs.YtnknippcbecmeaaGreatDoor.CrcP
end
section
/- record: a form's words. -/
namespace Go.Proofs.YtnknippcbecmeaaGreatDoor.Rec
open Go Go.Hw Go.Form Go.Crc W
def partV (ps : List (Nat × Nat)) : List Value := ps.flatMap fun (p : Nat × Nat) => [Value.int .u64 (p.1 : Int), Value.int .u64 (p.2 : Int)]
def joinN (w : Nat) : List (Nat × Nat) → Nat
  | [] => w
  | p :: ps => joinN (w ||| (p.1 * 2 ^ p.2 % 2 ^ 64)) ps
theorem joinN_lt : ∀ (ps : List (Nat × Nat)) (w : Nat), w < 2 ^ 64 → joinN w ps < 2 ^ 64
  | [], w, h => h
  | p :: ps, w, h => joinN_lt ps _ (or_lt h (Nat.mod_lt _ (Nat.two_pow_pos 64)))
theorem partV_get : ∀ (ps : List (Nat × Nat)) (j : Nat) (p : Nat × Nat), ps[j]? = some p → (partV ps)[j * 2]? = some (.int .u64 (p.1 : Int)) ∧ (partV ps)[j * 2 + 1]? = some (.int .u64 (p.2 : Int))
  | [], j, p, h => by simp at h
  | q :: ps, 0, p, h => by
    simp at h; subst h; exact ⟨rfl, rfl⟩
  | q :: ps, j + 1, p, h => by
    have := partV_get ps j p (by simpa using h)
    rw [show (j + 1) * 2 = j * 2 + 2 by omega]
    exact this
theorem LdA_two {H : Hp} {g off : Nat} {u v : Value} {K : List Value → Prop} (h1 : H.cell? ⟨g, off, none⟩ = some u) (h2 : H.cell? ⟨g, off + 1, none⟩ = some v) (k : K [u, v]) : LdA H ⟨g, off, none⟩ 2 K := by
  have e0 : (⟨g, off, none⟩ : Addr).add 0 = ⟨g, off, none⟩ := by rw [Addr.add_lit']; rfl
  have e1 : (⟨g, off, none⟩ : Addr).add (0 + 1) = ⟨g, off + 1, none⟩ := by rw [Addr.add_lit']
  unfold LdA Hp.cells? Hp.cells? Hp.cells?
  rw [e0, e1, h1, h2]
  exact k
theorem join_loop {H0 : Hp} {b : Nat} {ps : List (Nat × Nat)} (hc : Cells H0 (some ⟨b, 0, none⟩) (partV ps)) (hp : ∀ p ∈ ps, p.1 < 2 ^ 64 ∧ p.2 ≤ 64) (hl : ps.length ≤ 1000) :
    ∀ (t j : Nat) (w : Nat) (H : Hp), j + t = ps.length → w < 2 ^ 64 → Sep [own H0] H → W_record_join.l3 (Ret (.int .u64 ((joinN w (ps.drop j) : Nat) : Int)) H0) (t + 1) (w : Int) (some ⟨b, 0, none⟩) ps.length ps.length (ps.length : Int) (j : Int) H
  | 0, j, w, H, hj, hw, hs => by
    unfold W_record_join.l3
    rw [List.drop_eq_nil_of_le (by omega)]
    exact BIf_dneg (by omega) (hs.fin 0 rfl _)
  | t + 1, j, w, H, hj, hw, hs => by
    have hlt : j < ps.length := by omega
    have hg := partV_get ps j _ (List.getElem?_eq_getElem hlt)
    obtain ⟨hp1, hp2⟩ := hp _ (List.getElem_mem hlt)
    have hcH := hc.le (hs.ow 0 rfl)
    unfold W_record_join.l3
    refine BIf_dpos (by omega) ⟨by omega, by omega, ?_⟩
    rw [List.drop_eq_getElem_cons hlt]
    generalize ps[j] = p at *
    simp only [NN_some]
    rw [Int.toNat_natCast, Addr.add_lit', Nat.zero_add]
    have g1 : H.cell? ⟨b, j * 2, none⟩ = some (.int .u64 (p.1 : Int)) := by
      obtain ⟨a, ha, hc⟩ := hcH _ _ hg.1
      cases ha
      rw [Addr.add_lit', Nat.zero_add] at hc
      exact hc
    have g2 : H.cell? ⟨b, j * 2 + 1, none⟩ = some (.int .u64 (p.2 : Int)) := by
      obtain ⟨a, ha, hc⟩ := hcH _ _ hg.2
      cases ha
      rw [Addr.add_lit', Nat.zero_add] at hc
      exact hc
    refine LdA_two g1 g2 ?_
    refine hs.nw fun b1 H1 hs => ?_
    refine hs.stw 1 rfl rfl rfl rfl fun H1 hs => ?_
    refine hs.ldf 1 rfl rfl ?_
    simp only [HV]
    refine hs.ldf 1 rfl rfl ?_
    simp only [HV]
    refine ⟨by omega, ?_⟩
    have hm : p.1 * 2 ^ p.2 % 2 ^ 64 < 2 ^ 64 := Nat.mod_lt _ (Nat.two_pow_pos 64)
    rw [shlN (x := p.1) (i := (p.2 : Int)) (n := p.2) rfl hp2, orN hw hm, i64w (x := (j : Int) + 1) (by omega) (by omega), show (j : Int) + 1 = ((j + 1 : Nat) : Int) by omega]
    exact join_loop hc hp hl t (j + 1) _ H1 (by omega) (or_lt hw hm) (hs.re [0] rfl)
theorem join_ok {H : Hp} {b : Nat} (ps : List (Nat × Nat)) (n : Nat) (hn : n = ps.length) (hc : Cells H (some ⟨b, 0, none⟩) (partV ps)) (hp : ∀ p ∈ ps, p.1 < 2 ^ 64 ∧ p.2 ≤ 64) (hl : ps.length ≤ 1000) :
    HCalls Tryz.prog 147 #[.slice (some ⟨b, 0, none⟩) n n] H (RetE (.int .u64 ((joinN 0 ps : Nat) : Int)) H) := HCalls.ret (by
  subst hn
  apply W_record_join.ok
  unfold W_record_join
  exact ⟨ps.length + 1, join_loop hc hp hl ps.length 0 0 H (by omega) (by decide) (Sep.start H)⟩)
def R.p1 (r : R) : List (Nat × Nat) := [(21061, 48), (r.s, 0)]
def R.p2 (r : R) : List (Nat × Nat) := [(r.ld, 32), (r.ps.toNat, 24), (r.kk.toNat, 16), (r.dir.toNat, 8), (r.kd.toNat, 0)]
def R.p3 (r : R) : List (Nat × Nat) := [(r.inp, 32), (r.out, 0)]
def R.w3 (r : R) : List UInt64 := [UInt64.ofNat (joinN 0 r.p1), UInt64.ofNat (joinN 0 r.p2), UInt64.ofNat (joinN 0 r.p3)]
structure R.u32 (r : R) : Prop where
  ld : r.ld < 4294967296
  inp : r.inp < 4294967296
  out : r.out < 4294967296
def parO (ps : List (Nat × Nat)) : AO := .row (partV ps) 240 (2 * ps.length)
theorem jn {L : List As} {H : Hp} (hs : Sep L H) (i : Nat) {b : Nat} {ps : List (Nat × Nat)} (hi : L[i]? = some (pts b (parO ps))) (n : Nat) (hn : n = ps.length) (hp : ∀ p ∈ ps, p.1 < 2 ^ 64 ∧ p.2 ≤ 64) (hl : n ≤ 1000) :
    HCalls Tryz.prog 147 #[.slice (some ⟨b, 0, none⟩) n n] H (RetE (.int .u64 ((joinN 0 ps : Nat) : Int)) H) := by
  refine join_ok ps n hn ?_ hp (by omega)
  have := Cells.row (hs.get i hi) 0 (partV ps).length
  rw [List.drop_zero, List.take_of_length_le (Nat.le_refl _)] at this
  exact this
theorem three_tr (r : R) (hg : r.good) (hu : r.u32) : Tr Tryz.prog 113 #[.agg r.c] [] fun v M => ∃ b, v = .slice (some ⟨b, 0, none⟩) 3 3 ∧ M = [pts b (.row (wordVals r.w3) 60 3)] := fun H hs => by
  obtain ⟨g1, g2, g3, g4, g5, g6⟩ := hg
  obtain ⟨u1, u2, u3⟩ := hu
  have c1 : ∀ p ∈ r.p1, p.1 < 2 ^ 64 ∧ p.2 ≤ 64 := fun p hp => by
    simp only [R.p1, List.mem_cons, List.not_mem_nil, or_false] at hp
    rcases hp with rfl | rfl <;> exact ⟨by simp only []; omega, by simp only []; omega⟩
  have c2 : ∀ p ∈ r.p2, p.1 < 2 ^ 64 ∧ p.2 ≤ 64 := fun p hp => by
    simp only [R.p2, List.mem_cons, List.not_mem_nil, or_false] at hp
    rcases hp with rfl | rfl | rfl | rfl | rfl <;> exact ⟨by simp only []; omega, by simp only []; omega⟩
  have c3 : ∀ p ∈ r.p3, p.1 < 2 ^ 64 ∧ p.2 ≤ 64 := fun p hp => by
    simp only [R.p3, List.mem_cons, List.not_mem_nil, or_false] at hp
    rcases hp with rfl | rfl <;> exact ⟨by simp only []; omega, by simp only []; omega⟩
  apply W_record_three.ok
  unfold W_record_three
  refine hs.nw fun b1 H hs => ?_
  have hs : Sep [pts b1 (recO r)] H := hs
  refine hs.ldf 0 rfl rfl ?_
  simp only [HV]
  refine hs.ldf 0 rfl rfl ?_
  simp only [HV]
  refine hs.ldf 0 rfl rfl ?_
  simp only [HV]
  refine hs.ldf 0 rfl rfl ?_
  simp only [HV]
  refine hs.ldf 0 rfl rfl ?_
  simp only [HV]
  refine hs.ldf 0 rfl rfl ?_
  simp only [HV]
  refine hs.ldf 0 rfl rfl ?_
  simp only [HV]
  refine hs.ldf 0 rfl rfl ?_
  simp only [HV]
  have e1 : IntKind.u64.wrap (r.ld : Int) = (r.ld : Int) := u64n (by omega)
  have e2 : IntKind.u64.wrap r.ps = (r.ps.toNat : Int) := by rw [u64w (by omega) (by omega)]; omega
  have e3 : IntKind.u64.wrap r.kk = (r.kk.toNat : Int) := by rw [u64w (by omega) (by omega)]; omega
  have e4 : IntKind.u64.wrap r.dir = (r.dir.toNat : Int) := by rw [u64w (by omega) (by omega)]; omega
  have e5 : IntKind.u64.wrap r.kd = (r.kd.toNat : Int) := by rw [u64w (by omega) (by omega)]; omega
  have e6 : IntKind.u64.wrap (r.inp : Int) = (r.inp : Int) := u64n (by omega)
  have e7 : IntKind.u64.wrap (r.out : Int) = (r.out : Int) := u64n (by omega)
  rw [e1, e2, e3, e4, e5, e6, e7]
  have done : ∀ {L : List As} {H : Hp}, Sep L H → Nw H (.row [.int .u64 ((joinN 0 r.p1 : Nat) : Int), .int .u64 ((joinN 0 r.p2 : Nat) : Int), .int .u64 ((joinN 0 r.p3 : Nat) : Int)] 60 3) fun b5 H5 => ∃ M, (∃ b, (.slice (some ⟨b5, 0, none⟩) 3 3 : Value) = .slice (some ⟨b, 0, none⟩) 3 3 ∧ M = [pts b (.row (wordVals r.w3) 60 3)]) ∧ Sep M H5 := fun {L H} hs => by
    refine hs.nw fun b5 H5 hs => ⟨_, ⟨b5, rfl, rfl⟩, ?_⟩
    have hw : wordVals r.w3 = [.int .u64 ((joinN 0 r.p1 : Nat) : Int), .int .u64 ((joinN 0 r.p2 : Nat) : Int), .int .u64 ((joinN 0 r.p3 : Nat) : Int)] := by
      show [Value.int .u64 ((UInt64.ofNat (joinN 0 r.p1)).toNat : Int), Value.int .u64 ((UInt64.ofNat (joinN 0 r.p2)).toNat : Int), Value.int .u64 ((UInt64.ofNat (joinN 0 r.p3)).toNat : Int)] = _
      rw [UInt64.toNat_ofNat_of_lt' (joinN_lt r.p1 0 (by decide)), UInt64.toNat_ofNat_of_lt' (joinN_lt r.p2 0 (by decide)), UInt64.toNat_ofNat_of_lt' (joinN_lt r.p3 0 (by decide))]
    rw [hw]
    have hg := hs.get L.length (b := b5) (o := .row [.int .u64 ((joinN 0 r.p1 : Nat) : Int), .int .u64 ((joinN 0 r.p2 : Nat) : Int), .int .u64 ((joinN 0 r.p3 : Nat) : Int)] 60 3) (by simp)
    exact ⟨H5, fun _ => none, Hp.le_refl _, fun b o h => (by cases h), fun b => .inr rfl, hg, trivial⟩
  have n1 : ∀ {L : List As} {H : Hp} {K : Nat → Hp → Prop}, Sep L H → (∀ b H', Sep (L ++ [pts b (parO r.p1)]) H' → K b H') → Nw H (.row [.int .u64 21061, .int .u64 48, .int .u64 (r.s : Int), .int .u64 0] 240 4) K := fun hs k => hs.nw k
  have n2 : ∀ {L : List As} {H : Hp} {K : Nat → Hp → Prop}, Sep L H → (∀ b H', Sep (L ++ [pts b (parO r.p2)]) H' → K b H') → Nw H (.row [.int .u64 (r.ld : Int), .int .u64 32, .int .u64 (r.ps.toNat : Int), .int .u64 24, .int .u64 (r.kk.toNat : Int), .int .u64 16, .int .u64 (r.dir.toNat : Int), .int .u64 8, .int .u64 (r.kd.toNat : Int), .int .u64 0] 240 10) K := fun hs k => hs.nw k
  have n3 : ∀ {L : List As} {H : Hp} {K : Nat → Hp → Prop}, Sep L H → (∀ b H', Sep (L ++ [pts b (parO r.p3)]) H' → K b H') → Nw H (.row [.int .u64 (r.inp : Int), .int .u64 32, .int .u64 (r.out : Int), .int .u64 0] 240 4) K := fun hs k => hs.nw k
  refine ⟨n1 hs fun b2 H hs => ?_, n2 hs fun b2 H hs => ?_, n3 hs fun b2 H hs => ?_⟩
  · refine QCall.use (jn hs 1 rfl 2 rfl c1 (by decide)) ?_
    simp only [HV]
    refine ⟨n2 hs fun b3 H hs => ?_, n3 hs fun b3 H hs => n2 hs fun b4 H hs => ?_⟩
    · refine QCall.use (jn hs 2 rfl 5 rfl c2 (by decide)) ?_
      simp only [HV]
      refine n3 hs fun b4 H hs => ?_
      refine QCall.use (jn hs 3 rfl 2 rfl c3 (by decide)) ?_
      simp only [HV]
      exact done hs
    · refine QCall.use (jn hs 3 rfl 5 rfl c2 (by decide)) ?_
      simp only [HV]
      refine QCall.use (jn hs 2 rfl 2 rfl c3 (by decide)) ?_
      simp only [HV]
      exact done hs
  · refine ⟨n1 hs fun b3 H hs => ?_, n3 hs fun b3 H hs => n1 hs fun b4 H hs => ?_⟩
    · refine QCall.use (jn hs 2 rfl 2 rfl c1 (by decide)) ?_
      simp only [HV]
      refine QCall.use (jn hs 1 rfl 5 rfl c2 (by decide)) ?_
      simp only [HV]
      refine n3 hs fun b4 H hs => ?_
      refine QCall.use (jn hs 3 rfl 2 rfl c3 (by decide)) ?_
      simp only [HV]
      exact done hs
    · refine QCall.use (jn hs 3 rfl 2 rfl c1 (by decide)) ?_
      simp only [HV]
      refine QCall.use (jn hs 1 rfl 5 rfl c2 (by decide)) ?_
      simp only [HV]
      refine QCall.use (jn hs 2 rfl 2 rfl c3 (by decide)) ?_
      simp only [HV]
      exact done hs
  · refine ⟨n1 hs fun b3 H hs => ?_, n2 hs fun b3 H hs => n1 hs fun b4 H hs => ?_⟩
    · refine QCall.use (jn hs 2 rfl 2 rfl c1 (by decide)) ?_
      simp only [HV]
      refine n2 hs fun b4 H hs => ?_
      refine QCall.use (jn hs 3 rfl 5 rfl c2 (by decide)) ?_
      simp only [HV]
      refine QCall.use (jn hs 1 rfl 2 rfl c3 (by decide)) ?_
      simp only [HV]
      exact done hs
    · refine QCall.use (jn hs 3 rfl 2 rfl c1 (by decide)) ?_
      simp only [HV]
      refine QCall.use (jn hs 2 rfl 5 rfl c2 (by decide)) ?_
      simp only [HV]
      refine QCall.use (jn hs 1 rfl 2 rfl c3 (by decide)) ?_
      simp only [HV]
      exact done hs
end Go.Proofs.YtnknippcbecmeaaGreatDoor.Rec
end
section
/- record: Put; the law RecordFollows. -/
namespace Go.Proofs.YtnknippcbecmeaaGreatDoor.Gen
open Go
def natV (xs : List Nat) : List Value := List.map (fun (x : Nat) => Value.int .u64 (x : Int)) xs
theorem natV_length (xs : List Nat) : (natV xs).length = xs.length := by simp [natV]
theorem cell_u64 : Hw.cellInfo Tryz.prog 60 = some (1, 8, some #[.int .u64 0]) := by kernel_rfl
end Go.Proofs.YtnknippcbecmeaaGreatDoor.Gen
namespace Go.Hw
open Go
end Go.Hw
namespace Go.Proofs.YtnknippcbecmeaaGreatDoor.Rec
open Go Go.Hw Go.Form Go.Crc W
theorem cell_w64 : cellInfo Tryz.prog 60 = some (1, 8, some #[.int .u64 0]) := by kernel_rfl
theorem cell_u8 : cellInfo Tryz.prog 5 = some (1, 1, some #[.int .u8 0]) := by kernel_rfl
def sealP (l : List UInt64) : List (Nat × Nat) := [(4294967295 - (sum (form l)).toNat, 32), ((sum (form l)).toNat, 0)]
theorem seal_ok (A : Option Addr) (n m : Nat) (l : List UInt64) (hn : n = l.length) (hm : n ≤ 1000) (H : Hp) (hl : Cells H A (wordVals l)) : HCalls Tryz.prog 115 #[.slice A n m] H (RetE (.int .u64 ((joinN 0 (sealP l) : Nat) : Int)) H) := HCalls.ret (by
  apply W_record_seal.ok
  unfold W_record_seal
  have hs := Sep.start H
  refine HCalls.use (CrcP.OfWords_ok A n m l hn (by omega) H hl) ?_
  simp only [HV]
  have hx : bXor .u32 IntKind.u32.max ((sum (form l)).toNat : Int) = ((4294967295 - (sum (form l)).toNat : Nat) : Int) := by
    rw [show IntKind.u32.max = ((BitVec.allOnes 32).toNat : Int) from rfl, xor32, BitVec.allOnes_xor, BitVec.toNat_not]
  have hlt := (sum (form l)).isLt
  rw [hx, u64n (n := 4294967295 - (sum (form l)).toNat) (by omega), u64n (n := (sum (form l)).toNat) (by omega)]
  refine hs.nw fun b1 H1 hs => ?_
  have hs : Sep [own H, pts b1 (parO (sealP l))] H1 := hs
  refine HCalls.use (jn hs 1 rfl 2 rfl (fun p hp => ?_) (by decide)) ?_
  · simp only [sealP, List.mem_cons, List.not_mem_nil, or_false] at hp
    rcases hp with rfl | rfl <;> exact ⟨by simp only []; omega, by simp only []; omega⟩
  simp only [HV]
  exact hs.fin 0 rfl _)
def R.w4 (r : R) : List UInt64 := r.w3 ++ [UInt64.ofNat (joinN 0 (sealP r.w3))]
theorem Put_tr (r : R) (hg : r.good) (hu : r.u32) (size : Nat) (h32 : 32 ≤ size) (h40 : size ≤ 4096) (hsz : (Lay.NeedV 0 size).2 = 0) :
    Tr Tryz.prog 64 #[.agg r.c, .int .i64 (size : Int)] [] fun v M => ∃ b, v = .tuple #[.slice (some ⟨b, 0, none⟩) size size, .int .i64 0] ∧
      M = [pts b (.row (setAt (zeroRow [.int .u8 0] size) 0 (byteVals (form r.w4))) 5 (size * 1))] := fun H hs => by
  apply W_record_Put.ok
  unfold W_record_Put
  refine hs.nw fun b1 H hs => ?_
  have hs : Sep [pts b1 (recO r)] H := hs
  refine hs.ldw 0 rfl rfl ?_
  refine HCalls.use (Good_ok r H) ?_
  rw [decide_eq_true hg]
  simp only [HV]
  have hsec : HCalls Tryz.prog 112 #[.int .i64 (size : Int)] H (RetE (.bool true) H) := by
    apply W_record_sector.ok
    unfold W_record_sector
    refine HCalls.use (Lay.Need_ok 0 size H) ?_
    rw [hsz]
    simp only [HV]
    exact RetE.mk _ _
  refine HCalls.use hsec ?_
  simp only [HV]
  refine hs.ldw 0 rfl rfl ?_
  refine (three_tr r hg hu).use hs [] rfl rfl ?_
  rintro _ _ H ⟨b3, rfl, rfl⟩ hs
  simp only [HV]
  refine hs.mks cell_u8 rfl (n := size) (m := size) rfl rfl (Nat.le_refl _) (by omega) (by omega) fun bo H hs => ?_
  simp only [HV]
  have hs : Sep [pts b3 (.row (wordVals r.w3) 60 3), pts b1 (recO r), pts bo (.row (zeroRow [.int .u8 0] size) 5 (size * 1))] H := hs
  have hc : Cells H (some ⟨b3, 0, none⟩) (wordVals r.w3) := by
    have := Cells.row (hs.get 0 rfl) 0 3
    exact this
  refine HCalls.use (seal_ok (some ⟨b3, 0, none⟩) 3 3 r.w3 rfl (by omega) H hc) ?_
  simp only [HV]
  have hs := hs.turn 0 rfl (B := Own 60 1 (some ⟨b3, 0, none⟩) 3 3 (wordVals r.w3)) (fun H1 h => ⟨rfl, .inr ⟨b3, 3, rfl, h, Nat.le_refl _⟩⟩)
  refine hs.app1 0 rfl cell_w64 (by omega) rfl (by omega) (by omega) fun A' m' H hs => ?_
  simp only [HV]
  have hw : wordVals r.w3 ++ [.int .u64 ((joinN 0 (sealP r.w3) : Nat) : Int)] = wordVals r.w4 := by
    unfold R.w4 wordVals
    rw [List.map_append]
    show _ = _ ++ [Value.int .u64 ((UInt64.ofNat (joinN 0 (sealP r.w3))).toNat : Int)]
    rw [UInt64.toNat_ofNat_of_lt' (joinN_lt _ 0 (by decide))]
  rw [hw] at hs
  have hc : Cells H A' (wordVals r.w4) := by
    obtain ⟨hl, h⟩ := hs.own 0 rfl
    rcases h with ⟨_, h0, _⟩ | ⟨b, mm, rfl, hb, _⟩
    · omega
    · have := Cells.row hb 0 4
      exact this
  refine HCalls.mono (FormP.Put_ok A' 4 m' r.w4 rfl (by omega) H hc) ?_
  rintro _ _ ⟨b', hb', rfl, rfl⟩
  have hs := hs.new hb' (.row (byteVals (form r.w4)) 5 (8 * 4))
  generalize H.set b' (.row (byteVals (form r.w4)) 5 (8 * 4)) = H at *
  simp only [HV]
  have hlen : (byteVals (form r.w4)).length = 32 := by rw [byteVals_length, form_length]; rfl
  have hmin : Nat.min 32 size = 32 := Nat.min_eq_left h32
  refine hs.cp 2 (b := bo) (off := 0) (n := size) (k := 32) (xs := zeroRow [.int .u8 0] size) (e' := 5) (m := size * 1) (ys := byteVals (form r.w4)) rfl cell_u8 rfl ?_ ?_ (fun y hy => ?_) fun H hs => ?_
  · rw [hmin]
    have := Cells.row (hs.get 3 rfl) 0 32
    rw [List.drop_zero, List.take_of_length_le (by rw [hlen]; exact Nat.le_refl _)] at this
    exact src_of this hlen.symm
  · rw [hlen, zeroRow_one, List.length_replicate]; omega
  · obtain ⟨z, _, rfl⟩ := List.mem_map.1 hy; rfl
  simp only [HV]
  exact ⟨_, ⟨bo, rfl, rfl⟩, hs.re [2] rfl⟩
end Go.Proofs.YtnknippcbecmeaaGreatDoor.Rec
end
section
/- Contracts of the library's functions, laid at this program (printed by lay2.py). -/
namespace Go.Proofs.YtnknippcbecmeaaGreatDoor.Lib2
open Go Go.Proofs Go.Shelf Go.RowKit
def trimL_ren : Go.Shelf.Ren := ⟨fun | 160 => 152 | 232 => 185 | 231 => 184 | 227 => 186 | 234 => 188 | 233 => 187 | 236 => 190 | 235 => 189 | 228 => 208 | 271 => 211 | 151 => 210 | 197 => 209 | 120 => 223 | 152 => 222 | 260 => 221 | 137 => 233 | 119 => 234 | 224 => 235 | 225 => 236 | 217 => 241 | 266 => 245 | n => n, fun | 9 => 9 | 4 => 4 | 3 => 3 | 5 => 5 | 117 => 278 | 116 => 277 | 0 => 0 | 124 => 281 | 21 => 21 | 105 => 301 | 46 => 136 | 119 => 321 | 139 => 324 | 138 => 323 | n => n, fun | 3 => 2 | 4 => 3 | n => n⟩
theorem trimL : Go.Proofs.Lays.n160 Tryz.prog trimL_ren where
  mixed := by kernel_rfl
  f119 := Tryz.func234.trans (congrArg some (by kernel_rfl))
  f120 := Tryz.func223.trans (congrArg some (by kernel_rfl))
  f137 := Tryz.func233.trans (congrArg some (by kernel_rfl))
  f151 := Tryz.func210.trans (congrArg some (by kernel_rfl))
  f152 := Tryz.func222.trans (congrArg some (by kernel_rfl))
  f160 := Tryz.func152.trans (congrArg some (by kernel_rfl))
  f197 := Tryz.func209.trans (congrArg some (by kernel_rfl))
  f217 := Tryz.func241.trans (congrArg some (by kernel_rfl))
  f224 := Tryz.func235.trans (congrArg some (by kernel_rfl))
  f225 := Tryz.func236.trans (congrArg some (by kernel_rfl))
  f227 := Tryz.func186.trans (congrArg some (by kernel_rfl))
  f228 := Tryz.func208.trans (congrArg some (by kernel_rfl))
  f231 := Tryz.func184.trans (congrArg some (by kernel_rfl))
  f232 := Tryz.func185.trans (congrArg some (by kernel_rfl))
  f233 := Tryz.func187.trans (congrArg some (by kernel_rfl))
  f234 := Tryz.func188.trans (congrArg some (by kernel_rfl))
  f235 := Tryz.func189.trans (congrArg some (by kernel_rfl))
  f236 := Tryz.func190.trans (congrArg some (by kernel_rfl))
  f260 := Tryz.func221.trans (congrArg some (by kernel_rfl))
  f266 := Tryz.func245.trans (congrArg some (by kernel_rfl))
  f271 := Tryz.func211.trans (congrArg some (by kernel_rfl))
  t0 := Tryz.underlying0
  a0 := Tryz.isAgg0
  z0 := Tryz.sizeOf0
  v0 := Tryz.zeroValue0
  t3 := Tryz.underlying3
  a3 := Tryz.isAgg3
  z3 := Tryz.sizeOf3
  v3 := Tryz.zeroValue3
  t4 := Tryz.underlying4
  a4 := Tryz.isAgg4
  z4 := Tryz.sizeOf4
  v4 := Tryz.zeroValue4
  t5 := Tryz.underlying5
  a5 := Tryz.isAgg5
  z5 := Tryz.sizeOf5
  v5 := Tryz.zeroValue5
  t9 := Tryz.underlying9
  a9 := Tryz.isAgg9
  z9 := Tryz.sizeOf9
  v9 := Tryz.zeroValue9
  t21 := Tryz.underlying21
  a21 := Tryz.isAgg21
  z21 := Tryz.sizeOf21
  v21 := Tryz.zeroValue21
  t46 := Tryz.underlying136
  a46 := Tryz.isAgg136
  z46 := Tryz.sizeOf136
  v46 := Tryz.zeroValue136
  t105 := Tryz.underlying301
  a105 := Tryz.isAgg301
  z105 := Tryz.sizeOf301
  v105 := Tryz.zeroValue301
  t116 := Tryz.underlying277
  a116 := Tryz.isAgg277
  z116 := Tryz.sizeOf277
  t117 := Tryz.underlying278
  a117 := Tryz.isAgg278
  z117 := Tryz.sizeOf278
  v117 := Tryz.zeroValue278
  t119 := Tryz.underlying321
  a119 := Tryz.isAgg321
  z119 := Tryz.sizeOf321
  t124 := Tryz.underlying281
  a124 := Tryz.isAgg281
  z124 := Tryz.sizeOf281
  v124 := Tryz.zeroValue281
  t138 := Tryz.underlying323
  a138 := Tryz.isAgg323
  z138 := Tryz.sizeOf323
  v138 := Tryz.zeroValue323
  t139 := Tryz.underlying324
  a139 := Tryz.isAgg324
  z139 := Tryz.sizeOf324
  v139 := Tryz.zeroValue324
  g3 := by kernel_rfl
  g4 := by kernel_rfl
end Go.Proofs.YtnknippcbecmeaaGreatDoor.Lib2
end
section
/- The frame of the proofs: the library's Trim at one byte. -/
namespace Go.Hw
open Go Go.Proofs Go.Proofs.YtnknippcbecmeaaGreatDoor.Lib2 Go.RowKit Go.Shelf
theorem Trim_hc (s : ByteArray) (c : UInt8) (hc : c.toNat < 128) (hs : s.size ≤ 9223372036854775807) (H : Hp) :
    HCalls Tryz.prog 152 #[.string s, .string ⟨#[c]⟩] H (RetE (.string ⟨(Lib.trimB s.data.toList c).toArray⟩) H) := fun w hw => by
  refine (Any.strings_Trim_one trimL s c hc w hs).mono ?_
  rintro e w' ⟨rfl, h⟩
  refine ⟨_, H, rfl, ⟨rfl, rfl⟩, ?_⟩
  rcases h with rfl | rfl
  · exact At.refl hw
  · exact ⟨hw, Nat.le_refl _, rfl, rfl, rfl, fun _ _ h => ⟨h, rfl⟩⟩
theorem dw_nil (p : UInt8 → Bool) : ∀ l : List UInt8, l.dropWhile p = [] ↔ ∀ x ∈ l, p x = true
  | [] => by simp
  | z :: l => by
    rw [List.dropWhile_cons]
    by_cases hz : p z = true
    · rw [if_pos hz, dw_nil p l]
      constructor
      · intro h x hx
        rcases List.mem_cons.1 hx with rfl | hx
        · exact hz
        · exact h x hx
      · intro h x hx
        exact h x (List.mem_cons_of_mem _ hx)
    · rw [if_neg hz]
      constructor
      · intro h; cases h
      · intro h; exact absurd (h z (by simp)) hz
theorem dw_all (p : UInt8 → Bool) : ∀ l : List UInt8, (∀ x ∈ l.dropWhile p, p x = true) → ∀ x ∈ l, p x = true
  | [], _ => by simp
  | z :: l, h => by
    rw [List.dropWhile_cons] at h
    by_cases hz : p z = true
    · rw [if_pos hz] at h
      intro x hx
      rcases List.mem_cons.1 hx with rfl | hx
      · exact hz
      · exact dw_all p l h x hx
    · rw [if_neg hz] at h
      exact absurd (h z (by simp)) hz
theorem trimB_nil (l : List UInt8) (c : UInt8) : Lib.trimB l c = [] ↔ ∀ x ∈ l, x = c := by
  unfold Lib.trimB Lib.trimLeftB Lib.trimRightB
  rw [dw_nil]
  constructor
  · intro h x hx
    have := dw_all (· == c) l.reverse (fun y hy => h y (by simpa using hy)) x (by simpa using hx)
    simpa using this
  · intro h x hx
    have := (List.dropWhile_sublist (· == c)).subset (List.mem_reverse.1 hx)
    simpa using h x (List.mem_reverse.1 this)
end Go.Hw
end
section
/- record: the record of words; all words of a form. -/
namespace Go.Proofs.YtnknippcbecmeaaGreatDoor.Rec
open Go Go.Hw Go.Form Go.Crc W
def recOf (a b c : Nat) : R := ⟨a % 281474976710656, ((b % 256 : Nat) : Int), ((b / 65536 % 256 : Nat) : Int), ((b / 256 % 256 : Nat) : Int), ((b / 16777216 % 256 : Nat) : Int), b / 4294967296, c / 4294967296, c % 4294967296⟩
theorem mask48 {x : Nat} (hx : x < 2 ^ 64) : bAnd .u64 (x : Int) 281474976710655 = ((x % 281474976710656 : Nat) : Int) := by
  rw [show (281474976710655 : Int) = ((281474976710655 : Nat) : Int) from rfl, andN hx (by omega), show 281474976710655 = 2 ^ 48 - 1 from rfl, Nat.and_two_pow_sub_one_eq_mod]
theorem mask8 {x : Nat} (hx : x < 2 ^ 64) : bAnd .u64 (x : Int) 255 = ((x % 256 : Nat) : Int) := by
  rw [show (255 : Int) = ((255 : Nat) : Int) from rfl, andN hx (by omega), show 255 = 2 ^ 8 - 1 from rfl, Nat.and_two_pow_sub_one_eq_mod]
theorem u32m (x : Nat) : IntKind.u32.wrap (x : Int) = ((x % 4294967296 : Nat) : Int) := by
  simp only [IntKind.wrap, IntKind.bits, IntKind.signed, Bool.false_and, Bool.false_eq_true, if_false]; omega
theorem of_ok (A : Option Addr) (n m : Nat) (a b c : Nat) (ws : List Nat) (hn : n = (a :: b :: c :: ws).length) (ha : a < 2 ^ 64) (hb : b < 2 ^ 64) (hc : c < 2 ^ 64) (H : Hp) (hl : Cells H A (Gen.natV (a :: b :: c :: ws))) :
    HCalls Tryz.prog 121 #[.slice A n m] H (RetE (.agg (recOf a b c).c) H) := HCalls.ret (by
  apply W_record_of.ok
  unfold W_record_of
  have hlen : (Gen.natV (a :: b :: c :: ws)).length ≤ n := by rw [Gen.natV_length, hn]; exact Nat.le_refl _
  refine (Sep.start H).nw fun b1 H1 hs => ?_
  have hl1 := hl.le (hs.ow 0 rfl)
  have r0 : (Gen.natV (a :: b :: c :: ws))[0]? = some (.int .u64 (a : Int)) := rfl
  have r1 : (Gen.natV (a :: b :: c :: ws))[1]? = some (.int .u64 (b : Int)) := rfl
  have r2 : (Gen.natV (a :: b :: c :: ws))[2]? = some (.int .u64 (c : Int)) := rfl
  refine hl1.read r0 rfl hlen ?_
  simp only [HV]
  refine hl1.read r1 rfl hlen ?_
  simp only [HV]
  refine hl1.read r1 rfl hlen ?_
  simp only [HV]
  refine ⟨by decide, ?_⟩
  refine hl1.read r1 rfl hlen ?_
  simp only [HV]
  refine ⟨by decide, ?_⟩
  refine hl1.read r1 rfl hlen ?_
  simp only [HV]
  refine ⟨by decide, ?_⟩
  refine hl1.read r1 rfl hlen ?_
  simp only [HV]
  refine ⟨by decide, ?_⟩
  refine hl1.read r2 rfl hlen ?_
  simp only [HV]
  refine ⟨by decide, ?_⟩
  refine hl1.read r2 rfl hlen ?_
  simp only [HV]
  have s8 : shrI .u64 (b : Int) 8 = ((b / 256 : Nat) : Int) := shrN (k := .u64) (a := b) (i := 8) (n := 8) rfl (by decide)
  have s16 : shrI .u64 (b : Int) 16 = ((b / 65536 : Nat) : Int) := shrN (k := .u64) (a := b) (i := 16) (n := 16) rfl (by decide)
  have s24 : shrI .u64 (b : Int) 24 = ((b / 16777216 : Nat) : Int) := shrN (k := .u64) (a := b) (i := 24) (n := 24) rfl (by decide)
  have s32 : shrI .u64 (b : Int) 32 = ((b / 4294967296 : Nat) : Int) := shrN (k := .u64) (a := b) (i := 32) (n := 32) rfl (by decide)
  have t32 : shrI .u64 (c : Int) 32 = ((c / 4294967296 : Nat) : Int) := shrN (k := .u64) (a := c) (i := 32) (n := 32) rfl (by decide)
  rw [s8, s16, s24, s32, t32, mask48 ha, mask8 hb, mask8 (x := b / 65536) (by omega), mask8 (x := b / 256) (by omega), mask8 (x := b / 16777216) (by omega), i64n (n := b % 256) (by omega), i64n (n := b / 65536 % 256) (by omega), i64n (n := b / 256 % 256) (by omega), i64n (n := b / 16777216 % 256) (by omega),
    u32n (n := b / 4294967296) (by omega), u32n (n := c / 4294967296) (by omega), u32m c]
  refine hs.stw 1 rfl rfl rfl rfl fun H1 hs => ?_
  refine hs.ldw 1 rfl rfl ?_
  exact hs.fin 0 rfl _)
def wds (bs : List UInt8) (n : Nat) : List Nat := (List.range n).map fun i => wordN bs (8 * i)
theorem wds_succ (bs : List UInt8) (n : Nat) : wds bs (n + 1) = wds bs n ++ [wordN bs (8 * n)] := by
  unfold wds
  rw [List.range_succ, List.map_append]; rfl
def nought (bs : List UInt8) : Bool := decide (∀ x ∈ bs.drop 32, x = 0)
theorem all_loop (K : Value → Hp → Prop) {A : Option Addr} {n m : Nat} {bs : List UInt8} {R : As} (hR : ∀ H, R H → Cells H A (byteVals bs)) (hn : n = bs.length) (hnm : n ≤ m) (h32 : 32 ≤ n) (hbig : n ≤ 1000000)
    (hK : ∀ A' m' H, 4 ≤ m' → Sep [R, Own 60 1 A' 4 m' (Gen.natV (wds bs 4))] H → K (.tuple #[.slice A' 4 m', .bool (nought bs)]) H) :
    ∀ (t i : Nat) (A' : Option Addr) (m' : Nat) (H : Hp), i + t = 4 → i ≤ m' → Sep [R, Own 60 1 A' i m' (Gen.natV (wds bs i))] H → W_record_all.l2 K (t + 1) A n m A' i m' (i : Int) H
  | 0, i, A', m', H, hi, hm', hs => by
    obtain rfl : i = 4 := by omega
    have hc : Cells H A (byteVals bs) := by
      obtain ⟨H1, h1, hle⟩ := hs.see 0 rfl
      exact (hR H1 h1).le hle
    unfold W_record_all.l2
    refine BIf_dneg (by decide) ?_
    refine slB_from (l := 32) rfl h32 ?_
    have h1 : Cells H (slA A m 32 1) (byteVals (bs.drop 32)) := by
      have := hc.shift (m := m) (l := 32) (by rw [byteVals_length]; omega)
      rw [show (byteVals bs).drop 32 = byteVals (bs.drop 32) by unfold byteVals; rw [List.map_drop]] at this
      exact this
    refine BsK_of h1 (by rw [List.length_drop]; omega) ?_
    refine HCalls.use (Trim_hc ⟨(bs.drop 32).toArray⟩ 0 (by decide) (by show (bs.drop 32).toArray.size ≤ _; simp; omega) H) ?_
    simp only [HV]
    have he : ((⟨(Go.Lib.trimB (bs.drop 32) 0).toArray⟩ : ByteArray).toList == (⟨#[]⟩ : ByteArray).toList) = nought bs := by
      rw [ByteArray.toList_mk, show (⟨#[]⟩ : ByteArray).toList = [] from ByteArray.toList_mk []]
      unfold nought
      by_cases h : Go.Lib.trimB (bs.drop 32) 0 = []
      · rw [h, decide_eq_true ((trimB_nil _ _).1 h)]; rfl
      · rw [decide_eq_false (fun g => h ((trimB_nil _ _).2 g)), beq_eq_false_iff_ne.2 h]
    rw [he]
    exact hK A' m' H hm' hs
  | t + 1, i, A', m', H, hi, hm', hs => by
    have hc : Cells H A (byteVals bs) := by
      obtain ⟨H1, h1, hle⟩ := hs.see 0 rfl
      exact (hR H1 h1).le hle
    unfold W_record_all.l2
    refine BIf_dpos (by omega) ?_
    refine HCalls.use (FormP.Word_ok A n m hnm (by omega) bs hn i (by omega) H hc) ?_
    simp only [HV]
    refine Nw_cap ?_
    refine hs.app1 1 rfl Gen.cell_u64 (by omega) rfl (by omega) (by omega) fun A2 m2 H hs hcap => ?_
    simp only [HV]
    rw [i64w (x := (i : Int) + 1) (by omega) (by omega), show (i : Int) + 1 = ((i + 1 : Nat) : Int) by omega]
    refine all_loop K hR hn hnm h32 hbig hK t (i + 1) A2 m2 H (by omega) (hcap _ _ _ rfl) ?_
    rw [wds_succ, show Gen.natV (wds bs i ++ [wordN bs (8 * i)]) = Gen.natV (wds bs i) ++ [.int .u64 ((wordN bs (8 * i) : Nat) : Int)] by unfold Gen.natV; rw [List.map_append]; rfl]
    exact hs
theorem all_tr {A : Option Addr} {n m : Nat} {bs : List UInt8} {R : As} (hR : ∀ H, R H → Cells H A (byteVals bs)) (hn : n = bs.length) (hnm : n ≤ m) (h32 : 32 ≤ n) (hbig : n ≤ 1000000) :
    Tr Tryz.prog 120 #[.slice A n m] [R] fun v M => ∃ A' m', 4 ≤ m' ∧ v = .tuple #[.slice A' 4 m', .bool (nought bs)] ∧ M = [R, Own 60 1 A' 4 m' (Gen.natV (wds bs 4))] := fun H hs => by
  apply W_record_all.ok
  unfold W_record_all
  have e0 : Sep [R, Own 60 1 none 0 0 (Gen.natV (wds bs 0))] H := by
    have : Sep (Own 60 1 none 0 0 [] :: [R]) H := ⟨fun _ => none, H, fun _ _ h => (nomatch h), Hp.le_refl _, fun _ => .inl rfl, Own.none _ _ _, hs⟩
    exact this.re [1, 0] rfl
  refine ⟨5, ?_⟩
  refine all_loop _ hR hn hnm h32 hbig (fun A' m' H hm' hs => ?_) 4 0 none 0 H rfl (Nat.le_refl _) e0
  exact ⟨_, ⟨A', m', hm', rfl, rfl⟩, hs⟩
end Go.Proofs.YtnknippcbecmeaaGreatDoor.Rec
end
section
/- record: Take. -/
namespace Go.Proofs.YtnknippcbecmeaaGreatDoor.Rec
open Go Go.Hw Go.Form Go.Crc W
def secB (n : Int) : Bool := decide ((Lay.NeedV 0 n).2 = 0)
theorem sector_ok (x : Int) (H : Hp) : HCalls Tryz.prog 112 #[.int .i64 x] H (RetE (.bool (secB x)) H) := by
  apply W_record_sector.ok
  unfold W_record_sector
  refine HCalls.use (Lay.Need_ok 0 x H) ?_
  simp only [HV]
  refine ⟨?_, rfl⟩
  unfold secB
  by_cases h : (Lay.NeedV 0 x).2 = 0
  · rw [decide_eq_true h, h]; rfl
  · rw [decide_eq_false h, beq_eq_false_iff_ne.2 h]
def zeroR : R := ⟨0, 0, 0, 0, 0, 0, 0, 0⟩
def w3U (bs : List UInt8) : List UInt64 := [UInt64.ofNat (wordN bs 0), UInt64.ofNat (wordN bs 8), UInt64.ofNat (wordN bs 16)]
def takeV (bs : List UInt8) : R × Int :=
  if secB (bs.length : Int) = true then
    if wordN bs 0 / 281474976710656 = 21061 ∧ nought bs = true then
      if wordN bs 24 = joinN 0 (sealP (w3U bs)) then
        if (recOf (wordN bs 0) (wordN bs 8) (wordN bs 16)).good then (recOf (wordN bs 0) (wordN bs 8) (wordN bs 16), 0) else (zeroR, 1)
      else (zeroR, 9)
    else (zeroR, 10)
  else (zeroR, 15)
theorem wordN_lt (bs : List UInt8) (o : Nat) : wordN bs o < 2 ^ 64 := leN_lt8 (by simp; omega)
set_option maxHeartbeats 1000000 in
theorem Take_ok (A : Option Addr) (n m : Nat) (bs : List UInt8) (hn : n = bs.length) (hnm : n ≤ m) (hbig : n ≤ 1000000) (h32 : secB (n : Int) = true → 32 ≤ n) (H : Hp) (hc : Cells H A (byteVals bs)) :
    HCalls Tryz.prog 72 #[.slice A n m] H (RetE (.tuple #[.agg (takeV bs).1.c, .int .i64 (takeV bs).2]) H) := HCalls.ret (by
  apply W_record_Take.ok
  unfold W_record_Take takeV
  rw [← hn]
  refine (Sep.start H).nw fun b1 H1 hs => ?_
  have hs : Sep [own H, pts b1 (recO zeroR)] H1 := hs
  refine HCalls.use (sector_ok n H1) ?_
  simp only [HV]
  by_cases hsec : secB (n : Int) = true
  case neg =>
    rw [if_neg hsec, show secB (n : Int) = false by simpa using hsec]
    refine BIf_pos rfl ?_
    refine hs.stw 1 rfl rfl rfl rfl fun H1 hs => ?_
    refine hs.ldw 1 rfl rfl ?_
    exact hs.fin 0 rfl _
  rw [if_pos hsec, hsec]
  refine BIf_neg rfl ?_
  refine (all_tr (R := own H) (fun H' h => hc.le h) hn hnm (h32 hsec) hbig).use hs [0] rfl rfl ?_
  rintro _ _ H1 ⟨A', m', hm', rfl, rfl⟩ hs
  simp only [HV]
  have hA : Cells H1 A' (Gen.natV (wds bs 4)) := by
    obtain ⟨hl, h⟩ := hs.own 1 rfl
    rcases h with ⟨_, h0, _⟩ | ⟨b, mm, rfl, hb, _⟩
    · omega
    · have := Cells.row hb 0 4
      exact this
  have hw : wds bs 4 = [wordN bs 0, wordN bs 8, wordN bs 16, wordN bs 24] := rfl
  rw [hw] at hA hs
  refine HCalls.use (of_ok A' 4 m' (wordN bs 0) (wordN bs 8) (wordN bs 16) [wordN bs 24] rfl (wordN_lt _ _) (wordN_lt _ _) (wordN_lt _ _) H1 hA) ?_
  simp only [HV]
  refine hs.nw fun b2 H1 hs => ?_
  refine hs.stw 3 rfl rfl rfl rfl fun H1 hs => ?_
  have hs : Sep [own H, Own 60 1 A' 4 m' (Gen.natV [wordN bs 0, wordN bs 8, wordN bs 16, wordN bs 24]), pts b1 (recO zeroR), pts b2 (recO (recOf (wordN bs 0) (wordN bs 8) (wordN bs 16)))] H1 := hs
  have hA : Cells H1 A' (Gen.natV [wordN bs 0, wordN bs 8, wordN bs 16, wordN bs 24]) := by
    obtain ⟨hl, h⟩ := hs.own 1 rfl
    rcases h with ⟨_, h0, _⟩ | ⟨b, mm, rfl, hb, _⟩
    · omega
    · have := Cells.row hb 0 4
      exact this
  refine hA.read (i := 0) rfl rfl (by rw [Gen.natV_length]; exact Nat.le_refl _) ?_
  simp only [HV]
  refine ⟨by decide, ?_⟩
  have s48 : shrI .u64 ((wordN bs 0 : Nat) : Int) 48 = ((wordN bs 0 / 281474976710656 : Nat) : Int) := shrN (k := .u64) (a := wordN bs 0) (i := 48) (n := 48) rfl (by decide)
  rw [s48]
  by_cases hmg : wordN bs 0 / 281474976710656 = 21061
  case neg =>
    rw [if_neg (fun h => hmg h.1)]
    refine BIf_bnep (by omega) ?_
    refine hs.stw 2 rfl rfl rfl rfl fun H1 hs => ?_
    refine hs.ldw 2 rfl rfl ?_
    exact hs.fin 0 rfl _
  refine BIf_bnen (by omega) ?_
  by_cases hno : nought bs = true
  case neg =>
    rw [if_neg (fun h => hno h.2), show nought bs = false by simpa using hno]
    refine BIf_pos rfl ?_
    refine hs.stw 2 rfl rfl rfl rfl fun H1 hs => ?_
    refine hs.ldw 2 rfl rfl ?_
    exact hs.fin 0 rfl _
  rw [if_pos ⟨hmg, hno⟩, hno]
  refine BIf_neg rfl ?_
  refine hA.read (i := 3) rfl rfl (by rw [Gen.natV_length]; exact Nat.le_refl _) ?_
  simp only [HV]
  refine slB_to (r := 3) rfl (by omega) ?_
  have hU : Cells H1 (slA A' m' 0 1) (wordVals (w3U bs)) := by
    have := (hA.shift (m := m') (l := 0) (by rw [Gen.natV_length]; exact hm')).take 3
    have e : wordVals (w3U bs) = ((Gen.natV [wordN bs 0, wordN bs 8, wordN bs 16, wordN bs 24]).drop 0).take 3 := by
      show [Value.int .u64 ((UInt64.ofNat (wordN bs 0)).toNat : Int), Value.int .u64 ((UInt64.ofNat (wordN bs 8)).toNat : Int), Value.int .u64 ((UInt64.ofNat (wordN bs 16)).toNat : Int)] = _
      rw [UInt64.toNat_ofNat_of_lt' (wordN_lt bs 0), UInt64.toNat_ofNat_of_lt' (wordN_lt bs 8), UInt64.toNat_ofNat_of_lt' (wordN_lt bs 16)]
      rfl
    rw [e]; exact this
  refine QCall.use (seal_ok (slA A' m' 0 1) 3 (m' - 0) (w3U bs) rfl (by omega) H1 hU) ?_
  simp only [HV]
  by_cases hsl : wordN bs 24 = joinN 0 (sealP (w3U bs))
  case neg =>
    rw [if_neg hsl]
    refine BIf_bnep (by omega) ?_
    refine hs.stw 2 rfl rfl rfl rfl fun H1 hs => ?_
    refine hs.ldw 2 rfl rfl ?_
    exact hs.fin 0 rfl _
  rw [if_pos hsl]
  refine BIf_bnen (by omega) ?_
  refine hs.ldw 3 rfl rfl ?_
  refine HCalls.use (Good_ok (recOf (wordN bs 0) (wordN bs 8) (wordN bs 16)) H1) ?_
  simp only [HV]
  by_cases hg : (recOf (wordN bs 0) (wordN bs 8) (wordN bs 16)).good
  · rw [if_pos hg, decide_eq_true hg]
    refine BIf_neg rfl ?_
    refine hs.ldw 3 rfl rfl ?_
    refine hs.stw 2 rfl rfl rfl rfl fun H1 hs => ?_
    refine hs.ldw 2 rfl rfl ?_
    exact hs.fin 0 rfl _
  · rw [if_neg hg, decide_eq_false hg]
    refine BIf_pos rfl ?_
    refine hs.stw 2 rfl rfl rfl rfl fun H1 hs => ?_
    refine hs.ldw 2 rfl rfl ?_
    exact hs.fin 0 rfl _)
end Go.Proofs.YtnknippcbecmeaaGreatDoor.Rec
end
section
/- Formulas of functions, printed by wip/tools/hwp.py. -/
namespace Go.Proofs.YtnknippcbecmeaaGreatDoor.W
open Go Go.Hw
theorem mixWabacistref18 : Tryz.prog.follows .mixedOrders = true := by kernel_rfl
def W_abacistref18_Log.l3 (K : Value → Hp → Prop) : Nat → Int → Int → Int → Hp → Prop
  | 0, _, _, _, _ => False
  | k + 1, x2, x3, x4, H =>
    let R3 := W_abacistref18_Log.l3 K k
    BIf (decide (x4 ≤ (12 : Int))) (BIf (x2 == x3) (K (.int .i64 x4) H) (R3 x2 (IntKind.i64.wrap ((2 : Int) * x3)) (IntKind.i64.wrap (x4 + (1 : Int))) H)) (K (.int .i64 (-1)) H)
def W_abacistref18_Log (x1 : Int) (H : Hp) (K : Value → Hp → Prop) : Prop :=
  (∃ k, W_abacistref18_Log.l3 K k x1 (32 : Int) (5 : Int) H)
def W_abacistref18_Log.l3.L (K : Value → Hp → Prop) (k : Nat) : Mid := fun E D H =>
  eI E 0 .i64 fun x2 => eI E 3 .i64 fun x3 => eI E 4 .i64 fun x4 => DNilD D (W_abacistref18_Log.l3 K k x2 x3 x4 H)
def W_abacistref18_Log.Λ3 (_ : Value → Hp → Prop) (_R3 : Int → Int → Int → Hp → Prop) : Cuts := Cuts.none (fun _ => none)
def W_abacistref18_Log.Λ (K : Value → Hp → Prop) : Cuts := ⟨fun i => none, fun i => match Nat.beq i 3 with | true => some (fun E D H => ∃ k, W_abacistref18_Log.l3.L K k E D H) | false => none, (fun _ => none)⟩
theorem W_abacistref18_Log.ok (x1 : Int) (H : Hp) (K : Value → Hp → Prop) (h : W_abacistref18_Log x1 H K) : HCalls Tryz.prog 108 #[.int .i64 x1] H K :=
  hcalls Tryz.func108 rfl (Nat.le_of_ble_eq_true rfl) (hw_safe (Λ := (W_abacistref18_Log.Λ K)) mixWabacistref18 _ _ _ _ _ (Eq.mp (by kernel_rfl) h) (obs_seq obs_region rfl (obs_seq obs_region rfl (obs_seq (obs_seq obs_region rfl (obs_block (obs_loop rfl (fun E D H h => by
      refine Safe.loop' (W_abacistref18_Log.l3.L K) (fun E D H h => ?_) (fun k E D H h => ?_) E D H h
      · obtain ⟨w0, e0, g1⟩ := DG.out h; obtain ⟨x2, rfl, g2⟩ := DI.out g1; obtain ⟨w3, e3, g3⟩ := DG.out g2; obtain ⟨x3, rfl, g4⟩ := DI.out g3; obtain ⟨w4, e4, g5⟩ := DG.out g4; obtain ⟨x4, rfl, g6⟩ := DI.out g5; obtain ⟨rfl, h'⟩ := DNilD.out g6; exact h'
      · obtain ⟨x2, e0, g2⟩ := GI h
        obtain ⟨x3, e3, g4⟩ := GI g2; obtain ⟨x4, e4, g6⟩ := GI g4; obtain ⟨rfl, h'⟩ := DNilD.out g6
        exact (hw_safe (Λ := (W_abacistref18_Log.Λ3 K (W_abacistref18_Log.l3 K k))) mixWabacistref18 _ _ [(0, .int .i64 x2), (3, .int .i64 x3), (4, .int .i64 x4)] [] H (Eq.mp (by kernel_rfl) h') (obs_seq (obs_seq obs_region rfl (obs_cond obs_skip obs_exit)) rfl (obs_seq (obs_block (obs_seq (obs_seq obs_region rfl (obs_cond (obs_seq obs_region rfl obs_ret) obs_skip)) rfl obs_region)) rfl obs_region))).weaken (EnvLe.cons e0 (EnvLe.cons e3 (EnvLe.cons e4 (EnvLe.nil _)))) (Hp.le_refl _))))) rfl (obs_seq obs_region rfl obs_ret)))))
end Go.Proofs.YtnknippcbecmeaaGreatDoor.W
end
section
/- super, and the document's superblock: what their functions answer. -/
namespace Go.Proofs.YtnknippcbecmeaaGreatDoor.Sup
open Go Go.Hw Go.Form W Lay
def goodB (k sec s ar : Int) : Bool := decide (0 ≤ k ∧ k ≤ 32 ∧ 0 < perN s ∧ (needN k.toNat (perN s) : Int) ≤ sec ∧ 1 ≤ ar ∧ ar ≤ 16777216)
def logN (s : Int) : Int := if s = 32 then 5 else if s = 64 then 6 else if s = 128 then 7 else if s = 256 then 8 else if s = 512 then 9 else if s = 1024 then 10 else if s = 2048 then 11 else if s = 4096 then 12 else -1
theorem log_loop (s : Int) (H : Hp) (K : Value → Hp → Prop) (hK : K (.int .i64 (logN s)) H) : W_abacistref18_Log.l3 K 9 s 32 5 H := by
  unfold logN at hK
  unfold W_abacistref18_Log.l3
  refine BIf_dpos (by decide) ?_
  split at hK
  · rename_i h
    subst h
    exact BIf_pos rfl hK
  rename_i h
  refine BIf_neg (beq_false_of_ne h) ?_
  unfold W_abacistref18_Log.l3
  refine BIf_dpos (by decide) ?_
  split at hK
  · rename_i h
    subst h
    exact BIf_pos rfl hK
  rename_i h
  refine BIf_neg (beq_false_of_ne h) ?_
  unfold W_abacistref18_Log.l3
  refine BIf_dpos (by decide) ?_
  split at hK
  · rename_i h
    subst h
    exact BIf_pos rfl hK
  rename_i h
  refine BIf_neg (beq_false_of_ne h) ?_
  unfold W_abacistref18_Log.l3
  refine BIf_dpos (by decide) ?_
  split at hK
  · rename_i h
    subst h
    exact BIf_pos rfl hK
  rename_i h
  refine BIf_neg (beq_false_of_ne h) ?_
  unfold W_abacistref18_Log.l3
  refine BIf_dpos (by decide) ?_
  split at hK
  · rename_i h
    subst h
    exact BIf_pos rfl hK
  rename_i h
  refine BIf_neg (beq_false_of_ne h) ?_
  unfold W_abacistref18_Log.l3
  refine BIf_dpos (by decide) ?_
  split at hK
  · rename_i h
    subst h
    exact BIf_pos rfl hK
  rename_i h
  refine BIf_neg (beq_false_of_ne h) ?_
  unfold W_abacistref18_Log.l3
  refine BIf_dpos (by decide) ?_
  split at hK
  · rename_i h
    subst h
    exact BIf_pos rfl hK
  rename_i h
  refine BIf_neg (beq_false_of_ne h) ?_
  unfold W_abacistref18_Log.l3
  refine BIf_dpos (by decide) ?_
  split at hK
  · rename_i h
    subst h
    exact BIf_pos rfl hK
  rename_i h
  refine BIf_neg (beq_false_of_ne h) ?_
  unfold W_abacistref18_Log.l3
  exact BIf_dneg (by decide) hK
theorem Log_ok (s : Int) (H : Hp) : HCalls Tryz.prog 108 #[.int .i64 s] H (RetE (.int .i64 (logN s)) H) := by
  apply W_abacistref18_Log.ok
  exact ⟨9, log_loop s H _ (RetE.mk _ _)⟩
theorem log_per (s : Int) : (0 < perN s ∧ s = 8 * perN s ∧ 5 ≤ logN s ∧ logN s ≤ 12 ∧ perN s = 2 ^ (logN s - 3).toNat) ∨ (perN s = 0 ∧ logN s = -1) := by
  unfold perN logN
  repeat' split
  all_goals first | (subst_vars; left; decide) | (right; exact ⟨rfl, rfl⟩)
end Go.Proofs.YtnknippcbecmeaaGreatDoor.Sup
end
section
/- The reference's Take. -/
namespace Go.Proofs.YtnknippcbecmeaaGreatDoor.Rec
open Go Go.Hw Go.Form Go.Crc W FormP
theorem secB_per (s : Int) : secB s = true ↔ 0 < Lay.perN s := by
  unfold secB Lay.NeedV
  by_cases h : 0 < Lay.perN s
  · rw [if_pos ⟨by omega, by omega, h⟩]; simp [h]
  · rw [if_neg (fun g => h g.2.2)]; simp [h]
theorem secB_log (s : Int) : secB s = true ↔ 0 ≤ Sup.logN s := by
  rw [secB_per]
  rcases Sup.log_per s with ⟨h1, _, h3, _⟩ | ⟨h1, h2⟩
  · exact ⟨fun _ => by omega, fun _ => h1⟩
  · exact ⟨fun h => by omega, fun h => by omega⟩
theorem secB_32 {s : Int} (h : secB s = true) : 32 ≤ s ∧ s ≤ 4096 := by
  rw [secB_per] at h
  refine ⟨Int.not_lt.1 fun g => ?_, Int.not_lt.1 fun g => ?_⟩
  · rw [Lay.perN_small g] at h; omega
  · rw [Lay.perN_great g] at h; omega
theorem join2 {p q : Nat} (hp : p < 4294967296) (hq : q < 4294967296) : joinN 0 [(p, 32), (q, 0)] = p * 4294967296 + q := by
  show (0 ||| (p * 2 ^ 32 % 2 ^ 64)) ||| (q * 2 ^ 0 % 2 ^ 64) = _
  rw [Nat.zero_or, Nat.mod_eq_of_lt (by omega), Nat.pow_zero, Nat.mul_one, Nat.mod_eq_of_lt (by omega), Nat.mul_comm p, ← Nat.two_pow_add_eq_or_of_lt (i := 32) hq p]
theorem seal_sum (l : List UInt64) : joinN 0 (sealP l) = (4294967295 - (sum (form l)).toNat) * 4294967296 + (sum (form l)).toNat := by
  have := (sum (form l)).isLt
  exact join2 (by omega) (by omega)
theorem rtake_loop {H0 H : Hp} {b1 : Nat} (bs : List UInt8) (hbig : bs.length ≤ 1000000) (h32 : 32 ≤ bs.length) (hsec : secB (bs.length : Int) = true) (hs : Sep [own H0, pts b1 (recO zeroR)] H) :
    ∀ (t i : Nat), i + t = bs.length → 32 ≤ i → (∀ j x, 32 ≤ j → j < i → bs[j]? = some x → x = 0) → W_abacistref20_Take.l4 (Ret (.tuple #[.agg (takeV bs).1.c, .int .i64 (takeV bs).2]) H0) (t + 1) ⟨bs.toArray⟩ ⟨b1, 0, none⟩ (i : Int) H
  | 0, i, hi, h3, hz => by
    have hno : nought bs = true := decide_eq_true fun x hx => by
      obtain ⟨k, hk, rfl⟩ := List.getElem_of_mem hx
      rw [List.getElem_drop]
      exact hz (32 + k) _ (by omega) (by rw [List.length_drop] at hk; omega) (List.getElem?_eq_getElem (by rw [List.length_drop] at hk; omega))
    unfold W_abacistref20_Take.l4
    refine BIf_dneg (by show ¬ ((i : Int) < ((bs.toArray.size : Nat) : Int)); simp; omega) ?_
    unfold takeV
    rw [if_pos hsec]
    refine HCalls.use (rWord_ok bs 0 (by omega) (by omega) H) ?_
    simp only [HV]
    refine HCalls.use (rWord_ok bs 8 (by omega) (by omega) H) ?_
    simp only [HV]
    refine HCalls.use (rWord_ok bs 16 (by omega) (by omega) H) ?_
    simp only [HV]
    have l0 := wordN_lt bs 0
    have l8 := wordN_lt bs 8
    have l16 := wordN_lt bs 16
    have l24 := wordN_lt bs 24
    refine ⟨by decide, by simp, ?_⟩
    rw [show Int.tdiv ((wordN bs 0 : Nat) : Int) 281474976710656 = ((wordN bs 0 / 281474976710656 : Nat) : Int) from rfl, u64n (n := wordN bs 0 / 281474976710656) (by omega)]
    by_cases hmg : wordN bs 0 / 281474976710656 = 21061
    case neg =>
      rw [if_neg (fun h => hmg h.1)]
      refine BIf_bnep (by omega) ?_
      refine hs.stw 1 rfl rfl rfl rfl fun H1 hs => ?_
      refine hs.ldw 1 rfl rfl ?_
      exact hs.fin 0 rfl _
    refine BIf_bnen (by omega) ?_
    rw [if_pos ⟨hmg, hno⟩]
    refine hs.nw fun b2 H1 hs => ?_
    have hU : Cells H1 (some ⟨b2, 0, none⟩) (wordVals (w3U bs)) := by
      have := Cells.row (hs.get 2 rfl) 0 3
      have e : wordVals (w3U bs) = [Value.int .u64 ((wordN bs 0 : Nat) : Int), Value.int .u64 ((wordN bs 8 : Nat) : Int), Value.int .u64 ((wordN bs 16 : Nat) : Int)] := by
        show [Value.int .u64 ((UInt64.ofNat (wordN bs 0)).toNat : Int), Value.int .u64 ((UInt64.ofNat (wordN bs 8)).toNat : Int), Value.int .u64 ((UInt64.ofNat (wordN bs 16)).toNat : Int)] = _
        rw [UInt64.toNat_ofNat_of_lt' l0, UInt64.toNat_ofNat_of_lt' l8, UInt64.toNat_ofNat_of_lt' l16]
      rw [e]; exact this
    refine HCalls.use (CrcP.rOfWords_ok (some ⟨b2, 0, none⟩) 3 3 (w3U bs) rfl (by omega) H1 hU) ?_
    simp only [HV]
    refine HCalls.use (rWord_ok bs 24 (by omega) (by omega) H1) ?_
    simp only [HV]
    have hsm := (sum (form (w3U bs))).isLt
    have hss := seal_sum (w3U bs)
    generalize joinN 0 (sealP (w3U bs)) = sv at *
    generalize (sum (form (w3U bs))).toNat = sm at *
    rw [u64n (n := sm) (by omega), u64w (x := 4294967295 - (sm : Int)) (by omega) (by omega), u64w (x := (4294967295 - (sm : Int)) * 4294967296) (by omega) (by omega), u64w (x := (4294967295 - (sm : Int)) * 4294967296 + (sm : Int)) (by omega) (by omega)]
    by_cases hsl : wordN bs 24 = sv
    case neg =>
      rw [if_neg hsl]
      refine BIf_bnep (by omega) ?_
      refine hs.stw 1 rfl rfl rfl rfl fun H1 hs => ?_
      refine hs.ldw 1 rfl rfl ?_
      exact hs.fin 0 rfl _
    rw [if_pos hsl]
    refine BIf_bnen (by omega) ?_
    refine ⟨by decide, by simp, by decide, by simp, by decide, by simp, by decide, by simp, by decide, by simp, by decide, by simp, by decide, by simp, by decide, by simp, by decide, by simp, by decide, by simp, by decide, by simp, ?_⟩
    refine hs.nw fun b3 H1 hs => ?_
    rw [show Int.tmod ((wordN bs 0 : Nat) : Int) 281474976710656 = ((wordN bs 0 % 281474976710656 : Nat) : Int) from rfl,
      show Int.tmod ((wordN bs 8 : Nat) : Int) 256 = ((wordN bs 8 % 256 : Nat) : Int) from rfl,
      show Int.tdiv ((wordN bs 8 : Nat) : Int) 65536 = ((wordN bs 8 / 65536 : Nat) : Int) from rfl, u64n (n := wordN bs 8 / 65536) (by omega),
      show Int.tdiv ((wordN bs 8 : Nat) : Int) 256 = ((wordN bs 8 / 256 : Nat) : Int) from rfl, u64n (n := wordN bs 8 / 256) (by omega),
      show Int.tdiv ((wordN bs 8 : Nat) : Int) 16777216 = ((wordN bs 8 / 16777216 : Nat) : Int) from rfl, u64n (n := wordN bs 8 / 16777216) (by omega),
      show Int.tdiv ((wordN bs 8 : Nat) : Int) 4294967296 = ((wordN bs 8 / 4294967296 : Nat) : Int) from rfl, u64n (n := wordN bs 8 / 4294967296) (by omega),
      show Int.tdiv ((wordN bs 16 : Nat) : Int) 4294967296 = ((wordN bs 16 / 4294967296 : Nat) : Int) from rfl, u64n (n := wordN bs 16 / 4294967296) (by omega),
      show Int.tmod ((wordN bs 8 / 65536 : Nat) : Int) 256 = ((wordN bs 8 / 65536 % 256 : Nat) : Int) from rfl,
      show Int.tmod ((wordN bs 8 / 256 : Nat) : Int) 256 = ((wordN bs 8 / 256 % 256 : Nat) : Int) from rfl,
      show Int.tmod ((wordN bs 8 / 16777216 : Nat) : Int) 256 = ((wordN bs 8 / 16777216 % 256 : Nat) : Int) from rfl,
      show Int.tmod ((wordN bs 16 : Nat) : Int) 4294967296 = ((wordN bs 16 % 4294967296 : Nat) : Int) from rfl,
      i64n (n := wordN bs 8 % 256) (by omega), i64n (n := wordN bs 8 / 65536 % 256) (by omega), i64n (n := wordN bs 8 / 256 % 256) (by omega), i64n (n := wordN bs 8 / 16777216 % 256) (by omega),
      u32n (n := wordN bs 8 / 4294967296) (by omega), u32n (n := wordN bs 16 / 4294967296) (by omega), u32n (n := wordN bs 16 % 4294967296) (by omega)]
    refine hs.stw 3 rfl rfl rfl rfl fun H1 hs => ?_
    refine hs.ldw 3 rfl rfl ?_
    refine HCalls.use (rGood_ok (recOf (wordN bs 0) (wordN bs 8) (wordN bs 16)) H1) ?_
    simp only [HV]
    by_cases hg : (recOf (wordN bs 0) (wordN bs 8) (wordN bs 16)).good
    · rw [if_pos hg, decide_eq_true hg]
      refine BIf_neg rfl ?_
      refine hs.ldw 3 rfl rfl ?_
      refine hs.stw 1 rfl rfl rfl rfl fun H1 hs => ?_
      refine hs.ldw 1 rfl rfl ?_
      exact hs.fin 0 rfl _
    · rw [if_neg hg, decide_eq_false hg]
      refine BIf_pos rfl ?_
      refine hs.stw 1 rfl rfl rfl rfl fun H1 hs => ?_
      refine hs.ldw 1 rfl rfl ?_
      exact hs.fin 0 rfl _
  | t + 1, i, hi, h3, hz => by
    have hlt : i < bs.length := by omega
    unfold W_abacistref20_Take.l4
    refine BIf_dpos (by show (i : Int) < ((bs.toArray.size : Nat) : Int); simp; omega) ⟨by omega, ixB_of (by rw [Int.toNat_natCast]; show i < bs.toArray.size; simp; omega) ?_⟩
    have hb : ∀ y : UInt8, y = bs[i] → BIf (((y.toNat : Nat) : Int) != 0) (StA H (⟨b1, 0, none⟩ : Addr) #[.int .u64 0, .int .i64 0, .int .i64 0, .int .i64 0, .int .i64 0, .int .u32 0, .int .u32 0, .int .u32 0] 8 fun H4 => LdA H4 (⟨b1, 0, none⟩ : Addr) 8 fun l4 => Ret (.tuple #[.agg (takeV bs).1.c, .int .i64 (takeV bs).2]) H0 (.tuple #[.agg l4.toArray, .int .i64 10]) H4) (W_abacistref20_Take.l4 (Ret (.tuple #[.agg (takeV bs).1.c, .int .i64 (takeV bs).2]) H0) (t + 1) ⟨bs.toArray⟩ ⟨b1, 0, none⟩ (IntKind.i64.wrap ((i : Int) + 1)) H) := fun y hy => by
      by_cases h0 : (y.toNat : Int) = 0
      · refine BIf_bnen h0 ?_
        rw [i64w (x := (i : Int) + 1) (by omega) (by omega), show (i : Int) + 1 = ((i + 1 : Nat) : Int) by omega]
        refine rtake_loop bs hbig h32 hsec hs t (i + 1) (by omega) (by omega) fun j x h1 h2 hx => ?_
        by_cases e : j = i
        · subst e
          rw [List.getElem?_eq_getElem hlt] at hx
          have : x = y := by rw [hy]; exact (Option.some.inj hx).symm
          rw [this]
          exact UInt8.toNat_inj.1 (by simpa using h0)
        · exact hz j x h1 (by omega) hx
      · refine BIf_bnep h0 ?_
        have hno : ¬ nought bs = true := fun h => h0 (by
          have := (of_decide_eq_true h) bs[i] (by
            have : (bs.drop 32)[i - 32]? = some bs[i] := by rw [List.getElem?_drop, show 32 + (i - 32) = i by omega, List.getElem?_eq_getElem hlt]
            exact List.mem_of_getElem? this)
          rw [hy, this]; rfl)
        refine hs.stw 1 rfl rfl rfl rfl fun H1 hs => ?_
        refine hs.ldw 1 rfl rfl ?_
        unfold takeV
        rw [if_pos hsec, if_neg (fun h => hno h.2)]
        exact hs.fin 0 rfl _
    exact hb _ (by rfl)
theorem rTake_ok (bs : List UInt8) (hbig : bs.length ≤ 1000000) (H : Hp) : HCalls Tryz.prog 62 #[.string ⟨bs.toArray⟩] H (RetE (.tuple #[.agg (takeV bs).1.c, .int .i64 (takeV bs).2]) H) := HCalls.ret (by
  apply W_abacistref20_Take.ok
  unfold W_abacistref20_Take
  refine (Sep.start H).nw fun b1 H1 hs => ?_
  have hs : Sep [own H, pts b1 (recO zeroR)] H1 := hs
  rw [show ((⟨bs.toArray⟩ : ByteArray).size : Int) = (bs.length : Int) by show ((bs.toArray.size : Nat) : Int) = _; simp]
  refine HCalls.use (Sup.Log_ok (bs.length : Int) H1) ?_
  simp only [HV]
  by_cases hsec : secB (bs.length : Int) = true
  · have h32 := secB_32 hsec
    have hl := (secB_log _).1 hsec
    refine BIf_dneg (by omega) ⟨bs.length - 32 + 1, ?_⟩
    exact rtake_loop bs hbig (by omega) hsec hs (bs.length - 32) 32 (by omega) (Nat.le_refl _) (fun j x h1 h2 => by omega)
  · have hl : ¬ 0 ≤ Sup.logN (bs.length : Int) := fun h => hsec ((secB_log _).2 h)
    refine BIf_dpos (by omega) ?_
    refine hs.stw 1 rfl rfl rfl rfl fun H1 hs => ?_
    refine hs.ldw 1 rfl rfl ?_
    unfold takeV
    rw [if_neg hsec]
    exact hs.fin 0 rfl _)
end Go.Proofs.YtnknippcbecmeaaGreatDoor.Rec
end
section
/- The reference's words of a record. -/
namespace Go.Proofs.YtnknippcbecmeaaGreatDoor.Rec
open Go Go.Hw Go.Form Go.Crc W FormP
theorem or_add {w q : Nat} (k : Nat) (hw : 2 ^ k ∣ w) (hq : q < 2 ^ k) : w ||| q = w + q := by
  obtain ⟨t, rfl⟩ := hw
  exact (Nat.two_pow_add_eq_or_of_lt hq t).symm
theorem p1_sum (r : R) (hg : r.good) : joinN 0 r.p1 = 5928144484503126016 + r.s := by
  obtain ⟨g1, g2, _⟩ := hg
  show (0 ||| (21061 * 2 ^ 48 % 2 ^ 64)) ||| (r.s * 2 ^ 0 % 2 ^ 64) = _
  rw [Nat.zero_or, Nat.pow_zero, Nat.mul_one, Nat.mod_eq_of_lt (show r.s < 2 ^ 64 by omega), or_add 48 ⟨21061, by decide⟩ (by omega)]
theorem p3_sum (r : R) (hu : r.u32) : joinN 0 r.p3 = r.inp * 4294967296 + r.out := join2 hu.inp hu.out
theorem p2_sum (r : R) (hg : r.good) (hu : r.u32) : joinN 0 r.p2 = r.ld * 4294967296 + r.ps.toNat * 16777216 + r.kk.toNat * 65536 + r.dir.toNat * 256 + r.kd.toNat := by
  obtain ⟨g1, g2, g3, g4, g5, g6⟩ := hg
  have hu := hu.ld
  have h1 : r.ps.toNat < 256 := by omega
  have h2 : r.kk.toNat < 256 := by omega
  have h3 : r.dir.toNat < 256 := by omega
  have h4 : r.kd.toNat < 256 := by omega
  show ((((0 ||| (r.ld * 2 ^ 32 % 2 ^ 64)) ||| (r.ps.toNat * 2 ^ 24 % 2 ^ 64)) ||| (r.kk.toNat * 2 ^ 16 % 2 ^ 64)) ||| (r.dir.toNat * 2 ^ 8 % 2 ^ 64)) ||| (r.kd.toNat * 2 ^ 0 % 2 ^ 64) = _
  generalize r.ps.toNat = a at *
  generalize r.kk.toNat = b at *
  generalize r.dir.toNat = c at *
  generalize r.kd.toNat = d at *
  generalize r.ld = l at *
  rw [Nat.zero_or, Nat.mod_eq_of_lt (show l * 2 ^ 32 < 2 ^ 64 by omega), Nat.mod_eq_of_lt (show a * 2 ^ 24 < 2 ^ 64 by omega), Nat.mod_eq_of_lt (show b * 2 ^ 16 < 2 ^ 64 by omega), Nat.mod_eq_of_lt (show c * 2 ^ 8 < 2 ^ 64 by omega), Nat.pow_zero, Nat.mul_one, Nat.mod_eq_of_lt (show d < 2 ^ 64 by omega)]
  rw [or_add 32 ⟨l, Nat.mul_comm _ _⟩ (show a * 2 ^ 24 < 2 ^ 32 by omega), or_add 24 ⟨l * 256 + a, by omega⟩ (show b * 2 ^ 16 < 2 ^ 24 by omega), or_add 16 ⟨(l * 256 + a) * 256 + b, by omega⟩ (show c * 2 ^ 8 < 2 ^ 16 by omega), or_add 8 ⟨((l * 256 + a) * 256 + b) * 256 + c, by omega⟩ (show d < 2 ^ 8 by omega)]
end Go.Proofs.YtnknippcbecmeaaGreatDoor.Rec
end
section
/- record: records compared. -/
namespace Go.Proofs.YtnknippcbecmeaaGreatDoor.Rec
open Go Go.Hw Go.Form Go.Crc W FormP
def recL (r : R) : List Lit := [.int .u64 (r.s : Int), .int .i64 r.kd, .int .i64 r.kk, .int .i64 r.dir, .int .i64 r.ps, .int .u32 (r.ld : Int), .int .u32 (r.inp : Int), .int .u32 (r.out : Int)]
structure R.wf (r : R) : Prop where
  s : r.s < 2 ^ 64
  kd : -9223372036854775808 ≤ r.kd ∧ r.kd ≤ 9223372036854775807
  kk : -9223372036854775808 ≤ r.kk ∧ r.kk ≤ 9223372036854775807
  dir : -9223372036854775808 ≤ r.dir ∧ r.dir ≤ 9223372036854775807
  ps : -9223372036854775808 ≤ r.ps ∧ r.ps ≤ 9223372036854775807
  u : r.u32
theorem recL_inj {a b : R} : recL a = recL b ↔ a = b := by
  constructor
  · intro h
    unfold recL at h
    simp only [List.cons.injEq, Lit.int.injEq, true_and, and_true] at h
    obtain ⟨h1, h2, h3, h4, h5, h6, h7, h8⟩ := h
    cases a; cases b
    simp only at *
    congr 1 <;> omega
  · rintro rfl; rfl
theorem recL_ok {r : R} (h : r.wf) : okAll [.int .u64, .int .i64, .int .i64, .int .i64, .int .i64, .int .u32, .int .u32, .int .u32] (recL r) = true := by
  obtain ⟨h1, h2, h3, h4, h5, u1, u2, u3⟩ := h
  unfold recL
  simp only [okAll, litOk, decide_true, Bool.true_and, Bool.and_eq_true]
  simp [Lit.wf, IntKind.min, IntKind.max, IntKind.bits, IntKind.signed]
  omega
theorem rec_eql {a b : R} (wa : a.wf) (wb : b.wf) {K : Bool → Prop} (c : Bool) (hc : c = true ↔ a = b) (k : K c) : EqV Tryz.prog .eql 86 (.agg a.c) (.agg b.c) K :=
  EqV_eql (d := 9) (m := 9) (by kernel_rfl) (by kernel_rfl) (by kernel_rfl) (by omega) (by kernel_rfl) (recL_ok wa) (recL_ok wb) rfl rfl c (hc.trans recL_inj.symm) k
theorem rec_neq {a b : R} (wa : a.wf) (wb : b.wf) {K : Bool → Prop} (c : Bool) (hc : c = true ↔ a = b) (k : K (!c)) : EqV Tryz.prog .neq 86 (.agg a.c) (.agg b.c) K :=
  EqV_neq (d := 9) (m := 9) (by kernel_rfl) (by kernel_rfl) (by kernel_rfl) (by omega) (by kernel_rfl) (recL_ok wa) (recL_ok wb) rfl rfl c (hc.trans recL_inj.symm) k
theorem recOf_wf {a b c : Nat} (hb : b < 2 ^ 64) (hc : c < 2 ^ 64) : (recOf a b c).wf := by
  unfold recOf
  exact ⟨by simp only []; omega, by simp only []; omega, by simp only []; omega, by simp only []; omega, by simp only []; omega, ⟨by simp only []; omega, by simp only []; omega, by simp only []; omega⟩⟩
theorem takeV_wf (bs : List UInt8) : (takeV bs).1.wf := by
  have hz : zeroR.wf := ⟨by decide, by decide, by decide, by decide, by decide, ⟨by decide, by decide, by decide⟩⟩
  unfold takeV
  split
  · split
    · split
      · split
        · exact recOf_wf (wordN_lt _ _) (wordN_lt _ _)
        · exact hz
      · exact hz
    · exact hz
  · exact hz
end Go.Proofs.YtnknippcbecmeaaGreatDoor.Rec
end
section
/- record: the form's record. -/
namespace Go.Proofs.YtnknippcbecmeaaGreatDoor.Rec
open Go Go.Hw Go.Form Go.Crc W FormP
def R.form (r : R) (size : Nat) : List UInt8 := Form.form r.w4 ++ List.replicate (size - 32) 0
theorem form_w4 (r : R) : (Form.form r.w4).length = 32 := by rw [form_length]; rfl
theorem rform_len (r : R) {size : Nat} (h : 32 ≤ size) : (r.form size).length = size := by
  unfold R.form
  rw [List.length_append, form_w4, List.length_replicate]; omega
theorem rform_nought (r : R) (size : Nat) : nought (r.form size) = true := by
  unfold nought R.form
  refine decide_eq_true fun x hx => ?_
  rw [List.drop_append, form_w4, Nat.sub_self, List.drop_eq_nil_of_le (by rw [form_w4]; exact Nat.le_refl _), List.nil_append, List.drop_zero] at hx
  exact (List.mem_replicate.1 hx).2
theorem recOf_r (r : R) (hg : r.good) (hu : r.u32) : recOf (joinN 0 r.p1) (joinN 0 r.p2) (joinN 0 r.p3) = r := by
  rw [p1_sum r hg, p2_sum r hg hu, p3_sum r hu]
  obtain ⟨g1, g2, g3, g4, g5, g6⟩ := hg
  obtain ⟨u1, u2, u3⟩ := hu
  obtain ⟨s, kd, kk, dir, ps, ld, inp, out⟩ := r
  simp only at *
  unfold recOf
  congr 1 <;> omega
theorem rform_words (r : R) (size : Nat) : wordN (r.form size) 0 = joinN 0 r.p1 ∧ wordN (r.form size) 8 = joinN 0 r.p2 ∧ wordN (r.form size) 16 = joinN 0 r.p3 ∧ wordN (r.form size) 24 = joinN 0 (sealP r.w3) := by
  have h4 : r.w4.length = 4 := rfl
  have w0 := wordN_form (l := r.w4) (i := 0) (by omega) (List.replicate (size - 32) 0)
  have w1 := wordN_form (l := r.w4) (i := 1) (by omega) (List.replicate (size - 32) 0)
  have w2 := wordN_form (l := r.w4) (i := 2) (by omega) (List.replicate (size - 32) 0)
  have w3 := wordN_form (l := r.w4) (i := 3) (by omega) (List.replicate (size - 32) 0)
  refine ⟨w0.trans ?_, w1.trans ?_, w2.trans ?_, w3.trans ?_⟩
  · exact UInt64.toNat_ofNat_of_lt' (joinN_lt r.p1 0 (by decide))
  · exact UInt64.toNat_ofNat_of_lt' (joinN_lt r.p2 0 (by decide))
  · exact UInt64.toNat_ofNat_of_lt' (joinN_lt r.p3 0 (by decide))
  · exact UInt64.toNat_ofNat_of_lt' (joinN_lt (sealP r.w3) 0 (by decide))
theorem takeV_form (r : R) (hg : r.good) (hu : r.u32) {size : Nat} (h32 : 32 ≤ size) (hs : secB (size : Int) = true) : takeV (r.form size) = (r, 0) := by
  obtain ⟨w0, w1, w2, w3⟩ := rform_words r size
  have hU : w3U (r.form size) = r.w3 := by
    unfold w3U
    rw [w0, w1, w2]; rfl
  have hr := recOf_r r hg hu
  have hm : joinN 0 r.p1 / 281474976710656 = 21061 := by
    have := p1_sum r hg
    have := hg.1
    have := hg.2.1
    omega
  unfold takeV
  rw [rform_len r h32, if_pos hs, hU, w0, w1, w2, w3, hr, if_pos ⟨hm, rform_nought r size⟩, if_pos rfl, if_pos hg]
end Go.Proofs.YtnknippcbecmeaaGreatDoor.Rec
end
section
/- ring: New, slot. -/
namespace Go.Proofs.YtnknippcbecmeaaGreatDoor.Rng
open Go Go.Hw W Rec Srt Dsk
def ringO (p : Nat) (f n w : Int) : AO := .obj (.cells #[.int .i64 f, .int .i64 n, .int .i64 w, .pointer (some ⟨p, 0, none⟩)] 139)
def extB (d : D) (f n : Int) : Bool := decide (2 ≤ n ∧ 0 ≤ f ∧ f < d.sec ∧ n ≤ d.sec - f)
def NewQ (p : Nat) (d : D) (f n w : Int) (v : Value) (M : List As) : Prop :=
  (extB d f n = true ∧ ∃ b, v = .tuple #[.pointer (some ⟨b, 0, none⟩), .int .i64 0] ∧ M = [Dk p d, pts b (ringO p f n w)]) ∨ (extB d f n = false ∧ v = .tuple #[.pointer none, .int .i64 2] ∧ M = [Dk p d])
theorem NewQ.yes {p : Nat} {d : D} {f n w : Int} (h : extB d f n = true) (b : Nat) : NewQ p d f n w (.tuple #[.pointer (some ⟨b, 0, none⟩), .int .i64 0]) [Dk p d, pts b (ringO p f n w)] := .inl ⟨h, b, rfl, rfl⟩
theorem NewQ.no {p : Nat} {d : D} {f n w : Int} (h : extB d f n = false) : NewQ p d f n w (.tuple #[.pointer none, .int .i64 2]) [Dk p d] := .inr ⟨h, rfl, rfl⟩
theorem New_tr {p : Nat} {d : D} (hok : Ok d) (f n w : Int) (hf : -9223372036854775808 ≤ f ∧ f ≤ 9223372036854775807) :
    Tr Tryz.prog 22 #[.pointer (some ⟨p, 0, none⟩), .agg #[.int .i64 f, .int .i64 n, .int .i64 w]] [Dk p d] (NewQ p d f n w) := fun H hs => by
  have hsec := hok.sec
  apply W_ring_New.ok
  unfold W_ring_New
  refine hs.nw fun b1 H hs => ?_
  have hs : Hw.Sep [Dk p d, pts b1 (.obj (.cells #[.int .i64 f, .int .i64 n, .int .i64 w] 30))] H := hs
  have bad : extB d f n = false → ∃ M, NewQ p d f n w (.tuple #[.pointer none, .int .i64 2]) M ∧ Hw.Sep M H := fun h => ⟨_, .no h, hs.re [0] rfl⟩
  refine BIf_neg rfl ?_
  refine hs.ldf 1 rfl rfl ?_
  simp only [HV]
  by_cases h1 : n < 2
  · exact BIf_dpos h1 (bad (decide_eq_false (by omega)))
  refine BIf_dneg h1 ?_
  refine hs.ldf 1 rfl rfl ?_
  simp only [HV]
  by_cases h2 : f < 0
  · exact BIf_dpos h2 (bad (decide_eq_false (by omega)))
  refine BIf_dneg h2 ?_
  refine hs.ldf 1 rfl rfl ?_
  simp only [HV]
  refine QCall.use (Sectors_s hs 0 rfl) ?_
  simp only [HV]
  by_cases h3 : f ≥ (d.sec : Int)
  · exact BIf_dpos h3 (bad (decide_eq_false (by omega)))
  refine BIf_dneg h3 ?_
  refine hs.ldf 1 rfl rfl ?_
  simp only [HV]
  refine QCall.use (Sectors_s hs 0 rfl) ?_
  simp only [HV]
  refine hs.ldf 1 rfl rfl ?_
  simp only [HV]
  rw [i64w (x := (d.sec : Int) - f) (by omega) (by omega)]
  by_cases h4 : n > (d.sec : Int) - f
  · exact BIf_dpos h4 (bad (decide_eq_false (by omega)))
  refine BIf_dneg h4 ?_
  first | refine hs.ldw 1 rfl rfl ?_
  try simp only [HV]
  refine hs.nw fun b2 H hs => ?_
  exact ⟨_, .yes (decide_eq_true (by omega)) b2, hs.re [0, 2] rfl⟩
def slotN (f n : Nat) (s : Nat) : Nat := f + (s - 1) % n
theorem slot_ok {L : List As} {H : Hp} (hs : Hw.Sep L H) (i : Nat) {b p : Nat} {f n : Nat} {w : Int} (hi : L[i]? = some (pts b (ringO p f n w))) (hf : f ≤ 1048576) (hn : 1 ≤ n) (hn2 : n ≤ 1048576) (s : Nat) (h1 : 1 ≤ s) (h2 : s < 18446744073709551616) :
    HCalls Tryz.prog 67 #[.pointer (some ⟨b, 0, none⟩), .int .u64 (s : Int)] H (RetE (.int .i64 (slotN f n s : Int)) H) := by
  apply W_ring_Ring_slot.ok
  unfold W_ring_Ring_slot
  simp only [NN_some, Addr.add_lit', Addr.add_zero, Nat.zero_add, Nat.add_zero]
  refine hs.ld i hi rfl ?_
  simp only [HV]
  try simp only [NN_some, Addr.add_lit', Addr.add_zero, Nat.zero_add, Nat.add_zero]
  refine hs.ld i hi rfl ?_
  simp only [HV]
  have hm : (s - 1) % n < n := Nat.mod_lt _ (by omega)
  rw [u64n (by omega), u64w (x := (s : Int) - 1) (by omega) (by omega), show (s : Int) - 1 = ((s - 1 : Nat) : Int) by omega, show Int.tmod ((s - 1 : Nat) : Int) (n : Int) = (((s - 1) % n : Nat) : Int) from rfl, i64n (by omega), i64w (by omega) (by omega)]
  refine ⟨by omega, by simp, ?_⟩
  unfold slotN
  exact RetE.of (by rw [Int.natCast_add])
end Go.Proofs.YtnknippcbecmeaaGreatDoor.Rng
end
section
/- ring: Scan. -/
namespace Go.Proofs.YtnknippcbecmeaaGreatDoor.Rng
open Go Go.Hw W Rec Srt Dsk
def stand (f n : Nat) (bs : List UInt8) (i : Nat) : List R := if (takeV bs).2 = 0 ∧ slotN f n (takeV bs).1.s = f + i then [(takeV bs).1] else []
def D.red (d : D) : D := { d.burnt with rd := d.rd + 1 }
theorem Ok.red {d : D} (hok : Ok d) : Ok (D.red d) := ⟨hok.burnt.sec, hok.burnt.size, hok.burnt.big, hok.burnt.per, hok.burnt.safe, hok.burnt.cache, hok.burnt.fz⟩
def scanR (f n : Nat) : Nat → Nat → D → List R → Int × D × List R
  | 0, _, d, acc => (0, d, acc)
  | k + 1, i, d, acc => if d.chk ((f + i : Nat) : Int) ≠ 0 then (d.chk ((f + i : Nat) : Int), d, []) else if d.burns = true then (8, d.burnt, []) else scanR f n k (i + 1) (D.red d) (acc ++ stand f n (d.now ((f + i : Nat) : Int)) i)
def ScanQ (b p f n : Nat) (w : Int) (r : Int × D × List R) (v : Value) (M : List As) : Prop :=
  ∃ A m, v = .tuple #[.slice A r.2.2.length m, .int .i64 r.1] ∧ M = [Dk p r.2.1, pts b (ringO p f n w), Own 86 8 A r.2.2.length m (recV (isort r.2.2 (r.2.2.length - 1)))] ∧ r.2.2.length ≤ m
theorem takeV_good {bs : List UInt8} (h : (takeV bs).2 = 0) : (takeV bs).1.good := by
  unfold takeV at h ⊢
  split at h
  · rename_i h1
    rw [if_pos h1]
    split at h
    · rename_i h2
      rw [if_pos h2]
      split at h
      · rename_i h3
        rw [if_pos h3]
        split at h
        · rename_i h4
          rw [if_pos h4]
          exact h4
        · cases h
      · cases h
    · cases h
  · cases h
theorem cell_rec : cellInfo Tryz.prog 86 = some (8, 56, some #[.int .u64 0, .int .i64 0, .int .i64 0, .int .i64 0, .int .i64 0, .int .u32 0, .int .u32 0, .int .u32 0]) := by kernel_rfl
theorem none8 {L : List As} {H : Hp} (h : Hw.Sep L H) : Hw.Sep (L ++ [Own 86 8 none 0 0 []]) H := by
  have : Hw.Sep (Own 86 8 none 0 0 [] :: L) H := ⟨fun _ => none, H, fun _ _ h => (nomatch h), Hp.le_refl _, fun _ => .inl rfl, Own.none _ _ _, h⟩
  exact Hw.Sep.perm (List.perm_append_comm (l₁ := [_])) this
theorem Scan_loop (b p f n : Nat) (w : Int) (hn : 1 ≤ n) (hfn : f + n ≤ 1048576) (r : Int × D × List R) (hr12 : r.1 = 0 → r.2.2.length ≤ 12) :
    ∀ (t i : Nat) (d : D) (acc : List R) (A : Option Addr) (m : Nat) (H : Hp), i + t = n → Ok d → d.rd + t ≤ 1000000 → acc.length ≤ i → acc.length ≤ m → r = scanR f n t i d acc →
      Hw.Sep [Dk p d, pts b (ringO p f n w), Own 86 8 A acc.length m (recV acc)] H →
      W_ring_Ring_Scan.l2 (fun v H' => ∃ M, ScanQ b p f n w r v M ∧ Hw.Sep M H') (t + 1) (some ⟨b, 0, none⟩) A acc.length m (n : Int) (i : Int) H
  | 0, i, d, acc, A, m, H, hi, hok, hrd, hacc, hm, hr, hs => by
    unfold W_ring_Ring_Scan.l2
    refine BIf_dneg (by omega) ?_
    have hr : r = (0, d, acc) := hr
    have h12 := hr12 (by rw [hr])
    rw [hr] at h12
    refine (SortFunc_tr A acc.length m h12 acc rfl).use hs [2] rfl rfl ?_
    rintro _ _ H1 ⟨rfl, rfl⟩ hs
    rw [hr]
    exact ⟨_, ⟨A, m, rfl, rfl, hm⟩, hs.re [1, 2, 0] rfl⟩
  | t + 1, i, d, acc, A, m, H, hi, hok, hrd, hacc, hm, hr, hs => by
    unfold W_ring_Ring_Scan.l2
    refine BIf_dpos (by omega) ?_
    have hj5 : ∀ (H : Hp) (v : Value) (M : List As), readQ p d ((f + i : Nat) : Int) v M → Hw.Sep (M ++ [pts b (ringO p f n w), Own 86 8 A acc.length m (recV acc)]) H →
        DTup v fun l1 => DCons l1 fun v5 l2 => DSl v5 fun A2 n2 m2 => DCons l2 fun v6 l3 => DI .i64 v6 fun x5 => DNil l3 (W_ring_Ring_Scan.j5 (fun v H' => ∃ M, ScanQ b p f n w r v M ∧ Hw.Sep M H') (W_ring_Ring_Scan.l2 (fun v H' => ∃ M, ScanQ b p f n w r v M ∧ Hw.Sep M H') (t + 1)) (some ⟨b, 0, none⟩) A acc.length m (i : Int) A2 n2 m2 x5 (n : Int) (i : Int) H) := by
      rintro H _ _ (⟨hc, rfl, rfl⟩ | ⟨hc, hb, rfl, rfl⟩ | ⟨hc, hb, b2, c, mm, rfl, hcc, rfl⟩) hs
      · simp only [HV]
        unfold W_ring_Ring_Scan.j5
        refine BIf_bnep hc ?_
        unfold scanR at hr
        rw [if_pos hc] at hr
        rw [hr]
        have hs := none8 hs
        exact ⟨_, ⟨none, 0, rfl, rfl, Nat.le_refl _⟩, hs.re [0, 1, 3] rfl⟩
      · simp only [HV]
        unfold W_ring_Ring_Scan.j5
        refine BIf_bnep (by decide) ?_
        unfold scanR at hr
        rw [if_neg (by omega), if_pos hb] at hr
        rw [hr]
        have hs := none8 hs
        exact ⟨_, ⟨none, 0, rfl, rfl, Nat.le_refl _⟩, hs.re [0, 1, 3] rfl⟩
      · simp only [HV]
        unfold W_ring_Ring_Scan.j5
        refine BIf_bnen rfl ?_
        have hs : Hw.Sep [Dk p (D.red d), pts b2 (.row (byteVals (d.now ((f + i : Nat) : Int))) 5 mm), pts b (ringO p f n w), Own 86 8 A acc.length m (recV acc)] H := hs
        unfold scanR at hr
        rw [if_neg (by omega), if_neg (by simp [hb])] at hr
        have hnow := hok.now ((f + i : Nat) : Int)
        have hsz := hok.size
        generalize d.now ((f + i : Nat) : Int) = bs at *
        have hcell : Cells H (some ⟨b2, 0, none⟩) (byteVals bs) := by
          have := Cells.row (hs.get 1 (b := b2) (o := .row (byteVals bs) 5 mm) rfl) 0 d.size
          rw [List.drop_zero, List.take_of_length_le (by rw [byteVals_length]; omega)] at this
          exact this
        refine HCalls.use (Take_ok (some ⟨b2, 0, none⟩) d.size c bs hnow.symm hcc (by omega) (fun _ => hsz.1) H hcell) ?_
        simp only [HV]
        have hg := takeV_good (bs := bs)
        have hst : stand f n bs i = if (takeV bs).2 = 0 ∧ slotN f n (takeV bs).1.s = f + i then [(takeV bs).1] else [] := rfl
        generalize takeV bs = tv at *
        obtain ⟨q, e⟩ := tv
        simp only at hg hst
        refine hs.nw fun b3 H hs => ?_
        refine hs.stw 4 (y := q.c) rfl rfl rfl (recC_ok q) fun H hs => ?_
        have hs : Hw.Sep [Dk p (D.red d), pts b2 (.row (byteVals bs) 5 mm), pts b (ringO p f n w), Own 86 8 A acc.length m (recV acc), pts b3 (.obj (.cells q.c 86))] H := hs
        have hred : (D.red d).rd = d.rd + 1 := rfl
        have next : ∀ H, stand f n bs i = [] → Hw.Sep [Dk p (D.red d), pts b (ringO p f n w), Own 86 8 A acc.length m (recV acc)] H →
            W_ring_Ring_Scan.l2 (fun v H' => ∃ M, ScanQ b p f n w r v M ∧ Hw.Sep M H') (t + 1) (some ⟨b, 0, none⟩) A acc.length m (n : Int) (IntKind.i64.wrap ((i : Int) + 1)) H := fun H h0 hs => by
          rw [i64w (x := (i : Int) + 1) (by omega) (by omega)]
          rw [h0, List.append_nil] at hr
          exact Scan_loop b p f n w hn hfn r hr12 t (i + 1) (D.red d) acc A m H (by omega) (Ok.red hok) (by rw [hred]; omega) (by omega) hm hr hs
        by_cases he : e = 0
        · have hgood := hg he
          obtain ⟨s1, s2, _⟩ := hgood
          refine BIf_beqp he ?_
          refine hs.ldf 4 rfl rfl ?_
          simp only [HV]
          refine QCall.use (slot_ok hs 2 rfl (by omega) hn (by omega) q.s s1 (by omega)) ?_
          simp only [HV]
          try simp only [NN_some, Addr.add_lit', Addr.add_zero, Nat.zero_add, Nat.add_zero]
          refine hs.ld 2 rfl rfl ?_
          simp only [HV]
          rw [i64w (x := (f : Int) + (i : Int)) (by omega) (by omega)]
          by_cases hsl : slotN f n q.s = f + i
          · refine BIf_beqp (by omega) ?_
            rw [if_pos ⟨he, hsl⟩] at hst
            refine hs.ldw 4 rfl rfl ?_
            unfold R.c
            simp only [HV]
            refine Nw_cap (x := fun b => .slice (some ⟨b, 0, none⟩) 1 1) ?_
            refine hs.appS 3 rfl cell_rec rfl (by omega) (by omega) rfl rfl (by omega) (by omega) fun A' m' H hs hcap => ?_
            have hm' := hcap _ _ _ rfl
            simp only [HV]
            rw [i64w (x := (i : Int) + 1) (by omega) (by omega)]
            rw [hst] at hr
            have hlen : (acc ++ [q]).length = acc.length + 1 := by simp
            have ih := Scan_loop b p f n w hn hfn r hr12 t (i + 1) (D.red d) (acc ++ [q]) A' m' H (by omega) (Ok.red hok) (by rw [hred]; omega) (by omega) (by rw [hlen]; exact hm') hr
            rw [hlen] at ih
            refine ih ?_
            have e1 : recV (acc ++ [q]) = recV acc ++ q.c.toList := by simp [recV]
            rw [e1]
            exact hs.re [0, 2, 3] rfl
          · refine BIf_beqn (by omega) ?_
            rw [if_neg (fun h => hsl h.2)] at hst
            exact next H hst (hs.re [0, 2, 3] rfl)
        · refine BIf_beqn he ?_
          rw [if_neg (fun h => he h.1)] at hst
          exact next H hst (hs.re [0, 2, 3] rfl)
    try simp only [NN_some, Addr.add_lit', Addr.add_zero, Nat.zero_add, Nat.add_zero]
    have hw : IntKind.i64.wrap ((f : Int) + (i : Int)) = ((f + i : Nat) : Int) := by rw [i64w (by omega) (by omega)]; omega
    have hR := Read_tr (p := p) (d := d) hok (by omega) ((f + i : Nat) : Int)
    refine ⟨?_, ?_⟩
    · refine hs.ld 1 rfl rfl ?_
      simp only [HV]
      try simp only [NN_some, Addr.add_lit', Addr.add_zero, Nat.zero_add, Nat.add_zero]
      refine hs.ld 1 rfl rfl ?_
      simp only [HV]
      rw [hw]
      refine hR.use hs [0] rfl rfl ?_
      intro v M H1 hq hs
      exact hj5 H1 v M hq hs
    · refine hs.ld 1 rfl rfl ?_
      simp only [HV]
      try simp only [NN_some, Addr.add_lit', Addr.add_zero, Nat.zero_add, Nat.add_zero]
      refine hs.ld 1 rfl rfl ?_
      simp only [HV]
      rw [hw]
      refine hR.use hs [0] rfl rfl ?_
      intro v M H1 hq hs
      exact hj5 H1 v M hq hs
end Go.Proofs.YtnknippcbecmeaaGreatDoor.Rng
end
section
/- ring: Scan and Last: the contracts. -/
namespace Go.Proofs.YtnknippcbecmeaaGreatDoor.Rng
open Go Go.Hw W Rec Srt Dsk
theorem stand_len (f n : Nat) (bs : List UInt8) (i : Nat) : (stand f n bs i).length ≤ 1 := by unfold stand; split <;> simp
theorem scanR_len (f n : Nat) : ∀ (k i : Nat) (d : D) (acc : List R), (scanR f n k i d acc).2.2.length ≤ acc.length + k
  | 0, _, _, _ => Nat.le_refl _
  | k + 1, i, d, acc => by
    unfold scanR
    split
    · exact Nat.zero_le _
    · split
      · exact Nat.zero_le _
      · have h1 := scanR_len f n k (i + 1) (D.red d) (acc ++ stand f n (d.now ((f + i : Nat) : Int)) i)
        have h2 := stand_len f n (d.now ((f + i : Nat) : Int)) i
        rw [List.length_append] at h1
        omega
theorem scanR_err (f n : Nat) : ∀ (k i : Nat) (d : D) (acc : List R), (scanR f n k i d acc).1 ≠ 0 → (scanR f n k i d acc).2.2 = []
  | 0, _, _, _, h => absurd rfl h
  | k + 1, i, d, acc, h => by
    unfold scanR at h ⊢
    by_cases h1 : d.chk ((f + i : Nat) : Int) ≠ 0
    · rw [if_pos h1]
    · rw [if_neg h1] at h ⊢
      by_cases h2 : d.burns = true
      · rw [if_pos h2]
      · rw [if_neg h2] at h ⊢
        exact scanR_err f n k (i + 1) _ _ h
def scanA (f n : Nat) (d : D) : Int × D × List R := scanR f n n 0 d []
theorem Scan_tr {b p f n : Nat} {w : Int} {d : D} (hn : 1 ≤ n) (hfn : f + n ≤ 1048576) (hok : Ok d) (hrd : d.rd + n ≤ 1000000) (h12 : (scanA f n d).1 = 0 → (scanA f n d).2.2.length ≤ 12) :
    Tr Tryz.prog 37 #[.pointer (some ⟨b, 0, none⟩)] [Dk p d, pts b (ringO p f n w)] (ScanQ b p f n w (scanA f n d)) := fun H hs => by
  apply W_ring_Ring_Scan.ok
  unfold W_ring_Ring_Scan
  try simp only [NN_some, Addr.add_lit', Addr.add_zero, Nat.zero_add, Nat.add_zero]
  refine hs.ld 1 rfl rfl ?_
  simp only [HV]
  exact ⟨n + 1, Scan_loop b p f n w hn hfn _ h12 n 0 d [] none 0 H (by omega) hok hrd (Nat.le_refl _) (Nat.le_refl _) rfl (none8 hs)⟩
def lastR (r : Int × D × List R) : Option R := (isort r.2.2 (r.2.2.length - 1)).getLast?
def LastQ (b p f n : Nat) (w : Int) (r : Int × D × List R) (v : Value) (M : List As) : Prop :=
  v = .tuple #[.agg ((lastR r).getD zeroR).c, .bool (lastR r).isSome, .int .i64 r.1] ∧ M = [Dk p r.2.1, pts b (ringO p f n w)]
theorem Last_tr {b p f n : Nat} {w : Int} {d : D} (hn : 1 ≤ n) (hfn : f + n ≤ 1048576) (hok : Ok d) (hrd : d.rd + n ≤ 1000000) (h12 : (scanA f n d).1 = 0 → (scanA f n d).2.2.length ≤ 12) :
    Tr Tryz.prog 32 #[.pointer (some ⟨b, 0, none⟩)] [Dk p d, pts b (ringO p f n w)] (LastQ b p f n w (scanA f n d)) := fun H hs => by
  apply W_ring_Ring_Last.ok
  unfold W_ring_Ring_Last
  refine hs.nw fun b1 H hs => ?_
  have herr := scanR_err f n n 0 d []
  have hlen := isort_len ((scanA f n d).2.2.length - 1) (scanA f n d).2.2
  refine (Scan_tr (b := b) (p := p) (w := w) hn hfn hok hrd h12).use hs [0, 1] rfl rfl ?_
  rintro _ _ H1 ⟨A, m, rfl, rfl, _⟩ hs
  change (scanA f n d).1 ≠ 0 → (scanA f n d).2.2 = [] at herr
  unfold LastQ lastR
  generalize scanA f n d = r at *
  obtain ⟨e, d', l⟩ := r
  simp only at hlen herr h12 hs ⊢
  simp only [HV]
  have hs : Hw.Sep [Dk p d', pts b (ringO p f n w), Own 86 8 A l.length m (recV (isort l (l.length - 1))), pts b1 (.obj (.cells #[.int .u64 0, .int .i64 0, .int .i64 0, .int .i64 0, .int .i64 0, .int .u32 0, .int .u32 0, .int .u32 0] 86))] H1 := hs
  have zero : l = [] → ∀ H, Hw.Sep [Dk p d', pts b (ringO p f n w), Own 86 8 A l.length m (recV (isort l (l.length - 1))), pts b1 (.obj (.cells #[.int .u64 0, .int .i64 0, .int .i64 0, .int .i64 0, .int .i64 0, .int .u32 0, .int .u32 0, .int .u32 0] 86))] H →
      StA H ⟨b1, 0, none⟩ #[.int .u64 0, .int .i64 0, .int .i64 0, .int .i64 0, .int .i64 0, .int .u32 0, .int .u32 0, .int .u32 0] 8 fun H3 => LdA H3 ⟨b1, 0, none⟩ 8 fun l5 => ∃ M, ((Value.tuple #[.agg l5.toArray, .bool false, .int .i64 e]) = .tuple #[.agg (((isort l (l.length - 1)).getLast?).getD zeroR).c, .bool ((isort l (l.length - 1)).getLast?).isSome, .int .i64 e] ∧ M = [Dk p d', pts b (ringO p f n w)]) ∧ Hw.Sep M H3 := fun h0 H hs => by
    subst h0
    refine hs.stw 3 rfl rfl rfl rfl fun H hs => hs.ldw 3 rfl rfl ?_
    exact ⟨_, ⟨rfl, rfl⟩, hs.re [0, 1] rfl⟩
  by_cases he : e ≠ 0
  · refine BIf_bnep he ?_
    exact zero (herr he) _ hs
  · have he0 : e = 0 := by omega
    refine BIf_bnen he0 ?_
    by_cases hl : l = []
    · refine BIf_beqp (by rw [hl]; rfl) ?_
      exact zero hl _ hs
    · have hp : 0 < l.length := List.length_pos_iff.2 hl
      refine BIf_beqn (by omega) ?_
      have ei : IntKind.i64.wrap ((l.length : Int) - 1) = ((l.length - 1 : Nat) : Int) := by
        have h12' := h12 he0
        rw [i64w (by omega) (by omega)]; omega
      rw [ei]
      have hlt : l.length - 1 < (isort l (l.length - 1)).length := by omega
      refine (hs.own 2 rfl).rdA rfl (by omega) (recV_get _ (l.length - 1) hlt) ?_
      rw [Array.toArray_toList]
      refine hs.stw 3 rfl rfl rfl (recC_ok _) fun H hs => hs.ldw 3 rfl rfl ?_
      rw [Array.toArray_toList]
      have hgl : (isort l (l.length - 1)).getLast? = some (isort l (l.length - 1))[l.length - 1] := by
        rw [List.getLast?_eq_getElem?, hlen, List.getElem?_eq_getElem hlt]
      rw [hgl, he0]
      exact ⟨_, ⟨rfl, rfl⟩, hs.re [0, 1] rfl⟩
end Go.Proofs.YtnknippcbecmeaaGreatDoor.Rng
end
section
/- record: Put where it can't. -/
namespace Go.Proofs.YtnknippcbecmeaaGreatDoor.Rec
open Go Go.Hw Go.Form Go.Crc W FormP
theorem Put_no (r : R) (x : Int) (h : ¬ (r.good ∧ secB x = true)) (H : Hp) : HCalls Tryz.prog 64 #[.agg r.c, .int .i64 x] H (RetE (.tuple #[.slice none 0 0, .int .i64 1]) H) := HCalls.ret (by
  apply W_record_Put.ok
  unfold W_record_Put
  refine (Sep.start H).nw fun b1 H1 hs => ?_
  have hs : Sep [own H, pts b1 (recO r)] H1 := hs
  refine hs.ldw 1 rfl rfl ?_
  refine HCalls.use (Good_ok r H1) ?_
  simp only [HV]
  by_cases hg : r.good
  · rw [decide_eq_true hg]
    refine BIf_neg rfl ?_
    refine HCalls.use (sector_ok x H1) ?_
    rw [show secB x = false by simpa using fun g => h ⟨hg, g⟩]
    simp only [HV]
    exact hs.fin 0 rfl _
  · rw [decide_eq_false hg]
    exact BIf_pos rfl (hs.fin 0 rfl _))
theorem put_row (r : R) {size : Nat} (h32 : 32 ≤ size) : setAt (zeroRow [Value.int .u8 0] size) 0 (byteVals (Form.form r.w4)) = byteVals (r.form size) := by
  rw [zeroRow_one]
  unfold setAt R.form
  rw [List.take_zero, List.nil_append, Nat.zero_add, byteVals_length, form_w4, List.drop_replicate]
  unfold byteVals
  rw [List.map_append, List.map_replicate]; rfl
end Go.Proofs.YtnknippcbecmeaaGreatDoor.Rec
end
section
/- ring: Append. -/
namespace Go.Proofs.YtnknippcbecmeaaGreatDoor.Rng
open Go Go.Hw W Rec Srt Dsk
theorem scanR_ok (f n : Nat) : ∀ (k i : Nat) (d : D) (acc : List R), Ok d → Ok (scanR f n k i d acc).2.1 ∧ (scanR f n k i d acc).2.1.wr = d.wr ∧ (scanR f n k i d acc).2.1.sy = d.sy ∧ (scanR f n k i d acc).2.1.size = d.size ∧ (scanR f n k i d acc).2.1.sec = d.sec
  | 0, _, d, _, h => ⟨h, rfl, rfl, rfl, rfl⟩
  | k + 1, i, d, acc, h => by
    have hb := burnt_rd d
    unfold scanR
    split
    · exact ⟨h, rfl, rfl, rfl, rfl⟩
    · split
      · exact ⟨h.burnt, hb.2.1, hb.2.2.1, hb.2.2.2.1, hb.2.2.2.2.1⟩
      · obtain ⟨h1, h2, h3, h4, h5⟩ := scanR_ok f n k (i + 1) (D.red d) (acc ++ stand f n (d.now ((f + i : Nat) : Int)) i) (Ok.red h)
        exact ⟨h1, h2.trans hb.2.1, h3.trans hb.2.2.1, h4.trans hb.2.2.2.1, h5.trans hb.2.2.2.2.1⟩
def putS (f n : Nat) (d : D) (r : R) : Int × D :=
  if d.writeE (slotN f n r.s) d.size ≠ 0 then (d.writeE (slotN f n r.s) d.size, d.writeD (slotN f n r.s) (r.form d.size))
  else ((d.writeD (slotN f n r.s) (r.form d.size)).syncE, (d.writeD (slotN f n r.s) (r.form d.size)).syncD)
def mayB (q : Option R) (r : R) : Bool := match q with | some q => decide (after q r) | none => decide (r.s = 1 ∧ r.kd = 1)
def appV (f n : Nat) (d : D) (r : R) : Int × D :=
  if ¬ r.good then (10, d) else if (scanA f n d).1 ≠ 0 then ((scanA f n d).1, (scanA f n d).2.1)
  else if mayB (lastR (scanA f n d)) r = false then (5, (scanA f n d).2.1) else putS f n (scanA f n d).2.1 r
def AppQ (b p f n : Nat) (w : Int) (r : Int × D) (v : Value) (M : List As) : Prop := v = .int .i64 r.1 ∧ M = [Dk p r.2, pts b (ringO p f n w)]
theorem j9_tr {b p f n : Nat} {w : Int} (hn : 1 ≤ n) (hfn : f + n ≤ 1048576) {d : D} (hok : Ok d) (hw : d.wr ≤ 1000000 ∧ d.sy ≤ 1000000) (r : R) (hg : r.good) (b1 b2 mm : Nat) (H : Hp)
    (hs : Hw.Sep [Dk p d, pts b (ringO p f n w), pts b1 (recO r), pts b2 (.row (byteVals (r.form d.size)) 5 mm)] H) :
    W_ring_Ring_Append.j9 (fun v H' => ∃ M, AppQ b p f n w (putS f n d r) v M ∧ Hw.Sep M H') (some ⟨b, 0, none⟩) ⟨b1, 0, none⟩ (some ⟨b2, 0, none⟩) d.size d.size H := by
  unfold W_ring_Ring_Append.j9
  obtain ⟨s1, s2, _⟩ := hg
  have hsz := hok.size
  try simp only [NN_some, Addr.add_lit', Addr.add_zero, Nat.zero_add, Nat.add_zero]
  refine hs.ld 1 rfl rfl ?_
  simp only [HV]
  refine hs.ld 2 rfl rfl ?_
  simp only [HV]
  refine QCall.use (slot_ok hs 1 rfl (by omega) hn (by omega) r.s s1 (by omega)) ?_
  simp only [HV]
  have hl := rform_len r hsz.1
  refine (Write_tr (p := p) (d := d) hok (by omega) (slotN f n r.s : Int) (some ⟨b2, 0, none⟩) d.size d.size (r.form d.size) hl.symm (pts b2 (.row (byteVals (r.form d.size)) 5 mm)) (fun H h => ?_)).use hs [0, 3] rfl rfl ?_
  · have := Cells.row h 0 d.size
    rw [List.drop_zero, List.take_of_length_le (by rw [byteVals_length]; omega)] at this
    exact this
  rintro _ _ H1 ⟨rfl, rfl⟩ hs
  have hs : Hw.Sep [Dk p (d.writeD (slotN f n r.s) (r.form d.size)), pts b2 (.row (byteVals (r.form d.size)) 5 mm), pts b (ringO p f n w), pts b1 (recO r)] H1 := hs
  unfold AppQ putS
  by_cases he : d.writeE (slotN f n r.s) d.size ≠ 0
  · rw [if_pos he]
    simp only [HV]
    refine BIf_bnep he ?_
    exact ⟨_, ⟨by first | trivial | rfl, rfl⟩, hs.re [0, 2] rfl⟩
  · rw [if_neg he]
    simp only [HV]
    refine BIf_bnen (by omega) ?_
    try simp only [NN_some, Addr.add_lit', Addr.add_zero, Nat.zero_add, Nat.add_zero]
    refine hs.ld 2 rfl rfl ?_
    simp only [HV]
    have hsy : (d.writeD (slotN f n r.s) (r.form d.size)).sy = d.sy := by
      have hbr := burnt_rd d
      unfold D.writeD
      split
      · rfl
      · split
        · rfl
        · split
          · exact hbr.2.2.1
          · exact hbr.2.2.1
    refine (Sync_tr (p := p) (d := d.writeD (slotN f n r.s) (r.form d.size)) (Ok.writeD hok _ _) (by rw [hsy]; omega)).use hs [0] rfl rfl ?_
    rintro _ _ H2 ⟨rfl, rfl⟩ hs
    simp only [HV]
    exact ⟨_, ⟨by first | trivial | rfl, rfl⟩, hs.re [0, 2] rfl⟩
end Go.Proofs.YtnknippcbecmeaaGreatDoor.Rng
end
section
/- ring: Append: the contract. -/
namespace Go.Proofs.YtnknippcbecmeaaGreatDoor.Rng
open Go Go.Hw W Rec Srt Dsk
theorem j2_no {K : Value → Hp → Prop} {p4 : Option Addr} {a4 : Addr} {A : Option Addr} {n m : Nat} {x : Int} {H : Hp} (hx : x ≠ 0) (k : K (.int .i64 10) H) : W_ring_Ring_Append.j2 K p4 a4 A n m x H := by
  unfold W_ring_Ring_Append.j2
  exact BIf_bnep hx k
theorem j2_tr {b p f n : Nat} {w : Int} (hn : 1 ≤ n) (hfn : f + n ≤ 1048576) {d : D} (hok : Ok d) (hw : d.wr ≤ 1000000 ∧ d.sy ≤ 1000000) (hrd : d.rd + n ≤ 1000000) (h12 : (scanA f n d).1 = 0 → (scanA f n d).2.2.length ≤ 12) (r : R) (hg : r.good) (b1 b2 mm : Nat) (H : Hp)
    (hs : Hw.Sep [Dk p d, pts b (ringO p f n w), pts b1 (recO r), pts b2 (.row (byteVals (r.form d.size)) 5 mm)] H) :
    W_ring_Ring_Append.j2 (fun v H' => ∃ M, AppQ b p f n w (appV f n d r) v M ∧ Hw.Sep M H') (some ⟨b, 0, none⟩) ⟨b1, 0, none⟩ (some ⟨b2, 0, none⟩) d.size d.size 0 H := by
  unfold W_ring_Ring_Append.j2
  refine BIf_bnen rfl ?_
  refine (Last_tr (b := b) (p := p) (w := w) hn hfn hok hrd h12).use hs [0, 1] rfl rfl ?_
  rintro _ _ H1 ⟨rfl, rfl⟩ hs
  obtain ⟨hok', hwr', hsy', hsz', _⟩ := scanR_ok f n n 0 d [] hok
  have hok' : Ok (scanA f n d).2.1 := hok'
  have hwr' : (scanA f n d).2.1.wr = d.wr := hwr'
  have hsy' : (scanA f n d).2.1.sy = d.sy := hsy'
  have hsz' : (scanA f n d).2.1.size = d.size := hsz'
  have hj9 := fun (b1 b2 mm : Nat) (H : Hp) hs => j9_tr (b := b) (p := p) (w := w) hn hfn hok' (by rw [hwr', hsy']; exact hw) r hg b1 b2 mm H hs
  have hap : appV f n d r = if (scanA f n d).1 ≠ 0 then ((scanA f n d).1, (scanA f n d).2.1) else if mayB (lastR (scanA f n d)) r = false then (5, (scanA f n d).2.1) else putS f n (scanA f n d).2.1 r := by
    unfold appV
    rw [if_neg (fun h => h hg)]
  rw [hap]
  rw [hsz'] at hj9
  generalize lastR (scanA f n d) = lq at *
  generalize scanA f n d = sc at *
  obtain ⟨e, d', l⟩ := sc
  simp only at hj9 hs hok' hwr' hsy' hsz' h12 ⊢
  simp only [HV]
  refine hs.nw fun b3 H hs => ?_
  refine hs.stw 4 (y := (lq.getD zeroR).c) rfl rfl rfl (recC_ok _) fun H hs => ?_
  have hs : Hw.Sep [Dk p d', pts b (ringO p f n w), pts b1 (recO r), pts b2 (.row (byteVals (r.form d.size)) 5 mm), pts b3 (.obj (.cells (lq.getD zeroR).c 86))] H := hs
  by_cases he : e ≠ 0
  · refine BIf_bnep he ?_
    rw [if_pos he]
    exact ⟨_, ⟨rfl, rfl⟩, hs.re [0, 1] rfl⟩
  refine BIf_bnen (by omega) ?_
  rw [if_neg he]
  cases lq with
  | some q =>
    refine BIf_pos rfl ?_
    refine hs.ldw 4 rfl rfl ?_
    refine hs.ldw 2 rfl rfl ?_
    rw [Array.toArray_toList, Array.toArray_toList]
    refine HCalls.use (After_ok q r H) ?_
    simp only [HV]
    by_cases ha : after q r
    · rw [decide_eq_true ha]
      refine BIf_neg rfl (BIf_neg rfl ?_)
      rw [if_neg (show ¬ mayB (some q) r = false by show ¬ (decide (after q r) = false); rw [decide_eq_true ha]; decide)]
      exact hj9 b1 b2 mm H (hs.re [0, 1, 2, 3] rfl)
    · rw [decide_eq_false ha]
      refine BIf_pos rfl ?_
      rw [if_pos (show mayB (some q) r = false from decide_eq_false ha)]
      exact ⟨_, ⟨rfl, rfl⟩, hs.re [0, 1] rfl⟩
  | none =>
    refine BIf_neg rfl (BIf_pos rfl ?_)
    refine hs.ldf 2 rfl rfl ?_
    simp only [HV]
    by_cases h1 : r.s = 1
    · refine BIf_bnen (by omega) ?_
      refine hs.ldf 2 rfl rfl ?_
      simp only [HV]
      by_cases h2 : r.kd = 1
      · refine BIf_bnen h2 ?_
        rw [if_neg (show ¬ mayB none r = false by show ¬ (decide (r.s = 1 ∧ r.kd = 1) = false); rw [decide_eq_true ⟨h1, h2⟩]; decide)]
        exact hj9 b1 b2 mm H (hs.re [0, 1, 2, 3] rfl)
      · refine BIf_bnep h2 ?_
        rw [if_pos (show mayB none r = false from decide_eq_false fun h => h2 h.2)]
        exact ⟨_, ⟨rfl, rfl⟩, hs.re [0, 1] rfl⟩
    · refine BIf_bnep (by omega) ?_
      rw [if_pos (show mayB none r = false from decide_eq_false fun h => h1 h.1)]
      exact ⟨_, ⟨rfl, rfl⟩, hs.re [0, 1] rfl⟩
theorem Append_tr {b p f n : Nat} {w : Int} (hn : 1 ≤ n) (hfn : f + n ≤ 1048576) {d : D} (hok : Ok d) (hw : d.wr ≤ 1000000 ∧ d.sy ≤ 1000000) (hrd : d.rd + n ≤ 1000000) (h12 : (scanA f n d).1 = 0 → (scanA f n d).2.2.length ≤ 12) (hsec : secB (d.size : Int) = true) (r : R) (hu : r.u32) :
    Tr Tryz.prog 26 #[.pointer (some ⟨b, 0, none⟩), .agg r.c] [Dk p d, pts b (ringO p f n w)] (AppQ b p f n w (appV f n d r)) := fun H hs => by
  apply W_ring_Ring_Append.ok
  unfold W_ring_Ring_Append
  have hsz := hok.size
  refine hs.nw fun b1 H hs => ?_
  have hs : Hw.Sep [Dk p d, pts b (ringO p f n w), pts b1 (recO r)] H := hs
  have put : HCalls Tryz.prog 64 #[.agg r.c, .int .i64 (d.size : Int)] H fun v3 H3 => DTup v3 fun l2 => DCons l2 fun v4 l3 => DSl v4 fun A1 n1 m1 => DCons l3 fun v5 l4 => DI .i64 v5 fun x2 => DNil l4 (W_ring_Ring_Append.j2 (fun v H' => ∃ M, AppQ b p f n w (appV f n d r) v M ∧ Hw.Sep M H') (some ⟨b, 0, none⟩) ⟨b1, 0, none⟩ A1 n1 m1 x2 H3) := by
    by_cases hg : r.good
    · have hneed : (Lay.NeedV 0 (d.size : Int)).2 = 0 := of_decide_eq_true hsec
      refine (Put_tr r hg hu d.size hsz.1 hsz.2 hneed).use hs [] rfl rfl ?_
      rintro _ _ H1 ⟨b2, rfl, rfl⟩ hs
      rw [put_row r hsz.1] at hs
      simp only [HV]
      have hs : Hw.Sep [pts b2 (.row (byteVals (r.form d.size)) 5 (d.size * 1)), Dk p d, pts b (ringO p f n w), pts b1 (recO r)] H1 := hs
      exact j2_tr hn hfn hok hw hrd h12 r hg b1 b2 _ H1 (hs.re [1, 2, 3, 0] rfl)
    · refine HCalls.use (Put_no r (d.size : Int) (fun h => hg h.1) H) ?_
      simp only [HV]
      refine j2_no (by decide) ?_
      have : appV f n d r = (10, d) := by unfold appV; rw [if_pos hg]
      rw [this]
      exact ⟨_, ⟨rfl, rfl⟩, hs.re [0, 1] rfl⟩
  have lda : ∀ {K : List Value → Prop}, K r.c.toList → LdA H (⟨b1, 0, none⟩ : Addr) 8 K := fun k => hs.ldw 2 rfl rfl k
  have ldd : ∀ {K : Value → Prop}, K (.pointer (some ⟨p, 0, none⟩)) → Ld H ((⟨b, 0, none⟩ : Addr).add 3) K := fun k => hs.ldf 1 rfl rfl k
  have hS := Size_s hs 0 rfl
  rw [NN_some]
  refine ⟨lda (ldd ?_), ldd ?_⟩
  · simp only [HV]
    refine HCalls.use hS ?_
    simp only [HV]
    exact put
  · simp only [HV]
    refine ⟨lda ?_, ?_⟩
    · refine HCalls.use hS ?_
      simp only [HV]
      exact put
    · refine HCalls.use hS ?_
      simp only [HV]
      refine lda ?_
      rw [Array.toArray_toList]
      exact put
end Go.Proofs.YtnknippcbecmeaaGreatDoor.Rng
end
section
/- ring: Chain. -/
namespace Go.Proofs.YtnknippcbecmeaaGreatDoor.Rng
open Go Go.Hw W Rec Srt Dsk
def chF (l : List R) : Nat → Nat
  | 0 => 0
  | j + 1 => if after (l.getD j dR) (l.getD (j + 1) dR) then chF l j else j + 1
theorem chF_le (l : List R) : ∀ j, chF l j ≤ j
  | 0 => Nat.le_refl _
  | j + 1 => by
    have := chF_le l j
    unfold chF
    split <;> omega
theorem Chain_loop (K : Value → Hp → Prop) (A : Option Addr) (n m : Nat) (l : List R) (hl : l.length = n) (hn : n ≤ 1000000) (H : Hp) (ho : Own 86 8 A n m (recV l) H) (fr : Nat) (k : K (.tuple #[.slice (slA A m fr 8) (n - fr) (m - fr), .int .i64 0]) H) :
    ∀ j : Nat, j < n ∨ j = 0 → chF l j = fr → W_ring_Ring_Chain.l5 K (j + 1) A n m (j : Int) H
  | 0, hj, hf => by
    unfold W_ring_Ring_Chain.l5
    refine BIf_dneg (by omega) ?_
    have hf : 0 = fr := hf
    subst hf
    refine slB_from (l := 0) rfl (by omega) ?_
    exact k
  | j + 1, hj, hf => by
    unfold W_ring_Ring_Chain.l5
    refine BIf_dpos (by omega) ?_
    have hj1 : j + 1 < l.length := by omega
    have hj0 : j < l.length := by omega
    have ej : IntKind.i64.wrap (((j + 1 : Nat) : Int) - 1) = (j : Int) := by rw [i64w (by omega) (by omega)]; omega
    rw [ej]
    refine ho.rdA (j := j) rfl (by omega) (recV_get l j hj0) ?_
    refine ho.rdA rfl (by omega) (recV_get l (j + 1) hj1) ?_
    rw [Array.toArray_toList, Array.toArray_toList]
    refine QCall.use (After_ok l[j] l[j + 1] H) ?_
    simp only [HV]
    unfold chF at hf
    rw [getD_at l hj0, getD_at l hj1] at hf
    by_cases ha : after l[j] l[j + 1]
    · rw [decide_eq_true ha]
      rw [if_pos ha] at hf
      refine BIf_pos rfl ?_
      exact Chain_loop K A n m l hl hn H ho fr k j (by omega) hf
    · rw [decide_eq_false ha]
      rw [if_neg ha] at hf
      refine BIf_neg rfl ?_
      subst hf
      exact slB_from (l := j + 1) rfl (by omega) k
def ChainQ (b p f n : Nat) (w : Int) (r : Int × D × List R) (v : Value) (M : List As) : Prop :=
  ∃ A m, v = .tuple #[.slice (slA A m (chF (isort r.2.2 (r.2.2.length - 1)) (r.2.2.length - 1)) 8) (r.2.2.length - chF (isort r.2.2 (r.2.2.length - 1)) (r.2.2.length - 1)) (m - chF (isort r.2.2 (r.2.2.length - 1)) (r.2.2.length - 1)), .int .i64 r.1] ∧
    M = [Dk p r.2.1, pts b (ringO p f n w), Own 86 8 A r.2.2.length m (recV (isort r.2.2 (r.2.2.length - 1)))] ∧ r.2.2.length ≤ m
theorem Chain_tr {b p f n : Nat} {w : Int} {d : D} (hn : 1 ≤ n) (hfn : f + n ≤ 1048576) (hok : Ok d) (hrd : d.rd + n ≤ 1000000) (h12 : (scanA f n d).1 = 0 → (scanA f n d).2.2.length ≤ 12) :
    Tr Tryz.prog 38 #[.pointer (some ⟨b, 0, none⟩)] [Dk p d, pts b (ringO p f n w)] (ChainQ b p f n w (scanA f n d)) := fun H hs => by
  apply W_ring_Ring_Chain.ok
  unfold W_ring_Ring_Chain
  have herr := scanR_err f n n 0 d []
  have hlen := isort_len ((scanA f n d).2.2.length - 1) (scanA f n d).2.2
  refine (Scan_tr (b := b) (p := p) (w := w) hn hfn hok hrd h12).use hs [0, 1] rfl rfl ?_
  rintro _ _ H1 ⟨A, m, rfl, rfl, hm⟩ hs
  change (scanA f n d).1 ≠ 0 → (scanA f n d).2.2 = [] at herr
  generalize scanA f n d = r at *
  obtain ⟨e, d', l⟩ := r
  simp only at hlen herr h12 hs ⊢
  simp only [HV]
  have hs : Hw.Sep [Dk p d', pts b (ringO p f n w), Own 86 8 A l.length m (recV (isort l (l.length - 1)))] H1 := hs
  by_cases he : e ≠ 0
  · refine BIf_bnep he ?_
    have hl := herr he
    subst hl
    have hs := none8 hs
    refine ⟨_, ⟨none, 0, ?_, rfl, Nat.le_refl _⟩, hs.re [0, 1, 3] rfl⟩
    show Value.tuple #[.slice none 0 0, .int .i64 e] = .tuple #[.slice (slA none 0 0 8) (0 - 0) (0 - 0), .int .i64 e]
    rfl
  · have he0 : e = 0 := by omega
    have h12' := h12 he0
    refine BIf_bnen he0 ?_
    have ei : (if (0 : Int) > IntKind.i64.wrap ((l.length : Int) - 1) then (0 : Int) else IntKind.i64.wrap ((l.length : Int) - 1)) = ((l.length - 1 : Nat) : Int) := by
      rw [i64w (by omega) (by omega)]
      split <;> omega
    rw [ei]
    refine ⟨l.length - 1 + 1, ?_⟩
    refine Chain_loop _ A l.length m (isort l (l.length - 1)) hlen (by omega) H1 (hs.own 2 rfl) _ ?_ (l.length - 1) (by omega) rfl
    rw [he0]
    exact ⟨_, ⟨A, m, rfl, rfl, hm⟩, hs⟩
end Go.Proofs.YtnknippcbecmeaaGreatDoor.Rng
end
section
/- ring: Clear. -/
namespace Go.Proofs.YtnknippcbecmeaaGreatDoor.Rng
open Go Go.Hw W Rec Srt Dsk
def clrR (f : Nat) : Nat → Nat → D → Int × D
  | 0, _, d => (d.syncE, d.syncD)
  | k + 1, i, d => if d.writeE ((f + i : Nat) : Int) d.size ≠ 0 then (d.writeE ((f + i : Nat) : Int) d.size, d.writeD ((f + i : Nat) : Int) (List.replicate d.size 0)) else clrR f k (i + 1) (d.writeD ((f + i : Nat) : Int) (List.replicate d.size 0))
theorem writeD_sy (d : D) (i : Int) (bs : List UInt8) : (d.writeD i bs).sy = d.sy ∧ (d.writeD i bs).wr ≤ d.wr + 1 ∧ (d.writeD i bs).size = d.size := by
  have hbr := burnt_rd d
  unfold D.writeD
  split
  · exact ⟨rfl, by omega, rfl⟩
  · split
    · exact ⟨rfl, by omega, rfl⟩
    · split
      · exact ⟨hbr.2.2.1, by omega, hbr.2.2.2.1⟩
      · exact ⟨hbr.2.2.1, Nat.le_refl _, hbr.2.2.2.1⟩
theorem zeroRow_u8 (n : Nat) : zeroRow [Value.int .u8 0] n = byteVals (List.replicate n 0) := by
  rw [zeroRow_one]
  simp [byteVals]
theorem Clear_loop {b p f n : Nat} {w : Int} (hfn : f + n ≤ 1048576) (r : Int × D) : ∀ (t i : Nat) (d : D) (H : Hp), i + t = n → Ok d → d.wr + t ≤ 1000000 → d.sy ≤ 1000000 → r = clrR f t i d → Hw.Sep [Dk p d, pts b (ringO p f n w)] H →
    W_ring_Ring_Clear.l2 (fun v H' => ∃ M, AppQ b p f n w r v M ∧ Hw.Sep M H') (t + 1) (some ⟨b, 0, none⟩) (n : Int) (i : Int) H
  | 0, i, d, H, hi, hok, hwr, hsy, hr, hs => by
    unfold W_ring_Ring_Clear.l2
    refine BIf_dneg (by omega) ?_
    try simp only [NN_some, Addr.add_lit', Addr.add_zero, Nat.zero_add, Nat.add_zero]
    refine hs.ld 1 rfl rfl ?_
    simp only [HV]
    try simp only [NN_some, Addr.add_lit', Addr.add_zero, Nat.zero_add, Nat.add_zero]
    refine (Sync_tr (p := p) (d := d) hok (by omega)).use hs [0] rfl rfl ?_
    rintro _ _ H1 ⟨rfl, rfl⟩ hs
    have hr : r = (d.syncE, d.syncD) := hr
    rw [hr]
    simp only [HV]
    exact ⟨_, ⟨rfl, rfl⟩, hs⟩
  | t + 1, i, d, H, hi, hok, hwr, hsy, hr, hs => by
    unfold W_ring_Ring_Clear.l2
    refine BIf_dpos (by omega) ?_
    have hsz := hok.size
    have hw := writeD_sy d ((f + i : Nat) : Int) (List.replicate d.size 0)
    have hadd : IntKind.i64.wrap ((f : Int) + (i : Int)) = ((f + i : Nat) : Int) := by rw [i64w (by omega) (by omega)]; omega
    have rest : ∀ H1, Hw.Sep [Dk p (d.writeD ((f + i : Nat) : Int) (List.replicate d.size 0)), pts b (ringO p f n w)] H1 →
        BIf (d.writeE ((f + i : Nat) : Int) d.size != 0) (∃ M, AppQ b p f n w r (.int .i64 (d.writeE ((f + i : Nat) : Int) d.size)) M ∧ Hw.Sep M H1) (W_ring_Ring_Clear.l2 (fun v H' => ∃ M, AppQ b p f n w r v M ∧ Hw.Sep M H') (t + 1) (some ⟨b, 0, none⟩) (n : Int) (IntKind.i64.wrap ((i : Int) + 1)) H1) := fun H1 hs => by
      unfold clrR at hr
      by_cases he : d.writeE ((f + i : Nat) : Int) d.size ≠ 0
      · rw [if_pos he] at hr
        refine BIf_bnep he ?_
        rw [hr]
        exact ⟨_, ⟨rfl, rfl⟩, hs⟩
      · rw [if_neg he] at hr
        refine BIf_bnen (by omega) ?_
        rw [i64w (x := (i : Int) + 1) (by omega) (by omega)]
        exact Clear_loop hfn r t (i + 1) _ H1 (by omega) (Ok.writeD hok _ _) (by omega) (by omega) hr hs
    try simp only [NN_some, Addr.add_lit', Addr.add_zero, Nat.zero_add, Nat.add_zero]
    refine hs.ld 1 rfl rfl ?_
    simp only [HV]
    try simp only [NN_some, Addr.add_lit', Addr.add_zero, Nat.zero_add, Nat.add_zero]
    refine QCall.use (Size_s hs 0 rfl) ?_
    simp only [HV]
    try simp only [NN_some, Addr.add_lit', Addr.add_zero, Nat.zero_add, Nat.add_zero]
    refine ⟨?_, ?_, ?_⟩
    · refine hs.ld 1 rfl rfl ?_
      simp only [HV]
      try simp only [NN_some, Addr.add_lit', Addr.add_zero, Nat.zero_add, Nat.add_zero]
      refine ⟨?_, ?_⟩
      · refine hs.ld 1 rfl rfl ?_
        simp only [HV]
        try simp only [NN_some, Addr.add_lit', Addr.add_zero, Nat.zero_add, Nat.add_zero]
        rw [hadd]
        refine hs.mks cell_u8 rfl (n := d.size) (m := d.size) rfl rfl (Nat.le_refl _) (by omega) (by omega) fun b2 H hs => ?_
        simp only [HV]
        rw [zeroRow_u8] at hs
        have hs : Hw.Sep [Dk p d, pts b (ringO p f n w), pts b2 (.row (byteVals (List.replicate d.size 0)) 5 (d.size * 1))] H := hs
        refine (Write_tr (p := p) (d := d) hok (by omega) ((f + i : Nat) : Int) (some ⟨b2, 0, none⟩) d.size d.size (List.replicate d.size 0) (by rw [List.length_replicate]) (pts b2 (.row (byteVals (List.replicate d.size 0)) 5 (d.size * 1))) (fun H h => ?_)).use hs [0, 2] rfl rfl ?_
        · have := Cells.row h 0 d.size
          rw [List.drop_zero, List.take_of_length_le (by rw [byteVals_length, List.length_replicate]; omega)] at this
          exact this
        rintro _ _ H1 ⟨rfl, rfl⟩ hs
        simp only [HV]
        exact rest _ (hs.re [0, 2] rfl)
      · refine hs.mks cell_u8 rfl (n := d.size) (m := d.size) rfl rfl (Nat.le_refl _) (by omega) (by omega) fun b2 H hs => ?_
        simp only [HV]
        rw [zeroRow_u8] at hs
        have hs : Hw.Sep [Dk p d, pts b (ringO p f n w), pts b2 (.row (byteVals (List.replicate d.size 0)) 5 (d.size * 1))] H := hs
        refine hs.ld 1 rfl rfl ?_
        simp only [HV]
        try simp only [NN_some, Addr.add_lit', Addr.add_zero, Nat.zero_add, Nat.add_zero]
        rw [hadd]
        refine (Write_tr (p := p) (d := d) hok (by omega) ((f + i : Nat) : Int) (some ⟨b2, 0, none⟩) d.size d.size (List.replicate d.size 0) (by rw [List.length_replicate]) (pts b2 (.row (byteVals (List.replicate d.size 0)) 5 (d.size * 1))) (fun H h => ?_)).use hs [0, 2] rfl rfl ?_
        · have := Cells.row h 0 d.size
          rw [List.drop_zero, List.take_of_length_le (by rw [byteVals_length, List.length_replicate]; omega)] at this
          exact this
        rintro _ _ H1 ⟨rfl, rfl⟩ hs
        simp only [HV]
        exact rest _ (hs.re [0, 2] rfl)
    · refine hs.ld 1 rfl rfl ?_
      simp only [HV]
      try simp only [NN_some, Addr.add_lit', Addr.add_zero, Nat.zero_add, Nat.add_zero]
      rw [hadd]
      refine ⟨?_, ?_⟩
      · refine hs.ld 1 rfl rfl ?_
        simp only [HV]
        try simp only [NN_some, Addr.add_lit', Addr.add_zero, Nat.zero_add, Nat.add_zero]
        refine hs.mks cell_u8 rfl (n := d.size) (m := d.size) rfl rfl (Nat.le_refl _) (by omega) (by omega) fun b2 H hs => ?_
        simp only [HV]
        rw [zeroRow_u8] at hs
        have hs : Hw.Sep [Dk p d, pts b (ringO p f n w), pts b2 (.row (byteVals (List.replicate d.size 0)) 5 (d.size * 1))] H := hs
        refine (Write_tr (p := p) (d := d) hok (by omega) ((f + i : Nat) : Int) (some ⟨b2, 0, none⟩) d.size d.size (List.replicate d.size 0) (by rw [List.length_replicate]) (pts b2 (.row (byteVals (List.replicate d.size 0)) 5 (d.size * 1))) (fun H h => ?_)).use hs [0, 2] rfl rfl ?_
        · have := Cells.row h 0 d.size
          rw [List.drop_zero, List.take_of_length_le (by rw [byteVals_length, List.length_replicate]; omega)] at this
          exact this
        rintro _ _ H1 ⟨rfl, rfl⟩ hs
        simp only [HV]
        exact rest _ (hs.re [0, 2] rfl)
      · refine hs.mks cell_u8 rfl (n := d.size) (m := d.size) rfl rfl (Nat.le_refl _) (by omega) (by omega) fun b2 H hs => ?_
        simp only [HV]
        rw [zeroRow_u8] at hs
        have hs : Hw.Sep [Dk p d, pts b (ringO p f n w), pts b2 (.row (byteVals (List.replicate d.size 0)) 5 (d.size * 1))] H := hs
        refine hs.ld 1 rfl rfl ?_
        simp only [HV]
        try simp only [NN_some, Addr.add_lit', Addr.add_zero, Nat.zero_add, Nat.add_zero]
        refine (Write_tr (p := p) (d := d) hok (by omega) ((f + i : Nat) : Int) (some ⟨b2, 0, none⟩) d.size d.size (List.replicate d.size 0) (by rw [List.length_replicate]) (pts b2 (.row (byteVals (List.replicate d.size 0)) 5 (d.size * 1))) (fun H h => ?_)).use hs [0, 2] rfl rfl ?_
        · have := Cells.row h 0 d.size
          rw [List.drop_zero, List.take_of_length_le (by rw [byteVals_length, List.length_replicate]; omega)] at this
          exact this
        rintro _ _ H1 ⟨rfl, rfl⟩ hs
        simp only [HV]
        exact rest _ (hs.re [0, 2] rfl)
    · refine hs.mks cell_u8 rfl (n := d.size) (m := d.size) rfl rfl (Nat.le_refl _) (by omega) (by omega) fun b2 H hs => ?_
      simp only [HV]
      rw [zeroRow_u8] at hs
      have hs : Hw.Sep [Dk p d, pts b (ringO p f n w), pts b2 (.row (byteVals (List.replicate d.size 0)) 5 (d.size * 1))] H := hs
      refine hs.ld 1 rfl rfl ?_
      simp only [HV]
      try simp only [NN_some, Addr.add_lit', Addr.add_zero, Nat.zero_add, Nat.add_zero]
      refine hs.ld 1 rfl rfl ?_
      simp only [HV]
      try simp only [NN_some, Addr.add_lit', Addr.add_zero, Nat.zero_add, Nat.add_zero]
      rw [hadd]
      refine (Write_tr (p := p) (d := d) hok (by omega) ((f + i : Nat) : Int) (some ⟨b2, 0, none⟩) d.size d.size (List.replicate d.size 0) (by rw [List.length_replicate]) (pts b2 (.row (byteVals (List.replicate d.size 0)) 5 (d.size * 1))) (fun H h => ?_)).use hs [0, 2] rfl rfl ?_
      · have := Cells.row h 0 d.size
        rw [List.drop_zero, List.take_of_length_le (by rw [byteVals_length, List.length_replicate]; omega)] at this
        exact this
      rintro _ _ H1 ⟨rfl, rfl⟩ hs
      simp only [HV]
      exact rest _ (hs.re [0, 2] rfl)
theorem Clear_tr {b p f n : Nat} {w : Int} (hfn : f + n ≤ 1048576) {d : D} (hok : Ok d) (hwr : d.wr + n ≤ 1000000) (hsy : d.sy ≤ 1000000) :
    Tr Tryz.prog 34 #[.pointer (some ⟨b, 0, none⟩)] [Dk p d, pts b (ringO p f n w)] (AppQ b p f n w (clrR f n 0 d)) := fun H hs => by
  apply W_ring_Ring_Clear.ok
  unfold W_ring_Ring_Clear
  try simp only [NN_some, Addr.add_lit', Addr.add_zero, Nat.zero_add, Nat.add_zero]
  refine hs.ld 1 rfl rfl ?_
  simp only [HV]
  exact ⟨n + 1, Clear_loop hfn _ n 0 d H (by omega) hok hwr hsy rfl hs⟩
theorem Slots_s {b p f n : Nat} {w : Int} {L : List As} {H : Hp} (hs : Hw.Sep L H) (i : Nat) (hi : L[i]? = some (pts b (ringO p f n w))) : HCalls Tryz.prog 23 #[.pointer (some ⟨b, 0, none⟩)] H (RetE (.int .i64 (n : Int)) H) := by
  apply W_ring_Ring_Slots.ok
  unfold W_ring_Ring_Slots
  try simp only [NN_some, Addr.add_lit', Addr.add_zero, Nat.zero_add, Nat.add_zero]
  refine hs.ld i hi rfl ?_
  simp only [HV]
  exact RetE.mk _ _
end Go.Proofs.YtnknippcbecmeaaGreatDoor.Rng
end
