/- Formulas of functions, printed by wip/tools/hwp.py. -/
import Derived.Test.YtdjdielefolfbaaHwE
import Derived.Test.YtdjdielefolfbaaProg
set_option maxRecDepth 100000
set_option linter.unusedVariables false
namespace Go.Proofs.Ytdjdielefolfbaa.W
open Go Go.Hw

theorem mix : Try.prog.follows .mixedOrders = true := by kernel_rfl
-- abacistlaw16.CrcTells
def W_abacistlaw16_CrcTells (A1 : Option Addr) (n1 : Nat) (m1 : Nat) (A2 : Option Addr) (n2 : Nat) (m2 : Nat) (H : Hp) (K : Value → Hp → Prop) : Prop :=
  HCalls Try.prog 19 #[] H fun v1 H1 => DB v1 fun c1 => BIf (!c1) (K (.bool false) H1) (BIf (decide ((n1 : Nat) > (300 : Int))) (K (.bool true) H1) (BIf (decide ((n2 : Nat) > (40 : Int))) (K (.bool true) H1) (QCall Try.prog 20 #[.slice A1 n1 m1] H1 fun v2 => DI .u32 v2 fun x1 => BsK H1 A1 n1 fun s1 => QCall Try.prog 21 #[.string s1] H1 fun v3 => DI .u32 v3 fun x2 => BIf (x1 == x2) (QCall Try.prog 22 #[.slice A2 n2 m2] H1 fun v4 => DI .u32 v4 fun x3 => QCall Try.prog 23 #[.slice A2 n2 m2] H1 fun v5 => DI .u32 v5 fun x4 => K (.bool (x3 == x4)) H1) (K (.bool false) H1))))
def W_abacistlaw16_CrcTells.Λ (_ : Value → Hp → Prop) : Cuts := Cuts.none (fun _ => none)
theorem W_abacistlaw16_CrcTells.ok (A1 : Option Addr) (n1 : Nat) (m1 : Nat) (A2 : Option Addr) (n2 : Nat) (m2 : Nat) (H : Hp) (K : Value → Hp → Prop) (h : W_abacistlaw16_CrcTells A1 n1 m1 A2 n2 m2 H K) : HCalls Try.prog 5 #[.slice A1 n1 m1, .slice A2 n2 m2] H K :=
  hcalls Try.func5 rfl (Nat.le_of_ble_eq_true rfl) (hw_safe (Λ := Cuts.none (fun _ => none)) mix _ _ _ _ _ (Eq.mp (by kernel_rfl) h) (obs_none _ _ _ _ _))

-- abacistlaw16.CrcBursts
def W_abacistlaw16_CrcBursts.l8 (K : Value → Hp → Prop) : Nat → Option Addr → Nat → Nat → Int → Int → Option Addr → Nat → Nat → Bool → Int → Hp → Prop
  | 0, _, _, _, _, _, _, _, _, _, _, _ => False
  | k + 1, A3, n3, m3, x3, x4, A4, n4, m4, c2, x5, H =>
    let R8 := W_abacistlaw16_CrcBursts.l8 K k
    BIf (decide (x5 < (32 : Int))) (((2000 : Int) ≠ 0 ∧ IntKind.i64 = IntKind.i64 ∧ (0 ≤ (IntKind.u64.wrap x5) ∧ ((2 : Int) ≠ 0 ∧ IntKind.u32 = IntKind.u32 ∧ BIf ((Int.tmod (shrI .u32 x4 (IntKind.u64.wrap x5)) (2 : Int)) == (1 : Int)) (((8 : Int) ≠ 0 ∧ IntKind.i64 = IntKind.i64 ∧ BIf (decide ((IntKind.i64.wrap (Int.tdiv (IntKind.i64.wrap ((Int.tmod (IntKind.i64.wrap x3) (2000 : Int)) + x5)) (8 : Int))) < (n4 : Nat))) (((8 : Int) ≠ 0 ∧ IntKind.i64 = IntKind.i64 ∧ ((8 : Int) ≠ 0 ∧ IntKind.i64 = IntKind.i64 ∧ ixI (IntKind.i64.wrap (Int.tdiv (IntKind.i64.wrap ((Int.tmod (IntKind.i64.wrap x3) (2000 : Int)) + x5)) (8 : Int))) n4 (NN A4 fun a1 => Ld H (a1.add ((IntKind.i64.wrap (Int.tdiv (IntKind.i64.wrap ((Int.tmod (IntKind.i64.wrap x3) (2000 : Int)) + x5)) (8 : Int))).toNat * 1)) fun v3 => DI .u8 v3 fun x6 => ((8 : Int) ≠ 0 ∧ IntKind.i64 = IntKind.i64 ∧ (0 ≤ (IntKind.u64.wrap (Int.tmod (IntKind.i64.wrap ((Int.tmod (IntKind.i64.wrap x3) (2000 : Int)) + x5)) (8 : Int))) ∧ ixI (IntKind.i64.wrap (Int.tdiv (IntKind.i64.wrap ((Int.tmod (IntKind.i64.wrap x3) (2000 : Int)) + x5)) (8 : Int))) n4 (NN A4 fun a2 => St H ((a2.add ((IntKind.i64.wrap (Int.tdiv (IntKind.i64.wrap ((Int.tmod (IntKind.i64.wrap x3) (2000 : Int)) + x5)) (8 : Int))).toNat * 1)).add 0) (.int .u8 (bXor .u8 x6 (shlI .u8 (1 : Int) (IntKind.u64.wrap (Int.tmod (IntKind.i64.wrap ((Int.tmod (IntKind.i64.wrap x3) (2000 : Int)) + x5)) (8 : Int)))))) fun H4 => R8 A3 n3 m3 x3 x4 A4 n4 m4 true (IntKind.i64.wrap (x5 + (1 : Int))) H4))))))) (R8 A3 n3 m3 x3 x4 A4 n4 m4 c2 (IntKind.i64.wrap (x5 + (1 : Int))) H))) (R8 A3 n3 m3 x3 x4 A4 n4 m4 c2 (IntKind.i64.wrap (x5 + (1 : Int))) H))))) (HCalls Try.prog 20 #[.slice A3 n3 m3] H fun v4 H5 => DI .u32 v4 fun x7 => HCalls Try.prog 20 #[.slice A4 n4 m4] H5 fun v5 H6 => DI .u32 v5 fun x8 => K (.bool (c2 == (x7 != x8))) H6)
def W_abacistlaw16_CrcBursts (A1 : Option Addr) (n1 : Nat) (m1 : Nat) (x1 : Int) (x2 : Int) (H : Hp) (K : Value → Hp → Prop) : Prop :=
  HCalls Try.prog 19 #[] H fun v1 H1 => DB v1 fun c1 => BIf (!c1) (K (.bool false) H1) (BIf (decide ((n1 : Nat) > (200 : Int))) (K (.bool true) H1) (BIf (x2 == (0 : Int)) (K (.bool true) H1) (Nw H1 (.row [] 5 0) fun b1 H2 => AppK Try.prog 5 (.slice (some ⟨b1, 0, none⟩) 0 0) (.slice A1 n1 m1) H2 fun v2 H3 => DSl v2 fun A2 n2 m2 => (∃ k, W_abacistlaw16_CrcBursts.l8 K k A1 n1 m1 x1 x2 A2 n2 m2 false (0 : Int) H3))))
def W_abacistlaw16_CrcBursts.l8.L (K : Value → Hp → Prop) (k : Nat) : Mid := fun E D H =>
  DG (E.get? 0) fun w0 => DSl w0 fun A3 n3 m3 => DG (E.get? 1) fun w1 => DI .u16 w1 fun x3 => DG (E.get? 2) fun w2 => DI .u32 w2 fun x4 => DG (E.get? 7) fun w7 => DSl w7 fun A4 n4 m4 => DG (E.get? 8) fun w8 => DB w8 fun c2 => DG (E.get? 9) fun w9 => DI .i64 w9 fun x5 => DNilD D (W_abacistlaw16_CrcBursts.l8 K k A3 n3 m3 x3 x4 A4 n4 m4 c2 x5 H)
def W_abacistlaw16_CrcBursts.Λ8 (_ : Value → Hp → Prop) (_R8 : Option Addr → Nat → Nat → Int → Int → Option Addr → Nat → Nat → Bool → Int → Hp → Prop) : Cuts := Cuts.none (fun _ => none)
def W_abacistlaw16_CrcBursts.Λ (K : Value → Hp → Prop) : Cuts := ⟨fun i => none, fun i => match Nat.beq i 8 with | true => some (fun E D H => ∃ k, W_abacistlaw16_CrcBursts.l8.L K k E D H) | false => none, (fun _ => none)⟩
theorem W_abacistlaw16_CrcBursts.ok (A1 : Option Addr) (n1 : Nat) (m1 : Nat) (x1 : Int) (x2 : Int) (H : Hp) (K : Value → Hp → Prop) (h : W_abacistlaw16_CrcBursts A1 n1 m1 x1 x2 H K) : HCalls Try.prog 6 #[.slice A1 n1 m1, .int .u16 x1, .int .u32 x2] H K :=
  hcalls Try.func6 rfl (Nat.le_of_ble_eq_true rfl) (hw_safe (Λ := (W_abacistlaw16_CrcBursts.Λ K)) mix _ _ _ _ _ (Eq.mp (by kernel_rfl) h) (obs_seq obs_region rfl (obs_seq (obs_seq obs_region rfl (obs_cond (obs_seq obs_region rfl obs_ret) obs_skip)) rfl (obs_seq (obs_seq obs_region rfl (obs_cond (obs_seq obs_region rfl obs_ret) obs_skip)) rfl (obs_seq obs_region rfl (obs_seq obs_region rfl (obs_seq (obs_seq obs_region rfl (obs_block (obs_loop rfl (fun E D H h => by
      refine Safe.loop' (W_abacistlaw16_CrcBursts.l8.L K) (fun E D H h => ?_) (fun k E D H h => ?_) E D H h
      · obtain ⟨w0, e0, g1⟩ := DG.out h; obtain ⟨A3, n3, m3, rfl, g2⟩ := DSl.out g1; obtain ⟨w1, e1, g3⟩ := DG.out g2; obtain ⟨x3, rfl, g4⟩ := DI.out g3; obtain ⟨w2, e2, g5⟩ := DG.out g4; obtain ⟨x4, rfl, g6⟩ := DI.out g5; obtain ⟨w7, e7, g7⟩ := DG.out g6; obtain ⟨A4, n4, m4, rfl, g8⟩ := DSl.out g7; obtain ⟨w8, e8, g9⟩ := DG.out g8; obtain ⟨c2, rfl, g10⟩ := DB.out g9; obtain ⟨w9, e9, g11⟩ := DG.out g10; obtain ⟨x5, rfl, g12⟩ := DI.out g11; obtain ⟨rfl, h'⟩ := DNilD.out g12; exact h'
      · obtain ⟨w0, e0, g1⟩ := DG.out h
        obtain ⟨A3, n3, m3, rfl, g2⟩ := DSl.out g1
        obtain ⟨w1, e1, g3⟩ := DG.out g2
        obtain ⟨x3, rfl, g4⟩ := DI.out g3
        obtain ⟨w2, e2, g5⟩ := DG.out g4
        obtain ⟨x4, rfl, g6⟩ := DI.out g5
        obtain ⟨w7, e7, g7⟩ := DG.out g6
        obtain ⟨A4, n4, m4, rfl, g8⟩ := DSl.out g7
        obtain ⟨w8, e8, g9⟩ := DG.out g8
        obtain ⟨c2, rfl, g10⟩ := DB.out g9
        obtain ⟨w9, e9, g11⟩ := DG.out g10
        obtain ⟨x5, rfl, g12⟩ := DI.out g11
        obtain ⟨rfl, h'⟩ := DNilD.out g12
        exact (hw_safe (Λ := (W_abacistlaw16_CrcBursts.Λ8 K (W_abacistlaw16_CrcBursts.l8 K k))) mix _ _ [(0, .slice A3 n3 m3), (1, .int .u16 x3), (2, .int .u32 x4), (7, .slice A4 n4 m4), (8, .bool c2), (9, .int .i64 x5)] [] H (Eq.mp (by kernel_rfl) h') (obs_seq (obs_seq obs_region rfl (obs_cond obs_skip obs_exit)) rfl (obs_seq (obs_block (obs_seq obs_region rfl (obs_seq obs_region rfl (obs_cond (obs_seq obs_region rfl obs_region) obs_skip)))) rfl obs_region))).weaken (EnvLe.cons e0 (EnvLe.cons e1 (EnvLe.cons e2 (EnvLe.cons e7 (EnvLe.cons e8 (EnvLe.cons e9 (EnvLe.nil _))))))) (Hp.le_refl _))))) rfl (obs_seq obs_region rfl obs_ret))))))))

-- abacistlaw16.CrcCounts
def W_abacistlaw16_CrcCounts.j20 (K : Value → Hp → Prop) (R8 : Option Addr → Nat → Nat → Option Addr → Nat → Nat → Addr → ByteArray → Int → Hp → Prop) (A15 : Option Addr) (n15 : Nat) (m15 : Nat) (A16 : Option Addr) (n16 : Nat) (m16 : Nat) (a10 : Addr) (s6 : ByteArray) (x4 : Int) (H : Hp) : Prop :=
  HCalls Try.prog 27 #[.pointer (some a10)] H fun v11 H6 => DI .i64 v11 fun x5 => BIf (x5 != (s6.size : Nat)) (K (.bool false) H6) (HCalls Try.prog 28 #[.pointer (some a10)] H6 fun v12 H7 => DI .u32 v12 fun x6 => HCalls Try.prog 21 #[.string s6] H7 fun v13 H8 => DI .u32 v13 fun x7 => BIf (x6 != x7) (K (.bool false) H8) (R8 A15 n15 m15 A16 n16 m16 a10 s6 (IntKind.i64.wrap (x4 + (1 : Int))) H8))
def W_abacistlaw16_CrcCounts.j15 (K : Value → Hp → Prop) (R8 : Option Addr → Nat → Nat → Option Addr → Nat → Nat → Addr → ByteArray → Int → Hp → Prop) (A10 : Option Addr) (n10 : Nat) (m10 : Nat) (A11 : Option Addr) (n11 : Nat) (m11 : Nat) (a6 : Addr) (s4 : ByteArray) (x3 : Int) (H : Hp) : Prop :=
  BIf (decide (x3 < (n11 : Nat))) (ixI x3 n11 (NN A11 fun a7 => Ld H (a7.add (x3.toNat * 1)) fun v6 => DSl v6 fun A12 n12 m12 => BIf (decide ((n12 : Nat) > (8 : Int))) (K (.bool true) H) (ixI x3 n11 (NN A11 fun a8 => Ld H (a8.add (x3.toNat * 1)) fun v7 => DSl v7 fun A13 n13 m13 => HCalls Try.prog 25 #[.pointer (some a6), .slice A13 n13 m13] H fun v8 H4 => ixI x3 n11 (NN A11 fun a9 => Ld H4 (a9.add (x3.toNat * 1)) fun v9 => DSl v9 fun A14 n14 m14 => HCalls Try.prog 26 #[.slice A14 n14 m14] H4 fun v10 H5 => DS v10 fun s5 => (s4.size + s5.size ≤ 4611686018427387904 ∧ W_abacistlaw16_CrcCounts.j20 K R8 A10 n10 m10 A11 n11 m11 a6 (s4 ++ s5) x3 H5)))))) (W_abacistlaw16_CrcCounts.j20 K R8 A10 n10 m10 A11 n11 m11 a6 s4 x3 H)
def W_abacistlaw16_CrcCounts.j10 (K : Value → Hp → Prop) (R8 : Option Addr → Nat → Nat → Option Addr → Nat → Nat → Addr → ByteArray → Int → Hp → Prop) (A5 : Option Addr) (n5 : Nat) (m5 : Nat) (A6 : Option Addr) (n6 : Nat) (m6 : Nat) (a2 : Addr) (s2 : ByteArray) (x2 : Int) (H : Hp) : Prop :=
  BIf (decide (x2 < (n5 : Nat))) (ixI x2 n5 (NN A5 fun a3 => Ld H (a3.add (x2.toNat * 1)) fun v2 => DSl v2 fun A7 n7 m7 => BIf (decide ((n7 : Nat) > (60 : Int))) (K (.bool true) H) (ixI x2 n5 (NN A5 fun a4 => Ld H (a4.add (x2.toNat * 1)) fun v3 => DSl v3 fun A8 n8 m8 => HCalls Try.prog 24 #[.pointer (some a2), .slice A8 n8 m8] H fun v4 H3 => ixI x2 n5 (NN A5 fun a5 => Ld H3 (a5.add (x2.toNat * 1)) fun v5 => DSl v5 fun A9 n9 m9 => BsK H3 A9 n9 fun s3 => (s2.size + s3.size ≤ 4611686018427387904 ∧ W_abacistlaw16_CrcCounts.j15 K R8 A5 n5 m5 A6 n6 m6 a2 (s2 ++ s3) x2 H3)))))) (W_abacistlaw16_CrcCounts.j15 K R8 A5 n5 m5 A6 n6 m6 a2 s2 x2 H)
def W_abacistlaw16_CrcCounts.l8 (K : Value → Hp → Prop) : Nat → Option Addr → Nat → Nat → Option Addr → Nat → Nat → Addr → ByteArray → Int → Hp → Prop
  | 0, _, _, _, _, _, _, _, _, _, _ => False
  | k + 1, A3, n3, m3, A4, n4, m4, a1, s1, x1, H =>
    let R8 := W_abacistlaw16_CrcCounts.l8 K k
    BIf (decide (x1 < (n3 : Nat))) (W_abacistlaw16_CrcCounts.j10 K R8 A3 n3 m3 A4 n4 m4 a1 s1 x1 H) (BIf (decide (x1 < (n4 : Nat))) (W_abacistlaw16_CrcCounts.j10 K R8 A3 n3 m3 A4 n4 m4 a1 s1 x1 H) (HCalls Try.prog 27 #[.pointer (some a1)] H fun v14 H9 => DI .i64 v14 fun x8 => K (.bool (x8 == (s1.size : Nat))) H9))
def W_abacistlaw16_CrcCounts (A1 : Option Addr) (n1 : Nat) (m1 : Nat) (A2 : Option Addr) (n2 : Nat) (m2 : Nat) (H : Hp) (K : Value → Hp → Prop) : Prop :=
  HCalls Try.prog 19 #[] H fun v1 H1 => DB v1 fun c1 => BIf (!c1) (K (.bool false) H1) (BIf (decide ((n1 : Nat) > (12 : Int))) (K (.bool true) H1) (BIf (decide ((n2 : Nat) > (12 : Int))) (K (.bool true) H1) (Nw H1 (.obj (.cells #[.int .u32 (0 : Int), .int .i64 (0 : Int)] 53)) fun b1 H2 => (∃ k, W_abacistlaw16_CrcCounts.l8 K k A1 n1 m1 A2 n2 m2 (⟨b1, 0, none⟩ : Addr) (⟨#[]⟩) (0 : Int) H2))))
def W_abacistlaw16_CrcCounts.l8.L (K : Value → Hp → Prop) (k : Nat) : Mid := fun E D H =>
  DG (E.get? 0) fun w0 => DSl w0 fun A3 n3 m3 => DG (E.get? 1) fun w1 => DSl w1 fun A4 n4 m4 => DG (E.get? 5) fun w5 => DP w5 fun pw5 => NN pw5 fun a1 => DG (E.get? 6) fun w6 => DS w6 fun s1 => DG (E.get? 7) fun w7 => DI .i64 w7 fun x1 => DNilD D (W_abacistlaw16_CrcCounts.l8 K k A3 n3 m3 A4 n4 m4 a1 s1 x1 H)
def W_abacistlaw16_CrcCounts.Λ8 (K : Value → Hp → Prop) (R8 : Option Addr → Nat → Nat → Option Addr → Nat → Nat → Addr → ByteArray → Int → Hp → Prop) : Cuts := ⟨fun i => match Nat.beq i 20 with | true => some (fun E D H => DG (E.get? 0) fun w0 => DSl w0 fun A15 n15 m15 => DG (E.get? 1) fun w1 => DSl w1 fun A16 n16 m16 => DG (E.get? 5) fun w5 => DP w5 fun pw5 => NN pw5 fun a10 => DG (E.get? 6) fun w6 => DS w6 fun s6 => DG (E.get? 7) fun w7 => DI .i64 w7 fun x4 => DNilD D (W_abacistlaw16_CrcCounts.j20 K R8 A15 n15 m15 A16 n16 m16 a10 s6 x4 H)) | false => match Nat.beq i 15 with | true => some (fun E D H => DG (E.get? 0) fun w0 => DSl w0 fun A10 n10 m10 => DG (E.get? 1) fun w1 => DSl w1 fun A11 n11 m11 => DG (E.get? 5) fun w5 => DP w5 fun pw5 => NN pw5 fun a6 => DG (E.get? 6) fun w6 => DS w6 fun s4 => DG (E.get? 7) fun w7 => DI .i64 w7 fun x3 => DNilD D (W_abacistlaw16_CrcCounts.j15 K R8 A10 n10 m10 A11 n11 m11 a6 s4 x3 H)) | false => match Nat.beq i 10 with | true => some (fun E D H => DG (E.get? 0) fun w0 => DSl w0 fun A5 n5 m5 => DG (E.get? 1) fun w1 => DSl w1 fun A6 n6 m6 => DG (E.get? 5) fun w5 => DP w5 fun pw5 => NN pw5 fun a2 => DG (E.get? 6) fun w6 => DS w6 fun s2 => DG (E.get? 7) fun w7 => DI .i64 w7 fun x2 => DNilD D (W_abacistlaw16_CrcCounts.j10 K R8 A5 n5 m5 A6 n6 m6 a2 s2 x2 H)) | false => none, fun i => none, (fun _ => none)⟩
def W_abacistlaw16_CrcCounts.Λ (K : Value → Hp → Prop) : Cuts := ⟨fun i => none, fun i => match Nat.beq i 8 with | true => some (fun E D H => ∃ k, W_abacistlaw16_CrcCounts.l8.L K k E D H) | false => none, (fun _ => none)⟩
theorem W_abacistlaw16_CrcCounts.ok (A1 : Option Addr) (n1 : Nat) (m1 : Nat) (A2 : Option Addr) (n2 : Nat) (m2 : Nat) (H : Hp) (K : Value → Hp → Prop) (h : W_abacistlaw16_CrcCounts A1 n1 m1 A2 n2 m2 H K) : HCalls Try.prog 7 #[.slice A1 n1 m1, .slice A2 n2 m2] H K :=
  hcalls Try.func7 rfl (Nat.le_of_ble_eq_true rfl) (hw_safe (Λ := (W_abacistlaw16_CrcCounts.Λ K)) mix _ _ _ _ _ (Eq.mp (by kernel_rfl) h) (obs_seq obs_region rfl (obs_seq (obs_seq obs_region rfl (obs_cond (obs_seq obs_region rfl obs_ret) obs_skip)) rfl (obs_seq (obs_seq obs_region rfl (obs_cond (obs_seq obs_region rfl obs_ret) obs_skip)) rfl (obs_seq obs_region rfl (obs_seq obs_region rfl (obs_seq (obs_seq obs_region rfl (obs_block (obs_loop rfl (fun E D H h => by
      refine Safe.loop' (W_abacistlaw16_CrcCounts.l8.L K) (fun E D H h => ?_) (fun k E D H h => ?_) E D H h
      · obtain ⟨w0, e0, g1⟩ := DG.out h; obtain ⟨A3, n3, m3, rfl, g2⟩ := DSl.out g1; obtain ⟨w1, e1, g3⟩ := DG.out g2; obtain ⟨A4, n4, m4, rfl, g4⟩ := DSl.out g3; obtain ⟨w5, e5, g5⟩ := DG.out g4; obtain ⟨pw5, rfl, g6⟩ := DP.out g5; obtain ⟨a1, rfl, g7⟩ := NN.out g6; obtain ⟨w6, e6, g8⟩ := DG.out g7; obtain ⟨s1, rfl, g9⟩ := DS.out g8; obtain ⟨w7, e7, g10⟩ := DG.out g9; obtain ⟨x1, rfl, g11⟩ := DI.out g10; obtain ⟨rfl, h'⟩ := DNilD.out g11; exact h'
      · obtain ⟨w0, e0, g1⟩ := DG.out h
        obtain ⟨A3, n3, m3, rfl, g2⟩ := DSl.out g1
        obtain ⟨w1, e1, g3⟩ := DG.out g2
        obtain ⟨A4, n4, m4, rfl, g4⟩ := DSl.out g3
        obtain ⟨w5, e5, g5⟩ := DG.out g4
        obtain ⟨pw5, rfl, g6⟩ := DP.out g5
        obtain ⟨a1, rfl, g7⟩ := NN.out g6
        obtain ⟨w6, e6, g8⟩ := DG.out g7
        obtain ⟨s1, rfl, g9⟩ := DS.out g8
        obtain ⟨w7, e7, g10⟩ := DG.out g9
        obtain ⟨x1, rfl, g11⟩ := DI.out g10
        obtain ⟨rfl, h'⟩ := DNilD.out g11
        exact (hw_safe (Λ := (W_abacistlaw16_CrcCounts.Λ8 K (W_abacistlaw16_CrcCounts.l8 K k))) mix _ _ [(0, .slice A3 n3 m3), (1, .slice A4 n4 m4), (5, .pointer (some a1)), (6, .string s1), (7, .int .i64 x1)] [] H (Eq.mp (by kernel_rfl) h') (obs_seqc (obs_seq obs_region rfl (obs_cond obs_skip obs_exit)) rfl (fun E D H h => by
            obtain ⟨w0, e0, g1⟩ := DG.out h
            obtain ⟨A5, n5, m5, rfl, g2⟩ := DSl.out g1
            obtain ⟨w1, e1, g3⟩ := DG.out g2
            obtain ⟨A6, n6, m6, rfl, g4⟩ := DSl.out g3
            obtain ⟨w5, e5, g5⟩ := DG.out g4
            obtain ⟨pw5, rfl, g6⟩ := DP.out g5
            obtain ⟨a2, rfl, g7⟩ := NN.out g6
            obtain ⟨w6, e6, g8⟩ := DG.out g7
            obtain ⟨s2, rfl, g9⟩ := DS.out g8
            obtain ⟨w7, e7, g10⟩ := DG.out g9
            obtain ⟨x2, rfl, g11⟩ := DI.out g10
            obtain ⟨rfl, h'⟩ := DNilD.out g11
            exact (hw_safe (Λ := (W_abacistlaw16_CrcCounts.Λ8 K (W_abacistlaw16_CrcCounts.l8 K k))) mix _ _ [(0, .slice A5 n5 m5), (1, .slice A6 n6 m6), (5, .pointer (some a2)), (6, .string s2), (7, .int .i64 x2)] [] H (Eq.mp (by kernel_rfl) h') (obs_seq (obs_block (obs_seqc (obs_seq obs_region rfl (obs_cond (obs_seq (obs_seq obs_region rfl (obs_cond (obs_seq obs_region rfl obs_ret) obs_skip)) rfl (obs_seq obs_region rfl obs_region)) obs_skip)) rfl (fun E D H h => by
                obtain ⟨w0, e0, g1⟩ := DG.out h
                obtain ⟨A10, n10, m10, rfl, g2⟩ := DSl.out g1
                obtain ⟨w1, e1, g3⟩ := DG.out g2
                obtain ⟨A11, n11, m11, rfl, g4⟩ := DSl.out g3
                obtain ⟨w5, e5, g5⟩ := DG.out g4
                obtain ⟨pw5, rfl, g6⟩ := DP.out g5
                obtain ⟨a6, rfl, g7⟩ := NN.out g6
                obtain ⟨w6, e6, g8⟩ := DG.out g7
                obtain ⟨s4, rfl, g9⟩ := DS.out g8
                obtain ⟨w7, e7, g10⟩ := DG.out g9
                obtain ⟨x3, rfl, g11⟩ := DI.out g10
                obtain ⟨rfl, h'⟩ := DNilD.out g11
                exact (hw_safe (Λ := (W_abacistlaw16_CrcCounts.Λ8 K (W_abacistlaw16_CrcCounts.l8 K k))) mix _ _ [(0, .slice A10 n10 m10), (1, .slice A11 n11 m11), (5, .pointer (some a6)), (6, .string s4), (7, .int .i64 x3)] [] H (Eq.mp (by kernel_rfl) h') (obs_seqc (obs_seq obs_region rfl (obs_cond (obs_seq (obs_seq obs_region rfl (obs_cond (obs_seq obs_region rfl obs_ret) obs_skip)) rfl (obs_seq obs_region rfl obs_region)) obs_skip)) rfl (fun E D H h => by
                    obtain ⟨w0, e0, g1⟩ := DG.out h
                    obtain ⟨A15, n15, m15, rfl, g2⟩ := DSl.out g1
                    obtain ⟨w1, e1, g3⟩ := DG.out g2
                    obtain ⟨A16, n16, m16, rfl, g4⟩ := DSl.out g3
                    obtain ⟨w5, e5, g5⟩ := DG.out g4
                    obtain ⟨pw5, rfl, g6⟩ := DP.out g5
                    obtain ⟨a10, rfl, g7⟩ := NN.out g6
                    obtain ⟨w6, e6, g8⟩ := DG.out g7
                    obtain ⟨s6, rfl, g9⟩ := DS.out g8
                    obtain ⟨w7, e7, g10⟩ := DG.out g9
                    obtain ⟨x4, rfl, g11⟩ := DI.out g10
                    obtain ⟨rfl, h'⟩ := DNilD.out g11
                    exact (hw_safe (Λ := (W_abacistlaw16_CrcCounts.Λ8 K (W_abacistlaw16_CrcCounts.l8 K k))) mix _ _ [(0, .slice A15 n15 m15), (1, .slice A16 n16 m16), (5, .pointer (some a10)), (6, .string s6), (7, .int .i64 x4)] [] H (Eq.mp (by kernel_rfl) h') (obs_seq obs_region rfl (obs_cond (obs_seq obs_region rfl obs_ret) obs_skip))).weaken (EnvLe.cons e0 (EnvLe.cons e1 (EnvLe.cons e5 (EnvLe.cons e6 (EnvLe.cons e7 (EnvLe.nil _)))))) (Hp.le_refl _)))).weaken (EnvLe.cons e0 (EnvLe.cons e1 (EnvLe.cons e5 (EnvLe.cons e6 (EnvLe.cons e7 (EnvLe.nil _)))))) (Hp.le_refl _)))) rfl obs_region)).weaken (EnvLe.cons e0 (EnvLe.cons e1 (EnvLe.cons e5 (EnvLe.cons e6 (EnvLe.cons e7 (EnvLe.nil _)))))) (Hp.le_refl _)))).weaken (EnvLe.cons e0 (EnvLe.cons e1 (EnvLe.cons e5 (EnvLe.cons e6 (EnvLe.cons e7 (EnvLe.nil _)))))) (Hp.le_refl _))))) rfl (obs_seq obs_region rfl obs_ret))))))))

-- abacistlaw16.CrcJoins
def W_abacistlaw16_CrcJoins (A1 : Option Addr) (n1 : Nat) (m1 : Nat) (A2 : Option Addr) (n2 : Nat) (m2 : Nat) (x1 : Int) (H : Hp) (K : Value → Hp → Prop) : Prop :=
  HCalls Try.prog 19 #[] H fun v1 H1 => DB v1 fun c1 => BIf (!c1) (K (.bool false) H1) (BIf (decide ((n1 : Nat) > (300 : Int))) (K (.bool true) H1) (BIf (decide ((n2 : Nat) > (300 : Int))) (K (.bool true) H1) (BsK H1 A1 n1 fun s1 => QCall Try.prog 21 #[.string s1] H1 fun v2 => DI .u32 v2 fun x2 => BsK H1 A2 n2 fun s2 => QCall Try.prog 21 #[.string s2] H1 fun v3 => DI .u32 v3 fun x3 => BsK H1 A1 n1 fun s3 => BsK H1 A2 n2 fun s4 => (s3.size + s4.size ≤ 4611686018427387904 ∧ HCalls Try.prog 21 #[.string (s3 ++ s4)] H1 fun v4 H2 => DI .u32 v4 fun x4 => HCalls Try.prog 40 #[.int .u32 x2, .int .u32 x3, .int .i64 (n2 : Nat)] H2 fun v5 H3 => DI .u32 v5 fun x5 => BIf (x5 == x4) (HCalls Try.prog 41 #[.int .u32 x2, .slice A2 n2 m2] H3 fun v6 H4 => DI .u32 v6 fun x6 => BIf (x6 == x4) (Nw H4 (.row [.slice A1 n1 m1, .slice A2 n2 m2] 28 2) fun b1 H5 => HCalls Try.prog 42 #[.slice (some ⟨b1, 0, none⟩) 2 2] H5 fun v7 H6 => DI .u32 v7 fun x7 => BIf (x7 == x4) (BIf (decide (x1 > (0 : Int))) (K (.bool true) H6) (HCalls Try.prog 40 #[.int .u32 x2, .int .u32 x3, .int .i64 x1] H6 fun v8 H7 => DI .u32 v8 fun x8 => K (.bool (x8 == x2)) H7)) (K (.bool false) H6)) (K (.bool false) H4)) (K (.bool false) H3)))))
def W_abacistlaw16_CrcJoins.Λ (_ : Value → Hp → Prop) : Cuts := Cuts.none (fun _ => none)
theorem W_abacistlaw16_CrcJoins.ok (A1 : Option Addr) (n1 : Nat) (m1 : Nat) (A2 : Option Addr) (n2 : Nat) (m2 : Nat) (x1 : Int) (H : Hp) (K : Value → Hp → Prop) (h : W_abacistlaw16_CrcJoins A1 n1 m1 A2 n2 m2 x1 H K) : HCalls Try.prog 10 #[.slice A1 n1 m1, .slice A2 n2 m2, .int .i64 x1] H K :=
  hcalls Try.func10 rfl (Nat.le_of_ble_eq_true rfl) (hw_safe (Λ := Cuts.none (fun _ => none)) mix _ _ _ _ _ (Eq.mp (by kernel_rfl) h) (obs_none _ _ _ _ _))

-- abacistlaw16.awake
def W_abacistlaw16_awake (H : Hp) (K : Value → Hp → Prop) : Prop :=
  Nw H (.row [.int .u8 (49 : Int), .int .u8 (50 : Int), .int .u8 (51 : Int), .int .u8 (52 : Int), .int .u8 (53 : Int), .int .u8 (54 : Int), .int .u8 (55 : Int), .int .u8 (56 : Int), .int .u8 (57 : Int)] 5 9) fun b1 H1 => SemK Try.prog (convert 28 28 (.slice (some ⟨b1, 0, none⟩) 9 9)) H1 fun v1 H2 => DSl v1 fun A1 n1 m1 => HCalls Try.prog 20 #[.slice A1 n1 m1] H2 fun v2 H3 => DI .u32 v2 fun x1 => BIf (x1 == (3808858755 : Int)) (HCalls Try.prog 22 #[.slice none 0 0] H3 fun v3 H4 => DI .u32 v3 fun x2 => K (.bool (x2 == (0 : Int))) H4) (K (.bool false) H3)
def W_abacistlaw16_awake.Λ (_ : Value → Hp → Prop) : Cuts := Cuts.none (fun _ => none)
theorem W_abacistlaw16_awake.ok (H : Hp) (K : Value → Hp → Prop) (h : W_abacistlaw16_awake H K) : HCalls Try.prog 19 #[] H K :=
  hcalls Try.func19 rfl (Nat.le_of_ble_eq_true rfl) (hw_safe (Λ := Cuts.none (fun _ => none)) mix _ _ _ _ _ (Eq.mp (by kernel_rfl) h) (obs_none _ _ _ _ _))

end Go.Proofs.Ytdjdielefolfbaa.W
