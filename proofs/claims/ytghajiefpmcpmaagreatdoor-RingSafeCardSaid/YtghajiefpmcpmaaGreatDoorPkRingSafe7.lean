import Derived.Test.YtghajiefpmcpmaaGreatDoorProg
import Derived.Test.YtghajiefpmcpmaaGreatDoorPkRingSafe6
section
/-! Wabacistlaw21 -/
/- Formulas of functions, printed by wip/tools/hwp.py. -/
set_option maxRecDepth 100000
set_option linter.unusedVariables false
namespace Go.Proofs.YtghajiefpmcpmaaGreatDoor.W
open Go Go.Hw

theorem mixWabacistlaw21 : Tryz.prog.follows .mixedOrders = true := by kernel_rfl
-- abacistlaw21.RingSafe
def W_abacistlaw21_RingSafe.j28 (K : Value → Hp → Prop) (R14 : Option Addr → Nat → Nat → Option Addr → Nat → Nat → Option Addr → Option Addr → Addr → Int → Hp → Prop) (A11 : Option Addr) (n11 : Nat) (m11 : Nat) (A12 : Option Addr) (n12 : Nat) (m12 : Nat) (p11 : Option Addr) (p12 : Option Addr) (a11 : Addr) (x18 : Int) (a12 : Addr) (x19 : Int) (H : Hp) : Prop :=
  NN p11 fun a13 => HCalls Tryz.prog 36 #[.pointer (some (a13.add 7))] H fun v18 H16 => Ld H16 (a12.add 10) fun v19 => DSl v19 fun A13 n13 m13 => HCalls Tryz.prog 37 #[.pointer p11, .slice A13 n13 m13] H16 fun v20 H17 => DI .i64 v20 fun x20 => BIf (x20 != (0 : Int)) (K (.bool false) H17) (HCalls Tryz.prog 38 #[.pointer p12] H17 fun v21 H18 => DTup v21 fun l8 => DCons l8 fun v22 l9 => DA v22 fun y1 => DCons l9 fun v23 l10 => DB v23 fun c4 => DCons l10 fun v24 l11 => DI .i64 v24 fun x21 => DNil l11 (Nw H18 (.obj (.cells #[.int .u64 (0 : Int), .int .i64 (0 : Int), .int .i64 (0 : Int), .int .i64 (0 : Int), .int .i64 (0 : Int), .int .u32 (0 : Int), .int .u32 (0 : Int), .int .u32 (0 : Int)] 87)) fun b4 H19 => StA H19 (⟨b4, 0, none⟩ : Addr) y1 8 fun H20 => BIf (x21 != (0 : Int)) (K (.bool false) H20) (Ld H20 ((⟨b4, 0, none⟩ : Addr).add 0) fun v25 => DI .u64 v25 fun x22 => BIf (!(c4 == (decide (x22 > (0 : Int))))) (K (.bool false) H20) (LdA H20 (⟨b4, 0, none⟩ : Addr) 8 fun l12 => LdA H20 a11 8 fun l13 => EqV Tryz.prog .neq 87 (.agg l12.toArray) (.agg l13.toArray) fun c5 => BIf c5 (BIf (x19 != (8 : Int)) (K (.bool false) H20) (LdA H20 (⟨b4, 0, none⟩ : Addr) 8 fun l14 => LdA H20 (a12.add 2) 8 fun l15 => EqV Tryz.prog .neq 87 (.agg l14.toArray) (.agg l15.toArray) fun c6 => BIf c6 (K (.bool false) H20) (LdA H20 a11 8 fun l16 => LdA H20 (⟨b4, 0, none⟩ : Addr) 8 fun l17 => HCalls Tryz.prog 39 #[.agg l16.toArray, .agg l17.toArray] H20 fun v26 H21 => DB v26 fun c7 => BIf (!c7) (Ld H21 (a11.add 0) fun v27 => DI .u64 v27 fun x23 => BIf (decide (x23 > (0 : Int))) (K (.bool false) H21) (LdA H21 (⟨b4, 0, none⟩ : Addr) 8 fun l18 => StA H21 a11 l18.toArray 8 fun H22 => R14 A11 n11 m11 A12 n12 m12 p11 p12 a11 (IntKind.i64.wrap (x18 + (1 : Int))) H22)) (LdA H21 (⟨b4, 0, none⟩ : Addr) 8 fun l19 => StA H21 a11 l19.toArray 8 fun H23 => R14 A11 n11 m11 A12 n12 m12 p11 p12 a11 (IntKind.i64.wrap (x18 + (1 : Int))) H23)))) (LdA H20 (⟨b4, 0, none⟩ : Addr) 8 fun l20 => StA H20 a11 l20.toArray 8 fun H24 => R14 A11 n11 m11 A12 n12 m12 p11 p12 a11 (IntKind.i64.wrap (x18 + (1 : Int))) H24)))))
def W_abacistlaw21_RingSafe.j27 (K : Value → Hp → Prop) (R14 : Option Addr → Nat → Nat → Option Addr → Nat → Nat → Option Addr → Option Addr → Addr → Int → Hp → Prop) (A9 : Option Addr) (n9 : Nat) (m9 : Nat) (A10 : Option Addr) (n10 : Nat) (m10 : Nat) (p9 : Option Addr) (p10 : Option Addr) (a8 : Addr) (x15 : Int) (a9 : Addr) (x16 : Int) (H : Hp) : Prop :=
  NN p9 fun a10 => HCalls Tryz.prog 35 #[.pointer (some (a10.add 7))] H fun v16 H15 => DB v16 fun c3 => BIf (!c3) (Ld H15 (a9.add 0) fun v17 => DI .i64 v17 fun x17 => BIf (x17 != (4 : Int)) (R14 A9 n9 m9 A10 n10 m10 p9 p10 a8 (IntKind.i64.wrap (x15 + (1 : Int))) H15) (W_abacistlaw21_RingSafe.j28 K R14 A9 n9 m9 A10 n10 m10 p9 p10 a8 x15 a9 x16 H15)) (W_abacistlaw21_RingSafe.j28 K R14 A9 n9 m9 A10 n10 m10 p9 p10 a8 x15 a9 x16 H15)
def W_abacistlaw21_RingSafe.j25 (K : Value → Hp → Prop) (R14 : Option Addr → Nat → Nat → Option Addr → Nat → Nat → Option Addr → Option Addr → Addr → Int → Hp → Prop) (A7 : Option Addr) (n7 : Nat) (m7 : Nat) (A8 : Option Addr) (n8 : Nat) (m8 : Nat) (p7 : Option Addr) (p8 : Option Addr) (a6 : Addr) (x13 : Int) (a7 : Addr) (x14 : Int) (H : Hp) : Prop :=
  BIf (x14 == (0 : Int)) (LdA H (a7.add 2) 8 fun l7 => StA H a6 l7.toArray 8 fun H14 => W_abacistlaw21_RingSafe.j27 K R14 A7 n7 m7 A8 n8 m8 p7 p8 a6 x13 a7 x14 H14) (W_abacistlaw21_RingSafe.j27 K R14 A7 n7 m7 A8 n8 m8 p7 p8 a6 x13 a7 x14 H)
def W_abacistlaw21_RingSafe.j22 (K : Value → Hp → Prop) (R14 : Option Addr → Nat → Nat → Option Addr → Nat → Nat → Option Addr → Option Addr → Addr → Int → Hp → Prop) (A5 : Option Addr) (n5 : Nat) (m5 : Nat) (A6 : Option Addr) (n6 : Nat) (m6 : Nat) (p5 : Option Addr) (p6 : Option Addr) (a4 : Addr) (x10 : Int) (a5 : Addr) (H : Hp) : Prop :=
  Ld H (a5.add 0) fun v14 => DI .i64 v14 fun x11 => BIf (decide (x11 ≤ (3 : Int))) (LdA H (a5.add 2) 8 fun l6 => HCalls Tryz.prog 34 #[.pointer p6, .agg l6.toArray] H fun v15 H13 => DI .i64 v15 fun x12 => W_abacistlaw21_RingSafe.j25 K R14 A5 n5 m5 A6 n6 m6 p5 p6 a4 x10 a5 x12 H13) (W_abacistlaw21_RingSafe.j25 K R14 A5 n5 m5 A6 n6 m6 p5 p6 a4 x10 a5 (11 : Int) H)
def W_abacistlaw21_RingSafe.l14 (K : Value → Hp → Prop) : Nat → Option Addr → Nat → Nat → Option Addr → Nat → Nat → Option Addr → Option Addr → Addr → Int → Hp → Prop
  | 0, _, _, _, _, _, _, _, _, _, _, _ => False
  | k + 1, A3, n3, m3, A4, n4, m4, p3, p4, a1, x3, H =>
    let R14 := W_abacistlaw21_RingSafe.l14 K k
    BIf (decide (x3 < ((n3 : Nat) : Int))) (ixI x3 n3 (NN A3 fun a2 => LdA H (a2.add (x3.toNat * 12)) 12 fun l5 => Nw H (.obj (.cells #[.int .i64 (0 : Int), .int .i64 (0 : Int), .int .u64 (0 : Int), .int .i64 (0 : Int), .int .i64 (0 : Int), .int .i64 (0 : Int), .int .i64 (0 : Int), .int .u32 (0 : Int), .int .u32 (0 : Int), .int .u32 (0 : Int), .slice none 0 0, .slice none 0 0] 90)) fun b3 H9 => StA H9 (⟨b3, 0, none⟩ : Addr) l5.toArray 12 fun H10 => Ld H10 ((⟨b3, 0, none⟩ : Addr).add 0) fun v7 => DI .i64 v7 fun x4 => BIf (x4 == (5 : Int)) (NN p3 fun a3 => Ld H10 ((⟨b3, 0, none⟩ : Addr).add 1) fun v8 => DI .i64 v8 fun x5 => HCalls Tryz.prog 33 #[.pointer (some (a3.add 7)), .int .i64 x5] H10 fun v9 H11 => R14 A3 n3 m3 A4 n4 m4 p3 p4 a1 (IntKind.i64.wrap (x3 + (1 : Int))) H11) (Ld H10 ((⟨b3, 0, none⟩ : Addr).add 0) fun v10 => DI .i64 v10 fun x6 => BIf (decide (x6 > (4 : Int))) (R14 A3 n3 m3 A4 n4 m4 p3 p4 a1 (IntKind.i64.wrap (x3 + (1 : Int))) H10) (Ld H10 ((⟨b3, 0, none⟩ : Addr).add 0) fun v11 => DI .i64 v11 fun x7 => BIf (decide (x7 < (0 : Int))) (R14 A3 n3 m3 A4 n4 m4 p3 p4 a1 (IntKind.i64.wrap (x3 + (1 : Int))) H10) (Ld H10 ((⟨b3, 0, none⟩ : Addr).add 0) fun v12 => DI .i64 v12 fun x8 => BIf (x8 == (3 : Int)) (Ld H10 (a1.add 0) fun v13 => DI .u64 v13 fun x9 => St H10 ((((⟨b3, 0, none⟩ : Addr).add 2).add 0).add 0) (.int .u64 (IntKind.u64.wrap (x9 + (1 : Int)))) fun H12 => W_abacistlaw21_RingSafe.j22 K R14 A3 n3 m3 A4 n4 m4 p3 p4 a1 x3 (⟨b3, 0, none⟩ : Addr) H12) (W_abacistlaw21_RingSafe.j22 K R14 A3 n3 m3 A4 n4 m4 p3 p4 a1 x3 (⟨b3, 0, none⟩ : Addr) H10)))))) (NN p3 fun a14 => HCalls Tryz.prog 33 #[.pointer (some (a14.add 7)), .int .i64 (0 : Int)] H fun v28 H25 => NN p3 fun a15 => HCalls Tryz.prog 36 #[.pointer (some (a15.add 7))] H25 fun v29 H26 => HCalls Tryz.prog 37 #[.pointer p3, .slice A4 n4 m4] H26 fun v30 H27 => DI .i64 v30 fun x24 => BIf (x24 != (0 : Int)) (K (.bool false) H27) (HCalls Tryz.prog 38 #[.pointer p4] H27 fun v31 H28 => DTup v31 fun l21 => DCons l21 fun v32 l22 => DA v32 fun y2 => DCons l22 fun v33 l23 => DB v33 fun c8 => DCons l23 fun v34 l24 => DI .i64 v34 fun x25 => DNil l24 (Nw H28 (.obj (.cells #[.int .u64 (0 : Int), .int .i64 (0 : Int), .int .i64 (0 : Int), .int .i64 (0 : Int), .int .i64 (0 : Int), .int .u32 (0 : Int), .int .u32 (0 : Int), .int .u32 (0 : Int)] 87)) fun b5 H29 => StA H29 (⟨b5, 0, none⟩ : Addr) y2 8 fun H30 => BIf (x25 == (0 : Int)) (LdA H30 (⟨b5, 0, none⟩ : Addr) 8 fun l25 => LdA H30 a1 8 fun l26 => EqV Tryz.prog .eql 87 (.agg l25.toArray) (.agg l26.toArray) fun c9 => K (.bool c9) H30) (K (.bool false) H30))))
def W_abacistlaw21_RingSafe (x1 : Int) (A1 : Option Addr) (n1 : Nat) (m1 : Nat) (A2 : Option Addr) (n2 : Nat) (m2 : Nat) (H : Hp) (K : Value → Hp → Prop) : Prop :=
  HCalls Tryz.prog 29 #[] H fun v1 H1 => DB v1 fun c1 => BIf (!c1) (K (.bool false) H1) (HCalls Tryz.prog 30 #[.slice A1 n1 m1] H1 fun v2 H2 => DB v2 fun c2 => BIf (!c2) (K (.bool true) H2) (BIf (decide (((n2 : Nat) : Int) > (20 : Int))) (K (.bool true) H2) (HCalls Tryz.prog 31 #[.int .i64 (10 : Int), .int .i64 (32 : Int)] H2 fun v3 H3 => DP v3 fun p1 => ((5 : Int) ≠ 0 ∧ IntKind.i64 = IntKind.i64 ∧ Nw H3 (.obj (.cells #[.int .i64 (0 : Int), .int .i64 (0 : Int), .int .i64 (0 : Int)] 30)) fun b1 H4 => StA H4 (⟨b1, 0, none⟩ : Addr) #[.int .i64 (1 : Int), .int .i64 (IntKind.i64.wrap ((2 : Int) + (Int.tmod (IntKind.i64.wrap x1) (5 : Int)))), .int .i64 (0 : Int)] 3 fun H5 => BIf p1.isNone (K (.bool false) H5) (LdA H5 (⟨b1, 0, none⟩ : Addr) 3 fun l1 => HCalls Tryz.prog 32 #[.pointer p1, .agg l1.toArray] H5 fun v4 H6 => DTup v4 fun l2 => DCons l2 fun v5 l3 => DP v5 fun p2 => DCons l3 fun v6 l4 => DI .i64 v6 fun x2 => DNil l4 (BIf p2.isNone (K (.bool false) H6) (BIf (x2 != (0 : Int)) (K (.bool false) H6) (Nw H6 (.obj (.cells #[.int .u64 (0 : Int), .int .i64 (0 : Int), .int .i64 (0 : Int), .int .i64 (0 : Int), .int .i64 (0 : Int), .int .u32 (0 : Int), .int .u32 (0 : Int), .int .u32 (0 : Int)] 87)) fun b2 H7 => StA H7 (⟨b2, 0, none⟩ : Addr) #[.int .u64 (0 : Int), .int .i64 (0 : Int), .int .i64 (0 : Int), .int .i64 (0 : Int), .int .i64 (0 : Int), .int .u32 (0 : Int), .int .u32 (0 : Int), .int .u32 (0 : Int)] 8 fun H8 => (∃ k, W_abacistlaw21_RingSafe.l14 K k A1 n1 m1 A2 n2 m2 p1 p2 (⟨b2, 0, none⟩ : Addr) (0 : Int) H8)))))))))
def W_abacistlaw21_RingSafe.l14.L (K : Value → Hp → Prop) (k : Nat) : Mid := fun E D H =>
  DG (E.get? 1) fun w1 => DSl w1 fun A3 n3 m3 => DG (E.get? 2) fun w2 => DSl w2 fun A4 n4 m4 => DG (E.get? 7) fun w7 => DP w7 fun p3 => DG (E.get? 9) fun w9 => DP w9 fun p4 => DG (E.get? 11) fun w11 => DP w11 fun pw11 => NN pw11 fun a1 => DG (E.get? 12) fun w12 => DI .i64 w12 fun x3 => DNilD D (W_abacistlaw21_RingSafe.l14 K k A3 n3 m3 A4 n4 m4 p3 p4 a1 x3 H)
def W_abacistlaw21_RingSafe.Λ14 (K : Value → Hp → Prop) (R14 : Option Addr → Nat → Nat → Option Addr → Nat → Nat → Option Addr → Option Addr → Addr → Int → Hp → Prop) : Cuts := ⟨fun i => match Nat.beq i 28 with | true => some (fun E D H => DG (E.get? 1) fun w1 => DSl w1 fun A11 n11 m11 => DG (E.get? 2) fun w2 => DSl w2 fun A12 n12 m12 => DG (E.get? 7) fun w7 => DP w7 fun p11 => DG (E.get? 9) fun w9 => DP w9 fun p12 => DG (E.get? 11) fun w11 => DP w11 fun pw11 => NN pw11 fun a11 => DG (E.get? 12) fun w12 => DI .i64 w12 fun x18 => DG (E.get? 13) fun w13 => DP w13 fun pw13 => NN pw13 fun a12 => DG (E.get? 14) fun w14 => DI .i64 w14 fun x19 => DNilD D (W_abacistlaw21_RingSafe.j28 K R14 A11 n11 m11 A12 n12 m12 p11 p12 a11 x18 a12 x19 H)) | false => match Nat.beq i 27 with | true => some (fun E D H => DG (E.get? 1) fun w1 => DSl w1 fun A9 n9 m9 => DG (E.get? 2) fun w2 => DSl w2 fun A10 n10 m10 => DG (E.get? 7) fun w7 => DP w7 fun p9 => DG (E.get? 9) fun w9 => DP w9 fun p10 => DG (E.get? 11) fun w11 => DP w11 fun pw11 => NN pw11 fun a8 => DG (E.get? 12) fun w12 => DI .i64 w12 fun x15 => DG (E.get? 13) fun w13 => DP w13 fun pw13 => NN pw13 fun a9 => DG (E.get? 14) fun w14 => DI .i64 w14 fun x16 => DNilD D (W_abacistlaw21_RingSafe.j27 K R14 A9 n9 m9 A10 n10 m10 p9 p10 a8 x15 a9 x16 H)) | false => match Nat.beq i 25 with | true => some (fun E D H => DG (E.get? 1) fun w1 => DSl w1 fun A7 n7 m7 => DG (E.get? 2) fun w2 => DSl w2 fun A8 n8 m8 => DG (E.get? 7) fun w7 => DP w7 fun p7 => DG (E.get? 9) fun w9 => DP w9 fun p8 => DG (E.get? 11) fun w11 => DP w11 fun pw11 => NN pw11 fun a6 => DG (E.get? 12) fun w12 => DI .i64 w12 fun x13 => DG (E.get? 13) fun w13 => DP w13 fun pw13 => NN pw13 fun a7 => DG (E.get? 14) fun w14 => DI .i64 w14 fun x14 => DNilD D (W_abacistlaw21_RingSafe.j25 K R14 A7 n7 m7 A8 n8 m8 p7 p8 a6 x13 a7 x14 H)) | false => match Nat.beq i 22 with | true => some (fun E D H => DG (E.get? 1) fun w1 => DSl w1 fun A5 n5 m5 => DG (E.get? 2) fun w2 => DSl w2 fun A6 n6 m6 => DG (E.get? 7) fun w7 => DP w7 fun p5 => DG (E.get? 9) fun w9 => DP w9 fun p6 => DG (E.get? 11) fun w11 => DP w11 fun pw11 => NN pw11 fun a4 => DG (E.get? 12) fun w12 => DI .i64 w12 fun x10 => DG (E.get? 13) fun w13 => DP w13 fun pw13 => NN pw13 fun a5 => DNilD D (W_abacistlaw21_RingSafe.j22 K R14 A5 n5 m5 A6 n6 m6 p5 p6 a4 x10 a5 H)) | false => none, fun i => none, (fun i => match Nat.beq i 18 with | true => some ([], [0, 1, 2, 3, 4], 5) | false => none)⟩
def W_abacistlaw21_RingSafe.Λ (K : Value → Hp → Prop) : Cuts := ⟨fun i => none, fun i => match Nat.beq i 14 with | true => some (fun E D H => ∃ k, W_abacistlaw21_RingSafe.l14.L K k E D H) | false => none, (fun i => match Nat.beq i 18 with | true => some ([], [0, 1, 2, 3, 4], 5) | false => none)⟩
theorem W_abacistlaw21_RingSafe.ok (x1 : Int) (A1 : Option Addr) (n1 : Nat) (m1 : Nat) (A2 : Option Addr) (n2 : Nat) (m2 : Nat) (H : Hp) (K : Value → Hp → Prop) (h : W_abacistlaw21_RingSafe x1 A1 n1 m1 A2 n2 m2 H K) : HCalls Tryz.prog 4 #[.int .u8 x1, .slice A1 n1 m1, .slice A2 n2 m2] H K :=
  hcalls Tryz.func4 rfl (Nat.le_of_ble_eq_true rfl) (hw_safe (Λ := (W_abacistlaw21_RingSafe.Λ K)) mixWabacistlaw21 _ _ _ _ _ (Eq.mp (by kernel_rfl) h) (obs_seq obs_region rfl (obs_seq (obs_seq obs_region rfl (obs_cond (obs_seq obs_region rfl obs_ret) obs_skip)) rfl (obs_seq (obs_seq obs_region rfl (obs_cond (obs_seq obs_region rfl obs_ret) obs_skip)) rfl (obs_seq obs_region rfl (obs_seq obs_region rfl (obs_seq (obs_seq obs_region rfl (obs_cond (obs_seq obs_region rfl obs_ret) obs_skip)) rfl (obs_seq obs_region rfl (obs_seq (obs_seq obs_region rfl (obs_cond (obs_seq obs_region rfl obs_ret) obs_skip)) rfl (obs_seq obs_region rfl (obs_seq (obs_seq obs_region rfl (obs_block (obs_loop rfl (fun E D H h => by
      refine Safe.loop' (W_abacistlaw21_RingSafe.l14.L K) (fun E D H h => ?_) (fun k E D H h => ?_) E D H h
      · obtain ⟨w1, e1, g1⟩ := DG.out h; obtain ⟨A3, n3, m3, rfl, g2⟩ := DSl.out g1; obtain ⟨w2, e2, g3⟩ := DG.out g2; obtain ⟨A4, n4, m4, rfl, g4⟩ := DSl.out g3; obtain ⟨w7, e7, g5⟩ := DG.out g4; obtain ⟨p3, rfl, g6⟩ := DP.out g5; obtain ⟨w9, e9, g7⟩ := DG.out g6; obtain ⟨p4, rfl, g8⟩ := DP.out g7; obtain ⟨w11, e11, g9⟩ := DG.out g8; obtain ⟨pw11, rfl, g10⟩ := DP.out g9; obtain ⟨a1, rfl, g11⟩ := NN.out g10; obtain ⟨w12, e12, g12⟩ := DG.out g11; obtain ⟨x3, rfl, g13⟩ := DI.out g12; obtain ⟨rfl, h'⟩ := DNilD.out g13; exact h'
      · obtain ⟨w1, e1, g1⟩ := DG.out h
        obtain ⟨A3, n3, m3, rfl, g2⟩ := DSl.out g1
        obtain ⟨w2, e2, g3⟩ := DG.out g2
        obtain ⟨A4, n4, m4, rfl, g4⟩ := DSl.out g3
        obtain ⟨w7, e7, g5⟩ := DG.out g4
        obtain ⟨p3, rfl, g6⟩ := DP.out g5
        obtain ⟨w9, e9, g7⟩ := DG.out g6
        obtain ⟨p4, rfl, g8⟩ := DP.out g7
        obtain ⟨w11, e11, g9⟩ := DG.out g8
        obtain ⟨pw11, rfl, g10⟩ := DP.out g9
        obtain ⟨a1, rfl, g11⟩ := NN.out g10
        obtain ⟨w12, e12, g12⟩ := DG.out g11
        obtain ⟨x3, rfl, g13⟩ := DI.out g12
        obtain ⟨rfl, h'⟩ := DNilD.out g13
        exact (hw_safe (Λ := (W_abacistlaw21_RingSafe.Λ14 K (W_abacistlaw21_RingSafe.l14 K k))) mixWabacistlaw21 _ _ [(1, .slice A3 n3 m3), (2, .slice A4 n4 m4), (7, .pointer p3), (9, .pointer p4), (11, .pointer (some a1)), (12, .int .i64 x3)] [] H (Eq.mp (by kernel_rfl) h') (obs_seq (obs_seq obs_region rfl (obs_cond obs_skip obs_exit)) rfl (obs_seq (obs_block (obs_seq obs_region rfl (obs_seq (obs_seq obs_region rfl (obs_cond (obs_seq obs_region rfl obs_exit) obs_skip)) rfl (obs_seq (obs_seq obs_region rfl (obs_cond obs_exit obs_skip)) rfl (obs_seqc (obs_seq obs_region rfl (obs_cond obs_region obs_skip)) rfl (fun E D H h => by
            obtain ⟨w1, e1, g1⟩ := DG.out h
            obtain ⟨A5, n5, m5, rfl, g2⟩ := DSl.out g1
            obtain ⟨w2, e2, g3⟩ := DG.out g2
            obtain ⟨A6, n6, m6, rfl, g4⟩ := DSl.out g3
            obtain ⟨w7, e7, g5⟩ := DG.out g4
            obtain ⟨p5, rfl, g6⟩ := DP.out g5
            obtain ⟨w9, e9, g7⟩ := DG.out g6
            obtain ⟨p6, rfl, g8⟩ := DP.out g7
            obtain ⟨w11, e11, g9⟩ := DG.out g8
            obtain ⟨pw11, rfl, g10⟩ := DP.out g9
            obtain ⟨a4, rfl, g11⟩ := NN.out g10
            obtain ⟨w12, e12, g12⟩ := DG.out g11
            obtain ⟨x10, rfl, g13⟩ := DI.out g12
            obtain ⟨w13, e13, g14⟩ := DG.out g13
            obtain ⟨pw13, rfl, g15⟩ := DP.out g14
            obtain ⟨a5, rfl, g16⟩ := NN.out g15
            obtain ⟨rfl, h'⟩ := DNilD.out g16
            exact (hw_safe (Λ := (W_abacistlaw21_RingSafe.Λ14 K (W_abacistlaw21_RingSafe.l14 K k))) mixWabacistlaw21 _ _ [(1, .slice A5 n5 m5), (2, .slice A6 n6 m6), (7, .pointer p5), (9, .pointer p6), (11, .pointer (some a4)), (12, .int .i64 x10), (13, .pointer (some a5))] [] H (Eq.mp (by kernel_rfl) h') (obs_seq obs_region rfl (obs_seqc (obs_seq obs_region rfl (obs_cond obs_region obs_skip)) rfl (fun E D H h => by
                obtain ⟨w1, e1, g1⟩ := DG.out h
                obtain ⟨A7, n7, m7, rfl, g2⟩ := DSl.out g1
                obtain ⟨w2, e2, g3⟩ := DG.out g2
                obtain ⟨A8, n8, m8, rfl, g4⟩ := DSl.out g3
                obtain ⟨w7, e7, g5⟩ := DG.out g4
                obtain ⟨p7, rfl, g6⟩ := DP.out g5
                obtain ⟨w9, e9, g7⟩ := DG.out g6
                obtain ⟨p8, rfl, g8⟩ := DP.out g7
                obtain ⟨w11, e11, g9⟩ := DG.out g8
                obtain ⟨pw11, rfl, g10⟩ := DP.out g9
                obtain ⟨a6, rfl, g11⟩ := NN.out g10
                obtain ⟨w12, e12, g12⟩ := DG.out g11
                obtain ⟨x13, rfl, g13⟩ := DI.out g12
                obtain ⟨w13, e13, g14⟩ := DG.out g13
                obtain ⟨pw13, rfl, g15⟩ := DP.out g14
                obtain ⟨a7, rfl, g16⟩ := NN.out g15
                obtain ⟨w14, e14, g17⟩ := DG.out g16
                obtain ⟨x14, rfl, g18⟩ := DI.out g17
                obtain ⟨rfl, h'⟩ := DNilD.out g18
                exact (hw_safe (Λ := (W_abacistlaw21_RingSafe.Λ14 K (W_abacistlaw21_RingSafe.l14 K k))) mixWabacistlaw21 _ _ [(1, .slice A7 n7 m7), (2, .slice A8 n8 m8), (7, .pointer p7), (9, .pointer p8), (11, .pointer (some a6)), (12, .int .i64 x13), (13, .pointer (some a7)), (14, .int .i64 x14)] [] H (Eq.mp (by kernel_rfl) h') (obs_seqc (obs_seq obs_region rfl (obs_cond obs_region obs_skip)) rfl (fun E D H h => by
                    obtain ⟨w1, e1, g1⟩ := DG.out h
                    obtain ⟨A9, n9, m9, rfl, g2⟩ := DSl.out g1
                    obtain ⟨w2, e2, g3⟩ := DG.out g2
                    obtain ⟨A10, n10, m10, rfl, g4⟩ := DSl.out g3
                    obtain ⟨w7, e7, g5⟩ := DG.out g4
                    obtain ⟨p9, rfl, g6⟩ := DP.out g5
                    obtain ⟨w9, e9, g7⟩ := DG.out g6
                    obtain ⟨p10, rfl, g8⟩ := DP.out g7
                    obtain ⟨w11, e11, g9⟩ := DG.out g8
                    obtain ⟨pw11, rfl, g10⟩ := DP.out g9
                    obtain ⟨a8, rfl, g11⟩ := NN.out g10
                    obtain ⟨w12, e12, g12⟩ := DG.out g11
                    obtain ⟨x15, rfl, g13⟩ := DI.out g12
                    obtain ⟨w13, e13, g14⟩ := DG.out g13
                    obtain ⟨pw13, rfl, g15⟩ := DP.out g14
                    obtain ⟨a9, rfl, g16⟩ := NN.out g15
                    obtain ⟨w14, e14, g17⟩ := DG.out g16
                    obtain ⟨x16, rfl, g18⟩ := DI.out g17
                    obtain ⟨rfl, h'⟩ := DNilD.out g18
                    exact (hw_safe (Λ := (W_abacistlaw21_RingSafe.Λ14 K (W_abacistlaw21_RingSafe.l14 K k))) mixWabacistlaw21 _ _ [(1, .slice A9 n9 m9), (2, .slice A10 n10 m10), (7, .pointer p9), (9, .pointer p10), (11, .pointer (some a8)), (12, .int .i64 x15), (13, .pointer (some a9)), (14, .int .i64 x16)] [] H (Eq.mp (by kernel_rfl) h') (obs_seqc (obs_seq obs_region rfl (obs_cond obs_exit obs_skip)) rfl (fun E D H h => by
                        obtain ⟨w1, e1, g1⟩ := DG.out h
                        obtain ⟨A11, n11, m11, rfl, g2⟩ := DSl.out g1
                        obtain ⟨w2, e2, g3⟩ := DG.out g2
                        obtain ⟨A12, n12, m12, rfl, g4⟩ := DSl.out g3
                        obtain ⟨w7, e7, g5⟩ := DG.out g4
                        obtain ⟨p11, rfl, g6⟩ := DP.out g5
                        obtain ⟨w9, e9, g7⟩ := DG.out g6
                        obtain ⟨p12, rfl, g8⟩ := DP.out g7
                        obtain ⟨w11, e11, g9⟩ := DG.out g8
                        obtain ⟨pw11, rfl, g10⟩ := DP.out g9
                        obtain ⟨a11, rfl, g11⟩ := NN.out g10
                        obtain ⟨w12, e12, g12⟩ := DG.out g11
                        obtain ⟨x18, rfl, g13⟩ := DI.out g12
                        obtain ⟨w13, e13, g14⟩ := DG.out g13
                        obtain ⟨pw13, rfl, g15⟩ := DP.out g14
                        obtain ⟨a12, rfl, g16⟩ := NN.out g15
                        obtain ⟨w14, e14, g17⟩ := DG.out g16
                        obtain ⟨x19, rfl, g18⟩ := DI.out g17
                        obtain ⟨rfl, h'⟩ := DNilD.out g18
                        exact (hw_safe (Λ := (W_abacistlaw21_RingSafe.Λ14 K (W_abacistlaw21_RingSafe.l14 K k))) mixWabacistlaw21 _ _ [(1, .slice A11 n11 m11), (2, .slice A12 n12 m12), (7, .pointer p11), (9, .pointer p12), (11, .pointer (some a11)), (12, .int .i64 x18), (13, .pointer (some a12)), (14, .int .i64 x19)] [] H (Eq.mp (by kernel_rfl) h') (obs_seq obs_region rfl (obs_seq (obs_seq obs_region rfl (obs_cond (obs_seq obs_region rfl obs_ret) obs_skip)) rfl (obs_seq obs_region rfl (obs_seq (obs_seq obs_region rfl (obs_cond (obs_seq obs_region rfl obs_ret) obs_skip)) rfl obs_region))))).weaken (EnvLe.cons e1 (EnvLe.cons e2 (EnvLe.cons e7 (EnvLe.cons e9 (EnvLe.cons e11 (EnvLe.cons e12 (EnvLe.cons e13 (EnvLe.cons e14 (EnvLe.nil _))))))))) (Hp.le_refl _)))).weaken (EnvLe.cons e1 (EnvLe.cons e2 (EnvLe.cons e7 (EnvLe.cons e9 (EnvLe.cons e11 (EnvLe.cons e12 (EnvLe.cons e13 (EnvLe.cons e14 (EnvLe.nil _))))))))) (Hp.le_refl _)))).weaken (EnvLe.cons e1 (EnvLe.cons e2 (EnvLe.cons e7 (EnvLe.cons e9 (EnvLe.cons e11 (EnvLe.cons e12 (EnvLe.cons e13 (EnvLe.cons e14 (EnvLe.nil _))))))))) (Hp.le_refl _))))).weaken (EnvLe.cons e1 (EnvLe.cons e2 (EnvLe.cons e7 (EnvLe.cons e9 (EnvLe.cons e11 (EnvLe.cons e12 (EnvLe.cons e13 (EnvLe.nil _)))))))) (Hp.le_refl _))))))) rfl obs_region))).weaken (EnvLe.cons e1 (EnvLe.cons e2 (EnvLe.cons e7 (EnvLe.cons e9 (EnvLe.cons e11 (EnvLe.cons e12 (EnvLe.nil _))))))) (Hp.le_refl _))))) rfl (obs_seq obs_region rfl (obs_seq obs_region rfl (obs_seq (obs_seq obs_region rfl (obs_cond (obs_seq obs_region rfl obs_ret) obs_skip)) rfl (obs_seq obs_region rfl (obs_seq obs_region rfl obs_ret))))))))))))))))

-- abacistlaw21.RingPlays
def W_abacistlaw21_RingPlays.l50 (K : Value → Hp → Prop) (R13 : Option Addr → Nat → Nat → Option Addr → Addr → Option Addr → Int → Hp → Prop) : Nat → Option Addr → Nat → Nat → Option Addr → Addr → Option Addr → Int → Option Addr → Nat → Nat → Option Addr → Nat → Nat → Int → Hp → Prop
  | 0, _, _, _, _, _, _, _, _, _, _, _, _, _, _, _ => False
  | k + 1, A55, n63, m55, p15, a22, p16, x84, A56, n64, m56, A57, n65, m57, x85, H =>
    let R50 := W_abacistlaw21_RingPlays.l50 K R13 k
    BIf (decide (x85 < ((n65 : Nat) : Int))) (ixI (IntKind.i64.wrap (x85 - (1 : Int))) n65 (NN A57 fun a23 => LdA H (a23.add ((IntKind.i64.wrap (x85 - (1 : Int))).toNat * 8)) 8 fun l36 => ixI x85 n65 (NN A57 fun a24 => LdA H (a24.add (x85.toNat * 8)) 8 fun l37 => QCall Tryz.prog 39 #[.agg l36.toArray, .agg l37.toArray] H fun v143 => DB v143 fun c16 => BIf (!c16) (K (.bool false) H) (R50 A55 n63 m55 p15 a22 p16 x84 A56 n64 m56 A57 n65 m57 (IntKind.i64.wrap (x85 + (1 : Int))) H)))) (BIf (decide ((IntKind.i64.wrap (((n64 : Nat) : Int) - ((n65 : Nat) : Int))) > (0 : Int))) (ixI (IntKind.i64.wrap ((IntKind.i64.wrap (((n64 : Nat) : Int) - ((n65 : Nat) : Int))) - (1 : Int))) n64 (NN A56 fun a25 => LdA H (a25.add ((IntKind.i64.wrap ((IntKind.i64.wrap (((n64 : Nat) : Int) - ((n65 : Nat) : Int))) - (1 : Int))).toNat * 8)) 8 fun l38 => ixI (IntKind.i64.wrap (((n64 : Nat) : Int) - ((n65 : Nat) : Int))) n64 (NN A56 fun a26 => LdA H (a26.add ((IntKind.i64.wrap (((n64 : Nat) : Int) - ((n65 : Nat) : Int))).toNat * 8)) 8 fun l39 => QCall Tryz.prog 39 #[.agg l38.toArray, .agg l39.toArray] H fun v144 => DB v144 fun c17 => BIf c17 (K (.bool false) H) (R13 A55 n63 m55 p15 a22 p16 (IntKind.i64.wrap (x84 + (1 : Int))) H)))) (R13 A55 n63 m55 p15 a22 p16 (IntKind.i64.wrap (x84 + (1 : Int))) H))
def W_abacistlaw21_RingPlays.j49 (K : Value → Hp → Prop) (R13 : Option Addr → Nat → Nat → Option Addr → Addr → Option Addr → Int → Hp → Prop) (A52 : Option Addr) (n60 : Nat) (m52 : Nat) (p13 : Option Addr) (a21 : Addr) (p14 : Option Addr) (x83 : Int) (A53 : Option Addr) (n61 : Nat) (m53 : Nat) (A54 : Option Addr) (n62 : Nat) (m54 : Nat) (H : Hp) : Prop :=
  (∃ k, W_abacistlaw21_RingPlays.l50 K R13 k A52 n60 m52 p13 a21 p14 x83 A53 n61 m53 A54 n62 m54 (1 : Int) H)
def W_abacistlaw21_RingPlays.j43 (K : Value → Hp → Prop) (R13 : Option Addr → Nat → Nat → Option Addr → Addr → Option Addr → Int → Hp → Prop) (A47 : Option Addr) (n47 : Nat) (m47 : Nat) (p11 : Option Addr) (a19 : Addr) (p12 : Option Addr) (x79 : Int) (H : Hp) : Prop :=
  LdA H a19 3 fun l23 => HCalls Tryz.prog 42 #[.pointer p11, .agg l23.toArray] H fun v126 H82 => DSl v126 fun A48 n48 m48 => HCalls Tryz.prog 41 #[.slice A48 n48 m48] H82 fun v127 H83 => DSl v127 fun A49 n49 m49 => HCalls Tryz.prog 50 #[.pointer p12] H83 fun v128 H84 => DTup v128 fun l24 => DCons l24 fun v129 l25 => DSl v129 fun A50 n50 m50 => DCons l25 fun v130 l26 => DI .i64 v130 fun x80 => DNil l26 (HCalls Tryz.prog 51 #[.pointer p12] H84 fun v131 H85 => DTup v131 fun l27 => DCons l27 fun v132 l28 => DSl v132 fun A51 n51 m51 => DCons l28 fun v133 l29 => DI .i64 v133 fun x81 => DNil l29 (HCalls Tryz.prog 38 #[.pointer p12] H85 fun v134 H86 => DTup v134 fun l30 => DCons l30 fun v135 l31 => DA v135 fun y2 => DCons l31 fun v136 l32 => DB v136 fun c9 => DCons l32 fun v137 l33 => DI .i64 v137 fun x82 => DNil l33 (Nw H86 (.obj (.cells #[.int .u64 (0 : Int), .int .i64 (0 : Int), .int .i64 (0 : Int), .int .i64 (0 : Int), .int .i64 (0 : Int), .int .u32 (0 : Int), .int .u32 (0 : Int), .int .u32 (0 : Int)] 87)) fun b4 H87 => StA H87 (⟨b4, 0, none⟩ : Addr) y2 8 fun H88 => BIf (x80 != (0 : Int)) (K (.bool false) H88) (BIf (x81 != (0 : Int)) (K (.bool false) H88) (BIf (x82 != (0 : Int)) (K (.bool false) H88) (QCall Tryz.prog 45 #[.slice A50 n50 m50, .slice A49 n49 m49] H88 fun v138 => DB v138 fun c10 => BIf (!c10) (K (.bool false) H88) (BIf (!(c9 == (decide (((n49 : Nat) : Int) > (0 : Int))))) (K (.bool false) H88) (BIf c9 (LdA H88 (⟨b4, 0, none⟩ : Addr) 8 fun l34 => ixI (IntKind.i64.wrap (((n49 : Nat) : Int) - (1 : Int))) n49 (NN A49 fun a20 => LdA H88 (a20.add ((IntKind.i64.wrap (((n49 : Nat) : Int) - (1 : Int))).toNat * 8)) 8 fun l35 => EqV Tryz.prog .neq 87 (.agg l34.toArray) (.agg l35.toArray) fun c11 => BIf c11 (K (.bool false) H88) (BIf (decide (((n51 : Nat) : Int) > ((n49 : Nat) : Int))) (K (.bool false) H88) (BIf (decide (((n49 : Nat) : Int) > (0 : Int))) (BIf (((n51 : Nat) : Int) == (0 : Int)) (K (.bool false) H88) (slB n49 m49 (some (IntKind.i64.wrap (((n49 : Nat) : Int) - ((n51 : Nat) : Int)))) none fun n52 n53 => QCall Tryz.prog 45 #[.slice A51 n51 m51, .slice (slA A49 m49 n52 8) (n53 - n52) (m49 - n52)] H88 fun v139 => DB v139 fun c12 => BIf (!c12) (K (.bool false) H88) (W_abacistlaw21_RingPlays.j49 K R13 A47 n47 m47 p11 a19 p12 x79 A49 n49 m49 A51 n51 m51 H88))) (slB n49 m49 (some (IntKind.i64.wrap (((n49 : Nat) : Int) - ((n51 : Nat) : Int)))) none fun n54 n55 => QCall Tryz.prog 45 #[.slice A51 n51 m51, .slice (slA A49 m49 n54 8) (n55 - n54) (m49 - n54)] H88 fun v140 => DB v140 fun c13 => BIf (!c13) (K (.bool false) H88) (W_abacistlaw21_RingPlays.j49 K R13 A47 n47 m47 p11 a19 p12 x79 A49 n49 m49 A51 n51 m51 H88)))))) (BIf (decide (((n51 : Nat) : Int) > ((n49 : Nat) : Int))) (K (.bool false) H88) (BIf (decide (((n49 : Nat) : Int) > (0 : Int))) (BIf (((n51 : Nat) : Int) == (0 : Int)) (K (.bool false) H88) (slB n49 m49 (some (IntKind.i64.wrap (((n49 : Nat) : Int) - ((n51 : Nat) : Int)))) none fun n56 n57 => QCall Tryz.prog 45 #[.slice A51 n51 m51, .slice (slA A49 m49 n56 8) (n57 - n56) (m49 - n56)] H88 fun v141 => DB v141 fun c14 => BIf (!c14) (K (.bool false) H88) (W_abacistlaw21_RingPlays.j49 K R13 A47 n47 m47 p11 a19 p12 x79 A49 n49 m49 A51 n51 m51 H88))) (slB n49 m49 (some (IntKind.i64.wrap (((n49 : Nat) : Int) - ((n51 : Nat) : Int)))) none fun n58 n59 => QCall Tryz.prog 45 #[.slice A51 n51 m51, .slice (slA A49 m49 n58 8) (n59 - n58) (m49 - n58)] H88 fun v142 => DB v142 fun c15 => BIf (!c15) (K (.bool false) H88) (W_abacistlaw21_RingPlays.j49 K R13 A47 n47 m47 p11 a19 p12 x79 A49 n49 m49 A51 n51 m51 H88))))))))))))
def W_abacistlaw21_RingPlays.j35 (K : Value → Hp → Prop) (R13 : Option Addr → Nat → Nat → Option Addr → Addr → Option Addr → Int → Hp → Prop) (A13 : Option Addr) (n13 : Nat) (m13 : Nat) (p9 : Option Addr) (a17 : Addr) (p10 : Option Addr) (x20 : Int) (a18 : Addr) (H : Hp) : Prop :=
  HCalls Tryz.prog 38 #[.pointer p10] H fun v32 H26 => DTup v32 fun l15 => DCons l15 fun v33 l16 => DA v33 fun y1 => DCons l16 fun v34 l17 => DB v34 fun c8 => DCons l17 fun v35 l18 => DI .i64 v35 fun x21 => DNil l18 (Nw H26 (.obj (.cells #[.int .u64 (0 : Int), .int .i64 (0 : Int), .int .i64 (0 : Int), .int .i64 (0 : Int), .int .i64 (0 : Int), .int .u32 (0 : Int), .int .u32 (0 : Int), .int .u32 (0 : Int)] 87)) fun b3 H27 => StA H27 (⟨b3, 0, none⟩ : Addr) y1 8 fun H28 => BIf (x21 != (8 : Int)) (K (.bool false) H28) (Ld H28 (a18.add 10) fun v36 => DSl v36 fun A14 n14 m14 => HCalls Tryz.prog 37 #[.pointer p9, .slice A14 n14 m14] H28 fun v37 H29 => DI .i64 v37 fun x22 => BIf (x22 != (0 : Int)) (K (.bool false) H29) (W_abacistlaw21_RingPlays.j43 K R13 A13 n13 m13 p9 a17 p10 x20 H29)))
def W_abacistlaw21_RingPlays.j30 (K : Value → Hp → Prop) (R13 : Option Addr → Nat → Nat → Option Addr → Addr → Option Addr → Int → Hp → Prop) (A7 : Option Addr) (n7 : Nat) (m7 : Nat) (p7 : Option Addr) (a9 : Addr) (p8 : Option Addr) (x17 : Int) (a10 : Addr) (A8 : Option Addr) (n8 : Nat) (m8 : Nat) (x18 : Int) (x19 : Int) (H : Hp) : Prop :=
  LdA H a9 3 fun l10 => HCalls Tryz.prog 42 #[.pointer p7, .agg l10.toArray] H fun v23 H18 => DSl v23 fun A9 n9 m9 => HCalls Tryz.prog 41 #[.slice A9 n9 m9] H18 fun v24 H19 => DSl v24 fun A10 n10 m10 => BIf (x18 != x19) (K (.bool false) H19) (BIf (x19 != (0 : Int)) (QCall Tryz.prog 45 #[.slice A8 n8 m8, .slice A10 n10 m10] H19 fun v25 => DB v25 fun c5 => BIf (!c5) (K (.bool false) H19) (BIf (x19 == (0 : Int)) (BIf (((n10 : Nat) : Int) == (0 : Int)) (K (.bool false) H19) (ixI (IntKind.i64.wrap (((n10 : Nat) : Int) - (1 : Int))) n10 (NN A10 fun a11 => LdA H19 (a11.add ((IntKind.i64.wrap (((n10 : Nat) : Int) - (1 : Int))).toNat * 8)) 8 fun l11 => LdA H19 (a10.add 2) 8 fun l13 => EqV Tryz.prog .neq 87 (.agg l11.toArray) (.agg l13.toArray) fun c6 => BIf c6 (K (.bool false) H19) (HCalls Tryz.prog 46 #[.pointer p7] H19 fun v26 H20 => DSl v26 fun A11 n11 m11 => BIf (((n11 : Nat) : Int) != (0 : Int)) (K (.bool false) H20) (W_abacistlaw21_RingPlays.j43 K R13 A7 n7 m7 p7 a9 p8 x17 H20))))) (W_abacistlaw21_RingPlays.j43 K R13 A7 n7 m7 p7 a9 p8 x17 H19))) (BIf (x19 == (0 : Int)) (BIf (((n10 : Nat) : Int) == (0 : Int)) (K (.bool false) H19) (ixI (IntKind.i64.wrap (((n10 : Nat) : Int) - (1 : Int))) n10 (NN A10 fun a12 => LdA H19 (a12.add ((IntKind.i64.wrap (((n10 : Nat) : Int) - (1 : Int))).toNat * 8)) 8 fun l12 => LdA H19 (a10.add 2) 8 fun l14 => EqV Tryz.prog .neq 87 (.agg l12.toArray) (.agg l14.toArray) fun c7 => BIf c7 (K (.bool false) H19) (HCalls Tryz.prog 46 #[.pointer p7] H19 fun v27 H21 => DSl v27 fun A12 n12 m12 => BIf (((n12 : Nat) : Int) != (0 : Int)) (K (.bool false) H21) (W_abacistlaw21_RingPlays.j43 K R13 A7 n7 m7 p7 a9 p8 x17 H21))))) (W_abacistlaw21_RingPlays.j43 K R13 A7 n7 m7 p7 a9 p8 x17 H19)))
def W_abacistlaw21_RingPlays.j24 (K : Value → Hp → Prop) (R13 : Option Addr → Nat → Nat → Option Addr → Addr → Option Addr → Int → Hp → Prop) (A5 : Option Addr) (n5 : Nat) (m5 : Nat) (p5 : Option Addr) (a7 : Addr) (p6 : Option Addr) (x15 : Int) (a8 : Addr) (A6 : Option Addr) (n6 : Nat) (m6 : Nat) (H : Hp) : Prop :=
  LdA H (a8.add 2) 8 fun l7 => HCalls Tryz.prog 34 #[.pointer p6, .agg l7.toArray] H fun v20 H15 => DI .i64 v20 fun x16 => LdA H15 (a8.add 2) 8 fun l8 => HCalls Tryz.prog 43 #[.agg l8.toArray] H15 fun v21 H16 => DB v21 fun c3 => BIf (!c3) (W_abacistlaw21_RingPlays.j30 K R13 A5 n5 m5 p5 a7 p6 x15 a8 A6 n6 m6 x16 (10 : Int) H16) (LdA H16 (a8.add 2) 8 fun l9 => HCalls Tryz.prog 44 #[.slice A6 n6 m6, .agg l9.toArray] H16 fun v22 H17 => DB v22 fun c4 => BIf (!c4) (W_abacistlaw21_RingPlays.j30 K R13 A5 n5 m5 p5 a7 p6 x15 a8 A6 n6 m6 x16 (5 : Int) H17) (W_abacistlaw21_RingPlays.j30 K R13 A5 n5 m5 p5 a7 p6 x15 a8 A6 n6 m6 x16 (0 : Int) H17))
def W_abacistlaw21_RingPlays.l13 (K : Value → Hp → Prop) : Nat → Option Addr → Nat → Nat → Option Addr → Addr → Option Addr → Int → Hp → Prop
  | 0, _, _, _, _, _, _, _, _ => False
  | k + 1, A2, n2, m2, p3, a1, p4, x5, H =>
    let R13 := W_abacistlaw21_RingPlays.l13 K k
    BIf (decide (x5 < ((n2 : Nat) : Int))) (ixI x5 n2 (NN A2 fun a2 => LdA H (a2.add (x5.toNat * 12)) 12 fun l5 => Nw H (.obj (.cells #[.int .i64 (0 : Int), .int .i64 (0 : Int), .int .u64 (0 : Int), .int .i64 (0 : Int), .int .i64 (0 : Int), .int .i64 (0 : Int), .int .i64 (0 : Int), .int .u32 (0 : Int), .int .u32 (0 : Int), .int .u32 (0 : Int), .slice none 0 0, .slice none 0 0] 90)) fun b2 H7 => StA H7 (⟨b2, 0, none⟩ : Addr) l5.toArray 12 fun H8 => LdA H8 a1 3 fun l6 => HCalls Tryz.prog 42 #[.pointer p3, .agg l6.toArray] H8 fun v9 H9 => DSl v9 fun A3 n3 m3 => HCalls Tryz.prog 41 #[.slice A3 n3 m3] H9 fun v10 H10 => DSl v10 fun A4 n4 m4 => Ld H10 ((⟨b2, 0, none⟩ : Addr).add 0) fun v11 => DI .i64 v11 fun x6 => BIf (x6 == (0 : Int)) (BIf (x6 == (0 : Int)) (Ld H10 ((⟨b2, 0, none⟩ : Addr).add 0) fun v12 => DI .i64 v12 fun x7 => BIf (x7 == (3 : Int)) (BIf (decide (((n4 : Nat) : Int) > (0 : Int))) (ixI (IntKind.i64.wrap (((n4 : Nat) : Int) - (1 : Int))) n4 (NN A4 fun a3 => Ld H10 ((a3.add ((IntKind.i64.wrap (((n4 : Nat) : Int) - (1 : Int))).toNat * 8)).add 0) fun v16 => DI .u64 v16 fun x11 => St H10 ((((⟨b2, 0, none⟩ : Addr).add 2).add 0).add 0) (.int .u64 (IntKind.u64.wrap (x11 + (1 : Int)))) fun H11 => W_abacistlaw21_RingPlays.j24 K R13 A2 n2 m2 p3 a1 p4 x5 (⟨b2, 0, none⟩ : Addr) A4 n4 m4 H11)) (W_abacistlaw21_RingPlays.j24 K R13 A2 n2 m2 p3 a1 p4 x5 (⟨b2, 0, none⟩ : Addr) A4 n4 m4 H10)) (W_abacistlaw21_RingPlays.j24 K R13 A2 n2 m2 p3 a1 p4 x5 (⟨b2, 0, none⟩ : Addr) A4 n4 m4 H10)) (BIf (x6 == (4 : Int)) (NN p3 fun a13 => HCalls Tryz.prog 36 #[.pointer (some (a13.add 7))] H10 fun v28 H22 => W_abacistlaw21_RingPlays.j35 K R13 A2 n2 m2 p3 a1 p4 x5 (⟨b2, 0, none⟩ : Addr) H22) (BIf (x6 == (6 : Int)) (HCalls Tryz.prog 47 #[.pointer p4] H10 fun v38 H30 => DI .i64 v38 fun x23 => BIf (x23 != (0 : Int)) (K (.bool false) H30) (LdA H30 a1 3 fun l19 => HCalls Tryz.prog 42 #[.pointer p3, .agg l19.toArray] H30 fun v42 H34 => DSl v42 fun A15 n15 m15 => HCalls Tryz.prog 41 #[.slice A15 n15 m15] H34 fun v46 H38 => DSl v46 fun A19 n19 m19 => BIf (((n19 : Nat) : Int) != (0 : Int)) (K (.bool false) H38) (W_abacistlaw21_RingPlays.j43 K R13 A2 n2 m2 p3 a1 p4 x5 H38))) (BIf (x6 == (7 : Int)) (Ld H10 ((⟨b2, 0, none⟩ : Addr).add 11) fun v50 => DSl v50 fun A23 n23 m23 => (Ld H10 ((⟨b2, 0, none⟩ : Addr).add 1) fun v51 => DI .i64 v51 fun x27 => (Ld H10 (a1.add 1) fun v52 => DI .i64 v52 fun x28 => (x28 ≠ 0 ∧ IntKind.i64 = IntKind.i64 ∧ HCalls Tryz.prog 49 #[.slice A23 n23 m23] H10 fun v53 H42 => DSl v53 fun A24 n24 m24 => HCalls Tryz.prog 48 #[.pointer p3, .int .i64 (IntKind.i64.wrap ((1 : Int) + (Int.tmod (bAnd .i64 x27 (7 : Int)) x28))), .slice A24 n24 m24] H42 fun v54 H43 => DI .i64 v54 fun x29 => W_abacistlaw21_RingPlays.j43 K R13 A2 n2 m2 p3 a1 p4 x5 H43)) ∧ (HCalls Tryz.prog 49 #[.slice A23 n23 m23] H10 fun v55 H44 => DSl v55 fun A25 n25 m25 => Ld H44 (a1.add 1) fun v56 => DI .i64 v56 fun x30 => (x30 ≠ 0 ∧ IntKind.i64 = IntKind.i64 ∧ HCalls Tryz.prog 48 #[.pointer p3, .int .i64 (IntKind.i64.wrap ((1 : Int) + (Int.tmod (bAnd .i64 x27 (7 : Int)) x30))), .slice A25 n25 m25] H44 fun v57 H45 => DI .i64 v57 fun x31 => W_abacistlaw21_RingPlays.j43 K R13 A2 n2 m2 p3 a1 p4 x5 H45))) ∧ (Ld H10 (a1.add 1) fun v58 => DI .i64 v58 fun x32 => (Ld H10 ((⟨b2, 0, none⟩ : Addr).add 1) fun v59 => DI .i64 v59 fun x33 => (x32 ≠ 0 ∧ IntKind.i64 = IntKind.i64 ∧ HCalls Tryz.prog 49 #[.slice A23 n23 m23] H10 fun v60 H46 => DSl v60 fun A26 n26 m26 => HCalls Tryz.prog 48 #[.pointer p3, .int .i64 (IntKind.i64.wrap ((1 : Int) + (Int.tmod (bAnd .i64 x33 (7 : Int)) x32))), .slice A26 n26 m26] H46 fun v61 H47 => DI .i64 v61 fun x34 => W_abacistlaw21_RingPlays.j43 K R13 A2 n2 m2 p3 a1 p4 x5 H47)) ∧ (HCalls Tryz.prog 49 #[.slice A23 n23 m23] H10 fun v62 H48 => DSl v62 fun A27 n27 m27 => Ld H48 ((⟨b2, 0, none⟩ : Addr).add 1) fun v63 => DI .i64 v63 fun x35 => (x32 ≠ 0 ∧ IntKind.i64 = IntKind.i64 ∧ HCalls Tryz.prog 48 #[.pointer p3, .int .i64 (IntKind.i64.wrap ((1 : Int) + (Int.tmod (bAnd .i64 x35 (7 : Int)) x32))), .slice A27 n27 m27] H48 fun v64 H49 => DI .i64 v64 fun x36 => W_abacistlaw21_RingPlays.j43 K R13 A2 n2 m2 p3 a1 p4 x5 H49))) ∧ (HCalls Tryz.prog 49 #[.slice A23 n23 m23] H10 fun v65 H50 => DSl v65 fun A28 n28 m28 => Ld H50 ((⟨b2, 0, none⟩ : Addr).add 1) fun v66 => DI .i64 v66 fun x37 => Ld H50 (a1.add 1) fun v67 => DI .i64 v67 fun x38 => (x38 ≠ 0 ∧ IntKind.i64 = IntKind.i64 ∧ HCalls Tryz.prog 48 #[.pointer p3, .int .i64 (IntKind.i64.wrap ((1 : Int) + (Int.tmod (bAnd .i64 x37 (7 : Int)) x38))), .slice A28 n28 m28] H50 fun v68 H51 => DI .i64 v68 fun x39 => W_abacistlaw21_RingPlays.j43 K R13 A2 n2 m2 p3 a1 p4 x5 H51))) (W_abacistlaw21_RingPlays.j43 K R13 A2 n2 m2 p3 a1 p4 x5 H10))))) (BIf (x6 == (1 : Int)) (BIf (x6 == (1 : Int)) (Ld H10 ((⟨b2, 0, none⟩ : Addr).add 0) fun v13 => DI .i64 v13 fun x8 => BIf (x8 == (3 : Int)) (BIf (decide (((n4 : Nat) : Int) > (0 : Int))) (ixI (IntKind.i64.wrap (((n4 : Nat) : Int) - (1 : Int))) n4 (NN A4 fun a4 => Ld H10 ((a4.add ((IntKind.i64.wrap (((n4 : Nat) : Int) - (1 : Int))).toNat * 8)).add 0) fun v17 => DI .u64 v17 fun x12 => St H10 ((((⟨b2, 0, none⟩ : Addr).add 2).add 0).add 0) (.int .u64 (IntKind.u64.wrap (x12 + (1 : Int)))) fun H12 => W_abacistlaw21_RingPlays.j24 K R13 A2 n2 m2 p3 a1 p4 x5 (⟨b2, 0, none⟩ : Addr) A4 n4 m4 H12)) (W_abacistlaw21_RingPlays.j24 K R13 A2 n2 m2 p3 a1 p4 x5 (⟨b2, 0, none⟩ : Addr) A4 n4 m4 H10)) (W_abacistlaw21_RingPlays.j24 K R13 A2 n2 m2 p3 a1 p4 x5 (⟨b2, 0, none⟩ : Addr) A4 n4 m4 H10)) (BIf (x6 == (4 : Int)) (NN p3 fun a14 => HCalls Tryz.prog 36 #[.pointer (some (a14.add 7))] H10 fun v29 H23 => W_abacistlaw21_RingPlays.j35 K R13 A2 n2 m2 p3 a1 p4 x5 (⟨b2, 0, none⟩ : Addr) H23) (BIf (x6 == (6 : Int)) (HCalls Tryz.prog 47 #[.pointer p4] H10 fun v39 H31 => DI .i64 v39 fun x24 => BIf (x24 != (0 : Int)) (K (.bool false) H31) (LdA H31 a1 3 fun l20 => HCalls Tryz.prog 42 #[.pointer p3, .agg l20.toArray] H31 fun v43 H35 => DSl v43 fun A16 n16 m16 => HCalls Tryz.prog 41 #[.slice A16 n16 m16] H35 fun v47 H39 => DSl v47 fun A20 n20 m20 => BIf (((n20 : Nat) : Int) != (0 : Int)) (K (.bool false) H39) (W_abacistlaw21_RingPlays.j43 K R13 A2 n2 m2 p3 a1 p4 x5 H39))) (BIf (x6 == (7 : Int)) (Ld H10 ((⟨b2, 0, none⟩ : Addr).add 11) fun v69 => DSl v69 fun A29 n29 m29 => (Ld H10 ((⟨b2, 0, none⟩ : Addr).add 1) fun v70 => DI .i64 v70 fun x40 => (Ld H10 (a1.add 1) fun v71 => DI .i64 v71 fun x41 => (x41 ≠ 0 ∧ IntKind.i64 = IntKind.i64 ∧ HCalls Tryz.prog 49 #[.slice A29 n29 m29] H10 fun v72 H52 => DSl v72 fun A30 n30 m30 => HCalls Tryz.prog 48 #[.pointer p3, .int .i64 (IntKind.i64.wrap ((1 : Int) + (Int.tmod (bAnd .i64 x40 (7 : Int)) x41))), .slice A30 n30 m30] H52 fun v73 H53 => DI .i64 v73 fun x42 => W_abacistlaw21_RingPlays.j43 K R13 A2 n2 m2 p3 a1 p4 x5 H53)) ∧ (HCalls Tryz.prog 49 #[.slice A29 n29 m29] H10 fun v74 H54 => DSl v74 fun A31 n31 m31 => Ld H54 (a1.add 1) fun v75 => DI .i64 v75 fun x43 => (x43 ≠ 0 ∧ IntKind.i64 = IntKind.i64 ∧ HCalls Tryz.prog 48 #[.pointer p3, .int .i64 (IntKind.i64.wrap ((1 : Int) + (Int.tmod (bAnd .i64 x40 (7 : Int)) x43))), .slice A31 n31 m31] H54 fun v76 H55 => DI .i64 v76 fun x44 => W_abacistlaw21_RingPlays.j43 K R13 A2 n2 m2 p3 a1 p4 x5 H55))) ∧ (Ld H10 (a1.add 1) fun v77 => DI .i64 v77 fun x45 => (Ld H10 ((⟨b2, 0, none⟩ : Addr).add 1) fun v78 => DI .i64 v78 fun x46 => (x45 ≠ 0 ∧ IntKind.i64 = IntKind.i64 ∧ HCalls Tryz.prog 49 #[.slice A29 n29 m29] H10 fun v79 H56 => DSl v79 fun A32 n32 m32 => HCalls Tryz.prog 48 #[.pointer p3, .int .i64 (IntKind.i64.wrap ((1 : Int) + (Int.tmod (bAnd .i64 x46 (7 : Int)) x45))), .slice A32 n32 m32] H56 fun v80 H57 => DI .i64 v80 fun x47 => W_abacistlaw21_RingPlays.j43 K R13 A2 n2 m2 p3 a1 p4 x5 H57)) ∧ (HCalls Tryz.prog 49 #[.slice A29 n29 m29] H10 fun v81 H58 => DSl v81 fun A33 n33 m33 => Ld H58 ((⟨b2, 0, none⟩ : Addr).add 1) fun v82 => DI .i64 v82 fun x48 => (x45 ≠ 0 ∧ IntKind.i64 = IntKind.i64 ∧ HCalls Tryz.prog 48 #[.pointer p3, .int .i64 (IntKind.i64.wrap ((1 : Int) + (Int.tmod (bAnd .i64 x48 (7 : Int)) x45))), .slice A33 n33 m33] H58 fun v83 H59 => DI .i64 v83 fun x49 => W_abacistlaw21_RingPlays.j43 K R13 A2 n2 m2 p3 a1 p4 x5 H59))) ∧ (HCalls Tryz.prog 49 #[.slice A29 n29 m29] H10 fun v84 H60 => DSl v84 fun A34 n34 m34 => Ld H60 ((⟨b2, 0, none⟩ : Addr).add 1) fun v85 => DI .i64 v85 fun x50 => Ld H60 (a1.add 1) fun v86 => DI .i64 v86 fun x51 => (x51 ≠ 0 ∧ IntKind.i64 = IntKind.i64 ∧ HCalls Tryz.prog 48 #[.pointer p3, .int .i64 (IntKind.i64.wrap ((1 : Int) + (Int.tmod (bAnd .i64 x50 (7 : Int)) x51))), .slice A34 n34 m34] H60 fun v87 H61 => DI .i64 v87 fun x52 => W_abacistlaw21_RingPlays.j43 K R13 A2 n2 m2 p3 a1 p4 x5 H61))) (W_abacistlaw21_RingPlays.j43 K R13 A2 n2 m2 p3 a1 p4 x5 H10))))) (BIf (x6 == (2 : Int)) (BIf (x6 == (2 : Int)) (Ld H10 ((⟨b2, 0, none⟩ : Addr).add 0) fun v14 => DI .i64 v14 fun x9 => BIf (x9 == (3 : Int)) (BIf (decide (((n4 : Nat) : Int) > (0 : Int))) (ixI (IntKind.i64.wrap (((n4 : Nat) : Int) - (1 : Int))) n4 (NN A4 fun a5 => Ld H10 ((a5.add ((IntKind.i64.wrap (((n4 : Nat) : Int) - (1 : Int))).toNat * 8)).add 0) fun v18 => DI .u64 v18 fun x13 => St H10 ((((⟨b2, 0, none⟩ : Addr).add 2).add 0).add 0) (.int .u64 (IntKind.u64.wrap (x13 + (1 : Int)))) fun H13 => W_abacistlaw21_RingPlays.j24 K R13 A2 n2 m2 p3 a1 p4 x5 (⟨b2, 0, none⟩ : Addr) A4 n4 m4 H13)) (W_abacistlaw21_RingPlays.j24 K R13 A2 n2 m2 p3 a1 p4 x5 (⟨b2, 0, none⟩ : Addr) A4 n4 m4 H10)) (W_abacistlaw21_RingPlays.j24 K R13 A2 n2 m2 p3 a1 p4 x5 (⟨b2, 0, none⟩ : Addr) A4 n4 m4 H10)) (BIf (x6 == (4 : Int)) (NN p3 fun a15 => HCalls Tryz.prog 36 #[.pointer (some (a15.add 7))] H10 fun v30 H24 => W_abacistlaw21_RingPlays.j35 K R13 A2 n2 m2 p3 a1 p4 x5 (⟨b2, 0, none⟩ : Addr) H24) (BIf (x6 == (6 : Int)) (HCalls Tryz.prog 47 #[.pointer p4] H10 fun v40 H32 => DI .i64 v40 fun x25 => BIf (x25 != (0 : Int)) (K (.bool false) H32) (LdA H32 a1 3 fun l21 => HCalls Tryz.prog 42 #[.pointer p3, .agg l21.toArray] H32 fun v44 H36 => DSl v44 fun A17 n17 m17 => HCalls Tryz.prog 41 #[.slice A17 n17 m17] H36 fun v48 H40 => DSl v48 fun A21 n21 m21 => BIf (((n21 : Nat) : Int) != (0 : Int)) (K (.bool false) H40) (W_abacistlaw21_RingPlays.j43 K R13 A2 n2 m2 p3 a1 p4 x5 H40))) (BIf (x6 == (7 : Int)) (Ld H10 ((⟨b2, 0, none⟩ : Addr).add 11) fun v88 => DSl v88 fun A35 n35 m35 => (Ld H10 ((⟨b2, 0, none⟩ : Addr).add 1) fun v89 => DI .i64 v89 fun x53 => (Ld H10 (a1.add 1) fun v90 => DI .i64 v90 fun x54 => (x54 ≠ 0 ∧ IntKind.i64 = IntKind.i64 ∧ HCalls Tryz.prog 49 #[.slice A35 n35 m35] H10 fun v91 H62 => DSl v91 fun A36 n36 m36 => HCalls Tryz.prog 48 #[.pointer p3, .int .i64 (IntKind.i64.wrap ((1 : Int) + (Int.tmod (bAnd .i64 x53 (7 : Int)) x54))), .slice A36 n36 m36] H62 fun v92 H63 => DI .i64 v92 fun x55 => W_abacistlaw21_RingPlays.j43 K R13 A2 n2 m2 p3 a1 p4 x5 H63)) ∧ (HCalls Tryz.prog 49 #[.slice A35 n35 m35] H10 fun v93 H64 => DSl v93 fun A37 n37 m37 => Ld H64 (a1.add 1) fun v94 => DI .i64 v94 fun x56 => (x56 ≠ 0 ∧ IntKind.i64 = IntKind.i64 ∧ HCalls Tryz.prog 48 #[.pointer p3, .int .i64 (IntKind.i64.wrap ((1 : Int) + (Int.tmod (bAnd .i64 x53 (7 : Int)) x56))), .slice A37 n37 m37] H64 fun v95 H65 => DI .i64 v95 fun x57 => W_abacistlaw21_RingPlays.j43 K R13 A2 n2 m2 p3 a1 p4 x5 H65))) ∧ (Ld H10 (a1.add 1) fun v96 => DI .i64 v96 fun x58 => (Ld H10 ((⟨b2, 0, none⟩ : Addr).add 1) fun v97 => DI .i64 v97 fun x59 => (x58 ≠ 0 ∧ IntKind.i64 = IntKind.i64 ∧ HCalls Tryz.prog 49 #[.slice A35 n35 m35] H10 fun v98 H66 => DSl v98 fun A38 n38 m38 => HCalls Tryz.prog 48 #[.pointer p3, .int .i64 (IntKind.i64.wrap ((1 : Int) + (Int.tmod (bAnd .i64 x59 (7 : Int)) x58))), .slice A38 n38 m38] H66 fun v99 H67 => DI .i64 v99 fun x60 => W_abacistlaw21_RingPlays.j43 K R13 A2 n2 m2 p3 a1 p4 x5 H67)) ∧ (HCalls Tryz.prog 49 #[.slice A35 n35 m35] H10 fun v100 H68 => DSl v100 fun A39 n39 m39 => Ld H68 ((⟨b2, 0, none⟩ : Addr).add 1) fun v101 => DI .i64 v101 fun x61 => (x58 ≠ 0 ∧ IntKind.i64 = IntKind.i64 ∧ HCalls Tryz.prog 48 #[.pointer p3, .int .i64 (IntKind.i64.wrap ((1 : Int) + (Int.tmod (bAnd .i64 x61 (7 : Int)) x58))), .slice A39 n39 m39] H68 fun v102 H69 => DI .i64 v102 fun x62 => W_abacistlaw21_RingPlays.j43 K R13 A2 n2 m2 p3 a1 p4 x5 H69))) ∧ (HCalls Tryz.prog 49 #[.slice A35 n35 m35] H10 fun v103 H70 => DSl v103 fun A40 n40 m40 => Ld H70 ((⟨b2, 0, none⟩ : Addr).add 1) fun v104 => DI .i64 v104 fun x63 => Ld H70 (a1.add 1) fun v105 => DI .i64 v105 fun x64 => (x64 ≠ 0 ∧ IntKind.i64 = IntKind.i64 ∧ HCalls Tryz.prog 48 #[.pointer p3, .int .i64 (IntKind.i64.wrap ((1 : Int) + (Int.tmod (bAnd .i64 x63 (7 : Int)) x64))), .slice A40 n40 m40] H70 fun v106 H71 => DI .i64 v106 fun x65 => W_abacistlaw21_RingPlays.j43 K R13 A2 n2 m2 p3 a1 p4 x5 H71))) (W_abacistlaw21_RingPlays.j43 K R13 A2 n2 m2 p3 a1 p4 x5 H10))))) (BIf (x6 == (3 : Int)) (Ld H10 ((⟨b2, 0, none⟩ : Addr).add 0) fun v15 => DI .i64 v15 fun x10 => BIf (x10 == (3 : Int)) (BIf (decide (((n4 : Nat) : Int) > (0 : Int))) (ixI (IntKind.i64.wrap (((n4 : Nat) : Int) - (1 : Int))) n4 (NN A4 fun a6 => Ld H10 ((a6.add ((IntKind.i64.wrap (((n4 : Nat) : Int) - (1 : Int))).toNat * 8)).add 0) fun v19 => DI .u64 v19 fun x14 => St H10 ((((⟨b2, 0, none⟩ : Addr).add 2).add 0).add 0) (.int .u64 (IntKind.u64.wrap (x14 + (1 : Int)))) fun H14 => W_abacistlaw21_RingPlays.j24 K R13 A2 n2 m2 p3 a1 p4 x5 (⟨b2, 0, none⟩ : Addr) A4 n4 m4 H14)) (W_abacistlaw21_RingPlays.j24 K R13 A2 n2 m2 p3 a1 p4 x5 (⟨b2, 0, none⟩ : Addr) A4 n4 m4 H10)) (W_abacistlaw21_RingPlays.j24 K R13 A2 n2 m2 p3 a1 p4 x5 (⟨b2, 0, none⟩ : Addr) A4 n4 m4 H10)) (BIf (x6 == (4 : Int)) (NN p3 fun a16 => HCalls Tryz.prog 36 #[.pointer (some (a16.add 7))] H10 fun v31 H25 => W_abacistlaw21_RingPlays.j35 K R13 A2 n2 m2 p3 a1 p4 x5 (⟨b2, 0, none⟩ : Addr) H25) (BIf (x6 == (6 : Int)) (HCalls Tryz.prog 47 #[.pointer p4] H10 fun v41 H33 => DI .i64 v41 fun x26 => BIf (x26 != (0 : Int)) (K (.bool false) H33) (LdA H33 a1 3 fun l22 => HCalls Tryz.prog 42 #[.pointer p3, .agg l22.toArray] H33 fun v45 H37 => DSl v45 fun A18 n18 m18 => HCalls Tryz.prog 41 #[.slice A18 n18 m18] H37 fun v49 H41 => DSl v49 fun A22 n22 m22 => BIf (((n22 : Nat) : Int) != (0 : Int)) (K (.bool false) H41) (W_abacistlaw21_RingPlays.j43 K R13 A2 n2 m2 p3 a1 p4 x5 H41))) (BIf (x6 == (7 : Int)) (Ld H10 ((⟨b2, 0, none⟩ : Addr).add 11) fun v107 => DSl v107 fun A41 n41 m41 => (Ld H10 ((⟨b2, 0, none⟩ : Addr).add 1) fun v108 => DI .i64 v108 fun x66 => (Ld H10 (a1.add 1) fun v109 => DI .i64 v109 fun x67 => (x67 ≠ 0 ∧ IntKind.i64 = IntKind.i64 ∧ HCalls Tryz.prog 49 #[.slice A41 n41 m41] H10 fun v110 H72 => DSl v110 fun A42 n42 m42 => HCalls Tryz.prog 48 #[.pointer p3, .int .i64 (IntKind.i64.wrap ((1 : Int) + (Int.tmod (bAnd .i64 x66 (7 : Int)) x67))), .slice A42 n42 m42] H72 fun v111 H73 => DI .i64 v111 fun x68 => W_abacistlaw21_RingPlays.j43 K R13 A2 n2 m2 p3 a1 p4 x5 H73)) ∧ (HCalls Tryz.prog 49 #[.slice A41 n41 m41] H10 fun v112 H74 => DSl v112 fun A43 n43 m43 => Ld H74 (a1.add 1) fun v113 => DI .i64 v113 fun x69 => (x69 ≠ 0 ∧ IntKind.i64 = IntKind.i64 ∧ HCalls Tryz.prog 48 #[.pointer p3, .int .i64 (IntKind.i64.wrap ((1 : Int) + (Int.tmod (bAnd .i64 x66 (7 : Int)) x69))), .slice A43 n43 m43] H74 fun v114 H75 => DI .i64 v114 fun x70 => W_abacistlaw21_RingPlays.j43 K R13 A2 n2 m2 p3 a1 p4 x5 H75))) ∧ (Ld H10 (a1.add 1) fun v115 => DI .i64 v115 fun x71 => (Ld H10 ((⟨b2, 0, none⟩ : Addr).add 1) fun v116 => DI .i64 v116 fun x72 => (x71 ≠ 0 ∧ IntKind.i64 = IntKind.i64 ∧ HCalls Tryz.prog 49 #[.slice A41 n41 m41] H10 fun v117 H76 => DSl v117 fun A44 n44 m44 => HCalls Tryz.prog 48 #[.pointer p3, .int .i64 (IntKind.i64.wrap ((1 : Int) + (Int.tmod (bAnd .i64 x72 (7 : Int)) x71))), .slice A44 n44 m44] H76 fun v118 H77 => DI .i64 v118 fun x73 => W_abacistlaw21_RingPlays.j43 K R13 A2 n2 m2 p3 a1 p4 x5 H77)) ∧ (HCalls Tryz.prog 49 #[.slice A41 n41 m41] H10 fun v119 H78 => DSl v119 fun A45 n45 m45 => Ld H78 ((⟨b2, 0, none⟩ : Addr).add 1) fun v120 => DI .i64 v120 fun x74 => (x71 ≠ 0 ∧ IntKind.i64 = IntKind.i64 ∧ HCalls Tryz.prog 48 #[.pointer p3, .int .i64 (IntKind.i64.wrap ((1 : Int) + (Int.tmod (bAnd .i64 x74 (7 : Int)) x71))), .slice A45 n45 m45] H78 fun v121 H79 => DI .i64 v121 fun x75 => W_abacistlaw21_RingPlays.j43 K R13 A2 n2 m2 p3 a1 p4 x5 H79))) ∧ (HCalls Tryz.prog 49 #[.slice A41 n41 m41] H10 fun v122 H80 => DSl v122 fun A46 n46 m46 => Ld H80 ((⟨b2, 0, none⟩ : Addr).add 1) fun v123 => DI .i64 v123 fun x76 => Ld H80 (a1.add 1) fun v124 => DI .i64 v124 fun x77 => (x77 ≠ 0 ∧ IntKind.i64 = IntKind.i64 ∧ HCalls Tryz.prog 48 #[.pointer p3, .int .i64 (IntKind.i64.wrap ((1 : Int) + (Int.tmod (bAnd .i64 x76 (7 : Int)) x77))), .slice A46 n46 m46] H80 fun v125 H81 => DI .i64 v125 fun x78 => W_abacistlaw21_RingPlays.j43 K R13 A2 n2 m2 p3 a1 p4 x5 H81))) (W_abacistlaw21_RingPlays.j43 K R13 A2 n2 m2 p3 a1 p4 x5 H10))))))))) (K (.bool true) H)
def W_abacistlaw21_RingPlays (x1 : Int) (A1 : Option Addr) (n1 : Nat) (m1 : Nat) (H : Hp) (K : Value → Hp → Prop) : Prop :=
  HCalls Tryz.prog 29 #[] H fun v1 H1 => DB v1 fun c1 => BIf (!c1) (K (.bool false) H1) (HCalls Tryz.prog 30 #[.slice A1 n1 m1] H1 fun v2 H2 => DB v2 fun c2 => BIf (!c2) (K (.bool true) H2) (HCalls Tryz.prog 31 #[.int .i64 (10 : Int), .int .i64 (32 : Int)] H2 fun v3 H3 => DP v3 fun p1 => ((5 : Int) ≠ 0 ∧ IntKind.i64 = IntKind.i64 ∧ Nw H3 (.obj (.cells #[.int .i64 (0 : Int), .int .i64 (0 : Int), .int .i64 (0 : Int)] 30)) fun b1 H4 => StA H4 (⟨b1, 0, none⟩ : Addr) #[.int .i64 (1 : Int), .int .i64 (IntKind.i64.wrap ((2 : Int) + (Int.tmod (IntKind.i64.wrap x1) (5 : Int)))), .int .i64 (0 : Int)] 3 fun H5 => BIf p1.isNone (K (.bool false) H5) (LdA H5 (⟨b1, 0, none⟩ : Addr) 3 fun l1 => HCalls Tryz.prog 32 #[.pointer p1, .agg l1.toArray] H5 fun v4 H6 => DTup v4 fun l2 => DCons l2 fun v5 l3 => DP v5 fun p2 => DCons l3 fun v6 l4 => DI .i64 v6 fun x2 => DNil l4 (BIf p2.isNone (K (.bool false) H6) (BIf (x2 != (0 : Int)) (K (.bool false) H6) (QCall Tryz.prog 40 #[.pointer p2] H6 fun v7 => DI .i64 v7 fun x3 => Ld H6 ((⟨b1, 0, none⟩ : Addr).add 1) fun v8 => DI .i64 v8 fun x4 => BIf (x3 != x4) (K (.bool false) H6) ((∃ k, W_abacistlaw21_RingPlays.l13 K k A1 n1 m1 p1 (⟨b1, 0, none⟩ : Addr) p2 (0 : Int) H6)))))))))
def W_abacistlaw21_RingPlays.l13.L (K : Value → Hp → Prop) (k : Nat) : Mid := fun E D H =>
  DG (E.get? 1) fun w1 => DSl w1 fun A2 n2 m2 => DG (E.get? 5) fun w5 => DP w5 fun p3 => DG (E.get? 6) fun w6 => DP w6 fun pw6 => NN pw6 fun a1 => DG (E.get? 7) fun w7 => DP w7 fun p4 => DG (E.get? 9) fun w9 => DI .i64 w9 fun x5 => DNilD D (W_abacistlaw21_RingPlays.l13 K k A2 n2 m2 p3 a1 p4 x5 H)
def W_abacistlaw21_RingPlays.l50.L (K : Value → Hp → Prop) (R13 : Option Addr → Nat → Nat → Option Addr → Addr → Option Addr → Int → Hp → Prop) (k : Nat) : Mid := fun E D H =>
  DG (E.get? 1) fun w1 => DSl w1 fun A55 n63 m55 => DG (E.get? 5) fun w5 => DP w5 fun p15 => DG (E.get? 6) fun w6 => DP w6 fun pw6 => NN pw6 fun a22 => DG (E.get? 7) fun w7 => DP w7 fun p16 => DG (E.get? 9) fun w9 => DI .i64 w9 fun x84 => DG (E.get? 18) fun w18 => DSl w18 fun A56 n64 m56 => DG (E.get? 21) fun w21 => DSl w21 fun A57 n65 m57 => DG (E.get? 26) fun w26 => DI .i64 w26 fun x85 => DNilD D (W_abacistlaw21_RingPlays.l50 K R13 k A55 n63 m55 p15 a22 p16 x84 A56 n64 m56 A57 n65 m57 x85 H)
def W_abacistlaw21_RingPlays.Λ50 (_ : Value → Hp → Prop) (_R13 : Option Addr → Nat → Nat → Option Addr → Addr → Option Addr → Int → Hp → Prop) (_R50 : Option Addr → Nat → Nat → Option Addr → Addr → Option Addr → Int → Option Addr → Nat → Nat → Option Addr → Nat → Nat → Int → Hp → Prop) : Cuts := Cuts.none (fun i => match Nat.beq i 42 with | true => some ([2, 5, 9], [0, 0, 2, 6, 0, 16, 62, 126, 0, 256, 768, 2047], 0) | false => match Nat.beq i 31 with | true => some ([], [0, 1, 2, 3, 4, 5, 6, 7, 8, 9, 10, 11, 12, 13, 14, 15, 16, 17, 18, 19, 20, 21, 22, 23, 24, 25, 26, 27, 28, 29, 30, 31, 32], 33) | false => none)
def W_abacistlaw21_RingPlays.Λ13 (K : Value → Hp → Prop) (R13 : Option Addr → Nat → Nat → Option Addr → Addr → Option Addr → Int → Hp → Prop) : Cuts := ⟨fun i => match Nat.beq i 49 with | true => some (fun E D H => DG (E.get? 1) fun w1 => DSl w1 fun A52 n60 m52 => DG (E.get? 5) fun w5 => DP w5 fun p13 => DG (E.get? 6) fun w6 => DP w6 fun pw6 => NN pw6 fun a21 => DG (E.get? 7) fun w7 => DP w7 fun p14 => DG (E.get? 9) fun w9 => DI .i64 w9 fun x83 => DG (E.get? 18) fun w18 => DSl w18 fun A53 n61 m53 => DG (E.get? 21) fun w21 => DSl w21 fun A54 n62 m54 => DNilD D (W_abacistlaw21_RingPlays.j49 K R13 A52 n60 m52 p13 a21 p14 x83 A53 n61 m53 A54 n62 m54 H)) | false => match Nat.beq i 43 with | true => some (fun E D H => DG (E.get? 1) fun w1 => DSl w1 fun A47 n47 m47 => DG (E.get? 5) fun w5 => DP w5 fun p11 => DG (E.get? 6) fun w6 => DP w6 fun pw6 => NN pw6 fun a19 => DG (E.get? 7) fun w7 => DP w7 fun p12 => DG (E.get? 9) fun w9 => DI .i64 w9 fun x79 => DNilD D (W_abacistlaw21_RingPlays.j43 K R13 A47 n47 m47 p11 a19 p12 x79 H)) | false => match Nat.beq i 35 with | true => some (fun E D H => DG (E.get? 1) fun w1 => DSl w1 fun A13 n13 m13 => DG (E.get? 5) fun w5 => DP w5 fun p9 => DG (E.get? 6) fun w6 => DP w6 fun pw6 => NN pw6 fun a17 => DG (E.get? 7) fun w7 => DP w7 fun p10 => DG (E.get? 9) fun w9 => DI .i64 w9 fun x20 => DG (E.get? 10) fun w10 => DP w10 fun pw10 => NN pw10 fun a18 => DNilD D (W_abacistlaw21_RingPlays.j35 K R13 A13 n13 m13 p9 a17 p10 x20 a18 H)) | false => match Nat.beq i 30 with | true => some (fun E D H => DG (E.get? 1) fun w1 => DSl w1 fun A7 n7 m7 => DG (E.get? 5) fun w5 => DP w5 fun p7 => DG (E.get? 6) fun w6 => DP w6 fun pw6 => NN pw6 fun a9 => DG (E.get? 7) fun w7 => DP w7 fun p8 => DG (E.get? 9) fun w9 => DI .i64 w9 fun x17 => DG (E.get? 10) fun w10 => DP w10 fun pw10 => NN pw10 fun a10 => DG (E.get? 11) fun w11 => DSl w11 fun A8 n8 m8 => DG (E.get? 12) fun w12 => DI .i64 w12 fun x18 => DG (E.get? 13) fun w13 => DI .i64 w13 fun x19 => DNilD D (W_abacistlaw21_RingPlays.j30 K R13 A7 n7 m7 p7 a9 p8 x17 a10 A8 n8 m8 x18 x19 H)) | false => match Nat.beq i 24 with | true => some (fun E D H => DG (E.get? 1) fun w1 => DSl w1 fun A5 n5 m5 => DG (E.get? 5) fun w5 => DP w5 fun p5 => DG (E.get? 6) fun w6 => DP w6 fun pw6 => NN pw6 fun a7 => DG (E.get? 7) fun w7 => DP w7 fun p6 => DG (E.get? 9) fun w9 => DI .i64 w9 fun x15 => DG (E.get? 10) fun w10 => DP w10 fun pw10 => NN pw10 fun a8 => DG (E.get? 11) fun w11 => DSl w11 fun A6 n6 m6 => DNilD D (W_abacistlaw21_RingPlays.j24 K R13 A5 n5 m5 p5 a7 p6 x15 a8 A6 n6 m6 H)) | false => none, fun i => match Nat.beq i 50 with | true => some (fun E D H => ∃ k, W_abacistlaw21_RingPlays.l50.L K R13 k E D H) | false => none, (fun i => match Nat.beq i 42 with | true => some ([2, 5, 9], [0, 0, 2, 6, 0, 16, 62, 126, 0, 256, 768, 2047], 0) | false => match Nat.beq i 31 with | true => some ([], [0, 1, 2, 3, 4, 5, 6, 7, 8, 9, 10, 11, 12, 13, 14, 15, 16, 17, 18, 19, 20, 21, 22, 23, 24, 25, 26, 27, 28, 29, 30, 31, 32], 33) | false => none)⟩
def W_abacistlaw21_RingPlays.Λ (K : Value → Hp → Prop) : Cuts := ⟨fun i => none, fun i => match Nat.beq i 13 with | true => some (fun E D H => ∃ k, W_abacistlaw21_RingPlays.l13.L K k E D H) | false => none, (fun i => match Nat.beq i 42 with | true => some ([2, 5, 9], [0, 0, 2, 6, 0, 16, 62, 126, 0, 256, 768, 2047], 0) | false => match Nat.beq i 31 with | true => some ([], [0, 1, 2, 3, 4, 5, 6, 7, 8, 9, 10, 11, 12, 13, 14, 15, 16, 17, 18, 19, 20, 21, 22, 23, 24, 25, 26, 27, 28, 29, 30, 31, 32], 33) | false => none)⟩
theorem W_abacistlaw21_RingPlays.ok (x1 : Int) (A1 : Option Addr) (n1 : Nat) (m1 : Nat) (H : Hp) (K : Value → Hp → Prop) (h : W_abacistlaw21_RingPlays x1 A1 n1 m1 H K) : HCalls Tryz.prog 5 #[.int .u8 x1, .slice A1 n1 m1] H K :=
  hcalls Tryz.func5 rfl (Nat.le_of_ble_eq_true rfl) (hw_safe (Λ := (W_abacistlaw21_RingPlays.Λ K)) mixWabacistlaw21 _ _ _ _ _ (Eq.mp (by kernel_rfl) h) (obs_seq obs_region rfl (obs_seq (obs_seq obs_region rfl (obs_cond (obs_seq obs_region rfl obs_ret) obs_skip)) rfl (obs_seq (obs_seq obs_region rfl (obs_cond (obs_seq obs_region rfl obs_ret) obs_skip)) rfl (obs_seq obs_region rfl (obs_seq obs_region rfl (obs_seq (obs_seq obs_region rfl (obs_cond (obs_seq obs_region rfl obs_ret) obs_skip)) rfl (obs_seq obs_region rfl (obs_seq (obs_seq obs_region rfl (obs_cond (obs_seq obs_region rfl obs_ret) obs_skip)) rfl (obs_seq (obs_seq obs_region rfl (obs_block (obs_loop rfl (fun E D H h => by
      refine Safe.loop' (W_abacistlaw21_RingPlays.l13.L K) (fun E D H h => ?_) (fun k E D H h => ?_) E D H h
      · obtain ⟨w1, e1, g1⟩ := DG.out h; obtain ⟨A2, n2, m2, rfl, g2⟩ := DSl.out g1; obtain ⟨w5, e5, g3⟩ := DG.out g2; obtain ⟨p3, rfl, g4⟩ := DP.out g3; obtain ⟨w6, e6, g5⟩ := DG.out g4; obtain ⟨pw6, rfl, g6⟩ := DP.out g5; obtain ⟨a1, rfl, g7⟩ := NN.out g6; obtain ⟨w7, e7, g8⟩ := DG.out g7; obtain ⟨p4, rfl, g9⟩ := DP.out g8; obtain ⟨w9, e9, g10⟩ := DG.out g9; obtain ⟨x5, rfl, g11⟩ := DI.out g10; obtain ⟨rfl, h'⟩ := DNilD.out g11; exact h'
      · obtain ⟨w1, e1, g1⟩ := DG.out h
        obtain ⟨A2, n2, m2, rfl, g2⟩ := DSl.out g1
        obtain ⟨w5, e5, g3⟩ := DG.out g2
        obtain ⟨p3, rfl, g4⟩ := DP.out g3
        obtain ⟨w6, e6, g5⟩ := DG.out g4
        obtain ⟨pw6, rfl, g6⟩ := DP.out g5
        obtain ⟨a1, rfl, g7⟩ := NN.out g6
        obtain ⟨w7, e7, g8⟩ := DG.out g7
        obtain ⟨p4, rfl, g9⟩ := DP.out g8
        obtain ⟨w9, e9, g10⟩ := DG.out g9
        obtain ⟨x5, rfl, g11⟩ := DI.out g10
        obtain ⟨rfl, h'⟩ := DNilD.out g11
        exact (hw_safe (Λ := (W_abacistlaw21_RingPlays.Λ13 K (W_abacistlaw21_RingPlays.l13 K k))) mixWabacistlaw21 _ _ [(1, .slice A2 n2 m2), (5, .pointer p3), (6, .pointer (some a1)), (7, .pointer p4), (9, .int .i64 x5)] [] H (Eq.mp (by kernel_rfl) h') (obs_seq (obs_seq obs_region rfl (obs_cond obs_skip obs_exit)) rfl (obs_seq (obs_block (obs_seq obs_region rfl (obs_seq obs_region rfl (obs_seqc (obs_seq obs_region rfl (obs_block (obs_seq (obs_seq obs_region rfl (obs_cond obs_skip (obs_seq obs_region rfl (obs_cond obs_skip (obs_seq obs_region rfl (obs_cond obs_skip obs_region)))))) rfl (obs_cond (obs_seqc (obs_seq obs_region rfl (obs_cond obs_region obs_skip)) rfl (fun E D H h => by
            obtain ⟨w1, e1, g1⟩ := DG.out h
            obtain ⟨A5, n5, m5, rfl, g2⟩ := DSl.out g1
            obtain ⟨w5, e5, g3⟩ := DG.out g2
            obtain ⟨p5, rfl, g4⟩ := DP.out g3
            obtain ⟨w6, e6, g5⟩ := DG.out g4
            obtain ⟨pw6, rfl, g6⟩ := DP.out g5
            obtain ⟨a7, rfl, g7⟩ := NN.out g6
            obtain ⟨w7, e7, g8⟩ := DG.out g7
            obtain ⟨p6, rfl, g9⟩ := DP.out g8
            obtain ⟨w9, e9, g10⟩ := DG.out g9
            obtain ⟨x15, rfl, g11⟩ := DI.out g10
            obtain ⟨w10, e10, g12⟩ := DG.out g11
            obtain ⟨pw10, rfl, g13⟩ := DP.out g12
            obtain ⟨a8, rfl, g14⟩ := NN.out g13
            obtain ⟨w11, e11, g15⟩ := DG.out g14
            obtain ⟨A6, n6, m6, rfl, g16⟩ := DSl.out g15
            obtain ⟨rfl, h'⟩ := DNilD.out g16
            exact (hw_safe (Λ := (W_abacistlaw21_RingPlays.Λ13 K (W_abacistlaw21_RingPlays.l13 K k))) mixWabacistlaw21 _ _ [(1, .slice A5 n5 m5), (5, .pointer p5), (6, .pointer (some a7)), (7, .pointer p6), (9, .int .i64 x15), (10, .pointer (some a8)), (11, .slice A6 n6 m6)] [] H (Eq.mp (by kernel_rfl) h') (obs_seq obs_region rfl (obs_seq obs_region rfl (obs_seqc (obs_seq obs_region rfl (obs_cond obs_region (obs_seq obs_region rfl (obs_cond obs_region obs_skip)))) rfl (fun E D H h => by
                obtain ⟨w1, e1, g1⟩ := DG.out h
                obtain ⟨A7, n7, m7, rfl, g2⟩ := DSl.out g1
                obtain ⟨w5, e5, g3⟩ := DG.out g2
                obtain ⟨p7, rfl, g4⟩ := DP.out g3
                obtain ⟨w6, e6, g5⟩ := DG.out g4
                obtain ⟨pw6, rfl, g6⟩ := DP.out g5
                obtain ⟨a9, rfl, g7⟩ := NN.out g6
                obtain ⟨w7, e7, g8⟩ := DG.out g7
                obtain ⟨p8, rfl, g9⟩ := DP.out g8
                obtain ⟨w9, e9, g10⟩ := DG.out g9
                obtain ⟨x17, rfl, g11⟩ := DI.out g10
                obtain ⟨w10, e10, g12⟩ := DG.out g11
                obtain ⟨pw10, rfl, g13⟩ := DP.out g12
                obtain ⟨a10, rfl, g14⟩ := NN.out g13
                obtain ⟨w11, e11, g15⟩ := DG.out g14
                obtain ⟨A8, n8, m8, rfl, g16⟩ := DSl.out g15
                obtain ⟨w12, e12, g17⟩ := DG.out g16
                obtain ⟨x18, rfl, g18⟩ := DI.out g17
                obtain ⟨w13, e13, g19⟩ := DG.out g18
                obtain ⟨x19, rfl, g20⟩ := DI.out g19
                obtain ⟨rfl, h'⟩ := DNilD.out g20
                exact (hw_safe (Λ := (W_abacistlaw21_RingPlays.Λ13 K (W_abacistlaw21_RingPlays.l13 K k))) mixWabacistlaw21 _ _ [(1, .slice A7 n7 m7), (5, .pointer p7), (6, .pointer (some a9)), (7, .pointer p8), (9, .int .i64 x17), (10, .pointer (some a10)), (11, .slice A8 n8 m8), (12, .int .i64 x18), (13, .int .i64 x19)] [] H (Eq.mp (by kernel_rfl) h') (obs_seq obs_region rfl (obs_seq obs_region rfl (obs_cond (obs_seq obs_region rfl obs_ret) obs_skip)))).weaken (EnvLe.cons e1 (EnvLe.cons e5 (EnvLe.cons e6 (EnvLe.cons e7 (EnvLe.cons e9 (EnvLe.cons e10 (EnvLe.cons e11 (EnvLe.cons e12 (EnvLe.cons e13 (EnvLe.nil _)))))))))) (Hp.le_refl _)))))).weaken (EnvLe.cons e1 (EnvLe.cons e5 (EnvLe.cons e6 (EnvLe.cons e7 (EnvLe.cons e9 (EnvLe.cons e10 (EnvLe.cons e11 (EnvLe.nil _)))))))) (Hp.le_refl _))) (obs_seq obs_region rfl (obs_cond (obs_seqc obs_region rfl (fun E D H h => by
            obtain ⟨w1, e1, g1⟩ := DG.out h
            obtain ⟨A13, n13, m13, rfl, g2⟩ := DSl.out g1
            obtain ⟨w5, e5, g3⟩ := DG.out g2
            obtain ⟨p9, rfl, g4⟩ := DP.out g3
            obtain ⟨w6, e6, g5⟩ := DG.out g4
            obtain ⟨pw6, rfl, g6⟩ := DP.out g5
            obtain ⟨a17, rfl, g7⟩ := NN.out g6
            obtain ⟨w7, e7, g8⟩ := DG.out g7
            obtain ⟨p10, rfl, g9⟩ := DP.out g8
            obtain ⟨w9, e9, g10⟩ := DG.out g9
            obtain ⟨x20, rfl, g11⟩ := DI.out g10
            obtain ⟨w10, e10, g12⟩ := DG.out g11
            obtain ⟨pw10, rfl, g13⟩ := DP.out g12
            obtain ⟨a18, rfl, g14⟩ := NN.out g13
            obtain ⟨rfl, h'⟩ := DNilD.out g14
            exact (hw_safe (Λ := (W_abacistlaw21_RingPlays.Λ13 K (W_abacistlaw21_RingPlays.l13 K k))) mixWabacistlaw21 _ _ [(1, .slice A13 n13 m13), (5, .pointer p9), (6, .pointer (some a17)), (7, .pointer p10), (9, .int .i64 x20), (10, .pointer (some a18))] [] H (Eq.mp (by kernel_rfl) h') (obs_seq obs_region rfl (obs_seq obs_region rfl (obs_cond (obs_seq obs_region rfl obs_ret) obs_skip)))).weaken (EnvLe.cons e1 (EnvLe.cons e5 (EnvLe.cons e6 (EnvLe.cons e7 (EnvLe.cons e9 (EnvLe.cons e10 (EnvLe.nil _))))))) (Hp.le_refl _))) (obs_seq obs_region rfl (obs_cond (obs_seq obs_region rfl (obs_cond (obs_seq obs_region rfl obs_ret) obs_skip)) (obs_seq obs_region rfl (obs_cond obs_region obs_skip)))))))))) rfl (fun E D H h => by
            obtain ⟨w1, e1, g1⟩ := DG.out h
            obtain ⟨A47, n47, m47, rfl, g2⟩ := DSl.out g1
            obtain ⟨w5, e5, g3⟩ := DG.out g2
            obtain ⟨p11, rfl, g4⟩ := DP.out g3
            obtain ⟨w6, e6, g5⟩ := DG.out g4
            obtain ⟨pw6, rfl, g6⟩ := DP.out g5
            obtain ⟨a19, rfl, g7⟩ := NN.out g6
            obtain ⟨w7, e7, g8⟩ := DG.out g7
            obtain ⟨p12, rfl, g9⟩ := DP.out g8
            obtain ⟨w9, e9, g10⟩ := DG.out g9
            obtain ⟨x79, rfl, g11⟩ := DI.out g10
            obtain ⟨rfl, h'⟩ := DNilD.out g11
            exact (hw_safe (Λ := (W_abacistlaw21_RingPlays.Λ13 K (W_abacistlaw21_RingPlays.l13 K k))) mixWabacistlaw21 _ _ [(1, .slice A47 n47 m47), (5, .pointer p11), (6, .pointer (some a19)), (7, .pointer p12), (9, .int .i64 x79)] [] H (Eq.mp (by kernel_rfl) h') (obs_seq obs_region rfl (obs_seq obs_region rfl (obs_seq obs_region rfl (obs_seq obs_region rfl (obs_seqc (obs_seq obs_region rfl (obs_cond (obs_seq obs_region rfl obs_ret) obs_skip)) rfl (fun E D H h => by
                obtain ⟨w1, e1, g1⟩ := DG.out h
                obtain ⟨A52, n60, m52, rfl, g2⟩ := DSl.out g1
                obtain ⟨w5, e5, g3⟩ := DG.out g2
                obtain ⟨p13, rfl, g4⟩ := DP.out g3
                obtain ⟨w6, e6, g5⟩ := DG.out g4
                obtain ⟨pw6, rfl, g6⟩ := DP.out g5
                obtain ⟨a21, rfl, g7⟩ := NN.out g6
                obtain ⟨w7, e7, g8⟩ := DG.out g7
                obtain ⟨p14, rfl, g9⟩ := DP.out g8
                obtain ⟨w9, e9, g10⟩ := DG.out g9
                obtain ⟨x83, rfl, g11⟩ := DI.out g10
                obtain ⟨w18, e18, g12⟩ := DG.out g11
                obtain ⟨A53, n61, m53, rfl, g13⟩ := DSl.out g12
                obtain ⟨w21, e21, g14⟩ := DG.out g13
                obtain ⟨A54, n62, m54, rfl, g15⟩ := DSl.out g14
                obtain ⟨rfl, h'⟩ := DNilD.out g15
                exact (hw_safe (Λ := (W_abacistlaw21_RingPlays.Λ13 K (W_abacistlaw21_RingPlays.l13 K k))) mixWabacistlaw21 _ _ [(1, .slice A52 n60 m52), (5, .pointer p13), (6, .pointer (some a21)), (7, .pointer p14), (9, .int .i64 x83), (18, .slice A53 n61 m53), (21, .slice A54 n62 m54)] [] H (Eq.mp (by kernel_rfl) h') (obs_seq (obs_seq obs_region rfl (obs_block (obs_loop rfl (fun E D H h => by
                    refine Safe.loop' (W_abacistlaw21_RingPlays.l50.L K (W_abacistlaw21_RingPlays.l13 K k)) (fun E D H h => ?_) (fun k E D H h => ?_) E D H h
                    · obtain ⟨w1, e1, g1⟩ := DG.out h; obtain ⟨A55, n63, m55, rfl, g2⟩ := DSl.out g1; obtain ⟨w5, e5, g3⟩ := DG.out g2; obtain ⟨p15, rfl, g4⟩ := DP.out g3; obtain ⟨w6, e6, g5⟩ := DG.out g4; obtain ⟨pw6, rfl, g6⟩ := DP.out g5; obtain ⟨a22, rfl, g7⟩ := NN.out g6; obtain ⟨w7, e7, g8⟩ := DG.out g7; obtain ⟨p16, rfl, g9⟩ := DP.out g8; obtain ⟨w9, e9, g10⟩ := DG.out g9; obtain ⟨x84, rfl, g11⟩ := DI.out g10; obtain ⟨w18, e18, g12⟩ := DG.out g11; obtain ⟨A56, n64, m56, rfl, g13⟩ := DSl.out g12; obtain ⟨w21, e21, g14⟩ := DG.out g13; obtain ⟨A57, n65, m57, rfl, g15⟩ := DSl.out g14; obtain ⟨w26, e26, g16⟩ := DG.out g15; obtain ⟨x85, rfl, g17⟩ := DI.out g16; obtain ⟨rfl, h'⟩ := DNilD.out g17; exact h'
                    · obtain ⟨w1, e1, g1⟩ := DG.out h
                      obtain ⟨A55, n63, m55, rfl, g2⟩ := DSl.out g1
                      obtain ⟨w5, e5, g3⟩ := DG.out g2
                      obtain ⟨p15, rfl, g4⟩ := DP.out g3
                      obtain ⟨w6, e6, g5⟩ := DG.out g4
                      obtain ⟨pw6, rfl, g6⟩ := DP.out g5
                      obtain ⟨a22, rfl, g7⟩ := NN.out g6
                      obtain ⟨w7, e7, g8⟩ := DG.out g7
                      obtain ⟨p16, rfl, g9⟩ := DP.out g8
                      obtain ⟨w9, e9, g10⟩ := DG.out g9
                      obtain ⟨x84, rfl, g11⟩ := DI.out g10
                      obtain ⟨w18, e18, g12⟩ := DG.out g11
                      obtain ⟨A56, n64, m56, rfl, g13⟩ := DSl.out g12
                      obtain ⟨w21, e21, g14⟩ := DG.out g13
                      obtain ⟨A57, n65, m57, rfl, g15⟩ := DSl.out g14
                      obtain ⟨w26, e26, g16⟩ := DG.out g15
                      obtain ⟨x85, rfl, g17⟩ := DI.out g16
                      obtain ⟨rfl, h'⟩ := DNilD.out g17
                      exact (hw_safe (Λ := (W_abacistlaw21_RingPlays.Λ50 K (W_abacistlaw21_RingPlays.l13 K k) (W_abacistlaw21_RingPlays.l50 K (W_abacistlaw21_RingPlays.l13 K k) k))) mixWabacistlaw21 _ _ [(1, .slice A55 n63 m55), (5, .pointer p15), (6, .pointer (some a22)), (7, .pointer p16), (9, .int .i64 x84), (18, .slice A56 n64 m56), (21, .slice A57 n65 m57), (26, .int .i64 x85)] [] H (Eq.mp (by kernel_rfl) h') (obs_seq (obs_seq obs_region rfl (obs_cond obs_skip obs_exit)) rfl (obs_seq (obs_block (obs_seq obs_region rfl (obs_cond (obs_seq obs_region rfl obs_ret) obs_skip))) rfl obs_region))).weaken (EnvLe.cons e1 (EnvLe.cons e5 (EnvLe.cons e6 (EnvLe.cons e7 (EnvLe.cons e9 (EnvLe.cons e18 (EnvLe.cons e21 (EnvLe.cons e26 (EnvLe.nil _))))))))) (Hp.le_refl _))))) rfl (obs_seq obs_region rfl (obs_seq obs_region rfl (obs_cond (obs_seq obs_region rfl obs_ret) obs_skip))))).weaken (EnvLe.cons e1 (EnvLe.cons e5 (EnvLe.cons e6 (EnvLe.cons e7 (EnvLe.cons e9 (EnvLe.cons e18 (EnvLe.cons e21 (EnvLe.nil _)))))))) (Hp.le_refl _)))))))).weaken (EnvLe.cons e1 (EnvLe.cons e5 (EnvLe.cons e6 (EnvLe.cons e7 (EnvLe.cons e9 (EnvLe.nil _)))))) (Hp.le_refl _)))))) rfl obs_region))).weaken (EnvLe.cons e1 (EnvLe.cons e5 (EnvLe.cons e6 (EnvLe.cons e7 (EnvLe.cons e9 (EnvLe.nil _)))))) (Hp.le_refl _))))) rfl (obs_seq obs_region rfl obs_ret)))))))))))

-- abacistlaw21.awake
def W_abacistlaw21_awake (H : Hp) (K : Value → Hp → Prop) : Prop :=
  HCalls Tryz.prog 31 #[.int .i64 (10 : Int), .int .i64 (32 : Int)] H fun v1 H1 => DP v1 fun p1 => BIf p1.isNone (K (.bool false) H1) (HCalls Tryz.prog 32 #[.pointer p1, .agg #[.int .i64 (1 : Int), .int .i64 (3 : Int), .int .i64 (0 : Int)]] H1 fun v2 H2 => DTup v2 fun l1 => DCons l1 fun v3 l2 => DP v3 fun p2 => DCons l2 fun v4 l3 => DI .i64 v4 fun x1 => DNil l3 (Nw H2 (.obj (.cells #[.int .u64 (0 : Int), .int .i64 (0 : Int), .int .i64 (0 : Int), .int .i64 (0 : Int), .int .i64 (0 : Int), .int .u32 (0 : Int), .int .u32 (0 : Int), .int .u32 (0 : Int)] 87)) fun b1 H3 => StA H3 (⟨b1, 0, none⟩ : Addr) #[.int .u64 (1 : Int), .int .i64 (1 : Int), .int .i64 (2 : Int), .int .i64 (0 : Int), .int .i64 (0 : Int), .int .u32 (1 : Int), .int .u32 (0 : Int), .int .u32 (0 : Int)] 8 fun H4 => BIf p2.isNone (K (.bool false) H4) (BIf (x1 != (0 : Int)) (K (.bool false) H4) (LdA H4 (⟨b1, 0, none⟩ : Addr) 8 fun l4 => HCalls Tryz.prog 34 #[.pointer p2, .agg l4.toArray] H4 fun v5 H5 => DI .i64 v5 fun x2 => BIf (x2 != (0 : Int)) (K (.bool false) H5) (NN p1 fun a1 => HCalls Tryz.prog 36 #[.pointer (some (a1.add 7))] H5 fun v6 H6 => HCalls Tryz.prog 37 #[.pointer p1, .slice none 0 0] H6 fun v7 H7 => DI .i64 v7 fun x3 => HCalls Tryz.prog 38 #[.pointer p2] H7 fun v8 H8 => DTup v8 fun l5 => DCons l5 fun v9 l6 => DA v9 fun y1 => DCons l6 fun v10 l7 => DB v10 fun c1 => DCons l7 fun v11 l8 => DI .i64 v11 fun x4 => DNil l8 (Nw H8 (.obj (.cells #[.int .u64 (0 : Int), .int .i64 (0 : Int), .int .i64 (0 : Int), .int .i64 (0 : Int), .int .i64 (0 : Int), .int .u32 (0 : Int), .int .u32 (0 : Int), .int .u32 (0 : Int)] 87)) fun b2 H9 => StA H9 (⟨b2, 0, none⟩ : Addr) y1 8 fun H10 => BIf c1 (BIf (x4 == (0 : Int)) (LdA H10 (⟨b2, 0, none⟩ : Addr) 8 fun l9 => LdA H10 (⟨b1, 0, none⟩ : Addr) 8 fun l10 => EqV Tryz.prog .eql 87 (.agg l9.toArray) (.agg l10.toArray) fun c2 => K (.bool c2) H10) (K (.bool false) H10)) (K (.bool false) H10)))))))
def W_abacistlaw21_awake.Λ (_ : Value → Hp → Prop) : Cuts := Cuts.none (fun _ => none)
theorem W_abacistlaw21_awake.ok (H : Hp) (K : Value → Hp → Prop) (h : W_abacistlaw21_awake H K) : HCalls Tryz.prog 29 #[] H K :=
  hcalls Tryz.func29 rfl (Nat.le_of_ble_eq_true rfl) (hw_safe (Λ := Cuts.none (fun _ => none)) mixWabacistlaw21 _ _ _ _ _ (Eq.mp (by kernel_rfl) h) (obs_none _ _ _ _ _))

-- abacistlaw21.few
def W_abacistlaw21_few.l4 (K : Value → Hp → Prop) : Nat → Option Addr → Nat → Nat → Int → Hp → Prop
  | 0, _, _, _, _, _ => False
  | k + 1, A2, n2, m2, x1, H =>
    let R4 := W_abacistlaw21_few.l4 K k
    BIf (decide (x1 < ((n2 : Nat) : Int))) (ixI x1 n2 (NN A2 fun a1 => Ld H ((a1.add (x1.toNat * 12)).add 10) fun v1 => DSl v1 fun A3 n3 m3 => BIf (decide (((n3 : Nat) : Int) > (20 : Int))) (K (.bool false) H) (ixI x1 n2 (NN A2 fun a2 => Ld H ((a2.add (x1.toNat * 12)).add 11) fun v2 => DSl v2 fun A4 n4 m4 => BIf (decide (((n4 : Nat) : Int) > (100 : Int))) (K (.bool false) H) (R4 A2 n2 m2 (IntKind.i64.wrap (x1 + (1 : Int))) H))))) (K (.bool true) H)
def W_abacistlaw21_few (A1 : Option Addr) (n1 : Nat) (m1 : Nat) (H : Hp) (K : Value → Hp → Prop) : Prop :=
  BIf (decide (((n1 : Nat) : Int) > (30 : Int))) (K (.bool false) H) ((∃ k, W_abacistlaw21_few.l4 K k A1 n1 m1 (0 : Int) H))
def W_abacistlaw21_few.l4.L (K : Value → Hp → Prop) (k : Nat) : Mid := fun E D H =>
  DG (E.get? 0) fun w0 => DSl w0 fun A2 n2 m2 => DG (E.get? 3) fun w3 => DI .i64 w3 fun x1 => DNilD D (W_abacistlaw21_few.l4 K k A2 n2 m2 x1 H)
def W_abacistlaw21_few.Λ4 (_ : Value → Hp → Prop) (_R4 : Option Addr → Nat → Nat → Int → Hp → Prop) : Cuts := Cuts.none (fun _ => none)
def W_abacistlaw21_few.Λ (K : Value → Hp → Prop) : Cuts := ⟨fun i => none, fun i => match Nat.beq i 4 with | true => some (fun E D H => ∃ k, W_abacistlaw21_few.l4.L K k E D H) | false => none, (fun _ => none)⟩
theorem W_abacistlaw21_few.ok (A1 : Option Addr) (n1 : Nat) (m1 : Nat) (H : Hp) (K : Value → Hp → Prop) (h : W_abacistlaw21_few A1 n1 m1 H K) : HCalls Tryz.prog 30 #[.slice A1 n1 m1] H K :=
  hcalls Tryz.func30 rfl (Nat.le_of_ble_eq_true rfl) (hw_safe (Λ := (W_abacistlaw21_few.Λ K)) mixWabacistlaw21 _ _ _ _ _ (Eq.mp (by kernel_rfl) h) (obs_seq obs_region rfl (obs_seq (obs_seq obs_region rfl (obs_cond (obs_seq obs_region rfl obs_ret) obs_skip)) rfl (obs_seq (obs_seq obs_region rfl (obs_block (obs_loop rfl (fun E D H h => by
      refine Safe.loop' (W_abacistlaw21_few.l4.L K) (fun E D H h => ?_) (fun k E D H h => ?_) E D H h
      · obtain ⟨w0, e0, g1⟩ := DG.out h; obtain ⟨A2, n2, m2, rfl, g2⟩ := DSl.out g1; obtain ⟨w3, e3, g3⟩ := DG.out g2; obtain ⟨x1, rfl, g4⟩ := DI.out g3; obtain ⟨rfl, h'⟩ := DNilD.out g4; exact h'
      · obtain ⟨w0, e0, g1⟩ := DG.out h
        obtain ⟨A2, n2, m2, rfl, g2⟩ := DSl.out g1
        obtain ⟨w3, e3, g3⟩ := DG.out g2
        obtain ⟨x1, rfl, g4⟩ := DI.out g3
        obtain ⟨rfl, h'⟩ := DNilD.out g4
        exact (hw_safe (Λ := (W_abacistlaw21_few.Λ4 K (W_abacistlaw21_few.l4 K k))) mixWabacistlaw21 _ _ [(0, .slice A2 n2 m2), (3, .int .i64 x1)] [] H (Eq.mp (by kernel_rfl) h') (obs_seq (obs_seq obs_region rfl (obs_cond obs_skip obs_exit)) rfl (obs_seq (obs_block (obs_seq obs_region rfl (obs_cond (obs_seq obs_region rfl obs_ret) obs_skip))) rfl obs_region))).weaken (EnvLe.cons e0 (EnvLe.cons e3 (EnvLe.nil _))) (Hp.le_refl _))))) rfl (obs_seq obs_region rfl obs_ret)))))

-- abacistlaw21.stands
def W_abacistlaw21_stands.j10 (K : Value → Hp → Prop) (R3 : Option Addr → Nat → Nat → Option Addr → Nat → Nat → Int → Hp → Prop) (A6 : Option Addr) (n6 : Nat) (m6 : Nat) (A7 : Option Addr) (n7 : Nat) (m7 : Nat) (x8 : Int) (a4 : Addr) (x9 : Int) (H : Hp) : Prop :=
  slB n7 m7 none (some x9) fun n8 n9 => slB n7 m7 (some x9) none fun n10 n11 => (Nw H (.row [] 87 0) fun b2 H4 => (AppK Tryz.prog 87 (.slice (some ⟨b2, 0, none⟩) 0 0) (.slice (slA A7 m7 n8 8) (n9 - n8) (m7 - n8)) H4 fun v8 H5 => DSl v8 fun A8 n12 m8 => LdA H5 a4 8 fun l4 => DCons l4.toArray.toList fun v9 l5 => DI .u64 v9 fun x10 => DCons l5 fun v10 l6 => DI .i64 v10 fun x11 => DCons l6 fun v11 l7 => DI .i64 v11 fun x12 => DCons l7 fun v12 l8 => DI .i64 v12 fun x13 => DCons l8 fun v13 l9 => DI .i64 v13 fun x14 => DCons l9 fun v14 l10 => DI .u32 v14 fun x15 => DCons l10 fun v15 l11 => DI .u32 v15 fun x16 => DCons l11 fun v16 l12 => DI .u32 v16 fun x17 => DNil l12 (Nw H5 (.row [.int .u64 x10, .int .i64 x11, .int .i64 x12, .int .i64 x13, .int .i64 x14, .int .u32 x15, .int .u32 x16, .int .u32 x17] 87 8) fun b3 H6 => AppK Tryz.prog 87 (.slice A8 n12 m8) (.slice (some ⟨b3, 0, none⟩) 1 1) H6 fun v17 H7 => DSl v17 fun A9 n13 m9 => AppK Tryz.prog 87 (.slice A9 n13 m9) (.slice (slA A7 m7 n10 8) (n11 - n10) (m7 - n10)) H7 fun v18 H8 => DSl v18 fun A10 n14 m10 => R3 A6 n6 m6 A10 n14 m10 (IntKind.i64.wrap (x8 + (1 : Int))) H8)) ∧ (LdA H4 a4 8 fun l13 => (AppK Tryz.prog 87 (.slice (some ⟨b2, 0, none⟩) 0 0) (.slice (slA A7 m7 n8 8) (n9 - n8) (m7 - n8)) H4 fun v19 H9 => DSl v19 fun A11 n15 m11 => DCons l13.toArray.toList fun v20 l14 => DI .u64 v20 fun x18 => DCons l14 fun v21 l15 => DI .i64 v21 fun x19 => DCons l15 fun v22 l16 => DI .i64 v22 fun x20 => DCons l16 fun v23 l17 => DI .i64 v23 fun x21 => DCons l17 fun v24 l18 => DI .i64 v24 fun x22 => DCons l18 fun v25 l19 => DI .u32 v25 fun x23 => DCons l19 fun v26 l20 => DI .u32 v26 fun x24 => DCons l20 fun v27 l21 => DI .u32 v27 fun x25 => DNil l21 (Nw H9 (.row [.int .u64 x18, .int .i64 x19, .int .i64 x20, .int .i64 x21, .int .i64 x22, .int .u32 x23, .int .u32 x24, .int .u32 x25] 87 8) fun b4 H10 => AppK Tryz.prog 87 (.slice A11 n15 m11) (.slice (some ⟨b4, 0, none⟩) 1 1) H10 fun v28 H11 => DSl v28 fun A12 n16 m12 => AppK Tryz.prog 87 (.slice A12 n16 m12) (.slice (slA A7 m7 n10 8) (n11 - n10) (m7 - n10)) H11 fun v29 H12 => DSl v29 fun A13 n17 m13 => R3 A6 n6 m6 A13 n17 m13 (IntKind.i64.wrap (x8 + (1 : Int))) H12)) ∧ (DCons l13.toArray.toList fun v30 l22 => DI .u64 v30 fun x26 => DCons l22 fun v31 l23 => DI .i64 v31 fun x27 => DCons l23 fun v32 l24 => DI .i64 v32 fun x28 => DCons l24 fun v33 l25 => DI .i64 v33 fun x29 => DCons l25 fun v34 l26 => DI .i64 v34 fun x30 => DCons l26 fun v35 l27 => DI .u32 v35 fun x31 => DCons l27 fun v36 l28 => DI .u32 v36 fun x32 => DCons l28 fun v37 l29 => DI .u32 v37 fun x33 => DNil l29 (Nw H4 (.row [.int .u64 x26, .int .i64 x27, .int .i64 x28, .int .i64 x29, .int .i64 x30, .int .u32 x31, .int .u32 x32, .int .u32 x33] 87 8) fun b5 H13 => AppK Tryz.prog 87 (.slice (some ⟨b2, 0, none⟩) 0 0) (.slice (slA A7 m7 n8 8) (n9 - n8) (m7 - n8)) H13 fun v38 H14 => DSl v38 fun A14 n18 m14 => AppK Tryz.prog 87 (.slice A14 n18 m14) (.slice (some ⟨b5, 0, none⟩) 1 1) H14 fun v39 H15 => DSl v39 fun A15 n19 m15 => AppK Tryz.prog 87 (.slice A15 n19 m15) (.slice (slA A7 m7 n10 8) (n11 - n10) (m7 - n10)) H15 fun v40 H16 => DSl v40 fun A16 n20 m16 => R3 A6 n6 m6 A16 n20 m16 (IntKind.i64.wrap (x8 + (1 : Int))) H16)))) ∧ (LdA H a4 8 fun l30 => (Nw H (.row [] 87 0) fun b6 H17 => (AppK Tryz.prog 87 (.slice (some ⟨b6, 0, none⟩) 0 0) (.slice (slA A7 m7 n8 8) (n9 - n8) (m7 - n8)) H17 fun v41 H18 => DSl v41 fun A17 n21 m17 => DCons l30.toArray.toList fun v42 l31 => DI .u64 v42 fun x34 => DCons l31 fun v43 l32 => DI .i64 v43 fun x35 => DCons l32 fun v44 l33 => DI .i64 v44 fun x36 => DCons l33 fun v45 l34 => DI .i64 v45 fun x37 => DCons l34 fun v46 l35 => DI .i64 v46 fun x38 => DCons l35 fun v47 l36 => DI .u32 v47 fun x39 => DCons l36 fun v48 l37 => DI .u32 v48 fun x40 => DCons l37 fun v49 l38 => DI .u32 v49 fun x41 => DNil l38 (Nw H18 (.row [.int .u64 x34, .int .i64 x35, .int .i64 x36, .int .i64 x37, .int .i64 x38, .int .u32 x39, .int .u32 x40, .int .u32 x41] 87 8) fun b7 H19 => AppK Tryz.prog 87 (.slice A17 n21 m17) (.slice (some ⟨b7, 0, none⟩) 1 1) H19 fun v50 H20 => DSl v50 fun A18 n22 m18 => AppK Tryz.prog 87 (.slice A18 n22 m18) (.slice (slA A7 m7 n10 8) (n11 - n10) (m7 - n10)) H20 fun v51 H21 => DSl v51 fun A19 n23 m19 => R3 A6 n6 m6 A19 n23 m19 (IntKind.i64.wrap (x8 + (1 : Int))) H21)) ∧ (DCons l30.toArray.toList fun v52 l39 => DI .u64 v52 fun x42 => DCons l39 fun v53 l40 => DI .i64 v53 fun x43 => DCons l40 fun v54 l41 => DI .i64 v54 fun x44 => DCons l41 fun v55 l42 => DI .i64 v55 fun x45 => DCons l42 fun v56 l43 => DI .i64 v56 fun x46 => DCons l43 fun v57 l44 => DI .u32 v57 fun x47 => DCons l44 fun v58 l45 => DI .u32 v58 fun x48 => DCons l45 fun v59 l46 => DI .u32 v59 fun x49 => DNil l46 (Nw H17 (.row [.int .u64 x42, .int .i64 x43, .int .i64 x44, .int .i64 x45, .int .i64 x46, .int .u32 x47, .int .u32 x48, .int .u32 x49] 87 8) fun b8 H22 => AppK Tryz.prog 87 (.slice (some ⟨b6, 0, none⟩) 0 0) (.slice (slA A7 m7 n8 8) (n9 - n8) (m7 - n8)) H22 fun v60 H23 => DSl v60 fun A20 n24 m20 => AppK Tryz.prog 87 (.slice A20 n24 m20) (.slice (some ⟨b8, 0, none⟩) 1 1) H23 fun v61 H24 => DSl v61 fun A21 n25 m21 => AppK Tryz.prog 87 (.slice A21 n25 m21) (.slice (slA A7 m7 n10 8) (n11 - n10) (m7 - n10)) H24 fun v62 H25 => DSl v62 fun A22 n26 m22 => R3 A6 n6 m6 A22 n26 m22 (IntKind.i64.wrap (x8 + (1 : Int))) H25))) ∧ (DCons l30.toArray.toList fun v63 l47 => DI .u64 v63 fun x50 => DCons l47 fun v64 l48 => DI .i64 v64 fun x51 => DCons l48 fun v65 l49 => DI .i64 v65 fun x52 => DCons l49 fun v66 l50 => DI .i64 v66 fun x53 => DCons l50 fun v67 l51 => DI .i64 v67 fun x54 => DCons l51 fun v68 l52 => DI .u32 v68 fun x55 => DCons l52 fun v69 l53 => DI .u32 v69 fun x56 => DCons l53 fun v70 l54 => DI .u32 v70 fun x57 => DNil l54 (Nw H (.row [.int .u64 x50, .int .i64 x51, .int .i64 x52, .int .i64 x53, .int .i64 x54, .int .u32 x55, .int .u32 x56, .int .u32 x57] 87 8) fun b9 H26 => Nw H26 (.row [] 87 0) fun b10 H27 => AppK Tryz.prog 87 (.slice (some ⟨b10, 0, none⟩) 0 0) (.slice (slA A7 m7 n8 8) (n9 - n8) (m7 - n8)) H27 fun v71 H28 => DSl v71 fun A23 n27 m23 => AppK Tryz.prog 87 (.slice A23 n27 m23) (.slice (some ⟨b9, 0, none⟩) 1 1) H28 fun v72 H29 => DSl v72 fun A24 n28 m24 => AppK Tryz.prog 87 (.slice A24 n28 m24) (.slice (slA A7 m7 n10 8) (n11 - n10) (m7 - n10)) H29 fun v73 H30 => DSl v73 fun A25 n29 m25 => R3 A6 n6 m6 A25 n29 m25 (IntKind.i64.wrap (x8 + (1 : Int))) H30)))
def W_abacistlaw21_stands.l8 (K : Value → Hp → Prop) (R3 : Option Addr → Nat → Nat → Option Addr → Nat → Nat → Int → Hp → Prop) : Nat → Option Addr → Nat → Nat → Option Addr → Nat → Nat → Int → Addr → Int → Hp → Prop
  | 0, _, _, _, _, _, _, _, _, _, _ => False
  | k + 1, A4, n4, m4, A5, n5, m5, x4, a2, x5, H =>
    let R8 := W_abacistlaw21_stands.l8 K R3 k
    BIf (decide (x5 < ((n5 : Nat) : Int))) (ixI x5 n5 (NN A5 fun a3 => Ld H ((a3.add (x5.toNat * 8)).add 0) fun v6 => DI .u64 v6 fun x6 => Ld H (a2.add 0) fun v7 => DI .u64 v7 fun x7 => BIf (decide (x6 < x7)) (R8 A4 n4 m4 A5 n5 m5 x4 a2 (IntKind.i64.wrap (x5 + (1 : Int))) H) (W_abacistlaw21_stands.j10 K R3 A4 n4 m4 A5 n5 m5 x4 a2 x5 H))) (W_abacistlaw21_stands.j10 K R3 A4 n4 m4 A5 n5 m5 x4 a2 x5 H)
def W_abacistlaw21_stands.l3 (K : Value → Hp → Prop) : Nat → Option Addr → Nat → Nat → Option Addr → Nat → Nat → Int → Hp → Prop
  | 0, _, _, _, _, _, _, _, _ => False
  | k + 1, A2, n2, m2, A3, n3, m3, x1, H =>
    let R3 := W_abacistlaw21_stands.l3 K k
    BIf (decide (x1 < ((n2 : Nat) : Int))) (ixI x1 n2 (NN A2 fun a1 => Ld H (a1.add (x1.toNat * 1)) fun v1 => DS v1 fun s1 => HCalls Tryz.prog 121 #[.string s1] H fun v2 H1 => DTup v2 fun l1 => DCons l1 fun v3 l2 => DA v3 fun y1 => DCons l2 fun v4 l3 => DI .i64 v4 fun x2 => DNil l3 (Nw H1 (.obj (.cells #[.int .u64 (0 : Int), .int .i64 (0 : Int), .int .i64 (0 : Int), .int .i64 (0 : Int), .int .i64 (0 : Int), .int .u32 (0 : Int), .int .u32 (0 : Int), .int .u32 (0 : Int)] 87)) fun b1 H2 => StA H2 (⟨b1, 0, none⟩ : Addr) y1 8 fun H3 => BIf (x2 != (0 : Int)) (R3 A2 n2 m2 A3 n3 m3 (IntKind.i64.wrap (x1 + (1 : Int))) H3) (Ld H3 ((⟨b1, 0, none⟩ : Addr).add 0) fun v5 => DI .u64 v5 fun x3 => ((IntKind.u64.wrap ((n2 : Nat) : Int)) ≠ 0 ∧ IntKind.u64 = IntKind.u64 ∧ BIf ((IntKind.i64.wrap (Int.tmod (IntKind.u64.wrap (x3 - (1 : Int))) (IntKind.u64.wrap ((n2 : Nat) : Int)))) != x1) (R3 A2 n2 m2 A3 n3 m3 (IntKind.i64.wrap (x1 + (1 : Int))) H3) ((∃ k, W_abacistlaw21_stands.l8 K R3 k A2 n2 m2 A3 n3 m3 x1 (⟨b1, 0, none⟩ : Addr) (0 : Int) H3))))))) (K (.slice A3 n3 m3) H)
def W_abacistlaw21_stands (A1 : Option Addr) (n1 : Nat) (m1 : Nat) (H : Hp) (K : Value → Hp → Prop) : Prop :=
  (∃ k, W_abacistlaw21_stands.l3 K k A1 n1 m1 none 0 0 (0 : Int) H)
def W_abacistlaw21_stands.l3.L (K : Value → Hp → Prop) (k : Nat) : Mid := fun E D H =>
  DG (E.get? 0) fun w0 => DSl w0 fun A2 n2 m2 => DG (E.get? 3) fun w3 => DSl w3 fun A3 n3 m3 => DG (E.get? 4) fun w4 => DI .i64 w4 fun x1 => DNilD D (W_abacistlaw21_stands.l3 K k A2 n2 m2 A3 n3 m3 x1 H)
def W_abacistlaw21_stands.l8.L (K : Value → Hp → Prop) (R3 : Option Addr → Nat → Nat → Option Addr → Nat → Nat → Int → Hp → Prop) (k : Nat) : Mid := fun E D H =>
  DG (E.get? 0) fun w0 => DSl w0 fun A4 n4 m4 => DG (E.get? 3) fun w3 => DSl w3 fun A5 n5 m5 => DG (E.get? 4) fun w4 => DI .i64 w4 fun x4 => DG (E.get? 5) fun w5 => DP w5 fun pw5 => NN pw5 fun a2 => DG (E.get? 7) fun w7 => DI .i64 w7 fun x5 => DNilD D (W_abacistlaw21_stands.l8 K R3 k A4 n4 m4 A5 n5 m5 x4 a2 x5 H)
def W_abacistlaw21_stands.Λ8 (_ : Value → Hp → Prop) (_R3 : Option Addr → Nat → Nat → Option Addr → Nat → Nat → Int → Hp → Prop) (_R8 : Option Addr → Nat → Nat → Option Addr → Nat → Nat → Int → Addr → Int → Hp → Prop) : Cuts := Cuts.none (fun i => match Nat.beq i 10 with | true => some ([], [0, 0, 0, 6, 15, 0, 32, 127, 0, 0, 768, 2047, 4095], 0) | false => none)
def W_abacistlaw21_stands.Λ3 (K : Value → Hp → Prop) (R3 : Option Addr → Nat → Nat → Option Addr → Nat → Nat → Int → Hp → Prop) : Cuts := ⟨fun i => match Nat.beq i 10 with | true => some (fun E D H => DG (E.get? 0) fun w0 => DSl w0 fun A6 n6 m6 => DG (E.get? 3) fun w3 => DSl w3 fun A7 n7 m7 => DG (E.get? 4) fun w4 => DI .i64 w4 fun x8 => DG (E.get? 5) fun w5 => DP w5 fun pw5 => NN pw5 fun a4 => DG (E.get? 7) fun w7 => DI .i64 w7 fun x9 => DNilD D (W_abacistlaw21_stands.j10 K R3 A6 n6 m6 A7 n7 m7 x8 a4 x9 H)) | false => none, fun i => match Nat.beq i 8 with | true => some (fun E D H => ∃ k, W_abacistlaw21_stands.l8.L K R3 k E D H) | false => none, (fun i => match Nat.beq i 10 with | true => some ([], [0, 0, 0, 6, 15, 0, 32, 127, 0, 0, 768, 2047, 4095], 0) | false => none)⟩
def W_abacistlaw21_stands.Λ (K : Value → Hp → Prop) : Cuts := ⟨fun i => none, fun i => match Nat.beq i 3 with | true => some (fun E D H => ∃ k, W_abacistlaw21_stands.l3.L K k E D H) | false => none, (fun i => match Nat.beq i 10 with | true => some ([], [0, 0, 0, 6, 15, 0, 32, 127, 0, 0, 768, 2047, 4095], 0) | false => none)⟩
theorem W_abacistlaw21_stands.ok (A1 : Option Addr) (n1 : Nat) (m1 : Nat) (H : Hp) (K : Value → Hp → Prop) (h : W_abacistlaw21_stands A1 n1 m1 H K) : HCalls Tryz.prog 41 #[.slice A1 n1 m1] H K :=
  hcalls Tryz.func41 rfl (Nat.le_of_ble_eq_true rfl) (hw_safe (Λ := (W_abacistlaw21_stands.Λ K)) mixWabacistlaw21 _ _ _ _ _ (Eq.mp (by kernel_rfl) h) (obs_seq obs_region rfl (obs_seq obs_region rfl (obs_seq (obs_seq obs_region rfl (obs_block (obs_loop rfl (fun E D H h => by
      refine Safe.loop' (W_abacistlaw21_stands.l3.L K) (fun E D H h => ?_) (fun k E D H h => ?_) E D H h
      · obtain ⟨w0, e0, g1⟩ := DG.out h; obtain ⟨A2, n2, m2, rfl, g2⟩ := DSl.out g1; obtain ⟨w3, e3, g3⟩ := DG.out g2; obtain ⟨A3, n3, m3, rfl, g4⟩ := DSl.out g3; obtain ⟨w4, e4, g5⟩ := DG.out g4; obtain ⟨x1, rfl, g6⟩ := DI.out g5; obtain ⟨rfl, h'⟩ := DNilD.out g6; exact h'
      · obtain ⟨w0, e0, g1⟩ := DG.out h
        obtain ⟨A2, n2, m2, rfl, g2⟩ := DSl.out g1
        obtain ⟨w3, e3, g3⟩ := DG.out g2
        obtain ⟨A3, n3, m3, rfl, g4⟩ := DSl.out g3
        obtain ⟨w4, e4, g5⟩ := DG.out g4
        obtain ⟨x1, rfl, g6⟩ := DI.out g5
        obtain ⟨rfl, h'⟩ := DNilD.out g6
        exact (hw_safe (Λ := (W_abacistlaw21_stands.Λ3 K (W_abacistlaw21_stands.l3 K k))) mixWabacistlaw21 _ _ [(0, .slice A2 n2 m2), (3, .slice A3 n3 m3), (4, .int .i64 x1)] [] H (Eq.mp (by kernel_rfl) h') (obs_seq (obs_seq obs_region rfl (obs_cond obs_skip obs_exit)) rfl (obs_seq (obs_block (obs_seq obs_region rfl (obs_seq (obs_seq obs_region rfl (obs_cond obs_exit obs_skip)) rfl (obs_seq obs_region rfl (obs_seqc (obs_block (obs_loop rfl (fun E D H h => by
            refine Safe.loop' (W_abacistlaw21_stands.l8.L K (W_abacistlaw21_stands.l3 K k)) (fun E D H h => ?_) (fun k E D H h => ?_) E D H h
            · obtain ⟨w0, e0, g1⟩ := DG.out h; obtain ⟨A4, n4, m4, rfl, g2⟩ := DSl.out g1; obtain ⟨w3, e3, g3⟩ := DG.out g2; obtain ⟨A5, n5, m5, rfl, g4⟩ := DSl.out g3; obtain ⟨w4, e4, g5⟩ := DG.out g4; obtain ⟨x4, rfl, g6⟩ := DI.out g5; obtain ⟨w5, e5, g7⟩ := DG.out g6; obtain ⟨pw5, rfl, g8⟩ := DP.out g7; obtain ⟨a2, rfl, g9⟩ := NN.out g8; obtain ⟨w7, e7, g10⟩ := DG.out g9; obtain ⟨x5, rfl, g11⟩ := DI.out g10; obtain ⟨rfl, h'⟩ := DNilD.out g11; exact h'
            · obtain ⟨w0, e0, g1⟩ := DG.out h
              obtain ⟨A4, n4, m4, rfl, g2⟩ := DSl.out g1
              obtain ⟨w3, e3, g3⟩ := DG.out g2
              obtain ⟨A5, n5, m5, rfl, g4⟩ := DSl.out g3
              obtain ⟨w4, e4, g5⟩ := DG.out g4
              obtain ⟨x4, rfl, g6⟩ := DI.out g5
              obtain ⟨w5, e5, g7⟩ := DG.out g6
              obtain ⟨pw5, rfl, g8⟩ := DP.out g7
              obtain ⟨a2, rfl, g9⟩ := NN.out g8
              obtain ⟨w7, e7, g10⟩ := DG.out g9
              obtain ⟨x5, rfl, g11⟩ := DI.out g10
              obtain ⟨rfl, h'⟩ := DNilD.out g11
              exact (hw_safe (Λ := (W_abacistlaw21_stands.Λ8 K (W_abacistlaw21_stands.l3 K k) (W_abacistlaw21_stands.l8 K (W_abacistlaw21_stands.l3 K k) k))) mixWabacistlaw21 _ _ [(0, .slice A4 n4 m4), (3, .slice A5 n5 m5), (4, .int .i64 x4), (5, .pointer (some a2)), (7, .int .i64 x5)] [] H (Eq.mp (by kernel_rfl) h') (obs_seq (obs_seq obs_region rfl (obs_cond obs_skip obs_exit)) rfl (obs_block obs_region))).weaken (EnvLe.cons e0 (EnvLe.cons e3 (EnvLe.cons e4 (EnvLe.cons e5 (EnvLe.cons e7 (EnvLe.nil _)))))) (Hp.le_refl _)))) rfl (fun E D H h => by
            obtain ⟨w0, e0, g1⟩ := DG.out h
            obtain ⟨A6, n6, m6, rfl, g2⟩ := DSl.out g1
            obtain ⟨w3, e3, g3⟩ := DG.out g2
            obtain ⟨A7, n7, m7, rfl, g4⟩ := DSl.out g3
            obtain ⟨w4, e4, g5⟩ := DG.out g4
            obtain ⟨x8, rfl, g6⟩ := DI.out g5
            obtain ⟨w5, e5, g7⟩ := DG.out g6
            obtain ⟨pw5, rfl, g8⟩ := DP.out g7
            obtain ⟨a4, rfl, g9⟩ := NN.out g8
            obtain ⟨w7, e7, g10⟩ := DG.out g9
            obtain ⟨x9, rfl, g11⟩ := DI.out g10
            obtain ⟨rfl, h'⟩ := DNilD.out g11
            exact (hw_safe (Λ := (W_abacistlaw21_stands.Λ3 K (W_abacistlaw21_stands.l3 K k))) mixWabacistlaw21 _ _ [(0, .slice A6 n6 m6), (3, .slice A7 n7 m7), (4, .int .i64 x8), (5, .pointer (some a4)), (7, .int .i64 x9)] [] H (Eq.mp (by kernel_rfl) h') obs_region).weaken (EnvLe.cons e0 (EnvLe.cons e3 (EnvLe.cons e4 (EnvLe.cons e5 (EnvLe.cons e7 (EnvLe.nil _)))))) (Hp.le_refl _))))))) rfl obs_region))).weaken (EnvLe.cons e0 (EnvLe.cons e3 (EnvLe.cons e4 (EnvLe.nil _)))) (Hp.le_refl _))))) rfl (obs_seq obs_region rfl obs_ret)))))

-- abacistlaw21.slots
def W_abacistlaw21_slots.l3 (K : Value → Hp → Prop) : Nat → Option Addr → Addr → Option Addr → Nat → Nat → Int → Hp → Prop
  | 0, _, _, _, _, _, _, _ => False
  | k + 1, p2, a1, A1, n1, m1, x4, H =>
    let R3 := W_abacistlaw21_slots.l3 K k
    Ld H (a1.add 1) fun v1 => DI .i64 v1 fun x5 => BIf (decide (x4 < x5)) (Ld H (a1.add 0) fun v2 => DI .i64 v2 fun x6 => HCalls Tryz.prog 122 #[.pointer p2, .int .i64 (IntKind.i64.wrap (x6 + x4))] H fun v3 H2 => DTup v3 fun l1 => DCons l1 fun v4 l2 => DSl v4 fun A2 n2 m2 => DCons l2 fun v5 l3 => DI .i64 v5 fun x7 => DNil l3 (BsK H2 A2 n2 fun s1 => Nw H2 (.row [.string s1] 9 1) fun b2 H3 => AppK Tryz.prog 9 (.slice A1 n1 m1) (.slice (some ⟨b2, 0, none⟩) 1 1) H3 fun v6 H4 => DSl v6 fun A3 n3 m3 => R3 p2 a1 A3 n3 m3 (IntKind.i64.wrap (x4 + (1 : Int))) H4)) (K (.slice A1 n1 m1) H)
def W_abacistlaw21_slots (p1 : Option Addr) (x1 : Int) (x2 : Int) (x3 : Int) (H : Hp) (K : Value → Hp → Prop) : Prop :=
  Nw H (.obj (.cells #[.int .i64 x1, .int .i64 x2, .int .i64 x3] 30)) fun b1 H1 => (∃ k, W_abacistlaw21_slots.l3 K k p1 (⟨b1, 0, none⟩ : Addr) none 0 0 (0 : Int) H1)
def W_abacistlaw21_slots.l3.L (K : Value → Hp → Prop) (k : Nat) : Mid := fun E D H =>
  DG (E.get? 0) fun w0 => DP w0 fun p2 => DG (E.get? 3) fun w3 => DP w3 fun pw3 => NN pw3 fun a1 => DG (E.get? 5) fun w5 => DSl w5 fun A1 n1 m1 => DG (E.get? 6) fun w6 => DI .i64 w6 fun x4 => DNilD D (W_abacistlaw21_slots.l3 K k p2 a1 A1 n1 m1 x4 H)
def W_abacistlaw21_slots.Λ3 (_ : Value → Hp → Prop) (_R3 : Option Addr → Addr → Option Addr → Nat → Nat → Int → Hp → Prop) : Cuts := Cuts.none (fun _ => none)
def W_abacistlaw21_slots.Λ (K : Value → Hp → Prop) : Cuts := ⟨fun i => none, fun i => match Nat.beq i 3 with | true => some (fun E D H => ∃ k, W_abacistlaw21_slots.l3.L K k E D H) | false => none, (fun _ => none)⟩
theorem W_abacistlaw21_slots.ok (p1 : Option Addr) (x1 : Int) (x2 : Int) (x3 : Int) (H : Hp) (K : Value → Hp → Prop) (h : W_abacistlaw21_slots p1 x1 x2 x3 H K) : HCalls Tryz.prog 42 #[.pointer p1, .agg #[.int .i64 x1, .int .i64 x2, .int .i64 x3]] H K :=
  hcalls Tryz.func42 rfl (Nat.le_of_ble_eq_true rfl) (hw_safe (Λ := (W_abacistlaw21_slots.Λ K)) mixWabacistlaw21 _ _ _ _ _ (Eq.mp (by kernel_rfl) h) (obs_seq obs_region rfl (obs_seq obs_region rfl (obs_seq (obs_seq obs_region rfl (obs_block (obs_loop rfl (fun E D H h => by
      refine Safe.loop' (W_abacistlaw21_slots.l3.L K) (fun E D H h => ?_) (fun k E D H h => ?_) E D H h
      · obtain ⟨w0, e0, g1⟩ := DG.out h; obtain ⟨p2, rfl, g2⟩ := DP.out g1; obtain ⟨w3, e3, g3⟩ := DG.out g2; obtain ⟨pw3, rfl, g4⟩ := DP.out g3; obtain ⟨a1, rfl, g5⟩ := NN.out g4; obtain ⟨w5, e5, g6⟩ := DG.out g5; obtain ⟨A1, n1, m1, rfl, g7⟩ := DSl.out g6; obtain ⟨w6, e6, g8⟩ := DG.out g7; obtain ⟨x4, rfl, g9⟩ := DI.out g8; obtain ⟨rfl, h'⟩ := DNilD.out g9; exact h'
      · obtain ⟨w0, e0, g1⟩ := DG.out h
        obtain ⟨p2, rfl, g2⟩ := DP.out g1
        obtain ⟨w3, e3, g3⟩ := DG.out g2
        obtain ⟨pw3, rfl, g4⟩ := DP.out g3
        obtain ⟨a1, rfl, g5⟩ := NN.out g4
        obtain ⟨w5, e5, g6⟩ := DG.out g5
        obtain ⟨A1, n1, m1, rfl, g7⟩ := DSl.out g6
        obtain ⟨w6, e6, g8⟩ := DG.out g7
        obtain ⟨x4, rfl, g9⟩ := DI.out g8
        obtain ⟨rfl, h'⟩ := DNilD.out g9
        exact (hw_safe (Λ := (W_abacistlaw21_slots.Λ3 K (W_abacistlaw21_slots.l3 K k))) mixWabacistlaw21 _ _ [(0, .pointer p2), (3, .pointer (some a1)), (5, .slice A1 n1 m1), (6, .int .i64 x4)] [] H (Eq.mp (by kernel_rfl) h') (obs_seq (obs_seq obs_region rfl (obs_cond obs_skip obs_exit)) rfl (obs_seq (obs_block (obs_seq obs_region rfl obs_region)) rfl obs_region))).weaken (EnvLe.cons e0 (EnvLe.cons e3 (EnvLe.cons e5 (EnvLe.cons e6 (EnvLe.nil _))))) (Hp.le_refl _))))) rfl (obs_seq obs_region rfl obs_ret)))))

-- abacistlaw21.may
def W_abacistlaw21_may (A1 : Option Addr) (n1 : Nat) (m1 : Nat) (y1 : Array Value) (H : Hp) (K : Value → Hp → Prop) : Prop :=
  Nw H (.obj (.cells y1 87)) fun b1 H1 => BIf (((n1 : Nat) : Int) == (0 : Int)) (Ld H1 ((⟨b1, 0, none⟩ : Addr).add 0) fun v1 => DI .u64 v1 fun x1 => BIf (x1 == (1 : Int)) (Ld H1 ((⟨b1, 0, none⟩ : Addr).add 1) fun v2 => DI .i64 v2 fun x2 => K (.bool (x2 == (1 : Int))) H1) (K (.bool false) H1)) (ixI (IntKind.i64.wrap (((n1 : Nat) : Int) - (1 : Int))) n1 (NN A1 fun a1 => LdA H1 (a1.add ((IntKind.i64.wrap (((n1 : Nat) : Int) - (1 : Int))).toNat * 8)) 8 fun l1 => LdA H1 (⟨b1, 0, none⟩ : Addr) 8 fun l2 => QCall Tryz.prog 39 #[.agg l1.toArray, .agg l2.toArray] H1 fun v3 => DB v3 fun c1 => K (.bool c1) H1))
def W_abacistlaw21_may.Λ (_ : Value → Hp → Prop) : Cuts := Cuts.none (fun _ => none)
theorem W_abacistlaw21_may.ok (A1 : Option Addr) (n1 : Nat) (m1 : Nat) (y1 : Array Value) (H : Hp) (K : Value → Hp → Prop) (h : W_abacistlaw21_may A1 n1 m1 y1 H K) : HCalls Tryz.prog 44 #[.slice A1 n1 m1, .agg y1] H K :=
  hcalls Tryz.func44 rfl (Nat.le_of_ble_eq_true rfl) (hw_safe (Λ := Cuts.none (fun _ => none)) mixWabacistlaw21 _ _ _ _ _ (Eq.mp (by kernel_rfl) h) (obs_none _ _ _ _ _))

-- abacistlaw21.same
def W_abacistlaw21_same.l4 (K : Value → Hp → Prop) : Nat → Option Addr → Nat → Nat → Option Addr → Nat → Nat → Int → Hp → Prop
  | 0, _, _, _, _, _, _, _, _ => False
  | k + 1, A3, n3, m3, A4, n4, m4, x1, H =>
    let R4 := W_abacistlaw21_same.l4 K k
    BIf (decide (x1 < ((n3 : Nat) : Int))) (ixI x1 n3 (NN A3 fun a1 => LdA H (a1.add (x1.toNat * 8)) 8 fun l1 => ixI x1 n4 (NN A4 fun a2 => LdA H (a2.add (x1.toNat * 8)) 8 fun l2 => EqV Tryz.prog .neq 87 (.agg l1.toArray) (.agg l2.toArray) fun c1 => BIf c1 (K (.bool false) H) (R4 A3 n3 m3 A4 n4 m4 (IntKind.i64.wrap (x1 + (1 : Int))) H)))) (K (.bool true) H)
def W_abacistlaw21_same (A1 : Option Addr) (n1 : Nat) (m1 : Nat) (A2 : Option Addr) (n2 : Nat) (m2 : Nat) (H : Hp) (K : Value → Hp → Prop) : Prop :=
  BIf (((n1 : Nat) : Int) != ((n2 : Nat) : Int)) (K (.bool false) H) ((∃ k, W_abacistlaw21_same.l4 K k A1 n1 m1 A2 n2 m2 (0 : Int) H))
def W_abacistlaw21_same.l4.L (K : Value → Hp → Prop) (k : Nat) : Mid := fun E D H =>
  DG (E.get? 0) fun w0 => DSl w0 fun A3 n3 m3 => DG (E.get? 1) fun w1 => DSl w1 fun A4 n4 m4 => DG (E.get? 5) fun w5 => DI .i64 w5 fun x1 => DNilD D (W_abacistlaw21_same.l4 K k A3 n3 m3 A4 n4 m4 x1 H)
def W_abacistlaw21_same.Λ4 (_ : Value → Hp → Prop) (_R4 : Option Addr → Nat → Nat → Option Addr → Nat → Nat → Int → Hp → Prop) : Cuts := Cuts.none (fun _ => none)
def W_abacistlaw21_same.Λ (K : Value → Hp → Prop) : Cuts := ⟨fun i => none, fun i => match Nat.beq i 4 with | true => some (fun E D H => ∃ k, W_abacistlaw21_same.l4.L K k E D H) | false => none, (fun _ => none)⟩
theorem W_abacistlaw21_same.ok (A1 : Option Addr) (n1 : Nat) (m1 : Nat) (A2 : Option Addr) (n2 : Nat) (m2 : Nat) (H : Hp) (K : Value → Hp → Prop) (h : W_abacistlaw21_same A1 n1 m1 A2 n2 m2 H K) : HCalls Tryz.prog 45 #[.slice A1 n1 m1, .slice A2 n2 m2] H K :=
  hcalls Tryz.func45 rfl (Nat.le_of_ble_eq_true rfl) (hw_safe (Λ := (W_abacistlaw21_same.Λ K)) mixWabacistlaw21 _ _ _ _ _ (Eq.mp (by kernel_rfl) h) (obs_seq obs_region rfl (obs_seq (obs_seq obs_region rfl (obs_cond (obs_seq obs_region rfl obs_ret) obs_skip)) rfl (obs_seq (obs_seq obs_region rfl (obs_block (obs_loop rfl (fun E D H h => by
      refine Safe.loop' (W_abacistlaw21_same.l4.L K) (fun E D H h => ?_) (fun k E D H h => ?_) E D H h
      · obtain ⟨w0, e0, g1⟩ := DG.out h; obtain ⟨A3, n3, m3, rfl, g2⟩ := DSl.out g1; obtain ⟨w1, e1, g3⟩ := DG.out g2; obtain ⟨A4, n4, m4, rfl, g4⟩ := DSl.out g3; obtain ⟨w5, e5, g5⟩ := DG.out g4; obtain ⟨x1, rfl, g6⟩ := DI.out g5; obtain ⟨rfl, h'⟩ := DNilD.out g6; exact h'
      · obtain ⟨w0, e0, g1⟩ := DG.out h
        obtain ⟨A3, n3, m3, rfl, g2⟩ := DSl.out g1
        obtain ⟨w1, e1, g3⟩ := DG.out g2
        obtain ⟨A4, n4, m4, rfl, g4⟩ := DSl.out g3
        obtain ⟨w5, e5, g5⟩ := DG.out g4
        obtain ⟨x1, rfl, g6⟩ := DI.out g5
        obtain ⟨rfl, h'⟩ := DNilD.out g6
        exact (hw_safe (Λ := (W_abacistlaw21_same.Λ4 K (W_abacistlaw21_same.l4 K k))) mixWabacistlaw21 _ _ [(0, .slice A3 n3 m3), (1, .slice A4 n4 m4), (5, .int .i64 x1)] [] H (Eq.mp (by kernel_rfl) h') (obs_seq (obs_seq obs_region rfl (obs_cond obs_skip obs_exit)) rfl (obs_seq (obs_block (obs_seq obs_region rfl (obs_cond (obs_seq obs_region rfl obs_ret) obs_skip))) rfl obs_region))).weaken (EnvLe.cons e0 (EnvLe.cons e1 (EnvLe.cons e5 (EnvLe.nil _)))) (Hp.le_refl _))))) rfl (obs_seq obs_region rfl obs_ret)))))

-- abacistlaw21.laid
def W_abacistlaw21_laid (A1 : Option Addr) (n1 : Nat) (m1 : Nat) (H : Hp) (K : Value → Hp → Prop) : Prop :=
  MkS Tryz.prog 5 (32 : Int) (32 : Int) H fun v1 H1 => DSl v1 fun A2 n2 m2 => CpK Tryz.prog 5 (.slice A2 n2 m2) (.slice A1 n1 m1) H1 fun v2 H2 => DI .i64 v2 fun x1 => K (.slice A2 n2 m2) H2
def W_abacistlaw21_laid.Λ (_ : Value → Hp → Prop) : Cuts := Cuts.none (fun _ => none)
theorem W_abacistlaw21_laid.ok (A1 : Option Addr) (n1 : Nat) (m1 : Nat) (H : Hp) (K : Value → Hp → Prop) (h : W_abacistlaw21_laid A1 n1 m1 H K) : HCalls Tryz.prog 49 #[.slice A1 n1 m1] H K :=
  hcalls Tryz.func49 rfl (Nat.le_of_ble_eq_true rfl) (hw_safe (Λ := Cuts.none (fun _ => none)) mixWabacistlaw21 _ _ _ _ _ (Eq.mp (by kernel_rfl) h) (obs_none _ _ _ _ _))

end Go.Proofs.YtghajiefpmcpmaaGreatDoor.W

end
section
/-! RngJ -/
/- law 21: acts; are they few and short. -/
set_option maxRecDepth 100000
set_option linter.unusedSimpArgs false
set_option linter.unusedVariables false
set_option linter.unnecessarySimpa false
set_option linter.unusedSectionVars false
namespace Go.Proofs.YtghajiefpmcpmaaGreatDoor.Rng
open Go Go.Hw Go.Proofs.YtghajiefpmcpmaaGreatDoor.W Go.Proofs.YtghajiefpmcpmaaGreatDoor.Rec Go.Proofs.YtghajiefpmcpmaaGreatDoor.Srt Go.Proofs.YtghajiefpmcpmaaGreatDoor.Dsk

structure Act where
  k : Int
  i : Int
  r : R
  A : Option Addr
  n : Nat
  m : Nat
  ks : List Bool
  A' : Option Addr
  n' : Nat
  m' : Nat
  b : List UInt8
def actRow (a : Act) : List Value := [.int .i64 a.k, .int .i64 a.i, .int .u64 (a.r.s : Int), .int .i64 a.r.kd, .int .i64 a.r.kk, .int .i64 a.r.dir, .int .i64 a.r.ps, .int .u32 (a.r.ld : Int), .int .u32 (a.r.inp : Int), .int .u32 (a.r.out : Int), .slice a.A a.n a.m, .slice a.A' a.n' a.m']
structure OkA (H : Hp) (a : Act) : Prop where
  n : a.n = a.ks.length
  ks : Cells H a.A (boolVals a.ks)
  n' : a.n' = a.b.length
  b : Cells H a.A' (byteVals a.b)
  i : -9223372036854775808 ≤ a.i ∧ a.i ≤ 9223372036854775807
  wf : a.r.wf
theorem OkA.le {H H' : Hp} {a : Act} (h : OkA H a) (k : H.le H') : OkA H' a := ⟨h.n, h.ks.le k, h.n', h.b.le k, h.i, h.wf⟩

def short (a : Act) : Prop := a.n ≤ 20 ∧ a.n' ≤ 100
theorem few_loop (A : Option Addr) (n m : Nat) (l : List Act) (hl : l.length = n) (hn : n ≤ 1000000) (H : Hp) (hc : CellsS 12 H A (l.map actRow)) :
    ∀ (t j : Nat), j + t = n → (∀ q (hq : q < j) (h : q < l.length), short l[q]) → W_abacistlaw21_few.l4 (fun v H' => H' = H ∧ ∃ c, v = .bool c ∧ (c = true → ∀ a ∈ l, short a)) (t + 1) A n m (j : Int) H
  | 0, j, h, hall => by
    unfold W_abacistlaw21_few.l4
    exact BIf_dneg (by omega) ⟨rfl, true, rfl, fun _ a ha => by
      obtain ⟨q, hq, rfl⟩ := List.getElem_of_mem ha
      exact hall q (by omega) hq⟩
  | t + 1, j, h, hall => by
    unfold W_abacistlaw21_few.l4
    refine BIf_dpos (by omega) ?_
    have hjl : j < l.length := by omega
    have hi : (l.map actRow)[j]? = some (actRow l[j]) := by rw [List.getElem?_map, List.getElem?_eq_getElem hjl]; rfl
    refine hc.rd hi rfl (by rw [List.length_map]; omega) (j := 10) rfl ?_
    simp only [DI_int', DB_bool, DS_string, DP_pointer, DSl_slice, DM_map, DA_agg, DTup_tuple, DCons_cons, DNil_nil, NN_some, BIf_true, BIf_false, BIf_same, List.toList_toArray, Bool.not_true, Bool.not_false]
    by_cases h1 : l[j].n > 20
    · exact BIf_dpos (by omega) ⟨by first | trivial | rfl, false, rfl, fun h => by cases h⟩
    refine BIf_dneg (by omega) ?_
    refine hc.rd hi rfl (by rw [List.length_map]; omega) (j := 11) rfl ?_
    simp only [DI_int', DB_bool, DS_string, DP_pointer, DSl_slice, DM_map, DA_agg, DTup_tuple, DCons_cons, DNil_nil, NN_some, BIf_true, BIf_false, BIf_same, List.toList_toArray, Bool.not_true, Bool.not_false]
    by_cases h2 : l[j].n' > 100
    · exact BIf_dpos (by omega) ⟨by first | trivial | rfl, false, rfl, fun h => by cases h⟩
    refine BIf_dneg (by omega) ?_
    rw [i64w (x := (j : Int) + 1) (by omega) (by omega)]
    refine few_loop A n m l hl hn H hc t (j + 1) (by omega) fun q hq hql => ?_
    by_cases e : q = j
    · subst e; exact ⟨by omega, by omega⟩
    · exact hall q (by omega) hql
theorem few_ok (A : Option Addr) (n m : Nat) (l : List Act) (hl : l.length = n) (H : Hp) (hc : CellsS 12 H A (l.map actRow)) :
    HCalls Tryz.prog 30 #[.slice A n m] H fun v H' => H' = H ∧ ∃ c, v = .bool c ∧ (c = true → n ≤ 30 ∧ ∀ a ∈ l, short a) := by
  by_cases hn : n > 30
  · apply W_abacistlaw21_few.ok
    unfold W_abacistlaw21_few
    exact BIf_dpos (by omega) ⟨rfl, false, rfl, fun h => by cases h⟩
  · have : HCalls Tryz.prog 30 #[.slice A n m] H fun v H' => H' = H ∧ ∃ c, v = .bool c ∧ (c = true → ∀ a ∈ l, short a) := by
      apply W_abacistlaw21_few.ok
      unfold W_abacistlaw21_few
      refine BIf_dneg (by omega) ⟨n + 1, ?_⟩
      exact few_loop A n m l hl (by omega) H hc n 0 (by omega) fun q hq => absurd hq (by omega)
    refine this.mono ?_
    rintro v H' ⟨rfl, c, rfl, h⟩
    exact ⟨rfl, c, rfl, fun hc => ⟨by omega, h hc⟩⟩

end Go.Proofs.YtghajiefpmcpmaaGreatDoor.Rng

end
section
/-! RngK -/
/- ring: what stands: laws of the last one. -/
set_option maxRecDepth 100000
set_option linter.unusedSimpArgs false
set_option linter.unusedVariables false
set_option linter.unnecessarySimpa false
set_option linter.unusedSectionVars false
namespace Go.Proofs.YtghajiefpmcpmaaGreatDoor.Rng
open Go Go.Hw Go.Proofs.YtghajiefpmcpmaaGreatDoor.Rec Go.Proofs.YtghajiefpmcpmaaGreatDoor.Srt Go.Proofs.YtghajiefpmcpmaaGreatDoor.Dsk

theorem lastR_nil (r : Int × D × List R) : lastR r = none ↔ r.2.2 = [] := by
  unfold lastR
  rw [List.getLast?_eq_none_iff]
  constructor
  · intro h
    have := isort_len (r.2.2.length - 1) r.2.2
    rw [h] at this
    exact List.length_eq_zero_iff.1 this.symm
  · intro h
    rw [h]; rfl
/-- The last one stands, and no number is greater. -/
theorem lastR_max {r : Int × D × List R} {q : R} (h : lastR r = some q) : q ∈ r.2.2 ∧ ∀ x ∈ r.2.2, x.s ≤ q.s := by
  unfold lastR at h
  have hp := isort_all r.2.2
  have hs := isort_sorted r.2.2
  generalize isort r.2.2 (r.2.2.length - 1) = l at *
  obtain ⟨p, rfl⟩ := List.getLast?_eq_some_iff.1 h
  refine ⟨hp.mem_iff.1 (by simp), fun x hx => ?_⟩
  have hx2 := hp.mem_iff.2 hx
  rw [List.pairwise_append] at hs
  rcases List.mem_append.1 hx2 with h1 | h1
  · exact hs.2.2 x h1 q (by simp)
  · have : x = q := by simpa using h1
    rw [this]
    exact Nat.le_refl _
/-- The one with the greatest number, of different ones. -/
theorem lastR_of {r : Int × D × List R} {q : R} (hq : q ∈ r.2.2) (hm : ∀ x ∈ r.2.2, x.s ≤ q.s) (hd : ∀ x ∈ r.2.2, x.s = q.s → x = q) : lastR r = some q := by
  cases h : lastR r with
  | none => rw [(lastR_nil r).1 h] at hq; simp at hq
  | some y =>
    obtain ⟨h1, h2⟩ := lastR_max h
    have := h2 q hq
    have := hm y h1
    rw [hd y h1 (by omega)]

end Go.Proofs.YtghajiefpmcpmaaGreatDoor.Rng

end
section
/-! EngB -/
/- ring: what stands in slots, by contents; what an append leaves. -/
set_option maxRecDepth 100000
set_option linter.unusedSimpArgs false
set_option linter.unusedVariables false
set_option linter.unnecessarySimpa false
set_option linter.unusedSectionVars false
namespace Go.Proofs.YtghajiefpmcpmaaGreatDoor.Eng
open Go Go.Hw Go.Form Go.Proofs.YtghajiefpmcpmaaGreatDoor.Dsk Go.Proofs.YtghajiefpmcpmaaGreatDoor.Str Go.Proofs.YtghajiefpmcpmaaGreatDoor.Rec Go.Proofs.YtghajiefpmcpmaaGreatDoor.Srt Go.Proofs.YtghajiefpmcpmaaGreatDoor.Rng

/-- What stands in the next slots. -/
def stC (c : Cn) (f n : Nat) : Nat → Nat → List R
  | 0, _ => []
  | k + 1, i => stand f n (c ((f + i : Nat) : Int)) i ++ stC c f n k (i + 1)
def updC (c : Cn) (k : Nat) (b : List UInt8) : Cn := fun i => if i = (k : Int) then b else c i
/-- The last one that stands. -/
def lastC (c : Cn) (f n : Nat) : Option R := lastR (0, (D.fresh 1 32), stC c f n n 0)
theorem lastC_eq {d : D} {e : Int} {c : Cn} {f n : Nat} : lastR (e, d, stC c f n n 0) = lastC c f n := rfl

theorem stC_len (c : Cn) (f n : Nat) : ∀ k i, (stC c f n k i).length ≤ k
  | 0, _ => Nat.le_refl _
  | k + 1, i => by
    have h1 := stC_len c f n k (i + 1)
    have h2 := stand_len f n (c ((f + i : Nat) : Int)) i
    show (stand f n (c ((f + i : Nat) : Int)) i ++ stC c f n k (i + 1)).length ≤ _
    rw [List.length_append]; omega
theorem stC_mem (c : Cn) (f n : Nat) (x : R) : ∀ k i, x ∈ stC c f n k i ↔ ∃ j, i ≤ j ∧ j < i + k ∧ x ∈ stand f n (c ((f + j : Nat) : Int)) j
  | 0, i => by
    constructor
    · intro h; cases h
    · rintro ⟨j, h1, h2, _⟩; omega
  | k + 1, i => by
    show x ∈ _ ++ _ ↔ _
    rw [List.mem_append, stC_mem c f n x k (i + 1)]
    constructor
    · rintro (h | ⟨j, h1, h2, h3⟩)
      · exact ⟨i, Nat.le_refl _, by omega, h⟩
      · exact ⟨j, by omega, by omega, h3⟩
    · rintro ⟨j, h1, h2, h3⟩
      by_cases e : j = i
      · subst e; exact .inl h3
      · exact .inr ⟨j, by omega, by omega, h3⟩
theorem stand_mem {f n : Nat} {bs : List UInt8} {i : Nat} {x : R} : x ∈ stand f n bs i ↔ (takeV bs).2 = 0 ∧ slotN f n x.s = f + i ∧ x = (takeV bs).1 := by
  unfold stand
  split
  · rename_i h
    rw [List.mem_singleton]
    constructor
    · rintro rfl; exact ⟨h.1, h.2, rfl⟩
    · rintro ⟨_, _, h3⟩; exact h3
  · rename_i h
    constructor
    · intro h'; cases h'
    · rintro ⟨h1, h2, rfl⟩; exact absurd ⟨h1, h2⟩ h

/-- A scan of a clean disk. -/
theorem scan_clean {d : D} {c : Cn} (h : Clean d c) (f n : Nat) : ∀ (k i t : Nat) (acc : List R), f + i + k ≤ d.sec → d.fuse = 0 ∨ t < d.fuse →
    ((d.fuse = 0 ∨ t + k < d.fuse) ∧ scanR f n k i (D.rdG d t) acc = (0, D.rdG d (t + k), acc ++ stC c f n k i)) ∨ (∃ j, j < t + k ∧ d.fuse = j + 1 ∧ scanR f n k i (D.rdG d t) acc = (8, D.dead (D.rdG d j), []))
  | 0, i, t, acc, hf, hl => .inl ⟨hl, by show (0, D.rdG d t, acc) = _; rw [Nat.add_zero]; show _ = (0, D.rdG d t, acc ++ []); rw [List.append_nil]⟩
  | k + 1, i, t, acc, hf, hl => by
    have hc := h.rdG t
    have hchk : (D.rdG d t).chk ((f + i : Nat) : Int) = 0 := live_chk hc.down (Int.natCast_nonneg _) (by show _ < (d.sec : Int); omega)
    unfold scanR
    rw [if_neg (by rw [hchk]; simp)]
    have hfu : (D.rdG d t).fuse = d.fuse - t := rfl
    by_cases hb : d.fuse - t = 1
    · rw [if_pos (by unfold D.burns; simp [hfu, hb]), burnt_one (by rw [hfu]; exact hb)]
      exact .inr ⟨t, by omega, by omega, rfl⟩
    · rw [if_neg (by unfold D.burns; simp [hfu, hb])]
      have e : D.red (D.rdG d t) = D.rdG d (t + 1) := by
        unfold D.red
        rw [burnt_live hc.down (by rw [hfu]; exact hb)]
        exact rdG_mr d t
      rw [e, hc.now]
      rcases scan_clean h f n k (i + 1) (t + 1) (acc ++ stand f n (c ((f + i : Nat) : Int)) i) (by omega) (by omega) with ⟨h1, h2⟩ | ⟨j, h1, h2, h3⟩
      · refine .inl ⟨by omega, ?_⟩
        rw [h2, List.append_assoc, show t + 1 + k = t + (k + 1) by omega]; rfl
      · exact .inr ⟨j, by omega, h2, h3⟩
theorem scanA_clean {d : D} {c : Cn} (h : Clean d c) (f n : Nat) (hf : f + n ≤ d.sec) :
    ((d.fuse = 0 ∨ n < d.fuse) ∧ scanA f n d = (0, D.rdG d n, stC c f n n 0)) ∨ (∃ j, j < n ∧ d.fuse = j + 1 ∧ scanA f n d = (8, D.dead (D.rdG d j), [])) := by
  rcases scan_clean h f n n 0 0 [] (by omega) (by omega) with ⟨h1, h2⟩ | ⟨j, h1, h2, h3⟩
  · rw [Nat.zero_add] at h1 h2
    exact .inl ⟨h1, h2⟩
  · rw [Nat.zero_add] at h1
    exact .inr ⟨j, h1, h2, h3⟩

theorem Prog.wrote {S : Int → Prop} {d : D} (h : Ok d) (hl : d.down = false) (hf : d.fuse ≠ 1) {i : Int} (hi : S i) {bs : List UInt8} (hb : bs.length = d.size) : Prog S d (d.wrote i bs) 0 1 := by
  have hbt := burnt_live hl hf
  have hbr := burnt_rd d
  unfold D.wrote
  refine ⟨⟨h.burnt.sec, h.burnt.size, h.burnt.big, h.burnt.per, h.burnt.safe, fun k b hk => ?_, h.burnt.fz⟩, ?_, ?_, by omega, hbr.2.2.2.2.1, hbr.2.2.2.1, hbr.2.2.2.2.2.1, hbr.2.2.1, fun k hk => ?_, fun k hk => ?_, hbr.1, rfl⟩
  · have hk' : updB d.cache i bs k = some b := hk
    show b.length = d.burnt.size
    rw [hbr.2.2.2.1]
    unfold updB at hk'
    split at hk'
    · cases hk'; exact hb
    · exact h.cache k b hk'
  · show d.burnt.down = false; rw [hbt]; exact hl
  · show d.burnt.fuse = _; rw [hbt]
  · have hne : k ≠ i := fun e => hk (e ▸ hi)
    show updB d.cache i bs k = _
    unfold updB; rw [if_neg hne]
  · have hne : k ≠ i := fun e => hk (e ▸ hi)
    show updT d.tch i k = _
    unfold updT; rw [if_neg hne]

/-- A sector is written, and made safe. -/
def put1 (d : D) (k : Nat) (b : List UInt8) : Int × D :=
  if d.writeE k d.size ≠ 0 then (d.writeE k d.size, d.writeD k b) else ((d.writeD k b).syncE, (d.writeD k b).syncD)
theorem put_clean {d : D} {c : Cn} (h : Clean d c) (k : Nat) (hk : k < d.sec) (b : List UInt8) (hb : b.length = d.size) :
    ∃ d', (put1 d k b = (0, d') ∧ Went d d' 0 1 1 ∧ Clean d' (updC c k b)) ∨ (put1 d k b = (8, d') ∧ Cut d d' 2 ∧ Left d' fun c' => c' = c ∨ c' = updC c k b) := by
  have hchk : d.chk (k : Int) = 0 := live_chk h.down (Int.natCast_nonneg _) (by omega)
  unfold put1
  by_cases hf : d.fuse = 1
  · have hbn : d.burns = true := by unfold D.burns; simp [hf]
    have e1 : d.writeE k d.size = 8 := by unfold D.writeE; rw [if_neg (by rw [hchk]; simp), if_neg (by simp), hbn]; rfl
    have e2 : d.writeD k b = D.dead d := by unfold D.writeD; rw [if_neg (by rw [hchk]; simp), if_neg (by simp [hb]), hbn, burnt_one hf]; rfl
    rw [e1, e2, if_pos (by decide)]
    refine ⟨_, .inr ⟨rfl, ⟨Ok.dead h.ok, h.dom, rfl, rfl, rfl, rfl, ?_, Nat.le_refl _, Nat.le_refl _, Nat.le_refl _, by omega, by omega⟩, fun c' hc => .inl (funext fun i => ?_)⟩⟩
    · show d.rd + d.wr + d.sy + 1 = _; omega
    · rcases hc i with e | e
      · exact e.trans (h.sat i)
      · exact e.trans (h.now i)
  · have hbn : d.burns = false := by unfold D.burns; exact decide_eq_false hf
    have e1 : d.writeE k d.size = 0 := by unfold D.writeE; rw [if_neg (by rw [hchk]; simp), if_neg (by simp), hbn]; rfl
    have e2 : d.writeD k b = d.wrote k b := by unfold D.writeD; rw [if_neg (by rw [hchk]; simp), if_neg (by simp [hb]), hbn]; rfl
    rw [e1, e2, if_neg (by simp)]
    have p := Prog.wrote (S := fun i => i = (k : Int)) h.ok h.down hf rfl hb
    have hnow : (d.wrote k b).now = updC c k b := funext fun i => by
      unfold updC
      by_cases hi : i = (k : Int)
      · rw [if_pos hi]
        show ((updB d.cache k b i)).getD _ = b
        unfold updB; rw [if_pos hi]; rfl
      · rw [if_neg hi]; exact (h.prog p i).2 hi
    rcases h.sync p (fun i hi => ⟨by omega, by omega⟩) with ⟨s1, s2, s3⟩ | ⟨s1, s2, s3⟩
    · rw [hnow] at s3
      exact ⟨_, .inl ⟨by rw [s1], s2, s3⟩⟩
    · refine ⟨_, .inr ⟨by rw [s1], s2, s3.mono fun c' hc => ?_⟩⟩
      rw [hnow] at hc
      by_cases hk' : c' (k : Int) = c k
      · left
        funext i
        by_cases hi : i = (k : Int)
        · rw [hi]; exact hk'
        · exact hc.2 i hi
      · right
        funext i
        by_cases hi : i = (k : Int)
        · rw [hi]; exact (hc.1 _).resolve_left hk'
        · rw [hc.2 i hi]; unfold updC; rw [if_neg hi]

theorem slotN_in {f n s : Nat} (hn : 1 ≤ n) : f ≤ slotN f n s ∧ slotN f n s < f + n := by
  have := Nat.mod_lt (s - 1) (show n > 0 by omega)
  unfold slotN; omega

/-- What an append does to a clean disk. -/
theorem app_cases {d : D} {c : Cn} (h : Clean d c) {f n : Nat} (hn : 1 ≤ n) (hf : f + n ≤ d.sec) (r : R) :
    (¬ r.good ∧ appV f n d r = (10, d)) ∨
    (r.good ∧ ∃ d', appV f n d r = (8, d') ∧ Cut d d' n ∧ Left d' fun c' => c' = c) ∨
    (r.good ∧ mayB (lastC c f n) r = false ∧ ∃ d', appV f n d r = (5, d') ∧ Went d d' n 0 0 ∧ Clean d' c) ∨
    (r.good ∧ mayB (lastC c f n) r = true ∧ ∃ d', appV f n d r = (8, d') ∧ Cut d d' (n + 2) ∧ Left d' fun c' => c' = c ∨ c' = updC c (slotN f n r.s) (r.form d.size)) ∨
    (r.good ∧ mayB (lastC c f n) r = true ∧ ∃ d', appV f n d r = (0, d') ∧ Went d d' n 1 1 ∧ Clean d' (updC c (slotN f n r.s) (r.form d.size))) := by
  by_cases hg : r.good
  · right
    have e0 : appV f n d r = if (scanA f n d).1 ≠ 0 then ((scanA f n d).1, (scanA f n d).2.1) else if mayB (lastR (scanA f n d)) r = false then (5, (scanA f n d).2.1) else putS f n (scanA f n d).2.1 r := by
      unfold appV; rw [if_neg (fun h => h hg)]
    rcases scanA_clean h f n hf with ⟨h1, h2⟩ | ⟨j, h1, h2, h3⟩
    · right
      rw [h2, lastC_eq, if_neg (by simp)] at e0
      have hw := Went.rdG h1
      have hc := h.rdG n
      cases hm : mayB (lastC c f n) r with
      | false =>
        left
        rw [if_pos hm] at e0
        exact ⟨hg, rfl, _, e0, hw, hc⟩
      | true =>
        right
        rw [if_neg (by rw [hm]; simp)] at e0
        have hsl := slotN_in (f := f) (s := r.s) hn
        have hp := put_clean hc (slotN f n r.s) (by show _ < d.sec; omega) (r.form d.size) (rform_len r h.ok.size.1)
        have e1 : putS f n (D.rdG d n) r = put1 (D.rdG d n) (slotN f n r.s) (r.form d.size) := rfl
        rw [e1] at e0
        obtain ⟨d', ⟨e2, h4, h5⟩ | ⟨e2, h4, h5⟩⟩ := hp
        · exact .inr ⟨hg, rfl, d', e0.trans e2, by have := hw.trans h4; simpa using this, h5⟩
        · exact .inl ⟨hg, rfl, d', e0.trans e2, by have := hw.cut h4; simpa using this, h5⟩
    · left
      rw [h3, if_pos (by show (8 : Int) ≠ 0; decide)] at e0
      exact ⟨hg, _, e0, Cut.rdG h h2 h1, Left.rdG h j⟩
  · left
    exact ⟨hg, by unfold appV; rw [if_pos hg]⟩

/-- Behind an append its record is the last one. -/
theorem last_upd {c : Cn} {f n size : Nat} (hn : 1 ≤ n) (hsz : 32 ≤ size) (hsec : secB (size : Int) = true) {r : R} (hg : r.good) (hu : r.u32) (hm : mayB (lastC c f n) r = true) :
    lastC (updC c (slotN f n r.s) (r.form size)) f n = some r := by
  have hsl := slotN_in (f := f) (s := r.s) hn
  have ht := takeV_form r hg hu hsz hsec
  have hstand : ∀ j, j < n → ∀ x, x ∈ stand f n (updC c (slotN f n r.s) (r.form size) ((f + j : Nat) : Int)) j → x = r ∨ x ∈ stC c f n n 0 := fun j hj x hx => by
    unfold updC at hx
    by_cases e : ((f + j : Nat) : Int) = (slotN f n r.s : Nat)
    · rw [if_pos e, stand_mem, ht] at hx
      exact .inl hx.2.2
    · rw [if_neg e] at hx
      exact .inr ((stC_mem c f n x n 0).2 ⟨j, Nat.zero_le _, by omega, hx⟩)
  have hless : ∀ x ∈ stC c f n n 0, x.s < r.s := fun x hx => by
    unfold mayB at hm
    cases hq : lastC c f n with
    | none =>
      have e : stC c f n n 0 = [] := (lastR_nil _).1 hq
      rw [e] at hx
      cases hx
    | some q =>
      rw [hq] at hm
      have ha : after q r := of_decide_eq_true hm
      have := (lastR_max hq).2 x hx
      have := ha.2.2.1
      omega
  refine lastR_of (q := r) ?_ (fun x hx => ?_) fun x hx e => ?_
  · refine (stC_mem _ f n r n 0).2 ⟨slotN f n r.s - f, Nat.zero_le _, by omega, ?_⟩
    rw [show f + (slotN f n r.s - f) = slotN f n r.s by omega, stand_mem]
    unfold updC
    rw [if_pos rfl, ht]
    exact ⟨rfl, by omega, rfl⟩
  · obtain ⟨j, _, h2, h3⟩ := (stC_mem _ f n x n 0).1 hx
    rcases hstand j (by omega) x h3 with e | e
    · rw [e]; exact Nat.le_refl _
    · exact Nat.le_of_lt (hless x e)
  · obtain ⟨j, _, h2, h3⟩ := (stC_mem _ f n x n 0).1 hx
    rcases hstand j (by omega) x h3 with e' | e'
    · exact e'
    · have := hless x e'; omega

end Go.Proofs.YtghajiefpmcpmaaGreatDoor.Eng

end
section
/-! RngL -/
/- law 21: acts that came in. -/
set_option maxRecDepth 100000
set_option linter.unusedSimpArgs false
set_option linter.unusedVariables false
set_option linter.unnecessarySimpa false
set_option linter.unusedSectionVars false
namespace Go.Proofs.YtghajiefpmcpmaaGreatDoor.Rng
open Go Go.Hw Go.Form Go.Proofs.YtghajiefpmcpmaaGreatDoor.W Go.Proofs.YtghajiefpmcpmaaGreatDoor.Rec Go.Proofs.YtghajiefpmcpmaaGreatDoor.Dsk

section
open Go.RowKit Go.ChangeShapes Go.WideShapes Go.ChangeAt
variable {H : Type} {enc : TypeId × Value → H} {W : World}
theorem wf_u64 {n : Int} (h : (Lit.int .u64 n).wf = true) : 0 ≤ n ∧ n ≤ 18446744073709551615 := wf_int h
theorem wf_u32 {n : Int} (h : (Lit.int .u32 n).wf = true) : 0 ≤ n ∧ n ≤ 4294967295 := wf_int h
theorem acts_of {A : Option Addr} {n : Nat} {rows : List (List Value)} (hl : rows.length = n)
    (h : ∀ (i : Nat) (r : List Value), rows[i]? = some r → ∃ a, A = some a ∧ (∀ j v, r[j]? = some v → (Full W).cell? (a.add (i * Tryz.prog.cellsOf 90 + j)) = some v) ∧ r.length = Tryz.prog.cellsOf 90 ∧
      ∃ f d' p', DataW.trod enc Tryz.prog W 0 (fun _ => true) true f 90 r = some (d', p')) : ∃ l : List Act, l.length = n ∧ CellsS 12 (Full W) A (l.map actRow) ∧ ∀ a ∈ l, OkA (Full W) a := by
  have hc : Tryz.prog.cellsOf 90 = 12 := by kernel_rfl
  refine rows_st hl fun i r hi => ?_
  obtain ⟨a, ha, h1, h2, f, d', p', h3⟩ := h i r hi
  rw [hc] at h1 h2
  refine ⟨a, ha, h1, ?_⟩
  obtain ⟨_, f', h4⟩ := trod_st Tryz.underlying90 h3
  obtain ⟨x, hx, _⟩ := trod_fint (o := 0) Tryz.underlying3 (by kernel_rfl) (h4 0 _ rfl)
  obtain ⟨y, hy, wy⟩ := trod_fint (o := 1) Tryz.underlying3 (by kernel_rfl) (h4 1 _ rfl)
  obtain ⟨dR, pR, hR⟩ := h4 2 _ rfl
  obtain ⟨_, f2, h5⟩ := trod_st Tryz.underlying87 hR
  have hcR : Tryz.prog.cellsOf 87 = 8 := by kernel_rfl
  obtain ⟨s, hs, ws⟩ := trod_fint (o := 0) Tryz.underlying60 (by kernel_rfl) (h5 0 _ rfl)
  obtain ⟨kd, hkd, wkd⟩ := trod_fint (o := 1) Tryz.underlying3 (by kernel_rfl) (h5 1 _ rfl)
  obtain ⟨kk, hkk, wkk⟩ := trod_fint (o := 2) Tryz.underlying3 (by kernel_rfl) (h5 2 _ rfl)
  obtain ⟨di, hdi, wdi⟩ := trod_fint (o := 3) Tryz.underlying3 (by kernel_rfl) (h5 3 _ rfl)
  obtain ⟨q, hq, wq⟩ := trod_fint (o := 4) Tryz.underlying3 (by kernel_rfl) (h5 4 _ rfl)
  obtain ⟨ld, hld, wld⟩ := trod_fint (o := 5) Tryz.underlying40 (by kernel_rfl) (h5 5 _ rfl)
  obtain ⟨ip, hip, wip⟩ := trod_fint (o := 6) Tryz.underlying40 (by kernel_rfl) (h5 6 _ rfl)
  obtain ⟨ou, hou, wou⟩ := trod_fint (o := 7) Tryz.underlying40 (by kernel_rfl) (h5 7 _ rfl)
  obtain ⟨G, nG, mG, _, _, hG, tG⟩ := trod_fsl (o := 10) Tryz.underlying80 (by kernel_rfl) (h4 3 _ rfl)
  obtain ⟨B, nB, mB, _, _, hB, tB⟩ := trod_fsl (o := 11) Tryz.underlying88 (by kernel_rfl) (h4 4 _ rfl)
  obtain ⟨_, _, _, e1, _, _, bs, hbl, hbc⟩ := trod_bytes Tryz.underlying88 Tryz.underlying5 (by kernel_rfl) tB
  obtain ⟨rfl, rfl, rfl⟩ : B = _ ∧ nB = _ ∧ mB = _ := by simpa using e1
  obtain ⟨_, _, _, e2, _, _, gs, hgl, hgc⟩ := trod_bools Tryz.underlying80 Tryz.underlying4 (by kernel_rfl) tG
  obtain ⟨rfl, rfl, rfl⟩ : G = _ ∧ nG = _ ∧ mG = _ := by simpa using e2
  have ws := wf_u64 ws
  have wld := wf_u32 wld
  have wip := wf_u32 wip
  have wou := wf_u32 wou
  obtain ⟨s, rfl⟩ := Int.eq_ofNat_of_zero_le ws.1
  obtain ⟨ld, rfl⟩ := Int.eq_ofNat_of_zero_le wld.1
  obtain ⟨ip, rfl⟩ := Int.eq_ofNat_of_zero_le wip.1
  obtain ⟨ou, rfl⟩ := Int.eq_ofNat_of_zero_le wou.1
  refine ⟨⟨x, y, ⟨s, kd, kk, di, q, ld, ip, ou⟩, G, nG, mG, gs, B, nB, mB, bs⟩, ?_, ⟨hgl.symm, hgc, hbl.symm, hbc, wf_int wy, ⟨by show s < 2 ^ 64; omega, wf_int wkd, wf_int wkk, wf_int wdi, wf_int wq, ⟨by show ld < _; omega, by show ip < _; omega, by show ou < _; omega⟩⟩⟩⟩
  have hs2 := sub_get hs
  have hkd2 := sub_get hkd
  have hkk2 := sub_get hkk
  have hdi2 := sub_get hdi
  have hq2 := sub_get hq
  have hld2 := sub_get hld
  have hip2 := sub_get hip
  have hou2 := sub_get hou
  exact EqAll.out ⟨hx, hy, hs2, hkd2, hkk2, hdi2, hq2, hld2, hip2, hou2, hG, hB, trivial⟩ h2
end

end Go.Proofs.YtghajiefpmcpmaaGreatDoor.Rng

end
section
/-! RngF -/
/- law 21: its first look. -/
set_option maxRecDepth 100000
set_option linter.unusedSimpArgs false
set_option linter.unusedVariables false
set_option linter.unnecessarySimpa false
set_option linter.unusedSectionVars false
namespace Go.Proofs.YtghajiefpmcpmaaGreatDoor.Rng
open Go Go.Hw Go.Proofs.YtghajiefpmcpmaaGreatDoor.W Go.Proofs.YtghajiefpmcpmaaGreatDoor.Rec Go.Proofs.YtghajiefpmcpmaaGreatDoor.Srt Go.Proofs.YtghajiefpmcpmaaGreatDoor.Dsk

def x0 : R := ⟨1, 1, 2, 0, 0, 1, 0, 0⟩
def d0 : D := D.fresh 10 32
theorem d0_ok : Ok d0 := Ok.fresh (by omega) (by decide) (by omega)
theorem x0_good : x0.good := by decide
theorem sec32 : secB (32 : Int) = true := by decide +kernel
theorem scan0 : (scanA 1 3 d0).1 = 0 ∧ (scanA 1 3 d0).2.2.length = 0 := by decide +kernel
theorem app0 : (appV 1 3 d0 x0).1 = 0 := by decide +kernel

theorem Ok.syncD {d : D} (h : Ok d) : Ok d.syncD := by
  unfold D.syncD
  split
  · exact h
  · split
    · exact h.burnt
    · have hb := h.burnt
      refine ⟨hb.sec, hb.size, hb.big, hb.per, fun k b hk => ?_, fun k b hk => (by cases hk), hb.fz⟩
      have hbr := burnt_rd d
      show b.length = d.burnt.size
      rw [hbr.2.2.2.1]
      have hk : mergeB d.safe d.cache k = some b := hk
      unfold mergeB at hk
      cases hc : d.cache k with
      | some c =>
        rw [hc] at hk
        have : c = b := by simpa using hk
        rw [← this]
        exact h.cache k c hc
      | none =>
        rw [hc] at hk
        exact h.safe k b (by simpa using hk)
theorem putS_ok {f n : Nat} {d : D} (h : Ok d) (r : R) : Ok (putS f n d r).2 := by
  unfold putS
  split
  · exact Ok.writeD h _ _
  · exact Ok.syncD (Ok.writeD h _ _)
theorem appV_ok {f n : Nat} {d : D} (h : Ok d) (r : R) : Ok (appV f n d r).2 := by
  have hs := (scanR_ok f n n 0 d [] h).1
  unfold appV
  split
  · exact h
  · split
    · exact hs
    · split
      · exact hs
      · exact putS_ok hs r

/-- The disk behind the first look's append, crash and boot. -/
def d1 : D := (appV 1 3 d0 x0).2
def d3 : D := { d1 with down := false, fuse := 0, cache := fun _ => none }
def recT (r : R) : List Int := [(r.s : Int), r.kd, r.kk, r.dir, r.ps, (r.ld : Int), (r.inp : Int), (r.out : Int)]
def lastT (q : Option R) : List Int := match q with | some r => recT r | none => []
theorem scan3' : (scanA 1 3 d3).1 = 0 ∧ lastT (lastR (scanA 1 3 d3)) = recT x0 := by decide +kernel
theorem t_inj {a b : R} (h : recT a = recT b) : a = b := by
  cases a; cases b
  simp only [recT, List.cons.injEq, and_true] at h
  congr 1 <;> omega
theorem scan3 : (scanA 1 3 d3).1 = 0 ∧ lastR (scanA 1 3 d3) = some x0 := by
  refine ⟨scan3'.1, ?_⟩
  have h := scan3'.2
  cases hl : lastR (scanA 1 3 d3) with
  | none => rw [hl] at h; cases h
  | some q =>
    rw [hl] at h
    rw [t_inj h]

theorem d1_facts : d1.rd = 3 ∧ d1.wr = 1 ∧ d1.sy = 1 ∧ d1.sec = 10 ∧ d1.size = 32 ∧ d1.down = false := by decide +kernel
theorem d1_cache : d1.cache = fun _ => none := by kernel_rfl
theorem d1_ok : Ok d1 := appV_ok d0_ok x0
theorem d3_ok : Ok d3 := ⟨d1_ok.sec, d1_ok.size, d1_ok.big, d1_ok.per, d1_ok.safe, fun k b hk => (by cases hk), Nat.zero_le _⟩
theorem x0_wf : x0.wf := ⟨by decide, by decide, by decide, by decide, by decide, ⟨by decide, by decide, by decide⟩⟩
theorem scan3_len : (scanA 1 3 d3).2.2.length ≤ 12 := by
  have := scanR_len 1 3 3 0 d3 []
  exact Nat.le_trans this (by decide)

theorem awake_ok (H : Hp) : HCalls Tryz.prog 29 #[] H (RetE (.bool true) H) := HCalls.ret (by
  apply W_abacistlaw21_awake.ok
  unfold W_abacistlaw21_awake
  refine (Dsk.New_tr 10 32 (by omega) (by decide) (by omega)).use (Sep.start H) [] rfl rfl ?_
  rintro _ _ H1 ⟨p, rfl, rfl⟩ hs
  simp only [DI_int', DB_bool, DS_string, DP_pointer, DSl_slice, DM_map, DA_agg, DTup_tuple, DCons_cons, DNil_nil, NN_some, BIf_true, BIf_false, BIf_same, List.toList_toArray, Bool.not_true, Bool.not_false]
  have hs : Hw.Sep [Dk p d0, own H] H1 := hs
  refine BIf_neg rfl ?_
  refine (Rng.New_tr d0_ok 1 3 0 (by omega)).use hs [0] rfl rfl ?_
  rintro _ _ H1 (⟨_, b, rfl, rfl⟩ | ⟨h, _⟩) hs
  · simp only [DI_int', DB_bool, DS_string, DP_pointer, DSl_slice, DM_map, DA_agg, DTup_tuple, DCons_cons, DNil_nil, NN_some, BIf_true, BIf_false, BIf_same, List.toList_toArray, Bool.not_true, Bool.not_false]
    have hs : Hw.Sep [Dk p d0, pts b (ringO p (1 : Nat) (3 : Nat) 0), own H] H1 := hs
    refine hs.nw fun b1 H1 hs => ?_
    refine hs.stw 3 (y := x0.c) rfl rfl rfl rfl fun H1 hs => ?_
    refine BIf_neg rfl (BIf_bnen rfl ?_)
    refine hs.ldw 3 rfl rfl ?_
    rw [Array.toArray_toList]
    have hs : Hw.Sep [Dk p d0, pts b (ringO p (1 : Nat) (3 : Nat) 0), own H, pts b1 (recO x0)] H1 := hs
    refine (Append_tr (b := b) (p := p) (f := 1) (n := 3) (w := 0) (by decide) (by decide) d0_ok ⟨by decide, by decide⟩ (by decide) (fun _ => by rw [scan0.2]; decide) sec32 x0 ⟨by decide, by decide, by decide⟩).use hs [0, 1] rfl rfl ?_
    rintro _ _ H1 ⟨rfl, rfl⟩ hs
    rw [app0]
    simp only [DI_int', DB_bool, DS_string, DP_pointer, DSl_slice, DM_map, DA_agg, DTup_tuple, DCons_cons, DNil_nil, NN_some, BIf_true, BIf_false, BIf_same, List.toList_toArray, Bool.not_true, Bool.not_false]
    have hs : Hw.Sep [Dk p d1, pts b (ringO p (1 : Nat) (3 : Nat) 0), own H, pts b1 (recO x0)] H1 := hs
    refine BIf_bnen rfl ?_
    try simp only [NN_some, Addr.add_lit', Addr.add_zero, Nat.zero_add, Nat.add_zero]
    refine Crash_tr.use hs [0] rfl rfl ?_
    rintro _ _ H1 ⟨rfl, rfl⟩ hs
    have hs : Hw.Sep [Dk p { d1 with down := true, fuse := 0 }, pts b (ringO p (1 : Nat) (3 : Nat) 0), own H, pts b1 (recO x0)] H1 := hs
    refine (Boot_tr (Ok.crash d1_ok) (fun k hk => by rw [show ({ d1 with down := true, fuse := 0 } : D).cache = fun _ => none from d1_cache] at hk; cases hk) rfl none 0 0 [] rfl (own H) (fun H h => Cells.nil _ _)).use hs [0, 2] rfl rfl ?_
    rintro _ _ H1 ⟨ks, _, rfl, rfl⟩ hs
    simp only [DI_int', DB_bool, DS_string, DP_pointer, DSl_slice, DM_map, DA_agg, DTup_tuple, DCons_cons, DNil_nil, NN_some, BIf_true, BIf_false, BIf_same, List.toList_toArray, Bool.not_true, Bool.not_false]
    have hb : D.boot { d1 with down := true, fuse := 0 } ks [] = d3 := by
      unfold D.boot
      rw [bootS_nil]
      rfl
    rw [hb] at hs
    have hs : Hw.Sep [Dk p d3, own H, pts b (ringO p (1 : Nat) (3 : Nat) 0), pts b1 (recO x0)] H1 := hs
    refine (Last_tr (b := b) (p := p) (f := 1) (n := 3) (w := 0) (by decide) (by decide) d3_ok (by decide +kernel) (fun _ => scan3_len)).use hs [0, 2] rfl rfl ?_
    rintro _ _ H1 ⟨rfl, rfl⟩ hs
    rw [scan3.1, scan3.2]
    simp only [DI_int', DB_bool, DS_string, DP_pointer, DSl_slice, DM_map, DA_agg, DTup_tuple, DCons_cons, DNil_nil, NN_some, BIf_true, BIf_false, BIf_same, List.toList_toArray, Bool.not_true, Bool.not_false]
    have hs : Hw.Sep [Dk p (scanA 1 3 d3).2.1, pts b (ringO p (1 : Nat) (3 : Nat) 0), own H, pts b1 (recO x0)] H1 := hs
    refine hs.nw fun b2 H1 hs => ?_
    refine hs.stw 4 (y := x0.c) rfl rfl rfl rfl fun H1 hs => ?_
    refine BIf_pos rfl (BIf_beqp rfl ?_)
    refine hs.ldw 4 rfl rfl ?_
    refine hs.ldw 3 rfl rfl ?_
    rw [Array.toArray_toList]
    refine rec_eql x0_wf x0_wf true (by simp) ?_
    exact ⟨rfl, hs.ow 2 rfl⟩
  · exact absurd h (by decide))

end Go.Proofs.YtghajiefpmcpmaaGreatDoor.Rng

end
section
/-! RngN -/
/- law 21: RingSafe. -/
set_option maxRecDepth 100000
set_option linter.unusedSimpArgs false
set_option linter.unusedVariables false
set_option linter.unnecessarySimpa false
set_option linter.unusedSectionVars false
namespace Go.Proofs.YtghajiefpmcpmaaGreatDoor.Eng
open Go Go.Hw Go.Form Go.Proofs.YtghajiefpmcpmaaGreatDoor.W Go.Proofs.YtghajiefpmcpmaaGreatDoor.Dsk Go.Proofs.YtghajiefpmcpmaaGreatDoor.Str Go.Proofs.YtghajiefpmcpmaaGreatDoor.Rec Go.Proofs.YtghajiefpmcpmaaGreatDoor.Srt Go.Proofs.YtghajiefpmcpmaaGreatDoor.Rng

theorem lastC_in {c : Cn} {f n : Nat} {q : R} (h : lastC c f n = some q) : q.good ∧ q.wf := by
  have hm : q ∈ stC c f n n 0 := (lastR_max h).1
  obtain ⟨j, _, _, h3⟩ := (stC_mem c f n q n 0).1 hm
  obtain ⟨h4, _, h5⟩ := stand_mem.1 h3
  rw [h5]
  exact ⟨takeV_good h4, takeV_wf _⟩
theorem zeroR_wf : zeroR.wf := ⟨by decide, by decide, by decide, by decide, by decide, ⟨by decide, by decide, by decide⟩⟩

theorem rest_go {is : List Nat} : ∀ (L : List As) (k : Nat), (∀ i ∈ is, i < k) → Hw.rest.go is k L = L
  | [], _, _ => rfl
  | A :: L, k, h => by
    unfold Hw.rest.go
    have hc : is.contains k = false := by
      rw [Bool.eq_false_iff]
      intro hc
      have := h k (by simpa using hc)
      omega
    rw [hc]
    show A :: _ = _
    rw [rest_go L (k + 1) fun i hi => Nat.lt_succ_of_lt (h i hi)]
theorem rest_01 (A B : As) (L : List As) : Hw.rest (A :: B :: L) [0, 1] = L := rest_go L 2 (by simp)
/-- What the law knows between its acts. -/
structure Saf (nn B : Nat) (d : D) (c : Cn) (q : R) : Prop where
  cl : Clean d c
  sec : d.sec = 10
  size : d.size = 32
  rd : d.rd ≤ B
  wr : d.wr ≤ B
  sy : d.sy ≤ B
  last : (q = zeroR ∧ lastC c 1 nn = none) ∨ lastC c 1 nn = some q
theorem Saf.wf {nn B : Nat} {d : D} {c : Cn} {q : R} (h : Saf nn B d c q) : q.wf := by
  rcases h.last with ⟨e, _⟩ | e
  · rw [e]; exact zeroR_wf
  · exact (lastC_in e).2
theorem Saf.getD {nn B : Nat} {d : D} {c : Cn} {q : R} (h : Saf nn B d c q) : (lastC c 1 nn).getD zeroR = q := by
  rcases h.last with ⟨e, e2⟩ | e
  · rw [e2, e]; rfl
  · rw [e]; rfl

/-- What is known where the power may be gone: whatever is kept, the last one is as it was, or the one that was appended. -/
structure Gon (nn B : Nat) (d : D) (q r : R) (f : Int) : Prop where
  ok : Ok d
  dom : Dom d
  sec : d.sec = 10
  size : d.size = 32
  rd : d.rd ≤ B
  wr : d.wr ≤ B
  sy : d.sy ≤ B
  qz : (q = zeroR) ∨ q.good
  qw : q.wf
  left : Left d fun c' => ((q = zeroR ∧ lastC c' 1 nn = none) ∨ lastC c' 1 nn = some q) ∨ (f = 8 ∧ lastC c' 1 nn = some r ∧ (q = zeroR ∨ after q r))

section
variable {p b nn : Nat} (hnn : 2 ≤ nn ∧ nn ≤ 6)
include hnn

/-- The last record of a disk whose power is there. -/
theorem last_use {d : D} {c : Cn} (hc : Clean d c) (hf : d.fuse = 0) (h1 : d.sec = 10) (hB : d.rd ≤ 100000) {L : List As} {H : Hp} (hs : Hw.Sep (Dk p d :: pts b (ringO p 1 nn 0) :: L) H) {K' : Value → Hp → Prop}
    (k : ∀ H', Hw.Sep (Dk p (D.rdG d nn) :: pts b (ringO p 1 nn 0) :: L) H' → K' (.tuple #[.agg ((lastC c 1 nn).getD zeroR).c, .bool (lastC c 1 nn).isSome, .int .i64 0]) H') :
    HCalls Tryz.prog 38 #[.pointer (some ⟨b, 0, none⟩)] H K' := by
  rcases scanA_clean hc 1 nn (by omega) with ⟨h2, h3⟩ | ⟨j, _, h2, _⟩
  · have hl := stC_len c 1 nn nn 0
    refine (Last_tr (b := b) (p := p) (w := 0) (f := 1) (n := nn) (d := d) (by omega) (by omega) hc.ok (by omega) (fun _ => by rw [h3]; show (stC c 1 nn nn 0).length ≤ 12; omega)).use hs [0, 1] rfl rfl ?_
    rintro _ _ H1 ⟨rfl, rfl⟩ hs
    rw [rest_01] at hs
    rw [h3, lastC_eq] at *
    exact k H1 hs
  · omega
end

abbrev actO (a : Rng.Act) : AO := .obj (.cells (Rng.actRow a).toArray 90)
abbrev SRes (K : Value → Hp → Prop) (j : Nat) (A : Option Addr) (n m : Nat) (A' : Option Addr) (n' m' : Nat) (p b b2 t : Nat) (H : Hp) : Prop :=
  W_abacistlaw21_RingSafe.l14 K t A n m A' n' m' (some ⟨p, 0, none⟩) (some ⟨b, 0, none⟩) ⟨b2, 0, none⟩ (IntKind.i64.wrap ((j : Int) + 1)) H

section
variable (K : Value → Hp → Prop) {H0 : Hp} {p b b2 b3 nn : Nat} (hnn : 2 ≤ nn ∧ nn ≤ 6) {A : Option Addr} {n m : Nat} {A' : Option Addr} {n' m' : Nat} {t j B : Nat} (hB : B ≤ 10000)
include hnn hB
/-- The power comes again, behind an act. -/
theorem safe_j28 {d : D} {q r : R} {f : Int} (hg : Gon nn B d q r f) {a : Rng.Act} (ha : Rng.OkA H0 a) (hr : r.wf) (har : a.r = r) {H : Hp}
    (go : ∀ (c : Cn) (d' : D) (y : R) (H : Hp), Saf nn (B + nn) d' c y → d'.fuse = 0 → Hw.Sep [own H0, Dk p d', pts b (ringO p 1 nn 0), pts b2 (recO y)] H → SRes K j A n m A' n' m' p b b2 t H)
    (hs : Hw.Sep [own H0, Dk p d, pts b (ringO p 1 nn 0), pts b2 (recO q), pts b3 (actO a)] H) :
    W_abacistlaw21_RingSafe.j28 K (W_abacistlaw21_RingSafe.l14 K t) A n m A' n' m' (some ⟨p, 0, none⟩) (some ⟨b, 0, none⟩) ⟨b2, 0, none⟩ (j : Int) ⟨b3, 0, none⟩ f H := by
  have hgr := hg.rd
  unfold W_abacistlaw21_RingSafe.j28
  try simp only [NN_some, Addr.add_lit', Addr.add_zero, Nat.zero_add, Nat.add_zero]
  refine (Crash_tr (p := p) (d := d)).use hs [1] rfl rfl ?_
  rintro _ _ H ⟨rfl, rfl⟩ hs
  refine hs.ld 4 (v := .slice a.A a.n a.m) rfl rfl ?_
  simp only [DI_int', DB_bool, DS_string, DP_pointer, DSl_slice, DM_map, DA_agg, DTup_tuple, DCons_cons, DNil_nil, NN_some, BIf_true, BIf_false, BIf_same, List.toList_toArray, Bool.not_true, Bool.not_false]
  have hokc := Ok.crash hg.ok
  refine (Boot_tr (p := p) (d := { d with down := true, fuse := 0 }) hokc hg.dom rfl a.A a.n a.m a.ks ha.n (own H0) (fun H h => (ha.le h).ks)).use hs [0, 1] rfl rfl ?_
  rintro _ _ H ⟨ks, hks, rfl, rfl⟩ hs
  simp only [DI_int', DB_bool, DS_string, DP_pointer, DSl_slice, DM_map, DA_agg, DTup_tuple, DCons_cons, DNil_nil, NN_some, BIf_true, BIf_false, BIf_same, List.toList_toArray, Bool.not_true, Bool.not_false]
  refine BIf_bnen rfl ?_
  have hleft : Left { d with down := true, fuse := 0 } fun c' => ((q = zeroR ∧ lastC c' 1 nn = none) ∨ lastC c' 1 nn = some q) ∨ (f = 8 ∧ lastC c' 1 nn = some r ∧ (q = zeroR ∨ after q r)) := hg.left
  obtain ⟨c', hP, hcl⟩ := hleft.boot hokc hks a.ks
  have hs : Hw.Sep [Dk p (D.boot { d with down := true, fuse := 0 } ks a.ks), pts b (ringO p 1 nn 0), own H0, pts b2 (recO q), pts b3 (actO a)] H := hs.re [0, 2, 1, 3, 4] rfl
  refine last_use hnn hcl rfl hg.sec (by show d.rd ≤ _; omega) hs fun H hs => ?_
  simp only [DI_int', DB_bool, DS_string, DP_pointer, DSl_slice, DM_map, DA_agg, DTup_tuple, DCons_cons, DNil_nil, NN_some, BIf_true, BIf_false, BIf_same, List.toList_toArray, Bool.not_true, Bool.not_false]
  have hsaf : ∀ y, ((y = zeroR ∧ lastC c' 1 nn = none) ∨ lastC c' 1 nn = some y) → Saf nn (B + nn) (D.rdG (D.boot { d with down := true, fuse := 0 } ks a.ks) nn) c' y := fun y hy =>
    ⟨hcl.rdG nn, hg.sec, hg.size, by show d.rd + nn ≤ _; omega, by show d.wr ≤ _; have := hg.wr; omega, by show d.sy ≤ _; have := hg.sy; omega, hy⟩
  generalize hd' : D.rdG (D.boot { d with down := true, fuse := 0 } ks a.ks) nn = d' at hs hsaf
  have hfz : d'.fuse = 0 := by rw [← hd']; show 0 - nn = 0; omega
  have hy : ∃ y, ((y = zeroR ∧ lastC c' 1 nn = none) ∨ lastC c' 1 nn = some y) := by
    cases hq : lastC c' 1 nn with
    | none => exact ⟨zeroR, .inl ⟨rfl, rfl⟩⟩
    | some y => exact ⟨y, .inr rfl⟩
  obtain ⟨y, hy⟩ := hy
  have hyS := hsaf y hy
  have hyw := hyS.wf
  have hyD := hyS.getD
  rw [hyD]
  refine hs.nw fun b4 H hs => ?_
  refine hs.stw 5 rfl rfl rfl (recC_ok _) fun H hs => ?_
  refine BIf_bnen rfl ?_
  have hs : Hw.Sep [Dk p d', pts b (ringO p 1 nn 0), own H0, pts b2 (recO q), pts b3 (actO a), pts b4 (recO y)] H := hs
  refine hs.ld 5 (v := .int .u64 (y.s : Int)) rfl rfl ?_
  simp only [DI_int', DB_bool, DS_string, DP_pointer, DSl_slice, DM_map, DA_agg, DTup_tuple, DCons_cons, DNil_nil, NN_some, BIf_true, BIf_false, BIf_same, List.toList_toArray, Bool.not_true, Bool.not_false]
  have hsome : (lastC c' 1 nn).isSome = decide ((y.s : Int) > 0) := by
    rcases hy with ⟨e, e2⟩ | e
    · rw [e2, e]; rfl
    · rw [e]
      have := (lastC_in e).1.1
      exact (decide_eq_true (by omega)).symm
  rw [hsome]
  refine BIf_neg (by simp) ?_
  have hs : Hw.Sep [Dk p d', pts b (ringO p 1 nn 0), own H0, pts b2 (recO q), pts b3 (actO a), pts b4 (recO y)] H := hs
  have store : ∀ H, Hw.Sep [Dk p d', pts b (ringO p 1 nn 0), own H0, pts b2 (recO q), pts b3 (actO a), pts b4 (recO y)] H →
      LdA H (⟨b4, 0, none⟩ : Addr) 8 fun l18 => StA H (⟨b2, 0, none⟩ : Addr) l18.toArray 8 fun H22 => SRes K j A n m A' n' m' p b b2 t H22 := fun H hs => by
    refine hs.ldw 5 rfl rfl ?_
    refine hs.stw 3 rfl rfl rfl (recC_ok _) fun H hs => ?_
    exact go c' d' y H hyS hfz (hs.re [2, 0, 1, 3] rfl)
  refine hs.ldw 5 rfl rfl ?_
  refine hs.ldw 3 rfl rfl ?_
  try simp only [Array.toArray_toList]
  by_cases e : y = q
  · refine rec_neq hyw hg.qw true (by simp [e]) ?_
    exact BIf_neg rfl (store H hs)
  · refine rec_neq hyw hg.qw false (by simp [e]) ?_
    refine BIf_pos rfl ?_
    obtain ⟨f8, hlr, hqr⟩ : f = 8 ∧ lastC c' 1 nn = some r ∧ (q = zeroR ∨ after q r) := by
      rcases hP with (⟨h1, h2⟩ | h1) | h1
      · rcases hy with ⟨h3, _⟩ | h3
        · exact absurd (h3.trans h1.symm) e
        · rw [h2] at h3; cases h3
      · rcases hy with ⟨_, h3⟩ | h3
        · rw [h1] at h3; cases h3
        · rw [h1] at h3; cases h3; exact absurd rfl e
      · exact h1
    have hyr : y = r := by
      rcases hy with ⟨_, h3⟩ | h3
      · rw [hlr] at h3; cases h3
      · rw [hlr] at h3; cases h3; rfl
    subst hyr
    refine BIf_bnen f8 ?_
    refine hs.ldw 5 rfl rfl ?_
    try simp only [NN_some, Addr.add_lit', Addr.add_zero, Nat.zero_add, Nat.add_zero]
    refine hs.lda 4 (off := 2) (n := 8) rfl (by show 2 + 8 ≤ 12; omega) ?_
    try simp only [Array.toArray_toList]
    have ea : ((((Rng.actRow a).toArray.toList.drop 2).take 8).toArray) = y.c := by rw [← har]; rfl
    rw [ea]
    refine rec_neq hyw hyw true (by simp) ?_
    refine BIf_neg rfl ?_
    refine hs.ldw 3 rfl rfl ?_
    refine hs.ldw 5 rfl rfl ?_
    try simp only [Array.toArray_toList]
    refine HCalls.use (rAfter_ok q y H) ?_
    try simp only [DI_int', DB_bool, DS_string, DP_pointer, DSl_slice, DM_map, DA_agg, DTup_tuple, DCons_cons, DNil_nil, NN_some, BIf_true, BIf_false, BIf_same, List.toList_toArray, Bool.not_true, Bool.not_false]
    by_cases haf : after q y
    · rw [decide_eq_true haf]
      exact BIf_neg rfl (store H hs)
    · rw [decide_eq_false haf]
      refine BIf_pos rfl ?_
      have hqz := hqr.resolve_right haf
      refine hs.ld 3 (v := .int .u64 (q.s : Int)) rfl rfl ?_
      simp only [DI_int', DB_bool, DS_string, DP_pointer, DSl_slice, DM_map, DA_agg, DTup_tuple, DCons_cons, DNil_nil, NN_some, BIf_true, BIf_false, BIf_same, List.toList_toArray, Bool.not_true, Bool.not_false]
      refine BIf_dneg (by rw [hqz]; decide) (store H hs)
end

section
variable (K : Value → Hp → Prop) {H0 : Hp} (hK : ∀ H, H0.le H → K (.bool true) H) {p b b2 nn : Nat} (hnn : 2 ≤ nn ∧ nn ≤ 6) {A : Option Addr} {n m : Nat} {l : List Rng.Act} (hl : l.length = n) (hn : n ≤ 30) (hc : CellsS 12 H0 A (l.map Rng.actRow)) (hall : ∀ a ∈ l, Rng.OkA H0 a)
  {A' : Option Addr} {n' m' : Nat} {ks : List Bool} (hn' : n' = ks.length) (hks : Cells H0 A' (boolVals ks))
include hK hnn hl hn hc hall hn' hks

/-- The last look. -/
theorem safe_end {j B : Nat} (hB : B ≤ 10000) {d : D} {c : Cn} {q : R} (hS : Saf nn B d c q) {H : Hp} (hs : Hw.Sep [own H0, Dk p d, pts b (ringO p 1 nn 0), pts b2 (recO q)] H) (hj : j = n) (t : Nat) :
    W_abacistlaw21_RingSafe.l14 K (t + 1) A n m A' n' m' (some ⟨p, 0, none⟩) (some ⟨b, 0, none⟩) ⟨b2, 0, none⟩ (j : Int) H := by
  unfold W_abacistlaw21_RingSafe.l14
  have hrd := hS.rd
  refine BIf_dneg (by omega) ?_
  try simp only [NN_some, Addr.add_lit', Addr.add_zero, Nat.zero_add, Nat.add_zero]
  refine (Fuse_tr (p := p) (d := d) 0).use hs [1] rfl rfl ?_
  rintro _ _ H ⟨rfl, rfl⟩ hs
  try simp only [NN_some, Addr.add_lit', Addr.add_zero, Nat.zero_add, Nat.add_zero]
  have hcf := hS.cl.fused 0 (by omega)
  refine (Crash_tr (p := p) (d := { d with fuse := (0 : Int).toNat })).use hs [0] rfl rfl ?_
  rintro _ _ H ⟨rfl, rfl⟩ hs
  have hokc : Ok { d with down := true, fuse := 0 } := Ok.crash hS.cl.ok
  have hdomc : Dom { d with down := true, fuse := 0 } := hS.cl.dom
  have hs : Hw.Sep [Dk p { d with down := true, fuse := 0 }, own H0, pts b (ringO p 1 nn 0), pts b2 (recO q)] H := hs
  refine (Boot_tr (p := p) (d := { d with down := true, fuse := 0 }) hokc hdomc rfl A' n' m' ks hn' (own H0) (fun H h => hks.le h)).use hs [0, 1] rfl rfl ?_
  rintro _ _ H ⟨kk, hkk, rfl, rfl⟩ hs
  simp only [DI_int', DB_bool, DS_string, DP_pointer, DSl_slice, DM_map, DA_agg, DTup_tuple, DCons_cons, DNil_nil, NN_some, BIf_true, BIf_false, BIf_same, List.toList_toArray, Bool.not_true, Bool.not_false]
  refine BIf_bnen rfl ?_
  obtain ⟨c', hP, hcl⟩ := hS.cl.crash.boot hokc hkk ks
  subst hP
  have hs : Hw.Sep [Dk p (D.boot { d with down := true, fuse := 0 } kk ks), pts b (ringO p 1 nn 0), own H0, pts b2 (recO q)] H := hs.re [0, 2, 1, 3] rfl
  refine last_use hnn hcl rfl hS.sec (by show d.rd ≤ _; omega) hs fun H hs => ?_
  simp only [DI_int', DB_bool, DS_string, DP_pointer, DSl_slice, DM_map, DA_agg, DTup_tuple, DCons_cons, DNil_nil, NN_some, BIf_true, BIf_false, BIf_same, List.toList_toArray, Bool.not_true, Bool.not_false]
  rw [hS.getD] at *
  refine hs.nw fun b4 H hs => ?_
  refine hs.stw 4 rfl rfl rfl (recC_ok _) fun H hs => ?_
  refine BIf_beqp rfl ?_
  refine hs.ldw 4 rfl rfl ?_
  refine hs.ldw 3 rfl rfl ?_
  try simp only [Array.toArray_toList]
  refine rec_eql hS.wf hS.wf true (by simp) ?_
  exact hK H (hs.ow 2 rfl)

theorem safe_loop : ∀ (t j B : Nat) (d : D) (c : Cn) (q : R) (H : Hp), j + t = n → B ≤ 100 * j → Saf nn B d c q → Hw.Sep [own H0, Dk p d, pts b (ringO p 1 nn 0), pts b2 (recO q)] H →
    W_abacistlaw21_RingSafe.l14 K (t + 1) A n m A' n' m' (some ⟨p, 0, none⟩) (some ⟨b, 0, none⟩) ⟨b2, 0, none⟩ (j : Int) H := fun t => by
  induction t with
  | zero =>
    intro j B d c q H hj hB hS hs
    exact safe_end K hK hnn hl hn hc hall hn' hks (by omega) hS hs (by omega) 0
  | succ t ih =>
    intro j B d c q H hj hB hS hs
    have hjl : j < l.length := by omega
    have hOK := hall (l[j]'hjl) (List.getElem_mem _)
    have hrd := hS.rd
    have hwr := hS.wr
    have hsy := hS.sy
    have hsz := hS.size
    unfold W_abacistlaw21_RingSafe.l14
    refine BIf_dpos (by omega) ?_
    have hrow : (l.map Rng.actRow)[j]? = some (Rng.actRow (l[j]'hjl)) := by rw [List.getElem?_map, List.getElem?_eq_getElem hjl]; rfl
    refine CellsS.rdA (hc.le (hs.ow 0 rfl)) hrow rfl rfl (by rw [List.length_map]; omega) ?_
    generalize l[j]'hjl = a at hOK
    refine hs.nw fun b3 H hs => ?_
    refine hs.stw 4 rfl rfl rfl rfl fun H hs => ?_
    have hs : Hw.Sep [own H0, Dk p d, pts b (ringO p 1 nn 0), pts b2 (recO q), pts b3 (actO a)] H := hs
    have again : ∀ (B' : Nat) (c' : Cn) (d' : D) (y : R) (H : Hp), B' ≤ B + 100 → Saf nn B' d' c' y → Hw.Sep [own H0, Dk p d', pts b (ringO p 1 nn 0), pts b2 (recO y)] H → SRes K j A n m A' n' m' p b b2 (t + 1) H := fun B' c' d' y H hB' hS' hs => by
      unfold SRes
      rw [i64w (x := (j : Int) + 1) (by omega) (by omega)]
      exact ih (j + 1) B' d' c' y H (by omega) (by omega) hS' hs
    first | refine hs.ldf 4 (v := .int .i64 a.k) rfl rfl ?_ | refine hs.ld 4 (v := .int .i64 a.k) rfl rfl ?_
    simp only [DI_int', DB_bool, DS_string, DP_pointer, DSl_slice, DM_map, DA_agg, DTup_tuple, DCons_cons, DNil_nil, NN_some, BIf_true, BIf_false, BIf_same, List.toList_toArray, Bool.not_true, Bool.not_false]
    by_cases h5 : a.k = 5
    · refine BIf_beqp h5 ?_
      first | refine hs.ldf 4 (v := .int .i64 a.i) rfl rfl ?_ | refine hs.ld 4 (v := .int .i64 a.i) rfl rfl ?_
      simp only [DI_int', DB_bool, DS_string, DP_pointer, DSl_slice, DM_map, DA_agg, DTup_tuple, DCons_cons, DNil_nil, NN_some, BIf_true, BIf_false, BIf_same, List.toList_toArray, Bool.not_true, Bool.not_false]
      try simp only [NN_some, Addr.add_lit', Addr.add_zero, Nat.zero_add, Nat.add_zero]
      refine (Fuse_tr (p := p) (d := d) a.i).use hs [1] rfl rfl ?_
      rintro _ _ H ⟨rfl, rfl⟩ hs
      have hi := hOK.i
      exact again B c _ q H (by omega) ⟨hS.cl.fused a.i.toNat (by omega), hS.sec, hS.size, hrd, hwr, hsy, hS.last⟩ (hs.re [1, 0, 2, 3] rfl)
    refine BIf_beqn h5 ?_
    first | refine hs.ldf 4 (v := .int .i64 a.k) rfl rfl ?_ | refine hs.ld 4 (v := .int .i64 a.k) rfl rfl ?_
    simp only [DI_int', DB_bool, DS_string, DP_pointer, DSl_slice, DM_map, DA_agg, DTup_tuple, DCons_cons, DNil_nil, NN_some, BIf_true, BIf_false, BIf_same, List.toList_toArray, Bool.not_true, Bool.not_false]
    by_cases h4 : a.k > 4
    · exact BIf_dpos h4 (again B c d q H (by omega) hS (hs.re [0, 1, 2, 3] rfl))
    refine BIf_dneg h4 ?_
    first | refine hs.ldf 4 (v := .int .i64 a.k) rfl rfl ?_ | refine hs.ld 4 (v := .int .i64 a.k) rfl rfl ?_
    simp only [DI_int', DB_bool, DS_string, DP_pointer, DSl_slice, DM_map, DA_agg, DTup_tuple, DCons_cons, DNil_nil, NN_some, BIf_true, BIf_false, BIf_same, List.toList_toArray, Bool.not_true, Bool.not_false]
    by_cases h0 : a.k < 0
    · exact BIf_dpos h0 (again B c d q H (by omega) hS (hs.re [0, 1, 2, 3] rfl))
    refine BIf_dneg h0 ?_
    have j22 : ∀ (a : Rng.Act) (H : Hp), Rng.OkA H0 a → 0 ≤ a.k → a.k ≤ 4 → Hw.Sep [own H0, Dk p d, pts b (ringO p 1 nn 0), pts b2 (recO q), pts b3 (actO a)] H → W_abacistlaw21_RingSafe.j22 K (W_abacistlaw21_RingSafe.l14 K (t + 1)) A n m A' n' m' (some ⟨p, 0, none⟩) (some ⟨b, 0, none⟩) ⟨b2, 0, none⟩ (j : Int) ⟨b3, 0, none⟩ H := fun a H hOK h0 h4 hs => by
      have hq : q = zeroR ∨ q.good := by
        rcases hS.last with ⟨e, _⟩ | e
        · exact .inl e
        · exact .inr (lastC_in e).1
      have j28 : ∀ (d' : D) (f : Int) (H : Hp), Gon nn (B + nn + 2) d' q a.r f → Hw.Sep [own H0, Dk p d', pts b (ringO p 1 nn 0), pts b2 (recO q), pts b3 (actO a)] H →
          W_abacistlaw21_RingSafe.j28 K (W_abacistlaw21_RingSafe.l14 K (t + 1)) A n m A' n' m' (some ⟨p, 0, none⟩) (some ⟨b, 0, none⟩) ⟨b2, 0, none⟩ (j : Int) ⟨b3, 0, none⟩ f H := fun d' f H hg hs =>
        safe_j28 K hnn (by omega) hg hOK hOK.wf rfl (fun c' d'' y H hS' _ hs => again _ c' d'' y H (by omega) hS' hs) hs
      have quiet : ∀ (d' : D) (f : Int) (y : R) (c' : Cn) (H : Hp), Saf nn (B + nn + 2) d' c' y → (f ≠ 0 → y = q) → Hw.Sep [own H0, Dk p d', pts b (ringO p 1 nn 0), pts b2 (recO y), pts b3 (actO a)] H →
          (a.k = 4 → f ≠ 0 ∧ y = q) → W_abacistlaw21_RingSafe.j27 K (W_abacistlaw21_RingSafe.l14 K (t + 1)) A n m A' n' m' (some ⟨p, 0, none⟩) (some ⟨b, 0, none⟩) ⟨b2, 0, none⟩ (j : Int) ⟨b3, 0, none⟩ f H := fun d' f y c' H hS' _ hs h4' => by
        unfold W_abacistlaw21_RingSafe.j27
        try simp only [NN_some, Addr.add_lit', Addr.add_zero, Nat.zero_add, Nat.add_zero]
        refine HCalls.use (Down_s hs 1 rfl) ?_
        rw [hS'.cl.down]
        simp only [DI_int', DB_bool, DS_string, DP_pointer, DSl_slice, DM_map, DA_agg, DTup_tuple, DCons_cons, DNil_nil, NN_some, BIf_true, BIf_false, BIf_same, List.toList_toArray, Bool.not_true, Bool.not_false]
        first | refine hs.ldf 4 (v := .int .i64 a.k) rfl rfl ?_ | refine hs.ld 4 (v := .int .i64 a.k) rfl rfl ?_
        simp only [DI_int', DB_bool, DS_string, DP_pointer, DSl_slice, DM_map, DA_agg, DTup_tuple, DCons_cons, DNil_nil, NN_some, BIf_true, BIf_false, BIf_same, List.toList_toArray, Bool.not_true, Bool.not_false]
        by_cases e4 : a.k = 4
        · refine BIf_bnen e4 ?_
          have hyq := (h4' e4).2
          have hle := hS'.cl.crash
          rw [hyq] at hs
          refine j28 d' f H ⟨hS'.cl.ok, hS'.cl.dom, hS'.sec, hS'.size, hS'.rd, hS'.wr, hS'.sy, hq, hS.wf, fun c'' hc'' => .inl ?_⟩ hs
          have e : c'' = c' := hle c'' hc''
          rw [e, ← hyq]; exact hS'.last
        · refine BIf_bnep e4 ?_
          exact again _ c' d' y H (by omega) hS' (hs.re [0, 1, 2, 3] rfl)
      have dead : ∀ (d' : D) (n9 : Nat) (H : Hp), Cut d d' n9 → d'.rd ≤ B + nn + 2 → d'.wr ≤ B + nn + 2 → d'.sy ≤ B + nn + 2 → Left d' (fun c' => ((q = zeroR ∧ lastC c' 1 nn = none) ∨ lastC c' 1 nn = some q) ∨ ((8 : Int) = 8 ∧ lastC c' 1 nn = some a.r ∧ (q = zeroR ∨ after q a.r))) →
          Hw.Sep [own H0, Dk p d', pts b (ringO p 1 nn 0), pts b2 (recO q), pts b3 (actO a)] H → W_abacistlaw21_RingSafe.j27 K (W_abacistlaw21_RingSafe.l14 K (t + 1)) A n m A' n' m' (some ⟨p, 0, none⟩) (some ⟨b, 0, none⟩) ⟨b2, 0, none⟩ (j : Int) ⟨b3, 0, none⟩ 8 H := fun d' n9 H hcut h1 h2 h3 hleft hs => by
        unfold W_abacistlaw21_RingSafe.j27
        try simp only [NN_some, Addr.add_lit', Addr.add_zero, Nat.zero_add, Nat.add_zero]
        refine HCalls.use (Down_s hs 1 rfl) ?_
        rw [hcut.down]
        simp only [DI_int', DB_bool, DS_string, DP_pointer, DSl_slice, DM_map, DA_agg, DTup_tuple, DCons_cons, DNil_nil, NN_some, BIf_true, BIf_false, BIf_same, List.toList_toArray, Bool.not_true, Bool.not_false]
        exact j28 d' 8 H ⟨hcut.ok, hcut.dom, hcut.sec.trans hS.sec, hcut.size.trans hS.size, h1, h2, h3, hq, hS.wf, hleft⟩ hs
      unfold W_abacistlaw21_RingSafe.j22
      first | refine hs.ldf 4 (v := .int .i64 a.k) rfl rfl ?_ | refine hs.ld 4 (v := .int .i64 a.k) rfl rfl ?_
      simp only [DI_int', DB_bool, DS_string, DP_pointer, DSl_slice, DM_map, DA_agg, DTup_tuple, DCons_cons, DNil_nil, NN_some, BIf_true, BIf_false, BIf_same, List.toList_toArray, Bool.not_true, Bool.not_false]
      by_cases h3 : a.k ≤ 3
      · refine BIf_dpos h3 ?_
        try simp only [NN_some, Addr.add_lit', Addr.add_zero, Nat.zero_add, Nat.add_zero]
        refine hs.lda 4 (off := 2) (n := 8) rfl (by show 2 + 8 ≤ 12; omega) ?_
        have ea : ((((Rng.actRow a).toArray.toList.drop 2).take 8).toArray) = a.r.c := rfl
        rw [ea]
        have hcs := app_cases hS.cl (f := 1) (n := nn) (by omega) (by rw [hS.sec]; omega) a.r
        have hlen : (scanA 1 nn d).1 = 0 → (scanA 1 nn d).2.2.length ≤ 12 := fun _ => by
          have := scanR_len 1 nn nn 0 d []
          have h9 : (scanA 1 nn d).2.2.length ≤ 0 + nn := this
          omega
        refine (Append_tr (b := b) (p := p) (f := 1) (n := nn) (w := 0) (d := d) (by omega) (by omega) hS.cl.ok ⟨by omega, by omega⟩ (by omega) hlen (by rw [hsz]; exact sec32) a.r hOK.wf.u).use hs [1, 2] rfl rfl ?_
        rintro _ _ H ⟨rfl, rfl⟩ hs
        have hs : Hw.Sep [Dk p (appV 1 nn d a.r).2, pts b (ringO p 1 nn 0), own H0, pts b2 (recO q), pts b3 (actO a)] H := hs
        rcases hcs with ⟨_, e⟩ | ⟨_, d', e, hcut, hleft⟩ | ⟨_, _, d', e, hw, hcl⟩ | ⟨hg, hm, d', e, hcut, hleft⟩ | ⟨hg, hm, d', e, hw, hcl⟩
        · rw [e] at hs ⊢
          simp only [DI_int', DB_bool, DS_string, DP_pointer, DSl_slice, DM_map, DA_agg, DTup_tuple, DCons_cons, DNil_nil, NN_some, BIf_true, BIf_false, BIf_same, List.toList_toArray, Bool.not_true, Bool.not_false]
          unfold W_abacistlaw21_RingSafe.j25
          refine BIf_beqn (by decide) ?_
          exact quiet d 10 q c H ⟨hS.cl, hS.sec, hS.size, by omega, by omega, by omega, hS.last⟩ (fun _ => rfl) (hs.re [2, 0, 1, 3, 4] rfl) (fun h => by omega)
        · rw [e] at hs ⊢
          simp only [DI_int', DB_bool, DS_string, DP_pointer, DSl_slice, DM_map, DA_agg, DTup_tuple, DCons_cons, DNil_nil, NN_some, BIf_true, BIf_false, BIf_same, List.toList_toArray, Bool.not_true, Bool.not_false]
          unfold W_abacistlaw21_RingSafe.j25
          refine BIf_beqn (by decide) ?_
          have h1 := hcut.cnt; have h2 := hcut.le; have h5' := hcut.rd; have h6 := hcut.wr; have h7 := hcut.sy
          exact dead d' _ H hcut (by omega) (by omega) (by omega) (hleft.mono fun c' hc' => .inl (by rw [hc']; exact hS.last)) (hs.re [2, 0, 1, 3, 4] rfl)
        · rw [e] at hs ⊢
          simp only [DI_int', DB_bool, DS_string, DP_pointer, DSl_slice, DM_map, DA_agg, DTup_tuple, DCons_cons, DNil_nil, NN_some, BIf_true, BIf_false, BIf_same, List.toList_toArray, Bool.not_true, Bool.not_false]
          unfold W_abacistlaw21_RingSafe.j25
          refine BIf_beqn (by decide) ?_
          have h1 := hw.rd; have h2 := hw.wr; have h5' := hw.sy
          exact quiet d' 5 q c H ⟨hcl, hw.sec.trans hS.sec, hw.size.trans hS.size, by omega, by omega, by omega, hS.last⟩ (fun _ => rfl) (hs.re [2, 0, 1, 3, 4] rfl) (fun h => by omega)
        · rw [e] at hs ⊢
          simp only [DI_int', DB_bool, DS_string, DP_pointer, DSl_slice, DM_map, DA_agg, DTup_tuple, DCons_cons, DNil_nil, NN_some, BIf_true, BIf_false, BIf_same, List.toList_toArray, Bool.not_true, Bool.not_false]
          unfold W_abacistlaw21_RingSafe.j25
          refine BIf_beqn (by decide) ?_
          have h1 := hcut.cnt; have h2 := hcut.le; have h5' := hcut.rd; have h6 := hcut.wr; have h7 := hcut.sy
          refine dead d' _ H hcut (by omega) (by omega) (by omega) (hleft.mono fun c' hc' => ?_) (hs.re [2, 0, 1, 3, 4] rfl)
          rcases hc' with e2 | e2
          · left; rw [e2]; exact hS.last
          · right
            refine ⟨rfl, ?_, ?_⟩
            · rw [e2, hsz]; exact last_upd (size := 32) (by omega) (by decide) sec32 hg hOK.wf.u hm
            · rcases hS.last with ⟨e3, _⟩ | e3
              · exact .inl e3
              · right; rw [e3] at hm; exact of_decide_eq_true hm
        · rw [e] at hs ⊢
          simp only [DI_int', DB_bool, DS_string, DP_pointer, DSl_slice, DM_map, DA_agg, DTup_tuple, DCons_cons, DNil_nil, NN_some, BIf_true, BIf_false, BIf_same, List.toList_toArray, Bool.not_true, Bool.not_false]
          unfold W_abacistlaw21_RingSafe.j25
          refine BIf_beqp rfl ?_
          refine hs.lda 4 (off := 2) (n := 8) rfl (by show 2 + 8 ≤ 12; omega) ?_
          rw [ea]
          refine hs.stw 3 (y := a.r.c) rfl rfl rfl (recC_ok _) fun H hs => ?_
          have h1 := hw.rd; have h2 := hw.wr; have h5' := hw.sy
          rw [hsz] at hcl
          exact quiet d' 0 a.r _ H ⟨hcl, hw.sec.trans hS.sec, hw.size.trans hS.size, by omega, by omega, by omega, .inr (last_upd (size := 32) (by omega) (by decide) sec32 hg hOK.wf.u hm)⟩ (fun h => absurd rfl h) (hs.re [2, 0, 1, 3, 4] rfl) (fun h => by omega)
      · refine BIf_dneg h3 ?_
        unfold W_abacistlaw21_RingSafe.j25
        refine BIf_beqn (by decide) ?_
        exact quiet d 11 q c H ⟨hS.cl, hS.sec, hS.size, by omega, by omega, by omega, hS.last⟩ (fun _ => rfl) hs (fun _ => ⟨by decide, rfl⟩)
    first | refine hs.ldf 4 (v := .int .i64 a.k) rfl rfl ?_ | refine hs.ld 4 (v := .int .i64 a.k) rfl rfl ?_
    simp only [DI_int', DB_bool, DS_string, DP_pointer, DSl_slice, DM_map, DA_agg, DTup_tuple, DCons_cons, DNil_nil, NN_some, BIf_true, BIf_false, BIf_same, List.toList_toArray, Bool.not_true, Bool.not_false]
    by_cases h3 : a.k = 3
    · refine BIf_beqp h3 ?_
      refine hs.ldf 3 rfl rfl ?_
      simp only [DI_int', DB_bool, DS_string, DP_pointer, DSl_slice, DM_map, DA_agg, DTup_tuple, DCons_cons, DNil_nil, NN_some, BIf_true, BIf_false, BIf_same, List.toList_toArray, Bool.not_true, Bool.not_false]
      try simp only [NN_some, Addr.add_lit', Addr.add_zero, Nat.zero_add, Nat.add_zero]
      refine hs.st 4 rfl (by show 2 < 12; omega) rfl fun H hs => ?_
      have hqs : q.s < 281474976710656 := by
        rcases hS.last with ⟨e, _⟩ | e
        · rw [e]; decide
        · exact (lastC_in e).1.2.1
      rw [u64w (x := (q.s : Int) + 1) (by omega) (by omega)] at hs
      have w := hOK.wf
      exact j22 { a with r := { a.r with s := q.s + 1 } } H ⟨hOK.n, hOK.ks, hOK.n', hOK.b, hOK.i, ⟨by show q.s + 1 < 2 ^ 64; omega, w.kd, w.kk, w.dir, w.ps, ⟨w.u.ld, w.u.inp, w.u.out⟩⟩⟩ (by show 0 ≤ a.k; omega) (by show a.k ≤ 4; omega) hs
    · exact BIf_beqn h3 (j22 a H hOK (by omega) (by omega) hs)
end

theorem RingSafe_ok (x : Nat) (hx : x ≤ 255) (A : Option Addr) (n m : Nat) (l : List Rng.Act) (hl : l.length = n) (A' : Option Addr) (n' m' : Nat) (ks : List Bool) (hn' : n' = ks.length) (H : Hp)
    (hc : CellsS 12 H A (l.map Rng.actRow)) (hall : ∀ a ∈ l, Rng.OkA H a) (hks : Cells H A' (boolVals ks)) :
    HCalls Tryz.prog 4 #[.int .u8 (x : Int), .slice A n m, .slice A' n' m'] H (Ret (.bool true) H) := by
  apply W_abacistlaw21_RingSafe.ok
  unfold W_abacistlaw21_RingSafe
  refine HCalls.use (Rng.awake_ok H) ?_
  try simp only [DI_int', DB_bool, DS_string, DP_pointer, DSl_slice, DM_map, DA_agg, DTup_tuple, DCons_cons, DNil_nil, NN_some, BIf_true, BIf_false, BIf_same, List.toList_toArray, Bool.not_true, Bool.not_false]
  refine (Rng.few_ok A n m l hl H hc).mono ?_
  rintro _ _ ⟨rfl, c, rfl, hf⟩
  simp only [DI_int', DB_bool, DS_string, DP_pointer, DSl_slice, DM_map, DA_agg, DTup_tuple, DCons_cons, DNil_nil, NN_some, BIf_true, BIf_false, BIf_same, List.toList_toArray, Bool.not_true, Bool.not_false]
  cases c with
  | false => exact BIf_pos rfl ⟨rfl, Hp.le_refl _⟩
  | true =>
    refine BIf_neg rfl ?_
    have hn := (hf rfl).1
    by_cases h20 : n' > 20
    · exact BIf_dpos (by omega) ⟨rfl, Hp.le_refl _⟩
    refine BIf_dneg (by omega) ?_
    refine (Dsk.New_tr 10 32 (by omega) (by decide) (by omega)).use (Sep.start _) [] rfl rfl ?_
    rintro _ _ H1 ⟨p, rfl, rfl⟩ hs
    simp only [DI_int', DB_bool, DS_string, DP_pointer, DSl_slice, DM_map, DA_agg, DTup_tuple, DCons_cons, DNil_nil, NN_some, BIf_true, BIf_false, BIf_same, List.toList_toArray, Bool.not_true, Bool.not_false]
    refine ⟨by decide, by simp, ?_⟩
    rw [i64n (n := x) (by omega), show Int.tmod (x : Int) 5 = ((x % 5 : Nat) : Int) from rfl, i64w (x := (2 : Int) + ((x % 5 : Nat) : Int)) (by omega) (by omega), show (2 : Int) + ((x % 5 : Nat) : Int) = ((2 + x % 5 : Nat) : Int) by omega]
    generalize hnn : 2 + x % 5 = nn
    refine hs.nw fun b1 H1 hs => ?_
    refine hs.stw 2 rfl rfl rfl rfl fun H1 hs => ?_
    refine BIf_neg rfl ?_
    refine hs.ldw 2 rfl rfl ?_
    have hok : Ok (D.fresh 10 32) := Ok.fresh (by omega) (by decide) (by omega)
    refine (Rng.New_tr (p := p) hok 1 (nn : Int) 0 (by omega)).use hs [0] rfl rfl ?_
    rintro _ _ H1 (⟨he, b, rfl, rfl⟩ | ⟨he, _⟩) hs
    · simp only [DI_int', DB_bool, DS_string, DP_pointer, DSl_slice, DM_map, DA_agg, DTup_tuple, DCons_cons, DNil_nil, NN_some, BIf_true, BIf_false, BIf_same, List.toList_toArray, Bool.not_true, Bool.not_false]
      refine BIf_neg rfl (BIf_bnen rfl ?_)
      refine hs.nw fun b2 H1 hs => ?_
      refine hs.stw 4 (y := zeroR.c) rfl rfl rfl rfl fun H1 hs => ⟨n + 1, ?_⟩
      have hcl := Clean.fresh (sec := 10) (size := 32) (by omega) (by decide) (by omega)
      refine safe_loop _ (fun H h => ⟨rfl, h⟩) (by omega) hl hn hc hall hn' hks n 0 0 (D.fresh 10 32) _ zeroR H1 (by omega) (by omega) ⟨hcl, rfl, rfl, Nat.le_refl _, Nat.le_refl _, Nat.le_refl _, .inl ⟨rfl, ?_⟩⟩ (hs.re [2, 0, 1, 4] rfl)
      refine (lastR_nil _).2 ?_
      refine List.eq_nil_iff_forall_not_mem.2 fun y hy => ?_
      obtain ⟨j, _, _, h3⟩ := (stC_mem _ 1 nn y nn 0).1 hy
      rw [stand_mem] at h3
      exact absurd h3.1 (by decide +kernel)
    · have : extB (D.fresh 10 32) 1 (nn : Int) = true := decide_eq_true ⟨by omega, by omega, by show (1 : Int) < ((10 : Nat) : Int); omega, by show (nn : Int) ≤ ((10 : Nat) : Int) - 1; omega⟩
      rw [this] at he; cases he

end Go.Proofs.YtghajiefpmcpmaaGreatDoor.Eng

end
