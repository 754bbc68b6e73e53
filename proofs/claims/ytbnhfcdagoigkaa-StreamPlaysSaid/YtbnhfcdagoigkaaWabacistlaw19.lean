/- Formulas of functions, printed by wip/tools/hwp.py. -/
import Derived.Test.YtbnhfcdagoigkaaHwE
import Derived.Test.YtbnhfcdagoigkaaProg
set_option maxRecDepth 100000
set_option linter.unusedVariables false
namespace Go.Proofs.Ytbnhfcdagoigkaa.W
open Go Go.Hw

theorem mix : Try.prog.follows .mixedOrders = true := by kernel_rfl
-- abacistlaw19.StreamPlays
def W_abacistlaw19_StreamPlays.j57 (K : Value → Hp → Prop) (R11 : Option Addr → Nat → Nat → Int → Option Addr → Option Addr → Option Addr → Option Addr → Nat → Nat → Int → Hp → Prop) (A33 : Option Addr) (n35 : Nat) (m33 : Nat) (x66 : Int) (p34 : Option Addr) (p35 : Option Addr) (p36 : Option Addr) (A34 : Option Addr) (n36 : Nat) (m34 : Nat) (x67 : Int) (H : Hp) : Prop :=
  NN p36 fun a13 => HCalls Try.prog 26 #[.pointer (some (a13.add 0))] H fun v56 H22 => DI .i64 v56 fun x68 => BIf (x68 != (0 : Int)) (K (.bool false) H22) (NN p36 fun a14 => HCalls Try.prog 27 #[.pointer (some (a14.add 0))] H22 fun v57 H23 => DI .i64 v57 fun x69 => BIf (decide (x69 > (4 : Int))) (K (.bool false) H23) (R11 A33 n35 m33 x66 p34 p35 p36 A34 n36 m34 (IntKind.i64.wrap (x67 + (1 : Int))) H23))
def W_abacistlaw19_StreamPlays.j55 (K : Value → Hp → Prop) (R11 : Option Addr → Nat → Nat → Int → Option Addr → Option Addr → Option Addr → Option Addr → Nat → Nat → Int → Hp → Prop) (A31 : Option Addr) (n33 : Nat) (m31 : Nat) (x61 : Int) (p31 : Option Addr) (p32 : Option Addr) (p33 : Option Addr) (A32 : Option Addr) (n34 : Nat) (m32 : Nat) (x62 : Int) (x63 : Int) (x64 : Int) (H : Hp) : Prop :=
  BIf (x64 != (0 : Int)) (K (.bool false) H) (HCalls Try.prog 25 #[.slice A32 n34 m32] H fun v55 H21 => DI .u32 v55 fun x65 => BIf (x63 != x65) (K (.bool false) H21) (W_abacistlaw19_StreamPlays.j57 K R11 A31 n33 m31 x61 p31 p32 p33 A32 n34 m32 x62 H21))
def W_abacistlaw19_StreamPlays.l50 (K : Value → Hp → Prop) (R11 : Option Addr → Nat → Nat → Int → Option Addr → Option Addr → Option Addr → Option Addr → Nat → Nat → Int → Hp → Prop) : Nat → Option Addr → Nat → Nat → Int → Option Addr → Option Addr → Option Addr → Option Addr → Nat → Nat → Int → Int → Int → Hp → Prop
  | 0, _, _, _, _, _, _, _, _, _, _, _, _, _, _ => False
  | k + 1, A29, n31, m29, x53, p28, p29, p30, A30, n32, m30, x54, x55, x56, H =>
    let R50 := W_abacistlaw19_StreamPlays.l50 K R11 k
    BIf (decide (x56 < x53)) (ixI x56 n32 (NN A30 fun a12 => St H ((a12.add (x56.toNat * 1)).add 0) (.int .u64 x55) fun H18 => R50 A29 n31 m29 x53 p28 p29 p30 A30 n32 m30 x54 x55 (IntKind.i64.wrap (x56 + (1 : Int))) H18)) (W_abacistlaw19_StreamPlays.j57 K R11 A29 n31 m29 x53 p28 p29 p30 A30 n32 m30 x54 H)
def W_abacistlaw19_StreamPlays.j47 (K : Value → Hp → Prop) (R11 : Option Addr → Nat → Nat → Int → Option Addr → Option Addr → Option Addr → Option Addr → Nat → Nat → Int → Hp → Prop) (A27 : Option Addr) (n29 : Nat) (m27 : Nat) (x49 : Int) (p25 : Option Addr) (p26 : Option Addr) (p27 : Option Addr) (A28 : Option Addr) (n30 : Nat) (m28 : Nat) (x50 : Int) (x51 : Int) (H : Hp) : Prop :=
  HCalls Try.prog 23 #[.pointer p25, .int .u64 x51] H fun v48 H17 => DI .i64 v48 fun x52 => BIf (x52 != (0 : Int)) (K (.bool false) H17) ((∃ k, W_abacistlaw19_StreamPlays.l50 K R11 k A27 n29 m27 x49 p25 p26 p27 A28 n30 m28 x50 x51 (0 : Int) H17))
def W_abacistlaw19_StreamPlays.j45 (K : Value → Hp → Prop) (R11 : Option Addr → Nat → Nat → Int → Option Addr → Option Addr → Option Addr → Option Addr → Nat → Nat → Int → Hp → Prop) (A23 : Option Addr) (n25 : Nat) (m23 : Nat) (x45 : Int) (p22 : Option Addr) (p23 : Option Addr) (p24 : Option Addr) (A24 : Option Addr) (n26 : Nat) (m24 : Nat) (x46 : Int) (a10 : Addr) (x47 : Int) (H : Hp) : Prop :=
  Ld H (a10.add 3) fun v45 => DSl v45 fun A25 n27 m25 => BIf (decide (((n27 : Nat) : Int) > (0 : Int))) (Ld H (a10.add 3) fun v46 => DSl v46 fun A26 n28 m26 => ixI (0 : Int) n28 (NN A26 fun a11 => Ld H (a11.add ((0 : Int).toNat * 1)) fun v47 => DI .u64 v47 fun x48 => W_abacistlaw19_StreamPlays.j47 K R11 A23 n25 m23 x45 p22 p23 p24 A24 n26 m24 x46 x48 H)) (W_abacistlaw19_StreamPlays.j47 K R11 A23 n25 m23 x45 p22 p23 p24 A24 n26 m24 x46 x47 H)
def W_abacistlaw19_StreamPlays.j38 (K : Value → Hp → Prop) (R11 : Option Addr → Nat → Nat → Int → Option Addr → Option Addr → Option Addr → Option Addr → Nat → Nat → Int → Hp → Prop) (A21 : Option Addr) (n23 : Nat) (m21 : Nat) (x38 : Int) (p19 : Option Addr) (p20 : Option Addr) (p21 : Option Addr) (A22 : Option Addr) (n24 : Nat) (m22 : Nat) (x39 : Int) (a8 : Addr) (c7 : Bool) (x40 : Int) (x41 : Int) (H : Hp) : Prop :=
  BIf c7 (Ld H (a8.add 1) fun v42 => DI .i64 v42 fun x42 => BIf (decide (x42 < x38)) (BIf (x41 != (0 : Int)) (K (.bool false) H) (Ld H (a8.add 1) fun v43 => DI .i64 v43 fun x43 => ixI x43 n24 (NN A22 fun a9 => Ld H (a9.add (x43.toNat * 1)) fun v44 => DI .u64 v44 fun x44 => BIf (x40 != x44) (K (.bool false) H) (W_abacistlaw19_StreamPlays.j57 K R11 A21 n23 m21 x38 p19 p20 p21 A22 n24 m22 x39 H)))) (BIf (x41 != (2 : Int)) (K (.bool false) H) (BIf (x40 != (0 : Int)) (K (.bool false) H) (W_abacistlaw19_StreamPlays.j57 K R11 A21 n23 m21 x38 p19 p20 p21 A22 n24 m22 x39 H)))) (BIf (x41 != (2 : Int)) (K (.bool false) H) (BIf (x40 != (0 : Int)) (K (.bool false) H) (W_abacistlaw19_StreamPlays.j57 K R11 A21 n23 m21 x38 p19 p20 p21 A22 n24 m22 x39 H)))
def W_abacistlaw19_StreamPlays.j30 (K : Value → Hp → Prop) (R11 : Option Addr → Nat → Nat → Int → Option Addr → Option Addr → Option Addr → Option Addr → Nat → Nat → Int → Hp → Prop) (A18 : Option Addr) (n18 : Nat) (m18 : Nat) (x25 : Int) (p16 : Option Addr) (p17 : Option Addr) (p18 : Option Addr) (A19 : Option Addr) (n19 : Nat) (m19 : Nat) (x26 : Int) (a7 : Addr) (c5 : Bool) (A20 : Option Addr) (n20 : Nat) (m20 : Nat) (H : Hp) : Prop :=
  Ld H (a7.add 1) fun v28 => DI .i64 v28 fun x27 => HCalls Try.prog 20 #[.pointer p16, .int .i64 x27, .slice A20 n20 m20] H fun v29 H13 => DI .i64 v29 fun x28 => BIf c5 (Ld H13 (a7.add 1) fun v30 => DI .i64 v30 fun x29 => BIf (decide (((n20 : Nat) : Int) ≤ (IntKind.i64.wrap (x25 - x29)))) (BIf (x28 != (0 : Int)) (K (.bool false) H13) (Ld H13 (a7.add 1) fun v31 => DI .i64 v31 fun x30 => Ld H13 (a7.add 1) fun v32 => DI .i64 v32 fun x31 => slB n19 m19 (some x30) (some (IntKind.i64.wrap (x31 + ((n20 : Nat) : Int)))) fun n21 n22 => HCalls Try.prog 21 #[.slice A20 n20 m20, .slice (slA A19 m19 n21 1) (n22 - n21) (m19 - n21)] H13 fun v33 H14 => DB v33 fun c6 => BIf (!c6) (K (.bool false) H14) (W_abacistlaw19_StreamPlays.j57 K R11 A18 n18 m18 x25 p16 p17 p18 A19 n19 m19 x26 H14))) (BIf (x28 != (2 : Int)) (K (.bool false) H13) (W_abacistlaw19_StreamPlays.j57 K R11 A18 n18 m18 x25 p16 p17 p18 A19 n19 m19 x26 H13))) (BIf (x28 != (2 : Int)) (K (.bool false) H13) (W_abacistlaw19_StreamPlays.j57 K R11 A18 n18 m18 x25 p16 p17 p18 A19 n19 m19 x26 H13))
def W_abacistlaw19_StreamPlays.l23 (K : Value → Hp → Prop) (R11 : Option Addr → Nat → Nat → Int → Option Addr → Option Addr → Option Addr → Option Addr → Nat → Nat → Int → Hp → Prop) : Nat → Option Addr → Nat → Nat → Int → Option Addr → Option Addr → Option Addr → Option Addr → Nat → Nat → Int → Addr → Int → Hp → Prop
  | 0, _, _, _, _, _, _, _, _, _, _, _, _, _, _ => False
  | k + 1, A12, n12, m12, x18, p13, p14, p15, A13, n13, m13, x19, a4, x20, H =>
    let R23 := W_abacistlaw19_StreamPlays.l23 K R11 k
    Ld H (a4.add 3) fun v20 => DSl v20 fun A14 n14 m14 => BIf (decide (x20 < ((n14 : Nat) : Int))) (Ld H (a4.add 1) fun v21 => DI .i64 v21 fun x21 => Ld H (a4.add 3) fun v22 => DSl v22 fun A15 n15 m15 => ixI x20 n15 (NN A15 fun a5 => Ld H (a5.add (x20.toNat * 1)) fun v23 => DI .u64 v23 fun x22 => ixI (IntKind.i64.wrap (x21 + x20)) n13 (NN A13 fun a6 => St H ((a6.add ((IntKind.i64.wrap (x21 + x20)).toNat * 1)).add 0) (.int .u64 x22) fun H10 => R23 A12 n12 m12 x18 p13 p14 p15 A13 n13 m13 x19 a4 (IntKind.i64.wrap (x20 + (1 : Int))) H10))) (W_abacistlaw19_StreamPlays.j57 K R11 A12 n12 m12 x18 p13 p14 p15 A13 n13 m13 x19 H)
def W_abacistlaw19_StreamPlays.j19 (K : Value → Hp → Prop) (R11 : Option Addr → Nat → Nat → Int → Option Addr → Option Addr → Option Addr → Option Addr → Nat → Nat → Int → Hp → Prop) (A9 : Option Addr) (n9 : Nat) (m9 : Nat) (x14 : Int) (p10 : Option Addr) (p11 : Option Addr) (p12 : Option Addr) (A10 : Option Addr) (n10 : Nat) (m10 : Nat) (x15 : Int) (a3 : Addr) (c4 : Bool) (x16 : Int) (H : Hp) : Prop :=
  BIf c4 (Ld H (a3.add 3) fun v18 => DSl v18 fun A11 n11 m11 => Ld H (a3.add 1) fun v19 => DI .i64 v19 fun x17 => BIf (decide (((n11 : Nat) : Int) ≤ (IntKind.i64.wrap (x14 - x17)))) (BIf (x16 != (0 : Int)) (K (.bool false) H) ((∃ k, W_abacistlaw19_StreamPlays.l23 K R11 k A9 n9 m9 x14 p10 p11 p12 A10 n10 m10 x15 a3 (0 : Int) H))) (BIf (x16 != (2 : Int)) (K (.bool false) H) (W_abacistlaw19_StreamPlays.j57 K R11 A9 n9 m9 x14 p10 p11 p12 A10 n10 m10 x15 H))) (BIf (x16 != (2 : Int)) (K (.bool false) H) (W_abacistlaw19_StreamPlays.j57 K R11 A9 n9 m9 x14 p10 p11 p12 A10 n10 m10 x15 H))
def W_abacistlaw19_StreamPlays.j15 (K : Value → Hp → Prop) (R11 : Option Addr → Nat → Nat → Int → Option Addr → Option Addr → Option Addr → Option Addr → Nat → Nat → Int → Hp → Prop) (A5 : Option Addr) (n5 : Nat) (m5 : Nat) (x7 : Int) (p7 : Option Addr) (p8 : Option Addr) (p9 : Option Addr) (A6 : Option Addr) (n6 : Nat) (m6 : Nat) (x8 : Int) (a2 : Addr) (c3 : Bool) (H : Hp) : Prop :=
  Ld H (a2.add 0) fun v11 => DI .i64 v11 fun x9 => BIf (x9 == (0 : Int)) (BIf (x9 == (0 : Int)) (Ld H (a2.add 1) fun v12 => DI .i64 v12 fun x10 => Ld H (a2.add 3) fun v14 => DSl v14 fun A7 n7 m7 => HCalls Try.prog 19 #[.pointer p7, .int .i64 x10, .slice A7 n7 m7] H fun v16 H8 => DI .i64 v16 fun x12 => W_abacistlaw19_StreamPlays.j19 K R11 A5 n5 m5 x7 p7 p8 p9 A6 n6 m6 x8 a2 c3 x12 H8) (BIf (x9 == (2 : Int)) (Ld H (a2.add 2) fun v24 => DI .i64 v24 fun x23 => MkS Try.prog 62 (if (0 : Int) > x23 then (0 : Int) else x23) (if (0 : Int) > x23 then (0 : Int) else x23) H fun v26 H11 => DSl v26 fun A16 n16 m16 => W_abacistlaw19_StreamPlays.j30 K R11 A5 n5 m5 x7 p7 p8 p9 A6 n6 m6 x8 a2 c3 A16 n16 m16 H11) (BIf (x9 == (3 : Int)) (Ld H (a2.add 1) fun v34 => DI .i64 v34 fun x32 => HCalls Try.prog 22 #[.pointer p7, .int .i64 x32] H fun v36 H15 => DTup v36 fun l6 => DCons l6 fun v37 l7 => DI .u64 v37 fun x34 => DCons l7 fun v38 l8 => DI .i64 v38 fun x35 => DNil l8 (W_abacistlaw19_StreamPlays.j38 K R11 A5 n5 m5 x7 p7 p8 p9 A6 n6 m6 x8 a2 c3 x34 x35 H15)) (BIf (x9 == (4 : Int)) (W_abacistlaw19_StreamPlays.j45 K R11 A5 n5 m5 x7 p7 p8 p9 A6 n6 m6 x8 a2 (0 : Int) H) (BIf (x9 == (5 : Int)) (HCalls Try.prog 24 #[.pointer p7] H fun v49 H19 => DTup v49 fun l12 => DCons l12 fun v50 l13 => DI .u32 v50 fun x57 => DCons l13 fun v51 l14 => DI .i64 v51 fun x58 => DNil l14 (W_abacistlaw19_StreamPlays.j55 K R11 A5 n5 m5 x7 p7 p8 p9 A6 n6 m6 x8 x57 x58 H19)) (W_abacistlaw19_StreamPlays.j57 K R11 A5 n5 m5 x7 p7 p8 p9 A6 n6 m6 x8 H)))))) (BIf (x9 == (1 : Int)) (Ld H (a2.add 1) fun v13 => DI .i64 v13 fun x11 => Ld H (a2.add 3) fun v15 => DSl v15 fun A8 n8 m8 => HCalls Try.prog 19 #[.pointer p7, .int .i64 x11, .slice A8 n8 m8] H fun v17 H9 => DI .i64 v17 fun x13 => W_abacistlaw19_StreamPlays.j19 K R11 A5 n5 m5 x7 p7 p8 p9 A6 n6 m6 x8 a2 c3 x13 H9) (BIf (x9 == (2 : Int)) (Ld H (a2.add 2) fun v25 => DI .i64 v25 fun x24 => MkS Try.prog 62 (if (0 : Int) > x24 then (0 : Int) else x24) (if (0 : Int) > x24 then (0 : Int) else x24) H fun v27 H12 => DSl v27 fun A17 n17 m17 => W_abacistlaw19_StreamPlays.j30 K R11 A5 n5 m5 x7 p7 p8 p9 A6 n6 m6 x8 a2 c3 A17 n17 m17 H12) (BIf (x9 == (3 : Int)) (Ld H (a2.add 1) fun v35 => DI .i64 v35 fun x33 => HCalls Try.prog 22 #[.pointer p7, .int .i64 x33] H fun v39 H16 => DTup v39 fun l9 => DCons l9 fun v40 l10 => DI .u64 v40 fun x36 => DCons l10 fun v41 l11 => DI .i64 v41 fun x37 => DNil l11 (W_abacistlaw19_StreamPlays.j38 K R11 A5 n5 m5 x7 p7 p8 p9 A6 n6 m6 x8 a2 c3 x36 x37 H16)) (BIf (x9 == (4 : Int)) (W_abacistlaw19_StreamPlays.j45 K R11 A5 n5 m5 x7 p7 p8 p9 A6 n6 m6 x8 a2 (0 : Int) H) (BIf (x9 == (5 : Int)) (HCalls Try.prog 24 #[.pointer p7] H fun v52 H20 => DTup v52 fun l15 => DCons l15 fun v53 l16 => DI .u32 v53 fun x59 => DCons l16 fun v54 l17 => DI .i64 v54 fun x60 => DNil l17 (W_abacistlaw19_StreamPlays.j55 K R11 A5 n5 m5 x7 p7 p8 p9 A6 n6 m6 x8 x59 x60 H20)) (W_abacistlaw19_StreamPlays.j57 K R11 A5 n5 m5 x7 p7 p8 p9 A6 n6 m6 x8 H))))))
def W_abacistlaw19_StreamPlays.l61 (K : Value → Hp → Prop) : Nat → Int → Option Addr → Option Addr → Nat → Nat → Option Addr → Nat → Nat → Int → Hp → Prop
  | 0, _, _, _, _, _, _, _, _, _, _ => False
  | k + 1, x70, p37, A36, n38, m36, A37, n39, m37, x71, H =>
    let R61 := W_abacistlaw19_StreamPlays.l61 K k
    BIf (decide (x71 < ((n39 : Nat) : Int))) (ixI x71 n39 (NN A37 fun a16 => Ld H (a16.add (x71.toNat * 1)) fun v59 => DI .i64 v59 fun x72 => BIf (decide (x72 < (2 : Int))) (K (.bool false) H) (ixI x71 n39 (NN A37 fun a17 => Ld H (a17.add (x71.toNat * 1)) fun v60 => DI .i64 v60 fun x73 => ((4 : Int) ≠ 0 ∧ IntKind.i64 = IntKind.i64 ∧ BIf (decide (x73 ≥ (IntKind.i64.wrap ((2 : Int) + (IntKind.i64.wrap (Int.tdiv (IntKind.i64.wrap (x70 + (3 : Int))) (4 : Int))))))) (K (.bool false) H) (R61 x70 p37 A36 n38 m36 A37 n39 m37 (IntKind.i64.wrap (x71 + (1 : Int))) H)))))) (MkS Try.prog 62 x70 x70 H fun v61 H25 => DSl v61 fun A38 n40 m38 => HCalls Try.prog 20 #[.pointer p37, .int .i64 (0 : Int), .slice A38 n40 m38] H25 fun v62 H26 => DI .i64 v62 fun x74 => BIf (x74 == (0 : Int)) (HCalls Try.prog 21 #[.slice A38 n40 m38, .slice A36 n38 m36] H26 fun v63 H27 => DB v63 fun c8 => K (.bool c8) H27) (K (.bool false) H26))
def W_abacistlaw19_StreamPlays.l11 (K : Value → Hp → Prop) : Nat → Option Addr → Nat → Nat → Int → Option Addr → Option Addr → Option Addr → Option Addr → Nat → Nat → Int → Hp → Prop
  | 0, _, _, _, _, _, _, _, _, _, _, _, _ => False
  | k + 1, A3, n3, m3, x3, p4, p5, p6, A4, n4, m4, x4, H =>
    let R11 := W_abacistlaw19_StreamPlays.l11 K k
    BIf (decide (x4 < ((n3 : Nat) : Int))) (ixI x4 n3 (NN A3 fun a1 => LdA H (a1.add (x4.toNat * 4)) 4 fun l5 => Nw H (.obj (.cells #[.int .i64 (0 : Int), .int .i64 (0 : Int), .int .i64 (0 : Int), .slice none 0 0] 60)) fun b1 H6 => StA H6 (⟨b1, 0, none⟩ : Addr) l5.toArray 4 fun H7 => Ld H7 ((⟨b1, 0, none⟩ : Addr).add 1) fun v9 => DI .i64 v9 fun x5 => BIf (decide (x5 ≥ (0 : Int))) (Ld H7 ((⟨b1, 0, none⟩ : Addr).add 1) fun v10 => DI .i64 v10 fun x6 => W_abacistlaw19_StreamPlays.j15 K R11 A3 n3 m3 x3 p4 p5 p6 A4 n4 m4 x4 (⟨b1, 0, none⟩ : Addr) (decide (x6 ≤ x3)) H7) (W_abacistlaw19_StreamPlays.j15 K R11 A3 n3 m3 x3 p4 p5 p6 A4 n4 m4 x4 (⟨b1, 0, none⟩ : Addr) false H7))) (NN p5 fun a15 => HCalls Try.prog 11 #[.pointer (some (a15.add 3))] H fun v58 H24 => DSl v58 fun A35 n37 m35 => (∃ k, W_abacistlaw19_StreamPlays.l61 K k x3 p4 A4 n4 m4 A35 n37 m35 (0 : Int) H24))
def W_abacistlaw19_StreamPlays (x1 : Int) (A1 : Option Addr) (n1 : Nat) (m1 : Nat) (H : Hp) (K : Value → Hp → Prop) : Prop :=
  HCalls Try.prog 15 #[] H fun v1 H1 => DB v1 fun c1 => BIf (!c1) (K (.bool false) H1) (HCalls Try.prog 16 #[.slice A1 n1 m1] H1 fun v2 H2 => DB v2 fun c2 => BIf (!c2) (K (.bool true) H2) (((40 : Int) ≠ 0 ∧ IntKind.i64 = IntKind.i64 ∧ HCalls Try.prog 17 #[.int .i64 (IntKind.i64.wrap ((1 : Int) + (Int.tmod (IntKind.i64.wrap x1) (40 : Int))))] H2 fun v3 H3 => DTup v3 fun l1 => DCons l1 fun v4 l2 => DP v4 fun p1 => DCons l2 fun v5 l3 => DP v5 fun p2 => DCons l3 fun v6 l4 => DP v6 fun p3 => DNil l4 (BIf p1.isNone (K (.bool false) H3) (BIf p2.isNone (K (.bool false) H3) (BIf p3.isNone (K (.bool false) H3) (HCalls Try.prog 18 #[.pointer p1] H3 fun v7 H4 => DI .i64 v7 fun x2 => BIf (x2 != (IntKind.i64.wrap ((1 : Int) + (Int.tmod (IntKind.i64.wrap x1) (40 : Int))))) (K (.bool false) H4) (MkS Try.prog 62 (IntKind.i64.wrap ((1 : Int) + (Int.tmod (IntKind.i64.wrap x1) (40 : Int)))) (IntKind.i64.wrap ((1 : Int) + (Int.tmod (IntKind.i64.wrap x1) (40 : Int)))) H4 fun v8 H5 => DSl v8 fun A2 n2 m2 => (∃ k, W_abacistlaw19_StreamPlays.l11 K k A1 n1 m1 (IntKind.i64.wrap ((1 : Int) + (Int.tmod (IntKind.i64.wrap x1) (40 : Int)))) p1 p2 p3 A2 n2 m2 (0 : Int) H5)))))))))
def W_abacistlaw19_StreamPlays.l11.L (K : Value → Hp → Prop) (k : Nat) : Mid := fun E D H =>
  DG (E.get? 1) fun w1 => DSl w1 fun A3 n3 m3 => DG (E.get? 5) fun w5 => DI .i64 w5 fun x3 => DG (E.get? 6) fun w6 => DP w6 fun p4 => DG (E.get? 7) fun w7 => DP w7 fun p5 => DG (E.get? 8) fun w8 => DP w8 fun p6 => DG (E.get? 9) fun w9 => DSl w9 fun A4 n4 m4 => DG (E.get? 10) fun w10 => DI .i64 w10 fun x4 => DNilD D (W_abacistlaw19_StreamPlays.l11 K k A3 n3 m3 x3 p4 p5 p6 A4 n4 m4 x4 H)
def W_abacistlaw19_StreamPlays.l23.L (K : Value → Hp → Prop) (R11 : Option Addr → Nat → Nat → Int → Option Addr → Option Addr → Option Addr → Option Addr → Nat → Nat → Int → Hp → Prop) (k : Nat) : Mid := fun E D H =>
  DG (E.get? 1) fun w1 => DSl w1 fun A12 n12 m12 => DG (E.get? 5) fun w5 => DI .i64 w5 fun x18 => DG (E.get? 6) fun w6 => DP w6 fun p13 => DG (E.get? 7) fun w7 => DP w7 fun p14 => DG (E.get? 8) fun w8 => DP w8 fun p15 => DG (E.get? 9) fun w9 => DSl w9 fun A13 n13 m13 => DG (E.get? 10) fun w10 => DI .i64 w10 fun x19 => DG (E.get? 11) fun w11 => DP w11 fun pw11 => NN pw11 fun a4 => DG (E.get? 14) fun w14 => DI .i64 w14 fun x20 => DNilD D (W_abacistlaw19_StreamPlays.l23 K R11 k A12 n12 m12 x18 p13 p14 p15 A13 n13 m13 x19 a4 x20 H)
def W_abacistlaw19_StreamPlays.l50.L (K : Value → Hp → Prop) (R11 : Option Addr → Nat → Nat → Int → Option Addr → Option Addr → Option Addr → Option Addr → Nat → Nat → Int → Hp → Prop) (k : Nat) : Mid := fun E D H =>
  DG (E.get? 1) fun w1 => DSl w1 fun A29 n31 m29 => DG (E.get? 5) fun w5 => DI .i64 w5 fun x53 => DG (E.get? 6) fun w6 => DP w6 fun p28 => DG (E.get? 7) fun w7 => DP w7 fun p29 => DG (E.get? 8) fun w8 => DP w8 fun p30 => DG (E.get? 9) fun w9 => DSl w9 fun A30 n32 m30 => DG (E.get? 10) fun w10 => DI .i64 w10 fun x54 => DG (E.get? 19) fun w19 => DI .u64 w19 fun x55 => DG (E.get? 20) fun w20 => DI .i64 w20 fun x56 => DNilD D (W_abacistlaw19_StreamPlays.l50 K R11 k A29 n31 m29 x53 p28 p29 p30 A30 n32 m30 x54 x55 x56 H)
def W_abacistlaw19_StreamPlays.l61.L (K : Value → Hp → Prop) (k : Nat) : Mid := fun E D H =>
  DG (E.get? 5) fun w5 => DI .i64 w5 fun x70 => DG (E.get? 6) fun w6 => DP w6 fun p37 => DG (E.get? 9) fun w9 => DSl w9 fun A36 n38 m36 => DG (E.get? 23) fun w23 => DSl w23 fun A37 n39 m37 => DG (E.get? 24) fun w24 => DI .i64 w24 fun x71 => DNilD D (W_abacistlaw19_StreamPlays.l61 K k x70 p37 A36 n38 m36 A37 n39 m37 x71 H)
def W_abacistlaw19_StreamPlays.Λ23 (_ : Value → Hp → Prop) (_R11 : Option Addr → Nat → Nat → Int → Option Addr → Option Addr → Option Addr → Option Addr → Nat → Nat → Int → Hp → Prop) (_R23 : Option Addr → Nat → Nat → Int → Option Addr → Option Addr → Option Addr → Option Addr → Nat → Nat → Int → Addr → Int → Hp → Prop) : Cuts := Cuts.none (fun i => match Nat.beq i 25 with | true => some ([], [0, 1, 2, 3, 4, 5, 6, 7, 8, 9, 10], 11) | false => none)
def W_abacistlaw19_StreamPlays.Λ50 (_ : Value → Hp → Prop) (_R11 : Option Addr → Nat → Nat → Int → Option Addr → Option Addr → Option Addr → Option Addr → Nat → Nat → Int → Hp → Prop) (_R50 : Option Addr → Nat → Nat → Int → Option Addr → Option Addr → Option Addr → Option Addr → Nat → Nat → Int → Int → Int → Hp → Prop) : Cuts := Cuts.none (fun i => match Nat.beq i 25 with | true => some ([], [0, 1, 2, 3, 4, 5, 6, 7, 8, 9, 10], 11) | false => none)
def W_abacistlaw19_StreamPlays.Λ11 (K : Value → Hp → Prop) (R11 : Option Addr → Nat → Nat → Int → Option Addr → Option Addr → Option Addr → Option Addr → Nat → Nat → Int → Hp → Prop) : Cuts := ⟨fun i => match Nat.beq i 57 with | true => some (fun E D H => DG (E.get? 1) fun w1 => DSl w1 fun A33 n35 m33 => DG (E.get? 5) fun w5 => DI .i64 w5 fun x66 => DG (E.get? 6) fun w6 => DP w6 fun p34 => DG (E.get? 7) fun w7 => DP w7 fun p35 => DG (E.get? 8) fun w8 => DP w8 fun p36 => DG (E.get? 9) fun w9 => DSl w9 fun A34 n36 m34 => DG (E.get? 10) fun w10 => DI .i64 w10 fun x67 => DNilD D (W_abacistlaw19_StreamPlays.j57 K R11 A33 n35 m33 x66 p34 p35 p36 A34 n36 m34 x67 H)) | false => match Nat.beq i 55 with | true => some (fun E D H => DG (E.get? 1) fun w1 => DSl w1 fun A31 n33 m31 => DG (E.get? 5) fun w5 => DI .i64 w5 fun x61 => DG (E.get? 6) fun w6 => DP w6 fun p31 => DG (E.get? 7) fun w7 => DP w7 fun p32 => DG (E.get? 8) fun w8 => DP w8 fun p33 => DG (E.get? 9) fun w9 => DSl w9 fun A32 n34 m32 => DG (E.get? 10) fun w10 => DI .i64 w10 fun x62 => DG (E.get? 21) fun w21 => DI .u32 w21 fun x63 => DG (E.get? 22) fun w22 => DI .i64 w22 fun x64 => DNilD D (W_abacistlaw19_StreamPlays.j55 K R11 A31 n33 m31 x61 p31 p32 p33 A32 n34 m32 x62 x63 x64 H)) | false => match Nat.beq i 47 with | true => some (fun E D H => DG (E.get? 1) fun w1 => DSl w1 fun A27 n29 m27 => DG (E.get? 5) fun w5 => DI .i64 w5 fun x49 => DG (E.get? 6) fun w6 => DP w6 fun p25 => DG (E.get? 7) fun w7 => DP w7 fun p26 => DG (E.get? 8) fun w8 => DP w8 fun p27 => DG (E.get? 9) fun w9 => DSl w9 fun A28 n30 m28 => DG (E.get? 10) fun w10 => DI .i64 w10 fun x50 => DG (E.get? 19) fun w19 => DI .u64 w19 fun x51 => DNilD D (W_abacistlaw19_StreamPlays.j47 K R11 A27 n29 m27 x49 p25 p26 p27 A28 n30 m28 x50 x51 H)) | false => match Nat.beq i 45 with | true => some (fun E D H => DG (E.get? 1) fun w1 => DSl w1 fun A23 n25 m23 => DG (E.get? 5) fun w5 => DI .i64 w5 fun x45 => DG (E.get? 6) fun w6 => DP w6 fun p22 => DG (E.get? 7) fun w7 => DP w7 fun p23 => DG (E.get? 8) fun w8 => DP w8 fun p24 => DG (E.get? 9) fun w9 => DSl w9 fun A24 n26 m24 => DG (E.get? 10) fun w10 => DI .i64 w10 fun x46 => DG (E.get? 11) fun w11 => DP w11 fun pw11 => NN pw11 fun a10 => DG (E.get? 19) fun w19 => DI .u64 w19 fun x47 => DNilD D (W_abacistlaw19_StreamPlays.j45 K R11 A23 n25 m23 x45 p22 p23 p24 A24 n26 m24 x46 a10 x47 H)) | false => match Nat.beq i 38 with | true => some (fun E D H => DG (E.get? 1) fun w1 => DSl w1 fun A21 n23 m21 => DG (E.get? 5) fun w5 => DI .i64 w5 fun x38 => DG (E.get? 6) fun w6 => DP w6 fun p19 => DG (E.get? 7) fun w7 => DP w7 fun p20 => DG (E.get? 8) fun w8 => DP w8 fun p21 => DG (E.get? 9) fun w9 => DSl w9 fun A22 n24 m22 => DG (E.get? 10) fun w10 => DI .i64 w10 fun x39 => DG (E.get? 11) fun w11 => DP w11 fun pw11 => NN pw11 fun a8 => DG (E.get? 12) fun w12 => DB w12 fun c7 => DG (E.get? 17) fun w17 => DI .u64 w17 fun x40 => DG (E.get? 18) fun w18 => DI .i64 w18 fun x41 => DNilD D (W_abacistlaw19_StreamPlays.j38 K R11 A21 n23 m21 x38 p19 p20 p21 A22 n24 m22 x39 a8 c7 x40 x41 H)) | false => match Nat.beq i 30 with | true => some (fun E D H => DG (E.get? 1) fun w1 => DSl w1 fun A18 n18 m18 => DG (E.get? 5) fun w5 => DI .i64 w5 fun x25 => DG (E.get? 6) fun w6 => DP w6 fun p16 => DG (E.get? 7) fun w7 => DP w7 fun p17 => DG (E.get? 8) fun w8 => DP w8 fun p18 => DG (E.get? 9) fun w9 => DSl w9 fun A19 n19 m19 => DG (E.get? 10) fun w10 => DI .i64 w10 fun x26 => DG (E.get? 11) fun w11 => DP w11 fun pw11 => NN pw11 fun a7 => DG (E.get? 12) fun w12 => DB w12 fun c5 => DG (E.get? 15) fun w15 => DSl w15 fun A20 n20 m20 => DNilD D (W_abacistlaw19_StreamPlays.j30 K R11 A18 n18 m18 x25 p16 p17 p18 A19 n19 m19 x26 a7 c5 A20 n20 m20 H)) | false => match Nat.beq i 19 with | true => some (fun E D H => DG (E.get? 1) fun w1 => DSl w1 fun A9 n9 m9 => DG (E.get? 5) fun w5 => DI .i64 w5 fun x14 => DG (E.get? 6) fun w6 => DP w6 fun p10 => DG (E.get? 7) fun w7 => DP w7 fun p11 => DG (E.get? 8) fun w8 => DP w8 fun p12 => DG (E.get? 9) fun w9 => DSl w9 fun A10 n10 m10 => DG (E.get? 10) fun w10 => DI .i64 w10 fun x15 => DG (E.get? 11) fun w11 => DP w11 fun pw11 => NN pw11 fun a3 => DG (E.get? 12) fun w12 => DB w12 fun c4 => DG (E.get? 13) fun w13 => DI .i64 w13 fun x16 => DNilD D (W_abacistlaw19_StreamPlays.j19 K R11 A9 n9 m9 x14 p10 p11 p12 A10 n10 m10 x15 a3 c4 x16 H)) | false => match Nat.beq i 15 with | true => some (fun E D H => DG (E.get? 1) fun w1 => DSl w1 fun A5 n5 m5 => DG (E.get? 5) fun w5 => DI .i64 w5 fun x7 => DG (E.get? 6) fun w6 => DP w6 fun p7 => DG (E.get? 7) fun w7 => DP w7 fun p8 => DG (E.get? 8) fun w8 => DP w8 fun p9 => DG (E.get? 9) fun w9 => DSl w9 fun A6 n6 m6 => DG (E.get? 10) fun w10 => DI .i64 w10 fun x8 => DG (E.get? 11) fun w11 => DP w11 fun pw11 => NN pw11 fun a2 => DG (E.get? 12) fun w12 => DB w12 fun c3 => DNilD D (W_abacistlaw19_StreamPlays.j15 K R11 A5 n5 m5 x7 p7 p8 p9 A6 n6 m6 x8 a2 c3 H)) | false => none, fun i => match Nat.beq i 50 with | true => some (fun E D H => ∃ k, W_abacistlaw19_StreamPlays.l50.L K R11 k E D H) | false => match Nat.beq i 23 with | true => some (fun E D H => ∃ k, W_abacistlaw19_StreamPlays.l23.L K R11 k E D H) | false => none, (fun i => match Nat.beq i 25 with | true => some ([], [0, 1, 2, 3, 4, 5, 6, 7, 8, 9, 10], 11) | false => none)⟩
def W_abacistlaw19_StreamPlays.Λ61 (_ : Value → Hp → Prop) (_R61 : Int → Option Addr → Option Addr → Nat → Nat → Option Addr → Nat → Nat → Int → Hp → Prop) : Cuts := Cuts.none (fun i => match Nat.beq i 25 with | true => some ([], [0, 1, 2, 3, 4, 5, 6, 7, 8, 9, 10], 11) | false => none)
def W_abacistlaw19_StreamPlays.Λ (K : Value → Hp → Prop) : Cuts := ⟨fun i => none, fun i => match Nat.beq i 61 with | true => some (fun E D H => ∃ k, W_abacistlaw19_StreamPlays.l61.L K k E D H) | false => match Nat.beq i 11 with | true => some (fun E D H => ∃ k, W_abacistlaw19_StreamPlays.l11.L K k E D H) | false => none, (fun i => match Nat.beq i 25 with | true => some ([], [0, 1, 2, 3, 4, 5, 6, 7, 8, 9, 10], 11) | false => none)⟩
theorem W_abacistlaw19_StreamPlays.ok (x1 : Int) (A1 : Option Addr) (n1 : Nat) (m1 : Nat) (H : Hp) (K : Value → Hp → Prop) (h : W_abacistlaw19_StreamPlays x1 A1 n1 m1 H K) : HCalls Try.prog 4 #[.int .u8 x1, .slice A1 n1 m1] H K :=
  hcalls Try.func4 rfl (Nat.le_of_ble_eq_true rfl) (hw_safe (Λ := (W_abacistlaw19_StreamPlays.Λ K)) mix _ _ _ _ _ (Eq.mp (by kernel_rfl) h) (obs_seq obs_region rfl (obs_seq (obs_seq obs_region rfl (obs_cond (obs_seq obs_region rfl obs_ret) obs_skip)) rfl (obs_seq (obs_seq obs_region rfl (obs_cond (obs_seq obs_region rfl obs_ret) obs_skip)) rfl (obs_seq obs_region rfl (obs_seq obs_region rfl (obs_seq (obs_seq obs_region rfl (obs_cond (obs_seq obs_region rfl obs_ret) obs_skip)) rfl (obs_seq obs_region rfl (obs_seq (obs_seq obs_region rfl (obs_block (obs_loop rfl (fun E D H h => by
      refine Safe.loop' (W_abacistlaw19_StreamPlays.l11.L K) (fun E D H h => ?_) (fun k E D H h => ?_) E D H h
      · obtain ⟨w1, e1, g1⟩ := DG.out h; obtain ⟨A3, n3, m3, rfl, g2⟩ := DSl.out g1; obtain ⟨w5, e5, g3⟩ := DG.out g2; obtain ⟨x3, rfl, g4⟩ := DI.out g3; obtain ⟨w6, e6, g5⟩ := DG.out g4; obtain ⟨p4, rfl, g6⟩ := DP.out g5; obtain ⟨w7, e7, g7⟩ := DG.out g6; obtain ⟨p5, rfl, g8⟩ := DP.out g7; obtain ⟨w8, e8, g9⟩ := DG.out g8; obtain ⟨p6, rfl, g10⟩ := DP.out g9; obtain ⟨w9, e9, g11⟩ := DG.out g10; obtain ⟨A4, n4, m4, rfl, g12⟩ := DSl.out g11; obtain ⟨w10, e10, g13⟩ := DG.out g12; obtain ⟨x4, rfl, g14⟩ := DI.out g13; obtain ⟨rfl, h'⟩ := DNilD.out g14; exact h'
      · obtain ⟨w1, e1, g1⟩ := DG.out h
        obtain ⟨A3, n3, m3, rfl, g2⟩ := DSl.out g1
        obtain ⟨w5, e5, g3⟩ := DG.out g2
        obtain ⟨x3, rfl, g4⟩ := DI.out g3
        obtain ⟨w6, e6, g5⟩ := DG.out g4
        obtain ⟨p4, rfl, g6⟩ := DP.out g5
        obtain ⟨w7, e7, g7⟩ := DG.out g6
        obtain ⟨p5, rfl, g8⟩ := DP.out g7
        obtain ⟨w8, e8, g9⟩ := DG.out g8
        obtain ⟨p6, rfl, g10⟩ := DP.out g9
        obtain ⟨w9, e9, g11⟩ := DG.out g10
        obtain ⟨A4, n4, m4, rfl, g12⟩ := DSl.out g11
        obtain ⟨w10, e10, g13⟩ := DG.out g12
        obtain ⟨x4, rfl, g14⟩ := DI.out g13
        obtain ⟨rfl, h'⟩ := DNilD.out g14
        exact (hw_safe (Λ := (W_abacistlaw19_StreamPlays.Λ11 K (W_abacistlaw19_StreamPlays.l11 K k))) mix _ _ [(1, .slice A3 n3 m3), (5, .int .i64 x3), (6, .pointer p4), (7, .pointer p5), (8, .pointer p6), (9, .slice A4 n4 m4), (10, .int .i64 x4)] [] H (Eq.mp (by kernel_rfl) h') (obs_seq (obs_seq obs_region rfl (obs_cond obs_skip obs_exit)) rfl (obs_seq (obs_block (obs_seq obs_region rfl (obs_seqc obs_region rfl (fun E D H h => by
            obtain ⟨w1, e1, g1⟩ := DG.out h
            obtain ⟨A5, n5, m5, rfl, g2⟩ := DSl.out g1
            obtain ⟨w5, e5, g3⟩ := DG.out g2
            obtain ⟨x7, rfl, g4⟩ := DI.out g3
            obtain ⟨w6, e6, g5⟩ := DG.out g4
            obtain ⟨p7, rfl, g6⟩ := DP.out g5
            obtain ⟨w7, e7, g7⟩ := DG.out g6
            obtain ⟨p8, rfl, g8⟩ := DP.out g7
            obtain ⟨w8, e8, g9⟩ := DG.out g8
            obtain ⟨p9, rfl, g10⟩ := DP.out g9
            obtain ⟨w9, e9, g11⟩ := DG.out g10
            obtain ⟨A6, n6, m6, rfl, g12⟩ := DSl.out g11
            obtain ⟨w10, e10, g13⟩ := DG.out g12
            obtain ⟨x8, rfl, g14⟩ := DI.out g13
            obtain ⟨w11, e11, g15⟩ := DG.out g14
            obtain ⟨pw11, rfl, g16⟩ := DP.out g15
            obtain ⟨a2, rfl, g17⟩ := NN.out g16
            obtain ⟨w12, e12, g18⟩ := DG.out g17
            obtain ⟨c3, rfl, g19⟩ := DB.out g18
            obtain ⟨rfl, h'⟩ := DNilD.out g19
            exact (hw_safe (Λ := (W_abacistlaw19_StreamPlays.Λ11 K (W_abacistlaw19_StreamPlays.l11 K k))) mix _ _ [(1, .slice A5 n5 m5), (5, .int .i64 x7), (6, .pointer p7), (7, .pointer p8), (8, .pointer p9), (9, .slice A6 n6 m6), (10, .int .i64 x8), (11, .pointer (some a2)), (12, .bool c3)] [] H (Eq.mp (by kernel_rfl) h') (obs_seqc (obs_seq obs_region rfl (obs_block (obs_seq (obs_seq obs_region rfl (obs_cond obs_skip obs_region)) rfl (obs_cond (obs_seqc obs_region rfl (fun E D H h => by
                obtain ⟨w1, e1, g1⟩ := DG.out h
                obtain ⟨A9, n9, m9, rfl, g2⟩ := DSl.out g1
                obtain ⟨w5, e5, g3⟩ := DG.out g2
                obtain ⟨x14, rfl, g4⟩ := DI.out g3
                obtain ⟨w6, e6, g5⟩ := DG.out g4
                obtain ⟨p10, rfl, g6⟩ := DP.out g5
                obtain ⟨w7, e7, g7⟩ := DG.out g6
                obtain ⟨p11, rfl, g8⟩ := DP.out g7
                obtain ⟨w8, e8, g9⟩ := DG.out g8
                obtain ⟨p12, rfl, g10⟩ := DP.out g9
                obtain ⟨w9, e9, g11⟩ := DG.out g10
                obtain ⟨A10, n10, m10, rfl, g12⟩ := DSl.out g11
                obtain ⟨w10, e10, g13⟩ := DG.out g12
                obtain ⟨x15, rfl, g14⟩ := DI.out g13
                obtain ⟨w11, e11, g15⟩ := DG.out g14
                obtain ⟨pw11, rfl, g16⟩ := DP.out g15
                obtain ⟨a3, rfl, g17⟩ := NN.out g16
                obtain ⟨w12, e12, g18⟩ := DG.out g17
                obtain ⟨c4, rfl, g19⟩ := DB.out g18
                obtain ⟨w13, e13, g20⟩ := DG.out g19
                obtain ⟨x16, rfl, g21⟩ := DI.out g20
                obtain ⟨rfl, h'⟩ := DNilD.out g21
                exact (hw_safe (Λ := (W_abacistlaw19_StreamPlays.Λ11 K (W_abacistlaw19_StreamPlays.l11 K k))) mix _ _ [(1, .slice A9 n9 m9), (5, .int .i64 x14), (6, .pointer p10), (7, .pointer p11), (8, .pointer p12), (9, .slice A10 n10 m10), (10, .int .i64 x15), (11, .pointer (some a3)), (12, .bool c4), (13, .int .i64 x16)] [] H (Eq.mp (by kernel_rfl) h') (obs_seq obs_region rfl (obs_cond (obs_seq (obs_seq obs_region rfl (obs_cond (obs_seq obs_region rfl obs_ret) obs_skip)) rfl (obs_seq obs_region rfl (obs_block (obs_loop rfl (fun E D H h => by
                    refine Safe.loop' (W_abacistlaw19_StreamPlays.l23.L K (W_abacistlaw19_StreamPlays.l11 K k)) (fun E D H h => ?_) (fun k E D H h => ?_) E D H h
                    · obtain ⟨w1, e1, g1⟩ := DG.out h; obtain ⟨A12, n12, m12, rfl, g2⟩ := DSl.out g1; obtain ⟨w5, e5, g3⟩ := DG.out g2; obtain ⟨x18, rfl, g4⟩ := DI.out g3; obtain ⟨w6, e6, g5⟩ := DG.out g4; obtain ⟨p13, rfl, g6⟩ := DP.out g5; obtain ⟨w7, e7, g7⟩ := DG.out g6; obtain ⟨p14, rfl, g8⟩ := DP.out g7; obtain ⟨w8, e8, g9⟩ := DG.out g8; obtain ⟨p15, rfl, g10⟩ := DP.out g9; obtain ⟨w9, e9, g11⟩ := DG.out g10; obtain ⟨A13, n13, m13, rfl, g12⟩ := DSl.out g11; obtain ⟨w10, e10, g13⟩ := DG.out g12; obtain ⟨x19, rfl, g14⟩ := DI.out g13; obtain ⟨w11, e11, g15⟩ := DG.out g14; obtain ⟨pw11, rfl, g16⟩ := DP.out g15; obtain ⟨a4, rfl, g17⟩ := NN.out g16; obtain ⟨w14, e14, g18⟩ := DG.out g17; obtain ⟨x20, rfl, g19⟩ := DI.out g18; obtain ⟨rfl, h'⟩ := DNilD.out g19; exact h'
                    · obtain ⟨w1, e1, g1⟩ := DG.out h
                      obtain ⟨A12, n12, m12, rfl, g2⟩ := DSl.out g1
                      obtain ⟨w5, e5, g3⟩ := DG.out g2
                      obtain ⟨x18, rfl, g4⟩ := DI.out g3
                      obtain ⟨w6, e6, g5⟩ := DG.out g4
                      obtain ⟨p13, rfl, g6⟩ := DP.out g5
                      obtain ⟨w7, e7, g7⟩ := DG.out g6
                      obtain ⟨p14, rfl, g8⟩ := DP.out g7
                      obtain ⟨w8, e8, g9⟩ := DG.out g8
                      obtain ⟨p15, rfl, g10⟩ := DP.out g9
                      obtain ⟨w9, e9, g11⟩ := DG.out g10
                      obtain ⟨A13, n13, m13, rfl, g12⟩ := DSl.out g11
                      obtain ⟨w10, e10, g13⟩ := DG.out g12
                      obtain ⟨x19, rfl, g14⟩ := DI.out g13
                      obtain ⟨w11, e11, g15⟩ := DG.out g14
                      obtain ⟨pw11, rfl, g16⟩ := DP.out g15
                      obtain ⟨a4, rfl, g17⟩ := NN.out g16
                      obtain ⟨w14, e14, g18⟩ := DG.out g17
                      obtain ⟨x20, rfl, g19⟩ := DI.out g18
                      obtain ⟨rfl, h'⟩ := DNilD.out g19
                      exact (hw_safe (Λ := (W_abacistlaw19_StreamPlays.Λ23 K (W_abacistlaw19_StreamPlays.l11 K k) (W_abacistlaw19_StreamPlays.l23 K (W_abacistlaw19_StreamPlays.l11 K k) k))) mix _ _ [(1, .slice A12 n12 m12), (5, .int .i64 x18), (6, .pointer p13), (7, .pointer p14), (8, .pointer p15), (9, .slice A13 n13 m13), (10, .int .i64 x19), (11, .pointer (some a4)), (14, .int .i64 x20)] [] H (Eq.mp (by kernel_rfl) h') (obs_seq (obs_seq obs_region rfl (obs_cond obs_skip obs_exit)) rfl (obs_seq (obs_block obs_region) rfl obs_region))).weaken (EnvLe.cons e1 (EnvLe.cons e5 (EnvLe.cons e6 (EnvLe.cons e7 (EnvLe.cons e8 (EnvLe.cons e9 (EnvLe.cons e10 (EnvLe.cons e11 (EnvLe.cons e14 (EnvLe.nil _)))))))))) (Hp.le_refl _)))))) (obs_seq obs_region rfl (obs_cond (obs_seq obs_region rfl obs_ret) obs_skip))))).weaken (EnvLe.cons e1 (EnvLe.cons e5 (EnvLe.cons e6 (EnvLe.cons e7 (EnvLe.cons e8 (EnvLe.cons e9 (EnvLe.cons e10 (EnvLe.cons e11 (EnvLe.cons e12 (EnvLe.cons e13 (EnvLe.nil _))))))))))) (Hp.le_refl _))) (obs_seq obs_region rfl (obs_cond (obs_seqc obs_region rfl (fun E D H h => by
                obtain ⟨w1, e1, g1⟩ := DG.out h
                obtain ⟨A18, n18, m18, rfl, g2⟩ := DSl.out g1
                obtain ⟨w5, e5, g3⟩ := DG.out g2
                obtain ⟨x25, rfl, g4⟩ := DI.out g3
                obtain ⟨w6, e6, g5⟩ := DG.out g4
                obtain ⟨p16, rfl, g6⟩ := DP.out g5
                obtain ⟨w7, e7, g7⟩ := DG.out g6
                obtain ⟨p17, rfl, g8⟩ := DP.out g7
                obtain ⟨w8, e8, g9⟩ := DG.out g8
                obtain ⟨p18, rfl, g10⟩ := DP.out g9
                obtain ⟨w9, e9, g11⟩ := DG.out g10
                obtain ⟨A19, n19, m19, rfl, g12⟩ := DSl.out g11
                obtain ⟨w10, e10, g13⟩ := DG.out g12
                obtain ⟨x26, rfl, g14⟩ := DI.out g13
                obtain ⟨w11, e11, g15⟩ := DG.out g14
                obtain ⟨pw11, rfl, g16⟩ := DP.out g15
                obtain ⟨a7, rfl, g17⟩ := NN.out g16
                obtain ⟨w12, e12, g18⟩ := DG.out g17
                obtain ⟨c5, rfl, g19⟩ := DB.out g18
                obtain ⟨w15, e15, g20⟩ := DG.out g19
                obtain ⟨A20, n20, m20, rfl, g21⟩ := DSl.out g20
                obtain ⟨rfl, h'⟩ := DNilD.out g21
                exact (hw_safe (Λ := (W_abacistlaw19_StreamPlays.Λ11 K (W_abacistlaw19_StreamPlays.l11 K k))) mix _ _ [(1, .slice A18 n18 m18), (5, .int .i64 x25), (6, .pointer p16), (7, .pointer p17), (8, .pointer p18), (9, .slice A19 n19 m19), (10, .int .i64 x26), (11, .pointer (some a7)), (12, .bool c5), (15, .slice A20 n20 m20)] [] H (Eq.mp (by kernel_rfl) h') (obs_seq obs_region rfl (obs_seq obs_region rfl (obs_cond (obs_seq obs_region rfl (obs_cond (obs_seq obs_region rfl obs_ret) obs_skip)) (obs_seq obs_region rfl (obs_cond (obs_seq obs_region rfl obs_ret) obs_skip)))))).weaken (EnvLe.cons e1 (EnvLe.cons e5 (EnvLe.cons e6 (EnvLe.cons e7 (EnvLe.cons e8 (EnvLe.cons e9 (EnvLe.cons e10 (EnvLe.cons e11 (EnvLe.cons e12 (EnvLe.cons e15 (EnvLe.nil _))))))))))) (Hp.le_refl _))) (obs_seq obs_region rfl (obs_cond (obs_seqc obs_region rfl (fun E D H h => by
                obtain ⟨w1, e1, g1⟩ := DG.out h
                obtain ⟨A21, n23, m21, rfl, g2⟩ := DSl.out g1
                obtain ⟨w5, e5, g3⟩ := DG.out g2
                obtain ⟨x38, rfl, g4⟩ := DI.out g3
                obtain ⟨w6, e6, g5⟩ := DG.out g4
                obtain ⟨p19, rfl, g6⟩ := DP.out g5
                obtain ⟨w7, e7, g7⟩ := DG.out g6
                obtain ⟨p20, rfl, g8⟩ := DP.out g7
                obtain ⟨w8, e8, g9⟩ := DG.out g8
                obtain ⟨p21, rfl, g10⟩ := DP.out g9
                obtain ⟨w9, e9, g11⟩ := DG.out g10
                obtain ⟨A22, n24, m22, rfl, g12⟩ := DSl.out g11
                obtain ⟨w10, e10, g13⟩ := DG.out g12
                obtain ⟨x39, rfl, g14⟩ := DI.out g13
                obtain ⟨w11, e11, g15⟩ := DG.out g14
                obtain ⟨pw11, rfl, g16⟩ := DP.out g15
                obtain ⟨a8, rfl, g17⟩ := NN.out g16
                obtain ⟨w12, e12, g18⟩ := DG.out g17
                obtain ⟨c7, rfl, g19⟩ := DB.out g18
                obtain ⟨w17, e17, g20⟩ := DG.out g19
                obtain ⟨x40, rfl, g21⟩ := DI.out g20
                obtain ⟨w18, e18, g22⟩ := DG.out g21
                obtain ⟨x41, rfl, g23⟩ := DI.out g22
                obtain ⟨rfl, h'⟩ := DNilD.out g23
                exact (hw_safe (Λ := (W_abacistlaw19_StreamPlays.Λ11 K (W_abacistlaw19_StreamPlays.l11 K k))) mix _ _ [(1, .slice A21 n23 m21), (5, .int .i64 x38), (6, .pointer p19), (7, .pointer p20), (8, .pointer p21), (9, .slice A22 n24 m22), (10, .int .i64 x39), (11, .pointer (some a8)), (12, .bool c7), (17, .int .u64 x40), (18, .int .i64 x41)] [] H (Eq.mp (by kernel_rfl) h') (obs_seq obs_region rfl (obs_cond (obs_seq obs_region rfl (obs_cond (obs_seq obs_region rfl obs_ret) obs_skip)) (obs_seq obs_region rfl (obs_cond (obs_seq obs_region rfl obs_ret) obs_skip))))).weaken (EnvLe.cons e1 (EnvLe.cons e5 (EnvLe.cons e6 (EnvLe.cons e7 (EnvLe.cons e8 (EnvLe.cons e9 (EnvLe.cons e10 (EnvLe.cons e11 (EnvLe.cons e12 (EnvLe.cons e17 (EnvLe.cons e18 (EnvLe.nil _)))))))))))) (Hp.le_refl _))) (obs_seq obs_region rfl (obs_cond (obs_seqc obs_region rfl (fun E D H h => by
                obtain ⟨w1, e1, g1⟩ := DG.out h
                obtain ⟨A23, n25, m23, rfl, g2⟩ := DSl.out g1
                obtain ⟨w5, e5, g3⟩ := DG.out g2
                obtain ⟨x45, rfl, g4⟩ := DI.out g3
                obtain ⟨w6, e6, g5⟩ := DG.out g4
                obtain ⟨p22, rfl, g6⟩ := DP.out g5
                obtain ⟨w7, e7, g7⟩ := DG.out g6
                obtain ⟨p23, rfl, g8⟩ := DP.out g7
                obtain ⟨w8, e8, g9⟩ := DG.out g8
                obtain ⟨p24, rfl, g10⟩ := DP.out g9
                obtain ⟨w9, e9, g11⟩ := DG.out g10
                obtain ⟨A24, n26, m24, rfl, g12⟩ := DSl.out g11
                obtain ⟨w10, e10, g13⟩ := DG.out g12
                obtain ⟨x46, rfl, g14⟩ := DI.out g13
                obtain ⟨w11, e11, g15⟩ := DG.out g14
                obtain ⟨pw11, rfl, g16⟩ := DP.out g15
                obtain ⟨a10, rfl, g17⟩ := NN.out g16
                obtain ⟨w19, e19, g18⟩ := DG.out g17
                obtain ⟨x47, rfl, g19⟩ := DI.out g18
                obtain ⟨rfl, h'⟩ := DNilD.out g19
                exact (hw_safe (Λ := (W_abacistlaw19_StreamPlays.Λ11 K (W_abacistlaw19_StreamPlays.l11 K k))) mix _ _ [(1, .slice A23 n25 m23), (5, .int .i64 x45), (6, .pointer p22), (7, .pointer p23), (8, .pointer p24), (9, .slice A24 n26 m24), (10, .int .i64 x46), (11, .pointer (some a10)), (19, .int .u64 x47)] [] H (Eq.mp (by kernel_rfl) h') (obs_seqc (obs_seq obs_region rfl (obs_cond obs_region obs_skip)) rfl (fun E D H h => by
                    obtain ⟨w1, e1, g1⟩ := DG.out h
                    obtain ⟨A27, n29, m27, rfl, g2⟩ := DSl.out g1
                    obtain ⟨w5, e5, g3⟩ := DG.out g2
                    obtain ⟨x49, rfl, g4⟩ := DI.out g3
                    obtain ⟨w6, e6, g5⟩ := DG.out g4
                    obtain ⟨p25, rfl, g6⟩ := DP.out g5
                    obtain ⟨w7, e7, g7⟩ := DG.out g6
                    obtain ⟨p26, rfl, g8⟩ := DP.out g7
                    obtain ⟨w8, e8, g9⟩ := DG.out g8
                    obtain ⟨p27, rfl, g10⟩ := DP.out g9
                    obtain ⟨w9, e9, g11⟩ := DG.out g10
                    obtain ⟨A28, n30, m28, rfl, g12⟩ := DSl.out g11
                    obtain ⟨w10, e10, g13⟩ := DG.out g12
                    obtain ⟨x50, rfl, g14⟩ := DI.out g13
                    obtain ⟨w19, e19, g15⟩ := DG.out g14
                    obtain ⟨x51, rfl, g16⟩ := DI.out g15
                    obtain ⟨rfl, h'⟩ := DNilD.out g16
                    exact (hw_safe (Λ := (W_abacistlaw19_StreamPlays.Λ11 K (W_abacistlaw19_StreamPlays.l11 K k))) mix _ _ [(1, .slice A27 n29 m27), (5, .int .i64 x49), (6, .pointer p25), (7, .pointer p26), (8, .pointer p27), (9, .slice A28 n30 m28), (10, .int .i64 x50), (19, .int .u64 x51)] [] H (Eq.mp (by kernel_rfl) h') (obs_seq (obs_seq obs_region rfl (obs_cond (obs_seq obs_region rfl obs_ret) obs_skip)) rfl (obs_seq obs_region rfl (obs_block (obs_loop rfl (fun E D H h => by
                        refine Safe.loop' (W_abacistlaw19_StreamPlays.l50.L K (W_abacistlaw19_StreamPlays.l11 K k)) (fun E D H h => ?_) (fun k E D H h => ?_) E D H h
                        · obtain ⟨w1, e1, g1⟩ := DG.out h; obtain ⟨A29, n31, m29, rfl, g2⟩ := DSl.out g1; obtain ⟨w5, e5, g3⟩ := DG.out g2; obtain ⟨x53, rfl, g4⟩ := DI.out g3; obtain ⟨w6, e6, g5⟩ := DG.out g4; obtain ⟨p28, rfl, g6⟩ := DP.out g5; obtain ⟨w7, e7, g7⟩ := DG.out g6; obtain ⟨p29, rfl, g8⟩ := DP.out g7; obtain ⟨w8, e8, g9⟩ := DG.out g8; obtain ⟨p30, rfl, g10⟩ := DP.out g9; obtain ⟨w9, e9, g11⟩ := DG.out g10; obtain ⟨A30, n32, m30, rfl, g12⟩ := DSl.out g11; obtain ⟨w10, e10, g13⟩ := DG.out g12; obtain ⟨x54, rfl, g14⟩ := DI.out g13; obtain ⟨w19, e19, g15⟩ := DG.out g14; obtain ⟨x55, rfl, g16⟩ := DI.out g15; obtain ⟨w20, e20, g17⟩ := DG.out g16; obtain ⟨x56, rfl, g18⟩ := DI.out g17; obtain ⟨rfl, h'⟩ := DNilD.out g18; exact h'
                        · obtain ⟨w1, e1, g1⟩ := DG.out h
                          obtain ⟨A29, n31, m29, rfl, g2⟩ := DSl.out g1
                          obtain ⟨w5, e5, g3⟩ := DG.out g2
                          obtain ⟨x53, rfl, g4⟩ := DI.out g3
                          obtain ⟨w6, e6, g5⟩ := DG.out g4
                          obtain ⟨p28, rfl, g6⟩ := DP.out g5
                          obtain ⟨w7, e7, g7⟩ := DG.out g6
                          obtain ⟨p29, rfl, g8⟩ := DP.out g7
                          obtain ⟨w8, e8, g9⟩ := DG.out g8
                          obtain ⟨p30, rfl, g10⟩ := DP.out g9
                          obtain ⟨w9, e9, g11⟩ := DG.out g10
                          obtain ⟨A30, n32, m30, rfl, g12⟩ := DSl.out g11
                          obtain ⟨w10, e10, g13⟩ := DG.out g12
                          obtain ⟨x54, rfl, g14⟩ := DI.out g13
                          obtain ⟨w19, e19, g15⟩ := DG.out g14
                          obtain ⟨x55, rfl, g16⟩ := DI.out g15
                          obtain ⟨w20, e20, g17⟩ := DG.out g16
                          obtain ⟨x56, rfl, g18⟩ := DI.out g17
                          obtain ⟨rfl, h'⟩ := DNilD.out g18
                          exact (hw_safe (Λ := (W_abacistlaw19_StreamPlays.Λ50 K (W_abacistlaw19_StreamPlays.l11 K k) (W_abacistlaw19_StreamPlays.l50 K (W_abacistlaw19_StreamPlays.l11 K k) k))) mix _ _ [(1, .slice A29 n31 m29), (5, .int .i64 x53), (6, .pointer p28), (7, .pointer p29), (8, .pointer p30), (9, .slice A30 n32 m30), (10, .int .i64 x54), (19, .int .u64 x55), (20, .int .i64 x56)] [] H (Eq.mp (by kernel_rfl) h') (obs_seq (obs_seq obs_region rfl (obs_cond obs_skip obs_exit)) rfl (obs_seq (obs_block obs_region) rfl obs_region))).weaken (EnvLe.cons e1 (EnvLe.cons e5 (EnvLe.cons e6 (EnvLe.cons e7 (EnvLe.cons e8 (EnvLe.cons e9 (EnvLe.cons e10 (EnvLe.cons e19 (EnvLe.cons e20 (EnvLe.nil _)))))))))) (Hp.le_refl _))))))).weaken (EnvLe.cons e1 (EnvLe.cons e5 (EnvLe.cons e6 (EnvLe.cons e7 (EnvLe.cons e8 (EnvLe.cons e9 (EnvLe.cons e10 (EnvLe.cons e19 (EnvLe.nil _))))))))) (Hp.le_refl _)))).weaken (EnvLe.cons e1 (EnvLe.cons e5 (EnvLe.cons e6 (EnvLe.cons e7 (EnvLe.cons e8 (EnvLe.cons e9 (EnvLe.cons e10 (EnvLe.cons e11 (EnvLe.cons e19 (EnvLe.nil _)))))))))) (Hp.le_refl _))) (obs_seq obs_region rfl (obs_cond (obs_seqc obs_region rfl (fun E D H h => by
                obtain ⟨w1, e1, g1⟩ := DG.out h
                obtain ⟨A31, n33, m31, rfl, g2⟩ := DSl.out g1
                obtain ⟨w5, e5, g3⟩ := DG.out g2
                obtain ⟨x61, rfl, g4⟩ := DI.out g3
                obtain ⟨w6, e6, g5⟩ := DG.out g4
                obtain ⟨p31, rfl, g6⟩ := DP.out g5
                obtain ⟨w7, e7, g7⟩ := DG.out g6
                obtain ⟨p32, rfl, g8⟩ := DP.out g7
                obtain ⟨w8, e8, g9⟩ := DG.out g8
                obtain ⟨p33, rfl, g10⟩ := DP.out g9
                obtain ⟨w9, e9, g11⟩ := DG.out g10
                obtain ⟨A32, n34, m32, rfl, g12⟩ := DSl.out g11
                obtain ⟨w10, e10, g13⟩ := DG.out g12
                obtain ⟨x62, rfl, g14⟩ := DI.out g13
                obtain ⟨w21, e21, g15⟩ := DG.out g14
                obtain ⟨x63, rfl, g16⟩ := DI.out g15
                obtain ⟨w22, e22, g17⟩ := DG.out g16
                obtain ⟨x64, rfl, g18⟩ := DI.out g17
                obtain ⟨rfl, h'⟩ := DNilD.out g18
                exact (hw_safe (Λ := (W_abacistlaw19_StreamPlays.Λ11 K (W_abacistlaw19_StreamPlays.l11 K k))) mix _ _ [(1, .slice A31 n33 m31), (5, .int .i64 x61), (6, .pointer p31), (7, .pointer p32), (8, .pointer p33), (9, .slice A32 n34 m32), (10, .int .i64 x62), (21, .int .u32 x63), (22, .int .i64 x64)] [] H (Eq.mp (by kernel_rfl) h') (obs_seq obs_region rfl (obs_cond (obs_seq obs_region rfl obs_ret) obs_skip))).weaken (EnvLe.cons e1 (EnvLe.cons e5 (EnvLe.cons e6 (EnvLe.cons e7 (EnvLe.cons e8 (EnvLe.cons e9 (EnvLe.cons e10 (EnvLe.cons e21 (EnvLe.cons e22 (EnvLe.nil _)))))))))) (Hp.le_refl _))) obs_skip)))))))))))) rfl (fun E D H h => by
                obtain ⟨w1, e1, g1⟩ := DG.out h
                obtain ⟨A33, n35, m33, rfl, g2⟩ := DSl.out g1
                obtain ⟨w5, e5, g3⟩ := DG.out g2
                obtain ⟨x66, rfl, g4⟩ := DI.out g3
                obtain ⟨w6, e6, g5⟩ := DG.out g4
                obtain ⟨p34, rfl, g6⟩ := DP.out g5
                obtain ⟨w7, e7, g7⟩ := DG.out g6
                obtain ⟨p35, rfl, g8⟩ := DP.out g7
                obtain ⟨w8, e8, g9⟩ := DG.out g8
                obtain ⟨p36, rfl, g10⟩ := DP.out g9
                obtain ⟨w9, e9, g11⟩ := DG.out g10
                obtain ⟨A34, n36, m34, rfl, g12⟩ := DSl.out g11
                obtain ⟨w10, e10, g13⟩ := DG.out g12
                obtain ⟨x67, rfl, g14⟩ := DI.out g13
                obtain ⟨rfl, h'⟩ := DNilD.out g14
                exact (hw_safe (Λ := (W_abacistlaw19_StreamPlays.Λ11 K (W_abacistlaw19_StreamPlays.l11 K k))) mix _ _ [(1, .slice A33 n35 m33), (5, .int .i64 x66), (6, .pointer p34), (7, .pointer p35), (8, .pointer p36), (9, .slice A34 n36 m34), (10, .int .i64 x67)] [] H (Eq.mp (by kernel_rfl) h') (obs_seq obs_region rfl (obs_cond (obs_seq obs_region rfl obs_ret) obs_skip))).weaken (EnvLe.cons e1 (EnvLe.cons e5 (EnvLe.cons e6 (EnvLe.cons e7 (EnvLe.cons e8 (EnvLe.cons e9 (EnvLe.cons e10 (EnvLe.nil _)))))))) (Hp.le_refl _)))).weaken (EnvLe.cons e1 (EnvLe.cons e5 (EnvLe.cons e6 (EnvLe.cons e7 (EnvLe.cons e8 (EnvLe.cons e9 (EnvLe.cons e10 (EnvLe.cons e11 (EnvLe.cons e12 (EnvLe.nil _)))))))))) (Hp.le_refl _))))) rfl obs_region))).weaken (EnvLe.cons e1 (EnvLe.cons e5 (EnvLe.cons e6 (EnvLe.cons e7 (EnvLe.cons e8 (EnvLe.cons e9 (EnvLe.cons e10 (EnvLe.nil _)))))))) (Hp.le_refl _))))) rfl (obs_seq obs_region rfl (obs_seq (obs_seq obs_region rfl (obs_block (obs_loop rfl (fun E D H h => by
      refine Safe.loop' (W_abacistlaw19_StreamPlays.l61.L K) (fun E D H h => ?_) (fun k E D H h => ?_) E D H h
      · obtain ⟨w5, e5, g1⟩ := DG.out h; obtain ⟨x70, rfl, g2⟩ := DI.out g1; obtain ⟨w6, e6, g3⟩ := DG.out g2; obtain ⟨p37, rfl, g4⟩ := DP.out g3; obtain ⟨w9, e9, g5⟩ := DG.out g4; obtain ⟨A36, n38, m36, rfl, g6⟩ := DSl.out g5; obtain ⟨w23, e23, g7⟩ := DG.out g6; obtain ⟨A37, n39, m37, rfl, g8⟩ := DSl.out g7; obtain ⟨w24, e24, g9⟩ := DG.out g8; obtain ⟨x71, rfl, g10⟩ := DI.out g9; obtain ⟨rfl, h'⟩ := DNilD.out g10; exact h'
      · obtain ⟨w5, e5, g1⟩ := DG.out h
        obtain ⟨x70, rfl, g2⟩ := DI.out g1
        obtain ⟨w6, e6, g3⟩ := DG.out g2
        obtain ⟨p37, rfl, g4⟩ := DP.out g3
        obtain ⟨w9, e9, g5⟩ := DG.out g4
        obtain ⟨A36, n38, m36, rfl, g6⟩ := DSl.out g5
        obtain ⟨w23, e23, g7⟩ := DG.out g6
        obtain ⟨A37, n39, m37, rfl, g8⟩ := DSl.out g7
        obtain ⟨w24, e24, g9⟩ := DG.out g8
        obtain ⟨x71, rfl, g10⟩ := DI.out g9
        obtain ⟨rfl, h'⟩ := DNilD.out g10
        exact (hw_safe (Λ := (W_abacistlaw19_StreamPlays.Λ61 K (W_abacistlaw19_StreamPlays.l61 K k))) mix _ _ [(5, .int .i64 x70), (6, .pointer p37), (9, .slice A36 n38 m36), (23, .slice A37 n39 m37), (24, .int .i64 x71)] [] H (Eq.mp (by kernel_rfl) h') (obs_seq (obs_seq obs_region rfl (obs_cond obs_skip obs_exit)) rfl (obs_seq (obs_block (obs_seq obs_region rfl (obs_cond (obs_seq obs_region rfl obs_ret) obs_skip))) rfl obs_region))).weaken (EnvLe.cons e5 (EnvLe.cons e6 (EnvLe.cons e9 (EnvLe.cons e23 (EnvLe.cons e24 (EnvLe.nil _)))))) (Hp.le_refl _))))) rfl (obs_seq obs_region rfl (obs_seq obs_region rfl obs_ret)))))))))))))

-- abacistlaw19.awake
def W_abacistlaw19_awake (H : Hp) (K : Value → Hp → Prop) : Prop :=
  HCalls Try.prog 39 #[.int .i64 (20 : Int)] H fun v1 H1 => DP v1 fun p1 => HCalls Try.prog 6 #[.int .i64 (4 : Int), .int .i64 (32 : Int)] H1 fun v2 H2 => DP v2 fun p2 => HCalls Try.prog 40 #[.pointer p2, .pointer p1, .agg #[.int .i64 (1 : Int), .int .i64 (2 : Int), .int .i64 (7 : Int)]] H2 fun v3 H3 => DTup v3 fun l1 => DCons l1 fun v4 l2 => DP v4 fun p3 => DCons l2 fun v5 l3 => DI .i64 v5 fun x1 => DNil l3 (BIf p3.isNone (K (.bool false) H3) (BIf (x1 != (0 : Int)) (K (.bool false) H3) (Nw H3 (.row [.int .u64 (7 : Int)] 62 1) fun b1 H4 => HCalls Try.prog 19 #[.pointer p3, .int .i64 (3 : Int), .slice (some ⟨b1, 0, none⟩) 1 1] H4 fun v6 H5 => DI .i64 v6 fun x2 => BIf (x2 != (0 : Int)) (K (.bool false) H5) (HCalls Try.prog 22 #[.pointer p3, .int .i64 (3 : Int)] H5 fun v7 H6 => DTup v7 fun l4 => DCons l4 fun v8 l5 => DI .u64 v8 fun x3 => DCons l5 fun v9 l6 => DI .i64 v9 fun x4 => DNil l6 (BIf (x3 == (7 : Int)) (BIf (x4 == (0 : Int)) (HCalls Try.prog 18 #[.pointer p3] H6 fun v10 H7 => DI .i64 v10 fun x5 => K (.bool (x5 == (7 : Int))) H7) (K (.bool false) H6)) (K (.bool false) H6))))))
def W_abacistlaw19_awake.Λ (_ : Value → Hp → Prop) : Cuts := Cuts.none (fun _ => none)
theorem W_abacistlaw19_awake.ok (H : Hp) (K : Value → Hp → Prop) (h : W_abacistlaw19_awake H K) : HCalls Try.prog 15 #[] H K :=
  hcalls Try.func15 rfl (Nat.le_of_ble_eq_true rfl) (hw_safe (Λ := Cuts.none (fun _ => none)) mix _ _ _ _ _ (Eq.mp (by kernel_rfl) h) (obs_none _ _ _ _ _))

-- abacistlaw19.few
def W_abacistlaw19_few.l4 (K : Value → Hp → Prop) : Nat → Option Addr → Nat → Nat → Int → Hp → Prop
  | 0, _, _, _, _, _ => False
  | k + 1, A2, n2, m2, x1, H =>
    let R4 := W_abacistlaw19_few.l4 K k
    BIf (decide (x1 < ((n2 : Nat) : Int))) (ixI x1 n2 (NN A2 fun a1 => Ld H ((a1.add (x1.toNat * 4)).add 3) fun v1 => DSl v1 fun A3 n3 m3 => BIf (decide (((n3 : Nat) : Int) > (60 : Int))) (K (.bool false) H) (ixI x1 n2 (NN A2 fun a2 => Ld H ((a2.add (x1.toNat * 4)).add 2) fun v2 => DI .i64 v2 fun x2 => BIf (decide (x2 > (60 : Int))) (K (.bool false) H) (R4 A2 n2 m2 (IntKind.i64.wrap (x1 + (1 : Int))) H))))) (K (.bool true) H)
def W_abacistlaw19_few (A1 : Option Addr) (n1 : Nat) (m1 : Nat) (H : Hp) (K : Value → Hp → Prop) : Prop :=
  BIf (decide (((n1 : Nat) : Int) > (24 : Int))) (K (.bool false) H) ((∃ k, W_abacistlaw19_few.l4 K k A1 n1 m1 (0 : Int) H))
def W_abacistlaw19_few.l4.L (K : Value → Hp → Prop) (k : Nat) : Mid := fun E D H =>
  DG (E.get? 0) fun w0 => DSl w0 fun A2 n2 m2 => DG (E.get? 3) fun w3 => DI .i64 w3 fun x1 => DNilD D (W_abacistlaw19_few.l4 K k A2 n2 m2 x1 H)
def W_abacistlaw19_few.Λ4 (_ : Value → Hp → Prop) (_R4 : Option Addr → Nat → Nat → Int → Hp → Prop) : Cuts := Cuts.none (fun _ => none)
def W_abacistlaw19_few.Λ (K : Value → Hp → Prop) : Cuts := ⟨fun i => none, fun i => match Nat.beq i 4 with | true => some (fun E D H => ∃ k, W_abacistlaw19_few.l4.L K k E D H) | false => none, (fun _ => none)⟩
theorem W_abacistlaw19_few.ok (A1 : Option Addr) (n1 : Nat) (m1 : Nat) (H : Hp) (K : Value → Hp → Prop) (h : W_abacistlaw19_few A1 n1 m1 H K) : HCalls Try.prog 16 #[.slice A1 n1 m1] H K :=
  hcalls Try.func16 rfl (Nat.le_of_ble_eq_true rfl) (hw_safe (Λ := (W_abacistlaw19_few.Λ K)) mix _ _ _ _ _ (Eq.mp (by kernel_rfl) h) (obs_seq obs_region rfl (obs_seq (obs_seq obs_region rfl (obs_cond (obs_seq obs_region rfl obs_ret) obs_skip)) rfl (obs_seq (obs_seq obs_region rfl (obs_block (obs_loop rfl (fun E D H h => by
      refine Safe.loop' (W_abacistlaw19_few.l4.L K) (fun E D H h => ?_) (fun k E D H h => ?_) E D H h
      · obtain ⟨w0, e0, g1⟩ := DG.out h; obtain ⟨A2, n2, m2, rfl, g2⟩ := DSl.out g1; obtain ⟨w3, e3, g3⟩ := DG.out g2; obtain ⟨x1, rfl, g4⟩ := DI.out g3; obtain ⟨rfl, h'⟩ := DNilD.out g4; exact h'
      · obtain ⟨w0, e0, g1⟩ := DG.out h
        obtain ⟨A2, n2, m2, rfl, g2⟩ := DSl.out g1
        obtain ⟨w3, e3, g3⟩ := DG.out g2
        obtain ⟨x1, rfl, g4⟩ := DI.out g3
        obtain ⟨rfl, h'⟩ := DNilD.out g4
        exact (hw_safe (Λ := (W_abacistlaw19_few.Λ4 K (W_abacistlaw19_few.l4 K k))) mix _ _ [(0, .slice A2 n2 m2), (3, .int .i64 x1)] [] H (Eq.mp (by kernel_rfl) h') (obs_seq (obs_seq obs_region rfl (obs_cond obs_skip obs_exit)) rfl (obs_seq (obs_block (obs_seq obs_region rfl (obs_cond (obs_seq obs_region rfl obs_ret) obs_skip))) rfl obs_region))).weaken (EnvLe.cons e0 (EnvLe.cons e3 (EnvLe.nil _))) (Hp.le_refl _))))) rfl (obs_seq obs_region rfl obs_ret)))))

-- abacistlaw19.pipe
def W_abacistlaw19_pipe (x1 : Int) (H : Hp) (K : Value → Hp → Prop) : Prop :=
  HCalls Try.prog 6 #[.int .i64 (20 : Int), .int .i64 (32 : Int)] H fun v1 H1 => DP v1 fun p1 => HCalls Try.prog 39 #[.int .i64 (4 : Int)] H1 fun v2 H2 => DP v2 fun p2 => ((4 : Int) ≠ 0 ∧ IntKind.i64 = IntKind.i64 ∧ HCalls Try.prog 40 #[.pointer p1, .pointer p2, .agg #[.int .i64 (2 : Int), .int .i64 (IntKind.i64.wrap (Int.tdiv (IntKind.i64.wrap (x1 + (3 : Int))) (4 : Int))), .int .i64 x1]] H2 fun v3 H3 => DTup v3 fun l1 => DCons l1 fun v4 l2 => DP v4 fun p3 => DCons l2 fun v5 l3 => DI .i64 v5 fun x2 => DNil l3 (BIf (x2 != (0 : Int)) (K (.tuple #[.pointer none, .pointer p1, .pointer p2]) H3) (K (.tuple #[.pointer p3, .pointer p1, .pointer p2]) H3)))
def W_abacistlaw19_pipe.Λ (_ : Value → Hp → Prop) : Cuts := Cuts.none (fun _ => none)
theorem W_abacistlaw19_pipe.ok (x1 : Int) (H : Hp) (K : Value → Hp → Prop) (h : W_abacistlaw19_pipe x1 H K) : HCalls Try.prog 17 #[.int .i64 x1] H K :=
  hcalls Try.func17 rfl (Nat.le_of_ble_eq_true rfl) (hw_safe (Λ := Cuts.none (fun _ => none)) mix _ _ _ _ _ (Eq.mp (by kernel_rfl) h) (obs_none _ _ _ _ _))

end Go.Proofs.Ytbnhfcdagoigkaa.W
