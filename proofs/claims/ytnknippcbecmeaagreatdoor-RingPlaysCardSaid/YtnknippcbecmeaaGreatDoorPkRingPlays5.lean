import Derived.Test.YtnknippcbecmeaaGreatDoorProg
import Derived.Laws.Externs
import Derived.Test.YtnknippcbecmeaaGreatDoorPkRingPlays4
set_option maxRecDepth 100000
set_option linter.unusedVariables false
set_option linter.unusedSimpArgs false
set_option linter.unnecessarySimpa false
set_option linter.unusedSectionVars false
section
/- Formulas of functions, printed by wip/tools/hwp.py. -/
namespace Go.Proofs.YtnknippcbecmeaaGreatDoor.W
open Go Go.Hw
theorem mixWabacistlaw21 : Tryz.prog.follows .mixedOrders = true := by kernel_rfl
def W_abacistlaw21_RingPlays.l50 (K : Value → Hp → Prop) (R13 : Option Addr → Nat → Nat → Option Addr → Addr → Option Addr → Int → Hp → Prop) : Nat → Option Addr → Nat → Nat → Option Addr → Addr → Option Addr → Int → Option Addr → Nat → Nat → Option Addr → Nat → Nat → Int → Hp → Prop
  | 0, _, _, _, _, _, _, _, _, _, _, _, _, _, _, _ => False
  | k + 1, A55, n63, m55, p15, a22, p16, x84, A56, n64, m56, A57, n65, m57, x85, H =>
    let R50 := W_abacistlaw21_RingPlays.l50 K R13 k
    BIf (decide (x85 < ((n65 : Nat) : Int))) (ixI (IntKind.i64.wrap (x85 - (1 : Int))) n65 (NN A57 fun a23 => LdA H (a23.add ((IntKind.i64.wrap (x85 - (1 : Int))).toNat * 8)) 8 fun l36 => ixI x85 n65 (NN A57 fun a24 => LdA H (a24.add (x85.toNat * 8)) 8 fun l37 => QCall Tryz.prog 39 #[.agg l36.toArray, .agg l37.toArray] H fun v143 => DB v143 fun c16 => BIf (!c16) (K (.bool false) H) (R50 A55 n63 m55 p15 a22 p16 x84 A56 n64 m56 A57 n65 m57 (IntKind.i64.wrap (x85 + (1 : Int))) H)))) (BIf (decide ((IntKind.i64.wrap (((n64 : Nat) : Int) - ((n65 : Nat) : Int))) > (0 : Int))) (ixI (IntKind.i64.wrap ((IntKind.i64.wrap (((n64 : Nat) : Int) - ((n65 : Nat) : Int))) - (1 : Int))) n64 (NN A56 fun a25 => LdA H (a25.add ((IntKind.i64.wrap ((IntKind.i64.wrap (((n64 : Nat) : Int) - ((n65 : Nat) : Int))) - (1 : Int))).toNat * 8)) 8 fun l38 => ixI (IntKind.i64.wrap (((n64 : Nat) : Int) - ((n65 : Nat) : Int))) n64 (NN A56 fun a26 => LdA H (a26.add ((IntKind.i64.wrap (((n64 : Nat) : Int) - ((n65 : Nat) : Int))).toNat * 8)) 8 fun l39 => QCall Tryz.prog 39 #[.agg l38.toArray, .agg l39.toArray] H fun v144 => DB v144 fun c17 => BIf c17 (K (.bool false) H) (R13 A55 n63 m55 p15 a22 p16 (IntKind.i64.wrap (x84 + (1 : Int))) H)))) (R13 A55 n63 m55 p15 a22 p16 (IntKind.i64.wrap (x84 + (1 : Int))) H))
def W_abacistlaw21_RingPlays.j49 (K : Value → Hp → Prop) (R13 : Option Addr → Nat → Nat → Option Addr → Addr → Option Addr → Int → Hp → Prop) (A52 : Option Addr) (n60 : Nat) (m52 : Nat) (p13 : Option Addr) (a21 : Addr) (p14 : Option Addr) (x83 : Int) (A53 : Option Addr) (n61 : Nat) (m53 : Nat) (A54 : Option Addr) (n62 : Nat) (m54 : Nat) (H : Hp) : Prop :=
  (∃ k, W_abacistlaw21_RingPlays.l50 K R13 k A52 n60 m52 p13 a21 p14 x83 A53 n61 m53 A54 n62 m54 (1 : Int) H)
def W_abacistlaw21_RingPlays.j43 (K : Value → Hp → Prop) (R13 : Option Addr → Nat → Nat → Option Addr → Addr → Option Addr → Int → Hp → Prop) (A47 : Option Addr) (n47 : Nat) (m47 : Nat) (p11 : Option Addr) (a19 : Addr) (p12 : Option Addr) (x79 : Int) (H : Hp) : Prop :=
  LdA H a19 3 fun l23 => HCalls Tryz.prog 25 #[.pointer p11, .agg l23.toArray] H fun v126 H82 => DSl v126 fun A48 n48 m48 => HCalls Tryz.prog 24 #[.slice A48 n48 m48] H82 fun v127 H83 => DSl v127 fun A49 n49 m49 => HCalls Tryz.prog 37 #[.pointer p12] H83 fun v128 H84 => DTup v128 fun l24 => DCons l24 fun v129 l25 => DSl v129 fun A50 n50 m50 => DCons l25 fun v130 l26 => DI .i64 v130 fun x80 => DNil l26 (HCalls Tryz.prog 38 #[.pointer p12] H84 fun v131 H85 => DTup v131 fun l27 => DCons l27 fun v132 l28 => DSl v132 fun A51 n51 m51 => DCons l28 fun v133 l29 => DI .i64 v133 fun x81 => DNil l29 (HCalls Tryz.prog 32 #[.pointer p12] H85 fun v134 H86 => DTup v134 fun l30 => DCons l30 fun v135 l31 => DA v135 fun y2 => DCons l31 fun v136 l32 => DB v136 fun c9 => DCons l32 fun v137 l33 => DI .i64 v137 fun x82 => DNil l33 (Nw H86 (.obj (.cells #[.int .u64 0, .int .i64 0, .int .i64 0, .int .i64 0, .int .i64 0, .int .u32 0, .int .u32 0, .int .u32 0] 86)) fun b4 H87 => StA H87 (⟨b4, 0, none⟩ : Addr) y2 8 fun H88 => BIf (x80 != (0 : Int)) (K (.bool false) H88) (BIf (x81 != (0 : Int)) (K (.bool false) H88) (BIf (x82 != (0 : Int)) (K (.bool false) H88) (QCall Tryz.prog 29 #[.slice A50 n50 m50, .slice A49 n49 m49] H88 fun v138 => DB v138 fun c10 => BIf (!c10) (K (.bool false) H88) (BIf (!(c9 == (decide (((n49 : Nat) : Int) > (0 : Int))))) (K (.bool false) H88) (BIf c9 (LdA H88 (⟨b4, 0, none⟩ : Addr) 8 fun l34 => ixI (IntKind.i64.wrap (((n49 : Nat) : Int) - (1 : Int))) n49 (NN A49 fun a20 => LdA H88 (a20.add ((IntKind.i64.wrap (((n49 : Nat) : Int) - (1 : Int))).toNat * 8)) 8 fun l35 => EqV Tryz.prog .neq 86 (.agg l34.toArray) (.agg l35.toArray) fun c11 => BIf c11 (K (.bool false) H88) (BIf (decide (((n51 : Nat) : Int) > ((n49 : Nat) : Int))) (K (.bool false) H88) (BIf (decide (((n49 : Nat) : Int) > (0 : Int))) (BIf (((n51 : Nat) : Int) == (0 : Int)) (K (.bool false) H88) (slB n49 m49 (some (IntKind.i64.wrap (((n49 : Nat) : Int) - ((n51 : Nat) : Int)))) none fun n52 n53 => QCall Tryz.prog 29 #[.slice A51 n51 m51, .slice (slA A49 m49 n52 8) (n53 - n52) (m49 - n52)] H88 fun v139 => DB v139 fun c12 => BIf (!c12) (K (.bool false) H88) (W_abacistlaw21_RingPlays.j49 K R13 A47 n47 m47 p11 a19 p12 x79 A49 n49 m49 A51 n51 m51 H88))) (slB n49 m49 (some (IntKind.i64.wrap (((n49 : Nat) : Int) - ((n51 : Nat) : Int)))) none fun n54 n55 => QCall Tryz.prog 29 #[.slice A51 n51 m51, .slice (slA A49 m49 n54 8) (n55 - n54) (m49 - n54)] H88 fun v140 => DB v140 fun c13 => BIf (!c13) (K (.bool false) H88) (W_abacistlaw21_RingPlays.j49 K R13 A47 n47 m47 p11 a19 p12 x79 A49 n49 m49 A51 n51 m51 H88)))))) (BIf (decide (((n51 : Nat) : Int) > ((n49 : Nat) : Int))) (K (.bool false) H88) (BIf (decide (((n49 : Nat) : Int) > (0 : Int))) (BIf (((n51 : Nat) : Int) == (0 : Int)) (K (.bool false) H88) (slB n49 m49 (some (IntKind.i64.wrap (((n49 : Nat) : Int) - ((n51 : Nat) : Int)))) none fun n56 n57 => QCall Tryz.prog 29 #[.slice A51 n51 m51, .slice (slA A49 m49 n56 8) (n57 - n56) (m49 - n56)] H88 fun v141 => DB v141 fun c14 => BIf (!c14) (K (.bool false) H88) (W_abacistlaw21_RingPlays.j49 K R13 A47 n47 m47 p11 a19 p12 x79 A49 n49 m49 A51 n51 m51 H88))) (slB n49 m49 (some (IntKind.i64.wrap (((n49 : Nat) : Int) - ((n51 : Nat) : Int)))) none fun n58 n59 => QCall Tryz.prog 29 #[.slice A51 n51 m51, .slice (slA A49 m49 n58 8) (n59 - n58) (m49 - n58)] H88 fun v142 => DB v142 fun c15 => BIf (!c15) (K (.bool false) H88) (W_abacistlaw21_RingPlays.j49 K R13 A47 n47 m47 p11 a19 p12 x79 A49 n49 m49 A51 n51 m51 H88))))))))))))
def W_abacistlaw21_RingPlays.j35 (K : Value → Hp → Prop) (R13 : Option Addr → Nat → Nat → Option Addr → Addr → Option Addr → Int → Hp → Prop) (A13 : Option Addr) (n13 : Nat) (m13 : Nat) (p9 : Option Addr) (a17 : Addr) (p10 : Option Addr) (x20 : Int) (a18 : Addr) (H : Hp) : Prop :=
  HCalls Tryz.prog 32 #[.pointer p10] H fun v32 H26 => DTup v32 fun l15 => DCons l15 fun v33 l16 => DA v33 fun y1 => DCons l16 fun v34 l17 => DB v34 fun c8 => DCons l17 fun v35 l18 => DI .i64 v35 fun x21 => DNil l18 (Nw H26 (.obj (.cells #[.int .u64 0, .int .i64 0, .int .i64 0, .int .i64 0, .int .i64 0, .int .u32 0, .int .u32 0, .int .u32 0] 86)) fun b3 H27 => StA H27 (⟨b3, 0, none⟩ : Addr) y1 8 fun H28 => BIf (x21 != (8 : Int)) (K (.bool false) H28) (Ld H28 (a18.add 10) fun v36 => DSl v36 fun A14 n14 m14 => HCalls Tryz.prog 33 #[.pointer p9, .slice A14 n14 m14] H28 fun v37 H29 => DI .i64 v37 fun x22 => BIf (x22 != (0 : Int)) (K (.bool false) H29) (W_abacistlaw21_RingPlays.j43 K R13 A13 n13 m13 p9 a17 p10 x20 H29)))
def W_abacistlaw21_RingPlays.j30 (K : Value → Hp → Prop) (R13 : Option Addr → Nat → Nat → Option Addr → Addr → Option Addr → Int → Hp → Prop) (A7 : Option Addr) (n7 : Nat) (m7 : Nat) (p7 : Option Addr) (a9 : Addr) (p8 : Option Addr) (x17 : Int) (a10 : Addr) (A8 : Option Addr) (n8 : Nat) (m8 : Nat) (x18 : Int) (x19 : Int) (H : Hp) : Prop :=
  LdA H a9 3 fun l10 => HCalls Tryz.prog 25 #[.pointer p7, .agg l10.toArray] H fun v23 H18 => DSl v23 fun A9 n9 m9 => HCalls Tryz.prog 24 #[.slice A9 n9 m9] H18 fun v24 H19 => DSl v24 fun A10 n10 m10 => BIf (x18 != x19) (K (.bool false) H19) (BIf (x19 != (0 : Int)) (QCall Tryz.prog 29 #[.slice A8 n8 m8, .slice A10 n10 m10] H19 fun v25 => DB v25 fun c5 => BIf (!c5) (K (.bool false) H19) (BIf (x19 == (0 : Int)) (BIf (((n10 : Nat) : Int) == (0 : Int)) (K (.bool false) H19) (ixI (IntKind.i64.wrap (((n10 : Nat) : Int) - (1 : Int))) n10 (NN A10 fun a11 => LdA H19 (a11.add ((IntKind.i64.wrap (((n10 : Nat) : Int) - (1 : Int))).toNat * 8)) 8 fun l11 => LdA H19 (a10.add 2) 8 fun l13 => EqV Tryz.prog .neq 86 (.agg l11.toArray) (.agg l13.toArray) fun c6 => BIf c6 (K (.bool false) H19) (HCalls Tryz.prog 30 #[.pointer p7] H19 fun v26 H20 => DSl v26 fun A11 n11 m11 => BIf (((n11 : Nat) : Int) != (0 : Int)) (K (.bool false) H20) (W_abacistlaw21_RingPlays.j43 K R13 A7 n7 m7 p7 a9 p8 x17 H20))))) (W_abacistlaw21_RingPlays.j43 K R13 A7 n7 m7 p7 a9 p8 x17 H19))) (BIf (x19 == (0 : Int)) (BIf (((n10 : Nat) : Int) == (0 : Int)) (K (.bool false) H19) (ixI (IntKind.i64.wrap (((n10 : Nat) : Int) - (1 : Int))) n10 (NN A10 fun a12 => LdA H19 (a12.add ((IntKind.i64.wrap (((n10 : Nat) : Int) - (1 : Int))).toNat * 8)) 8 fun l12 => LdA H19 (a10.add 2) 8 fun l14 => EqV Tryz.prog .neq 86 (.agg l12.toArray) (.agg l14.toArray) fun c7 => BIf c7 (K (.bool false) H19) (HCalls Tryz.prog 30 #[.pointer p7] H19 fun v27 H21 => DSl v27 fun A12 n12 m12 => BIf (((n12 : Nat) : Int) != (0 : Int)) (K (.bool false) H21) (W_abacistlaw21_RingPlays.j43 K R13 A7 n7 m7 p7 a9 p8 x17 H21))))) (W_abacistlaw21_RingPlays.j43 K R13 A7 n7 m7 p7 a9 p8 x17 H19)))
def W_abacistlaw21_RingPlays.j24 (K : Value → Hp → Prop) (R13 : Option Addr → Nat → Nat → Option Addr → Addr → Option Addr → Int → Hp → Prop) (A5 : Option Addr) (n5 : Nat) (m5 : Nat) (p5 : Option Addr) (a7 : Addr) (p6 : Option Addr) (x15 : Int) (a8 : Addr) (A6 : Option Addr) (n6 : Nat) (m6 : Nat) (H : Hp) : Prop :=
  LdA H (a8.add 2) 8 fun l7 => HCalls Tryz.prog 26 #[.pointer p6, .agg l7.toArray] H fun v20 H15 => DI .i64 v20 fun x16 => LdA H15 (a8.add 2) 8 fun l8 => HCalls Tryz.prog 27 #[.agg l8.toArray] H15 fun v21 H16 => DB v21 fun c3 => BIf (!c3) (W_abacistlaw21_RingPlays.j30 K R13 A5 n5 m5 p5 a7 p6 x15 a8 A6 n6 m6 x16 (10 : Int) H16) (LdA H16 (a8.add 2) 8 fun l9 => HCalls Tryz.prog 28 #[.slice A6 n6 m6, .agg l9.toArray] H16 fun v22 H17 => DB v22 fun c4 => BIf (!c4) (W_abacistlaw21_RingPlays.j30 K R13 A5 n5 m5 p5 a7 p6 x15 a8 A6 n6 m6 x16 (5 : Int) H17) (W_abacistlaw21_RingPlays.j30 K R13 A5 n5 m5 p5 a7 p6 x15 a8 A6 n6 m6 x16 (0 : Int) H17))
def W_abacistlaw21_RingPlays.l13 (K : Value → Hp → Prop) : Nat → Option Addr → Nat → Nat → Option Addr → Addr → Option Addr → Int → Hp → Prop
  | 0, _, _, _, _, _, _, _, _ => False
  | k + 1, A2, n2, m2, p3, a1, p4, x5, H =>
    let R13 := W_abacistlaw21_RingPlays.l13 K k
    BIf (decide (x5 < ((n2 : Nat) : Int))) (ixI x5 n2 (NN A2 fun a2 => LdA H (a2.add (x5.toNat * 12)) 12 fun l5 => Nw H (.obj (.cells #[.int .i64 0, .int .i64 0, .int .u64 0, .int .i64 0, .int .i64 0, .int .i64 0, .int .i64 0, .int .u32 0, .int .u32 0, .int .u32 0, .slice none 0 0, .slice none 0 0] 90)) fun b2 H7 => StA H7 (⟨b2, 0, none⟩ : Addr) l5.toArray 12 fun H8 => LdA H8 a1 3 fun l6 => HCalls Tryz.prog 25 #[.pointer p3, .agg l6.toArray] H8 fun v9 H9 => DSl v9 fun A3 n3 m3 => HCalls Tryz.prog 24 #[.slice A3 n3 m3] H9 fun v10 H10 => DSl v10 fun A4 n4 m4 => Ld H10 ((⟨b2, 0, none⟩ : Addr).add 0) fun v11 => DI .i64 v11 fun x6 => BIf (x6 == (0 : Int)) (BIf (x6 == (0 : Int)) (Ld H10 ((⟨b2, 0, none⟩ : Addr).add 0) fun v12 => DI .i64 v12 fun x7 => BIf (x7 == (3 : Int)) (BIf (decide (((n4 : Nat) : Int) > (0 : Int))) (ixI (IntKind.i64.wrap (((n4 : Nat) : Int) - (1 : Int))) n4 (NN A4 fun a3 => Ld H10 ((a3.add ((IntKind.i64.wrap (((n4 : Nat) : Int) - (1 : Int))).toNat * 8)).add 0) fun v16 => DI .u64 v16 fun x11 => St H10 ((((⟨b2, 0, none⟩ : Addr).add 2).add 0).add 0) (.int .u64 (IntKind.u64.wrap (x11 + (1 : Int)))) fun H11 => W_abacistlaw21_RingPlays.j24 K R13 A2 n2 m2 p3 a1 p4 x5 (⟨b2, 0, none⟩ : Addr) A4 n4 m4 H11)) (W_abacistlaw21_RingPlays.j24 K R13 A2 n2 m2 p3 a1 p4 x5 (⟨b2, 0, none⟩ : Addr) A4 n4 m4 H10)) (W_abacistlaw21_RingPlays.j24 K R13 A2 n2 m2 p3 a1 p4 x5 (⟨b2, 0, none⟩ : Addr) A4 n4 m4 H10)) (BIf (x6 == (4 : Int)) (NN p3 fun a13 => HCalls Tryz.prog 31 #[.pointer (some (a13.add 7))] H10 fun v28 H22 => W_abacistlaw21_RingPlays.j35 K R13 A2 n2 m2 p3 a1 p4 x5 (⟨b2, 0, none⟩ : Addr) H22) (BIf (x6 == (6 : Int)) (HCalls Tryz.prog 34 #[.pointer p4] H10 fun v38 H30 => DI .i64 v38 fun x23 => BIf (x23 != (0 : Int)) (K (.bool false) H30) (LdA H30 a1 3 fun l19 => HCalls Tryz.prog 25 #[.pointer p3, .agg l19.toArray] H30 fun v42 H34 => DSl v42 fun A15 n15 m15 => HCalls Tryz.prog 24 #[.slice A15 n15 m15] H34 fun v46 H38 => DSl v46 fun A19 n19 m19 => BIf (((n19 : Nat) : Int) != (0 : Int)) (K (.bool false) H38) (W_abacistlaw21_RingPlays.j43 K R13 A2 n2 m2 p3 a1 p4 x5 H38))) (BIf (x6 == (7 : Int)) (Ld H10 ((⟨b2, 0, none⟩ : Addr).add 11) fun v50 => DSl v50 fun A23 n23 m23 => (Ld H10 ((⟨b2, 0, none⟩ : Addr).add 1) fun v51 => DI .i64 v51 fun x27 => (Ld H10 (a1.add 1) fun v52 => DI .i64 v52 fun x28 => (x28 ≠ 0 ∧ IntKind.i64 = IntKind.i64 ∧ HCalls Tryz.prog 36 #[.slice A23 n23 m23] H10 fun v53 H42 => DSl v53 fun A24 n24 m24 => HCalls Tryz.prog 35 #[.pointer p3, .int .i64 (IntKind.i64.wrap ((1 : Int) + (Int.tmod (bAnd .i64 x27 (7 : Int)) x28))), .slice A24 n24 m24] H42 fun v54 H43 => DI .i64 v54 fun x29 => W_abacistlaw21_RingPlays.j43 K R13 A2 n2 m2 p3 a1 p4 x5 H43)) ∧ (HCalls Tryz.prog 36 #[.slice A23 n23 m23] H10 fun v55 H44 => DSl v55 fun A25 n25 m25 => Ld H44 (a1.add 1) fun v56 => DI .i64 v56 fun x30 => (x30 ≠ 0 ∧ IntKind.i64 = IntKind.i64 ∧ HCalls Tryz.prog 35 #[.pointer p3, .int .i64 (IntKind.i64.wrap ((1 : Int) + (Int.tmod (bAnd .i64 x27 (7 : Int)) x30))), .slice A25 n25 m25] H44 fun v57 H45 => DI .i64 v57 fun x31 => W_abacistlaw21_RingPlays.j43 K R13 A2 n2 m2 p3 a1 p4 x5 H45))) ∧ (Ld H10 (a1.add 1) fun v58 => DI .i64 v58 fun x32 => (Ld H10 ((⟨b2, 0, none⟩ : Addr).add 1) fun v59 => DI .i64 v59 fun x33 => (x32 ≠ 0 ∧ IntKind.i64 = IntKind.i64 ∧ HCalls Tryz.prog 36 #[.slice A23 n23 m23] H10 fun v60 H46 => DSl v60 fun A26 n26 m26 => HCalls Tryz.prog 35 #[.pointer p3, .int .i64 (IntKind.i64.wrap ((1 : Int) + (Int.tmod (bAnd .i64 x33 (7 : Int)) x32))), .slice A26 n26 m26] H46 fun v61 H47 => DI .i64 v61 fun x34 => W_abacistlaw21_RingPlays.j43 K R13 A2 n2 m2 p3 a1 p4 x5 H47)) ∧ (HCalls Tryz.prog 36 #[.slice A23 n23 m23] H10 fun v62 H48 => DSl v62 fun A27 n27 m27 => Ld H48 ((⟨b2, 0, none⟩ : Addr).add 1) fun v63 => DI .i64 v63 fun x35 => (x32 ≠ 0 ∧ IntKind.i64 = IntKind.i64 ∧ HCalls Tryz.prog 35 #[.pointer p3, .int .i64 (IntKind.i64.wrap ((1 : Int) + (Int.tmod (bAnd .i64 x35 (7 : Int)) x32))), .slice A27 n27 m27] H48 fun v64 H49 => DI .i64 v64 fun x36 => W_abacistlaw21_RingPlays.j43 K R13 A2 n2 m2 p3 a1 p4 x5 H49))) ∧ (HCalls Tryz.prog 36 #[.slice A23 n23 m23] H10 fun v65 H50 => DSl v65 fun A28 n28 m28 => Ld H50 ((⟨b2, 0, none⟩ : Addr).add 1) fun v66 => DI .i64 v66 fun x37 => Ld H50 (a1.add 1) fun v67 => DI .i64 v67 fun x38 => (x38 ≠ 0 ∧ IntKind.i64 = IntKind.i64 ∧ HCalls Tryz.prog 35 #[.pointer p3, .int .i64 (IntKind.i64.wrap ((1 : Int) + (Int.tmod (bAnd .i64 x37 (7 : Int)) x38))), .slice A28 n28 m28] H50 fun v68 H51 => DI .i64 v68 fun x39 => W_abacistlaw21_RingPlays.j43 K R13 A2 n2 m2 p3 a1 p4 x5 H51))) (W_abacistlaw21_RingPlays.j43 K R13 A2 n2 m2 p3 a1 p4 x5 H10))))) (BIf (x6 == (1 : Int)) (BIf (x6 == (1 : Int)) (Ld H10 ((⟨b2, 0, none⟩ : Addr).add 0) fun v13 => DI .i64 v13 fun x8 => BIf (x8 == (3 : Int)) (BIf (decide (((n4 : Nat) : Int) > (0 : Int))) (ixI (IntKind.i64.wrap (((n4 : Nat) : Int) - (1 : Int))) n4 (NN A4 fun a4 => Ld H10 ((a4.add ((IntKind.i64.wrap (((n4 : Nat) : Int) - (1 : Int))).toNat * 8)).add 0) fun v17 => DI .u64 v17 fun x12 => St H10 ((((⟨b2, 0, none⟩ : Addr).add 2).add 0).add 0) (.int .u64 (IntKind.u64.wrap (x12 + (1 : Int)))) fun H12 => W_abacistlaw21_RingPlays.j24 K R13 A2 n2 m2 p3 a1 p4 x5 (⟨b2, 0, none⟩ : Addr) A4 n4 m4 H12)) (W_abacistlaw21_RingPlays.j24 K R13 A2 n2 m2 p3 a1 p4 x5 (⟨b2, 0, none⟩ : Addr) A4 n4 m4 H10)) (W_abacistlaw21_RingPlays.j24 K R13 A2 n2 m2 p3 a1 p4 x5 (⟨b2, 0, none⟩ : Addr) A4 n4 m4 H10)) (BIf (x6 == (4 : Int)) (NN p3 fun a14 => HCalls Tryz.prog 31 #[.pointer (some (a14.add 7))] H10 fun v29 H23 => W_abacistlaw21_RingPlays.j35 K R13 A2 n2 m2 p3 a1 p4 x5 (⟨b2, 0, none⟩ : Addr) H23) (BIf (x6 == (6 : Int)) (HCalls Tryz.prog 34 #[.pointer p4] H10 fun v39 H31 => DI .i64 v39 fun x24 => BIf (x24 != (0 : Int)) (K (.bool false) H31) (LdA H31 a1 3 fun l20 => HCalls Tryz.prog 25 #[.pointer p3, .agg l20.toArray] H31 fun v43 H35 => DSl v43 fun A16 n16 m16 => HCalls Tryz.prog 24 #[.slice A16 n16 m16] H35 fun v47 H39 => DSl v47 fun A20 n20 m20 => BIf (((n20 : Nat) : Int) != (0 : Int)) (K (.bool false) H39) (W_abacistlaw21_RingPlays.j43 K R13 A2 n2 m2 p3 a1 p4 x5 H39))) (BIf (x6 == (7 : Int)) (Ld H10 ((⟨b2, 0, none⟩ : Addr).add 11) fun v69 => DSl v69 fun A29 n29 m29 => (Ld H10 ((⟨b2, 0, none⟩ : Addr).add 1) fun v70 => DI .i64 v70 fun x40 => (Ld H10 (a1.add 1) fun v71 => DI .i64 v71 fun x41 => (x41 ≠ 0 ∧ IntKind.i64 = IntKind.i64 ∧ HCalls Tryz.prog 36 #[.slice A29 n29 m29] H10 fun v72 H52 => DSl v72 fun A30 n30 m30 => HCalls Tryz.prog 35 #[.pointer p3, .int .i64 (IntKind.i64.wrap ((1 : Int) + (Int.tmod (bAnd .i64 x40 (7 : Int)) x41))), .slice A30 n30 m30] H52 fun v73 H53 => DI .i64 v73 fun x42 => W_abacistlaw21_RingPlays.j43 K R13 A2 n2 m2 p3 a1 p4 x5 H53)) ∧ (HCalls Tryz.prog 36 #[.slice A29 n29 m29] H10 fun v74 H54 => DSl v74 fun A31 n31 m31 => Ld H54 (a1.add 1) fun v75 => DI .i64 v75 fun x43 => (x43 ≠ 0 ∧ IntKind.i64 = IntKind.i64 ∧ HCalls Tryz.prog 35 #[.pointer p3, .int .i64 (IntKind.i64.wrap ((1 : Int) + (Int.tmod (bAnd .i64 x40 (7 : Int)) x43))), .slice A31 n31 m31] H54 fun v76 H55 => DI .i64 v76 fun x44 => W_abacistlaw21_RingPlays.j43 K R13 A2 n2 m2 p3 a1 p4 x5 H55))) ∧ (Ld H10 (a1.add 1) fun v77 => DI .i64 v77 fun x45 => (Ld H10 ((⟨b2, 0, none⟩ : Addr).add 1) fun v78 => DI .i64 v78 fun x46 => (x45 ≠ 0 ∧ IntKind.i64 = IntKind.i64 ∧ HCalls Tryz.prog 36 #[.slice A29 n29 m29] H10 fun v79 H56 => DSl v79 fun A32 n32 m32 => HCalls Tryz.prog 35 #[.pointer p3, .int .i64 (IntKind.i64.wrap ((1 : Int) + (Int.tmod (bAnd .i64 x46 (7 : Int)) x45))), .slice A32 n32 m32] H56 fun v80 H57 => DI .i64 v80 fun x47 => W_abacistlaw21_RingPlays.j43 K R13 A2 n2 m2 p3 a1 p4 x5 H57)) ∧ (HCalls Tryz.prog 36 #[.slice A29 n29 m29] H10 fun v81 H58 => DSl v81 fun A33 n33 m33 => Ld H58 ((⟨b2, 0, none⟩ : Addr).add 1) fun v82 => DI .i64 v82 fun x48 => (x45 ≠ 0 ∧ IntKind.i64 = IntKind.i64 ∧ HCalls Tryz.prog 35 #[.pointer p3, .int .i64 (IntKind.i64.wrap ((1 : Int) + (Int.tmod (bAnd .i64 x48 (7 : Int)) x45))), .slice A33 n33 m33] H58 fun v83 H59 => DI .i64 v83 fun x49 => W_abacistlaw21_RingPlays.j43 K R13 A2 n2 m2 p3 a1 p4 x5 H59))) ∧ (HCalls Tryz.prog 36 #[.slice A29 n29 m29] H10 fun v84 H60 => DSl v84 fun A34 n34 m34 => Ld H60 ((⟨b2, 0, none⟩ : Addr).add 1) fun v85 => DI .i64 v85 fun x50 => Ld H60 (a1.add 1) fun v86 => DI .i64 v86 fun x51 => (x51 ≠ 0 ∧ IntKind.i64 = IntKind.i64 ∧ HCalls Tryz.prog 35 #[.pointer p3, .int .i64 (IntKind.i64.wrap ((1 : Int) + (Int.tmod (bAnd .i64 x50 (7 : Int)) x51))), .slice A34 n34 m34] H60 fun v87 H61 => DI .i64 v87 fun x52 => W_abacistlaw21_RingPlays.j43 K R13 A2 n2 m2 p3 a1 p4 x5 H61))) (W_abacistlaw21_RingPlays.j43 K R13 A2 n2 m2 p3 a1 p4 x5 H10))))) (BIf (x6 == (2 : Int)) (BIf (x6 == (2 : Int)) (Ld H10 ((⟨b2, 0, none⟩ : Addr).add 0) fun v14 => DI .i64 v14 fun x9 => BIf (x9 == (3 : Int)) (BIf (decide (((n4 : Nat) : Int) > (0 : Int))) (ixI (IntKind.i64.wrap (((n4 : Nat) : Int) - (1 : Int))) n4 (NN A4 fun a5 => Ld H10 ((a5.add ((IntKind.i64.wrap (((n4 : Nat) : Int) - (1 : Int))).toNat * 8)).add 0) fun v18 => DI .u64 v18 fun x13 => St H10 ((((⟨b2, 0, none⟩ : Addr).add 2).add 0).add 0) (.int .u64 (IntKind.u64.wrap (x13 + (1 : Int)))) fun H13 => W_abacistlaw21_RingPlays.j24 K R13 A2 n2 m2 p3 a1 p4 x5 (⟨b2, 0, none⟩ : Addr) A4 n4 m4 H13)) (W_abacistlaw21_RingPlays.j24 K R13 A2 n2 m2 p3 a1 p4 x5 (⟨b2, 0, none⟩ : Addr) A4 n4 m4 H10)) (W_abacistlaw21_RingPlays.j24 K R13 A2 n2 m2 p3 a1 p4 x5 (⟨b2, 0, none⟩ : Addr) A4 n4 m4 H10)) (BIf (x6 == (4 : Int)) (NN p3 fun a15 => HCalls Tryz.prog 31 #[.pointer (some (a15.add 7))] H10 fun v30 H24 => W_abacistlaw21_RingPlays.j35 K R13 A2 n2 m2 p3 a1 p4 x5 (⟨b2, 0, none⟩ : Addr) H24) (BIf (x6 == (6 : Int)) (HCalls Tryz.prog 34 #[.pointer p4] H10 fun v40 H32 => DI .i64 v40 fun x25 => BIf (x25 != (0 : Int)) (K (.bool false) H32) (LdA H32 a1 3 fun l21 => HCalls Tryz.prog 25 #[.pointer p3, .agg l21.toArray] H32 fun v44 H36 => DSl v44 fun A17 n17 m17 => HCalls Tryz.prog 24 #[.slice A17 n17 m17] H36 fun v48 H40 => DSl v48 fun A21 n21 m21 => BIf (((n21 : Nat) : Int) != (0 : Int)) (K (.bool false) H40) (W_abacistlaw21_RingPlays.j43 K R13 A2 n2 m2 p3 a1 p4 x5 H40))) (BIf (x6 == (7 : Int)) (Ld H10 ((⟨b2, 0, none⟩ : Addr).add 11) fun v88 => DSl v88 fun A35 n35 m35 => (Ld H10 ((⟨b2, 0, none⟩ : Addr).add 1) fun v89 => DI .i64 v89 fun x53 => (Ld H10 (a1.add 1) fun v90 => DI .i64 v90 fun x54 => (x54 ≠ 0 ∧ IntKind.i64 = IntKind.i64 ∧ HCalls Tryz.prog 36 #[.slice A35 n35 m35] H10 fun v91 H62 => DSl v91 fun A36 n36 m36 => HCalls Tryz.prog 35 #[.pointer p3, .int .i64 (IntKind.i64.wrap ((1 : Int) + (Int.tmod (bAnd .i64 x53 (7 : Int)) x54))), .slice A36 n36 m36] H62 fun v92 H63 => DI .i64 v92 fun x55 => W_abacistlaw21_RingPlays.j43 K R13 A2 n2 m2 p3 a1 p4 x5 H63)) ∧ (HCalls Tryz.prog 36 #[.slice A35 n35 m35] H10 fun v93 H64 => DSl v93 fun A37 n37 m37 => Ld H64 (a1.add 1) fun v94 => DI .i64 v94 fun x56 => (x56 ≠ 0 ∧ IntKind.i64 = IntKind.i64 ∧ HCalls Tryz.prog 35 #[.pointer p3, .int .i64 (IntKind.i64.wrap ((1 : Int) + (Int.tmod (bAnd .i64 x53 (7 : Int)) x56))), .slice A37 n37 m37] H64 fun v95 H65 => DI .i64 v95 fun x57 => W_abacistlaw21_RingPlays.j43 K R13 A2 n2 m2 p3 a1 p4 x5 H65))) ∧ (Ld H10 (a1.add 1) fun v96 => DI .i64 v96 fun x58 => (Ld H10 ((⟨b2, 0, none⟩ : Addr).add 1) fun v97 => DI .i64 v97 fun x59 => (x58 ≠ 0 ∧ IntKind.i64 = IntKind.i64 ∧ HCalls Tryz.prog 36 #[.slice A35 n35 m35] H10 fun v98 H66 => DSl v98 fun A38 n38 m38 => HCalls Tryz.prog 35 #[.pointer p3, .int .i64 (IntKind.i64.wrap ((1 : Int) + (Int.tmod (bAnd .i64 x59 (7 : Int)) x58))), .slice A38 n38 m38] H66 fun v99 H67 => DI .i64 v99 fun x60 => W_abacistlaw21_RingPlays.j43 K R13 A2 n2 m2 p3 a1 p4 x5 H67)) ∧ (HCalls Tryz.prog 36 #[.slice A35 n35 m35] H10 fun v100 H68 => DSl v100 fun A39 n39 m39 => Ld H68 ((⟨b2, 0, none⟩ : Addr).add 1) fun v101 => DI .i64 v101 fun x61 => (x58 ≠ 0 ∧ IntKind.i64 = IntKind.i64 ∧ HCalls Tryz.prog 35 #[.pointer p3, .int .i64 (IntKind.i64.wrap ((1 : Int) + (Int.tmod (bAnd .i64 x61 (7 : Int)) x58))), .slice A39 n39 m39] H68 fun v102 H69 => DI .i64 v102 fun x62 => W_abacistlaw21_RingPlays.j43 K R13 A2 n2 m2 p3 a1 p4 x5 H69))) ∧ (HCalls Tryz.prog 36 #[.slice A35 n35 m35] H10 fun v103 H70 => DSl v103 fun A40 n40 m40 => Ld H70 ((⟨b2, 0, none⟩ : Addr).add 1) fun v104 => DI .i64 v104 fun x63 => Ld H70 (a1.add 1) fun v105 => DI .i64 v105 fun x64 => (x64 ≠ 0 ∧ IntKind.i64 = IntKind.i64 ∧ HCalls Tryz.prog 35 #[.pointer p3, .int .i64 (IntKind.i64.wrap ((1 : Int) + (Int.tmod (bAnd .i64 x63 (7 : Int)) x64))), .slice A40 n40 m40] H70 fun v106 H71 => DI .i64 v106 fun x65 => W_abacistlaw21_RingPlays.j43 K R13 A2 n2 m2 p3 a1 p4 x5 H71))) (W_abacistlaw21_RingPlays.j43 K R13 A2 n2 m2 p3 a1 p4 x5 H10))))) (BIf (x6 == (3 : Int)) (Ld H10 ((⟨b2, 0, none⟩ : Addr).add 0) fun v15 => DI .i64 v15 fun x10 => BIf (x10 == (3 : Int)) (BIf (decide (((n4 : Nat) : Int) > (0 : Int))) (ixI (IntKind.i64.wrap (((n4 : Nat) : Int) - (1 : Int))) n4 (NN A4 fun a6 => Ld H10 ((a6.add ((IntKind.i64.wrap (((n4 : Nat) : Int) - (1 : Int))).toNat * 8)).add 0) fun v19 => DI .u64 v19 fun x14 => St H10 ((((⟨b2, 0, none⟩ : Addr).add 2).add 0).add 0) (.int .u64 (IntKind.u64.wrap (x14 + (1 : Int)))) fun H14 => W_abacistlaw21_RingPlays.j24 K R13 A2 n2 m2 p3 a1 p4 x5 (⟨b2, 0, none⟩ : Addr) A4 n4 m4 H14)) (W_abacistlaw21_RingPlays.j24 K R13 A2 n2 m2 p3 a1 p4 x5 (⟨b2, 0, none⟩ : Addr) A4 n4 m4 H10)) (W_abacistlaw21_RingPlays.j24 K R13 A2 n2 m2 p3 a1 p4 x5 (⟨b2, 0, none⟩ : Addr) A4 n4 m4 H10)) (BIf (x6 == (4 : Int)) (NN p3 fun a16 => HCalls Tryz.prog 31 #[.pointer (some (a16.add 7))] H10 fun v31 H25 => W_abacistlaw21_RingPlays.j35 K R13 A2 n2 m2 p3 a1 p4 x5 (⟨b2, 0, none⟩ : Addr) H25) (BIf (x6 == (6 : Int)) (HCalls Tryz.prog 34 #[.pointer p4] H10 fun v41 H33 => DI .i64 v41 fun x26 => BIf (x26 != (0 : Int)) (K (.bool false) H33) (LdA H33 a1 3 fun l22 => HCalls Tryz.prog 25 #[.pointer p3, .agg l22.toArray] H33 fun v45 H37 => DSl v45 fun A18 n18 m18 => HCalls Tryz.prog 24 #[.slice A18 n18 m18] H37 fun v49 H41 => DSl v49 fun A22 n22 m22 => BIf (((n22 : Nat) : Int) != (0 : Int)) (K (.bool false) H41) (W_abacistlaw21_RingPlays.j43 K R13 A2 n2 m2 p3 a1 p4 x5 H41))) (BIf (x6 == (7 : Int)) (Ld H10 ((⟨b2, 0, none⟩ : Addr).add 11) fun v107 => DSl v107 fun A41 n41 m41 => (Ld H10 ((⟨b2, 0, none⟩ : Addr).add 1) fun v108 => DI .i64 v108 fun x66 => (Ld H10 (a1.add 1) fun v109 => DI .i64 v109 fun x67 => (x67 ≠ 0 ∧ IntKind.i64 = IntKind.i64 ∧ HCalls Tryz.prog 36 #[.slice A41 n41 m41] H10 fun v110 H72 => DSl v110 fun A42 n42 m42 => HCalls Tryz.prog 35 #[.pointer p3, .int .i64 (IntKind.i64.wrap ((1 : Int) + (Int.tmod (bAnd .i64 x66 (7 : Int)) x67))), .slice A42 n42 m42] H72 fun v111 H73 => DI .i64 v111 fun x68 => W_abacistlaw21_RingPlays.j43 K R13 A2 n2 m2 p3 a1 p4 x5 H73)) ∧ (HCalls Tryz.prog 36 #[.slice A41 n41 m41] H10 fun v112 H74 => DSl v112 fun A43 n43 m43 => Ld H74 (a1.add 1) fun v113 => DI .i64 v113 fun x69 => (x69 ≠ 0 ∧ IntKind.i64 = IntKind.i64 ∧ HCalls Tryz.prog 35 #[.pointer p3, .int .i64 (IntKind.i64.wrap ((1 : Int) + (Int.tmod (bAnd .i64 x66 (7 : Int)) x69))), .slice A43 n43 m43] H74 fun v114 H75 => DI .i64 v114 fun x70 => W_abacistlaw21_RingPlays.j43 K R13 A2 n2 m2 p3 a1 p4 x5 H75))) ∧ (Ld H10 (a1.add 1) fun v115 => DI .i64 v115 fun x71 => (Ld H10 ((⟨b2, 0, none⟩ : Addr).add 1) fun v116 => DI .i64 v116 fun x72 => (x71 ≠ 0 ∧ IntKind.i64 = IntKind.i64 ∧ HCalls Tryz.prog 36 #[.slice A41 n41 m41] H10 fun v117 H76 => DSl v117 fun A44 n44 m44 => HCalls Tryz.prog 35 #[.pointer p3, .int .i64 (IntKind.i64.wrap ((1 : Int) + (Int.tmod (bAnd .i64 x72 (7 : Int)) x71))), .slice A44 n44 m44] H76 fun v118 H77 => DI .i64 v118 fun x73 => W_abacistlaw21_RingPlays.j43 K R13 A2 n2 m2 p3 a1 p4 x5 H77)) ∧ (HCalls Tryz.prog 36 #[.slice A41 n41 m41] H10 fun v119 H78 => DSl v119 fun A45 n45 m45 => Ld H78 ((⟨b2, 0, none⟩ : Addr).add 1) fun v120 => DI .i64 v120 fun x74 => (x71 ≠ 0 ∧ IntKind.i64 = IntKind.i64 ∧ HCalls Tryz.prog 35 #[.pointer p3, .int .i64 (IntKind.i64.wrap ((1 : Int) + (Int.tmod (bAnd .i64 x74 (7 : Int)) x71))), .slice A45 n45 m45] H78 fun v121 H79 => DI .i64 v121 fun x75 => W_abacistlaw21_RingPlays.j43 K R13 A2 n2 m2 p3 a1 p4 x5 H79))) ∧ (HCalls Tryz.prog 36 #[.slice A41 n41 m41] H10 fun v122 H80 => DSl v122 fun A46 n46 m46 => Ld H80 ((⟨b2, 0, none⟩ : Addr).add 1) fun v123 => DI .i64 v123 fun x76 => Ld H80 (a1.add 1) fun v124 => DI .i64 v124 fun x77 => (x77 ≠ 0 ∧ IntKind.i64 = IntKind.i64 ∧ HCalls Tryz.prog 35 #[.pointer p3, .int .i64 (IntKind.i64.wrap ((1 : Int) + (Int.tmod (bAnd .i64 x76 (7 : Int)) x77))), .slice A46 n46 m46] H80 fun v125 H81 => DI .i64 v125 fun x78 => W_abacistlaw21_RingPlays.j43 K R13 A2 n2 m2 p3 a1 p4 x5 H81))) (W_abacistlaw21_RingPlays.j43 K R13 A2 n2 m2 p3 a1 p4 x5 H10))))))))) (K (.bool true) H)
def W_abacistlaw21_RingPlays (x1 : Int) (A1 : Option Addr) (n1 : Nat) (m1 : Nat) (H : Hp) (K : Value → Hp → Prop) : Prop :=
  HCalls Tryz.prog 19 #[] H fun v1 H1 => DB v1 fun c1 => BIf (!c1) (K (.bool false) H1) (HCalls Tryz.prog 20 #[.slice A1 n1 m1] H1 fun v2 H2 => DB v2 fun c2 => BIf (!c2) (K (.bool true) H2) (HCalls Tryz.prog 21 #[.int .i64 10, .int .i64 32] H2 fun v3 H3 => DP v3 fun p1 => ((5 : Int) ≠ 0 ∧ IntKind.i64 = IntKind.i64 ∧ Nw H3 (.obj (.cells #[.int .i64 0, .int .i64 0, .int .i64 0] 30)) fun b1 H4 => StA H4 (⟨b1, 0, none⟩ : Addr) #[.int .i64 1, .int .i64 (IntKind.i64.wrap ((2 : Int) + (Int.tmod (IntKind.i64.wrap x1) (5 : Int)))), .int .i64 0] 3 fun H5 => BIf p1.isNone (K (.bool false) H5) (LdA H5 (⟨b1, 0, none⟩ : Addr) 3 fun l1 => HCalls Tryz.prog 22 #[.pointer p1, .agg l1.toArray] H5 fun v4 H6 => DTup v4 fun l2 => DCons l2 fun v5 l3 => DP v5 fun p2 => DCons l3 fun v6 l4 => DI .i64 v6 fun x2 => DNil l4 (BIf p2.isNone (K (.bool false) H6) (BIf (x2 != (0 : Int)) (K (.bool false) H6) (QCall Tryz.prog 23 #[.pointer p2] H6 fun v7 => DI .i64 v7 fun x3 => Ld H6 ((⟨b1, 0, none⟩ : Addr).add 1) fun v8 => DI .i64 v8 fun x4 => BIf (x3 != x4) (K (.bool false) H6) ((∃ k, W_abacistlaw21_RingPlays.l13 K k A1 n1 m1 p1 (⟨b1, 0, none⟩ : Addr) p2 (0 : Int) H6)))))))))
def W_abacistlaw21_RingPlays.l13.L (K : Value → Hp → Prop) (k : Nat) : Mid := fun E D H =>
  DG (E.get? 1) fun w1 => DSl w1 fun A2 n2 m2 => eP E 5 fun p3 => eN E 6 fun a1 => eP E 7 fun p4 => eI E 9 .i64 fun x5 => DNilD D (W_abacistlaw21_RingPlays.l13 K k A2 n2 m2 p3 a1 p4 x5 H)
def W_abacistlaw21_RingPlays.l50.L (K : Value → Hp → Prop) (R13 : Option Addr → Nat → Nat → Option Addr → Addr → Option Addr → Int → Hp → Prop) (k : Nat) : Mid := fun E D H =>
  DG (E.get? 1) fun w1 => DSl w1 fun A55 n63 m55 => eP E 5 fun p15 => eN E 6 fun a22 => eP E 7 fun p16 => eI E 9 .i64 fun x84 => DG (E.get? 18) fun w18 => DSl w18 fun A56 n64 m56 => DG (E.get? 21) fun w21 => DSl w21 fun A57 n65 m57 => eI E 26 .i64 fun x85 => DNilD D (W_abacistlaw21_RingPlays.l50 K R13 k A55 n63 m55 p15 a22 p16 x84 A56 n64 m56 A57 n65 m57 x85 H)
def W_abacistlaw21_RingPlays.Λ50 (_ : Value → Hp → Prop) (_R13 : Option Addr → Nat → Nat → Option Addr → Addr → Option Addr → Int → Hp → Prop) (_R50 : Option Addr → Nat → Nat → Option Addr → Addr → Option Addr → Int → Option Addr → Nat → Nat → Option Addr → Nat → Nat → Int → Hp → Prop) : Cuts := Cuts.none (fun i => match Nat.beq i 42 with | true => some ([2, 5, 9], [0, 0, 2, 6, 0, 16, 62, 126, 0, 256, 768, 2047], 0) | false => match Nat.beq i 31 with | true => some ([], [0, 1, 2, 3, 4, 5, 6, 7, 8, 9, 10, 11, 12, 13, 14, 15, 16, 17, 18, 19, 20, 21, 22, 23, 24, 25, 26, 27, 28, 29, 30, 31, 32], 33) | false => none)
def W_abacistlaw21_RingPlays.Λ13 (K : Value → Hp → Prop) (R13 : Option Addr → Nat → Nat → Option Addr → Addr → Option Addr → Int → Hp → Prop) : Cuts := ⟨fun i => match Nat.beq i 49 with | true => some (fun E D H => DG (E.get? 1) fun w1 => DSl w1 fun A52 n60 m52 => eP E 5 fun p13 => eN E 6 fun a21 => eP E 7 fun p14 => eI E 9 .i64 fun x83 => DG (E.get? 18) fun w18 => DSl w18 fun A53 n61 m53 => DG (E.get? 21) fun w21 => DSl w21 fun A54 n62 m54 => DNilD D (W_abacistlaw21_RingPlays.j49 K R13 A52 n60 m52 p13 a21 p14 x83 A53 n61 m53 A54 n62 m54 H)) | false => match Nat.beq i 43 with | true => some (fun E D H => DG (E.get? 1) fun w1 => DSl w1 fun A47 n47 m47 => eP E 5 fun p11 => eN E 6 fun a19 => eP E 7 fun p12 => eI E 9 .i64 fun x79 => DNilD D (W_abacistlaw21_RingPlays.j43 K R13 A47 n47 m47 p11 a19 p12 x79 H)) | false => match Nat.beq i 35 with | true => some (fun E D H => DG (E.get? 1) fun w1 => DSl w1 fun A13 n13 m13 => eP E 5 fun p9 => eN E 6 fun a17 => eP E 7 fun p10 => eI E 9 .i64 fun x20 => eN E 10 fun a18 => DNilD D (W_abacistlaw21_RingPlays.j35 K R13 A13 n13 m13 p9 a17 p10 x20 a18 H)) | false => match Nat.beq i 30 with | true => some (fun E D H => DG (E.get? 1) fun w1 => DSl w1 fun A7 n7 m7 => eP E 5 fun p7 => eN E 6 fun a9 => eP E 7 fun p8 => eI E 9 .i64 fun x17 => eN E 10 fun a10 => DG (E.get? 11) fun w11 => DSl w11 fun A8 n8 m8 => eI E 12 .i64 fun x18 => eI E 13 .i64 fun x19 => DNilD D (W_abacistlaw21_RingPlays.j30 K R13 A7 n7 m7 p7 a9 p8 x17 a10 A8 n8 m8 x18 x19 H)) | false => match Nat.beq i 24 with | true => some (fun E D H => DG (E.get? 1) fun w1 => DSl w1 fun A5 n5 m5 => eP E 5 fun p5 => eN E 6 fun a7 => eP E 7 fun p6 => eI E 9 .i64 fun x15 => eN E 10 fun a8 => DG (E.get? 11) fun w11 => DSl w11 fun A6 n6 m6 => DNilD D (W_abacistlaw21_RingPlays.j24 K R13 A5 n5 m5 p5 a7 p6 x15 a8 A6 n6 m6 H)) | false => none, fun i => match Nat.beq i 50 with | true => some (fun E D H => ∃ k, W_abacistlaw21_RingPlays.l50.L K R13 k E D H) | false => none, (fun i => match Nat.beq i 42 with | true => some ([2, 5, 9], [0, 0, 2, 6, 0, 16, 62, 126, 0, 256, 768, 2047], 0) | false => match Nat.beq i 31 with | true => some ([], [0, 1, 2, 3, 4, 5, 6, 7, 8, 9, 10, 11, 12, 13, 14, 15, 16, 17, 18, 19, 20, 21, 22, 23, 24, 25, 26, 27, 28, 29, 30, 31, 32], 33) | false => none)⟩
def W_abacistlaw21_RingPlays.Λ (K : Value → Hp → Prop) : Cuts := ⟨fun i => none, fun i => match Nat.beq i 13 with | true => some (fun E D H => ∃ k, W_abacistlaw21_RingPlays.l13.L K k E D H) | false => none, (fun i => match Nat.beq i 42 with | true => some ([2, 5, 9], [0, 0, 2, 6, 0, 16, 62, 126, 0, 256, 768, 2047], 0) | false => match Nat.beq i 31 with | true => some ([], [0, 1, 2, 3, 4, 5, 6, 7, 8, 9, 10, 11, 12, 13, 14, 15, 16, 17, 18, 19, 20, 21, 22, 23, 24, 25, 26, 27, 28, 29, 30, 31, 32], 33) | false => none)⟩
theorem W_abacistlaw21_RingPlays.ok (x1 : Int) (A1 : Option Addr) (n1 : Nat) (m1 : Nat) (H : Hp) (K : Value → Hp → Prop) (h : W_abacistlaw21_RingPlays x1 A1 n1 m1 H K) : HCalls Tryz.prog 4 #[.int .u8 x1, .slice A1 n1 m1] H K :=
  hcalls Tryz.func4 rfl (Nat.le_of_ble_eq_true rfl) (hw_safe (Λ := (W_abacistlaw21_RingPlays.Λ K)) mixWabacistlaw21 _ _ _ _ _ (Eq.mp (by kernel_rfl) h) (obs_seq obs_region rfl (obs_seq (obs_seq obs_region rfl (obs_cond (obs_seq obs_region rfl obs_ret) obs_skip)) rfl (obs_seq (obs_seq obs_region rfl (obs_cond (obs_seq obs_region rfl obs_ret) obs_skip)) rfl (obs_seq obs_region rfl (obs_seq obs_region rfl (obs_seq (obs_seq obs_region rfl (obs_cond (obs_seq obs_region rfl obs_ret) obs_skip)) rfl (obs_seq obs_region rfl (obs_seq (obs_seq obs_region rfl (obs_cond (obs_seq obs_region rfl obs_ret) obs_skip)) rfl (obs_seq (obs_seq obs_region rfl (obs_block (obs_loop rfl (fun E D H h => by
      refine Safe.loop' (W_abacistlaw21_RingPlays.l13.L K) (fun E D H h => ?_) (fun k E D H h => ?_) E D H h
      · obtain ⟨w1, e1, g1⟩ := DG.out h; obtain ⟨A2, n2, m2, rfl, g2⟩ := DSl.out g1; obtain ⟨w5, e5, g3⟩ := DG.out g2; obtain ⟨p3, rfl, g4⟩ := DP.out g3; obtain ⟨w6, e6, g5⟩ := DG.out g4; obtain ⟨pw6, rfl, g6⟩ := DP.out g5; obtain ⟨a1, rfl, g7⟩ := NN.out g6; obtain ⟨w7, e7, g8⟩ := DG.out g7; obtain ⟨p4, rfl, g9⟩ := DP.out g8; obtain ⟨w9, e9, g10⟩ := DG.out g9; obtain ⟨x5, rfl, g11⟩ := DI.out g10; obtain ⟨rfl, h'⟩ := DNilD.out g11; exact h'
      · obtain ⟨w1, e1, g1⟩ := DG.out h
        obtain ⟨A2, n2, m2, rfl, g2⟩ := DSl.out g1
        obtain ⟨p3, e5, g4⟩ := GP g2; obtain ⟨a1, e6, g7⟩ := GN g4; obtain ⟨p4, e7, g9⟩ := GP g7; obtain ⟨x5, e9, g11⟩ := GI g9; obtain ⟨rfl, h'⟩ := DNilD.out g11
        exact (hw_safe (Λ := (W_abacistlaw21_RingPlays.Λ13 K (W_abacistlaw21_RingPlays.l13 K k))) mixWabacistlaw21 _ _ [(1, .slice A2 n2 m2), (5, .pointer p3), (6, .pointer (some a1)), (7, .pointer p4), (9, .int .i64 x5)] [] H (Eq.mp (by kernel_rfl) h') (obs_seq (obs_seq obs_region rfl (obs_cond obs_skip obs_exit)) rfl (obs_seq (obs_block (obs_seq obs_region rfl (obs_seq obs_region rfl (obs_seqc (obs_seq obs_region rfl (obs_block (obs_seq (obs_seq obs_region rfl (obs_cond obs_skip (obs_seq obs_region rfl (obs_cond obs_skip (obs_seq obs_region rfl (obs_cond obs_skip obs_region)))))) rfl (obs_cond (obs_seqc (obs_seq obs_region rfl (obs_cond obs_region obs_skip)) rfl (fun E D H h => by
            obtain ⟨w1, e1, g1⟩ := DG.out h
            obtain ⟨A5, n5, m5, rfl, g2⟩ := DSl.out g1
            obtain ⟨p5, e5, g4⟩ := GP g2; obtain ⟨a7, e6, g7⟩ := GN g4; obtain ⟨p6, e7, g9⟩ := GP g7; obtain ⟨x15, e9, g11⟩ := GI g9; obtain ⟨a8, e10, g14⟩ := GN g11; obtain ⟨w11, e11, g15⟩ := DG.out g14
            obtain ⟨A6, n6, m6, rfl, g16⟩ := DSl.out g15
            obtain ⟨rfl, h'⟩ := DNilD.out g16
            exact (hw_safe (Λ := (W_abacistlaw21_RingPlays.Λ13 K (W_abacistlaw21_RingPlays.l13 K k))) mixWabacistlaw21 _ _ [(1, .slice A5 n5 m5), (5, .pointer p5), (6, .pointer (some a7)), (7, .pointer p6), (9, .int .i64 x15), (10, .pointer (some a8)), (11, .slice A6 n6 m6)] [] H (Eq.mp (by kernel_rfl) h') (obs_seq obs_region rfl (obs_seq obs_region rfl (obs_seqc (obs_seq obs_region rfl (obs_cond obs_region (obs_seq obs_region rfl (obs_cond obs_region obs_skip)))) rfl (fun E D H h => by
                obtain ⟨w1, e1, g1⟩ := DG.out h
                obtain ⟨A7, n7, m7, rfl, g2⟩ := DSl.out g1
                obtain ⟨p7, e5, g4⟩ := GP g2; obtain ⟨a9, e6, g7⟩ := GN g4; obtain ⟨p8, e7, g9⟩ := GP g7; obtain ⟨x17, e9, g11⟩ := GI g9; obtain ⟨a10, e10, g14⟩ := GN g11; obtain ⟨w11, e11, g15⟩ := DG.out g14
                obtain ⟨A8, n8, m8, rfl, g16⟩ := DSl.out g15
                obtain ⟨x18, e12, g18⟩ := GI g16; obtain ⟨x19, e13, g20⟩ := GI g18; obtain ⟨rfl, h'⟩ := DNilD.out g20
                exact (hw_safe (Λ := (W_abacistlaw21_RingPlays.Λ13 K (W_abacistlaw21_RingPlays.l13 K k))) mixWabacistlaw21 _ _ [(1, .slice A7 n7 m7), (5, .pointer p7), (6, .pointer (some a9)), (7, .pointer p8), (9, .int .i64 x17), (10, .pointer (some a10)), (11, .slice A8 n8 m8), (12, .int .i64 x18), (13, .int .i64 x19)] [] H (Eq.mp (by kernel_rfl) h') (obs_seq obs_region rfl (obs_seq obs_region rfl (obs_cond (obs_seq obs_region rfl obs_ret) obs_skip)))).weaken (EnvLe.cons e1 (EnvLe.cons e5 (EnvLe.cons e6 (EnvLe.cons e7 (EnvLe.cons e9 (EnvLe.cons e10 (EnvLe.cons e11 (EnvLe.cons e12 (EnvLe.cons e13 (EnvLe.nil _)))))))))) (Hp.le_refl _)))))).weaken (EnvLe.cons e1 (EnvLe.cons e5 (EnvLe.cons e6 (EnvLe.cons e7 (EnvLe.cons e9 (EnvLe.cons e10 (EnvLe.cons e11 (EnvLe.nil _)))))))) (Hp.le_refl _))) (obs_seq obs_region rfl (obs_cond (obs_seqc obs_region rfl (fun E D H h => by
            obtain ⟨w1, e1, g1⟩ := DG.out h
            obtain ⟨A13, n13, m13, rfl, g2⟩ := DSl.out g1
            obtain ⟨p9, e5, g4⟩ := GP g2; obtain ⟨a17, e6, g7⟩ := GN g4; obtain ⟨p10, e7, g9⟩ := GP g7; obtain ⟨x20, e9, g11⟩ := GI g9; obtain ⟨a18, e10, g14⟩ := GN g11; obtain ⟨rfl, h'⟩ := DNilD.out g14
            exact (hw_safe (Λ := (W_abacistlaw21_RingPlays.Λ13 K (W_abacistlaw21_RingPlays.l13 K k))) mixWabacistlaw21 _ _ [(1, .slice A13 n13 m13), (5, .pointer p9), (6, .pointer (some a17)), (7, .pointer p10), (9, .int .i64 x20), (10, .pointer (some a18))] [] H (Eq.mp (by kernel_rfl) h') (obs_seq obs_region rfl (obs_seq obs_region rfl (obs_cond (obs_seq obs_region rfl obs_ret) obs_skip)))).weaken (EnvLe.cons e1 (EnvLe.cons e5 (EnvLe.cons e6 (EnvLe.cons e7 (EnvLe.cons e9 (EnvLe.cons e10 (EnvLe.nil _))))))) (Hp.le_refl _))) (obs_seq obs_region rfl (obs_cond (obs_seq obs_region rfl (obs_cond (obs_seq obs_region rfl obs_ret) obs_skip)) (obs_seq obs_region rfl (obs_cond obs_region obs_skip)))))))))) rfl (fun E D H h => by
            obtain ⟨w1, e1, g1⟩ := DG.out h
            obtain ⟨A47, n47, m47, rfl, g2⟩ := DSl.out g1
            obtain ⟨p11, e5, g4⟩ := GP g2; obtain ⟨a19, e6, g7⟩ := GN g4; obtain ⟨p12, e7, g9⟩ := GP g7; obtain ⟨x79, e9, g11⟩ := GI g9; obtain ⟨rfl, h'⟩ := DNilD.out g11
            exact (hw_safe (Λ := (W_abacistlaw21_RingPlays.Λ13 K (W_abacistlaw21_RingPlays.l13 K k))) mixWabacistlaw21 _ _ [(1, .slice A47 n47 m47), (5, .pointer p11), (6, .pointer (some a19)), (7, .pointer p12), (9, .int .i64 x79)] [] H (Eq.mp (by kernel_rfl) h') (obs_seq obs_region rfl (obs_seq obs_region rfl (obs_seq obs_region rfl (obs_seq obs_region rfl (obs_seqc (obs_seq obs_region rfl (obs_cond (obs_seq obs_region rfl obs_ret) obs_skip)) rfl (fun E D H h => by
                obtain ⟨w1, e1, g1⟩ := DG.out h
                obtain ⟨A52, n60, m52, rfl, g2⟩ := DSl.out g1
                obtain ⟨p13, e5, g4⟩ := GP g2; obtain ⟨a21, e6, g7⟩ := GN g4; obtain ⟨p14, e7, g9⟩ := GP g7; obtain ⟨x83, e9, g11⟩ := GI g9; obtain ⟨w18, e18, g12⟩ := DG.out g11
                obtain ⟨A53, n61, m53, rfl, g13⟩ := DSl.out g12
                obtain ⟨w21, e21, g14⟩ := DG.out g13
                obtain ⟨A54, n62, m54, rfl, g15⟩ := DSl.out g14
                obtain ⟨rfl, h'⟩ := DNilD.out g15
                exact (hw_safe (Λ := (W_abacistlaw21_RingPlays.Λ13 K (W_abacistlaw21_RingPlays.l13 K k))) mixWabacistlaw21 _ _ [(1, .slice A52 n60 m52), (5, .pointer p13), (6, .pointer (some a21)), (7, .pointer p14), (9, .int .i64 x83), (18, .slice A53 n61 m53), (21, .slice A54 n62 m54)] [] H (Eq.mp (by kernel_rfl) h') (obs_seq (obs_seq obs_region rfl (obs_block (obs_loop rfl (fun E D H h => by
                    refine Safe.loop' (W_abacistlaw21_RingPlays.l50.L K (W_abacistlaw21_RingPlays.l13 K k)) (fun E D H h => ?_) (fun k E D H h => ?_) E D H h
                    · obtain ⟨w1, e1, g1⟩ := DG.out h; obtain ⟨A55, n63, m55, rfl, g2⟩ := DSl.out g1; obtain ⟨w5, e5, g3⟩ := DG.out g2; obtain ⟨p15, rfl, g4⟩ := DP.out g3; obtain ⟨w6, e6, g5⟩ := DG.out g4; obtain ⟨pw6, rfl, g6⟩ := DP.out g5; obtain ⟨a22, rfl, g7⟩ := NN.out g6; obtain ⟨w7, e7, g8⟩ := DG.out g7; obtain ⟨p16, rfl, g9⟩ := DP.out g8; obtain ⟨w9, e9, g10⟩ := DG.out g9; obtain ⟨x84, rfl, g11⟩ := DI.out g10; obtain ⟨w18, e18, g12⟩ := DG.out g11; obtain ⟨A56, n64, m56, rfl, g13⟩ := DSl.out g12; obtain ⟨w21, e21, g14⟩ := DG.out g13; obtain ⟨A57, n65, m57, rfl, g15⟩ := DSl.out g14; obtain ⟨w26, e26, g16⟩ := DG.out g15; obtain ⟨x85, rfl, g17⟩ := DI.out g16; obtain ⟨rfl, h'⟩ := DNilD.out g17; exact h'
                    · obtain ⟨w1, e1, g1⟩ := DG.out h
                      obtain ⟨A55, n63, m55, rfl, g2⟩ := DSl.out g1
                      obtain ⟨p15, e5, g4⟩ := GP g2; obtain ⟨a22, e6, g7⟩ := GN g4; obtain ⟨p16, e7, g9⟩ := GP g7; obtain ⟨x84, e9, g11⟩ := GI g9; obtain ⟨w18, e18, g12⟩ := DG.out g11
                      obtain ⟨A56, n64, m56, rfl, g13⟩ := DSl.out g12
                      obtain ⟨w21, e21, g14⟩ := DG.out g13
                      obtain ⟨A57, n65, m57, rfl, g15⟩ := DSl.out g14
                      obtain ⟨x85, e26, g17⟩ := GI g15
                      obtain ⟨rfl, h'⟩ := DNilD.out g17
                      exact (hw_safe (Λ := (W_abacistlaw21_RingPlays.Λ50 K (W_abacistlaw21_RingPlays.l13 K k) (W_abacistlaw21_RingPlays.l50 K (W_abacistlaw21_RingPlays.l13 K k) k))) mixWabacistlaw21 _ _ [(1, .slice A55 n63 m55), (5, .pointer p15), (6, .pointer (some a22)), (7, .pointer p16), (9, .int .i64 x84), (18, .slice A56 n64 m56), (21, .slice A57 n65 m57), (26, .int .i64 x85)] [] H (Eq.mp (by kernel_rfl) h') (obs_seq (obs_seq obs_region rfl (obs_cond obs_skip obs_exit)) rfl (obs_seq (obs_block (obs_seq obs_region rfl (obs_cond (obs_seq obs_region rfl obs_ret) obs_skip))) rfl obs_region))).weaken (EnvLe.cons e1 (EnvLe.cons e5 (EnvLe.cons e6 (EnvLe.cons e7 (EnvLe.cons e9 (EnvLe.cons e18 (EnvLe.cons e21 (EnvLe.cons e26 (EnvLe.nil _))))))))) (Hp.le_refl _))))) rfl (obs_seq obs_region rfl (obs_seq obs_region rfl (obs_cond (obs_seq obs_region rfl obs_ret) obs_skip))))).weaken (EnvLe.cons e1 (EnvLe.cons e5 (EnvLe.cons e6 (EnvLe.cons e7 (EnvLe.cons e9 (EnvLe.cons e18 (EnvLe.cons e21 (EnvLe.nil _)))))))) (Hp.le_refl _)))))))).weaken (EnvLe.cons e1 (EnvLe.cons e5 (EnvLe.cons e6 (EnvLe.cons e7 (EnvLe.cons e9 (EnvLe.nil _)))))) (Hp.le_refl _)))))) rfl obs_region))).weaken (EnvLe.cons e1 (EnvLe.cons e5 (EnvLe.cons e6 (EnvLe.cons e7 (EnvLe.cons e9 (EnvLe.nil _)))))) (Hp.le_refl _))))) rfl (obs_seq obs_region rfl obs_ret)))))))))))
def W_abacistlaw21_awake (H : Hp) (K : Value → Hp → Prop) : Prop :=
  HCalls Tryz.prog 21 #[.int .i64 10, .int .i64 32] H fun v1 H1 => DP v1 fun p1 => BIf p1.isNone (K (.bool false) H1) (HCalls Tryz.prog 22 #[.pointer p1, .agg #[.int .i64 1, .int .i64 3, .int .i64 0]] H1 fun v2 H2 => DTup v2 fun l1 => DCons l1 fun v3 l2 => DP v3 fun p2 => DCons l2 fun v4 l3 => DI .i64 v4 fun x1 => DNil l3 (Nw H2 (.obj (.cells #[.int .u64 0, .int .i64 0, .int .i64 0, .int .i64 0, .int .i64 0, .int .u32 0, .int .u32 0, .int .u32 0] 86)) fun b1 H3 => StA H3 (⟨b1, 0, none⟩ : Addr) #[.int .u64 1, .int .i64 1, .int .i64 2, .int .i64 0, .int .i64 0, .int .u32 1, .int .u32 0, .int .u32 0] 8 fun H4 => BIf p2.isNone (K (.bool false) H4) (BIf (x1 != (0 : Int)) (K (.bool false) H4) (LdA H4 (⟨b1, 0, none⟩ : Addr) 8 fun l4 => HCalls Tryz.prog 26 #[.pointer p2, .agg l4.toArray] H4 fun v5 H5 => DI .i64 v5 fun x2 => BIf (x2 != (0 : Int)) (K (.bool false) H5) (NN p1 fun a1 => HCalls Tryz.prog 31 #[.pointer (some (a1.add 7))] H5 fun v6 H6 => HCalls Tryz.prog 33 #[.pointer p1, .slice none 0 0] H6 fun v7 H7 => DI .i64 v7 fun x3 => HCalls Tryz.prog 32 #[.pointer p2] H7 fun v8 H8 => DTup v8 fun l5 => DCons l5 fun v9 l6 => DA v9 fun y1 => DCons l6 fun v10 l7 => DB v10 fun c1 => DCons l7 fun v11 l8 => DI .i64 v11 fun x4 => DNil l8 (Nw H8 (.obj (.cells #[.int .u64 0, .int .i64 0, .int .i64 0, .int .i64 0, .int .i64 0, .int .u32 0, .int .u32 0, .int .u32 0] 86)) fun b2 H9 => StA H9 (⟨b2, 0, none⟩ : Addr) y1 8 fun H10 => BIf c1 (BIf (x4 == (0 : Int)) (LdA H10 (⟨b2, 0, none⟩ : Addr) 8 fun l9 => LdA H10 (⟨b1, 0, none⟩ : Addr) 8 fun l10 => EqV Tryz.prog .eql 86 (.agg l9.toArray) (.agg l10.toArray) fun c2 => K (.bool c2) H10) (K (.bool false) H10)) (K (.bool false) H10)))))))
theorem W_abacistlaw21_awake.ok (H : Hp) (K : Value → Hp → Prop) (h : W_abacistlaw21_awake H K) : HCalls Tryz.prog 19 #[] H K :=
  hcalls Tryz.func19 rfl (Nat.le_of_ble_eq_true rfl) (hw_safe (Λ := Cuts.none (fun _ => none)) mixWabacistlaw21 _ _ _ _ _ (Eq.mp (by kernel_rfl) h) (obs_none _ _ _ _ _))
def W_abacistlaw21_few.l4 (K : Value → Hp → Prop) : Nat → Option Addr → Nat → Nat → Int → Hp → Prop
  | 0, _, _, _, _, _ => False
  | k + 1, A2, n2, m2, x1, H =>
    let R4 := W_abacistlaw21_few.l4 K k
    BIf (decide (x1 < ((n2 : Nat) : Int))) (ixI x1 n2 (NN A2 fun a1 => Ld H ((a1.add (x1.toNat * 12)).add 10) fun v1 => DSl v1 fun A3 n3 m3 => BIf (decide (((n3 : Nat) : Int) > (20 : Int))) (K (.bool false) H) (ixI x1 n2 (NN A2 fun a2 => Ld H ((a2.add (x1.toNat * 12)).add 11) fun v2 => DSl v2 fun A4 n4 m4 => BIf (decide (((n4 : Nat) : Int) > (100 : Int))) (K (.bool false) H) (R4 A2 n2 m2 (IntKind.i64.wrap (x1 + (1 : Int))) H))))) (K (.bool true) H)
def W_abacistlaw21_few (A1 : Option Addr) (n1 : Nat) (m1 : Nat) (H : Hp) (K : Value → Hp → Prop) : Prop :=
  BIf (decide (((n1 : Nat) : Int) > (30 : Int))) (K (.bool false) H) ((∃ k, W_abacistlaw21_few.l4 K k A1 n1 m1 (0 : Int) H))
def W_abacistlaw21_few.l4.L (K : Value → Hp → Prop) (k : Nat) : Mid := fun E D H =>
  DG (E.get? 0) fun w0 => DSl w0 fun A2 n2 m2 => eI E 3 .i64 fun x1 => DNilD D (W_abacistlaw21_few.l4 K k A2 n2 m2 x1 H)
def W_abacistlaw21_few.Λ4 (_ : Value → Hp → Prop) (_R4 : Option Addr → Nat → Nat → Int → Hp → Prop) : Cuts := Cuts.none (fun _ => none)
def W_abacistlaw21_few.Λ (K : Value → Hp → Prop) : Cuts := ⟨fun i => none, fun i => match Nat.beq i 4 with | true => some (fun E D H => ∃ k, W_abacistlaw21_few.l4.L K k E D H) | false => none, (fun _ => none)⟩
theorem W_abacistlaw21_few.ok (A1 : Option Addr) (n1 : Nat) (m1 : Nat) (H : Hp) (K : Value → Hp → Prop) (h : W_abacistlaw21_few A1 n1 m1 H K) : HCalls Tryz.prog 20 #[.slice A1 n1 m1] H K :=
  hcalls Tryz.func20 rfl (Nat.le_of_ble_eq_true rfl) (hw_safe (Λ := (W_abacistlaw21_few.Λ K)) mixWabacistlaw21 _ _ _ _ _ (Eq.mp (by kernel_rfl) h) (obs_seq obs_region rfl (obs_seq (obs_seq obs_region rfl (obs_cond (obs_seq obs_region rfl obs_ret) obs_skip)) rfl (obs_seq (obs_seq obs_region rfl (obs_block (obs_loop rfl (fun E D H h => by
      refine Safe.loop' (W_abacistlaw21_few.l4.L K) (fun E D H h => ?_) (fun k E D H h => ?_) E D H h
      · obtain ⟨w0, e0, g1⟩ := DG.out h; obtain ⟨A2, n2, m2, rfl, g2⟩ := DSl.out g1; obtain ⟨w3, e3, g3⟩ := DG.out g2; obtain ⟨x1, rfl, g4⟩ := DI.out g3; obtain ⟨rfl, h'⟩ := DNilD.out g4; exact h'
      · obtain ⟨w0, e0, g1⟩ := DG.out h
        obtain ⟨A2, n2, m2, rfl, g2⟩ := DSl.out g1
        obtain ⟨x1, e3, g4⟩ := GI g2
        obtain ⟨rfl, h'⟩ := DNilD.out g4
        exact (hw_safe (Λ := (W_abacistlaw21_few.Λ4 K (W_abacistlaw21_few.l4 K k))) mixWabacistlaw21 _ _ [(0, .slice A2 n2 m2), (3, .int .i64 x1)] [] H (Eq.mp (by kernel_rfl) h') (obs_seq (obs_seq obs_region rfl (obs_cond obs_skip obs_exit)) rfl (obs_seq (obs_block (obs_seq obs_region rfl (obs_cond (obs_seq obs_region rfl obs_ret) obs_skip))) rfl obs_region))).weaken (EnvLe.cons e0 (EnvLe.cons e3 (EnvLe.nil _))) (Hp.le_refl _))))) rfl (obs_seq obs_region rfl obs_ret)))))
def W_abacistlaw21_stands.j10 (K : Value → Hp → Prop) (R3 : Option Addr → Nat → Nat → Option Addr → Nat → Nat → Int → Hp → Prop) (A6 : Option Addr) (n6 : Nat) (m6 : Nat) (A7 : Option Addr) (n7 : Nat) (m7 : Nat) (x8 : Int) (a4 : Addr) (x9 : Int) (H : Hp) : Prop :=
  slB n7 m7 none (some x9) fun n8 n9 => slB n7 m7 (some x9) none fun n10 n11 => (Nw H (.row [] 86 0) fun b2 H4 => (AppK Tryz.prog 86 (.slice (some ⟨b2, 0, none⟩) 0 0) (.slice (slA A7 m7 n8 8) (n9 - n8) (m7 - n8)) H4 fun v8 H5 => DSl v8 fun A8 n12 m8 => LdA H5 a4 8 fun l4 => DCons l4.toArray.toList fun v9 l5 => DI .u64 v9 fun x10 => DCons l5 fun v10 l6 => DI .i64 v10 fun x11 => DCons l6 fun v11 l7 => DI .i64 v11 fun x12 => DCons l7 fun v12 l8 => DI .i64 v12 fun x13 => DCons l8 fun v13 l9 => DI .i64 v13 fun x14 => DCons l9 fun v14 l10 => DI .u32 v14 fun x15 => DCons l10 fun v15 l11 => DI .u32 v15 fun x16 => DCons l11 fun v16 l12 => DI .u32 v16 fun x17 => DNil l12 (Nw H5 (.row [.int .u64 x10, .int .i64 x11, .int .i64 x12, .int .i64 x13, .int .i64 x14, .int .u32 x15, .int .u32 x16, .int .u32 x17] 86 8) fun b3 H6 => AppK Tryz.prog 86 (.slice A8 n12 m8) (.slice (some ⟨b3, 0, none⟩) 1 1) H6 fun v17 H7 => DSl v17 fun A9 n13 m9 => AppK Tryz.prog 86 (.slice A9 n13 m9) (.slice (slA A7 m7 n10 8) (n11 - n10) (m7 - n10)) H7 fun v18 H8 => DSl v18 fun A10 n14 m10 => R3 A6 n6 m6 A10 n14 m10 (IntKind.i64.wrap (x8 + (1 : Int))) H8)) ∧ (LdA H4 a4 8 fun l13 => (AppK Tryz.prog 86 (.slice (some ⟨b2, 0, none⟩) 0 0) (.slice (slA A7 m7 n8 8) (n9 - n8) (m7 - n8)) H4 fun v19 H9 => DSl v19 fun A11 n15 m11 => DCons l13.toArray.toList fun v20 l14 => DI .u64 v20 fun x18 => DCons l14 fun v21 l15 => DI .i64 v21 fun x19 => DCons l15 fun v22 l16 => DI .i64 v22 fun x20 => DCons l16 fun v23 l17 => DI .i64 v23 fun x21 => DCons l17 fun v24 l18 => DI .i64 v24 fun x22 => DCons l18 fun v25 l19 => DI .u32 v25 fun x23 => DCons l19 fun v26 l20 => DI .u32 v26 fun x24 => DCons l20 fun v27 l21 => DI .u32 v27 fun x25 => DNil l21 (Nw H9 (.row [.int .u64 x18, .int .i64 x19, .int .i64 x20, .int .i64 x21, .int .i64 x22, .int .u32 x23, .int .u32 x24, .int .u32 x25] 86 8) fun b4 H10 => AppK Tryz.prog 86 (.slice A11 n15 m11) (.slice (some ⟨b4, 0, none⟩) 1 1) H10 fun v28 H11 => DSl v28 fun A12 n16 m12 => AppK Tryz.prog 86 (.slice A12 n16 m12) (.slice (slA A7 m7 n10 8) (n11 - n10) (m7 - n10)) H11 fun v29 H12 => DSl v29 fun A13 n17 m13 => R3 A6 n6 m6 A13 n17 m13 (IntKind.i64.wrap (x8 + (1 : Int))) H12)) ∧ (DCons l13.toArray.toList fun v30 l22 => DI .u64 v30 fun x26 => DCons l22 fun v31 l23 => DI .i64 v31 fun x27 => DCons l23 fun v32 l24 => DI .i64 v32 fun x28 => DCons l24 fun v33 l25 => DI .i64 v33 fun x29 => DCons l25 fun v34 l26 => DI .i64 v34 fun x30 => DCons l26 fun v35 l27 => DI .u32 v35 fun x31 => DCons l27 fun v36 l28 => DI .u32 v36 fun x32 => DCons l28 fun v37 l29 => DI .u32 v37 fun x33 => DNil l29 (Nw H4 (.row [.int .u64 x26, .int .i64 x27, .int .i64 x28, .int .i64 x29, .int .i64 x30, .int .u32 x31, .int .u32 x32, .int .u32 x33] 86 8) fun b5 H13 => AppK Tryz.prog 86 (.slice (some ⟨b2, 0, none⟩) 0 0) (.slice (slA A7 m7 n8 8) (n9 - n8) (m7 - n8)) H13 fun v38 H14 => DSl v38 fun A14 n18 m14 => AppK Tryz.prog 86 (.slice A14 n18 m14) (.slice (some ⟨b5, 0, none⟩) 1 1) H14 fun v39 H15 => DSl v39 fun A15 n19 m15 => AppK Tryz.prog 86 (.slice A15 n19 m15) (.slice (slA A7 m7 n10 8) (n11 - n10) (m7 - n10)) H15 fun v40 H16 => DSl v40 fun A16 n20 m16 => R3 A6 n6 m6 A16 n20 m16 (IntKind.i64.wrap (x8 + (1 : Int))) H16)))) ∧ (LdA H a4 8 fun l30 => (Nw H (.row [] 86 0) fun b6 H17 => (AppK Tryz.prog 86 (.slice (some ⟨b6, 0, none⟩) 0 0) (.slice (slA A7 m7 n8 8) (n9 - n8) (m7 - n8)) H17 fun v41 H18 => DSl v41 fun A17 n21 m17 => DCons l30.toArray.toList fun v42 l31 => DI .u64 v42 fun x34 => DCons l31 fun v43 l32 => DI .i64 v43 fun x35 => DCons l32 fun v44 l33 => DI .i64 v44 fun x36 => DCons l33 fun v45 l34 => DI .i64 v45 fun x37 => DCons l34 fun v46 l35 => DI .i64 v46 fun x38 => DCons l35 fun v47 l36 => DI .u32 v47 fun x39 => DCons l36 fun v48 l37 => DI .u32 v48 fun x40 => DCons l37 fun v49 l38 => DI .u32 v49 fun x41 => DNil l38 (Nw H18 (.row [.int .u64 x34, .int .i64 x35, .int .i64 x36, .int .i64 x37, .int .i64 x38, .int .u32 x39, .int .u32 x40, .int .u32 x41] 86 8) fun b7 H19 => AppK Tryz.prog 86 (.slice A17 n21 m17) (.slice (some ⟨b7, 0, none⟩) 1 1) H19 fun v50 H20 => DSl v50 fun A18 n22 m18 => AppK Tryz.prog 86 (.slice A18 n22 m18) (.slice (slA A7 m7 n10 8) (n11 - n10) (m7 - n10)) H20 fun v51 H21 => DSl v51 fun A19 n23 m19 => R3 A6 n6 m6 A19 n23 m19 (IntKind.i64.wrap (x8 + (1 : Int))) H21)) ∧ (DCons l30.toArray.toList fun v52 l39 => DI .u64 v52 fun x42 => DCons l39 fun v53 l40 => DI .i64 v53 fun x43 => DCons l40 fun v54 l41 => DI .i64 v54 fun x44 => DCons l41 fun v55 l42 => DI .i64 v55 fun x45 => DCons l42 fun v56 l43 => DI .i64 v56 fun x46 => DCons l43 fun v57 l44 => DI .u32 v57 fun x47 => DCons l44 fun v58 l45 => DI .u32 v58 fun x48 => DCons l45 fun v59 l46 => DI .u32 v59 fun x49 => DNil l46 (Nw H17 (.row [.int .u64 x42, .int .i64 x43, .int .i64 x44, .int .i64 x45, .int .i64 x46, .int .u32 x47, .int .u32 x48, .int .u32 x49] 86 8) fun b8 H22 => AppK Tryz.prog 86 (.slice (some ⟨b6, 0, none⟩) 0 0) (.slice (slA A7 m7 n8 8) (n9 - n8) (m7 - n8)) H22 fun v60 H23 => DSl v60 fun A20 n24 m20 => AppK Tryz.prog 86 (.slice A20 n24 m20) (.slice (some ⟨b8, 0, none⟩) 1 1) H23 fun v61 H24 => DSl v61 fun A21 n25 m21 => AppK Tryz.prog 86 (.slice A21 n25 m21) (.slice (slA A7 m7 n10 8) (n11 - n10) (m7 - n10)) H24 fun v62 H25 => DSl v62 fun A22 n26 m22 => R3 A6 n6 m6 A22 n26 m22 (IntKind.i64.wrap (x8 + (1 : Int))) H25))) ∧ (DCons l30.toArray.toList fun v63 l47 => DI .u64 v63 fun x50 => DCons l47 fun v64 l48 => DI .i64 v64 fun x51 => DCons l48 fun v65 l49 => DI .i64 v65 fun x52 => DCons l49 fun v66 l50 => DI .i64 v66 fun x53 => DCons l50 fun v67 l51 => DI .i64 v67 fun x54 => DCons l51 fun v68 l52 => DI .u32 v68 fun x55 => DCons l52 fun v69 l53 => DI .u32 v69 fun x56 => DCons l53 fun v70 l54 => DI .u32 v70 fun x57 => DNil l54 (Nw H (.row [.int .u64 x50, .int .i64 x51, .int .i64 x52, .int .i64 x53, .int .i64 x54, .int .u32 x55, .int .u32 x56, .int .u32 x57] 86 8) fun b9 H26 => Nw H26 (.row [] 86 0) fun b10 H27 => AppK Tryz.prog 86 (.slice (some ⟨b10, 0, none⟩) 0 0) (.slice (slA A7 m7 n8 8) (n9 - n8) (m7 - n8)) H27 fun v71 H28 => DSl v71 fun A23 n27 m23 => AppK Tryz.prog 86 (.slice A23 n27 m23) (.slice (some ⟨b9, 0, none⟩) 1 1) H28 fun v72 H29 => DSl v72 fun A24 n28 m24 => AppK Tryz.prog 86 (.slice A24 n28 m24) (.slice (slA A7 m7 n10 8) (n11 - n10) (m7 - n10)) H29 fun v73 H30 => DSl v73 fun A25 n29 m25 => R3 A6 n6 m6 A25 n29 m25 (IntKind.i64.wrap (x8 + (1 : Int))) H30)))
def W_abacistlaw21_stands.l8 (K : Value → Hp → Prop) (R3 : Option Addr → Nat → Nat → Option Addr → Nat → Nat → Int → Hp → Prop) : Nat → Option Addr → Nat → Nat → Option Addr → Nat → Nat → Int → Addr → Int → Hp → Prop
  | 0, _, _, _, _, _, _, _, _, _, _ => False
  | k + 1, A4, n4, m4, A5, n5, m5, x4, a2, x5, H =>
    let R8 := W_abacistlaw21_stands.l8 K R3 k
    BIf (decide (x5 < ((n5 : Nat) : Int))) (ixI x5 n5 (NN A5 fun a3 => Ld H ((a3.add (x5.toNat * 8)).add 0) fun v6 => DI .u64 v6 fun x6 => Ld H (a2.add 0) fun v7 => DI .u64 v7 fun x7 => BIf (decide (x6 < x7)) (R8 A4 n4 m4 A5 n5 m5 x4 a2 (IntKind.i64.wrap (x5 + (1 : Int))) H) (W_abacistlaw21_stands.j10 K R3 A4 n4 m4 A5 n5 m5 x4 a2 x5 H))) (W_abacistlaw21_stands.j10 K R3 A4 n4 m4 A5 n5 m5 x4 a2 x5 H)
def W_abacistlaw21_stands.l3 (K : Value → Hp → Prop) : Nat → Option Addr → Nat → Nat → Option Addr → Nat → Nat → Int → Hp → Prop
  | 0, _, _, _, _, _, _, _, _ => False
  | k + 1, A2, n2, m2, A3, n3, m3, x1, H =>
    let R3 := W_abacistlaw21_stands.l3 K k
    BIf (decide (x1 < ((n2 : Nat) : Int))) (ixI x1 n2 (NN A2 fun a1 => Ld H (a1.add (x1.toNat * 1)) fun v1 => DS v1 fun s1 => HCalls Tryz.prog 62 #[.string s1] H fun v2 H1 => DTup v2 fun l1 => DCons l1 fun v3 l2 => DA v3 fun y1 => DCons l2 fun v4 l3 => DI .i64 v4 fun x2 => DNil l3 (Nw H1 (.obj (.cells #[.int .u64 0, .int .i64 0, .int .i64 0, .int .i64 0, .int .i64 0, .int .u32 0, .int .u32 0, .int .u32 0] 86)) fun b1 H2 => StA H2 (⟨b1, 0, none⟩ : Addr) y1 8 fun H3 => BIf (x2 != (0 : Int)) (R3 A2 n2 m2 A3 n3 m3 (IntKind.i64.wrap (x1 + (1 : Int))) H3) (Ld H3 ((⟨b1, 0, none⟩ : Addr).add 0) fun v5 => DI .u64 v5 fun x3 => ((IntKind.u64.wrap ((n2 : Nat) : Int)) ≠ 0 ∧ IntKind.u64 = IntKind.u64 ∧ BIf ((IntKind.i64.wrap (Int.tmod (IntKind.u64.wrap (x3 - (1 : Int))) (IntKind.u64.wrap ((n2 : Nat) : Int)))) != x1) (R3 A2 n2 m2 A3 n3 m3 (IntKind.i64.wrap (x1 + (1 : Int))) H3) ((∃ k, W_abacistlaw21_stands.l8 K R3 k A2 n2 m2 A3 n3 m3 x1 (⟨b1, 0, none⟩ : Addr) (0 : Int) H3))))))) (K (.slice A3 n3 m3) H)
def W_abacistlaw21_stands (A1 : Option Addr) (n1 : Nat) (m1 : Nat) (H : Hp) (K : Value → Hp → Prop) : Prop :=
  (∃ k, W_abacistlaw21_stands.l3 K k A1 n1 m1 none 0 0 (0 : Int) H)
def W_abacistlaw21_stands.l3.L (K : Value → Hp → Prop) (k : Nat) : Mid := fun E D H =>
  DG (E.get? 0) fun w0 => DSl w0 fun A2 n2 m2 => DG (E.get? 3) fun w3 => DSl w3 fun A3 n3 m3 => eI E 4 .i64 fun x1 => DNilD D (W_abacistlaw21_stands.l3 K k A2 n2 m2 A3 n3 m3 x1 H)
def W_abacistlaw21_stands.l8.L (K : Value → Hp → Prop) (R3 : Option Addr → Nat → Nat → Option Addr → Nat → Nat → Int → Hp → Prop) (k : Nat) : Mid := fun E D H =>
  DG (E.get? 0) fun w0 => DSl w0 fun A4 n4 m4 => DG (E.get? 3) fun w3 => DSl w3 fun A5 n5 m5 => eI E 4 .i64 fun x4 => eN E 5 fun a2 => eI E 7 .i64 fun x5 => DNilD D (W_abacistlaw21_stands.l8 K R3 k A4 n4 m4 A5 n5 m5 x4 a2 x5 H)
def W_abacistlaw21_stands.Λ8 (_ : Value → Hp → Prop) (_R3 : Option Addr → Nat → Nat → Option Addr → Nat → Nat → Int → Hp → Prop) (_R8 : Option Addr → Nat → Nat → Option Addr → Nat → Nat → Int → Addr → Int → Hp → Prop) : Cuts := Cuts.none (fun i => match Nat.beq i 10 with | true => some ([], [0, 0, 0, 6, 15, 0, 32, 127, 0, 0, 768, 2047, 4095], 0) | false => none)
def W_abacistlaw21_stands.Λ3 (K : Value → Hp → Prop) (R3 : Option Addr → Nat → Nat → Option Addr → Nat → Nat → Int → Hp → Prop) : Cuts := ⟨fun i => match Nat.beq i 10 with | true => some (fun E D H => DG (E.get? 0) fun w0 => DSl w0 fun A6 n6 m6 => DG (E.get? 3) fun w3 => DSl w3 fun A7 n7 m7 => eI E 4 .i64 fun x8 => eN E 5 fun a4 => eI E 7 .i64 fun x9 => DNilD D (W_abacistlaw21_stands.j10 K R3 A6 n6 m6 A7 n7 m7 x8 a4 x9 H)) | false => none, fun i => match Nat.beq i 8 with | true => some (fun E D H => ∃ k, W_abacistlaw21_stands.l8.L K R3 k E D H) | false => none, (fun i => match Nat.beq i 10 with | true => some ([], [0, 0, 0, 6, 15, 0, 32, 127, 0, 0, 768, 2047, 4095], 0) | false => none)⟩
def W_abacistlaw21_stands.Λ (K : Value → Hp → Prop) : Cuts := ⟨fun i => none, fun i => match Nat.beq i 3 with | true => some (fun E D H => ∃ k, W_abacistlaw21_stands.l3.L K k E D H) | false => none, (fun i => match Nat.beq i 10 with | true => some ([], [0, 0, 0, 6, 15, 0, 32, 127, 0, 0, 768, 2047, 4095], 0) | false => none)⟩
theorem W_abacistlaw21_stands.ok (A1 : Option Addr) (n1 : Nat) (m1 : Nat) (H : Hp) (K : Value → Hp → Prop) (h : W_abacistlaw21_stands A1 n1 m1 H K) : HCalls Tryz.prog 24 #[.slice A1 n1 m1] H K :=
  hcalls Tryz.func24 rfl (Nat.le_of_ble_eq_true rfl) (hw_safe (Λ := (W_abacistlaw21_stands.Λ K)) mixWabacistlaw21 _ _ _ _ _ (Eq.mp (by kernel_rfl) h) (obs_seq obs_region rfl (obs_seq obs_region rfl (obs_seq (obs_seq obs_region rfl (obs_block (obs_loop rfl (fun E D H h => by
      refine Safe.loop' (W_abacistlaw21_stands.l3.L K) (fun E D H h => ?_) (fun k E D H h => ?_) E D H h
      · obtain ⟨w0, e0, g1⟩ := DG.out h; obtain ⟨A2, n2, m2, rfl, g2⟩ := DSl.out g1; obtain ⟨w3, e3, g3⟩ := DG.out g2; obtain ⟨A3, n3, m3, rfl, g4⟩ := DSl.out g3; obtain ⟨w4, e4, g5⟩ := DG.out g4; obtain ⟨x1, rfl, g6⟩ := DI.out g5; obtain ⟨rfl, h'⟩ := DNilD.out g6; exact h'
      · obtain ⟨w0, e0, g1⟩ := DG.out h
        obtain ⟨A2, n2, m2, rfl, g2⟩ := DSl.out g1
        obtain ⟨w3, e3, g3⟩ := DG.out g2
        obtain ⟨A3, n3, m3, rfl, g4⟩ := DSl.out g3
        obtain ⟨x1, e4, g6⟩ := GI g4
        obtain ⟨rfl, h'⟩ := DNilD.out g6
        exact (hw_safe (Λ := (W_abacistlaw21_stands.Λ3 K (W_abacistlaw21_stands.l3 K k))) mixWabacistlaw21 _ _ [(0, .slice A2 n2 m2), (3, .slice A3 n3 m3), (4, .int .i64 x1)] [] H (Eq.mp (by kernel_rfl) h') (obs_seq (obs_seq obs_region rfl (obs_cond obs_skip obs_exit)) rfl (obs_seq (obs_block (obs_seq obs_region rfl (obs_seq (obs_seq obs_region rfl (obs_cond obs_exit obs_skip)) rfl (obs_seq obs_region rfl (obs_seqc (obs_block (obs_loop rfl (fun E D H h => by
            refine Safe.loop' (W_abacistlaw21_stands.l8.L K (W_abacistlaw21_stands.l3 K k)) (fun E D H h => ?_) (fun k E D H h => ?_) E D H h
            · obtain ⟨w0, e0, g1⟩ := DG.out h; obtain ⟨A4, n4, m4, rfl, g2⟩ := DSl.out g1; obtain ⟨w3, e3, g3⟩ := DG.out g2; obtain ⟨A5, n5, m5, rfl, g4⟩ := DSl.out g3; obtain ⟨w4, e4, g5⟩ := DG.out g4; obtain ⟨x4, rfl, g6⟩ := DI.out g5; obtain ⟨w5, e5, g7⟩ := DG.out g6; obtain ⟨pw5, rfl, g8⟩ := DP.out g7; obtain ⟨a2, rfl, g9⟩ := NN.out g8; obtain ⟨w7, e7, g10⟩ := DG.out g9; obtain ⟨x5, rfl, g11⟩ := DI.out g10; obtain ⟨rfl, h'⟩ := DNilD.out g11; exact h'
            · obtain ⟨w0, e0, g1⟩ := DG.out h
              obtain ⟨A4, n4, m4, rfl, g2⟩ := DSl.out g1
              obtain ⟨w3, e3, g3⟩ := DG.out g2
              obtain ⟨A5, n5, m5, rfl, g4⟩ := DSl.out g3
              obtain ⟨x4, e4, g6⟩ := GI g4; obtain ⟨a2, e5, g9⟩ := GN g6; obtain ⟨x5, e7, g11⟩ := GI g9; obtain ⟨rfl, h'⟩ := DNilD.out g11
              exact (hw_safe (Λ := (W_abacistlaw21_stands.Λ8 K (W_abacistlaw21_stands.l3 K k) (W_abacistlaw21_stands.l8 K (W_abacistlaw21_stands.l3 K k) k))) mixWabacistlaw21 _ _ [(0, .slice A4 n4 m4), (3, .slice A5 n5 m5), (4, .int .i64 x4), (5, .pointer (some a2)), (7, .int .i64 x5)] [] H (Eq.mp (by kernel_rfl) h') (obs_seq (obs_seq obs_region rfl (obs_cond obs_skip obs_exit)) rfl (obs_block obs_region))).weaken (EnvLe.cons e0 (EnvLe.cons e3 (EnvLe.cons e4 (EnvLe.cons e5 (EnvLe.cons e7 (EnvLe.nil _)))))) (Hp.le_refl _)))) rfl (fun E D H h => by
            obtain ⟨w0, e0, g1⟩ := DG.out h
            obtain ⟨A6, n6, m6, rfl, g2⟩ := DSl.out g1
            obtain ⟨w3, e3, g3⟩ := DG.out g2
            obtain ⟨A7, n7, m7, rfl, g4⟩ := DSl.out g3
            obtain ⟨x8, e4, g6⟩ := GI g4; obtain ⟨a4, e5, g9⟩ := GN g6; obtain ⟨x9, e7, g11⟩ := GI g9; obtain ⟨rfl, h'⟩ := DNilD.out g11
            exact (hw_safe (Λ := (W_abacistlaw21_stands.Λ3 K (W_abacistlaw21_stands.l3 K k))) mixWabacistlaw21 _ _ [(0, .slice A6 n6 m6), (3, .slice A7 n7 m7), (4, .int .i64 x8), (5, .pointer (some a4)), (7, .int .i64 x9)] [] H (Eq.mp (by kernel_rfl) h') obs_region).weaken (EnvLe.cons e0 (EnvLe.cons e3 (EnvLe.cons e4 (EnvLe.cons e5 (EnvLe.cons e7 (EnvLe.nil _)))))) (Hp.le_refl _))))))) rfl obs_region))).weaken (EnvLe.cons e0 (EnvLe.cons e3 (EnvLe.cons e4 (EnvLe.nil _)))) (Hp.le_refl _))))) rfl (obs_seq obs_region rfl obs_ret)))))
def W_abacistlaw21_slots.l3 (K : Value → Hp → Prop) : Nat → Option Addr → Addr → Option Addr → Nat → Nat → Int → Hp → Prop
  | 0, _, _, _, _, _, _, _ => False
  | k + 1, p2, a1, A1, n1, m1, x4, H =>
    let R3 := W_abacistlaw21_slots.l3 K k
    Ld H (a1.add 1) fun v1 => DI .i64 v1 fun x5 => BIf (decide (x4 < x5)) (Ld H (a1.add 0) fun v2 => DI .i64 v2 fun x6 => HCalls Tryz.prog 63 #[.pointer p2, .int .i64 (IntKind.i64.wrap (x6 + x4))] H fun v3 H2 => DTup v3 fun l1 => DCons l1 fun v4 l2 => DSl v4 fun A2 n2 m2 => DCons l2 fun v5 l3 => DI .i64 v5 fun x7 => DNil l3 (BsK H2 A2 n2 fun s1 => Nw H2 (.row [.string s1] 9 1) fun b2 H3 => AppK Tryz.prog 9 (.slice A1 n1 m1) (.slice (some ⟨b2, 0, none⟩) 1 1) H3 fun v6 H4 => DSl v6 fun A3 n3 m3 => R3 p2 a1 A3 n3 m3 (IntKind.i64.wrap (x4 + (1 : Int))) H4)) (K (.slice A1 n1 m1) H)
def W_abacistlaw21_slots (p1 : Option Addr) (x1 : Int) (x2 : Int) (x3 : Int) (H : Hp) (K : Value → Hp → Prop) : Prop :=
  Nw H (.obj (.cells #[.int .i64 x1, .int .i64 x2, .int .i64 x3] 30)) fun b1 H1 => (∃ k, W_abacistlaw21_slots.l3 K k p1 (⟨b1, 0, none⟩ : Addr) none 0 0 (0 : Int) H1)
def W_abacistlaw21_slots.l3.L (K : Value → Hp → Prop) (k : Nat) : Mid := fun E D H =>
  eP E 0 fun p2 => eN E 3 fun a1 => DG (E.get? 5) fun w5 => DSl w5 fun A1 n1 m1 => eI E 6 .i64 fun x4 => DNilD D (W_abacistlaw21_slots.l3 K k p2 a1 A1 n1 m1 x4 H)
def W_abacistlaw21_slots.Λ3 (_ : Value → Hp → Prop) (_R3 : Option Addr → Addr → Option Addr → Nat → Nat → Int → Hp → Prop) : Cuts := Cuts.none (fun _ => none)
def W_abacistlaw21_slots.Λ (K : Value → Hp → Prop) : Cuts := ⟨fun i => none, fun i => match Nat.beq i 3 with | true => some (fun E D H => ∃ k, W_abacistlaw21_slots.l3.L K k E D H) | false => none, (fun _ => none)⟩
theorem W_abacistlaw21_slots.ok (p1 : Option Addr) (x1 : Int) (x2 : Int) (x3 : Int) (H : Hp) (K : Value → Hp → Prop) (h : W_abacistlaw21_slots p1 x1 x2 x3 H K) : HCalls Tryz.prog 25 #[.pointer p1, .agg #[.int .i64 x1, .int .i64 x2, .int .i64 x3]] H K :=
  hcalls Tryz.func25 rfl (Nat.le_of_ble_eq_true rfl) (hw_safe (Λ := (W_abacistlaw21_slots.Λ K)) mixWabacistlaw21 _ _ _ _ _ (Eq.mp (by kernel_rfl) h) (obs_seq obs_region rfl (obs_seq obs_region rfl (obs_seq (obs_seq obs_region rfl (obs_block (obs_loop rfl (fun E D H h => by
      refine Safe.loop' (W_abacistlaw21_slots.l3.L K) (fun E D H h => ?_) (fun k E D H h => ?_) E D H h
      · obtain ⟨w0, e0, g1⟩ := DG.out h; obtain ⟨p2, rfl, g2⟩ := DP.out g1; obtain ⟨w3, e3, g3⟩ := DG.out g2; obtain ⟨pw3, rfl, g4⟩ := DP.out g3; obtain ⟨a1, rfl, g5⟩ := NN.out g4; obtain ⟨w5, e5, g6⟩ := DG.out g5; obtain ⟨A1, n1, m1, rfl, g7⟩ := DSl.out g6; obtain ⟨w6, e6, g8⟩ := DG.out g7; obtain ⟨x4, rfl, g9⟩ := DI.out g8; obtain ⟨rfl, h'⟩ := DNilD.out g9; exact h'
      · obtain ⟨p2, e0, g2⟩ := GP h
        obtain ⟨a1, e3, g5⟩ := GN g2
        obtain ⟨w5, e5, g6⟩ := DG.out g5
        obtain ⟨A1, n1, m1, rfl, g7⟩ := DSl.out g6
        obtain ⟨x4, e6, g9⟩ := GI g7
        obtain ⟨rfl, h'⟩ := DNilD.out g9
        exact (hw_safe (Λ := (W_abacistlaw21_slots.Λ3 K (W_abacistlaw21_slots.l3 K k))) mixWabacistlaw21 _ _ [(0, .pointer p2), (3, .pointer (some a1)), (5, .slice A1 n1 m1), (6, .int .i64 x4)] [] H (Eq.mp (by kernel_rfl) h') (obs_seq (obs_seq obs_region rfl (obs_cond obs_skip obs_exit)) rfl (obs_seq (obs_block (obs_seq obs_region rfl obs_region)) rfl obs_region))).weaken (EnvLe.cons e0 (EnvLe.cons e3 (EnvLe.cons e5 (EnvLe.cons e6 (EnvLe.nil _))))) (Hp.le_refl _))))) rfl (obs_seq obs_region rfl obs_ret)))))
def W_abacistlaw21_may (A1 : Option Addr) (n1 : Nat) (m1 : Nat) (y1 : Array Value) (H : Hp) (K : Value → Hp → Prop) : Prop :=
  Nw H (.obj (.cells y1 86)) fun b1 H1 => BIf (((n1 : Nat) : Int) == (0 : Int)) (Ld H1 ((⟨b1, 0, none⟩ : Addr).add 0) fun v1 => DI .u64 v1 fun x1 => BIf (x1 == (1 : Int)) (Ld H1 ((⟨b1, 0, none⟩ : Addr).add 1) fun v2 => DI .i64 v2 fun x2 => K (.bool (x2 == (1 : Int))) H1) (K (.bool false) H1)) (ixI (IntKind.i64.wrap (((n1 : Nat) : Int) - (1 : Int))) n1 (NN A1 fun a1 => LdA H1 (a1.add ((IntKind.i64.wrap (((n1 : Nat) : Int) - (1 : Int))).toNat * 8)) 8 fun l1 => LdA H1 (⟨b1, 0, none⟩ : Addr) 8 fun l2 => QCall Tryz.prog 39 #[.agg l1.toArray, .agg l2.toArray] H1 fun v3 => DB v3 fun c1 => K (.bool c1) H1))
theorem W_abacistlaw21_may.ok (A1 : Option Addr) (n1 : Nat) (m1 : Nat) (y1 : Array Value) (H : Hp) (K : Value → Hp → Prop) (h : W_abacistlaw21_may A1 n1 m1 y1 H K) : HCalls Tryz.prog 28 #[.slice A1 n1 m1, .agg y1] H K :=
  hcalls Tryz.func28 rfl (Nat.le_of_ble_eq_true rfl) (hw_safe (Λ := Cuts.none (fun _ => none)) mixWabacistlaw21 _ _ _ _ _ (Eq.mp (by kernel_rfl) h) (obs_none _ _ _ _ _))
def W_abacistlaw21_same.l4 (K : Value → Hp → Prop) : Nat → Option Addr → Nat → Nat → Option Addr → Nat → Nat → Int → Hp → Prop
  | 0, _, _, _, _, _, _, _, _ => False
  | k + 1, A3, n3, m3, A4, n4, m4, x1, H =>
    let R4 := W_abacistlaw21_same.l4 K k
    BIf (decide (x1 < ((n3 : Nat) : Int))) (ixI x1 n3 (NN A3 fun a1 => LdA H (a1.add (x1.toNat * 8)) 8 fun l1 => ixI x1 n4 (NN A4 fun a2 => LdA H (a2.add (x1.toNat * 8)) 8 fun l2 => EqV Tryz.prog .neq 86 (.agg l1.toArray) (.agg l2.toArray) fun c1 => BIf c1 (K (.bool false) H) (R4 A3 n3 m3 A4 n4 m4 (IntKind.i64.wrap (x1 + (1 : Int))) H)))) (K (.bool true) H)
def W_abacistlaw21_same (A1 : Option Addr) (n1 : Nat) (m1 : Nat) (A2 : Option Addr) (n2 : Nat) (m2 : Nat) (H : Hp) (K : Value → Hp → Prop) : Prop :=
  BIf (((n1 : Nat) : Int) != ((n2 : Nat) : Int)) (K (.bool false) H) ((∃ k, W_abacistlaw21_same.l4 K k A1 n1 m1 A2 n2 m2 (0 : Int) H))
def W_abacistlaw21_same.l4.L (K : Value → Hp → Prop) (k : Nat) : Mid := fun E D H =>
  DG (E.get? 0) fun w0 => DSl w0 fun A3 n3 m3 => DG (E.get? 1) fun w1 => DSl w1 fun A4 n4 m4 => eI E 5 .i64 fun x1 => DNilD D (W_abacistlaw21_same.l4 K k A3 n3 m3 A4 n4 m4 x1 H)
def W_abacistlaw21_same.Λ4 (_ : Value → Hp → Prop) (_R4 : Option Addr → Nat → Nat → Option Addr → Nat → Nat → Int → Hp → Prop) : Cuts := Cuts.none (fun _ => none)
def W_abacistlaw21_same.Λ (K : Value → Hp → Prop) : Cuts := ⟨fun i => none, fun i => match Nat.beq i 4 with | true => some (fun E D H => ∃ k, W_abacistlaw21_same.l4.L K k E D H) | false => none, (fun _ => none)⟩
theorem W_abacistlaw21_same.ok (A1 : Option Addr) (n1 : Nat) (m1 : Nat) (A2 : Option Addr) (n2 : Nat) (m2 : Nat) (H : Hp) (K : Value → Hp → Prop) (h : W_abacistlaw21_same A1 n1 m1 A2 n2 m2 H K) : HCalls Tryz.prog 29 #[.slice A1 n1 m1, .slice A2 n2 m2] H K :=
  hcalls Tryz.func29 rfl (Nat.le_of_ble_eq_true rfl) (hw_safe (Λ := (W_abacistlaw21_same.Λ K)) mixWabacistlaw21 _ _ _ _ _ (Eq.mp (by kernel_rfl) h) (obs_seq obs_region rfl (obs_seq (obs_seq obs_region rfl (obs_cond (obs_seq obs_region rfl obs_ret) obs_skip)) rfl (obs_seq (obs_seq obs_region rfl (obs_block (obs_loop rfl (fun E D H h => by
      refine Safe.loop' (W_abacistlaw21_same.l4.L K) (fun E D H h => ?_) (fun k E D H h => ?_) E D H h
      · obtain ⟨w0, e0, g1⟩ := DG.out h; obtain ⟨A3, n3, m3, rfl, g2⟩ := DSl.out g1; obtain ⟨w1, e1, g3⟩ := DG.out g2; obtain ⟨A4, n4, m4, rfl, g4⟩ := DSl.out g3; obtain ⟨w5, e5, g5⟩ := DG.out g4; obtain ⟨x1, rfl, g6⟩ := DI.out g5; obtain ⟨rfl, h'⟩ := DNilD.out g6; exact h'
      · obtain ⟨w0, e0, g1⟩ := DG.out h
        obtain ⟨A3, n3, m3, rfl, g2⟩ := DSl.out g1
        obtain ⟨w1, e1, g3⟩ := DG.out g2
        obtain ⟨A4, n4, m4, rfl, g4⟩ := DSl.out g3
        obtain ⟨x1, e5, g6⟩ := GI g4
        obtain ⟨rfl, h'⟩ := DNilD.out g6
        exact (hw_safe (Λ := (W_abacistlaw21_same.Λ4 K (W_abacistlaw21_same.l4 K k))) mixWabacistlaw21 _ _ [(0, .slice A3 n3 m3), (1, .slice A4 n4 m4), (5, .int .i64 x1)] [] H (Eq.mp (by kernel_rfl) h') (obs_seq (obs_seq obs_region rfl (obs_cond obs_skip obs_exit)) rfl (obs_seq (obs_block (obs_seq obs_region rfl (obs_cond (obs_seq obs_region rfl obs_ret) obs_skip))) rfl obs_region))).weaken (EnvLe.cons e0 (EnvLe.cons e1 (EnvLe.cons e5 (EnvLe.nil _)))) (Hp.le_refl _))))) rfl (obs_seq obs_region rfl obs_ret)))))
def W_abacistlaw21_laid (A1 : Option Addr) (n1 : Nat) (m1 : Nat) (H : Hp) (K : Value → Hp → Prop) : Prop :=
  MkS Tryz.prog 5 (32 : Int) (32 : Int) H fun v1 H1 => DSl v1 fun A2 n2 m2 => CpK Tryz.prog 5 (.slice A2 n2 m2) (.slice A1 n1 m1) H1 fun v2 H2 => DI .i64 v2 fun x1 => K (.slice A2 n2 m2) H2
theorem W_abacistlaw21_laid.ok (A1 : Option Addr) (n1 : Nat) (m1 : Nat) (H : Hp) (K : Value → Hp → Prop) (h : W_abacistlaw21_laid A1 n1 m1 H K) : HCalls Tryz.prog 36 #[.slice A1 n1 m1] H K :=
  hcalls Tryz.func36 rfl (Nat.le_of_ble_eq_true rfl) (hw_safe (Λ := Cuts.none (fun _ => none)) mixWabacistlaw21 _ _ _ _ _ (Eq.mp (by kernel_rfl) h) (obs_none _ _ _ _ _))
end Go.Proofs.YtnknippcbecmeaaGreatDoor.W
end
section
/- law 21: acts; are they few and short. -/
namespace Go.Proofs.YtnknippcbecmeaaGreatDoor.Rng
open Go Go.Hw W Rec Srt Dsk
structure Act where
  k : Int
  i : Int
  r : R
  A : Option Addr
  n : Nat
  m : Nat
  ks : List Bool
  A' : Option Addr
  n' : Nat
  m' : Nat
  b : List UInt8
def actRow (a : Act) : List Value := [.int .i64 a.k, .int .i64 a.i, .int .u64 (a.r.s : Int), .int .i64 a.r.kd, .int .i64 a.r.kk, .int .i64 a.r.dir, .int .i64 a.r.ps, .int .u32 (a.r.ld : Int), .int .u32 (a.r.inp : Int), .int .u32 (a.r.out : Int), .slice a.A a.n a.m, .slice a.A' a.n' a.m']
structure OkA (H : Hp) (a : Act) : Prop where
  n : a.n = a.ks.length
  ks : Cells H a.A (boolVals a.ks)
  n' : a.n' = a.b.length
  b : Cells H a.A' (byteVals a.b)
  i : -9223372036854775808 ≤ a.i ∧ a.i ≤ 9223372036854775807
  wf : a.r.wf
theorem OkA.le {H H' : Hp} {a : Act} (h : OkA H a) (k : H.le H') : OkA H' a := ⟨h.n, h.ks.le k, h.n', h.b.le k, h.i, h.wf⟩
def short (a : Act) : Prop := a.n ≤ 20 ∧ a.n' ≤ 100
theorem few_loop (A : Option Addr) (n m : Nat) (l : List Act) (hl : l.length = n) (hn : n ≤ 1000000) (H : Hp) (hc : CellsS 12 H A (l.map actRow)) :
    ∀ (t j : Nat), j + t = n → (∀ q (hq : q < j) (h : q < l.length), short l[q]) → W_abacistlaw21_few.l4 (fun v H' => H' = H ∧ ∃ c, v = .bool c ∧ (c = true → ∀ a ∈ l, short a)) (t + 1) A n m (j : Int) H
  | 0, j, h, hall => by
    unfold W_abacistlaw21_few.l4
    exact BIf_dneg (by omega) ⟨rfl, true, rfl, fun _ a ha => by
      obtain ⟨q, hq, rfl⟩ := List.getElem_of_mem ha
      exact hall q (by omega) hq⟩
  | t + 1, j, h, hall => by
    unfold W_abacistlaw21_few.l4
    refine BIf_dpos (by omega) ?_
    have hjl : j < l.length := by omega
    have hi : (l.map actRow)[j]? = some (actRow l[j]) := by rw [List.getElem?_map, List.getElem?_eq_getElem hjl]; rfl
    refine hc.rd hi rfl (by rw [List.length_map]; omega) (j := 10) rfl ?_
    simp only [HV]
    by_cases h1 : l[j].n > 20
    · exact BIf_dpos (by omega) ⟨by first | trivial | rfl, false, rfl, fun h => by cases h⟩
    refine BIf_dneg (by omega) ?_
    refine hc.rd hi rfl (by rw [List.length_map]; omega) (j := 11) rfl ?_
    simp only [HV]
    by_cases h2 : l[j].n' > 100
    · exact BIf_dpos (by omega) ⟨by first | trivial | rfl, false, rfl, fun h => by cases h⟩
    refine BIf_dneg (by omega) ?_
    rw [i64w (x := (j : Int) + 1) (by omega) (by omega)]
    refine few_loop A n m l hl hn H hc t (j + 1) (by omega) fun q hq hql => ?_
    by_cases e : q = j
    · subst e; exact ⟨by omega, by omega⟩
    · exact hall q (by omega) hql
theorem few_ok (A : Option Addr) (n m : Nat) (l : List Act) (hl : l.length = n) (H : Hp) (hc : CellsS 12 H A (l.map actRow)) :
    HCalls Tryz.prog 20 #[.slice A n m] H fun v H' => H' = H ∧ ∃ c, v = .bool c ∧ (c = true → n ≤ 30 ∧ ∀ a ∈ l, short a) := by
  by_cases hn : n > 30
  · apply W_abacistlaw21_few.ok
    unfold W_abacistlaw21_few
    exact BIf_dpos (by omega) ⟨rfl, false, rfl, fun h => by cases h⟩
  · have : HCalls Tryz.prog 20 #[.slice A n m] H fun v H' => H' = H ∧ ∃ c, v = .bool c ∧ (c = true → ∀ a ∈ l, short a) := by
      apply W_abacistlaw21_few.ok
      unfold W_abacistlaw21_few
      refine BIf_dneg (by omega) ⟨n + 1, ?_⟩
      exact few_loop A n m l hl (by omega) H hc n 0 (by omega) fun q hq => absurd hq (by omega)
    refine this.mono ?_
    rintro v H' ⟨rfl, c, rfl, h⟩
    exact ⟨rfl, c, rfl, fun hc => ⟨by omega, h hc⟩⟩
end Go.Proofs.YtnknippcbecmeaaGreatDoor.Rng
end
section
/- ring: what stands: laws of the last one. -/
namespace Go.Proofs.YtnknippcbecmeaaGreatDoor.Rng
open Go Go.Hw Rec Srt Dsk
theorem lastR_nil (r : Int × D × List R) : lastR r = none ↔ r.2.2 = [] := by
  unfold lastR
  rw [List.getLast?_eq_none_iff]
  constructor
  · intro h
    have := isort_len (r.2.2.length - 1) r.2.2
    rw [h] at this
    exact List.length_eq_zero_iff.1 this.symm
  · intro h
    rw [h]; rfl
theorem lastR_max {r : Int × D × List R} {q : R} (h : lastR r = some q) : q ∈ r.2.2 ∧ ∀ x ∈ r.2.2, x.s ≤ q.s := by
  unfold lastR at h
  have hp := isort_all r.2.2
  have hs := isort_sorted r.2.2
  generalize isort r.2.2 (r.2.2.length - 1) = l at *
  obtain ⟨p, rfl⟩ := List.getLast?_eq_some_iff.1 h
  refine ⟨hp.mem_iff.1 (by simp), fun x hx => ?_⟩
  have hx2 := hp.mem_iff.2 hx
  rw [List.pairwise_append] at hs
  rcases List.mem_append.1 hx2 with h1 | h1
  · exact hs.2.2 x h1 q (by simp)
  · have : x = q := by simpa using h1
    rw [this]
    exact Nat.le_refl _
theorem lastR_of {r : Int × D × List R} {q : R} (hq : q ∈ r.2.2) (hm : ∀ x ∈ r.2.2, x.s ≤ q.s) (hd : ∀ x ∈ r.2.2, x.s = q.s → x = q) : lastR r = some q := by
  cases h : lastR r with
  | none => rw [(lastR_nil r).1 h] at hq; simp at hq
  | some y =>
    obtain ⟨h1, h2⟩ := lastR_max h
    have := h2 q hq
    have := hm y h1
    rw [hd y h1 (by omega)]
end Go.Proofs.YtnknippcbecmeaaGreatDoor.Rng
end
section
/- ring: what stands in slots, by contents; what an append leaves. -/
namespace Go.Proofs.YtnknippcbecmeaaGreatDoor.Eng
open Go Go.Hw Go.Form Dsk Str Rec Srt Rng
def stC (c : Cn) (f n : Nat) : Nat → Nat → List R
  | 0, _ => []
  | k + 1, i => stand f n (c ((f + i : Nat) : Int)) i ++ stC c f n k (i + 1)
def updC (c : Cn) (k : Nat) (b : List UInt8) : Cn := fun i => if i = (k : Int) then b else c i
def lastC (c : Cn) (f n : Nat) : Option R := lastR (0, (D.fresh 1 32), stC c f n n 0)
theorem lastC_eq {d : D} {e : Int} {c : Cn} {f n : Nat} : lastR (e, d, stC c f n n 0) = lastC c f n := rfl
theorem stC_len (c : Cn) (f n : Nat) : ∀ k i, (stC c f n k i).length ≤ k
  | 0, _ => Nat.le_refl _
  | k + 1, i => by
    have h1 := stC_len c f n k (i + 1)
    have h2 := stand_len f n (c ((f + i : Nat) : Int)) i
    show (stand f n (c ((f + i : Nat) : Int)) i ++ stC c f n k (i + 1)).length ≤ _
    rw [List.length_append]; omega
theorem stC_mem (c : Cn) (f n : Nat) (x : R) : ∀ k i, x ∈ stC c f n k i ↔ ∃ j, i ≤ j ∧ j < i + k ∧ x ∈ stand f n (c ((f + j : Nat) : Int)) j
  | 0, i => by
    constructor
    · intro h; cases h
    · rintro ⟨j, h1, h2, _⟩; omega
  | k + 1, i => by
    show x ∈ _ ++ _ ↔ _
    rw [List.mem_append, stC_mem c f n x k (i + 1)]
    constructor
    · rintro (h | ⟨j, h1, h2, h3⟩)
      · exact ⟨i, Nat.le_refl _, by omega, h⟩
      · exact ⟨j, by omega, by omega, h3⟩
    · rintro ⟨j, h1, h2, h3⟩
      by_cases e : j = i
      · subst e; exact .inl h3
      · exact .inr ⟨j, by omega, by omega, h3⟩
theorem stand_mem {f n : Nat} {bs : List UInt8} {i : Nat} {x : R} : x ∈ stand f n bs i ↔ (takeV bs).2 = 0 ∧ slotN f n x.s = f + i ∧ x = (takeV bs).1 := by
  unfold stand
  split
  · rename_i h
    rw [List.mem_singleton]
    constructor
    · rintro rfl; exact ⟨h.1, h.2, rfl⟩
    · rintro ⟨_, _, h3⟩; exact h3
  · rename_i h
    constructor
    · intro h'; cases h'
    · rintro ⟨h1, h2, rfl⟩; exact absurd ⟨h1, h2⟩ h
theorem slotN_in {f n s : Nat} (hn : 1 ≤ n) : f ≤ slotN f n s ∧ slotN f n s < f + n := by
  have := Nat.mod_lt (s - 1) (show n > 0 by omega)
  unfold slotN; omega
theorem last_upd {c : Cn} {f n size : Nat} (hn : 1 ≤ n) (hsz : 32 ≤ size) (hsec : secB (size : Int) = true) {r : R} (hg : r.good) (hu : r.u32) (hm : mayB (lastC c f n) r = true) :
    lastC (updC c (slotN f n r.s) (r.form size)) f n = some r := by
  have hsl := slotN_in (f := f) (s := r.s) hn
  have ht := takeV_form r hg hu hsz hsec
  have hstand : ∀ j, j < n → ∀ x, x ∈ stand f n (updC c (slotN f n r.s) (r.form size) ((f + j : Nat) : Int)) j → x = r ∨ x ∈ stC c f n n 0 := fun j hj x hx => by
    unfold updC at hx
    by_cases e : ((f + j : Nat) : Int) = (slotN f n r.s : Nat)
    · rw [if_pos e, stand_mem, ht] at hx
      exact .inl hx.2.2
    · rw [if_neg e] at hx
      exact .inr ((stC_mem c f n x n 0).2 ⟨j, Nat.zero_le _, by omega, hx⟩)
  have hless : ∀ x ∈ stC c f n n 0, x.s < r.s := fun x hx => by
    unfold mayB at hm
    cases hq : lastC c f n with
    | none =>
      have e : stC c f n n 0 = [] := (lastR_nil _).1 hq
      rw [e] at hx
      cases hx
    | some q =>
      rw [hq] at hm
      have ha : after q r := of_decide_eq_true hm
      have := (lastR_max hq).2 x hx
      have := ha.2.2.1
      omega
  refine lastR_of (q := r) ?_ (fun x hx => ?_) fun x hx e => ?_
  · refine (stC_mem _ f n r n 0).2 ⟨slotN f n r.s - f, Nat.zero_le _, by omega, ?_⟩
    rw [show f + (slotN f n r.s - f) = slotN f n r.s by omega, stand_mem]
    unfold updC
    rw [if_pos rfl, ht]
    exact ⟨rfl, by omega, rfl⟩
  · obtain ⟨j, _, h2, h3⟩ := (stC_mem _ f n x n 0).1 hx
    rcases hstand j (by omega) x h3 with e | e
    · rw [e]; exact Nat.le_refl _
    · exact Nat.le_of_lt (hless x e)
  · obtain ⟨j, _, h2, h3⟩ := (stC_mem _ f n x n 0).1 hx
    rcases hstand j (by omega) x h3 with e' | e'
    · exact e'
    · have := hless x e'; omega
end Go.Proofs.YtnknippcbecmeaaGreatDoor.Eng
end
section
/- The transform's sums, in the field of P elements: a stage, back again, by rows and columns. -/
namespace Go.Proofs.YtnknippcbecmeaaGreatDoor.Fft
abbrev Zp := Fin 18446744069414584321
def pw (x : Zp) : Nat → Zp
  | 0 => 1
  | n + 1 => pw x n * x
def sm (f : Nat → Zp) : Nat → Zp
  | 0 => 0
  | n + 1 => sm f n + f n
def dft (w : Zp) (n : Nat) (l : Nat → Zp) (j : Nat) : Zp := sm (fun i => l i * pw w (i * j)) n
def rv : Nat → Nat → Nat
  | 0, _ => 0
  | k + 1, x => x % 2 * 2 ^ k + rv k (x / 2)
def nn : Nat → Zp
  | 0 => 0
  | n + 1 => nn n + 1
def rt (k : Nat) : Zp := pw 7 (18446744069414584320 / 2 ^ k)
def rtd (d : Bool) (k : Nat) : Zp := match d with | false => rt k | true => pw (rt k) (2 ^ k - 1)
def zp (a : Nat) : Zp := Fin.ofNat _ a
def zw (w : UInt64) : Zp := zp w.toNat
def uw (z : Zp) : UInt64 := UInt64.ofNat z.val
def at' (l : List UInt64) (i : Nat) : Zp := zw (l.getD i 0)
end Go.Proofs.YtnknippcbecmeaaGreatDoor.Fft
end
section
/- Places turned about; a stage, place by place. -/
namespace Go.Proofs.YtnknippcbecmeaaGreatDoor.Fft
def dftL (d : Bool) (k : Nat) (l : List UInt64) : List UInt64 := (List.range (2 ^ k)).map fun j => uw (dft (rtd d k) (2 ^ k) (at' l) j)
end Go.Proofs.YtnknippcbecmeaaGreatDoor.Fft
end
section
/- Formulas of functions, printed by wip/tools/hwp.py. -/
namespace Go.Proofs.YtnknippcbecmeaaGreatDoor.W
open Go Go.Hw
end Go.Proofs.YtnknippcbecmeaaGreatDoor.W
end
section
/- Formulas of functions, printed by wip/tools/hwp.py. -/
namespace Go.Proofs.YtnknippcbecmeaaGreatDoor.W
open Go Go.Hw
end Go.Proofs.YtnknippcbecmeaaGreatDoor.W
end
section
/- Formulas of functions, printed by wip/tools/hwp.py. -/
namespace Go.Proofs.YtnknippcbecmeaaGreatDoor.W
open Go Go.Hw
end Go.Proofs.YtnknippcbecmeaaGreatDoor.W
end
section
/- Powers of two, shapes: root.Fits, shape.Good, shape.Size, and the document's answers. -/
namespace Go.Proofs.YtnknippcbecmeaaGreatDoor.Shp
open Go Go.Hw W
def db (i : Nat) : Nat := 285870213051353865 * 2 ^ i % 18446744073709551616 / 288230376151711744
def tab64 : List Nat := (List.range 64).map fun j => ((List.range 64).find? fun i => db i == j).getD 0
def tabV : List Value := tab64.map fun (n : Nat) => Value.int .u8 (n : Int)
def T64 (H : Hp) : Prop := Cells H (some ⟨1, 0, none⟩) tabV
theorem T64.le {H H' : Hp} (h : T64 H) (k : H.le H') : T64 H' := Cells.le h k
end Go.Proofs.YtnknippcbecmeaaGreatDoor.Shp
end
section
/- Formulas of functions, printed by wip/tools/hwp.py. -/
namespace Go.Proofs.YtnknippcbecmeaaGreatDoor.W
open Go Go.Hw
end Go.Proofs.YtnknippcbecmeaaGreatDoor.W
end
section
/- Formulas of functions, printed by wip/tools/hwp.py. -/
namespace Go.Proofs.YtnknippcbecmeaaGreatDoor.W
open Go Go.Hw
end Go.Proofs.YtnknippcbecmeaaGreatDoor.W
end
section
/- Formulas of functions, printed by wip/tools/hwp.py. -/
namespace Go.Proofs.YtnknippcbecmeaaGreatDoor.W
open Go Go.Hw
end Go.Proofs.YtnknippcbecmeaaGreatDoor.W
end
section
/- gold: the field's words; the reference's. -/
namespace Go.Proofs.YtnknippcbecmeaaGreatDoor.Gol
open Go Go.Hw W
theorem shr32 {x : Nat} : shrI .u64 (x : Int) 32 = ((x / 4294967296 : Nat) : Int) := by
  rw [shrN (k := .u64) (a := x) (i := 32) (n := 32) rfl (by decide)]
end Go.Proofs.YtnknippcbecmeaaGreatDoor.Gol
end
section
/- gold: Pow, Neg, Sub, Inv, Div; the reference's Of, Add, Mul, Pow. -/
namespace Go.Proofs.YtnknippcbecmeaaGreatDoor.Gol
open Go Go.Hw W
end Go.Proofs.YtnknippcbecmeaaGreatDoor.Gol
end
section
/- Formulas of functions, printed by wip/tools/hwp.py. -/
namespace Go.Proofs.YtnknippcbecmeaaGreatDoor.W
open Go Go.Hw
end Go.Proofs.YtnknippcbecmeaaGreatDoor.W
end
section
/- rev: places turned about; rows turned. -/
namespace Go.Proofs.YtnknippcbecmeaaGreatDoor.Ker
open Go Go.Hw W Shp Gol Fft
section
variable {R : As} {A : Option Addr} {n m k : Nat} {l : List UInt64}
end
end Go.Proofs.YtnknippcbecmeaaGreatDoor.Ker
end
section
/- Formulas of functions, printed by wip/tools/hwp.py. -/
namespace Go.Proofs.YtnknippcbecmeaaGreatDoor.W
open Go Go.Hw
end Go.Proofs.YtnknippcbecmeaaGreatDoor.W
end
section
/- root, twid: roots, their powers; words scaled, and by twiddles. -/
namespace Go.Proofs.YtnknippcbecmeaaGreatDoor.Ker
open Go Go.Hw W Shp Gol Fft
def pwsL (z : Zp) (n : Nat) : List UInt64 := (List.range n).map fun i => uw (pw z i)
def sclL (z : Zp) (l : List UInt64) : List UInt64 := l.map fun x => uw (zw x * z)
end Go.Proofs.YtnknippcbecmeaaGreatDoor.Ker
end
section
/- Formulas of functions, printed by wip/tools/hwp.py. -/
namespace Go.Proofs.YtnknippcbecmeaaGreatDoor.W
open Go Go.Hw
end Go.Proofs.YtnknippcbecmeaaGreatDoor.W
end
section
/- twid: a row's twiddles; kern2: a stage. -/
namespace Go.Proofs.YtnknippcbecmeaaGreatDoor.Ker
open Go Go.Hw W Shp Gol Fft
def tileN (z : Zp) (l : List UInt64) (n : Nat) : List UInt64 := (List.range n).map fun c => uw (at' l c * pw z c)
def tileL (z : Zp) (l : List UInt64) : List UInt64 := tileN z l l.length
section
variable {R TT : As} {A : Option Addr} {n m k r : Nat} {l : List UInt64}
end
section
variable {w : Zp} {k : Nat} {l : Nat → Zp} {s : Nat} {b off mm n m n2 m2 : Nat} {xs : List Value} {e : TypeId} {R : As} {A : Option Addr}
end
end Go.Proofs.YtnknippcbecmeaaGreatDoor.Ker
end
section
/- kern2: New, Plain. -/
namespace Go.Proofs.YtnknippcbecmeaaGreatDoor.Ker
open Go Go.Hw W Shp Gol Fft
def knC (A0 A1 : Option Addr) (h : Nat) (sh : Int) (k : Nat) : Array Value := #[.slice A0 h h, .slice A1 h h, .int .u64 sh, .int .i64 (k : Int)]
def KnT (kp k : Nat) (x : Option Addr × Option Addr × Int) : As := fun H => H kp = some (.obj (.cells (knC x.1 x.2.1 (2 ^ (k - 1)) x.2.2 k) 262)) ∧ Cells H x.1 (wordVals (pwsL (rtd false k) (2 ^ (k - 1)))) ∧ Cells H x.2.1 (wordVals (pwsL (rtd true k) (2 ^ (k - 1))))
def pick (x : Option Addr × Option Addr × Int) (d : Bool) : Option Addr := if d = true then x.2.1 else x.1
theorem KnT.cells {kp k : Nat} {x : Option Addr × Option Addr × Int} {H : Hp} (h : KnT kp k x H) (d : Bool) : Cells H (pick x d) (wordVals (pwsL (rtd d k) (2 ^ (k - 1)))) := by
  cases d
  · exact h.2.1
  · exact h.2.2
section
variable {TT : As} {kp k b off mm n m : Nat} {l : List UInt64} {xs : List Value} {e : TypeId} {d : Bool}
end
end Go.Proofs.YtnknippcbecmeaaGreatDoor.Ker
end
section
/- Formulas of functions, printed by wip/tools/hwp.py. -/
namespace Go.Proofs.YtnknippcbecmeaaGreatDoor.W
open Go Go.Hw
end Go.Proofs.YtnknippcbecmeaaGreatDoor.W
end
section
/- turn: the band that has room. -/
namespace Go.Proofs.YtnknippcbecmeaaGreatDoor.Trn
open Go Go.Hw W Shp
end Go.Proofs.YtnknippcbecmeaaGreatDoor.Trn
end
section
/- crc.Join, crc.Sum; the law CrcJoins. -/
namespace Go.Proofs.YtnknippcbecmeaaGreatDoor.CrcP
open Go Go.Hw Go.Crc Go.Form W
def bitM (i : Nat) : W32 := if i = 0 then poly else 1#32 <<< (i - 1)
def Rep (m : Nat → W32) (f : W32 → W32) : Prop := Lin f ∧ ∀ i, i < 32 → m i = f (1#32 <<< i)
theorem Rep.bit : Rep bitM bit1 := ⟨lin_bit1, by
  have : (List.range 32).all (fun i => bitM i == bit1 (1#32 <<< i)) = true := by decide +kernel
  intro i hi
  have := List.all_eq_true.1 this i (by simpa using hi)
  simpa using this⟩
end Go.Proofs.YtnknippcbecmeaaGreatDoor.CrcP
end
section
/- crc.Counter; the law CrcCounts. -/
namespace Go.Proofs.YtnknippcbecmeaaGreatDoor.CrcP
open Go Go.Hw Go.Crc Go.Form W
def counter (s : W32) (n : Nat) : AO := .obj (.cells #[.int .u32 (s.toNat : Int), .int .i64 (n : Int)] 182)
section
variable (A1 A2 : Option Addr) (n1 m1 n2 m2 : Nat) (ps : List (Option Addr × Nat × Nat × List UInt8)) (ws : List (Option Addr × Nat × Nat × List UInt64)) (H0 : Hp) (c : Nat)
end
end Go.Proofs.YtnknippcbecmeaaGreatDoor.CrcP
end
section
/- turn: a counter within a struct; gathering a band's columns. -/
namespace Go.Proofs.YtnknippcbecmeaaGreatDoor.CrcP
open Go Go.Hw Go.Crc Go.Form W
section
variable {L : List As} {H : Hp}
end
end Go.Proofs.YtnknippcbecmeaaGreatDoor.CrcP
namespace Go.Proofs.YtnknippcbecmeaaGreatDoor.Trn
open Go Go.Hw Go.Crc Go.Form W Shp Str Dsk Are
structure Fil (F : Nat → Nat → UInt64) (rows b i k : Nat) (ws : List UInt64) : Prop where
  len : ws.length = b * rows
  got : ∀ k' i', k' < b → i' < rows → (i' < i ∨ (i' = i ∧ k' < k)) → ws[k' * rows + i']? = some (F i' k')
theorem Fil.all {F : Nat → Nat → UInt64} {rows b : Nat} {ws : List UInt64} (hr : 0 < rows) (h : Fil F rows b rows 0 ws) : ws = (List.range (b * rows)).map fun j => F (j % rows) (j / rows) := by
  apply List.ext_getElem?
  intro j
  by_cases hj : j < b * rows
  · have hd : j / rows < b := by rw [Nat.div_lt_iff_lt_mul hr]; exact hj
    have hm := Nat.mod_lt j hr
    have := h.got (j / rows) (j % rows) hd hm (.inl hm)
    rw [Nat.mul_comm, Nat.div_add_mod] at this
    rw [this, List.getElem?_map, List.getElem?_range hj]; rfl
  · rw [List.getElem?_eq_none (by rw [h.len]; omega), List.getElem?_eq_none (by simp; omega)]
section
variable {rn p q dp ap bn bb rl : Nat} {s : W32} {sk : Nat} {x : X} {ea eb j : Nat} {cap peak : Int} {bufs : List (Nat × Nat × Option Addr)} {mb mr : Nat}
end
end Go.Proofs.YtnknippcbecmeaaGreatDoor.Trn
end
section
/- stream: what written words leave. -/
namespace Go.Proofs.YtnknippcbecmeaaGreatDoor.Str
open Go Go.Hw Go.Form W Dsk Are
end Go.Proofs.YtnknippcbecmeaaGreatDoor.Str
end
section
/- turn: lay, Run. -/
namespace Go.Proofs.YtnknippcbecmeaaGreatDoor.Str
open Go Go.Hw Go.Form W Dsk Are
theorem On.prog {S : Int → Prop} {d d' : D} {r w : Nat} {x : X} (hx : On d x) (h : Prog S d d' r w) : On d' x := ⟨hx.w1, hx.s1, by rw [h.sec]; exact hx.fit, by rw [h.per]; exact hx.room⟩
end Go.Proofs.YtnknippcbecmeaaGreatDoor.Str
namespace Go.Proofs.YtnknippcbecmeaaGreatDoor.Trn
open Go Go.Hw Go.Crc Go.Form W Shp Str Dsk Are
section
variable {rn p q dp ap bn bb rl : Nat} {s : W32} {sk : Nat} {x y : X} {ea eb j : Nat} {cap peak : Int} {bufs : List (Nat × Nat × Option Addr)} {mb mr : Nat}
end
end Go.Proofs.YtnknippcbecmeaaGreatDoor.Trn
end
section
/- Formulas of functions, printed by wip/tools/hwp.py. -/
namespace Go.Proofs.YtnknippcbecmeaaGreatDoor.W
open Go Go.Hw
end Go.Proofs.YtnknippcbecmeaaGreatDoor.W
end
section
/- pass: a row. -/
namespace Go.Proofs.YtnknippcbecmeaaGreatDoor.Pas
open Go Go.Hw W Shp Gol Fft Ker
structure J where
  ea : Nat
  eb : Nat
  d : Bool
  tw : Int
  sh : UInt64
def J.a (j : J) : Array Value := #[.int .i64 ((2 ^ j.ea : Nat) : Int), .int .i64 ((2 ^ j.eb : Nat) : Int), .int .i64 (if j.d = true then 1 else 0), .int .i64 j.tw, .int .u64 (j.sh.toNat : Int)]
def twL (j : J) (r : Nat) (l : List UInt64) : List UInt64 := if 0 ≤ j.tw then tileL (pw (rtd j.d j.tw.toNat) r) l else l
def rowP (j : J) (r : Nat) (l : List UInt64) : List UInt64 := sclL (zw j.sh) (twL j r (dftL j.d j.eb l))
section
variable {TT : As} {kp b off mm n m rn r : Nat} {s : Crc.W32} {sk : Nat} {j : J} {l : List UInt64} {xs : List Value} {e : TypeId}
end
end Go.Proofs.YtnknippcbecmeaaGreatDoor.Pas
end
section
/- pass: a batch of rows. -/
namespace Go.Proofs.YtnknippcbecmeaaGreatDoor.Pas
open Go Go.Hw Go.Crc Go.Form W Shp Gol Fft Ker Str Dsk Are Trn
section
variable {TT : As} {kp rn p q dp ap bb mb : Nat} {s : W32} {sk : Nat} {j : J} {x y : X} {cap peak : Int} {bufs : List (Nat × Nat × Option Addr)}
end
end Go.Proofs.YtnknippcbecmeaaGreatDoor.Pas
end
section
/- turn: Run. -/
namespace Go.Proofs.YtnknippcbecmeaaGreatDoor.Trn
open Go Go.Hw Go.Crc Go.Form W Shp Str Dsk Are
section
variable {p q dp ap : Nat} {x y : X} {cap peak : Int} {bufs : List (Nat × Nat × Option Addr)} {TT : As}
end
end Go.Proofs.YtnknippcbecmeaaGreatDoor.Trn
end
section
/- pass: the greatest batch; what is wrong with a pass. -/
namespace Go.Proofs.YtnknippcbecmeaaGreatDoor.Pas
open Go Go.Hw Go.Crc Go.Form W Shp Gol Fft Ker Str Dsk Are Trn
section
variable {L : List As} {H : Hp} {p q dp ap ap' : Nat} {x y : X}
end
end Go.Proofs.YtnknippcbecmeaaGreatDoor.Pas
end
section
/- pass: Run. -/
namespace Go.Proofs.YtnknippcbecmeaaGreatDoor.Pas
open Go Go.Hw Go.Crc Go.Form W Shp Gol Fft Ker Str Dsk Are Trn
section
variable {p q dp ap rn bn bb bn2 bb2 sb v2 v3 kp : Nat} {x y : X} {cap peak : Int} {bufs : List (Nat × Nat × Option Addr)} {TT : As} {j : J} {mb : Nat}
end
end Go.Proofs.YtnknippcbecmeaaGreatDoor.Pas
end
section
/- pass: Run, whole; where it can't. -/
namespace Go.Proofs.YtnknippcbecmeaaGreatDoor.Pas
open Go Go.Hw Go.Crc Go.Form W Shp Gol Fft Ker Str Dsk Are Trn
section
variable {p q dp ap : Nat} {x y : X} {cap peak : Int} {bufs : List (Nat × Nat × Option Addr)} {L : List As} {H : Hp} {TT : As} {j : J}
end
end Go.Proofs.YtnknippcbecmeaaGreatDoor.Pas
end
section
/- The law StreamCosts. -/
namespace Go.Proofs.YtnknippcbecmeaaGreatDoor.Str
open Go Go.Hw Go.Form W Dsk Are
end Go.Proofs.YtnknippcbecmeaaGreatDoor.Str
end
section
/- Law 22: a pair of pipes, a pipe's words, and the law's first look. -/
namespace Go.Proofs.YtnknippcbecmeaaGreatDoor.Trn
open Go Go.Hw Go.Crc Go.Form W Shp Str Dsk Are
structure MadeD (d : D) (k n : Nat) : Prop where
  ok : Ok d
  down : d.down = false
  fuse : d.fuse = 0
  cnt : d.rd ≤ 100000000 ∧ d.wr ≤ 100000000
  sec : d.sec = 2 * k + 1
  size : d.size = 32
theorem MadeD.prog {S : Int → Prop} {d d' : D} {k n r w : Nat} (h : MadeD d k n) (hp : Prog S d d' r w) (hc : d'.rd ≤ 100000000 ∧ d'.wr ≤ 100000000) : MadeD d' k n :=
  ⟨hp.ok, hp.down, by rw [hp.fuse, h.fuse]; omega, hc, by rw [hp.sec, h.sec], by rw [hp.size, h.size]⟩
section
variable {A : Option Addr} {n m : Nat} {R : As}
end
end Go.Proofs.YtnknippcbecmeaaGreatDoor.Trn
end
section
/- Law 22: a turn of a pair, and the law's first look. -/
namespace Go.Proofs.YtnknippcbecmeaaGreatDoor.Trn
open Go Go.Hw Go.Crc Go.Form W Shp Str Dsk Are
section
variable {p q dp ap : Nat} {x y : X} {cap peak : Int} {TT : As}
end
end Go.Proofs.YtnknippcbecmeaaGreatDoor.Trn
end
section
/- turn.Run where it can't; the reference's Transpose. -/
namespace Go.Proofs.YtnknippcbecmeaaGreatDoor.Trn
open Go Go.Hw Go.Crc Go.Form W Shp Str Dsk Are
section
variable {p q dp ap : Nat} {x y : X} {cap peak : Int} {bufs : List (Nat × Nat × Option Addr)} {L : List As} {H : Hp}
end
end Go.Proofs.YtnknippcbecmeaaGreatDoor.Trn
end
section
/- turn.Cost: so many reads, so many writes. -/
namespace Go.Proofs.YtnknippcbecmeaaGreatDoor.Trn
open Go Go.Hw Go.Crc Go.Form W Shp Str Dsk Are
def m1 (q : Nat) : Nat := if 1 < q then q else 1
end Go.Proofs.YtnknippcbecmeaaGreatDoor.Trn
end
section
/- pass: Cost; a pass of a pair; the law's first look. -/
namespace Go.Proofs.YtnknippcbecmeaaGreatDoor.Pas
open Go Go.Hw Go.Crc Go.Form W Shp Gol Fft Ker Str Dsk Are Trn
section
variable {p q dp ap : Nat} {x y : X} {cap peak : Int} {TT : As} {j : J}
end
end Go.Proofs.YtnknippcbecmeaaGreatDoor.Pas
end
section
/- Formulas of functions, printed by wip/tools/hwp.py. -/
namespace Go.Proofs.YtnknippcbecmeaaGreatDoor.W
open Go Go.Hw
end Go.Proofs.YtnknippcbecmeaaGreatDoor.W
end
section
/- The law PassBack. -/
namespace Go.Proofs.YtnknippcbecmeaaGreatDoor.Pas
open Go Go.Hw Go.Crc Go.Form W Shp Gol Fft Ker Str Dsk Are Trn
section
variable {R : As} {A : Option Addr} {n m : Nat} {l : List UInt64}
end
end Go.Proofs.YtnknippcbecmeaaGreatDoor.Pas
end
section
/- The reference's transform, and what law 23 wants. -/
namespace Go.Proofs.YtnknippcbecmeaaGreatDoor.Pas
open Go Go.Hw Go.Crc Go.Form W Shp Gol Fft Ker Str Dsk Are Trn
section
variable {R : As} {A : Option Addr} {n m k : Nat} {l : List UInt64} {L : List As}
end
section
variable {R : As} {A : Option Addr} {n m b1 : Nat} {l : List UInt64} {j : J}
def wantL (j : J) (l : List UInt64) (m : Nat) : List UInt64 := (List.range m).flatMap fun q => rowP j q ((l.drop (q * 2 ^ j.eb)).take (2 ^ j.eb))
end
end Go.Proofs.YtnknippcbecmeaaGreatDoor.Pas
end
section
/- The plan's pure law: passes on rows of words; both roads are the transform. -/
namespace Go.Proofs.YtnknippcbecmeaaGreatDoor.Pln
open Go Go.Hw Shp Fft Ker Pas Str Dsk Trn
def trL (r c : Nat) (l : List UInt64) : List UInt64 := (List.range (r * c)).map fun k => l.getD (k % r * c + k / r) 0
structure Pz where
  t : Bool
  j : J
  f : Nat
  o : Nat
def Pz.c (p : Pz) : Array Value := p.j.a ++ #[.int .i64 (if p.t = true then 1 else 2), .int .i64 (p.f : Int), .int .i64 (p.o : Int)]
def Pz.ap (p : Pz) (l : List UInt64) : List UInt64 := if p.t = true then trL (2 ^ p.j.ea) (2 ^ p.j.eb) l else wantL p.j l (2 ^ p.j.ea)
end Go.Proofs.YtnknippcbecmeaaGreatDoor.Pln
end
section
/- super: forms. -/
namespace Go.Proofs.YtnknippcbecmeaaGreatDoor.Sup
open Go Go.Hw Go.Form W Lay
end Go.Proofs.YtnknippcbecmeaaGreatDoor.Sup
end
section
/- super: the superblock of a form, and the document's. -/
namespace Go.Proofs.YtnknippcbecmeaaGreatDoor.Sup
open Go Go.Hw Go.Form W Lay
def noughts (bs : List UInt8) : Bool := (bs.drop 32).all (· == 0)
abbrev Sb := Int × Int × Int × Int
def crcN (a b c : Nat) : Nat := (Go.Crc.sum (form [UInt64.ofNat a, UInt64.ofNat b, UInt64.ofNat c])).toNat
def sbOf (bs : List UInt8) : Sb := (((wordN bs 0 / 65536 % 65536 : Nat) : Int), IntKind.i64.wrap (wordN bs 8 : Nat), ((bs.length : Nat) : Int), IntKind.i64.wrap (wordN bs 16 : Nat))
def takeV (bs : List UInt8) : Sb × Int :=
  if perN bs.length = 0 then ((0, 0, 0, 0), 15)
  else if wordN bs 0 / 4294967296 ≠ 1094861123 ∨ noughts bs = false then ((0, 0, 0, 0), 10)
  else if wordN bs 24 ≠ crcN (wordN bs 0) (wordN bs 8) (wordN bs 16) then ((0, 0, 0, 0), 9)
  else if goodB (sbOf bs).1 (sbOf bs).2.1 (sbOf bs).2.2.1 (sbOf bs).2.2.2 = true ∧ ((wordN bs 0 % 65536 : Nat) : Int) = logN bs.length then (sbOf bs, 0)
  else ((0, 0, 0, 0), 1)
end Go.Proofs.YtnknippcbecmeaaGreatDoor.Sup
end
section
/- super: the document's form, and its superblock of a form; the law SuperForms. -/
namespace Go.Proofs.YtnknippcbecmeaaGreatDoor.Sup
open Go Go.Hw Go.Form W Lay
end Go.Proofs.YtnknippcbecmeaaGreatDoor.Sup
end
section
/- super on a disk: Write, Read; the law SuperDisks. -/
namespace Go.Proofs.YtnknippcbecmeaaGreatDoor.Sup
open Go Go.Hw Go.Form W Lay Dsk
theorem leN_zero : ∀ n, leN (List.replicate n 0) = 0
  | 0 => rfl
  | n + 1 => by
    rw [List.replicate_succ]
    show (0 : UInt8).toNat + 256 * leN (List.replicate n 0) = 0
    rw [leN_zero n]; rfl
end Go.Proofs.YtnknippcbecmeaaGreatDoor.Sup
end
section
/- The journal as a row of records; what a disk holds of an engine. -/
namespace Go.Proofs.YtnknippcbecmeaaGreatDoor.Eng
open Go Go.Hw Go.Form Dsk Str Rec Srt Rng Pln
structure Log (L : List R) : Prop where
  u : ∀ r ∈ L, r.u32
  g : ∀ r ∈ L, r.good
  hd : ∀ r, L[0]? = some r → r.s = 1 ∧ r.kd = 1
  ch : ∀ i a b, L[i]? = some a → L[i + 1]? = some b → after a b
theorem Log.init {L : List R} {r : R} (h : Log (L ++ [r])) : Log L ∧ r.good ∧ r.u32 ∧ mayB L.getLast? r = true := by
  refine ⟨⟨fun x hx => h.u x (List.mem_append_left _ hx), fun x hx => h.g x (List.mem_append_left _ hx), fun x hx => ?_, fun i a b ha hb => ?_⟩, h.g r (by simp), h.u r (by simp), ?_⟩
  · exact h.hd x (by rw [List.getElem?_append_left (List.getElem?_eq_some_iff.1 hx).1]; exact hx)
  · exact h.ch i a b (by rw [List.getElem?_append_left (List.getElem?_eq_some_iff.1 ha).1]; exact ha) (by rw [List.getElem?_append_left (List.getElem?_eq_some_iff.1 hb).1]; exact hb)
  · cases hl : L.getLast? with
    | none =>
      rw [List.getLast?_eq_none_iff] at hl
      subst hl
      exact decide_eq_true (h.hd r (by simp))
    | some a =>
      have hn : L ≠ [] := fun e => by rw [e] at hl; simp at hl
      have hp := List.length_pos_iff.2 hn
      rw [List.getLast?_eq_getElem?] at hl
      refine decide_eq_true (h.ch (L.length - 1) a r ?_ ?_)
      · rw [List.getElem?_append_left (by omega)]; exact hl
      · rw [show L.length - 1 + 1 = L.length by omega, List.getElem?_append_right (Nat.le_refl _), Nat.sub_self]; rfl
theorem Log.num {L : List R} (h : Log L) : ∀ i a, L[i]? = some a → a.s = i + 1
  | 0, a, ha => (h.hd a ha).1
  | i + 1, a, ha => by
    have hlt := (List.getElem?_eq_some_iff.1 ha).1
    have hb : L[i]? = some L[i] := List.getElem?_eq_getElem (by omega)
    have := h.num i _ hb
    have h2 := (h.ch i _ a hb ha).2.2.1
    omega
theorem Log.last {L : List R} (h : Log L) {r : R} (hr : L.getLast? = some r) : r.good ∧ r.u32 ∧ r.s = L.length := by
  have hn : L ≠ [] := fun e => by rw [e] at hr; simp at hr
  have hp := List.length_pos_iff.2 hn
  have hm : r ∈ L := List.mem_of_getLast? hr
  rw [List.getLast?_eq_getElem?] at hr
  have := h.num _ _ hr
  exact ⟨h.g r hm, h.u r hm, by omega⟩
def ringB (size : Nat) (L : List R) : Nat → List UInt8 := L.foldl (fun f r => fun j => if j = (r.s - 1) % 8 then r.form size else f j) (fun _ => List.replicate size 0)
theorem ringB_snoc (size : Nat) (L : List R) (r : R) (j : Nat) : ringB size (L ++ [r]) j = if j = (r.s - 1) % 8 then r.form size else ringB size L j := by
  unfold ringB; rw [List.foldl_append]; rfl
def Ring (size : Nat) (L : List R) (c : Cn) : Prop := ∀ i, i < 8 → c ((1 + i : Nat) : Int) = ringB size L i
theorem updC_same (c : Cn) (k : Nat) (a b : List UInt8) : updC (updC c k a) k b = updC c k b := funext fun i => by
  unfold updC; split <;> rfl
theorem updC_id (c : Cn) (k : Nat) : updC c k (c k) = c := funext fun i => by
  unfold updC
  split
  · rename_i h; rw [h]
  · rfl
theorem updC_at (c : Cn) (k : Nat) (b : List UInt8) : updC c k b k = b := if_pos rfl
theorem updC_ne (c : Cn) {k : Nat} (b : List UInt8) {i : Int} (h : i ≠ k) : updC c k b i = c i := if_neg h
theorem rtake_zero {size : Nat} (hs : secB (size : Int) = true) : (takeV (List.replicate size 0)).2 ≠ 0 := by
  unfold Rec.takeV
  rw [List.length_replicate, if_pos hs, if_neg]
  · decide
  · intro h
    have : wordN (List.replicate size 0) 0 = 0 := by
      unfold wordN
      rw [List.drop_zero, List.take_replicate, Sup.leN_zero]
    rw [this] at h
    exact absurd h.1 (by decide)
theorem Ring.last {size : Nat} (hsec : secB (size : Int) = true) : ∀ (n : Nat) {L : List R} {c : Cn}, L.length = n → Log L → Ring size L c → lastC c 1 8 = L.getLast?
  | 0, L, c, hl, h, hr => by
    have e : L = [] := List.length_eq_zero_iff.1 hl
    subst e
    refine (lastR_nil _).2 ?_
    refine List.eq_nil_iff_forall_not_mem.2 fun x hx => ?_
    obtain ⟨j, _, h2, h3⟩ := (stC_mem c 1 8 x 8 0).1 hx
    rw [hr j (by omega), stand_mem] at h3
    exact rtake_zero hsec h3.1
  | n + 1, L, c, hl, h, hr => by
    have hn : L ≠ [] := fun e => by rw [e] at hl; simp at hl
    obtain ⟨L', r, rfl⟩ : ∃ L' r, L = L' ++ [r] := ⟨L.dropLast, L.getLast hn, (List.dropLast_concat_getLast hn).symm⟩
    obtain ⟨h1, h2, h3, h4⟩ := h.init
    have hsl := slotN_in (f := 1) (n := 8) (s := r.s) (by omega)
    have hk : slotN 1 8 r.s = 1 + (r.s - 1) % 8 := rfl
    have hm := Nat.mod_lt (r.s - 1) (show 8 > 0 by omega)
    let c' : Cn := updC c (slotN 1 8 r.s) (ringB size L' ((r.s - 1) % 8))
    have hr' : Ring size L' c' := fun i hi => by
      have := hr i hi
      rw [ringB_snoc] at this
      show updC c (slotN 1 8 r.s) _ _ = _
      by_cases e : i = (r.s - 1) % 8
      · subst e; rw [← hk, updC_at]
      · rw [updC_ne _ _ (by omega), this, if_neg e]
    have ih := Ring.last hsec n (by simpa using hl) h1 hr'
    have hsz := secB_32 hsec
    have hup := last_upd (c := c') (f := 1) (n := 8) (size := size) (by omega) (by omega) hsec h2 h3 (by rw [ih]; exact h4)
    have e : updC c' (slotN 1 8 r.s) (r.form size) = c := by
      show updC (updC c _ _) _ _ = c
      rw [updC_same]
      have := hr ((r.s - 1) % 8) hm
      rw [ringB_snoc, if_pos rfl, ← hk] at this
      rw [← this, updC_id]
    rw [e] at hup
    rw [hup, List.getLast?_append]; rfl
end Go.Proofs.YtnknippcbecmeaaGreatDoor.Eng
end
section
/- ring, of a disk whose power stays: what is shown, whatever is in the cache. -/
namespace Go.Proofs.YtnknippcbecmeaaGreatDoor.Eng
open Go Go.Hw Go.Form Dsk Str Rec Srt Rng
structure Shows (d : D) (c : Cn) : Prop where
  ok : Ok d
  dom : Dom d
  down : d.down = false
  fuse : d.fuse = 0
  now : ∀ i, d.now i = c i
theorem Shows.calm {d : D} {c : Cn} (h : Shows d c) : Str.Calm d := ⟨h.down, h.fuse⟩
theorem Shows.rdN {d : D} {c : Cn} (h : Shows d c) (t : Nat) : Shows (D.rdN d t) c := ⟨Ok.rdN h.ok t, h.dom, h.down, h.fuse, h.now⟩
theorem Shows.red {d : D} {c : Cn} (h : Shows d c) : D.red d = D.rdN d 1 := by unfold D.red; rw [h.calm.burnt]; rfl
theorem Shows.burns {d : D} {c : Cn} (h : Shows d c) : ¬ d.burns = true := by unfold D.burns; rw [h.fuse]; decide
theorem Shows.chk {d : D} {c : Cn} (h : Shows d c) {i : Nat} (hi : i < d.sec) : d.chk (i : Int) = 0 := live_chk h.down (Int.natCast_nonneg _) (by omega)
theorem scan_shows {d : D} {c : Cn} (h : Shows d c) (f n : Nat) : ∀ (k i t : Nat) (acc : List R), f + i + k ≤ d.sec → scanR f n k i (D.rdN d t) acc = (0, D.rdN d (t + k), acc ++ stC c f n k i)
  | 0, i, t, acc, _ => by show (0, D.rdN d t, acc) = (0, D.rdN d t, acc ++ []); rw [List.append_nil]
  | k + 1, i, t, acc, hf => by
    have hc := h.rdN t
    unfold scanR
    rw [if_neg (by rw [hc.chk (i := f + i) (by show _ < d.sec; omega)]; simp), if_neg hc.burns, hc.red, hc.now]
    have e : D.rdN (D.rdN d t) 1 = D.rdN d (t + 1) := by unfold D.rdN; rfl
    rw [e, scan_shows h f n k (i + 1) (t + 1) _ (by omega), List.append_assoc, show t + 1 + k = t + (k + 1) by omega]; rfl
theorem scanA_shows {d : D} {c : Cn} (h : Shows d c) (f n : Nat) (hf : f + n ≤ d.sec) : scanA f n d = (0, D.rdN d n, stC c f n n 0) := by
  have := scan_shows h f n n 0 0 [] (by omega)
  rw [Nat.zero_add] at this
  exact this
theorem Shows.wrote {d : D} {c : Cn} (h : Shows d c) {k : Nat} (hk : k < d.sec) {b : List UInt8} (hb : b.length = d.size) : d.writeE k d.size = 0 ∧ d.writeD k b = d.wrote k b ∧ Shows (d.wrote k b) (updC c k b) := by
  have hchk := h.chk hk
  have hbn : d.burns = false := by simpa using h.burns
  have e1 : d.writeE k d.size = 0 := by unfold D.writeE; rw [if_neg (by rw [hchk]; simp), if_neg (by simp), hbn]; rfl
  have e2 : d.writeD k b = d.wrote k b := by unfold D.writeD; rw [if_neg (by rw [hchk]; simp), if_neg (by simp [hb]), hbn]; rfl
  have hn := Next.write h.ok h.dom k b
  rw [e2] at hn
  have hbt := h.calm.burnt
  refine ⟨e1, e2, ⟨hn.ok, hn.dom, ?_, ?_, fun i => ?_⟩⟩
  · show d.burnt.down = false; rw [hbt]; exact h.down
  · show d.burnt.fuse = 0; rw [hbt]; exact h.fuse
  · show (updB d.cache k b i).getD ((d.burnt.safe i).getD (List.replicate d.burnt.size 0)) = _
    unfold updC
    by_cases e : i = (k : Int)
    · rw [if_pos e]; unfold updB; rw [if_pos e]; rfl
    · rw [if_neg e, hbt]
      have : updB d.cache k b i = d.cache i := by unfold updB; rw [if_neg e]
      rw [this]; exact h.now i
theorem Shows.synced {d : D} {c : Cn} (h : Shows d c) : d.syncE = 0 ∧ d.syncD = d.synced ∧ Shows d.synced c ∧ ∀ i, d.synced.cache i = none := by
  have hbn : d.burns = false := by simpa using h.burns
  have e1 : d.syncE = 0 := by unfold D.syncE; rw [hbn, h.down]; rfl
  have e2 : d.syncD = d.synced := by unfold D.syncD; rw [hbn, h.down]; rfl
  have hn := Next.sync h.ok h.dom
  rw [e2] at hn
  have hbt := h.calm.burnt
  refine ⟨e1, e2, ⟨hn.ok, hn.dom, ?_, ?_, fun i => ?_⟩, fun i => rfl⟩
  · show d.burnt.down = false; rw [hbt]; exact h.down
  · show d.burnt.fuse = 0; rw [hbt]; exact h.fuse
  · rw [← h.now]
    show (mergeB d.safe d.cache i).getD (List.replicate d.burnt.size 0) = _
    rw [hbt]
    unfold D.now D.sat mergeB
    cases d.cache i <;> rfl
structure Upto (d d' : D) (n : Nat) : Prop where
  sec : d'.sec = d.sec
  size : d'.size = d.size
  rd : d'.rd ≤ d.rd + n
  wr : d'.wr ≤ d.wr + n
  sy : d'.sy ≤ d.sy + n
theorem Upto.refl (d : D) : Upto d d 0 := ⟨rfl, rfl, Nat.le_refl _, Nat.le_refl _, Nat.le_refl _⟩
theorem Upto.trans {d d1 d2 : D} {n m : Nat} (h : Upto d d1 n) (k : Upto d1 d2 m) : Upto d d2 (n + m) := by
  have h1 := h.rd; have h2 := k.rd; have h3 := h.wr; have h4 := k.wr; have h5 := h.sy; have h6 := k.sy
  exact ⟨k.sec.trans h.sec, k.size.trans h.size, by omega, by omega, by omega⟩
theorem Upto.rdN (d : D) (n : Nat) : Upto d (D.rdN d n) n := ⟨rfl, rfl, Nat.le_refl _, Nat.le_add_right _ _, Nat.le_add_right _ _⟩
theorem Upto.more {d d' : D} {n m : Nat} (h : Upto d d' n) (k : n ≤ m) : Upto d d' m := by
  have h1 := h.rd; have h3 := h.wr; have h5 := h.sy
  exact ⟨h.sec, h.size, by omega, by omega, by omega⟩
theorem Shows.upW {d : D} {c : Cn} (h : Shows d c) (k : Nat) (b : List UInt8) : Upto d (d.wrote k b) 1 := by
  have hbt := h.calm.burnt
  unfold D.wrote; rw [hbt]
  exact ⟨rfl, rfl, Nat.le_succ _, Nat.le_refl _, Nat.le_succ _⟩
theorem Shows.upS {d : D} {c : Cn} (h : Shows d c) : Upto d d.synced 1 := by
  have hbt := h.calm.burnt
  unfold D.synced; rw [hbt]
  exact ⟨rfl, rfl, Nat.le_succ _, Nat.le_succ _, Nat.le_refl _⟩
theorem app_shows {d : D} {c : Cn} (h : Shows d c) {f n : Nat} (hn : 1 ≤ n) (hf : f + n ≤ d.sec) (r : R) :
    ∃ d', Upto d d' (n + 2) ∧ ((¬ r.good ∧ appV f n d r = (10, d') ∧ Shows d' c) ∨ (r.good ∧ mayB (lastC c f n) r = false ∧ appV f n d r = (5, d') ∧ Shows d' c) ∨
      (r.good ∧ mayB (lastC c f n) r = true ∧ appV f n d r = (0, d') ∧ Shows d' (updC c (slotN f n r.s) (r.form d.size)) ∧ ∀ i, d'.cache i = none)) := by
  by_cases hg : r.good
  · have e0 : appV f n d r = if (scanA f n d).1 ≠ 0 then ((scanA f n d).1, (scanA f n d).2.1) else if mayB (lastR (scanA f n d)) r = false then (5, (scanA f n d).2.1) else putS f n (scanA f n d).2.1 r := by
      unfold appV; rw [if_neg (fun h => h hg)]
    rw [scanA_shows h f n hf, lastC_eq, if_neg (by simp)] at e0
    have hc := h.rdN n
    cases hm : mayB (lastC c f n) r with
    | false =>
      rw [if_pos hm] at e0
      exact ⟨_, (Upto.rdN d n).more (by omega), .inr (.inl ⟨hg, rfl, e0, hc⟩)⟩
    | true =>
      rw [if_neg (by rw [hm]; simp)] at e0
      have hsl := slotN_in (f := f) (s := r.s) hn
      obtain ⟨w1, w2, w3⟩ := hc.wrote (k := slotN f n r.s) (b := r.form d.size) (by show _ < d.sec; omega) (rform_len r h.ok.size.1)
      obtain ⟨s1, s2, s3, s4⟩ := w3.synced
      have e1 : putS f n (D.rdN d n) r = (0, ((D.rdN d n).wrote (slotN f n r.s) (r.form d.size)).synced) := by
        unfold putS
        rw [if_neg (by rw [w1]; simp)]
        show (((D.rdN d n).writeD _ (r.form d.size)).syncE, ((D.rdN d n).writeD _ (r.form d.size)).syncD) = _
        rw [w2, s1, s2]
      refine ⟨_, ((Upto.rdN d n).trans ((hc.upW _ _).trans w3.upS)).more (by omega), .inr (.inr ⟨hg, rfl, e0.trans e1, s3, s4⟩)⟩
  · exact ⟨d, (Upto.refl d).more (by omega), .inl ⟨hg, by unfold appV; rw [if_pos hg], h⟩⟩
def zeroC (c : Cn) (f size : Nat) : Nat → Nat → Cn
  | 0, _ => c
  | k + 1, i => zeroC (updC c (f + i) (List.replicate size 0)) f size k (i + 1)
theorem zeroC_at (f size : Nat) : ∀ (k i : Nat) (c : Cn) (j : Nat), zeroC c f size k i ((f + j : Nat) : Int) = if i ≤ j ∧ j < i + k then List.replicate size 0 else c ((f + j : Nat) : Int)
  | 0, i, c, j => by rw [if_neg (by omega)]; rfl
  | k + 1, i, c, j => by
    show zeroC _ f size k (i + 1) _ = _
    rw [zeroC_at f size k (i + 1)]
    by_cases e : j = i
    · subst e; rw [if_neg (by omega), if_pos (by omega), updC_at]
    · rw [updC_ne _ _ (by omega)]
      by_cases h : i + 1 ≤ j ∧ j < i + 1 + k
      · rw [if_pos h, if_pos (by omega)]
      · rw [if_neg h, if_neg (by omega)]
theorem clr_shows (f : Nat) : ∀ (k i : Nat) {d : D} {c : Cn}, Shows d c → f + i + k ≤ d.sec → ∃ d', clrR f k i d = (0, d') ∧ Shows d' (zeroC c f d.size k i) ∧ (∀ i, d'.cache i = none) ∧ Upto d d' (k + 1)
  | 0, i, d, c, h, _ => by
    obtain ⟨s1, s2, s3, s4⟩ := h.synced
    exact ⟨_, by unfold clrR; rw [s1, s2], s3, s4, h.upS⟩
  | k + 1, i, d, c, h, hf => by
    obtain ⟨w1, w2, w3⟩ := h.wrote (k := f + i) (b := List.replicate d.size 0) (by omega) (List.length_replicate ..)
    have hu := h.upW (f + i) (List.replicate d.size 0)
    obtain ⟨d', e, h1, h2, h3⟩ := clr_shows f k (i + 1) w3 (by rw [hu.sec]; omega)
    rw [hu.size] at h1
    refine ⟨d', ?_, h1, h2, (hu.trans h3).more (by omega)⟩
    unfold clrR
    rw [if_neg (by rw [w1]; simp), w2]; exact e
theorem zeroC_none (c : Cn) {f n size : Nat} (hs : secB (size : Int) = true) : stC (zeroC c f size n 0) f n n 0 = [] := by
  refine List.eq_nil_iff_forall_not_mem.2 fun x hx => ?_
  obtain ⟨j, _, h2, h3⟩ := (stC_mem _ f n x n 0).1 hx
  rw [zeroC_at, if_pos (by omega), stand_mem] at h3
  exact rtake_zero hs h3.1
theorem Shows.boot {d : D} (hok : Ok d) (hdom : Dom d) {ks : List Int} (hk : KeysOf (strM d.cache) ks) (keep : List Bool) : ∃ c', Shows (D.boot { d with down := true, fuse := 0 } ks keep) c' := by
  have hn := Next.boot (Ok.crash hok) hdom hk keep
  exact ⟨_, hn.ok, hn.dom, rfl, rfl, fun i => rfl⟩
end Go.Proofs.YtnknippcbecmeaaGreatDoor.Eng
end
section
/- law 21: acts that came in. -/
namespace Go.Proofs.YtnknippcbecmeaaGreatDoor.Rng
open Go Go.Hw Go.Form W Rec Dsk
section
open Go.RowKit Go.ChangeShapes Go.WideShapes Go.ChangeAt
variable {H : Type} {enc : TypeId × Value → H} {W : World}
theorem wf_u64 {n : Int} (h : (Lit.int .u64 n).wf = true) : 0 ≤ n ∧ n ≤ 18446744073709551615 := wf_int h
theorem wf_u32 {n : Int} (h : (Lit.int .u32 n).wf = true) : 0 ≤ n ∧ n ≤ 4294967295 := wf_int h
theorem acts_of {A : Option Addr} {n : Nat} {rows : List (List Value)} (hl : rows.length = n)
    (h : ∀ (i : Nat) (r : List Value), rows[i]? = some r → ∃ a, A = some a ∧ (∀ j v, r[j]? = some v → (Full W).cell? (a.add (i * Tryz.prog.cellsOf 90 + j)) = some v) ∧ r.length = Tryz.prog.cellsOf 90 ∧
      ∃ f d' p', DataW.trod enc Tryz.prog W 0 (fun _ => true) true f 90 r = some (d', p')) : ∃ l : List Act, l.length = n ∧ CellsS 12 (Full W) A (l.map actRow) ∧ ∀ a ∈ l, OkA (Full W) a := by
  have hc : Tryz.prog.cellsOf 90 = 12 := by kernel_rfl
  refine rows_st hl fun i r hi => ?_
  obtain ⟨a, ha, h1, h2, f, d', p', h3⟩ := h i r hi
  rw [hc] at h1 h2
  refine ⟨a, ha, h1, ?_⟩
  obtain ⟨_, f', h4⟩ := trod_st Tryz.underlying90 h3
  obtain ⟨x, hx, _⟩ := trod_fint (o := 0) Tryz.underlying3 (by kernel_rfl) (h4 0 _ rfl)
  obtain ⟨y, hy, wy⟩ := trod_fint (o := 1) Tryz.underlying3 (by kernel_rfl) (h4 1 _ rfl)
  obtain ⟨dR, pR, hR⟩ := h4 2 _ rfl
  obtain ⟨_, f2, h5⟩ := trod_st Tryz.underlying86 hR
  have hcR : Tryz.prog.cellsOf 86 = 8 := by kernel_rfl
  obtain ⟨s, hs, ws⟩ := trod_fint (o := 0) Tryz.underlying60 (by kernel_rfl) (h5 0 _ rfl)
  obtain ⟨kd, hkd, wkd⟩ := trod_fint (o := 1) Tryz.underlying3 (by kernel_rfl) (h5 1 _ rfl)
  obtain ⟨kk, hkk, wkk⟩ := trod_fint (o := 2) Tryz.underlying3 (by kernel_rfl) (h5 2 _ rfl)
  obtain ⟨di, hdi, wdi⟩ := trod_fint (o := 3) Tryz.underlying3 (by kernel_rfl) (h5 3 _ rfl)
  obtain ⟨q, hq, wq⟩ := trod_fint (o := 4) Tryz.underlying3 (by kernel_rfl) (h5 4 _ rfl)
  obtain ⟨ld, hld, wld⟩ := trod_fint (o := 5) Tryz.underlying40 (by kernel_rfl) (h5 5 _ rfl)
  obtain ⟨ip, hip, wip⟩ := trod_fint (o := 6) Tryz.underlying40 (by kernel_rfl) (h5 6 _ rfl)
  obtain ⟨ou, hou, wou⟩ := trod_fint (o := 7) Tryz.underlying40 (by kernel_rfl) (h5 7 _ rfl)
  obtain ⟨G, nG, mG, _, _, hG, tG⟩ := trod_fsl (o := 10) Tryz.underlying87 (by kernel_rfl) (h4 3 _ rfl)
  obtain ⟨B, nB, mB, _, _, hB, tB⟩ := trod_fsl (o := 11) Tryz.underlying88 (by kernel_rfl) (h4 4 _ rfl)
  obtain ⟨_, _, _, e1, _, _, bs, hbl, hbc⟩ := trod_bytes Tryz.underlying88 Tryz.underlying5 (by kernel_rfl) tB
  obtain ⟨rfl, rfl, rfl⟩ : B = _ ∧ nB = _ ∧ mB = _ := by simpa using e1
  obtain ⟨_, _, _, e2, _, _, gs, hgl, hgc⟩ := trod_bools Tryz.underlying87 Tryz.underlying4 (by kernel_rfl) tG
  obtain ⟨rfl, rfl, rfl⟩ : G = _ ∧ nG = _ ∧ mG = _ := by simpa using e2
  have ws := wf_u64 ws
  have wld := wf_u32 wld
  have wip := wf_u32 wip
  have wou := wf_u32 wou
  obtain ⟨s, rfl⟩ := Int.eq_ofNat_of_zero_le ws.1
  obtain ⟨ld, rfl⟩ := Int.eq_ofNat_of_zero_le wld.1
  obtain ⟨ip, rfl⟩ := Int.eq_ofNat_of_zero_le wip.1
  obtain ⟨ou, rfl⟩ := Int.eq_ofNat_of_zero_le wou.1
  refine ⟨⟨x, y, ⟨s, kd, kk, di, q, ld, ip, ou⟩, G, nG, mG, gs, B, nB, mB, bs⟩, ?_, ⟨hgl.symm, hgc, hbl.symm, hbc, wf_int wy, ⟨by show s < 2 ^ 64; omega, wf_int wkd, wf_int wkk, wf_int wdi, wf_int wq, ⟨by show ld < _; omega, by show ip < _; omega, by show ou < _; omega⟩⟩⟩⟩
  have hs2 := sub_get hs
  have hkd2 := sub_get hkd
  have hkk2 := sub_get hkk
  have hdi2 := sub_get hdi
  have hq2 := sub_get hq
  have hld2 := sub_get hld
  have hip2 := sub_get hip
  have hou2 := sub_get hou
  exact EqAll.out ⟨hx, hy, hs2, hkd2, hkk2, hdi2, hq2, hld2, hip2, hou2, hG, hB, trivial⟩ h2
end
end Go.Proofs.YtnknippcbecmeaaGreatDoor.Rng
end
section
/- law 21: its first look. -/
namespace Go.Proofs.YtnknippcbecmeaaGreatDoor.Rng
open Go Go.Hw W Rec Srt Dsk
def x0 : R := ⟨1, 1, 2, 0, 0, 1, 0, 0⟩
def d0 : D := D.fresh 10 32
theorem d0_ok : Ok d0 := Ok.fresh (by omega) (by decide) (by omega)
theorem sec32 : secB (32 : Int) = true := by decide +kernel
theorem scan0 : (scanA 1 3 d0).1 = 0 ∧ (scanA 1 3 d0).2.2.length = 0 := by decide +kernel
theorem app0 : (appV 1 3 d0 x0).1 = 0 := by decide +kernel
theorem Ok.syncD {d : D} (h : Ok d) : Ok d.syncD := by
  unfold D.syncD
  split
  · exact h
  · split
    · exact h.burnt
    · have hb := h.burnt
      refine ⟨hb.sec, hb.size, hb.big, hb.per, fun k b hk => ?_, fun k b hk => (by cases hk), hb.fz⟩
      have hbr := burnt_rd d
      show b.length = d.burnt.size
      rw [hbr.2.2.2.1]
      have hk : mergeB d.safe d.cache k = some b := hk
      unfold mergeB at hk
      cases hc : d.cache k with
      | some c =>
        rw [hc] at hk
        have : c = b := by simpa using hk
        rw [← this]
        exact h.cache k c hc
      | none =>
        rw [hc] at hk
        exact h.safe k b (by simpa using hk)
theorem putS_ok {f n : Nat} {d : D} (h : Ok d) (r : R) : Ok (putS f n d r).2 := by
  unfold putS
  split
  · exact Ok.writeD h _ _
  · exact Ok.syncD (Ok.writeD h _ _)
theorem appV_ok {f n : Nat} {d : D} (h : Ok d) (r : R) : Ok (appV f n d r).2 := by
  have hs := (scanR_ok f n n 0 d [] h).1
  unfold appV
  split
  · exact h
  · split
    · exact hs
    · split
      · exact hs
      · exact putS_ok hs r
def d1 : D := (appV 1 3 d0 x0).2
def d3 : D := { d1 with down := false, fuse := 0, cache := fun _ => none }
def recT (r : R) : List Int := [(r.s : Int), r.kd, r.kk, r.dir, r.ps, (r.ld : Int), (r.inp : Int), (r.out : Int)]
def lastT (q : Option R) : List Int := match q with | some r => recT r | none => []
theorem scan3' : (scanA 1 3 d3).1 = 0 ∧ lastT (lastR (scanA 1 3 d3)) = recT x0 := by decide +kernel
theorem t_inj {a b : R} (h : recT a = recT b) : a = b := by
  cases a; cases b
  simp only [recT, List.cons.injEq, and_true] at h
  congr 1 <;> omega
theorem scan3 : (scanA 1 3 d3).1 = 0 ∧ lastR (scanA 1 3 d3) = some x0 := by
  refine ⟨scan3'.1, ?_⟩
  have h := scan3'.2
  cases hl : lastR (scanA 1 3 d3) with
  | none => rw [hl] at h; cases h
  | some q =>
    rw [hl] at h
    rw [t_inj h]
theorem d1_cache : d1.cache = fun _ => none := by kernel_rfl
theorem d1_ok : Ok d1 := appV_ok d0_ok x0
theorem d3_ok : Ok d3 := ⟨d1_ok.sec, d1_ok.size, d1_ok.big, d1_ok.per, d1_ok.safe, fun k b hk => (by cases hk), Nat.zero_le _⟩
theorem x0_wf : x0.wf := ⟨by decide, by decide, by decide, by decide, by decide, ⟨by decide, by decide, by decide⟩⟩
theorem scan3_len : (scanA 1 3 d3).2.2.length ≤ 12 := by
  have := scanR_len 1 3 3 0 d3 []
  exact Nat.le_trans this (by decide)
theorem awake_ok (H : Hp) : HCalls Tryz.prog 19 #[] H (RetE (.bool true) H) := HCalls.ret (by
  apply W_abacistlaw21_awake.ok
  unfold W_abacistlaw21_awake
  refine (Dsk.New_tr 10 32 (by omega) (by decide) (by omega)).use (Sep.start H) [] rfl rfl ?_
  rintro _ _ H1 ⟨p, rfl, rfl⟩ hs
  simp only [HV]
  have hs : Hw.Sep [Dk p d0, own H] H1 := hs
  refine BIf_neg rfl ?_
  refine (Rng.New_tr d0_ok 1 3 0 (by omega)).use hs [0] rfl rfl ?_
  rintro _ _ H1 (⟨_, b, rfl, rfl⟩ | ⟨h, _⟩) hs
  · simp only [HV]
    have hs : Hw.Sep [Dk p d0, pts b (ringO p (1 : Nat) (3 : Nat) 0), own H] H1 := hs
    refine hs.nw fun b1 H1 hs => ?_
    refine hs.stw 3 (y := x0.c) rfl rfl rfl rfl fun H1 hs => ?_
    refine BIf_neg rfl (BIf_bnen rfl ?_)
    refine hs.ldw 3 rfl rfl ?_
    rw [Array.toArray_toList]
    have hs : Hw.Sep [Dk p d0, pts b (ringO p (1 : Nat) (3 : Nat) 0), own H, pts b1 (recO x0)] H1 := hs
    refine (Append_tr (b := b) (p := p) (f := 1) (n := 3) (w := 0) (by decide) (by decide) d0_ok ⟨by decide, by decide⟩ (by decide) (fun _ => by rw [scan0.2]; decide) sec32 x0 ⟨by decide, by decide, by decide⟩).use hs [0, 1] rfl rfl ?_
    rintro _ _ H1 ⟨rfl, rfl⟩ hs
    rw [app0]
    simp only [HV]
    have hs : Hw.Sep [Dk p d1, pts b (ringO p (1 : Nat) (3 : Nat) 0), own H, pts b1 (recO x0)] H1 := hs
    refine BIf_bnen rfl ?_
    try simp only [NN_some, Addr.add_lit', Addr.add_zero, Nat.zero_add, Nat.add_zero]
    refine Crash_tr.use hs [0] rfl rfl ?_
    rintro _ _ H1 ⟨rfl, rfl⟩ hs
    have hs : Hw.Sep [Dk p { d1 with down := true, fuse := 0 }, pts b (ringO p (1 : Nat) (3 : Nat) 0), own H, pts b1 (recO x0)] H1 := hs
    refine (Boot_tr (Ok.crash d1_ok) (fun k hk => by rw [show ({ d1 with down := true, fuse := 0 } : D).cache = fun _ => none from d1_cache] at hk; cases hk) rfl none 0 0 [] rfl (own H) (fun H h => Cells.nil _ _)).use hs [0, 2] rfl rfl ?_
    rintro _ _ H1 ⟨ks, _, rfl, rfl⟩ hs
    simp only [HV]
    have hb : D.boot { d1 with down := true, fuse := 0 } ks [] = d3 := by
      unfold D.boot
      rw [bootS_nil]
      rfl
    rw [hb] at hs
    have hs : Hw.Sep [Dk p d3, own H, pts b (ringO p (1 : Nat) (3 : Nat) 0), pts b1 (recO x0)] H1 := hs
    refine (Last_tr (b := b) (p := p) (f := 1) (n := 3) (w := 0) (by decide) (by decide) d3_ok (by decide +kernel) (fun _ => scan3_len)).use hs [0, 2] rfl rfl ?_
    rintro _ _ H1 ⟨rfl, rfl⟩ hs
    rw [scan3.1, scan3.2]
    simp only [HV]
    have hs : Hw.Sep [Dk p (scanA 1 3 d3).2.1, pts b (ringO p (1 : Nat) (3 : Nat) 0), own H, pts b1 (recO x0)] H1 := hs
    refine hs.nw fun b2 H1 hs => ?_
    refine hs.stw 4 (y := x0.c) rfl rfl rfl rfl fun H1 hs => ?_
    refine BIf_pos rfl (BIf_beqp rfl ?_)
    refine hs.ldw 4 rfl rfl ?_
    refine hs.ldw 3 rfl rfl ?_
    rw [Array.toArray_toList]
    refine rec_eql x0_wf x0_wf true (by simp) ?_
    exact ⟨rfl, hs.ow 2 rfl⟩
  · exact absurd h (by decide))
end Go.Proofs.YtnknippcbecmeaaGreatDoor.Rng
end
section
/- law 21: bytes as long as a sector; the bytes of a ring's slots. -/
namespace Go.Proofs.YtnknippcbecmeaaGreatDoor.Eng
open Go Go.Hw Go.Form W Dsk Str Rec Srt Rng
def laidL (bs : List UInt8) : List UInt8 := bs.take 32 ++ List.replicate (32 - bs.length) 0
theorem laidL_len (bs : List UInt8) : (laidL bs).length = 32 := by unfold laidL; simp; omega
theorem cell_u8r : cellInfo Tryz.prog 5 = some (1, 1, some #[.int .u8 0]) := by kernel_rfl
theorem cell_strr : cellInfo Tryz.prog 9 = some (1, 16, some #[.string ByteArray.empty]) := by kernel_rfl
theorem setAt_laid (bs : List UInt8) : setAt (zeroRow (#[Value.int .u8 0] : Array Value).toList 32) 0 (byteVals (bs.take (Nat.min bs.length 32))) = byteVals (laidL bs) := by
  have hz : zeroRow (#[Value.int .u8 0] : Array Value).toList 32 = byteVals (List.replicate 32 0) := by show zeroRow [Value.int .u8 0] 32 = _; rw [zeroRow_one]; rfl
  have hm : Nat.min bs.length 32 = min bs.length 32 := rfl
  rw [hz, hm]
  apply List.ext_getElem?
  intro i
  rw [setAt_get (by rw [byteVals_length, byteVals_length, List.length_take, List.length_replicate]; omega)]
  unfold laidL byteVals
  simp only [List.length_map, List.getElem?_map, List.length_take]
  by_cases h : i < bs.length
  · by_cases h2 : i < 32
    · rw [if_neg (by omega), if_pos (by omega), List.getElem?_append_left (by simp; omega), Nat.sub_zero]
      simp only [List.getElem?_take]
      rw [if_pos (by omega), if_pos h2]
    · rw [if_neg (by omega), if_neg (by omega), List.getElem?_append_right (by simp; omega), List.getElem?_eq_none (by simp; omega), List.getElem?_eq_none (by simp; omega)]
  · rw [if_neg (by omega), if_neg (by omega), List.getElem?_append_right (by simp; omega)]
    simp only [List.getElem?_replicate, List.length_take]
    by_cases h3 : i < 32
    · rw [if_pos h3, if_pos (by omega)]
    · rw [if_neg h3, if_neg (by omega)]
theorem laid_tr {A : Option Addr} {n m : Nat} {bs : List UInt8} {R : As} (hn : n = bs.length) (hR : ∀ H, R H → Cells H A (byteVals bs)) :
    Tr Tryz.prog 36 #[.slice A n m] [R] fun v M => ∃ b, v = .slice (some ⟨b, 0, none⟩) 32 32 ∧ M = [pts b (.row (byteVals (laidL bs)) 5 32), R] := fun H hs => by
  apply W_abacistlaw21_laid.ok
  unfold W_abacistlaw21_laid
  refine hs.mks cell_u8r rfl (n := 32) (m := 32) rfl rfl (Nat.le_refl _) (by omega) (by omega) fun b H hs => ?_
  simp only [HV]
  refine hs.cp 1 (k := n) (ys := byteVals (bs.take (Nat.min bs.length 32))) rfl cell_u8r rfl ?_ ?_ (fun y hy => ?_) fun H hs => ?_
  · have hc : Cells H A (byteVals bs) := by
      obtain ⟨H1, h1, hle⟩ := hs.see 0 rfl
      exact (hR H1 h1).le hle
    rw [hn]
    have hc2 : Cells H A (byteVals (bs.take (Nat.min bs.length 32))) := fun i v hv => hc i v (by
      unfold byteVals at hv ⊢
      rw [List.getElem?_map] at hv ⊢
      rw [List.getElem?_take] at hv
      split at hv
      · exact hv
      · cases hv)
    have h2 := src_of (n := Nat.min bs.length 32) (c := m) hc2 (by rw [byteVals_length, List.length_take]; exact (Nat.min_eq_left (Nat.min_le_left _ _)).symm)
    cases A <;> exact h2
  · rw [byteVals_length, zeroRow_length, List.length_take, show Nat.min bs.length 32 = min bs.length 32 from rfl]; simp; omega
  · unfold byteVals at hy; obtain ⟨_, _, rfl⟩ := List.mem_map.1 hy; rfl
  · simp only [HV]
    rw [setAt_laid] at hs
    exact ⟨_, ⟨b, rfl, rfl⟩, hs.re [1, 0] rfl⟩
def strV (l : List (List UInt8)) : List Value := l.map fun bs => .string ⟨bs.toArray⟩
theorem strV_app (a b : List (List UInt8)) : strV (a ++ b) = strV a ++ strV b := List.map_append
def slC (c : Cn) (f : Nat) : Nat → Nat → List (List UInt8)
  | 0, _ => []
  | k + 1, i => c ((f + i : Nat) : Int) :: slC c f k (i + 1)
theorem slC_len (c : Cn) (f : Nat) : ∀ k i, (slC c f k i).length = k
  | 0, _ => rfl
  | k + 1, i => by
    show (slC c f k (i + 1)).length + 1 = k + 1
    rw [slC_len c f k (i + 1)]
theorem slots_loop {p b1 nn : Nat} {w : Int} {d : D} {c : Cn} (h : Shows d c) (hn : 1 + nn ≤ d.sec) (hd : d.rd + nn ≤ 1000000) (hsz : d.size = 32) :
    ∀ (t i k : Nat) (acc : List (List UInt8)) (A : Option Addr) (m : Nat) (H : Hp), i + t = nn → acc.length = k → k = i → Hw.Sep [Dk p (D.rdN d i), Own 9 1 A k m (strV acc), pts b1 (.obj (.cells #[.int .i64 1, .int .i64 (nn : Int), .int .i64 w] 30))] H →
      W_abacistlaw21_slots.l3 (fun v H' => ∃ M, (∃ A m, v = .slice A nn m ∧ M = [Own 9 1 A nn m (strV (acc ++ slC c 1 t i)), Dk p (D.rdN d nn)]) ∧ Hw.Sep M H') (t + 1) (some ⟨p, 0, none⟩) ⟨b1, 0, none⟩ A k m (i : Int) H
  | 0, i, k, acc, A, m, H, hi, hacc, hk, hs => by
    obtain rfl : i = nn := by omega
    subst hk
    unfold W_abacistlaw21_slots.l3
    try simp only [NN_some, Addr.add_lit', Addr.add_zero, Nat.zero_add, Nat.add_zero]
    refine hs.ld 2 (v := .int .i64 (k : Int)) rfl rfl ?_
    simp only [HV]
    refine BIf_dneg (by omega) ?_
    refine ⟨_, ⟨A, m, rfl, rfl⟩, ?_⟩
    have e : acc ++ slC c 1 0 k = acc := List.append_nil _
    rw [e]
    exact hs.re [1, 0] rfl
  | t + 1, i, k, acc, A, m, H, hi, hacc, hk, hs => by
    have hc := h.rdN i
    have hsz' : (D.rdN d i).size = 32 := hsz
    unfold W_abacistlaw21_slots.l3
    try simp only [NN_some, Addr.add_lit', Addr.add_zero, Nat.zero_add, Nat.add_zero]
    refine hs.ld 2 (v := .int .i64 (nn : Int)) rfl rfl ?_
    simp only [HV]
    refine BIf_dpos (by omega) ?_
    refine hs.ld 2 (v := .int .i64 1) rfl rfl ?_
    simp only [HV]
    have hw : IntKind.i64.wrap ((1 : Int) + (i : Int)) = ((1 + i : Nat) : Int) := by rw [i64w (by omega) (by omega)]; omega
    rw [hw]
    have hrd : (D.rdN d i).rd = d.rd + i := rfl
    refine (Read_tr (p := p) (d := D.rdN d i) hc.ok (by omega) ((1 + i : Nat) : Int)).use hs [0] rfl rfl ?_
    rintro _ _ H (⟨hx, _⟩ | ⟨_, hx, _⟩ | ⟨_, _, b, cc, mm, rfl, hcc, rfl⟩) hs
    · exact absurd (hc.chk (i := 1 + i) (by show _ < d.sec; omega)) hx
    · exact absurd hx hc.burns
    · simp only [HV]
      have hnow := hc.ok.now ((1 + i : Nat) : Int)
      rw [hc.now] at hs hnow
      have hs : Hw.Sep [Dk p (D.red (D.rdN d i)), pts b (.row (byteVals (c ((1 + i : Nat) : Int))) 5 mm), Own 9 1 A k m (strV acc), pts b1 (.obj (.cells #[.int .i64 1, .int .i64 (nn : Int), .int .i64 w] 30))] H := hs
      rw [hc.red] at hs
      have e : D.rdN (D.rdN d i) 1 = D.rdN d (i + 1) := by unfold D.rdN; rfl
      rw [e] at hs
      refine BsK_of (bs := c ((1 + i : Nat) : Int)) (by
        have := Cells.row (hs.get 1 (b := b) rfl) 0 (byteVals (c ((1 + i : Nat) : Int))).length
        rwa [List.drop_zero, List.take_length] at this) hnow.symm ?_
      refine hs.app1 2 rfl cell_strr (by omega) rfl (by omega) (by omega) fun A' m' H hs => ?_
      simp only [HV]
      rw [i64w (x := (i : Int) + 1) (by omega) (by omega)]
      have e1 : strV acc ++ [.string ⟨(c ((1 + i : Nat) : Int)).toArray⟩] = strV (acc ++ [c ((1 + i : Nat) : Int)]) := by rw [strV_app]; rfl
      have ih := slots_loop (p := p) (b1 := b1) (w := w) h hn hd hsz t (i + 1) (k + 1) (acc ++ [c ((1 + i : Nat) : Int)]) A' m' H (by omega) (by rw [List.length_append, hacc]; rfl) (by omega) (by rw [← e1]; exact hs.re [0, 2, 3] rfl)
      rw [List.append_assoc] at ih
      exact ih
theorem slots_tr {p nn : Nat} {w : Int} {d : D} {c : Cn} (h : Shows d c) (hn : 1 + nn ≤ d.sec) (hd : d.rd + nn ≤ 1000000) (hsz : d.size = 32) :
    Tr Tryz.prog 25 #[.pointer (some ⟨p, 0, none⟩), .agg #[.int .i64 1, .int .i64 (nn : Int), .int .i64 w]] [Dk p d] fun v M => ∃ A m, v = .slice A nn m ∧ M = [Own 9 1 A nn m (strV (slC c 1 nn 0)), Dk p (D.rdN d nn)] := fun H hs => by
  apply W_abacistlaw21_slots.ok
  unfold W_abacistlaw21_slots
  refine hs.nw fun b1 H hs => ⟨nn + 1, ?_⟩
  have hs : Hw.Sep (Own 9 1 .none 0 0 (strV []) :: [Dk p d, pts b1 (.obj (.cells #[.int .i64 1, .int .i64 (nn : Int), .int .i64 w] 30))]) H := ⟨fun _ => none, H, fun _ _ h => (nomatch h), Hp.le_refl _, fun _ => .inl rfl, Own.none _ _ _, hs⟩
  exact slots_loop h hn hd hsz nn 0 0 [] .none 0 H (by omega) rfl rfl (hs.re [1, 0, 2] rfl)
end Go.Proofs.YtnknippcbecmeaaGreatDoor.Eng
end
section
/- law 21: what stands, by the law's own look. -/
namespace Go.Proofs.YtnknippcbecmeaaGreatDoor.Eng
open Go Go.Hw Go.Form W Dsk Str Rec Srt Rng
def posR (x : R) : List R → Nat
  | [] => 0
  | y :: t => if y.s < x.s then posR x t + 1 else 0
theorem posR_le (x : R) : ∀ l, posR x l ≤ l.length
  | [] => Nat.le_refl _
  | y :: t => by
    have := posR_le x t
    unfold posR
    split
    · show _ ≤ t.length + 1; omega
    · omega
theorem posR_lt (x : R) : ∀ (l : List R) (j : Nat), j < posR x l → ∀ h : j < l.length, l[j].s < x.s
  | [], j, hj, h => by cases h
  | y :: t, j, hj, h => by
    unfold posR at hj
    split at hj
    · rename_i hy
      cases j with
      | zero => exact hy
      | succ j => exact posR_lt x t j (by omega) (Nat.lt_of_succ_lt_succ h)
    · omega
theorem posR_ge (x : R) : ∀ (l : List R) (h : posR x l < l.length), ¬ l[posR x l].s < x.s
  | [], h => by cases h
  | y :: t, h => by
    by_cases hy : y.s < x.s
    · have e : posR x (y :: t) = posR x t + 1 := by show (if y.s < x.s then _ else _) = _; rw [if_pos hy]
      have h' : posR x t < t.length := by rw [e] at h; exact Nat.lt_of_succ_lt_succ h
      simp only [e, List.getElem_cons_succ]
      exact posR_ge x t h'
    · have e : posR x (y :: t) = 0 := by show (if y.s < x.s then _ else _) = _; rw [if_neg hy]
      simp only [e, List.getElem_cons_zero]
      exact hy
def insR (x : R) (l : List R) : List R := l.take (posR x l) ++ x :: l.drop (posR x l)
theorem insR_len (x : R) (l : List R) : (insR x l).length = l.length + 1 := by
  have := posR_le x l
  unfold insR
  rw [List.length_append, List.length_cons, List.length_take, List.length_drop]; omega
theorem insR_perm (x : R) (l : List R) : (insR x l).Perm (x :: l) := by
  unfold insR
  refine List.perm_middle.trans ?_
  rw [List.take_append_drop]
theorem insR_rise (x : R) (l : List R) (h : l.Pairwise fun a b => a.s < b.s) (hx : ∀ y ∈ l, y.s ≠ x.s) : (insR x l).Pairwise fun a b => a.s < b.s := by
  unfold insR
  have hd : ∀ y ∈ l.drop (posR x l), x.s < y.s := fun y hy => by
    have hne := hx y (List.mem_of_mem_drop hy)
    obtain ⟨i, hi, rfl⟩ := List.getElem_of_mem hy
    rw [List.length_drop] at hi
    rw [List.getElem_drop] at hne ⊢
    have h0 := posR_ge x l (by omega)
    rcases Nat.eq_zero_or_pos i with rfl | hp
    · simp only [Nat.add_zero] at hne ⊢; omega
    · have := List.pairwise_iff_getElem.1 h (posR x l) (posR x l + i) (by omega) (by omega) (by omega)
      omega
  rw [List.pairwise_append]
  refine ⟨h.sublist (List.take_sublist _ _), List.pairwise_cons.2 ⟨hd, h.sublist (List.drop_sublist _ _)⟩, fun a ha b hb => ?_⟩
  obtain ⟨i, hi, rfl⟩ := List.getElem_of_mem ha
  rw [List.length_take] at hi
  rw [List.getElem_take]
  have h1 := posR_lt x l i (by omega) (by omega)
  rcases List.mem_cons.1 hb with rfl | hb
  · exact h1
  · have := hd b hb; omega
def stF (n : Nat) : List (List UInt8) → Nat → List R → List R
  | [], _, acc => acc
  | b :: t, i, acc => stF n t (i + 1) (if (takeV b).2 = 0 ∧ ((takeV b).1.s - 1) % n = i then insR (takeV b).1 acc else acc)
theorem recV_take : ∀ (l : List R) (k : Nat), (recV l).take (k * 8) = recV (l.take k)
  | l, 0 => by rw [Nat.zero_mul, List.take_zero, List.take_zero]; rfl
  | [], k + 1 => by simp [recV]
  | r :: l, k + 1 => by
    have e : recV (r :: l) = r.c.toList ++ recV l := rfl
    have hr : r.c.toList.length = 8 := rfl
    rw [e, Nat.succ_mul, Nat.add_comm, List.take_append, hr, Nat.add_sub_cancel_left, List.take_of_length_le (by rw [hr]; omega), recV_take l k]; rfl
theorem recV_drop : ∀ (l : List R) (k : Nat), (recV l).drop (k * 8) = recV (l.drop k)
  | l, 0 => by rw [Nat.zero_mul, List.drop_zero, List.drop_zero]
  | [], k + 1 => by simp [recV]
  | r :: l, k + 1 => by
    have e : recV (r :: l) = r.c.toList ++ recV l := rfl
    have hr : r.c.toList.length = 8 := rfl
    rw [e, Nat.succ_mul, Nat.add_comm, List.drop_append, hr, Nat.add_sub_cancel_left, List.drop_of_length_le (by rw [hr]; omega), List.nil_append, recV_drop l k]; rfl
theorem recV_seq (l : List R) (j : Nat) (h : j < l.length) : (recV l)[j * 8 + 0]? = some (.int .u64 (l[j].s : Int)) := by
  have h0 := congrArg (fun x => x[0]?) (recV_get l j h)
  simp only [List.getElem?_take, List.getElem?_drop] at h0
  rw [if_pos (by omega)] at h0
  exact h0
theorem recV_one (l : List R) : ∀ y ∈ recV l, y.oneCell' = true := fun y hy => by
  unfold recV at hy
  obtain ⟨r, _, hr⟩ := List.mem_flatMap.1 hy
  exact List.all_eq_true.1 (recC_ok r) y hr
theorem recV_oneB (l : List R) : (recV l).all (fun y => y.oneCell') = true := List.all_eq_true.2 (recV_one l)
def stQ (n : Nat) (bss : List (List UInt8)) (R0 : As) (v : Value) (M : List As) : Prop := ∃ A' m', v = .slice A' (stF n bss 0 []).length m' ∧ (stF n bss 0 []).length ≤ m' ∧ M = [Own 86 8 A' (stF n bss 0 []).length m' (recV (stF n bss 0 [])), R0]
section
variable {A : Option Addr} {n m : Nat} {bss : List (List UInt8)} {R0 : As} (hn : n = bss.length) (hn12 : n ≤ 12) (hb : ∀ b ∈ bss, b.length ≤ 1000) (hR : ∀ H, R0 H → Cells H A (strV bss))
include hn hn12 hb hR
theorem stands_j10 {A3 : Option Addr} {k m3 i b1 : Nat} {acc : List R} {x : R} {K : Value → Hp → Prop} {R3 : Option Addr → Nat → Nat → Option Addr → Nat → Nat → Int → Hp → Prop} (hk : k = acc.length) (hk12 : k ≤ 12) (hkm : k ≤ m3)
    (hR3 : ∀ A4 m4 H, k + 1 ≤ m4 → Hw.Sep [R0, Own 86 8 A4 (k + 1) m4 (recV (insR x acc))] H → R3 A n m A4 (k + 1) m4 (IntKind.i64.wrap ((i : Int) + 1)) H) {H : Hp}
    (hs : Hw.Sep [R0, Own 86 8 A3 k m3 (recV acc), pts b1 (recO x)] H) :
    W_abacistlaw21_stands.j10 K R3 A n m A3 k m3 (i : Int) ⟨b1, 0, none⟩ (posR x acc : Int) H := by
  have hp := posR_le x acc
  unfold W_abacistlaw21_stands.j10
  refine slB_to (r := posR x acc) rfl (by omega) ?_
  refine slB_from (l := posR x acc) rfl (by omega) ?_
  have hsrc1 : ∀ {L : List As} {H : Hp}, Hw.Sep (R0 :: Own 86 8 A3 k m3 (recV acc) :: L) H → srcCells H 8 (posR x acc - 0) (.slice (slA A3 m3 0 8) (posR x acc - 0) (m3 - 0)) = some (recV (acc.take (posR x acc))) := fun {L H} hs => by
    rw [own_src (hs.own 1 rfl) hkm (Nat.zero_le _) (by omega), Nat.zero_mul, List.drop_zero, Nat.sub_zero, recV_take]
  have hsrc2 : ∀ {L : List As} {H : Hp}, Hw.Sep (R0 :: Own 86 8 A3 k m3 (recV acc) :: L) H → srcCells H 8 (k - posR x acc) (.slice (slA A3 m3 (posR x acc) 8) (k - posR x acc) (m3 - posR x acc)) = some (recV (acc.drop (posR x acc))) := fun {L H} hs => by
    rw [own_src (hs.own 1 rfl) hkm (by omega) (Nat.le_refl _), recV_drop, List.take_of_length_le (by rw [recV_len, List.length_drop]; omega)]
  have ap1 : ∀ {T : List As} {H : Hp} {b : Nat} {K : Value → Hp → Prop}, Hw.Sep ([R0, Own 86 8 A3 k m3 (recV acc), pts b1 (recO x), pts b (.row [] 86 0)] ++ T) H →
      (∀ A8 m8 H, Hw.Sep ([R0, Own 86 8 A3 k m3 (recV acc), pts b1 (recO x), Own 86 8 A8 (posR x acc) m8 (recV (acc.take (posR x acc)))] ++ T) H → K (.slice A8 (posR x acc) m8) H) →
      AppK Tryz.prog 86 (.slice (some ⟨b, 0, none⟩) 0 0) (.slice (slA A3 m3 0 8) (posR x acc - 0) (m3 - 0)) H K := fun {T H b K} hs hk => by
    have hs := own_row hs 3 (n := 0) (s := 8) rfl rfl rfl
    refine Sep.app hs 3 (k := posR x acc) (ys := recV (acc.take (posR x acc))) rfl cell_rec rfl (by omega) (by omega) (by show some (posR x acc - 0) = _; rw [Nat.sub_zero]) (by have := hsrc1 hs; rwa [Nat.sub_zero] at this ⊢) (by rw [recV_len, List.length_take]; congr 1; omega) (recV_oneB _) (by omega) (by omega) fun A' m' H hs => ?_
    rw [Nat.zero_add] at hs ⊢
    exact hk _ _ _ hs
  have ap23 : ∀ {A8 : Option Addr} {m8 b3 : Nat} {H : Hp}, Hw.Sep [R0, Own 86 8 A3 k m3 (recV acc), pts b1 (recO x), Own 86 8 A8 (posR x acc) m8 (recV (acc.take (posR x acc))), pts b3 (.row x.c.toList 86 8)] H →
      AppK Tryz.prog 86 (.slice A8 (posR x acc) m8) (.slice (some ⟨b3, 0, none⟩) 1 1) H fun v17 H7 => DSl v17 fun A9 n13 m9 => AppK Tryz.prog 86 (.slice A9 n13 m9) (.slice (slA A3 m3 (posR x acc) 8) (k - posR x acc) (m3 - posR x acc)) H7 fun v18 H8 => DSl v18 fun A10 n14 m10 => R3 A n m A10 n14 m10 (IntKind.i64.wrap ((i : Int) + 1)) H8 := fun {A8 m8 b3 H} hs => by
    refine Sep.app hs 3 (k := 1) (ys := x.c.toList) rfl cell_rec rfl (by omega) (by omega) rfl ?_ rfl (recC_ok x) (by omega) (by omega) fun A9 m9 H hs => ?_
    · show H.cells? ⟨b3, 0, none⟩ 0 (1 * 8) = _
      rw [cells_row (hs.get 4 rfl) 0 8 0 (by show 0 + 0 + 8 ≤ 8; omega)]; rfl
    simp only [HV]
    refine AppK_cap ?_
    refine Sep.app hs 3 (k := k - posR x acc) (ys := recV (acc.drop (posR x acc))) rfl cell_rec rfl (by omega) (by omega) rfl (hsrc2 hs) (by rw [recV_len, List.length_drop]; congr 1; omega) (recV_oneB _) (by omega) (by omega) fun A10 m10 H hs hcap => ?_
    simp only [HV]
    have hc := hcap _ _ _ rfl
    have e1 : posR x acc + 1 + (k - posR x acc) = k + 1 := by omega
    have e2 : recV (acc.take (posR x acc)) ++ x.c.toList ++ recV (acc.drop (posR x acc)) = recV (insR x acc) := by
      unfold insR recV
      rw [List.flatMap_append, List.flatMap_cons, List.append_assoc]
    rw [e1] at hs hc ⊢
    rw [e2] at hs
    exact hR3 _ _ _ hc (hs.re [0, 3] rfl)
  repeat' first
    | exact ap23 hs
    | exact ap23 (hs.re [0, 1, 2, 4, 3] rfl)
    | (refine ap1 (T := []) hs ?_; intro A8 m8 H hs)
    | (refine ap1 (T := [_]) hs ?_; intro A8 m8 H hs)
    | (refine ap1 (T := [_]) (hs.re [0, 1, 2, 4, 3] rfl) ?_; intro A8 m8 H hs)
    | (refine hs.ldw 2 rfl rfl ?_; unfold R.c)
    | refine hs.nw fun b H hs => ?_
    | simp only [HV]
    | refine ⟨?_, ?_⟩
end
end Go.Proofs.YtnknippcbecmeaaGreatDoor.Eng
end
section
/- law 21: what stands (the loops); may, same. -/
namespace Go.Proofs.YtnknippcbecmeaaGreatDoor.Eng
open Go Go.Hw Go.Form W Dsk Str Rec Srt Rng
section
variable {A : Option Addr} {n m : Nat} {bss : List (List UInt8)} {R0 : As} (hn : n = bss.length) (hn12 : n ≤ 12) (hb : ∀ b ∈ bss, b.length ≤ 1000) (hR : ∀ H, R0 H → Cells H A (strV bss))
include hn hn12 hb hR
theorem stands_l8 {A3 : Option Addr} {k m3 i b1 : Nat} {acc : List R} {x : R} {K : Value → Hp → Prop} {R3 : Option Addr → Nat → Nat → Option Addr → Nat → Nat → Int → Hp → Prop} (hk : k = acc.length) (hk12 : k ≤ 12) (hkm : k ≤ m3)
    (hR3 : ∀ A4 m4 H, k + 1 ≤ m4 → Hw.Sep [R0, Own 86 8 A4 (k + 1) m4 (recV (insR x acc))] H → R3 A n m A4 (k + 1) m4 (IntKind.i64.wrap ((i : Int) + 1)) H) {H : Hp}
    (hs : Hw.Sep [R0, Own 86 8 A3 k m3 (recV acc), pts b1 (recO x)] H) : ∀ (t j : Nat), j + t = posR x acc →
    W_abacistlaw21_stands.l8 K R3 (t + 1) A n m A3 k m3 (i : Int) ⟨b1, 0, none⟩ (j : Int) H
  | 0, j, hj => by
    have hp := posR_le x acc
    have j10 := stands_j10 (i := i) (b1 := b1) (K := K) hn hn12 hb hR hk hk12 hkm hR3 hs
    unfold W_abacistlaw21_stands.l8
    obtain rfl : j = posR x acc := by omega
    by_cases hlt : posR x acc < acc.length
    · refine BIf_dpos (by omega) ?_
      refine (hs.own 1 rfl).rd rfl 0 (by omega) (recV_seq acc _ hlt) ?_
      simp only [HV]
      refine hs.ldf 2 (v := .int .u64 (x.s : Int)) rfl rfl ?_
      simp only [HV]
      have := posR_ge x acc hlt
      exact BIf_dneg (by omega) j10
    · exact BIf_dneg (by omega) j10
  | t + 1, j, hj => by
    have hp := posR_le x acc
    have hlt : j < acc.length := by omega
    unfold W_abacistlaw21_stands.l8
    refine BIf_dpos (by omega) ?_
    refine (hs.own 1 rfl).rd rfl 0 (by omega) (recV_seq acc _ hlt) ?_
    simp only [HV]
    refine hs.ldf 2 (v := .int .u64 (x.s : Int)) rfl rfl ?_
    simp only [HV]
    have := posR_lt x acc j (by omega) hlt
    refine BIf_dpos (by omega) ?_
    rw [i64w (x := (j : Int) + 1) (by omega) (by omega)]
    exact stands_l8 hk hk12 hkm hR3 hs t (j + 1) (by omega)
theorem stands_loop : ∀ (t i k : Nat) (acc : List R) (A3 : Option Addr) (m3 : Nat) (H : Hp), i + t = n → k = acc.length → k ≤ i → k ≤ m3 → stF n (bss.drop i) i acc = stF n bss 0 [] →
    Hw.Sep [R0, Own 86 8 A3 k m3 (recV acc)] H → W_abacistlaw21_stands.l3 (fun v H' => ∃ M, stQ n bss R0 v M ∧ Hw.Sep M H') (t + 1) A n m A3 k m3 (i : Int) H := fun t => by
  induction t with
  | zero =>
    intro i k acc A3 m3 H hi hk hki hkm hres hs
    rw [List.drop_eq_nil_of_le (by omega)] at hres
    have hres : acc = stF n bss 0 [] := hres
    unfold W_abacistlaw21_stands.l3
    refine BIf_dneg (by omega) ?_
    rw [hk, hres] at hs ⊢
    rw [hk, hres] at hkm
    exact ⟨_, ⟨A3, m3, rfl, hkm, rfl⟩, hs.re [1, 0] rfl⟩
  | succ t ih =>
    intro i k acc A3 m3 H hi hk hki hkm hres hs
    have hil : i < bss.length := by omega
    have hlen := hb _ (List.getElem_mem hil)
    rw [List.drop_eq_getElem_cons hil] at hres
    unfold W_abacistlaw21_stands.l3
    refine BIf_dpos (by omega) ?_
    have hc : Cells H A (strV bss) := by
      obtain ⟨H1, h1, hle⟩ := hs.see 0 rfl
      exact (hR H1 h1).le hle
    have hg : (strV bss)[i]? = some (.string ⟨(bss[i]'hil).toArray⟩) := by unfold strV; rw [List.getElem?_map, List.getElem?_eq_getElem hil]; rfl
    refine hc.read hg rfl (by unfold strV; rw [List.length_map]; omega) ?_
    simp only [HV]
    generalize bss[i]'hil = bs at hres hlen
    refine HCalls.use (rTake_ok bs (by omega) H) ?_
    simp only [HV]
    have hgood := takeV_good (bs := bs)
    have hres : stF n (bss.drop (i + 1)) (i + 1) (if (takeV bs).2 = 0 ∧ ((takeV bs).1.s - 1) % n = i then insR (takeV bs).1 acc else acc) = stF n bss 0 [] := hres
    generalize takeV bs = tv at *
    obtain ⟨q, e⟩ := tv
    simp only at hgood hres
    refine hs.nw fun b1 H hs => ?_
    refine hs.stw 2 (y := q.c) rfl rfl rfl (recC_ok q) fun H hs => ?_
    have hs : Hw.Sep [R0, Own 86 8 A3 k m3 (recV acc), pts b1 (recO q)] H := hs
    have next : stF n (bss.drop (i + 1)) (i + 1) acc = stF n bss 0 [] → W_abacistlaw21_stands.l3 (fun v H' => ∃ M, stQ n bss R0 v M ∧ Hw.Sep M H') (t + 1) A n m A3 k m3 (IntKind.i64.wrap ((i : Int) + 1)) H := fun h => by
      rw [i64w (x := (i : Int) + 1) (by omega) (by omega)]
      exact ih (i + 1) k acc A3 m3 H (by omega) hk (by omega) hkm h (hs.re [0, 1] rfl)
    by_cases he : e = 0
    · obtain ⟨s1, s2, _⟩ := hgood he
      refine BIf_bnen he ?_
      refine hs.ldf 2 (v := .int .u64 (q.s : Int)) rfl rfl ?_
      simp only [HV]
      have e1 : IntKind.i64.wrap (Int.tmod (IntKind.u64.wrap ((q.s : Int) - 1)) (IntKind.u64.wrap ((n : Nat) : Int))) = (((q.s - 1) % n : Nat) : Int) := by
        rw [u64n (n := n) (by omega), show (q.s : Int) - 1 = ((q.s - 1 : Nat) : Int) by omega, u64n (n := q.s - 1) (by omega), show Int.tmod ((q.s - 1 : Nat) : Int) (n : Int) = (((q.s - 1) % n : Nat) : Int) from rfl, i64n]
        have := Nat.mod_le (q.s - 1) n
        omega
      rw [e1]
      refine ⟨by rw [u64n (n := n) (by omega)]; omega, by simp, ?_⟩
      by_cases hsl : (q.s - 1) % n = i
      · rw [if_pos ⟨he, hsl⟩] at hres
        refine BIf_bnen (by omega) ⟨posR q acc + 1, ?_⟩
        refine stands_l8 hn hn12 hb hR hk (by omega) hkm (fun A4 m4 H hm4 hs => ?_) hs (posR q acc) 0 (by omega)
        rw [i64w (x := (i : Int) + 1) (by omega) (by omega)]
        exact ih (i + 1) (k + 1) (insR q acc) A4 m4 H (by omega) (by rw [insR_len, hk]) (by omega) hm4 hres hs
      · rw [if_neg (fun h => hsl h.2)] at hres
        exact BIf_bnep (by omega) (next hres)
    · rw [if_neg (fun h => he h.1)] at hres
      exact BIf_bnep he (next hres)
theorem stands_tr : Tr Tryz.prog 24 #[.slice A n m] [R0] (stQ n bss R0) := fun H hs => by
  apply W_abacistlaw21_stands.ok
  unfold W_abacistlaw21_stands
  have hs : Hw.Sep (Own 86 8 .none 0 0 (recV []) :: [R0]) H := ⟨fun _ => none, H, fun _ _ h => (nomatch h), Hp.le_refl _, fun _ => .inl rfl, Own.none _ _ _, hs⟩
  exact ⟨n + 1, stands_loop hn hn12 hb hR n 0 0 [] .none 0 H (by omega) rfl (by omega) (by omega) rfl (hs.re [1, 0] rfl)⟩
end
theorem lda_rec {H : Hp} {A : Option Addr} {l : List R} (h : Cells H A (recV l)) {x : Int} {j n : Nat} (hx : x = j) (hn : n = l.length) (hj : j < l.length) {K : List Value → Prop} (k : K (l[j]).c.toList) : ixI x n (NN A fun a => LdA H (a.add (x.toNat * 8)) 8 K) := by
  subst hx
  refine ⟨by omega, by omega, ?_⟩
  have h0 := recV_seq l j hj
  obtain ⟨a, rfl, _⟩ := h _ _ h0
  show LdA H _ 8 K
  have hc : Cells H (some (a.add (j * 8))) (l[j]).c.toList := by
    intro i v hv
    refine ⟨_, rfl, ?_⟩
    rw [← recV_get l j hj] at hv
    rw [List.getElem?_take] at hv
    split at hv
    · rw [List.getElem?_drop] at hv
      obtain ⟨a', ha', h1⟩ := h _ _ hv
      cases ha'
      rw [add_add]; exact h1
    · cases hv
  rw [Int.toNat_natCast]
  unfold LdA
  have hr : (l[j]).c.toList.length = 8 := rfl
  have := hc.cells?
  rw [hr] at this
  rw [this]
  exact k
theorem same_loop (H : Hp) {A B : Option Addr} {n m m' : Nat} {l : List R} (hn : n = l.length) (hl : n ≤ 1000000) (hw : ∀ r ∈ l, r.wf) (ha : Cells H A (recV l)) (hb : Cells H B (recV l)) :
    ∀ (t i : Nat), i + t = n → W_abacistlaw21_same.l4 (RetE (.bool true) H) (t + 1) A n m B n m' (i : Int) H
  | 0, i, h => by
    unfold W_abacistlaw21_same.l4
    exact BIf_dneg (by omega) (RetE.mk _ _)
  | t + 1, i, h => by
    unfold W_abacistlaw21_same.l4
    refine BIf_dpos (by omega) ?_
    have hil : i < l.length := by omega
    refine lda_rec ha rfl hn hil ?_
    refine lda_rec hb rfl hn hil ?_
    try simp only [Array.toArray_toList]
    have hwi := hw _ (List.getElem_mem hil)
    refine rec_neq hwi hwi true (by simp) ?_
    refine BIf_neg rfl ?_
    rw [i64w (x := (i : Int) + 1) (by omega) (by omega)]
    exact same_loop H hn hl hw ha hb t (i + 1) (by omega)
theorem same_ok {A B : Option Addr} {n n' m m' : Nat} {l : List R} (hn : n = l.length) (hn' : n' = l.length) (hl : n ≤ 1000000) (hw : ∀ r ∈ l, r.wf) (H : Hp) (ha : Cells H A (recV l)) (hb : Cells H B (recV l)) :
    HCalls Tryz.prog 29 #[.slice A n m, .slice B n' m'] H (RetE (.bool true) H) := by
  obtain rfl : n' = n := by omega
  apply W_abacistlaw21_same.ok
  unfold W_abacistlaw21_same
  exact BIf_bnen rfl ⟨n' + 1, same_loop H hn hl hw ha hb n' 0 (by omega)⟩
theorem may_ok {A : Option Addr} {n m : Nat} {l : List R} (hn : n = l.length) (hl : n ≤ 1000000) (r : R) (H : Hp) (ha : Cells H A (recV l)) :
    HCalls Tryz.prog 28 #[.slice A n m, .agg r.c] H (RetE (.bool (mayB l.getLast? r)) H) := HCalls.ret (by
  apply W_abacistlaw21_may.ok
  unfold W_abacistlaw21_may
  refine (Sep.start H).nw fun b1 H1 hs => ?_
  have hs : Hw.Sep [own H, pts b1 (recO r)] H1 := hs
  cases l with
  | nil =>
    have hn : n = 0 := hn
    subst hn
    refine BIf_beqp rfl ?_
    refine hs.ldf 1 (v := .int .u64 (r.s : Int)) rfl rfl ?_
    simp only [HV]
    by_cases h1 : r.s = 1
    · refine BIf_beqp (by omega) ?_
      refine hs.ldf 1 (v := .int .i64 r.kd) rfl rfl ?_
      simp only [HV]
      have e : (r.kd == (1 : Int)) = mayB ([] : List R).getLast? r := by
        show _ = decide (r.s = 1 ∧ r.kd = 1)
        by_cases h2 : r.kd = 1
        · rw [decide_eq_true ⟨h1, h2⟩, h2]; rfl
        · rw [decide_eq_false (fun h => h2 h.2)]; simp [h2]
      rw [e]
      exact hs.fin 0 rfl _
    · refine BIf_beqn (by omega) ?_
      have e : mayB ([] : List R).getLast? r = false := decide_eq_false (fun h => h1 h.1)
      rw [e]
      exact hs.fin 0 rfl _
  | cons q t =>
    have hnl : n = t.length + 1 := hn
    have hlt : n - 1 < (q :: t).length := by rw [← hn]; omega
    refine BIf_beqn (by omega) ?_
    have e1 : IntKind.i64.wrap ((n : Int) - 1) = ((n - 1 : Nat) : Int) := by rw [i64w (by omega) (by omega)]; omega
    rw [e1]
    refine lda_rec (ha.le (hs.ow 0 rfl)) rfl hn hlt ?_
    refine hs.ldw 1 rfl rfl ?_
    try simp only [Array.toArray_toList]
    refine QCall.use (rAfter_ok _ r H1) ?_
    simp only [HV]
    have e : (q :: t).getLast? = some ((q :: t)[n - 1]'hlt) := by rw [List.getLast?_eq_getElem?, ← hn, List.getElem?_eq_getElem hlt]
    rw [e]
    exact hs.fin 0 rfl _)
theorem fold_perm : ∀ (L acc : List R), (L.foldl (fun a x => insR x a) acc).Perm (L ++ acc)
  | [], acc => List.Perm.refl _
  | x :: L, acc => by
    refine (fold_perm L (insR x acc)).trans ?_
    refine ((insR_perm x acc).append_left L).trans ?_
    exact List.perm_middle
theorem fold_rise : ∀ (L acc : List R), (L ++ acc).Pairwise (fun a b => a.s ≠ b.s) → acc.Pairwise (fun a b => a.s < b.s) → (L.foldl (fun a x => insR x a) acc).Pairwise fun a b => a.s < b.s
  | [], acc, _, h => h
  | x :: L, acc, hd, h => by
    have hd' : (x :: (L ++ acc)).Pairwise (fun a b => a.s ≠ b.s) := hd
    obtain ⟨h1, h2⟩ := List.pairwise_cons.1 hd'
    refine fold_rise L (insR x acc) ?_ (insR_rise x acc h fun y hy => (h1 y (List.mem_append_right _ hy)).symm)
    have hp : (L ++ insR x acc).Perm (x :: (L ++ acc)) := ((insR_perm x acc).append_left L).trans List.perm_middle
    exact (List.Perm.pairwise_iff (fun {a b} h => h.symm) hp).2 hd'
theorem stF_fold (c : Cn) (n : Nat) : ∀ (k i : Nat) (acc : List R), stF n (slC c 1 k i) i acc = (stC c 1 n k i).foldl (fun a x => insR x a) acc
  | 0, i, acc => rfl
  | k + 1, i, acc => by
    show stF n (slC c 1 k (i + 1)) (i + 1) _ = (stand 1 n (c ((1 + i : Nat) : Int)) i ++ stC c 1 n k (i + 1)).foldl _ _
    rw [stF_fold c n k (i + 1), List.foldl_append]
    congr 1
    unfold stand slotN
    by_cases h : (takeV (c ((1 + i : Nat) : Int))).2 = 0 ∧ ((takeV (c ((1 + i : Nat) : Int))).1.s - 1) % n = i
    · rw [if_pos h, if_pos ⟨h.1, by omega⟩]; rfl
    · rw [if_neg h, if_neg (fun h' => h ⟨h'.1, by omega⟩)]; rfl
theorem stC_apart (c : Cn) (n : Nat) : ∀ k i, (stC c 1 n k i).Pairwise fun a b => a.s ≠ b.s
  | 0, i => List.Pairwise.nil
  | k + 1, i => by
    show (stand 1 n (c ((1 + i : Nat) : Int)) i ++ stC c 1 n k (i + 1)).Pairwise _
    rw [List.pairwise_append]
    refine ⟨?_, stC_apart c n k (i + 1), fun a ha b hb e => ?_⟩
    · unfold stand; split <;> simp
    · obtain ⟨_, h1, _⟩ := stand_mem.1 ha
      obtain ⟨j, hj, _, h2⟩ := (stC_mem c 1 n b k (i + 1)).1 hb
      obtain ⟨_, h3, _⟩ := stand_mem.1 h2
      rw [e] at h1
      omega
def riL (c : Cn) (n : Nat) : List R := isort (stC c 1 n n 0) ((stC c 1 n n 0).length - 1)
theorem riL_perm (c : Cn) (n : Nat) : (riL c n).Perm (stC c 1 n n 0) := isort_all _
theorem riL_rise (c : Cn) (n : Nat) : (riL c n).Pairwise fun a b => a.s < b.s := by
  have h1 := isort_sorted (stC c 1 n n 0)
  have h2 : (riL c n).Pairwise fun a b => a.s ≠ b.s := (List.Perm.pairwise_iff (fun {a b} h => h.symm) (riL_perm c n)).2 (stC_apart c n n 0)
  exact (h1.and h2).imp fun {a b} h => by
    have h3 : a.s ≤ b.s := h.1
    have := h.2
    omega
theorem stF_ri (c : Cn) (n : Nat) : stF n (slC c 1 n 0) 0 [] = riL c n := by
  rw [stF_fold]
  refine rise_uniq _ _ (fold_rise _ _ (by rw [List.append_nil]; exact stC_apart c n n 0) List.Pairwise.nil) (riL_rise c n) ?_
  have := fold_perm (stC c 1 n n 0) []
  rw [List.append_nil] at this
  exact this.trans (riL_perm c n).symm
theorem riL_last (c : Cn) (n : Nat) : (riL c n).getLast? = lastC c 1 n := rfl
theorem riL_len (c : Cn) (n : Nat) : (riL c n).length ≤ n := by
  rw [(riL_perm c n).length_eq]; exact stC_len c 1 n n 0
theorem riL_wf (c : Cn) (n : Nat) : ∀ r ∈ riL c n, r.wf := fun r hr => by
  have hm := (riL_perm c n).mem_iff.1 hr
  obtain ⟨j, _, _, h3⟩ := (stC_mem c 1 n r n 0).1 hm
  obtain ⟨_, _, h5⟩ := stand_mem.1 h3
  rw [h5]; exact takeV_wf _
end Go.Proofs.YtnknippcbecmeaaGreatDoor.Eng
end
section
/- law 21: all looks agree. -/
namespace Go.Proofs.YtnknippcbecmeaaGreatDoor.Eng
open Go Go.Hw Go.Form W Dsk Str Rec Srt Rng
theorem chF_in (l : List R) : ∀ (j i : Nat), chF l j ≤ i → i < j → after (l.getD i dR) (l.getD (i + 1) dR)
  | 0, i, _, h => by omega
  | j + 1, i, h1, h2 => by
    unfold chF at h1
    split at h1
    · rename_i ha
      by_cases e : i = j
      · rw [e]; exact ha
      · exact chF_in l j i h1 (by omega)
    · omega
theorem chF_out (l : List R) : ∀ j : Nat, 0 < chF l j → ¬ after (l.getD (chF l j - 1) dR) (l.getD (chF l j) dR)
  | 0, h => by cases h
  | j + 1, h => by
    unfold chF at h ⊢
    by_cases ha : after (l.getD j dR) (l.getD (j + 1) dR)
    · rw [if_pos ha] at h ⊢; exact chF_out l j h
    · rw [if_neg ha]; exact ha
def ChOk (l : List R) (fr : Nat) : Prop := (∀ i, fr ≤ i → i < l.length - 1 → after (l.getD i dR) (l.getD (i + 1) dR)) ∧ (0 < fr → ¬ after (l.getD (fr - 1) dR) (l.getD fr dR))
theorem own_from {H : Hp} {e : TypeId} {s : Nat} {A : Option Addr} {n m : Nat} {xs : List Value} (h : Own e s A n m xs H) {l : Nat} (hl : l ≤ n) (hm : n ≤ m) : Cells H (slA A m l s) (xs.drop (l * s)) := by
  obtain ⟨h1, ⟨rfl, rfl, rfl⟩ | ⟨b, mm, rfl, h4, h5⟩⟩ := h
  · obtain rfl : l = 0 := by omega
    rw [Nat.zero_mul] at h1
    rw [List.length_eq_zero_iff.1 h1, List.drop_nil]
    exact Cells.nil _ _
  · unfold slA
    split
    · rename_i he
      rw [List.drop_eq_nil_of_le]
      · exact Cells.nil _ _
      · rw [h1]; exact Nat.mul_le_mul_right s (by omega)
    · show Cells H (some ((⟨b, 0, none⟩ : Addr).add (l * s))) _
      rw [Addr.add_lit', Nat.zero_add]
      have := Cells.row h4 (l * s) (xs.length - l * s)
      rwa [List.take_of_length_le (by rw [List.length_drop]; omega)] at this
theorem own_cell {e : TypeId} {s : Nat} {A : Option Addr} {n m : Nat} {xs : List Value} {H : Hp} (h : Own e s A n m xs H) : Cells H A xs := by
  obtain ⟨h1, ⟨rfl, rfl, rfl⟩ | ⟨b, mm, rfl, h4, _⟩⟩ := h
  · rw [Nat.zero_mul] at h1
    rw [List.length_eq_zero_iff.1 h1]
    exact Cells.nil _ _
  · have := Cells.row h4 0 xs.length
    rwa [List.drop_zero, List.take_length] at this
abbrev extO (nn : Nat) : AO := .obj (.cells #[.int .i64 1, .int .i64 (nn : Int), .int .i64 0] 30)
theorem lastC_some {c : Cn} {n : Nat} : (lastC c 1 n).isSome = decide (((riL c n).length : Int) > 0) := by
  rw [← riL_last]
  cases h : riL c n with
  | nil => rfl
  | cons q t =>
    rw [List.getLast?_eq_getElem?, List.getElem?_eq_getElem (by simp)]
    simp
section
variable {K : Value → Hp → Prop} {R13 : Option Addr → Nat → Nat → Option Addr → Addr → Option Addr → Int → Hp → Prop} {H0 : Hp} {p b b1 nn : Nat} (hnn : 2 ≤ nn ∧ nn ≤ 6) {A : Option Addr} {n m j : Nat} {c : Cn}
include hnn
theorem plays_l50 {H : Hp} {A1 A2 : Option Addr} {m1 m2 fr : Nat} (hfr : fr = chF (riL c nn) ((riL c nn).length - 1)) (h1 : Cells H A1 (recV (riL c nn))) (h2 : Cells H A2 (recV ((riL c nn).drop fr)))
    (go : R13 A n m (some ⟨p, 0, none⟩) ⟨b1, 0, none⟩ (some ⟨b, 0, none⟩) (IntKind.i64.wrap ((j : Int) + 1)) H) :
    ∀ (t i : Nat), 1 ≤ i → (riL c nn).length - fr ≤ i + t → W_abacistlaw21_RingPlays.l50 K R13 (t + 1) A n m (some ⟨p, 0, none⟩) ⟨b1, 0, none⟩ (some ⟨b, 0, none⟩) (j : Int) A1 (riL c nn).length m1 A2 ((riL c nn).length - fr) m2 (i : Int) H := fun t => by
  have hle := chF_le (riL c nn) ((riL c nn).length - 1)
  have hlen := riL_len c nn
  have hio : ChOk (riL c nn) fr := by
    rw [hfr]; exact ⟨chF_in (riL c nn) ((riL c nn).length - 1), chF_out (riL c nn) ((riL c nn).length - 1)⟩
  rw [← hfr] at hle
  clear hfr
  generalize riL c nn = l at *
  have stop : ∀ i : Nat, 1 ≤ i → l.length - fr ≤ i → ∀ t, W_abacistlaw21_RingPlays.l50 K R13 (t + 1) A n m (some ⟨p, 0, none⟩) ⟨b1, 0, none⟩ (some ⟨b, 0, none⟩) (j : Int) A1 l.length m1 A2 (l.length - fr) m2 (i : Int) H := fun i hi hd t => by
    unfold W_abacistlaw21_RingPlays.l50
    refine BIf_dneg (by omega) ?_
    have e1 : IntKind.i64.wrap (((l.length : Nat) : Int) - ((l.length - fr : Nat) : Int)) = (fr : Int) := by rw [i64w (by omega) (by omega)]; omega
    rw [e1]
    by_cases hz : (fr : Int) > 0
    · refine BIf_dpos hz ?_
      have e2 : IntKind.i64.wrap ((fr : Int) - 1) = ((fr - 1 : Nat) : Int) := by rw [i64w (by omega) (by omega)]; omega
      rw [e2]
      have hf0 : fr - 1 < l.length := by omega
      have hf1 : fr < l.length := by omega
      refine lda_rec h1 rfl rfl hf0 ?_
      refine lda_rec h1 rfl rfl hf1 ?_
      try simp only [Array.toArray_toList]
      refine QCall.use (rAfter_ok _ _ H) ?_
      simp only [HV]
      have hno := hio.2 (Int.natCast_pos.1 hz)
      rw [getD_at l hf0, getD_at l hf1] at hno
      rw [decide_eq_false hno]
      exact BIf_neg rfl go
    · exact BIf_dneg hz go
  induction t with
  | zero => exact fun i hi hd => stop i hi (by omega) 0
  | succ t ih =>
    intro i hi hd
    by_cases hd2 : l.length - fr ≤ i
    · exact stop i hi hd2 (t + 1)
    · unfold W_abacistlaw21_RingPlays.l50
      refine BIf_dpos (by omega) ?_
      have e2 : IntKind.i64.wrap ((i : Int) - 1) = ((i - 1 : Nat) : Int) := by rw [i64w (by omega) (by omega)]; omega
      rw [e2]
      have hdl : (l.drop fr).length = l.length - fr := List.length_drop ..
      have hf0 : i - 1 < (l.drop fr).length := by omega
      have hf1 : i < (l.drop fr).length := by omega
      refine lda_rec h2 rfl hdl.symm hf0 ?_
      refine lda_rec h2 rfl hdl.symm hf1 ?_
      try simp only [Array.toArray_toList]
      refine QCall.use (rAfter_ok _ _ H) ?_
      simp only [HV]
      have hf2 : fr + (i - 1) < l.length - 1 := by omega
      have hf3 : fr + (i - 1) < l.length := by omega
      have hf4 : fr + i < l.length := by omega
      have hf5 : fr + (i - 1) + 1 = fr + i := by omega
      have hyes := hio.1 (fr + (i - 1)) (Nat.le_add_right _ _) hf2
      rw [hf5, getD_at l hf3, getD_at l hf4] at hyes
      rw [List.getElem_drop, List.getElem_drop, decide_eq_true hyes]
      refine BIf_neg rfl ?_
      clear hyes
      rw [i64w (x := (i : Int) + 1) (by omega) (by omega)]
      exact ih (i + 1) (by omega) (by omega)
theorem plays_j43 {d : D} (hS : Shows d c) (h1 : d.sec = 10) (h2 : d.size = 32) (hB : d.rd ≤ 100000) {H : Hp}
    (go : ∀ d' H, Shows d' c → Upto d d' 30 → Hw.Sep [own H0, Dk p d', pts b (ringO p 1 nn 0), pts b1 (extO nn)] H → R13 A n m (some ⟨p, 0, none⟩) ⟨b1, 0, none⟩ (some ⟨b, 0, none⟩) (IntKind.i64.wrap ((j : Int) + 1)) H)
    (hs : Hw.Sep [own H0, Dk p d, pts b (ringO p 1 nn 0), pts b1 (extO nn)] H) :
    W_abacistlaw21_RingPlays.j43 K R13 A n m (some ⟨p, 0, none⟩) ⟨b1, 0, none⟩ (some ⟨b, 0, none⟩) (j : Int) H := by
  have hlen := riL_len c nn
  have hwf := riL_wf c nn
  have hfle := chF_le (riL c nn) ((riL c nn).length - 1)
  unfold W_abacistlaw21_RingPlays.j43
  refine hs.ldw 3 rfl rfl ?_
  try simp only [Array.toArray_toList]
  refine (slots_tr (p := p) (nn := nn) (w := 0) hS (by omega) (by omega) h2).use hs [1] rfl rfl ?_
  rintro _ _ H ⟨A48, m48, rfl, rfl⟩ hs
  simp only [HV]
  have hlb : ∀ x ∈ slC c 1 nn 0, x.length ≤ 1000 := by
    have hl : ∀ k i, ∀ x ∈ slC c 1 k i, x.length ≤ 1000 := fun k => by
      induction k with
      | zero => intro i x hx; cases hx
      | succ k ih =>
        intro i x hx
        rcases List.mem_cons.1 hx with rfl | hx
        · rw [← hS.now, hS.ok.now, h2]; omega
        · exact ih (i + 1) x hx
    exact hl nn 0
  refine (stands_tr (A := A48) (n := nn) (m := m48) (bss := slC c 1 nn 0) (R0 := Own 9 1 A48 nn m48 (strV (slC c 1 nn 0))) (slC_len c 1 nn 0).symm (by omega) hlb (fun H h => own_cell h)).use hs [0] rfl rfl ?_
  rintro _ _ H ⟨A49, m49, rfl, hm49, rfl⟩ hs
  simp only [HV]
  rw [stF_ri] at hs hm49 ⊢
  have hs : Hw.Sep [Own 86 8 A49 (riL c nn).length m49 (recV (riL c nn)), Own 9 1 A48 nn m48 (strV (slC c 1 nn 0)), Dk p (D.rdN d nn), own H0, pts b (ringO p 1 nn 0), pts b1 (extO nn)] H := hs
  have hS1 := hS.rdN nn
  have hr1 : (D.rdN d nn).rd = d.rd + nn := rfl
  have hsc1 := scanA_shows hS1 1 nn (by show _ ≤ d.sec; omega)
  have h12 : (stC c 1 nn nn 0).length ≤ 12 := by have := stC_len c 1 nn nn 0; omega
  refine (Scan_tr (b := b) (p := p) (f := 1) (n := nn) (w := 0) (d := D.rdN d nn) (by omega) (by omega) hS1.ok (by omega) (fun _ => by rw [hsc1]; exact h12)).use hs [2, 4] rfl rfl ?_
  rw [hsc1]
  rintro _ _ H ⟨A50, m50, rfl, rfl, _⟩ hs
  simp only [HV]
  have hlp : (stC c 1 nn nn 0).length = (riL c nn).length := (riL_perm c nn).length_eq.symm
  have hS2 := hS1.rdN nn
  have hr2 : (D.rdN (D.rdN d nn) nn).rd = d.rd + nn + nn := rfl
  have hsc2 := scanA_shows hS2 1 nn (by show _ ≤ d.sec; omega)
  have hs : Hw.Sep [Dk p (D.rdN (D.rdN d nn) nn), pts b (ringO p 1 nn 0), Own 86 8 A50 (stC c 1 nn nn 0).length m50 (recV (riL c nn)), Own 86 8 A49 (riL c nn).length m49 (recV (riL c nn)), Own 9 1 A48 nn m48 (strV (slC c 1 nn 0)), own H0, pts b1 (extO nn)] H := hs
  refine (Chain_tr (b := b) (p := p) (f := 1) (n := nn) (w := 0) (d := D.rdN (D.rdN d nn) nn) (by omega) (by omega) hS2.ok (by omega) (fun _ => by rw [hsc2]; exact h12)).use hs [0, 1] rfl rfl ?_
  rw [hsc2]
  rintro _ _ H ⟨A51, m51, rfl, rfl, hm51⟩ hs
  simp only [HV]
  have hS3 := hS2.rdN nn
  have hr3 : (D.rdN (D.rdN (D.rdN d nn) nn) nn).rd = d.rd + nn + nn + nn := rfl
  have hsc3 := scanA_shows hS3 1 nn (by show _ ≤ d.sec; omega)
  have hs : Hw.Sep [Dk p (D.rdN (D.rdN (D.rdN d nn) nn) nn), pts b (ringO p 1 nn 0), Own 86 8 A51 (stC c 1 nn nn 0).length m51 (recV (riL c nn)), Own 86 8 A50 (stC c 1 nn nn 0).length m50 (recV (riL c nn)), Own 86 8 A49 (riL c nn).length m49 (recV (riL c nn)), Own 9 1 A48 nn m48 (strV (slC c 1 nn 0)), own H0, pts b1 (extO nn)] H := hs
  refine (Last_tr (b := b) (p := p) (f := 1) (n := nn) (w := 0) (d := D.rdN (D.rdN (D.rdN d nn) nn) nn) (by omega) (by omega) hS3.ok (by omega) (fun _ => by rw [hsc3]; exact h12)).use hs [0, 1] rfl rfl ?_
  rw [hsc3]
  rintro _ _ H ⟨rfl, rfl⟩ hs
  rw [lastC_eq]
  simp only [HV]
  have hS4 := hS3.rdN nn
  have hup : Upto d (D.rdN (D.rdN (D.rdN (D.rdN d nn) nn) nn) nn) 30 := ((((Upto.rdN d nn).trans (Upto.rdN _ nn)).trans (Upto.rdN _ nn)).trans (Upto.rdN _ nn)).more (by omega)
  generalize D.rdN (D.rdN (D.rdN (D.rdN d nn) nn) nn) nn = d4 at hs hS4 hup
  refine hs.nw fun b4 H hs => ?_
  refine hs.stw 8 (y := ((lastC c 1 nn).getD zeroR).c) rfl rfl rfl (recC_ok _) fun H hs => ?_
  have hfold : isort (stC c 1 nn nn 0) ((stC c 1 nn nn 0).length - 1) = riL c nn := rfl
  rw [hfold, hlp] at *
  have hs : Hw.Sep [Dk p d4, pts b (ringO p 1 nn 0), Own 86 8 A51 (riL c nn).length m51 (recV (riL c nn)), Own 86 8 A50 (riL c nn).length m50 (recV (riL c nn)), Own 86 8 A49 (riL c nn).length m49 (recV (riL c nn)), Own 9 1 A48 nn m48 (strV (slC c 1 nn 0)), own H0, pts b1 (extO nn), pts b4 (recO ((lastC c 1 nn).getD zeroR))] H := hs
  refine BIf_bnen rfl (BIf_bnen rfl (BIf_bnen rfl ?_))
  refine QCall.use (same_ok rfl rfl (by omega) hwf H (own_cell (hs.own 3 rfl)) (own_cell (hs.own 4 rfl))) ?_
  simp only [HV]
  rw [lastC_some]
  refine BIf_neg (by simp) ?_
  have hgo := go d4 H hS4 hup (hs.re [6, 0, 1, 7] rfl)
  obtain ⟨fr, hfr⟩ : ∃ fr, fr = chF (riL c nn) ((riL c nn).length - 1) := ⟨_, rfl⟩
  rw [← hfr] at hfle ⊢
  have j49 : W_abacistlaw21_RingPlays.j49 K R13 A n m (some ⟨p, 0, none⟩) ⟨b1, 0, none⟩ (some ⟨b, 0, none⟩) (j : Int) A49 (riL c nn).length m49 (slA A51 m51 fr 8) ((riL c nn).length - fr) (m51 - fr) H := by
    unfold W_abacistlaw21_RingPlays.j49
    refine ⟨(riL c nn).length + 1, ?_⟩
    refine plays_l50 (c := c) hnn hfr (own_cell (hs.own 4 rfl)) ?_ hgo (riL c nn).length 1 (by omega) (by omega)
    have := own_from (hs.own 2 rfl) (l := fr) (by omega) hm51
    rwa [recV_drop] at this
  have e1 : IntKind.i64.wrap (((riL c nn).length : Int) - (((riL c nn).length - fr : Nat) : Int)) = (fr : Int) := by rw [i64w (by omega) (by omega)]; omega
  have hsame : ∀ (K : Value → Prop), K (.bool true) → QCall Tryz.prog 29 #[.slice (slA A51 m51 fr 8) ((riL c nn).length - fr) (m51 - fr), .slice (slA A49 m49 fr 8) ((riL c nn).length - fr) (m49 - fr)] H K := fun K k => by
    have hdl : ((riL c nn).drop fr).length = (riL c nn).length - fr := List.length_drop ..
    have c1 := own_from (hs.own 2 rfl) (l := fr) (by omega) hm51
    have c2 := own_from (hs.own 4 rfl) (l := fr) (by omega) hm49
    rw [recV_drop] at c1 c2
    exact QCall.use (same_ok hdl.symm hdl.symm (by omega) (fun r hr => hwf r (List.mem_of_mem_drop hr)) H c1 c2) k
  rw [e1]
  by_cases hN : ((riL c nn).length : Int) > 0
  · refine BIf_dpos hN ?_
    refine hs.ldw 8 rfl rfl ?_
    have hl1 : (riL c nn).length - 1 < (riL c nn).length := by omega
    have e2 : IntKind.i64.wrap (((riL c nn).length : Int) - 1) = (((riL c nn).length - 1 : Nat) : Int) := by rw [i64w (by omega) (by omega)]; omega
    rw [e2]
    refine lda_rec (own_cell (hs.own 4 rfl)) rfl rfl hl1 ?_
    try simp only [Array.toArray_toList]
    have e3 : (lastC c 1 nn).getD zeroR = (riL c nn)[(riL c nn).length - 1]'hl1 := by rw [← riL_last, List.getLast?_eq_getElem?, List.getElem?_eq_getElem hl1]; rfl
    rw [e3]
    have hwl := hwf _ (List.getElem_mem hl1)
    refine rec_neq hwl hwl true (by simp) ?_
    refine BIf_neg rfl (BIf_dneg (by omega) (BIf_dpos hN (BIf_beqn (by omega) ?_)))
    refine slB_from (l := fr) rfl (by omega) ?_
    refine hsame _ ?_
    simp only [HV]
    exact j49
  · refine BIf_dneg hN (BIf_dneg (by omega) (BIf_dneg hN ?_))
    refine slB_from (l := fr) rfl (by omega) ?_
    refine hsame _ ?_
    simp only [HV]
    exact j49
end
end Go.Proofs.YtnknippcbecmeaaGreatDoor.Eng
end
section
/- law 21: RingPlays. -/
namespace Go.Proofs.YtnknippcbecmeaaGreatDoor.Eng
open Go Go.Hw Go.Form W Dsk Str Rec Srt Rng
theorem rest_go' {is : List Nat} : ∀ (L : List As) (k : Nat), (∀ i ∈ is, i < k) → Hw.rest.go is k L = L
  | [], _, _ => rfl
  | A :: L, k, h => by
    unfold Hw.rest.go
    have hc : is.contains k = false := by
      rw [Bool.eq_false_iff]
      intro hc
      have := h k (by simpa using hc)
      omega
    rw [hc]
    show A :: _ = _
    rw [rest_go' L (k + 1) fun i hi => Nat.lt_succ_of_lt (h i hi)]
theorem rest_0 (A : As) (L : List As) : Hw.rest (A :: L) [0] = L := rest_go' L 1 (by simp)
theorem slC_short {d : D} {c : Cn} (hS : Shows d c) (h2 : d.size = 32) : ∀ k i, ∀ x ∈ slC c 1 k i, x.length ≤ 1000
  | 0, i, x, hx => by cases hx
  | k + 1, i, x, hx => by
    rcases List.mem_cons.1 hx with rfl | hx
    · rw [← hS.now, hS.ok.now, h2]; omega
    · exact slC_short hS h2 k (i + 1) x hx
theorem look {p nn : Nat} (hnn : 2 ≤ nn ∧ nn ≤ 6) {d : D} {c : Cn} (hS : Shows d c) (h1 : d.sec = 10) (h2 : d.size = 32) (hB : d.rd ≤ 100000) {L : List As} {H : Hp} (hs : Hw.Sep (Dk p d :: L) H) {F : Option Addr → Nat → Nat → Hp → Prop}
    (k : ∀ A m H, (riL c nn).length ≤ m → Hw.Sep (Own 86 8 A (riL c nn).length m (recV (riL c nn)) :: Dk p (D.rdN d nn) :: L) H → F A (riL c nn).length m H) :
    HCalls Tryz.prog 25 #[.pointer (some ⟨p, 0, none⟩), .agg #[.int .i64 1, .int .i64 (nn : Int), .int .i64 0]] H fun v H' => DSl v fun A n m => HCalls Tryz.prog 24 #[.slice A n m] H' fun v' H'' => DSl v' fun A' n' m' => F A' n' m' H'' := by
  refine (slots_tr (p := p) (nn := nn) (w := 0) hS (by omega) (by omega) h2).use hs [0] rfl rfl ?_
  rintro _ _ H ⟨A48, m48, rfl, rfl⟩ hs
  rw [rest_0] at hs
  simp only [HV]
  refine (stands_tr (A := A48) (n := nn) (m := m48) (bss := slC c 1 nn 0) (R0 := Own 9 1 A48 nn m48 (strV (slC c 1 nn 0))) (slC_len c 1 nn 0).symm (by omega) (slC_short hS h2 nn 0) (fun H h => own_cell h)).use hs [0] rfl rfl ?_
  rintro _ _ H ⟨A49, m49, rfl, hm49, rfl⟩ hs
  have hr : Hw.rest ([Own 9 1 A48 nn m48 (strV (slC c 1 nn 0)), Dk p (D.rdN d nn)] ++ L) [0] = Dk p (D.rdN d nn) :: L := rest_0 _ _
  rw [hr, stF_ri] at hs
  simp only [HV]
  rw [stF_ri] at hm49 ⊢
  refine k A49 m49 H hm49 ?_
  have h3 : Hw.Sep ([Own 9 1 A48 nn m48 (strV (slC c 1 nn 0))] ++ (Own 86 8 A49 (riL c nn).length m49 (recV (riL c nn)) :: Dk p (D.rdN d nn) :: L)) H := Sep.perm (List.Perm.swap _ _ _) hs
  exact Sep.drop h3
theorem keys_none {ks : List Int} {m : Int → Option (List UInt8)} (hm : ∀ i, m i = none) (h : KeysOf (strM m) ks) : ks = [] := by
  cases ks with
  | nil => rfl
  | cons k t =>
    have := (h.mem k).1 (by simp)
    unfold strM at this
    rw [hm] at this
    cases this
theorem and7 (x : Int) : ∃ q : Nat, q ≤ 7 ∧ bAnd .i64 x 7 = (q : Int) := by
  refine ⟨(BitVec.ofInt 64 x &&& BitVec.ofInt 64 7).toNat, ?_, ?_⟩
  · rw [BitVec.toNat_and]; exact Nat.and_le_right
  · unfold bAnd
    have h : (BitVec.ofInt 64 x &&& BitVec.ofInt 64 7).toNat ≤ 7 := by rw [BitVec.toNat_and]; exact Nat.and_le_right
    exact i64n (Nat.le_trans h (by omega))
abbrev actP (a : Rng.Act) : AO := .obj (.cells (Rng.actRow a).toArray 90)
structure Pl (B : Nat) (d : D) (c : Cn) : Prop where
  sh : Shows d c
  sec : d.sec = 10
  size : d.size = 32
  rd : d.rd ≤ B
  wr : d.wr ≤ B
  sy : d.sy ≤ B
theorem Pl.up {B n : Nat} {d d' : D} {c c' : Cn} (h : Pl B d c) (hu : Upto d d' n) (hs : Shows d' c') : Pl (B + n) d' c' := by
  have h1 := hu.rd; have h2 := hu.wr; have h3 := hu.sy; have h4 := h.rd; have h5 := h.wr; have h6 := h.sy
  exact ⟨hs, hu.sec.trans h.sec, hu.size.trans h.size, by omega, by omega, by omega⟩
theorem Pl.more {B B' : Nat} {d : D} {c : Cn} (h : Pl B d c) (hB : B ≤ B') : Pl B' d c := ⟨h.sh, h.sec, h.size, Nat.le_trans h.rd hB, Nat.le_trans h.wr hB, Nat.le_trans h.sy hB⟩
section
variable {K : Value → Hp → Prop} {R13 : Option Addr → Nat → Nat → Option Addr → Addr → Option Addr → Int → Hp → Prop} {H0 : Hp} {p b b1 b2 nn : Nat} (hnn : 2 ≤ nn ∧ nn ≤ 6) {A : Option Addr} {n m j B : Nat} (hB : B ≤ 10000)
  (go : ∀ d c H, Pl (B + 100) d c → Hw.Sep [own H0, Dk p d, pts b (ringO p 1 nn 0), pts b1 (extO nn)] H → R13 A n m (some ⟨p, 0, none⟩) ⟨b1, 0, none⟩ (some ⟨b, 0, none⟩) (IntKind.i64.wrap ((j : Int) + 1)) H)
include hnn hB go
theorem plays_end {d : D} {c : Cn} (hP : Pl (B + 70) d c) {H : Hp} (hs : Hw.Sep [own H0, Dk p d, pts b (ringO p 1 nn 0), pts b1 (extO nn)] H) :
    W_abacistlaw21_RingPlays.j43 K R13 A n m (some ⟨p, 0, none⟩) ⟨b1, 0, none⟩ (some ⟨b, 0, none⟩) (j : Int) H :=
  plays_j43 hnn hP.sh hP.sec hP.size (by have := hP.rd; omega) (fun d' H hS' hu hs => go d' c H ((hP.up hu hS').more (by omega)) hs) hs
theorem plays_j24 {d : D} {c : Cn} (hP : Pl (B + 6) d c) {a : Rng.Act} (hwf : a.r.wf) {A6 : Option Addr} {m6 : Nat} {H : Hp}
    (hs : Hw.Sep [own H0, Dk p d, pts b (ringO p 1 nn 0), pts b1 (extO nn), pts b2 (actP a), Own 86 8 A6 (riL c nn).length m6 (recV (riL c nn))] H) :
    W_abacistlaw21_RingPlays.j24 K R13 A n m (some ⟨p, 0, none⟩) ⟨b1, 0, none⟩ (some ⟨b, 0, none⟩) (j : Int) ⟨b2, 0, none⟩ A6 (riL c nn).length m6 H := by
  have hrd := hP.rd; have hwr := hP.wr; have hsy := hP.sy
  have hsec := hP.sec
  have hsz := hP.size
  have hS := hP.sh
  have hlen := riL_len c nn
  have ea : ((((Rng.actRow a).toArray.toList.drop 2).take 8).toArray) = a.r.c := rfl
  have hsA : (Rng.actRow a).toArray.size = 12 := rfl
  have hsc := scanA_shows hS 1 nn (by omega)
  have h12 : (stC c 1 nn nn 0).length ≤ 12 := by have := stC_len c 1 nn nn 0; omega
  unfold W_abacistlaw21_RingPlays.j24
  try simp only [NN_some, Addr.add_lit', Addr.add_zero, Nat.zero_add, Nat.add_zero]
  refine hs.lda 4 (off := 2) (n := 8) rfl (by rw [hsA]; omega) ?_
  rw [ea]
  refine (Append_tr (b := b) (p := p) (f := 1) (n := nn) (w := 0) (d := d) (by omega) (by omega) hS.ok (by omega) (by omega) (fun _ => by rw [hsc]; exact h12) (by rw [hsz]; exact sec32) a.r hwf.u).use hs [1, 2] rfl rfl ?_
  rintro _ _ H ⟨rfl, rfl⟩ hs
  obtain ⟨d', hup, hcs⟩ := app_shows hS (f := 1) (n := nn) (by omega) (by omega) a.r
  -- behind the look
  have bad : ∀ (x : Int) (H : Hp), x ≠ 0 → Shows d' c → Hw.Sep [own H0, Dk p d', pts b (ringO p 1 nn 0), pts b1 (extO nn), pts b2 (actP a), Own 86 8 A6 (riL c nn).length m6 (recV (riL c nn))] H →
      W_abacistlaw21_RingPlays.j30 K R13 A n m (some ⟨p, 0, none⟩) ⟨b1, 0, none⟩ (some ⟨b, 0, none⟩) (j : Int) ⟨b2, 0, none⟩ A6 (riL c nn).length m6 x x H := fun x H hx hS' hs => by
    have hP' := hP.up hup hS'
    have hr' := hP'.rd
    unfold W_abacistlaw21_RingPlays.j30
    refine hs.ldw 3 rfl rfl ?_
    try simp only [Array.toArray_toList]
    refine look hnn hS' hP'.sec hP'.size (by omega) (hs.re [1, 0, 2, 3, 5] rfl) fun A10 m10 H hm10 hs => ?_
    refine BIf_bnen rfl (BIf_bnep hx ?_)
    refine QCall.use (same_ok rfl rfl (by omega) (riL_wf c nn) H (own_cell (hs.own 5 rfl)) (own_cell (hs.own 0 rfl))) ?_
    simp only [HV]
    refine BIf_beqn hx ?_
    exact plays_end hnn hB go ((hP'.up (Upto.rdN d' nn) (hS'.rdN nn)).more (by omega)) (hs.re [2, 1, 3, 4] rfl)
  rcases hcs with ⟨hg, e, hS'⟩ | ⟨hg, hm, e, hS'⟩ | ⟨hg, hm, e, hS', hca⟩
  · rw [e] at hs ⊢
    have hs : Hw.Sep [Dk p d', pts b (ringO p 1 nn 0), own H0, pts b1 (extO nn), pts b2 (actP a), Own 86 8 A6 (riL c nn).length m6 (recV (riL c nn))] H := hs
    simp only [HV]
    refine hs.lda 4 (off := 2) (n := 8) rfl (by rw [hsA]; omega) ?_
    rw [ea]
    refine HCalls.use (rGood_ok a.r H) ?_
    rw [decide_eq_false hg]
    simp only [HV]
    exact bad 10 H (by decide) hS' (hs.re [2, 0, 1, 3, 4, 5] rfl)
  · rw [e] at hs ⊢
    have hs : Hw.Sep [Dk p d', pts b (ringO p 1 nn 0), own H0, pts b1 (extO nn), pts b2 (actP a), Own 86 8 A6 (riL c nn).length m6 (recV (riL c nn))] H := hs
    simp only [HV]
    refine hs.lda 4 (off := 2) (n := 8) rfl (by rw [hsA]; omega) ?_
    rw [ea]
    refine HCalls.use (rGood_ok a.r H) ?_
    rw [decide_eq_true hg]
    simp only [HV]
    refine hs.lda 4 (off := 2) (n := 8) rfl (by rw [hsA]; omega) ?_
    rw [ea]
    refine HCalls.use (may_ok rfl (by omega) a.r H (own_cell (hs.own 5 rfl))) ?_
    rw [riL_last, hm]
    simp only [HV]
    exact bad 5 H (by decide) hS' (hs.re [2, 0, 1, 3, 4, 5] rfl)
  · rw [e] at hs ⊢
    have hs : Hw.Sep [Dk p d', pts b (ringO p 1 nn 0), own H0, pts b1 (extO nn), pts b2 (actP a), Own 86 8 A6 (riL c nn).length m6 (recV (riL c nn))] H := hs
    simp only [HV]
    refine hs.lda 4 (off := 2) (n := 8) rfl (by rw [hsA]; omega) ?_
    rw [ea]
    refine HCalls.use (rGood_ok a.r H) ?_
    rw [decide_eq_true hg]
    simp only [HV]
    refine hs.lda 4 (off := 2) (n := 8) rfl (by rw [hsA]; omega) ?_
    rw [ea]
    refine HCalls.use (may_ok rfl (by omega) a.r H (own_cell (hs.own 5 rfl))) ?_
    rw [riL_last, hm]
    simp only [HV]
    have hlast : lastC (updC c (slotN 1 nn a.r.s) (a.r.form d.size)) 1 nn = some a.r := by rw [hsz]; exact last_upd (size := 32) (by omega) (by decide) sec32 hg hwf.u hm
    have hP' := hP.up hup hS'
    generalize updC c (slotN 1 nn a.r.s) (a.r.form d.size) = c' at *
    have hr' := hP'.rd
    unfold W_abacistlaw21_RingPlays.j30
    refine hs.ldw 3 rfl rfl ?_
    try simp only [Array.toArray_toList]
    refine look hnn hS' hP'.sec hP'.size (by omega) (hs.re [0, 1, 2, 3, 4] rfl) fun A10 m10 H hm10 hs => ?_
    refine BIf_bnen rfl (BIf_bnen rfl (BIf_beqp rfl ?_))
    have hlen' := riL_len c' nn
    rw [← riL_last] at hlast
    have hpos : 0 < (riL c' nn).length := by
      cases h : riL c' nn with
      | nil => rw [h] at hlast; cases hlast
      | cons q t => simp
    have hl1 : (riL c' nn).length - 1 < (riL c' nn).length := by omega
    have hel : (riL c' nn)[(riL c' nn).length - 1]'hl1 = a.r := by
      rw [List.getLast?_eq_getElem?, List.getElem?_eq_getElem hl1] at hlast
      simpa using hlast
    refine BIf_beqn (by omega) ?_
    have e2 : IntKind.i64.wrap (((riL c' nn).length : Int) - 1) = (((riL c' nn).length - 1 : Nat) : Int) := by rw [i64w (by omega) (by omega)]; omega
    rw [e2]
    refine lda_rec (own_cell (hs.own 0 rfl)) rfl rfl hl1 ?_
    try simp only [NN_some, Addr.add_lit', Addr.add_zero, Nat.zero_add, Nat.add_zero]
    refine hs.lda 5 (off := 2) (n := 8) rfl (by rw [hsA]; omega) ?_
    rw [ea, hel]
    try simp only [Array.toArray_toList]
    refine rec_neq hwf hwf true (by simp) ?_
    refine BIf_neg rfl ?_
    have hS2 := hS'.rdN nn
    refine (Dirty_tr (p := p) (d := D.rdN d' nn) hS2.ok hS2.dom).use hs [1] rfl rfl ?_
    rintro _ _ H ⟨ks, A11, m11, hks, _, rfl, rfl⟩ hs
    simp only [HV]
    obtain rfl := keys_none (m := (D.rdN d' nn).cache) hca hks
    refine BIf_bnen rfl ?_
    exact plays_end hnn hB go ((hP'.up (Upto.rdN d' nn) hS2).more (by omega)) (hs.re [4, 0, 3, 5] rfl)
theorem plays_j35 {d : D} {c : Cn} (hP : Pl (B + 6) d c) {a : Rng.Act} (ha : Rng.OkA H0 a) {H : Hp}
    (hs : Hw.Sep [own H0, Dk p { d with down := true, fuse := 0 }, pts b (ringO p 1 nn 0), pts b1 (extO nn), pts b2 (actP a)] H) :
    W_abacistlaw21_RingPlays.j35 K R13 A n m (some ⟨p, 0, none⟩) ⟨b1, 0, none⟩ (some ⟨b, 0, none⟩) (j : Int) ⟨b2, 0, none⟩ H := by
  have hrd := hP.rd; have hwr := hP.wr; have hsy := hP.sy
  have hS := hP.sh
  have hokc : Ok { d with down := true, fuse := 0 } := Ok.crash hS.ok
  have hsc : scanA 1 nn { d with down := true, fuse := 0 } = (8, { d with down := true, fuse := 0 }, []) := by
    obtain ⟨k, rfl⟩ : ∃ k, nn = k + 1 := ⟨nn - 1, by omega⟩
    have hc : D.chk { d with down := true, fuse := 0 } ((1 + 0 : Nat) : Int) = 8 := rfl
    unfold scanA scanR
    rw [hc, if_pos (by decide)]
  unfold W_abacistlaw21_RingPlays.j35
  refine (Last_tr (b := b) (p := p) (f := 1) (n := nn) (w := 0) (d := { d with down := true, fuse := 0 }) (by omega) (by omega) hokc (by show d.rd + nn ≤ _; omega) (fun _ => by rw [hsc]; exact Nat.zero_le _)).use hs [1, 2] rfl rfl ?_
  rintro _ _ H ⟨rfl, rfl⟩ hs
  rw [hsc] at hs ⊢
  simp only [HV]
  refine hs.nw fun b3 H hs => ?_
  refine hs.stw 5 rfl rfl rfl (recC_ok _) fun H hs => ?_
  have hs : Hw.Sep [Dk p { d with down := true, fuse := 0 }, pts b (ringO p 1 nn 0), own H0, pts b1 (extO nn), pts b2 (actP a)] H := Sep.take (M := [Dk p { d with down := true, fuse := 0 }, pts b (ringO p 1 nn 0), own H0, pts b1 (extO nn), pts b2 (actP a)]) hs
  refine BIf_bnen rfl ?_
  try simp only [NN_some, Addr.add_lit', Addr.add_zero, Nat.zero_add, Nat.add_zero]
  refine hs.ld 4 (v := .slice a.A a.n a.m) rfl rfl ?_
  simp only [HV]
  refine (Boot_tr (p := p) (d := { d with down := true, fuse := 0 }) hokc hS.dom rfl a.A a.n a.m a.ks ha.n (own H0) (fun H h => (ha.le h).ks)).use hs [0, 2] rfl rfl ?_
  rintro _ _ H ⟨ks, hks, rfl, rfl⟩ hs
  simp only [HV]
  refine BIf_bnen rfl ?_
  obtain ⟨c', hS'⟩ := Shows.boot hS.ok hS.dom hks a.ks
  exact plays_end hnn hB go (c := c') ⟨hS', hP.sec, hP.size, by show d.rd ≤ _; omega, by show d.wr ≤ _; omega, by show d.sy ≤ _; omega⟩ (hs.re [1, 0, 2, 3] rfl)
end
end Go.Proofs.YtnknippcbecmeaaGreatDoor.Eng
end
