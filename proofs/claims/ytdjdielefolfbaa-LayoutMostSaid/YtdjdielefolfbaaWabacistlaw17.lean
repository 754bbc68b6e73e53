/- Formulas of functions, printed by wip/tools/hwp.py. -/
import Derived.Test.YtdjdielefolfbaaHwE
import Derived.Test.YtdjdielefolfbaaProg
set_option maxRecDepth 100000
set_option linter.unusedVariables false
namespace Go.Proofs.Ytdjdielefolfbaa.W
open Go Go.Hw

theorem mix : Try.prog.follows .mixedOrders = true := by kernel_rfl
-- abacistlaw17.LayoutMost
def W_abacistlaw17_LayoutMost (x1 : Int) (x2 : Int) (H : Hp) (K : Value → Hp → Prop) : Prop :=
  HCalls Try.prog 11 #[] H fun v1 H1 => DB v1 fun c1 => BIf (!c1) (K (.bool false) H1) (HCalls Try.prog 12 #[.int .i64 x1, .int .i64 x2] H1 fun v2 H2 => DTup v2 fun l1 => DCons l1 fun v3 l2 => DI .i64 v3 fun x3 => DCons l2 fun v4 l3 => DB v4 fun c2 => DNil l3 (HCalls Try.prog 13 #[.int .i64 x2] H2 fun v5 H3 => DI .i64 v5 fun x4 => BIf (x4 == (0 : Int)) (BIf (!c2) (K (.bool (x3 == (0 : Int))) H3) (K (.bool false) H3)) (BIf (decide (x1 < (13 : Int))) (BIf (!c2) (K (.bool (x3 == (0 : Int))) H3) (K (.bool false) H3)) (BIf c2 (BIf (decide (x3 ≥ (0 : Int))) (BIf (decide (x3 ≤ (32 : Int))) (HCalls Try.prog 14 #[.int .i64 x3, .int .i64 x4] H3 fun v6 H4 => DI .i64 v6 fun x5 => BIf (decide ((IntKind.i64.wrap ((9 : Int) + (IntKind.i64.wrap ((4 : Int) * x5)))) ≤ x1)) (BIf (x3 == (32 : Int)) (K (.bool true) H4) (HCalls Try.prog 14 #[.int .i64 (IntKind.i64.wrap (x3 + (1 : Int))), .int .i64 x4] H4 fun v7 H5 => DI .i64 v7 fun x6 => K (.bool (decide ((IntKind.i64.wrap ((9 : Int) + (IntKind.i64.wrap ((4 : Int) * x6)))) > x1))) H5)) (K (.bool false) H4)) (K (.bool false) H3)) (K (.bool false) H3)) (K (.bool false) H3)))))
def W_abacistlaw17_LayoutMost.Λ (_ : Value → Hp → Prop) : Cuts := Cuts.none (fun _ => none)
theorem W_abacistlaw17_LayoutMost.ok (x1 : Int) (x2 : Int) (H : Hp) (K : Value → Hp → Prop) (h : W_abacistlaw17_LayoutMost x1 x2 H K) : HCalls Try.prog 3 #[.int .i64 x1, .int .i64 x2] H K :=
  hcalls Try.func3 rfl (Nat.le_of_ble_eq_true rfl) (hw_safe (Λ := Cuts.none (fun _ => none)) mix _ _ _ _ _ (Eq.mp (by kernel_rfl) h) (obs_none _ _ _ _ _))

-- abacistlaw17.LayoutPlaces
def W_abacistlaw17_LayoutPlaces.l26 (K : Value → Hp → Prop) : Nat → Int → Addr → Addr → Int → Int → Hp → Prop
  | 0, _, _, _, _, _, _ => False
  | k + 1, x74, a9, a10, x75, x76, H =>
    let R26 := W_abacistlaw17_LayoutPlaces.l26 K k
    BIf (decide (x76 < (4 : Int))) (ixI x76 4 (Ld H (((a9.add 5).add (x76.toNat * 3)).add 0) fun v63 => DI .i64 v63 fun x77 => BIf (decide (x74 ≥ x77)) (ixI x76 4 (Ld H (((a9.add 5).add (x76.toNat * 3)).add 0) fun v64 => DI .i64 v64 fun x78 => ixI x76 4 (Ld H (((a9.add 5).add (x76.toNat * 3)).add 1) fun v65 => DI .i64 v65 fun x79 => BIf (decide (x74 < (IntKind.i64.wrap (x78 + x79)))) (BIf (x75 != (-3 : Int)) (K (.bool false) H) (R26 x74 a9 a10 x76 (IntKind.i64.wrap (x76 + (1 : Int))) H)) (R26 x74 a9 a10 x75 (IntKind.i64.wrap (x76 + (1 : Int))) H)))) (R26 x74 a9 a10 x75 (IntKind.i64.wrap (x76 + (1 : Int))) H))) (Ld H (a10.add 0) fun v66 => Ld H (a10.add 1) fun v67 => Ld H (a10.add 2) fun v68 => DI .i64 v66 fun x80 => DI .i64 v67 fun x81 => DI .i64 v68 fun x82 => HCalls Try.prog 37 #[.agg #[.int .i64 x80, .int .i64 x81, .int .i64 x82], .int .i64 (0 : Int), .int .i64 (0 : Int)] H fun v69 H27 => DTup v69 fun l30 => DCons l30 fun v70 l31 => DI .i64 v70 fun x83 => DCons l31 fun v71 l32 => DI .i64 v71 fun x84 => DCons l32 fun v72 l33 => DI .i64 v72 fun x85 => DNil l33 (Ld H27 (a9.add 0) fun v73 => Ld H27 (a9.add 1) fun v74 => Ld H27 (a9.add 2) fun v75 => Ld H27 (a9.add 3) fun v76 => Ld H27 (a9.add 4) fun v77 => Ld H27 (a9.add 5) fun v78 => Ld H27 (a9.add 6) fun v79 => Ld H27 (a9.add 7) fun v80 => Ld H27 (a9.add 8) fun v81 => Ld H27 (a9.add 9) fun v82 => Ld H27 (a9.add 10) fun v83 => Ld H27 (a9.add 11) fun v84 => Ld H27 (a9.add 12) fun v85 => Ld H27 (a9.add 13) fun v86 => Ld H27 (a9.add 14) fun v87 => Ld H27 (a9.add 15) fun v88 => Ld H27 (a9.add 16) fun v89 => DI .i64 v73 fun x86 => DI .i64 v74 fun x87 => DI .i64 v75 fun x88 => DI .i64 v76 fun x89 => DI .i64 v77 fun x90 => DI .i64 v78 fun x91 => DI .i64 v79 fun x92 => DI .i64 v80 fun x93 => DI .i64 v81 fun x94 => DI .i64 v82 fun x95 => DI .i64 v83 fun x96 => DI .i64 v84 fun x97 => DI .i64 v85 fun x98 => DI .i64 v86 fun x99 => DI .i64 v87 fun x100 => DI .i64 v88 fun x101 => DI .i64 v89 fun x102 => HCalls Try.prog 38 #[.agg #[.int .i64 x86, .int .i64 x87, .int .i64 x88, .int .i64 x89, .int .i64 x90, .int .i64 x91, .int .i64 x92, .int .i64 x93, .int .i64 x94, .int .i64 x95, .int .i64 x96, .int .i64 x97, .int .i64 x98, .int .i64 x99, .int .i64 x100, .int .i64 x101, .int .i64 x102], .int .i64 x74] H27 fun v90 H28 => DI .i64 v90 fun x103 => BIf (x103 == x75) (K (.bool (x85 == (2 : Int))) H28) (K (.bool false) H28)))
def W_abacistlaw17_LayoutPlaces.j25 (K : Value → Hp → Prop) (x72 : Int) (a7 : Addr) (a8 : Addr) (x73 : Int) (H : Hp) : Prop :=
  (∃ k, W_abacistlaw17_LayoutPlaces.l26 K k x72 a7 a8 x73 (0 : Int) H)
def W_abacistlaw17_LayoutPlaces.j23 (K : Value → Hp → Prop) (x70 : Int) (a5 : Addr) (a6 : Addr) (x71 : Int) (H : Hp) : Prop :=
  BIf (decide (x70 ≥ (1 : Int))) (BIf (decide (x70 ≤ (8 : Int))) (W_abacistlaw17_LayoutPlaces.j25 K x70 a5 a6 (-2 : Int) H) (W_abacistlaw17_LayoutPlaces.j25 K x70 a5 a6 x71 H)) (W_abacistlaw17_LayoutPlaces.j25 K x70 a5 a6 x71 H)
def W_abacistlaw17_LayoutPlaces.j20 (K : Value → Hp → Prop) (x69 : Int) (a3 : Addr) (a4 : Addr) (H : Hp) : Prop :=
  BIf (x69 == (0 : Int)) (W_abacistlaw17_LayoutPlaces.j23 K x69 a3 a4 (-1 : Int) H) (W_abacistlaw17_LayoutPlaces.j23 K x69 a3 a4 (-3 : Int) H)
def W_abacistlaw17_LayoutPlaces.j14 (K : Value → Hp → Prop) (x55 : Int) (x56 : Int) (x57 : Int) (x58 : Int) (a1 : Addr) (a2 : Addr) (H : Hp) : Prop :=
  Ld H (a2.add 0) fun v52 => Ld H (a2.add 1) fun v53 => Ld H (a2.add 2) fun v54 => DI .i64 v52 fun x59 => DI .i64 v53 fun x60 => DI .i64 v54 fun x61 => HCalls Try.prog 39 #[.agg #[.int .i64 x59, .int .i64 x60, .int .i64 x61], .int .i64 x58, .int .i64 x55, .int .i64 x56] H fun v55 H26 => DTup v55 fun l26 => DCons l26 fun v56 l27 => DI .i64 v56 fun x62 => DCons l27 fun v57 l28 => DI .i64 v57 fun x63 => DCons l28 fun v58 l29 => DI .i64 v58 fun x64 => DNil l29 (BIf (decide (x56 < (1 : Int))) (BIf (x64 != (2 : Int)) (K (.bool false) H26) (BIf (x62 != (0 : Int)) (K (.bool false) H26) (BIf (x63 != (0 : Int)) (K (.bool false) H26) (W_abacistlaw17_LayoutPlaces.j20 K x57 a1 a2 H26)))) (BIf (decide (x55 < (0 : Int))) (BIf (x64 != (2 : Int)) (K (.bool false) H26) (BIf (x62 != (0 : Int)) (K (.bool false) H26) (BIf (x63 != (0 : Int)) (K (.bool false) H26) (W_abacistlaw17_LayoutPlaces.j20 K x57 a1 a2 H26)))) (Ld H26 (a2.add 2) fun v59 => DI .i64 v59 fun x65 => BIf (decide (x55 ≥ x65)) (BIf (x64 != (2 : Int)) (K (.bool false) H26) (BIf (x62 != (0 : Int)) (K (.bool false) H26) (BIf (x63 != (0 : Int)) (K (.bool false) H26) (W_abacistlaw17_LayoutPlaces.j20 K x57 a1 a2 H26)))) (Ld H26 (a2.add 2) fun v60 => DI .i64 v60 fun x66 => BIf (decide (x56 > (IntKind.i64.wrap (x66 - x55)))) (BIf (x64 != (2 : Int)) (K (.bool false) H26) (BIf (x62 != (0 : Int)) (K (.bool false) H26) (BIf (x63 != (0 : Int)) (K (.bool false) H26) (W_abacistlaw17_LayoutPlaces.j20 K x57 a1 a2 H26)))) (BIf (x64 != (0 : Int)) (K (.bool false) H26) (Ld H26 (a2.add 0) fun v61 => DI .i64 v61 fun x67 => (x58 ≠ 0 ∧ IntKind.i64 = IntKind.i64 ∧ BIf (x62 != (IntKind.i64.wrap (x67 + (IntKind.i64.wrap (Int.tdiv x55 x58))))) (K (.bool false) H26) (Ld H26 (a2.add 0) fun v62 => DI .i64 v62 fun x68 => (x58 ≠ 0 ∧ IntKind.i64 = IntKind.i64 ∧ BIf (x63 != (IntKind.i64.wrap (x68 + (IntKind.i64.wrap (Int.tdiv (IntKind.i64.wrap ((IntKind.i64.wrap (x55 + x56)) - (1 : Int))) x58))))) (K (.bool false) H26) (W_abacistlaw17_LayoutPlaces.j20 K x57 a1 a2 H26))))))))))
def W_abacistlaw17_LayoutPlaces (x1 : Int) (x2 : Int) (x3 : Int) (x4 : Int) (x5 : Int) (x6 : Int) (x7 : Int) (H : Hp) (K : Value → Hp → Prop) : Prop :=
  HCalls Try.prog 11 #[] H fun v1 H1 => DB v1 fun c1 => BIf (!c1) (K (.bool false) H1) (((8 : Int) ≠ 0 ∧ IntKind.u8 = IntKind.u8 ∧ (0 ≤ (IntKind.u64.wrap (Int.tmod x2 (8 : Int))) ∧ ((11 : Int) ≠ 0 ∧ IntKind.u8 = IntKind.u8 ∧ HCalls Try.prog 36 #[.int .i64 (IntKind.i64.wrap (Int.tmod x1 (11 : Int))), .int .i64 (5000 : Int), .int .i64 (IntKind.i64.wrap ((8 : Int) * (shlI .i64 (4 : Int) (IntKind.u64.wrap (Int.tmod x2 (8 : Int))))))] H1 fun v2 H2 => DTup v2 fun l1 => DCons l1 fun v3 l2 => DA v3 fun l3 => DCons l3.toList fun v4 l4 => DI .i64 v4 fun x8 => DCons l4 fun v5 l5 => DI .i64 v5 fun x9 => DCons l5 fun v6 l6 => DI .i64 v6 fun x10 => DCons l6 fun v7 l7 => DI .i64 v7 fun x11 => DCons l7 fun v8 l8 => DI .i64 v8 fun x12 => DCons l8 fun v9 l9 => DI .i64 v9 fun x13 => DCons l9 fun v10 l10 => DI .i64 v10 fun x14 => DCons l10 fun v11 l11 => DI .i64 v11 fun x15 => DCons l11 fun v12 l12 => DI .i64 v12 fun x16 => DCons l12 fun v13 l13 => DI .i64 v13 fun x17 => DCons l13 fun v14 l14 => DI .i64 v14 fun x18 => DCons l14 fun v15 l15 => DI .i64 v15 fun x19 => DCons l15 fun v16 l16 => DI .i64 v16 fun x20 => DCons l16 fun v17 l17 => DI .i64 v17 fun x21 => DCons l17 fun v18 l18 => DI .i64 v18 fun x22 => DCons l18 fun v19 l19 => DI .i64 v19 fun x23 => DCons l19 fun v20 l20 => DI .i64 v20 fun x24 => DNil l20 (DCons l2 fun v21 l21 => DI .i64 v21 fun x25 => DNil l21 (Nw H2 (.obj (.cells #[.int .i64 (0 : Int), .int .i64 (0 : Int), .int .i64 (0 : Int), .int .i64 (0 : Int), .int .i64 (0 : Int), .int .i64 (0 : Int), .int .i64 (0 : Int), .int .i64 (0 : Int), .int .i64 (0 : Int), .int .i64 (0 : Int), .int .i64 (0 : Int), .int .i64 (0 : Int), .int .i64 (0 : Int), .int .i64 (0 : Int), .int .i64 (0 : Int), .int .i64 (0 : Int), .int .i64 (0 : Int)] 75)) fun b1 H3 => St H3 ((⟨b1, 0, none⟩ : Addr).add 0) (.int .i64 x8) fun H4 => St H4 ((⟨b1, 0, none⟩ : Addr).add 1) (.int .i64 x9) fun H5 => St H5 ((⟨b1, 0, none⟩ : Addr).add 2) (.int .i64 x10) fun H6 => St H6 ((⟨b1, 0, none⟩ : Addr).add 3) (.int .i64 x11) fun H7 => St H7 ((⟨b1, 0, none⟩ : Addr).add 4) (.int .i64 x12) fun H8 => St H8 ((⟨b1, 0, none⟩ : Addr).add 5) (.int .i64 x13) fun H9 => St H9 ((⟨b1, 0, none⟩ : Addr).add 6) (.int .i64 x14) fun H10 => St H10 ((⟨b1, 0, none⟩ : Addr).add 7) (.int .i64 x15) fun H11 => St H11 ((⟨b1, 0, none⟩ : Addr).add 8) (.int .i64 x16) fun H12 => St H12 ((⟨b1, 0, none⟩ : Addr).add 9) (.int .i64 x17) fun H13 => St H13 ((⟨b1, 0, none⟩ : Addr).add 10) (.int .i64 x18) fun H14 => St H14 ((⟨b1, 0, none⟩ : Addr).add 11) (.int .i64 x19) fun H15 => St H15 ((⟨b1, 0, none⟩ : Addr).add 12) (.int .i64 x20) fun H16 => St H16 ((⟨b1, 0, none⟩ : Addr).add 13) (.int .i64 x21) fun H17 => St H17 ((⟨b1, 0, none⟩ : Addr).add 14) (.int .i64 x22) fun H18 => St H18 ((⟨b1, 0, none⟩ : Addr).add 15) (.int .i64 x23) fun H19 => St H19 ((⟨b1, 0, none⟩ : Addr).add 16) (.int .i64 x24) fun H20 => BIf (x25 != (0 : Int)) (K (.bool false) H20) (((4 : Int) ≠ 0 ∧ IntKind.u8 = IntKind.u8 ∧ ixI (Int.tmod x3 (4 : Int)) 4 (Ld H20 ((((⟨b1, 0, none⟩ : Addr).add 5).add ((Int.tmod x3 (4 : Int)).toNat * 3)).add 0) fun v22 => Ld H20 ((((⟨b1, 0, none⟩ : Addr).add 5).add ((Int.tmod x3 (4 : Int)).toNat * 3)).add 1) fun v23 => Ld H20 ((((⟨b1, 0, none⟩ : Addr).add 5).add ((Int.tmod x3 (4 : Int)).toNat * 3)).add 2) fun v24 => DI .i64 v22 fun x26 => DI .i64 v23 fun x27 => DI .i64 v24 fun x28 => Nw H20 (.obj (.cells #[.int .i64 (0 : Int), .int .i64 (0 : Int), .int .i64 (0 : Int)] 72)) fun b2 H21 => St H21 ((⟨b2, 0, none⟩ : Addr).add 0) (.int .i64 x26) fun H22 => St H22 ((⟨b2, 0, none⟩ : Addr).add 1) (.int .i64 x27) fun H23 => St H23 ((⟨b2, 0, none⟩ : Addr).add 2) (.int .i64 x28) fun H24 => Ld H24 ((⟨b2, 0, none⟩ : Addr).add 0) fun v25 => Ld H24 ((⟨b2, 0, none⟩ : Addr).add 1) fun v26 => Ld H24 ((⟨b2, 0, none⟩ : Addr).add 2) fun v27 => DI .i64 v25 fun x29 => DI .i64 v26 fun x30 => DI .i64 v27 fun x31 => HCalls Try.prog 37 #[.agg #[.int .i64 x29, .int .i64 x30, .int .i64 x31], .int .i64 (shlI .i64 (4 : Int) (IntKind.u64.wrap (Int.tmod x2 (8 : Int)))), .int .i64 x4] H24 fun v28 H25 => DTup v28 fun l22 => DCons l22 fun v29 l23 => DI .i64 v29 fun x32 => DCons l23 fun v30 l24 => DI .i64 v30 fun x33 => DCons l24 fun v31 l25 => DI .i64 v31 fun x34 => DNil l25 (BIf (decide (x4 < (0 : Int))) (BIf (x34 != (2 : Int)) (K (.bool false) H25) (BIf (x32 != (0 : Int)) (K (.bool false) H25) (BIf (x33 != (0 : Int)) (K (.bool false) H25) (W_abacistlaw17_LayoutPlaces.j14 K x5 x6 x7 (shlI .i64 (4 : Int) (IntKind.u64.wrap (Int.tmod x2 (8 : Int)))) (⟨b1, 0, none⟩ : Addr) (⟨b2, 0, none⟩ : Addr) H25)))) (Ld H25 ((⟨b2, 0, none⟩ : Addr).add 2) fun v32 => DI .i64 v32 fun x35 => BIf (decide (x4 ≥ x35)) (BIf (x34 != (2 : Int)) (K (.bool false) H25) (BIf (x32 != (0 : Int)) (K (.bool false) H25) (BIf (x33 != (0 : Int)) (K (.bool false) H25) (W_abacistlaw17_LayoutPlaces.j14 K x5 x6 x7 (shlI .i64 (4 : Int) (IntKind.u64.wrap (Int.tmod x2 (8 : Int)))) (⟨b1, 0, none⟩ : Addr) (⟨b2, 0, none⟩ : Addr) H25)))) (BIf (x34 != (0 : Int)) (K (.bool false) H25) (Ld H25 ((⟨b2, 0, none⟩ : Addr).add 0) fun v33 => DI .i64 v33 fun x36 => ((shlI .i64 (4 : Int) (IntKind.u64.wrap (Int.tmod x2 (8 : Int)))) ≠ 0 ∧ IntKind.i64 = IntKind.i64 ∧ BIf (x32 != (IntKind.i64.wrap (x36 + (IntKind.i64.wrap (Int.tdiv x4 (shlI .i64 (4 : Int) (IntKind.u64.wrap (Int.tmod x2 (8 : Int))))))))) (K (.bool false) H25) (((shlI .i64 (4 : Int) (IntKind.u64.wrap (Int.tmod x2 (8 : Int)))) ≠ 0 ∧ IntKind.i64 = IntKind.i64 ∧ BIf (x33 != (Int.tmod x4 (shlI .i64 (4 : Int) (IntKind.u64.wrap (Int.tmod x2 (8 : Int)))))) (K (.bool false) H25) (Ld H25 ((⟨b1, 0, none⟩ : Addr).add 0) fun v34 => Ld H25 ((⟨b1, 0, none⟩ : Addr).add 1) fun v35 => Ld H25 ((⟨b1, 0, none⟩ : Addr).add 2) fun v36 => Ld H25 ((⟨b1, 0, none⟩ : Addr).add 3) fun v37 => Ld H25 ((⟨b1, 0, none⟩ : Addr).add 4) fun v38 => Ld H25 ((⟨b1, 0, none⟩ : Addr).add 5) fun v39 => Ld H25 ((⟨b1, 0, none⟩ : Addr).add 6) fun v40 => Ld H25 ((⟨b1, 0, none⟩ : Addr).add 7) fun v41 => Ld H25 ((⟨b1, 0, none⟩ : Addr).add 8) fun v42 => Ld H25 ((⟨b1, 0, none⟩ : Addr).add 9) fun v43 => Ld H25 ((⟨b1, 0, none⟩ : Addr).add 10) fun v44 => Ld H25 ((⟨b1, 0, none⟩ : Addr).add 11) fun v45 => Ld H25 ((⟨b1, 0, none⟩ : Addr).add 12) fun v46 => Ld H25 ((⟨b1, 0, none⟩ : Addr).add 13) fun v47 => Ld H25 ((⟨b1, 0, none⟩ : Addr).add 14) fun v48 => Ld H25 ((⟨b1, 0, none⟩ : Addr).add 15) fun v49 => Ld H25 ((⟨b1, 0, none⟩ : Addr).add 16) fun v50 => DI .i64 v34 fun x37 => DI .i64 v35 fun x38 => DI .i64 v36 fun x39 => DI .i64 v37 fun x40 => DI .i64 v38 fun x41 => DI .i64 v39 fun x42 => DI .i64 v40 fun x43 => DI .i64 v41 fun x44 => DI .i64 v42 fun x45 => DI .i64 v43 fun x46 => DI .i64 v44 fun x47 => DI .i64 v45 fun x48 => DI .i64 v46 fun x49 => DI .i64 v47 fun x50 => DI .i64 v48 fun x51 => DI .i64 v49 fun x52 => DI .i64 v50 fun x53 => QCall Try.prog 38 #[.agg #[.int .i64 x37, .int .i64 x38, .int .i64 x39, .int .i64 x40, .int .i64 x41, .int .i64 x42, .int .i64 x43, .int .i64 x44, .int .i64 x45, .int .i64 x46, .int .i64 x47, .int .i64 x48, .int .i64 x49, .int .i64 x50, .int .i64 x51, .int .i64 x52, .int .i64 x53], .int .i64 x32] H25 fun v51 => DI .i64 v51 fun x54 => ((4 : Int) ≠ 0 ∧ IntKind.u8 = IntKind.u8 ∧ BIf (x54 != (IntKind.i64.wrap (Int.tmod x3 (4 : Int)))) (K (.bool false) H25) (W_abacistlaw17_LayoutPlaces.j14 K x5 x6 x7 (shlI .i64 (4 : Int) (IntKind.u64.wrap (Int.tmod x2 (8 : Int)))) (⟨b1, 0, none⟩ : Addr) (⟨b2, 0, none⟩ : Addr) H25)))))))))))))))))))
def W_abacistlaw17_LayoutPlaces.l26.L (K : Value → Hp → Prop) (k : Nat) : Mid := fun E D H =>
  DG (E.get? 6) fun w6 => DI .i64 w6 fun x74 => DG (E.get? 16) fun w16 => DP w16 fun pw16 => NN pw16 fun a9 => DG (E.get? 18) fun w18 => DP w18 fun pw18 => NN pw18 fun a10 => DG (E.get? 25) fun w25 => DI .i64 w25 fun x75 => DG (E.get? 26) fun w26 => DI .i64 w26 fun x76 => DNilD D (W_abacistlaw17_LayoutPlaces.l26 K k x74 a9 a10 x75 x76 H)
def W_abacistlaw17_LayoutPlaces.Λ26 (_ : Value → Hp → Prop) (_R26 : Int → Addr → Addr → Int → Int → Hp → Prop) : Cuts := Cuts.none (fun _ => none)
def W_abacistlaw17_LayoutPlaces.Λ (K : Value → Hp → Prop) : Cuts := ⟨fun i => match Nat.beq i 25 with | true => some (fun E D H => DG (E.get? 6) fun w6 => DI .i64 w6 fun x72 => DG (E.get? 16) fun w16 => DP w16 fun pw16 => NN pw16 fun a7 => DG (E.get? 18) fun w18 => DP w18 fun pw18 => NN pw18 fun a8 => DG (E.get? 25) fun w25 => DI .i64 w25 fun x73 => DNilD D (W_abacistlaw17_LayoutPlaces.j25 K x72 a7 a8 x73 H)) | false => match Nat.beq i 23 with | true => some (fun E D H => DG (E.get? 6) fun w6 => DI .i64 w6 fun x70 => DG (E.get? 16) fun w16 => DP w16 fun pw16 => NN pw16 fun a5 => DG (E.get? 18) fun w18 => DP w18 fun pw18 => NN pw18 fun a6 => DG (E.get? 25) fun w25 => DI .i64 w25 fun x71 => DNilD D (W_abacistlaw17_LayoutPlaces.j23 K x70 a5 a6 x71 H)) | false => match Nat.beq i 20 with | true => some (fun E D H => DG (E.get? 6) fun w6 => DI .i64 w6 fun x69 => DG (E.get? 16) fun w16 => DP w16 fun pw16 => NN pw16 fun a3 => DG (E.get? 18) fun w18 => DP w18 fun pw18 => NN pw18 fun a4 => DNilD D (W_abacistlaw17_LayoutPlaces.j20 K x69 a3 a4 H)) | false => match Nat.beq i 14 with | true => some (fun E D H => DG (E.get? 4) fun w4 => DI .i64 w4 fun x55 => DG (E.get? 5) fun w5 => DI .i64 w5 fun x56 => DG (E.get? 6) fun w6 => DI .i64 w6 fun x57 => DG (E.get? 15) fun w15 => DI .i64 w15 fun x58 => DG (E.get? 16) fun w16 => DP w16 fun pw16 => NN pw16 fun a1 => DG (E.get? 18) fun w18 => DP w18 fun pw18 => NN pw18 fun a2 => DNilD D (W_abacistlaw17_LayoutPlaces.j14 K x55 x56 x57 x58 a1 a2 H)) | false => none, fun i => match Nat.beq i 26 with | true => some (fun E D H => ∃ k, W_abacistlaw17_LayoutPlaces.l26.L K k E D H) | false => none, (fun _ => none)⟩
theorem W_abacistlaw17_LayoutPlaces.ok (x1 : Int) (x2 : Int) (x3 : Int) (x4 : Int) (x5 : Int) (x6 : Int) (x7 : Int) (H : Hp) (K : Value → Hp → Prop) (h : W_abacistlaw17_LayoutPlaces x1 x2 x3 x4 x5 x6 x7 H K) : HCalls Try.prog 9 #[.int .u8 x1, .int .u8 x2, .int .u8 x3, .int .i64 x4, .int .i64 x5, .int .i64 x6, .int .i64 x7] H K :=
  hcalls Try.func9 rfl (Nat.le_of_ble_eq_true rfl) (hw_safe (Λ := (W_abacistlaw17_LayoutPlaces.Λ K)) mix _ _ _ _ _ (Eq.mp (by kernel_rfl) h) (obs_seq obs_region rfl (obs_seq (obs_seq obs_region rfl (obs_cond (obs_seq obs_region rfl obs_ret) obs_skip)) rfl (obs_seq obs_region rfl (obs_seq obs_region rfl (obs_seq (obs_seq obs_region rfl (obs_cond (obs_seq obs_region rfl obs_ret) obs_skip)) rfl (obs_seq obs_region rfl (obs_seq obs_region rfl (obs_seqc (obs_seq obs_region rfl (obs_cond (obs_seq obs_region rfl (obs_cond (obs_seq obs_region rfl obs_ret) obs_skip)) (obs_seq obs_region rfl (obs_cond (obs_seq obs_region rfl obs_ret) obs_skip)))) rfl (fun E D H h => by
      obtain ⟨w4, e4, g1⟩ := DG.out h
      obtain ⟨x55, rfl, g2⟩ := DI.out g1
      obtain ⟨w5, e5, g3⟩ := DG.out g2
      obtain ⟨x56, rfl, g4⟩ := DI.out g3
      obtain ⟨w6, e6, g5⟩ := DG.out g4
      obtain ⟨x57, rfl, g6⟩ := DI.out g5
      obtain ⟨w15, e15, g7⟩ := DG.out g6
      obtain ⟨x58, rfl, g8⟩ := DI.out g7
      obtain ⟨w16, e16, g9⟩ := DG.out g8
      obtain ⟨pw16, rfl, g10⟩ := DP.out g9
      obtain ⟨a1, rfl, g11⟩ := NN.out g10
      obtain ⟨w18, e18, g12⟩ := DG.out g11
      obtain ⟨pw18, rfl, g13⟩ := DP.out g12
      obtain ⟨a2, rfl, g14⟩ := NN.out g13
      obtain ⟨rfl, h'⟩ := DNilD.out g14
      exact (hw_safe (Λ := (W_abacistlaw17_LayoutPlaces.Λ K)) mix _ _ [(4, .int .i64 x55), (5, .int .i64 x56), (6, .int .i64 x57), (15, .int .i64 x58), (16, .pointer (some a1)), (18, .pointer (some a2))] [] H (Eq.mp (by kernel_rfl) h') (obs_seq obs_region rfl (obs_seqc (obs_seq obs_region rfl (obs_cond (obs_seq obs_region rfl (obs_cond (obs_seq obs_region rfl obs_ret) obs_skip)) (obs_seq obs_region rfl (obs_cond (obs_seq obs_region rfl obs_ret) obs_skip)))) rfl (fun E D H h => by
          obtain ⟨w6, e6, g1⟩ := DG.out h
          obtain ⟨x69, rfl, g2⟩ := DI.out g1
          obtain ⟨w16, e16, g3⟩ := DG.out g2
          obtain ⟨pw16, rfl, g4⟩ := DP.out g3
          obtain ⟨a3, rfl, g5⟩ := NN.out g4
          obtain ⟨w18, e18, g6⟩ := DG.out g5
          obtain ⟨pw18, rfl, g7⟩ := DP.out g6
          obtain ⟨a4, rfl, g8⟩ := NN.out g7
          obtain ⟨rfl, h'⟩ := DNilD.out g8
          exact (hw_safe (Λ := (W_abacistlaw17_LayoutPlaces.Λ K)) mix _ _ [(6, .int .i64 x69), (16, .pointer (some a3)), (18, .pointer (some a4))] [] H (Eq.mp (by kernel_rfl) h') (obs_seq obs_region rfl (obs_seqc (obs_seq obs_region rfl (obs_cond obs_region obs_skip)) rfl (fun E D H h => by
              obtain ⟨w6, e6, g1⟩ := DG.out h
              obtain ⟨x70, rfl, g2⟩ := DI.out g1
              obtain ⟨w16, e16, g3⟩ := DG.out g2
              obtain ⟨pw16, rfl, g4⟩ := DP.out g3
              obtain ⟨a5, rfl, g5⟩ := NN.out g4
              obtain ⟨w18, e18, g6⟩ := DG.out g5
              obtain ⟨pw18, rfl, g7⟩ := DP.out g6
              obtain ⟨a6, rfl, g8⟩ := NN.out g7
              obtain ⟨w25, e25, g9⟩ := DG.out g8
              obtain ⟨x71, rfl, g10⟩ := DI.out g9
              obtain ⟨rfl, h'⟩ := DNilD.out g10
              exact (hw_safe (Λ := (W_abacistlaw17_LayoutPlaces.Λ K)) mix _ _ [(6, .int .i64 x70), (16, .pointer (some a5)), (18, .pointer (some a6)), (25, .int .i64 x71)] [] H (Eq.mp (by kernel_rfl) h') (obs_seqc (obs_seq obs_region rfl (obs_cond obs_region obs_skip)) rfl (fun E D H h => by
                  obtain ⟨w6, e6, g1⟩ := DG.out h
                  obtain ⟨x72, rfl, g2⟩ := DI.out g1
                  obtain ⟨w16, e16, g3⟩ := DG.out g2
                  obtain ⟨pw16, rfl, g4⟩ := DP.out g3
                  obtain ⟨a7, rfl, g5⟩ := NN.out g4
                  obtain ⟨w18, e18, g6⟩ := DG.out g5
                  obtain ⟨pw18, rfl, g7⟩ := DP.out g6
                  obtain ⟨a8, rfl, g8⟩ := NN.out g7
                  obtain ⟨w25, e25, g9⟩ := DG.out g8
                  obtain ⟨x73, rfl, g10⟩ := DI.out g9
                  obtain ⟨rfl, h'⟩ := DNilD.out g10
                  exact (hw_safe (Λ := (W_abacistlaw17_LayoutPlaces.Λ K)) mix _ _ [(6, .int .i64 x72), (16, .pointer (some a7)), (18, .pointer (some a8)), (25, .int .i64 x73)] [] H (Eq.mp (by kernel_rfl) h') (obs_seq (obs_seq obs_region rfl (obs_block (obs_loop rfl (fun E D H h => by
                      refine Safe.loop' (W_abacistlaw17_LayoutPlaces.l26.L K) (fun E D H h => ?_) (fun k E D H h => ?_) E D H h
                      · obtain ⟨w6, e6, g1⟩ := DG.out h; obtain ⟨x74, rfl, g2⟩ := DI.out g1; obtain ⟨w16, e16, g3⟩ := DG.out g2; obtain ⟨pw16, rfl, g4⟩ := DP.out g3; obtain ⟨a9, rfl, g5⟩ := NN.out g4; obtain ⟨w18, e18, g6⟩ := DG.out g5; obtain ⟨pw18, rfl, g7⟩ := DP.out g6; obtain ⟨a10, rfl, g8⟩ := NN.out g7; obtain ⟨w25, e25, g9⟩ := DG.out g8; obtain ⟨x75, rfl, g10⟩ := DI.out g9; obtain ⟨w26, e26, g11⟩ := DG.out g10; obtain ⟨x76, rfl, g12⟩ := DI.out g11; obtain ⟨rfl, h'⟩ := DNilD.out g12; exact h'
                      · obtain ⟨w6, e6, g1⟩ := DG.out h
                        obtain ⟨x74, rfl, g2⟩ := DI.out g1
                        obtain ⟨w16, e16, g3⟩ := DG.out g2
                        obtain ⟨pw16, rfl, g4⟩ := DP.out g3
                        obtain ⟨a9, rfl, g5⟩ := NN.out g4
                        obtain ⟨w18, e18, g6⟩ := DG.out g5
                        obtain ⟨pw18, rfl, g7⟩ := DP.out g6
                        obtain ⟨a10, rfl, g8⟩ := NN.out g7
                        obtain ⟨w25, e25, g9⟩ := DG.out g8
                        obtain ⟨x75, rfl, g10⟩ := DI.out g9
                        obtain ⟨w26, e26, g11⟩ := DG.out g10
                        obtain ⟨x76, rfl, g12⟩ := DI.out g11
                        obtain ⟨rfl, h'⟩ := DNilD.out g12
                        exact (hw_safe (Λ := (W_abacistlaw17_LayoutPlaces.Λ26 K (W_abacistlaw17_LayoutPlaces.l26 K k))) mix _ _ [(6, .int .i64 x74), (16, .pointer (some a9)), (18, .pointer (some a10)), (25, .int .i64 x75), (26, .int .i64 x76)] [] H (Eq.mp (by kernel_rfl) h') (obs_seq (obs_seq obs_region rfl (obs_cond obs_skip obs_exit)) rfl (obs_seq (obs_block (obs_seq obs_region rfl (obs_cond (obs_seq (obs_seq obs_region rfl (obs_cond (obs_seq obs_region rfl obs_ret) obs_skip)) rfl obs_region) obs_skip))) rfl obs_region))).weaken (EnvLe.cons e6 (EnvLe.cons e16 (EnvLe.cons e18 (EnvLe.cons e25 (EnvLe.cons e26 (EnvLe.nil _)))))) (Hp.le_refl _))))) rfl (obs_seq obs_region rfl (obs_seq obs_region rfl obs_ret)))).weaken (EnvLe.cons e6 (EnvLe.cons e16 (EnvLe.cons e18 (EnvLe.cons e25 (EnvLe.nil _))))) (Hp.le_refl _)))).weaken (EnvLe.cons e6 (EnvLe.cons e16 (EnvLe.cons e18 (EnvLe.cons e25 (EnvLe.nil _))))) (Hp.le_refl _))))).weaken (EnvLe.cons e6 (EnvLe.cons e16 (EnvLe.cons e18 (EnvLe.nil _)))) (Hp.le_refl _))))).weaken (EnvLe.cons e4 (EnvLe.cons e5 (EnvLe.cons e6 (EnvLe.cons e15 (EnvLe.cons e16 (EnvLe.cons e18 (EnvLe.nil _))))))) (Hp.le_refl _)))))))))))

-- abacistlaw17.awake
def W_abacistlaw17_awake (H : Hp) (K : Value → Hp → Prop) : Prop :=
  HCalls Try.prog 43 #[.int .i64 (3 : Int), .int .i64 (32 : Int)] H fun v1 H1 => DTup v1 fun l1 => DCons l1 fun v2 l2 => DI .i64 v2 fun x1 => DCons l2 fun v3 l3 => DI .i64 v3 fun x2 => DNil l3 (BIf (x1 == (17 : Int)) (K (.bool (x2 == (0 : Int))) H1) (K (.bool false) H1))
def W_abacistlaw17_awake.Λ (_ : Value → Hp → Prop) : Cuts := Cuts.none (fun _ => none)
theorem W_abacistlaw17_awake.ok (H : Hp) (K : Value → Hp → Prop) (h : W_abacistlaw17_awake H K) : HCalls Try.prog 11 #[] H K :=
  hcalls Try.func11 rfl (Nat.le_of_ble_eq_true rfl) (hw_safe (Λ := Cuts.none (fun _ => none)) mix _ _ _ _ _ (Eq.mp (by kernel_rfl) h) (obs_none _ _ _ _ _))

-- abacistlaw17.per
def W_abacistlaw17_per.l2 (K : Value → Hp → Prop) : Nat → Int → Int → Hp → Prop
  | 0, _, _, _ => False
  | k + 1, x2, x3, H =>
    let R2 := W_abacistlaw17_per.l2 K k
    BIf (decide (x3 ≤ (512 : Int))) (BIf (x2 == (IntKind.i64.wrap ((8 : Int) * x3))) (K (.int .i64 x3) H) (R2 x2 (IntKind.i64.wrap ((2 : Int) * x3)) H)) (K (.int .i64 (0 : Int)) H)
def W_abacistlaw17_per (x1 : Int) (H : Hp) (K : Value → Hp → Prop) : Prop :=
  (∃ k, W_abacistlaw17_per.l2 K k x1 (4 : Int) H)
def W_abacistlaw17_per.l2.L (K : Value → Hp → Prop) (k : Nat) : Mid := fun E D H =>
  DG (E.get? 0) fun w0 => DI .i64 w0 fun x2 => DG (E.get? 3) fun w3 => DI .i64 w3 fun x3 => DNilD D (W_abacistlaw17_per.l2 K k x2 x3 H)
def W_abacistlaw17_per.Λ2 (_ : Value → Hp → Prop) (_R2 : Int → Int → Hp → Prop) : Cuts := Cuts.none (fun _ => none)
def W_abacistlaw17_per.Λ (K : Value → Hp → Prop) : Cuts := ⟨fun i => none, fun i => match Nat.beq i 2 with | true => some (fun E D H => ∃ k, W_abacistlaw17_per.l2.L K k E D H) | false => none, (fun _ => none)⟩
theorem W_abacistlaw17_per.ok (x1 : Int) (H : Hp) (K : Value → Hp → Prop) (h : W_abacistlaw17_per x1 H K) : HCalls Try.prog 13 #[.int .i64 x1] H K :=
  hcalls Try.func13 rfl (Nat.le_of_ble_eq_true rfl) (hw_safe (Λ := (W_abacistlaw17_per.Λ K)) mix _ _ _ _ _ (Eq.mp (by kernel_rfl) h) (obs_seq obs_region rfl (obs_seq (obs_seq obs_region rfl (obs_block (obs_loop rfl (fun E D H h => by
      refine Safe.loop' (W_abacistlaw17_per.l2.L K) (fun E D H h => ?_) (fun k E D H h => ?_) E D H h
      · obtain ⟨w0, e0, g1⟩ := DG.out h; obtain ⟨x2, rfl, g2⟩ := DI.out g1; obtain ⟨w3, e3, g3⟩ := DG.out g2; obtain ⟨x3, rfl, g4⟩ := DI.out g3; obtain ⟨rfl, h'⟩ := DNilD.out g4; exact h'
      · obtain ⟨w0, e0, g1⟩ := DG.out h
        obtain ⟨x2, rfl, g2⟩ := DI.out g1
        obtain ⟨w3, e3, g3⟩ := DG.out g2
        obtain ⟨x3, rfl, g4⟩ := DI.out g3
        obtain ⟨rfl, h'⟩ := DNilD.out g4
        exact (hw_safe (Λ := (W_abacistlaw17_per.Λ2 K (W_abacistlaw17_per.l2 K k))) mix _ _ [(0, .int .i64 x2), (3, .int .i64 x3)] [] H (Eq.mp (by kernel_rfl) h') (obs_seq (obs_seq obs_region rfl (obs_cond obs_skip obs_exit)) rfl (obs_seq (obs_block (obs_seq obs_region rfl (obs_cond (obs_seq obs_region rfl obs_ret) obs_skip))) rfl obs_region))).weaken (EnvLe.cons e0 (EnvLe.cons e3 (EnvLe.nil _))) (Hp.le_refl _))))) rfl (obs_seq obs_region rfl obs_ret))))

-- abacistlaw17.room
def W_abacistlaw17_room.l3 (K : Value → Hp → Prop) : Nat → Int → Int → Int → Int → Hp → Prop
  | 0, _, _, _, _, _ => False
  | k + 1, x3, x4, x5, x6, H =>
    let R3 := W_abacistlaw17_room.l3 K k
    BIf (decide (x6 < x3)) (R3 x3 x4 (IntKind.i64.wrap ((2 : Int) * x5)) (IntKind.i64.wrap (x6 + (1 : Int))) H) (BIf (decide (x5 ≤ x4)) (K (.int .i64 (1 : Int)) H) ((x4 ≠ 0 ∧ IntKind.i64 = IntKind.i64 ∧ K (.int .i64 (IntKind.i64.wrap (Int.tdiv x5 x4))) H)))
def W_abacistlaw17_room (x1 : Int) (x2 : Int) (H : Hp) (K : Value → Hp → Prop) : Prop :=
  (∃ k, W_abacistlaw17_room.l3 K k x1 x2 (1 : Int) (0 : Int) H)
def W_abacistlaw17_room.l3.L (K : Value → Hp → Prop) (k : Nat) : Mid := fun E D H =>
  DG (E.get? 0) fun w0 => DI .i64 w0 fun x3 => DG (E.get? 1) fun w1 => DI .i64 w1 fun x4 => DG (E.get? 5) fun w5 => DI .i64 w5 fun x5 => DG (E.get? 6) fun w6 => DI .i64 w6 fun x6 => DNilD D (W_abacistlaw17_room.l3 K k x3 x4 x5 x6 H)
def W_abacistlaw17_room.Λ3 (_ : Value → Hp → Prop) (_R3 : Int → Int → Int → Int → Hp → Prop) : Cuts := Cuts.none (fun _ => none)
def W_abacistlaw17_room.Λ (K : Value → Hp → Prop) : Cuts := ⟨fun i => none, fun i => match Nat.beq i 3 with | true => some (fun E D H => ∃ k, W_abacistlaw17_room.l3.L K k E D H) | false => none, (fun _ => none)⟩
theorem W_abacistlaw17_room.ok (x1 : Int) (x2 : Int) (H : Hp) (K : Value → Hp → Prop) (h : W_abacistlaw17_room x1 x2 H K) : HCalls Try.prog 14 #[.int .i64 x1, .int .i64 x2] H K :=
  hcalls Try.func14 rfl (Nat.le_of_ble_eq_true rfl) (hw_safe (Λ := (W_abacistlaw17_room.Λ K)) mix _ _ _ _ _ (Eq.mp (by kernel_rfl) h) (obs_seq obs_region rfl (obs_seq obs_region rfl (obs_seq (obs_seq obs_region rfl (obs_block (obs_loop rfl (fun E D H h => by
      refine Safe.loop' (W_abacistlaw17_room.l3.L K) (fun E D H h => ?_) (fun k E D H h => ?_) E D H h
      · obtain ⟨w0, e0, g1⟩ := DG.out h; obtain ⟨x3, rfl, g2⟩ := DI.out g1; obtain ⟨w1, e1, g3⟩ := DG.out g2; obtain ⟨x4, rfl, g4⟩ := DI.out g3; obtain ⟨w5, e5, g5⟩ := DG.out g4; obtain ⟨x5, rfl, g6⟩ := DI.out g5; obtain ⟨w6, e6, g7⟩ := DG.out g6; obtain ⟨x6, rfl, g8⟩ := DI.out g7; obtain ⟨rfl, h'⟩ := DNilD.out g8; exact h'
      · obtain ⟨w0, e0, g1⟩ := DG.out h
        obtain ⟨x3, rfl, g2⟩ := DI.out g1
        obtain ⟨w1, e1, g3⟩ := DG.out g2
        obtain ⟨x4, rfl, g4⟩ := DI.out g3
        obtain ⟨w5, e5, g5⟩ := DG.out g4
        obtain ⟨x5, rfl, g6⟩ := DI.out g5
        obtain ⟨w6, e6, g7⟩ := DG.out g6
        obtain ⟨x6, rfl, g8⟩ := DI.out g7
        obtain ⟨rfl, h'⟩ := DNilD.out g8
        exact (hw_safe (Λ := (W_abacistlaw17_room.Λ3 K (W_abacistlaw17_room.l3 K k))) mix _ _ [(0, .int .i64 x3), (1, .int .i64 x4), (5, .int .i64 x5), (6, .int .i64 x6)] [] H (Eq.mp (by kernel_rfl) h') (obs_seq (obs_seq obs_region rfl (obs_cond obs_skip obs_exit)) rfl (obs_seq (obs_block obs_region) rfl obs_region))).weaken (EnvLe.cons e0 (EnvLe.cons e1 (EnvLe.cons e5 (EnvLe.cons e6 (EnvLe.nil _))))) (Hp.le_refl _))))) rfl (obs_seq (obs_seq obs_region rfl (obs_cond (obs_seq obs_region rfl obs_ret) obs_skip)) rfl (obs_seq obs_region rfl obs_ret))))))

end Go.Proofs.Ytdjdielefolfbaa.W
