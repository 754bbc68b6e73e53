/- Formulas of functions, printed by wip/tools/hwp.py. -/
import Derived.Test.YtdjdielefolfbaaHwE
import Derived.Test.YtdjdielefolfbaaProg
set_option maxRecDepth 100000
set_option linter.unusedVariables false
namespace Go.Proofs.Ytdjdielefolfbaa.W
open Go Go.Hw

theorem mix : Try.prog.follows .mixedOrders = true := by kernel_rfl
-- abacistlaw17.LayoutMost
def W_abacistlaw17_LayoutMost (x1 : Int) (x2 : Int) (H : Hp) (K : Value → Hp → Prop) : Prop :=
  HCalls Try.prog 11 #[] H fun v1 H1 => DB v1 fun c1 => BIf (!c1) (K (.bool false) H1) (HCalls Try.prog 12 #[.int .i64 x1, .int .i64 x2] H1 fun v2 H2 => DTup v2 fun l1 => DCons l1 fun v3 l2 => DI .i64 v3 fun x3 => DCons l2 fun v4 l3 => DB v4 fun c2 => DNil l3 (HCalls Try.prog 13 #[.int .i64 x2] H2 fun v5 H3 => DI .i64 v5 fun x4 => BIf (x4 == (0 : Int)) (BIf (!c2) (K (.bool (x3 == (0 : Int))) H3) (K (.bool false) H3)) (BIf (decide (x1 < (13 : Int))) (BIf (!c2) (K (.bool (x3 == (0 : Int))) H3) (K (.bool false) H3)) (BIf c2 (BIf (decide (x3 ≥ (0 : Int))) (BIf (decide (x3 ≤ (32 : Int))) (HCalls Try.prog 14 #[.int .i64 x3, .int .i64 x4] H3 fun v6 H4 => DI .i64 v6 fun x5 => BIf (decide ((IntKind.i64.wrap ((9 : Int) + (IntKind.i64.wrap ((4 : Int) * x5)))) ≤ x1)) (BIf (x3 == (32 : Int)) (K (.bool true) H4) (HCalls Try.prog 14 #[.int .i64 (IntKind.i64.wrap (x3 + (1 : Int))), .int .i64 x4] H4 fun v7 H5 => DI .i64 v7 fun x6 => K (.bool (decide ((IntKind.i64.wrap ((9 : Int) + (IntKind.i64.wrap ((4 : Int) * x6)))) > x1))) H5)) (K (.bool false) H4)) (K (.bool false) H3)) (K (.bool false) H3)) (K (.bool false) H3)))))
def W_abacistlaw17_LayoutMost.Λ (_ : Value → Hp → Prop) : Cuts := Cuts.none (fun _ => none)
theorem W_abacistlaw17_LayoutMost.ok (x1 : Int) (x2 : Int) (H : Hp) (K : Value → Hp → Prop) (h : W_abacistlaw17_LayoutMost x1 x2 H K) : HCalls Try.prog 3 #[.int .i64 x1, .int .i64 x2] H K :=
  hcalls Try.func3 rfl (Nat.le_of_ble_eq_true rfl) (hw_safe (Λ := Cuts.none (fun _ => none)) mix _ _ _ _ _ (Eq.mp (by kernel_rfl) h) (obs_none _ _ _ _ _))

-- abacistlaw17.LayoutPlaces
def W_abacistlaw17_LayoutPlaces.l26 (K : Value → Hp → Prop) : Nat → Int → Addr → Addr → Int → Int → Hp → Prop
  | 0, _, _, _, _, _, _ => False
  | k + 1, x31, a9, a10, x32, x33, H =>
    let R26 := W_abacistlaw17_LayoutPlaces.l26 K k
    BIf (decide (x33 < (4 : Int))) (ixI x33 4 (Ld H (((a9.add 5).add (x33.toNat * 3)).add 0) fun v20 => DI .i64 v20 fun x34 => BIf (decide (x31 ≥ x34)) (ixI x33 4 (Ld H (((a9.add 5).add (x33.toNat * 3)).add 0) fun v21 => DI .i64 v21 fun x35 => ixI x33 4 (Ld H (((a9.add 5).add (x33.toNat * 3)).add 1) fun v22 => DI .i64 v22 fun x36 => BIf (decide (x31 < (IntKind.i64.wrap (x35 + x36)))) (BIf (x32 != (-3 : Int)) (K (.bool false) H) (R26 x31 a9 a10 x33 (IntKind.i64.wrap (x33 + (1 : Int))) H)) (R26 x31 a9 a10 x32 (IntKind.i64.wrap (x33 + (1 : Int))) H)))) (R26 x31 a9 a10 x32 (IntKind.i64.wrap (x33 + (1 : Int))) H))) (LdA H a10 3 fun l16 => HCalls Try.prog 37 #[.agg l16.toArray, .int .i64 (0 : Int), .int .i64 (0 : Int)] H fun v23 H9 => DTup v23 fun l17 => DCons l17 fun v24 l18 => DI .i64 v24 fun x37 => DCons l18 fun v25 l19 => DI .i64 v25 fun x38 => DCons l19 fun v26 l20 => DI .i64 v26 fun x39 => DNil l20 (LdA H9 a9 17 fun l21 => HCalls Try.prog 38 #[.agg l21.toArray, .int .i64 x31] H9 fun v27 H10 => DI .i64 v27 fun x40 => BIf (x40 == x32) (K (.bool (x39 == (2 : Int))) H10) (K (.bool false) H10)))
def W_abacistlaw17_LayoutPlaces.j25 (K : Value → Hp → Prop) (x29 : Int) (a7 : Addr) (a8 : Addr) (x30 : Int) (H : Hp) : Prop :=
  (∃ k, W_abacistlaw17_LayoutPlaces.l26 K k x29 a7 a8 x30 (0 : Int) H)
def W_abacistlaw17_LayoutPlaces.j23 (K : Value → Hp → Prop) (x27 : Int) (a5 : Addr) (a6 : Addr) (x28 : Int) (H : Hp) : Prop :=
  BIf (decide (x27 ≥ (1 : Int))) (BIf (decide (x27 ≤ (8 : Int))) (W_abacistlaw17_LayoutPlaces.j25 K x27 a5 a6 (-2 : Int) H) (W_abacistlaw17_LayoutPlaces.j25 K x27 a5 a6 x28 H)) (W_abacistlaw17_LayoutPlaces.j25 K x27 a5 a6 x28 H)
def W_abacistlaw17_LayoutPlaces.j20 (K : Value → Hp → Prop) (x26 : Int) (a3 : Addr) (a4 : Addr) (H : Hp) : Prop :=
  BIf (x26 == (0 : Int)) (W_abacistlaw17_LayoutPlaces.j23 K x26 a3 a4 (-1 : Int) H) (W_abacistlaw17_LayoutPlaces.j23 K x26 a3 a4 (-3 : Int) H)
def W_abacistlaw17_LayoutPlaces.j14 (K : Value → Hp → Prop) (x15 : Int) (x16 : Int) (x17 : Int) (x18 : Int) (a1 : Addr) (a2 : Addr) (H : Hp) : Prop :=
  LdA H a2 3 fun l11 => HCalls Try.prog 39 #[.agg l11.toArray, .int .i64 x18, .int .i64 x15, .int .i64 x16] H fun v12 H8 => DTup v12 fun l12 => DCons l12 fun v13 l13 => DI .i64 v13 fun x19 => DCons l13 fun v14 l14 => DI .i64 v14 fun x20 => DCons l14 fun v15 l15 => DI .i64 v15 fun x21 => DNil l15 (BIf (decide (x16 < (1 : Int))) (BIf (x21 != (2 : Int)) (K (.bool false) H8) (BIf (x19 != (0 : Int)) (K (.bool false) H8) (BIf (x20 != (0 : Int)) (K (.bool false) H8) (W_abacistlaw17_LayoutPlaces.j20 K x17 a1 a2 H8)))) (BIf (decide (x15 < (0 : Int))) (BIf (x21 != (2 : Int)) (K (.bool false) H8) (BIf (x19 != (0 : Int)) (K (.bool false) H8) (BIf (x20 != (0 : Int)) (K (.bool false) H8) (W_abacistlaw17_LayoutPlaces.j20 K x17 a1 a2 H8)))) (Ld H8 (a2.add 2) fun v16 => DI .i64 v16 fun x22 => BIf (decide (x15 ≥ x22)) (BIf (x21 != (2 : Int)) (K (.bool false) H8) (BIf (x19 != (0 : Int)) (K (.bool false) H8) (BIf (x20 != (0 : Int)) (K (.bool false) H8) (W_abacistlaw17_LayoutPlaces.j20 K x17 a1 a2 H8)))) (Ld H8 (a2.add 2) fun v17 => DI .i64 v17 fun x23 => BIf (decide (x16 > (IntKind.i64.wrap (x23 - x15)))) (BIf (x21 != (2 : Int)) (K (.bool false) H8) (BIf (x19 != (0 : Int)) (K (.bool false) H8) (BIf (x20 != (0 : Int)) (K (.bool false) H8) (W_abacistlaw17_LayoutPlaces.j20 K x17 a1 a2 H8)))) (BIf (x21 != (0 : Int)) (K (.bool false) H8) (Ld H8 (a2.add 0) fun v18 => DI .i64 v18 fun x24 => (x18 ≠ 0 ∧ IntKind.i64 = IntKind.i64 ∧ BIf (x19 != (IntKind.i64.wrap (x24 + (IntKind.i64.wrap (Int.tdiv x15 x18))))) (K (.bool false) H8) (Ld H8 (a2.add 0) fun v19 => DI .i64 v19 fun x25 => (x18 ≠ 0 ∧ IntKind.i64 = IntKind.i64 ∧ BIf (x20 != (IntKind.i64.wrap (x25 + (IntKind.i64.wrap (Int.tdiv (IntKind.i64.wrap ((IntKind.i64.wrap (x15 + x16)) - (1 : Int))) x18))))) (K (.bool false) H8) (W_abacistlaw17_LayoutPlaces.j20 K x17 a1 a2 H8))))))))))
def W_abacistlaw17_LayoutPlaces (x1 : Int) (x2 : Int) (x3 : Int) (x4 : Int) (x5 : Int) (x6 : Int) (x7 : Int) (H : Hp) (K : Value → Hp → Prop) : Prop :=
  HCalls Try.prog 11 #[] H fun v1 H1 => DB v1 fun c1 => BIf (!c1) (K (.bool false) H1) (((8 : Int) ≠ 0 ∧ IntKind.u8 = IntKind.u8 ∧ (0 ≤ (IntKind.u64.wrap (Int.tmod x2 (8 : Int))) ∧ ((11 : Int) ≠ 0 ∧ IntKind.u8 = IntKind.u8 ∧ HCalls Try.prog 36 #[.int .i64 (IntKind.i64.wrap (Int.tmod x1 (11 : Int))), .int .i64 (5000 : Int), .int .i64 (IntKind.i64.wrap ((8 : Int) * (shlI .i64 (4 : Int) (IntKind.u64.wrap (Int.tmod x2 (8 : Int))))))] H1 fun v2 H2 => DTup v2 fun l1 => DCons l1 fun v3 l2 => DA v3 fun y1 => DCons l2 fun v4 l3 => DI .i64 v4 fun x8 => DNil l3 (Nw H2 (.obj (.cells #[.int .i64 (0 : Int), .int .i64 (0 : Int), .int .i64 (0 : Int), .int .i64 (0 : Int), .int .i64 (0 : Int), .int .i64 (0 : Int), .int .i64 (0 : Int), .int .i64 (0 : Int), .int .i64 (0 : Int), .int .i64 (0 : Int), .int .i64 (0 : Int), .int .i64 (0 : Int), .int .i64 (0 : Int), .int .i64 (0 : Int), .int .i64 (0 : Int), .int .i64 (0 : Int), .int .i64 (0 : Int)] 75)) fun b1 H3 => StA H3 (⟨b1, 0, none⟩ : Addr) y1 17 fun H4 => BIf (x8 != (0 : Int)) (K (.bool false) H4) (((4 : Int) ≠ 0 ∧ IntKind.u8 = IntKind.u8 ∧ ixI (Int.tmod x3 (4 : Int)) 4 (LdA H4 (((⟨b1, 0, none⟩ : Addr).add 5).add ((Int.tmod x3 (4 : Int)).toNat * 3)) 3 fun l4 => Nw H4 (.obj (.cells #[.int .i64 (0 : Int), .int .i64 (0 : Int), .int .i64 (0 : Int)] 72)) fun b2 H5 => StA H5 (⟨b2, 0, none⟩ : Addr) l4.toArray 3 fun H6 => LdA H6 (⟨b2, 0, none⟩ : Addr) 3 fun l5 => HCalls Try.prog 37 #[.agg l5.toArray, .int .i64 (shlI .i64 (4 : Int) (IntKind.u64.wrap (Int.tmod x2 (8 : Int)))), .int .i64 x4] H6 fun v5 H7 => DTup v5 fun l6 => DCons l6 fun v6 l7 => DI .i64 v6 fun x9 => DCons l7 fun v7 l8 => DI .i64 v7 fun x10 => DCons l8 fun v8 l9 => DI .i64 v8 fun x11 => DNil l9 (BIf (decide (x4 < (0 : Int))) (BIf (x11 != (2 : Int)) (K (.bool false) H7) (BIf (x9 != (0 : Int)) (K (.bool false) H7) (BIf (x10 != (0 : Int)) (K (.bool false) H7) (W_abacistlaw17_LayoutPlaces.j14 K x5 x6 x7 (shlI .i64 (4 : Int) (IntKind.u64.wrap (Int.tmod x2 (8 : Int)))) (⟨b1, 0, none⟩ : Addr) (⟨b2, 0, none⟩ : Addr) H7)))) (Ld H7 ((⟨b2, 0, none⟩ : Addr).add 2) fun v9 => DI .i64 v9 fun x12 => BIf (decide (x4 ≥ x12)) (BIf (x11 != (2 : Int)) (K (.bool false) H7) (BIf (x9 != (0 : Int)) (K (.bool false) H7) (BIf (x10 != (0 : Int)) (K (.bool false) H7) (W_abacistlaw17_LayoutPlaces.j14 K x5 x6 x7 (shlI .i64 (4 : Int) (IntKind.u64.wrap (Int.tmod x2 (8 : Int)))) (⟨b1, 0, none⟩ : Addr) (⟨b2, 0, none⟩ : Addr) H7)))) (BIf (x11 != (0 : Int)) (K (.bool false) H7) (Ld H7 ((⟨b2, 0, none⟩ : Addr).add 0) fun v10 => DI .i64 v10 fun x13 => ((shlI .i64 (4 : Int) (IntKind.u64.wrap (Int.tmod x2 (8 : Int)))) ≠ 0 ∧ IntKind.i64 = IntKind.i64 ∧ BIf (x9 != (IntKind.i64.wrap (x13 + (IntKind.i64.wrap (Int.tdiv x4 (shlI .i64 (4 : Int) (IntKind.u64.wrap (Int.tmod x2 (8 : Int))))))))) (K (.bool false) H7) (((shlI .i64 (4 : Int) (IntKind.u64.wrap (Int.tmod x2 (8 : Int)))) ≠ 0 ∧ IntKind.i64 = IntKind.i64 ∧ BIf (x10 != (Int.tmod x4 (shlI .i64 (4 : Int) (IntKind.u64.wrap (Int.tmod x2 (8 : Int)))))) (K (.bool false) H7) (LdA H7 (⟨b1, 0, none⟩ : Addr) 17 fun l10 => QCall Try.prog 38 #[.agg l10.toArray, .int .i64 x9] H7 fun v11 => DI .i64 v11 fun x14 => ((4 : Int) ≠ 0 ∧ IntKind.u8 = IntKind.u8 ∧ BIf (x14 != (IntKind.i64.wrap (Int.tmod x3 (4 : Int)))) (K (.bool false) H7) (W_abacistlaw17_LayoutPlaces.j14 K x5 x6 x7 (shlI .i64 (4 : Int) (IntKind.u64.wrap (Int.tmod x2 (8 : Int)))) (⟨b1, 0, none⟩ : Addr) (⟨b2, 0, none⟩ : Addr) H7))))))))))))))))))
def W_abacistlaw17_LayoutPlaces.l26.L (K : Value → Hp → Prop) (k : Nat) : Mid := fun E D H =>
  DG (E.get? 6) fun w6 => DI .i64 w6 fun x31 => DG (E.get? 16) fun w16 => DP w16 fun pw16 => NN pw16 fun a9 => DG (E.get? 18) fun w18 => DP w18 fun pw18 => NN pw18 fun a10 => DG (E.get? 25) fun w25 => DI .i64 w25 fun x32 => DG (E.get? 26) fun w26 => DI .i64 w26 fun x33 => DNilD D (W_abacistlaw17_LayoutPlaces.l26 K k x31 a9 a10 x32 x33 H)
def W_abacistlaw17_LayoutPlaces.Λ26 (_ : Value → Hp → Prop) (_R26 : Int → Addr → Addr → Int → Int → Hp → Prop) : Cuts := Cuts.none (fun _ => none)
def W_abacistlaw17_LayoutPlaces.Λ (K : Value → Hp → Prop) : Cuts := ⟨fun i => match Nat.beq i 25 with | true => some (fun E D H => DG (E.get? 6) fun w6 => DI .i64 w6 fun x29 => DG (E.get? 16) fun w16 => DP w16 fun pw16 => NN pw16 fun a7 => DG (E.get? 18) fun w18 => DP w18 fun pw18 => NN pw18 fun a8 => DG (E.get? 25) fun w25 => DI .i64 w25 fun x30 => DNilD D (W_abacistlaw17_LayoutPlaces.j25 K x29 a7 a8 x30 H)) | false => match Nat.beq i 23 with | true => some (fun E D H => DG (E.get? 6) fun w6 => DI .i64 w6 fun x27 => DG (E.get? 16) fun w16 => DP w16 fun pw16 => NN pw16 fun a5 => DG (E.get? 18) fun w18 => DP w18 fun pw18 => NN pw18 fun a6 => DG (E.get? 25) fun w25 => DI .i64 w25 fun x28 => DNilD D (W_abacistlaw17_LayoutPlaces.j23 K x27 a5 a6 x28 H)) | false => match Nat.beq i 20 with | true => some (fun E D H => DG (E.get? 6) fun w6 => DI .i64 w6 fun x26 => DG (E.get? 16) fun w16 => DP w16 fun pw16 => NN pw16 fun a3 => DG (E.get? 18) fun w18 => DP w18 fun pw18 => NN pw18 fun a4 => DNilD D (W_abacistlaw17_LayoutPlaces.j20 K x26 a3 a4 H)) | false => match Nat.beq i 14 with | true => some (fun E D H => DG (E.get? 4) fun w4 => DI .i64 w4 fun x15 => DG (E.get? 5) fun w5 => DI .i64 w5 fun x16 => DG (E.get? 6) fun w6 => DI .i64 w6 fun x17 => DG (E.get? 15) fun w15 => DI .i64 w15 fun x18 => DG (E.get? 16) fun w16 => DP w16 fun pw16 => NN pw16 fun a1 => DG (E.get? 18) fun w18 => DP w18 fun pw18 => NN pw18 fun a2 => DNilD D (W_abacistlaw17_LayoutPlaces.j14 K x15 x16 x17 x18 a1 a2 H)) | false => none, fun i => match Nat.beq i 26 with | true => some (fun E D H => ∃ k, W_abacistlaw17_LayoutPlaces.l26.L K k E D H) | false => none, (fun _ => none)⟩
theorem W_abacistlaw17_LayoutPlaces.ok (x1 : Int) (x2 : Int) (x3 : Int) (x4 : Int) (x5 : Int) (x6 : Int) (x7 : Int) (H : Hp) (K : Value → Hp → Prop) (h : W_abacistlaw17_LayoutPlaces x1 x2 x3 x4 x5 x6 x7 H K) : HCalls Try.prog 9 #[.int .u8 x1, .int .u8 x2, .int .u8 x3, .int .i64 x4, .int .i64 x5, .int .i64 x6, .int .i64 x7] H K :=
  hcalls Try.func9 rfl (Nat.le_of_ble_eq_true rfl) (hw_safe (Λ := (W_abacistlaw17_LayoutPlaces.Λ K)) mix _ _ _ _ _ (Eq.mp (by kernel_rfl) h) (obs_seq obs_region rfl (obs_seq (obs_seq obs_region rfl (obs_cond (obs_seq obs_region rfl obs_ret) obs_skip)) rfl (obs_seq obs_region rfl (obs_seq obs_region rfl (obs_seq (obs_seq obs_region rfl (obs_cond (obs_seq obs_region rfl obs_ret) obs_skip)) rfl (obs_seq obs_region rfl (obs_seq obs_region rfl (obs_seqc (obs_seq obs_region rfl (obs_cond (obs_seq obs_region rfl (obs_cond (obs_seq obs_region rfl obs_ret) obs_skip)) (obs_seq obs_region rfl (obs_cond (obs_seq obs_region rfl obs_ret) obs_skip)))) rfl (fun E D H h => by
      obtain ⟨w4, e4, g1⟩ := DG.out h
      obtain ⟨x15, rfl, g2⟩ := DI.out g1
      obtain ⟨w5, e5, g3⟩ := DG.out g2
      obtain ⟨x16, rfl, g4⟩ := DI.out g3
      obtain ⟨w6, e6, g5⟩ := DG.out g4
      obtain ⟨x17, rfl, g6⟩ := DI.out g5
      obtain ⟨w15, e15, g7⟩ := DG.out g6
      obtain ⟨x18, rfl, g8⟩ := DI.out g7
      obtain ⟨w16, e16, g9⟩ := DG.out g8
      obtain ⟨pw16, rfl, g10⟩ := DP.out g9
      obtain ⟨a1, rfl, g11⟩ := NN.out g10
      obtain ⟨w18, e18, g12⟩ := DG.out g11
      obtain ⟨pw18, rfl, g13⟩ := DP.out g12
      obtain ⟨a2, rfl, g14⟩ := NN.out g13
      obtain ⟨rfl, h'⟩ := DNilD.out g14
      exact (hw_safe (Λ := (W_abacistlaw17_LayoutPlaces.Λ K)) mix _ _ [(4, .int .i64 x15), (5, .int .i64 x16), (6, .int .i64 x17), (15, .int .i64 x18), (16, .pointer (some a1)), (18, .pointer (some a2))] [] H (Eq.mp (by kernel_rfl) h') (obs_seq obs_region rfl (obs_seqc (obs_seq obs_region rfl (obs_cond (obs_seq obs_region rfl (obs_cond (obs_seq obs_region rfl obs_ret) obs_skip)) (obs_seq obs_region rfl (obs_cond (obs_seq obs_region rfl obs_ret) obs_skip)))) rfl (fun E D H h => by
          obtain ⟨w6, e6, g1⟩ := DG.out h
          obtain ⟨x26, rfl, g2⟩ := DI.out g1
          obtain ⟨w16, e16, g3⟩ := DG.out g2
          obtain ⟨pw16, rfl, g4⟩ := DP.out g3
          obtain ⟨a3, rfl, g5⟩ := NN.out g4
          obtain ⟨w18, e18, g6⟩ := DG.out g5
          obtain ⟨pw18, rfl, g7⟩ := DP.out g6
          obtain ⟨a4, rfl, g8⟩ := NN.out g7
          obtain ⟨rfl, h'⟩ := DNilD.out g8
          exact (hw_safe (Λ := (W_abacistlaw17_LayoutPlaces.Λ K)) mix _ _ [(6, .int .i64 x26), (16, .pointer (some a3)), (18, .pointer (some a4))] [] H (Eq.mp (by kernel_rfl) h') (obs_seq obs_region rfl (obs_seqc (obs_seq obs_region rfl (obs_cond obs_region obs_skip)) rfl (fun E D H h => by
              obtain ⟨w6, e6, g1⟩ := DG.out h
              obtain ⟨x27, rfl, g2⟩ := DI.out g1
              obtain ⟨w16, e16, g3⟩ := DG.out g2
              obtain ⟨pw16, rfl, g4⟩ := DP.out g3
              obtain ⟨a5, rfl, g5⟩ := NN.out g4
              obtain ⟨w18, e18, g6⟩ := DG.out g5
              obtain ⟨pw18, rfl, g7⟩ := DP.out g6
              obtain ⟨a6, rfl, g8⟩ := NN.out g7
              obtain ⟨w25, e25, g9⟩ := DG.out g8
              obtain ⟨x28, rfl, g10⟩ := DI.out g9
              obtain ⟨rfl, h'⟩ := DNilD.out g10
              exact (hw_safe (Λ := (W_abacistlaw17_LayoutPlaces.Λ K)) mix _ _ [(6, .int .i64 x27), (16, .pointer (some a5)), (18, .pointer (some a6)), (25, .int .i64 x28)] [] H (Eq.mp (by kernel_rfl) h') (obs_seqc (obs_seq obs_region rfl (obs_cond obs_region obs_skip)) rfl (fun E D H h => by
                  obtain ⟨w6, e6, g1⟩ := DG.out h
                  obtain ⟨x29, rfl, g2⟩ := DI.out g1
                  obtain ⟨w16, e16, g3⟩ := DG.out g2
                  obtain ⟨pw16, rfl, g4⟩ := DP.out g3
                  obtain ⟨a7, rfl, g5⟩ := NN.out g4
                  obtain ⟨w18, e18, g6⟩ := DG.out g5
                  obtain ⟨pw18, rfl, g7⟩ := DP.out g6
                  obtain ⟨a8, rfl, g8⟩ := NN.out g7
                  obtain ⟨w25, e25, g9⟩ := DG.out g8
                  obtain ⟨x30, rfl, g10⟩ := DI.out g9
                  obtain ⟨rfl, h'⟩ := DNilD.out g10
                  exact (hw_safe (Λ := (W_abacistlaw17_LayoutPlaces.Λ K)) mix _ _ [(6, .int .i64 x29), (16, .pointer (some a7)), (18, .pointer (some a8)), (25, .int .i64 x30)] [] H (Eq.mp (by kernel_rfl) h') (obs_seq (obs_seq obs_region rfl (obs_block (obs_loop rfl (fun E D H h => by
                      refine Safe.loop' (W_abacistlaw17_LayoutPlaces.l26.L K) (fun E D H h => ?_) (fun k E D H h => ?_) E D H h
                      · obtain ⟨w6, e6, g1⟩ := DG.out h; obtain ⟨x31, rfl, g2⟩ := DI.out g1; obtain ⟨w16, e16, g3⟩ := DG.out g2; obtain ⟨pw16, rfl, g4⟩ := DP.out g3; obtain ⟨a9, rfl, g5⟩ := NN.out g4; obtain ⟨w18, e18, g6⟩ := DG.out g5; obtain ⟨pw18, rfl, g7⟩ := DP.out g6; obtain ⟨a10, rfl, g8⟩ := NN.out g7; obtain ⟨w25, e25, g9⟩ := DG.out g8; obtain ⟨x32, rfl, g10⟩ := DI.out g9; obtain ⟨w26, e26, g11⟩ := DG.out g10; obtain ⟨x33, rfl, g12⟩ := DI.out g11; obtain ⟨rfl, h'⟩ := DNilD.out g12; exact h'
                      · obtain ⟨w6, e6, g1⟩ := DG.out h
                        obtain ⟨x31, rfl, g2⟩ := DI.out g1
                        obtain ⟨w16, e16, g3⟩ := DG.out g2
                        obtain ⟨pw16, rfl, g4⟩ := DP.out g3
                        obtain ⟨a9, rfl, g5⟩ := NN.out g4
                        obtain ⟨w18, e18, g6⟩ := DG.out g5
                        obtain ⟨pw18, rfl, g7⟩ := DP.out g6
                        obtain ⟨a10, rfl, g8⟩ := NN.out g7
                        obtain ⟨w25, e25, g9⟩ := DG.out g8
                        obtain ⟨x32, rfl, g10⟩ := DI.out g9
                        obtain ⟨w26, e26, g11⟩ := DG.out g10
                        obtain ⟨x33, rfl, g12⟩ := DI.out g11
                        obtain ⟨rfl, h'⟩ := DNilD.out g12
                        exact (hw_safe (Λ := (W_abacistlaw17_LayoutPlaces.Λ26 K (W_abacistlaw17_LayoutPlaces.l26 K k))) mix _ _ [(6, .int .i64 x31), (16, .pointer (some a9)), (18, .pointer (some a10)), (25, .int .i64 x32), (26, .int .i64 x33)] [] H (Eq.mp (by kernel_rfl) h') (obs_seq (obs_seq obs_region rfl (obs_cond obs_skip obs_exit)) rfl (obs_seq (obs_block (obs_seq obs_region rfl (obs_cond (obs_seq (obs_seq obs_region rfl (obs_cond (obs_seq obs_region rfl obs_ret) obs_skip)) rfl obs_region) obs_skip))) rfl obs_region))).weaken (EnvLe.cons e6 (EnvLe.cons e16 (EnvLe.cons e18 (EnvLe.cons e25 (EnvLe.cons e26 (EnvLe.nil _)))))) (Hp.le_refl _))))) rfl (obs_seq obs_region rfl (obs_seq obs_region rfl obs_ret)))).weaken (EnvLe.cons e6 (EnvLe.cons e16 (EnvLe.cons e18 (EnvLe.cons e25 (EnvLe.nil _))))) (Hp.le_refl _)))).weaken (EnvLe.cons e6 (EnvLe.cons e16 (EnvLe.cons e18 (EnvLe.cons e25 (EnvLe.nil _))))) (Hp.le_refl _))))).weaken (EnvLe.cons e6 (EnvLe.cons e16 (EnvLe.cons e18 (EnvLe.nil _)))) (Hp.le_refl _))))).weaken (EnvLe.cons e4 (EnvLe.cons e5 (EnvLe.cons e6 (EnvLe.cons e15 (EnvLe.cons e16 (EnvLe.cons e18 (EnvLe.nil _))))))) (Hp.le_refl _)))))))))))

-- abacistlaw17.awake
def W_abacistlaw17_awake (H : Hp) (K : Value → Hp → Prop) : Prop :=
  HCalls Try.prog 43 #[.int .i64 (3 : Int), .int .i64 (32 : Int)] H fun v1 H1 => DTup v1 fun l1 => DCons l1 fun v2 l2 => DI .i64 v2 fun x1 => DCons l2 fun v3 l3 => DI .i64 v3 fun x2 => DNil l3 (BIf (x1 == (17 : Int)) (K (.bool (x2 == (0 : Int))) H1) (K (.bool false) H1))
def W_abacistlaw17_awake.Λ (_ : Value → Hp → Prop) : Cuts := Cuts.none (fun _ => none)
theorem W_abacistlaw17_awake.ok (H : Hp) (K : Value → Hp → Prop) (h : W_abacistlaw17_awake H K) : HCalls Try.prog 11 #[] H K :=
  hcalls Try.func11 rfl (Nat.le_of_ble_eq_true rfl) (hw_safe (Λ := Cuts.none (fun _ => none)) mix _ _ _ _ _ (Eq.mp (by kernel_rfl) h) (obs_none _ _ _ _ _))

-- abacistlaw17.per
def W_abacistlaw17_per.l2 (K : Value → Hp → Prop) : Nat → Int → Int → Hp → Prop
  | 0, _, _, _ => False
  | k + 1, x2, x3, H =>
    let R2 := W_abacistlaw17_per.l2 K k
    BIf (decide (x3 ≤ (512 : Int))) (BIf (x2 == (IntKind.i64.wrap ((8 : Int) * x3))) (K (.int .i64 x3) H) (R2 x2 (IntKind.i64.wrap ((2 : Int) * x3)) H)) (K (.int .i64 (0 : Int)) H)
def W_abacistlaw17_per (x1 : Int) (H : Hp) (K : Value → Hp → Prop) : Prop :=
  (∃ k, W_abacistlaw17_per.l2 K k x1 (4 : Int) H)
def W_abacistlaw17_per.l2.L (K : Value → Hp → Prop) (k : Nat) : Mid := fun E D H =>
  DG (E.get? 0) fun w0 => DI .i64 w0 fun x2 => DG (E.get? 3) fun w3 => DI .i64 w3 fun x3 => DNilD D (W_abacistlaw17_per.l2 K k x2 x3 H)
def W_abacistlaw17_per.Λ2 (_ : Value → Hp → Prop) (_R2 : Int → Int → Hp → Prop) : Cuts := Cuts.none (fun _ => none)
def W_abacistlaw17_per.Λ (K : Value → Hp → Prop) : Cuts := ⟨fun i => none, fun i => match Nat.beq i 2 with | true => some (fun E D H => ∃ k, W_abacistlaw17_per.l2.L K k E D H) | false => none, (fun _ => none)⟩
theorem W_abacistlaw17_per.ok (x1 : Int) (H : Hp) (K : Value → Hp → Prop) (h : W_abacistlaw17_per x1 H K) : HCalls Try.prog 13 #[.int .i64 x1] H K :=
  hcalls Try.func13 rfl (Nat.le_of_ble_eq_true rfl) (hw_safe (Λ := (W_abacistlaw17_per.Λ K)) mix _ _ _ _ _ (Eq.mp (by kernel_rfl) h) (obs_seq obs_region rfl (obs_seq (obs_seq obs_region rfl (obs_block (obs_loop rfl (fun E D H h => by
      refine Safe.loop' (W_abacistlaw17_per.l2.L K) (fun E D H h => ?_) (fun k E D H h => ?_) E D H h
      · obtain ⟨w0, e0, g1⟩ := DG.out h; obtain ⟨x2, rfl, g2⟩ := DI.out g1; obtain ⟨w3, e3, g3⟩ := DG.out g2; obtain ⟨x3, rfl, g4⟩ := DI.out g3; obtain ⟨rfl, h'⟩ := DNilD.out g4; exact h'
      · obtain ⟨w0, e0, g1⟩ := DG.out h
        obtain ⟨x2, rfl, g2⟩ := DI.out g1
        obtain ⟨w3, e3, g3⟩ := DG.out g2
        obtain ⟨x3, rfl, g4⟩ := DI.out g3
        obtain ⟨rfl, h'⟩ := DNilD.out g4
        exact (hw_safe (Λ := (W_abacistlaw17_per.Λ2 K (W_abacistlaw17_per.l2 K k))) mix _ _ [(0, .int .i64 x2), (3, .int .i64 x3)] [] H (Eq.mp (by kernel_rfl) h') (obs_seq (obs_seq obs_region rfl (obs_cond obs_skip obs_exit)) rfl (obs_seq (obs_block (obs_seq obs_region rfl (obs_cond (obs_seq obs_region rfl obs_ret) obs_skip))) rfl obs_region))).weaken (EnvLe.cons e0 (EnvLe.cons e3 (EnvLe.nil _))) (Hp.le_refl _))))) rfl (obs_seq obs_region rfl obs_ret))))

-- abacistlaw17.room
def W_abacistlaw17_room.l3 (K : Value → Hp → Prop) : Nat → Int → Int → Int → Int → Hp → Prop
  | 0, _, _, _, _, _ => False
  | k + 1, x3, x4, x5, x6, H =>
    let R3 := W_abacistlaw17_room.l3 K k
    BIf (decide (x6 < x3)) (R3 x3 x4 (IntKind.i64.wrap ((2 : Int) * x5)) (IntKind.i64.wrap (x6 + (1 : Int))) H) (BIf (decide (x5 ≤ x4)) (K (.int .i64 (1 : Int)) H) ((x4 ≠ 0 ∧ IntKind.i64 = IntKind.i64 ∧ K (.int .i64 (IntKind.i64.wrap (Int.tdiv x5 x4))) H)))
def W_abacistlaw17_room (x1 : Int) (x2 : Int) (H : Hp) (K : Value → Hp → Prop) : Prop :=
  (∃ k, W_abacistlaw17_room.l3 K k x1 x2 (1 : Int) (0 : Int) H)
def W_abacistlaw17_room.l3.L (K : Value → Hp → Prop) (k : Nat) : Mid := fun E D H =>
  DG (E.get? 0) fun w0 => DI .i64 w0 fun x3 => DG (E.get? 1) fun w1 => DI .i64 w1 fun x4 => DG (E.get? 5) fun w5 => DI .i64 w5 fun x5 => DG (E.get? 6) fun w6 => DI .i64 w6 fun x6 => DNilD D (W_abacistlaw17_room.l3 K k x3 x4 x5 x6 H)
def W_abacistlaw17_room.Λ3 (_ : Value → Hp → Prop) (_R3 : Int → Int → Int → Int → Hp → Prop) : Cuts := Cuts.none (fun _ => none)
def W_abacistlaw17_room.Λ (K : Value → Hp → Prop) : Cuts := ⟨fun i => none, fun i => match Nat.beq i 3 with | true => some (fun E D H => ∃ k, W_abacistlaw17_room.l3.L K k E D H) | false => none, (fun _ => none)⟩
theorem W_abacistlaw17_room.ok (x1 : Int) (x2 : Int) (H : Hp) (K : Value → Hp → Prop) (h : W_abacistlaw17_room x1 x2 H K) : HCalls Try.prog 14 #[.int .i64 x1, .int .i64 x2] H K :=
  hcalls Try.func14 rfl (Nat.le_of_ble_eq_true rfl) (hw_safe (Λ := (W_abacistlaw17_room.Λ K)) mix _ _ _ _ _ (Eq.mp (by kernel_rfl) h) (obs_seq obs_region rfl (obs_seq obs_region rfl (obs_seq (obs_seq obs_region rfl (obs_block (obs_loop rfl (fun E D H h => by
      refine Safe.loop' (W_abacistlaw17_room.l3.L K) (fun E D H h => ?_) (fun k E D H h => ?_) E D H h
      · obtain ⟨w0, e0, g1⟩ := DG.out h; obtain ⟨x3, rfl, g2⟩ := DI.out g1; obtain ⟨w1, e1, g3⟩ := DG.out g2; obtain ⟨x4, rfl, g4⟩ := DI.out g3; obtain ⟨w5, e5, g5⟩ := DG.out g4; obtain ⟨x5, rfl, g6⟩ := DI.out g5; obtain ⟨w6, e6, g7⟩ := DG.out g6; obtain ⟨x6, rfl, g8⟩ := DI.out g7; obtain ⟨rfl, h'⟩ := DNilD.out g8; exact h'
      · obtain ⟨w0, e0, g1⟩ := DG.out h
        obtain ⟨x3, rfl, g2⟩ := DI.out g1
        obtain ⟨w1, e1, g3⟩ := DG.out g2
        obtain ⟨x4, rfl, g4⟩ := DI.out g3
        obtain ⟨w5, e5, g5⟩ := DG.out g4
        obtain ⟨x5, rfl, g6⟩ := DI.out g5
        obtain ⟨w6, e6, g7⟩ := DG.out g6
        obtain ⟨x6, rfl, g8⟩ := DI.out g7
        obtain ⟨rfl, h'⟩ := DNilD.out g8
        exact (hw_safe (Λ := (W_abacistlaw17_room.Λ3 K (W_abacistlaw17_room.l3 K k))) mix _ _ [(0, .int .i64 x3), (1, .int .i64 x4), (5, .int .i64 x5), (6, .int .i64 x6)] [] H (Eq.mp (by kernel_rfl) h') (obs_seq (obs_seq obs_region rfl (obs_cond obs_skip obs_exit)) rfl (obs_seq (obs_block obs_region) rfl obs_region))).weaken (EnvLe.cons e0 (EnvLe.cons e1 (EnvLe.cons e5 (EnvLe.cons e6 (EnvLe.nil _))))) (Hp.le_refl _))))) rfl (obs_seq (obs_seq obs_region rfl (obs_cond (obs_seq obs_region rfl obs_ret) obs_skip)) rfl (obs_seq obs_region rfl obs_ret))))))

end Go.Proofs.Ytdjdielefolfbaa.W
