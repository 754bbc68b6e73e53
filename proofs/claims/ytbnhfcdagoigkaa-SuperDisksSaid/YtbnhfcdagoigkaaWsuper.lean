/- Formulas of functions, printed by wip/tools/hwp.py. -/
import Derived.Test.YtbnhfcdagoigkaaHwE
import Derived.Test.YtbnhfcdagoigkaaProg
set_option maxRecDepth 100000
set_option linter.unusedVariables false
namespace Go.Proofs.Ytbnhfcdagoigkaa.W
open Go Go.Hw

theorem mix : Try.prog.follows .mixedOrders = true := by kernel_rfl
-- super.Read
def W_super_Read (p1 : Option Addr) (H : Hp) (K : Value → Hp → Prop) : Prop :=
  Nw H (.obj (.cells #[.int .i64 (0 : Int), .int .i64 (0 : Int), .int .i64 (0 : Int), .int .i64 (0 : Int)] 23)) fun b1 H1 => HCalls Try.prog 29 #[.pointer p1, .int .i64 (0 : Int)] H1 fun v1 H2 => DTup v1 fun l1 => DCons l1 fun v2 l2 => DSl v2 fun A1 n1 m1 => DCons l2 fun v3 l3 => DI .i64 v3 fun x1 => DNil l3 (BIf (x1 != (0 : Int)) (StA H2 (⟨b1, 0, none⟩ : Addr) #[.int .i64 (0 : Int), .int .i64 (0 : Int), .int .i64 (0 : Int), .int .i64 (0 : Int)] 4 fun H3 => LdA H3 (⟨b1, 0, none⟩ : Addr) 4 fun l9 => K (.tuple #[.agg l9.toArray, .int .i64 x1]) H3) (HCalls Try.prog 30 #[.slice A1 n1 m1] H2 fun v4 H4 => DTup v4 fun l4 => DCons l4 fun v5 l5 => DA v5 fun y1 => DCons l5 fun v6 l6 => DI .i64 v6 fun x2 => DNil l6 (Nw H4 (.obj (.cells #[.int .i64 (0 : Int), .int .i64 (0 : Int), .int .i64 (0 : Int), .int .i64 (0 : Int)] 23)) fun b2 H5 => StA H5 (⟨b2, 0, none⟩ : Addr) y1 4 fun H6 => BIf (x2 != (0 : Int)) (StA H6 (⟨b1, 0, none⟩ : Addr) #[.int .i64 (0 : Int), .int .i64 (0 : Int), .int .i64 (0 : Int), .int .i64 (0 : Int)] 4 fun H7 => LdA H7 (⟨b1, 0, none⟩ : Addr) 4 fun l10 => K (.tuple #[.agg l10.toArray, .int .i64 x2]) H7) (LdA H6 (⟨b2, 0, none⟩ : Addr) 4 fun l7 => HCalls Try.prog 31 #[.pointer p1, .agg l7.toArray] H6 fun v7 H8 => DB v7 fun c1 => BIf (!c1) (StA H8 (⟨b1, 0, none⟩ : Addr) #[.int .i64 (0 : Int), .int .i64 (0 : Int), .int .i64 (0 : Int), .int .i64 (0 : Int)] 4 fun H9 => LdA H9 (⟨b1, 0, none⟩ : Addr) 4 fun l11 => K (.tuple #[.agg l11.toArray, .int .i64 (1 : Int)]) H9) (LdA H8 (⟨b2, 0, none⟩ : Addr) 4 fun l8 => StA H8 (⟨b1, 0, none⟩ : Addr) l8.toArray 4 fun H10 => LdA H10 (⟨b1, 0, none⟩ : Addr) 4 fun l12 => K (.tuple #[.agg l12.toArray, .int .i64 (0 : Int)]) H10)))))
def W_super_Read.Λ (_ : Value → Hp → Prop) : Cuts := Cuts.none (fun _ => none)
theorem W_super_Read.ok (p1 : Option Addr) (H : Hp) (K : Value → Hp → Prop) (h : W_super_Read p1 H K) : HCalls Try.prog 7 #[.pointer p1] H K :=
  hcalls Try.func7 rfl (Nat.le_of_ble_eq_true rfl) (hw_safe (Λ := Cuts.none (fun _ => none)) mix _ _ _ _ _ (Eq.mp (by kernel_rfl) h) (obs_none _ _ _ _ _))

-- super.Write
def W_super_Write (p1 : Option Addr) (x1 : Int) (x2 : Int) (x3 : Int) (x4 : Int) (H : Hp) (K : Value → Hp → Prop) : Prop :=
  Nw H (.obj (.cells #[.int .i64 x1, .int .i64 x2, .int .i64 x3, .int .i64 x4] 23)) fun b1 H1 => LdA H1 (⟨b1, 0, none⟩ : Addr) 4 fun l1 => HCalls Try.prog 28 #[.agg l1.toArray] H1 fun v1 H2 => DTup v1 fun l2 => DCons l2 fun v2 l3 => DSl v2 fun A1 n1 m1 => DCons l3 fun v3 l4 => DI .i64 v3 fun x5 => DNil l4 (BIf (x5 != (0 : Int)) (K (.int .i64 (1 : Int)) H2) (LdA H2 (⟨b1, 0, none⟩ : Addr) 4 fun l5 => HCalls Try.prog 31 #[.pointer p1, .agg l5.toArray] H2 fun v4 H3 => DB v4 fun c1 => BIf (!c1) (K (.int .i64 (1 : Int)) H3) (HCalls Try.prog 32 #[.pointer p1, .int .i64 (0 : Int), .slice A1 n1 m1] H3 fun v5 H4 => DI .i64 v5 fun x6 => BIf (x6 != (0 : Int)) (K (.int .i64 x6) H4) (HCalls Try.prog 33 #[.pointer p1] H4 fun v6 H5 => DI .i64 v6 fun x7 => K (.int .i64 x7) H5))))
def W_super_Write.Λ (_ : Value → Hp → Prop) : Cuts := Cuts.none (fun _ => none)
theorem W_super_Write.ok (p1 : Option Addr) (x1 : Int) (x2 : Int) (x3 : Int) (x4 : Int) (H : Hp) (K : Value → Hp → Prop) (h : W_super_Write p1 x1 x2 x3 x4 H K) : HCalls Try.prog 9 #[.pointer p1, .agg #[.int .i64 x1, .int .i64 x2, .int .i64 x3, .int .i64 x4]] H K :=
  hcalls Try.func9 rfl (Nat.le_of_ble_eq_true rfl) (hw_safe (Λ := Cuts.none (fun _ => none)) mix _ _ _ _ _ (Eq.mp (by kernel_rfl) h) (obs_none _ _ _ _ _))

-- super.Put
def W_super_Put (x1 : Int) (x2 : Int) (x3 : Int) (x4 : Int) (H : Hp) (K : Value → Hp → Prop) : Prop :=
  Nw H (.obj (.cells #[.int .i64 x1, .int .i64 x2, .int .i64 x3, .int .i64 x4] 23)) fun b1 H1 => LdA H1 (⟨b1, 0, none⟩ : Addr) 4 fun l1 => HCalls Try.prog 55 #[.agg l1.toArray] H1 fun v1 H2 => DB v1 fun c1 => BIf (!c1) (K (.tuple #[.slice none 0 0, .int .i64 (1 : Int)]) H2) (LdA H2 (⟨b1, 0, none⟩ : Addr) 4 fun l2 => QCall Try.prog 56 #[.agg l2.toArray] H2 fun v2 => DI .u64 v2 fun x5 => Ld H2 ((⟨b1, 0, none⟩ : Addr).add 1) fun v3 => DI .i64 v3 fun x6 => Ld H2 ((⟨b1, 0, none⟩ : Addr).add 3) fun v4 => DI .i64 v4 fun x7 => Nw H2 (.row [.int .u64 x5, .int .u64 (IntKind.u64.wrap x6), .int .u64 (IntKind.u64.wrap x7)] 62 3) fun b2 H3 => Ld H3 ((⟨b1, 0, none⟩ : Addr).add 2) fun v5 => DI .i64 v5 fun x8 => MkS Try.prog 5 x8 x8 H3 fun v6 H4 => DSl v6 fun A1 n1 m1 => HCalls Try.prog 58 #[.slice (some ⟨b2, 0, none⟩) 3 3] H4 fun v7 H5 => DI .u32 v7 fun x9 => Nw H5 (.row [.int .u64 (IntKind.u64.wrap x9)] 62 1) fun b3 H6 => AppK Try.prog 62 (.slice (some ⟨b2, 0, none⟩) 3 3) (.slice (some ⟨b3, 0, none⟩) 1 1) H6 fun v8 H7 => DSl v8 fun A2 n2 m2 => HCalls Try.prog 57 #[.slice A2 n2 m2] H7 fun v9 H8 => DSl v9 fun A3 n3 m3 => CpK Try.prog 5 (.slice A1 n1 m1) (.slice A3 n3 m3) H8 fun v10 H9 => DI .i64 v10 fun x10 => K (.tuple #[.slice A1 n1 m1, .int .i64 (0 : Int)]) H9)
def W_super_Put.Λ (_ : Value → Hp → Prop) : Cuts := Cuts.none (fun i => match Nat.beq i 3 with | true => some ([], [0, 1, 2, 3, 4, 5, 6, 7], 8) | false => none)
theorem W_super_Put.ok (x1 : Int) (x2 : Int) (x3 : Int) (x4 : Int) (H : Hp) (K : Value → Hp → Prop) (h : W_super_Put x1 x2 x3 x4 H K) : HCalls Try.prog 28 #[.agg #[.int .i64 x1, .int .i64 x2, .int .i64 x3, .int .i64 x4]] H K :=
  hcalls Try.func28 rfl (Nat.le_of_ble_eq_true rfl) (hw_safe (Λ := Cuts.none (fun i => match Nat.beq i 3 with | true => some ([], [0, 1, 2, 3, 4, 5, 6, 7], 8) | false => none)) mix _ _ _ _ _ (Eq.mp (by kernel_rfl) h) (obs_none _ _ _ _ _))

-- super.Take
def W_super_Take.l5 (K : Value → Hp → Prop) : Nat → Option Addr → Nat → Nat → Addr → Addr → Int → Hp → Prop
  | 0, _, _, _, _, _, _, _ => False
  | k + 1, A2, n2, m2, a1, a2, x1, H =>
    let R5 := W_super_Take.l5 K k
    BIf (decide (x1 < (4 : Int))) (HCalls Try.prog 63 #[.slice A2 n2 m2, .int .i64 x1] H fun v2 H5 => DTup v2 fun l1 => DCons l1 fun v3 l2 => DI .u64 v3 fun x2 => DCons l2 fun v4 l3 => DI .i64 v4 fun x3 => DNil l3 (ixI x1 4 (St H5 ((a2.add (x1.toNat * 1)).add 0) (.int .u64 x2) fun H6 => R5 A2 n2 m2 a1 a2 (IntKind.i64.wrap (x1 + (1 : Int))) H6))) (ixI (0 : Int) 4 (Ld H (a2.add ((0 : Int).toNat * 1)) fun v5 => DI .u64 v5 fun x4 => (0 ≤ (16 : Int) ∧ ixI (0 : Int) 4 (Ld H (a2.add ((0 : Int).toNat * 1)) fun v6 => DI .u64 v6 fun x5 => (0 ≤ (bAnd .u64 x5 (63 : Int)) ∧ ixI (1 : Int) 4 (Ld H (a2.add ((1 : Int).toNat * 1)) fun v7 => DI .u64 v7 fun x6 => ixI (2 : Int) 4 (Ld H (a2.add ((2 : Int).toNat * 1)) fun v8 => DI .u64 v8 fun x7 => Nw H (.obj (.cells #[.int .i64 (0 : Int), .int .i64 (0 : Int), .int .i64 (0 : Int), .int .i64 (0 : Int)] 23)) fun b3 H7 => StA H7 (⟨b3, 0, none⟩ : Addr) #[.int .i64 (IntKind.i64.wrap (bAnd .u64 (shrI .u64 x4 (16 : Int)) (65535 : Int))), .int .i64 (IntKind.i64.wrap x6), .int .i64 (shlI .i64 (1 : Int) (bAnd .u64 x5 (63 : Int))), .int .i64 (IntKind.i64.wrap x7)] 4 fun H8 => ixI (0 : Int) 4 (Ld H8 (a2.add ((0 : Int).toNat * 1)) fun v9 => DI .u64 v9 fun x8 => (0 ≤ (32 : Int) ∧ BIf ((shrI .u64 x8 (32 : Int)) != (1094861123 : Int)) (StA H8 a1 #[.int .i64 (0 : Int), .int .i64 (0 : Int), .int .i64 (0 : Int), .int .i64 (0 : Int)] 4 fun H10 => LdA H10 a1 4 fun l8 => K (.tuple #[.agg l8.toArray, .int .i64 (10 : Int)]) H10) (HCalls Try.prog 64 #[.slice A2 n2 m2] H8 fun v10 H9 => DB v10 fun c2 => BIf (!c2) (StA H9 a1 #[.int .i64 (0 : Int), .int .i64 (0 : Int), .int .i64 (0 : Int), .int .i64 (0 : Int)] 4 fun H11 => LdA H11 a1 4 fun l9 => K (.tuple #[.agg l9.toArray, .int .i64 (10 : Int)]) H11) (ixI (3 : Int) 4 (Ld H9 (a2.add ((3 : Int).toNat * 1)) fun v11 => DI .u64 v11 fun x9 => slB 4 4 none (some (3 : Int)) fun n3 n4 => QCall Try.prog 58 #[.slice (slA (some a2) 4 n3 1) (n4 - n3) (4 - n3)] H9 fun v12 => DI .u32 v12 fun x10 => BIf (x9 != (IntKind.u64.wrap x10)) (StA H9 a1 #[.int .i64 (0 : Int), .int .i64 (0 : Int), .int .i64 (0 : Int), .int .i64 (0 : Int)] 4 fun H12 => LdA H12 a1 4 fun l10 => K (.tuple #[.agg l10.toArray, .int .i64 (9 : Int)]) H12) (LdA H9 (⟨b3, 0, none⟩ : Addr) 4 fun l4 => QCall Try.prog 55 #[.agg l4.toArray] H9 fun v13 => DB v13 fun c3 => BIf (!c3) (StA H9 a1 #[.int .i64 (0 : Int), .int .i64 (0 : Int), .int .i64 (0 : Int), .int .i64 (0 : Int)] 4 fun H13 => LdA H13 a1 4 fun l11 => K (.tuple #[.agg l11.toArray, .int .i64 (1 : Int)]) H13) (LdA H9 (⟨b3, 0, none⟩ : Addr) 4 fun l5 => QCall Try.prog 56 #[.agg l5.toArray] H9 fun v14 => DI .u64 v14 fun x11 => ixI (0 : Int) 4 (Ld H9 (a2.add ((0 : Int).toNat * 1)) fun v15 => DI .u64 v15 fun x12 => BIf (x11 != x12) (StA H9 a1 #[.int .i64 (0 : Int), .int .i64 (0 : Int), .int .i64 (0 : Int), .int .i64 (0 : Int)] 4 fun H14 => LdA H14 a1 4 fun l12 => K (.tuple #[.agg l12.toArray, .int .i64 (1 : Int)]) H14) (Ld H9 ((⟨b3, 0, none⟩ : Addr).add 2) fun v16 => DI .i64 v16 fun x13 => BIf (x13 != ((n2 : Nat) : Int)) (StA H9 a1 #[.int .i64 (0 : Int), .int .i64 (0 : Int), .int .i64 (0 : Int), .int .i64 (0 : Int)] 4 fun H15 => LdA H15 a1 4 fun l13 => K (.tuple #[.agg l13.toArray, .int .i64 (1 : Int)]) H15) (LdA H9 (⟨b3, 0, none⟩ : Addr) 4 fun l6 => StA H9 a1 l6.toArray 4 fun H16 => LdA H16 a1 4 fun l14 => K (.tuple #[.agg l14.toArray, .int .i64 (0 : Int)]) H16)))))))))))))))))
def W_super_Take (A1 : Option Addr) (n1 : Nat) (m1 : Nat) (H : Hp) (K : Value → Hp → Prop) : Prop :=
  Nw H (.obj (.cells #[.int .i64 (0 : Int), .int .i64 (0 : Int), .int .i64 (0 : Int), .int .i64 (0 : Int)] 23)) fun b1 H1 => HCalls Try.prog 62 #[.slice A1 n1 m1] H1 fun v1 H2 => DB v1 fun c1 => BIf (!c1) (StA H2 (⟨b1, 0, none⟩ : Addr) #[.int .i64 (0 : Int), .int .i64 (0 : Int), .int .i64 (0 : Int), .int .i64 (0 : Int)] 4 fun H3 => LdA H3 (⟨b1, 0, none⟩ : Addr) 4 fun l7 => K (.tuple #[.agg l7.toArray, .int .i64 (15 : Int)]) H3) (Nw H2 (.obj (.cells #[.int .u64 (0 : Int), .int .u64 (0 : Int), .int .u64 (0 : Int), .int .u64 (0 : Int)] 130)) fun b2 H4 => (∃ k, W_super_Take.l5 K k A1 n1 m1 (⟨b1, 0, none⟩ : Addr) (⟨b2, 0, none⟩ : Addr) (0 : Int) H4))
def W_super_Take.l5.L (K : Value → Hp → Prop) (k : Nat) : Mid := fun E D H =>
  DG (E.get? 0) fun w0 => DSl w0 fun A2 n2 m2 => DG (E.get? 2) fun w2 => DP w2 fun pw2 => NN pw2 fun a1 => DG (E.get? 4) fun w4 => DP w4 fun pw4 => NN pw4 fun a2 => DG (E.get? 13) fun w13 => DI .i64 w13 fun x1 => DNilD D (W_super_Take.l5 K k A2 n2 m2 a1 a2 x1 H)
def W_super_Take.Λ5 (_ : Value → Hp → Prop) (_R5 : Option Addr → Nat → Nat → Addr → Addr → Int → Hp → Prop) : Cuts := Cuts.none (fun _ => none)
def W_super_Take.Λ (K : Value → Hp → Prop) : Cuts := ⟨fun i => none, fun i => match Nat.beq i 5 with | true => some (fun E D H => ∃ k, W_super_Take.l5.L K k E D H) | false => none, (fun _ => none)⟩
theorem W_super_Take.ok (A1 : Option Addr) (n1 : Nat) (m1 : Nat) (H : Hp) (K : Value → Hp → Prop) (h : W_super_Take A1 n1 m1 H K) : HCalls Try.prog 30 #[.slice A1 n1 m1] H K :=
  hcalls Try.func30 rfl (Nat.le_of_ble_eq_true rfl) (hw_safe (Λ := (W_super_Take.Λ K)) mix _ _ _ _ _ (Eq.mp (by kernel_rfl) h) (obs_seq obs_region rfl (obs_seq (obs_seq obs_region rfl (obs_cond (obs_seq obs_region rfl obs_ret) obs_skip)) rfl (obs_seq obs_region rfl (obs_seq (obs_seq obs_region rfl (obs_block (obs_loop rfl (fun E D H h => by
      refine Safe.loop' (W_super_Take.l5.L K) (fun E D H h => ?_) (fun k E D H h => ?_) E D H h
      · obtain ⟨w0, e0, g1⟩ := DG.out h; obtain ⟨A2, n2, m2, rfl, g2⟩ := DSl.out g1; obtain ⟨w2, e2, g3⟩ := DG.out g2; obtain ⟨pw2, rfl, g4⟩ := DP.out g3; obtain ⟨a1, rfl, g5⟩ := NN.out g4; obtain ⟨w4, e4, g6⟩ := DG.out g5; obtain ⟨pw4, rfl, g7⟩ := DP.out g6; obtain ⟨a2, rfl, g8⟩ := NN.out g7; obtain ⟨w13, e13, g9⟩ := DG.out g8; obtain ⟨x1, rfl, g10⟩ := DI.out g9; obtain ⟨rfl, h'⟩ := DNilD.out g10; exact h'
      · obtain ⟨w0, e0, g1⟩ := DG.out h
        obtain ⟨A2, n2, m2, rfl, g2⟩ := DSl.out g1
        obtain ⟨w2, e2, g3⟩ := DG.out g2
        obtain ⟨pw2, rfl, g4⟩ := DP.out g3
        obtain ⟨a1, rfl, g5⟩ := NN.out g4
        obtain ⟨w4, e4, g6⟩ := DG.out g5
        obtain ⟨pw4, rfl, g7⟩ := DP.out g6
        obtain ⟨a2, rfl, g8⟩ := NN.out g7
        obtain ⟨w13, e13, g9⟩ := DG.out g8
        obtain ⟨x1, rfl, g10⟩ := DI.out g9
        obtain ⟨rfl, h'⟩ := DNilD.out g10
        exact (hw_safe (Λ := (W_super_Take.Λ5 K (W_super_Take.l5 K k))) mix _ _ [(0, .slice A2 n2 m2), (2, .pointer (some a1)), (4, .pointer (some a2)), (13, .int .i64 x1)] [] H (Eq.mp (by kernel_rfl) h') (obs_seq obs_region rfl (obs_seq (obs_cond obs_skip obs_exit) rfl (obs_seq (obs_block (obs_seq obs_region rfl (obs_seq obs_region rfl obs_region))) rfl obs_region)))).weaken (EnvLe.cons e0 (EnvLe.cons e2 (EnvLe.cons e4 (EnvLe.cons e13 (EnvLe.nil _))))) (Hp.le_refl _))))) rfl (obs_seq obs_region rfl (obs_seq (obs_block (obs_seq obs_region rfl (obs_cond (obs_seq obs_region rfl obs_ret) (obs_seq obs_region rfl (obs_cond (obs_seq obs_region rfl obs_ret) (obs_seq obs_region rfl (obs_cond (obs_seq obs_region rfl obs_ret) obs_skip))))))) rfl (obs_seq obs_region rfl obs_ret))))))))

-- super.of
def W_super_of (p1 : Option Addr) (x1 : Int) (x2 : Int) (x3 : Int) (x4 : Int) (H : Hp) (K : Value → Hp → Prop) : Prop :=
  Nw H (.obj (.cells #[.int .i64 x1, .int .i64 x2, .int .i64 x3, .int .i64 x4] 23)) fun b1 H1 => Ld H1 ((⟨b1, 0, none⟩ : Addr).add 1) fun v1 => DI .i64 v1 fun x5 => NN p1 fun a1 => QCall Try.prog 65 #[.pointer (some (a1.add 0))] H1 fun v2 => DI .i64 v2 fun x6 => BIf (x5 == x6) (Ld H1 ((⟨b1, 0, none⟩ : Addr).add 2) fun v3 => DI .i64 v3 fun x7 => NN p1 fun a2 => QCall Try.prog 66 #[.pointer (some (a2.add 0))] H1 fun v4 => DI .i64 v4 fun x8 => K (.bool (x7 == x8)) H1) (K (.bool false) H1)
def W_super_of.Λ (_ : Value → Hp → Prop) : Cuts := Cuts.none (fun _ => none)
theorem W_super_of.ok (p1 : Option Addr) (x1 : Int) (x2 : Int) (x3 : Int) (x4 : Int) (H : Hp) (K : Value → Hp → Prop) (h : W_super_of p1 x1 x2 x3 x4 H K) : HCalls Try.prog 31 #[.pointer p1, .agg #[.int .i64 x1, .int .i64 x2, .int .i64 x3, .int .i64 x4]] H K :=
  hcalls Try.func31 rfl (Nat.le_of_ble_eq_true rfl) (hw_safe (Λ := Cuts.none (fun _ => none)) mix _ _ _ _ _ (Eq.mp (by kernel_rfl) h) (obs_none _ _ _ _ _))

-- super.Good
def W_super_Good (x1 : Int) (x2 : Int) (x3 : Int) (x4 : Int) (H : Hp) (K : Value → Hp → Prop) : Prop :=
  Nw H (.obj (.cells #[.int .i64 x1, .int .i64 x2, .int .i64 x3, .int .i64 x4] 23)) fun b1 H1 => Ld H1 ((⟨b1, 0, none⟩ : Addr).add 0) fun v1 => DI .i64 v1 fun x5 => Ld H1 ((⟨b1, 0, none⟩ : Addr).add 1) fun v2 => DI .i64 v2 fun x6 => Ld H1 ((⟨b1, 0, none⟩ : Addr).add 2) fun v3 => DI .i64 v3 fun x7 => HCalls Try.prog 76 #[.int .i64 x5, .int .i64 x6, .int .i64 x7] H1 fun v4 H2 => DTup v4 fun l1 => DCons l1 fun v5 l2 => DA v5 fun y1 => DCons l2 fun v6 l3 => DI .i64 v6 fun x8 => DNil l3 (Nw H2 (.obj (.cells #[.int .i64 (0 : Int), .int .i64 (0 : Int), .int .i64 (0 : Int), .int .i64 (0 : Int), .int .i64 (0 : Int), .int .i64 (0 : Int), .int .i64 (0 : Int), .int .i64 (0 : Int), .int .i64 (0 : Int), .int .i64 (0 : Int), .int .i64 (0 : Int), .int .i64 (0 : Int), .int .i64 (0 : Int), .int .i64 (0 : Int), .int .i64 (0 : Int), .int .i64 (0 : Int), .int .i64 (0 : Int)] 149)) fun b2 H3 => StA H3 (⟨b2, 0, none⟩ : Addr) y1 17 fun H4 => BIf (x8 == (0 : Int)) (Ld H4 ((⟨b1, 0, none⟩ : Addr).add 3) fun v7 => DI .i64 v7 fun x9 => BIf (decide (x9 ≥ (1 : Int))) (Ld H4 ((⟨b1, 0, none⟩ : Addr).add 3) fun v8 => DI .i64 v8 fun x10 => K (.bool (decide (x10 ≤ (16777216 : Int)))) H4) (K (.bool false) H4)) (K (.bool false) H4))
def W_super_Good.Λ (_ : Value → Hp → Prop) : Cuts := Cuts.none (fun _ => none)
theorem W_super_Good.ok (x1 : Int) (x2 : Int) (x3 : Int) (x4 : Int) (H : Hp) (K : Value → Hp → Prop) (h : W_super_Good x1 x2 x3 x4 H K) : HCalls Try.prog 55 #[.agg #[.int .i64 x1, .int .i64 x2, .int .i64 x3, .int .i64 x4]] H K :=
  hcalls Try.func55 rfl (Nat.le_of_ble_eq_true rfl) (hw_safe (Λ := Cuts.none (fun _ => none)) mix _ _ _ _ _ (Eq.mp (by kernel_rfl) h) (obs_none _ _ _ _ _))

-- super.first
def W_super_first (x1 : Int) (x2 : Int) (x3 : Int) (x4 : Int) (H : Hp) (K : Value → Hp → Prop) : Prop :=
  Nw H (.obj (.cells #[.int .i64 x1, .int .i64 x2, .int .i64 x3, .int .i64 x4] 23)) fun b1 H1 => Ld H1 ((⟨b1, 0, none⟩ : Addr).add 0) fun v1 => DI .i64 v1 fun x5 => (0 ≤ (16 : Int) ∧ Ld H1 ((⟨b1, 0, none⟩ : Addr).add 2) fun v2 => DI .i64 v2 fun x6 => QCall Try.prog 77 #[.int .u64 (IntKind.u64.wrap x6)] H1 fun v3 => DI .i64 v3 fun x7 => K (.int .u64 (bOr .u64 (bOr .u64 (4702392716946833408 : Int) (shlI .u64 (IntKind.u64.wrap x5) (16 : Int))) (IntKind.u64.wrap (IntKind.i64.wrap (x7 - (1 : Int)))))) H1)
def W_super_first.Λ (_ : Value → Hp → Prop) : Cuts := Cuts.none (fun _ => none)
theorem W_super_first.ok (x1 : Int) (x2 : Int) (x3 : Int) (x4 : Int) (H : Hp) (K : Value → Hp → Prop) (h : W_super_first x1 x2 x3 x4 H K) : HCalls Try.prog 56 #[.agg #[.int .i64 x1, .int .i64 x2, .int .i64 x3, .int .i64 x4]] H K :=
  hcalls Try.func56 rfl (Nat.le_of_ble_eq_true rfl) (hw_safe (Λ := Cuts.none (fun _ => none)) mix _ _ _ _ _ (Eq.mp (by kernel_rfl) h) (obs_none _ _ _ _ _))

-- super.sector
def W_super_sector (A1 : Option Addr) (n1 : Nat) (m1 : Nat) (H : Hp) (K : Value → Hp → Prop) : Prop :=
  HCalls Try.prog 80 #[.int .i64 (0 : Int), .int .i64 ((n1 : Nat) : Int)] H fun v1 H1 => DTup v1 fun l1 => DCons l1 fun v2 l2 => DI .i64 v2 fun x1 => DCons l2 fun v3 l3 => DI .i64 v3 fun x2 => DNil l3 (K (.bool (x2 == (0 : Int))) H1)
def W_super_sector.Λ (_ : Value → Hp → Prop) : Cuts := Cuts.none (fun _ => none)
theorem W_super_sector.ok (A1 : Option Addr) (n1 : Nat) (m1 : Nat) (H : Hp) (K : Value → Hp → Prop) (h : W_super_sector A1 n1 m1 H K) : HCalls Try.prog 62 #[.slice A1 n1 m1] H K :=
  hcalls Try.func62 rfl (Nat.le_of_ble_eq_true rfl) (hw_safe (Λ := Cuts.none (fun _ => none)) mix _ _ _ _ _ (Eq.mp (by kernel_rfl) h) (obs_none _ _ _ _ _))

-- super.behind
def W_super_behind.l2 (K : Value → Hp → Prop) : Nat → Option Addr → Nat → Nat → Int → Int → Hp → Prop
  | 0, _, _, _, _, _, _ => False
  | k + 1, A2, n4, m2, x1, x2, H =>
    let R2 := W_super_behind.l2 K k
    BIf (decide (x2 < x1)) (ixI x2 n4 (NN A2 fun a1 => Ld H (a1.add (x2.toNat * 1)) fun v1 => DI .u8 v1 fun x3 => BIf (x3 != (0 : Int)) (K (.bool false) H) (R2 A2 n4 m2 x1 (IntKind.i64.wrap (x2 + (1 : Int))) H))) (K (.bool true) H)
def W_super_behind (A1 : Option Addr) (n1 : Nat) (m1 : Nat) (H : Hp) (K : Value → Hp → Prop) : Prop :=
  slB n1 m1 (some (32 : Int)) none fun n2 n3 => (∃ k, W_super_behind.l2 K k (slA A1 m1 n2 1) (n3 - n2) (m1 - n2) ((n3 - n2 : Nat) : Int) (0 : Int) H)
def W_super_behind.l2.L (K : Value → Hp → Prop) (k : Nat) : Mid := fun E D H =>
  DG (E.get? 6) fun w6 => DSl w6 fun A2 n4 m2 => DG (E.get? 7) fun w7 => DI .i64 w7 fun x1 => DG (E.get? 8) fun w8 => DI .i64 w8 fun x2 => DNilD D (W_super_behind.l2 K k A2 n4 m2 x1 x2 H)
def W_super_behind.Λ2 (_ : Value → Hp → Prop) (_R2 : Option Addr → Nat → Nat → Int → Int → Hp → Prop) : Cuts := Cuts.none (fun _ => none)
def W_super_behind.Λ (K : Value → Hp → Prop) : Cuts := ⟨fun i => none, fun i => match Nat.beq i 2 with | true => some (fun E D H => ∃ k, W_super_behind.l2.L K k E D H) | false => none, (fun _ => none)⟩
theorem W_super_behind.ok (A1 : Option Addr) (n1 : Nat) (m1 : Nat) (H : Hp) (K : Value → Hp → Prop) (h : W_super_behind A1 n1 m1 H K) : HCalls Try.prog 64 #[.slice A1 n1 m1] H K :=
  hcalls Try.func64 rfl (Nat.le_of_ble_eq_true rfl) (hw_safe (Λ := (W_super_behind.Λ K)) mix _ _ _ _ _ (Eq.mp (by kernel_rfl) h) (obs_seq obs_region rfl (obs_seq (obs_seq obs_region rfl (obs_block (obs_loop rfl (fun E D H h => by
      refine Safe.loop' (W_super_behind.l2.L K) (fun E D H h => ?_) (fun k E D H h => ?_) E D H h
      · obtain ⟨w6, e6, g1⟩ := DG.out h; obtain ⟨A2, n4, m2, rfl, g2⟩ := DSl.out g1; obtain ⟨w7, e7, g3⟩ := DG.out g2; obtain ⟨x1, rfl, g4⟩ := DI.out g3; obtain ⟨w8, e8, g5⟩ := DG.out g4; obtain ⟨x2, rfl, g6⟩ := DI.out g5; obtain ⟨rfl, h'⟩ := DNilD.out g6; exact h'
      · obtain ⟨w6, e6, g1⟩ := DG.out h
        obtain ⟨A2, n4, m2, rfl, g2⟩ := DSl.out g1
        obtain ⟨w7, e7, g3⟩ := DG.out g2
        obtain ⟨x1, rfl, g4⟩ := DI.out g3
        obtain ⟨w8, e8, g5⟩ := DG.out g4
        obtain ⟨x2, rfl, g6⟩ := DI.out g5
        obtain ⟨rfl, h'⟩ := DNilD.out g6
        exact (hw_safe (Λ := (W_super_behind.Λ2 K (W_super_behind.l2 K k))) mix _ _ [(6, .slice A2 n4 m2), (7, .int .i64 x1), (8, .int .i64 x2)] [] H (Eq.mp (by kernel_rfl) h') (obs_seq obs_region rfl (obs_seq (obs_cond obs_skip obs_exit) rfl (obs_seq (obs_block (obs_seq obs_region rfl (obs_seq obs_region rfl (obs_cond (obs_seq obs_region rfl obs_ret) obs_skip)))) rfl obs_region)))).weaken (EnvLe.cons e6 (EnvLe.cons e7 (EnvLe.cons e8 (EnvLe.nil _)))) (Hp.le_refl _))))) rfl (obs_seq obs_region rfl obs_ret))))

end Go.Proofs.Ytbnhfcdagoigkaa.W
