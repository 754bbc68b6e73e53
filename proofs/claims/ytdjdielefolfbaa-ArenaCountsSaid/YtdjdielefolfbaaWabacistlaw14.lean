/- Formulas of functions, printed by wip/tools/hwp.py. -/
import Derived.Test.YtdjdielefolfbaaHwE
import Derived.Test.YtdjdielefolfbaaProg
set_option maxRecDepth 100000
set_option linter.unusedVariables false
namespace Go.Proofs.Ytdjdielefolfbaa.W
open Go Go.Hw

theorem mix : Try.prog.follows .mixedOrders = true := by kernel_rfl
-- abacistlaw14.ArenaApart
def W_abacistlaw14_ArenaApart.l30 (K : Value → Hp → Prop) (R26 : Option Addr → Nat → Nat → Int → Hp → Prop) : Nat → Option Addr → Nat → Nat → Int → Option Addr → Nat → Nat → Int → Hp → Prop
  | 0, _, _, _, _, _, _, _, _, _ => False
  | k + 1, A11, n11, m11, x9, A12, n12, m12, x10, H =>
    let R30 := W_abacistlaw14_ArenaApart.l30 K R26 k
    BIf (decide (x10 < (n12 : Nat))) (ixI x10 n12 (NN A12 fun a6 => Ld H (a6.add (x10.toNat * 1)) fun v13 => DI .u64 v13 fun x11 => BIf (x11 != (IntKind.u64.wrap (IntKind.i64.wrap ((IntKind.i64.wrap ((IntKind.i64.wrap ((100 : Int) * x9)) + x10)) + (1 : Int))))) (K (.bool false) H) (R30 A11 n11 m11 x9 A12 n12 m12 (IntKind.i64.wrap (x10 + (1 : Int))) H))) (R26 A11 n11 m11 (IntKind.i64.wrap (x9 + (1 : Int))) H)
def W_abacistlaw14_ArenaApart.l19 (K : Value → Hp → Prop) (R10 : Option Addr → Nat → Nat → Option Addr → Option Addr → Nat → Nat → Int → Hp → Prop) : Nat → Option Addr → Nat → Nat → Option Addr → Option Addr → Nat → Nat → Int → Option Addr → Option Addr → Nat → Nat → Int → Hp → Prop
  | 0, _, _, _, _, _, _, _, _, _, _, _, _, _, _ => False
  | k + 1, A5, n5, m5, p4, A6, n6, m6, x5, p5, A7, n7, m7, x6, H =>
    let R19 := W_abacistlaw14_ArenaApart.l19 K R10 k
    BIf (decide (x6 < (n7 : Nat))) (ixI x6 n7 (NN A7 fun a3 => Ld H (a3.add (x6.toNat * 1)) fun v9 => DI .u64 v9 fun x7 => BIf (x7 != (0 : Int)) (K (.bool false) H) (ixI x6 n7 (NN A7 fun a4 => St H ((a4.add (x6.toNat * 1)).add 0) (.int .u64 (IntKind.u64.wrap (IntKind.i64.wrap ((IntKind.i64.wrap ((IntKind.i64.wrap ((100 : Int) * x5)) + x6)) + (1 : Int))))) fun H5 => R19 A5 n5 m5 p4 A6 n6 m6 x5 p5 A7 n7 m7 (IntKind.i64.wrap (x6 + (1 : Int))) H5)))) (Nw H (.row [.pointer p5] 32 1) fun b1 H6 => AppK Try.prog 32 (.slice A6 n6 m6) (.slice (some ⟨b1, 0, none⟩) 1 1) H6 fun v10 H7 => DSl v10 fun A8 n8 m8 => R10 A5 n5 m5 p4 A8 n8 m8 (IntKind.i64.wrap (x5 + (1 : Int))) H7)
def W_abacistlaw14_ArenaApart.l26 (K : Value → Hp → Prop) : Nat → Option Addr → Nat → Nat → Int → Hp → Prop
  | 0, _, _, _, _, _ => False
  | k + 1, A9, n9, m9, x8, H =>
    let R26 := W_abacistlaw14_ArenaApart.l26 K k
    BIf (decide (x8 < (n9 : Nat))) (ixI x8 n9 (NN A9 fun a5 => Ld H (a5.add (x8.toNat * 1)) fun v11 => DP v11 fun p6 => HCalls Try.prog 18 #[.pointer p6] H fun v12 H8 => DSl v12 fun A10 n10 m10 => (∃ k, W_abacistlaw14_ArenaApart.l30 K R26 k A9 n9 m9 x8 A10 n10 m10 (0 : Int) H8))) (K (.bool true) H)
def W_abacistlaw14_ArenaApart.l10 (K : Value → Hp → Prop) : Nat → Option Addr → Nat → Nat → Option Addr → Option Addr → Nat → Nat → Int → Hp → Prop
  | 0, _, _, _, _, _, _, _, _, _ => False
  | k + 1, A2, n2, m2, p2, A3, n3, m3, x1, H =>
    let R10 := W_abacistlaw14_ArenaApart.l10 K k
    BIf (decide (x1 < (n2 : Nat))) (ixI x1 n2 (NN A2 fun a1 => Ld H (a1.add (x1.toNat * 1)) fun v3 => DI .u8 v3 fun x2 => ((64 : Int) ≠ 0 ∧ IntKind.u8 = IntKind.u8 ∧ HCalls Try.prog 17 #[.pointer p2, .int .i64 (IntKind.i64.wrap ((1 : Int) + (IntKind.i64.wrap (Int.tmod x2 (64 : Int)))))] H fun v4 H3 => DTup v4 fun l1 => DCons l1 fun v5 l2 => DP v5 fun p3 => DCons l2 fun v6 l3 => DI .i64 v6 fun x3 => DNil l3 (BIf (x3 != (0 : Int)) (K (.bool false) H3) (BIf p3.isNone (K (.bool false) H3) (HCalls Try.prog 18 #[.pointer p3] H3 fun v7 H4 => DSl v7 fun A4 n4 m4 => ixI x1 n2 (NN A2 fun a2 => Ld H4 (a2.add (x1.toNat * 1)) fun v8 => DI .u8 v8 fun x4 => ((64 : Int) ≠ 0 ∧ IntKind.u8 = IntKind.u8 ∧ BIf ((n4 : Nat) != (IntKind.i64.wrap ((1 : Int) + (IntKind.i64.wrap (Int.tmod x4 (64 : Int)))))) (K (.bool false) H4) ((∃ k, W_abacistlaw14_ArenaApart.l19 K R10 k A2 n2 m2 p2 A3 n3 m3 x1 p3 A4 n4 m4 (0 : Int) H4)))))))))) ((∃ k, W_abacistlaw14_ArenaApart.l26 K k A3 n3 m3 (0 : Int) H))
def W_abacistlaw14_ArenaApart (A1 : Option Addr) (n1 : Nat) (m1 : Nat) (H : Hp) (K : Value → Hp → Prop) : Prop :=
  HCalls Try.prog 15 #[] H fun v1 H1 => DB v1 fun c1 => BIf (!c1) (K (.bool false) H1) (BIf (decide ((n1 : Nat) > (8 : Int))) (K (.bool true) H1) (HCalls Try.prog 16 #[.int .i64 (1000 : Int)] H1 fun v2 H2 => DP v2 fun p1 => BIf p1.isNone (K (.bool false) H2) ((∃ k, W_abacistlaw14_ArenaApart.l10 K k A1 n1 m1 p1 none 0 0 (0 : Int) H2))))
def W_abacistlaw14_ArenaApart.l10.L (K : Value → Hp → Prop) (k : Nat) : Mid := fun E D H =>
  DG (E.get? 0) fun w0 => DSl w0 fun A2 n2 m2 => DG (E.get? 3) fun w3 => DP w3 fun p2 => DG (E.get? 4) fun w4 => DSl w4 fun A3 n3 m3 => DG (E.get? 5) fun w5 => DI .i64 w5 fun x1 => DNilD D (W_abacistlaw14_ArenaApart.l10 K k A2 n2 m2 p2 A3 n3 m3 x1 H)
def W_abacistlaw14_ArenaApart.l19.L (K : Value → Hp → Prop) (R10 : Option Addr → Nat → Nat → Option Addr → Option Addr → Nat → Nat → Int → Hp → Prop) (k : Nat) : Mid := fun E D H =>
  DG (E.get? 0) fun w0 => DSl w0 fun A5 n5 m5 => DG (E.get? 3) fun w3 => DP w3 fun p4 => DG (E.get? 4) fun w4 => DSl w4 fun A6 n6 m6 => DG (E.get? 5) fun w5 => DI .i64 w5 fun x5 => DG (E.get? 6) fun w6 => DP w6 fun p5 => DG (E.get? 8) fun w8 => DSl w8 fun A7 n7 m7 => DG (E.get? 9) fun w9 => DI .i64 w9 fun x6 => DNilD D (W_abacistlaw14_ArenaApart.l19 K R10 k A5 n5 m5 p4 A6 n6 m6 x5 p5 A7 n7 m7 x6 H)
def W_abacistlaw14_ArenaApart.l26.L (K : Value → Hp → Prop) (k : Nat) : Mid := fun E D H =>
  DG (E.get? 4) fun w4 => DSl w4 fun A9 n9 m9 => DG (E.get? 10) fun w10 => DI .i64 w10 fun x8 => DNilD D (W_abacistlaw14_ArenaApart.l26 K k A9 n9 m9 x8 H)
def W_abacistlaw14_ArenaApart.l30.L (K : Value → Hp → Prop) (R26 : Option Addr → Nat → Nat → Int → Hp → Prop) (k : Nat) : Mid := fun E D H =>
  DG (E.get? 4) fun w4 => DSl w4 fun A11 n11 m11 => DG (E.get? 10) fun w10 => DI .i64 w10 fun x9 => DG (E.get? 11) fun w11 => DSl w11 fun A12 n12 m12 => DG (E.get? 12) fun w12 => DI .i64 w12 fun x10 => DNilD D (W_abacistlaw14_ArenaApart.l30 K R26 k A11 n11 m11 x9 A12 n12 m12 x10 H)
def W_abacistlaw14_ArenaApart.Λ19 (_ : Value → Hp → Prop) (_R10 : Option Addr → Nat → Nat → Option Addr → Option Addr → Nat → Nat → Int → Hp → Prop) (_R19 : Option Addr → Nat → Nat → Option Addr → Option Addr → Nat → Nat → Int → Option Addr → Option Addr → Nat → Nat → Int → Hp → Prop) : Cuts := Cuts.none (fun _ => none)
def W_abacistlaw14_ArenaApart.Λ30 (_ : Value → Hp → Prop) (_R26 : Option Addr → Nat → Nat → Int → Hp → Prop) (_R30 : Option Addr → Nat → Nat → Int → Option Addr → Nat → Nat → Int → Hp → Prop) : Cuts := Cuts.none (fun _ => none)
def W_abacistlaw14_ArenaApart.Λ10 (K : Value → Hp → Prop) (R10 : Option Addr → Nat → Nat → Option Addr → Option Addr → Nat → Nat → Int → Hp → Prop) : Cuts := ⟨fun i => none, fun i => match Nat.beq i 19 with | true => some (fun E D H => ∃ k, W_abacistlaw14_ArenaApart.l19.L K R10 k E D H) | false => none, (fun _ => none)⟩
def W_abacistlaw14_ArenaApart.Λ26 (K : Value → Hp → Prop) (R26 : Option Addr → Nat → Nat → Int → Hp → Prop) : Cuts := ⟨fun i => none, fun i => match Nat.beq i 30 with | true => some (fun E D H => ∃ k, W_abacistlaw14_ArenaApart.l30.L K R26 k E D H) | false => none, (fun _ => none)⟩
def W_abacistlaw14_ArenaApart.Λ (K : Value → Hp → Prop) : Cuts := ⟨fun i => none, fun i => match Nat.beq i 26 with | true => some (fun E D H => ∃ k, W_abacistlaw14_ArenaApart.l26.L K k E D H) | false => match Nat.beq i 10 with | true => some (fun E D H => ∃ k, W_abacistlaw14_ArenaApart.l10.L K k E D H) | false => none, (fun _ => none)⟩
theorem W_abacistlaw14_ArenaApart.ok (A1 : Option Addr) (n1 : Nat) (m1 : Nat) (H : Hp) (K : Value → Hp → Prop) (h : W_abacistlaw14_ArenaApart A1 n1 m1 H K) : HCalls Try.prog 4 #[.slice A1 n1 m1] H K :=
  hcalls Try.func4 rfl (Nat.le_of_ble_eq_true rfl) (hw_safe (Λ := (W_abacistlaw14_ArenaApart.Λ K)) mix _ _ _ _ _ (Eq.mp (by kernel_rfl) h) (obs_seq obs_region rfl (obs_seq (obs_seq obs_region rfl (obs_cond (obs_seq obs_region rfl obs_ret) obs_skip)) rfl (obs_seq (obs_seq obs_region rfl (obs_cond (obs_seq obs_region rfl obs_ret) obs_skip)) rfl (obs_seq obs_region rfl (obs_seq (obs_seq obs_region rfl (obs_cond (obs_seq obs_region rfl obs_ret) obs_skip)) rfl (obs_seq obs_region rfl (obs_seq (obs_seq obs_region rfl (obs_block (obs_loop rfl (fun E D H h => by
      refine Safe.loop' (W_abacistlaw14_ArenaApart.l10.L K) (fun E D H h => ?_) (fun k E D H h => ?_) E D H h
      · obtain ⟨w0, e0, g1⟩ := DG.out h; obtain ⟨A2, n2, m2, rfl, g2⟩ := DSl.out g1; obtain ⟨w3, e3, g3⟩ := DG.out g2; obtain ⟨p2, rfl, g4⟩ := DP.out g3; obtain ⟨w4, e4, g5⟩ := DG.out g4; obtain ⟨A3, n3, m3, rfl, g6⟩ := DSl.out g5; obtain ⟨w5, e5, g7⟩ := DG.out g6; obtain ⟨x1, rfl, g8⟩ := DI.out g7; obtain ⟨rfl, h'⟩ := DNilD.out g8; exact h'
      · obtain ⟨w0, e0, g1⟩ := DG.out h
        obtain ⟨A2, n2, m2, rfl, g2⟩ := DSl.out g1
        obtain ⟨w3, e3, g3⟩ := DG.out g2
        obtain ⟨p2, rfl, g4⟩ := DP.out g3
        obtain ⟨w4, e4, g5⟩ := DG.out g4
        obtain ⟨A3, n3, m3, rfl, g6⟩ := DSl.out g5
        obtain ⟨w5, e5, g7⟩ := DG.out g6
        obtain ⟨x1, rfl, g8⟩ := DI.out g7
        obtain ⟨rfl, h'⟩ := DNilD.out g8
        exact (hw_safe (Λ := (W_abacistlaw14_ArenaApart.Λ10 K (W_abacistlaw14_ArenaApart.l10 K k))) mix _ _ [(0, .slice A2 n2 m2), (3, .pointer p2), (4, .slice A3 n3 m3), (5, .int .i64 x1)] [] H (Eq.mp (by kernel_rfl) h') (obs_seq (obs_seq obs_region rfl (obs_cond obs_skip obs_exit)) rfl (obs_seq (obs_block (obs_seq obs_region rfl (obs_seq (obs_seq obs_region rfl (obs_cond (obs_seq obs_region rfl obs_ret) obs_skip)) rfl (obs_seq obs_region rfl (obs_seq (obs_seq obs_region rfl (obs_cond (obs_seq obs_region rfl obs_ret) obs_skip)) rfl (obs_seq (obs_seq obs_region rfl (obs_block (obs_loop rfl (fun E D H h => by
            refine Safe.loop' (W_abacistlaw14_ArenaApart.l19.L K (W_abacistlaw14_ArenaApart.l10 K k)) (fun E D H h => ?_) (fun k E D H h => ?_) E D H h
            · obtain ⟨w0, e0, g1⟩ := DG.out h; obtain ⟨A5, n5, m5, rfl, g2⟩ := DSl.out g1; obtain ⟨w3, e3, g3⟩ := DG.out g2; obtain ⟨p4, rfl, g4⟩ := DP.out g3; obtain ⟨w4, e4, g5⟩ := DG.out g4; obtain ⟨A6, n6, m6, rfl, g6⟩ := DSl.out g5; obtain ⟨w5, e5, g7⟩ := DG.out g6; obtain ⟨x5, rfl, g8⟩ := DI.out g7; obtain ⟨w6, e6, g9⟩ := DG.out g8; obtain ⟨p5, rfl, g10⟩ := DP.out g9; obtain ⟨w8, e8, g11⟩ := DG.out g10; obtain ⟨A7, n7, m7, rfl, g12⟩ := DSl.out g11; obtain ⟨w9, e9, g13⟩ := DG.out g12; obtain ⟨x6, rfl, g14⟩ := DI.out g13; obtain ⟨rfl, h'⟩ := DNilD.out g14; exact h'
            · obtain ⟨w0, e0, g1⟩ := DG.out h
              obtain ⟨A5, n5, m5, rfl, g2⟩ := DSl.out g1
              obtain ⟨w3, e3, g3⟩ := DG.out g2
              obtain ⟨p4, rfl, g4⟩ := DP.out g3
              obtain ⟨w4, e4, g5⟩ := DG.out g4
              obtain ⟨A6, n6, m6, rfl, g6⟩ := DSl.out g5
              obtain ⟨w5, e5, g7⟩ := DG.out g6
              obtain ⟨x5, rfl, g8⟩ := DI.out g7
              obtain ⟨w6, e6, g9⟩ := DG.out g8
              obtain ⟨p5, rfl, g10⟩ := DP.out g9
              obtain ⟨w8, e8, g11⟩ := DG.out g10
              obtain ⟨A7, n7, m7, rfl, g12⟩ := DSl.out g11
              obtain ⟨w9, e9, g13⟩ := DG.out g12
              obtain ⟨x6, rfl, g14⟩ := DI.out g13
              obtain ⟨rfl, h'⟩ := DNilD.out g14
              exact (hw_safe (Λ := (W_abacistlaw14_ArenaApart.Λ19 K (W_abacistlaw14_ArenaApart.l10 K k) (W_abacistlaw14_ArenaApart.l19 K (W_abacistlaw14_ArenaApart.l10 K k) k))) mix _ _ [(0, .slice A5 n5 m5), (3, .pointer p4), (4, .slice A6 n6 m6), (5, .int .i64 x5), (6, .pointer p5), (8, .slice A7 n7 m7), (9, .int .i64 x6)] [] H (Eq.mp (by kernel_rfl) h') (obs_seq (obs_seq obs_region rfl (obs_cond obs_skip obs_exit)) rfl (obs_seq (obs_block (obs_seq (obs_seq obs_region rfl (obs_cond (obs_seq obs_region rfl obs_ret) obs_skip)) rfl obs_region)) rfl obs_region))).weaken (EnvLe.cons e0 (EnvLe.cons e3 (EnvLe.cons e4 (EnvLe.cons e5 (EnvLe.cons e6 (EnvLe.cons e8 (EnvLe.cons e9 (EnvLe.nil _)))))))) (Hp.le_refl _))))) rfl obs_region)))))) rfl obs_region))).weaken (EnvLe.cons e0 (EnvLe.cons e3 (EnvLe.cons e4 (EnvLe.cons e5 (EnvLe.nil _))))) (Hp.le_refl _))))) rfl (obs_seq (obs_seq obs_region rfl (obs_block (obs_loop rfl (fun E D H h => by
      refine Safe.loop' (W_abacistlaw14_ArenaApart.l26.L K) (fun E D H h => ?_) (fun k E D H h => ?_) E D H h
      · obtain ⟨w4, e4, g1⟩ := DG.out h; obtain ⟨A9, n9, m9, rfl, g2⟩ := DSl.out g1; obtain ⟨w10, e10, g3⟩ := DG.out g2; obtain ⟨x8, rfl, g4⟩ := DI.out g3; obtain ⟨rfl, h'⟩ := DNilD.out g4; exact h'
      · obtain ⟨w4, e4, g1⟩ := DG.out h
        obtain ⟨A9, n9, m9, rfl, g2⟩ := DSl.out g1
        obtain ⟨w10, e10, g3⟩ := DG.out g2
        obtain ⟨x8, rfl, g4⟩ := DI.out g3
        obtain ⟨rfl, h'⟩ := DNilD.out g4
        exact (hw_safe (Λ := (W_abacistlaw14_ArenaApart.Λ26 K (W_abacistlaw14_ArenaApart.l26 K k))) mix _ _ [(4, .slice A9 n9 m9), (10, .int .i64 x8)] [] H (Eq.mp (by kernel_rfl) h') (obs_seq (obs_seq obs_region rfl (obs_cond obs_skip obs_exit)) rfl (obs_seq (obs_block (obs_seq obs_region rfl (obs_seq obs_region rfl (obs_block (obs_loop rfl (fun E D H h => by
            refine Safe.loop' (W_abacistlaw14_ArenaApart.l30.L K (W_abacistlaw14_ArenaApart.l26 K k)) (fun E D H h => ?_) (fun k E D H h => ?_) E D H h
            · obtain ⟨w4, e4, g1⟩ := DG.out h; obtain ⟨A11, n11, m11, rfl, g2⟩ := DSl.out g1; obtain ⟨w10, e10, g3⟩ := DG.out g2; obtain ⟨x9, rfl, g4⟩ := DI.out g3; obtain ⟨w11, e11, g5⟩ := DG.out g4; obtain ⟨A12, n12, m12, rfl, g6⟩ := DSl.out g5; obtain ⟨w12, e12, g7⟩ := DG.out g6; obtain ⟨x10, rfl, g8⟩ := DI.out g7; obtain ⟨rfl, h'⟩ := DNilD.out g8; exact h'
            · obtain ⟨w4, e4, g1⟩ := DG.out h
              obtain ⟨A11, n11, m11, rfl, g2⟩ := DSl.out g1
              obtain ⟨w10, e10, g3⟩ := DG.out g2
              obtain ⟨x9, rfl, g4⟩ := DI.out g3
              obtain ⟨w11, e11, g5⟩ := DG.out g4
              obtain ⟨A12, n12, m12, rfl, g6⟩ := DSl.out g5
              obtain ⟨w12, e12, g7⟩ := DG.out g6
              obtain ⟨x10, rfl, g8⟩ := DI.out g7
              obtain ⟨rfl, h'⟩ := DNilD.out g8
              exact (hw_safe (Λ := (W_abacistlaw14_ArenaApart.Λ30 K (W_abacistlaw14_ArenaApart.l26 K k) (W_abacistlaw14_ArenaApart.l30 K (W_abacistlaw14_ArenaApart.l26 K k) k))) mix _ _ [(4, .slice A11 n11 m11), (10, .int .i64 x9), (11, .slice A12 n12 m12), (12, .int .i64 x10)] [] H (Eq.mp (by kernel_rfl) h') (obs_seq (obs_seq obs_region rfl (obs_cond obs_skip obs_exit)) rfl (obs_seq (obs_block (obs_seq obs_region rfl (obs_cond (obs_seq obs_region rfl obs_ret) obs_skip))) rfl obs_region))).weaken (EnvLe.cons e4 (EnvLe.cons e10 (EnvLe.cons e11 (EnvLe.cons e12 (EnvLe.nil _))))) (Hp.le_refl _))))))) rfl obs_region))).weaken (EnvLe.cons e4 (EnvLe.cons e10 (EnvLe.nil _))) (Hp.le_refl _))))) rfl (obs_seq obs_region rfl obs_ret))))))))))

-- abacistlaw14.ArenaCounts
def W_abacistlaw14_ArenaCounts.l57 (K : Value → Hp → Prop) (R14 : Int → Option Addr → Nat → Nat → Option Addr → Option Addr → Nat → Nat → Option Addr → Nat → Nat → Int → Int → Int → Hp → Prop) : Nat → Int → Option Addr → Nat → Nat → Option Addr → Option Addr → Nat → Nat → Option Addr → Nat → Nat → Int → Int → Int → Int → Hp → Prop
  | 0, _, _, _, _, _, _, _, _, _, _, _, _, _, _, _, _ => False
  | k + 1, x49, A33, n33, m33, p22, A34, n34, m34, A35, n35, m35, x50, x51, x52, x53, H =>
    let R57 := W_abacistlaw14_ArenaCounts.l57 K R14 k
    BIf (decide (x53 < (n34 : Nat))) (ixI x53 n34 (NN A34 fun a14 => Ld H (a14.add (x53.toNat * 1)) fun v35 => DP v35 fun p23 => QCall Try.prog 30 #[.pointer p23] H fun v36 => DI .i64 v36 fun x54 => ixI x53 n35 (NN A35 fun a15 => Ld H (a15.add (x53.toNat * 1)) fun v37 => DI .i64 v37 fun x55 => BIf (x54 != x55) (K (.bool false) H) (ixI x53 n34 (NN A34 fun a16 => Ld H (a16.add (x53.toNat * 1)) fun v38 => DP v38 fun p24 => QCall Try.prog 18 #[.pointer p24] H fun v39 => DSl v39 fun A36 n36 m36 => ixI x53 n35 (NN A35 fun a17 => Ld H (a17.add (x53.toNat * 1)) fun v40 => DI .i64 v40 fun x56 => BIf ((n36 : Nat) != x56) (K (.bool false) H) (R57 x49 A33 n33 m33 p22 A34 n34 m34 A35 n35 m35 x50 x51 x52 (IntKind.i64.wrap (x53 + (1 : Int))) H))))))) (NN p22 fun a18 => QCall Try.prog 33 #[.pointer (some (a18.add 0))] H fun v41 => DI .i64 v41 fun x57 => BIf (x57 != x50) (K (.bool false) H) (NN p22 fun a19 => QCall Try.prog 34 #[.pointer (some (a19.add 0))] H fun v42 => DI .i64 v42 fun x58 => BIf (x58 != x51) (K (.bool false) H) (NN p22 fun a20 => QCall Try.prog 35 #[.pointer (some (a20.add 0))] H fun v43 => DI .i64 v43 fun x59 => BIf (x59 != (IntKind.i64.wrap (x49 - x50))) (K (.bool false) H) (NN p22 fun a21 => QCall Try.prog 33 #[.pointer (some (a21.add 0))] H fun v44 => DI .i64 v44 fun x60 => NN p22 fun a22 => QCall Try.prog 29 #[.pointer (some (a22.add 0))] H fun v45 => DI .i64 v45 fun x61 => BIf (decide (x60 > x61)) (K (.bool false) H) (R14 x49 A33 n33 m33 p22 A34 n34 m34 A35 n35 m35 x50 x51 (IntKind.i64.wrap (x52 + (1 : Int))) H)))))
def W_abacistlaw14_ArenaCounts.j56 (K : Value → Hp → Prop) (R14 : Int → Option Addr → Nat → Nat → Option Addr → Option Addr → Nat → Nat → Option Addr → Nat → Nat → Int → Int → Int → Hp → Prop) (x45 : Int) (A30 : Option Addr) (n30 : Nat) (m30 : Nat) (p21 : Option Addr) (A31 : Option Addr) (n31 : Nat) (m31 : Nat) (A32 : Option Addr) (n32 : Nat) (m32 : Nat) (x46 : Int) (x47 : Int) (x48 : Int) (H : Hp) : Prop :=
  (∃ k, W_abacistlaw14_ArenaCounts.l57 K R14 k x45 A30 n30 m30 p21 A31 n31 m31 A32 n32 m32 x46 x47 x48 (0 : Int) H)
def W_abacistlaw14_ArenaCounts.l51 (K : Value → Hp → Prop) (R14 : Int → Option Addr → Nat → Nat → Option Addr → Option Addr → Nat → Nat → Option Addr → Nat → Nat → Int → Int → Int → Hp → Prop) : Nat → Int → Option Addr → Nat → Nat → Option Addr → Option Addr → Nat → Nat → Option Addr → Nat → Nat → Int → Int → Hp → Prop
  | 0, _, _, _, _, _, _, _, _, _, _, _, _, _, _ => False
  | k + 1, x42, A27, n27, m27, p20, A28, n28, m28, A29, n29, m29, x43, x44, H =>
    let R51 := W_abacistlaw14_ArenaCounts.l51 K R14 k
    BIf (decide (x44 < (n29 : Nat))) (ixI x44 n29 (NN A29 fun a13 => St H ((a13.add (x44.toNat * 1)).add 0) (.int .i64 (0 : Int)) fun H27 => R51 x42 A27 n27 m27 p20 A28 n28 m28 A29 n29 m29 x43 (IntKind.i64.wrap (x44 + (1 : Int))) H27)) (W_abacistlaw14_ArenaCounts.j56 K R14 x42 A27 n27 m27 p20 A28 n28 m28 A29 n29 m29 (0 : Int) (0 : Int) x43 H)
def W_abacistlaw14_ArenaCounts.j50 (K : Value → Hp → Prop) (R14 : Int → Option Addr → Nat → Nat → Option Addr → Option Addr → Nat → Nat → Option Addr → Nat → Nat → Int → Int → Int → Hp → Prop) (x40 : Int) (A24 : Option Addr) (n24 : Nat) (m24 : Nat) (p19 : Option Addr) (A25 : Option Addr) (n25 : Nat) (m25 : Nat) (A26 : Option Addr) (n26 : Nat) (m26 : Nat) (x41 : Int) (H : Hp) : Prop :=
  (∃ k, W_abacistlaw14_ArenaCounts.l51 K R14 k x40 A24 n24 m24 p19 A25 n25 m25 A26 n26 m26 x41 (0 : Int) H)
def W_abacistlaw14_ArenaCounts.l44 (K : Value → Hp → Prop) (R14 : Int → Option Addr → Nat → Nat → Option Addr → Option Addr → Nat → Nat → Option Addr → Nat → Nat → Int → Int → Int → Hp → Prop) : Nat → Int → Option Addr → Nat → Nat → Option Addr → Option Addr → Nat → Nat → Option Addr → Nat → Nat → Int → Int → Int → Hp → Prop
  | 0, _, _, _, _, _, _, _, _, _, _, _, _, _, _, _ => False
  | k + 1, x36, A21, n21, m21, p18, A22, n22, m22, A23, n23, m23, x37, x38, x39, H =>
    let R44 := W_abacistlaw14_ArenaCounts.l44 K R14 k
    BIf (decide (x39 < (n23 : Nat))) (ixI x39 n23 (NN A23 fun a12 => St H ((a12.add (x39.toNat * 1)).add 0) (.int .i64 (0 : Int)) fun H23 => R44 x36 A21 n21 m21 p18 A22 n22 m22 A23 n23 m23 x37 x38 (IntKind.i64.wrap (x39 + (1 : Int))) H23)) (W_abacistlaw14_ArenaCounts.j56 K R14 x36 A21 n21 m21 p18 A22 n22 m22 A23 n23 m23 (0 : Int) x37 x38 H)
def W_abacistlaw14_ArenaCounts.j43 (K : Value → Hp → Prop) (R14 : Int → Option Addr → Nat → Nat → Option Addr → Option Addr → Nat → Nat → Option Addr → Nat → Nat → Int → Int → Int → Hp → Prop) (x33 : Int) (A18 : Option Addr) (n18 : Nat) (m18 : Nat) (p17 : Option Addr) (A19 : Option Addr) (n19 : Nat) (m19 : Nat) (A20 : Option Addr) (n20 : Nat) (m20 : Nat) (x34 : Int) (x35 : Int) (H : Hp) : Prop :=
  (∃ k, W_abacistlaw14_ArenaCounts.l44 K R14 k x33 A18 n18 m18 p17 A19 n19 m19 A20 n20 m20 x34 x35 (0 : Int) H)
def W_abacistlaw14_ArenaCounts.j39 (K : Value → Hp → Prop) (R14 : Int → Option Addr → Nat → Nat → Option Addr → Option Addr → Nat → Nat → Option Addr → Nat → Nat → Int → Int → Int → Hp → Prop) (x27 : Int) (A15 : Option Addr) (n15 : Nat) (m15 : Nat) (p16 : Option Addr) (A16 : Option Addr) (n16 : Nat) (m16 : Nat) (A17 : Option Addr) (n17 : Nat) (m17 : Nat) (x28 : Int) (x29 : Int) (x30 : Int) (x31 : Int) (H : Hp) : Prop :=
  ixI x31 n17 (NN A17 fun a10 => Ld H (a10.add (x31.toNat * 1)) fun v28 => DI .i64 v28 fun x32 => ixI x31 n17 (NN A17 fun a11 => St H ((a11.add (x31.toNat * 1)).add 0) (.int .i64 (0 : Int)) fun H19 => W_abacistlaw14_ArenaCounts.j56 K R14 x27 A15 n15 m15 p16 A16 n16 m16 A17 n17 m17 (IntKind.i64.wrap (x28 - x32)) x29 x30 H19))
def W_abacistlaw14_ArenaCounts.j27 (K : Value → Hp → Prop) (R14 : Int → Option Addr → Nat → Nat → Option Addr → Option Addr → Nat → Nat → Option Addr → Nat → Nat → Int → Int → Int → Hp → Prop) (x19 : Int) (A9 : Option Addr) (n9 : Nat) (m9 : Nat) (p8 : Option Addr) (A10 : Option Addr) (n10 : Nat) (m10 : Nat) (A11 : Option Addr) (n11 : Nat) (m11 : Nat) (x20 : Int) (x21 : Int) (x22 : Int) (x23 : Int) (p9 : Option Addr) (x24 : Int) (x25 : Int) (H : Hp) : Prop :=
  BIf (x24 != x25) (K (.bool false) H) (BIf (!((!p9.isNone) == (x25 == (0 : Int)))) (K (.bool false) H) (BIf (!p9.isNone) (HCalls Try.prog 30 #[.pointer p9] H fun v15 H7 => DI .i64 v15 fun x26 => BIf (x26 != x23) (K (.bool false) H7) (HCalls Try.prog 18 #[.pointer p9] H7 fun v16 H8 => DSl v16 fun A12 n12 m12 => BIf ((n12 : Nat) != x23) (K (.bool false) H8) (Nw H8 (.row [.pointer p9] 32 1) fun b1 H9 => AppK Try.prog 32 (.slice A10 n10 m10) (.slice (some ⟨b1, 0, none⟩) 1 1) H9 fun v17 H10 => DSl v17 fun A13 n13 m13 => Nw H10 (.row [.int .i64 x23] 3 1) fun b2 H11 => AppK Try.prog 3 (.slice A11 n11 m11) (.slice (some ⟨b2, 0, none⟩) 1 1) H11 fun v18 H12 => DSl v18 fun A14 n14 m14 => W_abacistlaw14_ArenaCounts.j56 K R14 x19 A9 n9 m9 p8 A13 n13 m13 A14 n14 m14 (IntKind.i64.wrap (x20 + x23)) (if (IntKind.i64.wrap (x20 + x23)) > x21 then (IntKind.i64.wrap (x20 + x23)) else x21) x22 H12))) (W_abacistlaw14_ArenaCounts.j56 K R14 x19 A9 n9 m9 p8 A10 n10 m10 A11 n11 m11 x20 x21 x22 H)))
def W_abacistlaw14_ArenaCounts.j22 (K : Value → Hp → Prop) (R14 : Int → Option Addr → Nat → Nat → Option Addr → Option Addr → Nat → Nat → Option Addr → Nat → Nat → Int → Int → Int → Hp → Prop) (x13 : Int) (A6 : Option Addr) (n6 : Nat) (m6 : Nat) (p6 : Option Addr) (A7 : Option Addr) (n7 : Nat) (m7 : Nat) (A8 : Option Addr) (n8 : Nat) (m8 : Nat) (x14 : Int) (x15 : Int) (x16 : Int) (x17 : Int) (p7 : Option Addr) (x18 : Int) (H : Hp) : Prop :=
  BIf (decide (x17 < (1 : Int))) (W_abacistlaw14_ArenaCounts.j27 K R14 x13 A6 n6 m6 p6 A7 n7 m7 A8 n8 m8 x14 x15 x16 x17 p7 x18 (1 : Int) H) (BIf (decide (x17 > (IntKind.i64.wrap (x13 - x14)))) (W_abacistlaw14_ArenaCounts.j27 K R14 x13 A6 n6 m6 p6 A7 n7 m7 A8 n8 m8 x14 x15 x16 x17 p7 x18 (6 : Int) H) (W_abacistlaw14_ArenaCounts.j27 K R14 x13 A6 n6 m6 p6 A7 n7 m7 A8 n8 m8 x14 x15 x16 x17 p7 x18 (0 : Int) H))
def W_abacistlaw14_ArenaCounts.l14 (K : Value → Hp → Prop) : Nat → Int → Option Addr → Nat → Nat → Option Addr → Option Addr → Nat → Nat → Option Addr → Nat → Nat → Int → Int → Int → Hp → Prop
  | 0, _, _, _, _, _, _, _, _, _, _, _, _, _, _, _ => False
  | k + 1, x4, A3, n3, m3, p2, A4, n4, m4, A5, n5, m5, x5, x6, x7, H =>
    let R14 := W_abacistlaw14_ArenaCounts.l14 K k
    BIf (decide (x7 < (n3 : Nat))) (ixI x7 n3 (NN A3 fun a2 => Ld H ((a2.add (x7.toNat * 2)).add 1) fun v4 => DI .i64 v4 fun x8 => ixI x7 n3 (NN A3 fun a3 => Ld H ((a3.add (x7.toNat * 2)).add 0) fun v5 => DI .i64 v5 fun x9 => BIf (x9 == (0 : Int)) (BIf (x9 == (0 : Int)) (HCalls Try.prog 17 #[.pointer p2, .int .i64 x8] H fun v6 H4 => DTup v6 fun l1 => DCons l1 fun v7 l2 => DP v7 fun p3 => DCons l2 fun v8 l3 => DI .i64 v8 fun x10 => DNil l3 (W_abacistlaw14_ArenaCounts.j22 K R14 x4 A3 n3 m3 p2 A4 n4 m4 A5 n5 m5 x5 x6 x7 x8 p3 x10 H4)) (BIf (x9 == (3 : Int)) (BIf (decide (x8 ≥ (0 : Int))) (BIf (decide (x8 < (n4 : Nat))) (ixI x8 n4 (NN A4 fun a4 => Ld H (a4.add (x8.toNat * 1)) fun v19 => DP v19 fun p10 => ixI x8 n4 (NN A4 fun a7 => Ld H (a7.add (x8.toNat * 1)) fun v22 => DP v22 fun p13 => Nw H (.row [.pointer p10, .pointer none, .pointer p13] 32 3) fun b3 H13 => HCalls Try.prog 31 #[.pointer p2, .slice (some ⟨b3, 0, none⟩) 3 3] H13 fun v25 H16 => W_abacistlaw14_ArenaCounts.j39 K R14 x4 A3 n3 m3 p2 A4 n4 m4 A5 n5 m5 x5 x6 x7 x8 H16))) (W_abacistlaw14_ArenaCounts.j56 K R14 x4 A3 n3 m3 p2 A4 n4 m4 A5 n5 m5 x5 x6 x7 H)) (W_abacistlaw14_ArenaCounts.j56 K R14 x4 A3 n3 m3 p2 A4 n4 m4 A5 n5 m5 x5 x6 x7 H)) (BIf (x9 == (4 : Int)) (HCalls Try.prog 31 #[.pointer p2, .slice A4 n4 m4] H fun v29 H20 => W_abacistlaw14_ArenaCounts.j43 K R14 x4 A3 n3 m3 p2 A4 n4 m4 A5 n5 m5 x6 x7 H20) (BIf (x9 == (5 : Int)) (HCalls Try.prog 32 #[.pointer p2] H fun v32 H24 => W_abacistlaw14_ArenaCounts.j50 K R14 x4 A3 n3 m3 p2 A4 n4 m4 A5 n5 m5 x7 H24) (W_abacistlaw14_ArenaCounts.j56 K R14 x4 A3 n3 m3 p2 A4 n4 m4 A5 n5 m5 x5 x6 x7 H))))) (BIf (x9 == (1 : Int)) (BIf (x9 == (1 : Int)) (HCalls Try.prog 17 #[.pointer p2, .int .i64 x8] H fun v9 H5 => DTup v9 fun l4 => DCons l4 fun v10 l5 => DP v10 fun p4 => DCons l5 fun v11 l6 => DI .i64 v11 fun x11 => DNil l6 (W_abacistlaw14_ArenaCounts.j22 K R14 x4 A3 n3 m3 p2 A4 n4 m4 A5 n5 m5 x5 x6 x7 x8 p4 x11 H5)) (BIf (x9 == (3 : Int)) (BIf (decide (x8 ≥ (0 : Int))) (BIf (decide (x8 < (n4 : Nat))) (ixI x8 n4 (NN A4 fun a5 => Ld H (a5.add (x8.toNat * 1)) fun v20 => DP v20 fun p11 => ixI x8 n4 (NN A4 fun a8 => Ld H (a8.add (x8.toNat * 1)) fun v23 => DP v23 fun p14 => Nw H (.row [.pointer p11, .pointer none, .pointer p14] 32 3) fun b4 H14 => HCalls Try.prog 31 #[.pointer p2, .slice (some ⟨b4, 0, none⟩) 3 3] H14 fun v26 H17 => W_abacistlaw14_ArenaCounts.j39 K R14 x4 A3 n3 m3 p2 A4 n4 m4 A5 n5 m5 x5 x6 x7 x8 H17))) (W_abacistlaw14_ArenaCounts.j56 K R14 x4 A3 n3 m3 p2 A4 n4 m4 A5 n5 m5 x5 x6 x7 H)) (W_abacistlaw14_ArenaCounts.j56 K R14 x4 A3 n3 m3 p2 A4 n4 m4 A5 n5 m5 x5 x6 x7 H)) (BIf (x9 == (4 : Int)) (HCalls Try.prog 31 #[.pointer p2, .slice A4 n4 m4] H fun v30 H21 => W_abacistlaw14_ArenaCounts.j43 K R14 x4 A3 n3 m3 p2 A4 n4 m4 A5 n5 m5 x6 x7 H21) (BIf (x9 == (5 : Int)) (HCalls Try.prog 32 #[.pointer p2] H fun v33 H25 => W_abacistlaw14_ArenaCounts.j50 K R14 x4 A3 n3 m3 p2 A4 n4 m4 A5 n5 m5 x7 H25) (W_abacistlaw14_ArenaCounts.j56 K R14 x4 A3 n3 m3 p2 A4 n4 m4 A5 n5 m5 x5 x6 x7 H))))) (BIf (x9 == (2 : Int)) (HCalls Try.prog 17 #[.pointer p2, .int .i64 x8] H fun v12 H6 => DTup v12 fun l7 => DCons l7 fun v13 l8 => DP v13 fun p5 => DCons l8 fun v14 l9 => DI .i64 v14 fun x12 => DNil l9 (W_abacistlaw14_ArenaCounts.j22 K R14 x4 A3 n3 m3 p2 A4 n4 m4 A5 n5 m5 x5 x6 x7 x8 p5 x12 H6)) (BIf (x9 == (3 : Int)) (BIf (decide (x8 ≥ (0 : Int))) (BIf (decide (x8 < (n4 : Nat))) (ixI x8 n4 (NN A4 fun a6 => Ld H (a6.add (x8.toNat * 1)) fun v21 => DP v21 fun p12 => ixI x8 n4 (NN A4 fun a9 => Ld H (a9.add (x8.toNat * 1)) fun v24 => DP v24 fun p15 => Nw H (.row [.pointer p12, .pointer none, .pointer p15] 32 3) fun b5 H15 => HCalls Try.prog 31 #[.pointer p2, .slice (some ⟨b5, 0, none⟩) 3 3] H15 fun v27 H18 => W_abacistlaw14_ArenaCounts.j39 K R14 x4 A3 n3 m3 p2 A4 n4 m4 A5 n5 m5 x5 x6 x7 x8 H18))) (W_abacistlaw14_ArenaCounts.j56 K R14 x4 A3 n3 m3 p2 A4 n4 m4 A5 n5 m5 x5 x6 x7 H)) (W_abacistlaw14_ArenaCounts.j56 K R14 x4 A3 n3 m3 p2 A4 n4 m4 A5 n5 m5 x5 x6 x7 H)) (BIf (x9 == (4 : Int)) (HCalls Try.prog 31 #[.pointer p2, .slice A4 n4 m4] H fun v31 H22 => W_abacistlaw14_ArenaCounts.j43 K R14 x4 A3 n3 m3 p2 A4 n4 m4 A5 n5 m5 x6 x7 H22) (BIf (x9 == (5 : Int)) (HCalls Try.prog 32 #[.pointer p2] H fun v34 H26 => W_abacistlaw14_ArenaCounts.j50 K R14 x4 A3 n3 m3 p2 A4 n4 m4 A5 n5 m5 x7 H26) (W_abacistlaw14_ArenaCounts.j56 K R14 x4 A3 n3 m3 p2 A4 n4 m4 A5 n5 m5 x5 x6 x7 H))))))))) (K (.bool true) H)
def W_abacistlaw14_ArenaCounts.j5 (K : Value → Hp → Prop) (x2 : Int) (A2 : Option Addr) (n2 : Nat) (m2 : Nat) (H : Hp) : Prop :=
  HCalls Try.prog 16 #[.int .i64 x2] H fun v2 H2 => DP v2 fun p1 => BIf (decide (x2 < (1 : Int))) (K (.bool p1.isNone) H2) (BIf (decide (x2 > (16777216 : Int))) (K (.bool p1.isNone) H2) (BIf p1.isNone (K (.bool false) H2) (NN p1 fun a1 => HCalls Try.prog 29 #[.pointer (some (a1.add 0))] H2 fun v3 H3 => DI .i64 v3 fun x3 => BIf (x3 != x2) (K (.bool false) H3) ((∃ k, W_abacistlaw14_ArenaCounts.l14 K k x2 A2 n2 m2 p1 none 0 0 none 0 0 (0 : Int) (0 : Int) (0 : Int) H3)))))
def W_abacistlaw14_ArenaCounts (x1 : Int) (A1 : Option Addr) (n1 : Nat) (m1 : Nat) (H : Hp) (K : Value → Hp → Prop) : Prop :=
  HCalls Try.prog 15 #[] H fun v1 H1 => DB v1 fun c1 => BIf (!c1) (K (.bool false) H1) (BIf (decide ((n1 : Nat) > (40 : Int))) (K (.bool true) H1) (BIf (decide (x1 > (40000 : Int))) (BIf (decide (x1 ≤ (16777216 : Int))) (K (.bool true) H1) (W_abacistlaw14_ArenaCounts.j5 K x1 A1 n1 m1 H1)) (W_abacistlaw14_ArenaCounts.j5 K x1 A1 n1 m1 H1)))
def W_abacistlaw14_ArenaCounts.l14.L (K : Value → Hp → Prop) (k : Nat) : Mid := fun E D H =>
  DG (E.get? 0) fun w0 => DI .i64 w0 fun x4 => DG (E.get? 1) fun w1 => DSl w1 fun A3 n3 m3 => DG (E.get? 5) fun w5 => DP w5 fun p2 => DG (E.get? 6) fun w6 => DSl w6 fun A4 n4 m4 => DG (E.get? 7) fun w7 => DSl w7 fun A5 n5 m5 => DG (E.get? 8) fun w8 => DI .i64 w8 fun x5 => DG (E.get? 9) fun w9 => DI .i64 w9 fun x6 => DG (E.get? 10) fun w10 => DI .i64 w10 fun x7 => DNilD D (W_abacistlaw14_ArenaCounts.l14 K k x4 A3 n3 m3 p2 A4 n4 m4 A5 n5 m5 x5 x6 x7 H)
def W_abacistlaw14_ArenaCounts.l44.L (K : Value → Hp → Prop) (R14 : Int → Option Addr → Nat → Nat → Option Addr → Option Addr → Nat → Nat → Option Addr → Nat → Nat → Int → Int → Int → Hp → Prop) (k : Nat) : Mid := fun E D H =>
  DG (E.get? 0) fun w0 => DI .i64 w0 fun x36 => DG (E.get? 1) fun w1 => DSl w1 fun A21 n21 m21 => DG (E.get? 5) fun w5 => DP w5 fun p18 => DG (E.get? 6) fun w6 => DSl w6 fun A22 n22 m22 => DG (E.get? 7) fun w7 => DSl w7 fun A23 n23 m23 => DG (E.get? 9) fun w9 => DI .i64 w9 fun x37 => DG (E.get? 10) fun w10 => DI .i64 w10 fun x38 => DG (E.get? 15) fun w15 => DI .i64 w15 fun x39 => DNilD D (W_abacistlaw14_ArenaCounts.l44 K R14 k x36 A21 n21 m21 p18 A22 n22 m22 A23 n23 m23 x37 x38 x39 H)
def W_abacistlaw14_ArenaCounts.l51.L (K : Value → Hp → Prop) (R14 : Int → Option Addr → Nat → Nat → Option Addr → Option Addr → Nat → Nat → Option Addr → Nat → Nat → Int → Int → Int → Hp → Prop) (k : Nat) : Mid := fun E D H =>
  DG (E.get? 0) fun w0 => DI .i64 w0 fun x42 => DG (E.get? 1) fun w1 => DSl w1 fun A27 n27 m27 => DG (E.get? 5) fun w5 => DP w5 fun p20 => DG (E.get? 6) fun w6 => DSl w6 fun A28 n28 m28 => DG (E.get? 7) fun w7 => DSl w7 fun A29 n29 m29 => DG (E.get? 10) fun w10 => DI .i64 w10 fun x43 => DG (E.get? 16) fun w16 => DI .i64 w16 fun x44 => DNilD D (W_abacistlaw14_ArenaCounts.l51 K R14 k x42 A27 n27 m27 p20 A28 n28 m28 A29 n29 m29 x43 x44 H)
def W_abacistlaw14_ArenaCounts.l57.L (K : Value → Hp → Prop) (R14 : Int → Option Addr → Nat → Nat → Option Addr → Option Addr → Nat → Nat → Option Addr → Nat → Nat → Int → Int → Int → Hp → Prop) (k : Nat) : Mid := fun E D H =>
  DG (E.get? 0) fun w0 => DI .i64 w0 fun x49 => DG (E.get? 1) fun w1 => DSl w1 fun A33 n33 m33 => DG (E.get? 5) fun w5 => DP w5 fun p22 => DG (E.get? 6) fun w6 => DSl w6 fun A34 n34 m34 => DG (E.get? 7) fun w7 => DSl w7 fun A35 n35 m35 => DG (E.get? 8) fun w8 => DI .i64 w8 fun x50 => DG (E.get? 9) fun w9 => DI .i64 w9 fun x51 => DG (E.get? 10) fun w10 => DI .i64 w10 fun x52 => DG (E.get? 17) fun w17 => DI .i64 w17 fun x53 => DNilD D (W_abacistlaw14_ArenaCounts.l57 K R14 k x49 A33 n33 m33 p22 A34 n34 m34 A35 n35 m35 x50 x51 x52 x53 H)
def W_abacistlaw14_ArenaCounts.Λ44 (_ : Value → Hp → Prop) (_R14 : Int → Option Addr → Nat → Nat → Option Addr → Option Addr → Nat → Nat → Option Addr → Nat → Nat → Int → Int → Int → Hp → Prop) (_R44 : Int → Option Addr → Nat → Nat → Option Addr → Option Addr → Nat → Nat → Option Addr → Nat → Nat → Int → Int → Int → Hp → Prop) : Cuts := Cuts.none (fun i => match Nat.beq i 38 with | true => some ([0], [1, 2, 3, 4, 5, 6, 7, 8], 9) | false => none)
def W_abacistlaw14_ArenaCounts.Λ51 (_ : Value → Hp → Prop) (_R14 : Int → Option Addr → Nat → Nat → Option Addr → Option Addr → Nat → Nat → Option Addr → Nat → Nat → Int → Int → Int → Hp → Prop) (_R51 : Int → Option Addr → Nat → Nat → Option Addr → Option Addr → Nat → Nat → Option Addr → Nat → Nat → Int → Int → Hp → Prop) : Cuts := Cuts.none (fun i => match Nat.beq i 38 with | true => some ([0], [1, 2, 3, 4, 5, 6, 7, 8], 9) | false => none)
def W_abacistlaw14_ArenaCounts.Λ57 (_ : Value → Hp → Prop) (_R14 : Int → Option Addr → Nat → Nat → Option Addr → Option Addr → Nat → Nat → Option Addr → Nat → Nat → Int → Int → Int → Hp → Prop) (_R57 : Int → Option Addr → Nat → Nat → Option Addr → Option Addr → Nat → Nat → Option Addr → Nat → Nat → Int → Int → Int → Int → Hp → Prop) : Cuts := Cuts.none (fun i => match Nat.beq i 38 with | true => some ([0], [1, 2, 3, 4, 5, 6, 7, 8], 9) | false => none)
def W_abacistlaw14_ArenaCounts.Λ14 (K : Value → Hp → Prop) (R14 : Int → Option Addr → Nat → Nat → Option Addr → Option Addr → Nat → Nat → Option Addr → Nat → Nat → Int → Int → Int → Hp → Prop) : Cuts := ⟨fun i => match Nat.beq i 56 with | true => some (fun E D H => DG (E.get? 0) fun w0 => DI .i64 w0 fun x45 => DG (E.get? 1) fun w1 => DSl w1 fun A30 n30 m30 => DG (E.get? 5) fun w5 => DP w5 fun p21 => DG (E.get? 6) fun w6 => DSl w6 fun A31 n31 m31 => DG (E.get? 7) fun w7 => DSl w7 fun A32 n32 m32 => DG (E.get? 8) fun w8 => DI .i64 w8 fun x46 => DG (E.get? 9) fun w9 => DI .i64 w9 fun x47 => DG (E.get? 10) fun w10 => DI .i64 w10 fun x48 => DNilD D (W_abacistlaw14_ArenaCounts.j56 K R14 x45 A30 n30 m30 p21 A31 n31 m31 A32 n32 m32 x46 x47 x48 H)) | false => match Nat.beq i 50 with | true => some (fun E D H => DG (E.get? 0) fun w0 => DI .i64 w0 fun x40 => DG (E.get? 1) fun w1 => DSl w1 fun A24 n24 m24 => DG (E.get? 5) fun w5 => DP w5 fun p19 => DG (E.get? 6) fun w6 => DSl w6 fun A25 n25 m25 => DG (E.get? 7) fun w7 => DSl w7 fun A26 n26 m26 => DG (E.get? 10) fun w10 => DI .i64 w10 fun x41 => DNilD D (W_abacistlaw14_ArenaCounts.j50 K R14 x40 A24 n24 m24 p19 A25 n25 m25 A26 n26 m26 x41 H)) | false => match Nat.beq i 43 with | true => some (fun E D H => DG (E.get? 0) fun w0 => DI .i64 w0 fun x33 => DG (E.get? 1) fun w1 => DSl w1 fun A18 n18 m18 => DG (E.get? 5) fun w5 => DP w5 fun p17 => DG (E.get? 6) fun w6 => DSl w6 fun A19 n19 m19 => DG (E.get? 7) fun w7 => DSl w7 fun A20 n20 m20 => DG (E.get? 9) fun w9 => DI .i64 w9 fun x34 => DG (E.get? 10) fun w10 => DI .i64 w10 fun x35 => DNilD D (W_abacistlaw14_ArenaCounts.j43 K R14 x33 A18 n18 m18 p17 A19 n19 m19 A20 n20 m20 x34 x35 H)) | false => match Nat.beq i 39 with | true => some (fun E D H => DG (E.get? 0) fun w0 => DI .i64 w0 fun x27 => DG (E.get? 1) fun w1 => DSl w1 fun A15 n15 m15 => DG (E.get? 5) fun w5 => DP w5 fun p16 => DG (E.get? 6) fun w6 => DSl w6 fun A16 n16 m16 => DG (E.get? 7) fun w7 => DSl w7 fun A17 n17 m17 => DG (E.get? 8) fun w8 => DI .i64 w8 fun x28 => DG (E.get? 9) fun w9 => DI .i64 w9 fun x29 => DG (E.get? 10) fun w10 => DI .i64 w10 fun x30 => DG (E.get? 11) fun w11 => DI .i64 w11 fun x31 => DNilD D (W_abacistlaw14_ArenaCounts.j39 K R14 x27 A15 n15 m15 p16 A16 n16 m16 A17 n17 m17 x28 x29 x30 x31 H)) | false => match Nat.beq i 27 with | true => some (fun E D H => DG (E.get? 0) fun w0 => DI .i64 w0 fun x19 => DG (E.get? 1) fun w1 => DSl w1 fun A9 n9 m9 => DG (E.get? 5) fun w5 => DP w5 fun p8 => DG (E.get? 6) fun w6 => DSl w6 fun A10 n10 m10 => DG (E.get? 7) fun w7 => DSl w7 fun A11 n11 m11 => DG (E.get? 8) fun w8 => DI .i64 w8 fun x20 => DG (E.get? 9) fun w9 => DI .i64 w9 fun x21 => DG (E.get? 10) fun w10 => DI .i64 w10 fun x22 => DG (E.get? 11) fun w11 => DI .i64 w11 fun x23 => DG (E.get? 12) fun w12 => DP w12 fun p9 => DG (E.get? 13) fun w13 => DI .i64 w13 fun x24 => DG (E.get? 14) fun w14 => DI .i64 w14 fun x25 => DNilD D (W_abacistlaw14_ArenaCounts.j27 K R14 x19 A9 n9 m9 p8 A10 n10 m10 A11 n11 m11 x20 x21 x22 x23 p9 x24 x25 H)) | false => match Nat.beq i 22 with | true => some (fun E D H => DG (E.get? 0) fun w0 => DI .i64 w0 fun x13 => DG (E.get? 1) fun w1 => DSl w1 fun A6 n6 m6 => DG (E.get? 5) fun w5 => DP w5 fun p6 => DG (E.get? 6) fun w6 => DSl w6 fun A7 n7 m7 => DG (E.get? 7) fun w7 => DSl w7 fun A8 n8 m8 => DG (E.get? 8) fun w8 => DI .i64 w8 fun x14 => DG (E.get? 9) fun w9 => DI .i64 w9 fun x15 => DG (E.get? 10) fun w10 => DI .i64 w10 fun x16 => DG (E.get? 11) fun w11 => DI .i64 w11 fun x17 => DG (E.get? 12) fun w12 => DP w12 fun p7 => DG (E.get? 13) fun w13 => DI .i64 w13 fun x18 => DNilD D (W_abacistlaw14_ArenaCounts.j22 K R14 x13 A6 n6 m6 p6 A7 n7 m7 A8 n8 m8 x14 x15 x16 x17 p7 x18 H)) | false => none, fun i => match Nat.beq i 57 with | true => some (fun E D H => ∃ k, W_abacistlaw14_ArenaCounts.l57.L K R14 k E D H) | false => match Nat.beq i 51 with | true => some (fun E D H => ∃ k, W_abacistlaw14_ArenaCounts.l51.L K R14 k E D H) | false => match Nat.beq i 44 with | true => some (fun E D H => ∃ k, W_abacistlaw14_ArenaCounts.l44.L K R14 k E D H) | false => none, (fun i => match Nat.beq i 38 with | true => some ([0], [1, 2, 3, 4, 5, 6, 7, 8], 9) | false => none)⟩
def W_abacistlaw14_ArenaCounts.Λ (K : Value → Hp → Prop) : Cuts := ⟨fun i => match Nat.beq i 5 with | true => some (fun E D H => DG (E.get? 0) fun w0 => DI .i64 w0 fun x2 => DG (E.get? 1) fun w1 => DSl w1 fun A2 n2 m2 => DNilD D (W_abacistlaw14_ArenaCounts.j5 K x2 A2 n2 m2 H)) | false => none, fun i => match Nat.beq i 14 with | true => some (fun E D H => ∃ k, W_abacistlaw14_ArenaCounts.l14.L K k E D H) | false => none, (fun i => match Nat.beq i 38 with | true => some ([0], [1, 2, 3, 4, 5, 6, 7, 8], 9) | false => none)⟩
theorem W_abacistlaw14_ArenaCounts.ok (x1 : Int) (A1 : Option Addr) (n1 : Nat) (m1 : Nat) (H : Hp) (K : Value → Hp → Prop) (h : W_abacistlaw14_ArenaCounts x1 A1 n1 m1 H K) : HCalls Try.prog 8 #[.int .i64 x1, .slice A1 n1 m1] H K :=
  hcalls Try.func8 rfl (Nat.le_of_ble_eq_true rfl) (hw_safe (Λ := (W_abacistlaw14_ArenaCounts.Λ K)) mix _ _ _ _ _ (Eq.mp (by kernel_rfl) h) (obs_seq obs_region rfl (obs_seq (obs_seq obs_region rfl (obs_cond (obs_seq obs_region rfl obs_ret) obs_skip)) rfl (obs_seqc (obs_seq obs_region rfl (obs_cond (obs_seq obs_region rfl obs_ret) obs_skip)) rfl (fun E D H h => by
      obtain ⟨w0, e0, g1⟩ := DG.out h
      obtain ⟨x2, rfl, g2⟩ := DI.out g1
      obtain ⟨w1, e1, g3⟩ := DG.out g2
      obtain ⟨A2, n2, m2, rfl, g4⟩ := DSl.out g3
      obtain ⟨rfl, h'⟩ := DNilD.out g4
      exact (hw_safe (Λ := (W_abacistlaw14_ArenaCounts.Λ K)) mix _ _ [(0, .int .i64 x2), (1, .slice A2 n2 m2)] [] H (Eq.mp (by kernel_rfl) h') (obs_seq obs_region rfl (obs_seq (obs_seq obs_region rfl (obs_cond (obs_seq obs_region rfl obs_ret) obs_skip)) rfl (obs_seq (obs_seq obs_region rfl (obs_cond (obs_seq obs_region rfl obs_ret) obs_skip)) rfl (obs_seq obs_region rfl (obs_seq obs_region rfl (obs_seq obs_region rfl (obs_seq (obs_seq obs_region rfl (obs_block (obs_loop rfl (fun E D H h => by
          refine Safe.loop' (W_abacistlaw14_ArenaCounts.l14.L K) (fun E D H h => ?_) (fun k E D H h => ?_) E D H h
          · obtain ⟨w0, e0, g1⟩ := DG.out h; obtain ⟨x4, rfl, g2⟩ := DI.out g1; obtain ⟨w1, e1, g3⟩ := DG.out g2; obtain ⟨A3, n3, m3, rfl, g4⟩ := DSl.out g3; obtain ⟨w5, e5, g5⟩ := DG.out g4; obtain ⟨p2, rfl, g6⟩ := DP.out g5; obtain ⟨w6, e6, g7⟩ := DG.out g6; obtain ⟨A4, n4, m4, rfl, g8⟩ := DSl.out g7; obtain ⟨w7, e7, g9⟩ := DG.out g8; obtain ⟨A5, n5, m5, rfl, g10⟩ := DSl.out g9; obtain ⟨w8, e8, g11⟩ := DG.out g10; obtain ⟨x5, rfl, g12⟩ := DI.out g11; obtain ⟨w9, e9, g13⟩ := DG.out g12; obtain ⟨x6, rfl, g14⟩ := DI.out g13; obtain ⟨w10, e10, g15⟩ := DG.out g14; obtain ⟨x7, rfl, g16⟩ := DI.out g15; obtain ⟨rfl, h'⟩ := DNilD.out g16; exact h'
          · obtain ⟨w0, e0, g1⟩ := DG.out h
            obtain ⟨x4, rfl, g2⟩ := DI.out g1
            obtain ⟨w1, e1, g3⟩ := DG.out g2
            obtain ⟨A3, n3, m3, rfl, g4⟩ := DSl.out g3
            obtain ⟨w5, e5, g5⟩ := DG.out g4
            obtain ⟨p2, rfl, g6⟩ := DP.out g5
            obtain ⟨w6, e6, g7⟩ := DG.out g6
            obtain ⟨A4, n4, m4, rfl, g8⟩ := DSl.out g7
            obtain ⟨w7, e7, g9⟩ := DG.out g8
            obtain ⟨A5, n5, m5, rfl, g10⟩ := DSl.out g9
            obtain ⟨w8, e8, g11⟩ := DG.out g10
            obtain ⟨x5, rfl, g12⟩ := DI.out g11
            obtain ⟨w9, e9, g13⟩ := DG.out g12
            obtain ⟨x6, rfl, g14⟩ := DI.out g13
            obtain ⟨w10, e10, g15⟩ := DG.out g14
            obtain ⟨x7, rfl, g16⟩ := DI.out g15
            obtain ⟨rfl, h'⟩ := DNilD.out g16
            exact (hw_safe (Λ := (W_abacistlaw14_ArenaCounts.Λ14 K (W_abacistlaw14_ArenaCounts.l14 K k))) mix _ _ [(0, .int .i64 x4), (1, .slice A3 n3 m3), (5, .pointer p2), (6, .slice A4 n4 m4), (7, .slice A5 n5 m5), (8, .int .i64 x5), (9, .int .i64 x6), (10, .int .i64 x7)] [] H (Eq.mp (by kernel_rfl) h') (obs_seq (obs_seq obs_region rfl (obs_cond obs_skip obs_exit)) rfl (obs_seq (obs_block (obs_seq obs_region rfl (obs_seqc (obs_seq obs_region rfl (obs_block (obs_seq (obs_seq obs_region rfl (obs_cond obs_skip (obs_seq obs_region rfl (obs_cond obs_skip obs_region)))) rfl (obs_cond (obs_seqc obs_region rfl (fun E D H h => by
                obtain ⟨w0, e0, g1⟩ := DG.out h
                obtain ⟨x13, rfl, g2⟩ := DI.out g1
                obtain ⟨w1, e1, g3⟩ := DG.out g2
                obtain ⟨A6, n6, m6, rfl, g4⟩ := DSl.out g3
                obtain ⟨w5, e5, g5⟩ := DG.out g4
                obtain ⟨p6, rfl, g6⟩ := DP.out g5
                obtain ⟨w6, e6, g7⟩ := DG.out g6
                obtain ⟨A7, n7, m7, rfl, g8⟩ := DSl.out g7
                obtain ⟨w7, e7, g9⟩ := DG.out g8
                obtain ⟨A8, n8, m8, rfl, g10⟩ := DSl.out g9
                obtain ⟨w8, e8, g11⟩ := DG.out g10
                obtain ⟨x14, rfl, g12⟩ := DI.out g11
                obtain ⟨w9, e9, g13⟩ := DG.out g12
                obtain ⟨x15, rfl, g14⟩ := DI.out g13
                obtain ⟨w10, e10, g15⟩ := DG.out g14
                obtain ⟨x16, rfl, g16⟩ := DI.out g15
                obtain ⟨w11, e11, g17⟩ := DG.out g16
                obtain ⟨x17, rfl, g18⟩ := DI.out g17
                obtain ⟨w12, e12, g19⟩ := DG.out g18
                obtain ⟨p7, rfl, g20⟩ := DP.out g19
                obtain ⟨w13, e13, g21⟩ := DG.out g20
                obtain ⟨x18, rfl, g22⟩ := DI.out g21
                obtain ⟨rfl, h'⟩ := DNilD.out g22
                exact (hw_safe (Λ := (W_abacistlaw14_ArenaCounts.Λ14 K (W_abacistlaw14_ArenaCounts.l14 K k))) mix _ _ [(0, .int .i64 x13), (1, .slice A6 n6 m6), (5, .pointer p6), (6, .slice A7 n7 m7), (7, .slice A8 n8 m8), (8, .int .i64 x14), (9, .int .i64 x15), (10, .int .i64 x16), (11, .int .i64 x17), (12, .pointer p7), (13, .int .i64 x18)] [] H (Eq.mp (by kernel_rfl) h') (obs_seq obs_region rfl (obs_seqc (obs_seq obs_region rfl (obs_cond obs_region (obs_seq obs_region rfl (obs_cond obs_region obs_skip)))) rfl (fun E D H h => by
                    obtain ⟨w0, e0, g1⟩ := DG.out h
                    obtain ⟨x19, rfl, g2⟩ := DI.out g1
                    obtain ⟨w1, e1, g3⟩ := DG.out g2
                    obtain ⟨A9, n9, m9, rfl, g4⟩ := DSl.out g3
                    obtain ⟨w5, e5, g5⟩ := DG.out g4
                    obtain ⟨p8, rfl, g6⟩ := DP.out g5
                    obtain ⟨w6, e6, g7⟩ := DG.out g6
                    obtain ⟨A10, n10, m10, rfl, g8⟩ := DSl.out g7
                    obtain ⟨w7, e7, g9⟩ := DG.out g8
                    obtain ⟨A11, n11, m11, rfl, g10⟩ := DSl.out g9
                    obtain ⟨w8, e8, g11⟩ := DG.out g10
                    obtain ⟨x20, rfl, g12⟩ := DI.out g11
                    obtain ⟨w9, e9, g13⟩ := DG.out g12
                    obtain ⟨x21, rfl, g14⟩ := DI.out g13
                    obtain ⟨w10, e10, g15⟩ := DG.out g14
                    obtain ⟨x22, rfl, g16⟩ := DI.out g15
                    obtain ⟨w11, e11, g17⟩ := DG.out g16
                    obtain ⟨x23, rfl, g18⟩ := DI.out g17
                    obtain ⟨w12, e12, g19⟩ := DG.out g18
                    obtain ⟨p9, rfl, g20⟩ := DP.out g19
                    obtain ⟨w13, e13, g21⟩ := DG.out g20
                    obtain ⟨x24, rfl, g22⟩ := DI.out g21
                    obtain ⟨w14, e14, g23⟩ := DG.out g22
                    obtain ⟨x25, rfl, g24⟩ := DI.out g23
                    obtain ⟨rfl, h'⟩ := DNilD.out g24
                    exact (hw_safe (Λ := (W_abacistlaw14_ArenaCounts.Λ14 K (W_abacistlaw14_ArenaCounts.l14 K k))) mix _ _ [(0, .int .i64 x19), (1, .slice A9 n9 m9), (5, .pointer p8), (6, .slice A10 n10 m10), (7, .slice A11 n11 m11), (8, .int .i64 x20), (9, .int .i64 x21), (10, .int .i64 x22), (11, .int .i64 x23), (12, .pointer p9), (13, .int .i64 x24), (14, .int .i64 x25)] [] H (Eq.mp (by kernel_rfl) h') (obs_seq (obs_seq obs_region rfl (obs_cond (obs_seq obs_region rfl obs_ret) obs_skip)) rfl (obs_seq obs_region rfl (obs_cond (obs_seq (obs_seq obs_region rfl (obs_cond (obs_seq obs_region rfl obs_ret) obs_skip)) rfl (obs_seq obs_region rfl (obs_seq obs_region rfl (obs_seq obs_region rfl obs_region)))) obs_skip)))).weaken (EnvLe.cons e0 (EnvLe.cons e1 (EnvLe.cons e5 (EnvLe.cons e6 (EnvLe.cons e7 (EnvLe.cons e8 (EnvLe.cons e9 (EnvLe.cons e10 (EnvLe.cons e11 (EnvLe.cons e12 (EnvLe.cons e13 (EnvLe.cons e14 (EnvLe.nil _))))))))))))) (Hp.le_refl _))))).weaken (EnvLe.cons e0 (EnvLe.cons e1 (EnvLe.cons e5 (EnvLe.cons e6 (EnvLe.cons e7 (EnvLe.cons e8 (EnvLe.cons e9 (EnvLe.cons e10 (EnvLe.cons e11 (EnvLe.cons e12 (EnvLe.cons e13 (EnvLe.nil _)))))))))))) (Hp.le_refl _))) (obs_seq obs_region rfl (obs_cond (obs_seq obs_region rfl (obs_cond (obs_seqc obs_region rfl (fun E D H h => by
                obtain ⟨w0, e0, g1⟩ := DG.out h
                obtain ⟨x27, rfl, g2⟩ := DI.out g1
                obtain ⟨w1, e1, g3⟩ := DG.out g2
                obtain ⟨A15, n15, m15, rfl, g4⟩ := DSl.out g3
                obtain ⟨w5, e5, g5⟩ := DG.out g4
                obtain ⟨p16, rfl, g6⟩ := DP.out g5
                obtain ⟨w6, e6, g7⟩ := DG.out g6
                obtain ⟨A16, n16, m16, rfl, g8⟩ := DSl.out g7
                obtain ⟨w7, e7, g9⟩ := DG.out g8
                obtain ⟨A17, n17, m17, rfl, g10⟩ := DSl.out g9
                obtain ⟨w8, e8, g11⟩ := DG.out g10
                obtain ⟨x28, rfl, g12⟩ := DI.out g11
                obtain ⟨w9, e9, g13⟩ := DG.out g12
                obtain ⟨x29, rfl, g14⟩ := DI.out g13
                obtain ⟨w10, e10, g15⟩ := DG.out g14
                obtain ⟨x30, rfl, g16⟩ := DI.out g15
                obtain ⟨w11, e11, g17⟩ := DG.out g16
                obtain ⟨x31, rfl, g18⟩ := DI.out g17
                obtain ⟨rfl, h'⟩ := DNilD.out g18
                exact (hw_safe (Λ := (W_abacistlaw14_ArenaCounts.Λ14 K (W_abacistlaw14_ArenaCounts.l14 K k))) mix _ _ [(0, .int .i64 x27), (1, .slice A15 n15 m15), (5, .pointer p16), (6, .slice A16 n16 m16), (7, .slice A17 n17 m17), (8, .int .i64 x28), (9, .int .i64 x29), (10, .int .i64 x30), (11, .int .i64 x31)] [] H (Eq.mp (by kernel_rfl) h') (obs_seq obs_region rfl obs_region)).weaken (EnvLe.cons e0 (EnvLe.cons e1 (EnvLe.cons e5 (EnvLe.cons e6 (EnvLe.cons e7 (EnvLe.cons e8 (EnvLe.cons e9 (EnvLe.cons e10 (EnvLe.cons e11 (EnvLe.nil _)))))))))) (Hp.le_refl _))) obs_skip)) (obs_seq obs_region rfl (obs_cond (obs_seqc obs_region rfl (fun E D H h => by
                obtain ⟨w0, e0, g1⟩ := DG.out h
                obtain ⟨x33, rfl, g2⟩ := DI.out g1
                obtain ⟨w1, e1, g3⟩ := DG.out g2
                obtain ⟨A18, n18, m18, rfl, g4⟩ := DSl.out g3
                obtain ⟨w5, e5, g5⟩ := DG.out g4
                obtain ⟨p17, rfl, g6⟩ := DP.out g5
                obtain ⟨w6, e6, g7⟩ := DG.out g6
                obtain ⟨A19, n19, m19, rfl, g8⟩ := DSl.out g7
                obtain ⟨w7, e7, g9⟩ := DG.out g8
                obtain ⟨A20, n20, m20, rfl, g10⟩ := DSl.out g9
                obtain ⟨w9, e9, g11⟩ := DG.out g10
                obtain ⟨x34, rfl, g12⟩ := DI.out g11
                obtain ⟨w10, e10, g13⟩ := DG.out g12
                obtain ⟨x35, rfl, g14⟩ := DI.out g13
                obtain ⟨rfl, h'⟩ := DNilD.out g14
                exact (hw_safe (Λ := (W_abacistlaw14_ArenaCounts.Λ14 K (W_abacistlaw14_ArenaCounts.l14 K k))) mix _ _ [(0, .int .i64 x33), (1, .slice A18 n18 m18), (5, .pointer p17), (6, .slice A19 n19 m19), (7, .slice A20 n20 m20), (9, .int .i64 x34), (10, .int .i64 x35)] [] H (Eq.mp (by kernel_rfl) h') (obs_seq (obs_seq obs_region rfl (obs_block (obs_loop rfl (fun E D H h => by
                    refine Safe.loop' (W_abacistlaw14_ArenaCounts.l44.L K (W_abacistlaw14_ArenaCounts.l14 K k)) (fun E D H h => ?_) (fun k E D H h => ?_) E D H h
                    · obtain ⟨w0, e0, g1⟩ := DG.out h; obtain ⟨x36, rfl, g2⟩ := DI.out g1; obtain ⟨w1, e1, g3⟩ := DG.out g2; obtain ⟨A21, n21, m21, rfl, g4⟩ := DSl.out g3; obtain ⟨w5, e5, g5⟩ := DG.out g4; obtain ⟨p18, rfl, g6⟩ := DP.out g5; obtain ⟨w6, e6, g7⟩ := DG.out g6; obtain ⟨A22, n22, m22, rfl, g8⟩ := DSl.out g7; obtain ⟨w7, e7, g9⟩ := DG.out g8; obtain ⟨A23, n23, m23, rfl, g10⟩ := DSl.out g9; obtain ⟨w9, e9, g11⟩ := DG.out g10; obtain ⟨x37, rfl, g12⟩ := DI.out g11; obtain ⟨w10, e10, g13⟩ := DG.out g12; obtain ⟨x38, rfl, g14⟩ := DI.out g13; obtain ⟨w15, e15, g15⟩ := DG.out g14; obtain ⟨x39, rfl, g16⟩ := DI.out g15; obtain ⟨rfl, h'⟩ := DNilD.out g16; exact h'
                    · obtain ⟨w0, e0, g1⟩ := DG.out h
                      obtain ⟨x36, rfl, g2⟩ := DI.out g1
                      obtain ⟨w1, e1, g3⟩ := DG.out g2
                      obtain ⟨A21, n21, m21, rfl, g4⟩ := DSl.out g3
                      obtain ⟨w5, e5, g5⟩ := DG.out g4
                      obtain ⟨p18, rfl, g6⟩ := DP.out g5
                      obtain ⟨w6, e6, g7⟩ := DG.out g6
                      obtain ⟨A22, n22, m22, rfl, g8⟩ := DSl.out g7
                      obtain ⟨w7, e7, g9⟩ := DG.out g8
                      obtain ⟨A23, n23, m23, rfl, g10⟩ := DSl.out g9
                      obtain ⟨w9, e9, g11⟩ := DG.out g10
                      obtain ⟨x37, rfl, g12⟩ := DI.out g11
                      obtain ⟨w10, e10, g13⟩ := DG.out g12
                      obtain ⟨x38, rfl, g14⟩ := DI.out g13
                      obtain ⟨w15, e15, g15⟩ := DG.out g14
                      obtain ⟨x39, rfl, g16⟩ := DI.out g15
                      obtain ⟨rfl, h'⟩ := DNilD.out g16
                      exact (hw_safe (Λ := (W_abacistlaw14_ArenaCounts.Λ44 K (W_abacistlaw14_ArenaCounts.l14 K k) (W_abacistlaw14_ArenaCounts.l44 K (W_abacistlaw14_ArenaCounts.l14 K k) k))) mix _ _ [(0, .int .i64 x36), (1, .slice A21 n21 m21), (5, .pointer p18), (6, .slice A22 n22 m22), (7, .slice A23 n23 m23), (9, .int .i64 x37), (10, .int .i64 x38), (15, .int .i64 x39)] [] H (Eq.mp (by kernel_rfl) h') (obs_seq (obs_seq obs_region rfl (obs_cond obs_skip obs_exit)) rfl (obs_seq (obs_block obs_region) rfl obs_region))).weaken (EnvLe.cons e0 (EnvLe.cons e1 (EnvLe.cons e5 (EnvLe.cons e6 (EnvLe.cons e7 (EnvLe.cons e9 (EnvLe.cons e10 (EnvLe.cons e15 (EnvLe.nil _))))))))) (Hp.le_refl _))))) rfl obs_region)).weaken (EnvLe.cons e0 (EnvLe.cons e1 (EnvLe.cons e5 (EnvLe.cons e6 (EnvLe.cons e7 (EnvLe.cons e9 (EnvLe.cons e10 (EnvLe.nil _)))))))) (Hp.le_refl _))) (obs_seq obs_region rfl (obs_cond (obs_seqc obs_region rfl (fun E D H h => by
                obtain ⟨w0, e0, g1⟩ := DG.out h
                obtain ⟨x40, rfl, g2⟩ := DI.out g1
                obtain ⟨w1, e1, g3⟩ := DG.out g2
                obtain ⟨A24, n24, m24, rfl, g4⟩ := DSl.out g3
                obtain ⟨w5, e5, g5⟩ := DG.out g4
                obtain ⟨p19, rfl, g6⟩ := DP.out g5
                obtain ⟨w6, e6, g7⟩ := DG.out g6
                obtain ⟨A25, n25, m25, rfl, g8⟩ := DSl.out g7
                obtain ⟨w7, e7, g9⟩ := DG.out g8
                obtain ⟨A26, n26, m26, rfl, g10⟩ := DSl.out g9
                obtain ⟨w10, e10, g11⟩ := DG.out g10
                obtain ⟨x41, rfl, g12⟩ := DI.out g11
                obtain ⟨rfl, h'⟩ := DNilD.out g12
                exact (hw_safe (Λ := (W_abacistlaw14_ArenaCounts.Λ14 K (W_abacistlaw14_ArenaCounts.l14 K k))) mix _ _ [(0, .int .i64 x40), (1, .slice A24 n24 m24), (5, .pointer p19), (6, .slice A25 n25 m25), (7, .slice A26 n26 m26), (10, .int .i64 x41)] [] H (Eq.mp (by kernel_rfl) h') (obs_seq (obs_seq obs_region rfl (obs_block (obs_loop rfl (fun E D H h => by
                    refine Safe.loop' (W_abacistlaw14_ArenaCounts.l51.L K (W_abacistlaw14_ArenaCounts.l14 K k)) (fun E D H h => ?_) (fun k E D H h => ?_) E D H h
                    · obtain ⟨w0, e0, g1⟩ := DG.out h; obtain ⟨x42, rfl, g2⟩ := DI.out g1; obtain ⟨w1, e1, g3⟩ := DG.out g2; obtain ⟨A27, n27, m27, rfl, g4⟩ := DSl.out g3; obtain ⟨w5, e5, g5⟩ := DG.out g4; obtain ⟨p20, rfl, g6⟩ := DP.out g5; obtain ⟨w6, e6, g7⟩ := DG.out g6; obtain ⟨A28, n28, m28, rfl, g8⟩ := DSl.out g7; obtain ⟨w7, e7, g9⟩ := DG.out g8; obtain ⟨A29, n29, m29, rfl, g10⟩ := DSl.out g9; obtain ⟨w10, e10, g11⟩ := DG.out g10; obtain ⟨x43, rfl, g12⟩ := DI.out g11; obtain ⟨w16, e16, g13⟩ := DG.out g12; obtain ⟨x44, rfl, g14⟩ := DI.out g13; obtain ⟨rfl, h'⟩ := DNilD.out g14; exact h'
                    · obtain ⟨w0, e0, g1⟩ := DG.out h
                      obtain ⟨x42, rfl, g2⟩ := DI.out g1
                      obtain ⟨w1, e1, g3⟩ := DG.out g2
                      obtain ⟨A27, n27, m27, rfl, g4⟩ := DSl.out g3
                      obtain ⟨w5, e5, g5⟩ := DG.out g4
                      obtain ⟨p20, rfl, g6⟩ := DP.out g5
                      obtain ⟨w6, e6, g7⟩ := DG.out g6
                      obtain ⟨A28, n28, m28, rfl, g8⟩ := DSl.out g7
                      obtain ⟨w7, e7, g9⟩ := DG.out g8
                      obtain ⟨A29, n29, m29, rfl, g10⟩ := DSl.out g9
                      obtain ⟨w10, e10, g11⟩ := DG.out g10
                      obtain ⟨x43, rfl, g12⟩ := DI.out g11
                      obtain ⟨w16, e16, g13⟩ := DG.out g12
                      obtain ⟨x44, rfl, g14⟩ := DI.out g13
                      obtain ⟨rfl, h'⟩ := DNilD.out g14
                      exact (hw_safe (Λ := (W_abacistlaw14_ArenaCounts.Λ51 K (W_abacistlaw14_ArenaCounts.l14 K k) (W_abacistlaw14_ArenaCounts.l51 K (W_abacistlaw14_ArenaCounts.l14 K k) k))) mix _ _ [(0, .int .i64 x42), (1, .slice A27 n27 m27), (5, .pointer p20), (6, .slice A28 n28 m28), (7, .slice A29 n29 m29), (10, .int .i64 x43), (16, .int .i64 x44)] [] H (Eq.mp (by kernel_rfl) h') (obs_seq (obs_seq obs_region rfl (obs_cond obs_skip obs_exit)) rfl (obs_seq (obs_block obs_region) rfl obs_region))).weaken (EnvLe.cons e0 (EnvLe.cons e1 (EnvLe.cons e5 (EnvLe.cons e6 (EnvLe.cons e7 (EnvLe.cons e10 (EnvLe.cons e16 (EnvLe.nil _)))))))) (Hp.le_refl _))))) rfl (obs_seq obs_region rfl obs_region))).weaken (EnvLe.cons e0 (EnvLe.cons e1 (EnvLe.cons e5 (EnvLe.cons e6 (EnvLe.cons e7 (EnvLe.cons e10 (EnvLe.nil _))))))) (Hp.le_refl _))) obs_skip)))))))))) rfl (fun E D H h => by
                obtain ⟨w0, e0, g1⟩ := DG.out h
                obtain ⟨x45, rfl, g2⟩ := DI.out g1
                obtain ⟨w1, e1, g3⟩ := DG.out g2
                obtain ⟨A30, n30, m30, rfl, g4⟩ := DSl.out g3
                obtain ⟨w5, e5, g5⟩ := DG.out g4
                obtain ⟨p21, rfl, g6⟩ := DP.out g5
                obtain ⟨w6, e6, g7⟩ := DG.out g6
                obtain ⟨A31, n31, m31, rfl, g8⟩ := DSl.out g7
                obtain ⟨w7, e7, g9⟩ := DG.out g8
                obtain ⟨A32, n32, m32, rfl, g10⟩ := DSl.out g9
                obtain ⟨w8, e8, g11⟩ := DG.out g10
                obtain ⟨x46, rfl, g12⟩ := DI.out g11
                obtain ⟨w9, e9, g13⟩ := DG.out g12
                obtain ⟨x47, rfl, g14⟩ := DI.out g13
                obtain ⟨w10, e10, g15⟩ := DG.out g14
                obtain ⟨x48, rfl, g16⟩ := DI.out g15
                obtain ⟨rfl, h'⟩ := DNilD.out g16
                exact (hw_safe (Λ := (W_abacistlaw14_ArenaCounts.Λ14 K (W_abacistlaw14_ArenaCounts.l14 K k))) mix _ _ [(0, .int .i64 x45), (1, .slice A30 n30 m30), (5, .pointer p21), (6, .slice A31 n31 m31), (7, .slice A32 n32 m32), (8, .int .i64 x46), (9, .int .i64 x47), (10, .int .i64 x48)] [] H (Eq.mp (by kernel_rfl) h') (obs_seq (obs_seq obs_region rfl (obs_block (obs_loop rfl (fun E D H h => by
                    refine Safe.loop' (W_abacistlaw14_ArenaCounts.l57.L K (W_abacistlaw14_ArenaCounts.l14 K k)) (fun E D H h => ?_) (fun k E D H h => ?_) E D H h
                    · obtain ⟨w0, e0, g1⟩ := DG.out h; obtain ⟨x49, rfl, g2⟩ := DI.out g1; obtain ⟨w1, e1, g3⟩ := DG.out g2; obtain ⟨A33, n33, m33, rfl, g4⟩ := DSl.out g3; obtain ⟨w5, e5, g5⟩ := DG.out g4; obtain ⟨p22, rfl, g6⟩ := DP.out g5; obtain ⟨w6, e6, g7⟩ := DG.out g6; obtain ⟨A34, n34, m34, rfl, g8⟩ := DSl.out g7; obtain ⟨w7, e7, g9⟩ := DG.out g8; obtain ⟨A35, n35, m35, rfl, g10⟩ := DSl.out g9; obtain ⟨w8, e8, g11⟩ := DG.out g10; obtain ⟨x50, rfl, g12⟩ := DI.out g11; obtain ⟨w9, e9, g13⟩ := DG.out g12; obtain ⟨x51, rfl, g14⟩ := DI.out g13; obtain ⟨w10, e10, g15⟩ := DG.out g14; obtain ⟨x52, rfl, g16⟩ := DI.out g15; obtain ⟨w17, e17, g17⟩ := DG.out g16; obtain ⟨x53, rfl, g18⟩ := DI.out g17; obtain ⟨rfl, h'⟩ := DNilD.out g18; exact h'
                    · obtain ⟨w0, e0, g1⟩ := DG.out h
                      obtain ⟨x49, rfl, g2⟩ := DI.out g1
                      obtain ⟨w1, e1, g3⟩ := DG.out g2
                      obtain ⟨A33, n33, m33, rfl, g4⟩ := DSl.out g3
                      obtain ⟨w5, e5, g5⟩ := DG.out g4
                      obtain ⟨p22, rfl, g6⟩ := DP.out g5
                      obtain ⟨w6, e6, g7⟩ := DG.out g6
                      obtain ⟨A34, n34, m34, rfl, g8⟩ := DSl.out g7
                      obtain ⟨w7, e7, g9⟩ := DG.out g8
                      obtain ⟨A35, n35, m35, rfl, g10⟩ := DSl.out g9
                      obtain ⟨w8, e8, g11⟩ := DG.out g10
                      obtain ⟨x50, rfl, g12⟩ := DI.out g11
                      obtain ⟨w9, e9, g13⟩ := DG.out g12
                      obtain ⟨x51, rfl, g14⟩ := DI.out g13
                      obtain ⟨w10, e10, g15⟩ := DG.out g14
                      obtain ⟨x52, rfl, g16⟩ := DI.out g15
                      obtain ⟨w17, e17, g17⟩ := DG.out g16
                      obtain ⟨x53, rfl, g18⟩ := DI.out g17
                      obtain ⟨rfl, h'⟩ := DNilD.out g18
                      exact (hw_safe (Λ := (W_abacistlaw14_ArenaCounts.Λ57 K (W_abacistlaw14_ArenaCounts.l14 K k) (W_abacistlaw14_ArenaCounts.l57 K (W_abacistlaw14_ArenaCounts.l14 K k) k))) mix _ _ [(0, .int .i64 x49), (1, .slice A33 n33 m33), (5, .pointer p22), (6, .slice A34 n34 m34), (7, .slice A35 n35 m35), (8, .int .i64 x50), (9, .int .i64 x51), (10, .int .i64 x52), (17, .int .i64 x53)] [] H (Eq.mp (by kernel_rfl) h') (obs_seq (obs_seq obs_region rfl (obs_cond obs_skip obs_exit)) rfl (obs_seq (obs_block (obs_seq obs_region rfl (obs_cond (obs_seq obs_region rfl obs_ret) obs_skip))) rfl obs_region))).weaken (EnvLe.cons e0 (EnvLe.cons e1 (EnvLe.cons e5 (EnvLe.cons e6 (EnvLe.cons e7 (EnvLe.cons e8 (EnvLe.cons e9 (EnvLe.cons e10 (EnvLe.cons e17 (EnvLe.nil _)))))))))) (Hp.le_refl _))))) rfl (obs_seq obs_region rfl (obs_cond (obs_seq obs_region rfl obs_ret) obs_skip)))).weaken (EnvLe.cons e0 (EnvLe.cons e1 (EnvLe.cons e5 (EnvLe.cons e6 (EnvLe.cons e7 (EnvLe.cons e8 (EnvLe.cons e9 (EnvLe.cons e10 (EnvLe.nil _))))))))) (Hp.le_refl _))))) rfl obs_region))).weaken (EnvLe.cons e0 (EnvLe.cons e1 (EnvLe.cons e5 (EnvLe.cons e6 (EnvLe.cons e7 (EnvLe.cons e8 (EnvLe.cons e9 (EnvLe.cons e10 (EnvLe.nil _))))))))) (Hp.le_refl _))))) rfl (obs_seq obs_region rfl obs_ret))))))))).weaken (EnvLe.cons e0 (EnvLe.cons e1 (EnvLe.nil _))) (Hp.le_refl _))))))

-- abacistlaw14.awake
def W_abacistlaw14_awake (H : Hp) (K : Value → Hp → Prop) : Prop :=
  HCalls Try.prog 16 #[.int .i64 (10 : Int)] H fun v1 H1 => DP v1 fun p1 => BIf p1.isNone (K (.bool false) H1) (HCalls Try.prog 17 #[.pointer p1, .int .i64 (6 : Int)] H1 fun v2 H2 => DTup v2 fun l1 => DCons l1 fun v3 l2 => DP v3 fun p2 => DCons l2 fun v4 l3 => DI .i64 v4 fun x1 => DNil l3 (HCalls Try.prog 17 #[.pointer p1, .int .i64 (5 : Int)] H2 fun v5 H3 => DTup v5 fun l4 => DCons l4 fun v6 l5 => DP v6 fun p3 => DCons l5 fun v7 l6 => DI .i64 v7 fun x2 => DNil l6 (BIf (!p2.isNone) (BIf (x1 == (0 : Int)) (HCalls Try.prog 30 #[.pointer p2] H3 fun v8 H4 => DI .i64 v8 fun x3 => BIf (x3 == (6 : Int)) (BIf (x2 == (6 : Int)) (NN p1 fun a1 => HCalls Try.prog 33 #[.pointer (some (a1.add 0))] H4 fun v9 H5 => DI .i64 v9 fun x4 => K (.bool (x4 == (6 : Int))) H5) (K (.bool false) H4)) (K (.bool false) H4)) (K (.bool false) H3)) (K (.bool false) H3))))
def W_abacistlaw14_awake.Λ (_ : Value → Hp → Prop) : Cuts := Cuts.none (fun _ => none)
theorem W_abacistlaw14_awake.ok (H : Hp) (K : Value → Hp → Prop) (h : W_abacistlaw14_awake H K) : HCalls Try.prog 15 #[] H K :=
  hcalls Try.func15 rfl (Nat.le_of_ble_eq_true rfl) (hw_safe (Λ := Cuts.none (fun _ => none)) mix _ _ _ _ _ (Eq.mp (by kernel_rfl) h) (obs_none _ _ _ _ _))

end Go.Proofs.Ytdjdielefolfbaa.W
