import Derived.Test.YtnknippcbecmeaaGreatDoorProg
import Derived.LaidEql
import Derived.MapKept
import Derived.Test.YtnknippcbecmeaaGreatDoorPkExecAll2
set_option maxRecDepth 100000
set_option linter.unusedVariables false
set_option linter.unusedSimpArgs false
set_option linter.unnecessarySimpa false
set_option linter.unusedSectionVars false
section
/- Formulas of functions, printed by wip/tools/hwp.py. -/
namespace Go.Proofs.YtnknippcbecmeaaGreatDoor.W
open Go Go.Hw
theorem mixWtwid : Tryz.prog.follows .mixedOrders = true := by kernel_rfl
def W_twid_Share (x1 : Int) (H : Hp) (K : Value → Hp → Prop) : Prop :=
  BIf (decide (x1 < (0 : Int))) (K (.tuple #[.int .u64 0, .int .i64 1]) H) (BIf (decide (x1 > (32 : Int))) (K (.tuple #[.int .u64 0, .int .i64 1]) H) ((0 ≤ (IntKind.u64.wrap x1) ∧ HCalls Tryz.prog 171 #[.int .u64 (shlI .u64 (1 : Int) (IntKind.u64.wrap x1))] H fun v1 H1 => DTup v1 fun l1 => DCons l1 fun v2 l2 => DI .u64 v2 fun x2 => DCons l2 fun v3 l3 => DI .i64 v3 fun x3 => DNil l3 (K (.tuple #[.int .u64 x2, .int .i64 x3]) H1))))
theorem W_twid_Share.ok (x1 : Int) (H : Hp) (K : Value → Hp → Prop) (h : W_twid_Share x1 H K) : HCalls Tryz.prog 141 #[.int .i64 x1] H K :=
  hcalls Tryz.func141 rfl (Nat.le_of_ble_eq_true rfl) (hw_safe (Λ := Cuts.none (fun _ => none)) mixWtwid _ _ _ _ _ (Eq.mp (by kernel_rfl) h) (obs_none _ _ _ _ _))
def W_twid_Table (x1 : Int) (x2 : Int) (H : Hp) (K : Value → Hp → Prop) : Prop :=
  HCalls Tryz.prog 197 #[.int .i64 x1, .int .i64 x2] H fun v1 H1 => DTup v1 fun l1 => DCons l1 fun v2 l2 => DI .u64 v2 fun x3 => DCons l2 fun v3 l3 => DI .i64 v3 fun x4 => DNil l3 (BIf (x4 != (0 : Int)) (K (.tuple #[.slice none 0 0, .int .i64 x4]) H1) (BIf (decide (x1 > (20 : Int))) (K (.tuple #[.slice none 0 0, .int .i64 14]) H1) ((0 ≤ (IntKind.u64.wrap x1) ∧ (0 ≤ (1 : Int) ∧ HCalls Tryz.prog 198 #[.int .u64 x3, .int .i64 (if (1 : Int) > (shrI .i64 (shlI .i64 (1 : Int) (IntKind.u64.wrap x1)) (1 : Int)) then (1 : Int) else (shrI .i64 (shlI .i64 (1 : Int) (IntKind.u64.wrap x1)) (1 : Int)))] H1 fun v4 H2 => DTup v4 fun l4 => DCons l4 fun v5 l5 => DSl v5 fun A1 n1 m1 => DCons l5 fun v6 l6 => DI .i64 v6 fun x5 => DNil l6 (K (.tuple #[.slice A1 n1 m1, .int .i64 x5]) H2))))))
theorem W_twid_Table.ok (x1 : Int) (x2 : Int) (H : Hp) (K : Value → Hp → Prop) (h : W_twid_Table x1 x2 H K) : HCalls Tryz.prog 167 #[.int .i64 x1, .int .i64 x2] H K :=
  hcalls Tryz.func167 rfl (Nat.le_of_ble_eq_true rfl) (hw_safe (Λ := Cuts.none (fun _ => none)) mixWtwid _ _ _ _ _ (Eq.mp (by kernel_rfl) h) (obs_none _ _ _ _ _))
def W_twid_Root (x1 : Int) (x2 : Int) (H : Hp) (K : Value → Hp → Prop) : Prop :=
  BIf (decide (x1 < (0 : Int))) (K (.tuple #[.int .u64 0, .int .i64 1]) H) (BIf (decide (x1 > (32 : Int))) (K (.tuple #[.int .u64 0, .int .i64 1]) H) (BIf (x2 == (0 : Int)) (HCalls Tryz.prog 213 #[.int .i64 x1] H fun v1 H1 => DTup v1 fun l1 => DCons l1 fun v2 l2 => DI .u64 v2 fun x3 => DCons l2 fun v3 l3 => DI .i64 v3 fun x4 => DNil l3 (K (.tuple #[.int .u64 x3, .int .i64 x4]) H1)) (BIf (x2 == (1 : Int)) (HCalls Tryz.prog 214 #[.int .i64 x1] H fun v4 H2 => DTup v4 fun l4 => DCons l4 fun v5 l5 => DI .u64 v5 fun x5 => DCons l5 fun v6 l6 => DI .i64 v6 fun x6 => DNil l6 (K (.tuple #[.int .u64 x5, .int .i64 x6]) H2)) (K (.tuple #[.int .u64 0, .int .i64 18]) H))))
theorem W_twid_Root.ok (x1 : Int) (x2 : Int) (H : Hp) (K : Value → Hp → Prop) (h : W_twid_Root x1 x2 H K) : HCalls Tryz.prog 197 #[.int .i64 x1, .int .i64 x2] H K :=
  hcalls Tryz.func197 rfl (Nat.le_of_ble_eq_true rfl) (hw_safe (Λ := Cuts.none (fun _ => none)) mixWtwid _ _ _ _ _ (Eq.mp (by kernel_rfl) h) (obs_none _ _ _ _ _))
def W_twid_Tile.l15 (K : Value → Hp → Prop) (R10 : Option Addr → Nat → Nat → Addr → Int → Option Addr → Nat → Nat → Int → Int → Hp → Prop) : Nat → Option Addr → Nat → Nat → Addr → Int → Option Addr → Nat → Nat → Int → Int → Int → Int → Option Addr → Nat → Nat → Int → Int → Hp → Prop
  | 0, _, _, _, _, _, _, _, _, _, _, _, _, _, _, _, _, _, _ => False
  | k + 1, A5, n7, m5, a2, x21, A6, n8, m6, x22, x23, x24, x25, A7, n9, m7, x26, x27, H =>
    let R15 := W_twid_Tile.l15 K R10 k
    BIf (decide (x27 < x26)) (ixI x27 n9 (NN A7 fun a3 => Ld H (a3.add (x27.toNat * 1)) fun v16 => DI .u64 v16 fun x28 => HCalls Tryz.prog 215 #[.int .u64 x28, .int .u64 x23] H fun v17 H8 => DI .u64 v17 fun x29 => Nw H8 (.row [.int .u64 x29] 60 1) fun b2 H9 => AppK Tryz.prog 60 (.slice A6 n8 m6) (.slice (some ⟨b2, 0, none⟩) 1 1) H9 fun v18 H10 => DSl v18 fun A8 n10 m8 => HCalls Tryz.prog 215 #[.int .u64 x23, .int .u64 x22] H10 fun v19 H11 => DI .u64 v19 fun x30 => R15 A5 n7 m5 a2 x21 A8 n10 m8 x22 x30 x24 x25 A7 n9 m7 x26 (IntKind.i64.wrap (x27 + (1 : Int))) H11)) (R10 A5 n7 m5 a2 x21 A6 n8 m6 x24 (IntKind.i64.wrap (x25 + (1 : Int))) H)
def W_twid_Tile.l10 (K : Value → Hp → Prop) : Nat → Option Addr → Nat → Nat → Addr → Int → Option Addr → Nat → Nat → Int → Int → Hp → Prop
  | 0, _, _, _, _, _, _, _, _, _, _, _ => False
  | k + 1, A3, n3, m3, a1, x12, A4, n4, m4, x13, x14, H =>
    let R10 := W_twid_Tile.l10 K k
    BIf (decide (x14 < x13)) (Ld H (a1.add 2) fun v10 => DI .i64 v10 fun x15 => HCalls Tryz.prog 203 #[.int .u64 x12, .int .u64 (IntKind.u64.wrap (IntKind.i64.wrap (x15 + x14)))] H fun v11 H6 => DI .u64 v11 fun x16 => Ld H6 (a1.add 3) fun v12 => DI .i64 v12 fun x17 => HCalls Tryz.prog 203 #[.int .u64 x16, .int .u64 (IntKind.u64.wrap x17)] H6 fun v13 H7 => DI .u64 v13 fun x18 => Ld H7 ((a1.add 0).add 1) fun v14 => DI .i64 v14 fun x19 => Ld H7 ((a1.add 0).add 1) fun v15 => DI .i64 v15 fun x20 => slB n3 m3 (some (IntKind.i64.wrap (x14 * x19))) (some (IntKind.i64.wrap ((IntKind.i64.wrap (x14 + (1 : Int))) * x20))) fun n5 n6 => (∃ k, W_twid_Tile.l15 K R10 k A3 n3 m3 a1 x12 A4 n4 m4 x16 x18 x13 x14 (slA A3 m3 n5 1) (n6 - n5) (m3 - n5) ((n6 - n5 : Nat) : Int) (0 : Int) H7)) (K (.tuple #[.slice A4 n4 m4, .int .i64 0]) H)
def W_twid_Tile (A1 : Option Addr) (n1 : Nat) (m1 : Nat) (x1 : Int) (x2 : Int) (x3 : Int) (x4 : Int) (x5 : Int) (x6 : Int) (H : Hp) (K : Value → Hp → Prop) : Prop :=
  Nw H (.obj (.cells #[.int .i64 x1, .int .i64 x2, .int .i64 x3, .int .i64 x4] 297)) fun b1 H1 => HCalls Tryz.prog 197 #[.int .i64 x5, .int .i64 x6] H1 fun v1 H2 => DTup v1 fun l1 => DCons l1 fun v2 l2 => DI .u64 v2 fun x7 => DCons l2 fun v3 l3 => DI .i64 v3 fun x8 => DNil l3 (BIf (x8 != (0 : Int)) (K (.tuple #[.slice none 0 0, .int .i64 x8]) H2) (LdA H2 ((⟨b1, 0, none⟩ : Addr).add 0) 2 fun l4 => HCalls Tryz.prog 132 #[.agg l4.toArray] H2 fun v4 H3 => DB v4 fun c1 => BIf (!c1) (K (.tuple #[.slice none 0 0, .int .i64 19]) H3) (Ld H3 (((⟨b1, 0, none⟩ : Addr).add 0).add 0) fun v5 => DI .i64 v5 fun x9 => Ld H3 (((⟨b1, 0, none⟩ : Addr).add 0).add 1) fun v6 => DI .i64 v6 fun x10 => BIf (((n1 : Nat) : Int) != (IntKind.i64.wrap (x9 * x10))) (K (.tuple #[.slice none 0 0, .int .i64 19]) H3) (LdA H3 (⟨b1, 0, none⟩ : Addr) 4 fun l5 => HCalls Tryz.prog 219 #[.agg l5.toArray] H3 fun v7 H4 => DB v7 fun c2 => BIf (!c2) (K (.tuple #[.slice none 0 0, .int .i64 2]) H4) (MkS Tryz.prog 60 (0 : Int) ((n1 : Nat) : Int) H4 fun v8 H5 => DSl v8 fun A2 n2 m2 => Ld H5 (((⟨b1, 0, none⟩ : Addr).add 0).add 0) fun v9 => DI .i64 v9 fun x11 => (∃ k, W_twid_Tile.l10 K k A1 n1 m1 (⟨b1, 0, none⟩ : Addr) x7 A2 n2 m2 x11 (0 : Int) H5))))))
def W_twid_Tile.l10.L (K : Value → Hp → Prop) (k : Nat) : Mid := fun E D H =>
  DG (E.get? 0) fun w0 => DSl w0 fun A3 n3 m3 => eN E 5 fun a1 => eI E 10 .u64 fun x12 => DG (E.get? 12) fun w12 => DSl w12 fun A4 n4 m4 => eI E 54 .i64 fun x13 => eI E 55 .i64 fun x14 => DNilD D (W_twid_Tile.l10 K k A3 n3 m3 a1 x12 A4 n4 m4 x13 x14 H)
def W_twid_Tile.l15.L (K : Value → Hp → Prop) (R10 : Option Addr → Nat → Nat → Addr → Int → Option Addr → Nat → Nat → Int → Int → Hp → Prop) (k : Nat) : Mid := fun E D H =>
  DG (E.get? 0) fun w0 => DSl w0 fun A5 n7 m5 => eN E 5 fun a2 => eI E 10 .u64 fun x21 => DG (E.get? 12) fun w12 => DSl w12 fun A6 n8 m6 => eI E 14 .u64 fun x22 => eI E 15 .u64 fun x23 => eI E 54 .i64 fun x24 => eI E 55 .i64 fun x25 => DG (E.get? 82) fun w82 => DSl w82 fun A7 n9 m7 => eI E 83 .i64 fun x26 => eI E 84 .i64 fun x27 => DNilD D (W_twid_Tile.l15 K R10 k A5 n7 m5 a2 x21 A6 n8 m6 x22 x23 x24 x25 A7 n9 m7 x26 x27 H)
def W_twid_Tile.Λ15 (_ : Value → Hp → Prop) (_R10 : Option Addr → Nat → Nat → Addr → Int → Option Addr → Nat → Nat → Int → Int → Hp → Prop) (_R15 : Option Addr → Nat → Nat → Addr → Int → Option Addr → Nat → Nat → Int → Int → Int → Int → Option Addr → Nat → Nat → Int → Int → Hp → Prop) : Cuts := Cuts.none (fun _ => none)
def W_twid_Tile.Λ10 (K : Value → Hp → Prop) (R10 : Option Addr → Nat → Nat → Addr → Int → Option Addr → Nat → Nat → Int → Int → Hp → Prop) : Cuts := ⟨fun i => none, fun i => match Nat.beq i 15 with | true => some (fun E D H => ∃ k, W_twid_Tile.l15.L K R10 k E D H) | false => none, (fun _ => none)⟩
def W_twid_Tile.Λ (K : Value → Hp → Prop) : Cuts := ⟨fun i => none, fun i => match Nat.beq i 10 with | true => some (fun E D H => ∃ k, W_twid_Tile.l10.L K k E D H) | false => none, (fun _ => none)⟩
theorem W_twid_Tile.ok (A1 : Option Addr) (n1 : Nat) (m1 : Nat) (x1 : Int) (x2 : Int) (x3 : Int) (x4 : Int) (x5 : Int) (x6 : Int) (H : Hp) (K : Value → Hp → Prop) (h : W_twid_Tile A1 n1 m1 x1 x2 x3 x4 x5 x6 H K) : HCalls Tryz.prog 200 #[.slice A1 n1 m1, .agg #[.int .i64 x1, .int .i64 x2, .int .i64 x3, .int .i64 x4], .int .i64 x5, .int .i64 x6] H K :=
  hcalls Tryz.func200 rfl (Nat.le_of_ble_eq_true rfl) (hw_safe (Λ := (W_twid_Tile.Λ K)) mixWtwid _ _ _ _ _ (Eq.mp (by kernel_rfl) h) (obs_seq obs_region rfl (obs_seq obs_region rfl (obs_seq (obs_block (obs_seq obs_region rfl (obs_cond (obs_seq obs_region rfl obs_ret) (obs_seq obs_region rfl (obs_cond (obs_seq obs_region rfl obs_ret) (obs_seq obs_region rfl (obs_cond (obs_seq obs_region rfl obs_ret) obs_skip))))))) rfl (obs_seq obs_region rfl (obs_seq (obs_seq obs_region rfl (obs_block (obs_loop rfl (fun E D H h => by
      refine Safe.loop' (W_twid_Tile.l10.L K) (fun E D H h => ?_) (fun k E D H h => ?_) E D H h
      · obtain ⟨w0, e0, g1⟩ := DG.out h; obtain ⟨A3, n3, m3, rfl, g2⟩ := DSl.out g1; obtain ⟨w5, e5, g3⟩ := DG.out g2; obtain ⟨pw5, rfl, g4⟩ := DP.out g3; obtain ⟨a1, rfl, g5⟩ := NN.out g4; obtain ⟨w10, e10, g6⟩ := DG.out g5; obtain ⟨x12, rfl, g7⟩ := DI.out g6; obtain ⟨w12, e12, g8⟩ := DG.out g7; obtain ⟨A4, n4, m4, rfl, g9⟩ := DSl.out g8; obtain ⟨w54, e54, g10⟩ := DG.out g9; obtain ⟨x13, rfl, g11⟩ := DI.out g10; obtain ⟨w55, e55, g12⟩ := DG.out g11; obtain ⟨x14, rfl, g13⟩ := DI.out g12; obtain ⟨rfl, h'⟩ := DNilD.out g13; exact h'
      · obtain ⟨w0, e0, g1⟩ := DG.out h
        obtain ⟨A3, n3, m3, rfl, g2⟩ := DSl.out g1
        obtain ⟨a1, e5, g5⟩ := GN g2; obtain ⟨x12, e10, g7⟩ := GI g5; obtain ⟨w12, e12, g8⟩ := DG.out g7
        obtain ⟨A4, n4, m4, rfl, g9⟩ := DSl.out g8
        obtain ⟨x13, e54, g11⟩ := GI g9; obtain ⟨x14, e55, g13⟩ := GI g11; obtain ⟨rfl, h'⟩ := DNilD.out g13
        exact (hw_safe (Λ := (W_twid_Tile.Λ10 K (W_twid_Tile.l10 K k))) mixWtwid _ _ [(0, .slice A3 n3 m3), (5, .pointer (some a1)), (10, .int .u64 x12), (12, .slice A4 n4 m4), (54, .int .i64 x13), (55, .int .i64 x14)] [] H (Eq.mp (by kernel_rfl) h') (obs_seq obs_region rfl (obs_seq (obs_cond obs_skip obs_exit) rfl (obs_seq (obs_block (obs_seq obs_region rfl (obs_seq obs_region rfl (obs_seq obs_region rfl (obs_seq obs_region rfl (obs_block (obs_loop rfl (fun E D H h => by
            refine Safe.loop' (W_twid_Tile.l15.L K (W_twid_Tile.l10 K k)) (fun E D H h => ?_) (fun k E D H h => ?_) E D H h
            · obtain ⟨w0, e0, g1⟩ := DG.out h; obtain ⟨A5, n7, m5, rfl, g2⟩ := DSl.out g1; obtain ⟨w5, e5, g3⟩ := DG.out g2; obtain ⟨pw5, rfl, g4⟩ := DP.out g3; obtain ⟨a2, rfl, g5⟩ := NN.out g4; obtain ⟨w10, e10, g6⟩ := DG.out g5; obtain ⟨x21, rfl, g7⟩ := DI.out g6; obtain ⟨w12, e12, g8⟩ := DG.out g7; obtain ⟨A6, n8, m6, rfl, g9⟩ := DSl.out g8; obtain ⟨w14, e14, g10⟩ := DG.out g9; obtain ⟨x22, rfl, g11⟩ := DI.out g10; obtain ⟨w15, e15, g12⟩ := DG.out g11; obtain ⟨x23, rfl, g13⟩ := DI.out g12; obtain ⟨w54, e54, g14⟩ := DG.out g13; obtain ⟨x24, rfl, g15⟩ := DI.out g14; obtain ⟨w55, e55, g16⟩ := DG.out g15; obtain ⟨x25, rfl, g17⟩ := DI.out g16; obtain ⟨w82, e82, g18⟩ := DG.out g17; obtain ⟨A7, n9, m7, rfl, g19⟩ := DSl.out g18; obtain ⟨w83, e83, g20⟩ := DG.out g19; obtain ⟨x26, rfl, g21⟩ := DI.out g20; obtain ⟨w84, e84, g22⟩ := DG.out g21; obtain ⟨x27, rfl, g23⟩ := DI.out g22; obtain ⟨rfl, h'⟩ := DNilD.out g23; exact h'
            · obtain ⟨w0, e0, g1⟩ := DG.out h
              obtain ⟨A5, n7, m5, rfl, g2⟩ := DSl.out g1
              obtain ⟨a2, e5, g5⟩ := GN g2; obtain ⟨x21, e10, g7⟩ := GI g5; obtain ⟨w12, e12, g8⟩ := DG.out g7
              obtain ⟨A6, n8, m6, rfl, g9⟩ := DSl.out g8
              obtain ⟨x22, e14, g11⟩ := GI g9; obtain ⟨x23, e15, g13⟩ := GI g11; obtain ⟨x24, e54, g15⟩ := GI g13; obtain ⟨x25, e55, g17⟩ := GI g15; obtain ⟨w82, e82, g18⟩ := DG.out g17
              obtain ⟨A7, n9, m7, rfl, g19⟩ := DSl.out g18
              obtain ⟨x26, e83, g21⟩ := GI g19; obtain ⟨x27, e84, g23⟩ := GI g21; obtain ⟨rfl, h'⟩ := DNilD.out g23
              exact (hw_safe (Λ := (W_twid_Tile.Λ15 K (W_twid_Tile.l10 K k) (W_twid_Tile.l15 K (W_twid_Tile.l10 K k) k))) mixWtwid _ _ [(0, .slice A5 n7 m5), (5, .pointer (some a2)), (10, .int .u64 x21), (12, .slice A6 n8 m6), (14, .int .u64 x22), (15, .int .u64 x23), (54, .int .i64 x24), (55, .int .i64 x25), (82, .slice A7 n9 m7), (83, .int .i64 x26), (84, .int .i64 x27)] [] H (Eq.mp (by kernel_rfl) h') (obs_seq obs_region rfl (obs_seq (obs_cond obs_skip obs_exit) rfl (obs_seq (obs_block (obs_seq obs_region rfl (obs_seq obs_region rfl obs_region))) rfl obs_region)))).weaken (EnvLe.cons e0 (EnvLe.cons e5 (EnvLe.cons e10 (EnvLe.cons e12 (EnvLe.cons e14 (EnvLe.cons e15 (EnvLe.cons e54 (EnvLe.cons e55 (EnvLe.cons e82 (EnvLe.cons e83 (EnvLe.cons e84 (EnvLe.nil _)))))))))))) (Hp.le_refl _))))))))) rfl obs_region)))).weaken (EnvLe.cons e0 (EnvLe.cons e5 (EnvLe.cons e10 (EnvLe.cons e12 (EnvLe.cons e54 (EnvLe.cons e55 (EnvLe.nil _))))))) (Hp.le_refl _))))) rfl (obs_seq obs_region rfl obs_ret)))))))
def W_twid_Scale.l3 (K : Value → Hp → Prop) : Nat → Int → Option Addr → Nat → Nat → Option Addr → Nat → Nat → Int → Int → Hp → Prop
  | 0, _, _, _, _, _, _, _, _, _, _ => False
  | k + 1, x2, A3, n3, m3, A4, n4, m4, x3, x4, H =>
    let R3 := W_twid_Scale.l3 K k
    BIf (decide (x4 < x3)) (ixI x4 n4 (NN A4 fun a1 => Ld H (a1.add (x4.toNat * 1)) fun v2 => DI .u64 v2 fun x5 => HCalls Tryz.prog 215 #[.int .u64 x5, .int .u64 x2] H fun v3 H2 => DI .u64 v3 fun x6 => ixI x4 n3 (NN A3 fun a2 => St H2 ((a2.add (x4.toNat * 1)).add 0) (.int .u64 x6) fun H3 => R3 x2 A3 n3 m3 A4 n4 m4 x3 (IntKind.i64.wrap (x4 + (1 : Int))) H3))) (K (.slice A3 n3 m3) H)
def W_twid_Scale (A1 : Option Addr) (n1 : Nat) (m1 : Nat) (x1 : Int) (H : Hp) (K : Value → Hp → Prop) : Prop :=
  MkS Tryz.prog 60 ((n1 : Nat) : Int) ((n1 : Nat) : Int) H fun v1 H1 => DSl v1 fun A2 n2 m2 => (∃ k, W_twid_Scale.l3 K k x1 A2 n2 m2 A1 n1 m1 ((n1 : Nat) : Int) (0 : Int) H1)
def W_twid_Scale.l3.L (K : Value → Hp → Prop) (k : Nat) : Mid := fun E D H =>
  eI E 1 .u64 fun x2 => DG (E.get? 5) fun w5 => DSl w5 fun A3 n3 m3 => DG (E.get? 11) fun w11 => DSl w11 fun A4 n4 m4 => eI E 12 .i64 fun x3 => eI E 13 .i64 fun x4 => DNilD D (W_twid_Scale.l3 K k x2 A3 n3 m3 A4 n4 m4 x3 x4 H)
def W_twid_Scale.Λ3 (_ : Value → Hp → Prop) (_R3 : Int → Option Addr → Nat → Nat → Option Addr → Nat → Nat → Int → Int → Hp → Prop) : Cuts := Cuts.none (fun _ => none)
def W_twid_Scale.Λ (K : Value → Hp → Prop) : Cuts := ⟨fun i => none, fun i => match Nat.beq i 3 with | true => some (fun E D H => ∃ k, W_twid_Scale.l3.L K k E D H) | false => none, (fun _ => none)⟩
theorem W_twid_Scale.ok (A1 : Option Addr) (n1 : Nat) (m1 : Nat) (x1 : Int) (H : Hp) (K : Value → Hp → Prop) (h : W_twid_Scale A1 n1 m1 x1 H K) : HCalls Tryz.prog 201 #[.slice A1 n1 m1, .int .u64 x1] H K :=
  hcalls Tryz.func201 rfl (Nat.le_of_ble_eq_true rfl) (hw_safe (Λ := (W_twid_Scale.Λ K)) mixWtwid _ _ _ _ _ (Eq.mp (by kernel_rfl) h) (obs_seq obs_region rfl (obs_seq obs_region rfl (obs_seq (obs_seq obs_region rfl (obs_block (obs_loop rfl (fun E D H h => by
      refine Safe.loop' (W_twid_Scale.l3.L K) (fun E D H h => ?_) (fun k E D H h => ?_) E D H h
      · obtain ⟨w1, e1, g1⟩ := DG.out h; obtain ⟨x2, rfl, g2⟩ := DI.out g1; obtain ⟨w5, e5, g3⟩ := DG.out g2; obtain ⟨A3, n3, m3, rfl, g4⟩ := DSl.out g3; obtain ⟨w11, e11, g5⟩ := DG.out g4; obtain ⟨A4, n4, m4, rfl, g6⟩ := DSl.out g5; obtain ⟨w12, e12, g7⟩ := DG.out g6; obtain ⟨x3, rfl, g8⟩ := DI.out g7; obtain ⟨w13, e13, g9⟩ := DG.out g8; obtain ⟨x4, rfl, g10⟩ := DI.out g9; obtain ⟨rfl, h'⟩ := DNilD.out g10; exact h'
      · obtain ⟨x2, e1, g2⟩ := GI h
        obtain ⟨w5, e5, g3⟩ := DG.out g2
        obtain ⟨A3, n3, m3, rfl, g4⟩ := DSl.out g3
        obtain ⟨w11, e11, g5⟩ := DG.out g4
        obtain ⟨A4, n4, m4, rfl, g6⟩ := DSl.out g5
        obtain ⟨x3, e12, g8⟩ := GI g6; obtain ⟨x4, e13, g10⟩ := GI g8; obtain ⟨rfl, h'⟩ := DNilD.out g10
        exact (hw_safe (Λ := (W_twid_Scale.Λ3 K (W_twid_Scale.l3 K k))) mixWtwid _ _ [(1, .int .u64 x2), (5, .slice A3 n3 m3), (11, .slice A4 n4 m4), (12, .int .i64 x3), (13, .int .i64 x4)] [] H (Eq.mp (by kernel_rfl) h') (obs_seq obs_region rfl (obs_seq (obs_cond obs_skip obs_exit) rfl (obs_seq (obs_block (obs_seq obs_region rfl obs_region)) rfl obs_region)))).weaken (EnvLe.cons e1 (EnvLe.cons e5 (EnvLe.cons e11 (EnvLe.cons e12 (EnvLe.cons e13 (EnvLe.nil _)))))) (Hp.le_refl _))))) rfl (obs_seq obs_region rfl obs_ret)))))
def W_twid_reaches (x1 : Int) (x2 : Int) (x3 : Int) (x4 : Int) (H : Hp) (K : Value → Hp → Prop) : Prop :=
  Nw H (.obj (.cells #[.int .i64 x1, .int .i64 x2, .int .i64 x3, .int .i64 x4] 297)) fun b1 H1 => Ld H1 ((⟨b1, 0, none⟩ : Addr).add 2) fun v1 => DI .i64 v1 fun x5 => HCalls Tryz.prog 232 #[.int .i64 x5] H1 fun v2 H2 => DB v2 fun c1 => BIf c1 (Ld H2 ((⟨b1, 0, none⟩ : Addr).add 3) fun v3 => DI .i64 v3 fun x6 => HCalls Tryz.prog 232 #[.int .i64 x6] H2 fun v4 H3 => DB v4 fun c2 => BIf c2 (Ld H3 (((⟨b1, 0, none⟩ : Addr).add 0).add 0) fun v5 => DI .i64 v5 fun x7 => Ld H3 ((⟨b1, 0, none⟩ : Addr).add 2) fun v6 => DI .i64 v6 fun x8 => BIf (decide ((IntKind.i64.wrap (x7 - (1 : Int))) ≤ (IntKind.i64.wrap ((4294967295 : Int) - x8)))) (Ld H3 (((⟨b1, 0, none⟩ : Addr).add 0).add 1) fun v7 => DI .i64 v7 fun x9 => Ld H3 ((⟨b1, 0, none⟩ : Addr).add 3) fun v8 => DI .i64 v8 fun x10 => K (.bool (decide ((IntKind.i64.wrap (x9 - (1 : Int))) ≤ (IntKind.i64.wrap ((4294967295 : Int) - x10))))) H3) (K (.bool false) H3)) (K (.bool false) H3)) (K (.bool false) H2)
theorem W_twid_reaches.ok (x1 : Int) (x2 : Int) (x3 : Int) (x4 : Int) (H : Hp) (K : Value → Hp → Prop) (h : W_twid_reaches x1 x2 x3 x4 H K) : HCalls Tryz.prog 219 #[.agg #[.int .i64 x1, .int .i64 x2, .int .i64 x3, .int .i64 x4]] H K :=
  hcalls Tryz.func219 rfl (Nat.le_of_ble_eq_true rfl) (hw_safe (Λ := Cuts.none (fun _ => none)) mixWtwid _ _ _ _ _ (Eq.mp (by kernel_rfl) h) (obs_none _ _ _ _ _))
def W_twid_inside (x1 : Int) (H : Hp) (K : Value → Hp → Prop) : Prop :=
  BIf (decide (x1 ≥ (0 : Int))) (K (.bool (decide (x1 ≤ (4294967295 : Int)))) H) (K (.bool false) H)
theorem W_twid_inside.ok (x1 : Int) (H : Hp) (K : Value → Hp → Prop) (h : W_twid_inside x1 H K) : HCalls Tryz.prog 232 #[.int .i64 x1] H K :=
  hcalls Tryz.func232 rfl (Nat.le_of_ble_eq_true rfl) (hw_safe (Λ := Cuts.none (fun _ => none)) mixWtwid _ _ _ _ _ (Eq.mp (by kernel_rfl) h) (obs_none _ _ _ _ _))
end Go.Proofs.YtnknippcbecmeaaGreatDoor.W
end
section
/- root, twid: roots, their powers; words scaled, and by twiddles. -/
namespace Go.Proofs.YtnknippcbecmeaaGreatDoor.Ker
open Go Go.Hw W Shp Gol Fft
theorem pow_val (a n : Nat) : a ^ n % 18446744069414584321 = (pw (zp a) n).val := congrArg Fin.val (zp_pow a n)
theorem mul_val (x y : Zp) : x.val * y.val % 18446744069414584321 = (x * y).val := (Fin.val_mul x y).symm
theorem val_lt (x : Zp) : x.val < 2 ^ 64 := by have := x.isLt; omega
theorem mulw_val (x : UInt64) (y : Zp) : x.toNat * y.val % 18446744069414584321 = (zw x * y).val := by
  rw [← mul_val]
  show _ = x.toNat % 18446744069414584321 * y.val % 18446744069414584321
  rw [mod_mul_l]
theorem root_ok {k : Nat} (hk : k ≤ 32) (H : Hp) : HCalls Tryz.prog 225 #[.int .i64 (k : Int)] H (RetE (.int .u64 ((rt k).val : Int)) H) := by
  apply W_root_root.ok
  unfold W_root_root
  rw [u64n (by omega)]
  refine ⟨by omega, ?_⟩
  rw [show (18446744069414584320 : Int) = ((18446744069414584320 : Nat) : Int) from rfl, shrN (k := .u64) rfl (by show k ≤ 64; omega)]
  have hlt : 18446744069414584320 / 2 ^ k < 2 ^ 64 := Nat.lt_of_le_of_lt (Nat.div_le_self _ _) (by decide)
  refine HCalls.use (Pow_ok (a := 7) (by decide) hlt H) ?_
  rw [pow_val]
  simp only [HV]
  exact RetE.mk _ _
theorem good_ok {k : Nat} (hk : k ≤ 32) (H : Hp) : HCalls Tryz.prog 224 #[.int .i64 (k : Int)] H (RetE (.bool true) H) := by
  apply W_root_good.ok
  unfold W_root_good
  refine BIf_dpos (by omega) ?_
  rw [decide_eq_true (by omega)]
  exact RetE.mk _ _
theorem eInv_root {k : Nat} (hk : k ≤ 32) : pw (rt k) eInv = pw (rt k) (2 ^ k - 1) := by
  have e := ord_div hk
  have hp := pow_pos k
  generalize hq : 18446744069414584320 / 2 ^ k = q at e
  have hq1 : 1 ≤ q := by
    rcases Nat.eq_zero_or_pos q with h | h
    · rw [h, Nat.zero_mul] at e; omega
    · exact h
  have e2 : eInv = 2 ^ k * (q - 1) + (2 ^ k - 1) := by
    unfold eInv
    rw [Nat.mul_sub_one, Nat.mul_comm]
    have : 1 * 2 ^ k ≤ q * 2 ^ k := Nat.mul_le_mul_right _ hq1
    omega
  rw [e2, pw_add, pw_mul, rt_one hk, pw_one]; grind
theorem rt_ne {k : Nat} (hk : k ≤ 32) : (rt k).val % 18446744069414584321 ≠ 0 := fun h => by
  have h1 : rt k = 0 := Fin.ext (by rw [Nat.mod_eq_of_lt (rt k).isLt] at h; exact h)
  have h2 := rt_inv hk
  rw [h1] at h2
  have h3 : (0 : Zp) * pw 0 (2 ^ k - 1) = 0 := by grind
  rw [h3] at h2
  exact absurd h2 (by decide)
theorem Root_ok {k : Nat} (hk : k ≤ 32) (d : Bool) (H : Hp) : HCalls Tryz.prog 197 #[.int .i64 (k : Int), .int .i64 (if d = true then 1 else 0)] H (RetE (.tuple #[.int .u64 ((rtd d k).val : Int), .int .i64 0]) H) := by
  apply W_twid_Root.ok
  unfold W_twid_Root
  refine BIf_dneg (by omega) (BIf_dneg (by omega) ?_)
  cases d with
  | false =>
    refine BIf_beqp rfl ?_
    have h1 : HCalls Tryz.prog 213 #[.int .i64 (k : Int)] H (RetE (.tuple #[.int .u64 ((rt k).val : Int), .int .i64 0]) H) := by
      apply W_root_Root.ok
      unfold W_root_Root
      refine HCalls.use (good_ok hk H) ?_
      simp only [HV]
      refine HCalls.use (root_ok hk H) ?_
      simp only [HV]
      exact RetE.mk _ _
    refine HCalls.use h1 ?_
    simp only [HV]
    exact RetE.mk _ _
  | true =>
    refine BIf_beqn (by decide) (BIf_beqp rfl ?_)
    have h1 : HCalls Tryz.prog 214 #[.int .i64 (k : Int)] H (RetE (.tuple #[.int .u64 ((rtd true k).val : Int), .int .i64 0]) H) := by
      apply W_root_Back.ok
      unfold W_root_Back
      refine HCalls.use (good_ok hk H) ?_
      simp only [HV]
      refine HCalls.use (root_ok hk H) ?_
      simp only [HV]
      refine HCalls.use (Inv_ok (val_lt _) (rt_ne hk) H) ?_
      have e : ginv (rt k).val = (rtd true k).val := by
        unfold ginv
        rw [pow_val, zp_of_val, eInv_root hk]; rfl
      rw [e]
      simp only [HV]
      exact RetE.mk _ _
    refine HCalls.use h1 ?_
    simp only [HV]
    exact RetE.mk _ _
def pwsL (z : Zp) (n : Nat) : List UInt64 := (List.range n).map fun i => uw (pw z i)
theorem pwsL_len (z : Zp) (n : Nat) : (pwsL z n).length = n := by simp [pwsL]
theorem pwsL_get (z : Zp) {n i : Nat} (h : i < n) : (pwsL z n)[i]? = some (uw (pw z i)) := by
  unfold pwsL
  rw [List.getElem?_map, List.getElem?_range h]; rfl
theorem Powers_loop (K : Value → Hp → Prop) (z : Zp) {n r mr : Nat} (hn : n ≤ 1048576) {L : List As}
    (hK : ∀ H, Sep (pts r (.row (wordVals (pwsL z n)) 60 mr) :: L) H → K (.tuple #[.slice (some ⟨r, 0, none⟩) n n, .int .i64 0]) H) :
    ∀ (t i : Nat) (ys : List UInt64) (H : Hp), i + t = n → ys.length = t → Sep (pts r (.row (wordVals (pwsL z i ++ ys)) 60 mr) :: L) H →
      W_root_Powers.l6 K (t + 1) (z.val : Int) (some ⟨r, 0, none⟩) n n ((pw z i).val : Int) (n : Int) (i : Int) H
  | 0, i, ys, H, hi, hy, hs => by
    unfold W_root_Powers.l6
    refine BIf_dneg (by omega) (hK H ?_)
    obtain rfl : ys = [] := List.length_eq_zero_iff.1 hy
    rw [List.append_nil, show i = n by omega] at hs
    exact hs
  | t + 1, i, ys, H, hi, hy, hs => by
    unfold W_root_Powers.l6
    refine BIf_dpos (by omega) ⟨by omega, by omega, ?_⟩
    show St H _ _ _
    rw [Int.toNat_natCast, Nat.mul_one, Addr.add_lit', Addr.add_lit', Nat.zero_add, Nat.add_zero]
    refine hs.str 0 rfl (by rw [wordVals_length, List.length_append, pwsL_len]; omega) rfl fun H hs => ?_
    have e : (wordVals (pwsL z i ++ ys)).set i (.int .u64 ((pw z i).val : Int)) = wordVals (pwsL z (i + 1) ++ ys.drop 1) := by
      rw [← uw_int, set_vals]
      congr 1
      rw [List.set_append_right _ _ (by rw [pwsL_len]; exact Nat.le_refl _), pwsL_len, Nat.sub_self]
      unfold pwsL
      rw [List.range_succ, List.map_append, List.append_assoc]
      congr 1
      cases ys with
      | nil => simp at hy
      | cons y ys => rfl
    rw [e] at hs
    refine HCalls.use (Mul_ok (val_lt _) (val_lt _) H) ?_
    rw [mul_val]
    simp only [HV]
    rw [i64w (x := (i : Int) + 1) (by omega) (by omega), show (i : Int) + 1 = ((i + 1 : Nat) : Int) by omega]
    exact Powers_loop K z hn hK t (i + 1) (ys.drop 1) H (by omega) (by rw [List.length_drop]; omega) hs
theorem Powers_tr (z : Zp) (n : Nat) (hn : n ≤ 1048576) : Tr Tryz.prog 198 #[.int .u64 (z.val : Int), .int .i64 (n : Int)] [] fun v M =>
    ∃ r, v = .tuple #[.slice (some ⟨r, 0, none⟩) n n, .int .i64 0] ∧ M = [pts r (.row (wordVals (pwsL z n)) 60 (n * 1))] := fun H hs => by
  apply W_root_Powers.ok
  unfold W_root_Powers
  refine BIf_dneg (by omega) (BIf_dneg (by omega) ?_)
  refine hs.mks cell_u64 rfl (n := n) (m := n) rfl rfl (Nat.le_refl _) (by omega) (by omega) fun r H hs => ?_
  simp only [HV]
  refine ⟨n + 1, ?_⟩
  refine Powers_loop (L := []) _ z hn (fun H hs => ⟨_, ⟨r, rfl, rfl⟩, hs⟩) n 0 (List.replicate n 0) H (by omega) (by simp) ?_
  rw [zero_vals] at hs
  exact hs
theorem Table_tr (k : Nat) (hk : k ≤ 20) (d : Bool) : Tr Tryz.prog 167 #[.int .i64 (k : Int), .int .i64 (if d = true then 1 else 0)] [] fun v M =>
    ∃ r, v = .tuple #[.slice (some ⟨r, 0, none⟩) (2 ^ (k - 1)) (2 ^ (k - 1)), .int .i64 0] ∧ M = [pts r (.row (wordVals (pwsL (rtd d k) (2 ^ (k - 1)))) 60 (2 ^ (k - 1) * 1))] := fun H hs => by
  have h20 := pow_le hk
  have h19 := pow_le (show k - 1 ≤ 19 by omega)
  apply W_twid_Table.ok
  unfold W_twid_Table
  refine HCalls.use (Root_ok (by omega) d H) ?_
  simp only [HV]
  refine BIf_bnen rfl (BIf_dneg (by omega) ?_)
  rw [u64n (by omega)]
  refine ⟨by omega, by decide, ?_⟩
  have e : (if (1 : Int) > shrI .i64 (shlI .i64 1 (k : Int)) 1 then (1 : Int) else shrI .i64 (shlI .i64 1 (k : Int)) 1) = ((2 ^ (k - 1) : Nat) : Int) := by
    have : ∀ k : Nat, k < 21 → (if (1 : Int) > shrI .i64 (shlI .i64 1 (k : Int)) 1 then (1 : Int) else shrI .i64 (shlI .i64 1 (k : Int)) 1) = ((2 ^ (k - 1) : Nat) : Int) := by decide +kernel
    exact this k (by omega)
  rw [e]
  refine (Powers_tr (rtd d k) (2 ^ (k - 1)) (by omega)).use hs [] rfl rfl ?_
  rintro _ _ H ⟨r, rfl, rfl⟩ hs
  simp only [HV]
  exact ⟨_, ⟨r, rfl, rfl⟩, hs⟩
def half : Zp := 9223372034707292161
theorem half_2 : half * 2 = 1 := by decide
theorem two_all : pw 2 (eInv + 1) = 1 := by
  unfold eInv
  rw [← pwB_eq 64 2 (18446744069414584319 + 1) (by decide)]
  decide +kernel
theorem share_eq (k : Nat) : pw (pw 2 k) eInv = pw half k := by
  have h1 : pw (pw 2 k) eInv * pw 2 k = 1 := by
    have : pw (pw 2 k) (eInv + 1) = pw (pw 2 k) eInv * pw 2 k := rfl
    rw [← this, ← pw_mul, Nat.mul_comm, pw_mul, two_all, pw_one]
  have h2 : pw half k * pw 2 k = 1 := by rw [← mul_pw, half_2, pw_one]
  grind
theorem zp_two (k : Nat) : zp (2 ^ k) = pw 2 k := zp_pow 2 k
theorem two_ne (k : Nat) : 2 ^ k % 18446744069414584321 ≠ 0 := fun h => by
  have h1 : zp (2 ^ k) = 0 := Fin.ext h
  have h2 : pw half k * pw 2 k = 1 := by rw [← mul_pw, half_2, pw_one]
  rw [← zp_two, h1] at h2
  have h3 : pw half k * 0 = 0 := by grind
  rw [h3] at h2
  exact absurd h2 (by decide)
theorem Share_ok {k : Nat} (hk : k ≤ 32) (H : Hp) : HCalls Tryz.prog 141 #[.int .i64 (k : Int)] H (RetE (.tuple #[.int .u64 ((pw half k).val : Int), .int .i64 0]) H) := by
  have h32 := pow_le hk
  apply W_twid_Share.ok
  unfold W_twid_Share
  refine BIf_dneg (by omega) (BIf_dneg (by omega) ?_)
  rw [u64n (by omega)]
  refine ⟨by omega, ?_⟩
  rw [show (1 : Int) = ((1 : Nat) : Int) from rfl, shlN (x := 1) rfl (by omega), Nat.one_mul, Nat.mod_eq_of_lt (by omega)]
  refine HCalls.use (Inv_ok (by omega) (two_ne k) H) ?_
  have e : ginv (2 ^ k) = (pw half k).val := by
    unfold ginv
    rw [pow_val, zp_two, share_eq]
  rw [e]
  simp only [HV]
  exact RetE.mk _ _
def sclL (z : Zp) (l : List UInt64) : List UInt64 := l.map fun x => uw (zw x * z)
theorem sclL_len (z : Zp) (l : List UInt64) : (sclL z l).length = l.length := by simp [sclL]
theorem mulc_val (x w : UInt64) : x.toNat * w.toNat % 18446744069414584321 = (zw x * zw w).val := by
  rw [← mul_val]
  show _ = x.toNat % 18446744069414584321 * (w.toNat % 18446744069414584321) % 18446744069414584321
  rw [← Nat.mul_mod]
theorem Scale_loop (K : Value → Hp → Prop) (w : UInt64) {R : As} {A : Option Addr} {n m r mr : Nat} {l : List UInt64} (hR : ∀ H, R H → Cells H A (wordVals l)) (hl : l.length = n) (hn : n ≤ 4294967296)
    (hK : ∀ H, Sep [pts r (.row (wordVals (sclL (zw w) l)) 60 mr), R] H → K (.slice (some ⟨r, 0, none⟩) n n) H) :
    ∀ (t i : Nat) (ys : List UInt64) (H : Hp), i + t = n → ys.length = t → Sep [pts r (.row (wordVals (sclL (zw w) (l.take i) ++ ys)) 60 mr), R] H →
      W_twid_Scale.l3 K (t + 1) (w.toNat : Int) (some ⟨r, 0, none⟩) n n A n m (n : Int) (i : Int) H
  | 0, i, ys, H, hi, hy, hs => by
    unfold W_twid_Scale.l3
    refine BIf_dneg (by omega) (hK H ?_)
    obtain rfl : ys = [] := List.length_eq_zero_iff.1 hy
    rw [List.append_nil, List.take_of_length_le (by omega)] at hs
    exact hs
  | t + 1, i, ys, H, hi, hy, hs => by
    have hc : Cells H A (wordVals l) := by
      obtain ⟨H1, h1, hle⟩ := hs.see 1 rfl
      exact (hR H1 h1).le hle
    unfold W_twid_Scale.l3
    refine BIf_dpos (by omega) ?_
    have hil : i < l.length := by omega
    have hg : (wordVals l)[i]? = some (.int .u64 ((l[i]).toNat : Int)) := by
      rw [wordVals_get, List.getElem?_eq_getElem hil]; rfl
    refine hc.read hg rfl (by rw [wordVals_length]; omega) ?_
    simp only [HV]
    refine HCalls.use (Mul_ok (l[i]).toNat_lt w.toNat_lt H) ?_
    rw [mulc_val]
    simp only [HV]
    refine ⟨by omega, by omega, ?_⟩
    show St H _ _ _
    rw [Int.toNat_natCast, Nat.mul_one, Addr.add_lit', Addr.add_lit', Nat.zero_add, Nat.add_zero]
    have hlt : (sclL (zw w) (l.take i)).length = i := by rw [sclL_len, List.length_take]; omega
    refine hs.str 0 rfl (by rw [wordVals_length, List.length_append, hlt]; omega) rfl fun H hs => ?_
    have e : (wordVals (sclL (zw w) (l.take i) ++ ys)).set i (.int .u64 ((zw l[i] * zw w).val : Int)) = wordVals (sclL (zw w) (l.take (i + 1)) ++ ys.drop 1) := by
      rw [← uw_int, set_vals]
      congr 1
      rw [List.set_append_right _ _ (by omega), hlt, Nat.sub_self]
      unfold sclL
      rw [List.take_add_one, List.getElem?_eq_getElem hil]
      simp only [Option.toList, List.map_append, List.append_assoc]
      congr 1
      cases ys with
      | nil => simp at hy
      | cons y ys => rfl
    rw [e] at hs
    rw [i64w (x := (i : Int) + 1) (by omega) (by omega), show (i : Int) + 1 = ((i + 1 : Nat) : Int) by omega]
    exact Scale_loop K w hR hl hn hK t (i + 1) (ys.drop 1) H (by omega) (by rw [List.length_drop]; omega) hs
theorem Scale_tr (w : UInt64) {R : As} {A : Option Addr} {n m : Nat} {l : List UInt64} (hR : ∀ H, R H → Cells H A (wordVals l)) (hl : l.length = n) (hn : n ≤ 4294967296) :
    Tr Tryz.prog 201 #[.slice A n m, .int .u64 (w.toNat : Int)] [R] fun v M =>
    ∃ r, v = .slice (some ⟨r, 0, none⟩) n n ∧ M = [pts r (.row (wordVals (sclL (zw w) l)) 60 (n * 1)), R] := fun H hs => by
  apply W_twid_Scale.ok
  unfold W_twid_Scale
  refine hs.mks cell_u64 rfl (n := n) (m := n) rfl rfl (Nat.le_refl _) (by omega) (by omega) fun r H hs => ?_
  simp only [HV]
  refine ⟨n + 1, ?_⟩
  refine Scale_loop _ w hR hl hn (fun H hs => ⟨_, ⟨r, rfl, rfl⟩, hs⟩) n 0 (List.replicate n 0) H (by omega) (by simp) ?_
  rw [zero_vals] at hs
  exact hs.re [1, 0] rfl
end Go.Proofs.YtnknippcbecmeaaGreatDoor.Ker
end
section
/- Formulas of functions, printed by wip/tools/hwp.py. -/
namespace Go.Proofs.YtnknippcbecmeaaGreatDoor.W
open Go Go.Hw
theorem mixWkern2 : Tryz.prog.follows .mixedOrders = true := by kernel_rfl
def W_kern2_New.l5 (K : Value → Hp → Prop) : Nat → Int → Addr → Int → Hp → Prop
  | 0, _, _, _, _ => False
  | k + 1, x2, a1, x3, H =>
    let R5 := W_kern2_New.l5 K k
    BIf (decide (x3 < (2 : Int))) (HCalls Tryz.prog 167 #[.int .i64 x2, .int .i64 x3] H fun v1 H2 => DTup v1 fun l1 => DCons l1 fun v2 l2 => DSl v2 fun A1 n1 m1 => DCons l2 fun v3 l3 => DI .i64 v3 fun x4 => DNil l3 (ixI x3 2 (St H2 ((((a1.add 0).add 0).add (x3.toNat * 1)).add 0) (.slice A1 n1 m1) fun H3 => R5 x2 a1 (IntKind.i64.wrap (x3 + (1 : Int))) H3))) (HCalls Tryz.prog 141 #[.int .i64 x2] H fun v4 H4 => DTup v4 fun l4 => DCons l4 fun v5 l5 => DI .u64 v5 fun x5 => DCons l5 fun v6 l6 => DI .i64 v6 fun x6 => DNil l6 (St H4 (((a1.add 0).add 2).add 0) (.int .u64 x5) fun H5 => K (.pointer (some a1)) H5))
def W_kern2_New (x1 : Int) (H : Hp) (K : Value → Hp → Prop) : Prop :=
  BIf (decide (x1 < (0 : Int))) (K (.pointer none) H) (BIf (decide (x1 > (20 : Int))) (K (.pointer none) H) (Nw H (.obj (.cells #[.slice none 0 0, .slice none 0 0, .int .u64 0, .int .i64 x1] 262)) fun b1 H1 => (∃ k, W_kern2_New.l5 K k x1 (⟨b1, 0, none⟩ : Addr) (0 : Int) H1)))
def W_kern2_New.l5.L (K : Value → Hp → Prop) (k : Nat) : Mid := fun E D H =>
  eI E 0 .i64 fun x2 => eN E 3 fun a1 => eI E 14 .i64 fun x3 => DNilD D (W_kern2_New.l5 K k x2 a1 x3 H)
def W_kern2_New.Λ5 (_ : Value → Hp → Prop) (_R5 : Int → Addr → Int → Hp → Prop) : Cuts := Cuts.none (fun i => match Nat.beq i 7 with | true => some ([], [0, 0, 0, 0, 12, 28, 60, 60, 1, 257, 769, 1919, 3967], 0) | false => none)
def W_kern2_New.Λ (K : Value → Hp → Prop) : Cuts := ⟨fun i => none, fun i => match Nat.beq i 5 with | true => some (fun E D H => ∃ k, W_kern2_New.l5.L K k E D H) | false => none, (fun i => match Nat.beq i 7 with | true => some ([], [0, 0, 0, 0, 12, 28, 60, 60, 1, 257, 769, 1919, 3967], 0) | false => none)⟩
theorem W_kern2_New.ok (x1 : Int) (H : Hp) (K : Value → Hp → Prop) (h : W_kern2_New x1 H K) : HCalls Tryz.prog 138 #[.int .i64 x1] H K :=
  hcalls Tryz.func138 rfl (Nat.le_of_ble_eq_true rfl) (hw_safe (Λ := (W_kern2_New.Λ K)) mixWkern2 _ _ _ _ _ (Eq.mp (by kernel_rfl) h) (obs_seq obs_region rfl (obs_seq (obs_seq obs_region rfl (obs_cond (obs_seq obs_region rfl obs_ret) obs_skip)) rfl (obs_seq obs_region rfl (obs_seq (obs_seq obs_region rfl (obs_block (obs_loop rfl (fun E D H h => by
      refine Safe.loop' (W_kern2_New.l5.L K) (fun E D H h => ?_) (fun k E D H h => ?_) E D H h
      · obtain ⟨w0, e0, g1⟩ := DG.out h; obtain ⟨x2, rfl, g2⟩ := DI.out g1; obtain ⟨w3, e3, g3⟩ := DG.out g2; obtain ⟨pw3, rfl, g4⟩ := DP.out g3; obtain ⟨a1, rfl, g5⟩ := NN.out g4; obtain ⟨w14, e14, g6⟩ := DG.out g5; obtain ⟨x3, rfl, g7⟩ := DI.out g6; obtain ⟨rfl, h'⟩ := DNilD.out g7; exact h'
      · obtain ⟨x2, e0, g2⟩ := GI h
        obtain ⟨a1, e3, g5⟩ := GN g2; obtain ⟨x3, e14, g7⟩ := GI g5; obtain ⟨rfl, h'⟩ := DNilD.out g7
        exact (hw_safe (Λ := (W_kern2_New.Λ5 K (W_kern2_New.l5 K k))) mixWkern2 _ _ [(0, .int .i64 x2), (3, .pointer (some a1)), (14, .int .i64 x3)] [] H (Eq.mp (by kernel_rfl) h') (obs_seq obs_region rfl (obs_seq (obs_cond obs_skip obs_exit) rfl (obs_seq (obs_block (obs_seq obs_region rfl obs_region)) rfl obs_region)))).weaken (EnvLe.cons e0 (EnvLe.cons e3 (EnvLe.cons e14 (EnvLe.nil _)))) (Hp.le_refl _))))) rfl (obs_seq obs_region rfl (obs_seq obs_region rfl obs_ret)))))))
def W_kern2_Kernel_Plain.l13 (K : Value → Hp → Prop) : Nat → Option Addr → Nat → Nat → Option Addr → Nat → Nat → Int → Hp → Prop
  | 0, _, _, _, _, _, _, _, _ => False
  | k + 1, A7, n7, m7, A8, n8, m8, x8, H =>
    let R13 := W_kern2_Kernel_Plain.l13 K k
    BIf (decide (x8 < ((n7 : Nat) : Int))) (HCalls Tryz.prog 218 #[.slice A7 n7 m7, .slice A8 n8 m8, .int .i64 x8] H fun v10 H5 => R13 A7 n7 m7 A8 n8 m8 (IntKind.i64.wrap (x8 * (2 : Int))) H5) (K (.int .i64 0) H)
def W_kern2_Kernel_Plain.l8 (K : Value → Hp → Prop) : Nat → Option Addr → Nat → Nat → Option Addr → Nat → Nat → Option Addr → Nat → Nat → Int → Int → Hp → Prop
  | 0, _, _, _, _, _, _, _, _, _, _, _, _ => False
  | k + 1, A4, n4, m4, A5, n5, m5, A6, n6, m6, x4, x5, H =>
    let R8 := W_kern2_Kernel_Plain.l8 K k
    BIf (decide (x5 < x4)) (ixI x5 n6 (NN A6 fun a3 => Ld H (a3.add (x5.toNat * 1)) fun v8 => DI .u64 v8 fun x6 => HCalls Tryz.prog 202 #[.int .u64 x6] H fun v9 H3 => DI .u64 v9 fun x7 => ixI x5 n4 (NN A4 fun a4 => St H3 ((a4.add (x5.toNat * 1)).add 0) (.int .u64 x7) fun H4 => R8 A4 n4 m4 A5 n5 m5 A6 n6 m6 x4 (IntKind.i64.wrap (x5 + (1 : Int))) H4))) ((∃ k, W_kern2_Kernel_Plain.l13 K k A4 n4 m4 A5 n5 m5 (1 : Int) H))
def W_kern2_Kernel_Plain (p1 : Option Addr) (A1 : Option Addr) (n1 : Nat) (m1 : Nat) (x1 : Int) (H : Hp) (K : Value → Hp → Prop) : Prop :=
  NN p1 fun a1 => Ld H (a1.add 3) fun v1 => DI .i64 v1 fun x2 => (0 ≤ (IntKind.u64.wrap x2) ∧ BIf (((n1 : Nat) : Int) != (shlI .i64 (1 : Int) (IntKind.u64.wrap x2))) (K (.int .i64 4) H) (NN p1 fun a2 => HCalls Tryz.prog 216 #[.pointer (some (a2.add 0)), .int .i64 x1] H fun v2 H1 => DTup v2 fun l1 => DCons l1 fun v3 l2 => DSl v3 fun A2 n2 m2 => DCons l2 fun v4 l3 => DB v4 fun c1 => DNil l3 (BIf (!c1) (K (.int .i64 18) H1) (HCalls Tryz.prog 217 #[.slice A1 n1 m1] H1 fun v5 H2 => DTup v5 fun l4 => DCons l4 fun v6 l5 => DSl v6 fun A3 n3 m3 => DCons l5 fun v7 l6 => DI .i64 v7 fun x3 => DNil l6 ((∃ k, W_kern2_Kernel_Plain.l8 K k A1 n1 m1 A2 n2 m2 A3 n3 m3 ((n3 : Nat) : Int) (0 : Int) H2))))))
def W_kern2_Kernel_Plain.l8.L (K : Value → Hp → Prop) (k : Nat) : Mid := fun E D H =>
  DG (E.get? 1) fun w1 => DSl w1 fun A4 n4 m4 => DG (E.get? 7) fun w7 => DSl w7 fun A5 n5 m5 => DG (E.get? 38) fun w38 => DSl w38 fun A6 n6 m6 => eI E 39 .i64 fun x4 => eI E 40 .i64 fun x5 => DNilD D (W_kern2_Kernel_Plain.l8 K k A4 n4 m4 A5 n5 m5 A6 n6 m6 x4 x5 H)
def W_kern2_Kernel_Plain.l13.L (K : Value → Hp → Prop) (k : Nat) : Mid := fun E D H =>
  DG (E.get? 1) fun w1 => DSl w1 fun A7 n7 m7 => DG (E.get? 7) fun w7 => DSl w7 fun A8 n8 m8 => eI E 13 .i64 fun x8 => DNilD D (W_kern2_Kernel_Plain.l13 K k A7 n7 m7 A8 n8 m8 x8 H)
def W_kern2_Kernel_Plain.Λ8 (_ : Value → Hp → Prop) (_R8 : Option Addr → Nat → Nat → Option Addr → Nat → Nat → Option Addr → Nat → Nat → Int → Int → Hp → Prop) : Cuts := Cuts.none (fun _ => none)
def W_kern2_Kernel_Plain.Λ13 (_ : Value → Hp → Prop) (_R13 : Option Addr → Nat → Nat → Option Addr → Nat → Nat → Int → Hp → Prop) : Cuts := Cuts.none (fun _ => none)
def W_kern2_Kernel_Plain.Λ (K : Value → Hp → Prop) : Cuts := ⟨fun i => none, fun i => match Nat.beq i 13 with | true => some (fun E D H => ∃ k, W_kern2_Kernel_Plain.l13.L K k E D H) | false => match Nat.beq i 8 with | true => some (fun E D H => ∃ k, W_kern2_Kernel_Plain.l8.L K k E D H) | false => none, (fun _ => none)⟩
theorem W_kern2_Kernel_Plain.ok (p1 : Option Addr) (A1 : Option Addr) (n1 : Nat) (m1 : Nat) (x1 : Int) (H : Hp) (K : Value → Hp → Prop) (h : W_kern2_Kernel_Plain p1 A1 n1 m1 x1 H K) : HCalls Tryz.prog 199 #[.pointer p1, .slice A1 n1 m1, .int .i64 x1] H K :=
  hcalls Tryz.func199 rfl (Nat.le_of_ble_eq_true rfl) (hw_safe (Λ := (W_kern2_Kernel_Plain.Λ K)) mixWkern2 _ _ _ _ _ (Eq.mp (by kernel_rfl) h) (obs_seq obs_region rfl (obs_seq (obs_seq obs_region rfl (obs_cond (obs_seq obs_region rfl obs_ret) obs_skip)) rfl (obs_seq obs_region rfl (obs_seq (obs_seq obs_region rfl (obs_cond (obs_seq obs_region rfl obs_ret) obs_skip)) rfl (obs_seq obs_region rfl (obs_seq (obs_seq obs_region rfl (obs_block (obs_loop rfl (fun E D H h => by
      refine Safe.loop' (W_kern2_Kernel_Plain.l8.L K) (fun E D H h => ?_) (fun k E D H h => ?_) E D H h
      · obtain ⟨w1, e1, g1⟩ := DG.out h; obtain ⟨A4, n4, m4, rfl, g2⟩ := DSl.out g1; obtain ⟨w7, e7, g3⟩ := DG.out g2; obtain ⟨A5, n5, m5, rfl, g4⟩ := DSl.out g3; obtain ⟨w38, e38, g5⟩ := DG.out g4; obtain ⟨A6, n6, m6, rfl, g6⟩ := DSl.out g5; obtain ⟨w39, e39, g7⟩ := DG.out g6; obtain ⟨x4, rfl, g8⟩ := DI.out g7; obtain ⟨w40, e40, g9⟩ := DG.out g8; obtain ⟨x5, rfl, g10⟩ := DI.out g9; obtain ⟨rfl, h'⟩ := DNilD.out g10; exact h'
      · obtain ⟨w1, e1, g1⟩ := DG.out h
        obtain ⟨A4, n4, m4, rfl, g2⟩ := DSl.out g1
        obtain ⟨w7, e7, g3⟩ := DG.out g2
        obtain ⟨A5, n5, m5, rfl, g4⟩ := DSl.out g3
        obtain ⟨w38, e38, g5⟩ := DG.out g4
        obtain ⟨A6, n6, m6, rfl, g6⟩ := DSl.out g5
        obtain ⟨x4, e39, g8⟩ := GI g6; obtain ⟨x5, e40, g10⟩ := GI g8; obtain ⟨rfl, h'⟩ := DNilD.out g10
        exact (hw_safe (Λ := (W_kern2_Kernel_Plain.Λ8 K (W_kern2_Kernel_Plain.l8 K k))) mixWkern2 _ _ [(1, .slice A4 n4 m4), (7, .slice A5 n5 m5), (38, .slice A6 n6 m6), (39, .int .i64 x4), (40, .int .i64 x5)] [] H (Eq.mp (by kernel_rfl) h') (obs_seq obs_region rfl (obs_seq (obs_cond obs_skip obs_exit) rfl (obs_seq (obs_block (obs_seq obs_region rfl obs_region)) rfl obs_region)))).weaken (EnvLe.cons e1 (EnvLe.cons e7 (EnvLe.cons e38 (EnvLe.cons e39 (EnvLe.cons e40 (EnvLe.nil _)))))) (Hp.le_refl _))))) rfl (obs_seq (obs_seq obs_region rfl (obs_block (obs_loop rfl (fun E D H h => by
      refine Safe.loop' (W_kern2_Kernel_Plain.l13.L K) (fun E D H h => ?_) (fun k E D H h => ?_) E D H h
      · obtain ⟨w1, e1, g1⟩ := DG.out h; obtain ⟨A7, n7, m7, rfl, g2⟩ := DSl.out g1; obtain ⟨w7, e7, g3⟩ := DG.out g2; obtain ⟨A8, n8, m8, rfl, g4⟩ := DSl.out g3; obtain ⟨w13, e13, g5⟩ := DG.out g4; obtain ⟨x8, rfl, g6⟩ := DI.out g5; obtain ⟨rfl, h'⟩ := DNilD.out g6; exact h'
      · obtain ⟨w1, e1, g1⟩ := DG.out h
        obtain ⟨A7, n7, m7, rfl, g2⟩ := DSl.out g1
        obtain ⟨w7, e7, g3⟩ := DG.out g2
        obtain ⟨A8, n8, m8, rfl, g4⟩ := DSl.out g3
        obtain ⟨x8, e13, g6⟩ := GI g4
        obtain ⟨rfl, h'⟩ := DNilD.out g6
        exact (hw_safe (Λ := (W_kern2_Kernel_Plain.Λ13 K (W_kern2_Kernel_Plain.l13 K k))) mixWkern2 _ _ [(1, .slice A7 n7 m7), (7, .slice A8 n8 m8), (13, .int .i64 x8)] [] H (Eq.mp (by kernel_rfl) h') (obs_seq (obs_seq obs_region rfl (obs_cond obs_skip obs_exit)) rfl (obs_seq (obs_block obs_region) rfl obs_region))).weaken (EnvLe.cons e1 (EnvLe.cons e7 (EnvLe.cons e13 (EnvLe.nil _)))) (Hp.le_refl _))))) rfl (obs_seq obs_region rfl obs_ret)))))))))
def W_kern2_tables_table (p1 : Option Addr) (x1 : Int) (H : Hp) (K : Value → Hp → Prop) : Prop :=
  BIf (decide (x1 < (0 : Int))) (K (.tuple #[.slice none 0 0, .bool false]) H) (BIf (decide (x1 > (1 : Int))) (K (.tuple #[.slice none 0 0, .bool false]) H) (NN p1 fun a1 => ixI x1 2 (Ld H ((a1.add 0).add (x1.toNat * 1)) fun v1 => DSl v1 fun A1 n1 m1 => K (.tuple #[.slice A1 n1 m1, .bool true]) H)))
theorem W_kern2_tables_table.ok (p1 : Option Addr) (x1 : Int) (H : Hp) (K : Value → Hp → Prop) (h : W_kern2_tables_table p1 x1 H K) : HCalls Tryz.prog 216 #[.pointer p1, .int .i64 x1] H K :=
  hcalls Tryz.func216 rfl (Nat.le_of_ble_eq_true rfl) (hw_safe (Λ := Cuts.none (fun _ => none)) mixWkern2 _ _ _ _ _ (Eq.mp (by kernel_rfl) h) (obs_none _ _ _ _ _))
def W_kern2_stage.l5 (K : Value → Hp → Prop) (R2 : Option Addr → Nat → Nat → Option Addr → Nat → Nat → Int → Int → Int → Hp → Prop) : Nat → Option Addr → Nat → Nat → Option Addr → Nat → Nat → Int → Int → Int → Int → Int → Hp → Prop
  | 0, _, _, _, _, _, _, _, _, _, _, _, _ => False
  | k + 1, A5, n5, m5, A6, n6, m6, x5, x6, x7, x8, x9, H =>
    let R5 := W_kern2_stage.l5 K R2 k
    BIf (decide (x9 < x8)) (ixI (IntKind.i64.wrap (x7 + x9)) n5 (NN A5 fun a1 => ixI (IntKind.i64.wrap ((IntKind.i64.wrap (x7 + x9)) + x5)) n5 (NN A5 fun a2 => ixI (IntKind.i64.wrap (x9 * x6)) n6 (NN A6 fun a3 => (Ld H (a1.add ((IntKind.i64.wrap (x7 + x9)).toNat * 1)) fun v1 => DI .u64 v1 fun x10 => (Ld H (a2.add ((IntKind.i64.wrap ((IntKind.i64.wrap (x7 + x9)) + x5)).toNat * 1)) fun v2 => DI .u64 v2 fun x11 => Ld H (a3.add ((IntKind.i64.wrap (x9 * x6)).toNat * 1)) fun v3 => DI .u64 v3 fun x12 => HCalls Tryz.prog 231 #[.int .u64 x10, .int .u64 x11, .int .u64 x12] H fun v4 H1 => DTup v4 fun l1 => DCons l1 fun v5 l2 => DI .u64 v5 fun x13 => DCons l2 fun v6 l3 => DI .u64 v6 fun x14 => DNil l3 (ixI (IntKind.i64.wrap (x7 + x9)) n5 (NN A5 fun a4 => St H1 ((a4.add ((IntKind.i64.wrap (x7 + x9)).toNat * 1)).add 0) (.int .u64 x13) fun H2 => ixI (IntKind.i64.wrap ((IntKind.i64.wrap (x7 + x9)) + x5)) n5 (NN A5 fun a5 => St H2 ((a5.add ((IntKind.i64.wrap ((IntKind.i64.wrap (x7 + x9)) + x5)).toNat * 1)).add 0) (.int .u64 x14) fun H3 => R5 A5 n5 m5 A6 n6 m6 x5 x6 x7 x8 (IntKind.i64.wrap (x9 + (1 : Int))) H3)))) ∧ (Ld H (a3.add ((IntKind.i64.wrap (x9 * x6)).toNat * 1)) fun v7 => DI .u64 v7 fun x15 => Ld H (a2.add ((IntKind.i64.wrap ((IntKind.i64.wrap (x7 + x9)) + x5)).toNat * 1)) fun v8 => DI .u64 v8 fun x16 => HCalls Tryz.prog 231 #[.int .u64 x10, .int .u64 x16, .int .u64 x15] H fun v9 H4 => DTup v9 fun l4 => DCons l4 fun v10 l5 => DI .u64 v10 fun x17 => DCons l5 fun v11 l6 => DI .u64 v11 fun x18 => DNil l6 (ixI (IntKind.i64.wrap (x7 + x9)) n5 (NN A5 fun a6 => St H4 ((a6.add ((IntKind.i64.wrap (x7 + x9)).toNat * 1)).add 0) (.int .u64 x17) fun H5 => ixI (IntKind.i64.wrap ((IntKind.i64.wrap (x7 + x9)) + x5)) n5 (NN A5 fun a7 => St H5 ((a7.add ((IntKind.i64.wrap ((IntKind.i64.wrap (x7 + x9)) + x5)).toNat * 1)).add 0) (.int .u64 x18) fun H6 => R5 A5 n5 m5 A6 n6 m6 x5 x6 x7 x8 (IntKind.i64.wrap (x9 + (1 : Int))) H6))))) ∧ (Ld H (a2.add ((IntKind.i64.wrap ((IntKind.i64.wrap (x7 + x9)) + x5)).toNat * 1)) fun v12 => DI .u64 v12 fun x19 => (Ld H (a1.add ((IntKind.i64.wrap (x7 + x9)).toNat * 1)) fun v13 => DI .u64 v13 fun x20 => Ld H (a3.add ((IntKind.i64.wrap (x9 * x6)).toNat * 1)) fun v14 => DI .u64 v14 fun x21 => HCalls Tryz.prog 231 #[.int .u64 x20, .int .u64 x19, .int .u64 x21] H fun v15 H7 => DTup v15 fun l7 => DCons l7 fun v16 l8 => DI .u64 v16 fun x22 => DCons l8 fun v17 l9 => DI .u64 v17 fun x23 => DNil l9 (ixI (IntKind.i64.wrap (x7 + x9)) n5 (NN A5 fun a8 => St H7 ((a8.add ((IntKind.i64.wrap (x7 + x9)).toNat * 1)).add 0) (.int .u64 x22) fun H8 => ixI (IntKind.i64.wrap ((IntKind.i64.wrap (x7 + x9)) + x5)) n5 (NN A5 fun a9 => St H8 ((a9.add ((IntKind.i64.wrap ((IntKind.i64.wrap (x7 + x9)) + x5)).toNat * 1)).add 0) (.int .u64 x23) fun H9 => R5 A5 n5 m5 A6 n6 m6 x5 x6 x7 x8 (IntKind.i64.wrap (x9 + (1 : Int))) H9)))) ∧ (Ld H (a3.add ((IntKind.i64.wrap (x9 * x6)).toNat * 1)) fun v18 => DI .u64 v18 fun x24 => Ld H (a1.add ((IntKind.i64.wrap (x7 + x9)).toNat * 1)) fun v19 => DI .u64 v19 fun x25 => HCalls Tryz.prog 231 #[.int .u64 x25, .int .u64 x19, .int .u64 x24] H fun v20 H10 => DTup v20 fun l10 => DCons l10 fun v21 l11 => DI .u64 v21 fun x26 => DCons l11 fun v22 l12 => DI .u64 v22 fun x27 => DNil l12 (ixI (IntKind.i64.wrap (x7 + x9)) n5 (NN A5 fun a10 => St H10 ((a10.add ((IntKind.i64.wrap (x7 + x9)).toNat * 1)).add 0) (.int .u64 x26) fun H11 => ixI (IntKind.i64.wrap ((IntKind.i64.wrap (x7 + x9)) + x5)) n5 (NN A5 fun a11 => St H11 ((a11.add ((IntKind.i64.wrap ((IntKind.i64.wrap (x7 + x9)) + x5)).toNat * 1)).add 0) (.int .u64 x27) fun H12 => R5 A5 n5 m5 A6 n6 m6 x5 x6 x7 x8 (IntKind.i64.wrap (x9 + (1 : Int))) H12))))) ∧ (Ld H (a3.add ((IntKind.i64.wrap (x9 * x6)).toNat * 1)) fun v23 => DI .u64 v23 fun x28 => (Ld H (a1.add ((IntKind.i64.wrap (x7 + x9)).toNat * 1)) fun v24 => DI .u64 v24 fun x29 => Ld H (a2.add ((IntKind.i64.wrap ((IntKind.i64.wrap (x7 + x9)) + x5)).toNat * 1)) fun v25 => DI .u64 v25 fun x30 => HCalls Tryz.prog 231 #[.int .u64 x29, .int .u64 x30, .int .u64 x28] H fun v26 H13 => DTup v26 fun l13 => DCons l13 fun v27 l14 => DI .u64 v27 fun x31 => DCons l14 fun v28 l15 => DI .u64 v28 fun x32 => DNil l15 (ixI (IntKind.i64.wrap (x7 + x9)) n5 (NN A5 fun a12 => St H13 ((a12.add ((IntKind.i64.wrap (x7 + x9)).toNat * 1)).add 0) (.int .u64 x31) fun H14 => ixI (IntKind.i64.wrap ((IntKind.i64.wrap (x7 + x9)) + x5)) n5 (NN A5 fun a13 => St H14 ((a13.add ((IntKind.i64.wrap ((IntKind.i64.wrap (x7 + x9)) + x5)).toNat * 1)).add 0) (.int .u64 x32) fun H15 => R5 A5 n5 m5 A6 n6 m6 x5 x6 x7 x8 (IntKind.i64.wrap (x9 + (1 : Int))) H15)))) ∧ (Ld H (a2.add ((IntKind.i64.wrap ((IntKind.i64.wrap (x7 + x9)) + x5)).toNat * 1)) fun v29 => DI .u64 v29 fun x33 => Ld H (a1.add ((IntKind.i64.wrap (x7 + x9)).toNat * 1)) fun v30 => DI .u64 v30 fun x34 => HCalls Tryz.prog 231 #[.int .u64 x34, .int .u64 x33, .int .u64 x28] H fun v31 H16 => DTup v31 fun l16 => DCons l16 fun v32 l17 => DI .u64 v32 fun x35 => DCons l17 fun v33 l18 => DI .u64 v33 fun x36 => DNil l18 (ixI (IntKind.i64.wrap (x7 + x9)) n5 (NN A5 fun a14 => St H16 ((a14.add ((IntKind.i64.wrap (x7 + x9)).toNat * 1)).add 0) (.int .u64 x35) fun H17 => ixI (IntKind.i64.wrap ((IntKind.i64.wrap (x7 + x9)) + x5)) n5 (NN A5 fun a15 => St H17 ((a15.add ((IntKind.i64.wrap ((IntKind.i64.wrap (x7 + x9)) + x5)).toNat * 1)).add 0) (.int .u64 x36) fun H18 => R5 A5 n5 m5 A6 n6 m6 x5 x6 x7 x8 (IntKind.i64.wrap (x9 + (1 : Int))) H18))))))))) (R2 A5 n5 m5 A6 n6 m6 x5 x6 (IntKind.i64.wrap (x7 + (IntKind.i64.wrap ((2 : Int) * x5)))) H)
def W_kern2_stage.l2 (K : Value → Hp → Prop) : Nat → Option Addr → Nat → Nat → Option Addr → Nat → Nat → Int → Int → Int → Hp → Prop
  | 0, _, _, _, _, _, _, _, _, _, _ => False
  | k + 1, A3, n3, m3, A4, n4, m4, x2, x3, x4, H =>
    let R2 := W_kern2_stage.l2 K k
    BIf (decide (x4 < ((n3 : Nat) : Int))) ((∃ k, W_kern2_stage.l5 K R2 k A3 n3 m3 A4 n4 m4 x2 x3 x4 x2 (0 : Int) H)) (K (.tuple #[]) H)
def W_kern2_stage (A1 : Option Addr) (n1 : Nat) (m1 : Nat) (A2 : Option Addr) (n2 : Nat) (m2 : Nat) (x1 : Int) (H : Hp) (K : Value → Hp → Prop) : Prop :=
  ((IntKind.i64.wrap ((2 : Int) * x1)) ≠ 0 ∧ IntKind.i64 = IntKind.i64 ∧ (∃ k, W_kern2_stage.l2 K k A1 n1 m1 A2 n2 m2 x1 (IntKind.i64.wrap (Int.tdiv ((n1 : Nat) : Int) (IntKind.i64.wrap ((2 : Int) * x1)))) (0 : Int) H))
def W_kern2_stage.l2.L (K : Value → Hp → Prop) (k : Nat) : Mid := fun E D H =>
  DG (E.get? 0) fun w0 => DSl w0 fun A3 n3 m3 => DG (E.get? 1) fun w1 => DSl w1 fun A4 n4 m4 => eI E 2 .i64 fun x2 => eI E 6 .i64 fun x3 => eI E 7 .i64 fun x4 => DNilD D (W_kern2_stage.l2 K k A3 n3 m3 A4 n4 m4 x2 x3 x4 H)
def W_kern2_stage.l5.L (K : Value → Hp → Prop) (R2 : Option Addr → Nat → Nat → Option Addr → Nat → Nat → Int → Int → Int → Hp → Prop) (k : Nat) : Mid := fun E D H =>
  DG (E.get? 0) fun w0 => DSl w0 fun A5 n5 m5 => DG (E.get? 1) fun w1 => DSl w1 fun A6 n6 m6 => eI E 2 .i64 fun x5 => eI E 6 .i64 fun x6 => eI E 7 .i64 fun x7 => eI E 24 .i64 fun x8 => eI E 25 .i64 fun x9 => DNilD D (W_kern2_stage.l5 K R2 k A5 n5 m5 A6 n6 m6 x5 x6 x7 x8 x9 H)
def W_kern2_stage.Λ5 (_ : Value → Hp → Prop) (_R2 : Option Addr → Nat → Nat → Option Addr → Nat → Nat → Int → Int → Int → Hp → Prop) (_R5 : Option Addr → Nat → Nat → Option Addr → Nat → Nat → Int → Int → Int → Int → Int → Hp → Prop) : Cuts := Cuts.none (fun i => match Nat.beq i 8 with | true => some ([], [0, 0, 0, 0, 0, 0, 48, 112, 0, 0, 768, 1792, 0, 0, 0, 24576, 61440, 126976, 262128, 524272, 1048560, 1048560, 2097139, 6291443, 16777215, 33554431], 0) | false => none)
def W_kern2_stage.Λ2 (K : Value → Hp → Prop) (R2 : Option Addr → Nat → Nat → Option Addr → Nat → Nat → Int → Int → Int → Hp → Prop) : Cuts := ⟨fun i => none, fun i => match Nat.beq i 5 with | true => some (fun E D H => ∃ k, W_kern2_stage.l5.L K R2 k E D H) | false => none, (fun i => match Nat.beq i 8 with | true => some ([], [0, 0, 0, 0, 0, 0, 48, 112, 0, 0, 768, 1792, 0, 0, 0, 24576, 61440, 126976, 262128, 524272, 1048560, 1048560, 2097139, 6291443, 16777215, 33554431], 0) | false => none)⟩
def W_kern2_stage.Λ (K : Value → Hp → Prop) : Cuts := ⟨fun i => none, fun i => match Nat.beq i 2 with | true => some (fun E D H => ∃ k, W_kern2_stage.l2.L K k E D H) | false => none, (fun i => match Nat.beq i 8 with | true => some ([], [0, 0, 0, 0, 0, 0, 48, 112, 0, 0, 768, 1792, 0, 0, 0, 24576, 61440, 126976, 262128, 524272, 1048560, 1048560, 2097139, 6291443, 16777215, 33554431], 0) | false => none)⟩
theorem W_kern2_stage.ok (A1 : Option Addr) (n1 : Nat) (m1 : Nat) (A2 : Option Addr) (n2 : Nat) (m2 : Nat) (x1 : Int) (H : Hp) (K : Value → Hp → Prop) (h : W_kern2_stage A1 n1 m1 A2 n2 m2 x1 H K) : HCalls Tryz.prog 218 #[.slice A1 n1 m1, .slice A2 n2 m2, .int .i64 x1] H K :=
  hcalls Tryz.func218 rfl (Nat.le_of_ble_eq_true rfl) (hw_safe (Λ := (W_kern2_stage.Λ K)) mixWkern2 _ _ _ _ _ (Eq.mp (by kernel_rfl) h) (obs_seq obs_region rfl (obs_seq obs_region rfl (obs_block (obs_loop rfl (fun E D H h => by
      refine Safe.loop' (W_kern2_stage.l2.L K) (fun E D H h => ?_) (fun k E D H h => ?_) E D H h
      · obtain ⟨w0, e0, g1⟩ := DG.out h; obtain ⟨A3, n3, m3, rfl, g2⟩ := DSl.out g1; obtain ⟨w1, e1, g3⟩ := DG.out g2; obtain ⟨A4, n4, m4, rfl, g4⟩ := DSl.out g3; obtain ⟨w2, e2, g5⟩ := DG.out g4; obtain ⟨x2, rfl, g6⟩ := DI.out g5; obtain ⟨w6, e6, g7⟩ := DG.out g6; obtain ⟨x3, rfl, g8⟩ := DI.out g7; obtain ⟨w7, e7, g9⟩ := DG.out g8; obtain ⟨x4, rfl, g10⟩ := DI.out g9; obtain ⟨rfl, h'⟩ := DNilD.out g10; exact h'
      · obtain ⟨w0, e0, g1⟩ := DG.out h
        obtain ⟨A3, n3, m3, rfl, g2⟩ := DSl.out g1
        obtain ⟨w1, e1, g3⟩ := DG.out g2
        obtain ⟨A4, n4, m4, rfl, g4⟩ := DSl.out g3
        obtain ⟨x2, e2, g6⟩ := GI g4; obtain ⟨x3, e6, g8⟩ := GI g6; obtain ⟨x4, e7, g10⟩ := GI g8; obtain ⟨rfl, h'⟩ := DNilD.out g10
        exact (hw_safe (Λ := (W_kern2_stage.Λ2 K (W_kern2_stage.l2 K k))) mixWkern2 _ _ [(0, .slice A3 n3 m3), (1, .slice A4 n4 m4), (2, .int .i64 x2), (6, .int .i64 x3), (7, .int .i64 x4)] [] H (Eq.mp (by kernel_rfl) h') (obs_seq (obs_seq obs_region rfl (obs_cond obs_skip obs_exit)) rfl (obs_seq (obs_block (obs_seq obs_region rfl (obs_block (obs_loop rfl (fun E D H h => by
            refine Safe.loop' (W_kern2_stage.l5.L K (W_kern2_stage.l2 K k)) (fun E D H h => ?_) (fun k E D H h => ?_) E D H h
            · obtain ⟨w0, e0, g1⟩ := DG.out h; obtain ⟨A5, n5, m5, rfl, g2⟩ := DSl.out g1; obtain ⟨w1, e1, g3⟩ := DG.out g2; obtain ⟨A6, n6, m6, rfl, g4⟩ := DSl.out g3; obtain ⟨w2, e2, g5⟩ := DG.out g4; obtain ⟨x5, rfl, g6⟩ := DI.out g5; obtain ⟨w6, e6, g7⟩ := DG.out g6; obtain ⟨x6, rfl, g8⟩ := DI.out g7; obtain ⟨w7, e7, g9⟩ := DG.out g8; obtain ⟨x7, rfl, g10⟩ := DI.out g9; obtain ⟨w24, e24, g11⟩ := DG.out g10; obtain ⟨x8, rfl, g12⟩ := DI.out g11; obtain ⟨w25, e25, g13⟩ := DG.out g12; obtain ⟨x9, rfl, g14⟩ := DI.out g13; obtain ⟨rfl, h'⟩ := DNilD.out g14; exact h'
            · obtain ⟨w0, e0, g1⟩ := DG.out h
              obtain ⟨A5, n5, m5, rfl, g2⟩ := DSl.out g1
              obtain ⟨w1, e1, g3⟩ := DG.out g2
              obtain ⟨A6, n6, m6, rfl, g4⟩ := DSl.out g3
              obtain ⟨x5, e2, g6⟩ := GI g4; obtain ⟨x6, e6, g8⟩ := GI g6; obtain ⟨x7, e7, g10⟩ := GI g8; obtain ⟨x8, e24, g12⟩ := GI g10; obtain ⟨x9, e25, g14⟩ := GI g12; obtain ⟨rfl, h'⟩ := DNilD.out g14
              exact (hw_safe (Λ := (W_kern2_stage.Λ5 K (W_kern2_stage.l2 K k) (W_kern2_stage.l5 K (W_kern2_stage.l2 K k) k))) mixWkern2 _ _ [(0, .slice A5 n5 m5), (1, .slice A6 n6 m6), (2, .int .i64 x5), (6, .int .i64 x6), (7, .int .i64 x7), (24, .int .i64 x8), (25, .int .i64 x9)] [] H (Eq.mp (by kernel_rfl) h') (obs_seq obs_region rfl (obs_seq (obs_cond obs_skip obs_exit) rfl (obs_seq (obs_block (obs_seq obs_region rfl (obs_seq obs_region rfl obs_region))) rfl obs_region)))).weaken (EnvLe.cons e0 (EnvLe.cons e1 (EnvLe.cons e2 (EnvLe.cons e6 (EnvLe.cons e7 (EnvLe.cons e24 (EnvLe.cons e25 (EnvLe.nil _)))))))) (Hp.le_refl _)))))) rfl obs_region))).weaken (EnvLe.cons e0 (EnvLe.cons e1 (EnvLe.cons e2 (EnvLe.cons e6 (EnvLe.cons e7 (EnvLe.nil _)))))) (Hp.le_refl _)))))))
def W_kern2_Butterfly (x1 : Int) (x2 : Int) (x3 : Int) (H : Hp) (K : Value → Hp → Prop) : Prop :=
  HCalls Tryz.prog 215 #[.int .u64 x2, .int .u64 x3] H fun v1 H1 => DI .u64 v1 fun x4 => HCalls Tryz.prog 239 #[.int .u64 x1, .int .u64 x4] H1 fun v2 H2 => DI .u64 v2 fun x5 => HCalls Tryz.prog 240 #[.int .u64 x1, .int .u64 x4] H2 fun v3 H3 => DI .u64 v3 fun x6 => K (.tuple #[.int .u64 x5, .int .u64 x6]) H3
theorem W_kern2_Butterfly.ok (x1 : Int) (x2 : Int) (x3 : Int) (H : Hp) (K : Value → Hp → Prop) (h : W_kern2_Butterfly x1 x2 x3 H K) : HCalls Tryz.prog 231 #[.int .u64 x1, .int .u64 x2, .int .u64 x3] H K :=
  hcalls Tryz.func231 rfl (Nat.le_of_ble_eq_true rfl) (hw_safe (Λ := Cuts.none (fun _ => none)) mixWkern2 _ _ _ _ _ (Eq.mp (by kernel_rfl) h) (obs_none _ _ _ _ _))
end Go.Proofs.YtnknippcbecmeaaGreatDoor.W
end
section
/- twid: a row's twiddles; kern2: a stage. -/
namespace Go.Proofs.YtnknippcbecmeaaGreatDoor.Ker
open Go Go.Hw W Shp Gol Fft
def tileN (z : Zp) (l : List UInt64) (n : Nat) : List UInt64 := (List.range n).map fun c => uw (at' l c * pw z c)
def tileL (z : Zp) (l : List UInt64) : List UInt64 := tileN z l l.length
theorem tileN_len (z : Zp) (l : List UInt64) (n : Nat) : (tileN z l n).length = n := by simp [tileN]
theorem tileL_len (z : Zp) (l : List UInt64) : (tileL z l).length = l.length := tileN_len _ _ _
theorem tileN_succ (z : Zp) (l : List UInt64) (n : Nat) : tileN z l (n + 1) = tileN z l n ++ [uw (at' l n * pw z n)] := by
  unfold tileN; rw [List.range_succ, List.map_append]; rfl
theorem reaches_ok {n r : Nat} (hn : 1 ≤ n ∧ n ≤ 1048576) (hr : r ≤ 4294967295) (H : Hp) : HCalls Tryz.prog 219 #[.agg #[.int .i64 1, .int .i64 (n : Int), .int .i64 (r : Int), .int .i64 0]] H (RetE (.bool true) H) := HCalls.ret (by
  have hin : ∀ {x : Nat} (H : Hp), x ≤ 4294967295 → HCalls Tryz.prog 232 #[.int .i64 (x : Int)] H (RetE (.bool true) H) := fun {x} H hx => by
    apply W_twid_inside.ok
    unfold W_twid_inside
    refine BIf_dpos (by omega) ?_
    rw [decide_eq_true (by omega)]
    exact RetE.mk _ _
  apply W_twid_reaches.ok
  unfold W_twid_reaches
  refine (Sep.start H).nw fun b1 H1 hs => ?_
  refine hs.ldf 1 rfl rfl ?_
  simp only [HV]
  refine HCalls.use (hin H1 hr) ?_
  simp only [HV]
  refine hs.ldf 1 rfl rfl ?_
  simp only [HV]
  refine HCalls.use (hin (x := 0) H1 (by omega)) ?_
  simp only [HV]
  refine hs.ldg 1 rfl rfl ?_
  simp only [HV]
  refine hs.ldf 1 rfl rfl ?_
  simp only [HV]
  rw [i64w (x := 1 - 1) (by decide) (by decide), i64w (x := 4294967295 - (r : Int)) (by omega) (by omega)]
  refine BIf_dpos (by omega) ?_
  refine hs.ldg 1 rfl rfl ?_
  simp only [HV]
  refine hs.ldf 1 rfl rfl ?_
  simp only [HV]
  rw [i64w (x := (n : Int) - 1) (by omega) (by omega), i64w (x := 4294967295 - 0) (by decide) (by decide), decide_eq_true (by omega)]
  exact hs.fin 0 rfl _)
section
variable {R TT : As} {A : Option Addr} {n m k r : Nat} {l : List UInt64}
theorem Tile_loop (K : Value → Hp → Prop) (R10 : Option Addr → Nat → Nat → Addr → Int → Option Addr → Nat → Nat → Int → Int → Hp → Prop) (z : Zp) {A5 : Option Addr} {n7 m5 : Nat} {a2 : Addr} {x21 x24 x25 : Int} {A7 : Option Addr} {m7 : Nat} {L : List As}
    (hR : ∀ H, R H → Cells H A7 (wordVals l)) (hl : l.length = n) (hn : n ≤ 1048576)
    (hK : ∀ A' m' H, Sep (Own 60 1 A' n m' (wordVals (tileL z l)) :: R :: L) H → R10 A5 n7 m5 a2 x21 A' n m' x24 (IntKind.i64.wrap (x25 + 1)) H) :
    ∀ (t i : Nat) (A' : Option Addr) (m' : Nat) (H : Hp), i + t = n → Sep (Own 60 1 A' i m' (wordVals (tileN z l i)) :: R :: L) H →
      W_twid_Tile.l15 K R10 (t + 1) A5 n7 m5 a2 x21 A' i m' (z.val : Int) ((pw z i).val : Int) x24 x25 A7 n m7 (n : Int) (i : Int) H
  | 0, i, A', m', H, hi, hs => by
    unfold W_twid_Tile.l15
    obtain rfl : i = n := by omega
    refine BIf_dneg (by omega) (hK A' m' H ?_)
    unfold tileL
    rw [hl]; exact hs
  | t + 1, i, A', m', H, hi, hs => by
    have hc : Cells H A7 (wordVals l) := by
      obtain ⟨H1, h1, hle⟩ := hs.see 1 rfl
      exact (hR H1 h1).le hle
    unfold W_twid_Tile.l15
    refine BIf_dpos (by omega) ?_
    have hil : i < l.length := by omega
    have hg : (wordVals l)[i]? = some (.int .u64 ((l[i]).toNat : Int)) := by
      rw [wordVals_get, List.getElem?_eq_getElem hil]; rfl
    refine hc.read hg rfl (by rw [wordVals_length]; omega) ?_
    simp only [HV]
    refine HCalls.use (Mul_ok (l[i]).toNat_lt (val_lt _) H) ?_
    rw [mulw_val]
    simp only [HV]
    refine hs.app1 0 rfl cell_u64 (by omega) rfl (by omega) (by omega) fun A2 m2 H hs => ?_
    simp only [HV]
    refine HCalls.use (Mul_ok (val_lt _) (val_lt _) H) ?_
    rw [mul_val]
    simp only [HV]
    rw [i64w (x := (i : Int) + 1) (by omega) (by omega), show (i : Int) + 1 = ((i + 1 : Nat) : Int) by omega]
    refine Tile_loop K R10 z hR hl hn hK t (i + 1) A2 m2 H (by omega) ?_
    rw [tileN_succ, show wordVals (tileN z l i ++ [uw (at' l i * pw z i)]) = wordVals (tileN z l i) ++ [.int .u64 ((zw l[i] * pw z i).val : Int)] by
      unfold wordVals; rw [List.map_append, List.map_cons, uw_int, at_get hil]; rfl]
    exact hs
theorem Tile_tr (hT : ∀ H, TT H → T64 H) (hR : ∀ H, R H → Cells H A (wordVals l)) {b : Nat} (hn : n = 2 ^ b) (hb : b ≤ 20) (hl : l.length = n) (hm : n ≤ m) (hk : k ≤ 32) (hr : r ≤ 4294967295) (d : Bool) :
    Tr Tryz.prog 200 #[.slice A n m, .agg #[.int .i64 1, .int .i64 (n : Int), .int .i64 (r : Int), .int .i64 0], .int .i64 (k : Int), .int .i64 (if d = true then 1 else 0)] [R, TT] fun v M =>
      ∃ A' m', v = .tuple #[.slice A' n m', .int .i64 0] ∧ M = [Own 60 1 A' n m' (wordVals (tileL (pw (rtd d k) r) l)), R, TT] := fun H hs => by
  have h20 := pow_le hb
  have h1 := pow_pos b
  apply W_twid_Tile.ok
  unfold W_twid_Tile
  refine hs.nw fun b1 H hs => ?_
  have hs : Sep [R, TT, pts b1 (.obj (.cells #[.int .i64 1, .int .i64 (n : Int), .int .i64 (r : Int), .int .i64 0] 297))] H := hs
  refine HCalls.use (Root_ok hk d H) ?_
  simp only [HV]
  refine BIf_bnen rfl ?_
  simp only [Addr.add_zero]
  refine hs.lda 2 rfl (show 0 + 2 ≤ 4 by omega) ?_
  have hT0 : T64 H := by
    obtain ⟨H1, h1, hle⟩ := hs.see 1 rfl
    exact (hT H1 h1).le hle
  have hg : goodS 1 (n : Int) = true := by
    have := goodS_pow (a := 0) (b := b) (by omega)
    rw [hn]; exact this
  refine HCalls.use (Good_ok 1 (n : Int) H hT0) ?_
  rw [hg]
  simp only [HV]
  refine hs.ld 2 rfl rfl ?_
  simp only [HV]
  refine hs.ldf 2 rfl rfl ?_
  simp only [HV]
  refine BIf_bnen (by rw [i64w (by omega) (by omega)]; omega) ?_
  refine hs.lda 2 rfl (show 0 + 4 ≤ 4 by omega) ?_
  refine HCalls.use (reaches_ok (n := n) (r := r) ⟨by omega, by omega⟩ hr H) ?_
  simp only [HV]
  refine hs.mks cell_u64 rfl (n := 0) (m := n) rfl rfl (by omega) (by omega) (by omega) fun bo H hs => ?_
  simp only [HV]
  refine hs.ld 2 rfl rfl ?_
  simp only [HV]
  have hs : Sep [R, TT, pts b1 (.obj (.cells #[.int .i64 1, .int .i64 (n : Int), .int .i64 (r : Int), .int .i64 0] 297)), Own 60 1 (some ⟨bo, 0, none⟩) 0 n (wordVals (tileN (pw (rtd d k) r) l 0))] H :=
    hs.turn 3 rfl (B := Own 60 1 (some ⟨bo, 0, none⟩) 0 n (wordVals (tileN (pw (rtd d k) r) l 0))) (fun H1 h => ⟨rfl, .inr ⟨bo, n * 1, rfl, h, Nat.le_refl _⟩⟩)
  refine ⟨2, ?_⟩
  unfold W_twid_Tile.l10
  refine BIf_dpos (by decide) ?_
  refine hs.ldf 2 rfl rfl ?_
  simp only [HV]
  rw [show IntKind.u64.wrap (IntKind.i64.wrap ((r : Int) + 0)) = (r : Int) by rw [i64w (by omega) (by omega), u64w (by omega) (by omega)]; omega]
  refine HCalls.use (Pow_ok (val_lt _) (n := r) (by omega) H) ?_
  rw [pow_val, zp_of_val]
  simp only [HV]
  refine hs.ldf 2 rfl rfl ?_
  simp only [HV]
  refine HCalls.use (Pow_ok (val_lt _) (n := 0) (by decide) H) ?_
  rw [pow_val, zp_of_val]
  simp only [HV]
  refine hs.ldf 2 rfl rfl ?_
  simp only [HV]
  refine hs.ldf 2 rfl rfl ?_
  simp only [HV]
  rw [show IntKind.i64.wrap (0 * (n : Int)) = ((0 : Nat) : Int) by rw [Int.zero_mul]; rfl, show IntKind.i64.wrap (IntKind.i64.wrap (0 + 1) * (n : Int)) = (n : Int) by
    rw [show IntKind.i64.wrap (0 + 1) = 1 by decide, i64w (by omega) (by omega)]; omega]
  refine ⟨by omega, by omega, by omega, by omega, ?_⟩
  rw [Int.toNat_natCast, Int.toNat_natCast]
  simp only [Nat.sub_zero]
  refine ⟨n + 1, ?_⟩
  have hR' : ∀ H, R H → Cells H (slA A m 0 1) (wordVals l) := fun H h => (hR H h).shift (by rw [wordVals_length]; omega)
  refine Tile_loop (L := [TT]) _ _ (pw (rtd d k) r) hR' hl (by omega) (fun A' m' H hs => ?_) n 0 (some ⟨bo, 0, none⟩) n H (by omega) (hs.re [3, 0, 1] rfl)
  unfold W_twid_Tile.l10
  refine BIf_dneg (by decide) ?_
  exact ⟨_, ⟨A', m', rfl, rfl⟩, hs⟩
end
theorem Butterfly_ok (x y p : Zp) (H : Hp) : HCalls Tryz.prog 231 #[.int .u64 ((uw x).toNat : Int), .int .u64 ((uw y).toNat : Int), .int .u64 ((uw p).toNat : Int)] H (RetE (.tuple #[.int .u64 ((uw (x + y * p)).toNat : Int), .int .u64 ((uw (x - y * p)).toNat : Int)]) H) := by
  apply W_kern2_Butterfly.ok
  unfold W_kern2_Butterfly
  simp only [uw_int]
  refine HCalls.use (Mul_ok (val_lt _) (val_lt _) H) ?_
  rw [mul_val]
  simp only [HV]
  refine HCalls.use (Add_ok (val_lt _) (val_lt _) H) ?_
  simp only [HV]
  refine HCalls.use (Sub_ok (val_lt _) (val_lt _) H) ?_
  simp only [HV]
  have e1 : (x.val + (y * p).val) % 18446744069414584321 = (x + y * p).val := (Fin.val_add x (y * p)).symm
  have e2 : sub x.val (y * p).val = (x - y * p).val := by
    have h1 := x.isLt
    have h2 := (y * p).isLt
    rw [Fin.sub_def]
    show (x.val + (18446744069414584321 - (y * p).val % 18446744069414584321) % 18446744069414584321) % 18446744069414584321 = (18446744069414584321 - (y * p).val + x.val) % 18446744069414584321
    omega
  rw [e1, e2]
  exact RetE.mk _ _
theorem row_get {xs : List Value} {ws : List UInt64} {off p : Nat} (h : off + ws.length ≤ xs.length) (hp : p < ws.length) : (setAt xs off (wordVals ws))[off + p]? = some (.int .u64 ((ws[p]).toNat : Int)) := by
  rw [setAt_get (by rw [wordVals_length]; exact h), if_neg (by omega), wordVals_length, if_pos (by omega), Nat.add_sub_cancel_left, wordVals_get, List.getElem?_eq_getElem hp]; rfl
theorem row_len {xs : List Value} {ws : List UInt64} {off : Nat} (h : off + ws.length ≤ xs.length) : (setAt xs off (wordVals ws)).length = xs.length := setAt_length (by rw [wordVals_length]; exact h)
theorem row_set {xs : List Value} {ws : List UInt64} {off p : Nat} (h : off + ws.length ≤ xs.length) (hp : p < ws.length) (w : UInt64) : (setAt xs off (wordVals ws)).set (off + p) (.int .u64 (w.toNat : Int)) = setAt xs off (wordVals (ws.set p w)) := by
  apply List.ext_getElem?
  intro j
  rw [List.getElem?_set, row_len h, setAt_get (by rw [wordVals_length]; exact h), setAt_get (by rw [wordVals_length, List.length_set]; exact h), wordVals_length, wordVals_length, List.length_set]
  by_cases e : off + p = j
  · subst e
    rw [if_pos rfl, if_pos (by omega), if_neg (by omega), if_pos (by omega), Nat.add_sub_cancel_left, wordVals_get, List.getElem?_set, if_pos rfl, if_pos hp]; rfl
  · rw [if_neg e]
    by_cases h1 : j < off
    · rw [if_pos h1, if_pos h1]
    · rw [if_neg h1, if_neg h1]
      by_cases h2 : j < off + ws.length
      · rw [if_pos h2, if_pos h2, wordVals_get, wordVals_get, List.getElem?_set, if_neg (by omega)]
      · rw [if_neg h2, if_neg h2]
section
variable {w : Zp} {k : Nat} {l : Nat → Zp} {s : Nat} {b off mm n m n2 m2 : Nat} {xs : List Value} {e : TypeId} {R : As} {A : Option Addr}
theorem stage_in (K : Value → Hp → Prop) (R2 : Option Addr → Nat → Nat → Option Addr → Nat → Nat → Int → Int → Int → Hp → Prop) (hn : n = 2 ^ k) (hk : k ≤ 20) (hsk : s < k) (hw : pw w (2 ^ (k - 1)) = -1) (hx : off + n ≤ xs.length) (hR : ∀ H, R H → Cells H A (wordVals (pwsL w (2 ^ (k - 1))))) (hn2 : n2 = 2 ^ (k - 1)) (bl : Nat) (hbl : bl * (2 * 2 ^ s) + 2 * 2 ^ s ≤ n)
    (hK : ∀ H, Sep [pts b (.row (setAt xs off (wordVals (stL w k l s (dn (2 ^ s) (bl + 1) 0)))) e mm), R] H → R2 (some ⟨b, off, none⟩) n m A n2 m2 ((2 ^ s : Nat) : Int) ((2 ^ (k - s - 1) : Nat) : Int) (IntKind.i64.wrap (((bl * (2 * 2 ^ s) : Nat) : Int) + IntKind.i64.wrap ((2 : Int) * ((2 ^ s : Nat) : Int)))) H) :
    ∀ (t i : Nat) (H : Hp), i + t = 2 ^ s → Sep [pts b (.row (setAt xs off (wordVals (stL w k l s (dn (2 ^ s) bl i)))) e mm), R] H →
      W_kern2_stage.l5 K R2 (t + 1) (some ⟨b, off, none⟩) n m A n2 m2 ((2 ^ s : Nat) : Int) ((2 ^ (k - s - 1) : Nat) : Int) ((bl * (2 * 2 ^ s) : Nat) : Int) ((2 ^ s : Nat) : Int) (i : Int) H
  | 0, i, H, hi, hs => by
    unfold W_kern2_stage.l5
    refine BIf_dneg (by omega) (hK H ?_)
    rw [← stL_next, ← show i = 2 ^ s by omega]
    rw [show dn i bl i = dn (2 ^ s) bl i by rw [show i = 2 ^ s by omega]]
    exact hs
  | t + 1, i, H, hi, hs => by
    have h20 := pow_le hk
    have hst : i * 2 ^ (k - s - 1) < 2 ^ (k - 1) := by
      have h1 : 2 ^ (k - 1) = 2 ^ s * 2 ^ (k - s - 1) := by rw [← Nat.pow_add]; congr 1; omega
      rw [h1]
      exact Nat.mul_lt_mul_of_pos_right (by omega) (pow_pos _)
    have h19 := pow_le (show k - 1 ≤ 19 by omega)
    have e3 : IntKind.i64.wrap ((i : Int) * ((2 ^ (k - s - 1) : Nat) : Int)) = ((i * 2 ^ (k - s - 1) : Nat) : Int) := by
      rw [← Int.natCast_mul, i64n (by omega)]
    have ih := fun H => stage_in K R2 hn hk hsk hw hx hR hn2 bl hbl hK t (i + 1) H (by omega)
    obtain ⟨g1, g2⟩ := stg_step w k l hsk hw bl i (by omega)
    have hset := stL_step (w := w) (k := k) (l := l) (s := s) (b := bl) (i := i) (2 ^ s) (by omega) (by omega)
    rw [g1, g2] at hset
    have hlen := stL_len w k l s (dn (2 ^ s) bl i)
    obtain ⟨d1, d2⟩ := dn_here (2 ^ s) bl i (by omega)
    have ga0 := stL_get w k l s (dn (2 ^ s) bl i) (p := bl * (2 * 2 ^ s) + i) (by omega)
    have gb0 := stL_get w k l s (dn (2 ^ s) bl i) (p := bl * (2 * 2 ^ s) + i + 2 ^ s) (by omega)
    rw [d1, if_neg (by decide)] at ga0
    rw [d2, if_neg (by decide)] at gb0
    generalize stg w k l s (bl * (2 * 2 ^ s) + i) = va at *
    generalize stg w k l s (bl * (2 * 2 ^ s) + i + 2 ^ s) = vb at *
    generalize stL w k l s (dn (2 ^ s) bl i) = ws at *
    generalize hf : bl * (2 * 2 ^ s) = f at *
    generalize hh : 2 ^ s = h at *
    have hpg := pwsL_get w hst
    generalize i * 2 ^ (k - s - 1) = q at *
    have e1 : IntKind.i64.wrap ((f : Int) + (i : Int)) = ((f + i : Nat) : Int) := by rw [← Int.natCast_add, i64n (by omega)]
    have e2 : IntKind.i64.wrap (((f + i : Nat) : Int) + (h : Int)) = ((f + i + h : Nat) : Int) := by rw [← Int.natCast_add, i64n (by omega)]
    have hc : Cells H A (wordVals (pwsL w (2 ^ (k - 1)))) := by
      obtain ⟨H1, h1, hle⟩ := hs.see 1 rfl
      exact (hR H1 h1).le hle
    have hpv : (wordVals (pwsL w (2 ^ (k - 1))))[q]? = some (.int .u64 ((uw (pw w q)).toNat : Int)) := by rw [wordVals_get, hpg]; rfl
    obtain ⟨a3, rfl, hcell⟩ := hc q _ hpv
    unfold W_kern2_stage.l5
    refine BIf_dpos (by omega) ?_
    simp only [e1, e2, e3, NN_some, Int.toNat_natCast, Nat.mul_one, Addr.add_lit', Addr.add_zero]
    refine ⟨by omega, by omega, by omega, by omega, by omega, by omega, ?_⟩
    have hla : f + i < ws.length := by omega
    have hlb : f + i + h < ws.length := by omega
    have ga : (setAt xs off (wordVals ws))[off + (f + i)]? = some (.int .u64 ((uw va).toNat : Int)) := by
      rw [row_get (by omega) hla]
      rw [List.getElem?_eq_getElem hla] at ga0
      rw [Option.some.inj ga0]
    have gb : (setAt xs off (wordVals ws))[off + (f + i + h)]? = some (.int .u64 ((uw vb).toNat : Int)) := by
      rw [row_get (by omega) hlb]
      rw [List.getElem?_eq_getElem hlb] at gb0
      rw [Option.some.inj gb0]
    repeat' first
      | refine ⟨?_, ?_⟩
      | (refine hs.ldr 0 rfl ga ?_; simp only [HV])
      | (refine hs.ldr 0 rfl gb ?_; simp only [HV])
      | (refine Ld_of hcell ?_; simp only [HV])
    all_goals
      refine HCalls.use (Butterfly_ok va vb (pw w q) H) ?_
      simp only [HV]
      refine ⟨by omega, by omega, ?_⟩
      refine hs.str 0 (j := off + (f + i)) rfl (by rw [row_len (by omega)]; omega) rfl fun H hs => ?_
      rw [row_set (by omega) hla] at hs
      refine ⟨by omega, by omega, ?_⟩
      refine hs.str 0 (j := off + (f + i + h)) rfl (by rw [row_len (by rw [List.length_set]; omega)]; omega) rfl fun H hs => ?_
      rw [row_set (by rw [List.length_set]; omega) (by rw [List.length_set]; exact hlb), hset] at hs
      rw [i64w (x := (i : Int) + 1) (by omega) (by omega), show (i : Int) + 1 = ((i + 1 : Nat) : Int) by omega]
      exact ih H hs
theorem stage_tr (hn : n = 2 ^ k) (hk : k ≤ 20) (hsk : s < k) (hw : pw w (2 ^ (k - 1)) = -1) (hx : off + n ≤ xs.length) (hR : ∀ H, R H → Cells H A (wordVals (pwsL w (2 ^ (k - 1))))) (hn2 : n2 = 2 ^ (k - 1)) (h' : Nat) :
    Tr Tryz.prog 218 #[.slice (some ⟨b, off, none⟩) n m, .slice A n2 m2, .int .i64 ((2 ^ s : Nat) : Int)] [pts b (.row (setAt xs off (wordVals (stL w k l s (dn (2 ^ s) 0 0)))) e mm), R] fun v M =>
      v = .tuple #[] ∧ M = [pts b (.row (setAt xs off (wordVals (stL w k l (s + 1) (dn h' 0 0)))) e mm), R] := fun H hs => by
  have h20 := pow_le hk
  have hp := pow_pos s
  have hsk2 := pow_le (show s + 1 ≤ k by omega)
  rw [Nat.pow_succ] at hsk2
  have hdv : 2 ^ k = 2 ^ (k - s - 1) * (2 * 2 ^ s) := by
    rw [show 2 * 2 ^ s = 2 ^ (s + 1) by rw [Nat.pow_succ]; omega, ← Nat.pow_add]; congr 1; omega
  apply W_kern2_stage.ok
  unfold W_kern2_stage
  have e0 : IntKind.i64.wrap ((2 : Int) * ((2 ^ s : Nat) : Int)) = ((2 * 2 ^ s : Nat) : Int) := by rw [i64w (by omega) (by omega)]; omega
  have e1 : IntKind.i64.wrap (Int.tdiv (n : Int) ((2 * 2 ^ s : Nat) : Int)) = ((2 ^ (k - s - 1) : Nat) : Int) := by
    rw [show Int.tdiv (n : Int) ((2 * 2 ^ s : Nat) : Int) = ((n / (2 * 2 ^ s) : Nat) : Int) from rfl, hn, hdv, Nat.mul_div_cancel _ (by omega), i64n (by have := pow_le (show k - s - 1 ≤ 19 by omega); omega)]
  rw [e0, e1]
  refine ⟨by omega, by simp, ⟨2 ^ (k - s - 1) + 1, ?_⟩⟩
  have key : ∀ (t bl : Nat) (H : Hp), bl + t = 2 ^ (k - s - 1) → Sep [pts b (.row (setAt xs off (wordVals (stL w k l s (dn (2 ^ s) bl 0)))) e mm), R] H →
      W_kern2_stage.l2 (fun v H' => ∃ M, (v = .tuple #[] ∧ M = [pts b (.row (setAt xs off (wordVals (stL w k l (s + 1) (dn h' 0 0)))) e mm), R]) ∧ Sep M H') (t + 1) (some ⟨b, off, none⟩) n m A n2 m2 ((2 ^ s : Nat) : Int) ((2 ^ (k - s - 1) : Nat) : Int) ((bl * (2 * 2 ^ s) : Nat) : Int) H := fun t => by
    induction t with
    | zero =>
      intro bl H hb hs
      unfold W_kern2_stage.l2
      refine BIf_dneg (by rw [hn, hdv, show bl = 2 ^ (k - s - 1) by omega]; omega) ⟨_, ⟨rfl, rfl⟩, ?_⟩
      rw [← stL_end (2 ^ s) h' (b := bl) (by rw [hdv, show bl = 2 ^ (k - s - 1) by omega]; exact Nat.le_refl _)]
      exact hs
    | succ t ih =>
      intro bl H hb hs
      have hfit : bl * (2 * 2 ^ s) + 2 * 2 ^ s ≤ n := by
        rw [hn, hdv, ← Nat.succ_mul]
        exact Nat.mul_le_mul_right _ (by omega)
      unfold W_kern2_stage.l2
      refine BIf_dpos (by omega) ⟨2 ^ s + 1, ?_⟩
      refine stage_in _ _ hn hk hsk hw hx hR hn2 bl hfit (fun H hs => ?_) (2 ^ s) 0 H (by omega) hs
      rw [e0, ← Int.natCast_add, i64n (by omega), ← show (bl + 1) * (2 * 2 ^ s) = bl * (2 * 2 ^ s) + 2 * 2 ^ s by rw [Nat.add_mul bl 1, Nat.one_mul]]
      exact ih (bl + 1) H (by omega) hs
  have := key (2 ^ (k - s - 1)) 0 H (by omega) hs
  rw [Nat.zero_mul] at this
  exact this
end
end Go.Proofs.YtnknippcbecmeaaGreatDoor.Ker
end
section
/- kern2: New, Plain. -/
namespace Go.Proofs.YtnknippcbecmeaaGreatDoor.Ker
open Go Go.Hw W Shp Gol Fft
theorem Sep.ex {α : Type} {L : List As} {H : Hp} (h : Sep L H) (i : Nat) {F : α → As} (hi : L[i]? = some fun H => ∃ x, F x H) : ∃ x, Sep (L.set i (F x)) H := by
  induction L generalizing i H with
  | nil => simp at hi
  | cons C L ih =>
    obtain ⟨H1, H2, h1, h2, h3, h4, h5⟩ := h
    cases i with
    | zero =>
      simp only [List.getElem?_cons_zero, Option.some.injEq] at hi
      subst hi
      obtain ⟨x, hx⟩ := h4
      exact ⟨x, H1, H2, h1, h2, h3, hx, h5⟩
    | succ i =>
      obtain ⟨x, hx⟩ := ih h5 i hi
      exact ⟨x, H1, H2, h1, h2, h3, h4, hx⟩
def knC (A0 A1 : Option Addr) (h : Nat) (sh : Int) (k : Nat) : Array Value := #[.slice A0 h h, .slice A1 h h, .int .u64 sh, .int .i64 (k : Int)]
def KnT (kp k : Nat) (x : Option Addr × Option Addr × Int) : As := fun H => H kp = some (.obj (.cells (knC x.1 x.2.1 (2 ^ (k - 1)) x.2.2 k) 262)) ∧ Cells H x.1 (wordVals (pwsL (rtd false k) (2 ^ (k - 1)))) ∧ Cells H x.2.1 (wordVals (pwsL (rtd true k) (2 ^ (k - 1))))
def Kn (kp k : Nat) : As := fun H => ∃ x, KnT kp k x H
theorem KnT.up {kp k : Nat} {x : Option Addr × Option Addr × Int} {H H' : Hp} (h : KnT kp k x H) (l : H.le H') : KnT kp k x H' := by
  obtain ⟨h1, h2, h3⟩ := h
  exact ⟨l _ _ h1, h2.le l, h3.le l⟩
theorem Sep.knT {L : List As} {H : Hp} (h : Sep L H) (i : Nat) {kp k : Nat} {x : Option Addr × Option Addr × Int} (hi : L[i]? = some (KnT kp k x)) : KnT kp k x H := by
  obtain ⟨H1, h1, h2⟩ := h.see i hi
  exact h1.up h2
def pick (x : Option Addr × Option Addr × Int) (d : Bool) : Option Addr := if d = true then x.2.1 else x.1
theorem KnT.cells {kp k : Nat} {x : Option Addr × Option Addr × Int} {H : Hp} (h : KnT kp k x H) (d : Bool) : Cells H (pick x d) (wordVals (pwsL (rtd d k) (2 ^ (k - 1)))) := by
  cases d
  · exact h.2.1
  · exact h.2.2
theorem New_tr (k : Nat) (hk : k ≤ 20) : Tr Tryz.prog 138 #[.int .i64 (k : Int)] [] fun v M => ∃ kp, v = .pointer (some ⟨kp, 0, none⟩) ∧ M = [Kn kp k] := fun H hs => by
  apply W_kern2_New.ok
  unfold W_kern2_New
  refine BIf_dneg (by omega) (BIf_dneg (by omega) ?_)
  refine hs.nw fun kp H hs => ?_
  have hs : Sep [pts kp (.obj (.cells #[.slice none 0 0, .slice none 0 0, .int .u64 0, .int .i64 (k : Int)] 262))] H := hs
  refine ⟨3, ?_⟩
  unfold W_kern2_New.l5
  refine BIf_dpos (by decide) ?_
  refine (Table_tr k hk false).use hs [] rfl rfl ?_
  rintro _ _ H ⟨r0, rfl, rfl⟩ hs
  simp only [HV]
  refine ⟨by decide, by decide, ?_⟩
  simp only [Addr.add_lit']
  refine hs.st 1 rfl (Nat.lt_of_sub_eq_succ rfl) rfl fun H hs => ?_
  rw [show IntKind.i64.wrap (0 + 1) = 1 by decide]
  unfold W_kern2_New.l5
  refine BIf_dpos (by decide) ?_
  refine (Table_tr k hk true).use hs [] rfl rfl ?_
  rintro _ _ H ⟨r1, rfl, rfl⟩ hs
  simp only [HV]
  refine ⟨by decide, by decide, ?_⟩
  simp only [Addr.add_lit']
  refine hs.st 2 rfl (Nat.lt_of_sub_eq_succ rfl) rfl fun H hs => ?_
  rw [show IntKind.i64.wrap (1 + 1) = 2 by decide]
  unfold W_kern2_New.l5
  refine BIf_dneg (by decide) ?_
  refine HCalls.use (Share_ok (k := k) (by omega) H) ?_
  simp only [HV]
  simp only [Addr.add_lit']
  refine hs.st 2 rfl (Nat.lt_of_sub_eq_succ rfl) rfl fun H hs => ?_
  have hs : Sep [pts r1 (.row (wordVals (pwsL (rtd true k) (2 ^ (k - 1)))) 60 (2 ^ (k - 1) * 1)), pts r0 (.row (wordVals (pwsL (rtd false k) (2 ^ (k - 1)))) 60 (2 ^ (k - 1) * 1)),
    pts kp (.obj (.cells (knC (some ⟨r0, 0, none⟩) (some ⟨r1, 0, none⟩) (2 ^ (k - 1)) ((pw half k).val : Int) k) 262))] H := hs
  have hcell : ∀ {r : Nat} {d : Bool}, H r = some (.row (wordVals (pwsL (rtd d k) (2 ^ (k - 1)))) 60 (2 ^ (k - 1) * 1)) → Cells H (some ⟨r, 0, none⟩) (wordVals (pwsL (rtd d k) (2 ^ (k - 1)))) := fun {r d} h => by
    have := Cells.row h 0 (2 ^ (k - 1))
    rw [List.drop_zero, List.take_of_length_le (by rw [wordVals_length, pwsL_len]; exact Nat.le_refl _)] at this
    exact this
  exact ⟨[Kn kp k], ⟨kp, rfl, rfl⟩, H, fun _ => none, Hp.le_refl _, fun _ _ h => (nomatch h), fun _ => .inr rfl, ⟨(some ⟨r0, 0, none⟩, some ⟨r1, 0, none⟩, ((pw half k).val : Int)), hs.get 2 rfl, hcell (hs.get 1 rfl), hcell (hs.get 0 rfl)⟩, trivial⟩
theorem table_ok {kp k : Nat} {x : Option Addr × Option Addr × Int} {H : Hp} (h : KnT kp k x H) (d : Bool) : HCalls Tryz.prog 216 #[.pointer (some ⟨kp, 0, none⟩), .int .i64 (if d = true then 1 else 0)] H (RetE (.tuple #[.slice (pick x d) (2 ^ (k - 1)) (2 ^ (k - 1)), .bool true]) H) := by
  obtain ⟨h1, h2, h3⟩ := h
  cases d
  · apply W_kern2_tables_table.ok
    unfold W_kern2_tables_table
    refine BIf_dneg (by decide) (BIf_dneg (by decide) ?_)
    simp only [NN_some]
    refine ⟨by decide, by decide, ?_⟩
    simp only [Addr.add_lit']
    refine Ld_of (v := .slice x.1 (2 ^ (k - 1)) (2 ^ (k - 1))) ?_ ?_
    · show H.cell? ⟨kp, 0, none⟩ = _
      rw [cell_obj h1]; rfl
    · simp only [HV]
      exact RetE.mk _ _
  · apply W_kern2_tables_table.ok
    unfold W_kern2_tables_table
    refine BIf_dneg (by decide) (BIf_dneg (by decide) ?_)
    simp only [NN_some]
    refine ⟨by decide, by decide, ?_⟩
    simp only [Addr.add_lit']
    refine Ld_of (v := .slice x.2.1 (2 ^ (k - 1)) (2 ^ (k - 1))) ?_ ?_
    · show H.cell? ⟨kp, 1, none⟩ = _
      rw [cell_obj h1]; rfl
    · simp only [HV]
      exact RetE.mk _ _
theorem seg_cells {H : Hp} {b off mm : Nat} {xs : List Value} {ws : List UInt64} {e : TypeId} (h : H b = some (.row (setAt xs off (wordVals ws)) e mm)) (hx : off + ws.length ≤ xs.length) : Cells H (some ⟨b, off, none⟩) (wordVals ws) := by
  have h1 := Cells.row h off ws.length
  have e1 : ((setAt xs off (wordVals ws)).drop off).take ws.length = wordVals ws := by
    apply List.ext_getElem?
    intro j
    rw [List.getElem?_take]
    by_cases hj : j < ws.length
    · rw [if_pos hj, List.getElem?_drop, row_get hx hj, wordVals_get, List.getElem?_eq_getElem hj]; rfl
    · rw [if_neg hj, List.getElem?_eq_none (by rw [wordVals_length]; omega)]
  rw [e1] at h1
  exact h1
section
variable {TT : As} {kp k b off mm n m : Nat} {l : List UInt64} {xs : List Value} {e : TypeId} {d : Bool}
theorem of_loop (K : Value → Hp → Prop) (hn : n = l.length) (hn20 : n ≤ 1048576) (hx : off + n ≤ xs.length) {A5 : Option Addr} {n5 m5 r mr : Nat} {tl : List UInt64} (htl : tl.length = n) {L : List As}
    (hK : ∀ H, Sep (pts b (.row (setAt xs off (wordVals (tl.map fun x => uw (zw x)))) e mm) :: L) H → ∃ f, W_kern2_Kernel_Plain.l13 K f (some ⟨b, off, none⟩) n m A5 n5 m5 1 H) :
    ∀ (t i : Nat) (H : Hp), i + t = n → Sep (pts b (.row (setAt xs off (wordVals ((tl.take i).map (fun x => uw (zw x)) ++ l.drop i))) e mm) :: pts r (.row (wordVals tl) 60 mr) :: L) H →
      W_kern2_Kernel_Plain.l8 K (t + 1) (some ⟨b, off, none⟩) n m A5 n5 m5 (some ⟨r, 0, none⟩) n n (n : Int) (i : Int) H
  | 0, i, H, hi, hs => by
    unfold W_kern2_Kernel_Plain.l8
    refine BIf_dneg (by omega) (hK H ?_)
    rw [List.take_of_length_le (by omega), List.drop_eq_nil_of_le (by omega), List.append_nil] at hs
    obtain ⟨H1, H2, h1, h2, h3, h4, h5⟩ := hs
    exact ⟨H1, H2, h1, h2, h3, h4, h5.tail⟩
  | t + 1, i, H, hi, hs => by
    unfold W_kern2_Kernel_Plain.l8
    refine BIf_dpos (by omega) ?_
    have hil : i < tl.length := by omega
    refine ⟨by omega, by omega, ?_⟩
    show Ld H _ _
    rw [Int.toNat_natCast, Nat.mul_one, Addr.add_lit', Nat.zero_add]
    refine hs.ldr 1 (v := .int .u64 ((tl[i]).toNat : Int)) rfl (by rw [wordVals_get, List.getElem?_eq_getElem hil]; rfl) ?_
    simp only [HV]
    refine HCalls.use (Of_ok (tl[i]).toNat_lt H) ?_
    simp only [HV]
    have hlen : ((tl.take i).map (fun x => uw (zw x)) ++ l.drop i).length = n := by rw [List.length_append, List.length_map, List.length_take, List.length_drop]; omega
    refine ⟨by omega, by omega, ?_⟩
    rw [Addr.add_lit', Addr.add_zero]
    refine hs.str 0 rfl (by rw [row_len (by omega)]; omega) rfl fun H hs => ?_
    have e1 : (setAt xs off (wordVals ((tl.take i).map (fun x => uw (zw x)) ++ l.drop i))).set (off + i) (.int .u64 (((tl[i]).toNat % 18446744069414584321 : Nat) : Int)) = setAt xs off (wordVals ((tl.take (i + 1)).map (fun x => uw (zw x)) ++ l.drop (i + 1))) := by
      have : (((tl[i]).toNat % 18446744069414584321 : Nat) : Int) = ((uw (zw tl[i])).toNat : Int) := by rw [uw_int]; rfl
      rw [this, row_set (by omega) (by omega)]
      congr 2
      have hlt : ((tl.take i).map (fun x => uw (zw x))).length = i := by rw [List.length_map, List.length_take]; omega
      rw [List.set_append_right _ _ (by omega), hlt, Nat.sub_self, List.take_add_one, List.getElem?_eq_getElem hil]
      simp only [Option.toList, List.map_append, List.append_assoc]
      congr 1
      rw [List.drop_eq_getElem_cons (show i < l.length by omega)]
      rfl
    rw [e1] at hs
    rw [i64w (x := (i : Int) + 1) (by omega) (by omega), show (i : Int) + 1 = ((i + 1 : Nat) : Int) by omega]
    exact of_loop K hn hn20 hx htl hK t (i + 1) H (by omega) hs
theorem Plain_tr (hT : ∀ H, TT H → T64 H) (hk : k ≤ 20) (hn : n = 2 ^ k) (hl : l.length = n) (hx : off + n ≤ xs.length) (hseg : setAt xs off (wordVals l) = xs) (d : Bool) :
    Tr Tryz.prog 199 #[.pointer (some ⟨kp, 0, none⟩), .slice (some ⟨b, off, none⟩) n m, .int .i64 (if d = true then 1 else 0)] [pts b (.row xs e mm), Kn kp k, TT] fun v M =>
      v = .int .i64 0 ∧ M = [pts b (.row (setAt xs off (wordVals (dftL d k l))) e mm), Kn kp k, TT] := fun H hs => by
  have h20 := pow_le hk
  have h1 := pow_pos k
  apply W_kern2_Kernel_Plain.ok
  unfold W_kern2_Kernel_Plain
  simp only [NN_some]
  obtain ⟨x, hs⟩ := Sep.ex hs 1 rfl
  have hs : Sep [pts b (.row xs e mm), KnT kp k x, TT] H := hs
  have hkn := (Sep.knT hs 1 rfl).1
  refine Ld_of (v := .int .i64 (k : Int)) ?_ ?_
  · show H.cell? ((⟨kp, 0, none⟩ : Addr).add 3) = _
    rw [Addr.add_lit', cell_obj hkn]; rfl
  simp only [HV]
  rw [u64n (by omega)]
  refine ⟨by omega, ?_⟩
  have e1 : shlI .i64 1 (k : Int) = (n : Int) := by
    have : ∀ k : Nat, k < 21 → shlI .i64 1 (k : Int) = ((2 ^ k : Nat) : Int) := by decide +kernel
    rw [this k (by omega), hn]
  rw [e1]
  refine BIf_bnen rfl ?_
  simp only [Addr.add_zero]
  refine HCalls.use (table_ok (Sep.knT hs 1 rfl) d) ?_
  simp only [HV]
  have hc : ∀ H, pts b (.row xs e mm) H → Cells H (some ⟨b, off, none⟩) (wordVals l) := fun H h => by
    have h : H b = some (.row xs e mm) := h
    rw [← hseg] at h
    exact seg_cells h (by omega)
  refine (Turn_tr (n := n) (m := m) (k := k) (l := l) hT hc hn hl hk).use hs [0, 2] rfl rfl ?_
  rintro _ _ H ⟨r, rfl, rfl⟩ hs
  simp only [HV]
  have hs : Sep [pts r (.row (wordVals (turnL k l)) 60 (n * 1)), pts b (.row xs e mm), TT, KnT kp k x] H := hs
  refine ⟨n + 1, ?_⟩
  have htl : (turnL k l).length = n := by rw [hn]; simp [turnL]
  refine of_loop (L := [TT, KnT kp k x]) (mr := n * 1) (e := e) (mm := mm) _ hl.symm (by omega) hx htl (fun H hs => ?_) n 0 H (by omega) ?_
  · rw [stL_zero (rtd d k) k l 1] at hs
    refine ⟨k + 1, ?_⟩
    have key : ∀ (t s : Nat) (H : Hp), s + t = k → Sep [pts b (.row (setAt xs off (wordVals (stL (rtd d k) k (at' l) s (dn (2 ^ s) 0 0)))) e mm), TT, KnT kp k x] H →
        W_kern2_Kernel_Plain.l13 (fun v H' => ∃ M, (v = .int .i64 0 ∧ M = [pts b (.row (setAt xs off (wordVals (dftL d k l))) e mm), Kn kp k, TT]) ∧ Sep M H') (t + 1) (some ⟨b, off, none⟩) n m (pick x d) (2 ^ (k - 1)) (2 ^ (k - 1)) ((2 ^ s : Nat) : Int) H := fun t => by
      induction t with
      | zero =>
        intro s H hst hs
        obtain rfl : s = k := by omega
        unfold W_kern2_Kernel_Plain.l13
        refine BIf_dneg (by omega) ⟨_, ⟨rfl, rfl⟩, ?_⟩
        rw [stL_dft] at hs
        have hs := hs.re [0, 2, 1] rfl
        exact hs.turn 1 rfl (B := Kn kp s) fun H1 h => ⟨x, h⟩
      | succ t ih =>
        intro s H hst hs
        have hsk : 2 ^ s < 2 ^ k := Nat.pow_lt_pow_right (by omega) (by omega)
        have hsp := pow_pos s
        unfold W_kern2_Kernel_Plain.l13
        refine BIf_dpos (by omega) ?_
        have hw : pw (rtd d k) (2 ^ (k - 1)) = -1 := rtd_neg d (by omega) (by omega)
        refine (stage_tr (m := m) (m2 := 2 ^ (k - 1)) (A := pick x d) (R := KnT kp k x) (l := at' l) (s := s) (mm := mm) hn hk (by omega) hw hx (fun H h => h.cells d) rfl (2 ^ (s + 1))).use hs [0, 2] rfl rfl ?_
        rintro _ _ H ⟨rfl, rfl⟩ hs
        rw [i64w (by omega) (by omega), show ((2 ^ s : Nat) : Int) * 2 = ((2 ^ (s + 1) : Nat) : Int) by rw [Nat.pow_succ]; omega]
        exact ih (s + 1) H (by omega) (hs.re [0, 2, 1] rfl)
    exact key k 0 H (by omega) hs
  · rw [List.take_zero, List.map_nil, List.nil_append, List.drop_zero, hseg]
    exact hs.re [1, 0, 2, 3] rfl
end
end Go.Proofs.YtnknippcbecmeaaGreatDoor.Ker
end
section
/- Formulas of functions, printed by wip/tools/hwp.py. -/
namespace Go.Proofs.YtnknippcbecmeaaGreatDoor.W
open Go Go.Hw
theorem mixWturn : Tryz.prog.follows .mixedOrders = true := by kernel_rfl
def W_turn_Cost.j6 (K : Value → Hp → Prop) (x17 : Int) (a1 : Addr) (a2 : Addr) (x18 : Int) (x19 : Int) (a3 : Addr) (H : Hp) : Prop :=
  Ld H (a1.add 0) fun v15 => DI .i64 v15 fun x20 => BIf (decide ((IntKind.i64.wrap (x18 * x20)) < x17)) (Ld H (a3.add 0) fun v16 => DI .i64 v16 fun x21 => St H ((a3.add 0).add 0) (.int .i64 (IntKind.i64.wrap (x21 + x19))) fun H16 => LdA H16 a3 3 fun l5 => StA H16 a2 l5.toArray 3 fun H17 => LdA H17 a2 3 fun l8 => K (.tuple #[.agg l8.toArray, .int .i64 0]) H17) (LdA H a3 3 fun l6 => StA H a2 l6.toArray 3 fun H18 => LdA H18 a2 3 fun l9 => K (.tuple #[.agg l9.toArray, .int .i64 0]) H18)
def W_turn_Cost (x1 : Int) (x2 : Int) (x3 : Int) (x4 : Int) (H : Hp) (K : Value → Hp → Prop) : Prop :=
  Nw H (.obj (.cells #[.int .i64 x1, .int .i64 x2] 59)) fun b1 H1 => Nw H1 (.obj (.cells #[.int .i64 0, .int .i64 0, .int .i64 0] 43)) fun b2 H2 => LdA H2 (⟨b1, 0, none⟩ : Addr) 2 fun l1 => HCalls Tryz.prog 91 #[.agg l1.toArray, .int .i64 x3, .int .i64 x4] H2 fun v1 H3 => DTup v1 fun l2 => DCons l2 fun v2 l3 => DI .i64 v2 fun x5 => DCons l3 fun v3 l4 => DB v3 fun c1 => DNil l4 (BIf (!c1) (StA H3 (⟨b2, 0, none⟩ : Addr) #[.int .i64 0, .int .i64 0, .int .i64 0] 3 fun H4 => LdA H4 (⟨b2, 0, none⟩ : Addr) 3 fun l7 => K (.tuple #[.agg l7.toArray, .int .i64 6]) H4) (Ld H3 ((⟨b1, 0, none⟩ : Addr).add 1) fun v4 => DI .i64 v4 fun x6 => (x5 ≠ 0 ∧ IntKind.i64 = IntKind.i64 ∧ (x3 ≠ 0 ∧ IntKind.i64 = IntKind.i64 ∧ (Ld H3 ((⟨b1, 0, none⟩ : Addr).add 0) fun v5 => DI .i64 v5 fun x7 => (Ld H3 ((⟨b1, 0, none⟩ : Addr).add 0) fun v6 => DI .i64 v6 fun x8 => (x3 ≠ 0 ∧ IntKind.i64 = IntKind.i64 ∧ Nw H3 (.obj (.cells #[.int .i64 0, .int .i64 0, .int .i64 0] 43)) fun b3 H5 => StA H5 (⟨b3, 0, none⟩ : Addr) #[.int .i64 (IntKind.i64.wrap ((IntKind.i64.wrap ((IntKind.i64.wrap (Int.tdiv x6 x5)) * x7)) * (if (IntKind.i64.wrap (Int.tdiv x5 x3)) > (1 : Int) then (IntKind.i64.wrap (Int.tdiv x5 x3)) else (1 : Int)))), .int .i64 (IntKind.i64.wrap ((IntKind.i64.wrap (Int.tdiv x6 x5)) * (if (IntKind.i64.wrap (Int.tdiv (IntKind.i64.wrap (x5 * x8)) x3)) > (1 : Int) then (IntKind.i64.wrap (Int.tdiv (IntKind.i64.wrap (x5 * x8)) x3)) else (1 : Int)))), .int .i64 0] 3 fun H6 => W_turn_Cost.j6 K x3 (⟨b1, 0, none⟩ : Addr) (⟨b2, 0, none⟩ : Addr) x5 (IntKind.i64.wrap (Int.tdiv x6 x5)) (⟨b3, 0, none⟩ : Addr) H6)) ∧ (Nw H3 (.obj (.cells #[.int .i64 0, .int .i64 0, .int .i64 0] 43)) fun b4 H7 => Ld H7 ((⟨b1, 0, none⟩ : Addr).add 0) fun v7 => DI .i64 v7 fun x9 => (x3 ≠ 0 ∧ IntKind.i64 = IntKind.i64 ∧ StA H7 (⟨b4, 0, none⟩ : Addr) #[.int .i64 (IntKind.i64.wrap ((IntKind.i64.wrap ((IntKind.i64.wrap (Int.tdiv x6 x5)) * x7)) * (if (IntKind.i64.wrap (Int.tdiv x5 x3)) > (1 : Int) then (IntKind.i64.wrap (Int.tdiv x5 x3)) else (1 : Int)))), .int .i64 (IntKind.i64.wrap ((IntKind.i64.wrap (Int.tdiv x6 x5)) * (if (IntKind.i64.wrap (Int.tdiv (IntKind.i64.wrap (x5 * x9)) x3)) > (1 : Int) then (IntKind.i64.wrap (Int.tdiv (IntKind.i64.wrap (x5 * x9)) x3)) else (1 : Int)))), .int .i64 0] 3 fun H8 => W_turn_Cost.j6 K x3 (⟨b1, 0, none⟩ : Addr) (⟨b2, 0, none⟩ : Addr) x5 (IntKind.i64.wrap (Int.tdiv x6 x5)) (⟨b4, 0, none⟩ : Addr) H8))) ∧ (Ld H3 ((⟨b1, 0, none⟩ : Addr).add 0) fun v8 => DI .i64 v8 fun x10 => (x3 ≠ 0 ∧ IntKind.i64 = IntKind.i64 ∧ (Ld H3 ((⟨b1, 0, none⟩ : Addr).add 0) fun v9 => DI .i64 v9 fun x11 => Nw H3 (.obj (.cells #[.int .i64 0, .int .i64 0, .int .i64 0] 43)) fun b5 H9 => StA H9 (⟨b5, 0, none⟩ : Addr) #[.int .i64 (IntKind.i64.wrap ((IntKind.i64.wrap ((IntKind.i64.wrap (Int.tdiv x6 x5)) * x11)) * (if (IntKind.i64.wrap (Int.tdiv x5 x3)) > (1 : Int) then (IntKind.i64.wrap (Int.tdiv x5 x3)) else (1 : Int)))), .int .i64 (IntKind.i64.wrap ((IntKind.i64.wrap (Int.tdiv x6 x5)) * (if (IntKind.i64.wrap (Int.tdiv (IntKind.i64.wrap (x5 * x10)) x3)) > (1 : Int) then (IntKind.i64.wrap (Int.tdiv (IntKind.i64.wrap (x5 * x10)) x3)) else (1 : Int)))), .int .i64 0] 3 fun H10 => W_turn_Cost.j6 K x3 (⟨b1, 0, none⟩ : Addr) (⟨b2, 0, none⟩ : Addr) x5 (IntKind.i64.wrap (Int.tdiv x6 x5)) (⟨b5, 0, none⟩ : Addr) H10) ∧ (Nw H3 (.obj (.cells #[.int .i64 0, .int .i64 0, .int .i64 0] 43)) fun b6 H11 => Ld H11 ((⟨b1, 0, none⟩ : Addr).add 0) fun v10 => DI .i64 v10 fun x12 => StA H11 (⟨b6, 0, none⟩ : Addr) #[.int .i64 (IntKind.i64.wrap ((IntKind.i64.wrap ((IntKind.i64.wrap (Int.tdiv x6 x5)) * x12)) * (if (IntKind.i64.wrap (Int.tdiv x5 x3)) > (1 : Int) then (IntKind.i64.wrap (Int.tdiv x5 x3)) else (1 : Int)))), .int .i64 (IntKind.i64.wrap ((IntKind.i64.wrap (Int.tdiv x6 x5)) * (if (IntKind.i64.wrap (Int.tdiv (IntKind.i64.wrap (x5 * x10)) x3)) > (1 : Int) then (IntKind.i64.wrap (Int.tdiv (IntKind.i64.wrap (x5 * x10)) x3)) else (1 : Int)))), .int .i64 0] 3 fun H12 => W_turn_Cost.j6 K x3 (⟨b1, 0, none⟩ : Addr) (⟨b2, 0, none⟩ : Addr) x5 (IntKind.i64.wrap (Int.tdiv x6 x5)) (⟨b6, 0, none⟩ : Addr) H12))) ∧ (Nw H3 (.obj (.cells #[.int .i64 0, .int .i64 0, .int .i64 0] 43)) fun b7 H13 => (Ld H13 ((⟨b1, 0, none⟩ : Addr).add 0) fun v11 => DI .i64 v11 fun x13 => Ld H13 ((⟨b1, 0, none⟩ : Addr).add 0) fun v12 => DI .i64 v12 fun x14 => (x3 ≠ 0 ∧ IntKind.i64 = IntKind.i64 ∧ StA H13 (⟨b7, 0, none⟩ : Addr) #[.int .i64 (IntKind.i64.wrap ((IntKind.i64.wrap ((IntKind.i64.wrap (Int.tdiv x6 x5)) * x13)) * (if (IntKind.i64.wrap (Int.tdiv x5 x3)) > (1 : Int) then (IntKind.i64.wrap (Int.tdiv x5 x3)) else (1 : Int)))), .int .i64 (IntKind.i64.wrap ((IntKind.i64.wrap (Int.tdiv x6 x5)) * (if (IntKind.i64.wrap (Int.tdiv (IntKind.i64.wrap (x5 * x14)) x3)) > (1 : Int) then (IntKind.i64.wrap (Int.tdiv (IntKind.i64.wrap (x5 * x14)) x3)) else (1 : Int)))), .int .i64 0] 3 fun H14 => W_turn_Cost.j6 K x3 (⟨b1, 0, none⟩ : Addr) (⟨b2, 0, none⟩ : Addr) x5 (IntKind.i64.wrap (Int.tdiv x6 x5)) (⟨b7, 0, none⟩ : Addr) H14)) ∧ (Ld H13 ((⟨b1, 0, none⟩ : Addr).add 0) fun v13 => DI .i64 v13 fun x15 => (x3 ≠ 0 ∧ IntKind.i64 = IntKind.i64 ∧ Ld H13 ((⟨b1, 0, none⟩ : Addr).add 0) fun v14 => DI .i64 v14 fun x16 => StA H13 (⟨b7, 0, none⟩ : Addr) #[.int .i64 (IntKind.i64.wrap ((IntKind.i64.wrap ((IntKind.i64.wrap (Int.tdiv x6 x5)) * x16)) * (if (IntKind.i64.wrap (Int.tdiv x5 x3)) > (1 : Int) then (IntKind.i64.wrap (Int.tdiv x5 x3)) else (1 : Int)))), .int .i64 (IntKind.i64.wrap ((IntKind.i64.wrap (Int.tdiv x6 x5)) * (if (IntKind.i64.wrap (Int.tdiv (IntKind.i64.wrap (x5 * x15)) x3)) > (1 : Int) then (IntKind.i64.wrap (Int.tdiv (IntKind.i64.wrap (x5 * x15)) x3)) else (1 : Int)))), .int .i64 0] 3 fun H15 => W_turn_Cost.j6 K x3 (⟨b1, 0, none⟩ : Addr) (⟨b2, 0, none⟩ : Addr) x5 (IntKind.i64.wrap (Int.tdiv x6 x5)) (⟨b7, 0, none⟩ : Addr) H15)))))))
def W_turn_Cost.Λ (K : Value → Hp → Prop) : Cuts := ⟨fun i => match Nat.beq i 6 with | true => some (fun E D H => eI E 1 .i64 fun x17 => eN E 3 fun a1 => eN E 6 fun a2 => eI E 8 .i64 fun x18 => eI E 10 .i64 fun x19 => eN E 11 fun a3 => DNilD D (W_turn_Cost.j6 K x17 a1 a2 x18 x19 a3 H)) | false => none, fun i => none, (fun i => match Nat.beq i 5 with | true => some ([], [0, 0, 2, 7, 0, 0, 48, 112, 255, 0, 0, 0, 2048, 7168, 0, 31744, 64512, 130560, 262143, 0, 1048575], 0) | false => none)⟩
theorem W_turn_Cost.ok (x1 : Int) (x2 : Int) (x3 : Int) (x4 : Int) (H : Hp) (K : Value → Hp → Prop) (h : W_turn_Cost x1 x2 x3 x4 H K) : HCalls Tryz.prog 52 #[.agg #[.int .i64 x1, .int .i64 x2], .int .i64 x3, .int .i64 x4] H K :=
  hcalls Tryz.func52 rfl (Nat.le_of_ble_eq_true rfl) (hw_safe (Λ := (W_turn_Cost.Λ K)) mixWturn _ _ _ _ _ (Eq.mp (by kernel_rfl) h) (obs_seq obs_region rfl (obs_seq obs_region rfl (obs_seq (obs_seq obs_region rfl (obs_cond (obs_seq obs_region rfl obs_ret) obs_skip)) rfl (obs_seq obs_region rfl (obs_seqc obs_region rfl (fun E D H h => by
      obtain ⟨x17, e1, g2⟩ := GI h; obtain ⟨a1, e3, g5⟩ := GN g2; obtain ⟨a2, e6, g8⟩ := GN g5; obtain ⟨x18, e8, g10⟩ := GI g8; obtain ⟨x19, e10, g12⟩ := GI g10; obtain ⟨a3, e11, g15⟩ := GN g12; obtain ⟨rfl, h'⟩ := DNilD.out g15
      exact (hw_safe (Λ := (W_turn_Cost.Λ K)) mixWturn _ _ [(1, .int .i64 x17), (3, .pointer (some a1)), (6, .pointer (some a2)), (8, .int .i64 x18), (10, .int .i64 x19), (11, .pointer (some a3))] [] H (Eq.mp (by kernel_rfl) h') (obs_seq (obs_seq obs_region rfl (obs_cond obs_region obs_skip)) rfl (obs_seq obs_region rfl obs_ret))).weaken (EnvLe.cons e1 (EnvLe.cons e3 (EnvLe.cons e6 (EnvLe.cons e8 (EnvLe.cons e10 (EnvLe.cons e11 (EnvLe.nil _))))))) (Hp.le_refl _))))))))
def W_turn_Band.l4 (K : Value → Hp → Prop) : Nat → Int → Int → Addr → Int → Hp → Prop
  | 0, _, _, _, _, _ => False
  | k + 1, x6, x7, a1, x8, H =>
    let R4 := W_turn_Band.l4 K k
    Ld H (a1.add 1) fun v3 => DI .i64 v3 fun x9 => BIf (decide ((IntKind.i64.wrap ((2 : Int) * x8)) ≤ x9)) (Ld H (a1.add 0) fun v4 => DI .i64 v4 fun x10 => (x10 ≠ 0 ∧ IntKind.i64 = IntKind.i64 ∧ BIf (decide ((IntKind.i64.wrap ((2 : Int) * x8)) ≤ (IntKind.i64.wrap (Int.tdiv (IntKind.i64.wrap (x7 - x6)) x10)))) (R4 x6 x7 a1 (IntKind.i64.wrap (x8 * (2 : Int))) H) (K (.tuple #[.int .i64 x8, .bool true]) H))) (K (.tuple #[.int .i64 x8, .bool true]) H)
def W_turn_Band (x1 : Int) (x2 : Int) (x3 : Int) (x4 : Int) (H : Hp) (K : Value → Hp → Prop) : Prop :=
  Nw H (.obj (.cells #[.int .i64 x1, .int .i64 x2] 59)) fun b1 H1 => LdA H1 (⟨b1, 0, none⟩ : Addr) 2 fun l1 => HCalls Tryz.prog 132 #[.agg l1.toArray] H1 fun v1 H2 => DB v1 fun c1 => BIf (!c1) (K (.tuple #[.int .i64 0, .bool false]) H2) (BIf (decide (x3 < (4 : Int))) (K (.tuple #[.int .i64 0, .bool false]) H2) (BIf (decide (x3 > (512 : Int))) (K (.tuple #[.int .i64 0, .bool false]) H2) (BIf ((bAnd .i64 x3 (IntKind.i64.wrap (x3 - (1 : Int)))) != (0 : Int)) (K (.tuple #[.int .i64 0, .bool false]) H2) (BIf (decide (x4 < x3)) (K (.tuple #[.int .i64 0, .bool false]) H2) (Ld H2 ((⟨b1, 0, none⟩ : Addr).add 0) fun v2 => DI .i64 v2 fun x5 => BIf (decide ((IntKind.i64.wrap (x4 - x3)) < x5)) (K (.tuple #[.int .i64 0, .bool false]) H2) ((∃ k, W_turn_Band.l4 K k x3 x4 (⟨b1, 0, none⟩ : Addr) (1 : Int) H2)))))))
def W_turn_Band.l4.L (K : Value → Hp → Prop) (k : Nat) : Mid := fun E D H =>
  eI E 1 .i64 fun x6 => eI E 2 .i64 fun x7 => eN E 3 fun a1 => eI E 6 .i64 fun x8 => DNilD D (W_turn_Band.l4 K k x6 x7 a1 x8 H)
def W_turn_Band.Λ4 (_ : Value → Hp → Prop) (_R4 : Int → Int → Addr → Int → Hp → Prop) : Cuts := Cuts.none (fun _ => none)
def W_turn_Band.Λ (K : Value → Hp → Prop) : Cuts := ⟨fun i => none, fun i => match Nat.beq i 4 with | true => some (fun E D H => ∃ k, W_turn_Band.l4.L K k E D H) | false => none, (fun _ => none)⟩
theorem W_turn_Band.ok (x1 : Int) (x2 : Int) (x3 : Int) (x4 : Int) (H : Hp) (K : Value → Hp → Prop) (h : W_turn_Band x1 x2 x3 x4 H K) : HCalls Tryz.prog 91 #[.agg #[.int .i64 x1, .int .i64 x2], .int .i64 x3, .int .i64 x4] H K :=
  hcalls Tryz.func91 rfl (Nat.le_of_ble_eq_true rfl) (hw_safe (Λ := (W_turn_Band.Λ K)) mixWturn _ _ _ _ _ (Eq.mp (by kernel_rfl) h) (obs_seq obs_region rfl (obs_seq (obs_seq obs_region rfl (obs_cond (obs_seq obs_region rfl obs_ret) obs_skip)) rfl (obs_seq obs_region rfl (obs_seq (obs_block (obs_loop rfl (fun E D H h => by
      refine Safe.loop' (W_turn_Band.l4.L K) (fun E D H h => ?_) (fun k E D H h => ?_) E D H h
      · obtain ⟨w1, e1, g1⟩ := DG.out h; obtain ⟨x6, rfl, g2⟩ := DI.out g1; obtain ⟨w2, e2, g3⟩ := DG.out g2; obtain ⟨x7, rfl, g4⟩ := DI.out g3; obtain ⟨w3, e3, g5⟩ := DG.out g4; obtain ⟨pw3, rfl, g6⟩ := DP.out g5; obtain ⟨a1, rfl, g7⟩ := NN.out g6; obtain ⟨w6, e6, g8⟩ := DG.out g7; obtain ⟨x8, rfl, g9⟩ := DI.out g8; obtain ⟨rfl, h'⟩ := DNilD.out g9; exact h'
      · obtain ⟨x6, e1, g2⟩ := GI h
        obtain ⟨x7, e2, g4⟩ := GI g2; obtain ⟨a1, e3, g7⟩ := GN g4; obtain ⟨x8, e6, g9⟩ := GI g7; obtain ⟨rfl, h'⟩ := DNilD.out g9
        exact (hw_safe (Λ := (W_turn_Band.Λ4 K (W_turn_Band.l4 K k))) mixWturn _ _ [(1, .int .i64 x6), (2, .int .i64 x7), (3, .pointer (some a1)), (6, .int .i64 x8)] [] H (Eq.mp (by kernel_rfl) h') (obs_seq (obs_seq obs_region rfl (obs_cond obs_skip obs_exit)) rfl (obs_block obs_region))).weaken (EnvLe.cons e1 (EnvLe.cons e2 (EnvLe.cons e3 (EnvLe.cons e6 (EnvLe.nil _))))) (Hp.le_refl _)))) rfl (obs_seq obs_region rfl obs_ret))))))
def W_turn_Run.l14 (K : Value → Hp → Prop) : Nat → Addr → Int → Addr → Int → Option Addr → Option Addr → Nat → Nat → Hp → Prop
  | 0, _, _, _, _, _, _, _, _, _ => False
  | k + 1, a2, x14, a3, x15, p5, A1, n1, m1, H =>
    let R14 := W_turn_Run.l14 K k
    Ld H (a2.add 1) fun v16 => DI .i64 v16 fun x16 => BIf (decide (x15 < x16)) (HCalls Tryz.prog 135 #[.pointer (some a3), .int .i64 x15, .int .i64 x14] H fun v17 H5 => DI .i64 v17 fun x17 => BIf (x17 != (0 : Int)) (HCallsD Tryz.prog 84 #[.pointer p5, .slice A1 n1 m1] H5 fun _ H8 => K (.tuple #[.int .u32 0, .int .i64 x17]) H8) (HCalls Tryz.prog 136 #[.pointer (some a3), .int .i64 x15] H5 fun v18 H6 => DI .i64 v18 fun x18 => BIf (x18 != (0 : Int)) (HCallsD Tryz.prog 84 #[.pointer p5, .slice A1 n1 m1] H6 fun _ H9 => K (.tuple #[.int .u32 0, .int .i64 x18]) H9) (R14 a2 x14 a3 (IntKind.i64.wrap (x15 + x14)) p5 A1 n1 m1 H6))) (HCalls Tryz.prog 96 #[.pointer (some (a3.add 0))] H fun v19 H7 => DI .u32 v19 fun x19 => HCallsD Tryz.prog 84 #[.pointer p5, .slice A1 n1 m1] H7 fun _ H10 => K (.tuple #[.int .u32 x19, .int .i64 0]) H10)
def W_turn_Run (p1 : Option Addr) (p2 : Option Addr) (x1 : Int) (x2 : Int) (p3 : Option Addr) (x3 : Int) (H : Hp) (K : Value → Hp → Prop) : Prop :=
  Nw H (.obj (.cells #[.int .i64 x1, .int .i64 x2] 59)) fun b1 H1 => BIf p1.isNone (K (.tuple #[.int .u32 0, .int .i64 1]) H1) (BIf p2.isNone (K (.tuple #[.int .u32 0, .int .i64 1]) H1) (BIf p3.isNone (K (.tuple #[.int .u32 0, .int .i64 1]) H1) (LdA H1 (⟨b1, 0, none⟩ : Addr) 2 fun l1 => QCall Tryz.prog 132 #[.agg l1.toArray] H1 fun v1 => DB v1 fun c1 => BIf (!c1) (K (.tuple #[.int .u32 0, .int .i64 19]) H1) (QCall Tryz.prog 126 #[.pointer p1] H1 fun v2 => DI .i64 v2 fun x4 => LdA H1 (⟨b1, 0, none⟩ : Addr) 2 fun l2 => QCall Tryz.prog 134 #[.agg l2.toArray] H1 fun v3 => DI .i64 v3 fun x5 => BIf (x4 != x5) (K (.tuple #[.int .u32 0, .int .i64 19]) H1) (QCall Tryz.prog 126 #[.pointer p2] H1 fun v4 => DI .i64 v4 fun x6 => LdA H1 (⟨b1, 0, none⟩ : Addr) 2 fun l3 => QCall Tryz.prog 134 #[.agg l3.toArray] H1 fun v5 => DI .i64 v5 fun x7 => BIf (x6 != x7) (K (.tuple #[.int .u32 0, .int .i64 19]) H1) (LdA H1 (⟨b1, 0, none⟩ : Addr) 2 fun l4 => NN p3 fun a1 => QCall Tryz.prog 128 #[.pointer (some (a1.add 0))] H1 fun v6 => DI .i64 v6 fun x8 => QCall Tryz.prog 91 #[.agg l4.toArray, .int .i64 x3, .int .i64 x8] H1 fun v7 => DTup v7 fun l5 => DCons l5 fun v8 l6 => DI .i64 v8 fun x9 => DCons l6 fun v9 l7 => DB v9 fun c2 => DNil l7 (BIf (!c2) (K (.tuple #[.int .u32 0, .int .i64 6]) H1) (Ld H1 ((⟨b1, 0, none⟩ : Addr).add 0) fun v10 => DI .i64 v10 fun x10 => HCalls Tryz.prog 82 #[.pointer p3, .int .i64 (IntKind.i64.wrap (x9 * x10))] H1 fun v11 H2 => DTup v11 fun l8 => DCons l8 fun v12 l9 => DP v12 fun p4 => DCons l9 fun v13 l10 => DI .i64 v13 fun x11 => DNil l10 (BIf (x11 != (0 : Int)) (K (.tuple #[.int .u32 0, .int .i64 x11]) H2) (Nw H2 (.row [.pointer p4] 164 1) fun b2 H3 => LdA H3 (⟨b1, 0, none⟩ : Addr) 2 fun l11 => DCons l11.toArray.toList fun v14 l12 => DI .i64 v14 fun x12 => DCons l12 fun v15 l13 => DI .i64 v15 fun x13 => DNil l13 (Nw H3 (.obj (.cells #[.int .u32 0, .int .i64 0, .pointer p1, .pointer p2, .int .i64 x12, .int .i64 x13, .pointer p4] 224)) fun b3 H4 => (∃ k, W_turn_Run.l14 K k (⟨b1, 0, none⟩ : Addr) x9 (⟨b3, 0, none⟩ : Addr) (0 : Int) p3 (some ⟨b2, 0, none⟩) 1 1 H4))))))))))))
def W_turn_Run.l14.L (K : Value → Hp → Prop) (k : Nat) : Mid := fun E D H =>
  eN E 7 fun a2 => eI E 12 .i64 fun x14 => eN E 15 fun a3 => eI E 16 .i64 fun x15 => DDef 84 D fun dc0 da0 D1 => DNil dc0 (DCons da0 fun u0da0 r0da0 => DP u0da0 fun p5 => DCons r0da0 fun u1da0 r1da0 => DSl u1da0 fun A1 n1 m1 => DNil r1da0 (DNilD D1 (W_turn_Run.l14 K k a2 x14 a3 x15 p5 A1 n1 m1 H)))
def W_turn_Run.Λ14 (_ : Value → Hp → Prop) (_R14 : Addr → Int → Addr → Int → Option Addr → Option Addr → Nat → Nat → Hp → Prop) : Cuts := Cuts.none (fun _ => none)
def W_turn_Run.Λ (K : Value → Hp → Prop) : Cuts := ⟨fun i => none, fun i => match Nat.beq i 14 with | true => some (fun E D H => ∃ k, W_turn_Run.l14.L K k E D H) | false => none, (fun _ => none)⟩
theorem W_turn_Run.ok (p1 : Option Addr) (p2 : Option Addr) (x1 : Int) (x2 : Int) (p3 : Option Addr) (x3 : Int) (H : Hp) (K : Value → Hp → Prop) (h : W_turn_Run p1 p2 x1 x2 p3 x3 H K) : HCalls Tryz.prog 97 #[.pointer p1, .pointer p2, .agg #[.int .i64 x1, .int .i64 x2], .pointer p3, .int .i64 x3] H K :=
  hcalls Tryz.func97 rfl (Nat.le_of_ble_eq_true rfl) (hw_safe (Λ := (W_turn_Run.Λ K)) mixWturn _ _ _ _ _ (Eq.mp (by kernel_rfl) h) (obs_seq obs_region rfl (obs_seq (obs_block (obs_seq obs_region rfl (obs_cond (obs_seq obs_region rfl obs_ret) (obs_seq obs_region rfl (obs_cond (obs_seq obs_region rfl obs_ret) obs_skip))))) rfl (obs_seq obs_region rfl (obs_seq (obs_seq obs_region rfl (obs_cond (obs_seq obs_region rfl obs_ret) obs_skip)) rfl (obs_seq obs_region rfl (obs_seq (obs_seq obs_region rfl (obs_cond (obs_seq obs_region rfl obs_ret) obs_skip)) rfl (obs_seq obs_region rfl (obs_seq obs_region rfl (obs_seq (obs_seq obs_region rfl (obs_block (obs_loop rfl (fun E D H h => by
      refine Safe.loop' (W_turn_Run.l14.L K) (fun E D H h => ?_) (fun k E D H h => ?_) E D H h
      · obtain ⟨w7, e7, g1⟩ := DG.out h; obtain ⟨pw7, rfl, g2⟩ := DP.out g1; obtain ⟨a2, rfl, g3⟩ := NN.out g2; obtain ⟨w12, e12, g4⟩ := DG.out g3; obtain ⟨x14, rfl, g5⟩ := DI.out g4; obtain ⟨w15, e15, g6⟩ := DG.out g5; obtain ⟨pw15, rfl, g7⟩ := DP.out g6; obtain ⟨a3, rfl, g8⟩ := NN.out g7; obtain ⟨w16, e16, g9⟩ := DG.out g8; obtain ⟨x15, rfl, g10⟩ := DI.out g9; obtain ⟨dc0, da0, D1, rfl, g11⟩ := DDef.out g10; obtain ⟨rfl, g12⟩ := DNil.out g11; obtain ⟨u0da0, r0da0, rfl, g13⟩ := DCons.out g12; obtain ⟨p5, rfl, g14⟩ := DP.out g13; obtain ⟨u1da0, r1da0, rfl, g15⟩ := DCons.out g14; obtain ⟨A1, n1, m1, rfl, g16⟩ := DSl.out g15; obtain ⟨rfl, g17⟩ := DNil.out g16; obtain ⟨rfl, h'⟩ := DNilD.out g17; exact h'
      · obtain ⟨a2, e7, g3⟩ := GN h
        obtain ⟨x14, e12, g5⟩ := GI g3; obtain ⟨a3, e15, g8⟩ := GN g5; obtain ⟨x15, e16, g10⟩ := GI g8; obtain ⟨dc0, da0, D1, rfl, g11⟩ := DDef.out g10
        obtain ⟨rfl, g12⟩ := DNil.out g11
        obtain ⟨u0da0, r0da0, rfl, g13⟩ := DCons.out g12
        obtain ⟨p5, rfl, g14⟩ := DP.out g13
        obtain ⟨u1da0, r1da0, rfl, g15⟩ := DCons.out g14
        obtain ⟨A1, n1, m1, rfl, g16⟩ := DSl.out g15
        obtain ⟨rfl, g17⟩ := DNil.out g16
        obtain ⟨rfl, h'⟩ := DNilD.out g17
        exact (hw_safe (Λ := (W_turn_Run.Λ14 K (W_turn_Run.l14 K k))) mixWturn _ _ [(7, .pointer (some a2)), (12, .int .i64 x14), (15, .pointer (some a3)), (16, .int .i64 x15)] [{ target := .fn (.func 84) #[], args := #[.pointer p5, .slice A1 n1 m1] }] H (Eq.mp (by kernel_rfl) h') (obs_seq (obs_seq obs_region rfl (obs_cond obs_skip obs_exit)) rfl (obs_seq (obs_block (obs_seq (obs_seq obs_region rfl (obs_seq obs_region rfl (obs_cond (obs_seq obs_region rfl obs_ret) obs_skip))) rfl (obs_seq obs_region rfl (obs_seq obs_region rfl (obs_cond (obs_seq obs_region rfl obs_ret) obs_skip))))) rfl obs_region))).weaken (EnvLe.cons e7 (EnvLe.cons e12 (EnvLe.cons e15 (EnvLe.cons e16 (EnvLe.nil _))))) (Hp.le_refl _))))) rfl (obs_seq obs_region rfl obs_ret)))))))))))
def W_turn_run_gather.l10 (K : Value → Hp → Prop) (R4 : Option Addr → Int → Option Addr → Nat → Nat → Option Addr → Nat → Nat → Int → Int → Hp → Prop) : Nat → Option Addr → Int → Option Addr → Nat → Nat → Option Addr → Nat → Nat → Int → Int → Int → Option Addr → Nat → Nat → Int → Int → Hp → Prop
  | 0, _, _, _, _, _, _, _, _, _, _, _, _, _, _, _, _, _ => False
  | k + 1, p5, x9, A5, n5, m5, A6, n6, m6, x10, x11, x12, A7, n7, m7, x13, x14, H =>
    let R10 := W_turn_run_gather.l10 K R4 k
    BIf (decide (x14 < x13)) (ixI x14 n7 (NN A7 fun a5 => Ld H (a5.add (x14.toNat * 1)) fun v8 => DI .u64 v8 fun x15 => NN p5 fun a6 => Ld H ((a6.add 4).add 0) fun v9 => DI .i64 v9 fun x16 => ixI (IntKind.i64.wrap ((IntKind.i64.wrap (x14 * x16)) + x10)) n5 (NN A5 fun a7 => St H ((a7.add ((IntKind.i64.wrap ((IntKind.i64.wrap (x14 * x16)) + x10)).toNat * 1)).add 0) (.int .u64 x15) fun H4 => R10 p5 x9 A5 n5 m5 A6 n6 m6 x10 x11 x12 A7 n7 m7 x13 (IntKind.i64.wrap (x14 + (1 : Int))) H4))) (R4 p5 x9 A5 n5 m5 A6 n6 m6 x11 (IntKind.i64.wrap (x12 + (1 : Int))) H)
def W_turn_run_gather.l4 (K : Value → Hp → Prop) : Nat → Option Addr → Int → Option Addr → Nat → Nat → Option Addr → Nat → Nat → Int → Int → Hp → Prop
  | 0, _, _, _, _, _, _, _, _, _, _, _ => False
  | k + 1, p3, x4, A3, n3, m3, A4, n4, m4, x5, x6, H =>
    let R4 := W_turn_run_gather.l4 K k
    BIf (decide (x6 < x5)) (NN p3 fun a3 => Ld H (a3.add 2) fun v5 => DP v5 fun p4 => NN p3 fun a4 => Ld H ((a4.add 4).add 1) fun v6 => DI .i64 v6 fun x7 => HCalls Tryz.prog 59 #[.pointer p4, .int .i64 (IntKind.i64.wrap ((IntKind.i64.wrap (x6 * x7)) + x4)), .slice A4 n4 m4] H fun v7 H3 => DI .i64 v7 fun x8 => BIf (x8 != (0 : Int)) (K (.int .i64 x8) H3) ((∃ k, W_turn_run_gather.l10 K R4 k p3 x4 A3 n3 m3 A4 n4 m4 x6 x5 x6 A4 n4 m4 ((n4 : Nat) : Int) (0 : Int) H3))) (K (.int .i64 0) H)
def W_turn_run_gather (p1 : Option Addr) (x1 : Int) (x2 : Int) (H : Hp) (K : Value → Hp → Prop) : Prop :=
  NN p1 fun a1 => Ld H (a1.add 6) fun v1 => DP v1 fun p2 => HCalls Tryz.prog 86 #[.pointer p2] H fun v2 H1 => DSl v2 fun A1 n1 m1 => MkS Tryz.prog 60 x2 x2 H1 fun v3 H2 => DSl v3 fun A2 n2 m2 => NN p1 fun a2 => Ld H2 ((a2.add 4).add 0) fun v4 => DI .i64 v4 fun x3 => (∃ k, W_turn_run_gather.l4 K k p1 x1 A1 n1 m1 A2 n2 m2 x3 (0 : Int) H2)
def W_turn_run_gather.l4.L (K : Value → Hp → Prop) (k : Nat) : Mid := fun E D H =>
  eP E 0 fun p3 => eI E 1 .i64 fun x4 => DG (E.get? 7) fun w7 => DSl w7 fun A3 n3 m3 => DG (E.get? 8) fun w8 => DSl w8 fun A4 n4 m4 => eI E 24 .i64 fun x5 => eI E 25 .i64 fun x6 => DNilD D (W_turn_run_gather.l4 K k p3 x4 A3 n3 m3 A4 n4 m4 x5 x6 H)
def W_turn_run_gather.l10.L (K : Value → Hp → Prop) (R4 : Option Addr → Int → Option Addr → Nat → Nat → Option Addr → Nat → Nat → Int → Int → Hp → Prop) (k : Nat) : Mid := fun E D H =>
  eP E 0 fun p5 => eI E 1 .i64 fun x9 => DG (E.get? 7) fun w7 => DSl w7 fun A5 n5 m5 => DG (E.get? 8) fun w8 => DSl w8 fun A6 n6 m6 => eI E 9 .i64 fun x10 => eI E 24 .i64 fun x11 => eI E 25 .i64 fun x12 => DG (E.get? 46) fun w46 => DSl w46 fun A7 n7 m7 => eI E 47 .i64 fun x13 => eI E 48 .i64 fun x14 => DNilD D (W_turn_run_gather.l10 K R4 k p5 x9 A5 n5 m5 A6 n6 m6 x10 x11 x12 A7 n7 m7 x13 x14 H)
def W_turn_run_gather.Λ10 (_ : Value → Hp → Prop) (_R4 : Option Addr → Int → Option Addr → Nat → Nat → Option Addr → Nat → Nat → Int → Int → Hp → Prop) (_R10 : Option Addr → Int → Option Addr → Nat → Nat → Option Addr → Nat → Nat → Int → Int → Int → Option Addr → Nat → Nat → Int → Int → Hp → Prop) : Cuts := Cuts.none (fun i => match Nat.beq i 6 with | true => some ([], [0, 1, 2, 3, 4, 5, 6, 7, 8, 9, 10, 11, 12, 13], 14) | false => none)
def W_turn_run_gather.Λ4 (K : Value → Hp → Prop) (R4 : Option Addr → Int → Option Addr → Nat → Nat → Option Addr → Nat → Nat → Int → Int → Hp → Prop) : Cuts := ⟨fun i => none, fun i => match Nat.beq i 10 with | true => some (fun E D H => ∃ k, W_turn_run_gather.l10.L K R4 k E D H) | false => none, (fun i => match Nat.beq i 6 with | true => some ([], [0, 1, 2, 3, 4, 5, 6, 7, 8, 9, 10, 11, 12, 13], 14) | false => none)⟩
def W_turn_run_gather.Λ (K : Value → Hp → Prop) : Cuts := ⟨fun i => none, fun i => match Nat.beq i 4 with | true => some (fun E D H => ∃ k, W_turn_run_gather.l4.L K k E D H) | false => none, (fun i => match Nat.beq i 6 with | true => some ([], [0, 1, 2, 3, 4, 5, 6, 7, 8, 9, 10, 11, 12, 13], 14) | false => none)⟩
theorem W_turn_run_gather.ok (p1 : Option Addr) (x1 : Int) (x2 : Int) (H : Hp) (K : Value → Hp → Prop) (h : W_turn_run_gather p1 x1 x2 H K) : HCalls Tryz.prog 135 #[.pointer p1, .int .i64 x1, .int .i64 x2] H K :=
  hcalls Tryz.func135 rfl (Nat.le_of_ble_eq_true rfl) (hw_safe (Λ := (W_turn_run_gather.Λ K)) mixWturn _ _ _ _ _ (Eq.mp (by kernel_rfl) h) (obs_seq obs_region rfl (obs_seq obs_region rfl (obs_seq obs_region rfl (obs_seq (obs_seq obs_region rfl (obs_block (obs_loop rfl (fun E D H h => by
      refine Safe.loop' (W_turn_run_gather.l4.L K) (fun E D H h => ?_) (fun k E D H h => ?_) E D H h
      · obtain ⟨w0, e0, g1⟩ := DG.out h; obtain ⟨p3, rfl, g2⟩ := DP.out g1; obtain ⟨w1, e1, g3⟩ := DG.out g2; obtain ⟨x4, rfl, g4⟩ := DI.out g3; obtain ⟨w7, e7, g5⟩ := DG.out g4; obtain ⟨A3, n3, m3, rfl, g6⟩ := DSl.out g5; obtain ⟨w8, e8, g7⟩ := DG.out g6; obtain ⟨A4, n4, m4, rfl, g8⟩ := DSl.out g7; obtain ⟨w24, e24, g9⟩ := DG.out g8; obtain ⟨x5, rfl, g10⟩ := DI.out g9; obtain ⟨w25, e25, g11⟩ := DG.out g10; obtain ⟨x6, rfl, g12⟩ := DI.out g11; obtain ⟨rfl, h'⟩ := DNilD.out g12; exact h'
      · obtain ⟨p3, e0, g2⟩ := GP h
        obtain ⟨x4, e1, g4⟩ := GI g2
        obtain ⟨w7, e7, g5⟩ := DG.out g4
        obtain ⟨A3, n3, m3, rfl, g6⟩ := DSl.out g5
        obtain ⟨w8, e8, g7⟩ := DG.out g6
        obtain ⟨A4, n4, m4, rfl, g8⟩ := DSl.out g7
        obtain ⟨x5, e24, g10⟩ := GI g8; obtain ⟨x6, e25, g12⟩ := GI g10; obtain ⟨rfl, h'⟩ := DNilD.out g12
        exact (hw_safe (Λ := (W_turn_run_gather.Λ4 K (W_turn_run_gather.l4 K k))) mixWturn _ _ [(0, .pointer p3), (1, .int .i64 x4), (7, .slice A3 n3 m3), (8, .slice A4 n4 m4), (24, .int .i64 x5), (25, .int .i64 x6)] [] H (Eq.mp (by kernel_rfl) h') (obs_seq obs_region rfl (obs_seq (obs_cond obs_skip obs_exit) rfl (obs_seq (obs_block (obs_seq obs_region rfl (obs_seq (obs_seq obs_region rfl (obs_seq obs_region rfl (obs_cond (obs_seq obs_region rfl obs_ret) obs_skip))) rfl (obs_seq obs_region rfl (obs_block (obs_loop rfl (fun E D H h => by
            refine Safe.loop' (W_turn_run_gather.l10.L K (W_turn_run_gather.l4 K k)) (fun E D H h => ?_) (fun k E D H h => ?_) E D H h
            · obtain ⟨w0, e0, g1⟩ := DG.out h; obtain ⟨p5, rfl, g2⟩ := DP.out g1; obtain ⟨w1, e1, g3⟩ := DG.out g2; obtain ⟨x9, rfl, g4⟩ := DI.out g3; obtain ⟨w7, e7, g5⟩ := DG.out g4; obtain ⟨A5, n5, m5, rfl, g6⟩ := DSl.out g5; obtain ⟨w8, e8, g7⟩ := DG.out g6; obtain ⟨A6, n6, m6, rfl, g8⟩ := DSl.out g7; obtain ⟨w9, e9, g9⟩ := DG.out g8; obtain ⟨x10, rfl, g10⟩ := DI.out g9; obtain ⟨w24, e24, g11⟩ := DG.out g10; obtain ⟨x11, rfl, g12⟩ := DI.out g11; obtain ⟨w25, e25, g13⟩ := DG.out g12; obtain ⟨x12, rfl, g14⟩ := DI.out g13; obtain ⟨w46, e46, g15⟩ := DG.out g14; obtain ⟨A7, n7, m7, rfl, g16⟩ := DSl.out g15; obtain ⟨w47, e47, g17⟩ := DG.out g16; obtain ⟨x13, rfl, g18⟩ := DI.out g17; obtain ⟨w48, e48, g19⟩ := DG.out g18; obtain ⟨x14, rfl, g20⟩ := DI.out g19; obtain ⟨rfl, h'⟩ := DNilD.out g20; exact h'
            · obtain ⟨p5, e0, g2⟩ := GP h
              obtain ⟨x9, e1, g4⟩ := GI g2
              obtain ⟨w7, e7, g5⟩ := DG.out g4
              obtain ⟨A5, n5, m5, rfl, g6⟩ := DSl.out g5
              obtain ⟨w8, e8, g7⟩ := DG.out g6
              obtain ⟨A6, n6, m6, rfl, g8⟩ := DSl.out g7
              obtain ⟨x10, e9, g10⟩ := GI g8; obtain ⟨x11, e24, g12⟩ := GI g10; obtain ⟨x12, e25, g14⟩ := GI g12; obtain ⟨w46, e46, g15⟩ := DG.out g14
              obtain ⟨A7, n7, m7, rfl, g16⟩ := DSl.out g15
              obtain ⟨x13, e47, g18⟩ := GI g16; obtain ⟨x14, e48, g20⟩ := GI g18; obtain ⟨rfl, h'⟩ := DNilD.out g20
              exact (hw_safe (Λ := (W_turn_run_gather.Λ10 K (W_turn_run_gather.l4 K k) (W_turn_run_gather.l10 K (W_turn_run_gather.l4 K k) k))) mixWturn _ _ [(0, .pointer p5), (1, .int .i64 x9), (7, .slice A5 n5 m5), (8, .slice A6 n6 m6), (9, .int .i64 x10), (24, .int .i64 x11), (25, .int .i64 x12), (46, .slice A7 n7 m7), (47, .int .i64 x13), (48, .int .i64 x14)] [] H (Eq.mp (by kernel_rfl) h') (obs_seq obs_region rfl (obs_seq (obs_cond obs_skip obs_exit) rfl (obs_seq (obs_block (obs_seq obs_region rfl obs_region)) rfl obs_region)))).weaken (EnvLe.cons e0 (EnvLe.cons e1 (EnvLe.cons e7 (EnvLe.cons e8 (EnvLe.cons e9 (EnvLe.cons e24 (EnvLe.cons e25 (EnvLe.cons e46 (EnvLe.cons e47 (EnvLe.cons e48 (EnvLe.nil _))))))))))) (Hp.le_refl _)))))))) rfl obs_region)))).weaken (EnvLe.cons e0 (EnvLe.cons e1 (EnvLe.cons e7 (EnvLe.cons e8 (EnvLe.cons e24 (EnvLe.cons e25 (EnvLe.nil _))))))) (Hp.le_refl _))))) rfl (obs_seq obs_region rfl obs_ret))))))
def W_turn_run_lay (p1 : Option Addr) (x1 : Int) (H : Hp) (K : Value → Hp → Prop) : Prop :=
  NN p1 fun a1 => NN p1 fun a2 => Ld H (a2.add 6) fun v1 => DP v1 fun p2 => QCall Tryz.prog 86 #[.pointer p2] H fun v2 => DSl v2 fun A1 n1 m1 => HCalls Tryz.prog 95 #[.pointer (some (a1.add 0)), .slice A1 n1 m1] H fun v3 H1 => NN p1 fun a3 => Ld H1 (a3.add 3) fun v4 => DP v4 fun p3 => NN p1 fun a4 => Ld H1 ((a4.add 4).add 0) fun v5 => DI .i64 v5 fun x2 => NN p1 fun a5 => Ld H1 (a5.add 6) fun v6 => DP v6 fun p4 => QCall Tryz.prog 86 #[.pointer p4] H1 fun v7 => DSl v7 fun A2 n2 m2 => HCalls Tryz.prog 46 #[.pointer p3, .int .i64 (IntKind.i64.wrap (x1 * x2)), .slice A2 n2 m2] H1 fun v8 H2 => DI .i64 v8 fun x3 => K (.int .i64 x3) H2
theorem W_turn_run_lay.ok (p1 : Option Addr) (x1 : Int) (H : Hp) (K : Value → Hp → Prop) (h : W_turn_run_lay p1 x1 H K) : HCalls Tryz.prog 136 #[.pointer p1, .int .i64 x1] H K :=
  hcalls Tryz.func136 rfl (Nat.le_of_ble_eq_true rfl) (hw_safe (Λ := Cuts.none (fun i => match Nat.beq i 2 with | true => some ([], [0, 1, 2, 3, 4, 5, 6, 7, 8, 9, 10, 11, 12, 13, 14, 15], 16) | false => match Nat.beq i 1 with | true => some ([], [0, 1, 2, 3, 4, 5, 6, 7], 8) | false => none)) mixWturn _ _ _ _ _ (Eq.mp (by kernel_rfl) h) (obs_none _ _ _ _ _))
end Go.Proofs.YtnknippcbecmeaaGreatDoor.W
end
section
/- turn: the band that has room. -/
namespace Go.Proofs.YtnknippcbecmeaaGreatDoor.Trn
open Go Go.Hw W Shp
def perB (p : Int) : Bool := p == 4 || p == 8 || p == 16 || p == 32 || p == 64 || p == 128 || p == 256 || p == 512
theorem per_table : (List.range 513).all (fun n => decide (n < 4) || ((n &&& (n - 1) == 0) == perB (n : Int))) = true := by decide +kernel
theorem perB_of {p : Int} (h4 : 4 ≤ p) (h5 : p ≤ 512) : (bAnd .i64 p (IntKind.i64.wrap (p - 1)) = 0) ↔ perB p = true := by
  obtain ⟨n, rfl⟩ := Int.eq_ofNat_of_zero_le (show 0 ≤ p by omega)
  rw [show ((n : Int) - 1) = ((n - 1 : Nat) : Int) by omega, i64w (by omega) (by omega), Lay.bAnd_nat (by omega) (by omega)]
  have ht := List.all_eq_true.1 per_table n (by simp; omega)
  simp only [Bool.or_eq_true, decide_eq_true_eq, beq_iff_eq] at ht
  have ht := ht.resolve_left (by omega)
  rw [← ht]
  simp only [beq_iff_eq]
  omega
theorem perB_range {p : Int} (h : perB p = true) : 4 ≤ p ∧ p ≤ 512 := by
  simp only [perB, Bool.or_eq_true, beq_iff_eq] at h
  omega
structure BandIs (r c : Int) (per free : Int) (j : Nat) : Prop where
  le : ((2 ^ j : Nat) : Int) ≤ c
  fit : ((2 ^ j : Nat) : Int) * r ≤ free - per
  most : ((2 ^ j : Nat) : Int) = c ∨ free - per < 2 * ((2 ^ j : Nat) : Int) * r
def bandQ (r c per free : Int) (v : Value) : Prop :=
  (¬ (goodS r c = true ∧ perB per = true ∧ per ≤ free ∧ r ≤ free - per) ∧ v = .tuple #[.int .i64 0, .bool false]) ∨
  ((goodS r c = true ∧ perB per = true ∧ per ≤ free ∧ r ≤ free - per) ∧ ∃ j : Nat, BandIs r c per free j ∧ v = .tuple #[.int .i64 ((2 ^ j : Nat) : Int), .bool true])
theorem band_loop {r c per free : Int} {ea eb : Nat} (hr : r = ((2 ^ ea : Nat) : Int)) (hc : c = ((2 ^ eb : Nat) : Int)) (hab : ea + eb ≤ 32) (hp : perB per = true) (hf : per ≤ free ∧ free ≤ 9223372036854775807) (K : Value → Hp → Prop) (b1 : Nat) {L : List As} (i : Nat)
    (hi : L[i]? = some (pts b1 (.obj (.cells #[.int .i64 r, .int .i64 c] 59)))) {H : Hp} (hs : Sep L H) (hK : ∀ j, BandIs r c per free j → K (.tuple #[.int .i64 ((2 ^ j : Nat) : Int), .bool true]) H) :
    ∀ (t j : Nat), j + t = eb → ((2 ^ j : Nat) : Int) * r ≤ free - per → W_turn_Band.l4 K (t + 1) per free ⟨b1, 0, none⟩ ((2 ^ j : Nat) : Int) H := by
  have hpr := perB_range hp
  have hra := pow_pos ea
  have hca := pow_le (show ea ≤ 32 by omega)
  rw [show 2 ^ 32 = 4294967296 by decide] at hca
  have key : ∀ (j : Nat), j < eb → W_turn_Band.l4 K 0 per free ⟨b1, 0, none⟩ ((2 ^ j : Nat) : Int) H = False := fun _ _ => rfl
  intro t
  induction t with
  | zero =>
    intro j hj hfit
    have hje : j = eb := by omega
    have hp2 := pow_le (show j ≤ 32 by omega)
    rw [show 2 ^ 32 = 4294967296 by decide] at hp2
    have hz := Int.natCast_nonneg (2 ^ j)
    have hq : ((2 ^ j : Nat) : Int) ≤ 4294967296 := Int.ofNat_le.2 hp2
    unfold W_turn_Band.l4
    refine hs.ldf i hi rfl ?_
    simp only [HV]
    rw [i64w (by omega) (by omega)]
    refine BIf_dneg ?_ (hK j ⟨by rw [hc, hje]; exact Int.le_refl _, hfit, .inl (by rw [hc, hje])⟩)
    rw [hc, ← hje]
    have := pow_pos j
    omega
  | succ t ih =>
    intro j hj hfit
    have hp2 := pow_le (show j + 1 ≤ 32 by omega)
    rw [show 2 ^ 32 = 4294967296 by decide, Nat.pow_succ] at hp2
    have h2 : IntKind.i64.wrap ((2 : Int) * ((2 ^ j : Nat) : Int)) = ((2 ^ (j + 1) : Nat) : Int) := by
      rw [i64w (by omega) (by omega), Nat.pow_succ]; omega
    have hle : ((2 ^ (j + 1) : Nat) : Int) ≤ c := by
      rw [hc]; have := pow_le (show j + 1 ≤ eb by omega); omega
    unfold W_turn_Band.l4
    refine hs.ldf i hi rfl ?_
    simp only [HV]
    rw [h2]
    refine BIf_dpos hle ?_
    refine hs.ldf i hi rfl ?_
    simp only [HV]
    refine ⟨by omega, trivial, ?_⟩
    obtain ⟨f, hfe⟩ := Int.eq_ofNat_of_zero_le (show 0 ≤ free - per by omega)
    rw [i64w (x := free - per) (by omega) (by omega)]
    rw [show Int.tdiv (free - per) r = ((f / 2 ^ ea : Nat) : Int) by rw [hfe, hr]; rfl]
    have hdl : f / 2 ^ ea ≤ f := Nat.div_le_self _ _
    rw [i64n (by omega)]
    have hiff : (((2 ^ (j + 1) : Nat) : Int) ≤ ((f / 2 ^ ea : Nat) : Int)) ↔ ((2 ^ (j + 1) : Nat) : Int) * r ≤ free - per := by
      rw [Int.ofNat_le, Nat.le_div_iff_mul_le (by omega), hfe, hr, ← Int.natCast_mul, Int.ofNat_le]
    by_cases hc2 : ((2 ^ (j + 1) : Nat) : Int) * r ≤ free - per
    · refine BIf_dpos (hiff.2 hc2) ?_
      have h3 : IntKind.i64.wrap (((2 ^ j : Nat) : Int) * (2 : Int)) = ((2 ^ (j + 1) : Nat) : Int) := by rw [Int.mul_comm]; exact h2
      rw [h3]
      exact ih (j + 1) (by omega) hc2
    · refine BIf_dneg (fun h => hc2 (hiff.1 h)) (hK j ⟨?_, hfit, .inr ?_⟩)
      · rw [hc]; have := pow_le (show j ≤ eb by omega); omega
      · have e : (2 : Int) * ((2 ^ j : Nat) : Int) = ((2 ^ (j + 1) : Nat) : Int) := by rw [Nat.pow_succ]; omega
        rw [e]; omega
theorem Band_ok (r c per free : Int) (hper : -9223372036854775808 ≤ per ∧ per ≤ 9223372036854775807) (hf : free ≤ 9223372036854775807) (H : Hp) (hT : T64 H) :
    HCalls Tryz.prog 91 #[.agg #[.int .i64 r, .int .i64 c], .int .i64 per, .int .i64 free] H fun v H' => bandQ r c per free v ∧ H' = H := by
  refine HCalls.forget ?_
  apply W_turn_Band.ok
  unfold W_turn_Band
  refine (Sep.start H).nw fun b1 H1 hs => ?_
  have out : ∀ {v : Value}, bandQ r c per free v → ∃ H'', H''.le H1 ∧ bandQ r c per free v ∧ H'' = H := fun h => ⟨H, hs.ow 0 rfl, h, rfl⟩
  first | refine hs.ldw 1 rfl rfl ?_
  try simp only [HV]
  refine HCalls.use (Good_ok r c H1 (hT.le (hs.ow 0 rfl))) ?_
  simp only [HV]
  cases hg : goodS r c with
  | false => exact BIf_pos rfl (out (.inl ⟨fun h => (by rw [hg] at h; cases h.1), rfl⟩))
  | true =>
    refine BIf_neg rfl ?_
    by_cases h1 : per < 4
    · exact BIf_dpos h1 (out (.inl ⟨fun h => (by have := perB_range h.2.1; omega), rfl⟩))
    refine BIf_dneg h1 ?_
    by_cases h2 : per > 512
    · exact BIf_dpos h2 (out (.inl ⟨fun h => (by have := perB_range h.2.1; omega), rfl⟩))
    refine BIf_dneg h2 ?_
    have hpb := perB_of (p := per) (by omega) (by omega)
    cases hp : perB per with
    | false => exact BIf_bnep (fun h => by rw [hpb.1 h] at hp; cases hp) (out (.inl ⟨fun h => (by rw [hp] at h; cases h.2.1), rfl⟩))
    | true =>
      refine BIf_bnen (hpb.2 hp) ?_
      by_cases h3 : free < per
      · exact BIf_dpos h3 (out (.inl ⟨fun h => (by omega), rfl⟩))
      refine BIf_dneg h3 ?_
      first | refine hs.ldf 1 rfl rfl ?_ | refine hs.ldg 1 rfl rfl ?_
      try simp only [HV]
      rw [i64w (x := free - per) (by omega) (by omega)]
      by_cases h4 : free - per < r
      · exact BIf_dpos h4 (out (.inl ⟨fun h => (by omega), rfl⟩))
      refine BIf_dneg h4 ?_
      obtain ⟨ea, eb, hr, hc, hab, _, _⟩ := goodS_some hg
      refine ⟨eb + 1, ?_⟩
      have := band_loop hr hc hab hp ⟨by omega, hf⟩ (fun v H' => ∃ H'', H''.le H' ∧ bandQ r c per free v ∧ H'' = H) b1 1 rfl hs (fun j hj => out (.inr ⟨⟨hg, hp, by omega, by omega⟩, j, hj, rfl⟩)) eb 0 (by omega) (by rw [Nat.pow_zero]; omega)
      exact this
end Go.Proofs.YtnknippcbecmeaaGreatDoor.Trn
end
section
/- The frame of the proofs: maps from pointers to whole blocks, with int values. -/
namespace Go.Hw
open Go
def ptrV (b : Nat) : Value := .pointer (some ⟨b, 0, none⟩)
def ent (x : Nat × Int × Nat) : MapEntry := { key := ptrV x.1, val := .int .i64 x.2.1, born := x.2.2 }
def mapO (l : List (Nat × Int × Nat)) (clock : Nat) : AO := .obj (.map (l.map ent).toArray clock)
def PlainB (H : Hp) (b : Nat) : Prop := ∃ c e, H b = some (.obj (.cells c e))
theorem PlainB.le {H H' : Hp} {b : Nat} (h : PlainB H b) (k : H.le H') : PlainB H' b := by
  obtain ⟨c, e, h⟩ := h; exact ⟨c, e, k _ _ h⟩
theorem PlainB.heap {H : Hp} {w : World} {b : Nat} (h : PlainB H b) (hw : Fits H w) : ∃ c e, w.heap[b]? = some (.cells c e (0, 0)) := by
  obtain ⟨c, e, h⟩ := h
  obtain ⟨o, ho, hh⟩ := hw _ _ h
  cases hh
  exact ⟨c, e, ho⟩
theorem mapO.heap {H : Hp} {w : World} {r clock : Nat} {l : List (Nat × Int × Nat)} (h : H r = some (mapO l clock)) (hw : Fits H w) : w.heap[r]? = some (.map (l.map ent).toArray clock) := by
  obtain ⟨o, ho, hh⟩ := hw _ _ h
  cases hh
  exact ho
section
variable {P : Program} {t te : TypeId} {j : TypeInfo} (ht : P.underlying t = some (.pointer te)) (hj : P.info? te = some j) (hs : j.size ≠ 0)
include ht hj hs
theorem equal_ptr_run {H : Hp} {w : World} (hw : Fits H w) {a b : Nat} (ha : PlainB H a) (hb : PlainB H b) : (Op.equal t (ptrV a) (ptrV b)).run P w = .ok (decide (a = b)) w := by
  obtain ⟨ca, ea, ha⟩ := ha.heap hw
  obtain ⟨cb, eb, hb⟩ := hb.heap hw
  unfold Op.equal Op.maxDepth Op.equalIn ptrV
  simp only [Sem.run_bind, underlying_run ht, Result.andThen_ok, sizeOf_run hj]
  rw [if_pos hs]
  by_cases e : a = b
  · subst e
    rw [run_sameAddr_same]; simp
  · rw [run_sameAddr_other w (a := ⟨a, 0, none⟩) (b := ⟨b, 0, none⟩) (by simpa using e) ha hb]; simp [e]
theorem equal_nil_run {w : World} {b : Nat} : (Op.equal t (.pointer none) (ptrV b)).run P w = .ok false w := by
  unfold Op.equal Op.maxDepth Op.equalIn ptrV
  simp [underlying_run ht]
def findR (a : Nat) : List (Nat × Int × Nat) → Nat → Option (Nat × Value)
  | [], _ => none
  | x :: l, i => if a = x.1 then some (i, .int .i64 x.2.1) else findR a l (i + 1)
theorem findAsk_run {H : Hp} {w : World} (hw : Fits H w) {a : Nat} (ha : PlainB H a) : ∀ (l : List (Nat × Int × Nat)) (i : Nat), (∀ x ∈ l, PlainB H x.1) → (Instr.findAsking t (ptrV a) (l.map ent) i).run P w = .ok (findR a l i) w
  | [], i, _ => by simp [Instr.findAsking, findR]
  | x :: l, i, h => by
    simp only [List.map_cons, Instr.findAsking, Sem.run_bind]
    rw [show (ent x).key = ptrV x.1 from rfl, equal_ptr_run ht hj hs hw ha (h x (by simp))]
    simp only [Result.andThen_ok, findR]
    by_cases e : a = x.1
    · simp [e, ent]
    · simp only [e, decide_false, Bool.false_eq_true, if_false]
      exact findAsk_run hw ha l (i + 1) (fun y hy => h y (by simp [hy]))
theorem findAsk_nil {w : World} : ∀ (l : List (Nat × Int × Nat)) (i : Nat), (Instr.findAsking t (.pointer none) (l.map ent) i).run P w = .ok none w
  | [], i => by simp [Instr.findAsking]
  | x :: l, i => by
    simp only [List.map_cons, Instr.findAsking, Sem.run_bind]
    rw [show (ent x).key = ptrV x.1 from rfl, equal_nil_run ht hj hs]
    simp only [Result.andThen_ok, Bool.false_eq_true, if_false]
    exact findAsk_nil l (i + 1)
theorem findKey_run {H : Hp} {w : World} (hw : Fits H w) {a : Nat} (ha : PlainB H a) (l : List (Nat × Int × Nat)) (h : ∀ x ∈ l, PlainB H x.1) : (Instr.findKey t (ptrV a) (l.map ent)).run P w = .ok (findR a l 0) w := by
  unfold Instr.findKey
  simp only [Sem.run_bind, underlying_run ht, Result.andThen_ok]
  cases l with
  | nil => simp [Instr.findNow, findR]
  | cons x l =>
    simp only [List.map_cons, Instr.findNow, Instr.sameNow]
    exact findAsk_run ht hj hs hw ha (x :: l) 0 h
theorem findKey_nil {w : World} (l : List (Nat × Int × Nat)) : (Instr.findKey t (.pointer none) (l.map ent)).run P w = .ok none w := by
  unfold Instr.findKey
  simp only [Sem.run_bind, underlying_run ht, Result.andThen_ok]
  cases l with
  | nil => simp [Instr.findNow]
  | cons x l =>
    simp only [List.map_cons, Instr.findNow, Instr.sameNow]
    exact findAsk_nil ht hj hs (x :: l) 0
theorem checkKey_run {w : World} (e : Bool) (p : Option Addr) : (Instr.checkKey e 10000 t (.pointer p)).run P w = .ok () w := by
  unfold Instr.checkKey
  simp [underlying_run ht]
variable {tm tv : TypeId} (hm : P.underlying tm = some (.map t tv))
include hm
theorem lookup_ptr {jv : TypeInfo} (hv : P.info? tv = some jv) (hz : jv.zero = some (.int .i64 0)) {H : Hp} {r clock a : Nat} {l : List (Nat × Int × Nat)} (hr : H r = some (mapO l clock)) (ha : PlainB H a) (hl : ∀ x ∈ l, PlainB H x.1) {K : Value → Prop}
    (k1 : ∀ i v, findR a l 0 = some (i, v) → K (.tuple #[v, .bool true])) (k2 : findR a l 0 = none → K (.tuple #[.int .i64 0, .bool false])) : SemV P (Instr.lookup tm (.map (some r)) (ptrV a) true) H K := by
  have hrun : ∀ w, Fits H w → (Instr.lookup tm (.map (some r)) (ptrV a) true).run P w = .ok (match findR a l 0 with | some (_, v) => .tuple #[v, .bool true] | none => .tuple #[.int .i64 0, .bool false]) w := fun w hw => by
    have hh := mapO.heap hr hw
    simp only [Instr.lookup, Sem.run_bind, underlying_run hm, Result.andThen_ok, MapKept.run_getObj_map hh, Sem.run_pure]
    rw [show ptrV a = .pointer (some ⟨a, 0, none⟩) from rfl, checkKey_run ht hj hs]
    simp only [Result.andThen_ok]
    rw [show (Value.pointer (some ⟨a, 0, none⟩)) = ptrV a from rfl, findKey_run ht hj hs hw ha l hl]
    simp only [Result.andThen_ok]
    cases findR a l 0 with
    | some x => simp
    | none => simp [zeroValue, typeInfo_run hv, hz]
  refine ⟨_, ?_, hrun⟩
  cases hf : findR a l 0 with
  | some x => exact k1 _ _ hf
  | none => exact k2 hf
theorem lookup_nilptr {jv : TypeInfo} (hv : P.info? tv = some jv) (hz : jv.zero = some (.int .i64 0)) {H : Hp} {r clock : Nat} {l : List (Nat × Int × Nat)} (hr : H r = some (mapO l clock)) {K : Value → Prop} (k2 : K (.tuple #[.int .i64 0, .bool false])) :
    SemV P (Instr.lookup tm (.map (some r)) (.pointer none) true) H K := by
  refine ⟨_, k2, fun w hw => ?_⟩
  have hh := mapO.heap hr hw
  simp only [Instr.lookup, Sem.run_bind, underlying_run hm, Result.andThen_ok, MapKept.run_getObj_map hh, Sem.run_pure]
  rw [checkKey_run ht hj hs]
  simp only [Result.andThen_ok]
  rw [findKey_nil ht hj hs]
  simp [zeroValue, typeInfo_run hv, hz]
end
theorem erase_map {α β : Type} (f : α → β) : ∀ (l : List α) (k : Nat), (l.map f).eraseIdx k = (l.eraseIdx k).map f
  | [], k => by simp
  | x :: l, 0 => by simp
  | x :: l, k + 1 => by simp [erase_map f l k]
theorem At.setMap {H0 H : Hp} {w0 w : World} {r clock : Nat} {l : List (Nat × Int × Nat)} (hA : At H0 w0 H w) (hr : H r = some (mapO l clock)) (o : Obj) : At H0 w0 (H.set r (.obj o)) { w with heap := w.heap.setIfInBounds r o } := by
  have hh := mapO.heap hr hA.fits
  have hlt : r < w.heap.size := (Array.getElem?_eq_some_iff.1 hh).1
  refine hA.turn hr (x' := o) ?_ rfl ?_ rfl rfl rfl (fun c hc => ?_)
  · show (w.heap.setIfInBounds r o)[r]? = some o
    simp [hlt]
  · show (w.heap.setIfInBounds r o).size = w.heap.size
    simp
  · show (w.heap.setIfInBounds r o)[c]? = w.heap[c]?
    rw [Array.getElem?_setIfInBounds_ne (Ne.symm hc)]
section
variable {P : Program} {t te : TypeId} {j : TypeInfo} (ht : P.underlying t = some (.pointer te)) (hj : P.info? te = some j) (hs : j.size ≠ 0)
variable {tm tv : TypeId} (hm : P.underlying tm = some (.map t tv))
include ht hj hs hm
theorem mapUpdate_new {H : Hp} {r clock a : Nat} {n : Int} {l : List (Nat × Int × Nat)} (hr : H r = some (mapO l clock)) (ha : PlainB H a) (hl : ∀ x ∈ l, PlainB H x.1) (hf : findR a l 0 = none) {K : Unit → Hp → Prop}
    (k : K () (H.set r (mapO (l ++ [(a, n, clock)]) (clock + 1)))) : SemK P (Instr.mapUpdate tm (.map (some r)) (ptrV a) (.int .i64 n)) H K := fun H0 w0 w hA => by
  have hh := mapO.heap hr hA.fits
  refine ⟨(), _, _, ?_, k, hA.setMap hr _⟩
  simp only [Instr.mapUpdate, Sem.run_bind, underlying_run hm, Result.andThen_ok, MapKept.run_getObj_map hh]
  rw [show ptrV a = .pointer (some ⟨a, 0, none⟩) from rfl, checkKey_run ht hj hs]
  simp only [Result.andThen_ok]
  rw [show (Value.pointer (some ⟨a, 0, none⟩)) = ptrV a from rfl, findKey_run ht hj hs hA.fits ha l hl, hf]
  simp only [Result.andThen_ok]
  rw [MapKept.run_setObj_map _ hh]
  simp [ent]
theorem findR_filter (a : Nat) : ∀ (l : List (Nat × Int × Nat)) (i k : Nat) (v : Value), (l.map (·.1)).Nodup → findR a l i = some (k, v) → i ≤ k ∧ l.eraseIdx (k - i) = l.filter (fun x => x.1 ≠ a) ∧ ∃ x ∈ l, x.1 = a ∧ v = .int .i64 x.2.1
  | [], i, k, v, _, h => by cases h
  | x :: l, i, k, v, hn, h => by
    unfold findR at h
    simp only [List.map_cons, List.nodup_cons] at hn
    by_cases e : a = x.1
    · rw [if_pos e] at h
      cases h
      refine ⟨Nat.le_refl _, ?_, x, by simp, e.symm, rfl⟩
      rw [Nat.sub_self, List.eraseIdx_cons_zero, List.filter_cons_of_neg (by simp [e])]
      symm
      rw [List.filter_eq_self]
      intro y hy
      have : y.1 ≠ a := fun e2 => hn.1 (by rw [← e, ← e2]; exact List.mem_map_of_mem hy)
      simpa using this
    · rw [if_neg e] at h
      obtain ⟨h1, h2, y, hy, h3, h4⟩ := findR_filter a l (i + 1) k v hn.2 h
      refine ⟨by omega, ?_, y, by simp [hy], h3, h4⟩
      rw [show k - i = (k - (i + 1)) + 1 by omega, List.eraseIdx_cons_succ, h2, List.filter_cons_of_pos (by simp; exact fun e2 => e e2.symm)]
theorem delete_ptr {ty : TypeId} {t2 : TypeId} {H : Hp} {r clock a k : Nat} {v : Value} {l : List (Nat × Int × Nat)} (hr : H r = some (mapO l clock)) (ha : PlainB H a) (hl : ∀ x ∈ l, PlainB H x.1) (hn : (l.map (·.1)).Nodup) (hf : findR a l 0 = some (k, v)) {K : Value → Hp → Prop}
    (kk : K (.tuple #[]) (H.set r (mapO (l.filter fun x => x.1 ≠ a) clock))) : SemK P (Builtin.delete_ #[tm, t2] ty #[.map (some r), ptrV a]) H K := fun H0 w0 w hA => by
  have hh := mapO.heap hr hA.fits
  obtain ⟨_, h2, _⟩ := findR_filter ht hj hs hm a l 0 k v hn hf
  rw [Nat.sub_zero] at h2
  refine ⟨_, _, _, ?_, kk, hA.setMap hr _⟩
  simp only [Builtin.delete_, Sem.run_bind, underlying_run hm, Result.andThen_ok, MapKept.run_getObj_map hh, List.getElem?_toArray, List.getElem?_cons_zero, List.getElem?_cons_succ]
  rw [show ptrV a = .pointer (some ⟨a, 0, none⟩) from rfl, checkKey_run ht hj hs]
  simp only [Result.andThen_ok]
  rw [show (Value.pointer (some ⟨a, 0, none⟩)) = ptrV a from rfl, findKey_run ht hj hs hA.fits ha l hl, hf]
  simp only [Result.andThen_ok]
  rw [Sem.run_bind, MapKept.run_setObj_map _ hh]
  rw [← h2, ← erase_map]
  simp
end
end Go.Hw
end
section
/- Formulas of functions, printed by wip/tools/hwp.py. -/
namespace Go.Proofs.YtnknippcbecmeaaGreatDoor.W
open Go Go.Hw
theorem mixWarena : Tryz.prog.follows .mixedOrders = true := by kernel_rfl
def W_arena_meter_Peak (p1 : Option Addr) (H : Hp) (K : Value → Hp → Prop) : Prop :=
  NN p1 fun a1 => Ld H (a1.add 2) fun v1 => DI .i64 v1 fun x1 => K (.int .i64 x1) H
theorem W_arena_meter_Peak.ok (p1 : Option Addr) (H : Hp) (K : Value → Hp → Prop) (h : W_arena_meter_Peak p1 H K) : HCalls Tryz.prog 15 #[.pointer p1] H K :=
  hcalls Tryz.func15 rfl (Nat.le_of_ble_eq_true rfl) (hw_safe (Λ := Cuts.none (fun _ => none)) mixWarena _ _ _ _ _ (Eq.mp (by kernel_rfl) h) (obs_none _ _ _ _ _))
def W_arena_New (x1 : Int) (H : Hp) (K : Value → Hp → Prop) : Prop :=
  BIf (decide (x1 < (1 : Int))) (K (.pointer none) H) (BIf (decide (x1 > (16777216 : Int))) (K (.pointer none) H) (Nw H (.obj (.map #[] 0)) fun b1 H1 => Nw H1 (.obj (.cells #[.int .i64 x1, .int .i64 0, .int .i64 0, .map (some b1)] 73)) fun b2 H2 => K (.pointer (some (⟨b2, 0, none⟩ : Addr))) H2))
theorem W_arena_New.ok (x1 : Int) (H : Hp) (K : Value → Hp → Prop) (h : W_arena_New x1 H K) : HCalls Tryz.prog 42 #[.int .i64 x1] H K :=
  hcalls Tryz.func42 rfl (Nat.le_of_ble_eq_true rfl) (hw_safe (Λ := Cuts.none (fun _ => none)) mixWarena _ _ _ _ _ (Eq.mp (by kernel_rfl) h) (obs_none _ _ _ _ _))
def W_arena_Arena_Take (p1 : Option Addr) (x1 : Int) (H : Hp) (K : Value → Hp → Prop) : Prop :=
  BIf (decide (x1 < (1 : Int))) (K (.tuple #[.pointer none, .int .i64 1]) H) (NN p1 fun a1 => HCalls Tryz.prog 128 #[.pointer (some (a1.add 0))] H fun v1 H1 => DI .i64 v1 fun x2 => BIf (decide (x1 > x2)) (K (.tuple #[.pointer none, .int .i64 6]) H1) (MkS Tryz.prog 60 x1 x1 H1 fun v2 H2 => DSl v2 fun A1 n1 m1 => Nw H2 (.obj (.cells #[.pointer p1, .slice A1 n1 m1] 211)) fun b1 H3 => NN p1 fun a2 => Ld H3 (a2.add 3) fun v3 => DM v3 fun r1 => SemK Tryz.prog (Instr.mapUpdate 71 (.map r1) (.pointer (some (⟨b1, 0, none⟩ : Addr))) (.int .i64 x1)) H3 fun _ H4 => NN p1 fun a3 => HCalls Tryz.prog 129 #[.pointer (some (a3.add 0)), .int .i64 x1] H4 fun v4 H5 => K (.tuple #[.pointer (some (⟨b1, 0, none⟩ : Addr)), .int .i64 0]) H5))
theorem W_arena_Arena_Take.ok (p1 : Option Addr) (x1 : Int) (H : Hp) (K : Value → Hp → Prop) (h : W_arena_Arena_Take p1 x1 H K) : HCalls Tryz.prog 82 #[.pointer p1, .int .i64 x1] H K :=
  hcalls Tryz.func82 rfl (Nat.le_of_ble_eq_true rfl) (hw_safe (Λ := Cuts.none (fun _ => none)) mixWarena _ _ _ _ _ (Eq.mp (by kernel_rfl) h) (obs_none _ _ _ _ _))
def W_arena_Arena_Give.l1 (K : Value → Hp → Prop) : Nat → Option Addr → Option Addr → Nat → Nat → Int → Int → Hp → Prop
  | 0, _, _, _, _, _, _, _ => False
  | k + 1, p2, A2, n2, m2, x1, x2, H =>
    let R1 := W_arena_Arena_Give.l1 K k
    BIf (decide (x2 < x1)) (ixI x2 n2 (NN A2 fun a1 => Ld H (a1.add (x2.toNat * 1)) fun v1 => DP v1 fun p3 => NN p2 fun a2 => Ld H (a2.add 3) fun v2 => DM v2 fun r1 => SemV Tryz.prog (Instr.lookup 71 (.map r1) (.pointer p3) true) H fun v3 => DTup v3 fun l1 => DCons l1 fun v4 l2 => DI .i64 v4 fun x3 => DCons l2 fun v5 l3 => DB v5 fun c1 => DNil l3 (BIf c1 (NN p2 fun a3 => Ld H (a3.add 3) fun v6 => DM v6 fun r2 => SemK Tryz.prog (Builtin.delete_ #[71, 164] 0 #[.map r2, .pointer p3]) H fun v7 H1 => NN p2 fun a4 => HCalls Tryz.prog 129 #[.pointer (some (a4.add 0)), .int .i64 (IntKind.i64.wrap (0 - x3))] H1 fun v8 H2 => NN p3 fun a5 => St H2 (((a5.add 0).add 1).add 0) (.slice none 0 0) fun H3 => R1 p2 A2 n2 m2 x1 (IntKind.i64.wrap (x2 + (1 : Int))) H3) (R1 p2 A2 n2 m2 x1 (IntKind.i64.wrap (x2 + (1 : Int))) H)))) (K (.tuple #[]) H)
def W_arena_Arena_Give (p1 : Option Addr) (A1 : Option Addr) (n1 : Nat) (m1 : Nat) (H : Hp) (K : Value → Hp → Prop) : Prop :=
  (∃ k, W_arena_Arena_Give.l1 K k p1 A1 n1 m1 ((n1 : Nat) : Int) (0 : Int) H)
def W_arena_Arena_Give.l1.L (K : Value → Hp → Prop) (k : Nat) : Mid := fun E D H =>
  eP E 0 fun p2 => DG (E.get? 8) fun w8 => DSl w8 fun A2 n2 m2 => eI E 9 .i64 fun x1 => eI E 10 .i64 fun x2 => DNilD D (W_arena_Arena_Give.l1 K k p2 A2 n2 m2 x1 x2 H)
def W_arena_Arena_Give.Λ1 (_ : Value → Hp → Prop) (_R1 : Option Addr → Option Addr → Nat → Nat → Int → Int → Hp → Prop) : Cuts := Cuts.none (fun _ => none)
def W_arena_Arena_Give.Λ (K : Value → Hp → Prop) : Cuts := ⟨fun i => none, fun i => match Nat.beq i 1 with | true => some (fun E D H => ∃ k, W_arena_Arena_Give.l1.L K k E D H) | false => none, (fun _ => none)⟩
theorem W_arena_Arena_Give.okD (p1 : Option Addr) (A1 : Option Addr) (n1 : Nat) (m1 : Nat) (H : Hp) (K : Value → Hp → Prop) (h : W_arena_Arena_Give p1 A1 n1 m1 H K) : HCallsD Tryz.prog 84 #[.pointer p1, .slice A1 n1 m1] H K :=
  hcallsD Tryz.func84 rfl (Nat.le_of_ble_eq_true rfl) (hw_safe (Λ := (W_arena_Arena_Give.Λ K)) mixWarena _ _ _ _ _ (Eq.mp (by kernel_rfl) h) (obs_seq obs_region rfl (obs_block (obs_loop rfl (fun E D H h => by
      refine Safe.loop' (W_arena_Arena_Give.l1.L K) (fun E D H h => ?_) (fun k E D H h => ?_) E D H h
      · obtain ⟨w0, e0, g1⟩ := DG.out h; obtain ⟨p2, rfl, g2⟩ := DP.out g1; obtain ⟨w8, e8, g3⟩ := DG.out g2; obtain ⟨A2, n2, m2, rfl, g4⟩ := DSl.out g3; obtain ⟨w9, e9, g5⟩ := DG.out g4; obtain ⟨x1, rfl, g6⟩ := DI.out g5; obtain ⟨w10, e10, g7⟩ := DG.out g6; obtain ⟨x2, rfl, g8⟩ := DI.out g7; obtain ⟨rfl, h'⟩ := DNilD.out g8; exact h'
      · obtain ⟨p2, e0, g2⟩ := GP h
        obtain ⟨w8, e8, g3⟩ := DG.out g2
        obtain ⟨A2, n2, m2, rfl, g4⟩ := DSl.out g3
        obtain ⟨x1, e9, g6⟩ := GI g4; obtain ⟨x2, e10, g8⟩ := GI g6; obtain ⟨rfl, h'⟩ := DNilD.out g8
        exact (hw_safe (Λ := (W_arena_Arena_Give.Λ1 K (W_arena_Arena_Give.l1 K k))) mixWarena _ _ [(0, .pointer p2), (8, .slice A2 n2 m2), (9, .int .i64 x1), (10, .int .i64 x2)] [] H (Eq.mp (by kernel_rfl) h') (obs_seq obs_region rfl (obs_seq (obs_cond obs_skip obs_exit) rfl (obs_seq (obs_block (obs_seq obs_region rfl (obs_seq obs_region rfl (obs_seq obs_region rfl (obs_cond (obs_seq obs_region rfl (obs_seq obs_region rfl obs_region)) obs_skip))))) rfl obs_region)))).weaken (EnvLe.cons e0 (EnvLe.cons e8 (EnvLe.cons e9 (EnvLe.cons e10 (EnvLe.nil _))))) (Hp.le_refl _))))))
def W_arena_Buffer_Words (p1 : Option Addr) (H : Hp) (K : Value → Hp → Prop) : Prop :=
  NN p1 fun a1 => Ld H ((a1.add 0).add 1) fun v1 => DSl v1 fun A1 n1 m1 => K (.slice A1 n1 m1) H
theorem W_arena_Buffer_Words.ok (p1 : Option Addr) (H : Hp) (K : Value → Hp → Prop) (h : W_arena_Buffer_Words p1 H K) : HCalls Tryz.prog 86 #[.pointer p1] H K :=
  hcalls Tryz.func86 rfl (Nat.le_of_ble_eq_true rfl) (hw_safe (Λ := Cuts.none (fun _ => none)) mixWarena _ _ _ _ _ (Eq.mp (by kernel_rfl) h) (obs_none _ _ _ _ _))
def W_arena_meter_Free (p1 : Option Addr) (H : Hp) (K : Value → Hp → Prop) : Prop :=
  NN p1 fun a1 => Ld H (a1.add 0) fun v1 => DI .i64 v1 fun x1 => NN p1 fun a2 => Ld H (a2.add 1) fun v2 => DI .i64 v2 fun x2 => K (.int .i64 (IntKind.i64.wrap (x1 - x2))) H
theorem W_arena_meter_Free.ok (p1 : Option Addr) (H : Hp) (K : Value → Hp → Prop) (h : W_arena_meter_Free p1 H K) : HCalls Tryz.prog 128 #[.pointer p1] H K :=
  hcalls Tryz.func128 rfl (Nat.le_of_ble_eq_true rfl) (hw_safe (Λ := Cuts.none (fun _ => none)) mixWarena _ _ _ _ _ (Eq.mp (by kernel_rfl) h) (obs_none _ _ _ _ _))
def W_arena_meter_add (p1 : Option Addr) (x1 : Int) (H : Hp) (K : Value → Hp → Prop) : Prop :=
  NN p1 fun a1 => Ld H (a1.add 1) fun v1 => DI .i64 v1 fun x2 => NN p1 fun a2 => St H ((a2.add 1).add 0) (.int .i64 (IntKind.i64.wrap (x2 + x1))) fun H1 => NN p1 fun a3 => Ld H1 (a3.add 2) fun v2 => DI .i64 v2 fun x3 => NN p1 fun a4 => Ld H1 (a4.add 1) fun v3 => DI .i64 v3 fun x4 => NN p1 fun a5 => St H1 ((a5.add 2).add 0) (.int .i64 (if x4 > x3 then x4 else x3)) fun H2 => K (.tuple #[]) H2
theorem W_arena_meter_add.ok (p1 : Option Addr) (x1 : Int) (H : Hp) (K : Value → Hp → Prop) (h : W_arena_meter_add p1 x1 H K) : HCalls Tryz.prog 129 #[.pointer p1, .int .i64 x1] H K :=
  hcalls Tryz.func129 rfl (Nat.le_of_ble_eq_true rfl) (hw_safe (Λ := Cuts.none (fun i => match Nat.beq i 1 with | true => some ([], [0, 1, 2, 3, 4, 5, 6, 7, 8, 9, 10, 11], 12) | false => none)) mixWarena _ _ _ _ _ (Eq.mp (by kernel_rfl) h) (obs_none _ _ _ _ _))
end Go.Proofs.YtnknippcbecmeaaGreatDoor.W
end
section
/- arena: what its functions answer. -/
namespace Go.Proofs.YtnknippcbecmeaaGreatDoor.Are
open Go Go.Hw W
def arenaO (cap used peak : Int) (mp : Nat) : AO := .obj (.cells #[.int .i64 cap, .int .i64 used, .int .i64 peak, .map (some mp)] 73)
def bufO (a : Nat) (A : Option Addr) (n m : Nat) : AO := .obj (.cells #[ptrV a, .slice A n m] 211)
theorem peak_ok (H : Hp) (a mp : Nat) (cap used peak : Int) (ha : H a = some (arenaO cap used peak mp)) : HCalls Tryz.prog 15 #[.pointer (some ⟨a, 0, none⟩)] H (RetE (.int .i64 peak) H) := by
  apply W_arena_meter_Peak.ok
  unfold W_arena_meter_Peak
  simp only [NN_some, Addr.add_lit', Nat.zero_add]
  refine Ld_obj ha (v := .int .i64 peak) rfl ?_
  simp only [HV]
  exact RetE.mk _ _
theorem free_ok (H : Hp) (a mp : Nat) (cap used peak : Int) (h1 : 0 ≤ used ∧ used ≤ cap ∧ cap ≤ 16777216) (ha : H a = some (arenaO cap used peak mp)) : HCalls Tryz.prog 128 #[.pointer (some ⟨a, 0, none⟩)] H (RetE (.int .i64 (cap - used)) H) := by
  apply W_arena_meter_Free.ok
  unfold W_arena_meter_Free
  simp only [NN_some, Addr.add_lit', Nat.zero_add]
  refine Ld_obj ha (v := .int .i64 cap) rfl ?_
  simp only [HV]
  refine Ld_obj ha (v := .int .i64 used) rfl ?_
  simp only [HV]
  rw [i64w (by omega) (by omega)]
  exact RetE.mk _ _
theorem add_ok (H : Hp) (a mp : Nat) (cap used peak n : Int) (h1 : 0 ≤ used ∧ used ≤ 16777216) (h2 : -16777216 ≤ n ∧ n ≤ 16777216) (ha : H a = some (arenaO cap used peak mp)) :
    HCalls Tryz.prog 129 #[.pointer (some ⟨a, 0, none⟩), .int .i64 n] H (RetE (.tuple #[]) (H.set a (arenaO cap (used + n) (if used + n > peak then used + n else peak) mp))) := by
  apply W_arena_meter_add.ok
  unfold W_arena_meter_add
  simp only [NN_some, Addr.add_lit', Nat.zero_add, Nat.add_zero]
  refine Ld_obj ha (v := .int .i64 used) rfl ?_
  simp only [HV]
  rw [i64w (by omega) (by omega)]
  refine St_obj ha (by simp) rfl ?_
  refine Ld_obj (Hp.set_same _ _ _) (v := .int .i64 peak) rfl ?_
  simp only [HV]
  refine Ld_obj (Hp.set_same _ _ _) (v := .int .i64 (used + n)) rfl ?_
  simp only [HV]
  refine St_obj (Hp.set_same _ _ _) (by simp) rfl ?_
  rw [Hp.set_set]
  exact RetE.mk _ _
theorem New_ok (H : Hp) (x : Int) (h : 1 ≤ x ∧ x ≤ 16777216) : HCalls Tryz.prog 42 #[.int .i64 x] H (fun v H' => ∃ mp a, H mp = none ∧ H a = none ∧ a ≠ mp ∧ v = ptrV a ∧ H' = (H.set mp (mapO [] 0)).set a (arenaO x 0 0 mp)) := by
  apply W_arena_New.ok
  unfold W_arena_New
  refine BIf_dneg (by omega) (BIf_dneg (by omega) ?_)
  intro mp hmp
  intro a ha
  obtain ⟨h1, h2⟩ := Hp.set_none ha
  exact ⟨mp, a, hmp, h2, h1, rfl, rfl⟩
theorem Words_ok (H : Hp) (b a : Nat) (A : Option Addr) (n m : Nat) (hb : H b = some (bufO a A n m)) : HCalls Tryz.prog 86 #[ptrV b] H (RetE (.slice A n m) H) := by
  apply W_arena_Buffer_Words.ok
  unfold W_arena_Buffer_Words
  simp only [NN_some, Addr.add_lit', Nat.zero_add, Nat.add_zero]
  refine Ld_obj hb (v := .slice A n m) rfl ?_
  simp only [HV]
  exact RetE.mk _ _
theorem t_ptr : Tryz.prog.underlying 164 = some (.pointer 211) := by kernel_rfl
theorem t_map : Tryz.prog.underlying 71 = some (.map 164 3) := by kernel_rfl
theorem t_buf : ∃ j, Tryz.prog.info? 211 = some j ∧ j.size ≠ 0 := by
  have h : (Tryz.prog.info? 211).map (·.size) = some 2 := by kernel_rfl
  obtain ⟨j, hj, h2⟩ := Option.map_eq_some_iff.1 h
  exact ⟨j, hj, by rw [h2]; omega⟩
theorem t_int : ∃ j, Tryz.prog.info? 3 = some j ∧ j.zero = some (.int .i64 0) := by
  have h : (Tryz.prog.info? 3).map (·.zero) = some (some (.int .i64 0)) := by kernel_rfl
  obtain ⟨j, hj, h2⟩ := Option.map_eq_some_iff.1 h
  exact ⟨j, hj, h2⟩
theorem cell_u64 : cellInfo Tryz.prog 60 = some (1, 8, some #[.int .u64 0]) := by kernel_rfl
theorem findR_none (a : Nat) : ∀ (l : List (Nat × Int × Nat)) (i : Nat), (∀ x ∈ l, x.1 ≠ a) → findR a l i = none
  | [], _, _ => rfl
  | x :: l, i, h => by unfold findR; rw [if_neg (fun e => h x (by simp) e.symm)]; exact findR_none a l (i + 1) (fun y hy => h y (by simp [hy]))
def zerosU64 (n : Nat) : List Value := zeroRow [.int .u64 0] n
theorem Take_ok (H : Hp) (a mp : Nat) (cap used peak n : Int) (l : List (Nat × Int × Nat)) (clock : Nat) (h1 : 0 ≤ used ∧ used ≤ cap ∧ cap ≤ 16777216) (hn : 1 ≤ n ∧ n ≤ cap - used) (hne : a ≠ mp)
    (ha : H a = some (arenaO cap used peak mp)) (hm : H mp = some (mapO l clock)) (hl : ∀ x ∈ l, PlainB H x.1) :
    HCalls Tryz.prog 82 #[ptrV a, .int .i64 n] H (fun v H' => ∃ rb b, H rb = none ∧ H b = none ∧ b ≠ rb ∧ v = .tuple #[ptrV b, .int .i64 0] ∧
      H' = (((H.set rb (.row (zerosU64 n.toNat) 60 n.toNat)).set b (bufO a (some ⟨rb, 0, none⟩) n.toNat n.toNat)).set mp (mapO (l ++ [(b, n, clock)]) (clock + 1))).set a (arenaO cap (used + n) (if used + n > peak then used + n else peak) mp)) := by
  obtain ⟨jb, hjb, hsb⟩ := t_buf
  apply W_arena_Arena_Take.ok
  unfold W_arena_Arena_Take
  refine BIf_dneg (by omega) ?_
  simp only [NN_some, Addr.add_lit', Nat.zero_add, Nat.add_zero]
  refine HCalls.use (free_ok H a mp cap used peak h1 ha) ?_
  try simp only [HV]
  refine BIf_dneg (by omega) ?_
  refine MkS_of cell_u64 rfl (n := n.toNat) (m := n.toNat) (by omega) (by omega) (Nat.le_refl _) (by omega) (by omega) ?_
  intro rb hrb
  rw [Nat.mul_one]
  simp only [HV]
  intro b hb
  obtain ⟨hbr, hb'⟩ := Hp.set_none hb
  have har : a ≠ rb := fun e => by rw [e, hrb] at ha; cases ha
  have hab : a ≠ b := fun e => by rw [e, hb'] at ha; cases ha
  have hmr : mp ≠ rb := fun e => by rw [e, hrb] at hm; cases hm
  have hmb : mp ≠ b := fun e => by rw [e, hb'] at hm; cases hm
  have hle := Hp.le_trans (Hp.le_set (o := .row (zerosU64 n.toNat) 60 n.toNat) hrb) (Hp.le_set (o := bufO a (some ⟨rb, 0, none⟩) n.toNat n.toNat) hb)
  refine Ld_obj (hle _ _ ha) (v := .map (some mp)) rfl ?_
  simp only [HV]
  refine mapUpdate_new t_ptr hjb hsb t_map (hle _ _ hm) ⟨_, _, Hp.set_same _ _ _⟩ (fun x hx => (hl x hx).le hle) (findR_none b l 0 (fun x hx e => by
    obtain ⟨c, e', hxx⟩ := hl x hx
    rw [e, hb'] at hxx; cases hxx)) ?_
  refine HCalls.use (add_ok _ a mp cap used peak n (by omega) (by omega) (by rw [Hp.set_other _ _ hne]; exact hle _ _ ha)) ?_
  exact ⟨rb, b, hrb, hb', hbr, rfl, rfl⟩
end Go.Proofs.YtnknippcbecmeaaGreatDoor.Are
end
section
/- arena's law: awake, ArenaApart. -/
namespace Go.Proofs.YtnknippcbecmeaaGreatDoor.Are
open Go Go.Hw W
def valF (i k : Nat) : Value := .int .u64 ((100 * i + k + 1 : Nat) : Int)
def vals (i n : Nat) : List Value := (List.range n).map (valF i)
structure Inv (H0 H : Hp) (a mp cl : Nat) (tk : List (Nat × Int × Nat)) (used peak : Int) (bs : List (Nat × Nat × Nat)) (A : Option Addr) (n m : Nat) : Prop where
  le : H0.le H
  ne : a ≠ mp
  ha : H a = some (arenaO 1000 used peak mp)
  ha0 : H0 a = none
  hm : H mp = some (mapO tk cl)
  hm0 : H0 mp = none
  hl : ∀ x ∈ tk, PlainB H x.1
  hb : ∀ (j : Nat) (x : Nat × Nat × Nat), bs[j]? = some x → H x.1 = some (bufO a (some ⟨x.2.1, 0, none⟩) x.2.2 x.2.2) ∧ H x.2.1 = some (.row (vals j x.2.2) 60 x.2.2) ∧ x.2.2 ≤ 64
  hn : n = bs.length
  all : (A = none ∧ bs = [] ∧ m = 0) ∨ ∃ ab mm, A = some ⟨ab, 0, none⟩ ∧ H0 ab = none ∧ H ab = some (.row (bs.map fun x => ptrV x.1) 164 mm) ∧ m ≤ mm
theorem Inv.cells {H0 H : Hp} {a mp cl : Nat} {tk : List (Nat × Int × Nat)} {used peak : Int} {bs : List (Nat × Nat × Nat)} {A : Option Addr} {n m : Nat} (h : Inv H0 H a mp cl tk used peak bs A n m) : Cells H A (bs.map fun x => ptrV x.1) := by
  rcases h.all with ⟨rfl, rfl, _⟩ | ⟨ab, mm, rfl, _, hab, _⟩
  · exact Cells.nil _ _
  · have := Cells.row hab 0 bs.length
    rwa [List.drop_zero, List.take_of_length_le (by simp)] at this
end Go.Proofs.YtnknippcbecmeaaGreatDoor.Are
end
section
/- The law ArenaApart. -/
namespace Go.Proofs.YtnknippcbecmeaaGreatDoor.Are
open Go Go.Hw W
end Go.Proofs.YtnknippcbecmeaaGreatDoor.Are
end
section
/- arena.Give. -/
namespace Go.Proofs.YtnknippcbecmeaaGreatDoor.Are
open Go Go.Hw W
def optP (p : Option Nat) : Value := match p with | some b => ptrV b | none => .pointer none
def sumTk (tk : List (Nat × Int × Nat)) : Int := (tk.map fun x => x.2.1).sum
structure AI (H : Hp) (a mp cl : Nat) (tk : List (Nat × Int × Nat)) (cap used peak : Int) : Prop where
  ne : a ≠ mp
  ha : H a = some (arenaO cap used peak mp)
  hm : H mp = some (mapO tk cl)
  nd : (tk.map (·.1)).Nodup
  hb : ∀ x ∈ tk, 1 ≤ x.2.1 ∧ ∃ A n m, H x.1 = some (bufO a A n m)
  hu : used = sumTk tk ∧ used ≤ cap ∧ cap ≤ 16777216
  bn : (tk.map (·.2.2)).Nodup ∧ ∀ x ∈ tk, x.2.2 < cl
theorem sum_nonneg : ∀ (tk : List (Nat × Int × Nat)), (∀ x ∈ tk, 1 ≤ x.2.1) → 0 ≤ sumTk tk
  | [], _ => by simp [sumTk]
  | x :: l, h => by
    have h1 := h x (by simp)
    have h2 := sum_nonneg l (fun y hy => h y (by simp [hy]))
    unfold sumTk at h2 ⊢
    simp only [List.map_cons, List.sum_cons]; omega
theorem sum_filter : ∀ (tk : List (Nat × Int × Nat)) (x : Nat × Int × Nat), (tk.map (·.1)).Nodup → x ∈ tk → sumTk (tk.filter fun y => y.1 ≠ x.1) = sumTk tk - x.2.1
  | [], x, _, h => by simp at h
  | y :: l, x, hn, h => by
    simp only [List.map_cons, List.nodup_cons] at hn
    rcases List.mem_cons.1 h with rfl | h
    · rw [List.filter_cons_of_neg (by simp)]
      have : l.filter (fun y => decide (y.1 ≠ x.1)) = l := by
        rw [List.filter_eq_self]
        intro z hz
        have : z.1 ≠ x.1 := fun e => hn.1 (by rw [← e]; exact List.mem_map_of_mem hz)
        simpa using this
      rw [this]
      unfold sumTk
      simp only [List.map_cons, List.sum_cons]; omega
    · have hne : y.1 ≠ x.1 := fun e => hn.1 (by rw [e]; exact List.mem_map_of_mem h)
      rw [List.filter_cons_of_pos (by simpa using hne)]
      have := sum_filter l x hn.2 h
      unfold sumTk at this ⊢
      simp only [List.map_cons, List.sum_cons, this]; omega
theorem findR_some (a : Nat) : ∀ (l : List (Nat × Int × Nat)) (i k : Nat) (v : Value), findR a l i = some (k, v) → ∃ x ∈ l, x.1 = a ∧ v = .int .i64 x.2.1
  | [], i, k, v, h => by cases h
  | x :: l, i, k, v, h => by
    unfold findR at h
    split at h
    · rename_i e; cases h; exact ⟨x, by simp, e.symm, rfl⟩
    · obtain ⟨y, hy, h2⟩ := findR_some a l (i + 1) k v h
      exact ⟨y, by simp [hy], h2⟩
theorem findR_nil (a : Nat) : ∀ (l : List (Nat × Int × Nat)) (i : Nat), findR a l i = none → ∀ x ∈ l, x.1 ≠ a
  | [], i, _ => by simp
  | x :: l, i, h => by
    unfold findR at h
    split at h
    · cases h
    · rename_i e
      intro y hy
      rcases List.mem_cons.1 hy with rfl | hy
      · exact fun e2 => e e2.symm
      · exact findR_nil a l (i + 1) h y hy
theorem AI.plain {H : Hp} {a mp cl : Nat} {tk : List (Nat × Int × Nat)} {cap used peak : Int} (h : AI H a mp cl tk cap used peak) : ∀ x ∈ tk, PlainB H x.1 := fun x hx => by
  obtain ⟨_, A, n, m, g⟩ := h.hb x hx
  exact ⟨_, _, g⟩
structure Gave (H H' : Hp) (a mp cl : Nat) (tk tk' : List (Nat × Int × Nat)) (cap peak : Int) (gone : Nat → Prop) : Prop where
  ai : AI H' a mp cl tk' cap (sumTk tk') peak
  mem : ∀ x, x ∈ tk' ↔ x ∈ tk ∧ ¬ gone x.1
  keep : ∀ q o, H q = some o → q ≠ a → q ≠ mp → (gone q → ∀ x ∈ tk, x.1 ≠ q) → H' q = some o
  nil : ∀ x ∈ tk, gone x.1 → H' x.1 = some (bufO a none 0 0)
  sle : sumTk tk' ≤ sumTk tk
theorem Gave.same {H H' : Hp} {a mp cl : Nat} {tk tk' : List (Nat × Int × Nat)} {cap peak : Int} {g g' : Nat → Prop} (h : Gave H H' a mp cl tk tk' cap peak g) (h1 : ∀ q, g q → g' q) (h2 : ∀ q, g' q → g q ∨ ∀ x ∈ tk', x.1 ≠ q) : Gave H H' a mp cl tk tk' cap peak g' where
  ai := h.ai
  mem := fun x => by
    rw [h.mem]
    constructor
    · intro ⟨h3, h4⟩
      refine ⟨h3, fun h5 => ?_⟩
      rcases h2 _ h5 with h6 | h6
      · exact h4 h6
      · exact h6 x ((h.mem x).2 ⟨h3, h4⟩) rfl
    · intro ⟨h3, h4⟩
      exact ⟨h3, fun h5 => h4 (h1 _ h5)⟩
  keep := fun q o hq h3 h4 h5 => h.keep q o hq h3 h4 (fun h6 => h5 (h1 _ h6))
  nil := fun x hx h3 => by
    by_cases h4 : g x.1
    · exact h.nil x hx h4
    · rcases h2 _ h3 with h6 | h6
      · exact absurd h6 h4
      · exact absurd rfl (h6 x ((h.mem x).2 ⟨hx, h4⟩))
  sle := h.sle
theorem Gave.one {H H' : Hp} {a mp cl : Nat} {tk tk' : List (Nat × Int × Nat)} {cap used peak : Int} {g g' : Nat → Prop} (h0 : AI H a mp cl tk cap used peak) (h : Gave H H' a mp cl tk tk' cap peak g) {x : Nat × Int × Nat} (hx : x ∈ tk') (hg : ∀ q, g' q ↔ g q ∨ q = x.1) :
    Gave H (((H'.set mp (mapO (tk'.filter fun y => y.1 ≠ x.1) cl)).set a (arenaO cap (sumTk tk' - x.2.1) peak mp)).set x.1 (bufO a none 0 0)) a mp cl tk (tk'.filter fun y => y.1 ≠ x.1) cap peak g' := by
  obtain ⟨g1, A, n, m, g2⟩ := h.ai.hb x hx
  have hxa : x.1 ≠ a := fun e => by rw [e, h.ai.ha] at g2; unfold arenaO bufO at g2; cases g2
  have hxm : x.1 ≠ mp := fun e => by rw [e, h.ai.hm] at g2; unfold mapO bufO at g2; cases g2
  have hne := h.ai.ne
  have hsum := sum_filter tk' x h.ai.nd hx
  have hsub : ∀ y, y ∈ (tk'.filter fun y => decide (y.1 ≠ x.1)) ↔ y ∈ tk' ∧ y.1 ≠ x.1 := fun y => by rw [List.mem_filter]; simp
  have hkeep : ∀ q o, H' q = some o → q ≠ a → q ≠ mp → q ≠ x.1 → (((H'.set mp (mapO (tk'.filter fun y => y.1 ≠ x.1) cl)).set a (arenaO cap (sumTk tk' - x.2.1) peak mp)).set x.1 (bufO a none 0 0)) q = some o := fun q o hq h1 h2 h3 => by
    rw [Hp.set_other _ _ h3, Hp.set_other _ _ h1, Hp.set_other _ _ h2]; exact hq
  refine ⟨⟨hne, ?_, ?_, ?_, ?_, ?_, List.Nodup.sublist (List.Sublist.map _ (List.filter_sublist)) h.ai.bn.1, fun y hy => h.ai.bn.2 y (List.mem_filter.1 hy).1⟩, fun y => ?_, fun q o hq h1 h2 h3 => ?_, fun y hy h1 => ?_, by rw [hsum]; have := h.sle; omega⟩
  · rw [Hp.set_other _ _ (Ne.symm hxa), hsum]; exact Hp.set_same _ _ _
  · rw [Hp.set_other _ _ (Ne.symm hxm), Hp.set_other _ _ (Ne.symm hne)]; exact Hp.set_same _ _ _
  · exact List.Nodup.sublist (List.Sublist.map _ (List.filter_sublist)) h.ai.nd
  · intro y hy
    obtain ⟨h1, h2⟩ := (hsub y).1 hy
    obtain ⟨h3, A', n', m', h4⟩ := h.ai.hb y h1
    refine ⟨h3, A', n', m', hkeep _ _ h4 (fun e => ?_) (fun e => ?_) h2⟩
    · rw [e, h.ai.ha] at h4; unfold arenaO bufO at h4; cases h4
    · rw [e, h.ai.hm] at h4; unfold mapO bufO at h4; cases h4
  · have := h.ai.hu
    exact ⟨rfl, by rw [hsum]; omega, this.2.2⟩
  · rw [hsub, h.mem, hg]
    constructor
    · rintro ⟨⟨h1, h2⟩, h3⟩; exact ⟨h1, fun h4 => h4.elim h2 h3⟩
    · rintro ⟨h1, h2⟩; exact ⟨⟨h1, fun h3 => h2 (.inl h3)⟩, fun h3 => h2 (.inr h3)⟩
  · have h4 := h.keep q o hq h1 h2 (fun h5 => h3 ((hg q).2 (.inl h5)))
    refine hkeep q o h4 h1 h2 (fun e => ?_)
    exact h3 ((hg q).2 (.inr e)) x ((h.mem x).1 hx).1 e.symm
  · by_cases e : y.1 = x.1
    · rw [e]; exact Hp.set_same _ _ _
    · have h2 : g y.1 := ((hg _).1 h1).resolve_right e
      have h3 := h.nil y hy h2
      refine hkeep _ _ h3 (fun e2 => ?_) (fun e2 => ?_) e
      · rw [e2, h.ai.ha] at h3; unfold arenaO bufO at h3; cases h3
      · rw [e2, h.ai.hm] at h3; unfold mapO bufO at h3; cases h3
theorem give_loop (K : Value → Hp → Prop) (a mp cl : Nat) (cap used peak : Int) (hpk : used ≤ peak) (tk : List (Nat × Int × Nat)) (H : Hp) (h0 : AI H a mp cl tk cap used peak) (A : Option Addr) (n m : Nat) (ps : List (Option Nat)) (hn : n = ps.length) (hn2 : n ≤ 9000000000000000000)
    (hcells : ∀ H', (∀ q xs e m, H q = some (.row xs e m) → H' q = some (.row xs e m)) → Cells H' A (ps.map optP)) (hps : ∀ b, some b ∈ ps → ∃ A n m, H b = some (bufO a A n m))
    (k : ∀ H' tk', Gave H H' a mp cl tk tk' cap peak (fun q => some q ∈ ps) → K (.tuple #[]) H') :
    ∀ (d j : Nat) (H' : Hp) (tk' : List (Nat × Int × Nat)), j + d = n → Gave H H' a mp cl tk tk' cap peak (fun q => some q ∈ ps.take j) → W_arena_Arena_Give.l1 K (d + 1) (some ⟨a, 0, none⟩) A n m (n : Int) (j : Int) H'
  | 0, j, H', tk', hj, hg => by
    unfold W_arena_Arena_Give.l1
    refine BIf_dneg (by omega) (k H' tk' ?_)
    rw [List.take_of_length_le (by omega)] at hg
    exact hg
  | d + 1, j, H', tk', hj, hg => by
    obtain ⟨jb, hjb, hsb⟩ := t_buf
    obtain ⟨ji, hji, hzi⟩ := t_int
    unfold W_arena_Arena_Give.l1
    refine BIf_dpos (by omega) ?_
    have hlt : j < ps.length := by omega
    have hrows : ∀ q xs e m, H q = some (.row xs e m) → H' q = some (.row xs e m) := fun q xs e m hq =>
      hg.keep q _ hq (fun e2 => by rw [e2, h0.ha] at hq; unfold arenaO at hq; cases hq) (fun e2 => by rw [e2, h0.hm] at hq; unfold mapO at hq; cases hq) (fun _ x hx e2 => by
        obtain ⟨_, A, n, m, g⟩ := h0.hb x hx
        rw [e2, hq] at g; unfold bufO at g; cases g)
    refine (hcells H' hrows).read (i := j) (v := optP ps[j]) (by rw [List.getElem?_map, List.getElem?_eq_getElem hlt]; rfl) rfl (by rw [List.length_map]; omega) ?_
    have htk : ps.take (j + 1) = ps.take j ++ [ps[j]] := List.take_succ_eq_append_getElem hlt
    have next := fun H'' tk'' hg' => give_loop K a mp cl cap used peak hpk tk H h0 A n m ps hn hn2 hcells hps k d (j + 1) H'' tk'' (by omega) hg'
    cases hp : ps[j] with
    | none =>
      unfold optP
      simp only [HV]
      simp only [Addr.add_lit', Nat.zero_add]
      refine Ld_obj hg.ai.ha (v := .map (some mp)) rfl ?_
      simp only [HV]
      refine lookup_nilptr t_ptr hjb hsb t_map hji hzi hg.ai.hm ?_
      simp only [HV]
      rw [i64w (x := (j : Int) + 1) (by omega) (by omega)]
      refine next H' tk' (hg.same (fun q hq => by show some q ∈ ps.take (j + 1); rw [htk]; exact List.mem_append_left _ hq) (fun q hq => ?_))
      rw [htk, hp] at hq
      simp at hq
      exact .inl hq
    | some b =>
      unfold optP ptrV
      simp only [HV]
      simp only [Addr.add_lit', Nat.zero_add, Nat.add_zero]
      refine Ld_obj hg.ai.ha (v := .map (some mp)) rfl ?_
      simp only [HV]
      have hpb : some b ∈ ps := by rw [← hp]; exact List.getElem_mem hlt
      obtain ⟨Ab, nb, mb, hb⟩ := hps b hpb
      have hba : b ≠ a := fun e => by rw [e, h0.ha] at hb; unfold arenaO bufO at hb; cases hb
      have hbm : b ≠ mp := fun e => by rw [e, h0.hm] at hb; unfold mapO bufO at hb; cases hb
      have hpl : PlainB H' b := by
        by_cases h1 : (some b ∈ ps.take j) ∧ ∃ x ∈ tk, x.1 = b
        · obtain ⟨h1, x, hx, rfl⟩ := h1
          exact ⟨_, _, hg.nil x hx h1⟩
        · exact ⟨_, _, hg.keep b _ hb hba hbm (fun h2 x hx e => h1 ⟨h2, x, hx, e⟩)⟩
      rw [show (Value.pointer (some ⟨b, 0, none⟩)) = ptrV b from rfl]
      refine lookup_ptr t_ptr hjb hsb t_map hji hzi hg.ai.hm hpl hg.ai.plain (fun k' v hf => ?_) (fun hf => ?_)
      · obtain ⟨x, hx, rfl, rfl⟩ := findR_some b tk' 0 k' v hf
        simp only [HV]
        refine Ld_obj hg.ai.ha (v := .map (some mp)) rfl ?_
        simp only [HV]
        refine delete_ptr t_ptr hjb hsb t_map hg.ai.hm hpl hg.ai.plain hg.ai.nd hf ?_
        have hx1 := (hg.ai.hb x hx).1
        have hs0 := sum_nonneg tk' (fun y hy => (hg.ai.hb y hy).1)
        have hsf := sum_filter tk' x hg.ai.nd hx
        have hs1 := sum_nonneg (tk'.filter fun y => y.1 ≠ x.1) (fun y hy => (hg.ai.hb y (List.mem_filter.1 hy).1).1)
        have hu := hg.ai.hu
        have hle := hg.sle
        have hu0 := h0.hu
        rw [i64w (x := 0 - x.2.1) (by omega) (by omega)]
        refine HCalls.use (add_ok _ a mp cap (sumTk tk') peak (0 - x.2.1) (by omega) (by omega) (by rw [Hp.set_other _ _ hg.ai.ne]; exact hg.ai.ha)) ?_
        rw [if_neg (by omega), show sumTk tk' + (0 - x.2.1) = sumTk tk' - x.2.1 by omega]
        obtain ⟨_, Ac, nc, mc, hbx⟩ := hg.ai.hb x hx
        refine St_obj (c := #[ptrV a, .slice Ac nc mc]) (e := 211) (by rw [Hp.set_other _ _ hba, Hp.set_other _ _ hbm]; exact hbx) (by simp) rfl ?_
        rw [i64w (x := (j : Int) + 1) (by omega) (by omega)]
        refine next _ _ (Gave.one h0 hg hx (fun q => ?_))
        show some q ∈ ps.take (j + 1) ↔ _
        rw [htk, hp, List.mem_append]
        simp
      · simp only [HV]
        rw [i64w (x := (j : Int) + 1) (by omega) (by omega)]
        refine next H' tk' (hg.same (fun q hq => by show some q ∈ ps.take (j + 1); rw [htk]; exact List.mem_append_left _ hq) (fun q hq => ?_))
        rw [htk, hp] at hq
        simp at hq
        rcases hq with hq | rfl
        · exact .inl hq
        · exact .inr (findR_nil q tk' 0 hf)
theorem Give_W (a mp cl : Nat) (cap used peak : Int) (hpk : used ≤ peak) (tk : List (Nat × Int × Nat)) (H : Hp) (h0 : AI H a mp cl tk cap used peak) (A : Option Addr) (n m : Nat) (ps : List (Option Nat)) (hn : n = ps.length) (hn2 : n ≤ 9000000000000000000)
    (hcells : ∀ H', (∀ q xs e m, H q = some (.row xs e m) → H' q = some (.row xs e m)) → Cells H' A (ps.map optP)) (hps : ∀ b, some b ∈ ps → ∃ A n m, H b = some (bufO a A n m)) :
    W_arena_Arena_Give (some ⟨a, 0, none⟩) A n m H (fun v H' => v = .tuple #[] ∧ ∃ tk', Gave H H' a mp cl tk tk' cap peak (fun q => some q ∈ ps)) := by
  refine ⟨n + 1, give_loop _ a mp cl cap used peak hpk tk H h0 A n m ps hn hn2 hcells hps (fun H' tk' hg => ⟨rfl, tk', hg⟩) n 0 H tk (by omega) ?_⟩
  refine ⟨by rw [← h0.hu.1]; exact h0, fun x => by simp, fun q o hq _ _ _ => hq, fun x _ h => by simp at h, Int.le_refl _⟩
end Go.Proofs.YtnknippcbecmeaaGreatDoor.Are
end
section
/- The frame of the proofs: a map's entries, one after the other. -/
namespace Go.Hw
open Go
def iterO (mp since : Nat) (seen : Array Nat) (last : Nat) : AO := .obj (.mapIter (some mp) since seen last)
theorem iterO.heap {H : Hp} {w : World} {it mp since last : Nat} {seen : Array Nat} (h : H it = some (iterO mp since seen last)) (hw : Fits H w) : w.heap[it]? = some (.mapIter (some mp) since seen last) := by
  obtain ⟨o, ho, hh⟩ := hw _ _ h
  cases hh
  exact ho
theorem At.setIter {H0 H : Hp} {w0 w : World} {it mp since last : Nat} {seen : Array Nat} (hA : At H0 w0 H w) (hr : H it = some (iterO mp since seen last)) (o : Obj) : At H0 w0 (H.set it (.obj o)) { w with heap := w.heap.setIfInBounds it o } := by
  have hh := iterO.heap hr hA.fits
  have hlt : it < w.heap.size := (Array.getElem?_eq_some_iff.1 hh).1
  refine hA.turn hr (x' := o) ?_ rfl ?_ rfl rfl rfl (fun c hc => ?_)
  · show (w.heap.setIfInBounds it o)[it]? = some o
    simp [hlt]
  · show (w.heap.setIfInBounds it o).size = w.heap.size
    simp
  · show (w.heap.setIfInBounds it o)[c]? = w.heap[c]?
    rw [Array.getElem?_setIfInBounds_ne (Ne.symm hc)]
theorem choose_next {P : Program} {H0 H : Hp} {w0 w : World} (hA : At H0 w0 H w) (n : Nat) (hn : 0 < n) : ∃ i w', i < n ∧ (choose (.mapNext n)).run P w = .ok i w' ∧ At H0 w0 H w' := by
  by_cases h : n ≤ 1
  · exact ⟨0, w, hn, by simp [Question.forced, h], hA⟩
  · exact ⟨_, _, Nat.mod_lt _ hn, by simp [Question.forced, h, Question.cut]; rfl, hA.drew⟩
end Go.Hw
end
section
/- An arena as a part of memory: contracts of its functions. -/
namespace Go.Proofs.YtnknippcbecmeaaGreatDoor.Are
open Go Go.Hw W
def sumB (l : List (Nat × Nat × Option Addr)) : Int := (l.map fun y => (y.2.1 : Int)).sum
def gaveB (g : Nat → Bool) (l : List (Nat × Nat × Option Addr)) : List (Nat × Nat × Option Addr) := l.map fun y => if g y.1 then (y.1, 0, none) else y
theorem gaveB_fst (g : Nat → Bool) (l : List (Nat × Nat × Option Addr)) : (gaveB g l).map (·.1) = l.map (·.1) := by
  unfold gaveB
  rw [List.map_map]
  apply List.map_congr_left
  intro y _
  simp only [Function.comp]
  split <;> rfl
theorem sumB_append (l l' : List (Nat × Nat × Option Addr)) : sumB (l ++ l') = sumB l + sumB l' := by simp [sumB]
theorem sumB_cons (y : Nat × Nat × Option Addr) (l : List (Nat × Nat × Option Addr)) : sumB (y :: l) = y.2.1 + sumB l := by simp [sumB]
theorem sumB_nil : sumB [] = 0 := rfl
theorem sum_eq : ∀ (bufs : List (Nat × Nat × Option Addr)) (tk : List (Nat × Int × Nat)), (tk.map (·.1)).Nodup → (bufs.map (·.1)).Nodup → (∀ x ∈ tk, 1 ≤ x.2.1) → (∀ x ∈ tk, ∃ A, (x.1, x.2.1.toNat, A) ∈ bufs) →
    (∀ y ∈ bufs, 1 ≤ y.2.1 → ∃ n, (y.1, (y.2.1 : Int), n) ∈ tk) → sumTk tk = sumB bufs
  | [], tk, _, _, _, h2, _ => by
    cases tk with
    | nil => rfl
    | cons x l => obtain ⟨A, hA⟩ := h2 x (by simp); simp at hA
  | y :: bs, tk, hn, hb, h1, h2, h3 => by
    simp only [List.map_cons, List.nodup_cons] at hb
    by_cases hy : 1 ≤ y.2.1
    · obtain ⟨k, hk⟩ := h3 y (by simp) hy
      have hs := sum_filter tk _ hn hk
      have ih := sum_eq bs (tk.filter fun z => z.1 ≠ y.1) (List.Nodup.sublist (List.Sublist.map _ List.filter_sublist) hn) hb.2 (fun x hx => h1 x (List.mem_filter.1 hx).1) (fun x hx => by
        obtain ⟨g1, g2⟩ := List.mem_filter.1 hx
        obtain ⟨A, hA⟩ := h2 x g1
        rcases List.mem_cons.1 hA with e | hA
        · have : x.1 = y.1 := by rw [← e]
          simp [this] at g2
        · exact ⟨A, hA⟩) (fun z hz hz1 => by
        obtain ⟨n, hn'⟩ := h3 z (by simp [hz]) hz1
        refine ⟨n, List.mem_filter.2 ⟨hn', ?_⟩⟩
        have : z.1 ≠ y.1 := fun e => hb.1 (by rw [← e]; exact List.mem_map_of_mem hz)
        simpa using this)
      rw [sumB_cons, ← ih]
      simp only at hs
      omega
    · have hy0 : y.2.1 = 0 := by omega
      have ih := sum_eq bs tk hn hb.2 h1 (fun x hx => by
        obtain ⟨A, hA⟩ := h2 x hx
        rcases List.mem_cons.1 hA with e | hA
        · have : x.2.1.toNat = y.2.1 := by rw [← e]
          have := h1 x hx; omega
        · exact ⟨A, hA⟩) (fun z hz hz1 => h3 z (by simp [hz]) hz1)
      rw [sumB_cons, hy0, ih]; simp
structure ArI (H : Hp) (a mp cl : Nat) (tk : List (Nat × Int × Nat)) (cap used peak : Int) (bufs : List (Nat × Nat × Option Addr)) : Prop where
  ai : AI H a mp cl tk cap used peak
  up : used ≤ peak
  hd : ∀ y ∈ bufs, H y.1 = some (bufO a y.2.2 y.2.1 y.2.1)
  tb : ∀ x ∈ tk, ∃ A, (x.1, x.2.1.toNat, A) ∈ bufs
  bt : ∀ y ∈ bufs, 1 ≤ y.2.1 → ∃ n, (y.1, (y.2.1 : Int), n) ∈ tk
  bn : (bufs.map (·.1)).Nodup
  hz : ∀ y ∈ bufs, y.2.1 = 0 → y.2.2 = none
def Ar (a : Nat) (cap peak : Int) (bufs : List (Nat × Nat × Option Addr)) : As := fun H => ∃ mp cl tk, ArI H a mp cl tk cap (sumB bufs) peak bufs
theorem AI.up {H H' : Hp} {a mp cl : Nat} {tk : List (Nat × Int × Nat)} {cap used peak : Int} (h : AI H a mp cl tk cap used peak) (k : H.le H') : AI H' a mp cl tk cap used peak :=
  ⟨h.ne, k _ _ h.ha, k _ _ h.hm, h.nd, fun x hx => by obtain ⟨h1, A, n, m, h2⟩ := h.hb x hx; exact ⟨h1, A, n, m, k _ _ h2⟩, h.hu, h.bn⟩
theorem ArI.upw {H H' : Hp} {a mp cl : Nat} {tk : List (Nat × Int × Nat)} {cap used peak : Int} {bufs : List (Nat × Nat × Option Addr)} (h : ArI H a mp cl tk cap used peak bufs) (k : H.le H') : ArI H' a mp cl tk cap used peak bufs :=
  ⟨AI.up h.ai k, h.up, fun y hy => k _ _ (h.hd y hy), h.tb, h.bt, h.bn, h.hz⟩
theorem ArI.less {H : Hp} {a mp cl : Nat} {tk : List (Nat × Int × Nat)} {cap used peak : Int} {bufs : List (Nat × Nat × Option Addr)} (h : ArI H a mp cl tk cap used peak bufs) (p : Nat × Nat × Option Addr → Bool) (hp : ∀ y ∈ bufs, p y = false → y.2.1 = 0) :
    ArI H a mp cl tk cap used peak (bufs.filter p) :=
  ⟨h.ai, h.up, fun y hy => h.hd y (List.mem_filter.1 hy).1, fun x hx => by
    obtain ⟨A, hA⟩ := h.tb x hx
    refine ⟨A, List.mem_filter.2 ⟨hA, ?_⟩⟩
    cases e : p (x.1, x.2.1.toNat, A) with
    | true => rfl
    | false => have := hp _ hA e; have := (h.ai.hb x hx).1; simp at *; omega, fun y hy => h.bt y (List.mem_filter.1 hy).1, List.Nodup.sublist (List.Sublist.map _ List.filter_sublist) h.bn, fun y hy => h.hz y (List.mem_filter.1 hy).1⟩
theorem Sep.ar {L : List As} {H : Hp} (h : Sep L H) (i : Nat) {a : Nat} {cap peak : Int} {bufs : List (Nat × Nat × Option Addr)} (hi : L[i]? = some (Ar a cap peak bufs)) : ∃ mp cl tk, ArI H a mp cl tk cap (sumB bufs) peak bufs := by
  obtain ⟨H1, ⟨mp, cl, tk, h1⟩, h2⟩ := h.see i hi
  exact ⟨mp, cl, tk, h1.upw h2⟩
section
variable {L : List As} {H : Hp} {a : Nat} {cap peak : Int} {bufs : List (Nat × Nat × Option Addr)}
theorem peak_s (h : Sep L H) (i : Nat) (hi : L[i]? = some (Ar a cap peak bufs)) : HCalls Tryz.prog 15 #[.pointer (some ⟨a, 0, none⟩)] H (RetE (.int .i64 peak) H) := by
  obtain ⟨mp, cl, tk, h⟩ := Sep.ar h i hi; exact peak_ok H a mp cap _ peak h.ai.ha
theorem ArI.nn {used : Int} {mp cl : Nat} {tk : List (Nat × Int × Nat)} (h : ArI H a mp cl tk cap used peak bufs) : 0 ≤ used ∧ used ≤ cap ∧ cap ≤ 16777216 ∧ used ≤ peak := by
  have h1 := sum_nonneg tk (fun x hx => (h.ai.hb x hx).1)
  have h2 := h.ai.hu
  exact ⟨by omega, h2.2.1, h2.2.2, h.up⟩
theorem free_s (h : Sep L H) (i : Nat) (hi : L[i]? = some (Ar a cap peak bufs)) : HCalls Tryz.prog 128 #[.pointer (some ⟨a, 0, none⟩)] H (RetE (.int .i64 (cap - sumB bufs)) H) := by
  obtain ⟨mp, cl, tk, h⟩ := Sep.ar h i hi
  have := h.nn
  exact free_ok H a mp cap _ peak (by omega) h.ai.ha
theorem Words_s (h : Sep L H) (i : Nat) (hi : L[i]? = some (Ar a cap peak bufs)) {b n : Nat} {A : Option Addr} (hb : (b, n, A) ∈ bufs) : HCalls Tryz.prog 86 #[.pointer (some ⟨b, 0, none⟩)] H (RetE (.slice A n n) H) := by
  obtain ⟨mp, cl, tk, h⟩ := Sep.ar h i hi; exact Words_ok H b a A n n (h.hd _ hb)
end
theorem New_tr (x : Int) (h : 1 ≤ x ∧ x ≤ 16777216) : Tr Tryz.prog 42 #[.int .i64 x] [] fun v M => ∃ a, v = .pointer (some ⟨a, 0, none⟩) ∧ M = [Ar a x 0 []] := fun H _ => by
  refine (New_ok H x h).mono ?_
  rintro v H' ⟨mp, a, hmp, ha, hne, rfl, rfl⟩
  refine ⟨_, ⟨a, rfl, rfl⟩, Sep.up (H := Hp.set (Hp.set (fun _ => none) mp (mapO [] 0)) a (arenaO x 0 0 mp)) ?_ (Hp.set_le (Hp.set_le (H := fun _ => none) (fun _ _ h => nomatch h) _ _) _ _)⟩
  refine ⟨_, fun _ => none, Hp.le_refl _, fun b o h => (by cases h), fun b => .inr rfl, ⟨mp, 0, [], ⟨⟨hne, Hp.set_same _ _ _, by rw [Hp.set_other _ _ (Ne.symm hne)]; exact Hp.set_same _ _ _, by simp, fun x hx => by simp at hx, ⟨rfl, by rw [sumB_nil]; omega, by omega⟩, by simp⟩, Int.le_refl _, fun y hy => by simp at hy, fun x hx => by simp at hx, fun y hy => by simp at hy, by simp, fun y hy => by simp at hy⟩⟩, trivial⟩
theorem sum_append (l l' : List (Nat × Int × Nat)) : sumTk (l ++ l') = sumTk l + sumTk l' := by simp [sumTk]
theorem Take_tr {a : Nat} {cap peak : Int} {bufs : List (Nat × Nat × Option Addr)} {n : Nat} (hn : 1 ≤ n) (hc : (n : Int) ≤ cap - sumB bufs) :
    Tr Tryz.prog 82 #[.pointer (some ⟨a, 0, none⟩), .int .i64 n] [Ar a cap peak bufs] fun v M => ∃ b rb, v = .tuple #[.pointer (some ⟨b, 0, none⟩), .int .i64 0] ∧
      M = [Ar a cap (if sumB bufs + n > peak then sumB bufs + n else peak) (bufs ++ [(b, n, some ⟨rb, 0, none⟩)]), pts rb (.row (zerosU64 n) 60 n)] := fun H hs => by
  obtain ⟨mp, cl, tk, h⟩ := Sep.ar hs 0 rfl
  have hnn := h.nn
  refine (Take_ok H a mp cap (sumB bufs) peak n tk cl (by omega) (by omega) h.ai.ne h.ai.ha h.ai.hm h.ai.plain).mono ?_
  rintro v H' ⟨rb, b, hrb, hb, hbr, rfl, rfl⟩
  rw [Int.toNat_natCast]
  have har : a ≠ rb := fun e => by have := h.ai.ha; rw [e, hrb] at this; cases this
  have hab : a ≠ b := fun e => by have := h.ai.ha; rw [e, hb] at this; cases this
  have hmr : mp ≠ rb := fun e => by have := h.ai.hm; rw [e, hrb] at this; cases this
  have hmb : mp ≠ b := fun e => by have := h.ai.hm; rw [e, hb] at this; cases this
  have hne := h.ai.ne
  have keep : ∀ q o, H q = some o → q ≠ a → q ≠ mp → ((((H.set rb (.row (zerosU64 n) 60 n)).set b (bufO a (some ⟨rb, 0, none⟩) n n)).set mp (mapO (tk ++ [(b, (n : Int), cl)]) (cl + 1))).set a (arenaO cap (sumB bufs + n) (if sumB bufs + n > peak then sumB bufs + n else peak) mp)) q = some o := fun q o hq h1 h2 => by
    have h7 : q ≠ rb := fun e => by rw [e, hrb] at hq; cases hq
    have h8 : q ≠ b := fun e => by rw [e, hb] at hq; cases hq
    rw [Hp.set_other _ _ h1, Hp.set_other _ _ h2, Hp.set_other _ _ h8, Hp.set_other _ _ h7]; exact hq
  refine ⟨_, ⟨b, rb, rfl, rfl⟩, ?_⟩
  -- the arena's own part
  have hfr : ∀ y ∈ bufs, y.1 ≠ a ∧ y.1 ≠ mp ∧ y.1 ≠ b := fun y hy => by
    have h1 := h.hd y hy
    refine ⟨fun e => ?_, fun e => ?_, fun e => ?_⟩
    · rw [e, h.ai.ha] at h1; unfold arenaO bufO at h1; cases h1
    · rw [e, h.ai.hm] at h1; unfold mapO bufO at h1; cases h1
    · rw [e, hb] at h1; cases h1
  have hxf : ∀ x ∈ tk, x.1 ≠ a ∧ x.1 ≠ mp ∧ x.1 ≠ b := fun x hx => by
    obtain ⟨A, hA⟩ := h.tb x hx
    exact hfr _ hA
  let G : Hp := fun q => if q = rb then none else ((((H.set rb (.row (zerosU64 n) 60 n)).set b (bufO a (some ⟨rb, 0, none⟩) n n)).set mp (mapO (tk ++ [(b, (n : Int), cl)]) (cl + 1))).set a (arenaO cap (sumB bufs + n) (if sumB bufs + n > peak then sumB bufs + n else peak) mp)) q
  have hG : ∀ q o, q ≠ rb → ((((H.set rb (.row (zerosU64 n) 60 n)).set b (bufO a (some ⟨rb, 0, none⟩) n n)).set mp (mapO (tk ++ [(b, (n : Int), cl)]) (cl + 1))).set a (arenaO cap (sumB bufs + n) (if sumB bufs + n > peak then sumB bufs + n else peak) mp)) q = some o → G q = some o := fun q o h1 h2 => by
    show (if q = rb then none else _) = _
    rw [if_neg h1]; exact h2
  have gb := hG b (bufO a (some ⟨rb, 0, none⟩) n n) hbr (by rw [Hp.set_other _ _ (Ne.symm hab), Hp.set_other _ _ (Ne.symm hmb)]; exact Hp.set_same _ _ _)
  have nrb : ∀ q o, H q = some o → q ≠ rb := fun q o hq e => by rw [e, hrb] at hq; cases hq
  refine ⟨G, fun q => if q = rb then some (.row (zerosU64 n) 60 n) else none, fun q o hq => ?_, fun q o hq => ?_, fun q => ?_, ⟨mp, cl + 1, tk ++ [(b, (n : Int), cl)], ?_⟩, ⟨_, fun _ => none, Hp.le_refl _, fun b o h => (by cases h), fun b => .inr rfl, (if_pos rfl : (if rb = rb then some _ else none) = _), trivial⟩⟩
  · have hq' : (if q = rb then none else _) = some o := hq
    split at hq'
    · cases hq'
    · exact hq'
  · simp only at hq
    split at hq
    · rename_i e; subst e
      rw [Hp.set_other _ _ (Ne.symm har), Hp.set_other _ _ (Ne.symm hmr), Hp.set_other _ _ (Ne.symm hbr), Hp.set_same]; exact hq
    · cases hq
  · by_cases e : q = rb
    · left; show (if q = rb then none else _) = none; rw [if_pos e]
    · right; simp only [e, if_false]
  rw [show sumB (bufs ++ [(b, n, some ⟨rb, 0, none⟩)]) = sumB bufs + n by rw [sumB_append]; simp [sumB]]
  refine ⟨⟨hne, hG a _ har (Hp.set_same _ _ _), hG mp _ hmr (by rw [Hp.set_other _ _ (Ne.symm hne)]; exact Hp.set_same _ _ _), ?_, fun x hx => ?_, ⟨?_, by omega, by omega⟩, ?_, fun x hx => ?_⟩, by split <;> omega, fun y hy => ?_, fun x hx => ?_, fun y hy hy1 => ?_, ?_, fun y hy h0 => ?_⟩
  · rw [List.map_append, List.nodup_append]
    refine ⟨h.ai.nd, by simp, fun x hx y hy e => ?_⟩
    simp at hy; subst hy
    obtain ⟨z, hz, rfl⟩ := List.mem_map.1 hx
    exact (hxf z hz).2.2 e
  · rcases List.mem_append.1 hx with hx | hx
    · obtain ⟨h1, A, n', m', h2⟩ := h.ai.hb x hx
      exact ⟨h1, A, n', m', hG _ _ (nrb _ _ h2) (keep _ _ h2 (hxf x hx).1 (hxf x hx).2.1)⟩
    · simp at hx; subst hx
      exact ⟨by show (1 : Int) ≤ n; omega, _, _, _, gb⟩
  · rw [sum_append, ← h.ai.hu.1]; simp [sumTk]
  · rw [List.map_append, List.nodup_append]
    refine ⟨h.ai.bn.1, by simp, fun x hx y hy e => ?_⟩
    simp at hy; subst hy
    obtain ⟨z, hz, rfl⟩ := List.mem_map.1 hx
    have := h.ai.bn.2 z hz
    omega
  · rcases List.mem_append.1 hx with hx | hx
    · have := h.ai.bn.2 x hx; omega
    · simp at hx; subst hx; show cl < cl + 1; omega
  · rcases List.mem_append.1 hy with hy | hy
    · exact hG _ _ (nrb _ _ (h.hd y hy)) (keep _ _ (h.hd y hy) (hfr y hy).1 (hfr y hy).2.1)
    · simp at hy; subst hy; exact gb
  · rcases List.mem_append.1 hx with hx | hx
    · obtain ⟨A, hA⟩ := h.tb x hx
      exact ⟨A, List.mem_append_left _ hA⟩
    · simp at hx; subst hx
      exact ⟨some ⟨rb, 0, none⟩, by simp⟩
  · rcases List.mem_append.1 hy with hy | hy
    · obtain ⟨m, hm⟩ := h.bt y hy hy1
      exact ⟨m, List.mem_append_left _ hm⟩
    · simp at hy; subst hy
      exact ⟨cl, by simp⟩
  · rw [List.map_append, List.nodup_append]
    refine ⟨h.bn, by simp, fun x hx y hy e => ?_⟩
    simp at hy; subst hy
    obtain ⟨z, hz, rfl⟩ := List.mem_map.1 hx
    exact (hfr z hz).2.2 e
  · rcases List.mem_append.1 hy with hy | hy
    · exact h.hz y hy h0
    · simp at hy; subst hy; simp at h0; omega
theorem ArI.gave {H H' : Hp} {a mp cl : Nat} {tk tk' : List (Nat × Int × Nat)} {cap used peak : Int} {bufs : List (Nat × Nat × Option Addr)} {g : Nat → Prop} {gb : Nat → Bool} (h : ArI H a mp cl tk cap used peak bufs) (hg : Gave H H' a mp cl tk tk' cap peak g) (hgb : ∀ q, gb q = true ↔ g q) :
    ArI H' a mp cl tk' cap (sumB (gaveB gb bufs)) peak (gaveB gb bufs) := by
  have hu := h.ai.hu
  have hnd : ((gaveB gb bufs).map (·.1)).Nodup := by rw [gaveB_fst]; exact h.bn
  have hmem : ∀ y ∈ gaveB gb bufs, ∃ z ∈ bufs, y = if gb z.1 then (z.1, 0, none) else z := fun y hy => by
    obtain ⟨z, hz, rfl⟩ := List.mem_map.1 hy
    exact ⟨z, hz, rfl⟩
  have htb : ∀ x ∈ tk', ∃ A, (x.1, x.2.1.toNat, A) ∈ gaveB gb bufs := fun x hx => by
    obtain ⟨h1, h2⟩ := (hg.mem x).1 hx
    obtain ⟨A, hA⟩ := h.tb x h1
    refine ⟨A, List.mem_map.2 ⟨_, hA, ?_⟩⟩
    rw [if_neg (fun e => h2 ((hgb _).1 e))]
  have hbt : ∀ y ∈ gaveB gb bufs, 1 ≤ y.2.1 → ∃ n, (y.1, (y.2.1 : Int), n) ∈ tk' := fun y hy hy1 => by
    obtain ⟨z, hz, rfl⟩ := hmem y hy
    by_cases e : gb z.1 = true
    · rw [if_pos e] at hy1; simp at hy1
    · rw [if_neg e] at hy1 ⊢
      obtain ⟨n, hn⟩ := h.bt z hz hy1
      exact ⟨n, (hg.mem _).2 ⟨hn, fun e2 => e ((hgb _).2 e2)⟩⟩
  have hsum := sum_eq (gaveB gb bufs) tk' hg.ai.nd hnd (fun x hx => (hg.ai.hb x hx).1) htb hbt
  refine ⟨by rw [← hsum]; exact hg.ai, by rw [← hsum]; have := h.up; have := hg.sle; omega, fun y hy => ?_, htb, hbt, hnd, fun y hy h0 => ?_⟩
  rotate_left
  · obtain ⟨z, hz, rfl⟩ := hmem y hy
    by_cases e : gb z.1 = true
    · rw [if_pos e]
    · rw [if_neg e] at h0 ⊢; exact h.hz z hz h0
  obtain ⟨z, hz, rfl⟩ := hmem y hy
  have hz1 := h.hd z hz
  have e1 : z.1 ≠ a := fun e => by rw [e, h.ai.ha] at hz1; unfold arenaO bufO at hz1; cases hz1
  have e2 : z.1 ≠ mp := fun e => by rw [e, h.ai.hm] at hz1; unfold mapO bufO at hz1; cases hz1
  by_cases e : gb z.1 = true
  · rw [if_pos e]
    have hgz := (hgb _).1 e
    by_cases hx : ∃ x ∈ tk, x.1 = z.1
    · obtain ⟨x, hx, hxe⟩ := hx
      have := hg.nil x hx (by rw [hxe]; exact hgz)
      rw [hxe] at this; exact this
    · have h0 : z.2.1 = 0 := by
        by_cases h1 : 1 ≤ z.2.1
        · obtain ⟨n, hn⟩ := h.bt z hz h1
          exact absurd ⟨_, hn, rfl⟩ hx
        · omega
      have := hg.keep z.1 _ hz1 e1 e2 (fun _ x hx' e3 => hx ⟨x, hx', e3⟩)
      rw [h0, h.hz z hz h0] at this
      exact this
  · rw [if_neg e]
    exact hg.keep z.1 _ hz1 e1 e2 (fun e3 => absurd ((hgb _).2 e3) e)
end Go.Proofs.YtnknippcbecmeaaGreatDoor.Are
end
section
/- arena: Give and Reset, as contracts over parts of memory. -/
namespace Go.Proofs.YtnknippcbecmeaaGreatDoor.Are
open Go Go.Hw W
theorem ArI.cut {H : Hp} {a mp cl : Nat} {tk : List (Nat × Int × Nat)} {cap used peak : Int} {bufs : List (Nat × Nat × Option Addr)} (h : ArI H a mp cl tk cap used peak bufs) (D : Nat → Bool) (h1 : D a = true) (h2 : D mp = true) (h3 : ∀ y ∈ bufs, D y.1 = true) :
    ArI (fun q => if D q = true then H q else none) a mp cl tk cap used peak bufs := by
  have g : ∀ q o, D q = true → H q = some o → (fun q => if D q = true then H q else none) q = some o := fun q o e1 e2 => by
    show (if D q = true then H q else none) = some o
    rw [if_pos e1]; exact e2
  refine ⟨⟨h.ai.ne, g _ _ h1 h.ai.ha, g _ _ h2 h.ai.hm, h.ai.nd, fun x hx => ?_, h.ai.hu, h.ai.bn⟩, h.up, fun y hy => g _ _ (h3 y hy) (h.hd y hy), h.tb, h.bt, h.bn, h.hz⟩
  obtain ⟨k1, A, n, m, k2⟩ := h.ai.hb x hx
  obtain ⟨A', hA'⟩ := h.tb x hx
  exact ⟨k1, A, n, m, g _ _ (h3 _ hA') k2⟩
theorem ArI.back {H H1 H2 H' : Hp} {a mp cl cl' : Nat} {tk tk' : List (Nat × Int × Nat)} {cap used used' peak peak' : Int} {bufs : List (Nat × Nat × Option Addr)} {g : Nat → Bool} {L : List As}
    (hle : H1.le H) (hap : Apart H1 H2) (h1 : ArI H1 a mp cl tk cap used peak bufs) (h' : ArI H' a mp cl' tk' cap used' peak' (gaveB g bufs)) (h2 : H2.le H') (hs : Sep L H2) (hu : used' = sumB (gaveB g bufs)) : Sep (Ar a cap peak' (gaveB g bufs) :: L) H' := by
  have hd : ∀ q o, H1 q = some o → (H1 q).isSome = true := fun q o h => by rw [h]; rfl
  refine ⟨fun q => if (H1 q).isSome = true then H' q else none, H2, fun q o hq => ?_, h2, fun q => ?_, ⟨mp, cl', tk', ?_⟩, hs⟩
  · simp only at hq
    split at hq
    · exact hq
    · cases hq
  · rcases hap q with e | e
    · left; simp [e]
    · exact .inr e
  · rw [← hu]
    refine h'.cut (fun q => (H1 q).isSome) (hd _ _ h1.ai.ha) (hd _ _ h1.ai.hm) (fun y hy => ?_)
    obtain ⟨z, hz, e⟩ := List.mem_map.1 (show y.1 ∈ bufs.map (·.1) by rw [← gaveB_fst g]; exact List.mem_map_of_mem hy)
    have := hd _ _ (h1.hd z hz)
    rw [e] at this; exact this
theorem give_core {a : Nat} {cap peak : Int} {bufs : List (Nat × Nat × Option Addr)} (vb n mm : Nat) (xs : List Value) (ps : List (Option Nat)) (hn : n = ps.length) (hn2 : n ≤ 9000000000000000000) (hx : xs.take n = ps.map optP) (hps : ∀ b, some b ∈ ps → ∃ n A, (b, n, A) ∈ bufs)
    {H : Hp} (hs : Sep [Ar a cap peak bufs, pts vb (.row xs 164 mm)] H) : ∃ mp cl tk, AI H a mp cl tk cap (sumB bufs) peak ∧ sumB bufs ≤ peak ∧ (∀ H', (∀ q xs e m, H q = some (.row xs e m) → H' q = some (.row xs e m)) → Cells H' (some ⟨vb, 0, none⟩) (ps.map optP)) ∧ (∀ b, some b ∈ ps → ∃ A n m, H b = some (bufO a A n m)) ∧
      ∀ H' tk', Gave H H' a mp cl tk tk' cap peak (fun q => some q ∈ ps) → Sep [Ar a cap peak (gaveB (fun q => decide (some q ∈ ps)) bufs), pts vb (.row xs 164 mm)] H' := by
  have hv := Sep.get hs 1 rfl
  obtain ⟨H1, H2, k1, k2, k3, ⟨mp, cl, tk, h1⟩, k5⟩ := hs
  have h := h1.upw k1
  refine ⟨mp, cl, tk, h.ai, h.up, fun H' hH' => ?_, fun b hb => ?_, fun H' tk' hg => ?_⟩
  · have := Cells.row (hH' vb xs _ _ hv) 0 n
    rw [List.drop_zero, hx] at this; exact this
  · obtain ⟨n, A, hb⟩ := hps b hb
    exact ⟨_, _, _, h.hd _ hb⟩
  have h' := h.gave hg (gb := fun q => decide (some q ∈ ps)) (fun q => by simp)
  have hvb : ∀ q, q ≠ vb ∨ H1 q = none := fun q => by
    by_cases e : q = vb
    · right; rw [e]
      have h2 : H2 vb = some (.row xs 164 mm) := Sep.get k5 0 rfl
      exact (k3 vb).resolve_right (by rw [h2]; simp)
    · exact .inl e
  refine ArI.back (H2 := fun q => if q = vb then some (.row xs 164 mm) else none) k1 (fun q => ?_) h1 h' (fun q o hq => ?_) ⟨_, fun _ => none, Hp.le_refl _, fun b o h => (by cases h), fun b => .inr rfl, (if_pos rfl : (if vb = vb then some _ else none) = _), trivial⟩ rfl
  · rcases hvb q with e | e
    · right; simp only [e, if_false]
    · exact .inl e
  · simp only at hq
    split at hq
    · rename_i e; subst e; cases hq
      refine hg.keep q _ hv (fun e => ?_) (fun e => ?_) (fun _ x hx' e => ?_)
      · rw [e, h.ai.ha] at hv; unfold arenaO at hv; cases hv
      · rw [e, h.ai.hm] at hv; unfold mapO at hv; cases hv
      · obtain ⟨_, A, n, m, k⟩ := h.ai.hb x hx'
        rw [e, hv] at k; unfold bufO at k; cases k
    · cases hq
theorem Give_trD {a : Nat} {cap peak : Int} {bufs : List (Nat × Nat × Option Addr)} (vb n m mm : Nat) (xs : List Value) (ps : List (Option Nat)) (hn : n = ps.length) (hn2 : n ≤ 9000000000000000000) (hx : xs.take n = ps.map optP) (hps : ∀ b, some b ∈ ps → ∃ n A, (b, n, A) ∈ bufs) :
    TrD Tryz.prog 84 #[.pointer (some ⟨a, 0, none⟩), .slice (some ⟨vb, 0, none⟩) n m] [Ar a cap peak bufs, pts vb (.row xs 164 mm)] fun v M =>
      v = .tuple #[] ∧ M = [Ar a cap peak (gaveB (fun q => decide (some q ∈ ps)) bufs), pts vb (.row xs 164 mm)] := fun H hs => by
  obtain ⟨mp, cl, tk, h1, h2, h3, h4, h5⟩ := give_core vb n mm xs ps hn hn2 hx hps hs
  refine HCallsD.mono (W_arena_Arena_Give.okD _ _ _ _ _ _ (Give_W a mp cl cap (sumB bufs) peak h2 tk H h1 (some ⟨vb, 0, none⟩) n m ps hn hn2 h3 h4)) ?_
  rintro v H' ⟨rfl, tk', hg⟩
  exact ⟨_, ⟨rfl, rfl⟩, h5 H' tk' hg⟩
theorem Give_oneD {a : Nat} {cap peak : Int} {bufs : List (Nat × Nat × Option Addr)} (vb b n : Nat) (A : Option Addr) (hnew : ∀ y ∈ bufs, y.1 ≠ b) :
    TrD Tryz.prog 84 #[.pointer (some ⟨a, 0, none⟩), .slice (some ⟨vb, 0, none⟩) 1 1] [Ar a cap peak (bufs ++ [(b, n, A)]), pts vb (.row [.pointer (some ⟨b, 0, none⟩)] 164 1)] fun v M =>
      v = .tuple #[] ∧ M = [Ar a cap peak bufs] := fun H hs => by
  refine (Give_trD vb 1 1 1 _ [some b] rfl (by omega) rfl (fun q hq => ?_) H hs).mono ?_
  · simp at hq; subst hq
    exact ⟨n, A, by simp⟩
  · rintro v H' ⟨M, ⟨rfl, rfl⟩, hs⟩
    refine ⟨_, ⟨rfl, rfl⟩, ?_⟩
    have hs := hs.re [0] rfl
    have e : gaveB (fun q => decide (some q ∈ [some b])) (bufs ++ [(b, n, A)]) = bufs ++ [(b, 0, none)] := by
      unfold gaveB
      rw [List.map_append]
      congr 1
      · refine (List.map_congr_left (g := id) fun y hy => ?_).trans (List.map_id _)
        have := hnew y hy
        simp [this]
      · simp
    rw [e] at hs
    obtain ⟨H1, H2, k1, k2, k3, ⟨mp, cl, tk, h1⟩, k5⟩ := hs
    refine ⟨H1, H2, k1, k2, k3, ⟨mp, cl, tk, ?_⟩, k5⟩
    have h2 := h1.less (fun y => decide (y.1 ≠ b)) (fun y hy hp => by
      rcases List.mem_append.1 hy with hy | hy
      · simp at hp; exact absurd hp (hnew y hy)
      · simp at hy; subst hy; rfl)
    have e2 : (bufs ++ [(b, 0, none)]).filter (fun y => decide (y.1 ≠ b)) = bufs := by
      rw [List.filter_append]
      have h3 : bufs.filter (fun y => decide (y.1 ≠ b)) = bufs := by
        rw [List.filter_eq_self]
        intro y hy; simpa using hnew y hy
      rw [h3]; simp
    rw [e2] at h2
    have e3 : sumB (bufs ++ [(b, 0, none)]) = sumB bufs := by rw [sumB_append]; simp [sumB]
    rw [e3] at h2
    exact h2
end Go.Proofs.YtnknippcbecmeaaGreatDoor.Are
end
