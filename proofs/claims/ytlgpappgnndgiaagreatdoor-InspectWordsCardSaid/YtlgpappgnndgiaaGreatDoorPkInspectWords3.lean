import Derived.Test.YtlgpappgnndgiaaGreatDoorProg
import Derived.DeepKeys
import Derived.LaidEql
import Derived.MapKept
import Derived.Test.YtlgpappgnndgiaaGreatDoorPkInspectWords2
section
/-! Wcrc -/
/- Formulas of functions, printed by wip/tools/hwp.py. -/
set_option maxRecDepth 100000
set_option linter.unusedVariables false
namespace Go.Proofs.YtlgpappgnndgiaaGreatDoor.W
open Go Go.Hw

theorem mixWcrc : Tryz.prog.follows .mixedOrders = true := by kernel_rfl
-- (*crc.Counter).AddWords
def W_crc_Counter_AddWords (p1 : Option Addr) (A1 : Option Addr) (n1 : Nat) (m1 : Nat) (H : Hp) (K : Value → Hp → Prop) : Prop :=
  HCalls Tryz.prog 129 #[.slice A1 n1 m1] H fun v1 H1 => DSl v1 fun A2 n2 m2 => HCalls Tryz.prog 147 #[.pointer p1, .slice A2 n2 m2] H1 fun v2 H2 => K (.tuple #[]) H2
def W_crc_Counter_AddWords.Λ (_ : Value → Hp → Prop) : Cuts := Cuts.none (fun _ => none)
theorem W_crc_Counter_AddWords.ok (p1 : Option Addr) (A1 : Option Addr) (n1 : Nat) (m1 : Nat) (H : Hp) (K : Value → Hp → Prop) (h : W_crc_Counter_AddWords p1 A1 n1 m1 H K) : HCalls Tryz.prog 106 #[.pointer p1, .slice A1 n1 m1] H K :=
  hcalls Tryz.func106 rfl (Nat.le_of_ble_eq_true rfl) (hw_safe (Λ := Cuts.none (fun _ => none)) mixWcrc _ _ _ _ _ (Eq.mp (by kernel_rfl) h) (obs_none _ _ _ _ _))

-- (*crc.Counter).Sum
def W_crc_Counter_Sum (p1 : Option Addr) (H : Hp) (K : Value → Hp → Prop) : Prop :=
  NN p1 fun a1 => Ld H (a1.add 0) fun v1 => DI .u32 v1 fun x1 => K (.int .u32 x1) H
def W_crc_Counter_Sum.Λ (_ : Value → Hp → Prop) : Cuts := Cuts.none (fun _ => none)
theorem W_crc_Counter_Sum.ok (p1 : Option Addr) (H : Hp) (K : Value → Hp → Prop) (h : W_crc_Counter_Sum p1 H K) : HCalls Tryz.prog 107 #[.pointer p1] H K :=
  hcalls Tryz.func107 rfl (Nat.le_of_ble_eq_true rfl) (hw_safe (Λ := Cuts.none (fun _ => none)) mixWcrc _ _ _ _ _ (Eq.mp (by kernel_rfl) h) (obs_none _ _ _ _ _))

-- (*crc.Counter).Add
def W_crc_Counter_Add (p1 : Option Addr) (A1 : Option Addr) (n1 : Nat) (m1 : Nat) (H : Hp) (K : Value → Hp → Prop) : Prop :=
  NN p1 fun a1 => Ld H (a1.add 0) fun v1 => DI .u32 v1 fun x1 => HCalls Tryz.prog 188 #[.int .u32 x1, .slice A1 n1 m1] H fun v2 H1 => DI .u32 v2 fun x2 => NN p1 fun a2 => St H1 ((a2.add 0).add 0) (.int .u32 x2) fun H2 => NN p1 fun a3 => Ld H2 (a3.add 1) fun v3 => DI .i64 v3 fun x3 => NN p1 fun a4 => St H2 ((a4.add 1).add 0) (.int .i64 (IntKind.i64.wrap (x3 + ((n1 : Nat) : Int)))) fun H3 => K (.tuple #[]) H3
def W_crc_Counter_Add.Λ (_ : Value → Hp → Prop) : Cuts := Cuts.none (fun _ => none)
theorem W_crc_Counter_Add.ok (p1 : Option Addr) (A1 : Option Addr) (n1 : Nat) (m1 : Nat) (H : Hp) (K : Value → Hp → Prop) (h : W_crc_Counter_Add p1 A1 n1 m1 H K) : HCalls Tryz.prog 147 #[.pointer p1, .slice A1 n1 m1] H K :=
  hcalls Tryz.func147 rfl (Nat.le_of_ble_eq_true rfl) (hw_safe (Λ := Cuts.none (fun _ => none)) mixWcrc _ _ _ _ _ (Eq.mp (by kernel_rfl) h) (obs_none _ _ _ _ _))

-- crc.OfWords
def W_crc_OfWords (A1 : Option Addr) (n1 : Nat) (m1 : Nat) (H : Hp) (K : Value → Hp → Prop) : Prop :=
  HCalls Tryz.prog 129 #[.slice A1 n1 m1] H fun v1 H1 => DSl v1 fun A2 n2 m2 => HCalls Tryz.prog 203 #[.slice A2 n2 m2] H1 fun v2 H2 => DI .u32 v2 fun x1 => K (.int .u32 x1) H2
def W_crc_OfWords.Λ (_ : Value → Hp → Prop) : Cuts := Cuts.none (fun _ => none)
theorem W_crc_OfWords.ok (A1 : Option Addr) (n1 : Nat) (m1 : Nat) (H : Hp) (K : Value → Hp → Prop) (h : W_crc_OfWords A1 n1 m1 H K) : HCalls Tryz.prog 161 #[.slice A1 n1 m1] H K :=
  hcalls Tryz.func161 rfl (Nat.le_of_ble_eq_true rfl) (hw_safe (Λ := Cuts.none (fun _ => none)) mixWcrc _ _ _ _ _ (Eq.mp (by kernel_rfl) h) (obs_none _ _ _ _ _))

-- crc.More
def W_crc_More.l4 (K : Value → Hp → Prop) : Nat → Addr → Int → Option Addr → Nat → Nat → Int → Int → Hp → Prop
  | 0, _, _, _, _, _, _, _, _ => False
  | k + 1, a1, x2, A2, n2, m2, x3, x4, H =>
    let R4 := W_crc_More.l4 K k
    BIf (decide (x4 < x3)) (ixI x4 n2 (NN A2 fun a2 => Ld H (a2.add (x4.toNat * 1)) fun v2 => DI .u8 v2 fun x5 => (0 ≤ (4 : Int) ∧ ixI (bAnd .u32 (bXor .u32 x2 (IntKind.u32.wrap x5)) (15 : Int)) 16 (Ld H (a1.add ((bAnd .u32 (bXor .u32 x2 (IntKind.u32.wrap x5)) (15 : Int)).toNat * 1)) fun v3 => DI .u32 v3 fun x6 => (0 ≤ (4 : Int) ∧ ixI (bAnd .u32 (bXor .u32 (shrI .u32 (bXor .u32 x2 (IntKind.u32.wrap x5)) (4 : Int)) x6) (15 : Int)) 16 (Ld H (a1.add ((bAnd .u32 (bXor .u32 (shrI .u32 (bXor .u32 x2 (IntKind.u32.wrap x5)) (4 : Int)) x6) (15 : Int)).toNat * 1)) fun v4 => DI .u32 v4 fun x7 => R4 a1 (bXor .u32 (shrI .u32 (bXor .u32 (shrI .u32 (bXor .u32 x2 (IntKind.u32.wrap x5)) (4 : Int)) x6) (4 : Int)) x7) A2 n2 m2 x3 (IntKind.i64.wrap (x4 + (1 : Int))) H)))))) (K (.int .u32 (bXor .u32 IntKind.u32.max x2)) H)
def W_crc_More (x1 : Int) (A1 : Option Addr) (n1 : Nat) (m1 : Nat) (H : Hp) (K : Value → Hp → Prop) : Prop :=
  HCalls Tryz.prog 229 #[] H fun v1 H1 => DA v1 fun y1 => Nw H1 (.obj (.cells #[.int .u32 (0 : Int), .int .u32 (0 : Int), .int .u32 (0 : Int), .int .u32 (0 : Int), .int .u32 (0 : Int), .int .u32 (0 : Int), .int .u32 (0 : Int), .int .u32 (0 : Int), .int .u32 (0 : Int), .int .u32 (0 : Int), .int .u32 (0 : Int), .int .u32 (0 : Int), .int .u32 (0 : Int), .int .u32 (0 : Int), .int .u32 (0 : Int), .int .u32 (0 : Int)] 328)) fun b1 H2 => StA H2 (⟨b1, 0, none⟩ : Addr) y1 16 fun H3 => (∃ k, W_crc_More.l4 K k (⟨b1, 0, none⟩ : Addr) (bXor .u32 IntKind.u32.max x1) A1 n1 m1 ((n1 : Nat) : Int) (0 : Int) H3)
def W_crc_More.l4.L (K : Value → Hp → Prop) (k : Nat) : Mid := fun E D H =>
  DG (E.get? 5) fun w5 => DP w5 fun pw5 => NN pw5 fun a1 => DG (E.get? 6) fun w6 => DI .u32 w6 fun x2 => DG (E.get? 12) fun w12 => DSl w12 fun A2 n2 m2 => DG (E.get? 13) fun w13 => DI .i64 w13 fun x3 => DG (E.get? 14) fun w14 => DI .i64 w14 fun x4 => DNilD D (W_crc_More.l4 K k a1 x2 A2 n2 m2 x3 x4 H)
def W_crc_More.Λ4 (_ : Value → Hp → Prop) (_R4 : Addr → Int → Option Addr → Nat → Nat → Int → Int → Hp → Prop) : Cuts := Cuts.none (fun _ => none)
def W_crc_More.Λ (K : Value → Hp → Prop) : Cuts := ⟨fun i => none, fun i => match Nat.beq i 4 with | true => some (fun E D H => ∃ k, W_crc_More.l4.L K k E D H) | false => none, (fun _ => none)⟩
theorem W_crc_More.ok (x1 : Int) (A1 : Option Addr) (n1 : Nat) (m1 : Nat) (H : Hp) (K : Value → Hp → Prop) (h : W_crc_More x1 A1 n1 m1 H K) : HCalls Tryz.prog 188 #[.int .u32 x1, .slice A1 n1 m1] H K :=
  hcalls Tryz.func188 rfl (Nat.le_of_ble_eq_true rfl) (hw_safe (Λ := (W_crc_More.Λ K)) mixWcrc _ _ _ _ _ (Eq.mp (by kernel_rfl) h) (obs_seq obs_region rfl (obs_seq obs_region rfl (obs_seq obs_region rfl (obs_seq (obs_seq obs_region rfl (obs_block (obs_loop rfl (fun E D H h => by
      refine Safe.loop' (W_crc_More.l4.L K) (fun E D H h => ?_) (fun k E D H h => ?_) E D H h
      · obtain ⟨w5, e5, g1⟩ := DG.out h; obtain ⟨pw5, rfl, g2⟩ := DP.out g1; obtain ⟨a1, rfl, g3⟩ := NN.out g2; obtain ⟨w6, e6, g4⟩ := DG.out g3; obtain ⟨x2, rfl, g5⟩ := DI.out g4; obtain ⟨w12, e12, g6⟩ := DG.out g5; obtain ⟨A2, n2, m2, rfl, g7⟩ := DSl.out g6; obtain ⟨w13, e13, g8⟩ := DG.out g7; obtain ⟨x3, rfl, g9⟩ := DI.out g8; obtain ⟨w14, e14, g10⟩ := DG.out g9; obtain ⟨x4, rfl, g11⟩ := DI.out g10; obtain ⟨rfl, h'⟩ := DNilD.out g11; exact h'
      · obtain ⟨w5, e5, g1⟩ := DG.out h
        obtain ⟨pw5, rfl, g2⟩ := DP.out g1
        obtain ⟨a1, rfl, g3⟩ := NN.out g2
        obtain ⟨w6, e6, g4⟩ := DG.out g3
        obtain ⟨x2, rfl, g5⟩ := DI.out g4
        obtain ⟨w12, e12, g6⟩ := DG.out g5
        obtain ⟨A2, n2, m2, rfl, g7⟩ := DSl.out g6
        obtain ⟨w13, e13, g8⟩ := DG.out g7
        obtain ⟨x3, rfl, g9⟩ := DI.out g8
        obtain ⟨w14, e14, g10⟩ := DG.out g9
        obtain ⟨x4, rfl, g11⟩ := DI.out g10
        obtain ⟨rfl, h'⟩ := DNilD.out g11
        exact (hw_safe (Λ := (W_crc_More.Λ4 K (W_crc_More.l4 K k))) mixWcrc _ _ [(5, .pointer (some a1)), (6, .int .u32 x2), (12, .slice A2 n2 m2), (13, .int .i64 x3), (14, .int .i64 x4)] [] H (Eq.mp (by kernel_rfl) h') (obs_seq obs_region rfl (obs_seq (obs_cond obs_skip obs_exit) rfl (obs_seq (obs_block (obs_seq obs_region rfl (obs_seq obs_region rfl (obs_seq obs_region rfl obs_region)))) rfl obs_region)))).weaken (EnvLe.cons e5 (EnvLe.cons e6 (EnvLe.cons e12 (EnvLe.cons e13 (EnvLe.cons e14 (EnvLe.nil _)))))) (Hp.le_refl _))))) rfl (obs_seq obs_region rfl obs_ret))))))

-- crc.Of
def W_crc_Of (A1 : Option Addr) (n1 : Nat) (m1 : Nat) (H : Hp) (K : Value → Hp → Prop) : Prop :=
  HCalls Tryz.prog 188 #[.int .u32 (0 : Int), .slice A1 n1 m1] H fun v1 H1 => DI .u32 v1 fun x1 => K (.int .u32 x1) H1
def W_crc_Of.Λ (_ : Value → Hp → Prop) : Cuts := Cuts.none (fun _ => none)
theorem W_crc_Of.ok (A1 : Option Addr) (n1 : Nat) (m1 : Nat) (H : Hp) (K : Value → Hp → Prop) (h : W_crc_Of A1 n1 m1 H K) : HCalls Tryz.prog 203 #[.slice A1 n1 m1] H K :=
  hcalls Tryz.func203 rfl (Nat.le_of_ble_eq_true rfl) (hw_safe (Λ := Cuts.none (fun _ => none)) mixWcrc _ _ _ _ _ (Eq.mp (by kernel_rfl) h) (obs_none _ _ _ _ _))

-- crc.nibbles
def W_crc_nibbles.l6 (K : Value → Hp → Prop) (R2 : Addr → Int → Hp → Prop) : Nat → Addr → Int → Int → Int → Int → Hp → Prop
  | 0, _, _, _, _, _, _ => False
  | k + 1, a2, x2, x3, x4, x5, H =>
    let R6 := W_crc_nibbles.l6 K R2 k
    BIf (decide (x5 < (4 : Int))) ((0 ≤ (1 : Int) ∧ R6 a2 x2 (bXor .u32 (shrI .u32 x3 (1 : Int)) (IntKind.u32.wrap ((2197175160 : Int) * (bAnd .u32 x3 (1 : Int))))) x4 (IntKind.i64.wrap (x5 + (1 : Int))) H)) (ixI x2 16 (St H ((a2.add (x2.toNat * 1)).add 0) (.int .u32 x3) fun H2 => R2 a2 (IntKind.i64.wrap (x4 + (1 : Int))) H2))
def W_crc_nibbles.l2 (K : Value → Hp → Prop) : Nat → Addr → Int → Hp → Prop
  | 0, _, _, _ => False
  | k + 1, a1, x1, H =>
    let R2 := W_crc_nibbles.l2 K k
    BIf (decide (x1 < (16 : Int))) ((∃ k, W_crc_nibbles.l6 K R2 k a1 x1 (IntKind.u32.wrap x1) x1 (0 : Int) H)) (LdA H a1 16 fun l1 => StA H a1 l1.toArray 16 fun H3 => LdA H3 a1 16 fun l2 => K (.agg l2.toArray) H3)
def W_crc_nibbles (H : Hp) (K : Value → Hp → Prop) : Prop :=
  Nw H (.obj (.cells #[.int .u32 (0 : Int), .int .u32 (0 : Int), .int .u32 (0 : Int), .int .u32 (0 : Int), .int .u32 (0 : Int), .int .u32 (0 : Int), .int .u32 (0 : Int), .int .u32 (0 : Int), .int .u32 (0 : Int), .int .u32 (0 : Int), .int .u32 (0 : Int), .int .u32 (0 : Int), .int .u32 (0 : Int), .int .u32 (0 : Int), .int .u32 (0 : Int), .int .u32 (0 : Int)] 328)) fun b1 H1 => (∃ k, W_crc_nibbles.l2 K k (⟨b1, 0, none⟩ : Addr) (0 : Int) H1)
def W_crc_nibbles.l2.L (K : Value → Hp → Prop) (k : Nat) : Mid := fun E D H =>
  DG (E.get? 0) fun w0 => DP w0 fun pw0 => NN pw0 fun a1 => DG (E.get? 3) fun w3 => DI .i64 w3 fun x1 => DNilD D (W_crc_nibbles.l2 K k a1 x1 H)
def W_crc_nibbles.l6.L (K : Value → Hp → Prop) (R2 : Addr → Int → Hp → Prop) (k : Nat) : Mid := fun E D H =>
  DG (E.get? 0) fun w0 => DP w0 fun pw0 => NN pw0 fun a2 => DG (E.get? 1) fun w1 => DI .i64 w1 fun x2 => DG (E.get? 2) fun w2 => DI .u32 w2 fun x3 => DG (E.get? 3) fun w3 => DI .i64 w3 fun x4 => DG (E.get? 8) fun w8 => DI .i64 w8 fun x5 => DNilD D (W_crc_nibbles.l6 K R2 k a2 x2 x3 x4 x5 H)
def W_crc_nibbles.Λ6 (_ : Value → Hp → Prop) (_R2 : Addr → Int → Hp → Prop) (_R6 : Addr → Int → Int → Int → Int → Hp → Prop) : Cuts := Cuts.none (fun _ => none)
def W_crc_nibbles.Λ2 (K : Value → Hp → Prop) (R2 : Addr → Int → Hp → Prop) : Cuts := ⟨fun i => none, fun i => match Nat.beq i 6 with | true => some (fun E D H => ∃ k, W_crc_nibbles.l6.L K R2 k E D H) | false => none, (fun _ => none)⟩
def W_crc_nibbles.Λ (K : Value → Hp → Prop) : Cuts := ⟨fun i => none, fun i => match Nat.beq i 2 with | true => some (fun E D H => ∃ k, W_crc_nibbles.l2.L K k E D H) | false => none, (fun _ => none)⟩
theorem W_crc_nibbles.ok (H : Hp) (K : Value → Hp → Prop) (h : W_crc_nibbles H K) : HCalls Tryz.prog 229 #[] H K :=
  hcalls Tryz.func229 rfl (Nat.le_of_ble_eq_true rfl) (hw_safe (Λ := (W_crc_nibbles.Λ K)) mixWcrc _ _ _ _ _ (Eq.mp (by kernel_rfl) h) (obs_seq obs_region rfl (obs_seq (obs_seq obs_region rfl (obs_block (obs_loop rfl (fun E D H h => by
      refine Safe.loop' (W_crc_nibbles.l2.L K) (fun E D H h => ?_) (fun k E D H h => ?_) E D H h
      · obtain ⟨w0, e0, g1⟩ := DG.out h; obtain ⟨pw0, rfl, g2⟩ := DP.out g1; obtain ⟨a1, rfl, g3⟩ := NN.out g2; obtain ⟨w3, e3, g4⟩ := DG.out g3; obtain ⟨x1, rfl, g5⟩ := DI.out g4; obtain ⟨rfl, h'⟩ := DNilD.out g5; exact h'
      · obtain ⟨w0, e0, g1⟩ := DG.out h
        obtain ⟨pw0, rfl, g2⟩ := DP.out g1
        obtain ⟨a1, rfl, g3⟩ := NN.out g2
        obtain ⟨w3, e3, g4⟩ := DG.out g3
        obtain ⟨x1, rfl, g5⟩ := DI.out g4
        obtain ⟨rfl, h'⟩ := DNilD.out g5
        exact (hw_safe (Λ := (W_crc_nibbles.Λ2 K (W_crc_nibbles.l2 K k))) mixWcrc _ _ [(0, .pointer (some a1)), (3, .int .i64 x1)] [] H (Eq.mp (by kernel_rfl) h') (obs_seq obs_region rfl (obs_seq (obs_cond obs_skip obs_exit) rfl (obs_seq (obs_block (obs_seq obs_region rfl (obs_seq obs_region rfl (obs_seq (obs_seq obs_region rfl (obs_block (obs_loop rfl (fun E D H h => by
            refine Safe.loop' (W_crc_nibbles.l6.L K (W_crc_nibbles.l2 K k)) (fun E D H h => ?_) (fun k E D H h => ?_) E D H h
            · obtain ⟨w0, e0, g1⟩ := DG.out h; obtain ⟨pw0, rfl, g2⟩ := DP.out g1; obtain ⟨a2, rfl, g3⟩ := NN.out g2; obtain ⟨w1, e1, g4⟩ := DG.out g3; obtain ⟨x2, rfl, g5⟩ := DI.out g4; obtain ⟨w2, e2, g6⟩ := DG.out g5; obtain ⟨x3, rfl, g7⟩ := DI.out g6; obtain ⟨w3, e3, g8⟩ := DG.out g7; obtain ⟨x4, rfl, g9⟩ := DI.out g8; obtain ⟨w8, e8, g10⟩ := DG.out g9; obtain ⟨x5, rfl, g11⟩ := DI.out g10; obtain ⟨rfl, h'⟩ := DNilD.out g11; exact h'
            · obtain ⟨w0, e0, g1⟩ := DG.out h
              obtain ⟨pw0, rfl, g2⟩ := DP.out g1
              obtain ⟨a2, rfl, g3⟩ := NN.out g2
              obtain ⟨w1, e1, g4⟩ := DG.out g3
              obtain ⟨x2, rfl, g5⟩ := DI.out g4
              obtain ⟨w2, e2, g6⟩ := DG.out g5
              obtain ⟨x3, rfl, g7⟩ := DI.out g6
              obtain ⟨w3, e3, g8⟩ := DG.out g7
              obtain ⟨x4, rfl, g9⟩ := DI.out g8
              obtain ⟨w8, e8, g10⟩ := DG.out g9
              obtain ⟨x5, rfl, g11⟩ := DI.out g10
              obtain ⟨rfl, h'⟩ := DNilD.out g11
              exact (hw_safe (Λ := (W_crc_nibbles.Λ6 K (W_crc_nibbles.l2 K k) (W_crc_nibbles.l6 K (W_crc_nibbles.l2 K k) k))) mixWcrc _ _ [(0, .pointer (some a2)), (1, .int .i64 x2), (2, .int .u32 x3), (3, .int .i64 x4), (8, .int .i64 x5)] [] H (Eq.mp (by kernel_rfl) h') (obs_seq obs_region rfl (obs_seq (obs_cond obs_skip obs_exit) rfl (obs_seq (obs_block obs_region) rfl obs_region)))).weaken (EnvLe.cons e0 (EnvLe.cons e1 (EnvLe.cons e2 (EnvLe.cons e3 (EnvLe.cons e8 (EnvLe.nil _)))))) (Hp.le_refl _))))) rfl obs_region)))) rfl obs_region)))).weaken (EnvLe.cons e0 (EnvLe.cons e3 (EnvLe.nil _))) (Hp.le_refl _))))) rfl (obs_seq obs_region rfl obs_ret))))

end Go.Proofs.YtlgpappgnndgiaaGreatDoor.W

end
section
/-! Wcodec -/
/- Formulas of functions, printed by wip/tools/hwp.py. -/
set_option maxRecDepth 100000
set_option linter.unusedVariables false
namespace Go.Proofs.YtlgpappgnndgiaaGreatDoor.W
open Go Go.Hw

theorem mixWcodec : Tryz.prog.follows .mixedOrders = true := by kernel_rfl
-- codec.Put
def W_codec_Put.l3 (K : Value → Hp → Prop) : Nat → Option Addr → Nat → Nat → Option Addr → Nat → Nat → Int → Int → Hp → Prop
  | 0, _, _, _, _, _, _, _, _, _ => False
  | k + 1, A3, n3, m3, A4, n4, m4, x1, x2, H =>
    let R3 := W_codec_Put.l3 K k
    BIf (decide (x2 < x1)) (ixI x2 n4 (NN A4 fun a1 => Ld H (a1.add (x2.toNat * 1)) fun v2 => DI .u64 v2 fun x3 => slB n3 m3 (some (IntKind.i64.wrap ((8 : Int) * x2))) none fun n5 n6 => HCalls Tryz.prog 174 #[.slice (slA A3 m3 n5 1) (n6 - n5) (m3 - n5), .int .u64 x3] H fun v3 H2 => R3 A3 n3 m3 A4 n4 m4 x1 (IntKind.i64.wrap (x2 + (1 : Int))) H2)) (K (.slice A3 n3 m3) H)
def W_codec_Put (A1 : Option Addr) (n1 : Nat) (m1 : Nat) (H : Hp) (K : Value → Hp → Prop) : Prop :=
  MkS Tryz.prog 5 (IntKind.i64.wrap ((8 : Int) * ((n1 : Nat) : Int))) (IntKind.i64.wrap ((8 : Int) * ((n1 : Nat) : Int))) H fun v1 H1 => DSl v1 fun A2 n2 m2 => (∃ k, W_codec_Put.l3 K k A2 n2 m2 A1 n1 m1 ((n1 : Nat) : Int) (0 : Int) H1)
def W_codec_Put.l3.L (K : Value → Hp → Prop) (k : Nat) : Mid := fun E D H =>
  DG (E.get? 3) fun w3 => DSl w3 fun A3 n3 m3 => DG (E.get? 10) fun w10 => DSl w10 fun A4 n4 m4 => DG (E.get? 11) fun w11 => DI .i64 w11 fun x1 => DG (E.get? 12) fun w12 => DI .i64 w12 fun x2 => DNilD D (W_codec_Put.l3 K k A3 n3 m3 A4 n4 m4 x1 x2 H)
def W_codec_Put.Λ3 (_ : Value → Hp → Prop) (_R3 : Option Addr → Nat → Nat → Option Addr → Nat → Nat → Int → Int → Hp → Prop) : Cuts := Cuts.none (fun _ => none)
def W_codec_Put.Λ (K : Value → Hp → Prop) : Cuts := ⟨fun i => none, fun i => match Nat.beq i 3 with | true => some (fun E D H => ∃ k, W_codec_Put.l3.L K k E D H) | false => none, (fun _ => none)⟩
theorem W_codec_Put.ok (A1 : Option Addr) (n1 : Nat) (m1 : Nat) (H : Hp) (K : Value → Hp → Prop) (h : W_codec_Put A1 n1 m1 H K) : HCalls Tryz.prog 129 #[.slice A1 n1 m1] H K :=
  hcalls Tryz.func129 rfl (Nat.le_of_ble_eq_true rfl) (hw_safe (Λ := (W_codec_Put.Λ K)) mixWcodec _ _ _ _ _ (Eq.mp (by kernel_rfl) h) (obs_seq obs_region rfl (obs_seq obs_region rfl (obs_seq (obs_seq obs_region rfl (obs_block (obs_loop rfl (fun E D H h => by
      refine Safe.loop' (W_codec_Put.l3.L K) (fun E D H h => ?_) (fun k E D H h => ?_) E D H h
      · obtain ⟨w3, e3, g1⟩ := DG.out h; obtain ⟨A3, n3, m3, rfl, g2⟩ := DSl.out g1; obtain ⟨w10, e10, g3⟩ := DG.out g2; obtain ⟨A4, n4, m4, rfl, g4⟩ := DSl.out g3; obtain ⟨w11, e11, g5⟩ := DG.out g4; obtain ⟨x1, rfl, g6⟩ := DI.out g5; obtain ⟨w12, e12, g7⟩ := DG.out g6; obtain ⟨x2, rfl, g8⟩ := DI.out g7; obtain ⟨rfl, h'⟩ := DNilD.out g8; exact h'
      · obtain ⟨w3, e3, g1⟩ := DG.out h
        obtain ⟨A3, n3, m3, rfl, g2⟩ := DSl.out g1
        obtain ⟨w10, e10, g3⟩ := DG.out g2
        obtain ⟨A4, n4, m4, rfl, g4⟩ := DSl.out g3
        obtain ⟨w11, e11, g5⟩ := DG.out g4
        obtain ⟨x1, rfl, g6⟩ := DI.out g5
        obtain ⟨w12, e12, g7⟩ := DG.out g6
        obtain ⟨x2, rfl, g8⟩ := DI.out g7
        obtain ⟨rfl, h'⟩ := DNilD.out g8
        exact (hw_safe (Λ := (W_codec_Put.Λ3 K (W_codec_Put.l3 K k))) mixWcodec _ _ [(3, .slice A3 n3 m3), (10, .slice A4 n4 m4), (11, .int .i64 x1), (12, .int .i64 x2)] [] H (Eq.mp (by kernel_rfl) h') (obs_seq obs_region rfl (obs_seq (obs_cond obs_skip obs_exit) rfl (obs_seq (obs_block (obs_seq obs_region rfl obs_region)) rfl obs_region)))).weaken (EnvLe.cons e3 (EnvLe.cons e10 (EnvLe.cons e11 (EnvLe.cons e12 (EnvLe.nil _))))) (Hp.le_refl _))))) rfl (obs_seq obs_region rfl obs_ret)))))

-- codec.Word
def W_codec_Word (A1 : Option Addr) (n1 : Nat) (m1 : Nat) (x1 : Int) (H : Hp) (K : Value → Hp → Prop) : Prop :=
  HCalls Tryz.prog 185 #[.slice A1 n1 m1, .int .i64 x1] H fun v1 H1 => DB v1 fun c1 => BIf (!c1) (K (.tuple #[.int .u64 (0 : Int), .int .i64 (2 : Int)]) H1) (slB n1 m1 (some (IntKind.i64.wrap ((8 : Int) * x1))) none fun n2 n3 => HCalls Tryz.prog 186 #[.slice (slA A1 m1 n2 1) (n3 - n2) (m1 - n2)] H1 fun v2 H2 => DI .u64 v2 fun x2 => K (.tuple #[.int .u64 x2, .int .i64 (0 : Int)]) H2)
def W_codec_Word.Λ (_ : Value → Hp → Prop) : Cuts := Cuts.none (fun _ => none)
theorem W_codec_Word.ok (A1 : Option Addr) (n1 : Nat) (m1 : Nat) (x1 : Int) (H : Hp) (K : Value → Hp → Prop) (h : W_codec_Word A1 n1 m1 x1 H K) : HCalls Tryz.prog 144 #[.slice A1 n1 m1, .int .i64 x1] H K :=
  hcalls Tryz.func144 rfl (Nat.le_of_ble_eq_true rfl) (hw_safe (Λ := Cuts.none (fun _ => none)) mixWcodec _ _ _ _ _ (Eq.mp (by kernel_rfl) h) (obs_none _ _ _ _ _))

-- codec.set
def W_codec_set.l1 (K : Value → Hp → Prop) : Nat → Option Addr → Nat → Nat → Int → Int → Hp → Prop
  | 0, _, _, _, _, _, _ => False
  | k + 1, A2, n2, m2, x2, x3, H =>
    let R1 := W_codec_set.l1 K k
    BIf (decide (x3 < (8 : Int))) ((0 ≤ (IntKind.u64.wrap (IntKind.i64.wrap ((8 : Int) * x3))) ∧ ixI x3 n2 (NN A2 fun a1 => St H ((a1.add (x3.toNat * 1)).add 0) (.int .u8 (IntKind.u8.wrap (shrI .u64 x2 (IntKind.u64.wrap (IntKind.i64.wrap ((8 : Int) * x3)))))) fun H1 => R1 A2 n2 m2 x2 (IntKind.i64.wrap (x3 + (1 : Int))) H1))) (K (.tuple #[]) H)
def W_codec_set (A1 : Option Addr) (n1 : Nat) (m1 : Nat) (x1 : Int) (H : Hp) (K : Value → Hp → Prop) : Prop :=
  (∃ k, W_codec_set.l1 K k A1 n1 m1 x1 (0 : Int) H)
def W_codec_set.l1.L (K : Value → Hp → Prop) (k : Nat) : Mid := fun E D H =>
  DG (E.get? 0) fun w0 => DSl w0 fun A2 n2 m2 => DG (E.get? 1) fun w1 => DI .u64 w1 fun x2 => DG (E.get? 5) fun w5 => DI .i64 w5 fun x3 => DNilD D (W_codec_set.l1 K k A2 n2 m2 x2 x3 H)
def W_codec_set.Λ1 (_ : Value → Hp → Prop) (_R1 : Option Addr → Nat → Nat → Int → Int → Hp → Prop) : Cuts := Cuts.none (fun _ => none)
def W_codec_set.Λ (K : Value → Hp → Prop) : Cuts := ⟨fun i => none, fun i => match Nat.beq i 1 with | true => some (fun E D H => ∃ k, W_codec_set.l1.L K k E D H) | false => none, (fun _ => none)⟩
theorem W_codec_set.ok (A1 : Option Addr) (n1 : Nat) (m1 : Nat) (x1 : Int) (H : Hp) (K : Value → Hp → Prop) (h : W_codec_set A1 n1 m1 x1 H K) : HCalls Tryz.prog 174 #[.slice A1 n1 m1, .int .u64 x1] H K :=
  hcalls Tryz.func174 rfl (Nat.le_of_ble_eq_true rfl) (hw_safe (Λ := (W_codec_set.Λ K)) mixWcodec _ _ _ _ _ (Eq.mp (by kernel_rfl) h) (obs_seq obs_region rfl (obs_block (obs_loop rfl (fun E D H h => by
      refine Safe.loop' (W_codec_set.l1.L K) (fun E D H h => ?_) (fun k E D H h => ?_) E D H h
      · obtain ⟨w0, e0, g1⟩ := DG.out h; obtain ⟨A2, n2, m2, rfl, g2⟩ := DSl.out g1; obtain ⟨w1, e1, g3⟩ := DG.out g2; obtain ⟨x2, rfl, g4⟩ := DI.out g3; obtain ⟨w5, e5, g5⟩ := DG.out g4; obtain ⟨x3, rfl, g6⟩ := DI.out g5; obtain ⟨rfl, h'⟩ := DNilD.out g6; exact h'
      · obtain ⟨w0, e0, g1⟩ := DG.out h
        obtain ⟨A2, n2, m2, rfl, g2⟩ := DSl.out g1
        obtain ⟨w1, e1, g3⟩ := DG.out g2
        obtain ⟨x2, rfl, g4⟩ := DI.out g3
        obtain ⟨w5, e5, g5⟩ := DG.out g4
        obtain ⟨x3, rfl, g6⟩ := DI.out g5
        obtain ⟨rfl, h'⟩ := DNilD.out g6
        exact (hw_safe (Λ := (W_codec_set.Λ1 K (W_codec_set.l1 K k))) mixWcodec _ _ [(0, .slice A2 n2 m2), (1, .int .u64 x2), (5, .int .i64 x3)] [] H (Eq.mp (by kernel_rfl) h') (obs_seq obs_region rfl (obs_seq (obs_cond obs_skip obs_exit) rfl (obs_seq (obs_block (obs_seq obs_region rfl obs_region)) rfl obs_region)))).weaken (EnvLe.cons e0 (EnvLe.cons e1 (EnvLe.cons e5 (EnvLe.nil _)))) (Hp.le_refl _))))))

-- codec.inside
def W_codec_inside (A1 : Option Addr) (n1 : Nat) (m1 : Nat) (x1 : Int) (H : Hp) (K : Value → Hp → Prop) : Prop :=
  BIf (decide (x1 ≥ (0 : Int))) (((8 : Int) ≠ 0 ∧ IntKind.i64 = IntKind.i64 ∧ K (.bool (decide (x1 < (IntKind.i64.wrap (Int.tdiv ((n1 : Nat) : Int) (8 : Int)))))) H)) (K (.bool false) H)
def W_codec_inside.Λ (_ : Value → Hp → Prop) : Cuts := Cuts.none (fun _ => none)
theorem W_codec_inside.ok (A1 : Option Addr) (n1 : Nat) (m1 : Nat) (x1 : Int) (H : Hp) (K : Value → Hp → Prop) (h : W_codec_inside A1 n1 m1 x1 H K) : HCalls Tryz.prog 185 #[.slice A1 n1 m1, .int .i64 x1] H K :=
  hcalls Tryz.func185 rfl (Nat.le_of_ble_eq_true rfl) (hw_safe (Λ := Cuts.none (fun _ => none)) mixWcodec _ _ _ _ _ (Eq.mp (by kernel_rfl) h) (obs_none _ _ _ _ _))

-- codec.word
def W_codec_word.l3 (K : Value → Hp → Prop) : Nat → Option Addr → Nat → Nat → Int → Int → Hp → Prop
  | 0, _, _, _, _, _, _ => False
  | k + 1, A2, n2, m2, x1, x2, H =>
    let R3 := W_codec_word.l3 K k
    BIf (decide (x2 ≥ (0 : Int))) ((0 ≤ (8 : Int) ∧ ixI x2 n2 (NN A2 fun a1 => Ld H (a1.add (x2.toNat * 1)) fun v1 => DI .u8 v1 fun x3 => R3 A2 n2 m2 (bOr .u64 (shlI .u64 x1 (8 : Int)) (IntKind.u64.wrap x3)) (IntKind.i64.wrap (x2 - (1 : Int))) H))) (K (.int .u64 x1) H)
def W_codec_word (A1 : Option Addr) (n1 : Nat) (m1 : Nat) (H : Hp) (K : Value → Hp → Prop) : Prop :=
  (∃ k, W_codec_word.l3 K k A1 n1 m1 (0 : Int) (7 : Int) H)
def W_codec_word.l3.L (K : Value → Hp → Prop) (k : Nat) : Mid := fun E D H =>
  DG (E.get? 0) fun w0 => DSl w0 fun A2 n2 m2 => DG (E.get? 3) fun w3 => DI .u64 w3 fun x1 => DG (E.get? 4) fun w4 => DI .i64 w4 fun x2 => DNilD D (W_codec_word.l3 K k A2 n2 m2 x1 x2 H)
def W_codec_word.Λ3 (_ : Value → Hp → Prop) (_R3 : Option Addr → Nat → Nat → Int → Int → Hp → Prop) : Cuts := Cuts.none (fun _ => none)
def W_codec_word.Λ (K : Value → Hp → Prop) : Cuts := ⟨fun i => none, fun i => match Nat.beq i 3 with | true => some (fun E D H => ∃ k, W_codec_word.l3.L K k E D H) | false => none, (fun _ => none)⟩
theorem W_codec_word.ok (A1 : Option Addr) (n1 : Nat) (m1 : Nat) (H : Hp) (K : Value → Hp → Prop) (h : W_codec_word A1 n1 m1 H K) : HCalls Tryz.prog 186 #[.slice A1 n1 m1] H K :=
  hcalls Tryz.func186 rfl (Nat.le_of_ble_eq_true rfl) (hw_safe (Λ := (W_codec_word.Λ K)) mixWcodec _ _ _ _ _ (Eq.mp (by kernel_rfl) h) (obs_seq obs_region rfl (obs_seq obs_region rfl (obs_seq (obs_seq obs_region rfl (obs_block (obs_loop rfl (fun E D H h => by
      refine Safe.loop' (W_codec_word.l3.L K) (fun E D H h => ?_) (fun k E D H h => ?_) E D H h
      · obtain ⟨w0, e0, g1⟩ := DG.out h; obtain ⟨A2, n2, m2, rfl, g2⟩ := DSl.out g1; obtain ⟨w3, e3, g3⟩ := DG.out g2; obtain ⟨x1, rfl, g4⟩ := DI.out g3; obtain ⟨w4, e4, g5⟩ := DG.out g4; obtain ⟨x2, rfl, g6⟩ := DI.out g5; obtain ⟨rfl, h'⟩ := DNilD.out g6; exact h'
      · obtain ⟨w0, e0, g1⟩ := DG.out h
        obtain ⟨A2, n2, m2, rfl, g2⟩ := DSl.out g1
        obtain ⟨w3, e3, g3⟩ := DG.out g2
        obtain ⟨x1, rfl, g4⟩ := DI.out g3
        obtain ⟨w4, e4, g5⟩ := DG.out g4
        obtain ⟨x2, rfl, g6⟩ := DI.out g5
        obtain ⟨rfl, h'⟩ := DNilD.out g6
        exact (hw_safe (Λ := (W_codec_word.Λ3 K (W_codec_word.l3 K k))) mixWcodec _ _ [(0, .slice A2 n2 m2), (3, .int .u64 x1), (4, .int .i64 x2)] [] H (Eq.mp (by kernel_rfl) h') (obs_seq (obs_seq obs_region rfl (obs_cond obs_skip obs_exit)) rfl (obs_seq (obs_block obs_region) rfl obs_region))).weaken (EnvLe.cons e0 (EnvLe.cons e3 (EnvLe.cons e4 (EnvLe.nil _)))) (Hp.le_refl _))))) rfl (obs_seq obs_region rfl obs_ret)))))

end Go.Proofs.YtlgpappgnndgiaaGreatDoor.W

end
section
/-! Wabacistref16 -/
/- Formulas of functions, printed by wip/tools/hwp.py. -/
set_option maxRecDepth 100000
set_option linter.unusedVariables false
namespace Go.Proofs.YtlgpappgnndgiaaGreatDoor.W
open Go Go.Hw

theorem mixWabacistref16 : Tryz.prog.follows .mixedOrders = true := by kernel_rfl
-- abacistref16.OfWords
def W_abacistref16_OfWords (A1 : Option Addr) (n1 : Nat) (m1 : Nat) (H : Hp) (K : Value → Hp → Prop) : Prop :=
  HCalls Tryz.prog 59 #[.slice A1 n1 m1] H fun v1 H1 => DS v1 fun s1 => HCalls Tryz.prog 58 #[.string s1] H1 fun v2 H2 => DI .u32 v2 fun x1 => K (.int .u32 x1) H2
def W_abacistref16_OfWords.Λ (_ : Value → Hp → Prop) : Cuts := Cuts.none (fun _ => none)
theorem W_abacistref16_OfWords.ok (A1 : Option Addr) (n1 : Nat) (m1 : Nat) (H : Hp) (K : Value → Hp → Prop) (h : W_abacistref16_OfWords A1 n1 m1 H K) : HCalls Tryz.prog 13 #[.slice A1 n1 m1] H K :=
  hcalls Tryz.func13 rfl (Nat.le_of_ble_eq_true rfl) (hw_safe (Λ := Cuts.none (fun _ => none)) mixWabacistref16 _ _ _ _ _ (Eq.mp (by kernel_rfl) h) (obs_none _ _ _ _ _))

-- abacistref16.Of
def W_abacistref16_Of.l7 (K : Value → Hp → Prop) (R3 : ByteArray → Int → Int → Hp → Prop) : Nat → ByteArray → Int → Int → Int → Int → Hp → Prop
  | 0, _, _, _, _, _, _ => False
  | k + 1, s3, x4, x5, x6, x7, H =>
    let R7 := W_abacistref16_Of.l7 K R3 k
    BIf (decide (x7 < (8 : Int))) (((2 : Int) ≠ 0 ∧ IntKind.u32 = IntKind.u32 ∧ ((2 : Int) ≠ 0 ∧ IntKind.u32 = IntKind.u32 ∧ ((2 : Int) ≠ 0 ∧ IntKind.u8 = IntKind.u8 ∧ BIf ((Int.tmod (bXor .u32 x4 (IntKind.u32.wrap x6)) (2 : Int)) == (1 : Int)) (R7 s3 (bXor .u32 (IntKind.u32.wrap (Int.tdiv x4 (2 : Int))) (2197175160 : Int)) x5 (IntKind.u8.wrap (Int.tdiv x6 (2 : Int))) (IntKind.i64.wrap (x7 + (1 : Int))) H) (R7 s3 (IntKind.u32.wrap (Int.tdiv x4 (2 : Int))) x5 (IntKind.u8.wrap (Int.tdiv x6 (2 : Int))) (IntKind.i64.wrap (x7 + (1 : Int))) H))))) (R3 s3 x4 (IntKind.i64.wrap (x5 + (1 : Int))) H)
def W_abacistref16_Of.l3 (K : Value → Hp → Prop) : Nat → ByteArray → Int → Int → Hp → Prop
  | 0, _, _, _, _ => False
  | k + 1, s2, x1, x2, H =>
    let R3 := W_abacistref16_Of.l3 K k
    BIf (decide (x2 < ((s2.size : Nat) : Int))) ((0 ≤ x2 ∧ ixB s2 x2.toNat fun x3 => (∃ k, W_abacistref16_Of.l7 K R3 k s2 x1 x2 x3 (0 : Int) H))) (K (.int .u32 (bXor .u32 x1 (4294967295 : Int))) H)
def W_abacistref16_Of (s1 : ByteArray) (H : Hp) (K : Value → Hp → Prop) : Prop :=
  (∃ k, W_abacistref16_Of.l3 K k s1 (4294967295 : Int) (0 : Int) H)
def W_abacistref16_Of.l3.L (K : Value → Hp → Prop) (k : Nat) : Mid := fun E D H =>
  DG (E.get? 0) fun w0 => DS w0 fun s2 => DG (E.get? 3) fun w3 => DI .u32 w3 fun x1 => DG (E.get? 4) fun w4 => DI .i64 w4 fun x2 => DNilD D (W_abacistref16_Of.l3 K k s2 x1 x2 H)
def W_abacistref16_Of.l7.L (K : Value → Hp → Prop) (R3 : ByteArray → Int → Int → Hp → Prop) (k : Nat) : Mid := fun E D H =>
  DG (E.get? 0) fun w0 => DS w0 fun s3 => DG (E.get? 3) fun w3 => DI .u32 w3 fun x4 => DG (E.get? 4) fun w4 => DI .i64 w4 fun x5 => DG (E.get? 5) fun w5 => DI .u8 w5 fun x6 => DG (E.get? 6) fun w6 => DI .i64 w6 fun x7 => DNilD D (W_abacistref16_Of.l7 K R3 k s3 x4 x5 x6 x7 H)
def W_abacistref16_Of.Λ7 (_ : Value → Hp → Prop) (_R3 : ByteArray → Int → Int → Hp → Prop) (_R7 : ByteArray → Int → Int → Int → Int → Hp → Prop) : Cuts := Cuts.none (fun _ => none)
def W_abacistref16_Of.Λ3 (K : Value → Hp → Prop) (R3 : ByteArray → Int → Int → Hp → Prop) : Cuts := ⟨fun i => none, fun i => match Nat.beq i 7 with | true => some (fun E D H => ∃ k, W_abacistref16_Of.l7.L K R3 k E D H) | false => none, (fun _ => none)⟩
def W_abacistref16_Of.Λ (K : Value → Hp → Prop) : Cuts := ⟨fun i => none, fun i => match Nat.beq i 3 with | true => some (fun E D H => ∃ k, W_abacistref16_Of.l3.L K k E D H) | false => none, (fun _ => none)⟩
theorem W_abacistref16_Of.ok (s1 : ByteArray) (H : Hp) (K : Value → Hp → Prop) (h : W_abacistref16_Of s1 H K) : HCalls Tryz.prog 58 #[.string s1] H K :=
  hcalls Tryz.func58 rfl (Nat.le_of_ble_eq_true rfl) (hw_safe (Λ := (W_abacistref16_Of.Λ K)) mixWabacistref16 _ _ _ _ _ (Eq.mp (by kernel_rfl) h) (obs_seq obs_region rfl (obs_seq obs_region rfl (obs_seq (obs_seq obs_region rfl (obs_block (obs_loop rfl (fun E D H h => by
      refine Safe.loop' (W_abacistref16_Of.l3.L K) (fun E D H h => ?_) (fun k E D H h => ?_) E D H h
      · obtain ⟨w0, e0, g1⟩ := DG.out h; obtain ⟨s2, rfl, g2⟩ := DS.out g1; obtain ⟨w3, e3, g3⟩ := DG.out g2; obtain ⟨x1, rfl, g4⟩ := DI.out g3; obtain ⟨w4, e4, g5⟩ := DG.out g4; obtain ⟨x2, rfl, g6⟩ := DI.out g5; obtain ⟨rfl, h'⟩ := DNilD.out g6; exact h'
      · obtain ⟨w0, e0, g1⟩ := DG.out h
        obtain ⟨s2, rfl, g2⟩ := DS.out g1
        obtain ⟨w3, e3, g3⟩ := DG.out g2
        obtain ⟨x1, rfl, g4⟩ := DI.out g3
        obtain ⟨w4, e4, g5⟩ := DG.out g4
        obtain ⟨x2, rfl, g6⟩ := DI.out g5
        obtain ⟨rfl, h'⟩ := DNilD.out g6
        exact (hw_safe (Λ := (W_abacistref16_Of.Λ3 K (W_abacistref16_Of.l3 K k))) mixWabacistref16 _ _ [(0, .string s2), (3, .int .u32 x1), (4, .int .i64 x2)] [] H (Eq.mp (by kernel_rfl) h') (obs_seq (obs_seq obs_region rfl (obs_cond obs_skip obs_exit)) rfl (obs_seq (obs_block (obs_seq obs_region rfl (obs_seq obs_region rfl (obs_block (obs_loop rfl (fun E D H h => by
            refine Safe.loop' (W_abacistref16_Of.l7.L K (W_abacistref16_Of.l3 K k)) (fun E D H h => ?_) (fun k E D H h => ?_) E D H h
            · obtain ⟨w0, e0, g1⟩ := DG.out h; obtain ⟨s3, rfl, g2⟩ := DS.out g1; obtain ⟨w3, e3, g3⟩ := DG.out g2; obtain ⟨x4, rfl, g4⟩ := DI.out g3; obtain ⟨w4, e4, g5⟩ := DG.out g4; obtain ⟨x5, rfl, g6⟩ := DI.out g5; obtain ⟨w5, e5, g7⟩ := DG.out g6; obtain ⟨x6, rfl, g8⟩ := DI.out g7; obtain ⟨w6, e6, g9⟩ := DG.out g8; obtain ⟨x7, rfl, g10⟩ := DI.out g9; obtain ⟨rfl, h'⟩ := DNilD.out g10; exact h'
            · obtain ⟨w0, e0, g1⟩ := DG.out h
              obtain ⟨s3, rfl, g2⟩ := DS.out g1
              obtain ⟨w3, e3, g3⟩ := DG.out g2
              obtain ⟨x4, rfl, g4⟩ := DI.out g3
              obtain ⟨w4, e4, g5⟩ := DG.out g4
              obtain ⟨x5, rfl, g6⟩ := DI.out g5
              obtain ⟨w5, e5, g7⟩ := DG.out g6
              obtain ⟨x6, rfl, g8⟩ := DI.out g7
              obtain ⟨w6, e6, g9⟩ := DG.out g8
              obtain ⟨x7, rfl, g10⟩ := DI.out g9
              obtain ⟨rfl, h'⟩ := DNilD.out g10
              exact (hw_safe (Λ := (W_abacistref16_Of.Λ7 K (W_abacistref16_Of.l3 K k) (W_abacistref16_Of.l7 K (W_abacistref16_Of.l3 K k) k))) mixWabacistref16 _ _ [(0, .string s3), (3, .int .u32 x4), (4, .int .i64 x5), (5, .int .u8 x6), (6, .int .i64 x7)] [] H (Eq.mp (by kernel_rfl) h') (obs_seq (obs_seq obs_region rfl (obs_cond obs_skip obs_exit)) rfl (obs_seq (obs_block (obs_seq obs_region rfl (obs_seq obs_region rfl (obs_seq obs_region rfl (obs_seq obs_region rfl (obs_cond obs_region obs_skip)))))) rfl obs_region))).weaken (EnvLe.cons e0 (EnvLe.cons e3 (EnvLe.cons e4 (EnvLe.cons e5 (EnvLe.cons e6 (EnvLe.nil _)))))) (Hp.le_refl _))))))) rfl obs_region))).weaken (EnvLe.cons e0 (EnvLe.cons e3 (EnvLe.cons e4 (EnvLe.nil _)))) (Hp.le_refl _))))) rfl (obs_seq obs_region rfl obs_ret)))))

end Go.Proofs.YtlgpappgnndgiaaGreatDoor.W

end
section
/-! CrcA -/
/- crc, codec's forms and the document's answers: what they answer. -/
set_option maxRecDepth 100000
set_option linter.unusedSimpArgs false
set_option linter.unusedVariables false
set_option linter.unnecessarySimpa false
set_option linter.unusedSectionVars false
namespace Go.Proofs.YtlgpappgnndgiaaGreatDoor.CrcP
open Go Go.Hw Go.Crc Go.Proofs.YtlgpappgnndgiaaGreatDoor.W

theorem bit1_int (v : W32) : bXor .u32 (shrI .u32 (v.toNat : Int) 1) (IntKind.u32.wrap ((2197175160 : Int) * bAnd .u32 (v.toNat : Int) 1)) = ((bit1 v).toNat : Int) := by
  rw [shr32 v (i := 1) (n := 1) rfl (by omega), show (1 : Int) = ((1#32 : W32).toNat : Int) from rfl, and32]
  have : IntKind.u32.wrap ((2197175160 : Int) * ((v &&& 1#32).toNat : Int)) = ((if v.getLsbD 0 then poly else 0#32).toNat : Int) := by
    have h1 : v &&& 1#32 = if v.getLsbD 0 then 1#32 else 0#32 := by
      apply BitVec.eq_of_getLsbD_eq
      intro i hi
      rw [BitVec.getLsbD_and]
      cases i with
      | zero => cases h : v.getLsbD 0 <;> simp
      | succ i => cases h : v.getLsbD 0 <;> simp
    rw [h1]
    cases v.getLsbD 0 <;> decide
  rw [this, xor32]
  rfl

def tbl (i : Nat) : Value := .int .u32 ((it bit1 4 (BitVec.ofNat 32 i)).toNat : Int)

theorem nib_inner (K : Value → Hp → Prop) (R2 : Addr → Int → Hp → Prop) (b : Nat) (c : Array Value) (e : TypeId) (hc : c.size = 16) (H : Hp) (hb : H b = some (.obj (.cells c e))) (x2 : Nat) (hx : x2 < 16) (x4 : Int) (w : W32)
    (k : R2 ⟨b, 0, none⟩ (IntKind.i64.wrap (x4 + 1)) (H.set b (.obj (.cells (c.setIfInBounds x2 (.int .u32 (w.toNat : Int))) e)))) :
    ∀ (d j : Nat) (v : W32), j + d = 4 → it bit1 d v = w → W_crc_nibbles.l6 K R2 (d + 1) ⟨b, 0, none⟩ x2 (v.toNat : Int) x4 j H
  | 0, j, v, hj, hv => by
    unfold W_crc_nibbles.l6
    refine BIf_dneg (by omega) ?_
    refine ⟨by omega, by omega, ?_⟩
    simp only [Addr.add_lit', Int.toNat_natCast, Nat.mul_one, Nat.zero_add, Nat.add_zero]
    refine St_obj hb (by omega) rfl ?_
    obtain rfl : v = w := hv
    exact k
  | d + 1, j, v, hj, hv => by
    unfold W_crc_nibbles.l6
    refine BIf_dpos (by omega) ?_
    refine ⟨by omega, ?_⟩
    rw [bit1_int, i64w (by omega) (by omega)]
    exact nib_inner K R2 b c e hc H hb x2 hx x4 w k d (j + 1) (bit1 v) (by omega) hv

theorem nib_outer (K : Value → Hp → Prop) (b : Nat) (e : TypeId) (H0 : Hp) (hn : H0 b = none)
    (k : ∀ H, H0.le H → K (.agg ((List.range 16).map tbl).toArray) H) : ∀ (d i : Nat) (H : Hp), i + d = 16 → H = H0.set b (.obj (.cells (filled tbl (.int .u32 0) 16 i) e)) → W_crc_nibbles.l2 K (d + 1) ⟨b, 0, none⟩ (i : Int) H
  | 0, i, H, hi, hH => by
    obtain rfl : i = 16 := by omega
    unfold W_crc_nibbles.l2
    refine BIf_dneg (by omega) ?_
    have hb : H b = some (.obj (.cells (filled tbl (.int .u32 0) 16 16) e)) := by rw [hH]; exact Hp.set_same _ _ _
    refine LdA_obj hb (filled_size _ _ _ _) ?_
    refine StA_obj hb (filled_size _ _ _ _) (by simp [filled_size]) ?_ ?_
    · rw [filled_all]; intro v hv; simp at hv; obtain ⟨a, _, rfl⟩ := hv; rfl
    refine LdA_obj (Hp.set_same _ _ _) (by simp [filled_size]) ?_
    rw [Array.toArray_toList, filled_all]
    refine k _ ?_
    rw [hH, Hp.set_set]
    exact Hp.le_set hn
  | d + 1, i, H, hi, hH => by
    unfold W_crc_nibbles.l2
    refine BIf_dpos (by omega) ?_
    refine ⟨5, ?_⟩
    have hb : H b = some (.obj (.cells (filled tbl (.int .u32 0) 16 i) e)) := by rw [hH]; exact Hp.set_same _ _ _
    rw [show IntKind.u32.wrap (i : Int) = ((BitVec.ofNat 32 i).toNat : Int) by rw [BitVec.toNat_ofNat, Nat.mod_eq_of_lt (by omega)]; exact u32n (by omega)]
    refine nib_inner K _ b _ e (filled_size _ _ _ _) H hb i (by omega) i _ ?_ 4 0 _ rfl rfl
    rw [i64w (by omega) (by omega)]
    refine nib_outer K b e H0 hn k d (i + 1) _ (by omega) ?_
    rw [hH, Hp.set_set]
    congr 3
    exact filled_set tbl (.int .u32 0) (by omega)

theorem nibbles_ok (H : Hp) : HCalls Tryz.prog 229 #[] H (RetE (.agg ((List.range 16).map tbl).toArray) H) := by
  apply HCalls.ret
  apply W_crc_nibbles.ok
  unfold W_crc_nibbles
  intro b hb
  refine ⟨17, ?_⟩
  exact nib_outer _ b _ H hb (fun H' hl => ⟨rfl, hl⟩) 16 0 _ rfl rfl

/-- One step by half bytes. -/
theorem nib_step (v : W32) : (v >>> 4) ^^^ it bit1 4 (v &&& 15#32) = it bit1 4 v := (nibble v).symm

theorem and15 (v : W32) : bAnd .u32 (v.toNat : Int) 15 = ((v &&& 15#32).toNat : Int) := and32 v 15#32
theorem and15_lt (v : W32) : (v &&& 15#32).toNat < 16 := by
  rw [BitVec.toNat_and]
  exact Nat.lt_of_le_of_lt Nat.and_le_right (by decide)

theorem tbl_get (v : W32) : (((List.range 16).map tbl).toArray)[(v &&& 15#32).toNat]? = some (.int .u32 ((it bit1 4 (v &&& 15#32)).toNat : Int)) := by
  have h := and15_lt v
  simp only [List.getElem?_toArray, List.getElem?_map, List.getElem?_range h, Option.map_some]
  unfold tbl
  rw [BitVec.ofNat_toNat, BitVec.setWidth_eq]

theorem More_loop (K : Value → Hp → Prop) (t : Nat) (e : TypeId) (A : Option Addr) (n m : Nat) (bs : List UInt8) (hn : n = bs.length) (hm : n ≤ 9223372036854775807) (H : Hp) (ht : H t = some (.obj (.cells ((List.range 16).map tbl).toArray e))) (hb : Cells H A (byteVals bs)) (w : W32)
    (k : K (.int .u32 ((~~~ w).toNat : Int)) H) : ∀ (d j : Nat) (v : W32), j + d = n → run v (bs.drop j) = w → W_crc_More.l4 K (d + 1) ⟨t, 0, none⟩ (v.toNat : Int) A n m n (j : Int) H
  | 0, j, v, hj, hv => by
    unfold W_crc_More.l4
    refine BIf_dneg (by omega) ?_
    rw [List.drop_eq_nil_of_le (by omega)] at hv
    obtain rfl : v = w := hv
    rw [show IntKind.u32.max = ((BitVec.allOnes 32).toNat : Int) from rfl, xor32, BitVec.allOnes_xor]
    exact k
  | d + 1, j, v, hj, hv => by
    unfold W_crc_More.l4
    refine BIf_dpos (by omega) ?_
    have hlt : j < bs.length := by omega
    refine hb.read (i := j) (v := .int .u8 (bs[j].toNat : Int)) (by rw [byteVals_get, List.getElem?_eq_getElem hlt]; rfl) rfl (by rw [byteVals_length]; omega) ?_
    simp only [DI_int', DB_bool, DS_string, DP_pointer, DSl_slice, DM_map, DA_agg, DTup_tuple, DCons_cons, DNil_nil, NN_some, BIf_true, BIf_false, BIf_same, List.toList_toArray, Bool.not_true, Bool.not_false]
    refine ⟨by omega, ?_⟩
    rw [show (bs[j].toNat : Int) = ((bs[j].toBitVec).toNat : Int) from rfl, low8, xor32, and15]
    refine ⟨by omega, by have := and15_lt (v ^^^ BitVec.setWidth 32 bs[j].toBitVec); omega, ?_⟩
    simp only [Addr.add_lit', Int.toNat_natCast, Nat.mul_one, Nat.zero_add]
    refine Ld_obj ht (tbl_get _) ?_
    simp only [DI_int', DB_bool, DS_string, DP_pointer, DSl_slice, DM_map, DA_agg, DTup_tuple, DCons_cons, DNil_nil, NN_some, BIf_true, BIf_false, BIf_same, List.toList_toArray, Bool.not_true, Bool.not_false]
    refine ⟨by omega, ?_⟩
    rw [shr32 _ (i := 4) (n := 4) rfl (by omega), xor32, nib_step, and15]
    refine ⟨by omega, by have := and15_lt (it bit1 4 (v ^^^ BitVec.setWidth 32 bs[j].toBitVec)); omega, ?_⟩
    simp only [Addr.add_lit', Int.toNat_natCast, Nat.mul_one, Nat.zero_add]
    refine Ld_obj ht (tbl_get _) ?_
    simp only [DI_int', DB_bool, DS_string, DP_pointer, DSl_slice, DM_map, DA_agg, DTup_tuple, DCons_cons, DNil_nil, NN_some, BIf_true, BIf_false, BIf_same, List.toList_toArray, Bool.not_true, Bool.not_false]
    rw [shr32 _ (i := 4) (n := 4) rfl (by omega), xor32, nib_step, i64w (by omega) (by omega)]
    refine More_loop K t e A n m bs hn hm H ht hb w k d (j + 1) _ (by omega) ?_
    rw [List.drop_eq_getElem_cons hlt] at hv
    exact hv

theorem More_ok (s : W32) (A : Option Addr) (n m : Nat) (bs : List UInt8) (hn : n = bs.length) (hm : n ≤ 9223372036854775807) (H : Hp) (hb : Cells H A (byteVals bs)) :
    HCalls Tryz.prog 188 #[.int .u32 (s.toNat : Int), .slice A n m] H (RetE (.int .u32 ((more s bs).toNat : Int)) H) := by
  apply HCalls.ret
  apply W_crc_More.ok
  unfold W_crc_More
  refine HCalls.use (nibbles_ok H) ?_
  try simp only [DI_int', DB_bool, DS_string, DP_pointer, DSl_slice, DM_map, DA_agg, DTup_tuple, DCons_cons, DNil_nil, NN_some, BIf_true, BIf_false, BIf_same, List.toList_toArray, Bool.not_true, Bool.not_false]
  intro b hbn
  refine StA_obj (Hp.set_same _ _ _) rfl (by simp) ?_ ?_
  · intro v hv; simp at hv; obtain ⟨a, _, rfl⟩ := hv; rfl
  rw [Hp.set_set]
  refine ⟨n + 1, ?_⟩
  rw [show IntKind.u32.max = ((BitVec.allOnes 32).toNat : Int) from rfl, xor32, BitVec.allOnes_xor]
  refine More_loop _ b _ A n m bs hn hm _ (Hp.set_same _ _ _) (hb.le (Hp.le_set hbn)) (run (~~~ s) bs) ?_ n 0 _ (by omega) rfl
  exact ⟨rfl, Hp.le_set hbn⟩

theorem Of_ok (A : Option Addr) (n m : Nat) (bs : List UInt8) (hn : n = bs.length) (hm : n ≤ 9223372036854775807) (H : Hp) (hb : Cells H A (byteVals bs)) :
    HCalls Tryz.prog 203 #[.slice A n m] H (RetE (.int .u32 ((sum bs).toNat : Int)) H) := by
  apply W_crc_Of.ok
  unfold W_crc_Of
  refine HCalls.use (More_ok 0#32 A n m bs hn hm H hb) ?_
  try simp only [DI_int', DB_bool, DS_string, DP_pointer, DSl_slice, DM_map, DA_agg, DTup_tuple, DCons_cons, DNil_nil, NN_some, BIf_true, BIf_false, BIf_same, List.toList_toArray, Bool.not_true, Bool.not_false]
  exact RetE.mk _ _

end Go.Proofs.YtlgpappgnndgiaaGreatDoor.CrcP

end
section
/-! FormA -/
/- Words' forms: codec's and the document's. -/
set_option maxRecDepth 100000
set_option linter.unusedSimpArgs false
set_option linter.unusedVariables false
set_option linter.unnecessarySimpa false
set_option linter.unusedSectionVars false
namespace Go.Form
open Go Go.Hw

/-- A word's form. -/
def formW (w : UInt64) : List UInt8 := (List.range 8).map fun k => UInt8.ofNat (w.toNat / 256 ^ k)
def form (l : List UInt64) : List UInt8 := l.flatMap formW

theorem formW_length (w : UInt64) : (formW w).length = 8 := by simp [formW]
theorem form_length (l : List UInt64) : (form l).length = 8 * l.length := by
  induction l with
  | nil => rfl
  | cons w l ih => simp only [form, List.flatMap_cons, List.length_append, formW_length, List.length_cons]; rw [show (List.flatMap formW l).length = (form l).length from rfl, ih]; omega
theorem form_append (a b : List UInt64) : form (a ++ b) = form a ++ form b := by simp [form]
theorem form_succ (l : List UInt64) {i : Nat} (h : i < l.length) : form (l.take (i + 1)) = form (l.take i) ++ formW l[i] := by
  rw [List.take_succ_eq_append_getElem h, form_append]; simp [form]

theorem shr_byte (w : UInt64) (k : Nat) : IntKind.u8.wrap ((w.toNat >>> (8 * k) : Nat) : Int) = ((UInt8.ofNat (w.toNat / 256 ^ k)).toNat : Int) := by
  rw [u8mod, Nat.shiftRight_eq_div_pow, show (2 : Nat) ^ (8 * k) = 256 ^ k from by rw [Nat.pow_mul]]
  simp

end Go.Form
namespace Go.Proofs.YtlgpappgnndgiaaGreatDoor.FormP
open Go Go.Hw Go.Form Go.Proofs.YtlgpappgnndgiaaGreatDoor.W

theorem set_loop (K : Value → Hp → Prop) (b off n m mm : Nat) (xs : List Value) (e : TypeId) (w : UInt64) (H0 : Hp) (ho : off + 8 ≤ xs.length) (hn : 8 ≤ n)
    (k : K (.tuple #[]) (H0.set b (.row (setAt xs off (byteVals (formW w))) e mm))) : ∀ (d j : Nat) (H : Hp), j + d = 8 → H = H0.set b (.row (setAt xs off ((byteVals (formW w)).take j)) e mm) →
      W_codec_set.l1 K (d + 1) (some ⟨b, off, none⟩) n m (w.toNat : Int) (j : Int) H
  | 0, j, H, hj, hH => by
    obtain rfl : j = 8 := by omega
    unfold W_codec_set.l1
    refine BIf_dneg (by omega) ?_
    rw [List.take_of_length_le (by rw [byteVals_length, formW_length]; omega)] at hH
    rw [hH]; exact k
  | d + 1, j, H, hj, hH => by
    unfold W_codec_set.l1
    refine BIf_dpos (by omega) ?_
    rw [i64w (x := 8 * (j : Int)) (by omega) (by omega), u64w (by omega) (by omega)]
    refine ⟨by omega, by omega, by omega, ?_⟩
    simp only [NN_some, Addr.add_lit', Int.toNat_natCast, Nat.mul_one, Nat.add_zero]
    rw [shrNat w.toNat (i := 8 * (j : Int)) (n := 8 * j) (by omega) (by show 8 * j ≤ 64; omega), shr_byte, i64w (by omega) (by omega)]
    have hlen : (byteVals (formW w)).length = 8 := by rw [byteVals_length, formW_length]
    have hb : H b = some (.row (setAt xs off ((byteVals (formW w)).take j)) e mm) := by rw [hH]; exact Hp.set_same _ _ _
    refine St_row hb (by rw [setAt_length (by rw [List.length_take, hlen]; omega)]; omega) rfl ?_
    refine set_loop K b off n m mm xs e w H0 ho hn k d (j + 1) _ (by omega) ?_
    rw [hH, Hp.set_set]
    congr 2
    have := setAt_step (xs := xs) (vs := byteVals (formW w)) (off := off) (k := j) (by rw [hlen]; exact ho) (by rw [hlen]; omega)
    rw [← this]
    congr 1
    simp [byteVals, formW]

theorem set_ok (b off n m mm : Nat) (xs : List Value) (e : TypeId) (w : UInt64) (H : Hp) (hb : H b = some (.row xs e mm)) (ho : off + 8 ≤ xs.length) (hn : 8 ≤ n) :
    HCalls Tryz.prog 174 #[.slice (some ⟨b, off, none⟩) n m, .int .u64 (w.toNat : Int)] H (RetE (.tuple #[]) (H.set b (.row (setAt xs off (byteVals (formW w))) e mm))) := by
  apply W_codec_set.ok
  refine ⟨9, set_loop _ b off n m mm xs e w H ho hn (RetE.mk _ _) 8 0 H rfl ?_⟩
  rw [List.take_zero, setAt_nil, Hp.set_id hb]

theorem slA_row (b m l : Nat) : slA (some ⟨b, 0, none⟩) m l 1 = if m = l then some ⟨b, 0, none⟩ else some ⟨b, l, none⟩ := by
  unfold slA; split
  · rfl
  · simp

theorem Put_loop (K : Value → Hp → Prop) (b : Nat) (e : TypeId) (A : Option Addr) (n m : Nat) (l : List UInt64) (hn : n = l.length) (hm : n ≤ 17592186044416) (H0 : Hp) (hb0 : H0 b = none) (hl : Cells H0 A (wordVals l)) (z : List Value) (hz : z.length = 8 * n)
    (k : ∀ H, H = H0.set b (.row (byteVals (form l)) e (8 * n)) → K (.slice (some ⟨b, 0, none⟩) (8 * n) (8 * n)) H) : ∀ (d j : Nat) (H : Hp), j + d = n → H = H0.set b (.row (setAt z 0 (byteVals (form (l.take j)))) e (8 * n)) →
      W_codec_Put.l3 K (d + 1) (some ⟨b, 0, none⟩) (8 * n) (8 * n) A n m (n : Int) (j : Int) H
  | 0, j, H, hj, hH => by
    unfold W_codec_Put.l3
    refine BIf_dneg (by omega) (k _ ?_)
    rw [hH, List.take_of_length_le (by omega), setAt_all (by rw [byteVals_length, form_length, hz, hn])]
  | d + 1, j, H, hj, hH => by
    unfold W_codec_Put.l3
    refine BIf_dpos (by omega) ?_
    have hlt : j < l.length := by omega
    have hle : H0.le H := by rw [hH]; exact Hp.le_set hb0
    refine (hl.le hle).read (i := j) (v := .int .u64 (l[j].toNat : Int)) (by rw [wordVals_get, List.getElem?_eq_getElem hlt]; rfl) rfl (by rw [wordVals_length]; omega) ?_
    simp only [DI_int', DB_bool, DS_string, DP_pointer, DSl_slice, DM_map, DA_agg, DTup_tuple, DCons_cons, DNil_nil, NN_some, BIf_true, BIf_false, BIf_same, List.toList_toArray, Bool.not_true, Bool.not_false]
    rw [i64w (x := 8 * (j : Int)) (by omega) (by omega)]
    refine ⟨by omega, by omega, ?_⟩
    dsimp only
    rw [show (8 * (j : Int)).toNat = 8 * j by omega, slA_row, if_neg (by omega)]
    have hlen : (byteVals (form (l.take j))).length = 8 * j := by rw [byteVals_length, form_length, List.length_take, Nat.min_eq_left (by omega)]
    have hb : H b = some (.row (setAt z 0 (byteVals (form (l.take j)))) e (8 * n)) := by rw [hH]; exact Hp.set_same _ _ _
    have hsl : (setAt z 0 (byteVals (form (l.take j)))).length = 8 * n := by rw [setAt_length (by omega), hz]
    refine HCalls.use (set_ok b (8 * j) _ _ _ _ e l[j] H hb (by omega) (by omega)) ?_
    rw [i64w (by omega) (by omega)]
    refine Put_loop K b e A n m l hn hm H0 hb0 hl z hz k d (j + 1) _ (by omega) ?_
    rw [hH, Hp.set_set]
    congr 2
    rw [form_succ l hlt, byteVals_append]
    have h8 : (byteVals (formW l[j])).length = 8 := by rw [byteVals_length, formW_length]
    rw [← setAt_setAt (by rw [hlen, h8]; omega), hlen]

theorem cell_u8 : cellInfo Tryz.prog 5 = some (1, 1, some #[.int .u8 0]) := by kernel_rfl

theorem Put_ok (A : Option Addr) (n m : Nat) (l : List UInt64) (hn : n = l.length) (hm : n ≤ 17592186044416) (H : Hp) (hl : Cells H A (wordVals l)) :
    HCalls Tryz.prog 129 #[.slice A n m] H (fun v H' => ∃ b, H b = none ∧ v = .slice (some ⟨b, 0, none⟩) (8 * n) (8 * n) ∧ H' = H.set b (.row (byteVals (form l)) 5 (8 * n))) := by
  apply W_codec_Put.ok
  unfold W_codec_Put
  rw [i64w (x := 8 * (n : Int)) (by omega) (by omega)]
  refine MkS_of cell_u8 rfl (n := 8 * n) (m := 8 * n) (by omega) (by omega) (Nat.le_refl _) (by omega) (by omega) ?_
  intro b hb
  rw [Nat.mul_one]
  simp only [DI_int', DB_bool, DS_string, DP_pointer, DSl_slice, DM_map, DA_agg, DTup_tuple, DCons_cons, DNil_nil, NN_some, BIf_true, BIf_false, BIf_same, List.toList_toArray, Bool.not_true, Bool.not_false]
  refine ⟨n + 1, ?_⟩
  refine Put_loop _ b 5 A n m l hn hm H hb hl (zeroRow [.int .u8 0] (8 * n)) (by rw [zeroRow_length]; simp) ?_ n 0 _ (by omega) ?_
  · intro H' hH; exact ⟨b, hb, rfl, hH⟩
  · rw [List.take_zero]; simp [form, byteVals, setAt_nil]

/-! ## The document's -/

theorem bsize (bs : List UInt8) : (ByteArray.mk bs.toArray).size = bs.length := by simp [ByteArray.size]
theorem bappend (a b : List UInt8) : ByteArray.mk a.toArray ++ ByteArray.mk b.toArray = ByteArray.mk (a ++ b).toArray := by
  apply ByteArray.ext
  simp

theorem rput_inner (K : Value → Hp → Prop) (R3 : Option Addr → Nat → Nat → ByteArray → Int → Hp → Prop) (A : Option Addr) (n m : Nat) (x3 : Int) (H0 : Hp) (w : UInt64) (pre : List UInt8) (hp : pre.length ≤ 1000000000000)
    (k : ∀ H, H0.le H → R3 A n m ⟨(pre ++ formW w).toArray⟩ (IntKind.i64.wrap (x3 + 1)) H) : ∀ (d j : Nat) (H : Hp), j + d = 8 → H0.le H →
      W_abacistref04_Put.l7 K R3 (d + 1) A n m ⟨(pre ++ (formW w).take j).toArray⟩ x3 ((w.toNat / 256 ^ j : Nat) : Int) (j : Int) H
  | 0, j, H, hj, hle => by
    unfold W_abacistref04_Put.l7
    refine BIf_dneg (by omega) ?_
    rw [List.take_of_length_le (by rw [formW_length]; omega)]
    exact k H hle
  | d + 1, j, H, hj, hle => by
    unfold W_abacistref04_Put.l7
    refine BIf_dpos (by omega) ?_
    refine ⟨by omega, rfl, ?_⟩
    intro b hb
    have hlen := formW_length w
    have hbyte : IntKind.u8.wrap (Int.tmod ((w.toNat / 256 ^ j : Nat) : Int) 256) = (((formW w)[j]'(by omega)).toNat : Int) := by
      rw [show Int.tmod ((w.toNat / 256 ^ j : Nat) : Int) 256 = ((w.toNat / 256 ^ j % 256 : Nat) : Int) from rfl, u8n (by omega)]
      simp [formW]
    have hc : Cells (H.set b (.row [.int .u8 (((formW w)[j]'(by omega)).toNat : Int)] 5 1)) (some ⟨b, 0, none⟩) (byteVals [(formW w)[j]'(by omega)]) := by
      have := Cells.row (Hp.set_same H b (.row [.int .u8 (((formW w)[j]'(by omega)).toNat : Int)] 5 1)) 0 1
      simpa [byteVals] using this
    rw [hbyte]
    refine BsK_of hc rfl ?_
    rw [bsize, bsize, bappend]
    refine ⟨by simp; omega, by omega, rfl, ?_⟩
    have hdiv : IntKind.u64.wrap (Int.tdiv ((w.toNat / 256 ^ j : Nat) : Int) 256) = ((w.toNat / 256 ^ (j + 1) : Nat) : Int) := by
      rw [show Int.tdiv ((w.toNat / 256 ^ j : Nat) : Int) 256 = ((w.toNat / 256 ^ j / 256 : Nat) : Int) from rfl, Nat.div_div_eq_div_mul, show 256 ^ j * 256 = 256 ^ (j + 1) from (Nat.pow_succ ..).symm]
      exact u64n (by have := Nat.div_le_self w.toNat (256 ^ (j + 1)); have := w.toNat_lt; omega)
    rw [hdiv, i64w (by omega) (by omega), List.append_assoc, ← List.take_succ_eq_append_getElem (by omega)]
    exact rput_inner K R3 A n m x3 H0 w pre hp k d (j + 1) _ (by omega) (Hp.le_trans hle (Hp.le_set hb))

theorem rput_outer (K : Value → Hp → Prop) (A : Option Addr) (n m : Nat) (l : List UInt64) (hn : n = l.length) (hm : n ≤ 10000000000) (H0 : Hp) (hl : Cells H0 A (wordVals l)) (k : ∀ H, H0.le H → K (.string ⟨(form l).toArray⟩) H) : ∀ (d j : Nat) (H : Hp), j + d = n → H0.le H →
      W_abacistref04_Put.l3 K (d + 1) A n m ⟨(form (l.take j)).toArray⟩ (j : Int) H
  | 0, j, H, hj, hle => by
    unfold W_abacistref04_Put.l3
    refine BIf_dneg (by omega) ?_
    rw [List.take_of_length_le (by omega)]
    exact k H hle
  | d + 1, j, H, hj, hle => by
    unfold W_abacistref04_Put.l3
    refine BIf_dpos (by omega) ?_
    have hlt : j < l.length := by omega
    refine (hl.le hle).read (i := j) (v := .int .u64 (l[j].toNat : Int)) (by rw [wordVals_get, List.getElem?_eq_getElem hlt]; rfl) rfl (by rw [wordVals_length]; omega) ?_
    simp only [DI_int', DB_bool, DS_string, DP_pointer, DSl_slice, DM_map, DA_agg, DTup_tuple, DCons_cons, DNil_nil, NN_some, BIf_true, BIf_false, BIf_same, List.toList_toArray, Bool.not_true, Bool.not_false]
    refine ⟨9, ?_⟩
    have := rput_inner K (W_abacistref04_Put.l3 K (d + 1)) A n m (j : Int) H0 l[j] (form (l.take j)) (by rw [form_length, List.length_take]; omega) (fun H' hle' => by
      rw [i64w (by omega) (by omega), ← form_succ l hlt]
      exact rput_outer K A n m l hn hm H0 hl k d (j + 1) H' (by omega) hle') 8 0 H rfl hle
    simpa using this

theorem rPut_ok (A : Option Addr) (n m : Nat) (l : List UInt64) (hn : n = l.length) (hm : n ≤ 10000000000) (H : Hp) (hl : Cells H A (wordVals l)) :
    HCalls Tryz.prog 59 #[.slice A n m] H (RetE (.string ⟨(form l).toArray⟩) H) := by
  apply HCalls.ret
  apply W_abacistref04_Put.ok
  exact ⟨n + 1, rput_outer _ A n m l hn hm H hl (fun H' hle => ⟨rfl, hle⟩) n 0 H (by omega) (Hp.le_refl _)⟩

end Go.Proofs.YtlgpappgnndgiaaGreatDoor.FormP

end
section
/-! CrcB -/
/- The document's sums; the laws CrcTells and CrcJoins' parts. -/
set_option maxRecDepth 100000
set_option linter.unusedSimpArgs false
set_option linter.unusedVariables false
set_option linter.unnecessarySimpa false
set_option linter.unusedSectionVars false

namespace Go.Proofs.YtlgpappgnndgiaaGreatDoor.CrcP
open Go Go.Hw Go.Crc Go.Form Go.Proofs.YtlgpappgnndgiaaGreatDoor.W

theorem low_shr (c : BitVec 8) : (c >>> 1).setWidth 32 = (c.setWidth 32) >>> 1 := by
  apply BitVec.eq_of_getLsbD_eq
  intro i hi
  simp only [BitVec.getLsbD_setWidth, BitVec.getLsbD_ushiftRight]
  by_cases h : 1 + i < 32
  · simp [hi, h]
  · have := BitVec.getLsbD_of_ge c (1 + i) (by omega)
    simp [this]

theorem xor3 (a b c : W32) : (a ^^^ b) ^^^ c = (a ^^^ c) ^^^ b := by rw [BitVec.xor_assoc, BitVec.xor_comm b c, BitVec.xor_assoc]

theorem ref_step (v : W32) (c : BitVec 8) : ((v >>> 1) ^^^ (if (v ^^^ c.setWidth 32).getLsbD 0 then poly else 0#32)) ^^^ (c >>> 1).setWidth 32 = bit1 (v ^^^ c.setWidth 32) := by
  unfold bit1
  rw [BitVec.ushiftRight_xor_distrib, low_shr]
  exact xor3 _ _ _

theorem rOf_inner (K : Value → Hp → Prop) (R3 : ByteArray → Int → Int → Hp → Prop) (s : ByteArray) (x5 : Int) (H : Hp) (w : W32) (k : R3 s (w.toNat : Int) (IntKind.i64.wrap (x5 + 1)) H) : ∀ (d j : Nat) (v : W32) (c : BitVec 8), j + d = 8 → c >>> d = 0#8 → it bit1 d (v ^^^ c.setWidth 32) = w →
      W_abacistref16_Of.l7 K R3 (d + 1) s (v.toNat : Int) x5 (c.toNat : Int) (j : Int) H
  | 0, j, v, c, hj, hc, hv => by
    unfold W_abacistref16_Of.l7
    refine BIf_dneg (by omega) ?_
    have hc' : c = 0#8 := by simpa using hc
    subst hc'
    obtain rfl : v = w := by simpa [it] using hv
    exact k
  | d + 1, j, v, c, hj, hc, hv => by
    unfold W_abacistref16_Of.l7
    refine BIf_dpos (by omega) ?_
    rw [low8, xor32, mod32, div32, div8, i64w (by omega) (by omega)]
    refine ⟨by omega, rfl, by omega, rfl, by omega, rfl, ?_⟩
    have hc' : (c >>> 1) >>> d = 0#8 := by rw [← BitVec.shiftRight_add, Nat.add_comm]; exact hc
    have hs := ref_step v c
    refine BIf_intro (fun h => ?_) (fun h => ?_)
    · rw [h] at hs
      rw [show (2197175160 : Int) = (poly.toNat : Int) from rfl, xor32]
      exact rOf_inner K R3 s x5 H w k d (j + 1) _ _ (by omega) hc' (by rw [show it bit1 (d + 1) (v ^^^ BitVec.setWidth 32 c) = it bit1 d (bit1 (v ^^^ BitVec.setWidth 32 c)) from rfl, ← hs] at hv; simpa using hv)
    · rw [h] at hs
      exact rOf_inner K R3 s x5 H w k d (j + 1) _ _ (by omega) hc' (by rw [show it bit1 (d + 1) (v ^^^ BitVec.setWidth 32 c) = it bit1 d (bit1 (v ^^^ BitVec.setWidth 32 c)) from rfl, ← hs] at hv; simpa using hv)

theorem shr8 (c : BitVec 8) : c >>> 8 = 0#8 := by
  apply BitVec.eq_of_getLsbD_eq
  intro i hi
  rw [BitVec.getLsbD_ushiftRight, BitVec.getLsbD_of_ge c (8 + i) (by omega)]; simp

theorem rOf_outer (K : Value → Hp → Prop) (bs : List UInt8) (hm : bs.length ≤ 9223372036854775807) (H : Hp) (w : W32) (k : K (.int .u32 ((~~~ w).toNat : Int)) H) : ∀ (d j : Nat) (v : W32), j + d = bs.length → run v (bs.drop j) = w →
      W_abacistref16_Of.l3 K (d + 1) ⟨bs.toArray⟩ (v.toNat : Int) (j : Int) H
  | 0, j, v, hj, hv => by
    unfold W_abacistref16_Of.l3
    refine BIf_dneg (by rw [bsize']; omega) ?_
    rw [List.drop_eq_nil_of_le (by omega)] at hv
    obtain rfl : v = w := hv
    rw [show (4294967295 : Int) = ((BitVec.allOnes 32).toNat : Int) from rfl, xor32, BitVec.xor_allOnes]
    exact k
  | d + 1, j, v, hj, hv => by
    unfold W_abacistref16_Of.l3
    have hlt : j < bs.length := by omega
    refine BIf_dpos (by rw [bsize']; omega) ?_
    refine ⟨by omega, ?_⟩
    rw [Int.toNat_natCast]
    have hg : (ByteArray.mk bs.toArray)[j]? = some bs[j] := by
      rw [getElem?_pos (ByteArray.mk bs.toArray) j (by rw [bsize']; exact hlt)]
      congr 1
    unfold ixB
    rw [hg]
    refine ⟨9, ?_⟩
    rw [show ((bs[j].toNat : Nat) : Int) = ((bs[j].toBitVec).toNat : Int) from rfl]
    refine rOf_inner K _ _ _ H (byte v bs[j]) ?_ 8 0 v _ rfl (shr8 _) rfl
    rw [i64w (by omega) (by omega)]
    refine rOf_outer K bs hm H w k d (j + 1) _ (by omega) ?_
    rw [List.drop_eq_getElem_cons hlt] at hv
    exact hv
where bsize' : (ByteArray.mk bs.toArray).size = bs.length := FormP.bsize bs

theorem rOf_ok (bs : List UInt8) (hm : bs.length ≤ 9223372036854775807) (H : Hp) : HCalls Tryz.prog 58 #[.string ⟨bs.toArray⟩] H (RetE (.int .u32 ((sum bs).toNat : Int)) H) := by
  apply W_abacistref16_Of.ok
  refine ⟨bs.length + 1, ?_⟩
  rw [show (4294967295 : Int) = ((~~~ 0#32 : W32).toNat : Int) from rfl]
  refine rOf_outer _ bs hm H (run (~~~ 0#32) bs) ?_ bs.length 0 _ (by omega) rfl
  exact RetE.mk _ _

theorem rOfWords_ok (A : Option Addr) (n m : Nat) (l : List UInt64) (hn : n = l.length) (hm : n ≤ 10000000000) (H : Hp) (hl : Cells H A (wordVals l)) :
    HCalls Tryz.prog 13 #[.slice A n m] H (RetE (.int .u32 ((sum (form l)).toNat : Int)) H) := by
  apply W_abacistref16_OfWords.ok
  unfold W_abacistref16_OfWords
  refine HCalls.use (FormP.rPut_ok A n m l hn hm H hl) ?_
  try simp only [DI_int', DB_bool, DS_string, DP_pointer, DSl_slice, DM_map, DA_agg, DTup_tuple, DCons_cons, DNil_nil, NN_some, BIf_true, BIf_false, BIf_same, List.toList_toArray, Bool.not_true, Bool.not_false]
  refine HCalls.use (rOf_ok (form l) (by rw [form_length]; omega) H) ?_
  try simp only [DI_int', DB_bool, DS_string, DP_pointer, DSl_slice, DM_map, DA_agg, DTup_tuple, DCons_cons, DNil_nil, NN_some, BIf_true, BIf_false, BIf_same, List.toList_toArray, Bool.not_true, Bool.not_false]
  exact RetE.mk _ _

theorem OfWords_ok (A : Option Addr) (n m : Nat) (l : List UInt64) (hn : n = l.length) (hm : n ≤ 10000000000) (H : Hp) (hl : Cells H A (wordVals l)) :
    HCalls Tryz.prog 161 #[.slice A n m] H (RetE (.int .u32 ((sum (form l)).toNat : Int)) H) := by
  apply HCalls.ret
  apply W_crc_OfWords.ok
  unfold W_crc_OfWords
  refine (FormP.Put_ok A n m l hn (by omega) H hl).mono ?_
  rintro v H' ⟨b, hb, rfl, rfl⟩
  simp only [DI_int', DB_bool, DS_string, DP_pointer, DSl_slice, DM_map, DA_agg, DTup_tuple, DCons_cons, DNil_nil, NN_some, BIf_true, BIf_false, BIf_same, List.toList_toArray, Bool.not_true, Bool.not_false]
  have hf : (form l).length = 8 * n := by rw [form_length, hn]
  refine HCalls.use (Of_ok (some ⟨b, 0, none⟩) (8 * n) (8 * n) (form l) hf.symm (by omega) _ (by have := Cells.row (Hp.set_same H b (.row (byteVals (form l)) 5 (8 * n))) 0 (8 * n); rwa [List.drop_zero, List.take_of_length_le (by rw [byteVals_length, hf]; omega)] at this)) ?_
  try simp only [DI_int', DB_bool, DS_string, DP_pointer, DSl_slice, DM_map, DA_agg, DTup_tuple, DCons_cons, DNil_nil, NN_some, BIf_true, BIf_false, BIf_same, List.toList_toArray, Bool.not_true, Bool.not_false]
  exact ⟨rfl, Hp.le_set hb⟩

theorem sum_123 : sum [49, 50, 51, 52, 53, 54, 55, 56, 57] = 3808858755#32 := by decide +kernel

theorem u32_eq (a b : W32) : ((a.toNat : Int) == (b.toNat : Int)) = (a == b) := by
  by_cases h : a = b
  · subst h; simp
  · have : (a.toNat : Int) ≠ b.toNat := fun e => h (BitVec.eq_of_toNat_eq (by omega))
    rw [beq_false_of_ne h, beq_false_of_ne this]

end Go.Proofs.YtlgpappgnndgiaaGreatDoor.CrcP

end
section
/-! FormB -/
/- Words of bytes: codec's and the document's. -/
set_option maxRecDepth 100000
set_option linter.unusedSimpArgs false
set_option linter.unusedVariables false
set_option linter.unnecessarySimpa false
set_option linter.unusedSectionVars false
namespace Go.Form
open Go Go.Hw
theorem formW_bytes (w : UInt64) : formW w = bytesN 8 w.toNat := range_bytes 8 w.toNat
theorem leN_formW (w : UInt64) : leN (formW w) = w.toNat := by
  rw [formW_bytes, leN_bytesN]
  exact Nat.mod_eq_of_lt w.toNat_lt

/-- The word whose form begins at a place. -/
def wordN (bs : List UInt8) (o : Nat) : Nat := leN ((bs.drop o).take 8)
theorem wordN_lt (bs : List UInt8) (o : Nat) : wordN bs o < 2 ^ 64 := leN_lt8 (by simp; omega)

theorem form_drop (l : List UInt64) (i : Nat) : (form l).drop (8 * i) = form (l.drop i) := by
  induction i generalizing l with
  | zero => simp
  | succ i ih =>
    cases l with
    | nil => simp [form]
    | cons w l =>
      rw [List.drop_succ_cons, ← ih]
      show List.drop (8 * (i + 1)) (formW w ++ form l) = _
      rw [show 8 * (i + 1) = (formW w).length + 8 * i by rw [formW_length]; omega, List.drop_append]
      simp
theorem wordN_form {l : List UInt64} {i : Nat} (h : i < l.length) (r : List UInt8) : wordN (form l ++ r) (8 * i) = l[i].toNat := by
  unfold wordN
  rw [List.drop_append_of_le_length (by rw [form_length]; omega), form_drop, List.drop_eq_getElem_cons h]
  show leN (((formW l[i] ++ form (l.drop (i + 1))) ++ r).take 8) = _
  rw [List.append_assoc, List.take_left' (formW_length _), leN_formW]
end Go.Form
namespace Go.Proofs.YtlgpappgnndgiaaGreatDoor.FormP
open Go Go.Hw Go.Form Go.Proofs.YtlgpappgnndgiaaGreatDoor.W

theorem word_loop (K : Value → Hp → Prop) (A : Option Addr) (n m : Nat) (bs : List UInt8) (hl : bs.length = 8) (hn : 8 ≤ n) (H : Hp) (hb : Cells H A (byteVals bs)) (k : K (.int .u64 (leN bs : Nat)) H) : ∀ j : Nat, j ≤ 8 →
    W_codec_word.l3 K (j + 1) A n m ((leN (bs.drop j) : Nat) : Int) ((j : Int) - 1) H
  | 0, _ => by
    unfold W_codec_word.l3
    refine BIf_dneg (by omega) ?_
    exact k
  | j + 1, hj => by
    unfold W_codec_word.l3
    refine BIf_dpos (by omega) ⟨by omega, ?_⟩
    rw [show (((j + 1 : Nat) : Int) - 1) = (j : Int) by omega]
    have hlt : j < bs.length := by omega
    refine ⟨by omega, by omega, ?_⟩
    obtain ⟨a, rfl, hc⟩ := hb j (.int .u8 (bs[j].toNat : Int)) (by rw [byteVals_get, List.getElem?_eq_getElem hlt]; rfl)
    show Ld H _ _
    refine Ld_of (v := .int .u8 (bs[j].toNat : Int)) (by rw [Int.toNat_natCast, Nat.mul_one]; exact hc) ?_
    simp only [DI_int', DB_bool, DS_string, DP_pointer, DSl_slice, DM_map, DA_agg, DTup_tuple, DCons_cons, DNil_nil, NN_some, BIf_true, BIf_false, BIf_same, List.toList_toArray, Bool.not_true, Bool.not_false]
    have h1 : leN (bs.drop (j + 1)) < 256 ^ 7 := by
      have h1 := leN_lt (bs.drop (j + 1))
      have h2 : 256 ^ (bs.drop (j + 1)).length ≤ 256 ^ 7 := Nat.pow_le_pow_right (by omega) (by simp; omega)
      omega
    have h2 : bs[j].toNat < 256 := bs[j].toNat_lt
    have h3 : leN (bs.drop (j + 1)) * 2 ^ 8 < 2 ^ 64 := by
      rw [show (256 : Nat) ^ 7 = 2 ^ 56 by decide] at h1; omega
    rw [shlN (i := (8 : Int)) (n := 8) rfl (by omega), Nat.mod_eq_of_lt h3, u64n (by omega), orN h3 (by omega), i64w (by omega) (by omega)]
    rw [← Nat.shiftLeft_eq, ← Nat.shiftLeft_add_eq_or_of_lt (by omega : bs[j].toNat < 2 ^ 8), Nat.shiftLeft_eq]
    have e := leN_drop hlt
    rw [show leN (bs.drop (j + 1)) * 2 ^ 8 + bs[j].toNat = leN (bs.drop j) by rw [e]; omega]
    exact word_loop K _ n m bs hl hn H hb k j (by omega)

theorem word_ok (A : Option Addr) (n m : Nat) (bs : List UInt8) (hl : bs.length = 8) (hn : 8 ≤ n) (H : Hp) (hb : Cells H A (byteVals bs)) : HCalls Tryz.prog 186 #[.slice A n m] H (RetE (.int .u64 (leN bs : Nat)) H) := by
  apply W_codec_word.ok
  refine ⟨9, ?_⟩
  have := word_loop (RetE (.int .u64 (leN bs : Nat)) H) A n m bs hl hn H hb (RetE.mk _ _) 8 (Nat.le_refl _)
  rw [List.drop_eq_nil_of_le (by omega)] at this
  exact this

theorem inside_ok (A : Option Addr) (n m : Nat) (hn : n ≤ 9000000000000000000) (i : Int) (H : Hp) : HCalls Tryz.prog 185 #[.slice A n m, .int .i64 i] H (RetE (.bool (decide (0 ≤ i ∧ i < (n / 8 : Nat)))) H) := by
  apply W_codec_inside.ok
  unfold W_codec_inside
  rw [BIf_decide]
  split
  · refine ⟨by omega, rfl, RetE.of ?_⟩
    rw [show Int.tdiv ((n : Nat) : Int) 8 = ((n / 8 : Nat) : Int) from rfl, i64n (by omega)]
    congr 1; simp only [decide_eq_decide]; omega
  · refine RetE.of ?_
    congr 1
    exact (decide_eq_false (by omega)).symm

theorem Word_ok (A : Option Addr) (n m : Nat) (hnm : n ≤ m) (hm : n ≤ 9000000000000000000) (bs : List UInt8) (hl : n = bs.length) (i : Nat) (hi : 8 * i + 8 ≤ n) (H : Hp) (hb : Cells H A (byteVals bs)) :
    HCalls Tryz.prog 144 #[.slice A n m, .int .i64 i] H (RetE (.tuple #[.int .u64 (wordN bs (8 * i) : Nat), .int .i64 0]) H) := by
  apply W_codec_Word.ok
  unfold W_codec_Word
  refine HCalls.use (inside_ok A n m (by omega) i H) ?_
  try simp only [DI_int', DB_bool, DS_string, DP_pointer, DSl_slice, DM_map, DA_agg, DTup_tuple, DCons_cons, DNil_nil, NN_some, BIf_true, BIf_false, BIf_same, List.toList_toArray, Bool.not_true, Bool.not_false]
  refine BIf_neg (by simp; omega) ?_
  rw [i64w (x := 8 * (i : Int)) (by omega) (by omega)]
  refine ⟨by omega, by omega, ?_⟩
  rw [show (8 * (i : Int)).toNat = 8 * i by omega]
  have h1 := (hb.shift (m := m) (l := 8 * i) (by rw [byteVals_length]; omega)).take 8
  rw [show ((byteVals bs).drop (8 * i)).take 8 = byteVals ((bs.drop (8 * i)).take 8) by unfold byteVals; rw [List.map_take, List.map_drop]] at h1
  refine HCalls.use (word_ok _ (n - 8 * i) (m - 8 * i) ((bs.drop (8 * i)).take 8) (by simp; omega) (by omega) H h1) ?_
  try simp only [DI_int', DB_bool, DS_string, DP_pointer, DSl_slice, DM_map, DA_agg, DTup_tuple, DCons_cons, DNil_nil, NN_some, BIf_true, BIf_false, BIf_same, List.toList_toArray, Bool.not_true, Bool.not_false]
  exact RetE.mk _ _

theorem rword_loop (K : Value → Hp → Prop) (bs : List UInt8) (o : Nat) (ho : o + 8 ≤ bs.length) (hb : bs.length ≤ 1000000000000) (H : Hp) (k : K (.int .u64 (wordN bs o : Nat)) H) : ∀ j : Nat, j ≤ 8 →
    W_abacistref04_Word.l3 K (j + 1) ⟨bs.toArray⟩ (o : Int) ((leN (((bs.drop o).take 8).drop j) : Nat) : Int) ((j : Int) - 1) H
  | 0, _ => by
    unfold W_abacistref04_Word.l3
    exact BIf_dneg (by omega) k
  | j + 1, hj => by
    unfold W_abacistref04_Word.l3
    have hl : ((bs.drop o).take 8).length = 8 := by simp; omega
    have hlt : j < ((bs.drop o).take 8).length := by omega
    refine BIf_dpos (by omega) ?_
    rw [show (o : Int) + (((j + 1 : Nat) : Int) - 1) = ((o + j : Nat) : Int) by omega, i64n (by omega)]
    refine ⟨by omega, ixB_of (by rw [Int.toNat_natCast]; show o + j < bs.toArray.size; simp; omega) ?_⟩
    have h1 : leN (((bs.drop o).take 8).drop (j + 1)) < 256 ^ 7 := by
      have h1 := leN_lt (((bs.drop o).take 8).drop (j + 1))
      have h2 : 256 ^ (((bs.drop o).take 8).drop (j + 1)).length ≤ 256 ^ 7 := Nat.pow_le_pow_right (by omega) (by simp; omega)
      omega
    rw [show (256 : Nat) ^ 7 = 2 ^ 56 by decide] at h1
    have e := leN_drop hlt
    have hg : ((⟨bs.toArray⟩ : ByteArray)[(((o + j : Nat) : Int)).toNat]'(by rw [Int.toNat_natCast]; show o + j < bs.toArray.size; simp; omega)) = ((bs.drop o).take 8)[j] := by
      simp only [Int.toNat_natCast, List.getElem_take, List.getElem_drop]
      rfl
    rw [hg]
    have h2 : ((bs.drop o).take 8)[j].toNat < 256 := ((bs.drop o).take 8)[j].toNat_lt
    rw [u64n (n := ((bs.drop o).take 8)[j].toNat) (by omega), u64w (x := (256 : Int) * _) (by omega) (by omega), u64w (by omega) (by omega), i64w (by omega) (by omega)]
    rw [show (256 : Int) * ((leN (((bs.drop o).take 8).drop (j + 1)) : Nat) : Int) + (((bs.drop o).take 8)[j].toNat : Int) = ((leN (((bs.drop o).take 8).drop j) : Nat) : Int) by rw [e]; omega]
    rw [show (((j + 1 : Nat) : Int) - 1) - 1 = (j : Int) - 1 by omega]
    exact rword_loop K bs o ho hb H k j (by omega)

theorem rWord_ok (bs : List UInt8) (o : Nat) (ho : o + 8 ≤ bs.length) (hb : bs.length ≤ 1000000000000) (H : Hp) : HCalls Tryz.prog 132 #[.string ⟨bs.toArray⟩, .int .i64 o] H (RetE (.int .u64 (wordN bs o : Nat)) H) := by
  apply W_abacistref04_Word.ok
  refine ⟨9, ?_⟩
  have := rword_loop (RetE (.int .u64 (wordN bs o : Nat)) H) bs o ho hb H (RetE.mk _ _) 8 (Nat.le_refl _)
  rw [List.drop_eq_nil_of_le (by simp; omega)] at this
  exact this

end Go.Proofs.YtlgpappgnndgiaaGreatDoor.FormP

end
section
/-! HwV -/
/- The frame of the proofs: structs and arrays of plain cells, compared. -/
set_option maxRecDepth 100000
set_option linter.unusedSimpArgs false
set_option linter.unusedVariables false
set_option linter.unnecessarySimpa false
set_option linter.unusedSectionVars false
namespace Go.Hw
open Go

def litOk : Lf → Lit → Bool
  | .int k, .int k' n => decide (k' = k) && (Lit.int k n).wf
  | .bool, .bool _ => true
  | .str, .string l => decide (l.length ≤ maxLen)
  | _, _ => false

def okAll : List Lf → List Lit → Bool
  | [], [] => true
  | f :: fs, l :: ls => litOk f l && okAll fs ls
  | _, _ => false

def flatFs (P : Program) (g : TypeId → Option (List Lf)) : List Field → Nat → Option (List Lf)
  | [], _ => some []
  | f :: r, off => match f.name != "_" && Nat.beq f.offset off with
    | true => match g f.type with
      | some l => match Nat.beq l.length (P.cellsOf f.type) with
        | true => match flatFs P g r (off + l.length) with
          | some k => some (l ++ k)
          | none => none
        | false => none
      | none => none
    | false => none

/-- The plain cells that a type is made of. -/
def flat (P : Program) : Nat → TypeId → Option (List Lf)
  | 0, _ => none
  | d + 1, t => match P.underlying t with
    | some .bool => some [.bool]
    | some (.int q) => some [.int q]
    | some .string => some [.str]
    | some (.array n e) => match flat P d e with
      | some l => match Nat.beq l.length (P.cellsOf e) && Nat.beq (n * l.length) (P.cellsOf t) with
        | true => some (List.replicate n l).flatten
        | false => none
      | none => none
    | some (.struct fs) => match flatFs P (flat P d) fs.toList 0 with
      | some l => match Nat.beq l.length (P.cellsOf t) with
        | true => some l
        | false => none
      | none => none
    | _ => none

theorem okAll_len : ∀ {fs : List Lf} {ls : List Lit}, okAll fs ls = true → ls.length = fs.length
  | [], [], _ => rfl
  | _ :: fs, _ :: ls, h => by
    simp only [okAll, Bool.and_eq_true] at h
    simp [okAll_len h.2]
  | [], _ :: _, h => by cases h
  | _ :: _, [], h => by cases h

theorem okAll_split : ∀ {a b : List Lf} {ls : List Lit}, okAll (a ++ b) ls = true → ∃ x y, ls = x ++ y ∧ okAll a x = true ∧ okAll b y = true
  | [], b, ls, h => ⟨[], ls, rfl, rfl, h⟩
  | f :: a, b, [], h => by cases h
  | f :: a, b, l :: ls, h => by
    simp only [List.cons_append, okAll, Bool.and_eq_true] at h
    obtain ⟨x, y, rfl, h1, h2⟩ := okAll_split h.2
    exact ⟨l :: x, y, rfl, by simp [okAll, h.1, h1], h2⟩

theorem okAll_one {f : Lf} {ls : List Lit} (h : okAll [f] ls = true) : ∃ x, ls = [x] := by
  have := okAll_len h
  match ls, this with
  | [x], _ => exact ⟨x, rfl⟩

theorem keyLits_flat {P : Program} : ∀ (d : Nat) (t : TypeId) (ks : List Lf) (ls : List Lit), flat P d t = some ks → okAll ks ls = true → P.keyLits d t (ls.map Lit.value) = some ls
  | 0, _, _, _, h, _ => by cases h
  | d + 1, t, ks, ls, h, ho => by
    unfold flat at h
    unfold Program.keyLits
    split at h
    · rename_i hu
      cases h
      obtain ⟨x, rfl⟩ := okAll_one ho
      cases x <;> simp only [okAll, litOk, Bool.and_true, Bool.false_eq_true, Bool.false_and] at ho
      simp [hu, Lit.value]
    · rename_i q hu
      cases h
      obtain ⟨x, rfl⟩ := okAll_one ho
      cases x <;> simp only [okAll, litOk, Bool.and_eq_true, decide_eq_true_eq, Bool.and_true, Bool.false_eq_true, Bool.false_and] at ho
      obtain ⟨rfl, hw⟩ := ho
      simp [hu, Lit.value, hw]
    · rename_i hu
      cases h
      obtain ⟨x, rfl⟩ := okAll_one ho
      cases x <;> simp only [okAll, litOk, decide_eq_true_eq, Bool.and_true, Bool.false_eq_true, Bool.false_and] at ho
      simp [hu, Lit.value, ByteArray.size, ho]
    · rename_i n e hu
      split at h
      · rename_i l hl
        split at h
        · rename_i hb
          cases h
          simp only [Bool.and_eq_true] at hb
          have h1 := Nat.eq_of_beq_eq_true hb.1
          have h2 := Nat.eq_of_beq_eq_true hb.2
          simp only [hu]
          have hlen := okAll_len ho
          rw [if_pos (by rw [List.length_map, hlen, List.length_flatten]; simp [h2, ← h1] )]
          have key : ∀ (m i : Nat) (pre ls : List Lit), pre.length = i * l.length → okAll (List.replicate m l).flatten ls = true →
              ∃ out, (List.range' i m).mapM (fun i => P.keyLits d e ((((pre ++ ls).map Lit.value).drop (i * P.cellsOf e)).take (P.cellsOf e))) = some out ∧ out.flatten = ls := by
            intro m
            induction m with
            | zero =>
              intro i pre ls _ ho
              have : ls = [] := by have := okAll_len ho; simpa using this
              subst this
              exact ⟨[], by simp, rfl⟩
            | succ m ih =>
              intro i pre ls hp ho
              rw [List.replicate_succ, List.flatten_cons] at ho
              obtain ⟨x, y, rfl, hx, hy⟩ := okAll_split ho
              have lx := okAll_len hx
              obtain ⟨out, ho1, ho2⟩ := ih (i + 1) (pre ++ x) y (by rw [List.length_append, hp, lx, Nat.succ_mul]) hy
              refine ⟨x :: out, ?_, by rw [List.flatten_cons, ho2]⟩
              rw [List.range'_succ, List.mapM_cons]
              have e1 : ((((pre ++ (x ++ y)).map Lit.value).drop (i * P.cellsOf e)).take (P.cellsOf e)) = x.map Lit.value := by
                rw [← h1, ← hp, List.map_append, List.drop_left' (by simp), List.map_append, List.take_left' (by simp [lx])]
              rw [e1, keyLits_flat d e l x hl hx]
              rw [List.append_assoc] at ho1
              rw [ho1]; rfl
          obtain ⟨out, h3, h4⟩ := key n 0 [] ls (by simp) ho
          rw [List.range_eq_range']
          simp only [List.nil_append] at h3
          rw [h3]; simp [h4]
        · cases h
      · cases h
    · rename_i fs hu
      split at h
      · rename_i l hl
        split at h
        · rename_i hb
          cases h
          have h1 := Nat.eq_of_beq_eq_true hb
          have hlen := okAll_len ho
          have key : ∀ (fl : List Field) (off : Nat) (k : List Lf) (pre ls : List Lit), flatFs P (flat P d) fl off = some k → pre.length = off → okAll k ls = true →
              (fl.all (·.name != "_") = true) ∧ ∃ out, fl.mapM (fun f => P.keyLits d f.type ((((pre ++ ls).map Lit.value).drop f.offset).take (P.cellsOf f.type))) = some out ∧ out.flatten = ls := by
            intro fl
            induction fl with
            | nil =>
              intro off k pre ls hk _ ho
              cases hk
              have : ls = [] := by have := okAll_len ho; simpa using this
              subst this
              exact ⟨rfl, [], by simp, rfl⟩
            | cons f fl ih =>
              intro off k pre ls hk hp ho
              unfold flatFs at hk
              split at hk
              · rename_i hn
                simp only [Bool.and_eq_true] at hn
                have hoff := Nat.eq_of_beq_eq_true hn.2
                split at hk
                · rename_i kl hkl
                  split at hk
                  · rename_i hb2
                    have h2 := Nat.eq_of_beq_eq_true hb2
                    split at hk
                    · rename_i kr hkr
                      cases hk
                      obtain ⟨x, y, rfl, hx, hy⟩ := okAll_split ho
                      have lx := okAll_len hx
                      obtain ⟨hn2, out, ho1, ho2⟩ := ih (off + kl.length) kr (pre ++ x) y hkr (by rw [List.length_append, hp, lx]) hy
                      refine ⟨by rw [List.all_cons, hn.1, hn2]; rfl, x :: out, ?_, by rw [List.flatten_cons, ho2]⟩
                      rw [List.mapM_cons]
                      have e1 : ((((pre ++ (x ++ y)).map Lit.value).drop f.offset).take (P.cellsOf f.type)) = x.map Lit.value := by
                        rw [hoff, ← h2, ← hp, List.map_append, List.drop_left' (by simp), List.map_append, List.take_left' (by simp [lx])]
                      rw [e1, keyLits_flat d f.type kl x hkl hx]
                      rw [List.append_assoc] at ho1
                      rw [ho1]; rfl
                    · cases hk
                  · cases hk
                · cases hk
              · cases hk
          obtain ⟨hn, out, h3, h4⟩ := key fs.toList 0 ks [] ls hl rfl ho
          simp only [hu]
          rw [if_pos ⟨by rw [List.length_map, hlen, h1], by rw [← Array.all_toList]; exact hn⟩]
          simp only [List.nil_append] at h3
          rw [h3]; simp [h4]
        · cases h
      · cases h
    · cases h

theorem flat_len {P : Program} {d : Nat} {t : TypeId} {ks : List Lf} (ha : isArr P t = true) (h : flat P d t = some ks) : ks.length = P.cellsOf t := by
  cases d with
  | zero => cases h
  | succ d =>
    unfold flat at h
    unfold isArr at ha
    split at h
    · rename_i hu; rw [hu] at ha; cases ha
    · rename_i hu; rw [hu] at ha; cases ha
    · rename_i hu; rw [hu] at ha; cases ha
    · split at h
      · rename_i l hl
        split at h
        · rename_i hb
          cases h
          simp only [Bool.and_eq_true] at hb
          rw [← Nat.eq_of_beq_eq_true hb.2]; simp [List.length_flatten]
        · cases h
      · cases h
    · split at h
      · split at h
        · rename_i hb; cases h; exact Nat.eq_of_beq_eq_true hb
        · cases h
      · cases h
    · cases h

theorem equal_flat {P : Program} {d m : Nat} {t : TypeId} {ks : List Lf} (ha : isArr P t = true) (hf : flat P d t = some ks) (hk : P.keyTypeAt m t = true) (hm : m ≤ 10000) {lx ly : List Lit} (ox : okAll ks lx = true) (oy : okAll ks ly = true) {c : Bool} (hc : c = true ↔ lx = ly) (w : World) :
    (Op.equal t (.agg (lx.map Lit.value).toArray) (.agg (ly.map Lit.value).toArray)).run P w = .ok c w := by
  have hform : ∀ l : List Lit, okAll ks l = true → (Value.agg (l.map Lit.value).toArray).formed P t = true := fun l hl => by
    have := okAll_len hl
    have h2 := flat_len ha hf
    unfold Value.formed
    unfold isArr at ha
    split at ha
    · rename_i hu; rw [hu]; simp [this, h2]
    · rename_i hu; rw [hu]; simp [this, h2]
    · cases ha
  obtain ⟨r, hr, hiff⟩ := run_equalIn_deep (P := P) (10000 - m) m t hk w d d _ _ lx ly (hform lx ox) (hform ly oy) (by simpa [Value.cells] using keyLits_flat d t ks lx hf ox) (by simpa [Value.cells] using keyLits_flat d t ks ly hf oy)
  rw [show 10000 - m + m = 10000 by omega] at hr
  have : r = c := by
    cases r <;> cases c <;> simp_all
  rw [← this]
  exact hr

theorem wf64 {n : Int} (h0 : -9223372036854775808 ≤ n) (h1 : n ≤ 9223372036854775807) : (Lit.int .i64 n).wf = true := by
  simp only [Lit.wf, Bool.and_eq_true, decide_eq_true_eq]
  exact ⟨h0, h1⟩
theorem wfI {n : Int} (h : -9223372036854775808 ≤ n ∧ n ≤ 9223372036854775807) : (Lit.int .i64 n).wf = true := wf64 h.1 h.2
theorem ok64 : ∀ (n : Nat) (l : List Int), l.length = n → (∀ x ∈ l, -9223372036854775808 ≤ x ∧ x ≤ 9223372036854775807) → okAll (List.replicate n (.int .i64)) (l.map (Lit.int .i64)) = true
  | 0, [], _, _ => rfl
  | n + 1, x :: l, h, hr => by
    have h1 := wfI (hr x (by simp))
    have h2 := ok64 n l (by simpa using h) (fun y hy => hr y (by simp [hy]))
    rw [List.replicate_succ, List.map_cons]
    simp only [okAll, litOk, decide_true, Bool.true_and, Bool.and_eq_true]
    exact ⟨h1, h2⟩

section
variable {P : Program} {d m : Nat} {t : TypeId} {ks : List Lf} (ha : isArr P t = true) (hf : flat P d t = some ks) (hk : P.keyTypeAt m t = true) (hm : m ≤ 10000) (hg : P.eqGuardType P.depth t = false)
include ha hf hk hm hg
theorem EqV_eql {lx ly : List Lit} (ox : okAll ks lx = true) (oy : okAll ks ly = true) {cx cy : Array Value} (ex : cx = (lx.map Lit.value).toArray) (ey : cy = (ly.map Lit.value).toArray) {K : Bool → Prop} (c : Bool) (hc : c = true ↔ lx = ly) (k : K c) : EqV P .eql t (.agg cx) (.agg cy) K := by
  subst ex; subst ey
  refine ⟨_, k, fun xo yo w => ?_⟩
  have h := equal_flat ha hf hk hm ox oy hc w
  simp [eqGuard, binOp, h, hg]
theorem EqV_neq {lx ly : List Lit} (ox : okAll ks lx = true) (oy : okAll ks ly = true) {cx cy : Array Value} (ex : cx = (lx.map Lit.value).toArray) (ey : cy = (ly.map Lit.value).toArray) {K : Bool → Prop} (c : Bool) (hc : c = true ↔ lx = ly) (k : K (!c)) : EqV P .neq t (.agg cx) (.agg cy) K := by
  subst ex; subst ey
  refine ⟨_, k, fun xo yo w => ?_⟩
  have h := equal_flat ha hf hk hm ox oy hc w
  simp [eqGuard, binOp, h, hg]
end

/-- What a type of i64 cells alone must be. -/
def plain64 (P : Program) (t : TypeId) (n : Nat) : Prop := isArr P t = true ∧ flat P 9 t = some (List.replicate n (.int .i64)) ∧ P.keyTypeAt 9 t = true ∧ P.eqGuardType P.depth t = false

theorem map64 (l : List Int) : (l.map (Lit.int .i64)).map Lit.value = l.map (Value.int .i64) := by rw [List.map_map]; rfl
theorem inj64 {a b : List Int} : a.map (Lit.int .i64) = b.map (Lit.int .i64) ↔ a = b := by
  constructor
  · intro h
    have : ∀ {a b : List Int}, a.map (Lit.int .i64) = b.map (Lit.int .i64) → a = b := by
      intro a
      induction a with
      | nil => intro b h; cases b with
        | nil => rfl
        | cons _ _ => simp at h
      | cons x a ih => intro b h; cases b with
        | nil => simp at h
        | cons y b => simp at h; rw [h.1, ih (by simpa using h.2)]
    exact this h
  · intro h; rw [h]

theorem EqI_eql {P : Program} {t : TypeId} {n : Nat} (hp : plain64 P t n) {a b : List Int} (la : a.length = n) (lb : b.length = n) (ra : ∀ x ∈ a, -9223372036854775808 ≤ x ∧ x ≤ 9223372036854775807) (rb : ∀ x ∈ b, -9223372036854775808 ≤ x ∧ x ≤ 9223372036854775807)
    {cx cy : Array Value} (ex : cx = (a.map (Value.int .i64)).toArray) (ey : cy = (b.map (Value.int .i64)).toArray) {K : Bool → Prop} (k : K (decide (a = b))) : EqV P .eql t (.agg cx) (.agg cy) K :=
  EqV_eql hp.1 hp.2.1 hp.2.2.1 (by omega) hp.2.2.2 (ok64 n a la ra) (ok64 n b lb rb) (by rw [map64]; exact ex) (by rw [map64]; exact ey) _ (by rw [inj64]; simp) k
theorem EqI_neq {P : Program} {t : TypeId} {n : Nat} (hp : plain64 P t n) {a b : List Int} (la : a.length = n) (lb : b.length = n) (ra : ∀ x ∈ a, -9223372036854775808 ≤ x ∧ x ≤ 9223372036854775807) (rb : ∀ x ∈ b, -9223372036854775808 ≤ x ∧ x ≤ 9223372036854775807)
    {cx cy : Array Value} (ex : cx = (a.map (Value.int .i64)).toArray) (ey : cy = (b.map (Value.int .i64)).toArray) {K : Bool → Prop} (k : K (!decide (a = b))) : EqV P .neq t (.agg cx) (.agg cy) K :=
  EqV_neq hp.1 hp.2.1 hp.2.2.1 (by omega) hp.2.2.2 (ok64 n a la ra) (ok64 n b lb rb) (by rw [map64]; exact ex) (by rw [map64]; exact ey) _ (by rw [inj64]; simp) k

end Go.Hw

end
section
/-! Wsuper -/
/- Formulas of functions, printed by wip/tools/hwp.py. -/
set_option maxRecDepth 100000
set_option linter.unusedVariables false
namespace Go.Proofs.YtlgpappgnndgiaaGreatDoor.W
open Go Go.Hw

theorem mixWsuper : Tryz.prog.follows .mixedOrders = true := by kernel_rfl
-- super.Read
def W_super_Read (p1 : Option Addr) (H : Hp) (K : Value → Hp → Prop) : Prop :=
  Nw H (.obj (.cells #[.int .i64 (0 : Int), .int .i64 (0 : Int), .int .i64 (0 : Int), .int .i64 (0 : Int)] 277)) fun b1 H1 => HCalls Tryz.prog 71 #[.pointer p1, .int .i64 (0 : Int)] H1 fun v1 H2 => DTup v1 fun l1 => DCons l1 fun v2 l2 => DSl v2 fun A1 n1 m1 => DCons l2 fun v3 l3 => DI .i64 v3 fun x1 => DNil l3 (BIf (x1 != (0 : Int)) (StA H2 (⟨b1, 0, none⟩ : Addr) #[.int .i64 (0 : Int), .int .i64 (0 : Int), .int .i64 (0 : Int), .int .i64 (0 : Int)] 4 fun H3 => LdA H3 (⟨b1, 0, none⟩ : Addr) 4 fun l9 => K (.tuple #[.agg l9.toArray, .int .i64 x1]) H3) (HCalls Tryz.prog 218 #[.slice A1 n1 m1] H2 fun v4 H4 => DTup v4 fun l4 => DCons l4 fun v5 l5 => DA v5 fun y1 => DCons l5 fun v6 l6 => DI .i64 v6 fun x2 => DNil l6 (Nw H4 (.obj (.cells #[.int .i64 (0 : Int), .int .i64 (0 : Int), .int .i64 (0 : Int), .int .i64 (0 : Int)] 277)) fun b2 H5 => StA H5 (⟨b2, 0, none⟩ : Addr) y1 4 fun H6 => BIf (x2 != (0 : Int)) (StA H6 (⟨b1, 0, none⟩ : Addr) #[.int .i64 (0 : Int), .int .i64 (0 : Int), .int .i64 (0 : Int), .int .i64 (0 : Int)] 4 fun H7 => LdA H7 (⟨b1, 0, none⟩ : Addr) 4 fun l10 => K (.tuple #[.agg l10.toArray, .int .i64 x2]) H7) (LdA H6 (⟨b2, 0, none⟩ : Addr) 4 fun l7 => HCalls Tryz.prog 219 #[.pointer p1, .agg l7.toArray] H6 fun v7 H8 => DB v7 fun c1 => BIf (!c1) (StA H8 (⟨b1, 0, none⟩ : Addr) #[.int .i64 (0 : Int), .int .i64 (0 : Int), .int .i64 (0 : Int), .int .i64 (0 : Int)] 4 fun H9 => LdA H9 (⟨b1, 0, none⟩ : Addr) 4 fun l11 => K (.tuple #[.agg l11.toArray, .int .i64 (1 : Int)]) H9) (LdA H8 (⟨b2, 0, none⟩ : Addr) 4 fun l8 => StA H8 (⟨b1, 0, none⟩ : Addr) l8.toArray 4 fun H10 => LdA H10 (⟨b1, 0, none⟩ : Addr) 4 fun l12 => K (.tuple #[.agg l12.toArray, .int .i64 (0 : Int)]) H10)))))
def W_super_Read.Λ (_ : Value → Hp → Prop) : Cuts := Cuts.none (fun _ => none)
theorem W_super_Read.ok (p1 : Option Addr) (H : Hp) (K : Value → Hp → Prop) (h : W_super_Read p1 H K) : HCalls Tryz.prog 177 #[.pointer p1] H K :=
  hcalls Tryz.func177 rfl (Nat.le_of_ble_eq_true rfl) (hw_safe (Λ := Cuts.none (fun _ => none)) mixWsuper _ _ _ _ _ (Eq.mp (by kernel_rfl) h) (obs_none _ _ _ _ _))

-- super.Layout
def W_super_Layout (x1 : Int) (x2 : Int) (x3 : Int) (x4 : Int) (H : Hp) (K : Value → Hp → Prop) : Prop :=
  Nw H (.obj (.cells #[.int .i64 x1, .int .i64 x2, .int .i64 x3, .int .i64 x4] 277)) fun b1 H1 => Nw H1 (.obj (.cells #[.int .i64 (0 : Int), .int .i64 (0 : Int), .int .i64 (0 : Int), .int .i64 (0 : Int), .int .i64 (0 : Int), .int .i64 (0 : Int), .int .i64 (0 : Int), .int .i64 (0 : Int), .int .i64 (0 : Int), .int .i64 (0 : Int), .int .i64 (0 : Int), .int .i64 (0 : Int), .int .i64 (0 : Int), .int .i64 (0 : Int), .int .i64 (0 : Int), .int .i64 (0 : Int), .int .i64 (0 : Int)] 33)) fun b2 H2 => LdA H2 (⟨b1, 0, none⟩ : Addr) 4 fun l1 => HCalls Tryz.prog 220 #[.agg l1.toArray] H2 fun v1 H3 => DB v1 fun c1 => BIf (!c1) (StA H3 (⟨b2, 0, none⟩ : Addr) #[.int .i64 (0 : Int), .int .i64 (0 : Int), .int .i64 (0 : Int), .int .i64 (0 : Int), .int .i64 (0 : Int), .int .i64 (0 : Int), .int .i64 (0 : Int), .int .i64 (0 : Int), .int .i64 (0 : Int), .int .i64 (0 : Int), .int .i64 (0 : Int), .int .i64 (0 : Int), .int .i64 (0 : Int), .int .i64 (0 : Int), .int .i64 (0 : Int), .int .i64 (0 : Int), .int .i64 (0 : Int)] 17 fun H4 => LdA H4 (⟨b2, 0, none⟩ : Addr) 17 fun l5 => K (.tuple #[.agg l5.toArray, .int .i64 (1 : Int)]) H4) (Ld H3 ((⟨b1, 0, none⟩ : Addr).add 0) fun v2 => DI .i64 v2 fun x5 => Ld H3 ((⟨b1, 0, none⟩ : Addr).add 1) fun v3 => DI .i64 v3 fun x6 => Ld H3 ((⟨b1, 0, none⟩ : Addr).add 2) fun v4 => DI .i64 v4 fun x7 => HCalls Tryz.prog 52 #[.int .i64 x5, .int .i64 x6, .int .i64 x7] H3 fun v5 H5 => DTup v5 fun l2 => DCons l2 fun v6 l3 => DA v6 fun y1 => DCons l3 fun v7 l4 => DI .i64 v7 fun x8 => DNil l4 (StA H5 (⟨b2, 0, none⟩ : Addr) y1 17 fun H6 => LdA H6 (⟨b2, 0, none⟩ : Addr) 17 fun l6 => K (.tuple #[.agg l6.toArray, .int .i64 x8]) H6))
def W_super_Layout.Λ (_ : Value → Hp → Prop) : Cuts := Cuts.none (fun _ => none)
theorem W_super_Layout.ok (x1 : Int) (x2 : Int) (x3 : Int) (x4 : Int) (H : Hp) (K : Value → Hp → Prop) (h : W_super_Layout x1 x2 x3 x4 H K) : HCalls Tryz.prog 178 #[.agg #[.int .i64 x1, .int .i64 x2, .int .i64 x3, .int .i64 x4]] H K :=
  hcalls Tryz.func178 rfl (Nat.le_of_ble_eq_true rfl) (hw_safe (Λ := Cuts.none (fun _ => none)) mixWsuper _ _ _ _ _ (Eq.mp (by kernel_rfl) h) (obs_none _ _ _ _ _))

-- super.Take
def W_super_Take.l5 (K : Value → Hp → Prop) : Nat → Option Addr → Nat → Nat → Addr → Addr → Int → Hp → Prop
  | 0, _, _, _, _, _, _, _ => False
  | k + 1, A2, n2, m2, a1, a2, x1, H =>
    let R5 := W_super_Take.l5 K k
    BIf (decide (x1 < (4 : Int))) (HCalls Tryz.prog 144 #[.slice A2 n2 m2, .int .i64 x1] H fun v2 H5 => DTup v2 fun l1 => DCons l1 fun v3 l2 => DI .u64 v3 fun x2 => DCons l2 fun v4 l3 => DI .i64 v4 fun x3 => DNil l3 (ixI x1 4 (St H5 ((a2.add (x1.toNat * 1)).add 0) (.int .u64 x2) fun H6 => R5 A2 n2 m2 a1 a2 (IntKind.i64.wrap (x1 + (1 : Int))) H6))) (ixI (0 : Int) 4 (Ld H (a2.add ((0 : Int).toNat * 1)) fun v5 => DI .u64 v5 fun x4 => (0 ≤ (16 : Int) ∧ ixI (0 : Int) 4 (Ld H (a2.add ((0 : Int).toNat * 1)) fun v6 => DI .u64 v6 fun x5 => (0 ≤ (bAnd .u64 x5 (63 : Int)) ∧ ixI (1 : Int) 4 (Ld H (a2.add ((1 : Int).toNat * 1)) fun v7 => DI .u64 v7 fun x6 => ixI (2 : Int) 4 (Ld H (a2.add ((2 : Int).toNat * 1)) fun v8 => DI .u64 v8 fun x7 => Nw H (.obj (.cells #[.int .i64 (0 : Int), .int .i64 (0 : Int), .int .i64 (0 : Int), .int .i64 (0 : Int)] 277)) fun b3 H7 => StA H7 (⟨b3, 0, none⟩ : Addr) #[.int .i64 (IntKind.i64.wrap (bAnd .u64 (shrI .u64 x4 (16 : Int)) (65535 : Int))), .int .i64 (IntKind.i64.wrap x6), .int .i64 (shlI .i64 (1 : Int) (bAnd .u64 x5 (63 : Int))), .int .i64 (IntKind.i64.wrap x7)] 4 fun H8 => ixI (0 : Int) 4 (Ld H8 (a2.add ((0 : Int).toNat * 1)) fun v9 => DI .u64 v9 fun x8 => (0 ≤ (32 : Int) ∧ BIf ((shrI .u64 x8 (32 : Int)) != (1094861123 : Int)) (StA H8 a1 #[.int .i64 (0 : Int), .int .i64 (0 : Int), .int .i64 (0 : Int), .int .i64 (0 : Int)] 4 fun H10 => LdA H10 a1 4 fun l8 => K (.tuple #[.agg l8.toArray, .int .i64 (10 : Int)]) H10) (HCalls Tryz.prog 247 #[.slice A2 n2 m2] H8 fun v10 H9 => DB v10 fun c2 => BIf (!c2) (StA H9 a1 #[.int .i64 (0 : Int), .int .i64 (0 : Int), .int .i64 (0 : Int), .int .i64 (0 : Int)] 4 fun H11 => LdA H11 a1 4 fun l9 => K (.tuple #[.agg l9.toArray, .int .i64 (10 : Int)]) H11) (ixI (3 : Int) 4 (Ld H9 (a2.add ((3 : Int).toNat * 1)) fun v11 => DI .u64 v11 fun x9 => slB 4 4 none (some (3 : Int)) fun n3 n4 => QCall Tryz.prog 161 #[.slice (slA (some a2) 4 n3 1) (n4 - n3) (4 - n3)] H9 fun v12 => DI .u32 v12 fun x10 => BIf (x9 != (IntKind.u64.wrap x10)) (StA H9 a1 #[.int .i64 (0 : Int), .int .i64 (0 : Int), .int .i64 (0 : Int), .int .i64 (0 : Int)] 4 fun H12 => LdA H12 a1 4 fun l10 => K (.tuple #[.agg l10.toArray, .int .i64 (9 : Int)]) H12) (LdA H9 (⟨b3, 0, none⟩ : Addr) 4 fun l4 => QCall Tryz.prog 220 #[.agg l4.toArray] H9 fun v13 => DB v13 fun c3 => BIf (!c3) (StA H9 a1 #[.int .i64 (0 : Int), .int .i64 (0 : Int), .int .i64 (0 : Int), .int .i64 (0 : Int)] 4 fun H13 => LdA H13 a1 4 fun l11 => K (.tuple #[.agg l11.toArray, .int .i64 (1 : Int)]) H13) (LdA H9 (⟨b3, 0, none⟩ : Addr) 4 fun l5 => QCall Tryz.prog 248 #[.agg l5.toArray] H9 fun v14 => DI .u64 v14 fun x11 => ixI (0 : Int) 4 (Ld H9 (a2.add ((0 : Int).toNat * 1)) fun v15 => DI .u64 v15 fun x12 => BIf (x11 != x12) (StA H9 a1 #[.int .i64 (0 : Int), .int .i64 (0 : Int), .int .i64 (0 : Int), .int .i64 (0 : Int)] 4 fun H14 => LdA H14 a1 4 fun l12 => K (.tuple #[.agg l12.toArray, .int .i64 (1 : Int)]) H14) (Ld H9 ((⟨b3, 0, none⟩ : Addr).add 2) fun v16 => DI .i64 v16 fun x13 => BIf (x13 != ((n2 : Nat) : Int)) (StA H9 a1 #[.int .i64 (0 : Int), .int .i64 (0 : Int), .int .i64 (0 : Int), .int .i64 (0 : Int)] 4 fun H15 => LdA H15 a1 4 fun l13 => K (.tuple #[.agg l13.toArray, .int .i64 (1 : Int)]) H15) (LdA H9 (⟨b3, 0, none⟩ : Addr) 4 fun l6 => StA H9 a1 l6.toArray 4 fun H16 => LdA H16 a1 4 fun l14 => K (.tuple #[.agg l14.toArray, .int .i64 (0 : Int)]) H16)))))))))))))))))
def W_super_Take (A1 : Option Addr) (n1 : Nat) (m1 : Nat) (H : Hp) (K : Value → Hp → Prop) : Prop :=
  Nw H (.obj (.cells #[.int .i64 (0 : Int), .int .i64 (0 : Int), .int .i64 (0 : Int), .int .i64 (0 : Int)] 277)) fun b1 H1 => HCalls Tryz.prog 246 #[.slice A1 n1 m1] H1 fun v1 H2 => DB v1 fun c1 => BIf (!c1) (StA H2 (⟨b1, 0, none⟩ : Addr) #[.int .i64 (0 : Int), .int .i64 (0 : Int), .int .i64 (0 : Int), .int .i64 (0 : Int)] 4 fun H3 => LdA H3 (⟨b1, 0, none⟩ : Addr) 4 fun l7 => K (.tuple #[.agg l7.toArray, .int .i64 (15 : Int)]) H3) (Nw H2 (.obj (.cells #[.int .u64 (0 : Int), .int .u64 (0 : Int), .int .u64 (0 : Int), .int .u64 (0 : Int)] 348)) fun b2 H4 => (∃ k, W_super_Take.l5 K k A1 n1 m1 (⟨b1, 0, none⟩ : Addr) (⟨b2, 0, none⟩ : Addr) (0 : Int) H4))
def W_super_Take.l5.L (K : Value → Hp → Prop) (k : Nat) : Mid := fun E D H =>
  DG (E.get? 0) fun w0 => DSl w0 fun A2 n2 m2 => DG (E.get? 2) fun w2 => DP w2 fun pw2 => NN pw2 fun a1 => DG (E.get? 4) fun w4 => DP w4 fun pw4 => NN pw4 fun a2 => DG (E.get? 13) fun w13 => DI .i64 w13 fun x1 => DNilD D (W_super_Take.l5 K k A2 n2 m2 a1 a2 x1 H)
def W_super_Take.Λ5 (_ : Value → Hp → Prop) (_R5 : Option Addr → Nat → Nat → Addr → Addr → Int → Hp → Prop) : Cuts := Cuts.none (fun _ => none)
def W_super_Take.Λ (K : Value → Hp → Prop) : Cuts := ⟨fun i => none, fun i => match Nat.beq i 5 with | true => some (fun E D H => ∃ k, W_super_Take.l5.L K k E D H) | false => none, (fun _ => none)⟩
theorem W_super_Take.ok (A1 : Option Addr) (n1 : Nat) (m1 : Nat) (H : Hp) (K : Value → Hp → Prop) (h : W_super_Take A1 n1 m1 H K) : HCalls Tryz.prog 218 #[.slice A1 n1 m1] H K :=
  hcalls Tryz.func218 rfl (Nat.le_of_ble_eq_true rfl) (hw_safe (Λ := (W_super_Take.Λ K)) mixWsuper _ _ _ _ _ (Eq.mp (by kernel_rfl) h) (obs_seq obs_region rfl (obs_seq (obs_seq obs_region rfl (obs_cond (obs_seq obs_region rfl obs_ret) obs_skip)) rfl (obs_seq obs_region rfl (obs_seq (obs_seq obs_region rfl (obs_block (obs_loop rfl (fun E D H h => by
      refine Safe.loop' (W_super_Take.l5.L K) (fun E D H h => ?_) (fun k E D H h => ?_) E D H h
      · obtain ⟨w0, e0, g1⟩ := DG.out h; obtain ⟨A2, n2, m2, rfl, g2⟩ := DSl.out g1; obtain ⟨w2, e2, g3⟩ := DG.out g2; obtain ⟨pw2, rfl, g4⟩ := DP.out g3; obtain ⟨a1, rfl, g5⟩ := NN.out g4; obtain ⟨w4, e4, g6⟩ := DG.out g5; obtain ⟨pw4, rfl, g7⟩ := DP.out g6; obtain ⟨a2, rfl, g8⟩ := NN.out g7; obtain ⟨w13, e13, g9⟩ := DG.out g8; obtain ⟨x1, rfl, g10⟩ := DI.out g9; obtain ⟨rfl, h'⟩ := DNilD.out g10; exact h'
      · obtain ⟨w0, e0, g1⟩ := DG.out h
        obtain ⟨A2, n2, m2, rfl, g2⟩ := DSl.out g1
        obtain ⟨w2, e2, g3⟩ := DG.out g2
        obtain ⟨pw2, rfl, g4⟩ := DP.out g3
        obtain ⟨a1, rfl, g5⟩ := NN.out g4
        obtain ⟨w4, e4, g6⟩ := DG.out g5
        obtain ⟨pw4, rfl, g7⟩ := DP.out g6
        obtain ⟨a2, rfl, g8⟩ := NN.out g7
        obtain ⟨w13, e13, g9⟩ := DG.out g8
        obtain ⟨x1, rfl, g10⟩ := DI.out g9
        obtain ⟨rfl, h'⟩ := DNilD.out g10
        exact (hw_safe (Λ := (W_super_Take.Λ5 K (W_super_Take.l5 K k))) mixWsuper _ _ [(0, .slice A2 n2 m2), (2, .pointer (some a1)), (4, .pointer (some a2)), (13, .int .i64 x1)] [] H (Eq.mp (by kernel_rfl) h') (obs_seq obs_region rfl (obs_seq (obs_cond obs_skip obs_exit) rfl (obs_seq (obs_block (obs_seq obs_region rfl (obs_seq obs_region rfl obs_region))) rfl obs_region)))).weaken (EnvLe.cons e0 (EnvLe.cons e2 (EnvLe.cons e4 (EnvLe.cons e13 (EnvLe.nil _))))) (Hp.le_refl _))))) rfl (obs_seq obs_region rfl (obs_seq (obs_block (obs_seq obs_region rfl (obs_cond (obs_seq obs_region rfl obs_ret) (obs_seq obs_region rfl (obs_cond (obs_seq obs_region rfl obs_ret) (obs_seq obs_region rfl (obs_cond (obs_seq obs_region rfl obs_ret) obs_skip))))))) rfl (obs_seq obs_region rfl obs_ret))))))))

-- super.of
def W_super_of (p1 : Option Addr) (x1 : Int) (x2 : Int) (x3 : Int) (x4 : Int) (H : Hp) (K : Value → Hp → Prop) : Prop :=
  Nw H (.obj (.cells #[.int .i64 x1, .int .i64 x2, .int .i64 x3, .int .i64 x4] 277)) fun b1 H1 => Ld H1 ((⟨b1, 0, none⟩ : Addr).add 1) fun v1 => DI .i64 v1 fun x5 => NN p1 fun a1 => QCall Tryz.prog 53 #[.pointer (some (a1.add 0))] H1 fun v2 => DI .i64 v2 fun x6 => BIf (x5 == x6) (Ld H1 ((⟨b1, 0, none⟩ : Addr).add 2) fun v3 => DI .i64 v3 fun x7 => NN p1 fun a2 => QCall Tryz.prog 78 #[.pointer (some (a2.add 0))] H1 fun v4 => DI .i64 v4 fun x8 => K (.bool (x7 == x8)) H1) (K (.bool false) H1)
def W_super_of.Λ (_ : Value → Hp → Prop) : Cuts := Cuts.none (fun _ => none)
theorem W_super_of.ok (p1 : Option Addr) (x1 : Int) (x2 : Int) (x3 : Int) (x4 : Int) (H : Hp) (K : Value → Hp → Prop) (h : W_super_of p1 x1 x2 x3 x4 H K) : HCalls Tryz.prog 219 #[.pointer p1, .agg #[.int .i64 x1, .int .i64 x2, .int .i64 x3, .int .i64 x4]] H K :=
  hcalls Tryz.func219 rfl (Nat.le_of_ble_eq_true rfl) (hw_safe (Λ := Cuts.none (fun _ => none)) mixWsuper _ _ _ _ _ (Eq.mp (by kernel_rfl) h) (obs_none _ _ _ _ _))

-- super.Good
def W_super_Good (x1 : Int) (x2 : Int) (x3 : Int) (x4 : Int) (H : Hp) (K : Value → Hp → Prop) : Prop :=
  Nw H (.obj (.cells #[.int .i64 x1, .int .i64 x2, .int .i64 x3, .int .i64 x4] 277)) fun b1 H1 => Ld H1 ((⟨b1, 0, none⟩ : Addr).add 0) fun v1 => DI .i64 v1 fun x5 => Ld H1 ((⟨b1, 0, none⟩ : Addr).add 1) fun v2 => DI .i64 v2 fun x6 => Ld H1 ((⟨b1, 0, none⟩ : Addr).add 2) fun v3 => DI .i64 v3 fun x7 => HCalls Tryz.prog 52 #[.int .i64 x5, .int .i64 x6, .int .i64 x7] H1 fun v4 H2 => DTup v4 fun l1 => DCons l1 fun v5 l2 => DA v5 fun y1 => DCons l2 fun v6 l3 => DI .i64 v6 fun x8 => DNil l3 (Nw H2 (.obj (.cells #[.int .i64 (0 : Int), .int .i64 (0 : Int), .int .i64 (0 : Int), .int .i64 (0 : Int), .int .i64 (0 : Int), .int .i64 (0 : Int), .int .i64 (0 : Int), .int .i64 (0 : Int), .int .i64 (0 : Int), .int .i64 (0 : Int), .int .i64 (0 : Int), .int .i64 (0 : Int), .int .i64 (0 : Int), .int .i64 (0 : Int), .int .i64 (0 : Int), .int .i64 (0 : Int), .int .i64 (0 : Int)] 33)) fun b2 H3 => StA H3 (⟨b2, 0, none⟩ : Addr) y1 17 fun H4 => BIf (x8 == (0 : Int)) (Ld H4 ((⟨b1, 0, none⟩ : Addr).add 3) fun v7 => DI .i64 v7 fun x9 => BIf (decide (x9 ≥ (1 : Int))) (Ld H4 ((⟨b1, 0, none⟩ : Addr).add 3) fun v8 => DI .i64 v8 fun x10 => K (.bool (decide (x10 ≤ (16777216 : Int)))) H4) (K (.bool false) H4)) (K (.bool false) H4))
def W_super_Good.Λ (_ : Value → Hp → Prop) : Cuts := Cuts.none (fun _ => none)
theorem W_super_Good.ok (x1 : Int) (x2 : Int) (x3 : Int) (x4 : Int) (H : Hp) (K : Value → Hp → Prop) (h : W_super_Good x1 x2 x3 x4 H K) : HCalls Tryz.prog 220 #[.agg #[.int .i64 x1, .int .i64 x2, .int .i64 x3, .int .i64 x4]] H K :=
  hcalls Tryz.func220 rfl (Nat.le_of_ble_eq_true rfl) (hw_safe (Λ := Cuts.none (fun _ => none)) mixWsuper _ _ _ _ _ (Eq.mp (by kernel_rfl) h) (obs_none _ _ _ _ _))

-- super.sector
def W_super_sector (A1 : Option Addr) (n1 : Nat) (m1 : Nat) (H : Hp) (K : Value → Hp → Prop) : Prop :=
  HCalls Tryz.prog 50 #[.int .i64 (0 : Int), .int .i64 ((n1 : Nat) : Int)] H fun v1 H1 => DTup v1 fun l1 => DCons l1 fun v2 l2 => DI .i64 v2 fun x1 => DCons l2 fun v3 l3 => DI .i64 v3 fun x2 => DNil l3 (K (.bool (x2 == (0 : Int))) H1)
def W_super_sector.Λ (_ : Value → Hp → Prop) : Cuts := Cuts.none (fun _ => none)
theorem W_super_sector.ok (A1 : Option Addr) (n1 : Nat) (m1 : Nat) (H : Hp) (K : Value → Hp → Prop) (h : W_super_sector A1 n1 m1 H K) : HCalls Tryz.prog 246 #[.slice A1 n1 m1] H K :=
  hcalls Tryz.func246 rfl (Nat.le_of_ble_eq_true rfl) (hw_safe (Λ := Cuts.none (fun _ => none)) mixWsuper _ _ _ _ _ (Eq.mp (by kernel_rfl) h) (obs_none _ _ _ _ _))

-- super.behind
def W_super_behind.l2 (K : Value → Hp → Prop) : Nat → Option Addr → Nat → Nat → Int → Int → Hp → Prop
  | 0, _, _, _, _, _, _ => False
  | k + 1, A2, n4, m2, x1, x2, H =>
    let R2 := W_super_behind.l2 K k
    BIf (decide (x2 < x1)) (ixI x2 n4 (NN A2 fun a1 => Ld H (a1.add (x2.toNat * 1)) fun v1 => DI .u8 v1 fun x3 => BIf (x3 != (0 : Int)) (K (.bool false) H) (R2 A2 n4 m2 x1 (IntKind.i64.wrap (x2 + (1 : Int))) H))) (K (.bool true) H)
def W_super_behind (A1 : Option Addr) (n1 : Nat) (m1 : Nat) (H : Hp) (K : Value → Hp → Prop) : Prop :=
  slB n1 m1 (some (32 : Int)) none fun n2 n3 => (∃ k, W_super_behind.l2 K k (slA A1 m1 n2 1) (n3 - n2) (m1 - n2) ((n3 - n2 : Nat) : Int) (0 : Int) H)
def W_super_behind.l2.L (K : Value → Hp → Prop) (k : Nat) : Mid := fun E D H =>
  DG (E.get? 6) fun w6 => DSl w6 fun A2 n4 m2 => DG (E.get? 7) fun w7 => DI .i64 w7 fun x1 => DG (E.get? 8) fun w8 => DI .i64 w8 fun x2 => DNilD D (W_super_behind.l2 K k A2 n4 m2 x1 x2 H)
def W_super_behind.Λ2 (_ : Value → Hp → Prop) (_R2 : Option Addr → Nat → Nat → Int → Int → Hp → Prop) : Cuts := Cuts.none (fun _ => none)
def W_super_behind.Λ (K : Value → Hp → Prop) : Cuts := ⟨fun i => none, fun i => match Nat.beq i 2 with | true => some (fun E D H => ∃ k, W_super_behind.l2.L K k E D H) | false => none, (fun _ => none)⟩
theorem W_super_behind.ok (A1 : Option Addr) (n1 : Nat) (m1 : Nat) (H : Hp) (K : Value → Hp → Prop) (h : W_super_behind A1 n1 m1 H K) : HCalls Tryz.prog 247 #[.slice A1 n1 m1] H K :=
  hcalls Tryz.func247 rfl (Nat.le_of_ble_eq_true rfl) (hw_safe (Λ := (W_super_behind.Λ K)) mixWsuper _ _ _ _ _ (Eq.mp (by kernel_rfl) h) (obs_seq obs_region rfl (obs_seq (obs_seq obs_region rfl (obs_block (obs_loop rfl (fun E D H h => by
      refine Safe.loop' (W_super_behind.l2.L K) (fun E D H h => ?_) (fun k E D H h => ?_) E D H h
      · obtain ⟨w6, e6, g1⟩ := DG.out h; obtain ⟨A2, n4, m2, rfl, g2⟩ := DSl.out g1; obtain ⟨w7, e7, g3⟩ := DG.out g2; obtain ⟨x1, rfl, g4⟩ := DI.out g3; obtain ⟨w8, e8, g5⟩ := DG.out g4; obtain ⟨x2, rfl, g6⟩ := DI.out g5; obtain ⟨rfl, h'⟩ := DNilD.out g6; exact h'
      · obtain ⟨w6, e6, g1⟩ := DG.out h
        obtain ⟨A2, n4, m2, rfl, g2⟩ := DSl.out g1
        obtain ⟨w7, e7, g3⟩ := DG.out g2
        obtain ⟨x1, rfl, g4⟩ := DI.out g3
        obtain ⟨w8, e8, g5⟩ := DG.out g4
        obtain ⟨x2, rfl, g6⟩ := DI.out g5
        obtain ⟨rfl, h'⟩ := DNilD.out g6
        exact (hw_safe (Λ := (W_super_behind.Λ2 K (W_super_behind.l2 K k))) mixWsuper _ _ [(6, .slice A2 n4 m2), (7, .int .i64 x1), (8, .int .i64 x2)] [] H (Eq.mp (by kernel_rfl) h') (obs_seq obs_region rfl (obs_seq (obs_cond obs_skip obs_exit) rfl (obs_seq (obs_block (obs_seq obs_region rfl (obs_seq obs_region rfl (obs_cond (obs_seq obs_region rfl obs_ret) obs_skip)))) rfl obs_region)))).weaken (EnvLe.cons e6 (EnvLe.cons e7 (EnvLe.cons e8 (EnvLe.nil _)))) (Hp.le_refl _))))) rfl (obs_seq obs_region rfl obs_ret))))

-- super.first
def W_super_first (x1 : Int) (x2 : Int) (x3 : Int) (x4 : Int) (H : Hp) (K : Value → Hp → Prop) : Prop :=
  Nw H (.obj (.cells #[.int .i64 x1, .int .i64 x2, .int .i64 x3, .int .i64 x4] 277)) fun b1 H1 => Ld H1 ((⟨b1, 0, none⟩ : Addr).add 0) fun v1 => DI .i64 v1 fun x5 => (0 ≤ (16 : Int) ∧ Ld H1 ((⟨b1, 0, none⟩ : Addr).add 2) fun v2 => DI .i64 v2 fun x6 => QCall Tryz.prog 126 #[.int .u64 (IntKind.u64.wrap x6)] H1 fun v3 => DI .i64 v3 fun x7 => K (.int .u64 (bOr .u64 (bOr .u64 (4702392716946833408 : Int) (shlI .u64 (IntKind.u64.wrap x5) (16 : Int))) (IntKind.u64.wrap (IntKind.i64.wrap (x7 - (1 : Int)))))) H1)
def W_super_first.Λ (_ : Value → Hp → Prop) : Cuts := Cuts.none (fun _ => none)
theorem W_super_first.ok (x1 : Int) (x2 : Int) (x3 : Int) (x4 : Int) (H : Hp) (K : Value → Hp → Prop) (h : W_super_first x1 x2 x3 x4 H K) : HCalls Tryz.prog 248 #[.agg #[.int .i64 x1, .int .i64 x2, .int .i64 x3, .int .i64 x4]] H K :=
  hcalls Tryz.func248 rfl (Nat.le_of_ble_eq_true rfl) (hw_safe (Λ := Cuts.none (fun _ => none)) mixWsuper _ _ _ _ _ (Eq.mp (by kernel_rfl) h) (obs_none _ _ _ _ _))

end Go.Proofs.YtlgpappgnndgiaaGreatDoor.W

end
section
/-! Wabacistref18 -/
/- Formulas of functions, printed by wip/tools/hwp.py. -/
set_option maxRecDepth 100000
set_option linter.unusedVariables false
namespace Go.Proofs.YtlgpappgnndgiaaGreatDoor.W
open Go Go.Hw

theorem mixWabacistref18 : Tryz.prog.follows .mixedOrders = true := by kernel_rfl
-- abacistref18.Log
def W_abacistref18_Log.l3 (K : Value → Hp → Prop) : Nat → Int → Int → Int → Hp → Prop
  | 0, _, _, _, _ => False
  | k + 1, x2, x3, x4, H =>
    let R3 := W_abacistref18_Log.l3 K k
    BIf (decide (x4 ≤ (12 : Int))) (BIf (x2 == x3) (K (.int .i64 x4) H) (R3 x2 (IntKind.i64.wrap ((2 : Int) * x3)) (IntKind.i64.wrap (x4 + (1 : Int))) H)) (K (.int .i64 (-1 : Int)) H)
def W_abacistref18_Log (x1 : Int) (H : Hp) (K : Value → Hp → Prop) : Prop :=
  (∃ k, W_abacistref18_Log.l3 K k x1 (32 : Int) (5 : Int) H)
def W_abacistref18_Log.l3.L (K : Value → Hp → Prop) (k : Nat) : Mid := fun E D H =>
  DG (E.get? 0) fun w0 => DI .i64 w0 fun x2 => DG (E.get? 3) fun w3 => DI .i64 w3 fun x3 => DG (E.get? 4) fun w4 => DI .i64 w4 fun x4 => DNilD D (W_abacistref18_Log.l3 K k x2 x3 x4 H)
def W_abacistref18_Log.Λ3 (_ : Value → Hp → Prop) (_R3 : Int → Int → Int → Hp → Prop) : Cuts := Cuts.none (fun _ => none)
def W_abacistref18_Log.Λ (K : Value → Hp → Prop) : Cuts := ⟨fun i => none, fun i => match Nat.beq i 3 with | true => some (fun E D H => ∃ k, W_abacistref18_Log.l3.L K k E D H) | false => none, (fun _ => none)⟩
theorem W_abacistref18_Log.ok (x1 : Int) (H : Hp) (K : Value → Hp → Prop) (h : W_abacistref18_Log x1 H K) : HCalls Tryz.prog 131 #[.int .i64 x1] H K :=
  hcalls Tryz.func131 rfl (Nat.le_of_ble_eq_true rfl) (hw_safe (Λ := (W_abacistref18_Log.Λ K)) mixWabacistref18 _ _ _ _ _ (Eq.mp (by kernel_rfl) h) (obs_seq obs_region rfl (obs_seq obs_region rfl (obs_seq (obs_seq obs_region rfl (obs_block (obs_loop rfl (fun E D H h => by
      refine Safe.loop' (W_abacistref18_Log.l3.L K) (fun E D H h => ?_) (fun k E D H h => ?_) E D H h
      · obtain ⟨w0, e0, g1⟩ := DG.out h; obtain ⟨x2, rfl, g2⟩ := DI.out g1; obtain ⟨w3, e3, g3⟩ := DG.out g2; obtain ⟨x3, rfl, g4⟩ := DI.out g3; obtain ⟨w4, e4, g5⟩ := DG.out g4; obtain ⟨x4, rfl, g6⟩ := DI.out g5; obtain ⟨rfl, h'⟩ := DNilD.out g6; exact h'
      · obtain ⟨w0, e0, g1⟩ := DG.out h
        obtain ⟨x2, rfl, g2⟩ := DI.out g1
        obtain ⟨w3, e3, g3⟩ := DG.out g2
        obtain ⟨x3, rfl, g4⟩ := DI.out g3
        obtain ⟨w4, e4, g5⟩ := DG.out g4
        obtain ⟨x4, rfl, g6⟩ := DI.out g5
        obtain ⟨rfl, h'⟩ := DNilD.out g6
        exact (hw_safe (Λ := (W_abacistref18_Log.Λ3 K (W_abacistref18_Log.l3 K k))) mixWabacistref18 _ _ [(0, .int .i64 x2), (3, .int .i64 x3), (4, .int .i64 x4)] [] H (Eq.mp (by kernel_rfl) h') (obs_seq (obs_seq obs_region rfl (obs_cond obs_skip obs_exit)) rfl (obs_seq (obs_block (obs_seq (obs_seq obs_region rfl (obs_cond (obs_seq obs_region rfl obs_ret) obs_skip)) rfl obs_region)) rfl obs_region))).weaken (EnvLe.cons e0 (EnvLe.cons e3 (EnvLe.cons e4 (EnvLe.nil _)))) (Hp.le_refl _))))) rfl (obs_seq obs_region rfl obs_ret)))))

end Go.Proofs.YtlgpappgnndgiaaGreatDoor.W

end
section
/-! SupA -/
/- super, and the document's superblock: what their functions answer. -/
set_option maxRecDepth 100000
set_option linter.unusedSimpArgs false
set_option linter.unusedVariables false
set_option linter.unnecessarySimpa false
set_option linter.unusedSectionVars false
namespace Go.Proofs.YtlgpappgnndgiaaGreatDoor.Sup
open Go Go.Hw Go.Form Go.Proofs.YtlgpappgnndgiaaGreatDoor.W Go.Proofs.YtlgpappgnndgiaaGreatDoor.Lay

def supV (k sec s ar : Int) : Array Value := #[.int .i64 k, .int .i64 sec, .int .i64 s, .int .i64 ar]
def goodB (k sec s ar : Int) : Bool := decide (0 ≤ k ∧ k ≤ 32 ∧ 0 < perN s ∧ (needN k.toNat (perN s) : Int) ≤ sec ∧ 1 ≤ ar ∧ ar ≤ 16777216)

theorem layV_size (k p : Nat) : (layV k p).size = 17 := rfl
theorem OfV_size (k sec s : Int) : (OfV k sec s).1.size = 17 := by
  unfold OfV
  split
  · split <;> rfl
  · rfl
theorem OfV_one (k sec s : Int) : (OfV k sec s).1.toList.all (fun v => v.oneCell') = true := by
  unfold OfV
  split
  · split <;> rfl
  · rfl

theorem Good_ok (k sec s ar : Int) (H : Hp) : HCalls Tryz.prog 220 #[.agg (supV k sec s ar)] H (RetE (.bool (goodB k sec s ar)) H) := by
  apply HCalls.ret
  apply W_super_Good.ok
  unfold W_super_Good
  simp only [NN_some, Addr.add_lit', Addr.add_zero, Nat.zero_add, Nat.add_zero]
  refine (Sep.start H).nw fun b1 H hs => ?_
  first | refine hs.ld 1 rfl rfl ?_ | refine hs.ld 2 rfl rfl ?_ | refine hs.ld 3 rfl rfl ?_ | refine hs.ld 4 rfl rfl ?_ | refine hs.ld 5 rfl rfl ?_ | refine hs.ld 6 rfl rfl ?_ | refine hs.ld 7 rfl rfl ?_ | refine hs.ld 8 rfl rfl ?_
  try simp only [DI_int', DB_bool, DS_string, DP_pointer, DSl_slice, DM_map, DA_agg, DTup_tuple, DCons_cons, DNil_nil, NN_some, BIf_true, BIf_false, BIf_same, List.toList_toArray, Bool.not_true, Bool.not_false]
  first | refine hs.ld 1 rfl rfl ?_ | refine hs.ld 2 rfl rfl ?_ | refine hs.ld 3 rfl rfl ?_ | refine hs.ld 4 rfl rfl ?_ | refine hs.ld 5 rfl rfl ?_ | refine hs.ld 6 rfl rfl ?_ | refine hs.ld 7 rfl rfl ?_ | refine hs.ld 8 rfl rfl ?_
  try simp only [DI_int', DB_bool, DS_string, DP_pointer, DSl_slice, DM_map, DA_agg, DTup_tuple, DCons_cons, DNil_nil, NN_some, BIf_true, BIf_false, BIf_same, List.toList_toArray, Bool.not_true, Bool.not_false]
  first | refine hs.ld 1 rfl rfl ?_ | refine hs.ld 2 rfl rfl ?_ | refine hs.ld 3 rfl rfl ?_ | refine hs.ld 4 rfl rfl ?_ | refine hs.ld 5 rfl rfl ?_ | refine hs.ld 6 rfl rfl ?_ | refine hs.ld 7 rfl rfl ?_ | refine hs.ld 8 rfl rfl ?_
  try simp only [DI_int', DB_bool, DS_string, DP_pointer, DSl_slice, DM_map, DA_agg, DTup_tuple, DCons_cons, DNil_nil, NN_some, BIf_true, BIf_false, BIf_same, List.toList_toArray, Bool.not_true, Bool.not_false]
  refine HCalls.use (Of_ok k sec s H) ?_
  try simp only [DI_int', DB_bool, DS_string, DP_pointer, DSl_slice, DM_map, DA_agg, DTup_tuple, DCons_cons, DNil_nil, NN_some, BIf_true, BIf_false, BIf_same, List.toList_toArray, Bool.not_true, Bool.not_false]
  refine hs.nw fun b2 H hs => ?_
  refine hs.stw 2 rfl rfl (OfV_size _ _ _) (OfV_one _ _ _) fun H hs => ?_
  have hr := hs.fin 0 rfl (.bool (goodB k sec s ar))
  by_cases h : 0 ≤ k ∧ k ≤ 32 ∧ 0 < perN s ∧ (needN k.toNat (perN s) : Int) ≤ sec
  · have : (OfV k sec s).2 = 0 := by unfold OfV; rw [if_pos (by omega), if_neg (by omega)]
    rw [this]
    refine BIf_pos rfl ?_
    first | refine hs.ld 1 rfl rfl ?_ | refine hs.ld 2 rfl rfl ?_ | refine hs.ld 3 rfl rfl ?_ | refine hs.ld 4 rfl rfl ?_ | refine hs.ld 5 rfl rfl ?_ | refine hs.ld 6 rfl rfl ?_ | refine hs.ld 7 rfl rfl ?_ | refine hs.ld 8 rfl rfl ?_
    try simp only [DI_int', DB_bool, DS_string, DP_pointer, DSl_slice, DM_map, DA_agg, DTup_tuple, DCons_cons, DNil_nil, NN_some, BIf_true, BIf_false, BIf_same, List.toList_toArray, Bool.not_true, Bool.not_false]
    by_cases h2 : ar ≥ 1
    · refine BIf_dpos h2 ?_
      first | refine hs.ld 1 rfl rfl ?_ | refine hs.ld 2 rfl rfl ?_ | refine hs.ld 3 rfl rfl ?_ | refine hs.ld 4 rfl rfl ?_ | refine hs.ld 5 rfl rfl ?_ | refine hs.ld 6 rfl rfl ?_ | refine hs.ld 7 rfl rfl ?_ | refine hs.ld 8 rfl rfl ?_
      try simp only [DI_int', DB_bool, DS_string, DP_pointer, DSl_slice, DM_map, DA_agg, DTup_tuple, DCons_cons, DNil_nil, NN_some, BIf_true, BIf_false, BIf_same, List.toList_toArray, Bool.not_true, Bool.not_false]
      have : decide (ar ≤ 16777216) = goodB k sec s ar := by unfold goodB; simp only [decide_eq_decide]; omega
      rw [this]
      exact hr
    · refine BIf_dneg h2 ?_
      have : false = goodB k sec s ar := by unfold goodB; symm; simp only [decide_eq_false_iff_not]; omega
      rw [this]; exact hr
  · refine BIf_neg ?_ ?_
    · have : (OfV k sec s).2 = 1 ∨ (OfV k sec s).2 = 7 := by
        unfold OfV
        split
        · rw [if_pos (by omega)]; exact .inr rfl
        · exact .inl rfl
      rcases this with e | e <;> rw [e] <;> rfl
    · have : false = goodB k sec s ar := by unfold goodB; symm; simp only [decide_eq_false_iff_not]; omega
      rw [this]; exact hr

/-- The exponent of a sector's size. -/
def logN (s : Int) : Int := if s = 32 then 5 else if s = 64 then 6 else if s = 128 then 7 else if s = 256 then 8 else if s = 512 then 9 else if s = 1024 then 10 else if s = 2048 then 11 else if s = 4096 then 12 else -1

theorem log_loop (s : Int) (H : Hp) (K : Value → Hp → Prop) (hK : K (.int .i64 (logN s)) H) : W_abacistref18_Log.l3 K 9 s 32 5 H := by
  unfold logN at hK
  unfold W_abacistref18_Log.l3
  refine BIf_dpos (by decide) ?_
  split at hK
  · rename_i h
    subst h
    exact BIf_pos rfl hK
  rename_i h
  refine BIf_neg (beq_false_of_ne h) ?_
  unfold W_abacistref18_Log.l3
  refine BIf_dpos (by decide) ?_
  split at hK
  · rename_i h
    subst h
    exact BIf_pos rfl hK
  rename_i h
  refine BIf_neg (beq_false_of_ne h) ?_
  unfold W_abacistref18_Log.l3
  refine BIf_dpos (by decide) ?_
  split at hK
  · rename_i h
    subst h
    exact BIf_pos rfl hK
  rename_i h
  refine BIf_neg (beq_false_of_ne h) ?_
  unfold W_abacistref18_Log.l3
  refine BIf_dpos (by decide) ?_
  split at hK
  · rename_i h
    subst h
    exact BIf_pos rfl hK
  rename_i h
  refine BIf_neg (beq_false_of_ne h) ?_
  unfold W_abacistref18_Log.l3
  refine BIf_dpos (by decide) ?_
  split at hK
  · rename_i h
    subst h
    exact BIf_pos rfl hK
  rename_i h
  refine BIf_neg (beq_false_of_ne h) ?_
  unfold W_abacistref18_Log.l3
  refine BIf_dpos (by decide) ?_
  split at hK
  · rename_i h
    subst h
    exact BIf_pos rfl hK
  rename_i h
  refine BIf_neg (beq_false_of_ne h) ?_
  unfold W_abacistref18_Log.l3
  refine BIf_dpos (by decide) ?_
  split at hK
  · rename_i h
    subst h
    exact BIf_pos rfl hK
  rename_i h
  refine BIf_neg (beq_false_of_ne h) ?_
  unfold W_abacistref18_Log.l3
  refine BIf_dpos (by decide) ?_
  split at hK
  · rename_i h
    subst h
    exact BIf_pos rfl hK
  rename_i h
  refine BIf_neg (beq_false_of_ne h) ?_
  unfold W_abacistref18_Log.l3
  exact BIf_dneg (by decide) hK
theorem Log_ok (s : Int) (H : Hp) : HCalls Tryz.prog 131 #[.int .i64 s] H (RetE (.int .i64 (logN s)) H) := by
  apply W_abacistref18_Log.ok
  exact ⟨9, log_loop s H _ (RetE.mk _ _)⟩

theorem log_per (s : Int) : (0 < perN s ∧ s = 8 * perN s ∧ 5 ≤ logN s ∧ logN s ≤ 12 ∧ perN s = 2 ^ (logN s - 3).toNat) ∨ (perN s = 0 ∧ logN s = -1) := by
  unfold perN logN
  repeat' split
  all_goals first | (subst_vars; left; decide) | (right; exact ⟨rfl, rfl⟩)

end Go.Proofs.YtlgpappgnndgiaaGreatDoor.Sup

end
section
/-! Wlbits -/
/- Formulas of functions, printed by wip/tools/hwp.py. -/
set_option maxRecDepth 100000
set_option linter.unusedVariables false
namespace Go.Proofs.YtlgpappgnndgiaaGreatDoor.W
open Go Go.Hw

theorem mixWlbits : Tryz.prog.follows .mixedOrders = true := by kernel_rfl
-- math/bits.Len
def W_math_bits_Len (x1 : Int) (H : Hp) (K : Value → Hp → Prop) : Prop :=
  HCalls Tryz.prog 173 #[.int .u64 x1] H fun v1 H1 => DI .i64 v1 fun x2 => K (.int .i64 x2) H1
def W_math_bits_Len.Λ (_ : Value → Hp → Prop) : Cuts := Cuts.none (fun _ => none)
theorem W_math_bits_Len.ok (x1 : Int) (H : Hp) (K : Value → Hp → Prop) (h : W_math_bits_Len x1 H K) : HCalls Tryz.prog 126 #[.int .u64 x1] H K :=
  hcalls Tryz.func126 rfl (Nat.le_of_ble_eq_true rfl) (hw_safe (Λ := Cuts.none (fun _ => none)) mixWlbits _ _ _ _ _ (Eq.mp (by kernel_rfl) h) (obs_none _ _ _ _ _))

-- math/bits.TrailingZeros
def W_math_bits_TrailingZeros (x1 : Int) (H : Hp) (K : Value → Hp → Prop) : Prop :=
  HCalls Tryz.prog 191 #[.int .u64 x1] H fun v1 H1 => DI .i64 v1 fun x2 => K (.int .i64 x2) H1
def W_math_bits_TrailingZeros.Λ (_ : Value → Hp → Prop) : Cuts := Cuts.none (fun _ => none)
theorem W_math_bits_TrailingZeros.ok (x1 : Int) (H : Hp) (K : Value → Hp → Prop) (h : W_math_bits_TrailingZeros x1 H K) : HCalls Tryz.prog 153 #[.int .u64 x1] H K :=
  hcalls Tryz.func153 rfl (Nat.le_of_ble_eq_true rfl) (hw_safe (Λ := Cuts.none (fun _ => none)) mixWlbits _ _ _ _ _ (Eq.mp (by kernel_rfl) h) (obs_none _ _ _ _ _))

-- math/bits.Len32
def W_math_bits_Len32.j4 (K : Value → Hp → Prop) (x2 : Int) (x3 : Int) (H : Hp) : Prop :=
  BIf (decide (x2 ≥ (256 : Int))) ((0 ≤ (8 : Int) ∧ (0 ≤ (IntKind.u8.wrap (shrI .u32 x2 (8 : Int))) ∧ ixB ((⟨#[0, 1, 2, 2, 3, 3, 3, 3, 4, 4, 4, 4, 4, 4, 4, 4, 5, 5, 5, 5, 5, 5, 5, 5, 5, 5, 5, 5, 5, 5, 5, 5, 6, 6, 6, 6, 6, 6, 6, 6, 6, 6, 6, 6, 6, 6, 6, 6, 6, 6, 6, 6, 6, 6, 6, 6, 6, 6, 6, 6, 6, 6, 6, 6, 7, 7, 7, 7, 7, 7, 7, 7, 7, 7, 7, 7, 7, 7, 7, 7, 7, 7, 7, 7, 7, 7, 7, 7, 7, 7, 7, 7, 7, 7, 7, 7, 7, 7, 7, 7, 7, 7, 7, 7, 7, 7, 7, 7, 7, 7, 7, 7, 7, 7, 7, 7, 7, 7, 7, 7, 7, 7, 7, 7, 7, 7, 7, 7, 8, 8, 8, 8, 8, 8, 8, 8, 8, 8, 8, 8, 8, 8, 8, 8, 8, 8, 8, 8, 8, 8, 8, 8, 8, 8, 8, 8, 8, 8, 8, 8, 8, 8, 8, 8, 8, 8, 8, 8, 8, 8, 8, 8, 8, 8, 8, 8, 8, 8, 8, 8, 8, 8, 8, 8, 8, 8, 8, 8, 8, 8, 8, 8, 8, 8, 8, 8, 8, 8, 8, 8, 8, 8, 8, 8, 8, 8, 8, 8, 8, 8, 8, 8, 8, 8, 8, 8, 8, 8, 8, 8, 8, 8, 8, 8, 8, 8, 8, 8, 8, 8, 8, 8, 8, 8, 8, 8, 8, 8, 8, 8, 8, 8, 8, 8, 8, 8, 8, 8, 8, 8, 8, 8, 8, 8, 8, 8]⟩) : ByteArray) (IntKind.u8.wrap (shrI .u32 x2 (8 : Int))).toNat fun x4 => K (.int .i64 (IntKind.i64.wrap ((IntKind.i64.wrap (x3 + (8 : Int))) + (IntKind.i64.wrap x4)))) H))) ((0 ≤ (IntKind.u8.wrap x2) ∧ ixB ((⟨#[0, 1, 2, 2, 3, 3, 3, 3, 4, 4, 4, 4, 4, 4, 4, 4, 5, 5, 5, 5, 5, 5, 5, 5, 5, 5, 5, 5, 5, 5, 5, 5, 6, 6, 6, 6, 6, 6, 6, 6, 6, 6, 6, 6, 6, 6, 6, 6, 6, 6, 6, 6, 6, 6, 6, 6, 6, 6, 6, 6, 6, 6, 6, 6, 7, 7, 7, 7, 7, 7, 7, 7, 7, 7, 7, 7, 7, 7, 7, 7, 7, 7, 7, 7, 7, 7, 7, 7, 7, 7, 7, 7, 7, 7, 7, 7, 7, 7, 7, 7, 7, 7, 7, 7, 7, 7, 7, 7, 7, 7, 7, 7, 7, 7, 7, 7, 7, 7, 7, 7, 7, 7, 7, 7, 7, 7, 7, 7, 8, 8, 8, 8, 8, 8, 8, 8, 8, 8, 8, 8, 8, 8, 8, 8, 8, 8, 8, 8, 8, 8, 8, 8, 8, 8, 8, 8, 8, 8, 8, 8, 8, 8, 8, 8, 8, 8, 8, 8, 8, 8, 8, 8, 8, 8, 8, 8, 8, 8, 8, 8, 8, 8, 8, 8, 8, 8, 8, 8, 8, 8, 8, 8, 8, 8, 8, 8, 8, 8, 8, 8, 8, 8, 8, 8, 8, 8, 8, 8, 8, 8, 8, 8, 8, 8, 8, 8, 8, 8, 8, 8, 8, 8, 8, 8, 8, 8, 8, 8, 8, 8, 8, 8, 8, 8, 8, 8, 8, 8, 8, 8, 8, 8, 8, 8, 8, 8, 8, 8, 8, 8, 8, 8, 8, 8, 8, 8]⟩) : ByteArray) (IntKind.u8.wrap x2).toNat fun x5 => K (.int .i64 (IntKind.i64.wrap (x3 + (IntKind.i64.wrap x5)))) H))
def W_math_bits_Len32 (x1 : Int) (H : Hp) (K : Value → Hp → Prop) : Prop :=
  BIf (decide (x1 ≥ (65536 : Int))) ((0 ≤ (16 : Int) ∧ W_math_bits_Len32.j4 K (shrI .u32 x1 (16 : Int)) (16 : Int) H)) (W_math_bits_Len32.j4 K x1 (0 : Int) H)
def W_math_bits_Len32.Λ (K : Value → Hp → Prop) : Cuts := ⟨fun i => match Nat.beq i 4 with | true => some (fun E D H => DG (E.get? 0) fun w0 => DI .u32 w0 fun x2 => DG (E.get? 2) fun w2 => DI .i64 w2 fun x3 => DNilD D (W_math_bits_Len32.j4 K x2 x3 H)) | false => none, fun i => none, (fun _ => none)⟩
theorem W_math_bits_Len32.ok (x1 : Int) (H : Hp) (K : Value → Hp → Prop) (h : W_math_bits_Len32 x1 H K) : HCalls Tryz.prog 172 #[.int .u32 x1] H K :=
  hcalls Tryz.func172 rfl (Nat.le_of_ble_eq_true rfl) (hw_safe (Λ := (W_math_bits_Len32.Λ K)) mixWlbits _ _ _ _ _ (Eq.mp (by kernel_rfl) h) (obs_seq obs_region rfl (obs_seqc (obs_seq obs_region rfl (obs_cond (obs_seq obs_region rfl obs_region) obs_skip)) rfl (fun E D H h => by
      obtain ⟨w0, e0, g1⟩ := DG.out h
      obtain ⟨x2, rfl, g2⟩ := DI.out g1
      obtain ⟨w2, e2, g3⟩ := DG.out g2
      obtain ⟨x3, rfl, g4⟩ := DI.out g3
      obtain ⟨rfl, h'⟩ := DNilD.out g4
      exact (hw_safe (Λ := (W_math_bits_Len32.Λ K)) mixWlbits _ _ [(0, .int .u32 x2), (2, .int .i64 x3)] [] H (Eq.mp (by kernel_rfl) h') (obs_seq (obs_seq obs_region rfl (obs_cond (obs_seq obs_region rfl obs_region) obs_skip)) rfl (obs_seq obs_region rfl obs_ret))).weaken (EnvLe.cons e0 (EnvLe.cons e2 (EnvLe.nil _))) (Hp.le_refl _)))))

-- math/bits.Len64
def W_math_bits_Len64.j7 (K : Value → Hp → Prop) (x4 : Int) (x5 : Int) (H : Hp) : Prop :=
  BIf (decide (x4 ≥ (256 : Int))) ((0 ≤ (8 : Int) ∧ (0 ≤ (IntKind.u8.wrap (shrI .u64 x4 (8 : Int))) ∧ ixB ((⟨#[0, 1, 2, 2, 3, 3, 3, 3, 4, 4, 4, 4, 4, 4, 4, 4, 5, 5, 5, 5, 5, 5, 5, 5, 5, 5, 5, 5, 5, 5, 5, 5, 6, 6, 6, 6, 6, 6, 6, 6, 6, 6, 6, 6, 6, 6, 6, 6, 6, 6, 6, 6, 6, 6, 6, 6, 6, 6, 6, 6, 6, 6, 6, 6, 7, 7, 7, 7, 7, 7, 7, 7, 7, 7, 7, 7, 7, 7, 7, 7, 7, 7, 7, 7, 7, 7, 7, 7, 7, 7, 7, 7, 7, 7, 7, 7, 7, 7, 7, 7, 7, 7, 7, 7, 7, 7, 7, 7, 7, 7, 7, 7, 7, 7, 7, 7, 7, 7, 7, 7, 7, 7, 7, 7, 7, 7, 7, 7, 8, 8, 8, 8, 8, 8, 8, 8, 8, 8, 8, 8, 8, 8, 8, 8, 8, 8, 8, 8, 8, 8, 8, 8, 8, 8, 8, 8, 8, 8, 8, 8, 8, 8, 8, 8, 8, 8, 8, 8, 8, 8, 8, 8, 8, 8, 8, 8, 8, 8, 8, 8, 8, 8, 8, 8, 8, 8, 8, 8, 8, 8, 8, 8, 8, 8, 8, 8, 8, 8, 8, 8, 8, 8, 8, 8, 8, 8, 8, 8, 8, 8, 8, 8, 8, 8, 8, 8, 8, 8, 8, 8, 8, 8, 8, 8, 8, 8, 8, 8, 8, 8, 8, 8, 8, 8, 8, 8, 8, 8, 8, 8, 8, 8, 8, 8, 8, 8, 8, 8, 8, 8, 8, 8, 8, 8, 8, 8]⟩) : ByteArray) (IntKind.u8.wrap (shrI .u64 x4 (8 : Int))).toNat fun x6 => K (.int .i64 (IntKind.i64.wrap ((IntKind.i64.wrap (x5 + (8 : Int))) + (IntKind.i64.wrap x6)))) H))) ((0 ≤ (IntKind.u8.wrap x4) ∧ ixB ((⟨#[0, 1, 2, 2, 3, 3, 3, 3, 4, 4, 4, 4, 4, 4, 4, 4, 5, 5, 5, 5, 5, 5, 5, 5, 5, 5, 5, 5, 5, 5, 5, 5, 6, 6, 6, 6, 6, 6, 6, 6, 6, 6, 6, 6, 6, 6, 6, 6, 6, 6, 6, 6, 6, 6, 6, 6, 6, 6, 6, 6, 6, 6, 6, 6, 7, 7, 7, 7, 7, 7, 7, 7, 7, 7, 7, 7, 7, 7, 7, 7, 7, 7, 7, 7, 7, 7, 7, 7, 7, 7, 7, 7, 7, 7, 7, 7, 7, 7, 7, 7, 7, 7, 7, 7, 7, 7, 7, 7, 7, 7, 7, 7, 7, 7, 7, 7, 7, 7, 7, 7, 7, 7, 7, 7, 7, 7, 7, 7, 8, 8, 8, 8, 8, 8, 8, 8, 8, 8, 8, 8, 8, 8, 8, 8, 8, 8, 8, 8, 8, 8, 8, 8, 8, 8, 8, 8, 8, 8, 8, 8, 8, 8, 8, 8, 8, 8, 8, 8, 8, 8, 8, 8, 8, 8, 8, 8, 8, 8, 8, 8, 8, 8, 8, 8, 8, 8, 8, 8, 8, 8, 8, 8, 8, 8, 8, 8, 8, 8, 8, 8, 8, 8, 8, 8, 8, 8, 8, 8, 8, 8, 8, 8, 8, 8, 8, 8, 8, 8, 8, 8, 8, 8, 8, 8, 8, 8, 8, 8, 8, 8, 8, 8, 8, 8, 8, 8, 8, 8, 8, 8, 8, 8, 8, 8, 8, 8, 8, 8, 8, 8, 8, 8, 8, 8, 8, 8]⟩) : ByteArray) (IntKind.u8.wrap x4).toNat fun x7 => K (.int .i64 (IntKind.i64.wrap (x5 + (IntKind.i64.wrap x7)))) H))
def W_math_bits_Len64.j4 (K : Value → Hp → Prop) (x2 : Int) (x3 : Int) (H : Hp) : Prop :=
  BIf (decide (x2 ≥ (65536 : Int))) ((0 ≤ (16 : Int) ∧ W_math_bits_Len64.j7 K (shrI .u64 x2 (16 : Int)) (IntKind.i64.wrap (x3 + (16 : Int))) H)) (W_math_bits_Len64.j7 K x2 x3 H)
def W_math_bits_Len64 (x1 : Int) (H : Hp) (K : Value → Hp → Prop) : Prop :=
  BIf (decide (x1 ≥ (4294967296 : Int))) ((0 ≤ (32 : Int) ∧ W_math_bits_Len64.j4 K (shrI .u64 x1 (32 : Int)) (32 : Int) H)) (W_math_bits_Len64.j4 K x1 (0 : Int) H)
def W_math_bits_Len64.Λ (K : Value → Hp → Prop) : Cuts := ⟨fun i => match Nat.beq i 7 with | true => some (fun E D H => DG (E.get? 0) fun w0 => DI .u64 w0 fun x4 => DG (E.get? 2) fun w2 => DI .i64 w2 fun x5 => DNilD D (W_math_bits_Len64.j7 K x4 x5 H)) | false => match Nat.beq i 4 with | true => some (fun E D H => DG (E.get? 0) fun w0 => DI .u64 w0 fun x2 => DG (E.get? 2) fun w2 => DI .i64 w2 fun x3 => DNilD D (W_math_bits_Len64.j4 K x2 x3 H)) | false => none, fun i => none, (fun _ => none)⟩
theorem W_math_bits_Len64.ok (x1 : Int) (H : Hp) (K : Value → Hp → Prop) (h : W_math_bits_Len64 x1 H K) : HCalls Tryz.prog 173 #[.int .u64 x1] H K :=
  hcalls Tryz.func173 rfl (Nat.le_of_ble_eq_true rfl) (hw_safe (Λ := (W_math_bits_Len64.Λ K)) mixWlbits _ _ _ _ _ (Eq.mp (by kernel_rfl) h) (obs_seq obs_region rfl (obs_seqc (obs_seq obs_region rfl (obs_cond (obs_seq obs_region rfl obs_region) obs_skip)) rfl (fun E D H h => by
      obtain ⟨w0, e0, g1⟩ := DG.out h
      obtain ⟨x2, rfl, g2⟩ := DI.out g1
      obtain ⟨w2, e2, g3⟩ := DG.out g2
      obtain ⟨x3, rfl, g4⟩ := DI.out g3
      obtain ⟨rfl, h'⟩ := DNilD.out g4
      exact (hw_safe (Λ := (W_math_bits_Len64.Λ K)) mixWlbits _ _ [(0, .int .u64 x2), (2, .int .i64 x3)] [] H (Eq.mp (by kernel_rfl) h') (obs_seqc (obs_seq obs_region rfl (obs_cond (obs_seq obs_region rfl obs_region) obs_skip)) rfl (fun E D H h => by
          obtain ⟨w0, e0, g1⟩ := DG.out h
          obtain ⟨x4, rfl, g2⟩ := DI.out g1
          obtain ⟨w2, e2, g3⟩ := DG.out g2
          obtain ⟨x5, rfl, g4⟩ := DI.out g3
          obtain ⟨rfl, h'⟩ := DNilD.out g4
          exact (hw_safe (Λ := (W_math_bits_Len64.Λ K)) mixWlbits _ _ [(0, .int .u64 x4), (2, .int .i64 x5)] [] H (Eq.mp (by kernel_rfl) h') (obs_seq (obs_seq obs_region rfl (obs_cond (obs_seq obs_region rfl obs_region) obs_skip)) rfl (obs_seq obs_region rfl obs_ret))).weaken (EnvLe.cons e0 (EnvLe.cons e2 (EnvLe.nil _))) (Hp.le_refl _)))).weaken (EnvLe.cons e0 (EnvLe.cons e2 (EnvLe.nil _))) (Hp.le_refl _)))))

-- math/bits.TrailingZeros32
def W_math_bits_TrailingZeros32 (x1 : Int) (H : Hp) (K : Value → Hp → Prop) : Prop :=
  BIf (x1 == (0 : Int)) (K (.int .i64 (32 : Int)) H) ((0 ≤ (27 : Int) ∧ ixI (shrI .u32 (IntKind.u32.wrap ((bAnd .u32 x1 (IntKind.u32.wrap (0 - x1))) * (125613361 : Int))) (27 : Int)) 32 (Ld H ((⟨1, 0, none⟩ : Addr).add ((shrI .u32 (IntKind.u32.wrap ((bAnd .u32 x1 (IntKind.u32.wrap (0 - x1))) * (125613361 : Int))) (27 : Int)).toNat * 1)) fun v1 => DI .u8 v1 fun x2 => K (.int .i64 (IntKind.i64.wrap x2)) H)))
def W_math_bits_TrailingZeros32.Λ (_ : Value → Hp → Prop) : Cuts := Cuts.none (fun _ => none)
theorem W_math_bits_TrailingZeros32.ok (x1 : Int) (H : Hp) (K : Value → Hp → Prop) (h : W_math_bits_TrailingZeros32 x1 H K) : HCalls Tryz.prog 190 #[.int .u32 x1] H K :=
  hcalls Tryz.func190 rfl (Nat.le_of_ble_eq_true rfl) (hw_safe (Λ := Cuts.none (fun _ => none)) mixWlbits _ _ _ _ _ (Eq.mp (by kernel_rfl) h) (obs_none _ _ _ _ _))

-- math/bits.TrailingZeros64
def W_math_bits_TrailingZeros64 (x1 : Int) (H : Hp) (K : Value → Hp → Prop) : Prop :=
  BIf (x1 == (0 : Int)) (K (.int .i64 (64 : Int)) H) ((0 ≤ (58 : Int) ∧ ixI (shrI .u64 (IntKind.u64.wrap ((bAnd .u64 x1 (IntKind.u64.wrap (0 - x1))) * (285870213051353865 : Int))) (58 : Int)) 64 (Ld H ((⟨2, 0, none⟩ : Addr).add ((shrI .u64 (IntKind.u64.wrap ((bAnd .u64 x1 (IntKind.u64.wrap (0 - x1))) * (285870213051353865 : Int))) (58 : Int)).toNat * 1)) fun v1 => DI .u8 v1 fun x2 => K (.int .i64 (IntKind.i64.wrap x2)) H)))
def W_math_bits_TrailingZeros64.Λ (_ : Value → Hp → Prop) : Cuts := Cuts.none (fun _ => none)
theorem W_math_bits_TrailingZeros64.ok (x1 : Int) (H : Hp) (K : Value → Hp → Prop) (h : W_math_bits_TrailingZeros64 x1 H K) : HCalls Tryz.prog 191 #[.int .u64 x1] H K :=
  hcalls Tryz.func191 rfl (Nat.le_of_ble_eq_true rfl) (hw_safe (Λ := Cuts.none (fun _ => none)) mixWlbits _ _ _ _ _ (Eq.mp (by kernel_rfl) h) (obs_none _ _ _ _ _))

-- math/bits.Mul64
def W_math_bits_Mul64 (x1 : Int) (x2 : Int) (H : Hp) (K : Value → Hp → Prop) : Prop :=
  (0 ≤ (32 : Int) ∧ (0 ≤ (32 : Int) ∧ (0 ≤ (32 : Int) ∧ (0 ≤ (32 : Int) ∧ (0 ≤ (32 : Int) ∧ K (.tuple #[.int .u64 (IntKind.u64.wrap ((IntKind.u64.wrap ((IntKind.u64.wrap ((shrI .u64 x1 (32 : Int)) * (shrI .u64 x2 (32 : Int)))) + (shrI .u64 (IntKind.u64.wrap ((IntKind.u64.wrap ((shrI .u64 x1 (32 : Int)) * (bAnd .u64 x2 (4294967295 : Int)))) + (shrI .u64 (IntKind.u64.wrap ((bAnd .u64 x1 (4294967295 : Int)) * (bAnd .u64 x2 (4294967295 : Int)))) (32 : Int)))) (32 : Int)))) + (shrI .u64 (IntKind.u64.wrap ((bAnd .u64 (IntKind.u64.wrap ((IntKind.u64.wrap ((shrI .u64 x1 (32 : Int)) * (bAnd .u64 x2 (4294967295 : Int)))) + (shrI .u64 (IntKind.u64.wrap ((bAnd .u64 x1 (4294967295 : Int)) * (bAnd .u64 x2 (4294967295 : Int)))) (32 : Int)))) (4294967295 : Int)) + (IntKind.u64.wrap ((bAnd .u64 x1 (4294967295 : Int)) * (shrI .u64 x2 (32 : Int)))))) (32 : Int)))), .int .u64 (IntKind.u64.wrap (x1 * x2))]) H)))))
def W_math_bits_Mul64.Λ (_ : Value → Hp → Prop) : Cuts := Cuts.none (fun _ => none)
theorem W_math_bits_Mul64.ok (x1 : Int) (x2 : Int) (H : Hp) (K : Value → Hp → Prop) (h : W_math_bits_Mul64 x1 x2 H K) : HCalls Tryz.prog 289 #[.int .u64 x1, .int .u64 x2] H K :=
  hcalls Tryz.func289 rfl (Nat.le_of_ble_eq_true rfl) (hw_safe (Λ := Cuts.none (fun _ => none)) mixWlbits _ _ _ _ _ (Eq.mp (by kernel_rfl) h) (obs_none _ _ _ _ _))

-- math/bits.Reverse64
def W_math_bits_Reverse64 (x1 : Int) (H : Hp) (K : Value → Hp → Prop) : Prop :=
  (0 ≤ (1 : Int) ∧ (0 ≤ (1 : Int) ∧ (0 ≤ (2 : Int) ∧ (0 ≤ (2 : Int) ∧ (0 ≤ (4 : Int) ∧ (0 ≤ (4 : Int) ∧ HCalls Tryz.prog 294 #[.int .u64 (bOr .u64 (bAnd .u64 (shrI .u64 (bOr .u64 (bAnd .u64 (shrI .u64 (bOr .u64 (bAnd .u64 (shrI .u64 x1 (1 : Int)) (6148914691236517205 : Int)) (shlI .u64 (bAnd .u64 x1 (6148914691236517205 : Int)) (1 : Int))) (2 : Int)) (3689348814741910323 : Int)) (shlI .u64 (bAnd .u64 (bOr .u64 (bAnd .u64 (shrI .u64 x1 (1 : Int)) (6148914691236517205 : Int)) (shlI .u64 (bAnd .u64 x1 (6148914691236517205 : Int)) (1 : Int))) (3689348814741910323 : Int)) (2 : Int))) (4 : Int)) (1085102592571150095 : Int)) (shlI .u64 (bAnd .u64 (bOr .u64 (bAnd .u64 (shrI .u64 (bOr .u64 (bAnd .u64 (shrI .u64 x1 (1 : Int)) (6148914691236517205 : Int)) (shlI .u64 (bAnd .u64 x1 (6148914691236517205 : Int)) (1 : Int))) (2 : Int)) (3689348814741910323 : Int)) (shlI .u64 (bAnd .u64 (bOr .u64 (bAnd .u64 (shrI .u64 x1 (1 : Int)) (6148914691236517205 : Int)) (shlI .u64 (bAnd .u64 x1 (6148914691236517205 : Int)) (1 : Int))) (3689348814741910323 : Int)) (2 : Int))) (1085102592571150095 : Int)) (4 : Int)))] H fun v1 H1 => DI .u64 v1 fun x2 => K (.int .u64 x2) H1))))))
def W_math_bits_Reverse64.Λ (_ : Value → Hp → Prop) : Cuts := Cuts.none (fun _ => none)
theorem W_math_bits_Reverse64.ok (x1 : Int) (H : Hp) (K : Value → Hp → Prop) (h : W_math_bits_Reverse64 x1 H K) : HCalls Tryz.prog 290 #[.int .u64 x1] H K :=
  hcalls Tryz.func290 rfl (Nat.le_of_ble_eq_true rfl) (hw_safe (Λ := Cuts.none (fun _ => none)) mixWlbits _ _ _ _ _ (Eq.mp (by kernel_rfl) h) (obs_none _ _ _ _ _))

-- math/bits.ReverseBytes64
def W_math_bits_ReverseBytes64 (x1 : Int) (H : Hp) (K : Value → Hp → Prop) : Prop :=
  (0 ≤ (8 : Int) ∧ (0 ≤ (8 : Int) ∧ (0 ≤ (16 : Int) ∧ (0 ≤ (16 : Int) ∧ (0 ≤ (32 : Int) ∧ (0 ≤ (32 : Int) ∧ K (.int .u64 (bOr .u64 (shrI .u64 (bOr .u64 (bAnd .u64 (shrI .u64 (bOr .u64 (bAnd .u64 (shrI .u64 x1 (8 : Int)) (71777214294589695 : Int)) (shlI .u64 (bAnd .u64 x1 (71777214294589695 : Int)) (8 : Int))) (16 : Int)) (281470681808895 : Int)) (shlI .u64 (bAnd .u64 (bOr .u64 (bAnd .u64 (shrI .u64 x1 (8 : Int)) (71777214294589695 : Int)) (shlI .u64 (bAnd .u64 x1 (71777214294589695 : Int)) (8 : Int))) (281470681808895 : Int)) (16 : Int))) (32 : Int)) (shlI .u64 (bOr .u64 (bAnd .u64 (shrI .u64 (bOr .u64 (bAnd .u64 (shrI .u64 x1 (8 : Int)) (71777214294589695 : Int)) (shlI .u64 (bAnd .u64 x1 (71777214294589695 : Int)) (8 : Int))) (16 : Int)) (281470681808895 : Int)) (shlI .u64 (bAnd .u64 (bOr .u64 (bAnd .u64 (shrI .u64 x1 (8 : Int)) (71777214294589695 : Int)) (shlI .u64 (bAnd .u64 x1 (71777214294589695 : Int)) (8 : Int))) (281470681808895 : Int)) (16 : Int))) (32 : Int)))) H))))))
def W_math_bits_ReverseBytes64.Λ (_ : Value → Hp → Prop) : Cuts := Cuts.none (fun _ => none)
theorem W_math_bits_ReverseBytes64.ok (x1 : Int) (H : Hp) (K : Value → Hp → Prop) (h : W_math_bits_ReverseBytes64 x1 H K) : HCalls Tryz.prog 294 #[.int .u64 x1] H K :=
  hcalls Tryz.func294 rfl (Nat.le_of_ble_eq_true rfl) (hw_safe (Λ := Cuts.none (fun _ => none)) mixWlbits _ _ _ _ _ (Eq.mp (by kernel_rfl) h) (obs_none _ _ _ _ _))

end Go.Proofs.YtlgpappgnndgiaaGreatDoor.W

end
section
/-! SupB -/
/- super: forms. -/
set_option maxRecDepth 100000
set_option linter.unusedSimpArgs false
set_option linter.unusedVariables false
set_option linter.unnecessarySimpa false
set_option linter.unusedSectionVars false
namespace Go.Proofs.YtlgpappgnndgiaaGreatDoor.Sup
open Go Go.Hw Go.Form Go.Proofs.YtlgpappgnndgiaaGreatDoor.W Go.Proofs.YtlgpappgnndgiaaGreatDoor.Lay

theorem Len_ok (s : Int) (hs : 0 < perN s) (H : Hp) : HCalls Tryz.prog 126 #[.int .u64 s] H (RetE (.int .i64 (logN s + 1)) H) := by
  apply W_math_bits_Len.ok
  unfold W_math_bits_Len
  refine HCalls.use (v := .int .i64 (logN s + 1)) ?_ (RetE.mk _ _)
  apply W_math_bits_Len64.ok
  have : s = 32 ∨ s = 64 ∨ s = 128 ∨ s = 256 ∨ s = 512 ∨ s = 1024 ∨ s = 2048 ∨ s = 4096 := by
    unfold perN at hs
    repeat' split at hs
    all_goals omega
  unfold W_math_bits_Len64
  rcases this with rfl | rfl | rfl | rfl | rfl | rfl | rfl | rfl
  all_goals
    refine BIf_neg rfl ?_
    unfold W_math_bits_Len64.j4
    refine BIf_neg rfl ?_
    unfold W_math_bits_Len64.j7
    first
      | (refine BIf_pos rfl ⟨by decide, by decide, ?_⟩; refine ixB_of (by decide) ?_; exact RetE.of rfl)
      | (refine BIf_neg rfl ⟨by decide, ?_⟩; refine ixB_of (by decide) ?_; exact RetE.of rfl)

def firstN (k : Nat) (s : Int) : Nat := 4702392716946833408 + k * 65536 + (logN s).toNat
def supW (k sec s ar : Int) : List UInt64 := [UInt64.ofNat (firstN k.toNat s), UInt64.ofNat sec.toNat, UInt64.ofNat ar.toNat]
def supS (k sec s ar : Int) : List UInt64 := supW k sec s ar ++ [UInt64.ofNat (Go.Crc.sum (form (supW k sec s ar))).toNat]
def supF (k sec s ar : Int) : List UInt8 := form (supS k sec s ar) ++ List.replicate (s.toNat - 32) 0

theorem log_le (s : Int) : logN s ≤ 12 := by
  rcases log_per s with h | h <;> omega

theorem first_ok (k : Nat) (sec s ar : Int) (hk : k ≤ 65535) (hs : 0 < perN s) (H : Hp) : HCalls Tryz.prog 248 #[.agg (supV k sec s ar)] H (RetE (.int .u64 ((UInt64.ofNat (firstN k s)).toNat : Int)) H) := by
  apply HCalls.ret
  apply W_super_first.ok
  unfold W_super_first
  simp only [NN_some, Addr.add_lit', Addr.add_zero, Nat.zero_add, Nat.add_zero]
  refine (Sep.start H).nw fun b1 H hs' => ?_
  have hs0 := hs
  have hs := hs'
  have h1 := log_per s
  have h2 := perN_le s
  first | refine hs.ld 1 rfl rfl ?_ | refine hs.ld 2 rfl rfl ?_ | refine hs.ld 3 rfl rfl ?_ | refine hs.ld 4 rfl rfl ?_ | refine hs.ld 5 rfl rfl ?_ | refine hs.ld 6 rfl rfl ?_ | refine hs.ld 7 rfl rfl ?_ | refine hs.ld 8 rfl rfl ?_
  try simp only [DI_int', DB_bool, DS_string, DP_pointer, DSl_slice, DM_map, DA_agg, DTup_tuple, DCons_cons, DNil_nil, NN_some, BIf_true, BIf_false, BIf_same, List.toList_toArray, Bool.not_true, Bool.not_false]
  refine ⟨by omega, ?_⟩
  first | refine hs.ld 1 rfl rfl ?_ | refine hs.ld 2 rfl rfl ?_ | refine hs.ld 3 rfl rfl ?_ | refine hs.ld 4 rfl rfl ?_ | refine hs.ld 5 rfl rfl ?_ | refine hs.ld 6 rfl rfl ?_ | refine hs.ld 7 rfl rfl ?_ | refine hs.ld 8 rfl rfl ?_
  try simp only [DI_int', DB_bool, DS_string, DP_pointer, DSl_slice, DM_map, DA_agg, DTup_tuple, DCons_cons, DNil_nil, NN_some, BIf_true, BIf_false, BIf_same, List.toList_toArray, Bool.not_true, Bool.not_false]
  rw [u64w (x := s) (by omega) (by omega)]
  refine QCall.use (Len_ok s hs0 H) ?_
  try simp only [DI_int', DB_bool, DS_string, DP_pointer, DSl_slice, DM_map, DA_agg, DTup_tuple, DCons_cons, DNil_nil, NN_some, BIf_true, BIf_false, BIf_same, List.toList_toArray, Bool.not_true, Bool.not_false]
  have h3 : firstN k s < 2 ^ 64 := by unfold firstN; omega
  rw [show logN s + 1 - 1 = logN s by omega, i64w (x := logN s) (by omega) (by omega), u64w (x := logN s) (by omega) (by omega), u64n (n := k) (by omega)]
  rw [shlN (i := (16 : Int)) (n := 16) rfl (by omega), Nat.mod_eq_of_lt (by omega)]
  obtain ⟨g, hg⟩ := Int.eq_ofNat_of_zero_le (show 0 ≤ logN s by omega)
  have h4 : k * 2 ^ 16 < 2 ^ 64 := by omega
  rw [show (4702392716946833408 : Int) = ((4702392716946833408 : Nat) : Int) from rfl, orN (by omega) h4, hg, orN (or_lt (by omega) h4) (by omega)]
  have e1 : ∀ q, q = 4702392716946833408 → q ||| k * 2 ^ 16 = q + k * 2 ^ 16 := fun q hq => by
    have h5 : ∀ p, p = 1094861123 → p * 2 ^ 32 = q := fun p hp => by omega
    have := Nat.shiftLeft_add_eq_or_of_lt (show k * 2 ^ 16 < 2 ^ 32 by omega) 1094861123
    rw [Nat.shiftLeft_eq, h5 _ rfl] at this
    exact this.symm
  have e2 : ∀ q, q = 4702392716946833408 + k * 2 ^ 16 → q ||| g = q + g := fun q hq => by
    have h5 : ∀ p, p = 1094861123 * 2 ^ 16 + k → p * 2 ^ 16 = q := fun p hp => by omega
    have := Nat.shiftLeft_add_eq_or_of_lt (show g < 2 ^ 16 by omega) (1094861123 * 2 ^ 16 + k)
    rw [Nat.shiftLeft_eq, h5 _ rfl] at this
    exact this.symm
  have e3 : 4702392716946833408 + k * 2 ^ 16 + g = firstN k s := by unfold firstN; rw [hg]; rfl
  rw [e1 _ rfl, e2 _ rfl, e3]
  rw [show (UInt64.ofNat (firstN k s)).toNat = firstN k s from UInt64.toNat_ofNat_of_lt' h3]
  exact hs.fin 0 rfl _

theorem supS_len (k sec s ar : Int) : (supS k sec s ar).length = 4 := rfl
theorem supF_len (k sec s ar : Int) (hs : 0 < perN s) : ((supF k sec s ar).length : Int) = s := by
  have h1 := log_per s
  unfold supF
  rw [List.length_append, form_length, supS_len, List.length_replicate]
  have : 4 ≤ perN s := by
    rcases h1 with h | h
    · rw [h.2.2.2.2]
      have : 2 ^ 2 ≤ 2 ^ (logN s - 3).toNat := Nat.pow_le_pow_right (by omega) (by omega)
      omega
    · omega
  omega

theorem cell_u64 : cellInfo Tryz.prog 60 = some (1, 8, some #[.int .u64 0]) := by kernel_rfl

theorem cell_u8' : cellInfo Tryz.prog 5 = some (1, 1, some #[.int .u8 0]) := by kernel_rfl

theorem u64_of {x : Nat} (h : x < 2 ^ 64) : (UInt64.ofNat x).toNat = x := UInt64.toNat_ofNat_of_lt' h

end Go.Proofs.YtlgpappgnndgiaaGreatDoor.Sup

end
section
/-! SupC -/
/- super: the superblock of a form, and the document's. -/
set_option maxRecDepth 100000
set_option linter.unusedSimpArgs false
set_option linter.unusedVariables false
set_option linter.unnecessarySimpa false
set_option linter.unusedSectionVars false
namespace Go.Proofs.YtlgpappgnndgiaaGreatDoor.Sup
open Go Go.Hw Go.Form Go.Proofs.YtlgpappgnndgiaaGreatDoor.W Go.Proofs.YtlgpappgnndgiaaGreatDoor.Lay

theorem sector_ok (A : Option Addr) (n m : Nat) (H : Hp) : HCalls Tryz.prog 246 #[.slice A n m] H (RetE (.bool (decide (0 < perN n))) H) := by
  apply W_super_sector.ok
  unfold W_super_sector
  refine HCalls.use (Need_ok 0 n H) ?_
  try simp only [DI_int', DB_bool, DS_string, DP_pointer, DSl_slice, DM_map, DA_agg, DTup_tuple, DCons_cons, DNil_nil, NN_some, BIf_true, BIf_false, BIf_same, List.toList_toArray, Bool.not_true, Bool.not_false]
  unfold NeedV
  by_cases h : 0 < perN n
  · rw [if_pos (by omega)]
    exact RetE.of (by simp [h])
  · rw [if_neg (by omega)]
    exact RetE.of (by simp [h])

def noughts (bs : List UInt8) : Bool := (bs.drop 32).all (· == 0)

theorem u8_ne (b : UInt8) : ((b.toNat : Int) != 0) = !(b == 0) := by
  by_cases h : b = 0
  · subst h; rfl
  · have : b.toNat ≠ 0 := fun e => h (UInt8.toNat_inj.1 (by rw [e]; rfl))
    have h2 : (b == 0) = false := by simpa using h
    rw [h2]; simp; omega

theorem behind_loop (K : Value → Hp → Prop) (A : Option Addr) (n m : Nat) (bs : List UInt8) (hn : n = bs.length) (hm : n ≤ 9000000000000000000) (H : Hp) (hb : Cells H A (byteVals bs)) (r : Bool) (hK : K (.bool (bs.all (· == 0))) H) : ∀ d j : Nat, j + d = n → (bs.take j).all (· == 0) = true →
    W_super_behind.l2 K (d + 1) A n m (n : Int) (j : Int) H
  | 0, j, hj, h0 => by
    unfold W_super_behind.l2
    refine BIf_dneg (by omega) ?_
    rw [List.take_of_length_le (by omega)] at h0
    rw [h0] at hK; exact hK
  | d + 1, j, hj, h0 => by
    unfold W_super_behind.l2
    refine BIf_dpos (by omega) ?_
    have hlt : j < bs.length := by omega
    refine hb.read (i := j) (v := .int .u8 (bs[j].toNat : Int)) (by rw [byteVals_get, List.getElem?_eq_getElem hlt]; rfl) rfl (by rw [byteVals_length]; omega) ?_
    simp only [DI_int', DB_bool, DS_string, DP_pointer, DSl_slice, DM_map, DA_agg, DTup_tuple, DCons_cons, DNil_nil, NN_some, BIf_true, BIf_false, BIf_same, List.toList_toArray, Bool.not_true, Bool.not_false]
    rw [u8_ne]
    by_cases h : bs[j] = 0
    · refine BIf_neg (by simp [h]) ?_
      rw [i64w (by omega) (by omega)]
      refine behind_loop K A n m bs hn hm H hb r hK d (j + 1) (by omega) ?_
      rw [List.take_succ_eq_append_getElem hlt, List.all_append, h0]
      simp [h]
    · refine BIf_pos (by simp [h]) ?_
      have : bs.all (· == 0) = false := by
        rw [List.all_eq_false]
        exact ⟨bs[j], List.getElem_mem hlt, by simpa using h⟩
      rw [this] at hK; exact hK

theorem behind_ok (A : Option Addr) (n m : Nat) (hnm : n ≤ m) (bs : List UInt8) (hn : n = bs.length) (h32 : 32 ≤ n) (hm : n ≤ 9000000000000000000) (H : Hp) (hb : Cells H A (byteVals bs)) :
    HCalls Tryz.prog 247 #[.slice A n m] H (RetE (.bool (noughts bs)) H) := by
  apply W_super_behind.ok
  unfold W_super_behind
  refine ⟨by omega, by omega, n - 32 + 1, ?_⟩
  have h1 := hb.shift (m := m) (l := 32) (by rw [byteVals_length]; omega)
  rw [show (byteVals bs).drop 32 = byteVals (bs.drop 32) by unfold byteVals; rw [List.map_drop]] at h1
  exact behind_loop _ _ (n - 32) (m - 32) (bs.drop 32) (by simp; omega) (by omega) H h1 true (RetE.mk _ _) (n - 32) 0 (by omega) rfl

/-- A superblock's numbers, and an error's. -/
abbrev Sb := Int × Int × Int × Int
def sbV (x : Sb) : Array Value := supV x.1 x.2.1 x.2.2.1 x.2.2.2
def crcN (a b c : Nat) : Nat := (Go.Crc.sum (form [UInt64.ofNat a, UInt64.ofNat b, UInt64.ofNat c])).toNat
def sbOf (bs : List UInt8) : Sb := (((wordN bs 0 / 65536 % 65536 : Nat) : Int), IntKind.i64.wrap (wordN bs 8 : Nat), ((bs.length : Nat) : Int), IntKind.i64.wrap (wordN bs 16 : Nat))
def takeV (bs : List UInt8) : Sb × Int :=
  if perN bs.length = 0 then ((0, 0, 0, 0), 15)
  else if wordN bs 0 / 4294967296 ≠ 1094861123 ∨ noughts bs = false then ((0, 0, 0, 0), 10)
  else if wordN bs 24 ≠ crcN (wordN bs 0) (wordN bs 8) (wordN bs 16) then ((0, 0, 0, 0), 9)
  else if goodB (sbOf bs).1 (sbOf bs).2.1 (sbOf bs).2.2.1 (sbOf bs).2.2.2 = true ∧ ((wordN bs 0 % 65536 : Nat) : Int) = logN bs.length then (sbOf bs, 0)
  else ((0, 0, 0, 0), 1)

theorem wordVals3 (bs : List UInt8) : ([.int .u64 (wordN bs 0 : Nat), .int .u64 (wordN bs 8 : Nat), .int .u64 (wordN bs 16 : Nat)] : List Value) = wordVals [UInt64.ofNat (wordN bs 0), UInt64.ofNat (wordN bs 8), UInt64.ofNat (wordN bs 16)] := by
  unfold wordVals
  simp only [List.map_cons, List.map_nil]
  rw [u64_of (wordN_lt bs 0), u64_of (wordN_lt bs 8), u64_of (wordN_lt bs 16)]

theorem crcN_lt (a b c : Nat) : crcN a b c < 2 ^ 32 := (Go.Crc.sum _).isLt

theorem logN_pow {n : Int} (h : 0 < perN n) : n = ((2 ^ (logN n).toNat : Nat) : Int) ∧ 5 ≤ logN n ∧ logN n ≤ 12 := by
  unfold perN at h
  unfold logN
  repeat' split
  all_goals first | (subst_vars; refine ⟨by decide, by decide, by decide⟩) | skip
  repeat' split at h
  all_goals omega

theorem shl_small {t : Nat} (h : t ≤ 62) : shlI .i64 1 (t : Int) = ((2 ^ t : Nat) : Int) := shl_one h

/-- The last test. -/
theorem last_iff {a : Nat} (ha : a < 2 ^ 64) (hm : a / 4294967296 = 1094861123) {sec ar : Int} {n : Int} (hn : 0 < perN n) :
    (goodB ((a / 65536 % 65536 : Nat) : Int) sec (shlI .i64 1 ((a % 64 : Nat) : Int)) ar = true ∧ firstN (a / 65536 % 65536) (shlI .i64 1 ((a % 64 : Nat) : Int)) = a ∧ shlI .i64 1 ((a % 64 : Nat) : Int) = n) ↔
      (goodB ((a / 65536 % 65536 : Nat) : Int) sec n ar = true ∧ ((a % 65536 : Nat) : Int) = logN n) := by
  obtain ⟨h1, h2, h3⟩ := logN_pow hn
  constructor
  · rintro ⟨g1, g2, g3⟩
    rw [g3] at g1 g2
    refine ⟨g1, ?_⟩
    unfold firstN at g2
    omega
  · rintro ⟨g1, g2⟩
    obtain ⟨t, ht⟩ := Int.eq_ofNat_of_zero_le (show 0 ≤ logN n by omega)
    have h64 : a % 64 = t := by omega
    have hv : shlI .i64 1 ((a % 64 : Nat) : Int) = n := by
      rw [h64, shl_small (by omega), h1, ht]; rfl
    rw [hv]
    refine ⟨g1, ?_, rfl⟩
    unfold firstN
    rw [ht] at g2 ⊢
    have : (Int.toNat (t : Int)) = t := Int.toNat_natCast t
    rw [this]
    omega

theorem take_round (K : Value → Hp → Prop) (d b1 b2 : Nat) (A : Option Addr) (n m : Nat) (hnm : n ≤ m) (hm : n ≤ 9000000000000000000) (bs : List UInt8) (hn : n = bs.length) (h32 : 32 ≤ n) (H0 H : Hp) (hb : Cells H0 A (byteVals bs)) (c : Array Value) (hc : c.size = 4) (z : Array Value) (e1 e2 : TypeId) (i : Nat) (hi : i < 4)
    (hs : Sep [own H0, pts b1 (.obj (.cells z e1)), pts b2 (.obj (.cells c e2))] H)
    (k : ∀ H, Sep [own H0, pts b1 (.obj (.cells z e1)), pts b2 (.obj (.cells (c.setIfInBounds i (.int .u64 (wordN bs (8 * i) : Nat))) e2))] H → W_super_Take.l5 K d A n m ⟨b1, 0, none⟩ ⟨b2, 0, none⟩ ((i + 1 : Nat) : Int) H) :
    W_super_Take.l5 K (d + 1) A n m ⟨b1, 0, none⟩ ⟨b2, 0, none⟩ (i : Int) H := by
  conv => unfold W_super_Take.l5
  refine BIf_dpos (by omega) ?_
  refine HCalls.use (FormP.Word_ok A n m hnm hm bs hn i (by omega) H (hb.le (hs.ow 0 rfl))) ?_
  try simp only [DI_int', DB_bool, DS_string, DP_pointer, DSl_slice, DM_map, DA_agg, DTup_tuple, DCons_cons, DNil_nil, NN_some, BIf_true, BIf_false, BIf_same, List.toList_toArray, Bool.not_true, Bool.not_false]
  refine hs.stx 2 rfl (j := i) rfl hi (by omega) rfl fun H hs => ?_
  rw [i64w (x := (i : Int) + 1) (by omega) (by omega)]
  exact k H hs

theorem ret_err (K : Value → Hp → Prop) {L : List As} {H : Hp} (hs : Sep L H) {b1 : Nat} {z : Array Value} {e1 : TypeId} (i : Nat) (hi : L[i]? = some (pts b1 (.obj (.cells z e1)))) (hz : z.size = 4) (e : Int) (y : Array Value) (hy : y.size = 4) (hv : y.toList.all (fun v => v.oneCell') = true)
    (hK : ∀ H, Sep (L.set i (pts b1 (.obj (.cells y e1)))) H → K (.tuple #[.agg y, .int .i64 e]) H) : StA H (⟨b1, 0, none⟩ : Addr) y 4 fun H3 => LdA H3 (⟨b1, 0, none⟩ : Addr) 4 fun l7 => K (.tuple #[.agg l7.toArray, .int .i64 e]) H3 := by
  refine hs.stw i hi hz hy hv fun H hs => ?_
  have hlt := (List.getElem?_eq_some_iff.1 hi).1
  refine hs.ldw i (b := b1) (c := y) (e := e1) (by rw [List.getElem?_set]; simp [hlt]) hy ?_
  rw [Array.toArray_toList]
  exact hK H hs

theorem Take_ok (A : Option Addr) (n m : Nat) (hnm : n ≤ m) (hm : n ≤ 9000000000000000000) (bs : List UInt8) (hn : n = bs.length) (H : Hp) (hb : Cells H A (byteVals bs)) :
    HCalls Tryz.prog 218 #[.slice A n m] H (RetE (.tuple #[.agg (sbV (takeV bs).1), .int .i64 (takeV bs).2]) H) := by
  apply HCalls.ret
  apply W_super_Take.ok
  unfold W_super_Take
  refine (Sep.start H).nw fun b1 H' hs => ?_
  have fin : ∀ {L : List As} {H' : Hp} (x : Sb) (e : Int), Sep L H' → L[0]? = some (own H) → takeV bs = (x, e) → Ret (.tuple #[.agg (sbV (takeV bs).1), .int .i64 (takeV bs).2]) H (.tuple #[.agg (sbV x), .int .i64 e]) H' := fun x e hs h0 he => by
    rw [he]; exact hs.fin 0 h0 _
  refine HCalls.use (sector_ok A n m H') ?_
  try simp only [DI_int', DB_bool, DS_string, DP_pointer, DSl_slice, DM_map, DA_agg, DTup_tuple, DCons_cons, DNil_nil, NN_some, BIf_true, BIf_false, BIf_same, List.toList_toArray, Bool.not_true, Bool.not_false]
  by_cases hp : perN (n : Int) = 0
  · refine BIf_pos (by simp; omega) ?_
    refine ret_err _ hs 1 rfl rfl 15 _ rfl rfl fun H' hs => fin (0, 0, 0, 0) 15 hs rfl ?_
    unfold takeV; rw [← hn, if_pos hp]
  refine BIf_neg (by simp; omega) ?_
  refine hs.nw fun b2 H' hs => ?_
  have hp' : 0 < perN (n : Int) := by omega
  have h32 : 32 ≤ n := by
    obtain ⟨h1, h2, h3⟩ := logN_pow hp'
    have : 2 ^ 5 ≤ 2 ^ (logN n).toNat := Nat.pow_le_pow_right (by omega) (by omega)
    omega
  refine ⟨5, ?_⟩
  refine take_round _ 4 b1 b2 A n m hnm hm bs hn h32 H H' hb _ rfl _ _ _ 0 (by omega) hs fun H' hs => ?_
  refine take_round _ 3 b1 b2 A n m hnm hm bs hn h32 H H' hb _ rfl _ _ _ 1 (by omega) hs fun H' hs => ?_
  refine take_round _ 2 b1 b2 A n m hnm hm bs hn h32 H H' hb _ rfl _ _ _ 2 (by omega) hs fun H' hs => ?_
  refine take_round _ 1 b1 b2 A n m hnm hm bs hn h32 H H' hb _ rfl _ _ _ 3 (by omega) hs fun H' hs => ?_
  have hs : Sep [own H, pts b1 (.obj (.cells #[.int .i64 0, .int .i64 0, .int .i64 0, .int .i64 0] 277)), pts b2 (.obj (.cells #[.int .u64 (wordN bs 0 : Nat), .int .u64 (wordN bs 8 : Nat), .int .u64 (wordN bs 16 : Nat), .int .u64 (wordN bs 24 : Nat)] 348))] H' := hs
  have w0 := wordN_lt bs 0
  unfold W_super_Take.l5
  refine BIf_dneg (by omega) ?_
  refine hs.ldx 2 rfl (j := 0) rfl (by omega) rfl ?_
  simp only [DI_int', DB_bool, DS_string, DP_pointer, DSl_slice, DM_map, DA_agg, DTup_tuple, DCons_cons, DNil_nil, NN_some, BIf_true, BIf_false, BIf_same, List.toList_toArray, Bool.not_true, Bool.not_false]
  refine ⟨by omega, ?_⟩
  refine hs.ldx 2 rfl (j := 0) rfl (by omega) rfl ?_
  simp only [DI_int', DB_bool, DS_string, DP_pointer, DSl_slice, DM_map, DA_agg, DTup_tuple, DCons_cons, DNil_nil, NN_some, BIf_true, BIf_false, BIf_same, List.toList_toArray, Bool.not_true, Bool.not_false]
  rw [show bAnd .u64 ((wordN bs 0 : Nat) : Int) 63 = ((wordN bs 0 % 64 : Nat) : Int) by rw [show (63 : Int) = ((63 : Nat) : Int) from rfl, andN w0 (by omega), Nat.and_two_pow_sub_one_eq_mod _ 6]]
  refine ⟨by omega, ?_⟩
  refine hs.ldx 2 rfl (j := 1) rfl (by omega) rfl ?_
  simp only [DI_int', DB_bool, DS_string, DP_pointer, DSl_slice, DM_map, DA_agg, DTup_tuple, DCons_cons, DNil_nil, NN_some, BIf_true, BIf_false, BIf_same, List.toList_toArray, Bool.not_true, Bool.not_false]
  refine hs.ldx 2 rfl (j := 2) rfl (by omega) rfl ?_
  simp only [DI_int', DB_bool, DS_string, DP_pointer, DSl_slice, DM_map, DA_agg, DTup_tuple, DCons_cons, DNil_nil, NN_some, BIf_true, BIf_false, BIf_same, List.toList_toArray, Bool.not_true, Bool.not_false]
  refine hs.nw fun b3 H' hs => ?_
  refine hs.stw 3 rfl rfl rfl rfl fun H' hs => ?_
  have e16 : IntKind.i64.wrap (bAnd .u64 (shrI .u64 ((wordN bs 0 : Nat) : Int) 16) 65535) = ((wordN bs 0 / 65536 % 65536 : Nat) : Int) := by
    rw [shrN (i := (16 : Int)) (n := 16) rfl (by decide), show (65535 : Int) = ((65535 : Nat) : Int) from rfl, andN (by omega) (by omega), Nat.and_two_pow_sub_one_eq_mod _ 16, i64n (by omega)]
  rw [e16] at hs
  refine hs.ldx 2 rfl (j := 0) rfl (by omega) rfl ?_
  simp only [DI_int', DB_bool, DS_string, DP_pointer, DSl_slice, DM_map, DA_agg, DTup_tuple, DCons_cons, DNil_nil, NN_some, BIf_true, BIf_false, BIf_same, List.toList_toArray, Bool.not_true, Bool.not_false]
  refine ⟨by omega, ?_⟩
  rw [shrN (i := (32 : Int)) (n := 32) rfl (by decide)]
  by_cases hmg : wordN bs 0 / 4294967296 = 1094861123
  · refine BIf_bnen (by omega) ?_
    refine HCalls.use (behind_ok A n m hnm bs hn h32 (by omega) H' (hb.le (hs.ow 0 rfl))) ?_
    try simp only [DI_int', DB_bool, DS_string, DP_pointer, DSl_slice, DM_map, DA_agg, DTup_tuple, DCons_cons, DNil_nil, NN_some, BIf_true, BIf_false, BIf_same, List.toList_toArray, Bool.not_true, Bool.not_false]
    by_cases hz : noughts bs = true
    · refine BIf_neg (by simp [hz]) ?_
      refine hs.ldx 2 rfl (j := 3) rfl (by omega) rfl ?_
      simp only [DI_int', DB_bool, DS_string, DP_pointer, DSl_slice, DM_map, DA_agg, DTup_tuple, DCons_cons, DNil_nil, NN_some, BIf_true, BIf_false, BIf_same, List.toList_toArray, Bool.not_true, Bool.not_false]
      refine ⟨by omega, by omega, ?_⟩
      have hc3 := Cells.obj (hs.get 2 (b := b2) (o := .obj (.cells #[.int .u64 (wordN bs 0 : Nat), .int .u64 (wordN bs 8 : Nat), .int .u64 (wordN bs 16 : Nat), .int .u64 (wordN bs 24 : Nat)] 348)) rfl) 3
      have hc3 : Cells H' (some ⟨b2, 0, none⟩) (wordVals [UInt64.ofNat (wordN bs 0), UInt64.ofNat (wordN bs 8), UInt64.ofNat (wordN bs 16)]) := by
        rw [← wordVals3]; exact hc3
      refine QCall.use (CrcP.OfWords_ok (some ⟨b2, 0, none⟩) 3 4 _ rfl (by omega) H' hc3) ?_
      simp only [DI_int', DB_bool, DS_string, DP_pointer, DSl_slice, DM_map, DA_agg, DTup_tuple, DCons_cons, DNil_nil, NN_some, BIf_true, BIf_false, BIf_same, List.toList_toArray, Bool.not_true, Bool.not_false]
      have hcl := crcN_lt (wordN bs 0) (wordN bs 8) (wordN bs 16)
      rw [show (Go.Crc.sum (form [UInt64.ofNat (wordN bs 0), UInt64.ofNat (wordN bs 8), UInt64.ofNat (wordN bs 16)])).toNat = crcN (wordN bs 0) (wordN bs 8) (wordN bs 16) from rfl, u64n (by omega)]
      by_cases hcr : wordN bs 24 = crcN (wordN bs 0) (wordN bs 8) (wordN bs 16)
      · refine BIf_bnen (by omega) ?_
        refine hs.ldw 3 rfl rfl ?_
        have hiff := last_iff w0 hmg (sec := IntKind.i64.wrap (wordN bs 8 : Nat)) (ar := IntKind.i64.wrap (wordN bs 16 : Nat)) hp'
        have hno : ¬ (goodB (sbOf bs).1 (sbOf bs).2.1 (sbOf bs).2.2.1 (sbOf bs).2.2.2 = true ∧ ((wordN bs 0 % 65536 : Nat) : Int) = logN bs.length) → takeV bs = ((0, 0, 0, 0), 1) := fun h => by
          unfold takeV
          rw [← hn, if_neg (by omega), if_neg (by simp [hmg, hz]), if_neg (by simp [hcr]), if_neg (by rw [hn]; exact h)]
        have hyes : (goodB (sbOf bs).1 (sbOf bs).2.1 (sbOf bs).2.2.1 (sbOf bs).2.2.2 = true ∧ ((wordN bs 0 % 65536 : Nat) : Int) = logN bs.length) → takeV bs = (sbOf bs, 0) := fun h => by
          unfold takeV
          rw [← hn, if_neg (by omega), if_neg (by simp [hmg, hz]), if_neg (by simp [hcr]), if_pos (by rw [hn]; exact h)]
        have hsb : sbOf bs = (((wordN bs 0 / 65536 % 65536 : Nat) : Int), IntKind.i64.wrap (wordN bs 8 : Nat), (n : Int), IntKind.i64.wrap (wordN bs 16 : Nat)) := by unfold sbOf; rw [hn]
        rw [hsb] at hno hyes
        simp only at hno hyes
        rw [← hn] at hno hyes
        rw [← hiff] at hno hyes
        refine QCall.use (Good_ok ((wordN bs 0 / 65536 % 65536 : Nat) : Int) (IntKind.i64.wrap (wordN bs 8 : Nat)) (shlI .i64 1 ((wordN bs 0 % 64 : Nat) : Int)) (IntKind.i64.wrap (wordN bs 16 : Nat)) H') ?_
        simp only [DI_int', DB_bool, DS_string, DP_pointer, DSl_slice, DM_map, DA_agg, DTup_tuple, DCons_cons, DNil_nil, NN_some, BIf_true, BIf_false, BIf_same, List.toList_toArray, Bool.not_true, Bool.not_false]
        by_cases hg : goodB ((wordN bs 0 / 65536 % 65536 : Nat) : Int) (IntKind.i64.wrap (wordN bs 8 : Nat)) (shlI .i64 1 ((wordN bs 0 % 64 : Nat) : Int)) (IntKind.i64.wrap (wordN bs 16 : Nat)) = true
        · refine BIf_neg (by rw [hg]; rfl) ?_
          refine hs.ldw 3 rfl rfl ?_
          have hg2 := hg
          unfold goodB at hg2
          simp only [decide_eq_true_eq] at hg2
          refine QCall.use (first_ok (wordN bs 0 / 65536 % 65536) (IntKind.i64.wrap (wordN bs 8 : Nat)) (shlI .i64 1 ((wordN bs 0 % 64 : Nat) : Int)) (IntKind.i64.wrap (wordN bs 16 : Nat)) (by omega) hg2.2.2.1 H') ?_
          simp only [DI_int', DB_bool, DS_string, DP_pointer, DSl_slice, DM_map, DA_agg, DTup_tuple, DCons_cons, DNil_nil, NN_some, BIf_true, BIf_false, BIf_same, List.toList_toArray, Bool.not_true, Bool.not_false]
          have hf64 : firstN (wordN bs 0 / 65536 % 65536) (shlI .i64 1 ((wordN bs 0 % 64 : Nat) : Int)) < 2 ^ 64 := by
            have := log_le (shlI .i64 1 ((wordN bs 0 % 64 : Nat) : Int))
            unfold firstN; omega
          rw [u64_of hf64]
          refine hs.ldx 2 rfl (j := 0) rfl (by omega) rfl ?_
          simp only [DI_int', DB_bool, DS_string, DP_pointer, DSl_slice, DM_map, DA_agg, DTup_tuple, DCons_cons, DNil_nil, NN_some, BIf_true, BIf_false, BIf_same, List.toList_toArray, Bool.not_true, Bool.not_false]
          by_cases hf : firstN (wordN bs 0 / 65536 % 65536) (shlI .i64 1 ((wordN bs 0 % 64 : Nat) : Int)) = wordN bs 0
          · refine BIf_bnen (by omega) ?_
            simp only [NN_some, Addr.add_lit', Addr.add_zero, Nat.zero_add, Nat.add_zero]
            refine hs.ld 3 rfl rfl ?_
            simp only [DI_int', DB_bool, DS_string, DP_pointer, DSl_slice, DM_map, DA_agg, DTup_tuple, DCons_cons, DNil_nil, NN_some, BIf_true, BIf_false, BIf_same, List.toList_toArray, Bool.not_true, Bool.not_false]
            by_cases hv : shlI .i64 1 ((wordN bs 0 % 64 : Nat) : Int) = (n : Int)
            · refine BIf_bnen hv ?_
              refine hs.ldw 3 rfl rfl ?_
              have hy := hyes ⟨hg, hf, hv⟩
              rw [hv]
              refine ret_err _ hs 1 rfl rfl 0 _ rfl rfl fun H' hs => fin _ 0 hs rfl hy
            · refine BIf_bnep hv ?_
              refine ret_err _ hs 1 rfl rfl 1 _ rfl rfl fun H' hs => fin (0, 0, 0, 0) 1 hs rfl (hno fun h => hv h.2.2)
          · refine BIf_bnep (by omega) ?_
            refine ret_err _ hs 1 rfl rfl 1 _ rfl rfl fun H' hs => fin (0, 0, 0, 0) 1 hs rfl (hno fun h => hf h.2.1)
        · refine BIf_pos (by rw [Bool.not_eq_true] at hg; rw [hg]; rfl) ?_
          refine ret_err _ hs 1 rfl rfl 1 _ rfl rfl fun H' hs => fin (0, 0, 0, 0) 1 hs rfl (hno fun h => hg h.1)
      · refine BIf_bnep (by omega) ?_
        refine ret_err _ hs 1 rfl rfl 9 _ rfl rfl fun H' hs => fin (0, 0, 0, 0) 9 hs rfl ?_
        unfold takeV
        rw [← hn, if_neg (by omega), if_neg (by simp [hmg, hz]), if_pos hcr]
    · refine BIf_pos (by simp [hz]) ?_
      refine ret_err _ hs 1 rfl rfl 10 _ rfl rfl fun H' hs => fin (0, 0, 0, 0) 10 hs rfl ?_
      unfold takeV
      rw [← hn, if_neg (by omega), if_pos (.inr (by simpa using hz))]
  · refine BIf_bnep (by omega) ?_
    refine ret_err _ hs 1 rfl rfl 10 _ rfl rfl fun H' hs => fin (0, 0, 0, 0) 10 hs rfl ?_
    unfold takeV
    rw [← hn, if_neg (by omega), if_pos (.inl hmg)]

end Go.Proofs.YtlgpappgnndgiaaGreatDoor.Sup

end
section
/-! SupD -/
/- super: the document's form, and its superblock of a form; the law SuperForms. -/
set_option maxRecDepth 100000
set_option linter.unusedSimpArgs false
set_option linter.unusedVariables false
set_option linter.unnecessarySimpa false
set_option linter.unusedSectionVars false

namespace Go.Proofs.YtlgpappgnndgiaaGreatDoor.Sup
open Go Go.Hw Go.Form Go.Proofs.YtlgpappgnndgiaaGreatDoor.W Go.Proofs.YtlgpappgnndgiaaGreatDoor.Lay

theorem Layout_ok (k sec s ar : Int) (H : Hp) : HCalls Tryz.prog 178 #[.agg (supV k sec s ar)] H (RetE (if goodB k sec s ar = true then .tuple #[.agg (layV k.toNat (perN s)), .int .i64 0] else .tuple #[.agg layZ, .int .i64 1]) H) := by
  apply HCalls.ret
  apply W_super_Layout.ok
  unfold W_super_Layout
  simp only [NN_some, Addr.add_lit', Addr.add_zero, Nat.zero_add, Nat.add_zero]
  refine (Sep.start H).nw fun b1 H' hs => ?_
  refine hs.nw fun b2 H' hs => ?_
  first | refine hs.ldw 1 rfl rfl ?_ | refine hs.ldw 2 rfl rfl ?_ | refine hs.ldw 3 rfl rfl ?_ | refine hs.ldw 4 rfl rfl ?_ | refine hs.ldw 5 rfl rfl ?_ | refine hs.ldw 6 rfl rfl ?_ | refine hs.ldw 7 rfl rfl ?_ | refine hs.ldw 8 rfl rfl ?_
  try simp only [DI_int', DB_bool, DS_string, DP_pointer, DSl_slice, DM_map, DA_agg, DTup_tuple, DCons_cons, DNil_nil, NN_some, BIf_true, BIf_false, BIf_same, List.toList_toArray, Bool.not_true, Bool.not_false]
  refine HCalls.use (Good_ok k sec s ar H') ?_
  try simp only [DI_int', DB_bool, DS_string, DP_pointer, DSl_slice, DM_map, DA_agg, DTup_tuple, DCons_cons, DNil_nil, NN_some, BIf_true, BIf_false, BIf_same, List.toList_toArray, Bool.not_true, Bool.not_false]
  by_cases h : goodB k sec s ar = true
  · rw [if_pos h, h]
    simp only [DI_int', DB_bool, DS_string, DP_pointer, DSl_slice, DM_map, DA_agg, DTup_tuple, DCons_cons, DNil_nil, NN_some, BIf_true, BIf_false, BIf_same, List.toList_toArray, Bool.not_true, Bool.not_false]
    have hg := h
    unfold goodB at hg
    simp only [decide_eq_true_eq] at hg
    first | refine hs.ld 1 rfl rfl ?_ | refine hs.ld 2 rfl rfl ?_ | refine hs.ld 3 rfl rfl ?_ | refine hs.ld 4 rfl rfl ?_ | refine hs.ld 5 rfl rfl ?_ | refine hs.ld 6 rfl rfl ?_ | refine hs.ld 7 rfl rfl ?_ | refine hs.ld 8 rfl rfl ?_
    try simp only [DI_int', DB_bool, DS_string, DP_pointer, DSl_slice, DM_map, DA_agg, DTup_tuple, DCons_cons, DNil_nil, NN_some, BIf_true, BIf_false, BIf_same, List.toList_toArray, Bool.not_true, Bool.not_false]
    first | refine hs.ld 1 rfl rfl ?_ | refine hs.ld 2 rfl rfl ?_ | refine hs.ld 3 rfl rfl ?_ | refine hs.ld 4 rfl rfl ?_ | refine hs.ld 5 rfl rfl ?_ | refine hs.ld 6 rfl rfl ?_ | refine hs.ld 7 rfl rfl ?_ | refine hs.ld 8 rfl rfl ?_
    try simp only [DI_int', DB_bool, DS_string, DP_pointer, DSl_slice, DM_map, DA_agg, DTup_tuple, DCons_cons, DNil_nil, NN_some, BIf_true, BIf_false, BIf_same, List.toList_toArray, Bool.not_true, Bool.not_false]
    first | refine hs.ld 1 rfl rfl ?_ | refine hs.ld 2 rfl rfl ?_ | refine hs.ld 3 rfl rfl ?_ | refine hs.ld 4 rfl rfl ?_ | refine hs.ld 5 rfl rfl ?_ | refine hs.ld 6 rfl rfl ?_ | refine hs.ld 7 rfl rfl ?_ | refine hs.ld 8 rfl rfl ?_
    try simp only [DI_int', DB_bool, DS_string, DP_pointer, DSl_slice, DM_map, DA_agg, DTup_tuple, DCons_cons, DNil_nil, NN_some, BIf_true, BIf_false, BIf_same, List.toList_toArray, Bool.not_true, Bool.not_false]
    refine HCalls.use (Of_ok k sec s H') ?_
    try simp only [DI_int', DB_bool, DS_string, DP_pointer, DSl_slice, DM_map, DA_agg, DTup_tuple, DCons_cons, DNil_nil, NN_some, BIf_true, BIf_false, BIf_same, List.toList_toArray, Bool.not_true, Bool.not_false]
    have : OfV k sec s = (layV k.toNat (perN s), 0) := by unfold OfV; rw [if_pos (by omega), if_neg (by omega)]
    rw [this]
    refine hs.stw 2 rfl rfl rfl rfl fun H' hs => ?_
    refine hs.ldw 2 rfl rfl ?_
    exact hs.fin 0 rfl _
  · rw [Bool.not_eq_true] at h
    rw [if_neg (by rw [h]; simp), h]
    simp only [DI_int', DB_bool, DS_string, DP_pointer, DSl_slice, DM_map, DA_agg, DTup_tuple, DCons_cons, DNil_nil, NN_some, BIf_true, BIf_false, BIf_same, List.toList_toArray, Bool.not_true, Bool.not_false]
    refine hs.stw 2 rfl rfl rfl rfl fun H' hs => ?_
    refine hs.ldw 2 rfl rfl ?_
    exact hs.fin 0 rfl _

end Go.Proofs.YtlgpappgnndgiaaGreatDoor.Sup

end
section
/-! HwM -/
/- The frame of the proofs: maps from pointers to whole blocks, with int values. -/
set_option maxRecDepth 100000
set_option linter.unusedSimpArgs false
set_option linter.unusedVariables false
set_option linter.unnecessarySimpa false
set_option linter.unusedSectionVars false
namespace Go.Hw
open Go

def ptrV (b : Nat) : Value := .pointer (some ⟨b, 0, none⟩)
def ent (x : Nat × Int × Nat) : MapEntry := { key := ptrV x.1, val := .int .i64 x.2.1, born := x.2.2 }
def mapO (l : List (Nat × Int × Nat)) (clock : Nat) : AO := .obj (.map (l.map ent).toArray clock)
def PlainB (H : Hp) (b : Nat) : Prop := ∃ c e, H b = some (.obj (.cells c e))

theorem PlainB.le {H H' : Hp} {b : Nat} (h : PlainB H b) (k : H.le H') : PlainB H' b := by
  obtain ⟨c, e, h⟩ := h; exact ⟨c, e, k _ _ h⟩

theorem PlainB.heap {H : Hp} {w : World} {b : Nat} (h : PlainB H b) (hw : Fits H w) : ∃ c e, w.heap[b]? = some (.cells c e (0, 0)) := by
  obtain ⟨c, e, h⟩ := h
  obtain ⟨o, ho, hh⟩ := hw _ _ h
  cases hh
  exact ⟨c, e, ho⟩

theorem mapO.heap {H : Hp} {w : World} {r clock : Nat} {l : List (Nat × Int × Nat)} (h : H r = some (mapO l clock)) (hw : Fits H w) : w.heap[r]? = some (.map (l.map ent).toArray clock) := by
  obtain ⟨o, ho, hh⟩ := hw _ _ h
  cases hh
  exact ho

section
variable {P : Program} {t te : TypeId} {j : TypeInfo} (ht : P.underlying t = some (.pointer te)) (hj : P.info? te = some j) (hs : j.size ≠ 0)
include ht hj hs

theorem equal_ptr_run {H : Hp} {w : World} (hw : Fits H w) {a b : Nat} (ha : PlainB H a) (hb : PlainB H b) : (Op.equal t (ptrV a) (ptrV b)).run P w = .ok (decide (a = b)) w := by
  obtain ⟨ca, ea, ha⟩ := ha.heap hw
  obtain ⟨cb, eb, hb⟩ := hb.heap hw
  unfold Op.equal Op.maxDepth Op.equalIn ptrV
  simp only [Sem.run_bind, underlying_run ht, Result.andThen_ok, sizeOf_run hj]
  rw [if_pos hs]
  by_cases e : a = b
  · subst e
    rw [run_sameAddr_same]; simp
  · rw [run_sameAddr_other w (a := ⟨a, 0, none⟩) (b := ⟨b, 0, none⟩) (by simpa using e) ha hb]; simp [e]

theorem equal_nil_run {w : World} {b : Nat} : (Op.equal t (.pointer none) (ptrV b)).run P w = .ok false w := by
  unfold Op.equal Op.maxDepth Op.equalIn ptrV
  simp [underlying_run ht]

def findR (a : Nat) : List (Nat × Int × Nat) → Nat → Option (Nat × Value)
  | [], _ => none
  | x :: l, i => if a = x.1 then some (i, .int .i64 x.2.1) else findR a l (i + 1)

theorem findAsk_run {H : Hp} {w : World} (hw : Fits H w) {a : Nat} (ha : PlainB H a) : ∀ (l : List (Nat × Int × Nat)) (i : Nat), (∀ x ∈ l, PlainB H x.1) → (Instr.findAsking t (ptrV a) (l.map ent) i).run P w = .ok (findR a l i) w
  | [], i, _ => by simp [Instr.findAsking, findR]
  | x :: l, i, h => by
    simp only [List.map_cons, Instr.findAsking, Sem.run_bind]
    rw [show (ent x).key = ptrV x.1 from rfl, equal_ptr_run ht hj hs hw ha (h x (by simp))]
    simp only [Result.andThen_ok, findR]
    by_cases e : a = x.1
    · simp [e, ent]
    · simp only [e, decide_false, Bool.false_eq_true, if_false]
      exact findAsk_run hw ha l (i + 1) (fun y hy => h y (by simp [hy]))

theorem findAsk_nil {w : World} : ∀ (l : List (Nat × Int × Nat)) (i : Nat), (Instr.findAsking t (.pointer none) (l.map ent) i).run P w = .ok none w
  | [], i => by simp [Instr.findAsking]
  | x :: l, i => by
    simp only [List.map_cons, Instr.findAsking, Sem.run_bind]
    rw [show (ent x).key = ptrV x.1 from rfl, equal_nil_run ht hj hs]
    simp only [Result.andThen_ok, Bool.false_eq_true, if_false]
    exact findAsk_nil l (i + 1)

theorem findKey_run {H : Hp} {w : World} (hw : Fits H w) {a : Nat} (ha : PlainB H a) (l : List (Nat × Int × Nat)) (h : ∀ x ∈ l, PlainB H x.1) : (Instr.findKey t (ptrV a) (l.map ent)).run P w = .ok (findR a l 0) w := by
  unfold Instr.findKey
  simp only [Sem.run_bind, underlying_run ht, Result.andThen_ok]
  cases l with
  | nil => simp [Instr.findNow, findR]
  | cons x l =>
    simp only [List.map_cons, Instr.findNow, Instr.sameNow]
    exact findAsk_run ht hj hs hw ha (x :: l) 0 h

theorem findKey_nil {w : World} (l : List (Nat × Int × Nat)) : (Instr.findKey t (.pointer none) (l.map ent)).run P w = .ok none w := by
  unfold Instr.findKey
  simp only [Sem.run_bind, underlying_run ht, Result.andThen_ok]
  cases l with
  | nil => simp [Instr.findNow]
  | cons x l =>
    simp only [List.map_cons, Instr.findNow, Instr.sameNow]
    exact findAsk_nil ht hj hs (x :: l) 0

theorem checkKey_run {w : World} (e : Bool) (p : Option Addr) : (Instr.checkKey e 10000 t (.pointer p)).run P w = .ok () w := by
  unfold Instr.checkKey
  simp [underlying_run ht]

variable {tm tv : TypeId} (hm : P.underlying tm = some (.map t tv))
include hm

theorem lookup_ptr {jv : TypeInfo} (hv : P.info? tv = some jv) (hz : jv.zero = some (.int .i64 0)) {H : Hp} {r clock a : Nat} {l : List (Nat × Int × Nat)} (hr : H r = some (mapO l clock)) (ha : PlainB H a) (hl : ∀ x ∈ l, PlainB H x.1) {K : Value → Prop}
    (k1 : ∀ i v, findR a l 0 = some (i, v) → K (.tuple #[v, .bool true])) (k2 : findR a l 0 = none → K (.tuple #[.int .i64 0, .bool false])) : SemV P (Instr.lookup tm (.map (some r)) (ptrV a) true) H K := by
  have hrun : ∀ w, Fits H w → (Instr.lookup tm (.map (some r)) (ptrV a) true).run P w = .ok (match findR a l 0 with | some (_, v) => .tuple #[v, .bool true] | none => .tuple #[.int .i64 0, .bool false]) w := fun w hw => by
    have hh := mapO.heap hr hw
    simp only [Instr.lookup, Sem.run_bind, underlying_run hm, Result.andThen_ok, MapKept.run_getObj_map hh, Sem.run_pure]
    rw [show ptrV a = .pointer (some ⟨a, 0, none⟩) from rfl, checkKey_run ht hj hs]
    simp only [Result.andThen_ok]
    rw [show (Value.pointer (some ⟨a, 0, none⟩)) = ptrV a from rfl, findKey_run ht hj hs hw ha l hl]
    simp only [Result.andThen_ok]
    cases findR a l 0 with
    | some x => simp
    | none => simp [zeroValue, typeInfo_run hv, hz]
  refine ⟨_, ?_, hrun⟩
  cases hf : findR a l 0 with
  | some x => exact k1 _ _ hf
  | none => exact k2 hf

theorem lookup_nilptr {jv : TypeInfo} (hv : P.info? tv = some jv) (hz : jv.zero = some (.int .i64 0)) {H : Hp} {r clock : Nat} {l : List (Nat × Int × Nat)} (hr : H r = some (mapO l clock)) {K : Value → Prop} (k2 : K (.tuple #[.int .i64 0, .bool false])) :
    SemV P (Instr.lookup tm (.map (some r)) (.pointer none) true) H K := by
  refine ⟨_, k2, fun w hw => ?_⟩
  have hh := mapO.heap hr hw
  simp only [Instr.lookup, Sem.run_bind, underlying_run hm, Result.andThen_ok, MapKept.run_getObj_map hh, Sem.run_pure]
  rw [checkKey_run ht hj hs]
  simp only [Result.andThen_ok]
  rw [findKey_nil ht hj hs]
  simp [zeroValue, typeInfo_run hv, hz]
end

theorem erase_map {α β : Type} (f : α → β) : ∀ (l : List α) (k : Nat), (l.map f).eraseIdx k = (l.eraseIdx k).map f
  | [], k => by simp
  | x :: l, 0 => by simp
  | x :: l, k + 1 => by simp [erase_map f l k]

theorem At.setMap {H0 H : Hp} {w0 w : World} {r clock : Nat} {l : List (Nat × Int × Nat)} (hA : At H0 w0 H w) (hr : H r = some (mapO l clock)) (o : Obj) : At H0 w0 (H.set r (.obj o)) { w with heap := w.heap.setIfInBounds r o } := by
  have hh := mapO.heap hr hA.fits
  have hlt : r < w.heap.size := (Array.getElem?_eq_some_iff.1 hh).1
  refine hA.turn hr (x' := o) ?_ rfl ?_ rfl rfl rfl (fun c hc => ?_)
  · show (w.heap.setIfInBounds r o)[r]? = some o
    simp [hlt]
  · show (w.heap.setIfInBounds r o).size = w.heap.size
    simp
  · show (w.heap.setIfInBounds r o)[c]? = w.heap[c]?
    rw [Array.getElem?_setIfInBounds_ne (Ne.symm hc)]

section
variable {P : Program} {t te : TypeId} {j : TypeInfo} (ht : P.underlying t = some (.pointer te)) (hj : P.info? te = some j) (hs : j.size ≠ 0)
variable {tm tv : TypeId} (hm : P.underlying tm = some (.map t tv))
include ht hj hs hm

theorem mapUpdate_new {H : Hp} {r clock a : Nat} {n : Int} {l : List (Nat × Int × Nat)} (hr : H r = some (mapO l clock)) (ha : PlainB H a) (hl : ∀ x ∈ l, PlainB H x.1) (hf : findR a l 0 = none) {K : Unit → Hp → Prop}
    (k : K () (H.set r (mapO (l ++ [(a, n, clock)]) (clock + 1)))) : SemK P (Instr.mapUpdate tm (.map (some r)) (ptrV a) (.int .i64 n)) H K := fun H0 w0 w hA => by
  have hh := mapO.heap hr hA.fits
  refine ⟨(), _, _, ?_, k, hA.setMap hr _⟩
  simp only [Instr.mapUpdate, Sem.run_bind, underlying_run hm, Result.andThen_ok, MapKept.run_getObj_map hh]
  rw [show ptrV a = .pointer (some ⟨a, 0, none⟩) from rfl, checkKey_run ht hj hs]
  simp only [Result.andThen_ok]
  rw [show (Value.pointer (some ⟨a, 0, none⟩)) = ptrV a from rfl, findKey_run ht hj hs hA.fits ha l hl, hf]
  simp only [Result.andThen_ok]
  rw [MapKept.run_setObj_map _ hh]
  simp [ent]

theorem findR_filter (a : Nat) : ∀ (l : List (Nat × Int × Nat)) (i k : Nat) (v : Value), (l.map (·.1)).Nodup → findR a l i = some (k, v) → i ≤ k ∧ l.eraseIdx (k - i) = l.filter (fun x => x.1 ≠ a) ∧ ∃ x ∈ l, x.1 = a ∧ v = .int .i64 x.2.1
  | [], i, k, v, _, h => by cases h
  | x :: l, i, k, v, hn, h => by
    unfold findR at h
    simp only [List.map_cons, List.nodup_cons] at hn
    by_cases e : a = x.1
    · rw [if_pos e] at h
      cases h
      refine ⟨Nat.le_refl _, ?_, x, by simp, e.symm, rfl⟩
      rw [Nat.sub_self, List.eraseIdx_cons_zero, List.filter_cons_of_neg (by simp [e])]
      symm
      rw [List.filter_eq_self]
      intro y hy
      have : y.1 ≠ a := fun e2 => hn.1 (by rw [← e, ← e2]; exact List.mem_map_of_mem hy)
      simpa using this
    · rw [if_neg e] at h
      obtain ⟨h1, h2, y, hy, h3, h4⟩ := findR_filter a l (i + 1) k v hn.2 h
      refine ⟨by omega, ?_, y, by simp [hy], h3, h4⟩
      rw [show k - i = (k - (i + 1)) + 1 by omega, List.eraseIdx_cons_succ, h2, List.filter_cons_of_pos (by simp; exact fun e2 => e e2.symm)]

theorem delete_ptr {ty : TypeId} {t2 : TypeId} {H : Hp} {r clock a k : Nat} {v : Value} {l : List (Nat × Int × Nat)} (hr : H r = some (mapO l clock)) (ha : PlainB H a) (hl : ∀ x ∈ l, PlainB H x.1) (hn : (l.map (·.1)).Nodup) (hf : findR a l 0 = some (k, v)) {K : Value → Hp → Prop}
    (kk : K (.tuple #[]) (H.set r (mapO (l.filter fun x => x.1 ≠ a) clock))) : SemK P (Builtin.delete_ #[tm, t2] ty #[.map (some r), ptrV a]) H K := fun H0 w0 w hA => by
  have hh := mapO.heap hr hA.fits
  obtain ⟨_, h2, _⟩ := findR_filter ht hj hs hm a l 0 k v hn hf
  rw [Nat.sub_zero] at h2
  refine ⟨_, _, _, ?_, kk, hA.setMap hr _⟩
  simp only [Builtin.delete_, Sem.run_bind, underlying_run hm, Result.andThen_ok, MapKept.run_getObj_map hh, List.getElem?_toArray, List.getElem?_cons_zero, List.getElem?_cons_succ]
  rw [show ptrV a = .pointer (some ⟨a, 0, none⟩) from rfl, checkKey_run ht hj hs]
  simp only [Result.andThen_ok]
  rw [show (Value.pointer (some ⟨a, 0, none⟩)) = ptrV a from rfl, findKey_run ht hj hs hA.fits ha l hl, hf]
  simp only [Result.andThen_ok]
  rw [Sem.run_bind, MapKept.run_setObj_map _ hh]
  rw [← h2, ← erase_map]
  simp

theorem clear_ptr {ty : TypeId} {H : Hp} {r clock : Nat} {l : List (Nat × Int × Nat)} (hr : H r = some (mapO l clock)) {K : Value → Hp → Prop} (kk : K (.tuple #[]) (H.set r (mapO [] clock))) : SemK P (Builtin.clear_ #[tm] ty #[.map (some r)]) H K := fun H0 w0 w hA => by
  have hh := mapO.heap hr hA.fits
  refine ⟨_, _, _, ?_, kk, hA.setMap hr _⟩
  simp only [Builtin.clear_, Sem.run_bind, underlying_run hm, Result.andThen_ok, List.getElem?_toArray, List.getElem?_cons_zero, MapKept.run_getObj_map hh]
  try rw [Sem.run_bind]
  rw [MapKept.run_setObj_map _ hh]
  simp
end

end Go.Hw

end
section
/-! HwI -/
/- The frame of the proofs: a map's entries, one after the other. -/
set_option maxRecDepth 100000
set_option linter.unusedSimpArgs false
set_option linter.unusedVariables false
set_option linter.unnecessarySimpa false
set_option linter.unusedSectionVars false
namespace Go.Hw
open Go

def iterO (mp since : Nat) (seen : Array Nat) (last : Nat) : AO := .obj (.mapIter (some mp) since seen last)

theorem iterO.heap {H : Hp} {w : World} {it mp since last : Nat} {seen : Array Nat} (h : H it = some (iterO mp since seen last)) (hw : Fits H w) : w.heap[it]? = some (.mapIter (some mp) since seen last) := by
  obtain ⟨o, ho, hh⟩ := hw _ _ h
  cases hh
  exact ho

theorem range_map {P : Program} {t k e : TypeId} (ht : P.underlying t = some (.map k e)) {H : Hp} {mp cl : Nat} {tk : List (Nat × Int × Nat)} (hm : H mp = some (mapO tk cl)) {K : Value → Hp → Prop}
    (kk : ∀ it, H it = none → K (.pointer (some ⟨it, 0, none⟩)) (H.set it (iterO mp cl #[] cl))) : SemK P (Instr.range t (.map (some mp))) H K := fun H0 w0 w hA => by
  have hh := mapO.heap hm hA.fits
  obtain ⟨hn, hA'⟩ := hA.new (o := iterO mp cl #[] cl) (x := .mapIter (some mp) cl #[] cl) rfl
  refine ⟨_, _, _, ?_, kk _ hn, hA'⟩
  simp only [Instr.range, Sem.run_bind, underlying_run ht, Result.andThen_ok, MapKept.run_getObj_map hh, Sem.run_pure]
  simp

theorem At.setIter {H0 H : Hp} {w0 w : World} {it mp since last : Nat} {seen : Array Nat} (hA : At H0 w0 H w) (hr : H it = some (iterO mp since seen last)) (o : Obj) : At H0 w0 (H.set it (.obj o)) { w with heap := w.heap.setIfInBounds it o } := by
  have hh := iterO.heap hr hA.fits
  have hlt : it < w.heap.size := (Array.getElem?_eq_some_iff.1 hh).1
  refine hA.turn hr (x' := o) ?_ rfl ?_ rfl rfl rfl (fun c hc => ?_)
  · show (w.heap.setIfInBounds it o)[it]? = some o
    simp [hlt]
  · show (w.heap.setIfInBounds it o).size = w.heap.size
    simp
  · show (w.heap.setIfInBounds it o)[c]? = w.heap[c]?
    rw [Array.getElem?_setIfInBounds_ne (Ne.symm hc)]

theorem choose_next {P : Program} {H0 H : Hp} {w0 w : World} (hA : At H0 w0 H w) (n : Nat) (hn : 0 < n) : ∃ i w', i < n ∧ (choose (.mapNext n)).run P w = .ok i w' ∧ At H0 w0 H w' := by
  by_cases h : n ≤ 1
  · exact ⟨0, w, hn, by simp [Question.forced, h], hA⟩
  · exact ⟨_, _, Nat.mod_lt _ hn, by simp [Question.forced, h, Question.cut]; rfl, hA.drew⟩

def unseen (tk : List (Nat × Int × Nat)) (seen : Array Nat) : List (Nat × Int × Nat) := tk.filter fun x => !seen.contains x.2.2

theorem next_map {P : Program} {ty : TypeId} {H : Hp} {it mp since last cl : Nat} {seen : Array Nat} {tk : List (Nat × Int × Nat)} (hi : H it = some (iterO mp since seen last)) (hm : H mp = some (mapO tk cl)) (hold : ∀ x ∈ tk, x.2.2 < since) (hlast : ∀ x ∈ tk, x.2.2 < last) {K : Value → Hp → Prop}
    (k1 : ∀ x ∈ unseen tk seen, K (.tuple #[.bool true, ptrV x.1, .int .i64 x.2.1]) (H.set it (iterO mp since (seen.push x.2.2) cl))) (k0 : unseen tk seen = [] → K (.tuple #[.bool false]) H) :
    SemK P (Instr.next (.pointer (some ⟨it, 0, none⟩)) false ty) H K := fun H0 w0 w hA => by
  have hh := iterO.heap hi hA.fits
  have hg := mapO.heap hm hA.fits
  have hgi : (getObj it).run P w = .ok (.mapIter (some mp) since seen last) w := by simp [getObj, Sem.run, hh]
  have hleft : ((tk.map ent).toArray.filter fun e => !seen.contains e.born) = ((unseen tk seen).map ent).toArray := by
    unfold unseen
    rw [List.filter_toArray, List.filter_map]
    rfl
  have hcond : (!seen.isEmpty && !(tk.map ent).toArray.isEmpty && (tk.map ent).toArray.all (fun e => decide (e.born ≥ last))) = false := by
    cases tk with
    | nil => simp
    | cons x l =>
      have := hlast x (by simp)
      have h2 : ¬ last ≤ x.2.2 := by omega
      simp [ent, h2]
  have hold' : (((unseen tk seen).map ent).toArray.filter fun e => decide (e.born < since)) = ((unseen tk seen).map ent).toArray := by
    rw [List.filter_toArray]
    congr 1
    rw [List.filter_eq_self]
    intro e he
    obtain ⟨x, hx, rfl⟩ := List.mem_map.1 he
    have := hold x (List.mem_filter.1 hx).1
    exact decide_eq_true this
  have hnew : (((unseen tk seen).map ent).toArray.filter fun e => decide (e.born ≥ since)) = #[] := by
    rw [List.filter_toArray]
    congr 1
    rw [List.filter_eq_nil_iff]
    intro e he
    obtain ⟨x, hx, rfl⟩ := List.mem_map.1 he
    have := hold x (List.mem_filter.1 hx).1
    simp [ent]; omega
  simp only [Instr.next, Sem.run_bind, hgi, Result.andThen_ok, MapKept.run_getObj_map hg, hcond, Bool.false_eq_true, if_false, hleft, hold', hnew, Sem.run_pure]
  cases hU : unseen tk seen with
  | nil =>
    obtain ⟨i, w', hi', hr, hA'⟩ := choose_next (P := P) hA 1 (by omega)
    obtain rfl : i = 0 := by omega
    refine ⟨_, H, w', ?_, k0 hU, hA'⟩
    rw [show ((if (List.map ent ([] : List (Nat × Int × Nat))).toArray.isEmpty = true then #[none] else #[]) ++ Array.map some ((List.map ent ([] : List (Nat × Int × Nat))).toArray ++ #[])) = (#[none] : Array (Option MapEntry)) by simp, show (#[none] : Array (Option MapEntry)).size = 1 from rfl, hr]
    rfl
  | cons x l =>
    obtain ⟨i, w', hi', hr, hA'⟩ := choose_next (P := P) hA (x :: l).length (by simp)
    have e : ((if (List.map ent (x :: l)).toArray.isEmpty = true then #[none] else #[]) ++ Array.map some ((List.map ent (x :: l)).toArray ++ #[])) = ((x :: l).map fun y => some (ent y)).toArray := by simp
    rw [e, show ((x :: l).map fun y => some (ent y)).toArray.size = (x :: l).length by simp, hr]
    have hy : (x :: l)[i] ∈ unseen tk seen := by rw [hU]; exact List.getElem_mem hi'
    refine ⟨_, _, _, ?_, k1 _ hy, hA'.setIter hi _⟩
    simp only [Result.andThen_ok, List.getElem?_toArray, List.getElem?_map, List.getElem?_eq_getElem hi', Option.map_some, Sem.run_bind]
    have hh' := iterO.heap hi hA'.fits
    rw [show (setObj it (Obj.mapIter (some mp) since (seen.push (ent (x :: l)[i]).born) cl)).run P w' = .ok () { w' with heap := w'.heap.setIfInBounds it (Obj.mapIter (some mp) since (seen.push (ent (x :: l)[i]).born) cl) } by simp [setObj, Sem.run, hh']]
    rfl

theorem find_born : ∀ (tk : List (Nat × Int × Nat)) (x : Nat × Int × Nat), x ∈ tk → (tk.map (·.2.2)).Nodup → (tk.map ent).find? (fun e => e.born == x.2.2) = some (ent x)
  | [], x, h, _ => by simp at h
  | y :: l, x, h, hn => by
    simp only [List.map_cons, List.nodup_cons] at hn
    simp only [List.map_cons, List.find?_cons]
    rcases List.mem_cons.1 h with rfl | h
    · simp [ent]
    · have : ¬ (y.2.2 = x.2.2) := fun e => hn.1 (by rw [e]; exact List.mem_map_of_mem h)
      rw [show ((ent y).born == x.2.2) = false by simpa [ent] using this]
      exact find_born l x h hn.2

theorem entry_map {P : Program} {H : Hp} {it mp since cl : Nat} {seen : Array Nat} {tk : List (Nat × Int × Nat)} (hi : H it = some (iterO mp since seen cl)) (hm : H mp = some (mapO tk cl)) {x : Nat × Int × Nat} (hx : x ∈ tk) (hb : seen.back? = some x.2.2) (hn : (tk.map (·.2.2)).Nodup) {K : Value → Hp → Prop}
    (k : K (.tuple #[ptrV x.1, .int .i64 x.2.1]) H) : SemK P (Instr.entry (.pointer (some ⟨it, 0, none⟩))) H K := fun H0 w0 w hA => by
  have hh := iterO.heap hi hA.fits
  have hg := mapO.heap hm hA.fits
  have hgi : (getObj it).run P w = .ok (.mapIter (some mp) since seen cl) w := by simp [getObj, Sem.run, hh]
  refine ⟨_, H, w, ?_, k, hA⟩
  simp only [Instr.entry, Sem.run_bind, hgi, Result.andThen_ok, hb, MapKept.run_getObj_map hg, bne_self_eq_false, Bool.false_eq_true, if_false, List.find?_toArray, find_born tk x hx hn]
  rfl

end Go.Hw

end
section
/-! HwK -/
/- The frame of the proofs: maps whose keys are ints, as parts of memory. -/
set_option maxRecDepth 100000
set_option linter.unusedSimpArgs false
set_option linter.unusedVariables false
set_option linter.unnecessarySimpa false
set_option linter.unusedSectionVars false
namespace Go.Hw
open Go

def entK (x : Int × Value × Nat) : MapEntry := { key := .int .i64 x.1, val := x.2.1, born := x.2.2 }
def kmap (l : List (Int × Value × Nat)) (clock : Nat) : AO := .obj (.map (l.map entK).toArray clock)
def getK : List (Int × Value × Nat) → Int → Option Value
  | [], _ => none
  | x :: l, k => if k = x.1 then some x.2.1 else getK l k
def ixK (k : Int) : List (Int × Value × Nat) → Nat → Option (Nat × Value)
  | [], _ => none
  | x :: l, i => if k = x.1 then some (i, x.2.1) else ixK k l (i + 1)

structure OkK (l : List (Int × Value × Nat)) (clock : Nat) (m : Int → Option Value) : Prop where
  nd : (l.map (·.1)).Nodup
  bn : (l.map (·.2.2)).Nodup
  bl : ∀ x ∈ l, x.2.2 < clock
  get : ∀ k, getK l k = m k

/-- A map whose keys are ints. -/
def Mp (r : Nat) (m : Int → Option Value) : As := fun H => ∃ l clock, H r = some (kmap l clock) ∧ OkK l clock m

theorem ixK_get (k : Int) : ∀ (l : List (Int × Value × Nat)) (i : Nat), (ixK k l i).map (·.2) = getK l k
  | [], _ => rfl
  | x :: l, i => by
    unfold ixK getK
    split
    · rfl
    · exact ixK_get k l (i + 1)

theorem getK_none {l : List (Int × Value × Nat)} {k : Int} : getK l k = none ↔ ∀ x ∈ l, x.1 ≠ k := by
  induction l with
  | nil => simp [getK]
  | cons x l ih =>
    unfold getK
    split
    · rename_i h; simp [h]
    · rename_i h
      rw [ih]
      constructor
      · intro h2 y hy
        rcases List.mem_cons.1 hy with rfl | hy
        · exact fun e => h e.symm
        · exact h2 y hy
      · intro h2 y hy; exact h2 y (by simp [hy])

theorem getK_mem {l : List (Int × Value × Nat)} (hn : (l.map (·.1)).Nodup) {x : Int × Value × Nat} (hx : x ∈ l) : getK l x.1 = some x.2.1 := by
  induction l with
  | nil => simp at hx
  | cons y l ih =>
    simp only [List.map_cons, List.nodup_cons] at hn
    unfold getK
    rcases List.mem_cons.1 hx with rfl | hx
    · simp
    · rw [if_neg (fun e => hn.1 (by rw [← e]; exact List.mem_map_of_mem hx))]
      exact ih hn.2 hx

theorem getK_some {l : List (Int × Value × Nat)} {k : Int} {v : Value} (h : getK l k = some v) : ∃ b, (k, v, b) ∈ l := by
  induction l with
  | nil => simp [getK] at h
  | cons y l ih =>
    unfold getK at h
    split at h
    · rename_i e; cases h; exact ⟨y.2.2, by rw [e]; simp⟩
    · obtain ⟨b, hb⟩ := ih h; exact ⟨b, by simp [hb]⟩

theorem kmap.heap {H : Hp} {w : World} {r clock : Nat} {l : List (Int × Value × Nat)} (h : H r = some (kmap l clock)) (hw : Fits H w) : w.heap[r]? = some (.map (l.map entK).toArray clock) := by
  obtain ⟨o, ho, hh⟩ := hw _ _ h
  cases hh
  exact ho

theorem At.setK {H0 H : Hp} {w0 w : World} {r clock : Nat} {l : List (Int × Value × Nat)} (hA : At H0 w0 H w) (hr : H r = some (kmap l clock)) (o : Obj) : At H0 w0 (H.set r (.obj o)) { w with heap := w.heap.setIfInBounds r o } := by
  have hh := kmap.heap hr hA.fits
  have hlt : r < w.heap.size := (Array.getElem?_eq_some_iff.1 hh).1
  refine hA.turn hr (x' := o) ?_ rfl ?_ rfl rfl rfl (fun c hc => ?_)
  · show (w.heap.setIfInBounds r o)[r]? = some o
    simp [hlt]
  · show (w.heap.setIfInBounds r o).size = w.heap.size
    simp
  · show (w.heap.setIfInBounds r o)[c]? = w.heap[c]?
    rw [Array.getElem?_setIfInBounds_ne (Ne.symm hc)]

section
variable {P : Program} {t : TypeId} (ht : P.underlying t = some (.int .i64))
include ht

theorem findNowK (k : Int) : ∀ (l : List (Int × Value × Nat)) (i : Nat), Instr.findNow (.int .i64) (.int .i64 k) (l.map entK) i = some (ixK k l i)
  | [], _ => rfl
  | x :: l, i => by
    simp only [List.map_cons, Instr.findNow]
    rw [show Instr.sameNow (.int .i64) (.int .i64 k) (entK x).key = some (k == x.1) by simp [Instr.sameNow, entK]]
    unfold ixK
    by_cases h : k = x.1
    · simp [h, entK]
    · rw [show (k == x.1) = false by simpa using h]
      simp only [h, if_false]
      exact findNowK k l (i + 1)

theorem findKeyK {w : World} (k : Int) (l : List (Int × Value × Nat)) : (Instr.findKey t (.int .i64 k) (l.map entK)).run P w = .ok (ixK k l 0) w := by
  unfold Instr.findKey
  simp [underlying_run ht, findNowK ht k l 0]

theorem checkKeyK {w : World} (e : Bool) (k : Int) : (Instr.checkKey e 10000 t (.int .i64 k)).run P w = .ok () w := by
  unfold Instr.checkKey
  simp [underlying_run ht]

variable {tm tv : TypeId} (hm : P.underlying tm = some (.map t tv))
include hm

theorem lookupK {jv : TypeInfo} {z : Value} (hv : P.info? tv = some jv) (hz : jv.zero = some z) {H : Hp} {r clock : Nat} {l : List (Int × Value × Nat)} {k : Int} (hr : H r = some (kmap l clock)) (ok : Bool) {K : Value → Prop}
    (kk : K (match getK l k with | some v => if ok then .tuple #[v, .bool true] else v | none => if ok then .tuple #[z, .bool false] else z)) : SemV P (Instr.lookup tm (.map (some r)) (.int .i64 k) ok) H K := by
  refine ⟨_, kk, fun w hw => ?_⟩
  have hh := kmap.heap hr hw
  simp only [Instr.lookup, Sem.run_bind, underlying_run hm, Result.andThen_ok, MapKept.run_getObj_map hh, Sem.run_pure]
  rw [checkKeyK ht]
  simp only [Result.andThen_ok]
  rw [findKeyK ht]
  simp only [Result.andThen_ok]
  rw [← ixK_get k l 0]
  cases ixK k l 0 with
  | some x => cases ok <;> simp
  | none => cases ok <;> simp [zeroValue, typeInfo_run hv, hz]

theorem ixK_lt (k : Int) : ∀ (l : List (Int × Value × Nat)) (i j : Nat) (v : Value), ixK k l i = some (j, v) → i ≤ j ∧ ∃ x, l[j - i]? = some x ∧ x.1 = k ∧ x.2.1 = v
  | [], _, _, _, h => by cases h
  | x :: l, i, j, v, h => by
    unfold ixK at h
    split at h
    · rename_i e; cases h; exact ⟨Nat.le_refl _, x, by simp, e.symm, rfl⟩
    · obtain ⟨h1, y, h2, h3⟩ := ixK_lt k l (i + 1) j v h
      exact ⟨by omega, y, by rw [show j - i = (j - (i + 1)) + 1 by omega, List.getElem?_cons_succ]; exact h2, h3⟩

def updM (m : Int → Option Value) (k : Int) (v : Value) : Int → Option Value := fun j => if j = k then some v else m j

theorem getK_append (l : List (Int × Value × Nat)) (x : Int × Value × Nat) (h : getK l x.1 = none) (j : Int) : getK (l ++ [x]) j = updM (getK l) x.1 x.2.1 j := by
  induction l with
  | nil => simp [getK, updM]
  | cons y l ih =>
    unfold getK at h
    split at h
    · cases h
    · rename_i hne
      rw [List.cons_append]
      unfold getK updM
      have := ih h
      unfold updM at this
      by_cases e : j = x.1
      · rw [if_pos e, e, if_neg hne]
        rw [e, if_pos rfl] at this; exact this
      · rw [if_neg e]
        rw [if_neg e] at this
        rw [this]
        rfl

theorem getK_set : ∀ (l : List (Int × Value × Nat)) (i : Nat) (x : Int × Value × Nat) (v : Value), (l.map (·.1)).Nodup → l[i]? = some x → ∀ j, getK (l.set i (x.1, v, x.2.2)) j = updM (getK l) x.1 v j
  | [], i, x, v, _, h, j => by simp at h
  | y :: l, 0, x, v, hn, h, j => by
    simp at h; subst h
    simp only [List.set_cons_zero]
    unfold getK updM
    by_cases e : j = y.1
    · simp [e]
    · simp only [e, if_false, getK]
  | y :: l, i + 1, x, v, hn, h, j => by
    simp only [List.map_cons, List.nodup_cons] at hn
    rw [List.getElem?_cons_succ] at h
    have ih := getK_set l i x v hn.2 h j
    have hne : y.1 ≠ x.1 := fun e => hn.1 (by rw [e]; exact List.mem_map_of_mem (List.mem_of_getElem? h))
    simp only [List.set_cons_succ]
    unfold getK updM
    unfold updM at ih
    by_cases e : j = x.1
    · rw [if_pos e, e, if_neg (Ne.symm hne)]
      rw [e, if_pos rfl] at ih; exact ih
    · rw [if_neg e]
      rw [if_neg e] at ih
      rw [ih]
      rfl

theorem map_set_same {α β : Type} (f : α → β) : ∀ (l : List α) (i : Nat) (x y : α), l[i]? = some x → f y = f x → (l.set i y).map f = l.map f
  | [], _, _, _, h, _ => by simp at h
  | z :: l, 0, x, y, h, e => by simp at h; subst h; simp [e]
  | z :: l, i + 1, x, y, h, e => by
    simp only [List.set_cons_succ, List.map_cons]
    rw [map_set_same f l i x y (by simpa using h) e]

theorem Sep.upd {L : List As} {H : Hp} (h : Sep L H) (i : Nat) {r : Nat} {m : Int → Option Value} (hi : L[i]? = some (Mp r m)) {k : Int} {v : Value} {K : Unit → Hp → Prop} (kk : ∀ H', Sep (L.set i (Mp r (updM m k v))) H' → K () H') :
    SemK P (Instr.mapUpdate tm (.map (some r)) (.int .i64 k) v) H K := fun H0 w0 w hA => by
  obtain ⟨H1, ⟨l, clock, hr1, hok⟩, hle⟩ := h.see i hi
  have hr := hle _ _ hr1
  have hh := kmap.heap hr hA.fits
  cases hx : ixK k l 0 with
  | none =>
    have hg : getK l k = none := by rw [← ixK_get k l 0, hx]; rfl
    refine ⟨(), _, _, ?_, kk _ (h.putIn i hi (b := r) (o' := kmap (l ++ [(k, v, clock)]) (clock + 1)) fun H1' hle' hA' => ?_), hA.setK hr _⟩
    · simp only [Instr.mapUpdate, Sem.run_bind, underlying_run hm, Result.andThen_ok, MapKept.run_getObj_map hh]
      rw [checkKeyK ht]
      simp only [Result.andThen_ok]
      rw [findKeyK ht, hx]
      simp only [Result.andThen_ok]
      rw [MapKept.run_setObj_map _ hh]
      simp [entK]
    · obtain ⟨l', clock', hr', _⟩ := hA'
      refine ⟨_, hr', l ++ [(k, v, clock)], clock + 1, Hp.set_same _ _ _, ?_, ?_, fun x hx => ?_, fun j => ?_⟩
      · rw [List.map_append, List.nodup_append]
        refine ⟨hok.nd, by simp, fun a ha b hb e => ?_⟩
        simp at hb; subst hb
        obtain ⟨z, hz, rfl⟩ := List.mem_map.1 ha
        exact getK_none.1 hg z hz e
      · rw [List.map_append, List.nodup_append]
        refine ⟨hok.bn, by simp, fun a ha b hb e => ?_⟩
        simp at hb; subst hb
        obtain ⟨z, hz, rfl⟩ := List.mem_map.1 ha
        have := hok.bl z hz
        omega
      · rcases List.mem_append.1 hx with hx | hx
        · have := hok.bl x hx; omega
        · simp at hx; subst hx; show clock < clock + 1; omega
      · rw [getK_append ht hm l (k, v, clock) hg j]
        unfold updM
        simp only [hok.get]
  | some q =>
    obtain ⟨ix, u⟩ := q
    obtain ⟨_, x, hxl, hxk, hxv⟩ := ixK_lt ht hm k l 0 ix u hx
    rw [Nat.sub_zero] at hxl
    have hlt := (List.getElem?_eq_some_iff.1 hxl).1
    refine ⟨(), _, _, ?_, kk _ (h.putIn i hi (b := r) (o' := kmap (l.set ix (x.1, v, x.2.2)) clock) fun H1' hle' hA' => ?_), hA.setK hr _⟩
    · simp only [Instr.mapUpdate, Sem.run_bind, underlying_run hm, Result.andThen_ok, MapKept.run_getObj_map hh]
      rw [checkKeyK ht]
      simp only [Result.andThen_ok]
      rw [findKeyK ht, hx]
      simp only [Result.andThen_ok]
      have hkey : ((((l.map entK).toArray)[ix]?).map (·.key)).getD (Value.int .i64 k) = .int .i64 k := by
        simp [hxl, entK, hxk]
      rw [hkey]
      simp only [Instr.keyThatStays, Instr.sameBits, beq_self_eq_true, Bool.and_self, if_true, pure_bind]
      rw [MapKept.run_setObj_map _ hh]
      congr 3
      have e : ((l.map entK).toArray.modify ix fun e => { e with key := .int .i64 k, val := v }) = ((l.set ix (x.1, v, x.2.2)).map entK).toArray := by
        apply Array.ext'
        rw [Array.toList_modify]
        simp only
        apply List.ext_getElem?
        intro j
        rw [List.getElem?_modify, List.getElem?_map, List.getElem?_map, List.getElem?_set]
        by_cases ej : ix = j
        · subst ej
          have e2 : l[ix] = x := by
            have := List.getElem?_eq_getElem hlt
            rw [this] at hxl; exact Option.some.inj hxl
          simp [entK, hxk, hlt, e2]
        · simp [ej]
      rw [e]
    · obtain ⟨l', clock', hr', _⟩ := hA'
      refine ⟨_, hr', l.set ix (x.1, v, x.2.2), clock, Hp.set_same _ _ _, ?_, ?_, fun y hy => ?_, fun j => ?_⟩
      · rw [map_set_same ht hm (·.1) l ix x (x.1, v, x.2.2) hxl rfl]; exact hok.nd
      · rw [map_set_same ht hm (·.2.2) l ix x (x.1, v, x.2.2) hxl rfl]; exact hok.bn
      · have : y.2.2 ∈ (l.set ix (x.1, v, x.2.2)).map (·.2.2) := List.mem_map_of_mem hy
        rw [map_set_same ht hm (·.2.2) l ix x (x.1, v, x.2.2) hxl rfl] at this
        obtain ⟨z, hz, e⟩ := List.mem_map.1 this
        have := hok.bl z hz
        have e' : z.2.2 = y.2.2 := e
        omega
      · rw [getK_set ht hm l ix x v hok.nd hxl j]
        unfold updM
        simp only [hok.get, hxk]

theorem Sep.clearK {L : List As} {H : Hp} (h : Sep L H) (i : Nat) {r : Nat} {m : Int → Option Value} (hi : L[i]? = some (Mp r m)) {ty : TypeId} {K : Value → Hp → Prop} (kk : ∀ H', Sep (L.set i (Mp r fun _ => none)) H' → K (.tuple #[]) H') :
    SemK P (Builtin.clear_ #[tm] ty #[.map (some r)]) H K := fun H0 w0 w hA => by
  obtain ⟨H1, ⟨l, clock, hr1, hok⟩, hle⟩ := h.see i hi
  have hr := hle _ _ hr1
  have hh := kmap.heap hr hA.fits
  refine ⟨_, _, _, ?_, kk _ (h.putIn i hi (b := r) (o' := kmap [] clock) fun H1' hle' hA' => ?_), hA.setK hr _⟩
  · simp only [Builtin.clear_, Sem.run_bind, underlying_run hm, Result.andThen_ok, List.getElem?_toArray, List.getElem?_cons_zero, MapKept.run_getObj_map hh]
    try rw [Sem.run_bind]
    rw [MapKept.run_setObj_map _ hh]
    simp
  · obtain ⟨l', clock', hr', _⟩ := hA'
    exact ⟨_, hr', [], clock, Hp.set_same _ _ _, by simp, by simp, fun x hx => by simp at hx, fun j => rfl⟩

end

theorem Mp.new {L : List As} {H : Hp} {b : Nat} (h : Sep (L ++ [pts b (.obj (.map #[] 0))]) H) : Sep (L ++ [Mp b fun _ => none]) H := by
  have := h.turn L.length (A := pts b (.obj (.map #[] 0))) (by simp) (B := Mp b fun _ => none) fun H1 h1 => ⟨[], 0, h1, by simp, by simp, fun x hx => by simp at hx, fun j => rfl⟩
  simpa using this

/-! ## The entries, one after the other -/

def unseenK (tk : List (Int × Value × Nat)) (seen : Array Nat) : List (Int × Value × Nat) := tk.filter fun x => !seen.contains x.2.2

theorem range_K {P : Program} {t k e : TypeId} (ht : P.underlying t = some (.map k e)) {H : Hp} {mp cl : Nat} {tk : List (Int × Value × Nat)} (hm : H mp = some (kmap tk cl)) {K : Value → Hp → Prop}
    (kk : ∀ it, H it = none → K (.pointer (some ⟨it, 0, none⟩)) (H.set it (iterO mp cl #[] cl))) : SemK P (Instr.range t (.map (some mp))) H K := fun H0 w0 w hA => by
  have hh := kmap.heap hm hA.fits
  obtain ⟨hn, hA'⟩ := hA.new (o := iterO mp cl #[] cl) (x := .mapIter (some mp) cl #[] cl) rfl
  refine ⟨_, _, _, ?_, kk _ hn, hA'⟩
  simp only [Instr.range, Sem.run_bind, underlying_run ht, Result.andThen_ok, MapKept.run_getObj_map hh, Sem.run_pure]
  simp

theorem next_K {P : Program} {ty : TypeId} {H : Hp} {it mp since last cl : Nat} {seen : Array Nat} {tk : List (Int × Value × Nat)} (hi : H it = some (iterO mp since seen last)) (hm : H mp = some (kmap tk cl)) (hold : ∀ x ∈ tk, x.2.2 < since) (hlast : ∀ x ∈ tk, x.2.2 < last) {K : Value → Hp → Prop}
    (k1 : ∀ x ∈ unseenK tk seen, K (.tuple #[.bool true, .int .i64 x.1, x.2.1]) (H.set it (iterO mp since (seen.push x.2.2) cl))) (k0 : unseenK tk seen = [] → K (.tuple #[.bool false]) H) :
    SemK P (Instr.next (.pointer (some ⟨it, 0, none⟩)) false ty) H K := fun H0 w0 w hA => by
  have hh := iterO.heap hi hA.fits
  have hg := kmap.heap hm hA.fits
  have hgi : (getObj it).run P w = .ok (.mapIter (some mp) since seen last) w := by simp [getObj, Sem.run, hh]
  have hleft : ((tk.map entK).toArray.filter fun e => !seen.contains e.born) = ((unseenK tk seen).map entK).toArray := by
    unfold unseenK
    rw [List.filter_toArray, List.filter_map]
    rfl
  have hcond : (!seen.isEmpty && !(tk.map entK).toArray.isEmpty && (tk.map entK).toArray.all (fun e => decide (e.born ≥ last))) = false := by
    cases tk with
    | nil => simp
    | cons x l =>
      have := hlast x (by simp)
      have h2 : ¬ last ≤ x.2.2 := by omega
      simp [entK, h2]
  have hold' : (((unseenK tk seen).map entK).toArray.filter fun e => decide (e.born < since)) = ((unseenK tk seen).map entK).toArray := by
    rw [List.filter_toArray]
    congr 1
    rw [List.filter_eq_self]
    intro e he
    obtain ⟨x, hx, rfl⟩ := List.mem_map.1 he
    have := hold x (List.mem_filter.1 hx).1
    exact decide_eq_true this
  have hnew : (((unseenK tk seen).map entK).toArray.filter fun e => decide (e.born ≥ since)) = #[] := by
    rw [List.filter_toArray]
    congr 1
    rw [List.filter_eq_nil_iff]
    intro e he
    obtain ⟨x, hx, rfl⟩ := List.mem_map.1 he
    have := hold x (List.mem_filter.1 hx).1
    simp [entK]; omega
  simp only [Instr.next, Sem.run_bind, hgi, Result.andThen_ok, MapKept.run_getObj_map hg, hcond, Bool.false_eq_true, if_false, hleft, hold', hnew, Sem.run_pure]
  cases hU : unseenK tk seen with
  | nil =>
    obtain ⟨i, w', hi', hr, hA'⟩ := choose_next (P := P) hA 1 (by omega)
    obtain rfl : i = 0 := by omega
    refine ⟨_, H, w', ?_, k0 hU, hA'⟩
    rw [show ((if (List.map entK ([] : List (Int × Value × Nat))).toArray.isEmpty = true then #[none] else #[]) ++ Array.map some ((List.map entK ([] : List (Int × Value × Nat))).toArray ++ #[])) = (#[none] : Array (Option MapEntry)) by simp, show (#[none] : Array (Option MapEntry)).size = 1 from rfl, hr]
    rfl
  | cons x l =>
    obtain ⟨i, w', hi', hr, hA'⟩ := choose_next (P := P) hA (x :: l).length (by simp)
    have e : ((if (List.map entK (x :: l)).toArray.isEmpty = true then #[none] else #[]) ++ Array.map some ((List.map entK (x :: l)).toArray ++ #[])) = ((x :: l).map fun y => some (entK y)).toArray := by simp
    rw [e, show ((x :: l).map fun y => some (entK y)).toArray.size = (x :: l).length by simp, hr]
    have hy : (x :: l)[i] ∈ unseenK tk seen := by rw [hU]; exact List.getElem_mem hi'
    refine ⟨_, _, _, ?_, k1 _ hy, hA'.setIter hi _⟩
    simp only [Result.andThen_ok, List.getElem?_toArray, List.getElem?_map, List.getElem?_eq_getElem hi', Option.map_some, Sem.run_bind]
    have hh' := iterO.heap hi hA'.fits
    rw [show (setObj it (Obj.mapIter (some mp) since (seen.push (entK (x :: l)[i]).born) cl)).run P w' = .ok () { w' with heap := w'.heap.setIfInBounds it (Obj.mapIter (some mp) since (seen.push (entK (x :: l)[i]).born) cl) } by simp [setObj, Sem.run, hh']]
    rfl

theorem find_bornK : ∀ (tk : List (Int × Value × Nat)) (x : Int × Value × Nat), x ∈ tk → (tk.map (·.2.2)).Nodup → (tk.map entK).find? (fun e => e.born == x.2.2) = some (entK x)
  | [], x, h, _ => by simp at h
  | y :: l, x, h, hn => by
    simp only [List.map_cons, List.nodup_cons] at hn
    simp only [List.map_cons, List.find?_cons]
    rcases List.mem_cons.1 h with rfl | h
    · simp [entK]
    · have : ¬ (y.2.2 = x.2.2) := fun e => hn.1 (by rw [e]; exact List.mem_map_of_mem h)
      rw [show ((entK y).born == x.2.2) = false by simpa [entK] using this]
      exact find_bornK l x h hn.2

theorem entry_K {P : Program} {H : Hp} {it mp since cl : Nat} {seen : Array Nat} {tk : List (Int × Value × Nat)} (hi : H it = some (iterO mp since seen cl)) (hm : H mp = some (kmap tk cl)) {x : Int × Value × Nat} (hx : x ∈ tk) (hb : seen.back? = some x.2.2) (hn : (tk.map (·.2.2)).Nodup) {K : Value → Hp → Prop}
    (k : K (.tuple #[.int .i64 x.1, x.2.1]) H) : SemK P (Instr.entry (.pointer (some ⟨it, 0, none⟩))) H K := fun H0 w0 w hA => by
  have hh := iterO.heap hi hA.fits
  have hg := kmap.heap hm hA.fits
  have hgi : (getObj it).run P w = .ok (.mapIter (some mp) since seen cl) w := by simp [getObj, Sem.run, hh]
  refine ⟨_, H, w, ?_, k, hA⟩
  simp only [Instr.entry, Sem.run_bind, hgi, Result.andThen_ok, hb, MapKept.run_getObj_map hg, bne_self_eq_false, Bool.false_eq_true, if_false, List.find?_toArray, find_bornK tk x hx hn]
  rfl

theorem unseenK_lt {tk : List (Int × Value × Nat)} {seen : Array Nat} {x : Int × Value × Nat} (hx : x ∈ unseenK tk seen) : (unseenK tk (seen.push x.2.2)).length < (unseenK tk seen).length := by
  have e : unseenK tk (seen.push x.2.2) = (unseenK tk seen).filter fun y => y.2.2 != x.2.2 := by
    unfold unseenK
    rw [List.filter_filter]
    congr 1
    funext y
    rw [Array.contains_push]
    cases seen.contains y.2.2 <;> simp [bne]
  rw [e]
  have : ∀ l : List (Int × Value × Nat), x ∈ l → (l.filter fun y => y.2.2 != x.2.2).length < l.length := by
    intro l hl
    induction l with
    | nil => simp at hl
    | cons y l ih =>
      rcases List.mem_cons.1 hl with rfl | hl
      · rw [List.filter_cons_of_neg (by simp)]
        have := List.length_filter_le (fun y : Int × Value × Nat => y.2.2 != x.2.2) l
        simp only [List.length_cons]; omega
      · have := ih hl
        have := List.length_filter_le (fun y : Int × Value × Nat => y.2.2 != x.2.2) l
        rw [List.filter_cons]
        split <;> simp only [List.length_cons] <;> omega
  exact this _ hx

end Go.Hw

end
section
/-! Wdisk -/
/- Formulas of functions, printed by wip/tools/hwp.py. -/
set_option maxRecDepth 100000
set_option linter.unusedVariables false
namespace Go.Proofs.YtlgpappgnndgiaaGreatDoor.W
open Go Go.Hw

theorem mixWdisk : Tryz.prog.follows .mixedOrders = true := by kernel_rfl
-- (*disk.counts).Count
def W_disk_counts_Count (p1 : Option Addr) (H : Hp) (K : Value → Hp → Prop) : Prop :=
  Nw H (.obj (.cells #[.int .i64 (0 : Int), .int .i64 (0 : Int), .int .i64 (0 : Int)] 43)) fun b1 H1 => NN p1 fun a1 => LdA H1 (a1.add 0) 3 fun l1 => StA H1 (⟨b1, 0, none⟩ : Addr) l1.toArray 3 fun H2 => LdA H2 (⟨b1, 0, none⟩ : Addr) 3 fun l2 => K (.agg l2.toArray) H2
def W_disk_counts_Count.Λ (_ : Value → Hp → Prop) : Cuts := Cuts.none (fun _ => none)
theorem W_disk_counts_Count.ok (p1 : Option Addr) (H : Hp) (K : Value → Hp → Prop) (h : W_disk_counts_Count p1 H K) : HCalls Tryz.prog 14 #[.pointer p1] H K :=
  hcalls Tryz.func14 rfl (Nat.le_of_ble_eq_true rfl) (hw_safe (Λ := Cuts.none (fun _ => none)) mixWdisk _ _ _ _ _ (Eq.mp (by kernel_rfl) h) (obs_none _ _ _ _ _))

-- disk.New
def W_disk_New (x1 : Int) (x2 : Int) (H : Hp) (K : Value → Hp → Prop) : Prop :=
  BIf (decide (x1 < (1 : Int))) (K (.pointer none) H) (BIf (decide (x1 > (1048576 : Int))) (K (.pointer none) H) (BIf (decide (x2 < (32 : Int))) (K (.pointer none) H) (BIf (decide (x2 > (4096 : Int))) (K (.pointer none) H) (BIf ((bAnd .i64 x2 (IntKind.i64.wrap (x2 - (1 : Int)))) != (0 : Int)) (K (.pointer none) H) ((x2 ≠ 0 ∧ IntKind.i64 = IntKind.i64 ∧ BIf (decide (x1 > (IntKind.i64.wrap (Int.tdiv (67108864 : Int) x2)))) (K (.pointer none) H) (Nw H (.obj (.map #[] 0)) fun b1 H1 => Nw H1 (.obj (.map #[] 0)) fun b2 H2 => Nw H2 (.obj (.map #[] 0)) fun b3 H3 => Nw H3 (.obj (.cells #[.int .i64 x1, .int .i64 x2, .map (some b1), .int .i64 (0 : Int), .int .i64 (0 : Int), .int .i64 (0 : Int), .map (some b2), .bool false, .int .i64 (0 : Int), .map (some b3)] 54)) fun b4 H4 => K (.pointer (some (⟨b4, 0, none⟩ : Addr))) H4)))))))
def W_disk_New.Λ (_ : Value → Hp → Prop) : Cuts := Cuts.none (fun _ => none)
theorem W_disk_New.ok (x1 : Int) (x2 : Int) (H : Hp) (K : Value → Hp → Prop) (h : W_disk_New x1 x2 H K) : HCalls Tryz.prog 23 #[.int .i64 x1, .int .i64 x2] H K :=
  hcalls Tryz.func23 rfl (Nat.le_of_ble_eq_true rfl) (hw_safe (Λ := Cuts.none (fun _ => none)) mixWdisk _ _ _ _ _ (Eq.mp (by kernel_rfl) h) (obs_none _ _ _ _ _))

-- (*disk.power).Fuse
def W_disk_power_Fuse (p1 : Option Addr) (x1 : Int) (H : Hp) (K : Value → Hp → Prop) : Prop :=
  NN p1 fun a1 => St H ((a1.add 1).add 0) (.int .i64 (if (0 : Int) > x1 then (0 : Int) else x1)) fun H1 => K (.tuple #[]) H1
def W_disk_power_Fuse.Λ (_ : Value → Hp → Prop) : Cuts := Cuts.none (fun _ => none)
theorem W_disk_power_Fuse.ok (p1 : Option Addr) (x1 : Int) (H : Hp) (K : Value → Hp → Prop) (h : W_disk_power_Fuse p1 x1 H K) : HCalls Tryz.prog 27 #[.pointer p1, .int .i64 x1] H K :=
  hcalls Tryz.func27 rfl (Nat.le_of_ble_eq_true rfl) (hw_safe (Λ := Cuts.none (fun _ => none)) mixWdisk _ _ _ _ _ (Eq.mp (by kernel_rfl) h) (obs_none _ _ _ _ _))

-- (*disk.power).Down
def W_disk_power_Down (p1 : Option Addr) (H : Hp) (K : Value → Hp → Prop) : Prop :=
  NN p1 fun a1 => Ld H (a1.add 0) fun v1 => DB v1 fun c1 => K (.bool c1) H
def W_disk_power_Down.Λ (_ : Value → Hp → Prop) : Cuts := Cuts.none (fun _ => none)
theorem W_disk_power_Down.ok (p1 : Option Addr) (H : Hp) (K : Value → Hp → Prop) (h : W_disk_power_Down p1 H K) : HCalls Tryz.prog 29 #[.pointer p1] H K :=
  hcalls Tryz.func29 rfl (Nat.le_of_ble_eq_true rfl) (hw_safe (Λ := Cuts.none (fun _ => none)) mixWdisk _ _ _ _ _ (Eq.mp (by kernel_rfl) h) (obs_none _ _ _ _ _))

-- (*disk.power).Crash
def W_disk_power_Crash (p1 : Option Addr) (H : Hp) (K : Value → Hp → Prop) : Prop :=
  NN p1 fun a1 => St H ((a1.add 0).add 0) (.bool true) fun H1 => NN p1 fun a2 => St H1 ((a2.add 1).add 0) (.int .i64 (0 : Int)) fun H2 => K (.tuple #[]) H2
def W_disk_power_Crash.Λ (_ : Value → Hp → Prop) : Cuts := Cuts.none (fun _ => none)
theorem W_disk_power_Crash.ok (p1 : Option Addr) (H : Hp) (K : Value → Hp → Prop) (h : W_disk_power_Crash p1 H K) : HCalls Tryz.prog 30 #[.pointer p1] H K :=
  hcalls Tryz.func30 rfl (Nat.le_of_ble_eq_true rfl) (hw_safe (Λ := Cuts.none (fun _ => none)) mixWdisk _ _ _ _ _ (Eq.mp (by kernel_rfl) h) (obs_none _ _ _ _ _))

-- (*disk.Disk).Boot
def W_disk_Disk_Boot.l4 (K : Value → Hp → Prop) : Nat → Option Addr → Option Addr → Nat → Nat → Option Addr → Nat → Nat → Int → Int → Hp → Prop
  | 0, _, _, _, _, _, _, _, _, _, _ => False
  | k + 1, p2, A3, n3, m3, A4, n4, m4, x1, x2, H =>
    let R4 := W_disk_Disk_Boot.l4 K k
    BIf (decide (x2 < x1)) (ixI x2 n4 (NN A4 fun a2 => Ld H (a2.add (x2.toNat * 1)) fun v3 => DI .i64 v3 fun x3 => BIf (decide (x2 < ((n3 : Nat) : Int))) (ixI x2 n3 (NN A3 fun a3 => Ld H (a3.add (x2.toNat * 1)) fun v4 => DB v4 fun c2 => BIf c2 (NN p2 fun a4 => Ld H ((a4.add 0).add 2) fun v5 => DM v5 fun r1 => NN p2 fun a5 => Ld H (a5.add 9) fun v6 => DM v6 fun r2 => SemV Tryz.prog (Instr.lookup 45 (.map r2) (.int .i64 x3) false) H fun v7 => DS v7 fun s1 => SemK Tryz.prog (Instr.mapUpdate 45 (.map r1) (.int .i64 x3) (.string s1)) H fun _ H2 => R4 p2 A3 n3 m3 A4 n4 m4 x1 (IntKind.i64.wrap (x2 + (1 : Int))) H2) (R4 p2 A3 n3 m3 A4 n4 m4 x1 (IntKind.i64.wrap (x2 + (1 : Int))) H))) (R4 p2 A3 n3 m3 A4 n4 m4 x1 (IntKind.i64.wrap (x2 + (1 : Int))) H))) (NN p2 fun a6 => Ld H (a6.add 9) fun v8 => DM v8 fun r3 => SemK Tryz.prog (Builtin.clear_ #[45] 0 #[.map r3]) H fun v9 H3 => NN p2 fun a7 => St H3 (((a7.add 7).add 0).add 0) (.bool false) fun H4 => K (.int .i64 (0 : Int)) H4)
def W_disk_Disk_Boot (p1 : Option Addr) (A1 : Option Addr) (n1 : Nat) (m1 : Nat) (H : Hp) (K : Value → Hp → Prop) : Prop :=
  NN p1 fun a1 => Ld H ((a1.add 7).add 0) fun v1 => DB v1 fun c1 => BIf (!c1) (K (.int .i64 (5 : Int)) H) (HCalls Tryz.prog 40 #[.pointer p1] H fun v2 H1 => DSl v2 fun A2 n2 m2 => (∃ k, W_disk_Disk_Boot.l4 K k p1 A1 n1 m1 A2 n2 m2 ((n2 : Nat) : Int) (0 : Int) H1))
def W_disk_Disk_Boot.l4.L (K : Value → Hp → Prop) (k : Nat) : Mid := fun E D H =>
  DG (E.get? 0) fun w0 => DP w0 fun p2 => DG (E.get? 1) fun w1 => DSl w1 fun A3 n3 m3 => DG (E.get? 14) fun w14 => DSl w14 fun A4 n4 m4 => DG (E.get? 15) fun w15 => DI .i64 w15 fun x1 => DG (E.get? 16) fun w16 => DI .i64 w16 fun x2 => DNilD D (W_disk_Disk_Boot.l4 K k p2 A3 n3 m3 A4 n4 m4 x1 x2 H)
def W_disk_Disk_Boot.Λ4 (_ : Value → Hp → Prop) (_R4 : Option Addr → Option Addr → Nat → Nat → Option Addr → Nat → Nat → Int → Int → Hp → Prop) : Cuts := Cuts.none (fun i => match Nat.beq i 7 with | true => some ([], [0, 1, 2, 3, 4, 5, 6, 7, 8, 9, 10, 11], 12) | false => none)
def W_disk_Disk_Boot.Λ (K : Value → Hp → Prop) : Cuts := ⟨fun i => none, fun i => match Nat.beq i 4 with | true => some (fun E D H => ∃ k, W_disk_Disk_Boot.l4.L K k E D H) | false => none, (fun i => match Nat.beq i 7 with | true => some ([], [0, 1, 2, 3, 4, 5, 6, 7, 8, 9, 10, 11], 12) | false => none)⟩
theorem W_disk_Disk_Boot.ok (p1 : Option Addr) (A1 : Option Addr) (n1 : Nat) (m1 : Nat) (H : Hp) (K : Value → Hp → Prop) (h : W_disk_Disk_Boot p1 A1 n1 m1 H K) : HCalls Tryz.prog 31 #[.pointer p1, .slice A1 n1 m1] H K :=
  hcalls Tryz.func31 rfl (Nat.le_of_ble_eq_true rfl) (hw_safe (Λ := (W_disk_Disk_Boot.Λ K)) mixWdisk _ _ _ _ _ (Eq.mp (by kernel_rfl) h) (obs_seq obs_region rfl (obs_seq (obs_seq obs_region rfl (obs_cond (obs_seq obs_region rfl obs_ret) obs_skip)) rfl (obs_seq (obs_seq obs_region rfl (obs_block (obs_loop rfl (fun E D H h => by
      refine Safe.loop' (W_disk_Disk_Boot.l4.L K) (fun E D H h => ?_) (fun k E D H h => ?_) E D H h
      · obtain ⟨w0, e0, g1⟩ := DG.out h; obtain ⟨p2, rfl, g2⟩ := DP.out g1; obtain ⟨w1, e1, g3⟩ := DG.out g2; obtain ⟨A3, n3, m3, rfl, g4⟩ := DSl.out g3; obtain ⟨w14, e14, g5⟩ := DG.out g4; obtain ⟨A4, n4, m4, rfl, g6⟩ := DSl.out g5; obtain ⟨w15, e15, g7⟩ := DG.out g6; obtain ⟨x1, rfl, g8⟩ := DI.out g7; obtain ⟨w16, e16, g9⟩ := DG.out g8; obtain ⟨x2, rfl, g10⟩ := DI.out g9; obtain ⟨rfl, h'⟩ := DNilD.out g10; exact h'
      · obtain ⟨w0, e0, g1⟩ := DG.out h
        obtain ⟨p2, rfl, g2⟩ := DP.out g1
        obtain ⟨w1, e1, g3⟩ := DG.out g2
        obtain ⟨A3, n3, m3, rfl, g4⟩ := DSl.out g3
        obtain ⟨w14, e14, g5⟩ := DG.out g4
        obtain ⟨A4, n4, m4, rfl, g6⟩ := DSl.out g5
        obtain ⟨w15, e15, g7⟩ := DG.out g6
        obtain ⟨x1, rfl, g8⟩ := DI.out g7
        obtain ⟨w16, e16, g9⟩ := DG.out g8
        obtain ⟨x2, rfl, g10⟩ := DI.out g9
        obtain ⟨rfl, h'⟩ := DNilD.out g10
        exact (hw_safe (Λ := (W_disk_Disk_Boot.Λ4 K (W_disk_Disk_Boot.l4 K k))) mixWdisk _ _ [(0, .pointer p2), (1, .slice A3 n3 m3), (14, .slice A4 n4 m4), (15, .int .i64 x1), (16, .int .i64 x2)] [] H (Eq.mp (by kernel_rfl) h') (obs_seq obs_region rfl (obs_seq (obs_cond obs_skip obs_exit) rfl (obs_seq (obs_block (obs_seq obs_region rfl (obs_seq obs_region rfl (obs_cond obs_region obs_skip)))) rfl obs_region)))).weaken (EnvLe.cons e0 (EnvLe.cons e1 (EnvLe.cons e14 (EnvLe.cons e15 (EnvLe.cons e16 (EnvLe.nil _)))))) (Hp.le_refl _))))) rfl (obs_seq obs_region rfl (obs_seq obs_region rfl (obs_seq obs_region rfl obs_ret)))))))

-- (*disk.Disk).Dirty
def W_disk_Disk_Dirty (p1 : Option Addr) (H : Hp) (K : Value → Hp → Prop) : Prop :=
  NN p1 fun a1 => Ld H (a1.add 9) fun v1 => DM v1 fun r1 => HCalls Tryz.prog 82 #[.map r1] H fun v2 H1 => HCalls Tryz.prog 81 #[v2] H1 fun v3 H2 => DSl v3 fun A1 n1 m1 => K (.slice A1 n1 m1) H2
def W_disk_Disk_Dirty.Λ (_ : Value → Hp → Prop) : Cuts := Cuts.none (fun _ => none)
theorem W_disk_Disk_Dirty.ok (p1 : Option Addr) (H : Hp) (K : Value → Hp → Prop) (h : W_disk_Disk_Dirty p1 H K) : HCalls Tryz.prog 40 #[.pointer p1] H K :=
  hcalls Tryz.func40 rfl (Nat.le_of_ble_eq_true rfl) (hw_safe (Λ := Cuts.none (fun _ => none)) mixWdisk _ _ _ _ _ (Eq.mp (by kernel_rfl) h) (obs_none _ _ _ _ _))

-- (*disk.Disk).Write
def W_disk_Disk_Write (p1 : Option Addr) (x1 : Int) (A1 : Option Addr) (n1 : Nat) (m1 : Nat) (H : Hp) (K : Value → Hp → Prop) : Prop :=
  HCalls Tryz.prog 83 #[.pointer p1, .int .i64 x1] H fun v1 H1 => DI .i64 v1 fun x2 => BIf (x2 != (0 : Int)) (K (.int .i64 x2) H1) (NN p1 fun a1 => Ld H1 ((a1.add 0).add 1) fun v2 => DI .i64 v2 fun x3 => BIf (((n1 : Nat) : Int) != x3) (K (.int .i64 (19 : Int)) H1) (NN p1 fun a2 => HCalls Tryz.prog 84 #[.pointer (some (a2.add 7))] H1 fun v3 H2 => DB v3 fun c1 => BIf c1 (K (.int .i64 (8 : Int)) H2) (NN p1 fun a3 => Ld H2 (((a3.add 3).add 0).add 1) fun v4 => DI .i64 v4 fun x4 => NN p1 fun a4 => St H2 ((((a4.add 3).add 0).add 1).add 0) (.int .i64 (IntKind.i64.wrap (x4 + (1 : Int)))) fun H3 => NN p1 fun a5 => Ld H3 ((a5.add 3).add 3) fun v5 => DM v5 fun r1 => SemK Tryz.prog (Instr.mapUpdate 48 (.map r1) (.int .i64 x1) (.int .i64 (1 : Int))) H3 fun _ H4 => NN p1 fun a6 => Ld H4 (a6.add 9) fun v6 => DM v6 fun r2 => BsK H4 A1 n1 fun s1 => SemK Tryz.prog (Instr.mapUpdate 45 (.map r2) (.int .i64 x1) (.string s1)) H4 fun _ H5 => K (.int .i64 (0 : Int)) H5)))
def W_disk_Disk_Write.Λ (_ : Value → Hp → Prop) : Cuts := Cuts.none (fun i => match Nat.beq i 10 with | true => some ([], [0, 1, 2, 3, 4, 5, 6], 7) | false => none)
theorem W_disk_Disk_Write.ok (p1 : Option Addr) (x1 : Int) (A1 : Option Addr) (n1 : Nat) (m1 : Nat) (H : Hp) (K : Value → Hp → Prop) (h : W_disk_Disk_Write p1 x1 A1 n1 m1 H K) : HCalls Tryz.prog 42 #[.pointer p1, .int .i64 x1, .slice A1 n1 m1] H K :=
  hcalls Tryz.func42 rfl (Nat.le_of_ble_eq_true rfl) (hw_safe (Λ := Cuts.none (fun i => match Nat.beq i 10 with | true => some ([], [0, 1, 2, 3, 4, 5, 6], 7) | false => none)) mixWdisk _ _ _ _ _ (Eq.mp (by kernel_rfl) h) (obs_none _ _ _ _ _))

-- (*disk.plates).Sectors
def W_disk_plates_Sectors (p1 : Option Addr) (H : Hp) (K : Value → Hp → Prop) : Prop :=
  NN p1 fun a1 => Ld H (a1.add 0) fun v1 => DI .i64 v1 fun x1 => K (.int .i64 x1) H
def W_disk_plates_Sectors.Λ (_ : Value → Hp → Prop) : Cuts := Cuts.none (fun _ => none)
theorem W_disk_plates_Sectors.ok (p1 : Option Addr) (H : Hp) (K : Value → Hp → Prop) (h : W_disk_plates_Sectors p1 H K) : HCalls Tryz.prog 53 #[.pointer p1] H K :=
  hcalls Tryz.func53 rfl (Nat.le_of_ble_eq_true rfl) (hw_safe (Λ := Cuts.none (fun _ => none)) mixWdisk _ _ _ _ _ (Eq.mp (by kernel_rfl) h) (obs_none _ _ _ _ _))

-- (*disk.Disk).Sync
def W_disk_Disk_Sync (p1 : Option Addr) (H : Hp) (K : Value → Hp → Prop) : Prop :=
  NN p1 fun a1 => Ld H ((a1.add 7).add 0) fun v1 => DB v1 fun c1 => BIf c1 (K (.int .i64 (8 : Int)) H) (NN p1 fun a2 => HCalls Tryz.prog 84 #[.pointer (some (a2.add 7))] H fun v2 H1 => DB v2 fun c2 => BIf c2 (K (.int .i64 (8 : Int)) H1) (NN p1 fun a3 => Ld H1 (((a3.add 3).add 0).add 2) fun v3 => DI .i64 v3 fun x1 => NN p1 fun a4 => St H1 ((((a4.add 3).add 0).add 2).add 0) (.int .i64 (IntKind.i64.wrap (x1 + (1 : Int)))) fun H2 => NN p1 fun a5 => Ld H2 ((a5.add 0).add 2) fun v4 => DM v4 fun r1 => NN p1 fun a6 => Ld H2 (a6.add 9) fun v5 => DM v5 fun r2 => HCalls Tryz.prog 99 #[.map r1, .map r2] H2 fun v6 H3 => NN p1 fun a7 => Ld H3 (a7.add 9) fun v7 => DM v7 fun r3 => SemK Tryz.prog (Builtin.clear_ #[45] 0 #[.map r3]) H3 fun v8 H4 => K (.int .i64 (0 : Int)) H4))
def W_disk_Disk_Sync.Λ (_ : Value → Hp → Prop) : Cuts := Cuts.none (fun i => match Nat.beq i 4 with | true => some ([], [0, 1, 2, 3, 4, 5, 6, 7, 8], 9) | false => none)
theorem W_disk_Disk_Sync.ok (p1 : Option Addr) (H : Hp) (K : Value → Hp → Prop) (h : W_disk_Disk_Sync p1 H K) : HCalls Tryz.prog 56 #[.pointer p1] H K :=
  hcalls Tryz.func56 rfl (Nat.le_of_ble_eq_true rfl) (hw_safe (Λ := Cuts.none (fun i => match Nat.beq i 4 with | true => some ([], [0, 1, 2, 3, 4, 5, 6, 7, 8], 9) | false => none)) mixWdisk _ _ _ _ _ (Eq.mp (by kernel_rfl) h) (obs_none _ _ _ _ _))

-- (*disk.Disk).Read
def W_disk_Disk_Read (p1 : Option Addr) (x1 : Int) (H : Hp) (K : Value → Hp → Prop) : Prop :=
  HCalls Tryz.prog 83 #[.pointer p1, .int .i64 x1] H fun v1 H1 => DI .i64 v1 fun x2 => BIf (x2 != (0 : Int)) (K (.tuple #[.slice none 0 0, .int .i64 x2]) H1) (NN p1 fun a1 => HCalls Tryz.prog 84 #[.pointer (some (a1.add 7))] H1 fun v2 H2 => DB v2 fun c1 => BIf c1 (K (.tuple #[.slice none 0 0, .int .i64 (8 : Int)]) H2) (NN p1 fun a2 => Ld H2 (((a2.add 3).add 0).add 0) fun v3 => DI .i64 v3 fun x3 => NN p1 fun a3 => St H2 ((((a3.add 3).add 0).add 0).add 0) (.int .i64 (IntKind.i64.wrap (x3 + (1 : Int)))) fun H3 => NN p1 fun a4 => Ld H3 (a4.add 9) fun v4 => DM v4 fun r1 => SemV Tryz.prog (Instr.lookup 45 (.map r1) (.int .i64 x1) true) H3 fun v5 => DTup v5 fun l1 => DCons l1 fun v6 l2 => DS v6 fun s1 => DCons l2 fun v7 l3 => DB v7 fun c2 => DNil l3 (BIf c2 (StB 5 s1 H3 fun v8 H4 => DSl v8 fun A1 n1 m1 => K (.tuple #[.slice A1 n1 m1, .int .i64 (0 : Int)]) H4) (NN p1 fun a5 => HCalls Tryz.prog 119 #[.pointer (some (a5.add 0)), .int .i64 x1] H3 fun v9 H5 => DSl v9 fun A2 n2 m2 => K (.tuple #[.slice A2 n2 m2, .int .i64 (0 : Int)]) H5))))
def W_disk_Disk_Read.Λ (_ : Value → Hp → Prop) : Cuts := Cuts.none (fun _ => none)
theorem W_disk_Disk_Read.ok (p1 : Option Addr) (x1 : Int) (H : Hp) (K : Value → Hp → Prop) (h : W_disk_Disk_Read p1 x1 H K) : HCalls Tryz.prog 71 #[.pointer p1, .int .i64 x1] H K :=
  hcalls Tryz.func71 rfl (Nat.le_of_ble_eq_true rfl) (hw_safe (Λ := Cuts.none (fun _ => none)) mixWdisk _ _ _ _ _ (Eq.mp (by kernel_rfl) h) (obs_none _ _ _ _ _))

-- (*disk.plates).Size
def W_disk_plates_Size (p1 : Option Addr) (H : Hp) (K : Value → Hp → Prop) : Prop :=
  NN p1 fun a1 => Ld H (a1.add 1) fun v1 => DI .i64 v1 fun x1 => K (.int .i64 x1) H
def W_disk_plates_Size.Λ (_ : Value → Hp → Prop) : Cuts := Cuts.none (fun _ => none)
theorem W_disk_plates_Size.ok (p1 : Option Addr) (H : Hp) (K : Value → Hp → Prop) (h : W_disk_plates_Size p1 H K) : HCalls Tryz.prog 78 #[.pointer p1] H K :=
  hcalls Tryz.func78 rfl (Nat.le_of_ble_eq_true rfl) (hw_safe (Λ := Cuts.none (fun _ => none)) mixWdisk _ _ _ _ _ (Eq.mp (by kernel_rfl) h) (obs_none _ _ _ _ _))

-- (*disk.Disk).check
def W_disk_Disk_check (p1 : Option Addr) (x1 : Int) (H : Hp) (K : Value → Hp → Prop) : Prop :=
  NN p1 fun a1 => Ld H ((a1.add 7).add 0) fun v1 => DB v1 fun c1 => BIf c1 (K (.int .i64 (8 : Int)) H) (BIf (decide (x1 < (0 : Int))) (K (.int .i64 (2 : Int)) H) (NN p1 fun a2 => Ld H ((a2.add 0).add 0) fun v2 => DI .i64 v2 fun x2 => BIf (decide (x1 ≥ x2)) (K (.int .i64 (2 : Int)) H) (K (.int .i64 (0 : Int)) H)))
def W_disk_Disk_check.Λ (_ : Value → Hp → Prop) : Cuts := Cuts.none (fun _ => none)
theorem W_disk_Disk_check.ok (p1 : Option Addr) (x1 : Int) (H : Hp) (K : Value → Hp → Prop) (h : W_disk_Disk_check p1 x1 H K) : HCalls Tryz.prog 83 #[.pointer p1, .int .i64 x1] H K :=
  hcalls Tryz.func83 rfl (Nat.le_of_ble_eq_true rfl) (hw_safe (Λ := Cuts.none (fun _ => none)) mixWdisk _ _ _ _ _ (Eq.mp (by kernel_rfl) h) (obs_none _ _ _ _ _))

-- (*disk.power).burns
def W_disk_power_burns (p1 : Option Addr) (H : Hp) (K : Value → Hp → Prop) : Prop :=
  NN p1 fun a1 => Ld H (a1.add 1) fun v1 => DI .i64 v1 fun x1 => BIf (x1 == (0 : Int)) (K (.bool false) H) (NN p1 fun a2 => Ld H (a2.add 1) fun v2 => DI .i64 v2 fun x2 => NN p1 fun a3 => St H ((a3.add 1).add 0) (.int .i64 (IntKind.i64.wrap (x2 - (1 : Int)))) fun H1 => NN p1 fun a4 => Ld H1 (a4.add 1) fun v3 => DI .i64 v3 fun x3 => NN p1 fun a5 => St H1 ((a5.add 0).add 0) (.bool (x3 == (0 : Int))) fun H2 => NN p1 fun a6 => Ld H2 (a6.add 0) fun v4 => DB v4 fun c1 => K (.bool c1) H2)
def W_disk_power_burns.Λ (_ : Value → Hp → Prop) : Cuts := Cuts.none (fun _ => none)
theorem W_disk_power_burns.ok (p1 : Option Addr) (H : Hp) (K : Value → Hp → Prop) (h : W_disk_power_burns p1 H K) : HCalls Tryz.prog 84 #[.pointer p1] H K :=
  hcalls Tryz.func84 rfl (Nat.le_of_ble_eq_true rfl) (hw_safe (Λ := Cuts.none (fun _ => none)) mixWdisk _ _ _ _ _ (Eq.mp (by kernel_rfl) h) (obs_none _ _ _ _ _))

-- (*disk.plates).get
def W_disk_plates_get (p1 : Option Addr) (x1 : Int) (H : Hp) (K : Value → Hp → Prop) : Prop :=
  NN p1 fun a1 => Ld H (a1.add 1) fun v1 => DI .i64 v1 fun x2 => MkS Tryz.prog 5 x2 x2 H fun v2 H1 => DSl v2 fun A1 n1 m1 => NN p1 fun a2 => Ld H1 (a2.add 2) fun v3 => DM v3 fun r1 => SemV Tryz.prog (Instr.lookup 45 (.map r1) (.int .i64 x1) false) H1 fun v4 => DS v4 fun s1 => CpK Tryz.prog 5 (.slice A1 n1 m1) (.string s1) H1 fun v5 H2 => DI .i64 v5 fun x3 => K (.slice A1 n1 m1) H2
def W_disk_plates_get.Λ (_ : Value → Hp → Prop) : Cuts := Cuts.none (fun _ => none)
theorem W_disk_plates_get.ok (p1 : Option Addr) (x1 : Int) (H : Hp) (K : Value → Hp → Prop) (h : W_disk_plates_get p1 x1 H K) : HCalls Tryz.prog 119 #[.pointer p1, .int .i64 x1] H K :=
  hcalls Tryz.func119 rfl (Nat.le_of_ble_eq_true rfl) (hw_safe (Λ := Cuts.none (fun _ => none)) mixWdisk _ _ _ _ _ (Eq.mp (by kernel_rfl) h) (obs_none _ _ _ _ _))

end Go.Proofs.YtlgpappgnndgiaaGreatDoor.W

end
