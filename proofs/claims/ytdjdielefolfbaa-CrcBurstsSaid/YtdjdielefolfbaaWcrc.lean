/- Formulas of functions, printed by wip/tools/hwp.py. -/
import Derived.Test.YtdjdielefolfbaaHwE
import Derived.Test.YtdjdielefolfbaaProg
set_option maxRecDepth 100000
set_option linter.unusedVariables false
namespace Go.Proofs.Ytdjdielefolfbaa.W
open Go Go.Hw

theorem mix : Try.prog.follows .mixedOrders = true := by kernel_rfl
-- crc.Of
def W_crc_Of (A1 : Option Addr) (n1 : Nat) (m1 : Nat) (H : Hp) (K : Value → Hp → Prop) : Prop :=
  HCalls Try.prog 41 #[.int .u32 (0 : Int), .slice A1 n1 m1] H fun v1 H1 => DI .u32 v1 fun x1 => K (.int .u32 x1) H1
def W_crc_Of.Λ (_ : Value → Hp → Prop) : Cuts := Cuts.none (fun _ => none)
theorem W_crc_Of.ok (A1 : Option Addr) (n1 : Nat) (m1 : Nat) (H : Hp) (K : Value → Hp → Prop) (h : W_crc_Of A1 n1 m1 H K) : HCalls Try.prog 20 #[.slice A1 n1 m1] H K :=
  hcalls Try.func20 rfl (Nat.le_of_ble_eq_true rfl) (hw_safe (Λ := Cuts.none (fun _ => none)) mix _ _ _ _ _ (Eq.mp (by kernel_rfl) h) (obs_none _ _ _ _ _))

-- crc.OfWords
def W_crc_OfWords (A1 : Option Addr) (n1 : Nat) (m1 : Nat) (H : Hp) (K : Value → Hp → Prop) : Prop :=
  HCalls Try.prog 45 #[.slice A1 n1 m1] H fun v1 H1 => DSl v1 fun A2 n2 m2 => HCalls Try.prog 20 #[.slice A2 n2 m2] H1 fun v2 H2 => DI .u32 v2 fun x1 => K (.int .u32 x1) H2
def W_crc_OfWords.Λ (_ : Value → Hp → Prop) : Cuts := Cuts.none (fun _ => none)
theorem W_crc_OfWords.ok (A1 : Option Addr) (n1 : Nat) (m1 : Nat) (H : Hp) (K : Value → Hp → Prop) (h : W_crc_OfWords A1 n1 m1 H K) : HCalls Try.prog 22 #[.slice A1 n1 m1] H K :=
  hcalls Try.func22 rfl (Nat.le_of_ble_eq_true rfl) (hw_safe (Λ := Cuts.none (fun _ => none)) mix _ _ _ _ _ (Eq.mp (by kernel_rfl) h) (obs_none _ _ _ _ _))

-- (*crc.Counter).Add
def W_crc_Counter_Add (p1 : Option Addr) (A1 : Option Addr) (n1 : Nat) (m1 : Nat) (H : Hp) (K : Value → Hp → Prop) : Prop :=
  NN p1 fun a1 => Ld H (a1.add 0) fun v1 => DI .u32 v1 fun x1 => HCalls Try.prog 41 #[.int .u32 x1, .slice A1 n1 m1] H fun v2 H1 => DI .u32 v2 fun x2 => NN p1 fun a2 => St H1 ((a2.add 0).add 0) (.int .u32 x2) fun H2 => NN p1 fun a3 => Ld H2 (a3.add 1) fun v3 => DI .i64 v3 fun x3 => NN p1 fun a4 => St H2 ((a4.add 1).add 0) (.int .i64 (IntKind.i64.wrap (x3 + (n1 : Nat)))) fun H3 => K (.tuple #[]) H3
def W_crc_Counter_Add.Λ (_ : Value → Hp → Prop) : Cuts := Cuts.none (fun _ => none)
theorem W_crc_Counter_Add.ok (p1 : Option Addr) (A1 : Option Addr) (n1 : Nat) (m1 : Nat) (H : Hp) (K : Value → Hp → Prop) (h : W_crc_Counter_Add p1 A1 n1 m1 H K) : HCalls Try.prog 24 #[.pointer p1, .slice A1 n1 m1] H K :=
  hcalls Try.func24 rfl (Nat.le_of_ble_eq_true rfl) (hw_safe (Λ := Cuts.none (fun _ => none)) mix _ _ _ _ _ (Eq.mp (by kernel_rfl) h) (obs_none _ _ _ _ _))

-- (*crc.Counter).AddWords
def W_crc_Counter_AddWords (p1 : Option Addr) (A1 : Option Addr) (n1 : Nat) (m1 : Nat) (H : Hp) (K : Value → Hp → Prop) : Prop :=
  HCalls Try.prog 45 #[.slice A1 n1 m1] H fun v1 H1 => DSl v1 fun A2 n2 m2 => HCalls Try.prog 24 #[.pointer p1, .slice A2 n2 m2] H1 fun v2 H2 => K (.tuple #[]) H2
def W_crc_Counter_AddWords.Λ (_ : Value → Hp → Prop) : Cuts := Cuts.none (fun _ => none)
theorem W_crc_Counter_AddWords.ok (p1 : Option Addr) (A1 : Option Addr) (n1 : Nat) (m1 : Nat) (H : Hp) (K : Value → Hp → Prop) (h : W_crc_Counter_AddWords p1 A1 n1 m1 H K) : HCalls Try.prog 25 #[.pointer p1, .slice A1 n1 m1] H K :=
  hcalls Try.func25 rfl (Nat.le_of_ble_eq_true rfl) (hw_safe (Λ := Cuts.none (fun _ => none)) mix _ _ _ _ _ (Eq.mp (by kernel_rfl) h) (obs_none _ _ _ _ _))

-- (*crc.Counter).Len
def W_crc_Counter_Len (p1 : Option Addr) (H : Hp) (K : Value → Hp → Prop) : Prop :=
  NN p1 fun a1 => Ld H (a1.add 1) fun v1 => DI .i64 v1 fun x1 => K (.int .i64 x1) H
def W_crc_Counter_Len.Λ (_ : Value → Hp → Prop) : Cuts := Cuts.none (fun _ => none)
theorem W_crc_Counter_Len.ok (p1 : Option Addr) (H : Hp) (K : Value → Hp → Prop) (h : W_crc_Counter_Len p1 H K) : HCalls Try.prog 27 #[.pointer p1] H K :=
  hcalls Try.func27 rfl (Nat.le_of_ble_eq_true rfl) (hw_safe (Λ := Cuts.none (fun _ => none)) mix _ _ _ _ _ (Eq.mp (by kernel_rfl) h) (obs_none _ _ _ _ _))

-- (*crc.Counter).Sum
def W_crc_Counter_Sum (p1 : Option Addr) (H : Hp) (K : Value → Hp → Prop) : Prop :=
  NN p1 fun a1 => Ld H (a1.add 0) fun v1 => DI .u32 v1 fun x1 => K (.int .u32 x1) H
def W_crc_Counter_Sum.Λ (_ : Value → Hp → Prop) : Cuts := Cuts.none (fun _ => none)
theorem W_crc_Counter_Sum.ok (p1 : Option Addr) (H : Hp) (K : Value → Hp → Prop) (h : W_crc_Counter_Sum p1 H K) : HCalls Try.prog 28 #[.pointer p1] H K :=
  hcalls Try.func28 rfl (Nat.le_of_ble_eq_true rfl) (hw_safe (Λ := Cuts.none (fun _ => none)) mix _ _ _ _ _ (Eq.mp (by kernel_rfl) h) (obs_none _ _ _ _ _))

-- crc.Join
def W_crc_Join.l8 (K : Value → Hp → Prop) : Nat → Int → Int → Int → Addr → Hp → Prop
  | 0, _, _, _, _, _ => False
  | k + 1, x8, x9, x10, a2, H =>
    let R8 := W_crc_Join.l8 K k
    BIf (decide (x10 > (0 : Int))) (BIf ((bAnd .i64 x10 (1 : Int)) == (1 : Int)) (HCalls Try.prog 51 #[.pointer (some a2), .int .u32 x8] H fun v3 H6 => DI .u32 v3 fun x11 => HCalls Try.prog 50 #[.pointer (some a2)] H6 fun v4 H7 => DA v4 fun y3 => StA H7 a2 y3 32 fun H9 => (0 ≤ (1 : Int) ∧ R8 x11 x9 (shrI .i64 x10 (1 : Int)) a2 H9)) (HCalls Try.prog 50 #[.pointer (some a2)] H fun v5 H8 => DA v5 fun y4 => StA H8 a2 y4 32 fun H10 => (0 ≤ (1 : Int) ∧ R8 x8 x9 (shrI .i64 x10 (1 : Int)) a2 H10))) (K (.int .u32 (bXor .u32 x8 x9)) H)
def W_crc_Join.l5 (K : Value → Hp → Prop) : Nat → Int → Int → Int → Addr → Int → Hp → Prop
  | 0, _, _, _, _, _, _ => False
  | k + 1, x4, x5, x6, a1, x7, H =>
    let R5 := W_crc_Join.l5 K k
    BIf (decide (x7 < (3 : Int))) (HCalls Try.prog 50 #[.pointer (some a1)] H fun v2 H4 => DA v2 fun y2 => StA H4 a1 y2 32 fun H5 => R5 x4 x5 x6 a1 (IntKind.i64.wrap (x7 + (1 : Int))) H5) ((∃ k, W_crc_Join.l8 K k x4 x5 x6 a1 H))
def W_crc_Join (x1 : Int) (x2 : Int) (x3 : Int) (H : Hp) (K : Value → Hp → Prop) : Prop :=
  BIf (decide (x3 < (1 : Int))) (K (.int .u32 x1) H) (HCalls Try.prog 49 #[] H fun v1 H1 => DA v1 fun y1 => Nw H1 (.obj (.cells #[.int .u32 (0 : Int), .int .u32 (0 : Int), .int .u32 (0 : Int), .int .u32 (0 : Int), .int .u32 (0 : Int), .int .u32 (0 : Int), .int .u32 (0 : Int), .int .u32 (0 : Int), .int .u32 (0 : Int), .int .u32 (0 : Int), .int .u32 (0 : Int), .int .u32 (0 : Int), .int .u32 (0 : Int), .int .u32 (0 : Int), .int .u32 (0 : Int), .int .u32 (0 : Int), .int .u32 (0 : Int), .int .u32 (0 : Int), .int .u32 (0 : Int), .int .u32 (0 : Int), .int .u32 (0 : Int), .int .u32 (0 : Int), .int .u32 (0 : Int), .int .u32 (0 : Int), .int .u32 (0 : Int), .int .u32 (0 : Int), .int .u32 (0 : Int), .int .u32 (0 : Int), .int .u32 (0 : Int), .int .u32 (0 : Int), .int .u32 (0 : Int), .int .u32 (0 : Int)] 99)) fun b1 H2 => StA H2 (⟨b1, 0, none⟩ : Addr) y1 32 fun H3 => (∃ k, W_crc_Join.l5 K k x1 x2 x3 (⟨b1, 0, none⟩ : Addr) (0 : Int) H3))
def W_crc_Join.l5.L (K : Value → Hp → Prop) (k : Nat) : Mid := fun E D H =>
  DG (E.get? 0) fun w0 => DI .u32 w0 fun x4 => DG (E.get? 1) fun w1 => DI .u32 w1 fun x5 => DG (E.get? 2) fun w2 => DI .i64 w2 fun x6 => DG (E.get? 7) fun w7 => DP w7 fun pw7 => NN pw7 fun a1 => DG (E.get? 12) fun w12 => DI .i64 w12 fun x7 => DNilD D (W_crc_Join.l5 K k x4 x5 x6 a1 x7 H)
def W_crc_Join.l8.L (K : Value → Hp → Prop) (k : Nat) : Mid := fun E D H =>
  DG (E.get? 0) fun w0 => DI .u32 w0 fun x8 => DG (E.get? 1) fun w1 => DI .u32 w1 fun x9 => DG (E.get? 2) fun w2 => DI .i64 w2 fun x10 => DG (E.get? 7) fun w7 => DP w7 fun pw7 => NN pw7 fun a2 => DNilD D (W_crc_Join.l8 K k x8 x9 x10 a2 H)
def W_crc_Join.Λ5 (_ : Value → Hp → Prop) (_R5 : Int → Int → Int → Addr → Int → Hp → Prop) : Cuts := Cuts.none (fun _ => none)
def W_crc_Join.Λ8 (_ : Value → Hp → Prop) (_R8 : Int → Int → Int → Addr → Hp → Prop) : Cuts := Cuts.none (fun _ => none)
def W_crc_Join.Λ (K : Value → Hp → Prop) : Cuts := ⟨fun i => none, fun i => match Nat.beq i 8 with | true => some (fun E D H => ∃ k, W_crc_Join.l8.L K k E D H) | false => match Nat.beq i 5 with | true => some (fun E D H => ∃ k, W_crc_Join.l5.L K k E D H) | false => none, (fun _ => none)⟩
theorem W_crc_Join.ok (x1 : Int) (x2 : Int) (x3 : Int) (H : Hp) (K : Value → Hp → Prop) (h : W_crc_Join x1 x2 x3 H K) : HCalls Try.prog 40 #[.int .u32 x1, .int .u32 x2, .int .i64 x3] H K :=
  hcalls Try.func40 rfl (Nat.le_of_ble_eq_true rfl) (hw_safe (Λ := (W_crc_Join.Λ K)) mix _ _ _ _ _ (Eq.mp (by kernel_rfl) h) (obs_seq obs_region rfl (obs_seq (obs_seq obs_region rfl (obs_cond (obs_seq obs_region rfl obs_ret) obs_skip)) rfl (obs_seq obs_region rfl (obs_seq (obs_seq obs_region rfl (obs_block (obs_loop rfl (fun E D H h => by
      refine Safe.loop' (W_crc_Join.l5.L K) (fun E D H h => ?_) (fun k E D H h => ?_) E D H h
      · obtain ⟨w0, e0, g1⟩ := DG.out h; obtain ⟨x4, rfl, g2⟩ := DI.out g1; obtain ⟨w1, e1, g3⟩ := DG.out g2; obtain ⟨x5, rfl, g4⟩ := DI.out g3; obtain ⟨w2, e2, g5⟩ := DG.out g4; obtain ⟨x6, rfl, g6⟩ := DI.out g5; obtain ⟨w7, e7, g7⟩ := DG.out g6; obtain ⟨pw7, rfl, g8⟩ := DP.out g7; obtain ⟨a1, rfl, g9⟩ := NN.out g8; obtain ⟨w12, e12, g10⟩ := DG.out g9; obtain ⟨x7, rfl, g11⟩ := DI.out g10; obtain ⟨rfl, h'⟩ := DNilD.out g11; exact h'
      · obtain ⟨w0, e0, g1⟩ := DG.out h
        obtain ⟨x4, rfl, g2⟩ := DI.out g1
        obtain ⟨w1, e1, g3⟩ := DG.out g2
        obtain ⟨x5, rfl, g4⟩ := DI.out g3
        obtain ⟨w2, e2, g5⟩ := DG.out g4
        obtain ⟨x6, rfl, g6⟩ := DI.out g5
        obtain ⟨w7, e7, g7⟩ := DG.out g6
        obtain ⟨pw7, rfl, g8⟩ := DP.out g7
        obtain ⟨a1, rfl, g9⟩ := NN.out g8
        obtain ⟨w12, e12, g10⟩ := DG.out g9
        obtain ⟨x7, rfl, g11⟩ := DI.out g10
        obtain ⟨rfl, h'⟩ := DNilD.out g11
        exact (hw_safe (Λ := (W_crc_Join.Λ5 K (W_crc_Join.l5 K k))) mix _ _ [(0, .int .u32 x4), (1, .int .u32 x5), (2, .int .i64 x6), (7, .pointer (some a1)), (12, .int .i64 x7)] [] H (Eq.mp (by kernel_rfl) h') (obs_seq obs_region rfl (obs_seq (obs_cond obs_skip obs_exit) rfl (obs_seq (obs_block obs_region) rfl obs_region)))).weaken (EnvLe.cons e0 (EnvLe.cons e1 (EnvLe.cons e2 (EnvLe.cons e7 (EnvLe.cons e12 (EnvLe.nil _)))))) (Hp.le_refl _))))) rfl (obs_seq (obs_block (obs_loop rfl (fun E D H h => by
      refine Safe.loop' (W_crc_Join.l8.L K) (fun E D H h => ?_) (fun k E D H h => ?_) E D H h
      · obtain ⟨w0, e0, g1⟩ := DG.out h; obtain ⟨x8, rfl, g2⟩ := DI.out g1; obtain ⟨w1, e1, g3⟩ := DG.out g2; obtain ⟨x9, rfl, g4⟩ := DI.out g3; obtain ⟨w2, e2, g5⟩ := DG.out g4; obtain ⟨x10, rfl, g6⟩ := DI.out g5; obtain ⟨w7, e7, g7⟩ := DG.out g6; obtain ⟨pw7, rfl, g8⟩ := DP.out g7; obtain ⟨a2, rfl, g9⟩ := NN.out g8; obtain ⟨rfl, h'⟩ := DNilD.out g9; exact h'
      · obtain ⟨w0, e0, g1⟩ := DG.out h
        obtain ⟨x8, rfl, g2⟩ := DI.out g1
        obtain ⟨w1, e1, g3⟩ := DG.out g2
        obtain ⟨x9, rfl, g4⟩ := DI.out g3
        obtain ⟨w2, e2, g5⟩ := DG.out g4
        obtain ⟨x10, rfl, g6⟩ := DI.out g5
        obtain ⟨w7, e7, g7⟩ := DG.out g6
        obtain ⟨pw7, rfl, g8⟩ := DP.out g7
        obtain ⟨a2, rfl, g9⟩ := NN.out g8
        obtain ⟨rfl, h'⟩ := DNilD.out g9
        exact (hw_safe (Λ := (W_crc_Join.Λ8 K (W_crc_Join.l8 K k))) mix _ _ [(0, .int .u32 x8), (1, .int .u32 x9), (2, .int .i64 x10), (7, .pointer (some a2))] [] H (Eq.mp (by kernel_rfl) h') (obs_seq (obs_seq obs_region rfl (obs_cond obs_skip obs_exit)) rfl (obs_seq (obs_block (obs_seq (obs_seq obs_region rfl (obs_cond obs_region obs_skip)) rfl obs_region)) rfl obs_region))).weaken (EnvLe.cons e0 (EnvLe.cons e1 (EnvLe.cons e2 (EnvLe.cons e7 (EnvLe.nil _))))) (Hp.le_refl _)))) rfl (obs_seq obs_region rfl obs_ret)))))))

-- crc.More
def W_crc_More.l4 (K : Value → Hp → Prop) : Nat → Addr → Int → Option Addr → Nat → Nat → Int → Int → Hp → Prop
  | 0, _, _, _, _, _, _, _, _ => False
  | k + 1, a1, x2, A2, n2, m2, x3, x4, H =>
    let R4 := W_crc_More.l4 K k
    BIf (decide (x4 < x3)) (ixI x4 n2 (NN A2 fun a2 => Ld H (a2.add (x4.toNat * 1)) fun v2 => DI .u8 v2 fun x5 => (0 ≤ (4 : Int) ∧ ixI (bAnd .u32 (bXor .u32 x2 (IntKind.u32.wrap x5)) (15 : Int)) 16 (Ld H (a1.add ((bAnd .u32 (bXor .u32 x2 (IntKind.u32.wrap x5)) (15 : Int)).toNat * 1)) fun v3 => DI .u32 v3 fun x6 => (0 ≤ (4 : Int) ∧ ixI (bAnd .u32 (bXor .u32 (shrI .u32 (bXor .u32 x2 (IntKind.u32.wrap x5)) (4 : Int)) x6) (15 : Int)) 16 (Ld H (a1.add ((bAnd .u32 (bXor .u32 (shrI .u32 (bXor .u32 x2 (IntKind.u32.wrap x5)) (4 : Int)) x6) (15 : Int)).toNat * 1)) fun v4 => DI .u32 v4 fun x7 => R4 a1 (bXor .u32 (shrI .u32 (bXor .u32 (shrI .u32 (bXor .u32 x2 (IntKind.u32.wrap x5)) (4 : Int)) x6) (4 : Int)) x7) A2 n2 m2 x3 (IntKind.i64.wrap (x4 + (1 : Int))) H)))))) (K (.int .u32 (bXor .u32 IntKind.u32.max x2)) H)
def W_crc_More (x1 : Int) (A1 : Option Addr) (n1 : Nat) (m1 : Nat) (H : Hp) (K : Value → Hp → Prop) : Prop :=
  HCalls Try.prog 52 #[] H fun v1 H1 => DA v1 fun y1 => Nw H1 (.obj (.cells #[.int .u32 (0 : Int), .int .u32 (0 : Int), .int .u32 (0 : Int), .int .u32 (0 : Int), .int .u32 (0 : Int), .int .u32 (0 : Int), .int .u32 (0 : Int), .int .u32 (0 : Int), .int .u32 (0 : Int), .int .u32 (0 : Int), .int .u32 (0 : Int), .int .u32 (0 : Int), .int .u32 (0 : Int), .int .u32 (0 : Int), .int .u32 (0 : Int), .int .u32 (0 : Int)] 102)) fun b1 H2 => StA H2 (⟨b1, 0, none⟩ : Addr) y1 16 fun H3 => (∃ k, W_crc_More.l4 K k (⟨b1, 0, none⟩ : Addr) (bXor .u32 IntKind.u32.max x1) A1 n1 m1 (n1 : Nat) (0 : Int) H3)
def W_crc_More.l4.L (K : Value → Hp → Prop) (k : Nat) : Mid := fun E D H =>
  DG (E.get? 5) fun w5 => DP w5 fun pw5 => NN pw5 fun a1 => DG (E.get? 6) fun w6 => DI .u32 w6 fun x2 => DG (E.get? 12) fun w12 => DSl w12 fun A2 n2 m2 => DG (E.get? 13) fun w13 => DI .i64 w13 fun x3 => DG (E.get? 14) fun w14 => DI .i64 w14 fun x4 => DNilD D (W_crc_More.l4 K k a1 x2 A2 n2 m2 x3 x4 H)
def W_crc_More.Λ4 (_ : Value → Hp → Prop) (_R4 : Addr → Int → Option Addr → Nat → Nat → Int → Int → Hp → Prop) : Cuts := Cuts.none (fun _ => none)
def W_crc_More.Λ (K : Value → Hp → Prop) : Cuts := ⟨fun i => none, fun i => match Nat.beq i 4 with | true => some (fun E D H => ∃ k, W_crc_More.l4.L K k E D H) | false => none, (fun _ => none)⟩
theorem W_crc_More.ok (x1 : Int) (A1 : Option Addr) (n1 : Nat) (m1 : Nat) (H : Hp) (K : Value → Hp → Prop) (h : W_crc_More x1 A1 n1 m1 H K) : HCalls Try.prog 41 #[.int .u32 x1, .slice A1 n1 m1] H K :=
  hcalls Try.func41 rfl (Nat.le_of_ble_eq_true rfl) (hw_safe (Λ := (W_crc_More.Λ K)) mix _ _ _ _ _ (Eq.mp (by kernel_rfl) h) (obs_seq obs_region rfl (obs_seq obs_region rfl (obs_seq obs_region rfl (obs_seq (obs_seq obs_region rfl (obs_block (obs_loop rfl (fun E D H h => by
      refine Safe.loop' (W_crc_More.l4.L K) (fun E D H h => ?_) (fun k E D H h => ?_) E D H h
      · obtain ⟨w5, e5, g1⟩ := DG.out h; obtain ⟨pw5, rfl, g2⟩ := DP.out g1; obtain ⟨a1, rfl, g3⟩ := NN.out g2; obtain ⟨w6, e6, g4⟩ := DG.out g3; obtain ⟨x2, rfl, g5⟩ := DI.out g4; obtain ⟨w12, e12, g6⟩ := DG.out g5; obtain ⟨A2, n2, m2, rfl, g7⟩ := DSl.out g6; obtain ⟨w13, e13, g8⟩ := DG.out g7; obtain ⟨x3, rfl, g9⟩ := DI.out g8; obtain ⟨w14, e14, g10⟩ := DG.out g9; obtain ⟨x4, rfl, g11⟩ := DI.out g10; obtain ⟨rfl, h'⟩ := DNilD.out g11; exact h'
      · obtain ⟨w5, e5, g1⟩ := DG.out h
        obtain ⟨pw5, rfl, g2⟩ := DP.out g1
        obtain ⟨a1, rfl, g3⟩ := NN.out g2
        obtain ⟨w6, e6, g4⟩ := DG.out g3
        obtain ⟨x2, rfl, g5⟩ := DI.out g4
        obtain ⟨w12, e12, g6⟩ := DG.out g5
        obtain ⟨A2, n2, m2, rfl, g7⟩ := DSl.out g6
        obtain ⟨w13, e13, g8⟩ := DG.out g7
        obtain ⟨x3, rfl, g9⟩ := DI.out g8
        obtain ⟨w14, e14, g10⟩ := DG.out g9
        obtain ⟨x4, rfl, g11⟩ := DI.out g10
        obtain ⟨rfl, h'⟩ := DNilD.out g11
        exact (hw_safe (Λ := (W_crc_More.Λ4 K (W_crc_More.l4 K k))) mix _ _ [(5, .pointer (some a1)), (6, .int .u32 x2), (12, .slice A2 n2 m2), (13, .int .i64 x3), (14, .int .i64 x4)] [] H (Eq.mp (by kernel_rfl) h') (obs_seq obs_region rfl (obs_seq (obs_cond obs_skip obs_exit) rfl (obs_seq (obs_block (obs_seq obs_region rfl (obs_seq obs_region rfl (obs_seq obs_region rfl obs_region)))) rfl obs_region)))).weaken (EnvLe.cons e5 (EnvLe.cons e6 (EnvLe.cons e12 (EnvLe.cons e13 (EnvLe.cons e14 (EnvLe.nil _)))))) (Hp.le_refl _))))) rfl (obs_seq obs_region rfl obs_ret))))))

-- crc.Sum
def W_crc_Sum.l3 (K : Value → Hp → Prop) : Nat → Int → Option Addr → Nat → Nat → Int → Int → Hp → Prop
  | 0, _, _, _, _, _, _, _ => False
  | k + 1, x1, A2, n2, m2, x2, x3, H =>
    let R3 := W_crc_Sum.l3 K k
    BIf (decide (x3 < x2)) (ixI x3 n2 (NN A2 fun a1 => Ld H (a1.add (x3.toNat * 1)) fun v1 => DSl v1 fun A3 n3 m3 => HCalls Try.prog 41 #[.int .u32 x1, .slice A3 n3 m3] H fun v2 H1 => DI .u32 v2 fun x4 => R3 x4 A2 n2 m2 x2 (IntKind.i64.wrap (x3 + (1 : Int))) H1)) (K (.int .u32 x1) H)
def W_crc_Sum (A1 : Option Addr) (n1 : Nat) (m1 : Nat) (H : Hp) (K : Value → Hp → Prop) : Prop :=
  (∃ k, W_crc_Sum.l3 K k (0 : Int) A1 n1 m1 (n1 : Nat) (0 : Int) H)
def W_crc_Sum.l3.L (K : Value → Hp → Prop) (k : Nat) : Mid := fun E D H =>
  DG (E.get? 3) fun w3 => DI .u32 w3 fun x1 => DG (E.get? 6) fun w6 => DSl w6 fun A2 n2 m2 => DG (E.get? 7) fun w7 => DI .i64 w7 fun x2 => DG (E.get? 8) fun w8 => DI .i64 w8 fun x3 => DNilD D (W_crc_Sum.l3 K k x1 A2 n2 m2 x2 x3 H)
def W_crc_Sum.Λ3 (_ : Value → Hp → Prop) (_R3 : Int → Option Addr → Nat → Nat → Int → Int → Hp → Prop) : Cuts := Cuts.none (fun _ => none)
def W_crc_Sum.Λ (K : Value → Hp → Prop) : Cuts := ⟨fun i => none, fun i => match Nat.beq i 3 with | true => some (fun E D H => ∃ k, W_crc_Sum.l3.L K k E D H) | false => none, (fun _ => none)⟩
theorem W_crc_Sum.ok (A1 : Option Addr) (n1 : Nat) (m1 : Nat) (H : Hp) (K : Value → Hp → Prop) (h : W_crc_Sum A1 n1 m1 H K) : HCalls Try.prog 42 #[.slice A1 n1 m1] H K :=
  hcalls Try.func42 rfl (Nat.le_of_ble_eq_true rfl) (hw_safe (Λ := (W_crc_Sum.Λ K)) mix _ _ _ _ _ (Eq.mp (by kernel_rfl) h) (obs_seq obs_region rfl (obs_seq obs_region rfl (obs_seq (obs_seq obs_region rfl (obs_block (obs_loop rfl (fun E D H h => by
      refine Safe.loop' (W_crc_Sum.l3.L K) (fun E D H h => ?_) (fun k E D H h => ?_) E D H h
      · obtain ⟨w3, e3, g1⟩ := DG.out h; obtain ⟨x1, rfl, g2⟩ := DI.out g1; obtain ⟨w6, e6, g3⟩ := DG.out g2; obtain ⟨A2, n2, m2, rfl, g4⟩ := DSl.out g3; obtain ⟨w7, e7, g5⟩ := DG.out g4; obtain ⟨x2, rfl, g6⟩ := DI.out g5; obtain ⟨w8, e8, g7⟩ := DG.out g6; obtain ⟨x3, rfl, g8⟩ := DI.out g7; obtain ⟨rfl, h'⟩ := DNilD.out g8; exact h'
      · obtain ⟨w3, e3, g1⟩ := DG.out h
        obtain ⟨x1, rfl, g2⟩ := DI.out g1
        obtain ⟨w6, e6, g3⟩ := DG.out g2
        obtain ⟨A2, n2, m2, rfl, g4⟩ := DSl.out g3
        obtain ⟨w7, e7, g5⟩ := DG.out g4
        obtain ⟨x2, rfl, g6⟩ := DI.out g5
        obtain ⟨w8, e8, g7⟩ := DG.out g6
        obtain ⟨x3, rfl, g8⟩ := DI.out g7
        obtain ⟨rfl, h'⟩ := DNilD.out g8
        exact (hw_safe (Λ := (W_crc_Sum.Λ3 K (W_crc_Sum.l3 K k))) mix _ _ [(3, .int .u32 x1), (6, .slice A2 n2 m2), (7, .int .i64 x2), (8, .int .i64 x3)] [] H (Eq.mp (by kernel_rfl) h') (obs_seq obs_region rfl (obs_seq (obs_cond obs_skip obs_exit) rfl (obs_seq (obs_block (obs_seq obs_region rfl obs_region)) rfl obs_region)))).weaken (EnvLe.cons e3 (EnvLe.cons e6 (EnvLe.cons e7 (EnvLe.cons e8 (EnvLe.nil _))))) (Hp.le_refl _))))) rfl (obs_seq obs_region rfl obs_ret)))))

-- crc.bit
def W_crc_bit.l3 (K : Value → Hp → Prop) : Nat → Addr → Int → Hp → Prop
  | 0, _, _, _ => False
  | k + 1, a1, x1, H =>
    let R3 := W_crc_bit.l3 K k
    BIf (decide (x1 < (32 : Int))) ((0 ≤ (IntKind.u64.wrap (IntKind.i64.wrap (x1 - (1 : Int)))) ∧ ixI x1 32 (St H ((a1.add (x1.toNat * 1)).add 0) (.int .u32 (shlI .u32 (1 : Int) (IntKind.u64.wrap (IntKind.i64.wrap (x1 - (1 : Int)))))) fun H3 => R3 a1 (IntKind.i64.wrap (x1 + (1 : Int))) H3))) (LdA H a1 32 fun l1 => StA H a1 l1.toArray 32 fun H4 => LdA H4 a1 32 fun l2 => K (.agg l2.toArray) H4)
def W_crc_bit (H : Hp) (K : Value → Hp → Prop) : Prop :=
  Nw H (.obj (.cells #[.int .u32 (0 : Int), .int .u32 (0 : Int), .int .u32 (0 : Int), .int .u32 (0 : Int), .int .u32 (0 : Int), .int .u32 (0 : Int), .int .u32 (0 : Int), .int .u32 (0 : Int), .int .u32 (0 : Int), .int .u32 (0 : Int), .int .u32 (0 : Int), .int .u32 (0 : Int), .int .u32 (0 : Int), .int .u32 (0 : Int), .int .u32 (0 : Int), .int .u32 (0 : Int), .int .u32 (0 : Int), .int .u32 (0 : Int), .int .u32 (0 : Int), .int .u32 (0 : Int), .int .u32 (0 : Int), .int .u32 (0 : Int), .int .u32 (0 : Int), .int .u32 (0 : Int), .int .u32 (0 : Int), .int .u32 (0 : Int), .int .u32 (0 : Int), .int .u32 (0 : Int), .int .u32 (0 : Int), .int .u32 (0 : Int), .int .u32 (0 : Int), .int .u32 (0 : Int)] 99)) fun b1 H1 => ixI (0 : Int) 32 (St H1 (((⟨b1, 0, none⟩ : Addr).add ((0 : Int).toNat * 1)).add 0) (.int .u32 (2197175160 : Int)) fun H2 => (∃ k, W_crc_bit.l3 K k (⟨b1, 0, none⟩ : Addr) (1 : Int) H2))
def W_crc_bit.l3.L (K : Value → Hp → Prop) (k : Nat) : Mid := fun E D H =>
  DG (E.get? 0) fun w0 => DP w0 fun pw0 => NN pw0 fun a1 => DG (E.get? 1) fun w1 => DI .i64 w1 fun x1 => DNilD D (W_crc_bit.l3 K k a1 x1 H)
def W_crc_bit.Λ3 (_ : Value → Hp → Prop) (_R3 : Addr → Int → Hp → Prop) : Cuts := Cuts.none (fun _ => none)
def W_crc_bit.Λ (K : Value → Hp → Prop) : Cuts := ⟨fun i => none, fun i => match Nat.beq i 3 with | true => some (fun E D H => ∃ k, W_crc_bit.l3.L K k E D H) | false => none, (fun _ => none)⟩
theorem W_crc_bit.ok (H : Hp) (K : Value → Hp → Prop) (h : W_crc_bit H K) : HCalls Try.prog 49 #[] H K :=
  hcalls Try.func49 rfl (Nat.le_of_ble_eq_true rfl) (hw_safe (Λ := (W_crc_bit.Λ K)) mix _ _ _ _ _ (Eq.mp (by kernel_rfl) h) (obs_seq obs_region rfl (obs_seq obs_region rfl (obs_seq (obs_seq obs_region rfl (obs_block (obs_loop rfl (fun E D H h => by
      refine Safe.loop' (W_crc_bit.l3.L K) (fun E D H h => ?_) (fun k E D H h => ?_) E D H h
      · obtain ⟨w0, e0, g1⟩ := DG.out h; obtain ⟨pw0, rfl, g2⟩ := DP.out g1; obtain ⟨a1, rfl, g3⟩ := NN.out g2; obtain ⟨w1, e1, g4⟩ := DG.out g3; obtain ⟨x1, rfl, g5⟩ := DI.out g4; obtain ⟨rfl, h'⟩ := DNilD.out g5; exact h'
      · obtain ⟨w0, e0, g1⟩ := DG.out h
        obtain ⟨pw0, rfl, g2⟩ := DP.out g1
        obtain ⟨a1, rfl, g3⟩ := NN.out g2
        obtain ⟨w1, e1, g4⟩ := DG.out g3
        obtain ⟨x1, rfl, g5⟩ := DI.out g4
        obtain ⟨rfl, h'⟩ := DNilD.out g5
        exact (hw_safe (Λ := (W_crc_bit.Λ3 K (W_crc_bit.l3 K k))) mix _ _ [(0, .pointer (some a1)), (1, .int .i64 x1)] [] H (Eq.mp (by kernel_rfl) h') (obs_seq (obs_seq obs_region rfl (obs_cond obs_skip obs_exit)) rfl (obs_seq (obs_block obs_region) rfl obs_region))).weaken (EnvLe.cons e0 (EnvLe.cons e1 (EnvLe.nil _))) (Hp.le_refl _))))) rfl (obs_seq obs_region rfl obs_ret)))))

-- (*crc.matrix).twice
def W_crc_matrix_twice.l2 (K : Value → Hp → Prop) : Nat → Option Addr → Addr → Int → Hp → Prop
  | 0, _, _, _, _ => False
  | k + 1, p2, a1, x1, H =>
    let R2 := W_crc_matrix_twice.l2 K k
    BIf (decide (x1 < (32 : Int))) (NN p2 fun a2 => ixI x1 32 (Ld H (a2.add (x1.toNat * 1)) fun v1 => DI .u32 v1 fun x2 => HCalls Try.prog 51 #[.pointer p2, .int .u32 x2] H fun v2 H2 => DI .u32 v2 fun x3 => ixI x1 32 (St H2 ((a1.add (x1.toNat * 1)).add 0) (.int .u32 x3) fun H3 => R2 p2 a1 (IntKind.i64.wrap (x1 + (1 : Int))) H3))) (LdA H a1 32 fun l1 => StA H a1 l1.toArray 32 fun H4 => LdA H4 a1 32 fun l2 => K (.agg l2.toArray) H4)
def W_crc_matrix_twice (p1 : Option Addr) (H : Hp) (K : Value → Hp → Prop) : Prop :=
  Nw H (.obj (.cells #[.int .u32 (0 : Int), .int .u32 (0 : Int), .int .u32 (0 : Int), .int .u32 (0 : Int), .int .u32 (0 : Int), .int .u32 (0 : Int), .int .u32 (0 : Int), .int .u32 (0 : Int), .int .u32 (0 : Int), .int .u32 (0 : Int), .int .u32 (0 : Int), .int .u32 (0 : Int), .int .u32 (0 : Int), .int .u32 (0 : Int), .int .u32 (0 : Int), .int .u32 (0 : Int), .int .u32 (0 : Int), .int .u32 (0 : Int), .int .u32 (0 : Int), .int .u32 (0 : Int), .int .u32 (0 : Int), .int .u32 (0 : Int), .int .u32 (0 : Int), .int .u32 (0 : Int), .int .u32 (0 : Int), .int .u32 (0 : Int), .int .u32 (0 : Int), .int .u32 (0 : Int), .int .u32 (0 : Int), .int .u32 (0 : Int), .int .u32 (0 : Int), .int .u32 (0 : Int)] 99)) fun b1 H1 => (∃ k, W_crc_matrix_twice.l2 K k p1 (⟨b1, 0, none⟩ : Addr) (0 : Int) H1)
def W_crc_matrix_twice.l2.L (K : Value → Hp → Prop) (k : Nat) : Mid := fun E D H =>
  DG (E.get? 0) fun w0 => DP w0 fun p2 => DG (E.get? 2) fun w2 => DP w2 fun pw2 => NN pw2 fun a1 => DG (E.get? 4) fun w4 => DI .i64 w4 fun x1 => DNilD D (W_crc_matrix_twice.l2 K k p2 a1 x1 H)
def W_crc_matrix_twice.Λ2 (_ : Value → Hp → Prop) (_R2 : Option Addr → Addr → Int → Hp → Prop) : Cuts := Cuts.none (fun _ => none)
def W_crc_matrix_twice.Λ (K : Value → Hp → Prop) : Cuts := ⟨fun i => none, fun i => match Nat.beq i 2 with | true => some (fun E D H => ∃ k, W_crc_matrix_twice.l2.L K k E D H) | false => none, (fun _ => none)⟩
theorem W_crc_matrix_twice.ok (p1 : Option Addr) (H : Hp) (K : Value → Hp → Prop) (h : W_crc_matrix_twice p1 H K) : HCalls Try.prog 50 #[.pointer p1] H K :=
  hcalls Try.func50 rfl (Nat.le_of_ble_eq_true rfl) (hw_safe (Λ := (W_crc_matrix_twice.Λ K)) mix _ _ _ _ _ (Eq.mp (by kernel_rfl) h) (obs_seq obs_region rfl (obs_seq (obs_seq obs_region rfl (obs_block (obs_loop rfl (fun E D H h => by
      refine Safe.loop' (W_crc_matrix_twice.l2.L K) (fun E D H h => ?_) (fun k E D H h => ?_) E D H h
      · obtain ⟨w0, e0, g1⟩ := DG.out h; obtain ⟨p2, rfl, g2⟩ := DP.out g1; obtain ⟨w2, e2, g3⟩ := DG.out g2; obtain ⟨pw2, rfl, g4⟩ := DP.out g3; obtain ⟨a1, rfl, g5⟩ := NN.out g4; obtain ⟨w4, e4, g6⟩ := DG.out g5; obtain ⟨x1, rfl, g7⟩ := DI.out g6; obtain ⟨rfl, h'⟩ := DNilD.out g7; exact h'
      · obtain ⟨w0, e0, g1⟩ := DG.out h
        obtain ⟨p2, rfl, g2⟩ := DP.out g1
        obtain ⟨w2, e2, g3⟩ := DG.out g2
        obtain ⟨pw2, rfl, g4⟩ := DP.out g3
        obtain ⟨a1, rfl, g5⟩ := NN.out g4
        obtain ⟨w4, e4, g6⟩ := DG.out g5
        obtain ⟨x1, rfl, g7⟩ := DI.out g6
        obtain ⟨rfl, h'⟩ := DNilD.out g7
        exact (hw_safe (Λ := (W_crc_matrix_twice.Λ2 K (W_crc_matrix_twice.l2 K k))) mix _ _ [(0, .pointer p2), (2, .pointer (some a1)), (4, .int .i64 x1)] [] H (Eq.mp (by kernel_rfl) h') (obs_seq obs_region rfl (obs_seq (obs_cond obs_skip obs_exit) rfl (obs_seq (obs_block (obs_seq obs_region rfl obs_region)) rfl obs_region)))).weaken (EnvLe.cons e0 (EnvLe.cons e2 (EnvLe.cons e4 (EnvLe.nil _)))) (Hp.le_refl _))))) rfl (obs_seq obs_region rfl obs_ret))))

-- (*crc.matrix).of
def W_crc_matrix_of.l3 (K : Value → Hp → Prop) : Nat → Option Addr → Int → Int → Int → Hp → Prop
  | 0, _, _, _, _, _ => False
  | k + 1, p2, x2, x3, x4, H =>
    let R3 := W_crc_matrix_of.l3 K k
    BIf (decide (x2 > (0 : Int))) (BIf ((bAnd .u32 x2 (1 : Int)) == (1 : Int)) (NN p2 fun a1 => ixI x4 32 (Ld H (a1.add (x4.toNat * 1)) fun v1 => DI .u32 v1 fun x5 => (0 ≤ (1 : Int) ∧ R3 p2 (shrI .u32 x2 (1 : Int)) (bXor .u32 x3 x5) (IntKind.i64.wrap (x4 + (1 : Int))) H))) ((0 ≤ (1 : Int) ∧ R3 p2 (shrI .u32 x2 (1 : Int)) x3 (IntKind.i64.wrap (x4 + (1 : Int))) H))) (K (.int .u32 x3) H)
def W_crc_matrix_of (p1 : Option Addr) (x1 : Int) (H : Hp) (K : Value → Hp → Prop) : Prop :=
  (∃ k, W_crc_matrix_of.l3 K k p1 x1 (0 : Int) (0 : Int) H)
def W_crc_matrix_of.l3.L (K : Value → Hp → Prop) (k : Nat) : Mid := fun E D H =>
  DG (E.get? 0) fun w0 => DP w0 fun p2 => DG (E.get? 1) fun w1 => DI .u32 w1 fun x2 => DG (E.get? 5) fun w5 => DI .u32 w5 fun x3 => DG (E.get? 6) fun w6 => DI .i64 w6 fun x4 => DNilD D (W_crc_matrix_of.l3 K k p2 x2 x3 x4 H)
def W_crc_matrix_of.Λ3 (_ : Value → Hp → Prop) (_R3 : Option Addr → Int → Int → Int → Hp → Prop) : Cuts := Cuts.none (fun _ => none)
def W_crc_matrix_of.Λ (K : Value → Hp → Prop) : Cuts := ⟨fun i => none, fun i => match Nat.beq i 3 with | true => some (fun E D H => ∃ k, W_crc_matrix_of.l3.L K k E D H) | false => none, (fun _ => none)⟩
theorem W_crc_matrix_of.ok (p1 : Option Addr) (x1 : Int) (H : Hp) (K : Value → Hp → Prop) (h : W_crc_matrix_of p1 x1 H K) : HCalls Try.prog 51 #[.pointer p1, .int .u32 x1] H K :=
  hcalls Try.func51 rfl (Nat.le_of_ble_eq_true rfl) (hw_safe (Λ := (W_crc_matrix_of.Λ K)) mix _ _ _ _ _ (Eq.mp (by kernel_rfl) h) (obs_seq obs_region rfl (obs_seq obs_region rfl (obs_seq (obs_seq obs_region rfl (obs_block (obs_loop rfl (fun E D H h => by
      refine Safe.loop' (W_crc_matrix_of.l3.L K) (fun E D H h => ?_) (fun k E D H h => ?_) E D H h
      · obtain ⟨w0, e0, g1⟩ := DG.out h; obtain ⟨p2, rfl, g2⟩ := DP.out g1; obtain ⟨w1, e1, g3⟩ := DG.out g2; obtain ⟨x2, rfl, g4⟩ := DI.out g3; obtain ⟨w5, e5, g5⟩ := DG.out g4; obtain ⟨x3, rfl, g6⟩ := DI.out g5; obtain ⟨w6, e6, g7⟩ := DG.out g6; obtain ⟨x4, rfl, g8⟩ := DI.out g7; obtain ⟨rfl, h'⟩ := DNilD.out g8; exact h'
      · obtain ⟨w0, e0, g1⟩ := DG.out h
        obtain ⟨p2, rfl, g2⟩ := DP.out g1
        obtain ⟨w1, e1, g3⟩ := DG.out g2
        obtain ⟨x2, rfl, g4⟩ := DI.out g3
        obtain ⟨w5, e5, g5⟩ := DG.out g4
        obtain ⟨x3, rfl, g6⟩ := DI.out g5
        obtain ⟨w6, e6, g7⟩ := DG.out g6
        obtain ⟨x4, rfl, g8⟩ := DI.out g7
        obtain ⟨rfl, h'⟩ := DNilD.out g8
        exact (hw_safe (Λ := (W_crc_matrix_of.Λ3 K (W_crc_matrix_of.l3 K k))) mix _ _ [(0, .pointer p2), (1, .int .u32 x2), (5, .int .u32 x3), (6, .int .i64 x4)] [] H (Eq.mp (by kernel_rfl) h') (obs_seq (obs_seq obs_region rfl (obs_cond obs_skip obs_exit)) rfl (obs_seq (obs_block (obs_seq obs_region rfl (obs_cond obs_region obs_skip))) rfl obs_region))).weaken (EnvLe.cons e0 (EnvLe.cons e1 (EnvLe.cons e5 (EnvLe.cons e6 (EnvLe.nil _))))) (Hp.le_refl _))))) rfl (obs_seq obs_region rfl obs_ret)))))

-- crc.nibbles
def W_crc_nibbles.l6 (K : Value → Hp → Prop) (R2 : Addr → Int → Hp → Prop) : Nat → Addr → Int → Int → Int → Int → Hp → Prop
  | 0, _, _, _, _, _, _ => False
  | k + 1, a2, x2, x3, x4, x5, H =>
    let R6 := W_crc_nibbles.l6 K R2 k
    BIf (decide (x5 < (4 : Int))) ((0 ≤ (1 : Int) ∧ R6 a2 x2 (bXor .u32 (shrI .u32 x3 (1 : Int)) (IntKind.u32.wrap ((2197175160 : Int) * (bAnd .u32 x3 (1 : Int))))) x4 (IntKind.i64.wrap (x5 + (1 : Int))) H)) (ixI x2 16 (St H ((a2.add (x2.toNat * 1)).add 0) (.int .u32 x3) fun H2 => R2 a2 (IntKind.i64.wrap (x4 + (1 : Int))) H2))
def W_crc_nibbles.l2 (K : Value → Hp → Prop) : Nat → Addr → Int → Hp → Prop
  | 0, _, _, _ => False
  | k + 1, a1, x1, H =>
    let R2 := W_crc_nibbles.l2 K k
    BIf (decide (x1 < (16 : Int))) ((∃ k, W_crc_nibbles.l6 K R2 k a1 x1 (IntKind.u32.wrap x1) x1 (0 : Int) H)) (LdA H a1 16 fun l1 => StA H a1 l1.toArray 16 fun H3 => LdA H3 a1 16 fun l2 => K (.agg l2.toArray) H3)
def W_crc_nibbles (H : Hp) (K : Value → Hp → Prop) : Prop :=
  Nw H (.obj (.cells #[.int .u32 (0 : Int), .int .u32 (0 : Int), .int .u32 (0 : Int), .int .u32 (0 : Int), .int .u32 (0 : Int), .int .u32 (0 : Int), .int .u32 (0 : Int), .int .u32 (0 : Int), .int .u32 (0 : Int), .int .u32 (0 : Int), .int .u32 (0 : Int), .int .u32 (0 : Int), .int .u32 (0 : Int), .int .u32 (0 : Int), .int .u32 (0 : Int), .int .u32 (0 : Int)] 102)) fun b1 H1 => (∃ k, W_crc_nibbles.l2 K k (⟨b1, 0, none⟩ : Addr) (0 : Int) H1)
def W_crc_nibbles.l2.L (K : Value → Hp → Prop) (k : Nat) : Mid := fun E D H =>
  DG (E.get? 0) fun w0 => DP w0 fun pw0 => NN pw0 fun a1 => DG (E.get? 3) fun w3 => DI .i64 w3 fun x1 => DNilD D (W_crc_nibbles.l2 K k a1 x1 H)
def W_crc_nibbles.l6.L (K : Value → Hp → Prop) (R2 : Addr → Int → Hp → Prop) (k : Nat) : Mid := fun E D H =>
  DG (E.get? 0) fun w0 => DP w0 fun pw0 => NN pw0 fun a2 => DG (E.get? 1) fun w1 => DI .i64 w1 fun x2 => DG (E.get? 2) fun w2 => DI .u32 w2 fun x3 => DG (E.get? 3) fun w3 => DI .i64 w3 fun x4 => DG (E.get? 8) fun w8 => DI .i64 w8 fun x5 => DNilD D (W_crc_nibbles.l6 K R2 k a2 x2 x3 x4 x5 H)
def W_crc_nibbles.Λ6 (_ : Value → Hp → Prop) (_R2 : Addr → Int → Hp → Prop) (_R6 : Addr → Int → Int → Int → Int → Hp → Prop) : Cuts := Cuts.none (fun _ => none)
def W_crc_nibbles.Λ2 (K : Value → Hp → Prop) (R2 : Addr → Int → Hp → Prop) : Cuts := ⟨fun i => none, fun i => match Nat.beq i 6 with | true => some (fun E D H => ∃ k, W_crc_nibbles.l6.L K R2 k E D H) | false => none, (fun _ => none)⟩
def W_crc_nibbles.Λ (K : Value → Hp → Prop) : Cuts := ⟨fun i => none, fun i => match Nat.beq i 2 with | true => some (fun E D H => ∃ k, W_crc_nibbles.l2.L K k E D H) | false => none, (fun _ => none)⟩
theorem W_crc_nibbles.ok (H : Hp) (K : Value → Hp → Prop) (h : W_crc_nibbles H K) : HCalls Try.prog 52 #[] H K :=
  hcalls Try.func52 rfl (Nat.le_of_ble_eq_true rfl) (hw_safe (Λ := (W_crc_nibbles.Λ K)) mix _ _ _ _ _ (Eq.mp (by kernel_rfl) h) (obs_seq obs_region rfl (obs_seq (obs_seq obs_region rfl (obs_block (obs_loop rfl (fun E D H h => by
      refine Safe.loop' (W_crc_nibbles.l2.L K) (fun E D H h => ?_) (fun k E D H h => ?_) E D H h
      · obtain ⟨w0, e0, g1⟩ := DG.out h; obtain ⟨pw0, rfl, g2⟩ := DP.out g1; obtain ⟨a1, rfl, g3⟩ := NN.out g2; obtain ⟨w3, e3, g4⟩ := DG.out g3; obtain ⟨x1, rfl, g5⟩ := DI.out g4; obtain ⟨rfl, h'⟩ := DNilD.out g5; exact h'
      · obtain ⟨w0, e0, g1⟩ := DG.out h
        obtain ⟨pw0, rfl, g2⟩ := DP.out g1
        obtain ⟨a1, rfl, g3⟩ := NN.out g2
        obtain ⟨w3, e3, g4⟩ := DG.out g3
        obtain ⟨x1, rfl, g5⟩ := DI.out g4
        obtain ⟨rfl, h'⟩ := DNilD.out g5
        exact (hw_safe (Λ := (W_crc_nibbles.Λ2 K (W_crc_nibbles.l2 K k))) mix _ _ [(0, .pointer (some a1)), (3, .int .i64 x1)] [] H (Eq.mp (by kernel_rfl) h') (obs_seq obs_region rfl (obs_seq (obs_cond obs_skip obs_exit) rfl (obs_seq (obs_block (obs_seq obs_region rfl (obs_seq obs_region rfl (obs_seq (obs_seq obs_region rfl (obs_block (obs_loop rfl (fun E D H h => by
            refine Safe.loop' (W_crc_nibbles.l6.L K (W_crc_nibbles.l2 K k)) (fun E D H h => ?_) (fun k E D H h => ?_) E D H h
            · obtain ⟨w0, e0, g1⟩ := DG.out h; obtain ⟨pw0, rfl, g2⟩ := DP.out g1; obtain ⟨a2, rfl, g3⟩ := NN.out g2; obtain ⟨w1, e1, g4⟩ := DG.out g3; obtain ⟨x2, rfl, g5⟩ := DI.out g4; obtain ⟨w2, e2, g6⟩ := DG.out g5; obtain ⟨x3, rfl, g7⟩ := DI.out g6; obtain ⟨w3, e3, g8⟩ := DG.out g7; obtain ⟨x4, rfl, g9⟩ := DI.out g8; obtain ⟨w8, e8, g10⟩ := DG.out g9; obtain ⟨x5, rfl, g11⟩ := DI.out g10; obtain ⟨rfl, h'⟩ := DNilD.out g11; exact h'
            · obtain ⟨w0, e0, g1⟩ := DG.out h
              obtain ⟨pw0, rfl, g2⟩ := DP.out g1
              obtain ⟨a2, rfl, g3⟩ := NN.out g2
              obtain ⟨w1, e1, g4⟩ := DG.out g3
              obtain ⟨x2, rfl, g5⟩ := DI.out g4
              obtain ⟨w2, e2, g6⟩ := DG.out g5
              obtain ⟨x3, rfl, g7⟩ := DI.out g6
              obtain ⟨w3, e3, g8⟩ := DG.out g7
              obtain ⟨x4, rfl, g9⟩ := DI.out g8
              obtain ⟨w8, e8, g10⟩ := DG.out g9
              obtain ⟨x5, rfl, g11⟩ := DI.out g10
              obtain ⟨rfl, h'⟩ := DNilD.out g11
              exact (hw_safe (Λ := (W_crc_nibbles.Λ6 K (W_crc_nibbles.l2 K k) (W_crc_nibbles.l6 K (W_crc_nibbles.l2 K k) k))) mix _ _ [(0, .pointer (some a2)), (1, .int .i64 x2), (2, .int .u32 x3), (3, .int .i64 x4), (8, .int .i64 x5)] [] H (Eq.mp (by kernel_rfl) h') (obs_seq obs_region rfl (obs_seq (obs_cond obs_skip obs_exit) rfl (obs_seq (obs_block obs_region) rfl obs_region)))).weaken (EnvLe.cons e0 (EnvLe.cons e1 (EnvLe.cons e2 (EnvLe.cons e3 (EnvLe.cons e8 (EnvLe.nil _)))))) (Hp.le_refl _))))) rfl obs_region)))) rfl obs_region)))).weaken (EnvLe.cons e0 (EnvLe.cons e3 (EnvLe.nil _))) (Hp.le_refl _))))) rfl (obs_seq obs_region rfl obs_ret))))

end Go.Proofs.Ytdjdielefolfbaa.W
