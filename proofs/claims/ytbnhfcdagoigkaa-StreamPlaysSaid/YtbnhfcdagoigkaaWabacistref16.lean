/- Formulas of functions, printed by wip/tools/hwp.py. -/
import Derived.Test.YtbnhfcdagoigkaaHwE
import Derived.Test.YtbnhfcdagoigkaaProg
set_option maxRecDepth 100000
set_option linter.unusedVariables false
namespace Go.Proofs.Ytbnhfcdagoigkaa.W
open Go Go.Hw

theorem mix : Try.prog.follows .mixedOrders = true := by kernel_rfl
-- abacistref16.OfWords
def W_abacistref16_OfWords (A1 : Option Addr) (n1 : Nat) (m1 : Nat) (H : Hp) (K : Value → Hp → Prop) : Prop :=
  HCalls Try.prog 54 #[.slice A1 n1 m1] H fun v1 H1 => DS v1 fun s1 => HCalls Try.prog 53 #[.string s1] H1 fun v2 H2 => DI .u32 v2 fun x1 => K (.int .u32 x1) H2
def W_abacistref16_OfWords.Λ (_ : Value → Hp → Prop) : Cuts := Cuts.none (fun _ => none)
theorem W_abacistref16_OfWords.ok (A1 : Option Addr) (n1 : Nat) (m1 : Nat) (H : Hp) (K : Value → Hp → Prop) (h : W_abacistref16_OfWords A1 n1 m1 H K) : HCalls Try.prog 25 #[.slice A1 n1 m1] H K :=
  hcalls Try.func25 rfl (Nat.le_of_ble_eq_true rfl) (hw_safe (Λ := Cuts.none (fun _ => none)) mix _ _ _ _ _ (Eq.mp (by kernel_rfl) h) (obs_none _ _ _ _ _))

-- abacistref16.Of
def W_abacistref16_Of.l7 (K : Value → Hp → Prop) (R3 : ByteArray → Int → Int → Hp → Prop) : Nat → ByteArray → Int → Int → Int → Int → Hp → Prop
  | 0, _, _, _, _, _, _ => False
  | k + 1, s3, x4, x5, x6, x7, H =>
    let R7 := W_abacistref16_Of.l7 K R3 k
    BIf (decide (x7 < (8 : Int))) (((2 : Int) ≠ 0 ∧ IntKind.u32 = IntKind.u32 ∧ ((2 : Int) ≠ 0 ∧ IntKind.u32 = IntKind.u32 ∧ ((2 : Int) ≠ 0 ∧ IntKind.u8 = IntKind.u8 ∧ BIf ((Int.tmod (bXor .u32 x4 (IntKind.u32.wrap x6)) (2 : Int)) == (1 : Int)) (R7 s3 (bXor .u32 (IntKind.u32.wrap (Int.tdiv x4 (2 : Int))) (2197175160 : Int)) x5 (IntKind.u8.wrap (Int.tdiv x6 (2 : Int))) (IntKind.i64.wrap (x7 + (1 : Int))) H) (R7 s3 (IntKind.u32.wrap (Int.tdiv x4 (2 : Int))) x5 (IntKind.u8.wrap (Int.tdiv x6 (2 : Int))) (IntKind.i64.wrap (x7 + (1 : Int))) H))))) (R3 s3 x4 (IntKind.i64.wrap (x5 + (1 : Int))) H)
def W_abacistref16_Of.l3 (K : Value → Hp → Prop) : Nat → ByteArray → Int → Int → Hp → Prop
  | 0, _, _, _, _ => False
  | k + 1, s2, x1, x2, H =>
    let R3 := W_abacistref16_Of.l3 K k
    BIf (decide (x2 < ((s2.size : Nat) : Int))) ((0 ≤ x2 ∧ ixB s2 x2.toNat fun x3 => (∃ k, W_abacistref16_Of.l7 K R3 k s2 x1 x2 x3 (0 : Int) H))) (K (.int .u32 (bXor .u32 x1 (4294967295 : Int))) H)
def W_abacistref16_Of (s1 : ByteArray) (H : Hp) (K : Value → Hp → Prop) : Prop :=
  (∃ k, W_abacistref16_Of.l3 K k s1 (4294967295 : Int) (0 : Int) H)
def W_abacistref16_Of.l3.L (K : Value → Hp → Prop) (k : Nat) : Mid := fun E D H =>
  DG (E.get? 0) fun w0 => DS w0 fun s2 => DG (E.get? 3) fun w3 => DI .u32 w3 fun x1 => DG (E.get? 4) fun w4 => DI .i64 w4 fun x2 => DNilD D (W_abacistref16_Of.l3 K k s2 x1 x2 H)
def W_abacistref16_Of.l7.L (K : Value → Hp → Prop) (R3 : ByteArray → Int → Int → Hp → Prop) (k : Nat) : Mid := fun E D H =>
  DG (E.get? 0) fun w0 => DS w0 fun s3 => DG (E.get? 3) fun w3 => DI .u32 w3 fun x4 => DG (E.get? 4) fun w4 => DI .i64 w4 fun x5 => DG (E.get? 5) fun w5 => DI .u8 w5 fun x6 => DG (E.get? 6) fun w6 => DI .i64 w6 fun x7 => DNilD D (W_abacistref16_Of.l7 K R3 k s3 x4 x5 x6 x7 H)
def W_abacistref16_Of.Λ7 (_ : Value → Hp → Prop) (_R3 : ByteArray → Int → Int → Hp → Prop) (_R7 : ByteArray → Int → Int → Int → Int → Hp → Prop) : Cuts := Cuts.none (fun _ => none)
def W_abacistref16_Of.Λ3 (K : Value → Hp → Prop) (R3 : ByteArray → Int → Int → Hp → Prop) : Cuts := ⟨fun i => none, fun i => match Nat.beq i 7 with | true => some (fun E D H => ∃ k, W_abacistref16_Of.l7.L K R3 k E D H) | false => none, (fun _ => none)⟩
def W_abacistref16_Of.Λ (K : Value → Hp → Prop) : Cuts := ⟨fun i => none, fun i => match Nat.beq i 3 with | true => some (fun E D H => ∃ k, W_abacistref16_Of.l3.L K k E D H) | false => none, (fun _ => none)⟩
theorem W_abacistref16_Of.ok (s1 : ByteArray) (H : Hp) (K : Value → Hp → Prop) (h : W_abacistref16_Of s1 H K) : HCalls Try.prog 53 #[.string s1] H K :=
  hcalls Try.func53 rfl (Nat.le_of_ble_eq_true rfl) (hw_safe (Λ := (W_abacistref16_Of.Λ K)) mix _ _ _ _ _ (Eq.mp (by kernel_rfl) h) (obs_seq obs_region rfl (obs_seq obs_region rfl (obs_seq (obs_seq obs_region rfl (obs_block (obs_loop rfl (fun E D H h => by
      refine Safe.loop' (W_abacistref16_Of.l3.L K) (fun E D H h => ?_) (fun k E D H h => ?_) E D H h
      · obtain ⟨w0, e0, g1⟩ := DG.out h; obtain ⟨s2, rfl, g2⟩ := DS.out g1; obtain ⟨w3, e3, g3⟩ := DG.out g2; obtain ⟨x1, rfl, g4⟩ := DI.out g3; obtain ⟨w4, e4, g5⟩ := DG.out g4; obtain ⟨x2, rfl, g6⟩ := DI.out g5; obtain ⟨rfl, h'⟩ := DNilD.out g6; exact h'
      · obtain ⟨w0, e0, g1⟩ := DG.out h
        obtain ⟨s2, rfl, g2⟩ := DS.out g1
        obtain ⟨w3, e3, g3⟩ := DG.out g2
        obtain ⟨x1, rfl, g4⟩ := DI.out g3
        obtain ⟨w4, e4, g5⟩ := DG.out g4
        obtain ⟨x2, rfl, g6⟩ := DI.out g5
        obtain ⟨rfl, h'⟩ := DNilD.out g6
        exact (hw_safe (Λ := (W_abacistref16_Of.Λ3 K (W_abacistref16_Of.l3 K k))) mix _ _ [(0, .string s2), (3, .int .u32 x1), (4, .int .i64 x2)] [] H (Eq.mp (by kernel_rfl) h') (obs_seq (obs_seq obs_region rfl (obs_cond obs_skip obs_exit)) rfl (obs_seq (obs_block (obs_seq obs_region rfl (obs_seq obs_region rfl (obs_block (obs_loop rfl (fun E D H h => by
            refine Safe.loop' (W_abacistref16_Of.l7.L K (W_abacistref16_Of.l3 K k)) (fun E D H h => ?_) (fun k E D H h => ?_) E D H h
            · obtain ⟨w0, e0, g1⟩ := DG.out h; obtain ⟨s3, rfl, g2⟩ := DS.out g1; obtain ⟨w3, e3, g3⟩ := DG.out g2; obtain ⟨x4, rfl, g4⟩ := DI.out g3; obtain ⟨w4, e4, g5⟩ := DG.out g4; obtain ⟨x5, rfl, g6⟩ := DI.out g5; obtain ⟨w5, e5, g7⟩ := DG.out g6; obtain ⟨x6, rfl, g8⟩ := DI.out g7; obtain ⟨w6, e6, g9⟩ := DG.out g8; obtain ⟨x7, rfl, g10⟩ := DI.out g9; obtain ⟨rfl, h'⟩ := DNilD.out g10; exact h'
            · obtain ⟨w0, e0, g1⟩ := DG.out h
              obtain ⟨s3, rfl, g2⟩ := DS.out g1
              obtain ⟨w3, e3, g3⟩ := DG.out g2
              obtain ⟨x4, rfl, g4⟩ := DI.out g3
              obtain ⟨w4, e4, g5⟩ := DG.out g4
              obtain ⟨x5, rfl, g6⟩ := DI.out g5
              obtain ⟨w5, e5, g7⟩ := DG.out g6
              obtain ⟨x6, rfl, g8⟩ := DI.out g7
              obtain ⟨w6, e6, g9⟩ := DG.out g8
              obtain ⟨x7, rfl, g10⟩ := DI.out g9
              obtain ⟨rfl, h'⟩ := DNilD.out g10
              exact (hw_safe (Λ := (W_abacistref16_Of.Λ7 K (W_abacistref16_Of.l3 K k) (W_abacistref16_Of.l7 K (W_abacistref16_Of.l3 K k) k))) mix _ _ [(0, .string s3), (3, .int .u32 x4), (4, .int .i64 x5), (5, .int .u8 x6), (6, .int .i64 x7)] [] H (Eq.mp (by kernel_rfl) h') (obs_seq (obs_seq obs_region rfl (obs_cond obs_skip obs_exit)) rfl (obs_seq (obs_block (obs_seq obs_region rfl (obs_seq obs_region rfl (obs_seq obs_region rfl (obs_seq obs_region rfl (obs_cond obs_region obs_skip)))))) rfl obs_region))).weaken (EnvLe.cons e0 (EnvLe.cons e3 (EnvLe.cons e4 (EnvLe.cons e5 (EnvLe.cons e6 (EnvLe.nil _)))))) (Hp.le_refl _))))))) rfl obs_region))).weaken (EnvLe.cons e0 (EnvLe.cons e3 (EnvLe.cons e4 (EnvLe.nil _)))) (Hp.le_refl _))))) rfl (obs_seq obs_region rfl obs_ret)))))

end Go.Proofs.Ytbnhfcdagoigkaa.W
