/- Formulas of functions, printed by wip/tools/hwp.py. -/
import Derived.Test.YtbnhfcdagoigkaaHwE
import Derived.Test.YtbnhfcdagoigkaaProg
set_option maxRecDepth 100000
set_option linter.unusedVariables false
namespace Go.Proofs.Ytbnhfcdagoigkaa.W
open Go Go.Hw

theorem mix : Try.prog.follows .mixedOrders = true := by kernel_rfl
-- abacistref18.Good
def W_abacistref18_Good (x1 : Int) (x2 : Int) (x3 : Int) (x4 : Int) (H : Hp) (K : Value → Hp → Prop) : Prop :=
  Nw H (.obj (.cells #[.int .i64 x1, .int .i64 x2, .int .i64 x3, .int .i64 x4] 23)) fun b1 H1 => Ld H1 ((⟨b1, 0, none⟩ : Addr).add 2) fun v1 => DI .i64 v1 fun x5 => QCall Try.prog 34 #[.int .i64 x5] H1 fun v2 => DI .i64 v2 fun x6 => BIf (decide (x6 ≥ (0 : Int))) (Ld H1 ((⟨b1, 0, none⟩ : Addr).add 0) fun v3 => DI .i64 v3 fun x7 => BIf (decide (x7 ≥ (0 : Int))) (Ld H1 ((⟨b1, 0, none⟩ : Addr).add 0) fun v4 => DI .i64 v4 fun x8 => BIf (decide (x8 ≤ (32 : Int))) (Ld H1 ((⟨b1, 0, none⟩ : Addr).add 1) fun v5 => DI .i64 v5 fun x9 => Ld H1 ((⟨b1, 0, none⟩ : Addr).add 0) fun v6 => DI .i64 v6 fun x10 => Ld H1 ((⟨b1, 0, none⟩ : Addr).add 2) fun v7 => DI .i64 v7 fun x11 => QCall Try.prog 35 #[.int .i64 x10, .int .i64 x11] H1 fun v8 => DI .i64 v8 fun x12 => BIf (decide (x9 ≥ x12)) (Ld H1 ((⟨b1, 0, none⟩ : Addr).add 3) fun v9 => DI .i64 v9 fun x13 => BIf (decide (x13 ≥ (1 : Int))) (Ld H1 ((⟨b1, 0, none⟩ : Addr).add 3) fun v10 => DI .i64 v10 fun x14 => K (.bool (decide (x14 ≤ (16777216 : Int)))) H1) (K (.bool false) H1)) (K (.bool false) H1)) (K (.bool false) H1)) (K (.bool false) H1)) (K (.bool false) H1)
def W_abacistref18_Good.Λ (_ : Value → Hp → Prop) : Cuts := Cuts.none (fun _ => none)
theorem W_abacistref18_Good.ok (x1 : Int) (x2 : Int) (x3 : Int) (x4 : Int) (H : Hp) (K : Value → Hp → Prop) (h : W_abacistref18_Good x1 x2 x3 x4 H K) : HCalls Try.prog 10 #[.agg #[.int .i64 x1, .int .i64 x2, .int .i64 x3, .int .i64 x4]] H K :=
  hcalls Try.func10 rfl (Nat.le_of_ble_eq_true rfl) (hw_safe (Λ := Cuts.none (fun _ => none)) mix _ _ _ _ _ (Eq.mp (by kernel_rfl) h) (obs_none _ _ _ _ _))

-- abacistref18.Log
def W_abacistref18_Log.l3 (K : Value → Hp → Prop) : Nat → Int → Int → Int → Hp → Prop
  | 0, _, _, _, _ => False
  | k + 1, x2, x3, x4, H =>
    let R3 := W_abacistref18_Log.l3 K k
    BIf (decide (x4 ≤ (12 : Int))) (BIf (x2 == x3) (K (.int .i64 x4) H) (R3 x2 (IntKind.i64.wrap ((2 : Int) * x3)) (IntKind.i64.wrap (x4 + (1 : Int))) H)) (K (.int .i64 (-1 : Int)) H)
def W_abacistref18_Log (x1 : Int) (H : Hp) (K : Value → Hp → Prop) : Prop :=
  (∃ k, W_abacistref18_Log.l3 K k x1 (32 : Int) (5 : Int) H)
def W_abacistref18_Log.l3.L (K : Value → Hp → Prop) (k : Nat) : Mid := fun E D H =>
  DG (E.get? 0) fun w0 => DI .i64 w0 fun x2 => DG (E.get? 3) fun w3 => DI .i64 w3 fun x3 => DG (E.get? 4) fun w4 => DI .i64 w4 fun x4 => DNilD D (W_abacistref18_Log.l3 K k x2 x3 x4 H)
def W_abacistref18_Log.Λ3 (_ : Value → Hp → Prop) (_R3 : Int → Int → Int → Hp → Prop) : Cuts := Cuts.none (fun _ => none)
def W_abacistref18_Log.Λ (K : Value → Hp → Prop) : Cuts := ⟨fun i => none, fun i => match Nat.beq i 3 with | true => some (fun E D H => ∃ k, W_abacistref18_Log.l3.L K k E D H) | false => none, (fun _ => none)⟩
theorem W_abacistref18_Log.ok (x1 : Int) (H : Hp) (K : Value → Hp → Prop) (h : W_abacistref18_Log x1 H K) : HCalls Try.prog 34 #[.int .i64 x1] H K :=
  hcalls Try.func34 rfl (Nat.le_of_ble_eq_true rfl) (hw_safe (Λ := (W_abacistref18_Log.Λ K)) mix _ _ _ _ _ (Eq.mp (by kernel_rfl) h) (obs_seq obs_region rfl (obs_seq obs_region rfl (obs_seq (obs_seq obs_region rfl (obs_block (obs_loop rfl (fun E D H h => by
      refine Safe.loop' (W_abacistref18_Log.l3.L K) (fun E D H h => ?_) (fun k E D H h => ?_) E D H h
      · obtain ⟨w0, e0, g1⟩ := DG.out h; obtain ⟨x2, rfl, g2⟩ := DI.out g1; obtain ⟨w3, e3, g3⟩ := DG.out g2; obtain ⟨x3, rfl, g4⟩ := DI.out g3; obtain ⟨w4, e4, g5⟩ := DG.out g4; obtain ⟨x4, rfl, g6⟩ := DI.out g5; obtain ⟨rfl, h'⟩ := DNilD.out g6; exact h'
      · obtain ⟨w0, e0, g1⟩ := DG.out h
        obtain ⟨x2, rfl, g2⟩ := DI.out g1
        obtain ⟨w3, e3, g3⟩ := DG.out g2
        obtain ⟨x3, rfl, g4⟩ := DI.out g3
        obtain ⟨w4, e4, g5⟩ := DG.out g4
        obtain ⟨x4, rfl, g6⟩ := DI.out g5
        obtain ⟨rfl, h'⟩ := DNilD.out g6
        exact (hw_safe (Λ := (W_abacistref18_Log.Λ3 K (W_abacistref18_Log.l3 K k))) mix _ _ [(0, .int .i64 x2), (3, .int .i64 x3), (4, .int .i64 x4)] [] H (Eq.mp (by kernel_rfl) h') (obs_seq (obs_seq obs_region rfl (obs_cond obs_skip obs_exit)) rfl (obs_seq (obs_block (obs_seq (obs_seq obs_region rfl (obs_cond (obs_seq obs_region rfl obs_ret) obs_skip)) rfl obs_region)) rfl obs_region))).weaken (EnvLe.cons e0 (EnvLe.cons e3 (EnvLe.cons e4 (EnvLe.nil _)))) (Hp.le_refl _))))) rfl (obs_seq obs_region rfl obs_ret)))))

-- abacistref18.Need
def W_abacistref18_Need.l3 (K : Value → Hp → Prop) : Nat → Int → Int → Int → Int → Hp → Prop
  | 0, _, _, _, _, _ => False
  | k + 1, x3, x4, x5, x6, H =>
    let R3 := W_abacistref18_Need.l3 K k
    BIf (decide (x6 < x3)) (R3 x3 x4 (IntKind.i64.wrap ((2 : Int) * x5)) (IntKind.i64.wrap (x6 + (1 : Int))) H) (((8 : Int) ≠ 0 ∧ IntKind.i64 = IntKind.i64 ∧ BIf (decide (x5 ≤ (IntKind.i64.wrap (Int.tdiv x4 (8 : Int))))) (K (.int .i64 (13 : Int)) H) (((IntKind.i64.wrap (Int.tdiv x4 (8 : Int))) ≠ 0 ∧ IntKind.i64 = IntKind.i64 ∧ K (.int .i64 (IntKind.i64.wrap ((9 : Int) + (IntKind.i64.wrap ((4 : Int) * (IntKind.i64.wrap (Int.tdiv x5 (IntKind.i64.wrap (Int.tdiv x4 (8 : Int)))))))))) H))))
def W_abacistref18_Need (x1 : Int) (x2 : Int) (H : Hp) (K : Value → Hp → Prop) : Prop :=
  (∃ k, W_abacistref18_Need.l3 K k x1 x2 (1 : Int) (0 : Int) H)
def W_abacistref18_Need.l3.L (K : Value → Hp → Prop) (k : Nat) : Mid := fun E D H =>
  DG (E.get? 0) fun w0 => DI .i64 w0 fun x3 => DG (E.get? 1) fun w1 => DI .i64 w1 fun x4 => DG (E.get? 5) fun w5 => DI .i64 w5 fun x5 => DG (E.get? 6) fun w6 => DI .i64 w6 fun x6 => DNilD D (W_abacistref18_Need.l3 K k x3 x4 x5 x6 H)
def W_abacistref18_Need.Λ3 (_ : Value → Hp → Prop) (_R3 : Int → Int → Int → Int → Hp → Prop) : Cuts := Cuts.none (fun _ => none)
def W_abacistref18_Need.Λ (K : Value → Hp → Prop) : Cuts := ⟨fun i => none, fun i => match Nat.beq i 3 with | true => some (fun E D H => ∃ k, W_abacistref18_Need.l3.L K k E D H) | false => none, (fun _ => none)⟩
theorem W_abacistref18_Need.ok (x1 : Int) (x2 : Int) (H : Hp) (K : Value → Hp → Prop) (h : W_abacistref18_Need x1 x2 H K) : HCalls Try.prog 35 #[.int .i64 x1, .int .i64 x2] H K :=
  hcalls Try.func35 rfl (Nat.le_of_ble_eq_true rfl) (hw_safe (Λ := (W_abacistref18_Need.Λ K)) mix _ _ _ _ _ (Eq.mp (by kernel_rfl) h) (obs_seq obs_region rfl (obs_seq obs_region rfl (obs_seq (obs_seq obs_region rfl (obs_block (obs_loop rfl (fun E D H h => by
      refine Safe.loop' (W_abacistref18_Need.l3.L K) (fun E D H h => ?_) (fun k E D H h => ?_) E D H h
      · obtain ⟨w0, e0, g1⟩ := DG.out h; obtain ⟨x3, rfl, g2⟩ := DI.out g1; obtain ⟨w1, e1, g3⟩ := DG.out g2; obtain ⟨x4, rfl, g4⟩ := DI.out g3; obtain ⟨w5, e5, g5⟩ := DG.out g4; obtain ⟨x5, rfl, g6⟩ := DI.out g5; obtain ⟨w6, e6, g7⟩ := DG.out g6; obtain ⟨x6, rfl, g8⟩ := DI.out g7; obtain ⟨rfl, h'⟩ := DNilD.out g8; exact h'
      · obtain ⟨w0, e0, g1⟩ := DG.out h
        obtain ⟨x3, rfl, g2⟩ := DI.out g1
        obtain ⟨w1, e1, g3⟩ := DG.out g2
        obtain ⟨x4, rfl, g4⟩ := DI.out g3
        obtain ⟨w5, e5, g5⟩ := DG.out g4
        obtain ⟨x5, rfl, g6⟩ := DI.out g5
        obtain ⟨w6, e6, g7⟩ := DG.out g6
        obtain ⟨x6, rfl, g8⟩ := DI.out g7
        obtain ⟨rfl, h'⟩ := DNilD.out g8
        exact (hw_safe (Λ := (W_abacistref18_Need.Λ3 K (W_abacistref18_Need.l3 K k))) mix _ _ [(0, .int .i64 x3), (1, .int .i64 x4), (5, .int .i64 x5), (6, .int .i64 x6)] [] H (Eq.mp (by kernel_rfl) h') (obs_seq (obs_seq obs_region rfl (obs_cond obs_skip obs_exit)) rfl (obs_seq (obs_block obs_region) rfl obs_region))).weaken (EnvLe.cons e0 (EnvLe.cons e1 (EnvLe.cons e5 (EnvLe.cons e6 (EnvLe.nil _))))) (Hp.le_refl _))))) rfl (obs_seq obs_region rfl (obs_seq (obs_seq obs_region rfl (obs_cond (obs_seq obs_region rfl obs_ret) obs_skip)) rfl (obs_seq obs_region rfl obs_ret)))))))

end Go.Proofs.Ytbnhfcdagoigkaa.W
