/- Formulas of functions, printed by wip/tools/hwp.py. -/
import Derived.Test.YtbnhfcdagoigkaaHwE
import Derived.Test.YtbnhfcdagoigkaaProg
set_option maxRecDepth 100000
set_option linter.unusedVariables false
namespace Go.Proofs.Ytbnhfcdagoigkaa.W
open Go Go.Hw

theorem mix : Try.prog.follows .mixedOrders = true := by kernel_rfl
-- codec.Put
def W_codec_Put.l3 (K : Value → Hp → Prop) : Nat → Option Addr → Nat → Nat → Option Addr → Nat → Nat → Int → Int → Hp → Prop
  | 0, _, _, _, _, _, _, _, _, _ => False
  | k + 1, A3, n3, m3, A4, n4, m4, x1, x2, H =>
    let R3 := W_codec_Put.l3 K k
    BIf (decide (x2 < x1)) (ixI x2 n4 (NN A4 fun a1 => Ld H (a1.add (x2.toNat * 1)) fun v2 => DI .u64 v2 fun x3 => slB n3 m3 (some (IntKind.i64.wrap ((8 : Int) * x2))) none fun n5 n6 => HCalls Try.prog 78 #[.slice (slA A3 m3 n5 1) (n6 - n5) (m3 - n5), .int .u64 x3] H fun v3 H2 => R3 A3 n3 m3 A4 n4 m4 x1 (IntKind.i64.wrap (x2 + (1 : Int))) H2)) (K (.slice A3 n3 m3) H)
def W_codec_Put (A1 : Option Addr) (n1 : Nat) (m1 : Nat) (H : Hp) (K : Value → Hp → Prop) : Prop :=
  MkS Try.prog 5 (IntKind.i64.wrap ((8 : Int) * ((n1 : Nat) : Int))) (IntKind.i64.wrap ((8 : Int) * ((n1 : Nat) : Int))) H fun v1 H1 => DSl v1 fun A2 n2 m2 => (∃ k, W_codec_Put.l3 K k A2 n2 m2 A1 n1 m1 ((n1 : Nat) : Int) (0 : Int) H1)
def W_codec_Put.l3.L (K : Value → Hp → Prop) (k : Nat) : Mid := fun E D H =>
  DG (E.get? 3) fun w3 => DSl w3 fun A3 n3 m3 => DG (E.get? 10) fun w10 => DSl w10 fun A4 n4 m4 => DG (E.get? 11) fun w11 => DI .i64 w11 fun x1 => DG (E.get? 12) fun w12 => DI .i64 w12 fun x2 => DNilD D (W_codec_Put.l3 K k A3 n3 m3 A4 n4 m4 x1 x2 H)
def W_codec_Put.Λ3 (_ : Value → Hp → Prop) (_R3 : Option Addr → Nat → Nat → Option Addr → Nat → Nat → Int → Int → Hp → Prop) : Cuts := Cuts.none (fun _ => none)
def W_codec_Put.Λ (K : Value → Hp → Prop) : Cuts := ⟨fun i => none, fun i => match Nat.beq i 3 with | true => some (fun E D H => ∃ k, W_codec_Put.l3.L K k E D H) | false => none, (fun _ => none)⟩
theorem W_codec_Put.ok (A1 : Option Addr) (n1 : Nat) (m1 : Nat) (H : Hp) (K : Value → Hp → Prop) (h : W_codec_Put A1 n1 m1 H K) : HCalls Try.prog 57 #[.slice A1 n1 m1] H K :=
  hcalls Try.func57 rfl (Nat.le_of_ble_eq_true rfl) (hw_safe (Λ := (W_codec_Put.Λ K)) mix _ _ _ _ _ (Eq.mp (by kernel_rfl) h) (obs_seq obs_region rfl (obs_seq obs_region rfl (obs_seq (obs_seq obs_region rfl (obs_block (obs_loop rfl (fun E D H h => by
      refine Safe.loop' (W_codec_Put.l3.L K) (fun E D H h => ?_) (fun k E D H h => ?_) E D H h
      · obtain ⟨w3, e3, g1⟩ := DG.out h; obtain ⟨A3, n3, m3, rfl, g2⟩ := DSl.out g1; obtain ⟨w10, e10, g3⟩ := DG.out g2; obtain ⟨A4, n4, m4, rfl, g4⟩ := DSl.out g3; obtain ⟨w11, e11, g5⟩ := DG.out g4; obtain ⟨x1, rfl, g6⟩ := DI.out g5; obtain ⟨w12, e12, g7⟩ := DG.out g6; obtain ⟨x2, rfl, g8⟩ := DI.out g7; obtain ⟨rfl, h'⟩ := DNilD.out g8; exact h'
      · obtain ⟨w3, e3, g1⟩ := DG.out h
        obtain ⟨A3, n3, m3, rfl, g2⟩ := DSl.out g1
        obtain ⟨w10, e10, g3⟩ := DG.out g2
        obtain ⟨A4, n4, m4, rfl, g4⟩ := DSl.out g3
        obtain ⟨w11, e11, g5⟩ := DG.out g4
        obtain ⟨x1, rfl, g6⟩ := DI.out g5
        obtain ⟨w12, e12, g7⟩ := DG.out g6
        obtain ⟨x2, rfl, g8⟩ := DI.out g7
        obtain ⟨rfl, h'⟩ := DNilD.out g8
        exact (hw_safe (Λ := (W_codec_Put.Λ3 K (W_codec_Put.l3 K k))) mix _ _ [(3, .slice A3 n3 m3), (10, .slice A4 n4 m4), (11, .int .i64 x1), (12, .int .i64 x2)] [] H (Eq.mp (by kernel_rfl) h') (obs_seq obs_region rfl (obs_seq (obs_cond obs_skip obs_exit) rfl (obs_seq (obs_block (obs_seq obs_region rfl obs_region)) rfl obs_region)))).weaken (EnvLe.cons e3 (EnvLe.cons e10 (EnvLe.cons e11 (EnvLe.cons e12 (EnvLe.nil _))))) (Hp.le_refl _))))) rfl (obs_seq obs_region rfl obs_ret)))))

-- codec.Word
def W_codec_Word (A1 : Option Addr) (n1 : Nat) (m1 : Nat) (x1 : Int) (H : Hp) (K : Value → Hp → Prop) : Prop :=
  HCalls Try.prog 81 #[.slice A1 n1 m1, .int .i64 x1] H fun v1 H1 => DB v1 fun c1 => BIf (!c1) (K (.tuple #[.int .u64 (0 : Int), .int .i64 (2 : Int)]) H1) (slB n1 m1 (some (IntKind.i64.wrap ((8 : Int) * x1))) none fun n2 n3 => HCalls Try.prog 82 #[.slice (slA A1 m1 n2 1) (n3 - n2) (m1 - n2)] H1 fun v2 H2 => DI .u64 v2 fun x2 => K (.tuple #[.int .u64 x2, .int .i64 (0 : Int)]) H2)
def W_codec_Word.Λ (_ : Value → Hp → Prop) : Cuts := Cuts.none (fun _ => none)
theorem W_codec_Word.ok (A1 : Option Addr) (n1 : Nat) (m1 : Nat) (x1 : Int) (H : Hp) (K : Value → Hp → Prop) (h : W_codec_Word A1 n1 m1 x1 H K) : HCalls Try.prog 63 #[.slice A1 n1 m1, .int .i64 x1] H K :=
  hcalls Try.func63 rfl (Nat.le_of_ble_eq_true rfl) (hw_safe (Λ := Cuts.none (fun _ => none)) mix _ _ _ _ _ (Eq.mp (by kernel_rfl) h) (obs_none _ _ _ _ _))

-- codec.set
def W_codec_set.l1 (K : Value → Hp → Prop) : Nat → Option Addr → Nat → Nat → Int → Int → Hp → Prop
  | 0, _, _, _, _, _, _ => False
  | k + 1, A2, n2, m2, x2, x3, H =>
    let R1 := W_codec_set.l1 K k
    BIf (decide (x3 < (8 : Int))) ((0 ≤ (IntKind.u64.wrap (IntKind.i64.wrap ((8 : Int) * x3))) ∧ ixI x3 n2 (NN A2 fun a1 => St H ((a1.add (x3.toNat * 1)).add 0) (.int .u8 (IntKind.u8.wrap (shrI .u64 x2 (IntKind.u64.wrap (IntKind.i64.wrap ((8 : Int) * x3)))))) fun H1 => R1 A2 n2 m2 x2 (IntKind.i64.wrap (x3 + (1 : Int))) H1))) (K (.tuple #[]) H)
def W_codec_set (A1 : Option Addr) (n1 : Nat) (m1 : Nat) (x1 : Int) (H : Hp) (K : Value → Hp → Prop) : Prop :=
  (∃ k, W_codec_set.l1 K k A1 n1 m1 x1 (0 : Int) H)
def W_codec_set.l1.L (K : Value → Hp → Prop) (k : Nat) : Mid := fun E D H =>
  DG (E.get? 0) fun w0 => DSl w0 fun A2 n2 m2 => DG (E.get? 1) fun w1 => DI .u64 w1 fun x2 => DG (E.get? 5) fun w5 => DI .i64 w5 fun x3 => DNilD D (W_codec_set.l1 K k A2 n2 m2 x2 x3 H)
def W_codec_set.Λ1 (_ : Value → Hp → Prop) (_R1 : Option Addr → Nat → Nat → Int → Int → Hp → Prop) : Cuts := Cuts.none (fun _ => none)
def W_codec_set.Λ (K : Value → Hp → Prop) : Cuts := ⟨fun i => none, fun i => match Nat.beq i 1 with | true => some (fun E D H => ∃ k, W_codec_set.l1.L K k E D H) | false => none, (fun _ => none)⟩
theorem W_codec_set.ok (A1 : Option Addr) (n1 : Nat) (m1 : Nat) (x1 : Int) (H : Hp) (K : Value → Hp → Prop) (h : W_codec_set A1 n1 m1 x1 H K) : HCalls Try.prog 78 #[.slice A1 n1 m1, .int .u64 x1] H K :=
  hcalls Try.func78 rfl (Nat.le_of_ble_eq_true rfl) (hw_safe (Λ := (W_codec_set.Λ K)) mix _ _ _ _ _ (Eq.mp (by kernel_rfl) h) (obs_seq obs_region rfl (obs_block (obs_loop rfl (fun E D H h => by
      refine Safe.loop' (W_codec_set.l1.L K) (fun E D H h => ?_) (fun k E D H h => ?_) E D H h
      · obtain ⟨w0, e0, g1⟩ := DG.out h; obtain ⟨A2, n2, m2, rfl, g2⟩ := DSl.out g1; obtain ⟨w1, e1, g3⟩ := DG.out g2; obtain ⟨x2, rfl, g4⟩ := DI.out g3; obtain ⟨w5, e5, g5⟩ := DG.out g4; obtain ⟨x3, rfl, g6⟩ := DI.out g5; obtain ⟨rfl, h'⟩ := DNilD.out g6; exact h'
      · obtain ⟨w0, e0, g1⟩ := DG.out h
        obtain ⟨A2, n2, m2, rfl, g2⟩ := DSl.out g1
        obtain ⟨w1, e1, g3⟩ := DG.out g2
        obtain ⟨x2, rfl, g4⟩ := DI.out g3
        obtain ⟨w5, e5, g5⟩ := DG.out g4
        obtain ⟨x3, rfl, g6⟩ := DI.out g5
        obtain ⟨rfl, h'⟩ := DNilD.out g6
        exact (hw_safe (Λ := (W_codec_set.Λ1 K (W_codec_set.l1 K k))) mix _ _ [(0, .slice A2 n2 m2), (1, .int .u64 x2), (5, .int .i64 x3)] [] H (Eq.mp (by kernel_rfl) h') (obs_seq obs_region rfl (obs_seq (obs_cond obs_skip obs_exit) rfl (obs_seq (obs_block (obs_seq obs_region rfl obs_region)) rfl obs_region)))).weaken (EnvLe.cons e0 (EnvLe.cons e1 (EnvLe.cons e5 (EnvLe.nil _)))) (Hp.le_refl _))))))

-- codec.inside
def W_codec_inside (A1 : Option Addr) (n1 : Nat) (m1 : Nat) (x1 : Int) (H : Hp) (K : Value → Hp → Prop) : Prop :=
  BIf (decide (x1 ≥ (0 : Int))) (((8 : Int) ≠ 0 ∧ IntKind.i64 = IntKind.i64 ∧ K (.bool (decide (x1 < (IntKind.i64.wrap (Int.tdiv ((n1 : Nat) : Int) (8 : Int)))))) H)) (K (.bool false) H)
def W_codec_inside.Λ (_ : Value → Hp → Prop) : Cuts := Cuts.none (fun _ => none)
theorem W_codec_inside.ok (A1 : Option Addr) (n1 : Nat) (m1 : Nat) (x1 : Int) (H : Hp) (K : Value → Hp → Prop) (h : W_codec_inside A1 n1 m1 x1 H K) : HCalls Try.prog 81 #[.slice A1 n1 m1, .int .i64 x1] H K :=
  hcalls Try.func81 rfl (Nat.le_of_ble_eq_true rfl) (hw_safe (Λ := Cuts.none (fun _ => none)) mix _ _ _ _ _ (Eq.mp (by kernel_rfl) h) (obs_none _ _ _ _ _))

-- codec.word
def W_codec_word.l3 (K : Value → Hp → Prop) : Nat → Option Addr → Nat → Nat → Int → Int → Hp → Prop
  | 0, _, _, _, _, _, _ => False
  | k + 1, A2, n2, m2, x1, x2, H =>
    let R3 := W_codec_word.l3 K k
    BIf (decide (x2 ≥ (0 : Int))) ((0 ≤ (8 : Int) ∧ ixI x2 n2 (NN A2 fun a1 => Ld H (a1.add (x2.toNat * 1)) fun v1 => DI .u8 v1 fun x3 => R3 A2 n2 m2 (bOr .u64 (shlI .u64 x1 (8 : Int)) (IntKind.u64.wrap x3)) (IntKind.i64.wrap (x2 - (1 : Int))) H))) (K (.int .u64 x1) H)
def W_codec_word (A1 : Option Addr) (n1 : Nat) (m1 : Nat) (H : Hp) (K : Value → Hp → Prop) : Prop :=
  (∃ k, W_codec_word.l3 K k A1 n1 m1 (0 : Int) (7 : Int) H)
def W_codec_word.l3.L (K : Value → Hp → Prop) (k : Nat) : Mid := fun E D H =>
  DG (E.get? 0) fun w0 => DSl w0 fun A2 n2 m2 => DG (E.get? 3) fun w3 => DI .u64 w3 fun x1 => DG (E.get? 4) fun w4 => DI .i64 w4 fun x2 => DNilD D (W_codec_word.l3 K k A2 n2 m2 x1 x2 H)
def W_codec_word.Λ3 (_ : Value → Hp → Prop) (_R3 : Option Addr → Nat → Nat → Int → Int → Hp → Prop) : Cuts := Cuts.none (fun _ => none)
def W_codec_word.Λ (K : Value → Hp → Prop) : Cuts := ⟨fun i => none, fun i => match Nat.beq i 3 with | true => some (fun E D H => ∃ k, W_codec_word.l3.L K k E D H) | false => none, (fun _ => none)⟩
theorem W_codec_word.ok (A1 : Option Addr) (n1 : Nat) (m1 : Nat) (H : Hp) (K : Value → Hp → Prop) (h : W_codec_word A1 n1 m1 H K) : HCalls Try.prog 82 #[.slice A1 n1 m1] H K :=
  hcalls Try.func82 rfl (Nat.le_of_ble_eq_true rfl) (hw_safe (Λ := (W_codec_word.Λ K)) mix _ _ _ _ _ (Eq.mp (by kernel_rfl) h) (obs_seq obs_region rfl (obs_seq obs_region rfl (obs_seq (obs_seq obs_region rfl (obs_block (obs_loop rfl (fun E D H h => by
      refine Safe.loop' (W_codec_word.l3.L K) (fun E D H h => ?_) (fun k E D H h => ?_) E D H h
      · obtain ⟨w0, e0, g1⟩ := DG.out h; obtain ⟨A2, n2, m2, rfl, g2⟩ := DSl.out g1; obtain ⟨w3, e3, g3⟩ := DG.out g2; obtain ⟨x1, rfl, g4⟩ := DI.out g3; obtain ⟨w4, e4, g5⟩ := DG.out g4; obtain ⟨x2, rfl, g6⟩ := DI.out g5; obtain ⟨rfl, h'⟩ := DNilD.out g6; exact h'
      · obtain ⟨w0, e0, g1⟩ := DG.out h
        obtain ⟨A2, n2, m2, rfl, g2⟩ := DSl.out g1
        obtain ⟨w3, e3, g3⟩ := DG.out g2
        obtain ⟨x1, rfl, g4⟩ := DI.out g3
        obtain ⟨w4, e4, g5⟩ := DG.out g4
        obtain ⟨x2, rfl, g6⟩ := DI.out g5
        obtain ⟨rfl, h'⟩ := DNilD.out g6
        exact (hw_safe (Λ := (W_codec_word.Λ3 K (W_codec_word.l3 K k))) mix _ _ [(0, .slice A2 n2 m2), (3, .int .u64 x1), (4, .int .i64 x2)] [] H (Eq.mp (by kernel_rfl) h') (obs_seq (obs_seq obs_region rfl (obs_cond obs_skip obs_exit)) rfl (obs_seq (obs_block obs_region) rfl obs_region))).weaken (EnvLe.cons e0 (EnvLe.cons e3 (EnvLe.cons e4 (EnvLe.nil _)))) (Hp.le_refl _))))) rfl (obs_seq obs_region rfl obs_ret)))))

end Go.Proofs.Ytbnhfcdagoigkaa.W
