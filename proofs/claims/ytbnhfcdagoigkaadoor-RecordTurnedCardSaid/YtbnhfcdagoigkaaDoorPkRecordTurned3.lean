import Derived.Test.YtbnhfcdagoigkaaDoorProg
import Derived.Laws.Externs
import Derived.Test.YtbnhfcdagoigkaaDoorPkRecordTurned2
section
/-! Wabacistref04 -/
/- Formulas of functions, printed by wip/tools/hwp.py. -/
set_option maxRecDepth 100000
set_option linter.unusedVariables false
namespace Go.Proofs.YtbnhfcdagoigkaaDoor.W
open Go Go.Hw

theorem mixWabacistref04 : Tryd.prog.follows .mixedOrders = true := by kernel_rfl
-- abacistref04.Same
def W_abacistref04_Same.l4 (K : Value → Hp → Prop) : Nat → Option Addr → Nat → Nat → Option Addr → Nat → Nat → Int → Hp → Prop
  | 0, _, _, _, _, _, _, _, _ => False
  | k + 1, A3, n3, m3, A4, n4, m4, x1, H =>
    let R4 := W_abacistref04_Same.l4 K k
    BIf (decide (x1 < ((n3 : Nat) : Int))) (ixI x1 n3 (NN A3 fun a1 => Ld H (a1.add (x1.toNat * 1)) fun v1 => DI .u64 v1 fun x2 => ixI x1 n4 (NN A4 fun a2 => Ld H (a2.add (x1.toNat * 1)) fun v2 => DI .u64 v2 fun x3 => BIf (x2 != x3) (K (.bool false) H) (R4 A3 n3 m3 A4 n4 m4 (IntKind.i64.wrap (x1 + (1 : Int))) H)))) (K (.bool true) H)
def W_abacistref04_Same (A1 : Option Addr) (n1 : Nat) (m1 : Nat) (A2 : Option Addr) (n2 : Nat) (m2 : Nat) (H : Hp) (K : Value → Hp → Prop) : Prop :=
  BIf (((n1 : Nat) : Int) != ((n2 : Nat) : Int)) (K (.bool false) H) ((∃ k, W_abacistref04_Same.l4 K k A1 n1 m1 A2 n2 m2 (0 : Int) H))
def W_abacistref04_Same.l4.L (K : Value → Hp → Prop) (k : Nat) : Mid := fun E D H =>
  DG (E.get? 0) fun w0 => DSl w0 fun A3 n3 m3 => DG (E.get? 1) fun w1 => DSl w1 fun A4 n4 m4 => DG (E.get? 5) fun w5 => DI .i64 w5 fun x1 => DNilD D (W_abacistref04_Same.l4 K k A3 n3 m3 A4 n4 m4 x1 H)
def W_abacistref04_Same.Λ4 (_ : Value → Hp → Prop) (_R4 : Option Addr → Nat → Nat → Option Addr → Nat → Nat → Int → Hp → Prop) : Cuts := Cuts.none (fun _ => none)
def W_abacistref04_Same.Λ (K : Value → Hp → Prop) : Cuts := ⟨fun i => none, fun i => match Nat.beq i 4 with | true => some (fun E D H => ∃ k, W_abacistref04_Same.l4.L K k E D H) | false => none, (fun _ => none)⟩
theorem W_abacistref04_Same.ok (A1 : Option Addr) (n1 : Nat) (m1 : Nat) (A2 : Option Addr) (n2 : Nat) (m2 : Nat) (H : Hp) (K : Value → Hp → Prop) (h : W_abacistref04_Same A1 n1 m1 A2 n2 m2 H K) : HCalls Tryd.prog 27 #[.slice A1 n1 m1, .slice A2 n2 m2] H K :=
  hcalls Tryd.func27 rfl (Nat.le_of_ble_eq_true rfl) (hw_safe (Λ := (W_abacistref04_Same.Λ K)) mixWabacistref04 _ _ _ _ _ (Eq.mp (by kernel_rfl) h) (obs_seq obs_region rfl (obs_seq (obs_seq obs_region rfl (obs_cond (obs_seq obs_region rfl obs_ret) obs_skip)) rfl (obs_seq (obs_seq obs_region rfl (obs_block (obs_loop rfl (fun E D H h => by
      refine Safe.loop' (W_abacistref04_Same.l4.L K) (fun E D H h => ?_) (fun k E D H h => ?_) E D H h
      · obtain ⟨w0, e0, g1⟩ := DG.out h; obtain ⟨A3, n3, m3, rfl, g2⟩ := DSl.out g1; obtain ⟨w1, e1, g3⟩ := DG.out g2; obtain ⟨A4, n4, m4, rfl, g4⟩ := DSl.out g3; obtain ⟨w5, e5, g5⟩ := DG.out g4; obtain ⟨x1, rfl, g6⟩ := DI.out g5; obtain ⟨rfl, h'⟩ := DNilD.out g6; exact h'
      · obtain ⟨w0, e0, g1⟩ := DG.out h
        obtain ⟨A3, n3, m3, rfl, g2⟩ := DSl.out g1
        obtain ⟨w1, e1, g3⟩ := DG.out g2
        obtain ⟨A4, n4, m4, rfl, g4⟩ := DSl.out g3
        obtain ⟨w5, e5, g5⟩ := DG.out g4
        obtain ⟨x1, rfl, g6⟩ := DI.out g5
        obtain ⟨rfl, h'⟩ := DNilD.out g6
        exact (hw_safe (Λ := (W_abacistref04_Same.Λ4 K (W_abacistref04_Same.l4 K k))) mixWabacistref04 _ _ [(0, .slice A3 n3 m3), (1, .slice A4 n4 m4), (5, .int .i64 x1)] [] H (Eq.mp (by kernel_rfl) h') (obs_seq (obs_seq obs_region rfl (obs_cond obs_skip obs_exit)) rfl (obs_seq (obs_block (obs_seq obs_region rfl (obs_cond (obs_seq obs_region rfl obs_ret) obs_skip))) rfl obs_region))).weaken (EnvLe.cons e0 (EnvLe.cons e1 (EnvLe.cons e5 (EnvLe.nil _)))) (Hp.le_refl _))))) rfl (obs_seq obs_region rfl obs_ret)))))

-- abacistref04.Read
def W_abacistref04_Read.j9 (K : Value → Hp → Prop) (R6 : ByteArray → Option Addr → Nat → Nat → Int → Int → Hp → Prop) (s3 : ByteArray) (A2 : Option Addr) (n2 : Nat) (m2 : Nat) (x4 : Int) (x5 : Int) (H : Hp) : Prop :=
  slB s3.size s3.size (some x4) (some x5) fun n3 n4 => HCalls Tryd.prog 81 #[.string (s3.extract n3 n4)] H fun v1 H1 => DTup v1 fun l1 => DCons l1 fun v2 l2 => DI .u64 v2 fun x6 => DCons l2 fun v3 l3 => DI .i64 v3 fun x7 => DNil l3 (BIf (x7 != (0 : Int)) (K (.tuple #[.slice none 0 0, .int .i64 x4, .int .i64 x7]) H1) (Nw H1 (.row [.int .u64 x6] 22 1) fun b1 H2 => AppK Tryd.prog 22 (.slice A2 n2 m2) (.slice (some ⟨b1, 0, none⟩) 1 1) H2 fun v4 H3 => DSl v4 fun A3 n5 m3 => R6 s3 A3 n5 m3 (IntKind.i64.wrap (x5 + (1 : Int))) (IntKind.i64.wrap (x5 + (1 : Int))) H3))
def W_abacistref04_Read.l6 (K : Value → Hp → Prop) : Nat → ByteArray → Option Addr → Nat → Nat → Int → Int → Hp → Prop
  | 0, _, _, _, _, _, _, _ => False
  | k + 1, s2, A1, n1, m1, x1, x2, H =>
    let R6 := W_abacistref04_Read.l6 K k
    BIf (decide (x2 ≤ ((s2.size : Nat) : Int))) (BIf (decide (x2 < ((s2.size : Nat) : Int))) ((0 ≤ x2 ∧ ixB s2 x2.toNat fun x3 => BIf (x3 != (32 : Int)) (R6 s2 A1 n1 m1 x1 (IntKind.i64.wrap (x2 + (1 : Int))) H) (W_abacistref04_Read.j9 K R6 s2 A1 n1 m1 x1 x2 H))) (W_abacistref04_Read.j9 K R6 s2 A1 n1 m1 x1 x2 H)) (K (.tuple #[.slice A1 n1 m1, .int .i64 (0 : Int), .int .i64 (0 : Int)]) H)
def W_abacistref04_Read (s1 : ByteArray) (H : Hp) (K : Value → Hp → Prop) : Prop :=
  BIf (s1.toList == ((⟨#[]⟩) : ByteArray).toList) (K (.tuple #[.slice none 0 0, .int .i64 (0 : Int), .int .i64 (0 : Int)]) H) ((∃ k, W_abacistref04_Read.l6 K k s1 none 0 0 (0 : Int) (0 : Int) H))
def W_abacistref04_Read.l6.L (K : Value → Hp → Prop) (k : Nat) : Mid := fun E D H =>
  DG (E.get? 0) fun w0 => DS w0 fun s2 => DG (E.get? 5) fun w5 => DSl w5 fun A1 n1 m1 => DG (E.get? 6) fun w6 => DI .i64 w6 fun x1 => DG (E.get? 7) fun w7 => DI .i64 w7 fun x2 => DNilD D (W_abacistref04_Read.l6 K k s2 A1 n1 m1 x1 x2 H)
def W_abacistref04_Read.Λ6 (K : Value → Hp → Prop) (R6 : ByteArray → Option Addr → Nat → Nat → Int → Int → Hp → Prop) : Cuts := ⟨fun i => match Nat.beq i 9 with | true => some (fun E D H => DG (E.get? 0) fun w0 => DS w0 fun s3 => DG (E.get? 5) fun w5 => DSl w5 fun A2 n2 m2 => DG (E.get? 6) fun w6 => DI .i64 w6 fun x4 => DG (E.get? 7) fun w7 => DI .i64 w7 fun x5 => DNilD D (W_abacistref04_Read.j9 K R6 s3 A2 n2 m2 x4 x5 H)) | false => none, fun i => none, (fun _ => none)⟩
def W_abacistref04_Read.Λ (K : Value → Hp → Prop) : Cuts := ⟨fun i => none, fun i => match Nat.beq i 6 with | true => some (fun E D H => ∃ k, W_abacistref04_Read.l6.L K k E D H) | false => none, (fun _ => none)⟩
theorem W_abacistref04_Read.ok (s1 : ByteArray) (H : Hp) (K : Value → Hp → Prop) (h : W_abacistref04_Read s1 H K) : HCalls Tryd.prog 35 #[.string s1] H K :=
  hcalls Tryd.func35 rfl (Nat.le_of_ble_eq_true rfl) (hw_safe (Λ := (W_abacistref04_Read.Λ K)) mixWabacistref04 _ _ _ _ _ (Eq.mp (by kernel_rfl) h) (obs_seq obs_region rfl (obs_seq obs_region rfl (obs_seq (obs_seq obs_region rfl (obs_cond (obs_seq obs_region rfl obs_ret) obs_skip)) rfl (obs_seq obs_region rfl (obs_seq (obs_seq obs_region rfl (obs_block (obs_loop rfl (fun E D H h => by
      refine Safe.loop' (W_abacistref04_Read.l6.L K) (fun E D H h => ?_) (fun k E D H h => ?_) E D H h
      · obtain ⟨w0, e0, g1⟩ := DG.out h; obtain ⟨s2, rfl, g2⟩ := DS.out g1; obtain ⟨w5, e5, g3⟩ := DG.out g2; obtain ⟨A1, n1, m1, rfl, g4⟩ := DSl.out g3; obtain ⟨w6, e6, g5⟩ := DG.out g4; obtain ⟨x1, rfl, g6⟩ := DI.out g5; obtain ⟨w7, e7, g7⟩ := DG.out g6; obtain ⟨x2, rfl, g8⟩ := DI.out g7; obtain ⟨rfl, h'⟩ := DNilD.out g8; exact h'
      · obtain ⟨w0, e0, g1⟩ := DG.out h
        obtain ⟨s2, rfl, g2⟩ := DS.out g1
        obtain ⟨w5, e5, g3⟩ := DG.out g2
        obtain ⟨A1, n1, m1, rfl, g4⟩ := DSl.out g3
        obtain ⟨w6, e6, g5⟩ := DG.out g4
        obtain ⟨x1, rfl, g6⟩ := DI.out g5
        obtain ⟨w7, e7, g7⟩ := DG.out g6
        obtain ⟨x2, rfl, g8⟩ := DI.out g7
        obtain ⟨rfl, h'⟩ := DNilD.out g8
        exact (hw_safe (Λ := (W_abacistref04_Read.Λ6 K (W_abacistref04_Read.l6 K k))) mixWabacistref04 _ _ [(0, .string s2), (5, .slice A1 n1 m1), (6, .int .i64 x1), (7, .int .i64 x2)] [] H (Eq.mp (by kernel_rfl) h') (obs_seq (obs_seq obs_region rfl (obs_cond obs_skip obs_exit)) rfl (obs_seq (obs_block (obs_seqc (obs_seq obs_region rfl (obs_cond obs_exit obs_skip)) rfl (fun E D H h => by
            obtain ⟨w0, e0, g1⟩ := DG.out h
            obtain ⟨s3, rfl, g2⟩ := DS.out g1
            obtain ⟨w5, e5, g3⟩ := DG.out g2
            obtain ⟨A2, n2, m2, rfl, g4⟩ := DSl.out g3
            obtain ⟨w6, e6, g5⟩ := DG.out g4
            obtain ⟨x4, rfl, g6⟩ := DI.out g5
            obtain ⟨w7, e7, g7⟩ := DG.out g6
            obtain ⟨x5, rfl, g8⟩ := DI.out g7
            obtain ⟨rfl, h'⟩ := DNilD.out g8
            exact (hw_safe (Λ := (W_abacistref04_Read.Λ6 K (W_abacistref04_Read.l6 K k))) mixWabacistref04 _ _ [(0, .string s3), (5, .slice A2 n2 m2), (6, .int .i64 x4), (7, .int .i64 x5)] [] H (Eq.mp (by kernel_rfl) h') (obs_seq obs_region rfl (obs_seq (obs_seq obs_region rfl (obs_cond (obs_seq obs_region rfl obs_ret) obs_skip)) rfl (obs_seq obs_region rfl obs_region)))).weaken (EnvLe.cons e0 (EnvLe.cons e5 (EnvLe.cons e6 (EnvLe.cons e7 (EnvLe.nil _))))) (Hp.le_refl _)))) rfl obs_region))).weaken (EnvLe.cons e0 (EnvLe.cons e5 (EnvLe.cons e6 (EnvLe.cons e7 (EnvLe.nil _))))) (Hp.le_refl _))))) rfl (obs_seq obs_region rfl obs_ret)))))))

-- abacistref04.Text
def W_abacistref04_Text.l3 (K : Value → Hp → Prop) : Nat → Option Addr → Nat → Nat → ByteArray → Int → Hp → Prop
  | 0, _, _, _, _, _, _ => False
  | k + 1, A2, n2, m2, s1, x1, H =>
    let R3 := W_abacistref04_Text.l3 K k
    BIf (decide (x1 < ((n2 : Nat) : Int))) (BIf (decide (x1 > (0 : Int))) ((s1.size + ((⟨#[32]⟩) : ByteArray).size ≤ 4611686018427387904 ∧ ixI x1 n2 (NN A2 fun a1 => Ld H (a1.add (x1.toNat * 1)) fun v1 => DI .u64 v1 fun x2 => HCalls Tryd.prog 82 #[.int .u64 x2] H fun v3 H1 => DS v3 fun s2 => ((s1 ++ (⟨#[32]⟩)).size + s2.size ≤ 4611686018427387904 ∧ R3 A2 n2 m2 ((s1 ++ (⟨#[32]⟩)) ++ s2) (IntKind.i64.wrap (x1 + (1 : Int))) H1)))) (ixI x1 n2 (NN A2 fun a2 => Ld H (a2.add (x1.toNat * 1)) fun v2 => DI .u64 v2 fun x3 => HCalls Tryd.prog 82 #[.int .u64 x3] H fun v4 H2 => DS v4 fun s3 => (s1.size + s3.size ≤ 4611686018427387904 ∧ R3 A2 n2 m2 (s1 ++ s3) (IntKind.i64.wrap (x1 + (1 : Int))) H2)))) (K (.string s1) H)
def W_abacistref04_Text (A1 : Option Addr) (n1 : Nat) (m1 : Nat) (H : Hp) (K : Value → Hp → Prop) : Prop :=
  (∃ k, W_abacistref04_Text.l3 K k A1 n1 m1 (⟨#[]⟩) (0 : Int) H)
def W_abacistref04_Text.l3.L (K : Value → Hp → Prop) (k : Nat) : Mid := fun E D H =>
  DG (E.get? 0) fun w0 => DSl w0 fun A2 n2 m2 => DG (E.get? 3) fun w3 => DS w3 fun s1 => DG (E.get? 4) fun w4 => DI .i64 w4 fun x1 => DNilD D (W_abacistref04_Text.l3 K k A2 n2 m2 s1 x1 H)
def W_abacistref04_Text.Λ3 (_ : Value → Hp → Prop) (_R3 : Option Addr → Nat → Nat → ByteArray → Int → Hp → Prop) : Cuts := Cuts.none (fun _ => none)
def W_abacistref04_Text.Λ (K : Value → Hp → Prop) : Cuts := ⟨fun i => none, fun i => match Nat.beq i 3 with | true => some (fun E D H => ∃ k, W_abacistref04_Text.l3.L K k E D H) | false => none, (fun _ => none)⟩
theorem W_abacistref04_Text.ok (A1 : Option Addr) (n1 : Nat) (m1 : Nat) (H : Hp) (K : Value → Hp → Prop) (h : W_abacistref04_Text A1 n1 m1 H K) : HCalls Tryd.prog 36 #[.slice A1 n1 m1] H K :=
  hcalls Tryd.func36 rfl (Nat.le_of_ble_eq_true rfl) (hw_safe (Λ := (W_abacistref04_Text.Λ K)) mixWabacistref04 _ _ _ _ _ (Eq.mp (by kernel_rfl) h) (obs_seq obs_region rfl (obs_seq obs_region rfl (obs_seq (obs_seq obs_region rfl (obs_block (obs_loop rfl (fun E D H h => by
      refine Safe.loop' (W_abacistref04_Text.l3.L K) (fun E D H h => ?_) (fun k E D H h => ?_) E D H h
      · obtain ⟨w0, e0, g1⟩ := DG.out h; obtain ⟨A2, n2, m2, rfl, g2⟩ := DSl.out g1; obtain ⟨w3, e3, g3⟩ := DG.out g2; obtain ⟨s1, rfl, g4⟩ := DS.out g3; obtain ⟨w4, e4, g5⟩ := DG.out g4; obtain ⟨x1, rfl, g6⟩ := DI.out g5; obtain ⟨rfl, h'⟩ := DNilD.out g6; exact h'
      · obtain ⟨w0, e0, g1⟩ := DG.out h
        obtain ⟨A2, n2, m2, rfl, g2⟩ := DSl.out g1
        obtain ⟨w3, e3, g3⟩ := DG.out g2
        obtain ⟨s1, rfl, g4⟩ := DS.out g3
        obtain ⟨w4, e4, g5⟩ := DG.out g4
        obtain ⟨x1, rfl, g6⟩ := DI.out g5
        obtain ⟨rfl, h'⟩ := DNilD.out g6
        exact (hw_safe (Λ := (W_abacistref04_Text.Λ3 K (W_abacistref04_Text.l3 K k))) mixWabacistref04 _ _ [(0, .slice A2 n2 m2), (3, .string s1), (4, .int .i64 x1)] [] H (Eq.mp (by kernel_rfl) h') (obs_seq (obs_seq obs_region rfl (obs_cond obs_skip obs_exit)) rfl (obs_seq (obs_block (obs_seq (obs_seq obs_region rfl (obs_cond obs_region obs_skip)) rfl obs_region)) rfl obs_region))).weaken (EnvLe.cons e0 (EnvLe.cons e3 (EnvLe.cons e4 (EnvLe.nil _)))) (Hp.le_refl _))))) rfl (obs_seq obs_region rfl obs_ret)))))

-- abacistref04.Word
def W_abacistref04_Word.l3 (K : Value → Hp → Prop) : Nat → ByteArray → Int → Int → Int → Hp → Prop
  | 0, _, _, _, _, _ => False
  | k + 1, s2, x2, x3, x4, H =>
    let R3 := W_abacistref04_Word.l3 K k
    BIf (decide (x4 ≥ (0 : Int))) ((0 ≤ (IntKind.i64.wrap (x2 + x4)) ∧ ixB s2 (IntKind.i64.wrap (x2 + x4)).toNat fun x5 => R3 s2 x2 (IntKind.u64.wrap ((IntKind.u64.wrap ((256 : Int) * x3)) + (IntKind.u64.wrap x5))) (IntKind.i64.wrap (x4 - (1 : Int))) H)) (K (.int .u64 x3) H)
def W_abacistref04_Word (s1 : ByteArray) (x1 : Int) (H : Hp) (K : Value → Hp → Prop) : Prop :=
  (∃ k, W_abacistref04_Word.l3 K k s1 x1 (0 : Int) (7 : Int) H)
def W_abacistref04_Word.l3.L (K : Value → Hp → Prop) (k : Nat) : Mid := fun E D H =>
  DG (E.get? 0) fun w0 => DS w0 fun s2 => DG (E.get? 1) fun w1 => DI .i64 w1 fun x2 => DG (E.get? 5) fun w5 => DI .u64 w5 fun x3 => DG (E.get? 6) fun w6 => DI .i64 w6 fun x4 => DNilD D (W_abacistref04_Word.l3 K k s2 x2 x3 x4 H)
def W_abacistref04_Word.Λ3 (_ : Value → Hp → Prop) (_R3 : ByteArray → Int → Int → Int → Hp → Prop) : Cuts := Cuts.none (fun _ => none)
def W_abacistref04_Word.Λ (K : Value → Hp → Prop) : Cuts := ⟨fun i => none, fun i => match Nat.beq i 3 with | true => some (fun E D H => ∃ k, W_abacistref04_Word.l3.L K k E D H) | false => none, (fun _ => none)⟩
theorem W_abacistref04_Word.ok (s1 : ByteArray) (x1 : Int) (H : Hp) (K : Value → Hp → Prop) (h : W_abacistref04_Word s1 x1 H K) : HCalls Tryd.prog 43 #[.string s1, .int .i64 x1] H K :=
  hcalls Tryd.func43 rfl (Nat.le_of_ble_eq_true rfl) (hw_safe (Λ := (W_abacistref04_Word.Λ K)) mixWabacistref04 _ _ _ _ _ (Eq.mp (by kernel_rfl) h) (obs_seq obs_region rfl (obs_seq obs_region rfl (obs_seq (obs_seq obs_region rfl (obs_block (obs_loop rfl (fun E D H h => by
      refine Safe.loop' (W_abacistref04_Word.l3.L K) (fun E D H h => ?_) (fun k E D H h => ?_) E D H h
      · obtain ⟨w0, e0, g1⟩ := DG.out h; obtain ⟨s2, rfl, g2⟩ := DS.out g1; obtain ⟨w1, e1, g3⟩ := DG.out g2; obtain ⟨x2, rfl, g4⟩ := DI.out g3; obtain ⟨w5, e5, g5⟩ := DG.out g4; obtain ⟨x3, rfl, g6⟩ := DI.out g5; obtain ⟨w6, e6, g7⟩ := DG.out g6; obtain ⟨x4, rfl, g8⟩ := DI.out g7; obtain ⟨rfl, h'⟩ := DNilD.out g8; exact h'
      · obtain ⟨w0, e0, g1⟩ := DG.out h
        obtain ⟨s2, rfl, g2⟩ := DS.out g1
        obtain ⟨w1, e1, g3⟩ := DG.out g2
        obtain ⟨x2, rfl, g4⟩ := DI.out g3
        obtain ⟨w5, e5, g5⟩ := DG.out g4
        obtain ⟨x3, rfl, g6⟩ := DI.out g5
        obtain ⟨w6, e6, g7⟩ := DG.out g6
        obtain ⟨x4, rfl, g8⟩ := DI.out g7
        obtain ⟨rfl, h'⟩ := DNilD.out g8
        exact (hw_safe (Λ := (W_abacistref04_Word.Λ3 K (W_abacistref04_Word.l3 K k))) mixWabacistref04 _ _ [(0, .string s2), (1, .int .i64 x2), (5, .int .u64 x3), (6, .int .i64 x4)] [] H (Eq.mp (by kernel_rfl) h') (obs_seq (obs_seq obs_region rfl (obs_cond obs_skip obs_exit)) rfl (obs_seq (obs_block obs_region) rfl obs_region))).weaken (EnvLe.cons e0 (EnvLe.cons e1 (EnvLe.cons e5 (EnvLe.cons e6 (EnvLe.nil _))))) (Hp.le_refl _))))) rfl (obs_seq obs_region rfl obs_ret)))))

-- abacistref04.Put
def W_abacistref04_Put.l7 (K : Value → Hp → Prop) (R3 : Option Addr → Nat → Nat → ByteArray → Int → Hp → Prop) : Nat → Option Addr → Nat → Nat → ByteArray → Int → Int → Int → Hp → Prop
  | 0, _, _, _, _, _, _, _, _ => False
  | k + 1, A3, n3, m3, s2, x3, x4, x5, H =>
    let R7 := W_abacistref04_Put.l7 K R3 k
    BIf (decide (x5 < (8 : Int))) (((256 : Int) ≠ 0 ∧ IntKind.u64 = IntKind.u64 ∧ Nw H (.row [.int .u8 (IntKind.u8.wrap (Int.tmod x4 (256 : Int)))] 5 1) fun b1 H1 => BsK H1 (some ⟨b1, 0, none⟩) 1 fun s3 => (s2.size + s3.size ≤ 4611686018427387904 ∧ ((256 : Int) ≠ 0 ∧ IntKind.u64 = IntKind.u64 ∧ R7 A3 n3 m3 (s2 ++ s3) x3 (IntKind.u64.wrap (Int.tdiv x4 (256 : Int))) (IntKind.i64.wrap (x5 + (1 : Int))) H1)))) (R3 A3 n3 m3 s2 (IntKind.i64.wrap (x3 + (1 : Int))) H)
def W_abacistref04_Put.l3 (K : Value → Hp → Prop) : Nat → Option Addr → Nat → Nat → ByteArray → Int → Hp → Prop
  | 0, _, _, _, _, _, _ => False
  | k + 1, A2, n2, m2, s1, x1, H =>
    let R3 := W_abacistref04_Put.l3 K k
    BIf (decide (x1 < ((n2 : Nat) : Int))) (ixI x1 n2 (NN A2 fun a1 => Ld H (a1.add (x1.toNat * 1)) fun v1 => DI .u64 v1 fun x2 => (∃ k, W_abacistref04_Put.l7 K R3 k A2 n2 m2 s1 x1 x2 (0 : Int) H))) (K (.string s1) H)
def W_abacistref04_Put (A1 : Option Addr) (n1 : Nat) (m1 : Nat) (H : Hp) (K : Value → Hp → Prop) : Prop :=
  (∃ k, W_abacistref04_Put.l3 K k A1 n1 m1 (⟨#[]⟩) (0 : Int) H)
def W_abacistref04_Put.l3.L (K : Value → Hp → Prop) (k : Nat) : Mid := fun E D H =>
  DG (E.get? 0) fun w0 => DSl w0 fun A2 n2 m2 => DG (E.get? 3) fun w3 => DS w3 fun s1 => DG (E.get? 4) fun w4 => DI .i64 w4 fun x1 => DNilD D (W_abacistref04_Put.l3 K k A2 n2 m2 s1 x1 H)
def W_abacistref04_Put.l7.L (K : Value → Hp → Prop) (R3 : Option Addr → Nat → Nat → ByteArray → Int → Hp → Prop) (k : Nat) : Mid := fun E D H =>
  DG (E.get? 0) fun w0 => DSl w0 fun A3 n3 m3 => DG (E.get? 3) fun w3 => DS w3 fun s2 => DG (E.get? 4) fun w4 => DI .i64 w4 fun x3 => DG (E.get? 5) fun w5 => DI .u64 w5 fun x4 => DG (E.get? 6) fun w6 => DI .i64 w6 fun x5 => DNilD D (W_abacistref04_Put.l7 K R3 k A3 n3 m3 s2 x3 x4 x5 H)
def W_abacistref04_Put.Λ7 (_ : Value → Hp → Prop) (_R3 : Option Addr → Nat → Nat → ByteArray → Int → Hp → Prop) (_R7 : Option Addr → Nat → Nat → ByteArray → Int → Int → Int → Hp → Prop) : Cuts := Cuts.none (fun _ => none)
def W_abacistref04_Put.Λ3 (K : Value → Hp → Prop) (R3 : Option Addr → Nat → Nat → ByteArray → Int → Hp → Prop) : Cuts := ⟨fun i => none, fun i => match Nat.beq i 7 with | true => some (fun E D H => ∃ k, W_abacistref04_Put.l7.L K R3 k E D H) | false => none, (fun _ => none)⟩
def W_abacistref04_Put.Λ (K : Value → Hp → Prop) : Cuts := ⟨fun i => none, fun i => match Nat.beq i 3 with | true => some (fun E D H => ∃ k, W_abacistref04_Put.l3.L K k E D H) | false => none, (fun _ => none)⟩
theorem W_abacistref04_Put.ok (A1 : Option Addr) (n1 : Nat) (m1 : Nat) (H : Hp) (K : Value → Hp → Prop) (h : W_abacistref04_Put A1 n1 m1 H K) : HCalls Tryd.prog 44 #[.slice A1 n1 m1] H K :=
  hcalls Tryd.func44 rfl (Nat.le_of_ble_eq_true rfl) (hw_safe (Λ := (W_abacistref04_Put.Λ K)) mixWabacistref04 _ _ _ _ _ (Eq.mp (by kernel_rfl) h) (obs_seq obs_region rfl (obs_seq obs_region rfl (obs_seq (obs_seq obs_region rfl (obs_block (obs_loop rfl (fun E D H h => by
      refine Safe.loop' (W_abacistref04_Put.l3.L K) (fun E D H h => ?_) (fun k E D H h => ?_) E D H h
      · obtain ⟨w0, e0, g1⟩ := DG.out h; obtain ⟨A2, n2, m2, rfl, g2⟩ := DSl.out g1; obtain ⟨w3, e3, g3⟩ := DG.out g2; obtain ⟨s1, rfl, g4⟩ := DS.out g3; obtain ⟨w4, e4, g5⟩ := DG.out g4; obtain ⟨x1, rfl, g6⟩ := DI.out g5; obtain ⟨rfl, h'⟩ := DNilD.out g6; exact h'
      · obtain ⟨w0, e0, g1⟩ := DG.out h
        obtain ⟨A2, n2, m2, rfl, g2⟩ := DSl.out g1
        obtain ⟨w3, e3, g3⟩ := DG.out g2
        obtain ⟨s1, rfl, g4⟩ := DS.out g3
        obtain ⟨w4, e4, g5⟩ := DG.out g4
        obtain ⟨x1, rfl, g6⟩ := DI.out g5
        obtain ⟨rfl, h'⟩ := DNilD.out g6
        exact (hw_safe (Λ := (W_abacistref04_Put.Λ3 K (W_abacistref04_Put.l3 K k))) mixWabacistref04 _ _ [(0, .slice A2 n2 m2), (3, .string s1), (4, .int .i64 x1)] [] H (Eq.mp (by kernel_rfl) h') (obs_seq (obs_seq obs_region rfl (obs_cond obs_skip obs_exit)) rfl (obs_seq (obs_block (obs_seq obs_region rfl (obs_seq obs_region rfl (obs_block (obs_loop rfl (fun E D H h => by
            refine Safe.loop' (W_abacistref04_Put.l7.L K (W_abacistref04_Put.l3 K k)) (fun E D H h => ?_) (fun k E D H h => ?_) E D H h
            · obtain ⟨w0, e0, g1⟩ := DG.out h; obtain ⟨A3, n3, m3, rfl, g2⟩ := DSl.out g1; obtain ⟨w3, e3, g3⟩ := DG.out g2; obtain ⟨s2, rfl, g4⟩ := DS.out g3; obtain ⟨w4, e4, g5⟩ := DG.out g4; obtain ⟨x3, rfl, g6⟩ := DI.out g5; obtain ⟨w5, e5, g7⟩ := DG.out g6; obtain ⟨x4, rfl, g8⟩ := DI.out g7; obtain ⟨w6, e6, g9⟩ := DG.out g8; obtain ⟨x5, rfl, g10⟩ := DI.out g9; obtain ⟨rfl, h'⟩ := DNilD.out g10; exact h'
            · obtain ⟨w0, e0, g1⟩ := DG.out h
              obtain ⟨A3, n3, m3, rfl, g2⟩ := DSl.out g1
              obtain ⟨w3, e3, g3⟩ := DG.out g2
              obtain ⟨s2, rfl, g4⟩ := DS.out g3
              obtain ⟨w4, e4, g5⟩ := DG.out g4
              obtain ⟨x3, rfl, g6⟩ := DI.out g5
              obtain ⟨w5, e5, g7⟩ := DG.out g6
              obtain ⟨x4, rfl, g8⟩ := DI.out g7
              obtain ⟨w6, e6, g9⟩ := DG.out g8
              obtain ⟨x5, rfl, g10⟩ := DI.out g9
              obtain ⟨rfl, h'⟩ := DNilD.out g10
              exact (hw_safe (Λ := (W_abacistref04_Put.Λ7 K (W_abacistref04_Put.l3 K k) (W_abacistref04_Put.l7 K (W_abacistref04_Put.l3 K k) k))) mixWabacistref04 _ _ [(0, .slice A3 n3 m3), (3, .string s2), (4, .int .i64 x3), (5, .int .u64 x4), (6, .int .i64 x5)] [] H (Eq.mp (by kernel_rfl) h') (obs_seq (obs_seq obs_region rfl (obs_cond obs_skip obs_exit)) rfl (obs_seq (obs_block (obs_seq obs_region rfl obs_region)) rfl obs_region))).weaken (EnvLe.cons e0 (EnvLe.cons e3 (EnvLe.cons e4 (EnvLe.cons e5 (EnvLe.cons e6 (EnvLe.nil _)))))) (Hp.le_refl _))))))) rfl obs_region))).weaken (EnvLe.cons e0 (EnvLe.cons e3 (EnvLe.cons e4 (EnvLe.nil _)))) (Hp.le_refl _))))) rfl (obs_seq obs_region rfl obs_ret)))))

-- abacistref04.Take
def W_abacistref04_Take.l6 (K : Value → Hp → Prop) : Nat → ByteArray → Int → Option Addr → Nat → Nat → Int → Hp → Prop
  | 0, _, _, _, _, _, _, _ => False
  | k + 1, s2, x1, A1, n1, m1, x2, H =>
    let R6 := W_abacistref04_Take.l6 K k
    BIf (decide (x2 < x1)) (HCalls Tryd.prog 43 #[.string s2, .int .i64 (IntKind.i64.wrap ((8 : Int) * x2))] H fun v1 H1 => DI .u64 v1 fun x3 => BIf (decide (x3 ≥ (18446744069414584321 : Int))) (K (.tuple #[.slice none 0 0, .int .i64 (IntKind.i64.wrap ((8 : Int) * x2)), .int .i64 (3 : Int)]) H1) (Nw H1 (.row [.int .u64 x3] 22 1) fun b1 H2 => AppK Tryd.prog 22 (.slice A1 n1 m1) (.slice (some ⟨b1, 0, none⟩) 1 1) H2 fun v2 H3 => DSl v2 fun A2 n2 m2 => R6 s2 x1 A2 n2 m2 (IntKind.i64.wrap (x2 + (1 : Int))) H3)) (K (.tuple #[.slice A1 n1 m1, .int .i64 (0 : Int), .int .i64 (0 : Int)]) H)
def W_abacistref04_Take (s1 : ByteArray) (H : Hp) (K : Value → Hp → Prop) : Prop :=
  ((8 : Int) ≠ 0 ∧ IntKind.i64 = IntKind.i64 ∧ BIf (((s1.size : Nat) : Int) != (IntKind.i64.wrap ((8 : Int) * (IntKind.i64.wrap (Int.tdiv ((s1.size : Nat) : Int) (8 : Int)))))) (K (.tuple #[.slice none 0 0, .int .i64 (IntKind.i64.wrap ((8 : Int) * (IntKind.i64.wrap (Int.tdiv ((s1.size : Nat) : Int) (8 : Int))))), .int .i64 (15 : Int)]) H) ((∃ k, W_abacistref04_Take.l6 K k s1 (IntKind.i64.wrap (Int.tdiv ((s1.size : Nat) : Int) (8 : Int))) none 0 0 (0 : Int) H)))
def W_abacistref04_Take.l6.L (K : Value → Hp → Prop) (k : Nat) : Mid := fun E D H =>
  DG (E.get? 0) fun w0 => DS w0 fun s2 => DG (E.get? 5) fun w5 => DI .i64 w5 fun x1 => DG (E.get? 6) fun w6 => DSl w6 fun A1 n1 m1 => DG (E.get? 7) fun w7 => DI .i64 w7 fun x2 => DNilD D (W_abacistref04_Take.l6 K k s2 x1 A1 n1 m1 x2 H)
def W_abacistref04_Take.Λ6 (_ : Value → Hp → Prop) (_R6 : ByteArray → Int → Option Addr → Nat → Nat → Int → Hp → Prop) : Cuts := Cuts.none (fun _ => none)
def W_abacistref04_Take.Λ (K : Value → Hp → Prop) : Cuts := ⟨fun i => none, fun i => match Nat.beq i 6 with | true => some (fun E D H => ∃ k, W_abacistref04_Take.l6.L K k E D H) | false => none, (fun _ => none)⟩
theorem W_abacistref04_Take.ok (s1 : ByteArray) (H : Hp) (K : Value → Hp → Prop) (h : W_abacistref04_Take s1 H K) : HCalls Tryd.prog 47 #[.string s1] H K :=
  hcalls Tryd.func47 rfl (Nat.le_of_ble_eq_true rfl) (hw_safe (Λ := (W_abacistref04_Take.Λ K)) mixWabacistref04 _ _ _ _ _ (Eq.mp (by kernel_rfl) h) (obs_seq obs_region rfl (obs_seq obs_region rfl (obs_seq (obs_seq obs_region rfl (obs_cond (obs_seq obs_region rfl obs_ret) obs_skip)) rfl (obs_seq obs_region rfl (obs_seq (obs_seq obs_region rfl (obs_block (obs_loop rfl (fun E D H h => by
      refine Safe.loop' (W_abacistref04_Take.l6.L K) (fun E D H h => ?_) (fun k E D H h => ?_) E D H h
      · obtain ⟨w0, e0, g1⟩ := DG.out h; obtain ⟨s2, rfl, g2⟩ := DS.out g1; obtain ⟨w5, e5, g3⟩ := DG.out g2; obtain ⟨x1, rfl, g4⟩ := DI.out g3; obtain ⟨w6, e6, g5⟩ := DG.out g4; obtain ⟨A1, n1, m1, rfl, g6⟩ := DSl.out g5; obtain ⟨w7, e7, g7⟩ := DG.out g6; obtain ⟨x2, rfl, g8⟩ := DI.out g7; obtain ⟨rfl, h'⟩ := DNilD.out g8; exact h'
      · obtain ⟨w0, e0, g1⟩ := DG.out h
        obtain ⟨s2, rfl, g2⟩ := DS.out g1
        obtain ⟨w5, e5, g3⟩ := DG.out g2
        obtain ⟨x1, rfl, g4⟩ := DI.out g3
        obtain ⟨w6, e6, g5⟩ := DG.out g4
        obtain ⟨A1, n1, m1, rfl, g6⟩ := DSl.out g5
        obtain ⟨w7, e7, g7⟩ := DG.out g6
        obtain ⟨x2, rfl, g8⟩ := DI.out g7
        obtain ⟨rfl, h'⟩ := DNilD.out g8
        exact (hw_safe (Λ := (W_abacistref04_Take.Λ6 K (W_abacistref04_Take.l6 K k))) mixWabacistref04 _ _ [(0, .string s2), (5, .int .i64 x1), (6, .slice A1 n1 m1), (7, .int .i64 x2)] [] H (Eq.mp (by kernel_rfl) h') (obs_seq (obs_seq obs_region rfl (obs_cond obs_skip obs_exit)) rfl (obs_seq (obs_block (obs_seq obs_region rfl (obs_seq (obs_seq obs_region rfl (obs_cond (obs_seq obs_region rfl obs_ret) obs_skip)) rfl obs_region))) rfl obs_region))).weaken (EnvLe.cons e0 (EnvLe.cons e5 (EnvLe.cons e6 (EnvLe.cons e7 (EnvLe.nil _))))) (Hp.le_refl _))))) rfl (obs_seq obs_region rfl obs_ret)))))))

-- abacistref04.numeral
def W_abacistref04_numeral.l12 (K : Value → Hp → Prop) : Nat → ByteArray → Int → Int → Hp → Prop
  | 0, _, _, _, _ => False
  | k + 1, s4, x5, x6, H =>
    let R12 := W_abacistref04_numeral.l12 K k
    BIf (decide (x6 < ((s4.size : Nat) : Int))) ((0 ≤ x6 ∧ ixB s4 x6.toNat fun x7 => ((10 : Int) ≠ 0 ∧ IntKind.u64 = IntKind.u64 ∧ BIf (decide (x5 > (IntKind.u64.wrap (Int.tdiv (IntKind.u64.wrap ((18446744069414584320 : Int) - (IntKind.u64.wrap ((IntKind.u64.wrap x7) - (48 : Int))))) (10 : Int))))) (K (.tuple #[.int .u64 (0 : Int), .int .i64 (3 : Int)]) H) (R12 s4 (IntKind.u64.wrap ((IntKind.u64.wrap ((10 : Int) * x5)) + (IntKind.u64.wrap ((IntKind.u64.wrap x7) - (48 : Int))))) (IntKind.i64.wrap (x6 + (1 : Int))) H)))) (K (.tuple #[.int .u64 x5, .int .i64 (0 : Int)]) H)
def W_abacistref04_numeral.l4 (K : Value → Hp → Prop) : Nat → ByteArray → Int → Hp → Prop
  | 0, _, _, _ => False
  | k + 1, s3, x2, H =>
    let R4 := W_abacistref04_numeral.l4 K k
    BIf (decide (x2 < ((s3.size : Nat) : Int))) ((0 ≤ x2 ∧ ixB s3 x2.toNat fun x3 => BIf (decide (x3 < (48 : Int))) (K (.tuple #[.int .u64 (0 : Int), .int .i64 (17 : Int)]) H) ((0 ≤ x2 ∧ ixB s3 x2.toNat fun x4 => BIf (decide (x4 > (57 : Int))) (K (.tuple #[.int .u64 (0 : Int), .int .i64 (17 : Int)]) H) (R4 s3 (IntKind.i64.wrap (x2 + (1 : Int))) H))))) (BIf (decide (((s3.size : Nat) : Int) > (20 : Int))) (K (.tuple #[.int .u64 (0 : Int), .int .i64 (14 : Int)]) H) ((∃ k, W_abacistref04_numeral.l12 K k s3 (0 : Int) (0 : Int) H)))
def W_abacistref04_numeral.j3 (K : Value → Hp → Prop) (s2 : ByteArray) (H : Hp) : Prop :=
  (∃ k, W_abacistref04_numeral.l4 K k s2 (0 : Int) H)
def W_abacistref04_numeral (s1 : ByteArray) (H : Hp) (K : Value → Hp → Prop) : Prop :=
  BIf (s1.toList == ((⟨#[]⟩) : ByteArray).toList) (K (.tuple #[.int .u64 (0 : Int), .int .i64 (17 : Int)]) H) ((0 ≤ (0 : Int) ∧ ixB s1 (0 : Int).toNat fun x1 => BIf (x1 == (48 : Int)) (BIf (decide (((s1.size : Nat) : Int) > (1 : Int))) (K (.tuple #[.int .u64 (0 : Int), .int .i64 (17 : Int)]) H) (W_abacistref04_numeral.j3 K s1 H)) (W_abacistref04_numeral.j3 K s1 H)))
def W_abacistref04_numeral.l4.L (K : Value → Hp → Prop) (k : Nat) : Mid := fun E D H =>
  DG (E.get? 0) fun w0 => DS w0 fun s3 => DG (E.get? 4) fun w4 => DI .i64 w4 fun x2 => DNilD D (W_abacistref04_numeral.l4 K k s3 x2 H)
def W_abacistref04_numeral.l12.L (K : Value → Hp → Prop) (k : Nat) : Mid := fun E D H =>
  DG (E.get? 0) fun w0 => DS w0 fun s4 => DG (E.get? 5) fun w5 => DI .u64 w5 fun x5 => DG (E.get? 6) fun w6 => DI .i64 w6 fun x6 => DNilD D (W_abacistref04_numeral.l12 K k s4 x5 x6 H)
def W_abacistref04_numeral.Λ4 (_ : Value → Hp → Prop) (_R4 : ByteArray → Int → Hp → Prop) : Cuts := Cuts.none (fun _ => none)
def W_abacistref04_numeral.Λ12 (_ : Value → Hp → Prop) (_R12 : ByteArray → Int → Int → Hp → Prop) : Cuts := Cuts.none (fun _ => none)
def W_abacistref04_numeral.Λ (K : Value → Hp → Prop) : Cuts := ⟨fun i => match Nat.beq i 3 with | true => some (fun E D H => DG (E.get? 0) fun w0 => DS w0 fun s2 => DNilD D (W_abacistref04_numeral.j3 K s2 H)) | false => none, fun i => match Nat.beq i 12 with | true => some (fun E D H => ∃ k, W_abacistref04_numeral.l12.L K k E D H) | false => match Nat.beq i 4 with | true => some (fun E D H => ∃ k, W_abacistref04_numeral.l4.L K k E D H) | false => none, (fun _ => none)⟩
theorem W_abacistref04_numeral.ok (s1 : ByteArray) (H : Hp) (K : Value → Hp → Prop) (h : W_abacistref04_numeral s1 H K) : HCalls Tryd.prog 81 #[.string s1] H K :=
  hcalls Tryd.func81 rfl (Nat.le_of_ble_eq_true rfl) (hw_safe (Λ := (W_abacistref04_numeral.Λ K)) mixWabacistref04 _ _ _ _ _ (Eq.mp (by kernel_rfl) h) (obs_seq obs_region rfl (obs_seqc (obs_seq obs_region rfl (obs_cond (obs_seq obs_region rfl obs_ret) obs_skip)) rfl (fun E D H h => by
      obtain ⟨w0, e0, g1⟩ := DG.out h
      obtain ⟨s2, rfl, g2⟩ := DS.out g1
      obtain ⟨rfl, h'⟩ := DNilD.out g2
      exact (hw_safe (Λ := (W_abacistref04_numeral.Λ K)) mixWabacistref04 _ _ [(0, .string s2)] [] H (Eq.mp (by kernel_rfl) h') (obs_seq (obs_seq obs_region rfl (obs_block (obs_loop rfl (fun E D H h => by
          refine Safe.loop' (W_abacistref04_numeral.l4.L K) (fun E D H h => ?_) (fun k E D H h => ?_) E D H h
          · obtain ⟨w0, e0, g1⟩ := DG.out h; obtain ⟨s3, rfl, g2⟩ := DS.out g1; obtain ⟨w4, e4, g3⟩ := DG.out g2; obtain ⟨x2, rfl, g4⟩ := DI.out g3; obtain ⟨rfl, h'⟩ := DNilD.out g4; exact h'
          · obtain ⟨w0, e0, g1⟩ := DG.out h
            obtain ⟨s3, rfl, g2⟩ := DS.out g1
            obtain ⟨w4, e4, g3⟩ := DG.out g2
            obtain ⟨x2, rfl, g4⟩ := DI.out g3
            obtain ⟨rfl, h'⟩ := DNilD.out g4
            exact (hw_safe (Λ := (W_abacistref04_numeral.Λ4 K (W_abacistref04_numeral.l4 K k))) mixWabacistref04 _ _ [(0, .string s3), (4, .int .i64 x2)] [] H (Eq.mp (by kernel_rfl) h') (obs_seq (obs_seq obs_region rfl (obs_cond obs_skip obs_exit)) rfl (obs_seq (obs_block (obs_seq obs_region rfl (obs_cond (obs_seq obs_region rfl obs_ret) obs_skip))) rfl obs_region))).weaken (EnvLe.cons e0 (EnvLe.cons e4 (EnvLe.nil _))) (Hp.le_refl _))))) rfl (obs_seq (obs_seq obs_region rfl (obs_cond (obs_seq obs_region rfl obs_ret) obs_skip)) rfl (obs_seq obs_region rfl (obs_seq (obs_seq obs_region rfl (obs_block (obs_loop rfl (fun E D H h => by
          refine Safe.loop' (W_abacistref04_numeral.l12.L K) (fun E D H h => ?_) (fun k E D H h => ?_) E D H h
          · obtain ⟨w0, e0, g1⟩ := DG.out h; obtain ⟨s4, rfl, g2⟩ := DS.out g1; obtain ⟨w5, e5, g3⟩ := DG.out g2; obtain ⟨x5, rfl, g4⟩ := DI.out g3; obtain ⟨w6, e6, g5⟩ := DG.out g4; obtain ⟨x6, rfl, g6⟩ := DI.out g5; obtain ⟨rfl, h'⟩ := DNilD.out g6; exact h'
          · obtain ⟨w0, e0, g1⟩ := DG.out h
            obtain ⟨s4, rfl, g2⟩ := DS.out g1
            obtain ⟨w5, e5, g3⟩ := DG.out g2
            obtain ⟨x5, rfl, g4⟩ := DI.out g3
            obtain ⟨w6, e6, g5⟩ := DG.out g4
            obtain ⟨x6, rfl, g6⟩ := DI.out g5
            obtain ⟨rfl, h'⟩ := DNilD.out g6
            exact (hw_safe (Λ := (W_abacistref04_numeral.Λ12 K (W_abacistref04_numeral.l12 K k))) mixWabacistref04 _ _ [(0, .string s4), (5, .int .u64 x5), (6, .int .i64 x6)] [] H (Eq.mp (by kernel_rfl) h') (obs_seq (obs_seq obs_region rfl (obs_cond obs_skip obs_exit)) rfl (obs_seq (obs_block (obs_seq obs_region rfl (obs_seq (obs_seq obs_region rfl (obs_cond (obs_seq obs_region rfl obs_ret) obs_skip)) rfl obs_region))) rfl obs_region))).weaken (EnvLe.cons e0 (EnvLe.cons e5 (EnvLe.cons e6 (EnvLe.nil _)))) (Hp.le_refl _))))) rfl (obs_seq obs_region rfl obs_ret)))))).weaken (EnvLe.cons e0 (EnvLe.nil _)) (Hp.le_refl _)))))

-- abacistref04.Digits
def W_abacistref04_Digits.l2 (K : Value → Hp → Prop) : Nat → Int → ByteArray → Hp → Prop
  | 0, _, _, _ => False
  | k + 1, x2, s1, H =>
    let R2 := W_abacistref04_Digits.l2 K k
    ((10 : Int) ≠ 0 ∧ IntKind.u64 = IntKind.u64 ∧ Nw H (.row [.int .u8 (IntKind.u8.wrap (IntKind.u64.wrap ((48 : Int) + (Int.tmod x2 (10 : Int)))))] 5 1) fun b1 H1 => BsK H1 (some ⟨b1, 0, none⟩) 1 fun s2 => (s2.size + s1.size ≤ 4611686018427387904 ∧ ((10 : Int) ≠ 0 ∧ IntKind.u64 = IntKind.u64 ∧ BIf ((IntKind.u64.wrap (Int.tdiv x2 (10 : Int))) == (0 : Int)) (K (.string (s2 ++ s1)) H1) (R2 (IntKind.u64.wrap (Int.tdiv x2 (10 : Int))) (s2 ++ s1) H1))))
def W_abacistref04_Digits (x1 : Int) (H : Hp) (K : Value → Hp → Prop) : Prop :=
  (∃ k, W_abacistref04_Digits.l2 K k x1 (⟨#[]⟩) H)
def W_abacistref04_Digits.l2.L (K : Value → Hp → Prop) (k : Nat) : Mid := fun E D H =>
  DG (E.get? 0) fun w0 => DI .u64 w0 fun x2 => DG (E.get? 3) fun w3 => DS w3 fun s1 => DNilD D (W_abacistref04_Digits.l2 K k x2 s1 H)
def W_abacistref04_Digits.Λ2 (_ : Value → Hp → Prop) (_R2 : Int → ByteArray → Hp → Prop) : Cuts := Cuts.none (fun _ => none)
def W_abacistref04_Digits.Λ (K : Value → Hp → Prop) : Cuts := ⟨fun i => none, fun i => match Nat.beq i 2 with | true => some (fun E D H => ∃ k, W_abacistref04_Digits.l2.L K k E D H) | false => none, (fun _ => none)⟩
theorem W_abacistref04_Digits.ok (x1 : Int) (H : Hp) (K : Value → Hp → Prop) (h : W_abacistref04_Digits x1 H K) : HCalls Tryd.prog 82 #[.int .u64 x1] H K :=
  hcalls Tryd.func82 rfl (Nat.le_of_ble_eq_true rfl) (hw_safe (Λ := (W_abacistref04_Digits.Λ K)) mixWabacistref04 _ _ _ _ _ (Eq.mp (by kernel_rfl) h) (obs_seq obs_region rfl (obs_seq obs_region rfl (obs_block (obs_loop rfl (fun E D H h => by
      refine Safe.loop' (W_abacistref04_Digits.l2.L K) (fun E D H h => ?_) (fun k E D H h => ?_) E D H h
      · obtain ⟨w0, e0, g1⟩ := DG.out h; obtain ⟨x2, rfl, g2⟩ := DI.out g1; obtain ⟨w3, e3, g3⟩ := DG.out g2; obtain ⟨s1, rfl, g4⟩ := DS.out g3; obtain ⟨rfl, h'⟩ := DNilD.out g4; exact h'
      · obtain ⟨w0, e0, g1⟩ := DG.out h
        obtain ⟨x2, rfl, g2⟩ := DI.out g1
        obtain ⟨w3, e3, g3⟩ := DG.out g2
        obtain ⟨s1, rfl, g4⟩ := DS.out g3
        obtain ⟨rfl, h'⟩ := DNilD.out g4
        exact (hw_safe (Λ := (W_abacistref04_Digits.Λ2 K (W_abacistref04_Digits.l2 K k))) mixWabacistref04 _ _ [(0, .int .u64 x2), (3, .string s1)] [] H (Eq.mp (by kernel_rfl) h') (obs_block (obs_seq obs_region rfl (obs_seq obs_region rfl (obs_seq obs_region rfl (obs_cond (obs_seq obs_region rfl obs_ret) obs_skip)))))).weaken (EnvLe.cons e0 (EnvLe.cons e3 (EnvLe.nil _))) (Hp.le_refl _)))))))

end Go.Proofs.YtbnhfcdagoigkaaDoor.W

end
section
/-! Wabacistref16 -/
/- Formulas of functions, printed by wip/tools/hwp.py. -/
set_option maxRecDepth 100000
set_option linter.unusedVariables false
namespace Go.Proofs.YtbnhfcdagoigkaaDoor.W
open Go Go.Hw

theorem mixWabacistref16 : Tryd.prog.follows .mixedOrders = true := by kernel_rfl
-- abacistref16.OfWords
def W_abacistref16_OfWords (A1 : Option Addr) (n1 : Nat) (m1 : Nat) (H : Hp) (K : Value → Hp → Prop) : Prop :=
  HCalls Tryd.prog 44 #[.slice A1 n1 m1] H fun v1 H1 => DS v1 fun s1 => HCalls Tryd.prog 97 #[.string s1] H1 fun v2 H2 => DI .u32 v2 fun x1 => K (.int .u32 x1) H2
def W_abacistref16_OfWords.Λ (_ : Value → Hp → Prop) : Cuts := Cuts.none (fun _ => none)
theorem W_abacistref16_OfWords.ok (A1 : Option Addr) (n1 : Nat) (m1 : Nat) (H : Hp) (K : Value → Hp → Prop) (h : W_abacistref16_OfWords A1 n1 m1 H K) : HCalls Tryd.prog 57 #[.slice A1 n1 m1] H K :=
  hcalls Tryd.func57 rfl (Nat.le_of_ble_eq_true rfl) (hw_safe (Λ := Cuts.none (fun _ => none)) mixWabacistref16 _ _ _ _ _ (Eq.mp (by kernel_rfl) h) (obs_none _ _ _ _ _))

-- abacistref16.Of
def W_abacistref16_Of.l7 (K : Value → Hp → Prop) (R3 : ByteArray → Int → Int → Hp → Prop) : Nat → ByteArray → Int → Int → Int → Int → Hp → Prop
  | 0, _, _, _, _, _, _ => False
  | k + 1, s3, x4, x5, x6, x7, H =>
    let R7 := W_abacistref16_Of.l7 K R3 k
    BIf (decide (x7 < (8 : Int))) (((2 : Int) ≠ 0 ∧ IntKind.u32 = IntKind.u32 ∧ ((2 : Int) ≠ 0 ∧ IntKind.u32 = IntKind.u32 ∧ ((2 : Int) ≠ 0 ∧ IntKind.u8 = IntKind.u8 ∧ BIf ((Int.tmod (bXor .u32 x4 (IntKind.u32.wrap x6)) (2 : Int)) == (1 : Int)) (R7 s3 (bXor .u32 (IntKind.u32.wrap (Int.tdiv x4 (2 : Int))) (2197175160 : Int)) x5 (IntKind.u8.wrap (Int.tdiv x6 (2 : Int))) (IntKind.i64.wrap (x7 + (1 : Int))) H) (R7 s3 (IntKind.u32.wrap (Int.tdiv x4 (2 : Int))) x5 (IntKind.u8.wrap (Int.tdiv x6 (2 : Int))) (IntKind.i64.wrap (x7 + (1 : Int))) H))))) (R3 s3 x4 (IntKind.i64.wrap (x5 + (1 : Int))) H)
def W_abacistref16_Of.l3 (K : Value → Hp → Prop) : Nat → ByteArray → Int → Int → Hp → Prop
  | 0, _, _, _, _ => False
  | k + 1, s2, x1, x2, H =>
    let R3 := W_abacistref16_Of.l3 K k
    BIf (decide (x2 < ((s2.size : Nat) : Int))) ((0 ≤ x2 ∧ ixB s2 x2.toNat fun x3 => (∃ k, W_abacistref16_Of.l7 K R3 k s2 x1 x2 x3 (0 : Int) H))) (K (.int .u32 (bXor .u32 x1 (4294967295 : Int))) H)
def W_abacistref16_Of (s1 : ByteArray) (H : Hp) (K : Value → Hp → Prop) : Prop :=
  (∃ k, W_abacistref16_Of.l3 K k s1 (4294967295 : Int) (0 : Int) H)
def W_abacistref16_Of.l3.L (K : Value → Hp → Prop) (k : Nat) : Mid := fun E D H =>
  DG (E.get? 0) fun w0 => DS w0 fun s2 => DG (E.get? 3) fun w3 => DI .u32 w3 fun x1 => DG (E.get? 4) fun w4 => DI .i64 w4 fun x2 => DNilD D (W_abacistref16_Of.l3 K k s2 x1 x2 H)
def W_abacistref16_Of.l7.L (K : Value → Hp → Prop) (R3 : ByteArray → Int → Int → Hp → Prop) (k : Nat) : Mid := fun E D H =>
  DG (E.get? 0) fun w0 => DS w0 fun s3 => DG (E.get? 3) fun w3 => DI .u32 w3 fun x4 => DG (E.get? 4) fun w4 => DI .i64 w4 fun x5 => DG (E.get? 5) fun w5 => DI .u8 w5 fun x6 => DG (E.get? 6) fun w6 => DI .i64 w6 fun x7 => DNilD D (W_abacistref16_Of.l7 K R3 k s3 x4 x5 x6 x7 H)
def W_abacistref16_Of.Λ7 (_ : Value → Hp → Prop) (_R3 : ByteArray → Int → Int → Hp → Prop) (_R7 : ByteArray → Int → Int → Int → Int → Hp → Prop) : Cuts := Cuts.none (fun _ => none)
def W_abacistref16_Of.Λ3 (K : Value → Hp → Prop) (R3 : ByteArray → Int → Int → Hp → Prop) : Cuts := ⟨fun i => none, fun i => match Nat.beq i 7 with | true => some (fun E D H => ∃ k, W_abacistref16_Of.l7.L K R3 k E D H) | false => none, (fun _ => none)⟩
def W_abacistref16_Of.Λ (K : Value → Hp → Prop) : Cuts := ⟨fun i => none, fun i => match Nat.beq i 3 with | true => some (fun E D H => ∃ k, W_abacistref16_Of.l3.L K k E D H) | false => none, (fun _ => none)⟩
theorem W_abacistref16_Of.ok (s1 : ByteArray) (H : Hp) (K : Value → Hp → Prop) (h : W_abacistref16_Of s1 H K) : HCalls Tryd.prog 97 #[.string s1] H K :=
  hcalls Tryd.func97 rfl (Nat.le_of_ble_eq_true rfl) (hw_safe (Λ := (W_abacistref16_Of.Λ K)) mixWabacistref16 _ _ _ _ _ (Eq.mp (by kernel_rfl) h) (obs_seq obs_region rfl (obs_seq obs_region rfl (obs_seq (obs_seq obs_region rfl (obs_block (obs_loop rfl (fun E D H h => by
      refine Safe.loop' (W_abacistref16_Of.l3.L K) (fun E D H h => ?_) (fun k E D H h => ?_) E D H h
      · obtain ⟨w0, e0, g1⟩ := DG.out h; obtain ⟨s2, rfl, g2⟩ := DS.out g1; obtain ⟨w3, e3, g3⟩ := DG.out g2; obtain ⟨x1, rfl, g4⟩ := DI.out g3; obtain ⟨w4, e4, g5⟩ := DG.out g4; obtain ⟨x2, rfl, g6⟩ := DI.out g5; obtain ⟨rfl, h'⟩ := DNilD.out g6; exact h'
      · obtain ⟨w0, e0, g1⟩ := DG.out h
        obtain ⟨s2, rfl, g2⟩ := DS.out g1
        obtain ⟨w3, e3, g3⟩ := DG.out g2
        obtain ⟨x1, rfl, g4⟩ := DI.out g3
        obtain ⟨w4, e4, g5⟩ := DG.out g4
        obtain ⟨x2, rfl, g6⟩ := DI.out g5
        obtain ⟨rfl, h'⟩ := DNilD.out g6
        exact (hw_safe (Λ := (W_abacistref16_Of.Λ3 K (W_abacistref16_Of.l3 K k))) mixWabacistref16 _ _ [(0, .string s2), (3, .int .u32 x1), (4, .int .i64 x2)] [] H (Eq.mp (by kernel_rfl) h') (obs_seq (obs_seq obs_region rfl (obs_cond obs_skip obs_exit)) rfl (obs_seq (obs_block (obs_seq obs_region rfl (obs_seq obs_region rfl (obs_block (obs_loop rfl (fun E D H h => by
            refine Safe.loop' (W_abacistref16_Of.l7.L K (W_abacistref16_Of.l3 K k)) (fun E D H h => ?_) (fun k E D H h => ?_) E D H h
            · obtain ⟨w0, e0, g1⟩ := DG.out h; obtain ⟨s3, rfl, g2⟩ := DS.out g1; obtain ⟨w3, e3, g3⟩ := DG.out g2; obtain ⟨x4, rfl, g4⟩ := DI.out g3; obtain ⟨w4, e4, g5⟩ := DG.out g4; obtain ⟨x5, rfl, g6⟩ := DI.out g5; obtain ⟨w5, e5, g7⟩ := DG.out g6; obtain ⟨x6, rfl, g8⟩ := DI.out g7; obtain ⟨w6, e6, g9⟩ := DG.out g8; obtain ⟨x7, rfl, g10⟩ := DI.out g9; obtain ⟨rfl, h'⟩ := DNilD.out g10; exact h'
            · obtain ⟨w0, e0, g1⟩ := DG.out h
              obtain ⟨s3, rfl, g2⟩ := DS.out g1
              obtain ⟨w3, e3, g3⟩ := DG.out g2
              obtain ⟨x4, rfl, g4⟩ := DI.out g3
              obtain ⟨w4, e4, g5⟩ := DG.out g4
              obtain ⟨x5, rfl, g6⟩ := DI.out g5
              obtain ⟨w5, e5, g7⟩ := DG.out g6
              obtain ⟨x6, rfl, g8⟩ := DI.out g7
              obtain ⟨w6, e6, g9⟩ := DG.out g8
              obtain ⟨x7, rfl, g10⟩ := DI.out g9
              obtain ⟨rfl, h'⟩ := DNilD.out g10
              exact (hw_safe (Λ := (W_abacistref16_Of.Λ7 K (W_abacistref16_Of.l3 K k) (W_abacistref16_Of.l7 K (W_abacistref16_Of.l3 K k) k))) mixWabacistref16 _ _ [(0, .string s3), (3, .int .u32 x4), (4, .int .i64 x5), (5, .int .u8 x6), (6, .int .i64 x7)] [] H (Eq.mp (by kernel_rfl) h') (obs_seq (obs_seq obs_region rfl (obs_cond obs_skip obs_exit)) rfl (obs_seq (obs_block (obs_seq obs_region rfl (obs_seq obs_region rfl (obs_seq obs_region rfl (obs_seq obs_region rfl (obs_cond obs_region obs_skip)))))) rfl obs_region))).weaken (EnvLe.cons e0 (EnvLe.cons e3 (EnvLe.cons e4 (EnvLe.cons e5 (EnvLe.cons e6 (EnvLe.nil _)))))) (Hp.le_refl _))))))) rfl obs_region))).weaken (EnvLe.cons e0 (EnvLe.cons e3 (EnvLe.cons e4 (EnvLe.nil _)))) (Hp.le_refl _))))) rfl (obs_seq obs_region rfl obs_ret)))))

end Go.Proofs.YtbnhfcdagoigkaaDoor.W

end
section
/-! CrcA -/
/- crc, codec's forms and the document's answers: what they answer. -/
set_option maxRecDepth 100000
set_option linter.unusedSimpArgs false
set_option linter.unusedVariables false
set_option linter.unnecessarySimpa false
set_option linter.unusedSectionVars false
namespace Go.Proofs.YtbnhfcdagoigkaaDoor.CrcP
open Go Go.Hw Go.Crc Go.Proofs.YtbnhfcdagoigkaaDoor.W

theorem bit1_int (v : W32) : bXor .u32 (shrI .u32 (v.toNat : Int) 1) (IntKind.u32.wrap ((2197175160 : Int) * bAnd .u32 (v.toNat : Int) 1)) = ((bit1 v).toNat : Int) := by
  rw [shr32 v (i := 1) (n := 1) rfl (by omega), show (1 : Int) = ((1#32 : W32).toNat : Int) from rfl, and32]
  have : IntKind.u32.wrap ((2197175160 : Int) * ((v &&& 1#32).toNat : Int)) = ((if v.getLsbD 0 then poly else 0#32).toNat : Int) := by
    have h1 : v &&& 1#32 = if v.getLsbD 0 then 1#32 else 0#32 := by
      apply BitVec.eq_of_getLsbD_eq
      intro i hi
      rw [BitVec.getLsbD_and]
      cases i with
      | zero => cases h : v.getLsbD 0 <;> simp
      | succ i => cases h : v.getLsbD 0 <;> simp
    rw [h1]
    cases v.getLsbD 0 <;> decide
  rw [this, xor32]
  rfl

def tbl (i : Nat) : Value := .int .u32 ((it bit1 4 (BitVec.ofNat 32 i)).toNat : Int)

theorem nib_inner (K : Value → Hp → Prop) (R2 : Addr → Int → Hp → Prop) (b : Nat) (c : Array Value) (e : TypeId) (hc : c.size = 16) (H : Hp) (hb : H b = some (.obj (.cells c e))) (x2 : Nat) (hx : x2 < 16) (x4 : Int) (w : W32)
    (k : R2 ⟨b, 0, none⟩ (IntKind.i64.wrap (x4 + 1)) (H.set b (.obj (.cells (c.setIfInBounds x2 (.int .u32 (w.toNat : Int))) e)))) :
    ∀ (d j : Nat) (v : W32), j + d = 4 → it bit1 d v = w → W_crc_nibbles.l6 K R2 (d + 1) ⟨b, 0, none⟩ x2 (v.toNat : Int) x4 j H
  | 0, j, v, hj, hv => by
    unfold W_crc_nibbles.l6
    refine BIf_dneg (by omega) ?_
    refine ⟨by omega, by omega, ?_⟩
    simp only [Addr.add_lit', Int.toNat_natCast, Nat.mul_one, Nat.zero_add, Nat.add_zero]
    refine St_obj hb (by omega) rfl ?_
    obtain rfl : v = w := hv
    exact k
  | d + 1, j, v, hj, hv => by
    unfold W_crc_nibbles.l6
    refine BIf_dpos (by omega) ?_
    refine ⟨by omega, ?_⟩
    rw [bit1_int, i64w (by omega) (by omega)]
    exact nib_inner K R2 b c e hc H hb x2 hx x4 w k d (j + 1) (bit1 v) (by omega) hv

theorem nib_outer (K : Value → Hp → Prop) (b : Nat) (e : TypeId) (H0 : Hp) (hn : H0 b = none)
    (k : ∀ H, H0.le H → K (.agg ((List.range 16).map tbl).toArray) H) : ∀ (d i : Nat) (H : Hp), i + d = 16 → H = H0.set b (.obj (.cells (filled tbl (.int .u32 0) 16 i) e)) → W_crc_nibbles.l2 K (d + 1) ⟨b, 0, none⟩ (i : Int) H
  | 0, i, H, hi, hH => by
    obtain rfl : i = 16 := by omega
    unfold W_crc_nibbles.l2
    refine BIf_dneg (by omega) ?_
    have hb : H b = some (.obj (.cells (filled tbl (.int .u32 0) 16 16) e)) := by rw [hH]; exact Hp.set_same _ _ _
    refine LdA_obj hb (filled_size _ _ _ _) ?_
    refine StA_obj hb (filled_size _ _ _ _) (by simp [filled_size]) ?_ ?_
    · rw [filled_all]; intro v hv; simp at hv; obtain ⟨a, _, rfl⟩ := hv; rfl
    refine LdA_obj (Hp.set_same _ _ _) (by simp [filled_size]) ?_
    rw [Array.toArray_toList, filled_all]
    refine k _ ?_
    rw [hH, Hp.set_set]
    exact Hp.le_set hn
  | d + 1, i, H, hi, hH => by
    unfold W_crc_nibbles.l2
    refine BIf_dpos (by omega) ?_
    refine ⟨5, ?_⟩
    have hb : H b = some (.obj (.cells (filled tbl (.int .u32 0) 16 i) e)) := by rw [hH]; exact Hp.set_same _ _ _
    rw [show IntKind.u32.wrap (i : Int) = ((BitVec.ofNat 32 i).toNat : Int) by rw [BitVec.toNat_ofNat, Nat.mod_eq_of_lt (by omega)]; exact u32n (by omega)]
    refine nib_inner K _ b _ e (filled_size _ _ _ _) H hb i (by omega) i _ ?_ 4 0 _ rfl rfl
    rw [i64w (by omega) (by omega)]
    refine nib_outer K b e H0 hn k d (i + 1) _ (by omega) ?_
    rw [hH, Hp.set_set]
    congr 3
    exact filled_set tbl (.int .u32 0) (by omega)

theorem nibbles_ok (H : Hp) : HCalls Tryd.prog 205 #[] H (RetE (.agg ((List.range 16).map tbl).toArray) H) := by
  apply HCalls.ret
  apply W_crc_nibbles.ok
  unfold W_crc_nibbles
  intro b hb
  refine ⟨17, ?_⟩
  exact nib_outer _ b _ H hb (fun H' hl => ⟨rfl, hl⟩) 16 0 _ rfl rfl

/-- One step by half bytes. -/
theorem nib_step (v : W32) : (v >>> 4) ^^^ it bit1 4 (v &&& 15#32) = it bit1 4 v := (nibble v).symm

theorem and15 (v : W32) : bAnd .u32 (v.toNat : Int) 15 = ((v &&& 15#32).toNat : Int) := and32 v 15#32
theorem and15_lt (v : W32) : (v &&& 15#32).toNat < 16 := by
  rw [BitVec.toNat_and]
  exact Nat.lt_of_le_of_lt Nat.and_le_right (by decide)

theorem tbl_get (v : W32) : (((List.range 16).map tbl).toArray)[(v &&& 15#32).toNat]? = some (.int .u32 ((it bit1 4 (v &&& 15#32)).toNat : Int)) := by
  have h := and15_lt v
  simp only [List.getElem?_toArray, List.getElem?_map, List.getElem?_range h, Option.map_some]
  unfold tbl
  rw [BitVec.ofNat_toNat, BitVec.setWidth_eq]

theorem More_loop (K : Value → Hp → Prop) (t : Nat) (e : TypeId) (A : Option Addr) (n m : Nat) (bs : List UInt8) (hn : n = bs.length) (hm : n ≤ 9223372036854775807) (H : Hp) (ht : H t = some (.obj (.cells ((List.range 16).map tbl).toArray e))) (hb : Cells H A (byteVals bs)) (w : W32)
    (k : K (.int .u32 ((~~~ w).toNat : Int)) H) : ∀ (d j : Nat) (v : W32), j + d = n → run v (bs.drop j) = w → W_crc_More.l4 K (d + 1) ⟨t, 0, none⟩ (v.toNat : Int) A n m n (j : Int) H
  | 0, j, v, hj, hv => by
    unfold W_crc_More.l4
    refine BIf_dneg (by omega) ?_
    rw [List.drop_eq_nil_of_le (by omega)] at hv
    obtain rfl : v = w := hv
    rw [show IntKind.u32.max = ((BitVec.allOnes 32).toNat : Int) from rfl, xor32, BitVec.allOnes_xor]
    exact k
  | d + 1, j, v, hj, hv => by
    unfold W_crc_More.l4
    refine BIf_dpos (by omega) ?_
    have hlt : j < bs.length := by omega
    refine hb.read (i := j) (v := .int .u8 (bs[j].toNat : Int)) (by rw [byteVals_get, List.getElem?_eq_getElem hlt]; rfl) rfl (by rw [byteVals_length]; omega) ?_
    simp only [DI_int', DB_bool, DS_string, DP_pointer, DSl_slice, DM_map, DA_agg, DTup_tuple, DCons_cons, DNil_nil, NN_some, BIf_true, BIf_false, BIf_same, List.toList_toArray, Bool.not_true, Bool.not_false]
    refine ⟨by omega, ?_⟩
    rw [show (bs[j].toNat : Int) = ((bs[j].toBitVec).toNat : Int) from rfl, low8, xor32, and15]
    refine ⟨by omega, by have := and15_lt (v ^^^ BitVec.setWidth 32 bs[j].toBitVec); omega, ?_⟩
    simp only [Addr.add_lit', Int.toNat_natCast, Nat.mul_one, Nat.zero_add]
    refine Ld_obj ht (tbl_get _) ?_
    simp only [DI_int', DB_bool, DS_string, DP_pointer, DSl_slice, DM_map, DA_agg, DTup_tuple, DCons_cons, DNil_nil, NN_some, BIf_true, BIf_false, BIf_same, List.toList_toArray, Bool.not_true, Bool.not_false]
    refine ⟨by omega, ?_⟩
    rw [shr32 _ (i := 4) (n := 4) rfl (by omega), xor32, nib_step, and15]
    refine ⟨by omega, by have := and15_lt (it bit1 4 (v ^^^ BitVec.setWidth 32 bs[j].toBitVec)); omega, ?_⟩
    simp only [Addr.add_lit', Int.toNat_natCast, Nat.mul_one, Nat.zero_add]
    refine Ld_obj ht (tbl_get _) ?_
    simp only [DI_int', DB_bool, DS_string, DP_pointer, DSl_slice, DM_map, DA_agg, DTup_tuple, DCons_cons, DNil_nil, NN_some, BIf_true, BIf_false, BIf_same, List.toList_toArray, Bool.not_true, Bool.not_false]
    rw [shr32 _ (i := 4) (n := 4) rfl (by omega), xor32, nib_step, i64w (by omega) (by omega)]
    refine More_loop K t e A n m bs hn hm H ht hb w k d (j + 1) _ (by omega) ?_
    rw [List.drop_eq_getElem_cons hlt] at hv
    exact hv

theorem More_ok (s : W32) (A : Option Addr) (n m : Nat) (bs : List UInt8) (hn : n = bs.length) (hm : n ≤ 9223372036854775807) (H : Hp) (hb : Cells H A (byteVals bs)) :
    HCalls Tryd.prog 169 #[.int .u32 (s.toNat : Int), .slice A n m] H (RetE (.int .u32 ((more s bs).toNat : Int)) H) := by
  apply HCalls.ret
  apply W_crc_More.ok
  unfold W_crc_More
  refine HCalls.use (nibbles_ok H) ?_
  try simp only [DI_int', DB_bool, DS_string, DP_pointer, DSl_slice, DM_map, DA_agg, DTup_tuple, DCons_cons, DNil_nil, NN_some, BIf_true, BIf_false, BIf_same, List.toList_toArray, Bool.not_true, Bool.not_false]
  intro b hbn
  refine StA_obj (Hp.set_same _ _ _) rfl (by simp) ?_ ?_
  · intro v hv; simp at hv; obtain ⟨a, _, rfl⟩ := hv; rfl
  rw [Hp.set_set]
  refine ⟨n + 1, ?_⟩
  rw [show IntKind.u32.max = ((BitVec.allOnes 32).toNat : Int) from rfl, xor32, BitVec.allOnes_xor]
  refine More_loop _ b _ A n m bs hn hm _ (Hp.set_same _ _ _) (hb.le (Hp.le_set hbn)) (run (~~~ s) bs) ?_ n 0 _ (by omega) rfl
  exact ⟨rfl, Hp.le_set hbn⟩

theorem Of_ok (A : Option Addr) (n m : Nat) (bs : List UInt8) (hn : n = bs.length) (hm : n ≤ 9223372036854775807) (H : Hp) (hb : Cells H A (byteVals bs)) :
    HCalls Tryd.prog 129 #[.slice A n m] H (RetE (.int .u32 ((sum bs).toNat : Int)) H) := by
  apply W_crc_Of.ok
  unfold W_crc_Of
  refine HCalls.use (More_ok 0#32 A n m bs hn hm H hb) ?_
  try simp only [DI_int', DB_bool, DS_string, DP_pointer, DSl_slice, DM_map, DA_agg, DTup_tuple, DCons_cons, DNil_nil, NN_some, BIf_true, BIf_false, BIf_same, List.toList_toArray, Bool.not_true, Bool.not_false]
  exact RetE.mk _ _

end Go.Proofs.YtbnhfcdagoigkaaDoor.CrcP

end
section
/-! FormA -/
/- Words' forms: codec's and the document's. -/
set_option maxRecDepth 100000
set_option linter.unusedSimpArgs false
set_option linter.unusedVariables false
set_option linter.unnecessarySimpa false
set_option linter.unusedSectionVars false
namespace Go.Form
open Go Go.Hw

/-- A word's form. -/
def formW (w : UInt64) : List UInt8 := (List.range 8).map fun k => UInt8.ofNat (w.toNat / 256 ^ k)
def form (l : List UInt64) : List UInt8 := l.flatMap formW

theorem formW_length (w : UInt64) : (formW w).length = 8 := by simp [formW]
theorem form_length (l : List UInt64) : (form l).length = 8 * l.length := by
  induction l with
  | nil => rfl
  | cons w l ih => simp only [form, List.flatMap_cons, List.length_append, formW_length, List.length_cons]; rw [show (List.flatMap formW l).length = (form l).length from rfl, ih]; omega
theorem form_append (a b : List UInt64) : form (a ++ b) = form a ++ form b := by simp [form]
theorem form_succ (l : List UInt64) {i : Nat} (h : i < l.length) : form (l.take (i + 1)) = form (l.take i) ++ formW l[i] := by
  rw [List.take_succ_eq_append_getElem h, form_append]; simp [form]

theorem shr_byte (w : UInt64) (k : Nat) : IntKind.u8.wrap ((w.toNat >>> (8 * k) : Nat) : Int) = ((UInt8.ofNat (w.toNat / 256 ^ k)).toNat : Int) := by
  rw [u8mod, Nat.shiftRight_eq_div_pow, show (2 : Nat) ^ (8 * k) = 256 ^ k from by rw [Nat.pow_mul]]
  simp

end Go.Form
namespace Go.Proofs.YtbnhfcdagoigkaaDoor.FormP
open Go Go.Hw Go.Form Go.Proofs.YtbnhfcdagoigkaaDoor.W

theorem set_loop (K : Value → Hp → Prop) (b off n m mm : Nat) (xs : List Value) (e : TypeId) (w : UInt64) (H0 : Hp) (ho : off + 8 ≤ xs.length) (hn : 8 ≤ n)
    (k : K (.tuple #[]) (H0.set b (.row (setAt xs off (byteVals (formW w))) e mm))) : ∀ (d j : Nat) (H : Hp), j + d = 8 → H = H0.set b (.row (setAt xs off ((byteVals (formW w)).take j)) e mm) →
      W_codec_set.l1 K (d + 1) (some ⟨b, off, none⟩) n m (w.toNat : Int) (j : Int) H
  | 0, j, H, hj, hH => by
    obtain rfl : j = 8 := by omega
    unfold W_codec_set.l1
    refine BIf_dneg (by omega) ?_
    rw [List.take_of_length_le (by rw [byteVals_length, formW_length]; omega)] at hH
    rw [hH]; exact k
  | d + 1, j, H, hj, hH => by
    unfold W_codec_set.l1
    refine BIf_dpos (by omega) ?_
    rw [i64w (x := 8 * (j : Int)) (by omega) (by omega), u64w (by omega) (by omega)]
    refine ⟨by omega, by omega, by omega, ?_⟩
    simp only [NN_some, Addr.add_lit', Int.toNat_natCast, Nat.mul_one, Nat.add_zero]
    rw [shrNat w.toNat (i := 8 * (j : Int)) (n := 8 * j) (by omega) (by show 8 * j ≤ 64; omega), shr_byte, i64w (by omega) (by omega)]
    have hlen : (byteVals (formW w)).length = 8 := by rw [byteVals_length, formW_length]
    have hb : H b = some (.row (setAt xs off ((byteVals (formW w)).take j)) e mm) := by rw [hH]; exact Hp.set_same _ _ _
    refine St_row hb (by rw [setAt_length (by rw [List.length_take, hlen]; omega)]; omega) rfl ?_
    refine set_loop K b off n m mm xs e w H0 ho hn k d (j + 1) _ (by omega) ?_
    rw [hH, Hp.set_set]
    congr 2
    have := setAt_step (xs := xs) (vs := byteVals (formW w)) (off := off) (k := j) (by rw [hlen]; exact ho) (by rw [hlen]; omega)
    rw [← this]
    congr 1
    simp [byteVals, formW]

theorem set_ok (b off n m mm : Nat) (xs : List Value) (e : TypeId) (w : UInt64) (H : Hp) (hb : H b = some (.row xs e mm)) (ho : off + 8 ≤ xs.length) (hn : 8 ≤ n) :
    HCalls Tryd.prog 89 #[.slice (some ⟨b, off, none⟩) n m, .int .u64 (w.toNat : Int)] H (RetE (.tuple #[]) (H.set b (.row (setAt xs off (byteVals (formW w))) e mm))) := by
  apply W_codec_set.ok
  refine ⟨9, set_loop _ b off n m mm xs e w H ho hn (RetE.mk _ _) 8 0 H rfl ?_⟩
  rw [List.take_zero, setAt_nil, Hp.set_id hb]

theorem slA_row (b m l : Nat) : slA (some ⟨b, 0, none⟩) m l 1 = if m = l then some ⟨b, 0, none⟩ else some ⟨b, l, none⟩ := by
  unfold slA; split
  · rfl
  · simp

theorem Put_loop (K : Value → Hp → Prop) (b : Nat) (e : TypeId) (A : Option Addr) (n m : Nat) (l : List UInt64) (hn : n = l.length) (hm : n ≤ 17592186044416) (H0 : Hp) (hb0 : H0 b = none) (hl : Cells H0 A (wordVals l)) (z : List Value) (hz : z.length = 8 * n)
    (k : ∀ H, H = H0.set b (.row (byteVals (form l)) e (8 * n)) → K (.slice (some ⟨b, 0, none⟩) (8 * n) (8 * n)) H) : ∀ (d j : Nat) (H : Hp), j + d = n → H = H0.set b (.row (setAt z 0 (byteVals (form (l.take j)))) e (8 * n)) →
      W_codec_Put.l3 K (d + 1) (some ⟨b, 0, none⟩) (8 * n) (8 * n) A n m (n : Int) (j : Int) H
  | 0, j, H, hj, hH => by
    unfold W_codec_Put.l3
    refine BIf_dneg (by omega) (k _ ?_)
    rw [hH, List.take_of_length_le (by omega), setAt_all (by rw [byteVals_length, form_length, hz, hn])]
  | d + 1, j, H, hj, hH => by
    unfold W_codec_Put.l3
    refine BIf_dpos (by omega) ?_
    have hlt : j < l.length := by omega
    have hle : H0.le H := by rw [hH]; exact Hp.le_set hb0
    refine (hl.le hle).read (i := j) (v := .int .u64 (l[j].toNat : Int)) (by rw [wordVals_get, List.getElem?_eq_getElem hlt]; rfl) rfl (by rw [wordVals_length]; omega) ?_
    simp only [DI_int', DB_bool, DS_string, DP_pointer, DSl_slice, DM_map, DA_agg, DTup_tuple, DCons_cons, DNil_nil, NN_some, BIf_true, BIf_false, BIf_same, List.toList_toArray, Bool.not_true, Bool.not_false]
    rw [i64w (x := 8 * (j : Int)) (by omega) (by omega)]
    refine ⟨by omega, by omega, ?_⟩
    dsimp only
    rw [show (8 * (j : Int)).toNat = 8 * j by omega, slA_row, if_neg (by omega)]
    have hlen : (byteVals (form (l.take j))).length = 8 * j := by rw [byteVals_length, form_length, List.length_take, Nat.min_eq_left (by omega)]
    have hb : H b = some (.row (setAt z 0 (byteVals (form (l.take j)))) e (8 * n)) := by rw [hH]; exact Hp.set_same _ _ _
    have hsl : (setAt z 0 (byteVals (form (l.take j)))).length = 8 * n := by rw [setAt_length (by omega), hz]
    refine HCalls.use (set_ok b (8 * j) _ _ _ _ e l[j] H hb (by omega) (by omega)) ?_
    rw [i64w (by omega) (by omega)]
    refine Put_loop K b e A n m l hn hm H0 hb0 hl z hz k d (j + 1) _ (by omega) ?_
    rw [hH, Hp.set_set]
    congr 2
    rw [form_succ l hlt, byteVals_append]
    have h8 : (byteVals (formW l[j])).length = 8 := by rw [byteVals_length, formW_length]
    rw [← setAt_setAt (by rw [hlen, h8]; omega), hlen]

theorem cell_u8 : cellInfo Tryd.prog 5 = some (1, 1, some #[.int .u8 0]) := by kernel_rfl

theorem Put_ok (A : Option Addr) (n m : Nat) (l : List UInt64) (hn : n = l.length) (hm : n ≤ 17592186044416) (H : Hp) (hl : Cells H A (wordVals l)) :
    HCalls Tryd.prog 45 #[.slice A n m] H (fun v H' => ∃ b, H b = none ∧ v = .slice (some ⟨b, 0, none⟩) (8 * n) (8 * n) ∧ H' = H.set b (.row (byteVals (form l)) 5 (8 * n))) := by
  apply W_codec_Put.ok
  unfold W_codec_Put
  rw [i64w (x := 8 * (n : Int)) (by omega) (by omega)]
  refine MkS_of cell_u8 rfl (n := 8 * n) (m := 8 * n) (by omega) (by omega) (Nat.le_refl _) (by omega) (by omega) ?_
  intro b hb
  rw [Nat.mul_one]
  simp only [DI_int', DB_bool, DS_string, DP_pointer, DSl_slice, DM_map, DA_agg, DTup_tuple, DCons_cons, DNil_nil, NN_some, BIf_true, BIf_false, BIf_same, List.toList_toArray, Bool.not_true, Bool.not_false]
  refine ⟨n + 1, ?_⟩
  refine Put_loop _ b 5 A n m l hn hm H hb hl (zeroRow [.int .u8 0] (8 * n)) (by rw [zeroRow_length]; simp) ?_ n 0 _ (by omega) ?_
  · intro H' hH; exact ⟨b, hb, rfl, hH⟩
  · rw [List.take_zero]; simp [form, byteVals, setAt_nil]

/-! ## The document's -/

theorem bsize (bs : List UInt8) : (ByteArray.mk bs.toArray).size = bs.length := by simp [ByteArray.size]
theorem bappend (a b : List UInt8) : ByteArray.mk a.toArray ++ ByteArray.mk b.toArray = ByteArray.mk (a ++ b).toArray := by
  apply ByteArray.ext
  simp

theorem rput_inner (K : Value → Hp → Prop) (R3 : Option Addr → Nat → Nat → ByteArray → Int → Hp → Prop) (A : Option Addr) (n m : Nat) (x3 : Int) (H0 : Hp) (w : UInt64) (pre : List UInt8) (hp : pre.length ≤ 1000000000000)
    (k : ∀ H, H0.le H → R3 A n m ⟨(pre ++ formW w).toArray⟩ (IntKind.i64.wrap (x3 + 1)) H) : ∀ (d j : Nat) (H : Hp), j + d = 8 → H0.le H →
      W_abacistref04_Put.l7 K R3 (d + 1) A n m ⟨(pre ++ (formW w).take j).toArray⟩ x3 ((w.toNat / 256 ^ j : Nat) : Int) (j : Int) H
  | 0, j, H, hj, hle => by
    unfold W_abacistref04_Put.l7
    refine BIf_dneg (by omega) ?_
    rw [List.take_of_length_le (by rw [formW_length]; omega)]
    exact k H hle
  | d + 1, j, H, hj, hle => by
    unfold W_abacistref04_Put.l7
    refine BIf_dpos (by omega) ?_
    refine ⟨by omega, rfl, ?_⟩
    intro b hb
    have hlen := formW_length w
    have hbyte : IntKind.u8.wrap (Int.tmod ((w.toNat / 256 ^ j : Nat) : Int) 256) = (((formW w)[j]'(by omega)).toNat : Int) := by
      rw [show Int.tmod ((w.toNat / 256 ^ j : Nat) : Int) 256 = ((w.toNat / 256 ^ j % 256 : Nat) : Int) from rfl, u8n (by omega)]
      simp [formW]
    have hc : Cells (H.set b (.row [.int .u8 (((formW w)[j]'(by omega)).toNat : Int)] 5 1)) (some ⟨b, 0, none⟩) (byteVals [(formW w)[j]'(by omega)]) := by
      have := Cells.row (Hp.set_same H b (.row [.int .u8 (((formW w)[j]'(by omega)).toNat : Int)] 5 1)) 0 1
      simpa [byteVals] using this
    rw [hbyte]
    refine BsK_of hc rfl ?_
    rw [bsize, bsize, bappend]
    refine ⟨by simp; omega, by omega, rfl, ?_⟩
    have hdiv : IntKind.u64.wrap (Int.tdiv ((w.toNat / 256 ^ j : Nat) : Int) 256) = ((w.toNat / 256 ^ (j + 1) : Nat) : Int) := by
      rw [show Int.tdiv ((w.toNat / 256 ^ j : Nat) : Int) 256 = ((w.toNat / 256 ^ j / 256 : Nat) : Int) from rfl, Nat.div_div_eq_div_mul, show 256 ^ j * 256 = 256 ^ (j + 1) from (Nat.pow_succ ..).symm]
      exact u64n (by have := Nat.div_le_self w.toNat (256 ^ (j + 1)); have := w.toNat_lt; omega)
    rw [hdiv, i64w (by omega) (by omega), List.append_assoc, ← List.take_succ_eq_append_getElem (by omega)]
    exact rput_inner K R3 A n m x3 H0 w pre hp k d (j + 1) _ (by omega) (Hp.le_trans hle (Hp.le_set hb))

theorem rput_outer (K : Value → Hp → Prop) (A : Option Addr) (n m : Nat) (l : List UInt64) (hn : n = l.length) (hm : n ≤ 10000000000) (H0 : Hp) (hl : Cells H0 A (wordVals l)) (k : ∀ H, H0.le H → K (.string ⟨(form l).toArray⟩) H) : ∀ (d j : Nat) (H : Hp), j + d = n → H0.le H →
      W_abacistref04_Put.l3 K (d + 1) A n m ⟨(form (l.take j)).toArray⟩ (j : Int) H
  | 0, j, H, hj, hle => by
    unfold W_abacistref04_Put.l3
    refine BIf_dneg (by omega) ?_
    rw [List.take_of_length_le (by omega)]
    exact k H hle
  | d + 1, j, H, hj, hle => by
    unfold W_abacistref04_Put.l3
    refine BIf_dpos (by omega) ?_
    have hlt : j < l.length := by omega
    refine (hl.le hle).read (i := j) (v := .int .u64 (l[j].toNat : Int)) (by rw [wordVals_get, List.getElem?_eq_getElem hlt]; rfl) rfl (by rw [wordVals_length]; omega) ?_
    simp only [DI_int', DB_bool, DS_string, DP_pointer, DSl_slice, DM_map, DA_agg, DTup_tuple, DCons_cons, DNil_nil, NN_some, BIf_true, BIf_false, BIf_same, List.toList_toArray, Bool.not_true, Bool.not_false]
    refine ⟨9, ?_⟩
    have := rput_inner K (W_abacistref04_Put.l3 K (d + 1)) A n m (j : Int) H0 l[j] (form (l.take j)) (by rw [form_length, List.length_take]; omega) (fun H' hle' => by
      rw [i64w (by omega) (by omega), ← form_succ l hlt]
      exact rput_outer K A n m l hn hm H0 hl k d (j + 1) H' (by omega) hle') 8 0 H rfl hle
    simpa using this

theorem rPut_ok (A : Option Addr) (n m : Nat) (l : List UInt64) (hn : n = l.length) (hm : n ≤ 10000000000) (H : Hp) (hl : Cells H A (wordVals l)) :
    HCalls Tryd.prog 44 #[.slice A n m] H (RetE (.string ⟨(form l).toArray⟩) H) := by
  apply HCalls.ret
  apply W_abacistref04_Put.ok
  exact ⟨n + 1, rput_outer _ A n m l hn hm H hl (fun H' hle => ⟨rfl, hle⟩) n 0 H (by omega) (Hp.le_refl _)⟩

end Go.Proofs.YtbnhfcdagoigkaaDoor.FormP

end
section
/-! CrcB -/
/- The document's sums; the laws CrcTells and CrcJoins' parts. -/
set_option maxRecDepth 100000
set_option linter.unusedSimpArgs false
set_option linter.unusedVariables false
set_option linter.unnecessarySimpa false
set_option linter.unusedSectionVars false

namespace Go.Proofs.YtbnhfcdagoigkaaDoor.CrcP
open Go Go.Hw Go.Crc Go.Form Go.Proofs.YtbnhfcdagoigkaaDoor.W

theorem low_shr (c : BitVec 8) : (c >>> 1).setWidth 32 = (c.setWidth 32) >>> 1 := by
  apply BitVec.eq_of_getLsbD_eq
  intro i hi
  simp only [BitVec.getLsbD_setWidth, BitVec.getLsbD_ushiftRight]
  by_cases h : 1 + i < 32
  · simp [hi, h]
  · have := BitVec.getLsbD_of_ge c (1 + i) (by omega)
    simp [this]

theorem xor3 (a b c : W32) : (a ^^^ b) ^^^ c = (a ^^^ c) ^^^ b := by rw [BitVec.xor_assoc, BitVec.xor_comm b c, BitVec.xor_assoc]

theorem ref_step (v : W32) (c : BitVec 8) : ((v >>> 1) ^^^ (if (v ^^^ c.setWidth 32).getLsbD 0 then poly else 0#32)) ^^^ (c >>> 1).setWidth 32 = bit1 (v ^^^ c.setWidth 32) := by
  unfold bit1
  rw [BitVec.ushiftRight_xor_distrib, low_shr]
  exact xor3 _ _ _

theorem rOf_inner (K : Value → Hp → Prop) (R3 : ByteArray → Int → Int → Hp → Prop) (s : ByteArray) (x5 : Int) (H : Hp) (w : W32) (k : R3 s (w.toNat : Int) (IntKind.i64.wrap (x5 + 1)) H) : ∀ (d j : Nat) (v : W32) (c : BitVec 8), j + d = 8 → c >>> d = 0#8 → it bit1 d (v ^^^ c.setWidth 32) = w →
      W_abacistref16_Of.l7 K R3 (d + 1) s (v.toNat : Int) x5 (c.toNat : Int) (j : Int) H
  | 0, j, v, c, hj, hc, hv => by
    unfold W_abacistref16_Of.l7
    refine BIf_dneg (by omega) ?_
    have hc' : c = 0#8 := by simpa using hc
    subst hc'
    obtain rfl : v = w := by simpa [it] using hv
    exact k
  | d + 1, j, v, c, hj, hc, hv => by
    unfold W_abacistref16_Of.l7
    refine BIf_dpos (by omega) ?_
    rw [low8, xor32, mod32, div32, div8, i64w (by omega) (by omega)]
    refine ⟨by omega, rfl, by omega, rfl, by omega, rfl, ?_⟩
    have hc' : (c >>> 1) >>> d = 0#8 := by rw [← BitVec.shiftRight_add, Nat.add_comm]; exact hc
    have hs := ref_step v c
    refine BIf_intro (fun h => ?_) (fun h => ?_)
    · rw [h] at hs
      rw [show (2197175160 : Int) = (poly.toNat : Int) from rfl, xor32]
      exact rOf_inner K R3 s x5 H w k d (j + 1) _ _ (by omega) hc' (by rw [show it bit1 (d + 1) (v ^^^ BitVec.setWidth 32 c) = it bit1 d (bit1 (v ^^^ BitVec.setWidth 32 c)) from rfl, ← hs] at hv; simpa using hv)
    · rw [h] at hs
      exact rOf_inner K R3 s x5 H w k d (j + 1) _ _ (by omega) hc' (by rw [show it bit1 (d + 1) (v ^^^ BitVec.setWidth 32 c) = it bit1 d (bit1 (v ^^^ BitVec.setWidth 32 c)) from rfl, ← hs] at hv; simpa using hv)

theorem shr8 (c : BitVec 8) : c >>> 8 = 0#8 := by
  apply BitVec.eq_of_getLsbD_eq
  intro i hi
  rw [BitVec.getLsbD_ushiftRight, BitVec.getLsbD_of_ge c (8 + i) (by omega)]; simp

theorem rOf_outer (K : Value → Hp → Prop) (bs : List UInt8) (hm : bs.length ≤ 9223372036854775807) (H : Hp) (w : W32) (k : K (.int .u32 ((~~~ w).toNat : Int)) H) : ∀ (d j : Nat) (v : W32), j + d = bs.length → run v (bs.drop j) = w →
      W_abacistref16_Of.l3 K (d + 1) ⟨bs.toArray⟩ (v.toNat : Int) (j : Int) H
  | 0, j, v, hj, hv => by
    unfold W_abacistref16_Of.l3
    refine BIf_dneg (by rw [bsize']; omega) ?_
    rw [List.drop_eq_nil_of_le (by omega)] at hv
    obtain rfl : v = w := hv
    rw [show (4294967295 : Int) = ((BitVec.allOnes 32).toNat : Int) from rfl, xor32, BitVec.xor_allOnes]
    exact k
  | d + 1, j, v, hj, hv => by
    unfold W_abacistref16_Of.l3
    have hlt : j < bs.length := by omega
    refine BIf_dpos (by rw [bsize']; omega) ?_
    refine ⟨by omega, ?_⟩
    rw [Int.toNat_natCast]
    have hg : (ByteArray.mk bs.toArray)[j]? = some bs[j] := by
      rw [getElem?_pos (ByteArray.mk bs.toArray) j (by rw [bsize']; exact hlt)]
      congr 1
    unfold ixB
    rw [hg]
    refine ⟨9, ?_⟩
    rw [show ((bs[j].toNat : Nat) : Int) = ((bs[j].toBitVec).toNat : Int) from rfl]
    refine rOf_inner K _ _ _ H (byte v bs[j]) ?_ 8 0 v _ rfl (shr8 _) rfl
    rw [i64w (by omega) (by omega)]
    refine rOf_outer K bs hm H w k d (j + 1) _ (by omega) ?_
    rw [List.drop_eq_getElem_cons hlt] at hv
    exact hv
where bsize' : (ByteArray.mk bs.toArray).size = bs.length := FormP.bsize bs

theorem rOf_ok (bs : List UInt8) (hm : bs.length ≤ 9223372036854775807) (H : Hp) : HCalls Tryd.prog 97 #[.string ⟨bs.toArray⟩] H (RetE (.int .u32 ((sum bs).toNat : Int)) H) := by
  apply W_abacistref16_Of.ok
  refine ⟨bs.length + 1, ?_⟩
  rw [show (4294967295 : Int) = ((~~~ 0#32 : W32).toNat : Int) from rfl]
  refine rOf_outer _ bs hm H (run (~~~ 0#32) bs) ?_ bs.length 0 _ (by omega) rfl
  exact RetE.mk _ _

theorem rOfWords_ok (A : Option Addr) (n m : Nat) (l : List UInt64) (hn : n = l.length) (hm : n ≤ 10000000000) (H : Hp) (hl : Cells H A (wordVals l)) :
    HCalls Tryd.prog 57 #[.slice A n m] H (RetE (.int .u32 ((sum (form l)).toNat : Int)) H) := by
  apply W_abacistref16_OfWords.ok
  unfold W_abacistref16_OfWords
  refine HCalls.use (FormP.rPut_ok A n m l hn hm H hl) ?_
  try simp only [DI_int', DB_bool, DS_string, DP_pointer, DSl_slice, DM_map, DA_agg, DTup_tuple, DCons_cons, DNil_nil, NN_some, BIf_true, BIf_false, BIf_same, List.toList_toArray, Bool.not_true, Bool.not_false]
  refine HCalls.use (rOf_ok (form l) (by rw [form_length]; omega) H) ?_
  try simp only [DI_int', DB_bool, DS_string, DP_pointer, DSl_slice, DM_map, DA_agg, DTup_tuple, DCons_cons, DNil_nil, NN_some, BIf_true, BIf_false, BIf_same, List.toList_toArray, Bool.not_true, Bool.not_false]
  exact RetE.mk _ _

theorem OfWords_ok (A : Option Addr) (n m : Nat) (l : List UInt64) (hn : n = l.length) (hm : n ≤ 10000000000) (H : Hp) (hl : Cells H A (wordVals l)) :
    HCalls Tryd.prog 95 #[.slice A n m] H (RetE (.int .u32 ((sum (form l)).toNat : Int)) H) := by
  apply HCalls.ret
  apply W_crc_OfWords.ok
  unfold W_crc_OfWords
  refine (FormP.Put_ok A n m l hn (by omega) H hl).mono ?_
  rintro v H' ⟨b, hb, rfl, rfl⟩
  simp only [DI_int', DB_bool, DS_string, DP_pointer, DSl_slice, DM_map, DA_agg, DTup_tuple, DCons_cons, DNil_nil, NN_some, BIf_true, BIf_false, BIf_same, List.toList_toArray, Bool.not_true, Bool.not_false]
  have hf : (form l).length = 8 * n := by rw [form_length, hn]
  refine HCalls.use (Of_ok (some ⟨b, 0, none⟩) (8 * n) (8 * n) (form l) hf.symm (by omega) _ (by have := Cells.row (Hp.set_same H b (.row (byteVals (form l)) 5 (8 * n))) 0 (8 * n); rwa [List.drop_zero, List.take_of_length_le (by rw [byteVals_length, hf]; omega)] at this)) ?_
  try simp only [DI_int', DB_bool, DS_string, DP_pointer, DSl_slice, DM_map, DA_agg, DTup_tuple, DCons_cons, DNil_nil, NN_some, BIf_true, BIf_false, BIf_same, List.toList_toArray, Bool.not_true, Bool.not_false]
  exact ⟨rfl, Hp.le_set hb⟩

theorem sum_123 : sum [49, 50, 51, 52, 53, 54, 55, 56, 57] = 3808858755#32 := by decide +kernel

theorem u32_eq (a b : W32) : ((a.toNat : Int) == (b.toNat : Int)) = (a == b) := by
  by_cases h : a = b
  · subst h; simp
  · have : (a.toNat : Int) ≠ b.toNat := fun e => h (BitVec.eq_of_toNat_eq (by omega))
    rw [beq_false_of_ne h, beq_false_of_ne this]

end Go.Proofs.YtbnhfcdagoigkaaDoor.CrcP

end
section
/-! FormB -/
/- Words of bytes: codec's and the document's. -/
set_option maxRecDepth 100000
set_option linter.unusedSimpArgs false
set_option linter.unusedVariables false
set_option linter.unnecessarySimpa false
set_option linter.unusedSectionVars false
namespace Go.Form
open Go Go.Hw
theorem formW_bytes (w : UInt64) : formW w = bytesN 8 w.toNat := range_bytes 8 w.toNat
theorem leN_formW (w : UInt64) : leN (formW w) = w.toNat := by
  rw [formW_bytes, leN_bytesN]
  exact Nat.mod_eq_of_lt w.toNat_lt

/-- The word whose form begins at a place. -/
def wordN (bs : List UInt8) (o : Nat) : Nat := leN ((bs.drop o).take 8)
theorem wordN_lt (bs : List UInt8) (o : Nat) : wordN bs o < 2 ^ 64 := leN_lt8 (by simp; omega)

theorem form_drop (l : List UInt64) (i : Nat) : (form l).drop (8 * i) = form (l.drop i) := by
  induction i generalizing l with
  | zero => simp
  | succ i ih =>
    cases l with
    | nil => simp [form]
    | cons w l =>
      rw [List.drop_succ_cons, ← ih]
      show List.drop (8 * (i + 1)) (formW w ++ form l) = _
      rw [show 8 * (i + 1) = (formW w).length + 8 * i by rw [formW_length]; omega, List.drop_append]
      simp
theorem wordN_form {l : List UInt64} {i : Nat} (h : i < l.length) (r : List UInt8) : wordN (form l ++ r) (8 * i) = l[i].toNat := by
  unfold wordN
  rw [List.drop_append_of_le_length (by rw [form_length]; omega), form_drop, List.drop_eq_getElem_cons h]
  show leN (((formW l[i] ++ form (l.drop (i + 1))) ++ r).take 8) = _
  rw [List.append_assoc, List.take_left' (formW_length _), leN_formW]
end Go.Form
namespace Go.Proofs.YtbnhfcdagoigkaaDoor.FormP
open Go Go.Hw Go.Form Go.Proofs.YtbnhfcdagoigkaaDoor.W

theorem word_loop (K : Value → Hp → Prop) (A : Option Addr) (n m : Nat) (bs : List UInt8) (hl : bs.length = 8) (hn : 8 ≤ n) (H : Hp) (hb : Cells H A (byteVals bs)) (k : K (.int .u64 (leN bs : Nat)) H) : ∀ j : Nat, j ≤ 8 →
    W_codec_word.l3 K (j + 1) A n m ((leN (bs.drop j) : Nat) : Int) ((j : Int) - 1) H
  | 0, _ => by
    unfold W_codec_word.l3
    refine BIf_dneg (by omega) ?_
    exact k
  | j + 1, hj => by
    unfold W_codec_word.l3
    refine BIf_dpos (by omega) ⟨by omega, ?_⟩
    rw [show (((j + 1 : Nat) : Int) - 1) = (j : Int) by omega]
    have hlt : j < bs.length := by omega
    refine ⟨by omega, by omega, ?_⟩
    obtain ⟨a, rfl, hc⟩ := hb j (.int .u8 (bs[j].toNat : Int)) (by rw [byteVals_get, List.getElem?_eq_getElem hlt]; rfl)
    show Ld H _ _
    refine Ld_of (v := .int .u8 (bs[j].toNat : Int)) (by rw [Int.toNat_natCast, Nat.mul_one]; exact hc) ?_
    simp only [DI_int', DB_bool, DS_string, DP_pointer, DSl_slice, DM_map, DA_agg, DTup_tuple, DCons_cons, DNil_nil, NN_some, BIf_true, BIf_false, BIf_same, List.toList_toArray, Bool.not_true, Bool.not_false]
    have h1 : leN (bs.drop (j + 1)) < 256 ^ 7 := by
      have h1 := leN_lt (bs.drop (j + 1))
      have h2 : 256 ^ (bs.drop (j + 1)).length ≤ 256 ^ 7 := Nat.pow_le_pow_right (by omega) (by simp; omega)
      omega
    have h2 : bs[j].toNat < 256 := bs[j].toNat_lt
    have h3 : leN (bs.drop (j + 1)) * 2 ^ 8 < 2 ^ 64 := by
      rw [show (256 : Nat) ^ 7 = 2 ^ 56 by decide] at h1; omega
    rw [shlN (i := (8 : Int)) (n := 8) rfl (by omega), Nat.mod_eq_of_lt h3, u64n (by omega), orN h3 (by omega), i64w (by omega) (by omega)]
    rw [← Nat.shiftLeft_eq, ← Nat.shiftLeft_add_eq_or_of_lt (by omega : bs[j].toNat < 2 ^ 8), Nat.shiftLeft_eq]
    have e := leN_drop hlt
    rw [show leN (bs.drop (j + 1)) * 2 ^ 8 + bs[j].toNat = leN (bs.drop j) by rw [e]; omega]
    exact word_loop K _ n m bs hl hn H hb k j (by omega)

theorem word_ok (A : Option Addr) (n m : Nat) (bs : List UInt8) (hl : bs.length = 8) (hn : 8 ≤ n) (H : Hp) (hb : Cells H A (byteVals bs)) : HCalls Tryd.prog 88 #[.slice A n m] H (RetE (.int .u64 (leN bs : Nat)) H) := by
  apply W_codec_word.ok
  refine ⟨9, ?_⟩
  have := word_loop (RetE (.int .u64 (leN bs : Nat)) H) A n m bs hl hn H hb (RetE.mk _ _) 8 (Nat.le_refl _)
  rw [List.drop_eq_nil_of_le (by omega)] at this
  exact this

theorem inside_ok (A : Option Addr) (n m : Nat) (hn : n ≤ 9000000000000000000) (i : Int) (H : Hp) : HCalls Tryd.prog 87 #[.slice A n m, .int .i64 i] H (RetE (.bool (decide (0 ≤ i ∧ i < (n / 8 : Nat)))) H) := by
  apply W_codec_inside.ok
  unfold W_codec_inside
  rw [BIf_decide]
  split
  · refine ⟨by omega, rfl, RetE.of ?_⟩
    rw [show Int.tdiv ((n : Nat) : Int) 8 = ((n / 8 : Nat) : Int) from rfl, i64n (by omega)]
    congr 1; simp only [decide_eq_decide]; omega
  · refine RetE.of ?_
    congr 1
    exact (decide_eq_false (by omega)).symm

theorem Word_ok (A : Option Addr) (n m : Nat) (hnm : n ≤ m) (hm : n ≤ 9000000000000000000) (bs : List UInt8) (hl : n = bs.length) (i : Nat) (hi : 8 * i + 8 ≤ n) (H : Hp) (hb : Cells H A (byteVals bs)) :
    HCalls Tryd.prog 41 #[.slice A n m, .int .i64 i] H (RetE (.tuple #[.int .u64 (wordN bs (8 * i) : Nat), .int .i64 0]) H) := by
  apply W_codec_Word.ok
  unfold W_codec_Word
  refine HCalls.use (inside_ok A n m (by omega) i H) ?_
  try simp only [DI_int', DB_bool, DS_string, DP_pointer, DSl_slice, DM_map, DA_agg, DTup_tuple, DCons_cons, DNil_nil, NN_some, BIf_true, BIf_false, BIf_same, List.toList_toArray, Bool.not_true, Bool.not_false]
  refine BIf_neg (by simp; omega) ?_
  rw [i64w (x := 8 * (i : Int)) (by omega) (by omega)]
  refine ⟨by omega, by omega, ?_⟩
  rw [show (8 * (i : Int)).toNat = 8 * i by omega]
  have h1 := (hb.shift (m := m) (l := 8 * i) (by rw [byteVals_length]; omega)).take 8
  rw [show ((byteVals bs).drop (8 * i)).take 8 = byteVals ((bs.drop (8 * i)).take 8) by unfold byteVals; rw [List.map_take, List.map_drop]] at h1
  refine HCalls.use (word_ok _ (n - 8 * i) (m - 8 * i) ((bs.drop (8 * i)).take 8) (by simp; omega) (by omega) H h1) ?_
  try simp only [DI_int', DB_bool, DS_string, DP_pointer, DSl_slice, DM_map, DA_agg, DTup_tuple, DCons_cons, DNil_nil, NN_some, BIf_true, BIf_false, BIf_same, List.toList_toArray, Bool.not_true, Bool.not_false]
  exact RetE.mk _ _

theorem rword_loop (K : Value → Hp → Prop) (bs : List UInt8) (o : Nat) (ho : o + 8 ≤ bs.length) (hb : bs.length ≤ 1000000000000) (H : Hp) (k : K (.int .u64 (wordN bs o : Nat)) H) : ∀ j : Nat, j ≤ 8 →
    W_abacistref04_Word.l3 K (j + 1) ⟨bs.toArray⟩ (o : Int) ((leN (((bs.drop o).take 8).drop j) : Nat) : Int) ((j : Int) - 1) H
  | 0, _ => by
    unfold W_abacistref04_Word.l3
    exact BIf_dneg (by omega) k
  | j + 1, hj => by
    unfold W_abacistref04_Word.l3
    have hl : ((bs.drop o).take 8).length = 8 := by simp; omega
    have hlt : j < ((bs.drop o).take 8).length := by omega
    refine BIf_dpos (by omega) ?_
    rw [show (o : Int) + (((j + 1 : Nat) : Int) - 1) = ((o + j : Nat) : Int) by omega, i64n (by omega)]
    refine ⟨by omega, ixB_of (by rw [Int.toNat_natCast]; show o + j < bs.toArray.size; simp; omega) ?_⟩
    have h1 : leN (((bs.drop o).take 8).drop (j + 1)) < 256 ^ 7 := by
      have h1 := leN_lt (((bs.drop o).take 8).drop (j + 1))
      have h2 : 256 ^ (((bs.drop o).take 8).drop (j + 1)).length ≤ 256 ^ 7 := Nat.pow_le_pow_right (by omega) (by simp; omega)
      omega
    rw [show (256 : Nat) ^ 7 = 2 ^ 56 by decide] at h1
    have e := leN_drop hlt
    have hg : ((⟨bs.toArray⟩ : ByteArray)[(((o + j : Nat) : Int)).toNat]'(by rw [Int.toNat_natCast]; show o + j < bs.toArray.size; simp; omega)) = ((bs.drop o).take 8)[j] := by
      simp only [Int.toNat_natCast, List.getElem_take, List.getElem_drop]
      rfl
    rw [hg]
    have h2 : ((bs.drop o).take 8)[j].toNat < 256 := ((bs.drop o).take 8)[j].toNat_lt
    rw [u64n (n := ((bs.drop o).take 8)[j].toNat) (by omega), u64w (x := (256 : Int) * _) (by omega) (by omega), u64w (by omega) (by omega), i64w (by omega) (by omega)]
    rw [show (256 : Int) * ((leN (((bs.drop o).take 8).drop (j + 1)) : Nat) : Int) + (((bs.drop o).take 8)[j].toNat : Int) = ((leN (((bs.drop o).take 8).drop j) : Nat) : Int) by rw [e]; omega]
    rw [show (((j + 1 : Nat) : Int) - 1) - 1 = (j : Int) - 1 by omega]
    exact rword_loop K bs o ho hb H k j (by omega)

theorem rWord_ok (bs : List UInt8) (o : Nat) (ho : o + 8 ≤ bs.length) (hb : bs.length ≤ 1000000000000) (H : Hp) : HCalls Tryd.prog 43 #[.string ⟨bs.toArray⟩, .int .i64 o] H (RetE (.int .u64 (wordN bs o : Nat)) H) := by
  apply W_abacistref04_Word.ok
  refine ⟨9, ?_⟩
  have := rword_loop (RetE (.int .u64 (wordN bs o : Nat)) H) bs o ho hb H (RetE.mk _ _) 8 (Nat.le_refl _)
  rw [List.drop_eq_nil_of_le (by simp; omega)] at this
  exact this

end Go.Proofs.YtbnhfcdagoigkaaDoor.FormP

end
section
/-! RecC -/
/- record: a form's words. -/
set_option maxRecDepth 100000
set_option linter.unusedSimpArgs false
set_option linter.unusedVariables false
set_option linter.unnecessarySimpa false
set_option linter.unusedSectionVars false
namespace Go.Proofs.YtbnhfcdagoigkaaDoor.Rec
open Go Go.Hw Go.Form Go.Crc Go.Proofs.YtbnhfcdagoigkaaDoor.W

def partV (ps : List (Nat × Nat)) : List Value := ps.flatMap fun (p : Nat × Nat) => [Value.int .u64 (p.1 : Int), Value.int .u64 (p.2 : Int)]
def joinN (w : Nat) : List (Nat × Nat) → Nat
  | [] => w
  | p :: ps => joinN (w ||| (p.1 * 2 ^ p.2 % 2 ^ 64)) ps
theorem joinN_lt : ∀ (ps : List (Nat × Nat)) (w : Nat), w < 2 ^ 64 → joinN w ps < 2 ^ 64
  | [], w, h => h
  | p :: ps, w, h => joinN_lt ps _ (or_lt h (Nat.mod_lt _ (Nat.two_pow_pos 64)))
theorem partV_get : ∀ (ps : List (Nat × Nat)) (j : Nat) (p : Nat × Nat), ps[j]? = some p → (partV ps)[j * 2]? = some (.int .u64 (p.1 : Int)) ∧ (partV ps)[j * 2 + 1]? = some (.int .u64 (p.2 : Int))
  | [], j, p, h => by simp at h
  | q :: ps, 0, p, h => by
    simp at h; subst h; exact ⟨rfl, rfl⟩
  | q :: ps, j + 1, p, h => by
    have := partV_get ps j p (by simpa using h)
    rw [show (j + 1) * 2 = j * 2 + 2 by omega]
    exact this

theorem LdA_two {H : Hp} {g off : Nat} {u v : Value} {K : List Value → Prop} (h1 : H.cell? ⟨g, off, none⟩ = some u) (h2 : H.cell? ⟨g, off + 1, none⟩ = some v) (k : K [u, v]) : LdA H ⟨g, off, none⟩ 2 K := by
  have e0 : (⟨g, off, none⟩ : Addr).add 0 = ⟨g, off, none⟩ := by rw [Addr.add_lit']; rfl
  have e1 : (⟨g, off, none⟩ : Addr).add (0 + 1) = ⟨g, off + 1, none⟩ := by rw [Addr.add_lit']
  unfold LdA Hp.cells? Hp.cells? Hp.cells?
  rw [e0, e1, h1, h2]
  exact k

theorem join_loop {H0 : Hp} {b : Nat} {ps : List (Nat × Nat)} (hc : Cells H0 (some ⟨b, 0, none⟩) (partV ps)) (hp : ∀ p ∈ ps, p.1 < 2 ^ 64 ∧ p.2 ≤ 64) (hl : ps.length ≤ 1000) :
    ∀ (t j : Nat) (w : Nat) (H : Hp), j + t = ps.length → w < 2 ^ 64 → Sep [own H0] H → W_record_join.l3 (Ret (.int .u64 ((joinN w (ps.drop j) : Nat) : Int)) H0) (t + 1) (w : Int) (some ⟨b, 0, none⟩) ps.length ps.length (ps.length : Int) (j : Int) H
  | 0, j, w, H, hj, hw, hs => by
    unfold W_record_join.l3
    rw [List.drop_eq_nil_of_le (by omega)]
    exact BIf_dneg (by omega) (hs.fin 0 rfl _)
  | t + 1, j, w, H, hj, hw, hs => by
    have hlt : j < ps.length := by omega
    have hg := partV_get ps j _ (List.getElem?_eq_getElem hlt)
    obtain ⟨hp1, hp2⟩ := hp _ (List.getElem_mem hlt)
    have hcH := hc.le (hs.ow 0 rfl)
    unfold W_record_join.l3
    refine BIf_dpos (by omega) ⟨by omega, by omega, ?_⟩
    rw [List.drop_eq_getElem_cons hlt]
    generalize ps[j] = p at *
    simp only [NN_some]
    rw [Int.toNat_natCast, Addr.add_lit', Nat.zero_add]
    have g1 : H.cell? ⟨b, j * 2, none⟩ = some (.int .u64 (p.1 : Int)) := by
      obtain ⟨a, ha, hc⟩ := hcH _ _ hg.1
      cases ha
      rw [Addr.add_lit', Nat.zero_add] at hc
      exact hc
    have g2 : H.cell? ⟨b, j * 2 + 1, none⟩ = some (.int .u64 (p.2 : Int)) := by
      obtain ⟨a, ha, hc⟩ := hcH _ _ hg.2
      cases ha
      rw [Addr.add_lit', Nat.zero_add] at hc
      exact hc
    refine LdA_two g1 g2 ?_
    refine hs.nw fun b1 H1 hs => ?_
    refine hs.stw 1 rfl rfl rfl rfl fun H1 hs => ?_
    refine hs.ldf 1 rfl rfl ?_
    simp only [DI_int', DB_bool, DS_string, DP_pointer, DSl_slice, DM_map, DA_agg, DTup_tuple, DCons_cons, DNil_nil, NN_some, BIf_true, BIf_false, BIf_same, List.toList_toArray, Bool.not_true, Bool.not_false]
    refine hs.ldf 1 rfl rfl ?_
    simp only [DI_int', DB_bool, DS_string, DP_pointer, DSl_slice, DM_map, DA_agg, DTup_tuple, DCons_cons, DNil_nil, NN_some, BIf_true, BIf_false, BIf_same, List.toList_toArray, Bool.not_true, Bool.not_false]
    refine ⟨by omega, ?_⟩
    have hm : p.1 * 2 ^ p.2 % 2 ^ 64 < 2 ^ 64 := Nat.mod_lt _ (Nat.two_pow_pos 64)
    rw [shlN (x := p.1) (i := (p.2 : Int)) (n := p.2) rfl hp2, orN hw hm, i64w (x := (j : Int) + 1) (by omega) (by omega), show (j : Int) + 1 = ((j + 1 : Nat) : Int) by omega]
    exact join_loop hc hp hl t (j + 1) _ H1 (by omega) (or_lt hw hm) (hs.re [0] rfl)

theorem join_ok {H : Hp} {b : Nat} (ps : List (Nat × Nat)) (n : Nat) (hn : n = ps.length) (hc : Cells H (some ⟨b, 0, none⟩) (partV ps)) (hp : ∀ p ∈ ps, p.1 < 2 ^ 64 ∧ p.2 ≤ 64) (hl : ps.length ≤ 1000) :
    HCalls Tryd.prog 94 #[.slice (some ⟨b, 0, none⟩) n n] H (RetE (.int .u64 ((joinN 0 ps : Nat) : Int)) H) := HCalls.ret (by
  subst hn
  apply W_record_join.ok
  unfold W_record_join
  exact ⟨ps.length + 1, join_loop hc hp hl ps.length 0 0 H (by omega) (by decide) (Sep.start H)⟩)

def R.p1 (r : R) : List (Nat × Nat) := [(21061, 48), (r.s, 0)]
def R.p2 (r : R) : List (Nat × Nat) := [(r.ld, 32), (r.ps.toNat, 24), (r.kk.toNat, 16), (r.dir.toNat, 8), (r.kd.toNat, 0)]
def R.p3 (r : R) : List (Nat × Nat) := [(r.inp, 32), (r.out, 0)]
def R.w3 (r : R) : List UInt64 := [UInt64.ofNat (joinN 0 r.p1), UInt64.ofNat (joinN 0 r.p2), UInt64.ofNat (joinN 0 r.p3)]
structure R.u32 (r : R) : Prop where
  ld : r.ld < 4294967296
  inp : r.inp < 4294967296
  out : r.out < 4294967296

def parO (ps : List (Nat × Nat)) : AO := .row (partV ps) 179 (2 * ps.length)

theorem jn {L : List As} {H : Hp} (hs : Sep L H) (i : Nat) {b : Nat} {ps : List (Nat × Nat)} (hi : L[i]? = some (pts b (parO ps))) (n : Nat) (hn : n = ps.length) (hp : ∀ p ∈ ps, p.1 < 2 ^ 64 ∧ p.2 ≤ 64) (hl : n ≤ 1000) :
    HCalls Tryd.prog 94 #[.slice (some ⟨b, 0, none⟩) n n] H (RetE (.int .u64 ((joinN 0 ps : Nat) : Int)) H) := by
  refine join_ok ps n hn ?_ hp (by omega)
  have := Cells.row (hs.get i hi) 0 (partV ps).length
  rw [List.drop_zero, List.take_of_length_le (Nat.le_refl _)] at this
  exact this

theorem three_tr (r : R) (hg : r.good) (hu : r.u32) : Tr Tryd.prog 53 #[.agg r.c] [] fun v M => ∃ b, v = .slice (some ⟨b, 0, none⟩) 3 3 ∧ M = [pts b (.row (wordVals r.w3) 22 3)] := fun H hs => by
  obtain ⟨g1, g2, g3, g4, g5, g6⟩ := hg
  obtain ⟨u1, u2, u3⟩ := hu
  have c1 : ∀ p ∈ r.p1, p.1 < 2 ^ 64 ∧ p.2 ≤ 64 := fun p hp => by
    simp only [R.p1, List.mem_cons, List.not_mem_nil, or_false] at hp
    rcases hp with rfl | rfl <;> exact ⟨by simp only []; omega, by simp only []; omega⟩
  have c2 : ∀ p ∈ r.p2, p.1 < 2 ^ 64 ∧ p.2 ≤ 64 := fun p hp => by
    simp only [R.p2, List.mem_cons, List.not_mem_nil, or_false] at hp
    rcases hp with rfl | rfl | rfl | rfl | rfl <;> exact ⟨by simp only []; omega, by simp only []; omega⟩
  have c3 : ∀ p ∈ r.p3, p.1 < 2 ^ 64 ∧ p.2 ≤ 64 := fun p hp => by
    simp only [R.p3, List.mem_cons, List.not_mem_nil, or_false] at hp
    rcases hp with rfl | rfl <;> exact ⟨by simp only []; omega, by simp only []; omega⟩
  apply W_record_three.ok
  unfold W_record_three
  refine hs.nw fun b1 H hs => ?_
  have hs : Sep [pts b1 (recO r)] H := hs
  refine hs.ldf 0 rfl rfl ?_
  simp only [DI_int', DB_bool, DS_string, DP_pointer, DSl_slice, DM_map, DA_agg, DTup_tuple, DCons_cons, DNil_nil, NN_some, BIf_true, BIf_false, BIf_same, List.toList_toArray, Bool.not_true, Bool.not_false]
  refine hs.ldf 0 rfl rfl ?_
  simp only [DI_int', DB_bool, DS_string, DP_pointer, DSl_slice, DM_map, DA_agg, DTup_tuple, DCons_cons, DNil_nil, NN_some, BIf_true, BIf_false, BIf_same, List.toList_toArray, Bool.not_true, Bool.not_false]
  refine hs.ldf 0 rfl rfl ?_
  simp only [DI_int', DB_bool, DS_string, DP_pointer, DSl_slice, DM_map, DA_agg, DTup_tuple, DCons_cons, DNil_nil, NN_some, BIf_true, BIf_false, BIf_same, List.toList_toArray, Bool.not_true, Bool.not_false]
  refine hs.ldf 0 rfl rfl ?_
  simp only [DI_int', DB_bool, DS_string, DP_pointer, DSl_slice, DM_map, DA_agg, DTup_tuple, DCons_cons, DNil_nil, NN_some, BIf_true, BIf_false, BIf_same, List.toList_toArray, Bool.not_true, Bool.not_false]
  refine hs.ldf 0 rfl rfl ?_
  simp only [DI_int', DB_bool, DS_string, DP_pointer, DSl_slice, DM_map, DA_agg, DTup_tuple, DCons_cons, DNil_nil, NN_some, BIf_true, BIf_false, BIf_same, List.toList_toArray, Bool.not_true, Bool.not_false]
  refine hs.ldf 0 rfl rfl ?_
  simp only [DI_int', DB_bool, DS_string, DP_pointer, DSl_slice, DM_map, DA_agg, DTup_tuple, DCons_cons, DNil_nil, NN_some, BIf_true, BIf_false, BIf_same, List.toList_toArray, Bool.not_true, Bool.not_false]
  refine hs.ldf 0 rfl rfl ?_
  simp only [DI_int', DB_bool, DS_string, DP_pointer, DSl_slice, DM_map, DA_agg, DTup_tuple, DCons_cons, DNil_nil, NN_some, BIf_true, BIf_false, BIf_same, List.toList_toArray, Bool.not_true, Bool.not_false]
  refine hs.ldf 0 rfl rfl ?_
  simp only [DI_int', DB_bool, DS_string, DP_pointer, DSl_slice, DM_map, DA_agg, DTup_tuple, DCons_cons, DNil_nil, NN_some, BIf_true, BIf_false, BIf_same, List.toList_toArray, Bool.not_true, Bool.not_false]
  have e1 : IntKind.u64.wrap (r.ld : Int) = (r.ld : Int) := u64n (by omega)
  have e2 : IntKind.u64.wrap r.ps = (r.ps.toNat : Int) := by rw [u64w (by omega) (by omega)]; omega
  have e3 : IntKind.u64.wrap r.kk = (r.kk.toNat : Int) := by rw [u64w (by omega) (by omega)]; omega
  have e4 : IntKind.u64.wrap r.dir = (r.dir.toNat : Int) := by rw [u64w (by omega) (by omega)]; omega
  have e5 : IntKind.u64.wrap r.kd = (r.kd.toNat : Int) := by rw [u64w (by omega) (by omega)]; omega
  have e6 : IntKind.u64.wrap (r.inp : Int) = (r.inp : Int) := u64n (by omega)
  have e7 : IntKind.u64.wrap (r.out : Int) = (r.out : Int) := u64n (by omega)
  rw [e1, e2, e3, e4, e5, e6, e7]
  have done : ∀ {L : List As} {H : Hp}, Sep L H → Nw H (.row [.int .u64 ((joinN 0 r.p1 : Nat) : Int), .int .u64 ((joinN 0 r.p2 : Nat) : Int), .int .u64 ((joinN 0 r.p3 : Nat) : Int)] 22 3) fun b5 H5 => ∃ M, (∃ b, (.slice (some ⟨b5, 0, none⟩) 3 3 : Value) = .slice (some ⟨b, 0, none⟩) 3 3 ∧ M = [pts b (.row (wordVals r.w3) 22 3)]) ∧ Sep M H5 := fun {L H} hs => by
    refine hs.nw fun b5 H5 hs => ⟨_, ⟨b5, rfl, rfl⟩, ?_⟩
    have hw : wordVals r.w3 = [.int .u64 ((joinN 0 r.p1 : Nat) : Int), .int .u64 ((joinN 0 r.p2 : Nat) : Int), .int .u64 ((joinN 0 r.p3 : Nat) : Int)] := by
      show [Value.int .u64 ((UInt64.ofNat (joinN 0 r.p1)).toNat : Int), Value.int .u64 ((UInt64.ofNat (joinN 0 r.p2)).toNat : Int), Value.int .u64 ((UInt64.ofNat (joinN 0 r.p3)).toNat : Int)] = _
      rw [UInt64.toNat_ofNat_of_lt' (joinN_lt r.p1 0 (by decide)), UInt64.toNat_ofNat_of_lt' (joinN_lt r.p2 0 (by decide)), UInt64.toNat_ofNat_of_lt' (joinN_lt r.p3 0 (by decide))]
    rw [hw]
    have hg := hs.get L.length (b := b5) (o := .row [.int .u64 ((joinN 0 r.p1 : Nat) : Int), .int .u64 ((joinN 0 r.p2 : Nat) : Int), .int .u64 ((joinN 0 r.p3 : Nat) : Int)] 22 3) (by simp)
    exact ⟨H5, fun _ => none, Hp.le_refl _, fun b o h => (by cases h), fun b => .inr rfl, hg, trivial⟩
  have n1 : ∀ {L : List As} {H : Hp} {K : Nat → Hp → Prop}, Sep L H → (∀ b H', Sep (L ++ [pts b (parO r.p1)]) H' → K b H') → Nw H (.row [.int .u64 21061, .int .u64 48, .int .u64 (r.s : Int), .int .u64 0] 179 4) K := fun hs k => hs.nw k
  have n2 : ∀ {L : List As} {H : Hp} {K : Nat → Hp → Prop}, Sep L H → (∀ b H', Sep (L ++ [pts b (parO r.p2)]) H' → K b H') → Nw H (.row [.int .u64 (r.ld : Int), .int .u64 32, .int .u64 (r.ps.toNat : Int), .int .u64 24, .int .u64 (r.kk.toNat : Int), .int .u64 16, .int .u64 (r.dir.toNat : Int), .int .u64 8, .int .u64 (r.kd.toNat : Int), .int .u64 0] 179 10) K := fun hs k => hs.nw k
  have n3 : ∀ {L : List As} {H : Hp} {K : Nat → Hp → Prop}, Sep L H → (∀ b H', Sep (L ++ [pts b (parO r.p3)]) H' → K b H') → Nw H (.row [.int .u64 (r.inp : Int), .int .u64 32, .int .u64 (r.out : Int), .int .u64 0] 179 4) K := fun hs k => hs.nw k
  refine ⟨n1 hs fun b2 H hs => ?_, n2 hs fun b2 H hs => ?_, n3 hs fun b2 H hs => ?_⟩
  · refine QCall.use (jn hs 1 rfl 2 rfl c1 (by decide)) ?_
    simp only [DI_int', DB_bool, DS_string, DP_pointer, DSl_slice, DM_map, DA_agg, DTup_tuple, DCons_cons, DNil_nil, NN_some, BIf_true, BIf_false, BIf_same, List.toList_toArray, Bool.not_true, Bool.not_false]
    refine ⟨n2 hs fun b3 H hs => ?_, n3 hs fun b3 H hs => n2 hs fun b4 H hs => ?_⟩
    · refine QCall.use (jn hs 2 rfl 5 rfl c2 (by decide)) ?_
      simp only [DI_int', DB_bool, DS_string, DP_pointer, DSl_slice, DM_map, DA_agg, DTup_tuple, DCons_cons, DNil_nil, NN_some, BIf_true, BIf_false, BIf_same, List.toList_toArray, Bool.not_true, Bool.not_false]
      refine n3 hs fun b4 H hs => ?_
      refine QCall.use (jn hs 3 rfl 2 rfl c3 (by decide)) ?_
      simp only [DI_int', DB_bool, DS_string, DP_pointer, DSl_slice, DM_map, DA_agg, DTup_tuple, DCons_cons, DNil_nil, NN_some, BIf_true, BIf_false, BIf_same, List.toList_toArray, Bool.not_true, Bool.not_false]
      exact done hs
    · refine QCall.use (jn hs 3 rfl 5 rfl c2 (by decide)) ?_
      simp only [DI_int', DB_bool, DS_string, DP_pointer, DSl_slice, DM_map, DA_agg, DTup_tuple, DCons_cons, DNil_nil, NN_some, BIf_true, BIf_false, BIf_same, List.toList_toArray, Bool.not_true, Bool.not_false]
      refine QCall.use (jn hs 2 rfl 2 rfl c3 (by decide)) ?_
      simp only [DI_int', DB_bool, DS_string, DP_pointer, DSl_slice, DM_map, DA_agg, DTup_tuple, DCons_cons, DNil_nil, NN_some, BIf_true, BIf_false, BIf_same, List.toList_toArray, Bool.not_true, Bool.not_false]
      exact done hs
  · refine ⟨n1 hs fun b3 H hs => ?_, n3 hs fun b3 H hs => n1 hs fun b4 H hs => ?_⟩
    · refine QCall.use (jn hs 2 rfl 2 rfl c1 (by decide)) ?_
      simp only [DI_int', DB_bool, DS_string, DP_pointer, DSl_slice, DM_map, DA_agg, DTup_tuple, DCons_cons, DNil_nil, NN_some, BIf_true, BIf_false, BIf_same, List.toList_toArray, Bool.not_true, Bool.not_false]
      refine QCall.use (jn hs 1 rfl 5 rfl c2 (by decide)) ?_
      simp only [DI_int', DB_bool, DS_string, DP_pointer, DSl_slice, DM_map, DA_agg, DTup_tuple, DCons_cons, DNil_nil, NN_some, BIf_true, BIf_false, BIf_same, List.toList_toArray, Bool.not_true, Bool.not_false]
      refine n3 hs fun b4 H hs => ?_
      refine QCall.use (jn hs 3 rfl 2 rfl c3 (by decide)) ?_
      simp only [DI_int', DB_bool, DS_string, DP_pointer, DSl_slice, DM_map, DA_agg, DTup_tuple, DCons_cons, DNil_nil, NN_some, BIf_true, BIf_false, BIf_same, List.toList_toArray, Bool.not_true, Bool.not_false]
      exact done hs
    · refine QCall.use (jn hs 3 rfl 2 rfl c1 (by decide)) ?_
      simp only [DI_int', DB_bool, DS_string, DP_pointer, DSl_slice, DM_map, DA_agg, DTup_tuple, DCons_cons, DNil_nil, NN_some, BIf_true, BIf_false, BIf_same, List.toList_toArray, Bool.not_true, Bool.not_false]
      refine QCall.use (jn hs 1 rfl 5 rfl c2 (by decide)) ?_
      simp only [DI_int', DB_bool, DS_string, DP_pointer, DSl_slice, DM_map, DA_agg, DTup_tuple, DCons_cons, DNil_nil, NN_some, BIf_true, BIf_false, BIf_same, List.toList_toArray, Bool.not_true, Bool.not_false]
      refine QCall.use (jn hs 2 rfl 2 rfl c3 (by decide)) ?_
      simp only [DI_int', DB_bool, DS_string, DP_pointer, DSl_slice, DM_map, DA_agg, DTup_tuple, DCons_cons, DNil_nil, NN_some, BIf_true, BIf_false, BIf_same, List.toList_toArray, Bool.not_true, Bool.not_false]
      exact done hs
  · refine ⟨n1 hs fun b3 H hs => ?_, n2 hs fun b3 H hs => n1 hs fun b4 H hs => ?_⟩
    · refine QCall.use (jn hs 2 rfl 2 rfl c1 (by decide)) ?_
      simp only [DI_int', DB_bool, DS_string, DP_pointer, DSl_slice, DM_map, DA_agg, DTup_tuple, DCons_cons, DNil_nil, NN_some, BIf_true, BIf_false, BIf_same, List.toList_toArray, Bool.not_true, Bool.not_false]
      refine n2 hs fun b4 H hs => ?_
      refine QCall.use (jn hs 3 rfl 5 rfl c2 (by decide)) ?_
      simp only [DI_int', DB_bool, DS_string, DP_pointer, DSl_slice, DM_map, DA_agg, DTup_tuple, DCons_cons, DNil_nil, NN_some, BIf_true, BIf_false, BIf_same, List.toList_toArray, Bool.not_true, Bool.not_false]
      refine QCall.use (jn hs 1 rfl 2 rfl c3 (by decide)) ?_
      simp only [DI_int', DB_bool, DS_string, DP_pointer, DSl_slice, DM_map, DA_agg, DTup_tuple, DCons_cons, DNil_nil, NN_some, BIf_true, BIf_false, BIf_same, List.toList_toArray, Bool.not_true, Bool.not_false]
      exact done hs
    · refine QCall.use (jn hs 3 rfl 2 rfl c1 (by decide)) ?_
      simp only [DI_int', DB_bool, DS_string, DP_pointer, DSl_slice, DM_map, DA_agg, DTup_tuple, DCons_cons, DNil_nil, NN_some, BIf_true, BIf_false, BIf_same, List.toList_toArray, Bool.not_true, Bool.not_false]
      refine QCall.use (jn hs 2 rfl 5 rfl c2 (by decide)) ?_
      simp only [DI_int', DB_bool, DS_string, DP_pointer, DSl_slice, DM_map, DA_agg, DTup_tuple, DCons_cons, DNil_nil, NN_some, BIf_true, BIf_false, BIf_same, List.toList_toArray, Bool.not_true, Bool.not_false]
      refine QCall.use (jn hs 1 rfl 2 rfl c3 (by decide)) ?_
      simp only [DI_int', DB_bool, DS_string, DP_pointer, DSl_slice, DM_map, DA_agg, DTup_tuple, DCons_cons, DNil_nil, NN_some, BIf_true, BIf_false, BIf_same, List.toList_toArray, Bool.not_true, Bool.not_false]
      exact done hs

end Go.Proofs.YtbnhfcdagoigkaaDoor.Rec

end
section
/-! Wgold -/
/- Formulas of functions, printed by wip/tools/hwp.py. -/
set_option maxRecDepth 100000
set_option linter.unusedVariables false
namespace Go.Proofs.YtbnhfcdagoigkaaDoor.W
open Go Go.Hw

theorem mixWgold : Tryd.prog.follows .mixedOrders = true := by kernel_rfl
-- gold.Good
def W_gold_Good (x1 : Int) (H : Hp) (K : Value → Hp → Prop) : Prop :=
  K (.bool (decide (x1 < (18446744069414584321 : Int)))) H
def W_gold_Good.Λ (_ : Value → Hp → Prop) : Cuts := Cuts.none (fun _ => none)
theorem W_gold_Good.ok (x1 : Int) (H : Hp) (K : Value → Hp → Prop) (h : W_gold_Good x1 H K) : HCalls Tryd.prog 85 #[.int .u64 x1] H K :=
  hcalls Tryd.func85 rfl (Nat.le_of_ble_eq_true rfl) (hw_safe (Λ := Cuts.none (fun _ => none)) mixWgold _ _ _ _ _ (Eq.mp (by kernel_rfl) h) (obs_none _ _ _ _ _))

-- gold.Inv
def W_gold_Inv (x1 : Int) (H : Hp) (K : Value → Hp → Prop) : Prop :=
  HCalls Tryd.prog 180 #[.int .u64 x1] H fun v1 H1 => DI .u64 v1 fun x2 => BIf (x2 == (0 : Int)) (K (.tuple #[.int .u64 (0 : Int), .int .i64 (13 : Int)]) H1) (HCalls Tryd.prog 181 #[.int .u64 x1, .int .u64 (18446744069414584319 : Int)] H1 fun v2 H2 => DI .u64 v2 fun x3 => K (.tuple #[.int .u64 x3, .int .i64 (0 : Int)]) H2)
def W_gold_Inv.Λ (_ : Value → Hp → Prop) : Cuts := Cuts.none (fun _ => none)
theorem W_gold_Inv.ok (x1 : Int) (H : Hp) (K : Value → Hp → Prop) (h : W_gold_Inv x1 H K) : HCalls Tryd.prog 143 #[.int .u64 x1] H K :=
  hcalls Tryd.func143 rfl (Nat.le_of_ble_eq_true rfl) (hw_safe (Λ := Cuts.none (fun _ => none)) mixWgold _ _ _ _ _ (Eq.mp (by kernel_rfl) h) (obs_none _ _ _ _ _))

-- gold.Mul
def W_gold_Mul (x1 : Int) (x2 : Int) (H : Hp) (K : Value → Hp → Prop) : Prop :=
  HCalls Tryd.prog 212 #[.int .u64 x1, .int .u64 x2] H fun v1 H1 => DA v1 fun y1 => HCalls Tryd.prog 211 #[.agg y1] H1 fun v2 H2 => DI .u64 v2 fun x3 => K (.int .u64 x3) H2
def W_gold_Mul.Λ (_ : Value → Hp → Prop) : Cuts := Cuts.none (fun _ => none)
theorem W_gold_Mul.ok (x1 : Int) (x2 : Int) (H : Hp) (K : Value → Hp → Prop) (h : W_gold_Mul x1 x2 H K) : HCalls Tryd.prog 179 #[.int .u64 x1, .int .u64 x2] H K :=
  hcalls Tryd.func179 rfl (Nat.le_of_ble_eq_true rfl) (hw_safe (Λ := Cuts.none (fun _ => none)) mixWgold _ _ _ _ _ (Eq.mp (by kernel_rfl) h) (obs_none _ _ _ _ _))

-- gold.Of
def W_gold_Of (x1 : Int) (H : Hp) (K : Value → Hp → Prop) : Prop :=
  BIf (decide (x1 ≥ (18446744069414584321 : Int))) (K (.int .u64 (IntKind.u64.wrap (x1 - (18446744069414584321 : Int)))) H) (K (.int .u64 x1) H)
def W_gold_Of.Λ (_ : Value → Hp → Prop) : Cuts := Cuts.none (fun _ => none)
theorem W_gold_Of.ok (x1 : Int) (H : Hp) (K : Value → Hp → Prop) (h : W_gold_Of x1 H K) : HCalls Tryd.prog 180 #[.int .u64 x1] H K :=
  hcalls Tryd.func180 rfl (Nat.le_of_ble_eq_true rfl) (hw_safe (Λ := Cuts.none (fun _ => none)) mixWgold _ _ _ _ _ (Eq.mp (by kernel_rfl) h) (obs_none _ _ _ _ _))

-- gold.Pow
def W_gold_Pow.l2 (K : Value → Hp → Prop) : Nat → Int → Int → Int → Hp → Prop
  | 0, _, _, _, _ => False
  | k + 1, x4, x5, x6, H =>
    let R2 := W_gold_Pow.l2 K k
    BIf (decide (x4 > (0 : Int))) (BIf ((bAnd .u64 x4 (1 : Int)) == (1 : Int)) (HCalls Tryd.prog 179 #[.int .u64 x5, .int .u64 x6] H fun v2 H2 => DI .u64 v2 fun x7 => HCalls Tryd.prog 179 #[.int .u64 x6, .int .u64 x6] H2 fun v3 H3 => DI .u64 v3 fun x8 => (0 ≤ (1 : Int) ∧ R2 (shrI .u64 x4 (1 : Int)) x7 x8 H3)) (HCalls Tryd.prog 179 #[.int .u64 x6, .int .u64 x6] H fun v4 H4 => DI .u64 v4 fun x9 => (0 ≤ (1 : Int) ∧ R2 (shrI .u64 x4 (1 : Int)) x5 x9 H4))) (K (.int .u64 x5) H)
def W_gold_Pow (x1 : Int) (x2 : Int) (H : Hp) (K : Value → Hp → Prop) : Prop :=
  HCalls Tryd.prog 180 #[.int .u64 x1] H fun v1 H1 => DI .u64 v1 fun x3 => (∃ k, W_gold_Pow.l2 K k x2 (1 : Int) x3 H1)
def W_gold_Pow.l2.L (K : Value → Hp → Prop) (k : Nat) : Mid := fun E D H =>
  DG (E.get? 1) fun w1 => DI .u64 w1 fun x4 => DG (E.get? 5) fun w5 => DI .u64 w5 fun x5 => DG (E.get? 6) fun w6 => DI .u64 w6 fun x6 => DNilD D (W_gold_Pow.l2 K k x4 x5 x6 H)
def W_gold_Pow.Λ2 (_ : Value → Hp → Prop) (_R2 : Int → Int → Int → Hp → Prop) : Cuts := Cuts.none (fun _ => none)
def W_gold_Pow.Λ (K : Value → Hp → Prop) : Cuts := ⟨fun i => none, fun i => match Nat.beq i 2 with | true => some (fun E D H => ∃ k, W_gold_Pow.l2.L K k E D H) | false => none, (fun _ => none)⟩
theorem W_gold_Pow.ok (x1 : Int) (x2 : Int) (H : Hp) (K : Value → Hp → Prop) (h : W_gold_Pow x1 x2 H K) : HCalls Tryd.prog 181 #[.int .u64 x1, .int .u64 x2] H K :=
  hcalls Tryd.func181 rfl (Nat.le_of_ble_eq_true rfl) (hw_safe (Λ := (W_gold_Pow.Λ K)) mixWgold _ _ _ _ _ (Eq.mp (by kernel_rfl) h) (obs_seq obs_region rfl (obs_seq obs_region rfl (obs_seq (obs_block (obs_loop rfl (fun E D H h => by
      refine Safe.loop' (W_gold_Pow.l2.L K) (fun E D H h => ?_) (fun k E D H h => ?_) E D H h
      · obtain ⟨w1, e1, g1⟩ := DG.out h; obtain ⟨x4, rfl, g2⟩ := DI.out g1; obtain ⟨w5, e5, g3⟩ := DG.out g2; obtain ⟨x5, rfl, g4⟩ := DI.out g3; obtain ⟨w6, e6, g5⟩ := DG.out g4; obtain ⟨x6, rfl, g6⟩ := DI.out g5; obtain ⟨rfl, h'⟩ := DNilD.out g6; exact h'
      · obtain ⟨w1, e1, g1⟩ := DG.out h
        obtain ⟨x4, rfl, g2⟩ := DI.out g1
        obtain ⟨w5, e5, g3⟩ := DG.out g2
        obtain ⟨x5, rfl, g4⟩ := DI.out g3
        obtain ⟨w6, e6, g5⟩ := DG.out g4
        obtain ⟨x6, rfl, g6⟩ := DI.out g5
        obtain ⟨rfl, h'⟩ := DNilD.out g6
        exact (hw_safe (Λ := (W_gold_Pow.Λ2 K (W_gold_Pow.l2 K k))) mixWgold _ _ [(1, .int .u64 x4), (5, .int .u64 x5), (6, .int .u64 x6)] [] H (Eq.mp (by kernel_rfl) h') (obs_seq (obs_seq obs_region rfl (obs_cond obs_skip obs_exit)) rfl (obs_seq (obs_block (obs_seq (obs_seq obs_region rfl (obs_cond obs_region obs_skip)) rfl obs_region)) rfl obs_region))).weaken (EnvLe.cons e1 (EnvLe.cons e5 (EnvLe.cons e6 (EnvLe.nil _)))) (Hp.le_refl _)))) rfl (obs_seq obs_region rfl obs_ret)))))

-- gold.Add
def W_gold_Add (x1 : Int) (x2 : Int) (H : Hp) (K : Value → Hp → Prop) : Prop :=
  HCalls Tryd.prog 180 #[.int .u64 x1] H fun v1 H1 => DI .u64 v1 fun x3 => HCalls Tryd.prog 180 #[.int .u64 x2] H1 fun v2 H2 => DI .u64 v2 fun x4 => HCalls Tryd.prog 158 #[.agg #[.int .u64 (0 : Int), .int .u64 x3], .agg #[.int .u64 (0 : Int), .int .u64 x4]] H2 fun v3 H3 => DTup v3 fun l1 => DCons l1 fun v4 l2 => DA v4 fun y1 => DCons l2 fun v5 l3 => DI .u64 v5 fun x5 => DNil l3 (Nw H3 (.obj (.cells #[.int .u64 (0 : Int), .int .u64 (0 : Int)] 223)) fun b1 H4 => StA H4 (⟨b1, 0, none⟩ : Addr) y1 2 fun H5 => LdA H5 (⟨b1, 0, none⟩ : Addr) 2 fun l4 => HCalls Tryd.prog 211 #[.agg l4.toArray] H5 fun v6 H6 => DI .u64 v6 fun x6 => K (.int .u64 x6) H6)
def W_gold_Add.Λ (_ : Value → Hp → Prop) : Cuts := Cuts.none (fun _ => none)
theorem W_gold_Add.ok (x1 : Int) (x2 : Int) (H : Hp) (K : Value → Hp → Prop) (h : W_gold_Add x1 x2 H K) : HCalls Tryd.prog 198 #[.int .u64 x1, .int .u64 x2] H K :=
  hcalls Tryd.func198 rfl (Nat.le_of_ble_eq_true rfl) (hw_safe (Λ := Cuts.none (fun _ => none)) mixWgold _ _ _ _ _ (Eq.mp (by kernel_rfl) h) (obs_none _ _ _ _ _))

-- gold.Reduce
def W_gold_Reduce.j5 (K : Value → Hp → Prop) (x7 : Int) (x8 : Int) (H : Hp) : Prop :=
  BIf (decide ((IntKind.u64.wrap (x8 + (IntKind.u64.wrap (x7 * (4294967295 : Int))))) < (IntKind.u64.wrap (x7 * (4294967295 : Int))))) (HCalls Tryd.prog 180 #[.int .u64 (IntKind.u64.wrap ((IntKind.u64.wrap (x8 + (IntKind.u64.wrap (x7 * (4294967295 : Int))))) + (4294967295 : Int)))] H fun v5 H2 => DI .u64 v5 fun x9 => K (.int .u64 x9) H2) (HCalls Tryd.prog 180 #[.int .u64 (IntKind.u64.wrap (x8 + (IntKind.u64.wrap (x7 * (4294967295 : Int)))))] H fun v6 H3 => DI .u64 v6 fun x10 => K (.int .u64 x10) H3)
def W_gold_Reduce (x1 : Int) (x2 : Int) (H : Hp) (K : Value → Hp → Prop) : Prop :=
  Nw H (.obj (.cells #[.int .u64 x1, .int .u64 x2] 223)) fun b1 H1 => Ld H1 ((⟨b1, 0, none⟩ : Addr).add 0) fun v1 => DI .u64 v1 fun x3 => (0 ≤ (32 : Int) ∧ Ld H1 ((⟨b1, 0, none⟩ : Addr).add 0) fun v2 => DI .u64 v2 fun x4 => Ld H1 ((⟨b1, 0, none⟩ : Addr).add 1) fun v3 => DI .u64 v3 fun x5 => Ld H1 ((⟨b1, 0, none⟩ : Addr).add 1) fun v4 => DI .u64 v4 fun x6 => BIf (decide (x6 < (shrI .u64 x3 (32 : Int)))) (W_gold_Reduce.j5 K (bAnd .u64 x4 (4294967295 : Int)) (IntKind.u64.wrap ((IntKind.u64.wrap (x5 - (shrI .u64 x3 (32 : Int)))) - (4294967295 : Int))) H1) (W_gold_Reduce.j5 K (bAnd .u64 x4 (4294967295 : Int)) (IntKind.u64.wrap (x5 - (shrI .u64 x3 (32 : Int)))) H1))
def W_gold_Reduce.Λ (K : Value → Hp → Prop) : Cuts := ⟨fun i => match Nat.beq i 5 with | true => some (fun E D H => DG (E.get? 4) fun w4 => DI .u64 w4 fun x7 => DG (E.get? 5) fun w5 => DI .u64 w5 fun x8 => DNilD D (W_gold_Reduce.j5 K x7 x8 H)) | false => none, fun i => none, (fun _ => none)⟩
theorem W_gold_Reduce.ok (x1 : Int) (x2 : Int) (H : Hp) (K : Value → Hp → Prop) (h : W_gold_Reduce x1 x2 H K) : HCalls Tryd.prog 211 #[.agg #[.int .u64 x1, .int .u64 x2]] H K :=
  hcalls Tryd.func211 rfl (Nat.le_of_ble_eq_true rfl) (hw_safe (Λ := (W_gold_Reduce.Λ K)) mixWgold _ _ _ _ _ (Eq.mp (by kernel_rfl) h) (obs_seq obs_region rfl (obs_seq obs_region rfl (obs_seq obs_region rfl (obs_seqc (obs_seq obs_region rfl (obs_cond obs_region obs_skip)) rfl (fun E D H h => by
      obtain ⟨w4, e4, g1⟩ := DG.out h
      obtain ⟨x7, rfl, g2⟩ := DI.out g1
      obtain ⟨w5, e5, g3⟩ := DG.out g2
      obtain ⟨x8, rfl, g4⟩ := DI.out g3
      obtain ⟨rfl, h'⟩ := DNilD.out g4
      exact (hw_safe (Λ := (W_gold_Reduce.Λ K)) mixWgold _ _ [(4, .int .u64 x7), (5, .int .u64 x8)] [] H (Eq.mp (by kernel_rfl) h') (obs_seq obs_region rfl (obs_seq obs_region rfl (obs_seq (obs_seq obs_region rfl (obs_cond obs_region obs_skip)) rfl (obs_seq obs_region rfl obs_ret))))).weaken (EnvLe.cons e4 (EnvLe.cons e5 (EnvLe.nil _))) (Hp.le_refl _)))))))

-- gold.Sub
def W_gold_Sub (x1 : Int) (x2 : Int) (H : Hp) (K : Value → Hp → Prop) : Prop :=
  HCalls Tryd.prog 229 #[.int .u64 x2] H fun v1 H1 => DI .u64 v1 fun x3 => HCalls Tryd.prog 198 #[.int .u64 x1, .int .u64 x3] H1 fun v2 H2 => DI .u64 v2 fun x4 => K (.int .u64 x4) H2
def W_gold_Sub.Λ (_ : Value → Hp → Prop) : Cuts := Cuts.none (fun _ => none)
theorem W_gold_Sub.ok (x1 : Int) (x2 : Int) (H : Hp) (K : Value → Hp → Prop) (h : W_gold_Sub x1 x2 H K) : HCalls Tryd.prog 226 #[.int .u64 x1, .int .u64 x2] H K :=
  hcalls Tryd.func226 rfl (Nat.le_of_ble_eq_true rfl) (hw_safe (Λ := Cuts.none (fun _ => none)) mixWgold _ _ _ _ _ (Eq.mp (by kernel_rfl) h) (obs_none _ _ _ _ _))

-- gold.Neg
def W_gold_Neg (x1 : Int) (H : Hp) (K : Value → Hp → Prop) : Prop :=
  HCalls Tryd.prog 180 #[.int .u64 x1] H fun v1 H1 => DI .u64 v1 fun x2 => BIf (x2 == (0 : Int)) (K (.int .u64 (0 : Int)) H1) (K (.int .u64 (IntKind.u64.wrap ((18446744069414584321 : Int) - x2))) H1)
def W_gold_Neg.Λ (_ : Value → Hp → Prop) : Cuts := Cuts.none (fun _ => none)
theorem W_gold_Neg.ok (x1 : Int) (H : Hp) (K : Value → Hp → Prop) (h : W_gold_Neg x1 H K) : HCalls Tryd.prog 229 #[.int .u64 x1] H K :=
  hcalls Tryd.func229 rfl (Nat.le_of_ble_eq_true rfl) (hw_safe (Λ := Cuts.none (fun _ => none)) mixWgold _ _ _ _ _ (Eq.mp (by kernel_rfl) h) (obs_none _ _ _ _ _))

end Go.Proofs.YtbnhfcdagoigkaaDoor.W

end
section
/-! Wwide -/
/- Formulas of functions, printed by wip/tools/hwp.py. -/
set_option maxRecDepth 100000
set_option linter.unusedVariables false
namespace Go.Proofs.YtbnhfcdagoigkaaDoor.W
open Go Go.Hw

theorem mixWwide : Tryd.prog.follows .mixedOrders = true := by kernel_rfl
-- wide.Sum
def W_wide_Sum.l2 (K : Value → Hp → Prop) : Nat → Addr → Option Addr → Nat → Nat → Int → Int → Hp → Prop
  | 0, _, _, _, _, _, _, _ => False
  | k + 1, a1, A2, n2, m2, x1, x2, H =>
    let R2 := W_wide_Sum.l2 K k
    BIf (decide (x2 < x1)) (ixI x2 n2 (NN A2 fun a2 => LdA H (a2.add (x2.toNat * 2)) 2 fun l1 => Nw H (.obj (.cells #[.int .u64 (0 : Int), .int .u64 (0 : Int)] 223)) fun b2 H2 => StA H2 (⟨b2, 0, none⟩ : Addr) l1.toArray 2 fun H3 => LdA H3 a1 2 fun l2 => LdA H3 (⟨b2, 0, none⟩ : Addr) 2 fun l3 => HCalls Tryd.prog 158 #[.agg l2.toArray, .agg l3.toArray] H3 fun v1 H4 => DTup v1 fun l4 => DCons l4 fun v2 l5 => DA v2 fun y1 => DCons l5 fun v3 l6 => DI .u64 v3 fun x3 => DNil l6 (StA H4 a1 y1 2 fun H5 => R2 a1 A2 n2 m2 x1 (IntKind.i64.wrap (x2 + (1 : Int))) H5))) (LdA H a1 2 fun l7 => StA H a1 l7.toArray 2 fun H6 => LdA H6 a1 2 fun l8 => K (.agg l8.toArray) H6)
def W_wide_Sum (A1 : Option Addr) (n1 : Nat) (m1 : Nat) (H : Hp) (K : Value → Hp → Prop) : Prop :=
  Nw H (.obj (.cells #[.int .u64 (0 : Int), .int .u64 (0 : Int)] 223)) fun b1 H1 => (∃ k, W_wide_Sum.l2 K k (⟨b1, 0, none⟩ : Addr) A1 n1 m1 ((n1 : Nat) : Int) (0 : Int) H1)
def W_wide_Sum.l2.L (K : Value → Hp → Prop) (k : Nat) : Mid := fun E D H =>
  DG (E.get? 2) fun w2 => DP w2 fun pw2 => NN pw2 fun a1 => DG (E.get? 5) fun w5 => DSl w5 fun A2 n2 m2 => DG (E.get? 6) fun w6 => DI .i64 w6 fun x1 => DG (E.get? 7) fun w7 => DI .i64 w7 fun x2 => DNilD D (W_wide_Sum.l2 K k a1 A2 n2 m2 x1 x2 H)
def W_wide_Sum.Λ2 (_ : Value → Hp → Prop) (_R2 : Addr → Option Addr → Nat → Nat → Int → Int → Hp → Prop) : Cuts := Cuts.none (fun _ => none)
def W_wide_Sum.Λ (K : Value → Hp → Prop) : Cuts := ⟨fun i => none, fun i => match Nat.beq i 2 with | true => some (fun E D H => ∃ k, W_wide_Sum.l2.L K k E D H) | false => none, (fun _ => none)⟩
theorem W_wide_Sum.ok (A1 : Option Addr) (n1 : Nat) (m1 : Nat) (H : Hp) (K : Value → Hp → Prop) (h : W_wide_Sum A1 n1 m1 H K) : HCalls Tryd.prog 120 #[.slice A1 n1 m1] H K :=
  hcalls Tryd.func120 rfl (Nat.le_of_ble_eq_true rfl) (hw_safe (Λ := (W_wide_Sum.Λ K)) mixWwide _ _ _ _ _ (Eq.mp (by kernel_rfl) h) (obs_seq obs_region rfl (obs_seq (obs_seq obs_region rfl (obs_block (obs_loop rfl (fun E D H h => by
      refine Safe.loop' (W_wide_Sum.l2.L K) (fun E D H h => ?_) (fun k E D H h => ?_) E D H h
      · obtain ⟨w2, e2, g1⟩ := DG.out h; obtain ⟨pw2, rfl, g2⟩ := DP.out g1; obtain ⟨a1, rfl, g3⟩ := NN.out g2; obtain ⟨w5, e5, g4⟩ := DG.out g3; obtain ⟨A2, n2, m2, rfl, g5⟩ := DSl.out g4; obtain ⟨w6, e6, g6⟩ := DG.out g5; obtain ⟨x1, rfl, g7⟩ := DI.out g6; obtain ⟨w7, e7, g8⟩ := DG.out g7; obtain ⟨x2, rfl, g9⟩ := DI.out g8; obtain ⟨rfl, h'⟩ := DNilD.out g9; exact h'
      · obtain ⟨w2, e2, g1⟩ := DG.out h
        obtain ⟨pw2, rfl, g2⟩ := DP.out g1
        obtain ⟨a1, rfl, g3⟩ := NN.out g2
        obtain ⟨w5, e5, g4⟩ := DG.out g3
        obtain ⟨A2, n2, m2, rfl, g5⟩ := DSl.out g4
        obtain ⟨w6, e6, g6⟩ := DG.out g5
        obtain ⟨x1, rfl, g7⟩ := DI.out g6
        obtain ⟨w7, e7, g8⟩ := DG.out g7
        obtain ⟨x2, rfl, g9⟩ := DI.out g8
        obtain ⟨rfl, h'⟩ := DNilD.out g9
        exact (hw_safe (Λ := (W_wide_Sum.Λ2 K (W_wide_Sum.l2 K k))) mixWwide _ _ [(2, .pointer (some a1)), (5, .slice A2 n2 m2), (6, .int .i64 x1), (7, .int .i64 x2)] [] H (Eq.mp (by kernel_rfl) h') (obs_seq obs_region rfl (obs_seq (obs_cond obs_skip obs_exit) rfl (obs_seq (obs_block (obs_seq obs_region rfl obs_region)) rfl obs_region)))).weaken (EnvLe.cons e2 (EnvLe.cons e5 (EnvLe.cons e6 (EnvLe.cons e7 (EnvLe.nil _))))) (Hp.le_refl _))))) rfl (obs_seq obs_region rfl obs_ret))))

-- wide.Shl
def W_wide_Shl (x1 : Int) (x2 : Int) (x3 : Int) (H : Hp) (K : Value → Hp → Prop) : Prop :=
  Nw H (.obj (.cells #[.int .u64 x1, .int .u64 x2] 223)) fun b1 H1 => Nw H1 (.obj (.cells #[.int .u64 (0 : Int), .int .u64 (0 : Int)] 223)) fun b2 H2 => BIf (decide (x3 ≤ (0 : Int))) (LdA H2 (⟨b1, 0, none⟩ : Addr) 2 fun l1 => StA H2 (⟨b2, 0, none⟩ : Addr) l1.toArray 2 fun H3 => LdA H3 (⟨b2, 0, none⟩ : Addr) 2 fun l2 => K (.agg l2.toArray) H3) (BIf (decide (x3 ≥ (64 : Int))) (Ld H2 ((⟨b1, 0, none⟩ : Addr).add 1) fun v1 => DI .u64 v1 fun x4 => (0 ≤ (IntKind.u64.wrap (IntKind.i64.wrap (x3 - (64 : Int)))) ∧ StA H2 (⟨b2, 0, none⟩ : Addr) #[.int .u64 (shlI .u64 x4 (IntKind.u64.wrap (IntKind.i64.wrap (x3 - (64 : Int))))), .int .u64 (0 : Int)] 2 fun H4 => LdA H4 (⟨b2, 0, none⟩ : Addr) 2 fun l3 => K (.agg l3.toArray) H4)) (Ld H2 ((⟨b1, 0, none⟩ : Addr).add 0) fun v2 => DI .u64 v2 fun x5 => (0 ≤ (IntKind.u64.wrap x3) ∧ Ld H2 ((⟨b1, 0, none⟩ : Addr).add 1) fun v3 => DI .u64 v3 fun x6 => (0 ≤ (IntKind.u64.wrap (IntKind.i64.wrap ((64 : Int) - x3))) ∧ Ld H2 ((⟨b1, 0, none⟩ : Addr).add 1) fun v4 => DI .u64 v4 fun x7 => (0 ≤ (IntKind.u64.wrap x3) ∧ StA H2 (⟨b2, 0, none⟩ : Addr) #[.int .u64 (bOr .u64 (shlI .u64 x5 (IntKind.u64.wrap x3)) (shrI .u64 x6 (IntKind.u64.wrap (IntKind.i64.wrap ((64 : Int) - x3))))), .int .u64 (shlI .u64 x7 (IntKind.u64.wrap x3))] 2 fun H5 => LdA H5 (⟨b2, 0, none⟩ : Addr) 2 fun l4 => K (.agg l4.toArray) H5)))))
def W_wide_Shl.Λ (_ : Value → Hp → Prop) : Cuts := Cuts.none (fun _ => none)
theorem W_wide_Shl.ok (x1 : Int) (x2 : Int) (x3 : Int) (H : Hp) (K : Value → Hp → Prop) (h : W_wide_Shl x1 x2 x3 H K) : HCalls Tryd.prog 121 #[.agg #[.int .u64 x1, .int .u64 x2], .int .i64 x3] H K :=
  hcalls Tryd.func121 rfl (Nat.le_of_ble_eq_true rfl) (hw_safe (Λ := Cuts.none (fun _ => none)) mixWwide _ _ _ _ _ (Eq.mp (by kernel_rfl) h) (obs_none _ _ _ _ _))

-- wide.Add
def W_wide_Add (x1 : Int) (x2 : Int) (x3 : Int) (x4 : Int) (H : Hp) (K : Value → Hp → Prop) : Prop :=
  Nw H (.obj (.cells #[.int .u64 x1, .int .u64 x2] 223)) fun b1 H1 => Nw H1 (.obj (.cells #[.int .u64 x3, .int .u64 x4] 223)) fun b2 H2 => Nw H2 (.obj (.cells #[.int .u64 (0 : Int), .int .u64 (0 : Int)] 223)) fun b3 H3 => Ld H3 ((⟨b1, 0, none⟩ : Addr).add 1) fun v1 => DI .u64 v1 fun x5 => Ld H3 ((⟨b2, 0, none⟩ : Addr).add 1) fun v2 => DI .u64 v2 fun x6 => ExC Tryd.prog 194 #[.int .u64 x5, .int .u64 x6, .int .u64 (0 : Int)] H3 fun v3 H4 => DTup v3 fun l1 => DCons l1 fun v4 l2 => DI .u64 v4 fun x7 => DCons l2 fun v5 l3 => DI .u64 v5 fun x8 => DNil l3 (St H4 (((⟨b3, 0, none⟩ : Addr).add 1).add 0) (.int .u64 x7) fun H5 => Ld H5 ((⟨b1, 0, none⟩ : Addr).add 0) fun v6 => DI .u64 v6 fun x9 => Ld H5 ((⟨b2, 0, none⟩ : Addr).add 0) fun v7 => DI .u64 v7 fun x10 => ExC Tryd.prog 194 #[.int .u64 x9, .int .u64 x10, .int .u64 x8] H5 fun v8 H6 => DTup v8 fun l4 => DCons l4 fun v9 l5 => DI .u64 v9 fun x11 => DCons l5 fun v10 l6 => DI .u64 v10 fun x12 => DNil l6 (St H6 (((⟨b3, 0, none⟩ : Addr).add 0).add 0) (.int .u64 x11) fun H7 => LdA H7 (⟨b3, 0, none⟩ : Addr) 2 fun l7 => StA H7 (⟨b3, 0, none⟩ : Addr) l7.toArray 2 fun H8 => LdA H8 (⟨b3, 0, none⟩ : Addr) 2 fun l8 => K (.tuple #[.agg l8.toArray, .int .u64 x12]) H8))
def W_wide_Add.Λ (_ : Value → Hp → Prop) : Cuts := Cuts.none (fun _ => none)
theorem W_wide_Add.ok (x1 : Int) (x2 : Int) (x3 : Int) (x4 : Int) (H : Hp) (K : Value → Hp → Prop) (h : W_wide_Add x1 x2 x3 x4 H K) : HCalls Tryd.prog 158 #[.agg #[.int .u64 x1, .int .u64 x2], .agg #[.int .u64 x3, .int .u64 x4]] H K :=
  hcalls Tryd.func158 rfl (Nat.le_of_ble_eq_true rfl) (hw_safe (Λ := Cuts.none (fun _ => none)) mixWwide _ _ _ _ _ (Eq.mp (by kernel_rfl) h) (obs_none _ _ _ _ _))

-- wide.Mul
def W_wide_Mul (x1 : Int) (x2 : Int) (H : Hp) (K : Value → Hp → Prop) : Prop :=
  Nw H (.obj (.cells #[.int .u64 (0 : Int), .int .u64 (0 : Int)] 223)) fun b1 H1 => HCalls Tryd.prog 224 #[.int .u64 x1, .int .u64 x2] H1 fun v1 H2 => DTup v1 fun l1 => DCons l1 fun v2 l2 => DI .u64 v2 fun x3 => DCons l2 fun v3 l3 => DI .u64 v3 fun x4 => DNil l3 (StA H2 (⟨b1, 0, none⟩ : Addr) #[.int .u64 x3, .int .u64 x4] 2 fun H3 => LdA H3 (⟨b1, 0, none⟩ : Addr) 2 fun l4 => K (.agg l4.toArray) H3)
def W_wide_Mul.Λ (_ : Value → Hp → Prop) : Cuts := Cuts.none (fun _ => none)
theorem W_wide_Mul.ok (x1 : Int) (x2 : Int) (H : Hp) (K : Value → Hp → Prop) (h : W_wide_Mul x1 x2 H K) : HCalls Tryd.prog 212 #[.int .u64 x1, .int .u64 x2] H K :=
  hcalls Tryd.func212 rfl (Nat.le_of_ble_eq_true rfl) (hw_safe (Λ := Cuts.none (fun _ => none)) mixWwide _ _ _ _ _ (Eq.mp (by kernel_rfl) h) (obs_none _ _ _ _ _))

end Go.Proofs.YtbnhfcdagoigkaaDoor.W

end
section
/-! Wlbits -/
/- Formulas of functions, printed by wip/tools/hwp.py. -/
set_option maxRecDepth 100000
set_option linter.unusedVariables false
namespace Go.Proofs.YtbnhfcdagoigkaaDoor.W
open Go Go.Hw

theorem mixWlbits : Tryd.prog.follows .mixedOrders = true := by kernel_rfl
-- math/bits.TrailingZeros
def W_math_bits_TrailingZeros (x1 : Int) (H : Hp) (K : Value → Hp → Prop) : Prop :=
  HCalls Tryd.prog 109 #[.int .u64 x1] H fun v1 H1 => DI .i64 v1 fun x2 => K (.int .i64 x2) H1
def W_math_bits_TrailingZeros.Λ (_ : Value → Hp → Prop) : Cuts := Cuts.none (fun _ => none)
theorem W_math_bits_TrailingZeros.ok (x1 : Int) (H : Hp) (K : Value → Hp → Prop) (h : W_math_bits_TrailingZeros x1 H K) : HCalls Tryd.prog 69 #[.int .u64 x1] H K :=
  hcalls Tryd.func69 rfl (Nat.le_of_ble_eq_true rfl) (hw_safe (Λ := Cuts.none (fun _ => none)) mixWlbits _ _ _ _ _ (Eq.mp (by kernel_rfl) h) (obs_none _ _ _ _ _))

-- math/bits.TrailingZeros32
def W_math_bits_TrailingZeros32 (x1 : Int) (H : Hp) (K : Value → Hp → Prop) : Prop :=
  BIf (x1 == (0 : Int)) (K (.int .i64 (32 : Int)) H) ((0 ≤ (27 : Int) ∧ ixI (shrI .u32 (IntKind.u32.wrap ((bAnd .u32 x1 (IntKind.u32.wrap (0 - x1))) * (125613361 : Int))) (27 : Int)) 32 (Ld H ((⟨2, 0, none⟩ : Addr).add ((shrI .u32 (IntKind.u32.wrap ((bAnd .u32 x1 (IntKind.u32.wrap (0 - x1))) * (125613361 : Int))) (27 : Int)).toNat * 1)) fun v1 => DI .u8 v1 fun x2 => K (.int .i64 (IntKind.i64.wrap x2)) H)))
def W_math_bits_TrailingZeros32.Λ (_ : Value → Hp → Prop) : Cuts := Cuts.none (fun _ => none)
theorem W_math_bits_TrailingZeros32.ok (x1 : Int) (H : Hp) (K : Value → Hp → Prop) (h : W_math_bits_TrailingZeros32 x1 H K) : HCalls Tryd.prog 108 #[.int .u32 x1] H K :=
  hcalls Tryd.func108 rfl (Nat.le_of_ble_eq_true rfl) (hw_safe (Λ := Cuts.none (fun _ => none)) mixWlbits _ _ _ _ _ (Eq.mp (by kernel_rfl) h) (obs_none _ _ _ _ _))

-- math/bits.TrailingZeros64
def W_math_bits_TrailingZeros64 (x1 : Int) (H : Hp) (K : Value → Hp → Prop) : Prop :=
  BIf (x1 == (0 : Int)) (K (.int .i64 (64 : Int)) H) ((0 ≤ (58 : Int) ∧ ixI (shrI .u64 (IntKind.u64.wrap ((bAnd .u64 x1 (IntKind.u64.wrap (0 - x1))) * (285870213051353865 : Int))) (58 : Int)) 64 (Ld H ((⟨3, 0, none⟩ : Addr).add ((shrI .u64 (IntKind.u64.wrap ((bAnd .u64 x1 (IntKind.u64.wrap (0 - x1))) * (285870213051353865 : Int))) (58 : Int)).toNat * 1)) fun v1 => DI .u8 v1 fun x2 => K (.int .i64 (IntKind.i64.wrap x2)) H)))
def W_math_bits_TrailingZeros64.Λ (_ : Value → Hp → Prop) : Cuts := Cuts.none (fun _ => none)
theorem W_math_bits_TrailingZeros64.ok (x1 : Int) (H : Hp) (K : Value → Hp → Prop) (h : W_math_bits_TrailingZeros64 x1 H K) : HCalls Tryd.prog 109 #[.int .u64 x1] H K :=
  hcalls Tryd.func109 rfl (Nat.le_of_ble_eq_true rfl) (hw_safe (Λ := Cuts.none (fun _ => none)) mixWlbits _ _ _ _ _ (Eq.mp (by kernel_rfl) h) (obs_none _ _ _ _ _))

-- math/bits.Len64
def W_math_bits_Len64.j7 (K : Value → Hp → Prop) (x4 : Int) (x5 : Int) (H : Hp) : Prop :=
  BIf (decide (x4 ≥ (256 : Int))) ((0 ≤ (8 : Int) ∧ (0 ≤ (IntKind.u8.wrap (shrI .u64 x4 (8 : Int))) ∧ ixB ((⟨#[0, 1, 2, 2, 3, 3, 3, 3, 4, 4, 4, 4, 4, 4, 4, 4, 5, 5, 5, 5, 5, 5, 5, 5, 5, 5, 5, 5, 5, 5, 5, 5, 6, 6, 6, 6, 6, 6, 6, 6, 6, 6, 6, 6, 6, 6, 6, 6, 6, 6, 6, 6, 6, 6, 6, 6, 6, 6, 6, 6, 6, 6, 6, 6, 7, 7, 7, 7, 7, 7, 7, 7, 7, 7, 7, 7, 7, 7, 7, 7, 7, 7, 7, 7, 7, 7, 7, 7, 7, 7, 7, 7, 7, 7, 7, 7, 7, 7, 7, 7, 7, 7, 7, 7, 7, 7, 7, 7, 7, 7, 7, 7, 7, 7, 7, 7, 7, 7, 7, 7, 7, 7, 7, 7, 7, 7, 7, 7, 8, 8, 8, 8, 8, 8, 8, 8, 8, 8, 8, 8, 8, 8, 8, 8, 8, 8, 8, 8, 8, 8, 8, 8, 8, 8, 8, 8, 8, 8, 8, 8, 8, 8, 8, 8, 8, 8, 8, 8, 8, 8, 8, 8, 8, 8, 8, 8, 8, 8, 8, 8, 8, 8, 8, 8, 8, 8, 8, 8, 8, 8, 8, 8, 8, 8, 8, 8, 8, 8, 8, 8, 8, 8, 8, 8, 8, 8, 8, 8, 8, 8, 8, 8, 8, 8, 8, 8, 8, 8, 8, 8, 8, 8, 8, 8, 8, 8, 8, 8, 8, 8, 8, 8, 8, 8, 8, 8, 8, 8, 8, 8, 8, 8, 8, 8, 8, 8, 8, 8, 8, 8, 8, 8, 8, 8, 8, 8]⟩) : ByteArray) (IntKind.u8.wrap (shrI .u64 x4 (8 : Int))).toNat fun x6 => K (.int .i64 (IntKind.i64.wrap ((IntKind.i64.wrap (x5 + (8 : Int))) + (IntKind.i64.wrap x6)))) H))) ((0 ≤ (IntKind.u8.wrap x4) ∧ ixB ((⟨#[0, 1, 2, 2, 3, 3, 3, 3, 4, 4, 4, 4, 4, 4, 4, 4, 5, 5, 5, 5, 5, 5, 5, 5, 5, 5, 5, 5, 5, 5, 5, 5, 6, 6, 6, 6, 6, 6, 6, 6, 6, 6, 6, 6, 6, 6, 6, 6, 6, 6, 6, 6, 6, 6, 6, 6, 6, 6, 6, 6, 6, 6, 6, 6, 7, 7, 7, 7, 7, 7, 7, 7, 7, 7, 7, 7, 7, 7, 7, 7, 7, 7, 7, 7, 7, 7, 7, 7, 7, 7, 7, 7, 7, 7, 7, 7, 7, 7, 7, 7, 7, 7, 7, 7, 7, 7, 7, 7, 7, 7, 7, 7, 7, 7, 7, 7, 7, 7, 7, 7, 7, 7, 7, 7, 7, 7, 7, 7, 8, 8, 8, 8, 8, 8, 8, 8, 8, 8, 8, 8, 8, 8, 8, 8, 8, 8, 8, 8, 8, 8, 8, 8, 8, 8, 8, 8, 8, 8, 8, 8, 8, 8, 8, 8, 8, 8, 8, 8, 8, 8, 8, 8, 8, 8, 8, 8, 8, 8, 8, 8, 8, 8, 8, 8, 8, 8, 8, 8, 8, 8, 8, 8, 8, 8, 8, 8, 8, 8, 8, 8, 8, 8, 8, 8, 8, 8, 8, 8, 8, 8, 8, 8, 8, 8, 8, 8, 8, 8, 8, 8, 8, 8, 8, 8, 8, 8, 8, 8, 8, 8, 8, 8, 8, 8, 8, 8, 8, 8, 8, 8, 8, 8, 8, 8, 8, 8, 8, 8, 8, 8, 8, 8, 8, 8, 8, 8]⟩) : ByteArray) (IntKind.u8.wrap x4).toNat fun x7 => K (.int .i64 (IntKind.i64.wrap (x5 + (IntKind.i64.wrap x7)))) H))
def W_math_bits_Len64.j4 (K : Value → Hp → Prop) (x2 : Int) (x3 : Int) (H : Hp) : Prop :=
  BIf (decide (x2 ≥ (65536 : Int))) ((0 ≤ (16 : Int) ∧ W_math_bits_Len64.j7 K (shrI .u64 x2 (16 : Int)) (IntKind.i64.wrap (x3 + (16 : Int))) H)) (W_math_bits_Len64.j7 K x2 x3 H)
def W_math_bits_Len64 (x1 : Int) (H : Hp) (K : Value → Hp → Prop) : Prop :=
  BIf (decide (x1 ≥ (4294967296 : Int))) ((0 ≤ (32 : Int) ∧ W_math_bits_Len64.j4 K (shrI .u64 x1 (32 : Int)) (32 : Int) H)) (W_math_bits_Len64.j4 K x1 (0 : Int) H)
def W_math_bits_Len64.Λ (K : Value → Hp → Prop) : Cuts := ⟨fun i => match Nat.beq i 7 with | true => some (fun E D H => DG (E.get? 0) fun w0 => DI .u64 w0 fun x4 => DG (E.get? 2) fun w2 => DI .i64 w2 fun x5 => DNilD D (W_math_bits_Len64.j7 K x4 x5 H)) | false => match Nat.beq i 4 with | true => some (fun E D H => DG (E.get? 0) fun w0 => DI .u64 w0 fun x2 => DG (E.get? 2) fun w2 => DI .i64 w2 fun x3 => DNilD D (W_math_bits_Len64.j4 K x2 x3 H)) | false => none, fun i => none, (fun _ => none)⟩
theorem W_math_bits_Len64.ok (x1 : Int) (H : Hp) (K : Value → Hp → Prop) (h : W_math_bits_Len64 x1 H K) : HCalls Tryd.prog 187 #[.int .u64 x1] H K :=
  hcalls Tryd.func187 rfl (Nat.le_of_ble_eq_true rfl) (hw_safe (Λ := (W_math_bits_Len64.Λ K)) mixWlbits _ _ _ _ _ (Eq.mp (by kernel_rfl) h) (obs_seq obs_region rfl (obs_seqc (obs_seq obs_region rfl (obs_cond (obs_seq obs_region rfl obs_region) obs_skip)) rfl (fun E D H h => by
      obtain ⟨w0, e0, g1⟩ := DG.out h
      obtain ⟨x2, rfl, g2⟩ := DI.out g1
      obtain ⟨w2, e2, g3⟩ := DG.out g2
      obtain ⟨x3, rfl, g4⟩ := DI.out g3
      obtain ⟨rfl, h'⟩ := DNilD.out g4
      exact (hw_safe (Λ := (W_math_bits_Len64.Λ K)) mixWlbits _ _ [(0, .int .u64 x2), (2, .int .i64 x3)] [] H (Eq.mp (by kernel_rfl) h') (obs_seqc (obs_seq obs_region rfl (obs_cond (obs_seq obs_region rfl obs_region) obs_skip)) rfl (fun E D H h => by
          obtain ⟨w0, e0, g1⟩ := DG.out h
          obtain ⟨x4, rfl, g2⟩ := DI.out g1
          obtain ⟨w2, e2, g3⟩ := DG.out g2
          obtain ⟨x5, rfl, g4⟩ := DI.out g3
          obtain ⟨rfl, h'⟩ := DNilD.out g4
          exact (hw_safe (Λ := (W_math_bits_Len64.Λ K)) mixWlbits _ _ [(0, .int .u64 x4), (2, .int .i64 x5)] [] H (Eq.mp (by kernel_rfl) h') (obs_seq (obs_seq obs_region rfl (obs_cond (obs_seq obs_region rfl obs_region) obs_skip)) rfl (obs_seq obs_region rfl obs_ret))).weaken (EnvLe.cons e0 (EnvLe.cons e2 (EnvLe.nil _))) (Hp.le_refl _)))).weaken (EnvLe.cons e0 (EnvLe.cons e2 (EnvLe.nil _))) (Hp.le_refl _)))))

-- math/bits.Mul64
def W_math_bits_Mul64 (x1 : Int) (x2 : Int) (H : Hp) (K : Value → Hp → Prop) : Prop :=
  (0 ≤ (32 : Int) ∧ (0 ≤ (32 : Int) ∧ (0 ≤ (32 : Int) ∧ (0 ≤ (32 : Int) ∧ (0 ≤ (32 : Int) ∧ K (.tuple #[.int .u64 (IntKind.u64.wrap ((IntKind.u64.wrap ((IntKind.u64.wrap ((shrI .u64 x1 (32 : Int)) * (shrI .u64 x2 (32 : Int)))) + (shrI .u64 (IntKind.u64.wrap ((IntKind.u64.wrap ((shrI .u64 x1 (32 : Int)) * (bAnd .u64 x2 (4294967295 : Int)))) + (shrI .u64 (IntKind.u64.wrap ((bAnd .u64 x1 (4294967295 : Int)) * (bAnd .u64 x2 (4294967295 : Int)))) (32 : Int)))) (32 : Int)))) + (shrI .u64 (IntKind.u64.wrap ((bAnd .u64 (IntKind.u64.wrap ((IntKind.u64.wrap ((shrI .u64 x1 (32 : Int)) * (bAnd .u64 x2 (4294967295 : Int)))) + (shrI .u64 (IntKind.u64.wrap ((bAnd .u64 x1 (4294967295 : Int)) * (bAnd .u64 x2 (4294967295 : Int)))) (32 : Int)))) (4294967295 : Int)) + (IntKind.u64.wrap ((bAnd .u64 x1 (4294967295 : Int)) * (shrI .u64 x2 (32 : Int)))))) (32 : Int)))), .int .u64 (IntKind.u64.wrap (x1 * x2))]) H)))))
def W_math_bits_Mul64.Λ (_ : Value → Hp → Prop) : Cuts := Cuts.none (fun _ => none)
theorem W_math_bits_Mul64.ok (x1 : Int) (x2 : Int) (H : Hp) (K : Value → Hp → Prop) (h : W_math_bits_Mul64 x1 x2 H K) : HCalls Tryd.prog 224 #[.int .u64 x1, .int .u64 x2] H K :=
  hcalls Tryd.func224 rfl (Nat.le_of_ble_eq_true rfl) (hw_safe (Λ := Cuts.none (fun _ => none)) mixWlbits _ _ _ _ _ (Eq.mp (by kernel_rfl) h) (obs_none _ _ _ _ _))

-- math/bits.Reverse64
def W_math_bits_Reverse64 (x1 : Int) (H : Hp) (K : Value → Hp → Prop) : Prop :=
  (0 ≤ (1 : Int) ∧ (0 ≤ (1 : Int) ∧ (0 ≤ (2 : Int) ∧ (0 ≤ (2 : Int) ∧ (0 ≤ (4 : Int) ∧ (0 ≤ (4 : Int) ∧ HCalls Tryd.prog 228 #[.int .u64 (bOr .u64 (bAnd .u64 (shrI .u64 (bOr .u64 (bAnd .u64 (shrI .u64 (bOr .u64 (bAnd .u64 (shrI .u64 x1 (1 : Int)) (6148914691236517205 : Int)) (shlI .u64 (bAnd .u64 x1 (6148914691236517205 : Int)) (1 : Int))) (2 : Int)) (3689348814741910323 : Int)) (shlI .u64 (bAnd .u64 (bOr .u64 (bAnd .u64 (shrI .u64 x1 (1 : Int)) (6148914691236517205 : Int)) (shlI .u64 (bAnd .u64 x1 (6148914691236517205 : Int)) (1 : Int))) (3689348814741910323 : Int)) (2 : Int))) (4 : Int)) (1085102592571150095 : Int)) (shlI .u64 (bAnd .u64 (bOr .u64 (bAnd .u64 (shrI .u64 (bOr .u64 (bAnd .u64 (shrI .u64 x1 (1 : Int)) (6148914691236517205 : Int)) (shlI .u64 (bAnd .u64 x1 (6148914691236517205 : Int)) (1 : Int))) (2 : Int)) (3689348814741910323 : Int)) (shlI .u64 (bAnd .u64 (bOr .u64 (bAnd .u64 (shrI .u64 x1 (1 : Int)) (6148914691236517205 : Int)) (shlI .u64 (bAnd .u64 x1 (6148914691236517205 : Int)) (1 : Int))) (3689348814741910323 : Int)) (2 : Int))) (1085102592571150095 : Int)) (4 : Int)))] H fun v1 H1 => DI .u64 v1 fun x2 => K (.int .u64 x2) H1))))))
def W_math_bits_Reverse64.Λ (_ : Value → Hp → Prop) : Cuts := Cuts.none (fun _ => none)
theorem W_math_bits_Reverse64.ok (x1 : Int) (H : Hp) (K : Value → Hp → Prop) (h : W_math_bits_Reverse64 x1 H K) : HCalls Tryd.prog 225 #[.int .u64 x1] H K :=
  hcalls Tryd.func225 rfl (Nat.le_of_ble_eq_true rfl) (hw_safe (Λ := Cuts.none (fun _ => none)) mixWlbits _ _ _ _ _ (Eq.mp (by kernel_rfl) h) (obs_none _ _ _ _ _))

-- math/bits.ReverseBytes64
def W_math_bits_ReverseBytes64 (x1 : Int) (H : Hp) (K : Value → Hp → Prop) : Prop :=
  (0 ≤ (8 : Int) ∧ (0 ≤ (8 : Int) ∧ (0 ≤ (16 : Int) ∧ (0 ≤ (16 : Int) ∧ (0 ≤ (32 : Int) ∧ (0 ≤ (32 : Int) ∧ K (.int .u64 (bOr .u64 (shrI .u64 (bOr .u64 (bAnd .u64 (shrI .u64 (bOr .u64 (bAnd .u64 (shrI .u64 x1 (8 : Int)) (71777214294589695 : Int)) (shlI .u64 (bAnd .u64 x1 (71777214294589695 : Int)) (8 : Int))) (16 : Int)) (281470681808895 : Int)) (shlI .u64 (bAnd .u64 (bOr .u64 (bAnd .u64 (shrI .u64 x1 (8 : Int)) (71777214294589695 : Int)) (shlI .u64 (bAnd .u64 x1 (71777214294589695 : Int)) (8 : Int))) (281470681808895 : Int)) (16 : Int))) (32 : Int)) (shlI .u64 (bOr .u64 (bAnd .u64 (shrI .u64 (bOr .u64 (bAnd .u64 (shrI .u64 x1 (8 : Int)) (71777214294589695 : Int)) (shlI .u64 (bAnd .u64 x1 (71777214294589695 : Int)) (8 : Int))) (16 : Int)) (281470681808895 : Int)) (shlI .u64 (bAnd .u64 (bOr .u64 (bAnd .u64 (shrI .u64 x1 (8 : Int)) (71777214294589695 : Int)) (shlI .u64 (bAnd .u64 x1 (71777214294589695 : Int)) (8 : Int))) (281470681808895 : Int)) (16 : Int))) (32 : Int)))) H))))))
def W_math_bits_ReverseBytes64.Λ (_ : Value → Hp → Prop) : Cuts := Cuts.none (fun _ => none)
theorem W_math_bits_ReverseBytes64.ok (x1 : Int) (H : Hp) (K : Value → Hp → Prop) (h : W_math_bits_ReverseBytes64 x1 H K) : HCalls Tryd.prog 228 #[.int .u64 x1] H K :=
  hcalls Tryd.func228 rfl (Nat.le_of_ble_eq_true rfl) (hw_safe (Λ := Cuts.none (fun _ => none)) mixWlbits _ _ _ _ _ (Eq.mp (by kernel_rfl) h) (obs_none _ _ _ _ _))

end Go.Proofs.YtbnhfcdagoigkaaDoor.W

end
section
/-! Wabacistref02 -/
/- Formulas of functions, printed by wip/tools/hwp.py. -/
set_option maxRecDepth 100000
set_option linter.unusedVariables false
namespace Go.Proofs.YtbnhfcdagoigkaaDoor.W
open Go Go.Hw

theorem mixWabacistref02 : Tryd.prog.follows .mixedOrders = true := by kernel_rfl
-- abacistref02.Pow
def W_abacistref02_Pow.l3 (K : Value → Hp → Prop) : Nat → Int → Int → Int → Hp → Prop
  | 0, _, _, _, _ => False
  | k + 1, x4, x5, x6, H =>
    let R3 := W_abacistref02_Pow.l3 K k
    BIf (decide (x5 > (0 : Int))) (((2 : Int) ≠ 0 ∧ IntKind.u64 = IntKind.u64 ∧ BIf ((Int.tmod x5 (2 : Int)) == (1 : Int)) (HCalls Tryd.prog 113 #[.int .u64 x6, .int .u64 x4] H fun v2 H2 => DI .u64 v2 fun x7 => HCalls Tryd.prog 113 #[.int .u64 x4, .int .u64 x4] H2 fun v3 H3 => DI .u64 v3 fun x8 => ((2 : Int) ≠ 0 ∧ IntKind.u64 = IntKind.u64 ∧ R3 x8 (IntKind.u64.wrap (Int.tdiv x5 (2 : Int))) x7 H3)) (HCalls Tryd.prog 113 #[.int .u64 x4, .int .u64 x4] H fun v4 H4 => DI .u64 v4 fun x9 => ((2 : Int) ≠ 0 ∧ IntKind.u64 = IntKind.u64 ∧ R3 x9 (IntKind.u64.wrap (Int.tdiv x5 (2 : Int))) x6 H4)))) (K (.int .u64 x6) H)
def W_abacistref02_Pow (x1 : Int) (x2 : Int) (H : Hp) (K : Value → Hp → Prop) : Prop :=
  HCalls Tryd.prog 112 #[.int .u64 x1] H fun v1 H1 => DI .u64 v1 fun x3 => (∃ k, W_abacistref02_Pow.l3 K k x3 x2 (1 : Int) H1)
def W_abacistref02_Pow.l3.L (K : Value → Hp → Prop) (k : Nat) : Mid := fun E D H =>
  DG (E.get? 0) fun w0 => DI .u64 w0 fun x4 => DG (E.get? 1) fun w1 => DI .u64 w1 fun x5 => DG (E.get? 5) fun w5 => DI .u64 w5 fun x6 => DNilD D (W_abacistref02_Pow.l3 K k x4 x5 x6 H)
def W_abacistref02_Pow.Λ3 (_ : Value → Hp → Prop) (_R3 : Int → Int → Int → Hp → Prop) : Cuts := Cuts.none (fun _ => none)
def W_abacistref02_Pow.Λ (K : Value → Hp → Prop) : Cuts := ⟨fun i => none, fun i => match Nat.beq i 3 with | true => some (fun E D H => ∃ k, W_abacistref02_Pow.l3.L K k E D H) | false => none, (fun _ => none)⟩
theorem W_abacistref02_Pow.ok (x1 : Int) (x2 : Int) (H : Hp) (K : Value → Hp → Prop) (h : W_abacistref02_Pow x1 x2 H K) : HCalls Tryd.prog 73 #[.int .u64 x1, .int .u64 x2] H K :=
  hcalls Tryd.func73 rfl (Nat.le_of_ble_eq_true rfl) (hw_safe (Λ := (W_abacistref02_Pow.Λ K)) mixWabacistref02 _ _ _ _ _ (Eq.mp (by kernel_rfl) h) (obs_seq obs_region rfl (obs_seq obs_region rfl (obs_seq obs_region rfl (obs_seq (obs_block (obs_loop rfl (fun E D H h => by
      refine Safe.loop' (W_abacistref02_Pow.l3.L K) (fun E D H h => ?_) (fun k E D H h => ?_) E D H h
      · obtain ⟨w0, e0, g1⟩ := DG.out h; obtain ⟨x4, rfl, g2⟩ := DI.out g1; obtain ⟨w1, e1, g3⟩ := DG.out g2; obtain ⟨x5, rfl, g4⟩ := DI.out g3; obtain ⟨w5, e5, g5⟩ := DG.out g4; obtain ⟨x6, rfl, g6⟩ := DI.out g5; obtain ⟨rfl, h'⟩ := DNilD.out g6; exact h'
      · obtain ⟨w0, e0, g1⟩ := DG.out h
        obtain ⟨x4, rfl, g2⟩ := DI.out g1
        obtain ⟨w1, e1, g3⟩ := DG.out g2
        obtain ⟨x5, rfl, g4⟩ := DI.out g3
        obtain ⟨w5, e5, g5⟩ := DG.out g4
        obtain ⟨x6, rfl, g6⟩ := DI.out g5
        obtain ⟨rfl, h'⟩ := DNilD.out g6
        exact (hw_safe (Λ := (W_abacistref02_Pow.Λ3 K (W_abacistref02_Pow.l3 K k))) mixWabacistref02 _ _ [(0, .int .u64 x4), (1, .int .u64 x5), (5, .int .u64 x6)] [] H (Eq.mp (by kernel_rfl) h') (obs_seq (obs_seq obs_region rfl (obs_cond obs_skip obs_exit)) rfl (obs_block (obs_seq (obs_seq obs_region rfl (obs_cond obs_region obs_skip)) rfl (obs_seq obs_region rfl obs_region))))).weaken (EnvLe.cons e0 (EnvLe.cons e1 (EnvLe.cons e5 (EnvLe.nil _)))) (Hp.le_refl _)))) rfl (obs_seq obs_region rfl obs_ret))))))

-- abacistref02.Of
def W_abacistref02_Of (x1 : Int) (H : Hp) (K : Value → Hp → Prop) : Prop :=
  ((18446744069414584321 : Int) ≠ 0 ∧ IntKind.u64 = IntKind.u64 ∧ K (.int .u64 (Int.tmod x1 (18446744069414584321 : Int))) H)
def W_abacistref02_Of.Λ (_ : Value → Hp → Prop) : Cuts := Cuts.none (fun _ => none)
theorem W_abacistref02_Of.ok (x1 : Int) (H : Hp) (K : Value → Hp → Prop) (h : W_abacistref02_Of x1 H K) : HCalls Tryd.prog 112 #[.int .u64 x1] H K :=
  hcalls Tryd.func112 rfl (Nat.le_of_ble_eq_true rfl) (hw_safe (Λ := Cuts.none (fun _ => none)) mixWabacistref02 _ _ _ _ _ (Eq.mp (by kernel_rfl) h) (obs_none _ _ _ _ _))

-- abacistref02.Mul
def W_abacistref02_Mul.l3 (K : Value → Hp → Prop) : Nat → Int → Int → Int → Hp → Prop
  | 0, _, _, _, _ => False
  | k + 1, x4, x5, x6, H =>
    let R3 := W_abacistref02_Mul.l3 K k
    BIf (decide (x5 > (0 : Int))) (((2 : Int) ≠ 0 ∧ IntKind.u64 = IntKind.u64 ∧ BIf ((Int.tmod x5 (2 : Int)) == (1 : Int)) (HCalls Tryd.prog 148 #[.int .u64 x6, .int .u64 x4] H fun v2 H2 => DI .u64 v2 fun x7 => HCalls Tryd.prog 148 #[.int .u64 x4, .int .u64 x4] H2 fun v3 H3 => DI .u64 v3 fun x8 => ((2 : Int) ≠ 0 ∧ IntKind.u64 = IntKind.u64 ∧ R3 x8 (IntKind.u64.wrap (Int.tdiv x5 (2 : Int))) x7 H3)) (HCalls Tryd.prog 148 #[.int .u64 x4, .int .u64 x4] H fun v4 H4 => DI .u64 v4 fun x9 => ((2 : Int) ≠ 0 ∧ IntKind.u64 = IntKind.u64 ∧ R3 x9 (IntKind.u64.wrap (Int.tdiv x5 (2 : Int))) x6 H4)))) (K (.int .u64 x6) H)
def W_abacistref02_Mul (x1 : Int) (x2 : Int) (H : Hp) (K : Value → Hp → Prop) : Prop :=
  HCalls Tryd.prog 112 #[.int .u64 x1] H fun v1 H1 => DI .u64 v1 fun x3 => (∃ k, W_abacistref02_Mul.l3 K k x3 x2 (0 : Int) H1)
def W_abacistref02_Mul.l3.L (K : Value → Hp → Prop) (k : Nat) : Mid := fun E D H =>
  DG (E.get? 0) fun w0 => DI .u64 w0 fun x4 => DG (E.get? 1) fun w1 => DI .u64 w1 fun x5 => DG (E.get? 5) fun w5 => DI .u64 w5 fun x6 => DNilD D (W_abacistref02_Mul.l3 K k x4 x5 x6 H)
def W_abacistref02_Mul.Λ3 (_ : Value → Hp → Prop) (_R3 : Int → Int → Int → Hp → Prop) : Cuts := Cuts.none (fun _ => none)
def W_abacistref02_Mul.Λ (K : Value → Hp → Prop) : Cuts := ⟨fun i => none, fun i => match Nat.beq i 3 with | true => some (fun E D H => ∃ k, W_abacistref02_Mul.l3.L K k E D H) | false => none, (fun _ => none)⟩
theorem W_abacistref02_Mul.ok (x1 : Int) (x2 : Int) (H : Hp) (K : Value → Hp → Prop) (h : W_abacistref02_Mul x1 x2 H K) : HCalls Tryd.prog 113 #[.int .u64 x1, .int .u64 x2] H K :=
  hcalls Tryd.func113 rfl (Nat.le_of_ble_eq_true rfl) (hw_safe (Λ := (W_abacistref02_Mul.Λ K)) mixWabacistref02 _ _ _ _ _ (Eq.mp (by kernel_rfl) h) (obs_seq obs_region rfl (obs_seq obs_region rfl (obs_seq obs_region rfl (obs_seq (obs_block (obs_loop rfl (fun E D H h => by
      refine Safe.loop' (W_abacistref02_Mul.l3.L K) (fun E D H h => ?_) (fun k E D H h => ?_) E D H h
      · obtain ⟨w0, e0, g1⟩ := DG.out h; obtain ⟨x4, rfl, g2⟩ := DI.out g1; obtain ⟨w1, e1, g3⟩ := DG.out g2; obtain ⟨x5, rfl, g4⟩ := DI.out g3; obtain ⟨w5, e5, g5⟩ := DG.out g4; obtain ⟨x6, rfl, g6⟩ := DI.out g5; obtain ⟨rfl, h'⟩ := DNilD.out g6; exact h'
      · obtain ⟨w0, e0, g1⟩ := DG.out h
        obtain ⟨x4, rfl, g2⟩ := DI.out g1
        obtain ⟨w1, e1, g3⟩ := DG.out g2
        obtain ⟨x5, rfl, g4⟩ := DI.out g3
        obtain ⟨w5, e5, g5⟩ := DG.out g4
        obtain ⟨x6, rfl, g6⟩ := DI.out g5
        obtain ⟨rfl, h'⟩ := DNilD.out g6
        exact (hw_safe (Λ := (W_abacistref02_Mul.Λ3 K (W_abacistref02_Mul.l3 K k))) mixWabacistref02 _ _ [(0, .int .u64 x4), (1, .int .u64 x5), (5, .int .u64 x6)] [] H (Eq.mp (by kernel_rfl) h') (obs_seq (obs_seq obs_region rfl (obs_cond obs_skip obs_exit)) rfl (obs_block (obs_seq (obs_seq obs_region rfl (obs_cond obs_region obs_skip)) rfl (obs_seq obs_region rfl obs_region))))).weaken (EnvLe.cons e0 (EnvLe.cons e1 (EnvLe.cons e5 (EnvLe.nil _)))) (Hp.le_refl _)))) rfl (obs_seq obs_region rfl obs_ret))))))

-- abacistref02.Add
def W_abacistref02_Add (x1 : Int) (x2 : Int) (H : Hp) (K : Value → Hp → Prop) : Prop :=
  HCalls Tryd.prog 112 #[.int .u64 x1] H fun v1 H1 => DI .u64 v1 fun x3 => HCalls Tryd.prog 112 #[.int .u64 x2] H1 fun v2 H2 => DI .u64 v2 fun x4 => BIf (decide (x3 ≥ (IntKind.u64.wrap ((18446744069414584321 : Int) - x4)))) (K (.int .u64 (IntKind.u64.wrap (x3 - (IntKind.u64.wrap ((18446744069414584321 : Int) - x4))))) H2) (K (.int .u64 (IntKind.u64.wrap (x3 + x4))) H2)
def W_abacistref02_Add.Λ (_ : Value → Hp → Prop) : Cuts := Cuts.none (fun _ => none)
theorem W_abacistref02_Add.ok (x1 : Int) (x2 : Int) (H : Hp) (K : Value → Hp → Prop) (h : W_abacistref02_Add x1 x2 H K) : HCalls Tryd.prog 148 #[.int .u64 x1, .int .u64 x2] H K :=
  hcalls Tryd.func148 rfl (Nat.le_of_ble_eq_true rfl) (hw_safe (Λ := Cuts.none (fun _ => none)) mixWabacistref02 _ _ _ _ _ (Eq.mp (by kernel_rfl) h) (obs_none _ _ _ _ _))

end Go.Proofs.YtbnhfcdagoigkaaDoor.W

end
section
/-! GolA -/
/- gold: the field's words; the reference's. -/
set_option maxRecDepth 100000
set_option linter.unusedSimpArgs false
set_option linter.unusedVariables false
set_option linter.unnecessarySimpa false
set_option linter.unusedSectionVars false
namespace Go.Proofs.YtbnhfcdagoigkaaDoor.Gol
open Go Go.Hw Go.Proofs.YtbnhfcdagoigkaaDoor.W

theorem ExC_add64 (x y c : Nat) (hc : c ≤ 1) {H : Hp} {K : Value → Hp → Prop} (k : K (.tuple #[.int .u64 (((x + y + c) % 18446744073709551616 : Nat) : Int), .int .u64 (((x + y + c) / 18446744073709551616 : Nat) : Int)]) H) :
    ExC Tryd.prog 194 #[.int .u64 (x : Int), .int .u64 (y : Int), .int .u64 (c : Int)] H K := fun H0 w0 w hA => by
  refine ⟨.value _, H, w, ?_, k, hA⟩
  rw [run_callFunc_extern Tryd.func194 (by kernel_rfl) (by kernel_rfl) (by kernel_rfl) (e := add64Entry) (by kernel_rfl), run_add64 (x : Int) (y : Int) (c : Int) (by omega) (by omega) (by omega) (by omega)]
  simp only [Result.andThen]
  congr 5 <;> omega

theorem maskN {x : Nat} (hx : x < 2 ^ 64) : bAnd .u64 (x : Int) 4294967295 = ((x % 4294967296 : Nat) : Int) := by
  rw [show (4294967295 : Int) = ((4294967295 : Nat) : Int) from rfl, andN hx (by omega), show 4294967295 = 2 ^ 32 - 1 from rfl, Nat.and_two_pow_sub_one_eq_mod]
theorem shr32 {x : Nat} : shrI .u64 (x : Int) 32 = ((x / 4294967296 : Nat) : Int) := by
  rw [shrN (k := .u64) (a := x) (i := 32) (n := 32) rfl (by decide)]
theorem mulw {x y : Nat} (hx : x < 4294967296) (hy : y < 4294967296) : IntKind.u64.wrap ((x : Int) * (y : Int)) = ((x * y : Nat) : Int) := by
  have : x * y ≤ 4294967295 * 4294967295 := Nat.mul_le_mul (by omega) (by omega)
  rw [u64m, Nat.mod_eq_of_lt (by omega)]
theorem addw {x y : Nat} (h : x + y < 18446744073709551616) : IntKind.u64.wrap ((x : Int) + (y : Int)) = ((x + y : Nat) : Int) := by
  rw [u64a, Nat.mod_eq_of_lt (by omega)]

theorem Mul64_ok {a b : Nat} (ha : a < 2 ^ 64) (hb : b < 2 ^ 64) (H : Hp) : HCalls Tryd.prog 224 #[.int .u64 (a : Int), .int .u64 (b : Int)] H (RetE (.tuple #[.int .u64 ((a * b / 18446744073709551616 : Nat) : Int), .int .u64 ((a * b % 18446744073709551616 : Nat) : Int)]) H) := by
  apply W_math_bits_Mul64.ok
  unfold W_math_bits_Mul64
  refine ⟨by decide, by decide, by decide, by decide, by decide, ?_⟩
  rw [u64m a b, shr32 (x := a), shr32 (x := b), maskN ha, maskN hb]
  have ea : a = 4294967296 * (a / 4294967296) + a % 4294967296 := by omega
  have eb : b = 4294967296 * (b / 4294967296) + b % 4294967296 := by omega
  have h1 : a / 4294967296 < 4294967296 := by omega
  have h2 : b / 4294967296 < 4294967296 := by omega
  have h3 : a % 4294967296 < 4294967296 := by omega
  have h4 : b % 4294967296 < 4294967296 := by omega
  have hab : a * b = 18446744073709551616 * ((a / 4294967296) * (b / 4294967296)) + 4294967296 * ((a / 4294967296) * (b % 4294967296)) + 4294967296 * ((a % 4294967296) * (b / 4294967296)) + (a % 4294967296) * (b % 4294967296) := by
    conv => lhs; rw [ea, eb]
    rw [Nat.add_mul, Nat.mul_add, Nat.mul_add]
    rw [show 4294967296 * (a / 4294967296) * (4294967296 * (b / 4294967296)) = 18446744073709551616 * ((a / 4294967296) * (b / 4294967296)) by rw [Nat.mul_mul_mul_comm],
      show 4294967296 * (a / 4294967296) * (b % 4294967296) = 4294967296 * ((a / 4294967296) * (b % 4294967296)) by rw [Nat.mul_assoc],
      show a % 4294967296 * (4294967296 * (b / 4294967296)) = 4294967296 * ((a % 4294967296) * (b / 4294967296)) by rw [Nat.mul_left_comm]]
    omega
  rw [mulw h1 h2, mulw h1 h4, mulw h3 h4, mulw h3 h2]
  have k1 : (a / 4294967296) * (b / 4294967296) ≤ 4294967295 * 4294967295 := Nat.mul_le_mul (by omega) (by omega)
  have k2 : (a / 4294967296) * (b % 4294967296) ≤ 4294967295 * 4294967295 := Nat.mul_le_mul (by omega) (by omega)
  have k3 : (a % 4294967296) * (b / 4294967296) ≤ 4294967295 * 4294967295 := Nat.mul_le_mul (by omega) (by omega)
  have k4 : (a % 4294967296) * (b % 4294967296) ≤ 4294967295 * 4294967295 := Nat.mul_le_mul (by omega) (by omega)
  clear ea eb
  generalize (a / 4294967296) * (b / 4294967296) = p11 at *
  generalize (a / 4294967296) * (b % 4294967296) = p10 at *
  generalize (a % 4294967296) * (b / 4294967296) = p01 at *
  generalize (a % 4294967296) * (b % 4294967296) = p00 at *
  rw [shr32 (x := p00), addw (x := p10) (y := p00 / 4294967296) (by omega), maskN (by omega), addw (by omega), shr32, shr32, addw (by omega), addw (by omega)]
  refine ⟨?_, rfl⟩
  rw [hab]
  have : p11 + (p10 + p00 / 4294967296) / 4294967296 + ((p10 + p00 / 4294967296) % 4294967296 + p01) / 4294967296 = (18446744073709551616 * p11 + 4294967296 * p10 + 4294967296 * p01 + p00) / 18446744073709551616 := by omega
  rw [this]

theorem Of_ok {a : Nat} (ha : a < 2 ^ 64) (H : Hp) : HCalls Tryd.prog 180 #[.int .u64 (a : Int)] H (RetE (.int .u64 ((a % 18446744069414584321 : Nat) : Int)) H) := by
  apply W_gold_Of.ok
  unfold W_gold_Of
  by_cases h : a ≥ 18446744069414584321
  · refine BIf_dpos (by omega) ?_
    rw [u64w (by omega) (by omega)]
    refine ⟨?_, rfl⟩
    have : (a : Int) - 18446744069414584321 = ((a % 18446744069414584321 : Nat) : Int) := by omega
    rw [this]
  · refine BIf_dneg (by omega) ⟨?_, rfl⟩
    rw [Nat.mod_eq_of_lt (by omega)]

theorem Reduce_j5 {mid t : Nat} (hm : mid < 4294967296) (ht : t < 18446744073709551616) {H : Hp} {K : Value → Hp → Prop} (k : K (.int .u64 (((t + mid * 4294967295) % 18446744069414584321 : Nat) : Int)) H) : W_gold_Reduce.j5 K (mid : Int) (t : Int) H := by
  unfold W_gold_Reduce.j5
  have em : IntKind.u64.wrap ((mid : Int) * 4294967295) = ((mid * 4294967295 : Nat) : Int) := by
    rw [u64w (by omega) (by omega)]; omega
  rw [em]
  by_cases h : t + mid * 4294967295 < 18446744073709551616
  · rw [addw h]
    refine BIf_dneg (by omega) ?_
    refine HCalls.use (Of_ok (by omega) H) ?_
    simp only [DI_int', DB_bool, DS_string, DP_pointer, DSl_slice, DM_map, DA_agg, DTup_tuple, DCons_cons, DNil_nil, NN_some, BIf_true, BIf_false, BIf_same, List.toList_toArray, Bool.not_true, Bool.not_false]
    exact k
  · have e1 : IntKind.u64.wrap ((t : Int) + ((mid * 4294967295 : Nat) : Int)) = ((t + mid * 4294967295 - 18446744073709551616 : Nat) : Int) := by
      rw [u64a]; omega
    rw [e1]
    refine BIf_dpos (by omega) ?_
    rw [show (4294967295 : Int) = ((4294967295 : Nat) : Int) from rfl, addw (by omega)]
    refine HCalls.use (Of_ok (by omega) H) ?_
    simp only [DI_int', DB_bool, DS_string, DP_pointer, DSl_slice, DM_map, DA_agg, DTup_tuple, DCons_cons, DNil_nil, NN_some, BIf_true, BIf_false, BIf_same, List.toList_toArray, Bool.not_true, Bool.not_false]
    have : (t + mid * 4294967295 - 18446744073709551616 + 4294967295) % 18446744069414584321 = (t + mid * 4294967295) % 18446744069414584321 := by omega
    rw [this]
    exact k

theorem Reduce_ok {hi lo : Nat} (hh : hi < 2 ^ 64) (hl : lo < 2 ^ 64) (H : Hp) : HCalls Tryd.prog 211 #[.agg #[.int .u64 (hi : Int), .int .u64 (lo : Int)]] H (RetE (.int .u64 (((hi * 18446744073709551616 + lo) % 18446744069414584321 : Nat) : Int)) H) := HCalls.ret (by
  apply W_gold_Reduce.ok
  unfold W_gold_Reduce
  refine (Sep.start H).nw fun b1 H1 hs => ?_
  first | refine hs.ldf 1 rfl rfl ?_ | refine hs.ldg 1 rfl rfl ?_
  try simp only [DI_int', DB_bool, DS_string, DP_pointer, DSl_slice, DM_map, DA_agg, DTup_tuple, DCons_cons, DNil_nil, NN_some, BIf_true, BIf_false, BIf_same, List.toList_toArray, Bool.not_true, Bool.not_false]
  refine ⟨by decide, ?_⟩
  first | refine hs.ldf 1 rfl rfl ?_ | refine hs.ldg 1 rfl rfl ?_
  try simp only [DI_int', DB_bool, DS_string, DP_pointer, DSl_slice, DM_map, DA_agg, DTup_tuple, DCons_cons, DNil_nil, NN_some, BIf_true, BIf_false, BIf_same, List.toList_toArray, Bool.not_true, Bool.not_false]
  first | refine hs.ldf 1 rfl rfl ?_ | refine hs.ldg 1 rfl rfl ?_
  try simp only [DI_int', DB_bool, DS_string, DP_pointer, DSl_slice, DM_map, DA_agg, DTup_tuple, DCons_cons, DNil_nil, NN_some, BIf_true, BIf_false, BIf_same, List.toList_toArray, Bool.not_true, Bool.not_false]
  first | refine hs.ldf 1 rfl rfl ?_ | refine hs.ldg 1 rfl rfl ?_
  try simp only [DI_int', DB_bool, DS_string, DP_pointer, DSl_slice, DM_map, DA_agg, DTup_tuple, DCons_cons, DNil_nil, NN_some, BIf_true, BIf_false, BIf_same, List.toList_toArray, Bool.not_true, Bool.not_false]
  rw [shr32, maskN hh]
  by_cases h : lo < hi / 4294967296
  · refine BIf_dpos (by omega) ?_
    have e1 : IntKind.u64.wrap (IntKind.u64.wrap ((lo : Int) - ((hi / 4294967296 : Nat) : Int)) - 4294967295) = ((lo + 18446744069414584321 - hi / 4294967296 : Nat) : Int) := by
      rw [u64mod, u64mod]; omega
    rw [e1]
    refine Reduce_j5 (by omega) (by omega) ?_
    have : (lo + 18446744069414584321 - hi / 4294967296 + hi % 4294967296 * 4294967295) % 18446744069414584321 = (hi * 18446744073709551616 + lo) % 18446744069414584321 := by omega
    rw [this]
    exact hs.fin 0 rfl _
  · refine BIf_dneg (by omega) ?_
    have e1 : IntKind.u64.wrap ((lo : Int) - ((hi / 4294967296 : Nat) : Int)) = ((lo - hi / 4294967296 : Nat) : Int) := by
      rw [u64mod]; omega
    rw [e1]
    refine Reduce_j5 (by omega) (by omega) ?_
    have : (lo - hi / 4294967296 + hi % 4294967296 * 4294967295) % 18446744069414584321 = (hi * 18446744073709551616 + lo) % 18446744069414584321 := by omega
    rw [this]
    exact hs.fin 0 rfl _)

theorem wMul_ok {a b : Nat} (ha : a < 2 ^ 64) (hb : b < 2 ^ 64) (H : Hp) : HCalls Tryd.prog 212 #[.int .u64 (a : Int), .int .u64 (b : Int)] H (RetE (.agg #[.int .u64 ((a * b / 18446744073709551616 : Nat) : Int), .int .u64 ((a * b % 18446744073709551616 : Nat) : Int)]) H) := HCalls.ret (by
  apply W_wide_Mul.ok
  unfold W_wide_Mul
  refine (Sep.start H).nw fun b1 H1 hs => ?_
  refine HCalls.use (Mul64_ok ha hb H1) ?_
  simp only [DI_int', DB_bool, DS_string, DP_pointer, DSl_slice, DM_map, DA_agg, DTup_tuple, DCons_cons, DNil_nil, NN_some, BIf_true, BIf_false, BIf_same, List.toList_toArray, Bool.not_true, Bool.not_false]
  refine hs.stw 1 rfl rfl rfl rfl fun H1 hs => ?_
  refine hs.ldw 1 rfl rfl ?_
  exact hs.fin 0 rfl _)

theorem Mul_ok {a b : Nat} (ha : a < 2 ^ 64) (hb : b < 2 ^ 64) (H : Hp) : HCalls Tryd.prog 179 #[.int .u64 (a : Int), .int .u64 (b : Int)] H (RetE (.int .u64 ((a * b % 18446744069414584321 : Nat) : Int)) H) := by
  apply W_gold_Mul.ok
  unfold W_gold_Mul
  refine HCalls.use (wMul_ok ha hb H) ?_
  simp only [DI_int', DB_bool, DS_string, DP_pointer, DSl_slice, DM_map, DA_agg, DTup_tuple, DCons_cons, DNil_nil, NN_some, BIf_true, BIf_false, BIf_same, List.toList_toArray, Bool.not_true, Bool.not_false]
  have hab : a * b ≤ 18446744073709551615 * 18446744073709551615 := Nat.mul_le_mul (by omega) (by omega)
  generalize a * b = n at *
  refine HCalls.use (Reduce_ok (hi := n / 18446744073709551616) (lo := n % 18446744073709551616) (by omega) (by omega) H) ?_
  simp only [DI_int', DB_bool, DS_string, DP_pointer, DSl_slice, DM_map, DA_agg, DTup_tuple, DCons_cons, DNil_nil, NN_some, BIf_true, BIf_false, BIf_same, List.toList_toArray, Bool.not_true, Bool.not_false]
  have : n / 18446744073709551616 * 18446744073709551616 + n % 18446744073709551616 = n := by omega
  rw [this]
  exact RetE.mk _ _

/-- Low words are added. -/
theorem wAdd_ok {a b : Nat} (ha : a < 2 ^ 64) (hb : b < 2 ^ 64) (H : Hp) : HCalls Tryd.prog 158 #[.agg #[.int .u64 0, .int .u64 (a : Int)], .agg #[.int .u64 0, .int .u64 (b : Int)]] H (RetE (.tuple #[.agg #[.int .u64 (((a + b) / 18446744073709551616 : Nat) : Int), .int .u64 (((a + b) % 18446744073709551616 : Nat) : Int)], .int .u64 0]) H) := HCalls.ret (by
  apply W_wide_Add.ok
  unfold W_wide_Add
  refine (Sep.start H).nw fun b1 H1 hs => ?_
  refine hs.nw fun b2 H1 hs => ?_
  refine hs.nw fun b3 H1 hs => ?_
  first | refine hs.ldf 1 rfl rfl ?_ | refine hs.ldg 1 rfl rfl ?_
  try simp only [DI_int', DB_bool, DS_string, DP_pointer, DSl_slice, DM_map, DA_agg, DTup_tuple, DCons_cons, DNil_nil, NN_some, BIf_true, BIf_false, BIf_same, List.toList_toArray, Bool.not_true, Bool.not_false]
  first | refine hs.ldf 2 rfl rfl ?_ | refine hs.ldg 2 rfl rfl ?_
  try simp only [DI_int', DB_bool, DS_string, DP_pointer, DSl_slice, DM_map, DA_agg, DTup_tuple, DCons_cons, DNil_nil, NN_some, BIf_true, BIf_false, BIf_same, List.toList_toArray, Bool.not_true, Bool.not_false]
  refine ExC_add64 a b 0 (by omega) ?_
  simp only [DI_int', DB_bool, DS_string, DP_pointer, DSl_slice, DM_map, DA_agg, DTup_tuple, DCons_cons, DNil_nil, NN_some, BIf_true, BIf_false, BIf_same, List.toList_toArray, Bool.not_true, Bool.not_false]
  refine hs.stf 3 rfl (Nat.lt_of_sub_eq_succ rfl) rfl fun H1 hs => ?_
  first | refine hs.ldf 1 rfl rfl ?_ | refine hs.ldg 1 rfl rfl ?_
  try simp only [DI_int', DB_bool, DS_string, DP_pointer, DSl_slice, DM_map, DA_agg, DTup_tuple, DCons_cons, DNil_nil, NN_some, BIf_true, BIf_false, BIf_same, List.toList_toArray, Bool.not_true, Bool.not_false]
  first | refine hs.ldf 2 rfl rfl ?_ | refine hs.ldg 2 rfl rfl ?_
  try simp only [DI_int', DB_bool, DS_string, DP_pointer, DSl_slice, DM_map, DA_agg, DTup_tuple, DCons_cons, DNil_nil, NN_some, BIf_true, BIf_false, BIf_same, List.toList_toArray, Bool.not_true, Bool.not_false]
  refine ExC_add64 0 0 ((a + b + 0) / 18446744073709551616) (by omega) ?_
  simp only [DI_int', DB_bool, DS_string, DP_pointer, DSl_slice, DM_map, DA_agg, DTup_tuple, DCons_cons, DNil_nil, NN_some, BIf_true, BIf_false, BIf_same, List.toList_toArray, Bool.not_true, Bool.not_false]
  refine hs.stf 3 rfl (Nat.lt_of_sub_eq_succ rfl) rfl fun H1 hs => ?_
  refine hs.ldw 3 rfl rfl ?_
  refine hs.stw 3 rfl rfl rfl rfl fun H1 hs => ?_
  refine hs.ldw 3 rfl rfl ?_
  have e1 : (0 + 0 + (a + b + 0) / 18446744073709551616) % 18446744073709551616 = (a + b) / 18446744073709551616 := by omega
  have e2 : (0 + 0 + (a + b + 0) / 18446744073709551616) / 18446744073709551616 = 0 := by omega
  rw [e2]
  have hv : Ret (.tuple #[.agg #[.int .u64 (((0 + 0 + (a + b + 0) / 18446744073709551616) % 18446744073709551616 : Nat) : Int), .int .u64 (((a + b + 0) % 18446744073709551616 : Nat) : Int)], .int .u64 ((0 : Nat) : Int)]) H (.tuple #[.agg #[.int .u64 (((0 + 0 + (a + b + 0) / 18446744073709551616) % 18446744073709551616 : Nat) : Int), .int .u64 (((a + b + 0) % 18446744073709551616 : Nat) : Int)], .int .u64 ((0 : Nat) : Int)]) H1 := hs.fin 0 rfl _
  rw [e1] at hv
  rw [e1]
  exact hv)

theorem Add_ok {a b : Nat} (ha : a < 2 ^ 64) (hb : b < 2 ^ 64) (H : Hp) : HCalls Tryd.prog 198 #[.int .u64 (a : Int), .int .u64 (b : Int)] H (RetE (.int .u64 (((a + b) % 18446744069414584321 : Nat) : Int)) H) := HCalls.ret (by
  apply W_gold_Add.ok
  unfold W_gold_Add
  have hs := Sep.start H
  refine HCalls.use (Of_ok ha H) ?_
  simp only [DI_int', DB_bool, DS_string, DP_pointer, DSl_slice, DM_map, DA_agg, DTup_tuple, DCons_cons, DNil_nil, NN_some, BIf_true, BIf_false, BIf_same, List.toList_toArray, Bool.not_true, Bool.not_false]
  refine HCalls.use (Of_ok hb H) ?_
  simp only [DI_int', DB_bool, DS_string, DP_pointer, DSl_slice, DM_map, DA_agg, DTup_tuple, DCons_cons, DNil_nil, NN_some, BIf_true, BIf_false, BIf_same, List.toList_toArray, Bool.not_true, Bool.not_false]
  refine HCalls.use (wAdd_ok (a := a % 18446744069414584321) (b := b % 18446744069414584321) (by omega) (by omega) H) ?_
  simp only [DI_int', DB_bool, DS_string, DP_pointer, DSl_slice, DM_map, DA_agg, DTup_tuple, DCons_cons, DNil_nil, NN_some, BIf_true, BIf_false, BIf_same, List.toList_toArray, Bool.not_true, Bool.not_false]
  refine hs.nw fun b1 H1 hs => ?_
  refine hs.stw 1 rfl rfl rfl rfl fun H1 hs => ?_
  refine hs.ldw 1 rfl rfl ?_
  refine HCalls.use (Reduce_ok (hi := (a % 18446744069414584321 + b % 18446744069414584321) / 18446744073709551616) (lo := (a % 18446744069414584321 + b % 18446744069414584321) % 18446744073709551616) (by omega) (by omega) H1) ?_
  simp only [DI_int', DB_bool, DS_string, DP_pointer, DSl_slice, DM_map, DA_agg, DTup_tuple, DCons_cons, DNil_nil, NN_some, BIf_true, BIf_false, BIf_same, List.toList_toArray, Bool.not_true, Bool.not_false]
  have : ((a % 18446744069414584321 + b % 18446744069414584321) / 18446744073709551616 * 18446744073709551616 + (a % 18446744069414584321 + b % 18446744069414584321) % 18446744073709551616) % 18446744069414584321 = (a + b) % 18446744069414584321 := by omega
  rw [this]
  exact hs.fin 0 rfl _)

end Go.Proofs.YtbnhfcdagoigkaaDoor.Gol

end
section
/-! GolB -/
/- gold: Pow, Neg, Sub, Inv, Div; the reference's Of, Add, Mul, Pow. -/
set_option maxRecDepth 100000
set_option linter.unusedSimpArgs false
set_option linter.unusedVariables false
set_option linter.unnecessarySimpa false
set_option linter.unusedSectionVars false
namespace Go.Proofs.YtbnhfcdagoigkaaDoor.Gol
open Go Go.Hw Go.Proofs.YtbnhfcdagoigkaaDoor.W

theorem mod_add_mul (p x y q : Nat) : (x % p + y % p * q) % p = (x + y * q) % p := by
  rw [Nat.add_mod, Nat.mod_mod, Nat.mul_mod, Nat.mod_mod, ← Nat.mul_mod, ← Nat.add_mod]
theorem mod_mul_pow (p x y q : Nat) : x % p * (y % p) ^ q % p = x * y ^ q % p := by
  rw [Nat.mul_mod, Nat.mod_mod, ← Nat.pow_mod, ← Nat.mul_mod]
theorem mod_mul_pow' (p x y q : Nat) : x * (y % p) ^ q % p = x * y ^ q % p := by
  rw [Nat.mul_mod, ← Nat.pow_mod, ← Nat.mul_mod]
theorem mod_mul_r (p x y : Nat) : x * (y % p) % p = x * y % p := by rw [Nat.mul_mod, Nat.mod_mod, ← Nat.mul_mod]
theorem mod_mul_l (p x y : Nat) : x % p * y % p = x * y % p := by rw [Nat.mul_mod, Nat.mod_mod, ← Nat.mul_mod]

theorem Pow_loop (H : Hp) : ∀ (f n out base : Nat), n < 2 ^ f → f ≤ 64 → out < 18446744069414584321 → base < 18446744069414584321 → W_gold_Pow.l2 (RetE (.int .u64 ((out * base ^ n % 18446744069414584321 : Nat) : Int)) H) (f + 1) (n : Int) (out : Int) (base : Int) H := fun f => by
  generalize hp : 18446744069414584321 = p
  induction f with
  | zero =>
    intro n out base hn hf ho hb
    obtain rfl : n = 0 := by omega
    unfold W_gold_Pow.l2
    refine BIf_dneg (by omega) ?_
    rw [Nat.pow_zero, Nat.mul_one, Nat.mod_eq_of_lt ho]
    exact RetE.mk _ _
  | succ f ih =>
    intro n out base hn hf ho hb
    have hp0 : 0 < p := by omega
    have h64 : 2 ^ (f + 1) ≤ 2 ^ 64 := Nat.pow_le_pow_right (by omega) hf
    have hs : 2 ^ (f + 1) = 2 * 2 ^ f := by rw [Nat.pow_succ]; omega
    have hn2 : n / 2 < 2 ^ f := by omega
    unfold W_gold_Pow.l2
    by_cases h0 : n = 0
    · subst h0
      refine BIf_dneg (by omega) ?_
      rw [Nat.pow_zero, Nat.mul_one, Nat.mod_eq_of_lt ho]
      exact RetE.mk _ _
    refine BIf_dpos (by omega) ?_
    have hand : bAnd .u64 (n : Int) 1 = ((n % 2 : Nat) : Int) := by
      rw [show (1 : Int) = ((1 : Nat) : Int) from rfl, andN (by omega) (by omega), Nat.and_one_is_mod]
    have hshr : shrI .u64 (n : Int) 1 = ((n / 2 : Nat) : Int) := by
      rw [shrN (k := .u64) (a := n) (i := 1) (n := 1) rfl (by decide)]
    rw [hand, hshr]
    have hq := Nat.mod_lt (base * base) hp0
    have hq2 := Nat.mod_lt (out * base) hp0
    by_cases h1 : n % 2 = 1
    · refine BIf_beqp (by omega) ?_
      refine HCalls.use (Mul_ok (a := out) (b := base) (by omega) (by omega) H) ?_
      rw [hp]
      simp only [DI_int', DB_bool, DS_string, DP_pointer, DSl_slice, DM_map, DA_agg, DTup_tuple, DCons_cons, DNil_nil, NN_some, BIf_true, BIf_false, BIf_same, List.toList_toArray, Bool.not_true, Bool.not_false]
      refine HCalls.use (Mul_ok (a := base) (b := base) (by omega) (by omega) H) ?_
      rw [hp]
      simp only [DI_int', DB_bool, DS_string, DP_pointer, DSl_slice, DM_map, DA_agg, DTup_tuple, DCons_cons, DNil_nil, NN_some, BIf_true, BIf_false, BIf_same, List.toList_toArray, Bool.not_true, Bool.not_false]
      refine ⟨by decide, ?_⟩
      have := ih (n / 2) (out * base % p) (base * base % p) hn2 (by omega) hq2 hq
      rw [mod_mul_pow, show out * base * (base * base) ^ (n / 2) = out * base ^ n by
        rw [← Nat.pow_two, ← Nat.pow_mul, Nat.mul_assoc, ← Nat.pow_succ', Nat.succ_eq_add_one, show 2 * (n / 2) + 1 = n by omega]] at this
      exact this
    · refine BIf_beqn (by omega) ?_
      refine HCalls.use (Mul_ok (a := base) (b := base) (by omega) (by omega) H) ?_
      rw [hp]
      simp only [DI_int', DB_bool, DS_string, DP_pointer, DSl_slice, DM_map, DA_agg, DTup_tuple, DCons_cons, DNil_nil, NN_some, BIf_true, BIf_false, BIf_same, List.toList_toArray, Bool.not_true, Bool.not_false]
      refine ⟨by decide, ?_⟩
      have := ih (n / 2) out (base * base % p) hn2 (by omega) ho hq
      rw [mod_mul_pow', show out * (base * base) ^ (n / 2) = out * base ^ n by
        rw [← Nat.pow_two, ← Nat.pow_mul, show 2 * (n / 2) = n by omega]] at this
      exact this

theorem Pow_ok {a n : Nat} (ha : a < 2 ^ 64) (hn : n < 2 ^ 64) (H : Hp) : HCalls Tryd.prog 181 #[.int .u64 (a : Int), .int .u64 (n : Int)] H (RetE (.int .u64 ((a ^ n % 18446744069414584321 : Nat) : Int)) H) := by
  apply W_gold_Pow.ok
  unfold W_gold_Pow
  refine HCalls.use (Of_ok ha H) ?_
  simp only [DI_int', DB_bool, DS_string, DP_pointer, DSl_slice, DM_map, DA_agg, DTup_tuple, DCons_cons, DNil_nil, NN_some, BIf_true, BIf_false, BIf_same, List.toList_toArray, Bool.not_true, Bool.not_false]
  refine ⟨65, ?_⟩
  have := Pow_loop H 64 n 1 (a % 18446744069414584321) hn (by omega) (by omega) (by omega)
  rw [Nat.one_mul, ← Nat.pow_mod] at this
  exact this

def neg (a : Nat) : Nat := (18446744069414584321 - a % 18446744069414584321) % 18446744069414584321
theorem Neg_ok {a : Nat} (ha : a < 2 ^ 64) (H : Hp) : HCalls Tryd.prog 229 #[.int .u64 (a : Int)] H (RetE (.int .u64 ((neg a : Nat) : Int)) H) := by
  apply W_gold_Neg.ok
  unfold W_gold_Neg neg
  refine HCalls.use (Of_ok ha H) ?_
  simp only [DI_int', DB_bool, DS_string, DP_pointer, DSl_slice, DM_map, DA_agg, DTup_tuple, DCons_cons, DNil_nil, NN_some, BIf_true, BIf_false, BIf_same, List.toList_toArray, Bool.not_true, Bool.not_false]
  by_cases h : a % 18446744069414584321 = 0
  · rw [h]
    exact BIf_beqp rfl (RetE.mk _ _)
  · refine BIf_beqn (by omega) ?_
    rw [u64w (by omega) (by omega)]
    have : (18446744069414584321 : Int) - ((a % 18446744069414584321 : Nat) : Int) = (((18446744069414584321 - a % 18446744069414584321) % 18446744069414584321 : Nat) : Int) := by omega
    rw [this]
    exact RetE.mk _ _

def sub (a b : Nat) : Nat := (a + neg b) % 18446744069414584321
theorem Sub_ok {a b : Nat} (ha : a < 2 ^ 64) (hb : b < 2 ^ 64) (H : Hp) : HCalls Tryd.prog 226 #[.int .u64 (a : Int), .int .u64 (b : Int)] H (RetE (.int .u64 ((sub a b : Nat) : Int)) H) := by
  apply W_gold_Sub.ok
  unfold W_gold_Sub
  refine HCalls.use (Neg_ok hb H) ?_
  simp only [DI_int', DB_bool, DS_string, DP_pointer, DSl_slice, DM_map, DA_agg, DTup_tuple, DCons_cons, DNil_nil, NN_some, BIf_true, BIf_false, BIf_same, List.toList_toArray, Bool.not_true, Bool.not_false]
  refine HCalls.use (Add_ok (a := a) (b := neg b) ha (by unfold neg; omega) H) ?_
  simp only [DI_int', DB_bool, DS_string, DP_pointer, DSl_slice, DM_map, DA_agg, DTup_tuple, DCons_cons, DNil_nil, NN_some, BIf_true, BIf_false, BIf_same, List.toList_toArray, Bool.not_true, Bool.not_false]
  exact RetE.mk _ _

/-- The inverse. -/
def eInv : Nat := 18446744069414584319
def ginv (a : Nat) : Nat := a ^ eInv % 18446744069414584321
theorem ginv_lt (a : Nat) : ginv a < 18446744069414584321 := by
  unfold ginv
  generalize a ^ eInv = z
  omega
theorem inv_pow {a : Nat} (ha : a < 2 ^ 64) (e : Nat) (he : e = 18446744069414584319) (H : Hp) : HCalls Tryd.prog 181 #[.int .u64 (a : Int), .int .u64 (e : Int)] H (RetE (.int .u64 ((a ^ e % 18446744069414584321 : Nat) : Int)) H) := Pow_ok ha (by omega) H
theorem Inv_ok {a : Nat} (ha : a < 2 ^ 64) (h0 : a % 18446744069414584321 ≠ 0) (H : Hp) : HCalls Tryd.prog 143 #[.int .u64 (a : Int)] H (RetE (.tuple #[.int .u64 ((ginv a : Nat) : Int), .int .i64 0]) H) := by
  apply W_gold_Inv.ok
  unfold W_gold_Inv
  refine HCalls.use (Of_ok ha H) ?_
  simp only [DI_int', DB_bool, DS_string, DP_pointer, DSl_slice, DM_map, DA_agg, DTup_tuple, DCons_cons, DNil_nil, NN_some, BIf_true, BIf_false, BIf_same, List.toList_toArray, Bool.not_true, Bool.not_false]
  refine BIf_beqn (by omega) ?_
  have hP : HCalls Tryd.prog 181 #[.int .u64 (a : Int), .int .u64 18446744069414584319] H (RetE (.int .u64 ((ginv a : Nat) : Int)) H) := by
    have h := inv_pow ha eInv rfl H
    unfold ginv
    rw [show (18446744069414584319 : Int) = ((eInv : Nat) : Int) from rfl]
    exact h
  refine HCalls.use hP ?_
  simp only [DI_int', DB_bool, DS_string, DP_pointer, DSl_slice, DM_map, DA_agg, DTup_tuple, DCons_cons, DNil_nil, NN_some, BIf_true, BIf_false, BIf_same, List.toList_toArray, Bool.not_true, Bool.not_false]
  exact RetE.mk _ _
theorem Inv_no {a : Nat} (ha : a < 2 ^ 64) (h0 : a % 18446744069414584321 = 0) (H : Hp) : HCalls Tryd.prog 143 #[.int .u64 (a : Int)] H (RetE (.tuple #[.int .u64 0, .int .i64 13]) H) := by
  apply W_gold_Inv.ok
  unfold W_gold_Inv
  refine HCalls.use (Of_ok ha H) ?_
  simp only [DI_int', DB_bool, DS_string, DP_pointer, DSl_slice, DM_map, DA_agg, DTup_tuple, DCons_cons, DNil_nil, NN_some, BIf_true, BIf_false, BIf_same, List.toList_toArray, Bool.not_true, Bool.not_false]
  exact BIf_beqp (by omega) (RetE.mk _ _)

/-! ## The reference -/

theorem rOf_ok {a : Nat} (H : Hp) : HCalls Tryd.prog 112 #[.int .u64 (a : Int)] H (RetE (.int .u64 ((a % 18446744069414584321 : Nat) : Int)) H) := by
  apply W_abacistref02_Of.ok
  unfold W_abacistref02_Of
  exact ⟨by decide, by simp, RetE.mk _ _⟩

theorem rAdd_ok {a b : Nat} (H : Hp) : HCalls Tryd.prog 148 #[.int .u64 (a : Int), .int .u64 (b : Int)] H (RetE (.int .u64 (((a + b) % 18446744069414584321 : Nat) : Int)) H) := by
  apply W_abacistref02_Add.ok
  unfold W_abacistref02_Add
  refine HCalls.use (rOf_ok (a := a) H) ?_
  simp only [DI_int', DB_bool, DS_string, DP_pointer, DSl_slice, DM_map, DA_agg, DTup_tuple, DCons_cons, DNil_nil, NN_some, BIf_true, BIf_false, BIf_same, List.toList_toArray, Bool.not_true, Bool.not_false]
  refine HCalls.use (rOf_ok (a := b) H) ?_
  simp only [DI_int', DB_bool, DS_string, DP_pointer, DSl_slice, DM_map, DA_agg, DTup_tuple, DCons_cons, DNil_nil, NN_some, BIf_true, BIf_false, BIf_same, List.toList_toArray, Bool.not_true, Bool.not_false]
  rw [u64w (x := 18446744069414584321 - ((b % 18446744069414584321 : Nat) : Int)) (by omega) (by omega)]
  by_cases h : ((a % 18446744069414584321 : Nat) : Int) ≥ 18446744069414584321 - ((b % 18446744069414584321 : Nat) : Int)
  · refine BIf_dpos h ?_
    rw [u64w (by omega) (by omega)]
    have : ((a % 18446744069414584321 : Nat) : Int) - (18446744069414584321 - ((b % 18446744069414584321 : Nat) : Int)) = (((a + b) % 18446744069414584321 : Nat) : Int) := by omega
    rw [this]
    exact RetE.mk _ _
  · refine BIf_dneg h ?_
    rw [u64w (by omega) (by omega)]
    have : ((a % 18446744069414584321 : Nat) : Int) + ((b % 18446744069414584321 : Nat) : Int) = (((a + b) % 18446744069414584321 : Nat) : Int) := by omega
    rw [this]
    exact RetE.mk _ _

theorem rMul_loop (H : Hp) : ∀ (f n out base : Nat), n < 2 ^ f → f ≤ 64 → out < 18446744069414584321 → W_abacistref02_Mul.l3 (RetE (.int .u64 (((out + base * n) % 18446744069414584321 : Nat) : Int)) H) (f + 1) (base : Int) (n : Int) (out : Int) H := fun f => by
  generalize hp : 18446744069414584321 = p
  induction f with
  | zero =>
    intro n out base hn hf ho
    obtain rfl : n = 0 := by omega
    unfold W_abacistref02_Mul.l3
    refine BIf_dneg (by omega) ?_
    rw [Nat.mul_zero, Nat.add_zero, Nat.mod_eq_of_lt ho]
    exact RetE.mk _ _
  | succ f ih =>
    intro n out base hn hf ho
    have hp0 : 0 < p := by omega
    have h64 : 2 ^ (f + 1) ≤ 2 ^ 64 := Nat.pow_le_pow_right (by omega) hf
    have hs : 2 ^ (f + 1) = 2 * 2 ^ f := by rw [Nat.pow_succ]; omega
    have hn2 : n / 2 < 2 ^ f := by omega
    unfold W_abacistref02_Mul.l3
    by_cases h0 : n = 0
    · subst h0
      refine BIf_dneg (by omega) ?_
      rw [Nat.mul_zero, Nat.add_zero, Nat.mod_eq_of_lt ho]
      exact RetE.mk _ _
    refine BIf_dpos (by omega) ⟨by decide, by simp, ?_⟩
    have hm : Int.tmod (n : Int) 2 = ((n % 2 : Nat) : Int) := rfl
    have hd : IntKind.u64.wrap (Int.tdiv (n : Int) 2) = ((n / 2 : Nat) : Int) := by
      rw [show Int.tdiv (n : Int) 2 = ((n / 2 : Nat) : Int) from rfl, u64n (by omega)]
    rw [hm, hd]
    have hq2 := Nat.mod_lt (out + base) hp0
    by_cases h1 : n % 2 = 1
    · refine BIf_beqp (by omega) ?_
      refine HCalls.use (rAdd_ok (a := out) (b := base) H) ?_
      rw [hp]
      simp only [DI_int', DB_bool, DS_string, DP_pointer, DSl_slice, DM_map, DA_agg, DTup_tuple, DCons_cons, DNil_nil, NN_some, BIf_true, BIf_false, BIf_same, List.toList_toArray, Bool.not_true, Bool.not_false]
      refine HCalls.use (rAdd_ok (a := base) (b := base) H) ?_
      rw [hp]
      simp only [DI_int', DB_bool, DS_string, DP_pointer, DSl_slice, DM_map, DA_agg, DTup_tuple, DCons_cons, DNil_nil, NN_some, BIf_true, BIf_false, BIf_same, List.toList_toArray, Bool.not_true, Bool.not_false]
      refine ⟨by decide, by simp, ?_⟩
      have := ih (n / 2) ((out + base) % p) ((base + base) % p) hn2 (by omega) hq2
      rw [mod_add_mul, show out + base + (base + base) * (n / 2) = out + base * n by
        rw [← Nat.two_mul, Nat.mul_comm 2, Nat.mul_assoc, Nat.add_assoc, Nat.add_comm base, ← Nat.mul_succ, Nat.succ_eq_add_one, show 2 * (n / 2) + 1 = n by omega]] at this
      exact this
    · refine BIf_beqn (by omega) ?_
      refine HCalls.use (rAdd_ok (a := base) (b := base) H) ?_
      rw [hp]
      simp only [DI_int', DB_bool, DS_string, DP_pointer, DSl_slice, DM_map, DA_agg, DTup_tuple, DCons_cons, DNil_nil, NN_some, BIf_true, BIf_false, BIf_same, List.toList_toArray, Bool.not_true, Bool.not_false]
      refine ⟨by decide, by simp, ?_⟩
      have := ih (n / 2) out ((base + base) % p) hn2 (by omega) ho
      have e := mod_add_mul p out (base + base) (n / 2)
      rw [Nat.mod_eq_of_lt ho] at e
      rw [e, show out + (base + base) * (n / 2) = out + base * n by
        rw [← Nat.two_mul, Nat.mul_comm 2, Nat.mul_assoc, show 2 * (n / 2) = n by omega]] at this
      exact this

theorem rMul_ok {a b : Nat} (hb : b < 2 ^ 64) (H : Hp) : HCalls Tryd.prog 113 #[.int .u64 (a : Int), .int .u64 (b : Int)] H (RetE (.int .u64 ((a * b % 18446744069414584321 : Nat) : Int)) H) := by
  apply W_abacistref02_Mul.ok
  unfold W_abacistref02_Mul
  refine HCalls.use (rOf_ok (a := a) H) ?_
  simp only [DI_int', DB_bool, DS_string, DP_pointer, DSl_slice, DM_map, DA_agg, DTup_tuple, DCons_cons, DNil_nil, NN_some, BIf_true, BIf_false, BIf_same, List.toList_toArray, Bool.not_true, Bool.not_false]
  refine ⟨65, ?_⟩
  have := rMul_loop H 64 b 0 (a % 18446744069414584321) hb (by omega) (by omega)
  rw [Nat.zero_add, mod_mul_l] at this
  exact this

theorem rPow_loop (H : Hp) : ∀ (f n out base : Nat), n < 2 ^ f → f ≤ 64 → out < 18446744069414584321 → base < 18446744069414584321 → W_abacistref02_Pow.l3 (RetE (.int .u64 ((out * base ^ n % 18446744069414584321 : Nat) : Int)) H) (f + 1) (base : Int) (n : Int) (out : Int) H := fun f => by
  generalize hp : 18446744069414584321 = p
  induction f with
  | zero =>
    intro n out base hn hf ho hb
    obtain rfl : n = 0 := by omega
    unfold W_abacistref02_Pow.l3
    refine BIf_dneg (by omega) ?_
    rw [Nat.pow_zero, Nat.mul_one, Nat.mod_eq_of_lt ho]
    exact RetE.mk _ _
  | succ f ih =>
    intro n out base hn hf ho hb
    have hp0 : 0 < p := by omega
    have h64 : 2 ^ (f + 1) ≤ 2 ^ 64 := Nat.pow_le_pow_right (by omega) hf
    have hs : 2 ^ (f + 1) = 2 * 2 ^ f := by rw [Nat.pow_succ]; omega
    have hn2 : n / 2 < 2 ^ f := by omega
    unfold W_abacistref02_Pow.l3
    by_cases h0 : n = 0
    · subst h0
      refine BIf_dneg (by omega) ?_
      rw [Nat.pow_zero, Nat.mul_one, Nat.mod_eq_of_lt ho]
      exact RetE.mk _ _
    refine BIf_dpos (by omega) ⟨by decide, by simp, ?_⟩
    have hm : Int.tmod (n : Int) 2 = ((n % 2 : Nat) : Int) := rfl
    have hd : IntKind.u64.wrap (Int.tdiv (n : Int) 2) = ((n / 2 : Nat) : Int) := by
      rw [show Int.tdiv (n : Int) 2 = ((n / 2 : Nat) : Int) from rfl, u64n (by omega)]
    rw [hm, hd]
    have hq := Nat.mod_lt (base * base) hp0
    have hq2 := Nat.mod_lt (out * base) hp0
    by_cases h1 : n % 2 = 1
    · refine BIf_beqp (by omega) ?_
      refine HCalls.use (rMul_ok (a := out) (b := base) (by omega) H) ?_
      rw [hp]
      simp only [DI_int', DB_bool, DS_string, DP_pointer, DSl_slice, DM_map, DA_agg, DTup_tuple, DCons_cons, DNil_nil, NN_some, BIf_true, BIf_false, BIf_same, List.toList_toArray, Bool.not_true, Bool.not_false]
      refine HCalls.use (rMul_ok (a := base) (b := base) (by omega) H) ?_
      rw [hp]
      simp only [DI_int', DB_bool, DS_string, DP_pointer, DSl_slice, DM_map, DA_agg, DTup_tuple, DCons_cons, DNil_nil, NN_some, BIf_true, BIf_false, BIf_same, List.toList_toArray, Bool.not_true, Bool.not_false]
      refine ⟨by decide, by simp, ?_⟩
      have := ih (n / 2) (out * base % p) (base * base % p) hn2 (by omega) hq2 hq
      rw [mod_mul_pow, show out * base * (base * base) ^ (n / 2) = out * base ^ n by
        rw [← Nat.pow_two, ← Nat.pow_mul, Nat.mul_assoc, ← Nat.pow_succ', Nat.succ_eq_add_one, show 2 * (n / 2) + 1 = n by omega]] at this
      exact this
    · refine BIf_beqn (by omega) ?_
      refine HCalls.use (rMul_ok (a := base) (b := base) (by omega) H) ?_
      rw [hp]
      simp only [DI_int', DB_bool, DS_string, DP_pointer, DSl_slice, DM_map, DA_agg, DTup_tuple, DCons_cons, DNil_nil, NN_some, BIf_true, BIf_false, BIf_same, List.toList_toArray, Bool.not_true, Bool.not_false]
      refine ⟨by decide, by simp, ?_⟩
      have := ih (n / 2) out (base * base % p) hn2 (by omega) ho hq
      rw [mod_mul_pow', show out * (base * base) ^ (n / 2) = out * base ^ n by
        rw [← Nat.pow_two, ← Nat.pow_mul, show 2 * (n / 2) = n by omega]] at this
      exact this

theorem rPow_ok {a n : Nat} (hn : n < 2 ^ 64) (H : Hp) : HCalls Tryd.prog 73 #[.int .u64 (a : Int), .int .u64 (n : Int)] H (RetE (.int .u64 ((a ^ n % 18446744069414584321 : Nat) : Int)) H) := by
  apply W_abacistref02_Pow.ok
  unfold W_abacistref02_Pow
  refine HCalls.use (rOf_ok (a := a) H) ?_
  simp only [DI_int', DB_bool, DS_string, DP_pointer, DSl_slice, DM_map, DA_agg, DTup_tuple, DCons_cons, DNil_nil, NN_some, BIf_true, BIf_false, BIf_same, List.toList_toArray, Bool.not_true, Bool.not_false]
  refine ⟨65, ?_⟩
  have := rPow_loop H 64 n 1 (a % 18446744069414584321) hn (by omega) (by omega) (by omega)
  rw [Nat.one_mul, ← Nat.pow_mod] at this
  exact this

end Go.Proofs.YtbnhfcdagoigkaaDoor.Gol

end
section
/-! Wlslices -/
/- Formulas of functions, printed by wip/tools/hwp.py. -/
set_option maxRecDepth 100000
set_option linter.unusedVariables false
namespace Go.Proofs.YtbnhfcdagoigkaaDoor.W
open Go Go.Hw

theorem mixWlslices : Tryd.prog.follows .mixedOrders = true := by kernel_rfl
-- slices.IndexFunc[[]uint64,uint64]
def W_slices_IndexFunc_uint64_uint64.l2 (K : Value → Hp → Prop) : Nat → Option Addr → Nat → Nat → FuncId → Array Value → Array Value → Int → Int → Hp → Prop
  | 0, _, _, _, _, _, _, _, _, _ => False
  | k + 1, A2, n2, m2, fd2, F2, C2, x1, x2, H =>
    let R2 := W_slices_IndexFunc_uint64_uint64.l2 K k
    BIf (decide (x2 < x1)) (ixI x2 n2 (NN A2 fun a1 => Ld H (a1.add (x2.toNat * 1)) fun v1 => DI .u64 v1 fun x3 => CallK Tryd.prog fd2 ((F2 ++ #[.int .u64 x3]) ++ C2) H fun v2 H1 => DR Tryd.prog (resTypes Tryd.prog fd2) v2 fun v3 => DB v3 fun c1 => BIf c1 (K (.int .i64 x2) H1) (R2 A2 n2 m2 fd2 F2 C2 x1 (IntKind.i64.wrap (x2 + (1 : Int))) H1))) (K (.int .i64 (-1 : Int)) H)
def W_slices_IndexFunc_uint64_uint64 (A1 : Option Addr) (n1 : Nat) (m1 : Nat) (fd1 : FuncId) (F1 : Array Value) (C1 : Array Value) (H : Hp) (K : Value → Hp → Prop) : Prop :=
  (∃ k, W_slices_IndexFunc_uint64_uint64.l2 K k A1 n1 m1 fd1 F1 C1 ((n1 : Nat) : Int) (0 : Int) H)
def W_slices_IndexFunc_uint64_uint64.l2.L (K : Value → Hp → Prop) (k : Nat) : Mid := fun E D H =>
  DG (E.get? 0) fun w0 => DSl w0 fun A2 n2 m2 => DG (E.get? 1) fun w1 => DFn w1 fun fd2 F2 C2 => DG (E.get? 7) fun w7 => DI .i64 w7 fun x1 => DG (E.get? 8) fun w8 => DI .i64 w8 fun x2 => DNilD D (W_slices_IndexFunc_uint64_uint64.l2 K k A2 n2 m2 fd2 F2 C2 x1 x2 H)
def W_slices_IndexFunc_uint64_uint64.Λ2 (_ : Value → Hp → Prop) (_R2 : Option Addr → Nat → Nat → FuncId → Array Value → Array Value → Int → Int → Hp → Prop) : Cuts := Cuts.none (fun _ => none)
def W_slices_IndexFunc_uint64_uint64.Λ (K : Value → Hp → Prop) : Cuts := ⟨fun i => none, fun i => match Nat.beq i 2 with | true => some (fun E D H => ∃ k, W_slices_IndexFunc_uint64_uint64.l2.L K k E D H) | false => none, (fun _ => none)⟩
theorem W_slices_IndexFunc_uint64_uint64.ok (A1 : Option Addr) (n1 : Nat) (m1 : Nat) (fd1 : FuncId) (F1 : Array Value) (C1 : Array Value) (H : Hp) (K : Value → Hp → Prop) (h : W_slices_IndexFunc_uint64_uint64 A1 n1 m1 fd1 F1 C1 H K) : HCalls Tryd.prog 83 #[.slice A1 n1 m1, .func (.func fd1) F1 C1] H K :=
  hcalls Tryd.func83 rfl (Nat.le_of_ble_eq_true rfl) (hw_safe (Λ := (W_slices_IndexFunc_uint64_uint64.Λ K)) mixWlslices _ _ _ _ _ (Eq.mp (by kernel_rfl) h) (obs_seq obs_region rfl (obs_seq (obs_seq obs_region rfl (obs_block (obs_loop rfl (fun E D H h => by
      refine Safe.loop' (W_slices_IndexFunc_uint64_uint64.l2.L K) (fun E D H h => ?_) (fun k E D H h => ?_) E D H h
      · obtain ⟨w0, e0, g1⟩ := DG.out h; obtain ⟨A2, n2, m2, rfl, g2⟩ := DSl.out g1; obtain ⟨w1, e1, g3⟩ := DG.out g2; obtain ⟨fd2, F2, C2, rfl, g4⟩ := DFn.out g3; obtain ⟨w7, e7, g5⟩ := DG.out g4; obtain ⟨x1, rfl, g6⟩ := DI.out g5; obtain ⟨w8, e8, g7⟩ := DG.out g6; obtain ⟨x2, rfl, g8⟩ := DI.out g7; obtain ⟨rfl, h'⟩ := DNilD.out g8; exact h'
      · obtain ⟨w0, e0, g1⟩ := DG.out h
        obtain ⟨A2, n2, m2, rfl, g2⟩ := DSl.out g1
        obtain ⟨w1, e1, g3⟩ := DG.out g2
        obtain ⟨fd2, F2, C2, rfl, g4⟩ := DFn.out g3
        obtain ⟨w7, e7, g5⟩ := DG.out g4
        obtain ⟨x1, rfl, g6⟩ := DI.out g5
        obtain ⟨w8, e8, g7⟩ := DG.out g6
        obtain ⟨x2, rfl, g8⟩ := DI.out g7
        obtain ⟨rfl, h'⟩ := DNilD.out g8
        exact (hw_safe (Λ := (W_slices_IndexFunc_uint64_uint64.Λ2 K (W_slices_IndexFunc_uint64_uint64.l2 K k))) mixWlslices _ _ [(0, .slice A2 n2 m2), (1, .func (.func fd2) F2 C2), (7, .int .i64 x1), (8, .int .i64 x2)] [] H (Eq.mp (by kernel_rfl) h') (obs_seq obs_region rfl (obs_seq (obs_cond obs_skip obs_exit) rfl (obs_seq (obs_block (obs_seq obs_region rfl (obs_seq obs_region rfl (obs_cond (obs_seq obs_region rfl obs_ret) obs_skip)))) rfl obs_region)))).weaken (EnvLe.cons e0 (EnvLe.cons e1 (EnvLe.cons e7 (EnvLe.cons e8 (EnvLe.nil _))))) (Hp.le_refl _))))) rfl (obs_seq obs_region rfl obs_ret))))

end Go.Proofs.YtbnhfcdagoigkaaDoor.W

end
section
/-! Wgen -/
/- Formulas of functions, printed by wip/tools/hwp.py. -/
set_option maxRecDepth 100000
set_option linter.unusedVariables false
namespace Go.Proofs.YtbnhfcdagoigkaaDoor.W
open Go Go.Hw

theorem mixWgen : Tryd.prog.follows .mixedOrders = true := by kernel_rfl
-- gen.Line
def W_gen_Line (x1 : Int) (x2 : Int) (x3 : Int) (x4 : Int) (H : Hp) (K : Value → Hp → Prop) : Prop :=
  Nw H (.obj (.cells #[.int .i64 x1, .int .u64 x2, .int .u64 x3, .int .u64 x4] 102)) fun b1 H1 => LdA H1 (⟨b1, 0, none⟩ : Addr) 4 fun l1 => HCalls Tryd.prog 91 #[.agg l1.toArray] H1 fun v1 H2 => DB v1 fun c1 => BIf (!c1) (K (.string (⟨#[]⟩)) H2) (Ld H2 ((⟨b1, 0, none⟩ : Addr).add 0) fun v2 => DI .i64 v2 fun x5 => ixI x5 6 (LdA H2 ((⟨1, 0, none⟩ : Addr).add (x5.toNat * 2)) 2 fun l2 => Nw H2 (.obj (.cells #[.string ByteArray.empty, .int .i64 (0 : Int)] 170)) fun b2 H3 => StA H3 (⟨b2, 0, none⟩ : Addr) l2.toArray 2 fun H4 => Ld H4 ((⟨b1, 0, none⟩ : Addr).add 1) fun v3 => DI .u64 v3 fun x6 => Ld H4 ((⟨b1, 0, none⟩ : Addr).add 2) fun v4 => DI .u64 v4 fun x7 => Ld H4 ((⟨b1, 0, none⟩ : Addr).add 3) fun v5 => DI .u64 v5 fun x8 => Ld H4 ((⟨b2, 0, none⟩ : Addr).add 1) fun v6 => DI .i64 v6 fun x9 => (Ld H4 ((⟨b2, 0, none⟩ : Addr).add 0) fun v7 => DS v7 fun s1 => (s1.size + ((⟨#[32]⟩) : ByteArray).size ≤ 4611686018427387904 ∧ Nw H4 (.row [.int .u64 x6, .int .u64 x7, .int .u64 x8] 22 3) fun b3 H5 => slB 3 3 none (some x9) fun n1 n2 => HCalls Tryd.prog 33 #[.slice (slA (some ⟨b3, 0, none⟩) 3 n1 1) (n2 - n1) (3 - n1)] H5 fun v8 H6 => DS v8 fun s2 => ((s1 ++ (⟨#[32]⟩)).size + s2.size ≤ 4611686018427387904 ∧ K (.string ((s1 ++ (⟨#[32]⟩)) ++ s2)) H6))) ∧ (Nw H4 (.row [.int .u64 x6, .int .u64 x7, .int .u64 x8] 22 3) fun b4 H7 => slB 3 3 none (some x9) fun n3 n4 => (Ld H7 ((⟨b2, 0, none⟩ : Addr).add 0) fun v9 => DS v9 fun s3 => (s3.size + ((⟨#[32]⟩) : ByteArray).size ≤ 4611686018427387904 ∧ HCalls Tryd.prog 33 #[.slice (slA (some ⟨b4, 0, none⟩) 3 n3 1) (n4 - n3) (3 - n3)] H7 fun v10 H8 => DS v10 fun s4 => ((s3 ++ (⟨#[32]⟩)).size + s4.size ≤ 4611686018427387904 ∧ K (.string ((s3 ++ (⟨#[32]⟩)) ++ s4)) H8))) ∧ (HCalls Tryd.prog 33 #[.slice (slA (some ⟨b4, 0, none⟩) 3 n3 1) (n4 - n3) (3 - n3)] H7 fun v11 H9 => DS v11 fun s5 => Ld H9 ((⟨b2, 0, none⟩ : Addr).add 0) fun v12 => DS v12 fun s6 => (s6.size + ((⟨#[32]⟩) : ByteArray).size ≤ 4611686018427387904 ∧ ((s6 ++ (⟨#[32]⟩)).size + s5.size ≤ 4611686018427387904 ∧ K (.string ((s6 ++ (⟨#[32]⟩)) ++ s5)) H9))))))
def W_gen_Line.Λ (_ : Value → Hp → Prop) : Cuts := Cuts.none (fun i => match Nat.beq i 4 with | true => some ([1, 4, 6, 8, 11], [], 0) | false => none)
theorem W_gen_Line.ok (x1 : Int) (x2 : Int) (x3 : Int) (x4 : Int) (H : Hp) (K : Value → Hp → Prop) (h : W_gen_Line x1 x2 x3 x4 H K) : HCalls Tryd.prog 49 #[.agg #[.int .i64 x1, .int .u64 x2, .int .u64 x3, .int .u64 x4]] H K :=
  hcalls Tryd.func49 rfl (Nat.le_of_ble_eq_true rfl) (hw_safe (Λ := Cuts.none (fun i => match Nat.beq i 4 with | true => some ([1, 4, 6, 8, 11], [], 0) | false => none)) mixWgen _ _ _ _ _ (Eq.mp (by kernel_rfl) h) (obs_none _ _ _ _ _))

-- gen.Read
def W_gen_Read.l3 (K : Value → Hp → Prop) : Nat → Addr → ByteArray → ByteArray → Array Value → Int → Hp → Prop
  | 0, _, _, _, _, _, _ => False
  | k + 1, a1, s4, s5, y1, x1, H =>
    let R3 := W_gen_Read.l3 K k
    BIf (decide (x1 < (6 : Int))) (ixI x1 6 (Nw H (.obj (.cells #[.string ByteArray.empty, .int .i64 (0 : Int)] 170)) fun b2 H3 => StA H3 (⟨b2, 0, none⟩ : Addr) (y1.extract (x1.toNat * 2) (x1.toNat * 2 + 2)) 2 fun H4 => BIf (x1 == (0 : Int)) (R3 a1 s4 s5 y1 (IntKind.i64.wrap (x1 + (1 : Int))) H4) (Ld H4 ((⟨b2, 0, none⟩ : Addr).add 0) fun v5 => DS v5 fun s6 => BIf (!(s6.toList == s4.toList)) (R3 a1 s4 s5 y1 (IntKind.i64.wrap (x1 + (1 : Int))) H4) (HCalls Tryd.prog 34 #[.string s5] H4 fun v6 H5 => DTup v6 fun l6 => DCons l6 fun v7 l7 => DSl v7 fun A1 n1 m1 => DCons l7 fun v8 l8 => DI .i64 v8 fun x2 => DCons l8 fun v9 l9 => DI .i64 v9 fun x3 => DNil l9 (BIf (x3 != (0 : Int)) (StA H5 a1 #[.int .i64 (0 : Int), .int .u64 (0 : Int), .int .u64 (0 : Int), .int .u64 (0 : Int)] 4 fun H6 => LdA H6 a1 4 fun l12 => K (.tuple #[.agg l12.toArray, .int .i64 x3]) H6) (Ld H5 ((⟨b2, 0, none⟩ : Addr).add 1) fun v10 => DI .i64 v10 fun x4 => BIf (((n1 : Nat) : Int) != x4) (StA H5 a1 #[.int .i64 (0 : Int), .int .u64 (0 : Int), .int .u64 (0 : Int), .int .u64 (0 : Int)] 4 fun H7 => LdA H7 a1 4 fun l13 => K (.tuple #[.agg l13.toArray, .int .i64 (17 : Int)]) H7) (Nw H5 (.obj (.cells #[.int .u64 (0 : Int), .int .u64 (0 : Int), .int .u64 (0 : Int)] 174)) fun b3 H8 => slB 3 3 none none fun n2 n3 => CpK Tryd.prog 22 (.slice (slA (some (⟨b3, 0, none⟩ : Addr)) 3 n2 1) (n3 - n2) (3 - n2)) (.slice A1 n1 m1) H8 fun v11 H9 => DI .i64 v11 fun x5 => ixI (0 : Int) 3 (Ld H9 ((⟨b3, 0, none⟩ : Addr).add ((0 : Int).toNat * 1)) fun v12 => DI .u64 v12 fun x6 => ixI (1 : Int) 3 (Ld H9 ((⟨b3, 0, none⟩ : Addr).add ((1 : Int).toNat * 1)) fun v13 => DI .u64 v13 fun x7 => ixI (2 : Int) 3 (Ld H9 ((⟨b3, 0, none⟩ : Addr).add ((2 : Int).toNat * 1)) fun v14 => DI .u64 v14 fun x8 => Nw H9 (.obj (.cells #[.int .i64 (0 : Int), .int .u64 (0 : Int), .int .u64 (0 : Int), .int .u64 (0 : Int)] 102)) fun b4 H10 => StA H10 (⟨b4, 0, none⟩ : Addr) #[.int .i64 x1, .int .u64 x6, .int .u64 x7, .int .u64 x8] 4 fun H11 => LdA H11 (⟨b4, 0, none⟩ : Addr) 4 fun l10 => HCalls Tryd.prog 91 #[.agg l10.toArray] H11 fun v15 H12 => DB v15 fun c2 => BIf (!c2) (StA H12 a1 #[.int .i64 (0 : Int), .int .u64 (0 : Int), .int .u64 (0 : Int), .int .u64 (0 : Int)] 4 fun H13 => LdA H13 a1 4 fun l14 => K (.tuple #[.agg l14.toArray, .int .i64 (18 : Int)]) H13) (LdA H12 (⟨b4, 0, none⟩ : Addr) 4 fun l11 => StA H12 a1 l11.toArray 4 fun H14 => LdA H14 a1 4 fun l15 => K (.tuple #[.agg l15.toArray, .int .i64 (0 : Int)]) H14))))))))))) (StA H a1 #[.int .i64 (0 : Int), .int .u64 (0 : Int), .int .u64 (0 : Int), .int .u64 (0 : Int)] 4 fun H15 => LdA H15 a1 4 fun l16 => K (.tuple #[.agg l16.toArray, .int .i64 (17 : Int)]) H15)
def W_gen_Read (s1 : ByteArray) (H : Hp) (K : Value → Hp → Prop) : Prop :=
  Nw H (.obj (.cells #[.int .i64 (0 : Int), .int .u64 (0 : Int), .int .u64 (0 : Int), .int .u64 (0 : Int)] 102)) fun b1 H1 => HCalls Tryd.prog 92 #[.string s1, .string (⟨#[32]⟩)] H1 fun v1 H2 => DTup v1 fun l1 => DCons l1 fun v2 l2 => DS v2 fun s2 => DCons l2 fun v3 l3 => DS v3 fun s3 => DCons l3 fun v4 l4 => DB v4 fun c1 => DNil l4 (LdA H2 (⟨1, 0, none⟩ : Addr) 12 fun l5 => (∃ k, W_gen_Read.l3 K k (⟨b1, 0, none⟩ : Addr) s2 s3 l5.toArray (0 : Int) H2))
def W_gen_Read.l3.L (K : Value → Hp → Prop) (k : Nat) : Mid := fun E D H =>
  DG (E.get? 2) fun w2 => DP w2 fun pw2 => NN pw2 fun a1 => DG (E.get? 4) fun w4 => DS w4 fun s4 => DG (E.get? 5) fun w5 => DS w5 fun s5 => DG (E.get? 20) fun w20 => DA w20 fun y1 => DG (E.get? 21) fun w21 => DI .i64 w21 fun x1 => DNilD D (W_gen_Read.l3 K k a1 s4 s5 y1 x1 H)
def W_gen_Read.Λ3 (_ : Value → Hp → Prop) (_R3 : Addr → ByteArray → ByteArray → Array Value → Int → Hp → Prop) : Cuts := Cuts.none (fun _ => none)
def W_gen_Read.Λ (K : Value → Hp → Prop) : Cuts := ⟨fun i => none, fun i => match Nat.beq i 3 with | true => some (fun E D H => ∃ k, W_gen_Read.l3.L K k E D H) | false => none, (fun _ => none)⟩
theorem W_gen_Read.ok (s1 : ByteArray) (H : Hp) (K : Value → Hp → Prop) (h : W_gen_Read s1 H K) : HCalls Tryd.prog 50 #[.string s1] H K :=
  hcalls Tryd.func50 rfl (Nat.le_of_ble_eq_true rfl) (hw_safe (Λ := (W_gen_Read.Λ K)) mixWgen _ _ _ _ _ (Eq.mp (by kernel_rfl) h) (obs_seq obs_region rfl (obs_seq obs_region rfl (obs_seq (obs_seq obs_region rfl (obs_block (obs_loop rfl (fun E D H h => by
      refine Safe.loop' (W_gen_Read.l3.L K) (fun E D H h => ?_) (fun k E D H h => ?_) E D H h
      · obtain ⟨w2, e2, g1⟩ := DG.out h; obtain ⟨pw2, rfl, g2⟩ := DP.out g1; obtain ⟨a1, rfl, g3⟩ := NN.out g2; obtain ⟨w4, e4, g4⟩ := DG.out g3; obtain ⟨s4, rfl, g5⟩ := DS.out g4; obtain ⟨w5, e5, g6⟩ := DG.out g5; obtain ⟨s5, rfl, g7⟩ := DS.out g6; obtain ⟨w20, e20, g8⟩ := DG.out g7; obtain ⟨y1, rfl, g9⟩ := DA.out g8; obtain ⟨w21, e21, g10⟩ := DG.out g9; obtain ⟨x1, rfl, g11⟩ := DI.out g10; obtain ⟨rfl, h'⟩ := DNilD.out g11; exact h'
      · obtain ⟨w2, e2, g1⟩ := DG.out h
        obtain ⟨pw2, rfl, g2⟩ := DP.out g1
        obtain ⟨a1, rfl, g3⟩ := NN.out g2
        obtain ⟨w4, e4, g4⟩ := DG.out g3
        obtain ⟨s4, rfl, g5⟩ := DS.out g4
        obtain ⟨w5, e5, g6⟩ := DG.out g5
        obtain ⟨s5, rfl, g7⟩ := DS.out g6
        obtain ⟨w20, e20, g8⟩ := DG.out g7
        obtain ⟨y1, rfl, g9⟩ := DA.out g8
        obtain ⟨w21, e21, g10⟩ := DG.out g9
        obtain ⟨x1, rfl, g11⟩ := DI.out g10
        obtain ⟨rfl, h'⟩ := DNilD.out g11
        exact (hw_safe (Λ := (W_gen_Read.Λ3 K (W_gen_Read.l3 K k))) mixWgen _ _ [(2, .pointer (some a1)), (4, .string s4), (5, .string s5), (20, .agg y1), (21, .int .i64 x1)] [] H (Eq.mp (by kernel_rfl) h') (obs_seq obs_region rfl (obs_seq (obs_cond obs_skip obs_exit) rfl (obs_seq (obs_block (obs_seq obs_region rfl (obs_seq (obs_seq obs_region rfl (obs_cond obs_exit obs_skip)) rfl (obs_seq obs_region rfl (obs_seq (obs_block (obs_seq obs_region rfl (obs_cond (obs_seq obs_region rfl obs_ret) (obs_seq obs_region rfl (obs_cond (obs_seq obs_region rfl obs_ret) obs_skip))))) rfl (obs_seq obs_region rfl (obs_seq obs_region rfl (obs_seq obs_region rfl (obs_seq (obs_seq obs_region rfl (obs_cond (obs_seq obs_region rfl obs_ret) obs_skip)) rfl (obs_seq obs_region rfl obs_ret)))))))))) rfl obs_region)))).weaken (EnvLe.cons e2 (EnvLe.cons e4 (EnvLe.cons e5 (EnvLe.cons e20 (EnvLe.cons e21 (EnvLe.nil _)))))) (Hp.le_refl _))))) rfl (obs_seq obs_region rfl obs_ret)))))

-- gen.Row
def W_gen_Row (x1 : Int) (x2 : Int) (x3 : Int) (x4 : Int) (x5 : Int) (H : Hp) (K : Value → Hp → Prop) : Prop :=
  Nw H (.obj (.cells #[.int .i64 x1, .int .u64 x2, .int .u64 x3, .int .u64 x4] 102)) fun b1 H1 => LdA H1 (⟨b1, 0, none⟩ : Addr) 4 fun l1 => HCalls Tryd.prog 124 #[.agg l1.toArray, .int .i64 (0 : Int), .int .i64 x5] H1 fun v1 H2 => DTup v1 fun l2 => DCons l2 fun v2 l3 => DSl v2 fun A1 n1 m1 => DCons l3 fun v3 l4 => DI .i64 v3 fun x6 => DNil l4 (K (.tuple #[.slice A1 n1 m1, .int .i64 x6]) H2)
def W_gen_Row.Λ (_ : Value → Hp → Prop) : Cuts := Cuts.none (fun _ => none)
theorem W_gen_Row.ok (x1 : Int) (x2 : Int) (x3 : Int) (x4 : Int) (x5 : Int) (H : Hp) (K : Value → Hp → Prop) (h : W_gen_Row x1 x2 x3 x4 x5 H K) : HCalls Tryd.prog 90 #[.agg #[.int .i64 x1, .int .u64 x2, .int .u64 x3, .int .u64 x4], .int .i64 x5] H K :=
  hcalls Tryd.func90 rfl (Nat.le_of_ble_eq_true rfl) (hw_safe (Λ := Cuts.none (fun _ => none)) mixWgen _ _ _ _ _ (Eq.mp (by kernel_rfl) h) (obs_none _ _ _ _ _))

-- gen.Good
def W_gen_Good (x1 : Int) (x2 : Int) (x3 : Int) (x4 : Int) (H : Hp) (K : Value → Hp → Prop) : Prop :=
  Nw H (.obj (.cells #[.int .i64 x1, .int .u64 x2, .int .u64 x3, .int .u64 x4] 102)) fun b1 H1 => Ld H1 ((⟨b1, 0, none⟩ : Addr).add 0) fun v1 => DI .i64 v1 fun x5 => BIf (decide (x5 < (1 : Int))) (K (.bool false) H1) (Ld H1 ((⟨b1, 0, none⟩ : Addr).add 0) fun v2 => DI .i64 v2 fun x6 => BIf (decide (x6 > (5 : Int))) (K (.bool false) H1) (Ld H1 ((⟨b1, 0, none⟩ : Addr).add 1) fun v3 => DI .u64 v3 fun x7 => Ld H1 ((⟨b1, 0, none⟩ : Addr).add 2) fun v4 => DI .u64 v4 fun x8 => Ld H1 ((⟨b1, 0, none⟩ : Addr).add 3) fun v5 => DI .u64 v5 fun x9 => Nw H1 (.row [.int .u64 x7, .int .u64 x8, .int .u64 x9] 22 3) fun b2 H2 => HCalls Tryd.prog 37 #[.slice (some ⟨b2, 0, none⟩) 3 3] H2 fun v6 H3 => DTup v6 fun l1 => DCons l1 fun v7 l2 => DI .i64 v7 fun x10 => DCons l2 fun v8 l3 => DB v8 fun c1 => DNil l3 (BIf c1 (Ld H3 ((⟨b1, 0, none⟩ : Addr).add 0) fun v9 => DI .i64 v9 fun x11 => BIf (x11 != (5 : Int)) (K (.bool true) H3) (Ld H3 ((⟨b1, 0, none⟩ : Addr).add 2) fun v10 => DI .u64 v10 fun x12 => BIf (decide (x12 < (4294967296 : Int))) (Ld H3 ((⟨b1, 0, none⟩ : Addr).add 3) fun v11 => DI .u64 v11 fun x13 => K (.bool (decide (x13 < (4294967296 : Int)))) H3) (K (.bool false) H3))) (K (.bool false) H3))))
def W_gen_Good.Λ (_ : Value → Hp → Prop) : Cuts := Cuts.none (fun _ => none)
theorem W_gen_Good.ok (x1 : Int) (x2 : Int) (x3 : Int) (x4 : Int) (H : Hp) (K : Value → Hp → Prop) (h : W_gen_Good x1 x2 x3 x4 H K) : HCalls Tryd.prog 91 #[.agg #[.int .i64 x1, .int .u64 x2, .int .u64 x3, .int .u64 x4]] H K :=
  hcalls Tryd.func91 rfl (Nat.le_of_ble_eq_true rfl) (hw_safe (Λ := Cuts.none (fun _ => none)) mixWgen _ _ _ _ _ (Eq.mp (by kernel_rfl) h) (obs_none _ _ _ _ _))

-- gen.Part
def W_gen_Part.l10 (K : Value → Hp → Prop) : Nat → Int → Addr → Option Addr → Nat → Nat → Int → Int → Int → Hp → Prop
  | 0, _, _, _, _, _, _, _, _, _ => False
  | k + 1, x8, a1, A2, n2, m2, x9, x10, x11, H =>
    let R10 := W_gen_Part.l10 K k
    BIf (decide (x11 < x10)) (ixI x11 n2 (NN A2 fun a2 => St H ((a2.add (x11.toNat * 1)).add 0) (.int .u64 x9) fun H5 => LdA H5 a1 4 fun l3 => HCalls Tryd.prog 166 #[.agg l3.toArray, .int .u64 x9, .int .i64 (IntKind.i64.wrap ((IntKind.i64.wrap (x8 + x11)) + (1 : Int)))] H5 fun v4 H6 => DI .u64 v4 fun x12 => R10 x8 a1 A2 n2 m2 x12 x10 (IntKind.i64.wrap (x11 + (1 : Int))) H6)) (K (.tuple #[.slice A2 n2 m2, .int .i64 (0 : Int)]) H)
def W_gen_Part (x1 : Int) (x2 : Int) (x3 : Int) (x4 : Int) (x5 : Int) (x6 : Int) (H : Hp) (K : Value → Hp → Prop) : Prop :=
  Nw H (.obj (.cells #[.int .i64 x1, .int .u64 x2, .int .u64 x3, .int .u64 x4] 102)) fun b1 H1 => LdA H1 (⟨b1, 0, none⟩ : Addr) 4 fun l1 => HCalls Tryd.prog 91 #[.agg l1.toArray] H1 fun v1 H2 => DB v1 fun c1 => BIf (!c1) (K (.tuple #[.slice none 0 0, .int .i64 (18 : Int)]) H2) (BIf (decide (x5 < (0 : Int))) (K (.tuple #[.slice none 0 0, .int .i64 (2 : Int)]) H2) (BIf (decide (x5 ≥ (4294967296 : Int))) (K (.tuple #[.slice none 0 0, .int .i64 (2 : Int)]) H2) (BIf (decide (x6 < (0 : Int))) (K (.tuple #[.slice none 0 0, .int .i64 (14 : Int)]) H2) (BIf (decide (x6 > (1048576 : Int))) (K (.tuple #[.slice none 0 0, .int .i64 (14 : Int)]) H2) (BIf (decide (x6 > (IntKind.i64.wrap ((4294967296 : Int) - x5)))) (K (.tuple #[.slice none 0 0, .int .i64 (14 : Int)]) H2) (MkS Tryd.prog 22 x6 x6 H2 fun v2 H3 => DSl v2 fun A1 n1 m1 => LdA H3 (⟨b1, 0, none⟩ : Addr) 4 fun l2 => HCalls Tryd.prog 165 #[.agg l2.toArray, .int .i64 x5] H3 fun v3 H4 => DI .u64 v3 fun x7 => (∃ k, W_gen_Part.l10 K k x5 (⟨b1, 0, none⟩ : Addr) A1 n1 m1 x7 ((n1 : Nat) : Int) (0 : Int) H4)))))))
def W_gen_Part.l10.L (K : Value → Hp → Prop) (k : Nat) : Mid := fun E D H =>
  DG (E.get? 1) fun w1 => DI .i64 w1 fun x8 => DG (E.get? 3) fun w3 => DP w3 fun pw3 => NN pw3 fun a1 => DG (E.get? 8) fun w8 => DSl w8 fun A2 n2 m2 => DG (E.get? 9) fun w9 => DI .u64 w9 fun x9 => DG (E.get? 41) fun w41 => DI .i64 w41 fun x10 => DG (E.get? 42) fun w42 => DI .i64 w42 fun x11 => DNilD D (W_gen_Part.l10 K k x8 a1 A2 n2 m2 x9 x10 x11 H)
def W_gen_Part.Λ10 (_ : Value → Hp → Prop) (_R10 : Int → Addr → Option Addr → Nat → Nat → Int → Int → Int → Hp → Prop) : Cuts := Cuts.none (fun _ => none)
def W_gen_Part.Λ (K : Value → Hp → Prop) : Cuts := ⟨fun i => none, fun i => match Nat.beq i 10 with | true => some (fun E D H => ∃ k, W_gen_Part.l10.L K k E D H) | false => none, (fun _ => none)⟩
theorem W_gen_Part.ok (x1 : Int) (x2 : Int) (x3 : Int) (x4 : Int) (x5 : Int) (x6 : Int) (H : Hp) (K : Value → Hp → Prop) (h : W_gen_Part x1 x2 x3 x4 x5 x6 H K) : HCalls Tryd.prog 124 #[.agg #[.int .i64 x1, .int .u64 x2, .int .u64 x3, .int .u64 x4], .int .i64 x5, .int .i64 x6] H K :=
  hcalls Tryd.func124 rfl (Nat.le_of_ble_eq_true rfl) (hw_safe (Λ := (W_gen_Part.Λ K)) mixWgen _ _ _ _ _ (Eq.mp (by kernel_rfl) h) (obs_seq obs_region rfl (obs_seq (obs_block (obs_seq obs_region rfl (obs_cond (obs_seq obs_region rfl obs_ret) (obs_seq obs_region rfl (obs_cond (obs_seq obs_region rfl obs_ret) (obs_seq obs_region rfl (obs_cond (obs_seq obs_region rfl obs_ret) obs_skip))))))) rfl (obs_seq obs_region rfl (obs_seq obs_region rfl (obs_seq (obs_seq obs_region rfl (obs_block (obs_loop rfl (fun E D H h => by
      refine Safe.loop' (W_gen_Part.l10.L K) (fun E D H h => ?_) (fun k E D H h => ?_) E D H h
      · obtain ⟨w1, e1, g1⟩ := DG.out h; obtain ⟨x8, rfl, g2⟩ := DI.out g1; obtain ⟨w3, e3, g3⟩ := DG.out g2; obtain ⟨pw3, rfl, g4⟩ := DP.out g3; obtain ⟨a1, rfl, g5⟩ := NN.out g4; obtain ⟨w8, e8, g6⟩ := DG.out g5; obtain ⟨A2, n2, m2, rfl, g7⟩ := DSl.out g6; obtain ⟨w9, e9, g8⟩ := DG.out g7; obtain ⟨x9, rfl, g9⟩ := DI.out g8; obtain ⟨w41, e41, g10⟩ := DG.out g9; obtain ⟨x10, rfl, g11⟩ := DI.out g10; obtain ⟨w42, e42, g12⟩ := DG.out g11; obtain ⟨x11, rfl, g13⟩ := DI.out g12; obtain ⟨rfl, h'⟩ := DNilD.out g13; exact h'
      · obtain ⟨w1, e1, g1⟩ := DG.out h
        obtain ⟨x8, rfl, g2⟩ := DI.out g1
        obtain ⟨w3, e3, g3⟩ := DG.out g2
        obtain ⟨pw3, rfl, g4⟩ := DP.out g3
        obtain ⟨a1, rfl, g5⟩ := NN.out g4
        obtain ⟨w8, e8, g6⟩ := DG.out g5
        obtain ⟨A2, n2, m2, rfl, g7⟩ := DSl.out g6
        obtain ⟨w9, e9, g8⟩ := DG.out g7
        obtain ⟨x9, rfl, g9⟩ := DI.out g8
        obtain ⟨w41, e41, g10⟩ := DG.out g9
        obtain ⟨x10, rfl, g11⟩ := DI.out g10
        obtain ⟨w42, e42, g12⟩ := DG.out g11
        obtain ⟨x11, rfl, g13⟩ := DI.out g12
        obtain ⟨rfl, h'⟩ := DNilD.out g13
        exact (hw_safe (Λ := (W_gen_Part.Λ10 K (W_gen_Part.l10 K k))) mixWgen _ _ [(1, .int .i64 x8), (3, .pointer (some a1)), (8, .slice A2 n2 m2), (9, .int .u64 x9), (41, .int .i64 x10), (42, .int .i64 x11)] [] H (Eq.mp (by kernel_rfl) h') (obs_seq obs_region rfl (obs_seq (obs_cond obs_skip obs_exit) rfl (obs_seq (obs_block (obs_seq obs_region rfl (obs_seq obs_region rfl obs_region))) rfl obs_region)))).weaken (EnvLe.cons e1 (EnvLe.cons e3 (EnvLe.cons e8 (EnvLe.cons e9 (EnvLe.cons e41 (EnvLe.cons e42 (EnvLe.nil _))))))) (Hp.le_refl _))))) rfl (obs_seq obs_region rfl obs_ret)))))))

-- gen.at
def W_gen_at (x1 : Int) (x2 : Int) (x3 : Int) (x4 : Int) (x5 : Int) (H : Hp) (K : Value → Hp → Prop) : Prop :=
  Nw H (.obj (.cells #[.int .i64 x1, .int .u64 x2, .int .u64 x3, .int .u64 x4] 102)) fun b1 H1 => Ld H1 ((⟨b1, 0, none⟩ : Addr).add 0) fun v1 => DI .i64 v1 fun x6 => BIf (x6 == (1 : Int)) (Ld H1 ((⟨b1, 0, none⟩ : Addr).add 1) fun v2 => DI .u64 v2 fun x7 => K (.int .u64 x7) H1) (BIf (x6 == (2 : Int)) (Ld H1 ((⟨b1, 0, none⟩ : Addr).add 1) fun v3 => DI .u64 v3 fun x8 => Ld H1 ((⟨b1, 0, none⟩ : Addr).add 2) fun v4 => DI .u64 v4 fun x9 => QCall Tryd.prog 179 #[.int .u64 x9, .int .u64 (IntKind.u64.wrap x5)] H1 fun v5 => DI .u64 v5 fun x10 => QCall Tryd.prog 198 #[.int .u64 x8, .int .u64 x10] H1 fun v6 => DI .u64 v6 fun x11 => K (.int .u64 x11) H1) (BIf (x6 == (3 : Int)) (Ld H1 ((⟨b1, 0, none⟩ : Addr).add 1) fun v7 => DI .u64 v7 fun x12 => Ld H1 ((⟨b1, 0, none⟩ : Addr).add 2) fun v8 => DI .u64 v8 fun x13 => QCall Tryd.prog 181 #[.int .u64 x13, .int .u64 (IntKind.u64.wrap x5)] H1 fun v9 => DI .u64 v9 fun x14 => QCall Tryd.prog 179 #[.int .u64 x12, .int .u64 x14] H1 fun v10 => DI .u64 v10 fun x15 => K (.int .u64 x15) H1) (BIf (x6 == (4 : Int)) (LdA H1 (⟨b1, 0, none⟩ : Addr) 4 fun l1 => HCalls Tryd.prog 199 #[.agg l1.toArray, .int .i64 x5] H1 fun v11 H2 => DI .u64 v11 fun x16 => K (.int .u64 x16) H2) (LdA H1 (⟨b1, 0, none⟩ : Addr) 4 fun l2 => HCalls Tryd.prog 200 #[.agg l2.toArray, .int .i64 x5] H1 fun v12 H3 => DB v12 fun c1 => BIf c1 (Ld H3 ((⟨b1, 0, none⟩ : Addr).add 1) fun v13 => DI .u64 v13 fun x17 => K (.int .u64 x17) H3) (K (.int .u64 (0 : Int)) H3)))))
def W_gen_at.Λ (_ : Value → Hp → Prop) : Cuts := Cuts.none (fun _ => none)
theorem W_gen_at.ok (x1 : Int) (x2 : Int) (x3 : Int) (x4 : Int) (x5 : Int) (H : Hp) (K : Value → Hp → Prop) (h : W_gen_at x1 x2 x3 x4 x5 H K) : HCalls Tryd.prog 165 #[.agg #[.int .i64 x1, .int .u64 x2, .int .u64 x3, .int .u64 x4], .int .i64 x5] H K :=
  hcalls Tryd.func165 rfl (Nat.le_of_ble_eq_true rfl) (hw_safe (Λ := Cuts.none (fun _ => none)) mixWgen _ _ _ _ _ (Eq.mp (by kernel_rfl) h) (obs_none _ _ _ _ _))

-- gen.next
def W_gen_next (x1 : Int) (x2 : Int) (x3 : Int) (x4 : Int) (x5 : Int) (x6 : Int) (H : Hp) (K : Value → Hp → Prop) : Prop :=
  Nw H (.obj (.cells #[.int .i64 x1, .int .u64 x2, .int .u64 x3, .int .u64 x4] 102)) fun b1 H1 => Ld H1 ((⟨b1, 0, none⟩ : Addr).add 0) fun v1 => DI .i64 v1 fun x7 => BIf (x7 == (2 : Int)) (Ld H1 ((⟨b1, 0, none⟩ : Addr).add 2) fun v2 => DI .u64 v2 fun x8 => HCalls Tryd.prog 198 #[.int .u64 x5, .int .u64 x8] H1 fun v3 H2 => DI .u64 v3 fun x9 => K (.int .u64 x9) H2) (BIf (x7 == (3 : Int)) (Ld H1 ((⟨b1, 0, none⟩ : Addr).add 2) fun v4 => DI .u64 v4 fun x10 => HCalls Tryd.prog 179 #[.int .u64 x5, .int .u64 x10] H1 fun v5 H3 => DI .u64 v5 fun x11 => K (.int .u64 x11) H3) (BIf (x7 == (4 : Int)) (Ld H1 ((⟨b1, 0, none⟩ : Addr).add 2) fun v6 => DI .u64 v6 fun x12 => QCall Tryd.prog 179 #[.int .u64 x5, .int .u64 x12] H1 fun v7 => DI .u64 v7 fun x13 => Ld H1 ((⟨b1, 0, none⟩ : Addr).add 3) fun v8 => DI .u64 v8 fun x14 => QCall Tryd.prog 198 #[.int .u64 x13, .int .u64 x14] H1 fun v9 => DI .u64 v9 fun x15 => K (.int .u64 x15) H1) (LdA H1 (⟨b1, 0, none⟩ : Addr) 4 fun l1 => HCalls Tryd.prog 165 #[.agg l1.toArray, .int .i64 x6] H1 fun v10 H4 => DI .u64 v10 fun x16 => K (.int .u64 x16) H4)))
def W_gen_next.Λ (_ : Value → Hp → Prop) : Cuts := Cuts.none (fun _ => none)
theorem W_gen_next.ok (x1 : Int) (x2 : Int) (x3 : Int) (x4 : Int) (x5 : Int) (x6 : Int) (H : Hp) (K : Value → Hp → Prop) (h : W_gen_next x1 x2 x3 x4 x5 x6 H K) : HCalls Tryd.prog 166 #[.agg #[.int .i64 x1, .int .u64 x2, .int .u64 x3, .int .u64 x4], .int .u64 x5, .int .i64 x6] H K :=
  hcalls Tryd.func166 rfl (Nat.le_of_ble_eq_true rfl) (hw_safe (Λ := Cuts.none (fun _ => none)) mixWgen _ _ _ _ _ (Eq.mp (by kernel_rfl) h) (obs_none _ _ _ _ _))

-- gen.chain
def W_gen_chain (x1 : Int) (x2 : Int) (x3 : Int) (x4 : Int) (x5 : Int) (H : Hp) (K : Value → Hp → Prop) : Prop :=
  Nw H (.obj (.cells #[.int .i64 x1, .int .u64 x2, .int .u64 x3, .int .u64 x4] 102)) fun b1 H1 => Ld H1 ((⟨b1, 0, none⟩ : Addr).add 2) fun v1 => DI .u64 v1 fun x6 => HCalls Tryd.prog 219 #[.int .u64 x6, .int .i64 x5] H1 fun v2 H2 => DTup v2 fun l1 => DCons l1 fun v3 l2 => DI .u64 v3 fun x7 => DCons l2 fun v4 l3 => DI .u64 v4 fun x8 => DNil l3 (Ld H2 ((⟨b1, 0, none⟩ : Addr).add 1) fun v5 => DI .u64 v5 fun x9 => QCall Tryd.prog 179 #[.int .u64 x9, .int .u64 x8] H2 fun v6 => DI .u64 v6 fun x10 => Ld H2 ((⟨b1, 0, none⟩ : Addr).add 3) fun v7 => DI .u64 v7 fun x11 => QCall Tryd.prog 179 #[.int .u64 x11, .int .u64 x7] H2 fun v8 => DI .u64 v8 fun x12 => QCall Tryd.prog 198 #[.int .u64 x10, .int .u64 x12] H2 fun v9 => DI .u64 v9 fun x13 => K (.int .u64 x13) H2)
def W_gen_chain.Λ (_ : Value → Hp → Prop) : Cuts := Cuts.none (fun _ => none)
theorem W_gen_chain.ok (x1 : Int) (x2 : Int) (x3 : Int) (x4 : Int) (x5 : Int) (H : Hp) (K : Value → Hp → Prop) (h : W_gen_chain x1 x2 x3 x4 x5 H K) : HCalls Tryd.prog 199 #[.agg #[.int .i64 x1, .int .u64 x2, .int .u64 x3, .int .u64 x4], .int .i64 x5] H K :=
  hcalls Tryd.func199 rfl (Nat.le_of_ble_eq_true rfl) (hw_safe (Λ := Cuts.none (fun _ => none)) mixWgen _ _ _ _ _ (Eq.mp (by kernel_rfl) h) (obs_none _ _ _ _ _))

-- gen.pulses
def W_gen_pulses (x1 : Int) (x2 : Int) (x3 : Int) (x4 : Int) (x5 : Int) (H : Hp) (K : Value → Hp → Prop) : Prop :=
  Nw H (.obj (.cells #[.int .i64 x1, .int .u64 x2, .int .u64 x3, .int .u64 x4] 102)) fun b1 H1 => Ld H1 ((⟨b1, 0, none⟩ : Addr).add 3) fun v1 => DI .u64 v1 fun x6 => BIf (x6 == (0 : Int)) (Ld H1 ((⟨b1, 0, none⟩ : Addr).add 2) fun v2 => DI .u64 v2 fun x7 => K (.bool ((IntKind.u64.wrap x5) == x7)) H1) (Ld H1 ((⟨b1, 0, none⟩ : Addr).add 3) fun v3 => DI .u64 v3 fun x8 => (x8 ≠ 0 ∧ IntKind.u64 = IntKind.u64 ∧ Ld H1 ((⟨b1, 0, none⟩ : Addr).add 2) fun v4 => DI .u64 v4 fun x9 => Ld H1 ((⟨b1, 0, none⟩ : Addr).add 3) fun v5 => DI .u64 v5 fun x10 => (x10 ≠ 0 ∧ IntKind.u64 = IntKind.u64 ∧ K (.bool ((Int.tmod (IntKind.u64.wrap x5) x8) == (Int.tmod x9 x10))) H1)))
def W_gen_pulses.Λ (_ : Value → Hp → Prop) : Cuts := Cuts.none (fun _ => none)
theorem W_gen_pulses.ok (x1 : Int) (x2 : Int) (x3 : Int) (x4 : Int) (x5 : Int) (H : Hp) (K : Value → Hp → Prop) (h : W_gen_pulses x1 x2 x3 x4 x5 H K) : HCalls Tryd.prog 200 #[.agg #[.int .i64 x1, .int .u64 x2, .int .u64 x3, .int .u64 x4], .int .i64 x5] H K :=
  hcalls Tryd.func200 rfl (Nat.le_of_ble_eq_true rfl) (hw_safe (Λ := Cuts.none (fun _ => none)) mixWgen _ _ _ _ _ (Eq.mp (by kernel_rfl) h) (obs_none _ _ _ _ _))

-- gen.ladder
def W_gen_ladder.l3 (K : Value → Hp → Prop) : Nat → Int → Int → Int → Int → Int → Hp → Prop
  | 0, _, _, _, _, _, _ => False
  | k + 1, x3, x4, x5, x6, x7, H =>
    let R3 := W_gen_ladder.l3 K k
    BIf (decide (x7 ≥ (0 : Int))) (HCalls Tryd.prog 179 #[.int .u64 x5, .int .u64 x6] H fun v1 H1 => DI .u64 v1 fun x8 => HCalls Tryd.prog 198 #[.int .u64 x5, .int .u64 x8] H1 fun v2 H2 => DI .u64 v2 fun x9 => HCalls Tryd.prog 179 #[.int .u64 x6, .int .u64 x6] H2 fun v3 H3 => DI .u64 v3 fun x10 => (0 ≤ (IntKind.u64.wrap x7) ∧ BIf ((bAnd .i64 (shrI .i64 x4 (IntKind.u64.wrap x7)) (1 : Int)) == (1 : Int)) (HCalls Tryd.prog 198 #[.int .u64 x9, .int .u64 x10] H3 fun v4 H4 => DI .u64 v4 fun x11 => HCalls Tryd.prog 179 #[.int .u64 x10, .int .u64 x3] H4 fun v5 H5 => DI .u64 v5 fun x12 => R3 x3 x4 x11 x12 (IntKind.i64.wrap (x7 - (1 : Int))) H5) (R3 x3 x4 x9 x10 (IntKind.i64.wrap (x7 - (1 : Int))) H3))) (K (.tuple #[.int .u64 x5, .int .u64 x6]) H)
def W_gen_ladder (x1 : Int) (x2 : Int) (H : Hp) (K : Value → Hp → Prop) : Prop :=
  (∃ k, W_gen_ladder.l3 K k x1 x2 (0 : Int) (1 : Int) (40 : Int) H)
def W_gen_ladder.l3.L (K : Value → Hp → Prop) (k : Nat) : Mid := fun E D H =>
  DG (E.get? 0) fun w0 => DI .u64 w0 fun x3 => DG (E.get? 1) fun w1 => DI .i64 w1 fun x4 => DG (E.get? 4) fun w4 => DI .u64 w4 fun x5 => DG (E.get? 5) fun w5 => DI .u64 w5 fun x6 => DG (E.get? 6) fun w6 => DI .i64 w6 fun x7 => DNilD D (W_gen_ladder.l3 K k x3 x4 x5 x6 x7 H)
def W_gen_ladder.Λ3 (_ : Value → Hp → Prop) (_R3 : Int → Int → Int → Int → Int → Hp → Prop) : Cuts := Cuts.none (fun _ => none)
def W_gen_ladder.Λ (K : Value → Hp → Prop) : Cuts := ⟨fun i => none, fun i => match Nat.beq i 3 with | true => some (fun E D H => ∃ k, W_gen_ladder.l3.L K k E D H) | false => none, (fun _ => none)⟩
theorem W_gen_ladder.ok (x1 : Int) (x2 : Int) (H : Hp) (K : Value → Hp → Prop) (h : W_gen_ladder x1 x2 H K) : HCalls Tryd.prog 219 #[.int .u64 x1, .int .i64 x2] H K :=
  hcalls Tryd.func219 rfl (Nat.le_of_ble_eq_true rfl) (hw_safe (Λ := (W_gen_ladder.Λ K)) mixWgen _ _ _ _ _ (Eq.mp (by kernel_rfl) h) (obs_seq obs_region rfl (obs_seq obs_region rfl (obs_seq (obs_seq obs_region rfl (obs_block (obs_loop rfl (fun E D H h => by
      refine Safe.loop' (W_gen_ladder.l3.L K) (fun E D H h => ?_) (fun k E D H h => ?_) E D H h
      · obtain ⟨w0, e0, g1⟩ := DG.out h; obtain ⟨x3, rfl, g2⟩ := DI.out g1; obtain ⟨w1, e1, g3⟩ := DG.out g2; obtain ⟨x4, rfl, g4⟩ := DI.out g3; obtain ⟨w4, e4, g5⟩ := DG.out g4; obtain ⟨x5, rfl, g6⟩ := DI.out g5; obtain ⟨w5, e5, g7⟩ := DG.out g6; obtain ⟨x6, rfl, g8⟩ := DI.out g7; obtain ⟨w6, e6, g9⟩ := DG.out g8; obtain ⟨x7, rfl, g10⟩ := DI.out g9; obtain ⟨rfl, h'⟩ := DNilD.out g10; exact h'
      · obtain ⟨w0, e0, g1⟩ := DG.out h
        obtain ⟨x3, rfl, g2⟩ := DI.out g1
        obtain ⟨w1, e1, g3⟩ := DG.out g2
        obtain ⟨x4, rfl, g4⟩ := DI.out g3
        obtain ⟨w4, e4, g5⟩ := DG.out g4
        obtain ⟨x5, rfl, g6⟩ := DI.out g5
        obtain ⟨w5, e5, g7⟩ := DG.out g6
        obtain ⟨x6, rfl, g8⟩ := DI.out g7
        obtain ⟨w6, e6, g9⟩ := DG.out g8
        obtain ⟨x7, rfl, g10⟩ := DI.out g9
        obtain ⟨rfl, h'⟩ := DNilD.out g10
        exact (hw_safe (Λ := (W_gen_ladder.Λ3 K (W_gen_ladder.l3 K k))) mixWgen _ _ [(0, .int .u64 x3), (1, .int .i64 x4), (4, .int .u64 x5), (5, .int .u64 x6), (6, .int .i64 x7)] [] H (Eq.mp (by kernel_rfl) h') (obs_seq (obs_seq obs_region rfl (obs_cond obs_skip obs_exit)) rfl (obs_seq (obs_block (obs_seq obs_region rfl (obs_seq obs_region rfl (obs_seq obs_region rfl (obs_cond (obs_seq obs_region rfl obs_region) obs_skip))))) rfl obs_region))).weaken (EnvLe.cons e0 (EnvLe.cons e1 (EnvLe.cons e4 (EnvLe.cons e5 (EnvLe.cons e6 (EnvLe.nil _)))))) (Hp.le_refl _))))) rfl (obs_seq obs_region rfl obs_ret)))))

end Go.Proofs.YtbnhfcdagoigkaaDoor.W

end
section
/-! Wabacistref38 -/
/- Formulas of functions, printed by wip/tools/hwp.py. -/
set_option maxRecDepth 100000
set_option linter.unusedVariables false
namespace Go.Proofs.YtbnhfcdagoigkaaDoor.W
open Go Go.Hw

theorem mixWabacistref38 : Tryd.prog.follows .mixedOrders = true := by kernel_rfl
-- abacistref38.Good
def W_abacistref38_Good (x1 : Int) (x2 : Int) (x3 : Int) (x4 : Int) (H : Hp) (K : Value → Hp → Prop) : Prop :=
  Nw H (.obj (.cells #[.int .i64 x1, .int .u64 x2, .int .u64 x3, .int .u64 x4] 102)) fun b1 H1 => Ld H1 ((⟨b1, 0, none⟩ : Addr).add 1) fun v1 => DI .u64 v1 fun x5 => BIf (decide (x5 ≥ (18446744069414584321 : Int))) (K (.bool false) H1) (Ld H1 ((⟨b1, 0, none⟩ : Addr).add 2) fun v2 => DI .u64 v2 fun x6 => BIf (decide (x6 ≥ (18446744069414584321 : Int))) (K (.bool false) H1) (Ld H1 ((⟨b1, 0, none⟩ : Addr).add 3) fun v3 => DI .u64 v3 fun x7 => BIf (decide (x7 ≥ (18446744069414584321 : Int))) (K (.bool false) H1) (Ld H1 ((⟨b1, 0, none⟩ : Addr).add 0) fun v4 => DI .i64 v4 fun x8 => BIf (x8 == (5 : Int)) (Ld H1 ((⟨b1, 0, none⟩ : Addr).add 2) fun v5 => DI .u64 v5 fun x9 => BIf (decide (x9 < (4294967296 : Int))) (Ld H1 ((⟨b1, 0, none⟩ : Addr).add 3) fun v6 => DI .u64 v6 fun x10 => K (.bool (decide (x10 < (4294967296 : Int)))) H1) (K (.bool false) H1)) (Ld H1 ((⟨b1, 0, none⟩ : Addr).add 0) fun v7 => DI .i64 v7 fun x11 => BIf (decide (x11 ≥ (1 : Int))) (Ld H1 ((⟨b1, 0, none⟩ : Addr).add 0) fun v8 => DI .i64 v8 fun x12 => K (.bool (decide (x12 ≤ (4 : Int)))) H1) (K (.bool false) H1)))))
def W_abacistref38_Good.Λ (_ : Value → Hp → Prop) : Cuts := Cuts.none (fun _ => none)
theorem W_abacistref38_Good.ok (x1 : Int) (x2 : Int) (x3 : Int) (x4 : Int) (H : Hp) (K : Value → Hp → Prop) (h : W_abacistref38_Good x1 x2 x3 x4 H K) : HCalls Tryd.prog 51 #[.agg #[.int .i64 x1, .int .u64 x2, .int .u64 x3, .int .u64 x4]] H K :=
  hcalls Tryd.func51 rfl (Nat.le_of_ble_eq_true rfl) (hw_safe (Λ := Cuts.none (fun _ => none)) mixWabacistref38 _ _ _ _ _ (Eq.mp (by kernel_rfl) h) (obs_none _ _ _ _ _))

end Go.Proofs.YtbnhfcdagoigkaaDoor.W

end
section
/-! GenA -/
/- gen: rules: are they good; words by themselves. -/
set_option maxRecDepth 100000
set_option linter.unusedSimpArgs false
set_option linter.unusedVariables false
set_option linter.unnecessarySimpa false
set_option linter.unusedSectionVars false
namespace Go.Proofs.YtbnhfcdagoigkaaDoor.Gen
open Go Go.Hw Go.Proofs.YtbnhfcdagoigkaaDoor.W Go.Proofs.YtbnhfcdagoigkaaDoor.Gol

def natV (xs : List Nat) : List Value := List.map (fun (x : Nat) => Value.int .u64 (x : Int)) xs

theorem BIf_d {p : Prop} [Decidable p] {X Y : Prop} (h1 : p → X) (h2 : ¬ p → Y) : BIf (decide p) X Y := by
  by_cases h : p
  · exact BIf_dpos h (h1 h)
  · exact BIf_dneg h (h2 h)
theorem BIf_nd {p : Prop} [Decidable p] {X Y : Prop} (h1 : p → Y) (h2 : ¬ p → X) : BIf (!decide p) X Y := by
  by_cases h : p
  · rw [decide_eq_true h]; exact BIf_neg rfl (h1 h)
  · rw [decide_eq_false h]; exact BIf_pos rfl (h2 h)

theorem Index_loop (H : Hp) (A : Option Addr) (n m : Nat) (xs : List Nat) (hn : n = xs.length) (hl : n ≤ 1000000000) (hc : Cells H A (natV xs)) :
    ∀ (t j : Nat), j + t = n → (∀ k x, k < j → xs[k]? = some x → x < 18446744069414584321) →
      W_slices_IndexFunc_uint64_uint64.l2 (fun v H' => (∃ i : Int, v = .int .i64 i ∧ (i < 0 ↔ ∀ x ∈ xs, x < 18446744069414584321)) ∧ H' = H) (t + 1) A n m 84 #[] #[] (n : Int) (j : Int) H
  | 0, j, hj, hall => by
    unfold W_slices_IndexFunc_uint64_uint64.l2
    refine BIf_dneg (by omega) ⟨⟨-1, rfl, fun _ x hx => ?_, fun _ => by decide⟩, rfl⟩
    obtain ⟨k, hk, rfl⟩ := List.getElem_of_mem hx
    exact hall k _ (by omega) (List.getElem?_eq_getElem hk)
  | t + 1, j, hj, hall => by
    unfold W_slices_IndexFunc_uint64_uint64.l2
    refine BIf_dpos (by omega) ?_
    have hg : xs[j]? = some (xs[j]'(by omega)) := List.getElem?_eq_getElem (by omega)
    have hg2 : (natV xs)[j]? = some (.int .u64 ((xs[j]'(by omega) : Nat) : Int)) := by unfold natV; rw [List.getElem?_map, hg]; rfl
    refine hc.read hg2 rfl (by unfold natV; rw [List.length_map]; omega) ?_
    simp only [DI_int', DB_bool, DS_string, DP_pointer, DSl_slice, DM_map, DA_agg, DTup_tuple, DCons_cons, DNil_nil, NN_some, BIf_true, BIf_false, BIf_same, List.toList_toArray, Bool.not_true, Bool.not_false]
    refine BIf_pos (by kernel_rfl) ?_
    have hv : HCalls Tryd.prog 84 #[.int .u64 ((xs[j]'(by omega) : Nat) : Int)] H (RetE (.bool (!(decide (((xs[j]'(by omega) : Nat) : Int) < 18446744069414584321)))) H) := by
      apply W_codec_Check_1.ok
      unfold W_codec_Check_1
      have hg : HCalls Tryd.prog 85 #[.int .u64 ((xs[j]'(by omega) : Nat) : Int)] H (RetE (.bool (decide (((xs[j]'(by omega) : Nat) : Int) < 18446744069414584321))) H) := by
        apply W_gold_Good.ok
        unfold W_gold_Good
        exact RetE.mk _ _
      refine HCalls.use hg ?_
      simp only [DI_int', DB_bool, DS_string, DP_pointer, DSl_slice, DM_map, DA_agg, DTup_tuple, DCons_cons, DNil_nil, NN_some, BIf_true, BIf_false, BIf_same, List.toList_toArray, Bool.not_true, Bool.not_false]
      exact RetE.mk _ _
    refine HCalls.use hv ?_
    have hr : resTypes Tryd.prog 84 = [4] := by kernel_rfl
    rw [hr]
    have hdt : ∀ (b : Bool) (K : Value → Prop), K (.bool b) → DR Tryd.prog [4] (.bool b) K := fun b K k => by
      show DT Tryd.prog 4 (.bool b) K
      unfold DT
      rw [show Tryd.prog.underlying 4 = some .bool by kernel_rfl]
      exact k
    refine hdt _ _ ?_
    simp only [DI_int', DB_bool, DS_string, DP_pointer, DSl_slice, DM_map, DA_agg, DTup_tuple, DCons_cons, DNil_nil, NN_some, BIf_true, BIf_false, BIf_same, List.toList_toArray, Bool.not_true, Bool.not_false]
    generalize hz : ((xs[j]'(by omega) : Nat) : Int) = z at *
    refine BIf_nd (fun hx => ?_) (fun hx => ?_)
    · rw [i64w (x := (j : Int) + 1) (by omega) (by omega)]
      refine Index_loop H A n m xs hn hl hc t (j + 1) (by omega) fun k x hk hkx => ?_
      by_cases e : k = j
      · subst e; rw [hg] at hkx
        have := Option.some.inj hkx
        omega
      · exact hall k x (by omega) hkx
    · refine ⟨⟨j, rfl, fun h => by omega, fun h => ?_⟩, by trivial⟩
      have := h _ (List.getElem_mem (show j < xs.length by omega))
      omega

theorem Check_ok (A : Option Addr) (n m : Nat) (xs : List Nat) (hn : n = xs.length) (hl : n ≤ 1000000000) (H : Hp) (hc : Cells H A (natV xs)) :
    HCalls Tryd.prog 37 #[.slice A n m] H fun v H' => (∃ i : Int, v = .tuple #[.int .i64 i, .bool (decide (∀ x ∈ xs, x < 18446744069414584321))]) ∧ H' = H := by
  apply W_codec_Check.ok
  unfold W_codec_Check
  have hI : HCalls Tryd.prog 83 #[.slice A n m, .func (.func 84) #[] #[]] H (fun v H' => (∃ i : Int, v = .int .i64 i ∧ (i < 0 ↔ ∀ x ∈ xs, x < 18446744069414584321)) ∧ H' = H) := by
    apply W_slices_IndexFunc_uint64_uint64.ok
    unfold W_slices_IndexFunc_uint64_uint64
    exact ⟨n + 1, Index_loop H A n m xs hn hl hc n 0 (by omega) fun k x hk => absurd hk (by omega)⟩
  refine HCalls.mono hI ?_
  rintro _ _ ⟨⟨i, rfl, hi⟩, rfl⟩
  simp only [DI_int', DB_bool, DS_string, DP_pointer, DSl_slice, DM_map, DA_agg, DTup_tuple, DCons_cons, DNil_nil, NN_some, BIf_true, BIf_false, BIf_same, List.toList_toArray, Bool.not_true, Bool.not_false]
  refine ⟨⟨if 0 > i then 0 else i, ?_⟩, by trivial⟩
  have : decide (i < 0) = decide (∀ x ∈ xs, x < 18446744069414584321) := decide_eq_decide.2 hi
  rw [this]

/-- Is a rule good? -/
def goodR (k : Int) (a b c : Nat) : Bool := decide (1 ≤ k ∧ k ≤ 5 ∧ a < 18446744069414584321 ∧ b < 18446744069414584321 ∧ c < 18446744069414584321 ∧ (k = 5 → b < 4294967296 ∧ c < 4294967296))

theorem goodR_no {k : Int} {a b c : Nat} (h : ¬ (1 ≤ k ∧ k ≤ 5 ∧ a < 18446744069414584321 ∧ b < 18446744069414584321 ∧ c < 18446744069414584321 ∧ (k = 5 → b < 4294967296 ∧ c < 4294967296))) : goodR k a b c = false := by unfold goodR; exact decide_eq_false h
theorem goodR_yes {k : Int} {a b c : Nat} (h : 1 ≤ k ∧ k ≤ 5 ∧ a < 18446744069414584321 ∧ b < 18446744069414584321 ∧ c < 18446744069414584321 ∧ (k = 5 → b < 4294967296 ∧ c < 4294967296)) : goodR k a b c = true := by unfold goodR; exact decide_eq_true h
theorem goodR_of {k : Int} {a b c : Nat} (h : goodR k a b c = true) : 1 ≤ k ∧ k ≤ 5 ∧ a < 18446744069414584321 ∧ b < 18446744069414584321 ∧ c < 18446744069414584321 ∧ (k = 5 → b < 4294967296 ∧ c < 4294967296) := by unfold goodR at h; exact of_decide_eq_true h

theorem good5 {k : Int} {a b c : Nat} (hk : k = 5) (ha : a < 18446744069414584321) (hb : (b : Int) < 4294967296) : goodR k a b c = decide ((c : Int) < 4294967296) := by
  unfold goodR
  exact decide_eq_decide.2 ⟨fun h => by have := (h.2.2.2.2.2 hk).2; omega, fun h => ⟨by omega, by omega, ha, by omega, by omega, fun _ => ⟨by omega, by omega⟩⟩⟩

theorem Good_ok (k : Int) (a b c : Nat) (H : Hp) : HCalls Tryd.prog 91 #[.agg #[.int .i64 k, .int .u64 (a : Int), .int .u64 (b : Int), .int .u64 (c : Int)]] H (RetE (.bool (goodR k a b c)) H) := HCalls.ret (by
  apply W_gen_Good.ok
  unfold W_gen_Good
  refine (Sep.start H).nw fun b1 H1 hs => ?_
  first | refine hs.ldf 1 rfl rfl ?_ | refine hs.ldg 1 rfl rfl ?_
  try simp only [DI_int', DB_bool, DS_string, DP_pointer, DSl_slice, DM_map, DA_agg, DTup_tuple, DCons_cons, DNil_nil, NN_some, BIf_true, BIf_false, BIf_same, List.toList_toArray, Bool.not_true, Bool.not_false]
  by_cases h1 : k < 1
  · refine BIf_dpos h1 ?_
    rw [show goodR k a b c = false from goodR_no (fun h => by omega)]
    exact hs.fin 0 rfl _
  refine BIf_dneg h1 ?_
  first | refine hs.ldf 1 rfl rfl ?_ | refine hs.ldg 1 rfl rfl ?_
  try simp only [DI_int', DB_bool, DS_string, DP_pointer, DSl_slice, DM_map, DA_agg, DTup_tuple, DCons_cons, DNil_nil, NN_some, BIf_true, BIf_false, BIf_same, List.toList_toArray, Bool.not_true, Bool.not_false]
  by_cases h5 : k > 5
  · refine BIf_dpos h5 ?_
    rw [show goodR k a b c = false from goodR_no (fun h => by omega)]
    exact hs.fin 0 rfl _
  refine BIf_dneg h5 ?_
  first | refine hs.ldf 1 rfl rfl ?_ | refine hs.ldg 1 rfl rfl ?_
  try simp only [DI_int', DB_bool, DS_string, DP_pointer, DSl_slice, DM_map, DA_agg, DTup_tuple, DCons_cons, DNil_nil, NN_some, BIf_true, BIf_false, BIf_same, List.toList_toArray, Bool.not_true, Bool.not_false]
  first | refine hs.ldf 1 rfl rfl ?_ | refine hs.ldg 1 rfl rfl ?_
  try simp only [DI_int', DB_bool, DS_string, DP_pointer, DSl_slice, DM_map, DA_agg, DTup_tuple, DCons_cons, DNil_nil, NN_some, BIf_true, BIf_false, BIf_same, List.toList_toArray, Bool.not_true, Bool.not_false]
  first | refine hs.ldf 1 rfl rfl ?_ | refine hs.ldg 1 rfl rfl ?_
  try simp only [DI_int', DB_bool, DS_string, DP_pointer, DSl_slice, DM_map, DA_agg, DTup_tuple, DCons_cons, DNil_nil, NN_some, BIf_true, BIf_false, BIf_same, List.toList_toArray, Bool.not_true, Bool.not_false]
  refine hs.nw fun b2 H1 hs => ?_
  have hc : Cells H1 (some ⟨b2, 0, none⟩) (natV [a, b, c]) := by
    have := Cells.row (hs.get 2 rfl) 0 3
    exact this
  refine HCalls.mono (Check_ok (some ⟨b2, 0, none⟩) 3 3 [a, b, c] rfl (by omega) H1 hc) ?_
  rintro _ _ ⟨⟨i, rfl⟩, rfl⟩
  simp only [DI_int', DB_bool, DS_string, DP_pointer, DSl_slice, DM_map, DA_agg, DTup_tuple, DCons_cons, DNil_nil, NN_some, BIf_true, BIf_false, BIf_same, List.toList_toArray, Bool.not_true, Bool.not_false]
  by_cases hall : ∀ x ∈ [a, b, c], x < 18446744069414584321
  · rw [decide_eq_true hall]
    have ha := hall a (by simp)
    have hb := hall b (by simp)
    have hcc := hall c (by simp)
    refine BIf_pos rfl ?_
    first | refine hs.ldf 1 rfl rfl ?_ | refine hs.ldg 1 rfl rfl ?_
    try simp only [DI_int', DB_bool, DS_string, DP_pointer, DSl_slice, DM_map, DA_agg, DTup_tuple, DCons_cons, DNil_nil, NN_some, BIf_true, BIf_false, BIf_same, List.toList_toArray, Bool.not_true, Bool.not_false]
    by_cases hk : k = 5
    · refine BIf_bnen hk ?_
      first | refine hs.ldf 1 rfl rfl ?_ | refine hs.ldg 1 rfl rfl ?_
      try simp only [DI_int', DB_bool, DS_string, DP_pointer, DSl_slice, DM_map, DA_agg, DTup_tuple, DCons_cons, DNil_nil, NN_some, BIf_true, BIf_false, BIf_same, List.toList_toArray, Bool.not_true, Bool.not_false]
      generalize hz : (b : Int) = z at *
      refine BIf_d (fun hb2 => ?_) (fun hb2 => ?_)
      · first | refine hs.ldf 1 rfl rfl ?_ | refine hs.ldg 1 rfl rfl ?_
        try simp only [DI_int', DB_bool, DS_string, DP_pointer, DSl_slice, DM_map, DA_agg, DTup_tuple, DCons_cons, DNil_nil, NN_some, BIf_true, BIf_false, BIf_same, List.toList_toArray, Bool.not_true, Bool.not_false]
        rw [good5 hk ha (by rw [hz]; exact hb2)]
        exact hs.fin 0 rfl _
      · rw [show goodR k a b c = false from goodR_no (fun h => by have := (h.2.2.2.2.2 hk).1; omega)]
        exact hs.fin 0 rfl _
    · refine BIf_bnep hk ?_
      rw [show goodR k a b c = true from goodR_yes ⟨by omega, by omega, ha, hb, hcc, fun h => absurd h hk⟩]
      exact hs.fin 0 rfl _
  · rw [decide_eq_false hall]
    refine BIf_neg rfl ?_
    rw [show goodR k a b c = false from goodR_no (fun h => hall (fun x hx => by
      simp only [List.mem_cons, List.not_mem_nil, or_false] at hx
      rcases hx with rfl | rfl | rfl
      · exact h.2.2.1
      · exact h.2.2.2.1
      · exact h.2.2.2.2.1))]
    exact hs.fin 0 rfl _)

theorem rGood_ok (k : Int) (a b c : Nat) (H : Hp) : HCalls Tryd.prog 51 #[.agg #[.int .i64 k, .int .u64 (a : Int), .int .u64 (b : Int), .int .u64 (c : Int)]] H (RetE (.bool (goodR k a b c)) H) := HCalls.ret (by
  apply W_abacistref38_Good.ok
  unfold W_abacistref38_Good
  refine (Sep.start H).nw fun b1 H1 hs => ?_
  have no : ∀ {H1}, Sep [own H, pts b1 (.obj (.cells #[.int .i64 k, .int .u64 (a : Int), .int .u64 (b : Int), .int .u64 (c : Int)] 102))] H1 → goodR k a b c = false → Ret (.bool (goodR k a b c)) H (.bool false) H1 := fun hs h => by rw [h]; exact hs.fin 0 rfl _
  first | refine hs.ldf 1 rfl rfl ?_ | refine hs.ldg 1 rfl rfl ?_
  try simp only [DI_int', DB_bool, DS_string, DP_pointer, DSl_slice, DM_map, DA_agg, DTup_tuple, DCons_cons, DNil_nil, NN_some, BIf_true, BIf_false, BIf_same, List.toList_toArray, Bool.not_true, Bool.not_false]
  by_cases ha : (a : Int) ≥ 18446744069414584321
  · exact BIf_dpos ha (no hs (goodR_no (fun h => by omega)))
  refine BIf_dneg ha ?_
  first | refine hs.ldf 1 rfl rfl ?_ | refine hs.ldg 1 rfl rfl ?_
  try simp only [DI_int', DB_bool, DS_string, DP_pointer, DSl_slice, DM_map, DA_agg, DTup_tuple, DCons_cons, DNil_nil, NN_some, BIf_true, BIf_false, BIf_same, List.toList_toArray, Bool.not_true, Bool.not_false]
  by_cases hb : (b : Int) ≥ 18446744069414584321
  · exact BIf_dpos hb (no hs (goodR_no (fun h => by omega)))
  refine BIf_dneg hb ?_
  first | refine hs.ldf 1 rfl rfl ?_ | refine hs.ldg 1 rfl rfl ?_
  try simp only [DI_int', DB_bool, DS_string, DP_pointer, DSl_slice, DM_map, DA_agg, DTup_tuple, DCons_cons, DNil_nil, NN_some, BIf_true, BIf_false, BIf_same, List.toList_toArray, Bool.not_true, Bool.not_false]
  by_cases hc : (c : Int) ≥ 18446744069414584321
  · exact BIf_dpos hc (no hs (goodR_no (fun h => by omega)))
  refine BIf_dneg hc ?_
  first | refine hs.ldf 1 rfl rfl ?_ | refine hs.ldg 1 rfl rfl ?_
  try simp only [DI_int', DB_bool, DS_string, DP_pointer, DSl_slice, DM_map, DA_agg, DTup_tuple, DCons_cons, DNil_nil, NN_some, BIf_true, BIf_false, BIf_same, List.toList_toArray, Bool.not_true, Bool.not_false]
  by_cases hk : k = 5
  · refine BIf_beqp hk ?_
    first | refine hs.ldf 1 rfl rfl ?_ | refine hs.ldg 1 rfl rfl ?_
    try simp only [DI_int', DB_bool, DS_string, DP_pointer, DSl_slice, DM_map, DA_agg, DTup_tuple, DCons_cons, DNil_nil, NN_some, BIf_true, BIf_false, BIf_same, List.toList_toArray, Bool.not_true, Bool.not_false]
    generalize hz : (b : Int) = z at *
    refine BIf_d (fun hb2 => ?_) (fun hb2 => ?_)
    · first | refine hs.ldf 1 rfl rfl ?_ | refine hs.ldg 1 rfl rfl ?_
      try simp only [DI_int', DB_bool, DS_string, DP_pointer, DSl_slice, DM_map, DA_agg, DTup_tuple, DCons_cons, DNil_nil, NN_some, BIf_true, BIf_false, BIf_same, List.toList_toArray, Bool.not_true, Bool.not_false]
      rw [good5 hk (by omega) (by rw [hz]; exact hb2)]
      exact hs.fin 0 rfl _
    · exact (no hs (goodR_no (fun h => by have := (h.2.2.2.2.2 hk).1; omega)))
  · refine BIf_beqn hk ?_
    first | refine hs.ldf 1 rfl rfl ?_ | refine hs.ldg 1 rfl rfl ?_
    try simp only [DI_int', DB_bool, DS_string, DP_pointer, DSl_slice, DM_map, DA_agg, DTup_tuple, DCons_cons, DNil_nil, NN_some, BIf_true, BIf_false, BIf_same, List.toList_toArray, Bool.not_true, Bool.not_false]
    by_cases h1 : k ≥ 1
    · refine BIf_dpos h1 ?_
      first | refine hs.ldf 1 rfl rfl ?_ | refine hs.ldg 1 rfl rfl ?_
      try simp only [DI_int', DB_bool, DS_string, DP_pointer, DSl_slice, DM_map, DA_agg, DTup_tuple, DCons_cons, DNil_nil, NN_some, BIf_true, BIf_false, BIf_same, List.toList_toArray, Bool.not_true, Bool.not_false]
      by_cases h4 : k ≤ 4
      · rw [goodR_yes ⟨by omega, by omega, by omega, by omega, by omega, fun h => absurd h hk⟩, decide_eq_true h4]
        exact hs.fin 0 rfl _
      · rw [goodR_no (fun h => by have := h.2.1; omega), decide_eq_false h4]
        exact hs.fin 0 rfl _
    · exact BIf_dneg h1 (no hs (goodR_no (fun h => by omega))))

end Go.Proofs.YtbnhfcdagoigkaaDoor.Gen

end
