import Derived.Test.YtbnhfcdagoigkaaDoorProg
import Derived.Shelf.Strings.Split
import Derived.Handed
import Derived.SizedLaws
import Derived.Shelf.Vars
import Derived.Shelf.Strconv.Itoa2
import Derived.Shelf.Strconv.Itoa1
import Derived.Shelf.Strconv.Itoa0
import Derived.Shelf.Strings.Cut
import Derived.Test.YtbnhfcdagoigkaaDoorPkGenLines3
section
/-! Wlstrings -/
/- Formulas of functions, printed by wip/tools/hwp.py. -/
set_option maxRecDepth 100000
set_option linter.unusedVariables false
namespace Go.Proofs.YtbnhfcdagoigkaaDoor.W
open Go Go.Hw

theorem mixWlstrings : Tryd.prog.follows .mixedOrders = true := by kernel_rfl
-- strings.Trim
def W_strings_Trim.j5 (K : Value → Hp → Prop) (s5 : ByteArray) (s6 : ByteArray) (H : Hp) : Prop :=
  HCalls Tryd.prog 132 #[.string s6] H fun v3 H1 => DTup v3 fun l1 => DCons l1 fun v4 l2 => DA v4 fun y1 => DCons l2 fun v5 l3 => DB v5 fun c1 => DNil l3 (Nw H1 (.obj (.cells #[.bool false, .bool false, .bool false, .bool false, .bool false, .bool false, .bool false, .bool false, .bool false, .bool false, .bool false, .bool false, .bool false, .bool false, .bool false, .bool false, .bool false, .bool false, .bool false, .bool false, .bool false, .bool false, .bool false, .bool false, .bool false, .bool false, .bool false, .bool false, .bool false, .bool false, .bool false, .bool false, .bool false, .bool false, .bool false, .bool false, .bool false, .bool false, .bool false, .bool false, .bool false, .bool false, .bool false, .bool false, .bool false, .bool false, .bool false, .bool false, .bool false, .bool false, .bool false, .bool false, .bool false, .bool false, .bool false, .bool false, .bool false, .bool false, .bool false, .bool false, .bool false, .bool false, .bool false, .bool false, .bool false, .bool false, .bool false, .bool false, .bool false, .bool false, .bool false, .bool false, .bool false, .bool false, .bool false, .bool false, .bool false, .bool false, .bool false, .bool false, .bool false, .bool false, .bool false, .bool false, .bool false, .bool false, .bool false, .bool false, .bool false, .bool false, .bool false, .bool false, .bool false, .bool false, .bool false, .bool false, .bool false, .bool false, .bool false, .bool false, .bool false, .bool false, .bool false, .bool false, .bool false, .bool false, .bool false, .bool false, .bool false, .bool false, .bool false, .bool false, .bool false, .bool false, .bool false, .bool false, .bool false, .bool false, .bool false, .bool false, .bool false, .bool false, .bool false, .bool false, .bool false, .bool false, .bool false, .bool false, .bool false, .bool false, .bool false, .bool false, .bool false, .bool false, .bool false, .bool false, .bool false, .bool false, .bool false, .bool false, .bool false, .bool false, .bool false, .bool false, .bool false, .bool false, .bool false, .bool false, .bool false, .bool false, .bool false, .bool false, .bool false, .bool false, .bool false, .bool false, .bool false, .bool false, .bool false, .bool false, .bool false, .bool false, .bool false, .bool false, .bool false, .bool false, .bool false, .bool false, .bool false, .bool false, .bool false, .bool false, .bool false, .bool false, .bool false, .bool false, .bool false, .bool false, .bool false, .bool false, .bool false, .bool false, .bool false, .bool false, .bool false, .bool false, .bool false, .bool false, .bool false, .bool false, .bool false, .bool false, .bool false, .bool false, .bool false, .bool false, .bool false, .bool false, .bool false, .bool false, .bool false, .bool false, .bool false, .bool false, .bool false, .bool false, .bool false, .bool false, .bool false, .bool false, .bool false, .bool false, .bool false, .bool false, .bool false, .bool false, .bool false, .bool false, .bool false, .bool false, .bool false, .bool false, .bool false, .bool false, .bool false, .bool false, .bool false, .bool false, .bool false, .bool false, .bool false, .bool false, .bool false, .bool false, .bool false, .bool false, .bool false, .bool false, .bool false, .bool false, .bool false, .bool false, .bool false, .bool false, .bool false, .bool false, .bool false, .bool false, .bool false, .bool false, .bool false, .bool false, .bool false, .bool false, .bool false, .bool false] 234)) fun b1 H2 => StA H2 (⟨b1, 0, none⟩ : Addr) y1 256 fun H3 => BIf c1 (HCalls Tryd.prog 134 #[.string s5, .pointer (some (⟨b1, 0, none⟩ : Addr))] H3 fun v6 H4 => DS v6 fun s7 => HCalls Tryd.prog 133 #[.string s7, .pointer (some (⟨b1, 0, none⟩ : Addr))] H4 fun v7 H5 => DS v7 fun s8 => K (.string s8) H5) (HCalls Tryd.prog 136 #[.string s5, .string s6] H3 fun v8 H6 => DS v8 fun s9 => HCalls Tryd.prog 135 #[.string s9, .string s6] H6 fun v9 H7 => DS v9 fun s10 => K (.string s10) H7))
def W_strings_Trim (s1 : ByteArray) (s2 : ByteArray) (H : Hp) (K : Value → Hp → Prop) : Prop :=
  BIf (s1.toList == ((⟨#[]⟩) : ByteArray).toList) (K (.string s1) H) (BIf (s2.toList == ((⟨#[]⟩) : ByteArray).toList) (K (.string s1) H) (BIf (((s2.size : Nat) : Int) == (1 : Int)) ((0 ≤ (0 : Int) ∧ ixB s2 (0 : Int).toNat fun x1 => BIf (decide (x1 < (128 : Int))) ((0 ≤ (0 : Int) ∧ ixB s2 (0 : Int).toNat fun x2 => QCall Tryd.prog 131 #[.string s1, .int .u8 x2] H fun v1 => DS v1 fun s3 => (0 ≤ (0 : Int) ∧ ixB s2 (0 : Int).toNat fun x3 => QCall Tryd.prog 130 #[.string s3, .int .u8 x3] H fun v2 => DS v2 fun s4 => K (.string s4) H))) (W_strings_Trim.j5 K s1 s2 H))) (W_strings_Trim.j5 K s1 s2 H)))
def W_strings_Trim.Λ (K : Value → Hp → Prop) : Cuts := ⟨fun i => match Nat.beq i 5 with | true => some (fun E D H => DG (E.get? 0) fun w0 => DS w0 fun s5 => DG (E.get? 1) fun w1 => DS w1 fun s6 => DNilD D (W_strings_Trim.j5 K s5 s6 H)) | false => none, fun i => none, (fun _ => none)⟩
theorem W_strings_Trim.ok (s1 : ByteArray) (s2 : ByteArray) (H : Hp) (K : Value → Hp → Prop) (h : W_strings_Trim s1 s2 H K) : HCalls Tryd.prog 96 #[.string s1, .string s2] H K :=
  hcalls Tryd.func96 rfl (Nat.le_of_ble_eq_true rfl) (hw_safe (Λ := (W_strings_Trim.Λ K)) mixWlstrings _ _ _ _ _ (Eq.mp (by kernel_rfl) h) (obs_seq obs_region rfl (obs_seq (obs_seq obs_region rfl (obs_cond (obs_seq obs_region rfl obs_ret) obs_skip)) rfl (obs_seqc (obs_seq obs_region rfl (obs_cond (obs_seq obs_region rfl obs_ret) obs_skip)) rfl (fun E D H h => by
      obtain ⟨w0, e0, g1⟩ := DG.out h
      obtain ⟨s5, rfl, g2⟩ := DS.out g1
      obtain ⟨w1, e1, g3⟩ := DG.out g2
      obtain ⟨s6, rfl, g4⟩ := DS.out g3
      obtain ⟨rfl, h'⟩ := DNilD.out g4
      exact (hw_safe (Λ := (W_strings_Trim.Λ K)) mixWlstrings _ _ [(0, .string s5), (1, .string s6)] [] H (Eq.mp (by kernel_rfl) h') (obs_seq (obs_seq obs_region rfl (obs_seq obs_region rfl (obs_cond (obs_seq obs_region rfl obs_ret) obs_skip))) rfl (obs_seq obs_region rfl obs_ret))).weaken (EnvLe.cons e0 (EnvLe.cons e1 (EnvLe.nil _))) (Hp.le_refl _))))))

-- strings.trimLeftByte
def W_strings_trimLeftByte.l1 (K : Value → Hp → Prop) : Nat → ByteArray → Int → Hp → Prop
  | 0, _, _, _ => False
  | k + 1, s2, x2, H =>
    let R1 := W_strings_trimLeftByte.l1 K k
    BIf (decide (((s2.size : Nat) : Int) > (0 : Int))) ((0 ≤ (0 : Int) ∧ ixB s2 (0 : Int).toNat fun x3 => BIf (x3 == x2) (slB s2.size s2.size (some (1 : Int)) none fun n1 n2 => R1 (s2.extract n1 n2) x2 H) (K (.string s2) H))) (K (.string s2) H)
def W_strings_trimLeftByte (s1 : ByteArray) (x1 : Int) (H : Hp) (K : Value → Hp → Prop) : Prop :=
  (∃ k, W_strings_trimLeftByte.l1 K k s1 x1 H)
def W_strings_trimLeftByte.l1.L (K : Value → Hp → Prop) (k : Nat) : Mid := fun E D H =>
  DG (E.get? 0) fun w0 => DS w0 fun s2 => DG (E.get? 1) fun w1 => DI .u8 w1 fun x2 => DNilD D (W_strings_trimLeftByte.l1 K k s2 x2 H)
def W_strings_trimLeftByte.Λ1 (_ : Value → Hp → Prop) (_R1 : ByteArray → Int → Hp → Prop) : Cuts := Cuts.none (fun _ => none)
def W_strings_trimLeftByte.Λ (K : Value → Hp → Prop) : Cuts := ⟨fun i => none, fun i => match Nat.beq i 1 with | true => some (fun E D H => ∃ k, W_strings_trimLeftByte.l1.L K k E D H) | false => none, (fun _ => none)⟩
theorem W_strings_trimLeftByte.ok (s1 : ByteArray) (x1 : Int) (H : Hp) (K : Value → Hp → Prop) (h : W_strings_trimLeftByte s1 x1 H K) : HCalls Tryd.prog 130 #[.string s1, .int .u8 x1] H K :=
  hcalls Tryd.func130 rfl (Nat.le_of_ble_eq_true rfl) (hw_safe (Λ := (W_strings_trimLeftByte.Λ K)) mixWlstrings _ _ _ _ _ (Eq.mp (by kernel_rfl) h) (obs_seq obs_region rfl (obs_seq (obs_block (obs_loop rfl (fun E D H h => by
      refine Safe.loop' (W_strings_trimLeftByte.l1.L K) (fun E D H h => ?_) (fun k E D H h => ?_) E D H h
      · obtain ⟨w0, e0, g1⟩ := DG.out h; obtain ⟨s2, rfl, g2⟩ := DS.out g1; obtain ⟨w1, e1, g3⟩ := DG.out g2; obtain ⟨x2, rfl, g4⟩ := DI.out g3; obtain ⟨rfl, h'⟩ := DNilD.out g4; exact h'
      · obtain ⟨w0, e0, g1⟩ := DG.out h
        obtain ⟨s2, rfl, g2⟩ := DS.out g1
        obtain ⟨w1, e1, g3⟩ := DG.out g2
        obtain ⟨x2, rfl, g4⟩ := DI.out g3
        obtain ⟨rfl, h'⟩ := DNilD.out g4
        exact (hw_safe (Λ := (W_strings_trimLeftByte.Λ1 K (W_strings_trimLeftByte.l1 K k))) mixWlstrings _ _ [(0, .string s2), (1, .int .u8 x2)] [] H (Eq.mp (by kernel_rfl) h') (obs_seq (obs_seq obs_region rfl (obs_cond obs_skip obs_exit)) rfl (obs_block obs_region))).weaken (EnvLe.cons e0 (EnvLe.cons e1 (EnvLe.nil _))) (Hp.le_refl _)))) rfl (obs_seq obs_region rfl obs_ret))))

-- strings.trimRightByte
def W_strings_trimRightByte.l1 (K : Value → Hp → Prop) : Nat → ByteArray → Int → Hp → Prop
  | 0, _, _, _ => False
  | k + 1, s2, x2, H =>
    let R1 := W_strings_trimRightByte.l1 K k
    BIf (decide (((s2.size : Nat) : Int) > (0 : Int))) ((0 ≤ (IntKind.i64.wrap (((s2.size : Nat) : Int) - (1 : Int))) ∧ ixB s2 (IntKind.i64.wrap (((s2.size : Nat) : Int) - (1 : Int))).toNat fun x3 => BIf (x3 == x2) (slB s2.size s2.size none (some (IntKind.i64.wrap (((s2.size : Nat) : Int) - (1 : Int)))) fun n1 n2 => R1 (s2.extract n1 n2) x2 H) (K (.string s2) H))) (K (.string s2) H)
def W_strings_trimRightByte (s1 : ByteArray) (x1 : Int) (H : Hp) (K : Value → Hp → Prop) : Prop :=
  (∃ k, W_strings_trimRightByte.l1 K k s1 x1 H)
def W_strings_trimRightByte.l1.L (K : Value → Hp → Prop) (k : Nat) : Mid := fun E D H =>
  DG (E.get? 0) fun w0 => DS w0 fun s2 => DG (E.get? 1) fun w1 => DI .u8 w1 fun x2 => DNilD D (W_strings_trimRightByte.l1 K k s2 x2 H)
def W_strings_trimRightByte.Λ1 (_ : Value → Hp → Prop) (_R1 : ByteArray → Int → Hp → Prop) : Cuts := Cuts.none (fun _ => none)
def W_strings_trimRightByte.Λ (K : Value → Hp → Prop) : Cuts := ⟨fun i => none, fun i => match Nat.beq i 1 with | true => some (fun E D H => ∃ k, W_strings_trimRightByte.l1.L K k E D H) | false => none, (fun _ => none)⟩
theorem W_strings_trimRightByte.ok (s1 : ByteArray) (x1 : Int) (H : Hp) (K : Value → Hp → Prop) (h : W_strings_trimRightByte s1 x1 H K) : HCalls Tryd.prog 131 #[.string s1, .int .u8 x1] H K :=
  hcalls Tryd.func131 rfl (Nat.le_of_ble_eq_true rfl) (hw_safe (Λ := (W_strings_trimRightByte.Λ K)) mixWlstrings _ _ _ _ _ (Eq.mp (by kernel_rfl) h) (obs_seq obs_region rfl (obs_seq (obs_block (obs_loop rfl (fun E D H h => by
      refine Safe.loop' (W_strings_trimRightByte.l1.L K) (fun E D H h => ?_) (fun k E D H h => ?_) E D H h
      · obtain ⟨w0, e0, g1⟩ := DG.out h; obtain ⟨s2, rfl, g2⟩ := DS.out g1; obtain ⟨w1, e1, g3⟩ := DG.out g2; obtain ⟨x2, rfl, g4⟩ := DI.out g3; obtain ⟨rfl, h'⟩ := DNilD.out g4; exact h'
      · obtain ⟨w0, e0, g1⟩ := DG.out h
        obtain ⟨s2, rfl, g2⟩ := DS.out g1
        obtain ⟨w1, e1, g3⟩ := DG.out g2
        obtain ⟨x2, rfl, g4⟩ := DI.out g3
        obtain ⟨rfl, h'⟩ := DNilD.out g4
        exact (hw_safe (Λ := (W_strings_trimRightByte.Λ1 K (W_strings_trimRightByte.l1 K k))) mixWlstrings _ _ [(0, .string s2), (1, .int .u8 x2)] [] H (Eq.mp (by kernel_rfl) h') (obs_seq (obs_seq obs_region rfl (obs_cond obs_skip obs_exit)) rfl (obs_block obs_region))).weaken (EnvLe.cons e0 (EnvLe.cons e1 (EnvLe.nil _))) (Hp.le_refl _)))) rfl (obs_seq obs_region rfl obs_ret))))

-- strings.makeASCIISet
def W_strings_makeASCIISet.l2 (K : Value → Hp → Prop) : Nat → ByteArray → Addr → Int → Hp → Prop
  | 0, _, _, _, _ => False
  | k + 1, s2, a1, x1, H =>
    let R2 := W_strings_makeASCIISet.l2 K k
    BIf (decide (x1 < ((s2.size : Nat) : Int))) ((0 ≤ x1 ∧ ixB s2 x1.toNat fun x2 => BIf (decide (x2 ≥ (128 : Int))) (LdA H a1 256 fun l1 => StA H a1 l1.toArray 256 fun H2 => LdA H2 a1 256 fun l3 => K (.tuple #[.agg l3.toArray, .bool false]) H2) (ixI x2 256 (St H ((a1.add (x2.toNat * 1)).add 0) (.bool true) fun H3 => R2 s2 a1 (IntKind.i64.wrap (x1 + (1 : Int))) H3)))) (LdA H a1 256 fun l2 => StA H a1 l2.toArray 256 fun H4 => LdA H4 a1 256 fun l4 => K (.tuple #[.agg l4.toArray, .bool true]) H4)
def W_strings_makeASCIISet (s1 : ByteArray) (H : Hp) (K : Value → Hp → Prop) : Prop :=
  Nw H (.obj (.cells #[.bool false, .bool false, .bool false, .bool false, .bool false, .bool false, .bool false, .bool false, .bool false, .bool false, .bool false, .bool false, .bool false, .bool false, .bool false, .bool false, .bool false, .bool false, .bool false, .bool false, .bool false, .bool false, .bool false, .bool false, .bool false, .bool false, .bool false, .bool false, .bool false, .bool false, .bool false, .bool false, .bool false, .bool false, .bool false, .bool false, .bool false, .bool false, .bool false, .bool false, .bool false, .bool false, .bool false, .bool false, .bool false, .bool false, .bool false, .bool false, .bool false, .bool false, .bool false, .bool false, .bool false, .bool false, .bool false, .bool false, .bool false, .bool false, .bool false, .bool false, .bool false, .bool false, .bool false, .bool false, .bool false, .bool false, .bool false, .bool false, .bool false, .bool false, .bool false, .bool false, .bool false, .bool false, .bool false, .bool false, .bool false, .bool false, .bool false, .bool false, .bool false, .bool false, .bool false, .bool false, .bool false, .bool false, .bool false, .bool false, .bool false, .bool false, .bool false, .bool false, .bool false, .bool false, .bool false, .bool false, .bool false, .bool false, .bool false, .bool false, .bool false, .bool false, .bool false, .bool false, .bool false, .bool false, .bool false, .bool false, .bool false, .bool false, .bool false, .bool false, .bool false, .bool false, .bool false, .bool false, .bool false, .bool false, .bool false, .bool false, .bool false, .bool false, .bool false, .bool false, .bool false, .bool false, .bool false, .bool false, .bool false, .bool false, .bool false, .bool false, .bool false, .bool false, .bool false, .bool false, .bool false, .bool false, .bool false, .bool false, .bool false, .bool false, .bool false, .bool false, .bool false, .bool false, .bool false, .bool false, .bool false, .bool false, .bool false, .bool false, .bool false, .bool false, .bool false, .bool false, .bool false, .bool false, .bool false, .bool false, .bool false, .bool false, .bool false, .bool false, .bool false, .bool false, .bool false, .bool false, .bool false, .bool false, .bool false, .bool false, .bool false, .bool false, .bool false, .bool false, .bool false, .bool false, .bool false, .bool false, .bool false, .bool false, .bool false, .bool false, .bool false, .bool false, .bool false, .bool false, .bool false, .bool false, .bool false, .bool false, .bool false, .bool false, .bool false, .bool false, .bool false, .bool false, .bool false, .bool false, .bool false, .bool false, .bool false, .bool false, .bool false, .bool false, .bool false, .bool false, .bool false, .bool false, .bool false, .bool false, .bool false, .bool false, .bool false, .bool false, .bool false, .bool false, .bool false, .bool false, .bool false, .bool false, .bool false, .bool false, .bool false, .bool false, .bool false, .bool false, .bool false, .bool false, .bool false, .bool false, .bool false, .bool false, .bool false, .bool false, .bool false, .bool false, .bool false, .bool false, .bool false, .bool false, .bool false, .bool false, .bool false, .bool false, .bool false, .bool false, .bool false, .bool false, .bool false, .bool false, .bool false, .bool false, .bool false, .bool false] 234)) fun b1 H1 => (∃ k, W_strings_makeASCIISet.l2 K k s1 (⟨b1, 0, none⟩ : Addr) (0 : Int) H1)
def W_strings_makeASCIISet.l2.L (K : Value → Hp → Prop) (k : Nat) : Mid := fun E D H =>
  DG (E.get? 0) fun w0 => DS w0 fun s2 => DG (E.get? 2) fun w2 => DP w2 fun pw2 => NN pw2 fun a1 => DG (E.get? 4) fun w4 => DI .i64 w4 fun x1 => DNilD D (W_strings_makeASCIISet.l2 K k s2 a1 x1 H)
def W_strings_makeASCIISet.Λ2 (_ : Value → Hp → Prop) (_R2 : ByteArray → Addr → Int → Hp → Prop) : Cuts := Cuts.none (fun _ => none)
def W_strings_makeASCIISet.Λ (K : Value → Hp → Prop) : Cuts := ⟨fun i => none, fun i => match Nat.beq i 2 with | true => some (fun E D H => ∃ k, W_strings_makeASCIISet.l2.L K k E D H) | false => none, (fun _ => none)⟩
theorem W_strings_makeASCIISet.ok (s1 : ByteArray) (H : Hp) (K : Value → Hp → Prop) (h : W_strings_makeASCIISet s1 H K) : HCalls Tryd.prog 132 #[.string s1] H K :=
  hcalls Tryd.func132 rfl (Nat.le_of_ble_eq_true rfl) (hw_safe (Λ := (W_strings_makeASCIISet.Λ K)) mixWlstrings _ _ _ _ _ (Eq.mp (by kernel_rfl) h) (obs_seq obs_region rfl (obs_seq (obs_seq obs_region rfl (obs_block (obs_loop rfl (fun E D H h => by
      refine Safe.loop' (W_strings_makeASCIISet.l2.L K) (fun E D H h => ?_) (fun k E D H h => ?_) E D H h
      · obtain ⟨w0, e0, g1⟩ := DG.out h; obtain ⟨s2, rfl, g2⟩ := DS.out g1; obtain ⟨w2, e2, g3⟩ := DG.out g2; obtain ⟨pw2, rfl, g4⟩ := DP.out g3; obtain ⟨a1, rfl, g5⟩ := NN.out g4; obtain ⟨w4, e4, g6⟩ := DG.out g5; obtain ⟨x1, rfl, g7⟩ := DI.out g6; obtain ⟨rfl, h'⟩ := DNilD.out g7; exact h'
      · obtain ⟨w0, e0, g1⟩ := DG.out h
        obtain ⟨s2, rfl, g2⟩ := DS.out g1
        obtain ⟨w2, e2, g3⟩ := DG.out g2
        obtain ⟨pw2, rfl, g4⟩ := DP.out g3
        obtain ⟨a1, rfl, g5⟩ := NN.out g4
        obtain ⟨w4, e4, g6⟩ := DG.out g5
        obtain ⟨x1, rfl, g7⟩ := DI.out g6
        obtain ⟨rfl, h'⟩ := DNilD.out g7
        exact (hw_safe (Λ := (W_strings_makeASCIISet.Λ2 K (W_strings_makeASCIISet.l2 K k))) mixWlstrings _ _ [(0, .string s2), (2, .pointer (some a1)), (4, .int .i64 x1)] [] H (Eq.mp (by kernel_rfl) h') (obs_seq (obs_seq obs_region rfl (obs_cond obs_skip obs_exit)) rfl (obs_seq (obs_block (obs_seq obs_region rfl (obs_seq (obs_seq obs_region rfl (obs_cond (obs_seq obs_region rfl obs_ret) obs_skip)) rfl obs_region))) rfl obs_region))).weaken (EnvLe.cons e0 (EnvLe.cons e2 (EnvLe.cons e4 (EnvLe.nil _)))) (Hp.le_refl _))))) rfl (obs_seq obs_region rfl obs_ret))))

-- strings.trimLeftASCII
def W_strings_trimLeftASCII.l1 (K : Value → Hp → Prop) : Nat → ByteArray → Option Addr → Hp → Prop
  | 0, _, _, _ => False
  | k + 1, s2, p2, H =>
    let R1 := W_strings_trimLeftASCII.l1 K k
    BIf (decide (((s2.size : Nat) : Int) > (0 : Int))) ((0 ≤ (0 : Int) ∧ ixB s2 (0 : Int).toNat fun x1 => HCalls Tryd.prog 170 #[.pointer p2, .int .u8 x1] H fun v1 H1 => DB v1 fun c1 => BIf (!c1) (K (.string s2) H1) (slB s2.size s2.size (some (1 : Int)) none fun n1 n2 => R1 (s2.extract n1 n2) p2 H1))) (K (.string s2) H)
def W_strings_trimLeftASCII (s1 : ByteArray) (p1 : Option Addr) (H : Hp) (K : Value → Hp → Prop) : Prop :=
  (∃ k, W_strings_trimLeftASCII.l1 K k s1 p1 H)
def W_strings_trimLeftASCII.l1.L (K : Value → Hp → Prop) (k : Nat) : Mid := fun E D H =>
  DG (E.get? 0) fun w0 => DS w0 fun s2 => DG (E.get? 1) fun w1 => DP w1 fun p2 => DNilD D (W_strings_trimLeftASCII.l1 K k s2 p2 H)
def W_strings_trimLeftASCII.Λ1 (_ : Value → Hp → Prop) (_R1 : ByteArray → Option Addr → Hp → Prop) : Cuts := Cuts.none (fun _ => none)
def W_strings_trimLeftASCII.Λ (K : Value → Hp → Prop) : Cuts := ⟨fun i => none, fun i => match Nat.beq i 1 with | true => some (fun E D H => ∃ k, W_strings_trimLeftASCII.l1.L K k E D H) | false => none, (fun _ => none)⟩
theorem W_strings_trimLeftASCII.ok (s1 : ByteArray) (p1 : Option Addr) (H : Hp) (K : Value → Hp → Prop) (h : W_strings_trimLeftASCII s1 p1 H K) : HCalls Tryd.prog 133 #[.string s1, .pointer p1] H K :=
  hcalls Tryd.func133 rfl (Nat.le_of_ble_eq_true rfl) (hw_safe (Λ := (W_strings_trimLeftASCII.Λ K)) mixWlstrings _ _ _ _ _ (Eq.mp (by kernel_rfl) h) (obs_seq obs_region rfl (obs_seq (obs_block (obs_loop rfl (fun E D H h => by
      refine Safe.loop' (W_strings_trimLeftASCII.l1.L K) (fun E D H h => ?_) (fun k E D H h => ?_) E D H h
      · obtain ⟨w0, e0, g1⟩ := DG.out h; obtain ⟨s2, rfl, g2⟩ := DS.out g1; obtain ⟨w1, e1, g3⟩ := DG.out g2; obtain ⟨p2, rfl, g4⟩ := DP.out g3; obtain ⟨rfl, h'⟩ := DNilD.out g4; exact h'
      · obtain ⟨w0, e0, g1⟩ := DG.out h
        obtain ⟨s2, rfl, g2⟩ := DS.out g1
        obtain ⟨w1, e1, g3⟩ := DG.out g2
        obtain ⟨p2, rfl, g4⟩ := DP.out g3
        obtain ⟨rfl, h'⟩ := DNilD.out g4
        exact (hw_safe (Λ := (W_strings_trimLeftASCII.Λ1 K (W_strings_trimLeftASCII.l1 K k))) mixWlstrings _ _ [(0, .string s2), (1, .pointer p2)] [] H (Eq.mp (by kernel_rfl) h') (obs_seq (obs_seq obs_region rfl (obs_cond obs_skip obs_exit)) rfl (obs_block (obs_seq (obs_seq obs_region rfl (obs_cond obs_exit obs_skip)) rfl obs_region)))).weaken (EnvLe.cons e0 (EnvLe.cons e1 (EnvLe.nil _))) (Hp.le_refl _)))) rfl (obs_seq obs_region rfl obs_ret))))

-- strings.trimRightASCII
def W_strings_trimRightASCII.l1 (K : Value → Hp → Prop) : Nat → ByteArray → Option Addr → Hp → Prop
  | 0, _, _, _ => False
  | k + 1, s2, p2, H =>
    let R1 := W_strings_trimRightASCII.l1 K k
    BIf (decide (((s2.size : Nat) : Int) > (0 : Int))) ((0 ≤ (IntKind.i64.wrap (((s2.size : Nat) : Int) - (1 : Int))) ∧ ixB s2 (IntKind.i64.wrap (((s2.size : Nat) : Int) - (1 : Int))).toNat fun x1 => HCalls Tryd.prog 170 #[.pointer p2, .int .u8 x1] H fun v1 H1 => DB v1 fun c1 => BIf (!c1) (K (.string s2) H1) (slB s2.size s2.size none (some (IntKind.i64.wrap (((s2.size : Nat) : Int) - (1 : Int)))) fun n1 n2 => R1 (s2.extract n1 n2) p2 H1))) (K (.string s2) H)
def W_strings_trimRightASCII (s1 : ByteArray) (p1 : Option Addr) (H : Hp) (K : Value → Hp → Prop) : Prop :=
  (∃ k, W_strings_trimRightASCII.l1 K k s1 p1 H)
def W_strings_trimRightASCII.l1.L (K : Value → Hp → Prop) (k : Nat) : Mid := fun E D H =>
  DG (E.get? 0) fun w0 => DS w0 fun s2 => DG (E.get? 1) fun w1 => DP w1 fun p2 => DNilD D (W_strings_trimRightASCII.l1 K k s2 p2 H)
def W_strings_trimRightASCII.Λ1 (_ : Value → Hp → Prop) (_R1 : ByteArray → Option Addr → Hp → Prop) : Cuts := Cuts.none (fun _ => none)
def W_strings_trimRightASCII.Λ (K : Value → Hp → Prop) : Cuts := ⟨fun i => none, fun i => match Nat.beq i 1 with | true => some (fun E D H => ∃ k, W_strings_trimRightASCII.l1.L K k E D H) | false => none, (fun _ => none)⟩
theorem W_strings_trimRightASCII.ok (s1 : ByteArray) (p1 : Option Addr) (H : Hp) (K : Value → Hp → Prop) (h : W_strings_trimRightASCII s1 p1 H K) : HCalls Tryd.prog 134 #[.string s1, .pointer p1] H K :=
  hcalls Tryd.func134 rfl (Nat.le_of_ble_eq_true rfl) (hw_safe (Λ := (W_strings_trimRightASCII.Λ K)) mixWlstrings _ _ _ _ _ (Eq.mp (by kernel_rfl) h) (obs_seq obs_region rfl (obs_seq (obs_block (obs_loop rfl (fun E D H h => by
      refine Safe.loop' (W_strings_trimRightASCII.l1.L K) (fun E D H h => ?_) (fun k E D H h => ?_) E D H h
      · obtain ⟨w0, e0, g1⟩ := DG.out h; obtain ⟨s2, rfl, g2⟩ := DS.out g1; obtain ⟨w1, e1, g3⟩ := DG.out g2; obtain ⟨p2, rfl, g4⟩ := DP.out g3; obtain ⟨rfl, h'⟩ := DNilD.out g4; exact h'
      · obtain ⟨w0, e0, g1⟩ := DG.out h
        obtain ⟨s2, rfl, g2⟩ := DS.out g1
        obtain ⟨w1, e1, g3⟩ := DG.out g2
        obtain ⟨p2, rfl, g4⟩ := DP.out g3
        obtain ⟨rfl, h'⟩ := DNilD.out g4
        exact (hw_safe (Λ := (W_strings_trimRightASCII.Λ1 K (W_strings_trimRightASCII.l1 K k))) mixWlstrings _ _ [(0, .string s2), (1, .pointer p2)] [] H (Eq.mp (by kernel_rfl) h') (obs_seq (obs_seq obs_region rfl (obs_cond obs_skip obs_exit)) rfl (obs_block (obs_seq (obs_seq obs_region rfl (obs_cond obs_exit obs_skip)) rfl obs_region)))).weaken (EnvLe.cons e0 (EnvLe.cons e1 (EnvLe.nil _))) (Hp.le_refl _)))) rfl (obs_seq obs_region rfl obs_ret))))

-- (*strings.asciiSet).contains
def W_strings_asciiSet_contains (p1 : Option Addr) (x1 : Int) (H : Hp) (K : Value → Hp → Prop) : Prop :=
  NN p1 fun a1 => ixI x1 256 (Ld H (a1.add (x1.toNat * 1)) fun v1 => DB v1 fun c1 => K (.bool c1) H)
def W_strings_asciiSet_contains.Λ (_ : Value → Hp → Prop) : Cuts := Cuts.none (fun _ => none)
theorem W_strings_asciiSet_contains.ok (p1 : Option Addr) (x1 : Int) (H : Hp) (K : Value → Hp → Prop) (h : W_strings_asciiSet_contains p1 x1 H K) : HCalls Tryd.prog 170 #[.pointer p1, .int .u8 x1] H K :=
  hcalls Tryd.func170 rfl (Nat.le_of_ble_eq_true rfl) (hw_safe (Λ := Cuts.none (fun _ => none)) mixWlstrings _ _ _ _ _ (Eq.mp (by kernel_rfl) h) (obs_none _ _ _ _ _))

end Go.Proofs.YtbnhfcdagoigkaaDoor.W

end
section
/-! CodB -/
/- strings: what is left of a text if its digits are cut off at both ends. -/
set_option maxRecDepth 100000
set_option linter.unusedSimpArgs false
set_option linter.unusedVariables false
set_option linter.unnecessarySimpa false
set_option linter.unusedSectionVars false
namespace Go.Proofs.YtbnhfcdagoigkaaDoor.Cod
open Go Go.Hw Go.Proofs.YtbnhfcdagoigkaaDoor.W Go.Proofs.YtbnhfcdagoigkaaDoor.Gol Go.Proofs.YtbnhfcdagoigkaaDoor.Gen

def isDb (c : UInt8) : Bool := decide (48 ≤ c.toNat ∧ c.toNat < 58)
def digs : ByteArray := ⟨#[48, 49, 50, 51, 52, 53, 54, 55, 56, 57]⟩

theorem extr (l : List UInt8) (a b : Nat) : (⟨⟨l⟩⟩ : ByteArray).extract a b = ⟨⟨(l.take b).drop a⟩⟩ := by
  apply ByteArray.ext
  rw [ByteArray.data_extract]
  apply Array.ext'
  simp [Array.toList_extract, List.extract_eq_take_drop, List.drop_take]

theorem ba_list (l : List UInt8) : (⟨⟨l⟩⟩ : ByteArray).toList = l := ByteArray.toList_mk l
theorem ba_ne {l m : List UInt8} (h : l ≠ m) : ((⟨⟨l⟩⟩ : ByteArray).toList == (⟨⟨m⟩⟩ : ByteArray).toList) = false := by
  rw [ba_list, ba_list]
  exact beq_eq_false_iff_ne.2 h
theorem ba_eq {l m : List UInt8} (h : l = m) : ((⟨⟨l⟩⟩ : ByteArray).toList == (⟨⟨m⟩⟩ : ByteArray).toList) = true := by
  rw [ba_list, ba_list]
  exact beq_iff_eq.2 h

/-- The set of the digits, as far as it is laid. -/
def setN (i : Nat) : Array Value := ((List.range 256).map fun j => Value.bool (decide (48 ≤ j ∧ j < 48 + i))).toArray
theorem setN_size (i : Nat) : (setN i).size = 256 := by simp [setN]
theorem setN_get (i j : Nat) (h : j < 256) : (setN i)[j]? = some (.bool (decide (48 ≤ j ∧ j < 48 + i))) := by simp [setN, h]
theorem setN_ok (i : Nat) : (setN i).toList.all (fun v => v.oneCell') = true := by simp [setN, Value.oneCell']
theorem setN_next (i : Nat) (h : i < 10) : (setN i).setIfInBounds (48 + i) (.bool true) = setN (i + 1) := by
  apply Array.ext
  · simp [setN]
  · intro j h1 h2
    have h3 : j < 256 := by simpa [setN] using h2
    rw [Array.getElem_setIfInBounds (hj := by rw [setN_size]; exact h3)]
    split
    · rename_i e
      subst e
      simp [setN]
    · rename_i e
      simp only [setN, List.getElem_toArray, List.getElem_map, List.getElem_range]
      congr 1
      apply decide_eq_decide.2
      omega

theorem contains_ok (b : Nat) (e : TypeId) (c : UInt8) (H : Hp) (hb : H b = some (.obj (.cells (setN 10) e))) :
    HCalls Tryd.prog 170 #[.pointer (some ⟨b, 0, none⟩), .int .u8 (c.toNat : Int)] H (RetE (.bool (isDb c)) H) := by
  apply W_strings_asciiSet_contains.ok
  unfold W_strings_asciiSet_contains
  have := c.toNat_lt
  rw [NN_some, Addr.add_lit', Nat.zero_add, show (c.toNat : Int).toNat * 1 = c.toNat by omega]
  refine ⟨by omega, by omega, Ld_obj hb (setN_get 10 _ (by omega)) ?_⟩
  simp only [DI_int', DB_bool, DS_string, DP_pointer, DSl_slice, DM_map, DA_agg, DTup_tuple, DCons_cons, DNil_nil, NN_some, BIf_true, BIf_false, BIf_same, List.toList_toArray, Bool.not_true, Bool.not_false]
  exact RetE.mk _ _

theorem set_ok (H : Hp) : HCalls Tryd.prog 132 #[.string digs] H (RetE (.tuple #[.agg (setN 10), .bool true]) H) := HCalls.ret (by
  apply W_strings_makeASCIISet.ok
  unfold W_strings_makeASCIISet
  refine (Sep.start H).nw fun b1 H1 hs => ?_
  refine ⟨11, ?_⟩
  have key : ∀ (t j : Nat) (H1 : Hp), j + t = 10 → Hw.Sep [own H, pts b1 (.obj (.cells (setN j) 234))] H1 → W_strings_makeASCIISet.l2 (Ret (.tuple #[.agg (setN 10), .bool true]) H) (t + 1) digs ⟨b1, 0, none⟩ (j : Int) H1 := by
    intro t
    induction t with
    | zero =>
      intro j H1 hj hs
      obtain rfl : j = 10 := by omega
      unfold W_strings_makeASCIISet.l2
      refine BIf_dneg (by decide) ?_
      refine hs.ldw 1 rfl (setN_size _) (hs.stw 1 rfl (setN_size _) (setN_size _) (setN_ok _) fun H2 hs => hs.ldw 1 rfl (setN_size _) ?_)
      rw [Array.toArray_toList]
      exact hs.fin 0 rfl _
    | succ t ih =>
      intro j H1 hj hs
      unfold W_strings_makeASCIISet.l2
      have hd : ∀ j (h : j < 10), (digs[j]'h).toNat = 48 + j := by decide
      have hlt : j < 10 := by omega
      have hsz : digs.size = 10 := rfl
      refine BIf_dpos (by rw [hsz]; omega) ⟨by omega, ?_⟩
      rw [Int.toNat_natCast]
      refine ixB_of (h := hlt) ?_
      rw [hd j hlt]
      refine BIf_dneg (by omega) ⟨by omega, by omega, ?_⟩
      rw [Addr.add_lit', Nat.zero_add, Addr.add_lit', show ((48 + j : Nat) : Int).toNat * 1 + 0 = 48 + j by omega]
      refine hs.st 1 rfl (by rw [setN_size]; omega) rfl fun H2 hs => ?_
      rw [i64w (x := (j : Int) + 1) (by omega) (by omega)]
      refine ih (j + 1) H2 (by omega) ?_
      rw [← setN_next j hlt]
      exact hs
  have e0 : setN 0 = Array.replicate 256 (.bool false) := by
    apply Array.ext
    · simp [setN]
    · intro j h1 h2
      simp only [setN, List.getElem_toArray, List.getElem_map, List.getElem_range, Array.getElem_replicate]
      congr 1
      exact decide_eq_false (by omega)
  refine key 10 0 H1 rfl ?_
  rw [e0]
  exact hs)

theorem TrimL_loop (b : Nat) (e : TypeId) (H : Hp) (hb : H b = some (.obj (.cells (setN 10) e))) (K : Value → Hp → Prop) : ∀ (l : List UInt8), l.length ≤ 1000000000 → K (.string ⟨⟨l.dropWhile isDb⟩⟩) H → W_strings_trimLeftASCII.l1 K (l.length + 1) ⟨⟨l⟩⟩ (some ⟨b, 0, none⟩) H
  | [], _, k => by
    unfold W_strings_trimLeftASCII.l1
    exact BIf_dneg (by decide) k
  | x :: l, hl, k => by
    unfold W_strings_trimLeftASCII.l1
    have hsz : (⟨⟨x :: l⟩⟩ : ByteArray).size = l.length + 1 := rfl
    refine BIf_dpos (by rw [hsz]; omega) ⟨by decide, ?_⟩
    refine ixB_of (i := 0) (h := by rw [hsz]; omega) ?_
    have h0 : ((⟨⟨x :: l⟩⟩ : ByteArray)[0]'(by rw [hsz]; omega)) = x := rfl
    rw [h0]
    refine HCalls.use (contains_ok b e x H hb) ?_
    simp only [DI_int', DB_bool, DS_string, DP_pointer, DSl_slice, DM_map, DA_agg, DTup_tuple, DCons_cons, DNil_nil, NN_some, BIf_true, BIf_false, BIf_same, List.toList_toArray, Bool.not_true, Bool.not_false]
    rw [List.dropWhile_cons] at k
    cases hx : isDb x with
    | false =>
      rw [hx, if_neg (by decide)] at k
      exact k
    | true =>
      rw [hx, if_pos rfl] at k
      refine BIf_neg rfl (slB_from (l := 1) rfl (show 1 ≤ l.length + 1 by omega) ?_)
      rw [hsz, extr, List.take_of_length_le (by simp)]
      simp only [List.length_cons] at hl
      exact TrimL_loop b e H hb K l (by omega) k

theorem TrimR_loop (b : Nat) (e : TypeId) (H : Hp) (hb : H b = some (.obj (.cells (setN 10) e))) (K : Value → Hp → Prop) : ∀ (n : Nat) (l : List UInt8), l.length = n → n ≤ 1000000000 → K (.string ⟨⟨(l.reverse.dropWhile isDb).reverse⟩⟩) H → W_strings_trimRightASCII.l1 K (n + 1) ⟨⟨l⟩⟩ (some ⟨b, 0, none⟩) H
  | 0, l, h0, _, k => by
    rw [List.length_eq_zero_iff.1 h0] at k ⊢
    unfold W_strings_trimRightASCII.l1
    exact BIf_dneg (by decide) k
  | n + 1, l, hn, hl, k => by
    unfold W_strings_trimRightASCII.l1
    have hsz : (⟨⟨l⟩⟩ : ByteArray).size = n + 1 := hn
    obtain ⟨r, x, rfl⟩ : ∃ r x, l = r ++ [x] := ⟨_, _, (List.dropLast_concat_getLast (by intro e; subst e; cases hn)).symm⟩
    have hr : r.length = n := by simpa using hn
    rw [hsz]
    refine BIf_dpos (by omega) ⟨?_, ?_⟩
    · rw [i64w (by omega) (by omega)]; omega
    rw [i64w (by omega) (by omega), show (((n + 1 : Nat) : Int) - 1).toNat = n by omega]
    refine ixB_of (i := n) (h := by rw [hsz]; omega) ?_
    have h0 : ((⟨⟨r ++ [x]⟩⟩ : ByteArray)[n]'(by rw [hsz]; omega)) = x := by
      show (r ++ [x])[n]'_ = x
      simp [← hr]
    rw [h0]
    refine HCalls.use (contains_ok b e x H hb) ?_
    simp only [DI_int', DB_bool, DS_string, DP_pointer, DSl_slice, DM_map, DA_agg, DTup_tuple, DCons_cons, DNil_nil, NN_some, BIf_true, BIf_false, BIf_same, List.toList_toArray, Bool.not_true, Bool.not_false]
    rw [List.reverse_append, List.reverse_singleton, List.singleton_append, List.dropWhile_cons] at k
    cases hx : isDb x with
    | false =>
      rw [hx, if_neg (by decide)] at k
      rw [List.reverse_cons, List.reverse_reverse] at k
      exact k
    | true =>
      rw [hx, if_pos rfl] at k
      refine BIf_neg rfl (slB_to (r := n) (by omega) (show n ≤ n + 1 by omega) ?_)
      rw [extr, List.drop_zero, List.take_left' hr]
      exact TrimR_loop b e H hb K n r hr (by omega) k

def trim10 (l : List UInt8) : List UInt8 := ((l.reverse.dropWhile isDb).reverse).dropWhile isDb
theorem trim10_nil (l : List UInt8) : trim10 l = [] ↔ ∀ c ∈ l, isDb c = true := by
  unfold trim10
  rw [dw_nil]
  constructor
  · intro h c hc
    exact dw_all isDb l.reverse (fun y hy => h y (by simpa using hy)) c (by simpa using hc)
  · intro h c hc
    have := (List.dropWhile_sublist isDb).subset (List.mem_reverse.1 hc)
    exact h c (List.mem_reverse.1 this)

/-- strings.Trim at the digits. -/
theorem Trim10_ok (l : List UInt8) (h1 : l ≠ []) (hl : l.length ≤ 1000000000) (H : Hp) :
    HCalls Tryd.prog 96 #[.string ⟨⟨l⟩⟩, .string digs] H (RetE (.string ⟨⟨trim10 l⟩⟩) H) := HCalls.ret (by
  apply W_strings_Trim.ok
  unfold W_strings_Trim
  refine BIf_neg (ba_ne h1) (BIf_neg (ba_ne (by decide)) (BIf_beqn (by decide) ?_))
  unfold W_strings_Trim.j5
  refine HCalls.use (set_ok H) ?_
  simp only [DI_int', DB_bool, DS_string, DP_pointer, DSl_slice, DM_map, DA_agg, DTup_tuple, DCons_cons, DNil_nil, NN_some, BIf_true, BIf_false, BIf_same, List.toList_toArray, Bool.not_true, Bool.not_false]
  refine (Sep.start H).nw fun b1 H1 hs => ?_
  refine hs.stw 1 rfl rfl (setN_size _) (setN_ok _) fun H2 hs => ?_
  have hb := hs.get 1 rfl
  have hR : HCalls Tryd.prog 134 #[.string ⟨⟨l⟩⟩, .pointer (some ⟨b1, 0, none⟩)] H2 (RetE (.string ⟨⟨(l.reverse.dropWhile isDb).reverse⟩⟩) H2) := by
    apply W_strings_trimRightASCII.ok
    unfold W_strings_trimRightASCII
    exact ⟨_, TrimR_loop b1 _ H2 hb _ l.length l rfl hl (RetE.mk _ _)⟩
  have hll : ((l.reverse.dropWhile isDb).reverse).length ≤ 1000000000 := by
    rw [List.length_reverse]
    exact Nat.le_trans (List.dropWhile_sublist isDb).length_le (by rw [List.length_reverse]; exact hl)
  have hL : HCalls Tryd.prog 133 #[.string ⟨⟨(l.reverse.dropWhile isDb).reverse⟩⟩, .pointer (some ⟨b1, 0, none⟩)] H2 (RetE (.string ⟨⟨trim10 l⟩⟩) H2) := by
    apply W_strings_trimLeftASCII.ok
    unfold W_strings_trimLeftASCII
    exact ⟨_, TrimL_loop b1 _ H2 hb _ _ hll (RetE.mk _ _)⟩
  refine HCalls.use hR ?_
  simp only [DI_int', DB_bool, DS_string, DP_pointer, DSl_slice, DM_map, DA_agg, DTup_tuple, DCons_cons, DNil_nil, NN_some, BIf_true, BIf_false, BIf_same, List.toList_toArray, Bool.not_true, Bool.not_false]
  refine HCalls.use hL ?_
  simp only [DI_int', DB_bool, DS_string, DP_pointer, DSl_slice, DM_map, DA_agg, DTup_tuple, DCons_cons, DNil_nil, NN_some, BIf_true, BIf_false, BIf_same, List.toList_toArray, Bool.not_true, Bool.not_false]
  exact hs.fin 0 rfl _)

end Go.Proofs.YtbnhfcdagoigkaaDoor.Cod

end
section
/-! CodC -/
/- codec: a numeral, by the code and by the reference. -/
set_option maxRecDepth 100000
set_option linter.unusedSimpArgs false
set_option linter.unusedVariables false
set_option linter.unnecessarySimpa false
set_option linter.unusedSectionVars false
namespace Go.Proofs.YtbnhfcdagoigkaaDoor.Cod
open Go Go.Hw Go.Proofs.YtbnhfcdagoigkaaDoor.W Go.Proofs.YtbnhfcdagoigkaaDoor.Gol Go.Proofs.YtbnhfcdagoigkaaDoor.Gen

/-- What digits say. -/
def numF (a : Nat) (c : UInt8) : Nat := 10 * a + (c.toNat - 48)
def numV (l : List UInt8) : Nat := l.foldl numF 0
/-- A numeral's word, and what is wrong with it. -/
def numE (l : List UInt8) : Nat × Nat :=
  if l = [] then (0, 17) else if ¬ ∀ c ∈ l, isDb c = true then (0, 17) else if l.head? = some 48 ∧ 1 < l.length then (0, 17)
  else if 20 < l.length then (0, 14) else if numV l < 18446744069414584321 then (numV l, 0) else (0, 3)

theorem numV_next (l : List UInt8) (j : Nat) (h : j < l.length) : numV (l.take (j + 1)) = 10 * numV (l.take j) + (l[j].toNat - 48) := by
  unfold numV
  rw [List.take_add_one, List.foldl_append, List.getElem?_eq_getElem h]
  rfl
theorem fold_up : ∀ (r : List UInt8) (a : Nat), a ≤ r.foldl numF a
  | [], a => Nat.le_refl _
  | x :: r, a => Nat.le_trans (by show a ≤ numF a x; unfold numF; omega) (fold_up r (numF a x))
theorem numV_up (l : List UInt8) (j : Nat) : numV (l.take j) ≤ numV l := by
  have h := fold_up (l.drop j) (numV (l.take j))
  unfold numV at h ⊢
  rw [← List.foldl_append, List.take_append_drop] at h
  exact h
theorem dig_lt {c : UInt8} (h : isDb c = true) : 48 ≤ c.toNat ∧ c.toNat < 58 := of_decide_eq_true h
theorem numV_lt (l : List UInt8) (h : ∀ c ∈ l, isDb c = true) : ∀ j, j ≤ l.length → numV (l.take j) < 10 ^ j
  | 0, _ => by rw [List.take_zero]; exact Nat.zero_lt_one
  | j + 1, hj => by
    have ih := numV_lt l h j (by omega)
    have := dig_lt (h _ (List.getElem_mem (show j < l.length by omega)))
    rw [numV_next l j (by omega), Nat.pow_succ]
    omega

theorem gGood_ok (x : Nat) (H : Hp) : HCalls Tryd.prog 85 #[.int .u64 (x : Int)] H (RetE (.bool (decide (x < 18446744069414584321))) H) := by
  apply W_gold_Good.ok
  unfold W_gold_Good
  rw [show decide (x < 18446744069414584321) = decide ((x : Int) < 18446744069414584321) from decide_eq_decide.2 (by omega)]
  exact RetE.mk _ _

theorem numeral_loop (l : List UInt8) (hd : ∀ c ∈ l, isDb c = true) (hl : l.length ≤ 20) (b b1 m : Nat) (e e2 : TypeId) (H0 : Hp) (v : Value)
    (hv : v = .tuple #[.int .u64 (((if numV l < 18446744069414584321 then (numV l, 0) else (0, 3) : Nat × Nat).1 : Nat) : Int), .int .i64 (((if numV l < 18446744069414584321 then (numV l, 0) else (0, 3) : Nat × Nat).2 : Nat) : Int)]) :
    ∀ (t j : Nat) (H : Hp), j + t = l.length → Hw.Sep [own H0, pts b1 (.obj (.cells (wA (numV (l.take j))) e2)), pts b (.row (byteVals l) e m)] H →
      W_codec_numeral.l7 (Ret v H0) (t + 1) ⟨b1, 0, none⟩ (some ⟨b, 0, none⟩) l.length m (l.length : Int) (j : Int) H
  | 0, j, H, hj, hs => by
    unfold W_codec_numeral.l7
    rw [List.take_of_length_le (by omega)] at hs
    have hN := numV_lt l hd l.length (Nat.le_refl _)
    rw [List.take_length] at hN
    have h20 : (10 : Nat) ^ l.length ≤ 10 ^ 20 := Nat.pow_le_pow_right (by decide) hl
    have h20' : (10 : Nat) ^ 20 = 100000000000000000000 := by decide
    generalize numV l = N at *
    refine BIf_dneg (by omega) ?_
    first | refine hs.ldf 1 rfl rfl ?_ | refine hs.ldg 1 rfl rfl ?_
    try simp only [DI_int', DB_bool, DS_string, DP_pointer, DSl_slice, DM_map, DA_agg, DTup_tuple, DCons_cons, DNil_nil, NN_some, BIf_true, BIf_false, BIf_same, List.toList_toArray, Bool.not_true, Bool.not_false]
    unfold wA at hs
    by_cases hq : N / 18446744073709551616 > 0
    · refine BIf_dpos (by omega) ?_
      have : ¬ N < 18446744069414584321 := by omega
      rw [if_neg this] at hv
      rw [hv]
      exact hs.fin 0 rfl _
    · refine BIf_dneg (by omega) ?_
      first | refine hs.ldf 1 rfl rfl ?_ | refine hs.ldg 1 rfl rfl ?_
      try simp only [DI_int', DB_bool, DS_string, DP_pointer, DSl_slice, DM_map, DA_agg, DTup_tuple, DCons_cons, DNil_nil, NN_some, BIf_true, BIf_false, BIf_same, List.toList_toArray, Bool.not_true, Bool.not_false]
      have e1 : N % 18446744073709551616 = N := by omega
      rw [e1]
      refine HCalls.use (gGood_ok N H) ?_
      simp only [DI_int', DB_bool, DS_string, DP_pointer, DSl_slice, DM_map, DA_agg, DTup_tuple, DCons_cons, DNil_nil, NN_some, BIf_true, BIf_false, BIf_same, List.toList_toArray, Bool.not_true, Bool.not_false]
      by_cases hg : N < 18446744069414584321
      · rw [decide_eq_true hg]
        simp only [DI_int', DB_bool, DS_string, DP_pointer, DSl_slice, DM_map, DA_agg, DTup_tuple, DCons_cons, DNil_nil, NN_some, BIf_true, BIf_false, BIf_same, List.toList_toArray, Bool.not_true, Bool.not_false]
        first | refine hs.ldf 1 rfl rfl ?_ | refine hs.ldg 1 rfl rfl ?_
        try simp only [DI_int', DB_bool, DS_string, DP_pointer, DSl_slice, DM_map, DA_agg, DTup_tuple, DCons_cons, DNil_nil, NN_some, BIf_true, BIf_false, BIf_same, List.toList_toArray, Bool.not_true, Bool.not_false]
        rw [if_pos hg] at hv
        rw [hv, e1]
        exact hs.fin 0 rfl _
      · rw [decide_eq_false hg]
        simp only [DI_int', DB_bool, DS_string, DP_pointer, DSl_slice, DM_map, DA_agg, DTup_tuple, DCons_cons, DNil_nil, NN_some, BIf_true, BIf_false, BIf_same, List.toList_toArray, Bool.not_true, Bool.not_false]
        rw [if_neg hg] at hv
        rw [hv]
        exact hs.fin 0 rfl _
  | t + 1, j, H, hj, hs => by
    unfold W_codec_numeral.l7
    have hlt : j < l.length := by omega
    refine BIf_dpos (by omega) ?_
    have hc := Cells.row (hs.get 2 rfl) 0 l.length
    have hg : (((byteVals l).drop 0).take l.length)[j]? = some (.int .u8 (l[j].toNat : Int)) := by
      rw [List.drop_zero, List.take_of_length_le (by simp [byteVals])]
      simp [byteVals, hlt]
    refine hc.read hg rfl (by simp [byteVals]) ?_
    simp only [DI_int', DB_bool, DS_string, DP_pointer, DSl_slice, DM_map, DA_agg, DTup_tuple, DCons_cons, DNil_nil, NN_some, BIf_true, BIf_false, BIf_same, List.toList_toArray, Bool.not_true, Bool.not_false]
    have hN := numV_lt l hd j (by omega)
    have h20 : (10 : Nat) ^ j ≤ 10 ^ 20 := Nat.pow_le_pow_right (by decide) (by omega)
    have h20' : (10 : Nat) ^ 20 = 100000000000000000000 := by decide
    have hdj := dig_lt (hd _ (List.getElem_mem hlt))
    have hnx := numV_next l j hlt
    rw [i64w (x := (j : Int) + 1) (by omega) (by omega)]
    have ih := fun H hs => numeral_loop l hd hl b b1 m e e2 H0 v hv t (j + 1) H (by omega) hs
    rw [hnx] at ih
    generalize numV (l.take j) = N at *
    refine hs.ldw 1 rfl rfl ?_
    rw [Array.toArray_toList]
    refine QCall.use (Shl_ok N 3 3 (.inr ⟨rfl, rfl⟩) (by omega) H) ?_
    try simp only [DI_int', DB_bool, DS_string, DP_pointer, DSl_slice, DM_map, DA_agg, DTup_tuple, DCons_cons, DNil_nil, NN_some, BIf_true, BIf_false, BIf_same, List.toList_toArray, Bool.not_true, Bool.not_false]
    refine hs.ldw 1 rfl rfl ?_
    rw [Array.toArray_toList]
    refine QCall.use (Shl_ok N 1 1 (.inl ⟨rfl, rfl⟩) (by omega) H) ?_
    try simp only [DI_int', DB_bool, DS_string, DP_pointer, DSl_slice, DM_map, DA_agg, DTup_tuple, DCons_cons, DNil_nil, NN_some, BIf_true, BIf_false, BIf_same, List.toList_toArray, Bool.not_true, Bool.not_false]
    unfold wA
    simp only [DI_int', DB_bool, DS_string, DP_pointer, DSl_slice, DM_map, DA_agg, DTup_tuple, DCons_cons, DNil_nil, NN_some, BIf_true, BIf_false, BIf_same, List.toList_toArray, Bool.not_true, Bool.not_false]
    rw [show IntKind.u64.wrap (IntKind.u8.wrap ((l[j].toNat : Int) - 48)) = ((l[j].toNat - 48 : Nat) : Int) by
      rw [show IntKind.u8.wrap ((l[j].toNat : Int) - 48) = ((l[j].toNat - 48 : Nat) : Int) by rw [IntKind.wrap_u8]; omega, u64n (by omega)]]
    have hrow : [Value.int .u64 ((N * 2 ^ 3 / 18446744073709551616 : Nat) : Int), .int .u64 ((N * 2 ^ 3 % 18446744073709551616 : Nat) : Int), .int .u64 ((N * 2 ^ 1 / 18446744073709551616 : Nat) : Int), .int .u64 ((N * 2 ^ 1 % 18446744073709551616 : Nat) : Int), .int .u64 0, .int .u64 ((l[j].toNat - 48 : Nat) : Int)] = wL [N * 2 ^ 3, N * 2 ^ 1, l[j].toNat - 48] := by
      have a1 : (l[j].toNat - 48) / 18446744073709551616 = 0 := by omega
      have a2 : (l[j].toNat - 48) % 18446744073709551616 = l[j].toNat - 48 := by omega
      simp only [wL, wA, List.flatMap_cons, List.flatMap_nil, List.append_nil, List.cons_append, List.nil_append, a1, a2]
      rfl
    rw [hrow]
    refine hs.nw fun b2 H1 hs => ?_
    have hsum : [N * 2 ^ 3, N * 2 ^ 1, l[j].toNat - 48].sum = 10 * N + (l[j].toNat - 48) := by
      simp only [List.sum_cons, List.sum_nil]; omega
    refine HCalls.use (Sum_ok b2 _ 6 3 _ 3 rfl (by omega) (by rw [hsum]; omega) H1 (hs.get 3 rfl)) ?_
    rw [hsum]
    unfold wA
    simp only [DI_int', DB_bool, DS_string, DP_pointer, DSl_slice, DM_map, DA_agg, DTup_tuple, DCons_cons, DNil_nil, NN_some, BIf_true, BIf_false, BIf_same, List.toList_toArray, Bool.not_true, Bool.not_false]
    first | refine hs.stw 1 rfl rfl rfl rfl fun H hs => ?_
    try simp only [DI_int', DB_bool, DS_string, DP_pointer, DSl_slice, DM_map, DA_agg, DTup_tuple, DCons_cons, DNil_nil, NN_some, BIf_true, BIf_false, BIf_same, List.toList_toArray, Bool.not_true, Bool.not_false]
    exact ih _ (hs.re [0, 1, 2] rfl)

theorem numeral_ok (l : List UInt8) (hl : l.length ≤ 1000000) (H : Hp) :
    HCalls Tryd.prog 80 #[.string ⟨⟨l⟩⟩] H (RetE (.tuple #[.int .u64 ((numE l).1 : Int), .int .i64 ((numE l).2 : Int)]) H) := HCalls.ret (by
  apply W_codec_numeral.ok
  unfold W_codec_numeral
  by_cases h0 : l = []
  · subst h0
    exact BIf_pos (ba_eq rfl) ⟨rfl, Hp.le_refl _⟩
  refine BIf_neg (ba_ne h0) ?_
  refine HCalls.use (Trim10_ok l h0 (by omega) H) ?_
  simp only [DI_int', DB_bool, DS_string, DP_pointer, DSl_slice, DM_map, DA_agg, DTup_tuple, DCons_cons, DNil_nil, NN_some, BIf_true, BIf_false, BIf_same, List.toList_toArray, Bool.not_true, Bool.not_false]
  rcases (Classical.em (∀ c ∈ l, isDb c = true)).symm with hd | hd
  · refine BIf_pos (by rw [ba_ne (fun e => hd ((trim10_nil l).1 e))]; rfl) ⟨?_, Hp.le_refl _⟩
    unfold numE
    rw [if_neg h0, if_pos hd]; rfl
  refine BIf_neg (by rw [ba_eq ((trim10_nil l).2 hd)]; rfl) ⟨by decide, ?_⟩
  obtain ⟨x, r, rfl⟩ : ∃ x r, l = x :: r := by
    cases l with
    | nil => exact absurd rfl h0
    | cons x r => exact ⟨x, r, rfl⟩
  have hsz : (⟨⟨x :: r⟩⟩ : ByteArray).size = r.length + 1 := rfl
  refine ixB_of (i := 0) (h := by rw [hsz]; omega) ?_
  have hx0 : ((⟨⟨x :: r⟩⟩ : ByteArray)[0]'(by rw [hsz]; omega)) = x := rfl
  rw [hx0, hsz]
  have hj : ¬ (x = 48 ∧ 1 < r.length + 1) → BIf (decide (((r.length + 1 : Nat) : Int) > 20)) (Ret (.tuple #[.int .u64 ((numE (x :: r)).1 : Int), .int .i64 ((numE (x :: r)).2 : Int)]) H (.tuple #[.int .u64 0, .int .i64 14]) H) (W_codec_numeral.j5 (Ret (.tuple #[.int .u64 ((numE (x :: r)).1 : Int), .int .i64 ((numE (x :: r)).2 : Int)]) H) ⟨⟨x :: r⟩⟩ H) := fun hz => by
    have hz' : ¬ ((x :: r).head? = some 48 ∧ 1 < (x :: r).length) := by simpa using hz
    by_cases h20 : 20 < r.length + 1
    · refine BIf_dpos (by omega) ⟨?_, Hp.le_refl _⟩
      unfold numE
      rw [if_neg h0, if_neg (fun h => h hd), if_neg hz', if_pos (by simpa using h20)]; rfl
    · refine BIf_dneg (by omega) ?_
      unfold W_codec_numeral.j5
      refine (Sep.start H).nw fun b1 H1 hs => ⟨by rw [hsz]; simp only [List.length_cons] at hl; omega, fun c hc => ?_⟩
      refine hs.nw fun b H1 hs => ?_
      simp only [DI_int', DB_bool, DS_string, DP_pointer, DSl_slice, DM_map, DA_agg, DTup_tuple, DCons_cons, DNil_nil, NN_some, BIf_true, BIf_false, BIf_same, List.toList_toArray, Bool.not_true, Bool.not_false]
      refine ⟨(x :: r).length + 1, ?_⟩
      have e0 : wA (numV (List.take 0 (x :: r))) = #[.int .u64 0, .int .u64 0] := by rw [List.take_zero]; rfl
      refine numeral_loop (x :: r) hd (by simp only [List.length_cons]; omega) b b1 c _ _ H _ ?_ (x :: r).length 0 H1 (by omega) (by rw [e0]; exact hs)
      unfold numE
      rw [if_neg h0, if_neg (fun h => h hd), if_neg hz', if_neg (by simpa using h20)]
  by_cases hx : x = 48
  · refine BIf_beqp (by subst hx; rfl) ?_
    by_cases h1 : 1 < r.length + 1
    · refine BIf_dpos (by omega) ⟨?_, Hp.le_refl _⟩
      unfold numE
      rw [if_neg h0, if_neg (fun h => h hd), if_pos ⟨by rw [hx]; rfl, by simpa using h1⟩]; rfl
    · exact BIf_dneg (by omega) (hj (fun h => h1 h.2))
  · refine BIf_beqn (fun e => hx ?_) (hj (fun h => hx h.1))
    apply UInt8.toNat_inj.1
    show x.toNat = 48
    omega)

end Go.Proofs.YtbnhfcdagoigkaaDoor.Cod

end
section
/-! LayP -/
/- Contracts of the library's functions, laid at this program (printed by lay2.py). -/
set_option maxRecDepth 100000
namespace Go.Proofs.YtbnhfcdagoigkaaDoor.Lib2
open Go Go.Proofs Go.Shelf Go.RowKit
def splitL_ren : Go.Shelf.Ren := ⟨fun | 146 => 79 | 221 => 119 | 268 => 155 | 138 => 156 | 143 => 157 | 195 => 192 | 197 => 171 | 218 => 193 | 219 => 167 | 260 => 206 | 217 => 201 | 225 => 202 | 224 => 203 | 267 => 204 | 266 => 220 | 314 => 221 | n => n, fun | 9 => 9 | 31 => 148 | 3 => 3 | 4 => 4 | 0 => 0 | 105 => 275 | 21 => 21 | 5 => 5 | 46 => 40 | 119 => 313 | 139 => 316 | 138 => 315 | 146 => 311 | 51 => 23 | n => n, fun | 1 => 7 | 3 => 8 | 4 => 9 | n => n⟩
theorem splitL : Go.Proofs.Lays.n146 Tryd.prog splitL_ren where
  mixed := by kernel_rfl
  f138 := Tryd.func156.trans (congrArg some (by kernel_rfl))
  f143 := Tryd.func157.trans (congrArg some (by kernel_rfl))
  f146 := Tryd.func79.trans (congrArg some (by kernel_rfl))
  f195 := Tryd.func192.trans (congrArg some (by kernel_rfl))
  f197 := Tryd.func171.trans (congrArg some (by kernel_rfl))
  f217 := Tryd.func201.trans (congrArg some (by kernel_rfl))
  f218 := Tryd.func193.trans (congrArg some (by kernel_rfl))
  f219 := Tryd.func167.trans (congrArg some (by kernel_rfl))
  f221 := Tryd.func119.trans (congrArg some (by kernel_rfl))
  f224 := Tryd.func203.trans (congrArg some (by kernel_rfl))
  f225 := Tryd.func202.trans (congrArg some (by kernel_rfl))
  f260 := Tryd.func206.trans (congrArg some (by kernel_rfl))
  f266 := Tryd.func220.trans (congrArg some (by kernel_rfl))
  f267 := Tryd.func204.trans (congrArg some (by kernel_rfl))
  f268 := Tryd.func155.trans (congrArg some (by kernel_rfl))
  f314 := Tryd.func221.trans (congrArg some (by kernel_rfl))
  t0 := Tryd.underlying0
  a0 := Tryd.isAgg0
  z0 := Tryd.sizeOf0
  v0 := Tryd.zeroValue0
  t3 := Tryd.underlying3
  a3 := Tryd.isAgg3
  z3 := Tryd.sizeOf3
  v3 := Tryd.zeroValue3
  t4 := Tryd.underlying4
  a4 := Tryd.isAgg4
  z4 := Tryd.sizeOf4
  v4 := Tryd.zeroValue4
  t5 := Tryd.underlying5
  a5 := Tryd.isAgg5
  z5 := Tryd.sizeOf5
  v5 := Tryd.zeroValue5
  t9 := Tryd.underlying9
  a9 := Tryd.isAgg9
  z9 := Tryd.sizeOf9
  v9 := Tryd.zeroValue9
  t21 := Tryd.underlying21
  a21 := Tryd.isAgg21
  z21 := Tryd.sizeOf21
  v21 := Tryd.zeroValue21
  t31 := Tryd.underlying148
  a31 := Tryd.isAgg148
  z31 := Tryd.sizeOf148
  v31 := Tryd.zeroValue148
  t46 := Tryd.underlying40
  a46 := Tryd.isAgg40
  z46 := Tryd.sizeOf40
  v46 := Tryd.zeroValue40
  t51 := Tryd.underlying23
  a51 := Tryd.isAgg23
  z51 := Tryd.sizeOf23
  v51 := Tryd.zeroValue23
  t105 := Tryd.underlying275
  a105 := Tryd.isAgg275
  z105 := Tryd.sizeOf275
  v105 := Tryd.zeroValue275
  t119 := Tryd.underlying313
  a119 := Tryd.isAgg313
  z119 := Tryd.sizeOf313
  t138 := Tryd.underlying315
  a138 := Tryd.isAgg315
  z138 := Tryd.sizeOf315
  v138 := Tryd.zeroValue315
  t139 := Tryd.underlying316
  a139 := Tryd.isAgg316
  z139 := Tryd.sizeOf316
  v139 := Tryd.zeroValue316
  t146 := Tryd.underlying311
  a146 := Tryd.isAgg311
  z146 := Tryd.sizeOf311
  v146 := Tryd.zeroValue311
  g1 := by kernel_rfl
  g3 := by kernel_rfl
  g4 := by kernel_rfl
end Go.Proofs.YtbnhfcdagoigkaaDoor.Lib2

end
section
/-! HwP -/
/- The frame of the proofs: the library's Split at one byte, which reads a variable of the library's own. -/
set_option maxRecDepth 100000
set_option linter.unusedSimpArgs false
set_option linter.unusedVariables false
set_option linter.unnecessarySimpa false
set_option linter.unusedSectionVars false
namespace Go.Hw
open Go Go.Proofs Go.Proofs.YtbnhfcdagoigkaaDoor.Lib2 Go.RowKit Go.Shelf

/-- The library's variable holds some number. -/
def MaxL (H : Hp) : Prop := ∃ m, H.cell? ⟨7, 0, none⟩ = some (.int .i64 m)
theorem MaxL.le {H H' : Hp} (h : MaxL H) (k : H.le H') : MaxL H' := by
  obtain ⟨m, hm⟩ := h
  exact ⟨m, k.cell hm⟩

/-- A text's pieces between one byte and the next. -/
def joinW (c : UInt8) : List (List UInt8) → List UInt8
  | [] => []
  | [p] => p
  | p :: q :: r => p ++ c :: joinW c (q :: r)

structure Pieces (c : UInt8) (ps : List (List UInt8)) (s : List UInt8) : Prop where
  ne : ps ≠ []
  none : ∀ p ∈ ps, c ∉ p
  eq : joinW c ps = s

theorem joinW_cons (c : UInt8) (p : List UInt8) {ps : List (List UInt8)} (h : ps ≠ []) : joinW c (p :: ps) = p ++ c :: joinW c ps := by
  cases ps with
  | nil => exact absurd rfl h
  | cons q r => rfl

theorem pieces_of (c : UInt8) : ∀ (k : Nat) (s : List UInt8), Lib.count s [c] = k → Pieces c (Lib.splitK [c] 0 k s) s
  | 0, s, hk => by
    refine ⟨by simp [Lib.splitK], fun p hp => ?_, rfl⟩
    simp only [Lib.splitK, List.mem_singleton] at hp
    subst hp
    rw [Lib.count_one] at hk
    exact List.count_eq_zero.1 hk
  | k + 1, s, hk => by
    rcases Lib.index_spec s [c] with ⟨h1, _⟩ | ⟨i, h1, hi, ho, hno⟩
    · rw [Lib.count_miss h1] at hk; cases hk
    · have hk' : Lib.count (s.drop (i + 1)) [c] = k := by
        have := Lib.count_hit (s := s) (sub := [c]) (i := i) (by simp) h1
        rw [hk] at this
        simp only [List.length_singleton] at this
        omega
      rw [Lib.index_one] at h1
      obtain ⟨g1, g2⟩ := Lib.indexByte_some h1
      have ih := pieces_of c k _ hk'
      have e : Lib.splitK [c] 0 (k + 1) s = s.take i :: Lib.splitK [c] 0 k (s.drop (i + 1)) := by
        rw [Lib.splitK, Lib.index_one, h1, if_neg (by rw [beq_iff_eq]; omega)]
        simp
      rw [e]
      refine ⟨by simp, fun p hp => ?_, ?_⟩
      · rcases List.mem_cons.1 hp with rfl | hp
        · intro hc
          obtain ⟨j, hj⟩ := List.mem_iff_getElem?.1 hc
          have hlt : j < i := by
            have := (List.getElem?_eq_some_iff.1 hj).1
            rw [List.length_take] at this
            omega
          rw [List.getElem?_take_of_lt hlt] at hj
          exact g2 j hlt hj
        · exact ih.none p hp
      · rw [joinW_cons c _ ih.ne, ih.eq]
        obtain ⟨hlt, hget⟩ := List.getElem?_eq_some_iff.1 g1
        rw [← hget, List.getElem_cons_drop, List.take_append_drop]

/-- strings.Split at one byte. -/
theorem Split_hc (s : ByteArray) (c : UInt8) (hs : s.size < 4294967281) (H : Hp) (hM : MaxL H) :
    HCalls Tryd.prog 79 #[.string s, .string ⟨#[c]⟩] H fun v H' => ∃ (b : Nat) (ps : List ByteArray), H b = none ∧ Pieces c (ps.map (·.data.toList)) s.data.toList ∧
      v = .slice (some ⟨b, 0, none⟩) ps.length ps.length ∧ H' = H.set b (.row (ps.map Value.string) 9 ps.length) := fun w hw => by
  obtain ⟨m, hm⟩ := hM
  have hm' := Fits.cell? hw hm
  refine (Any.strings_Split splitL (by kernel_rfl) s ⟨#[c]⟩ m w hs hm' (Nat.le_refl 1)).mono ?_
  rintro e w' ⟨rfl, hw'⟩
  have hlen := Lib.splitB_all ⟨#[c]⟩ (Nat.le_refl 1) 0 _ s rfl
  obtain ⟨hn, hat⟩ := (At.refl hw).new (o := .row ((Lib.splitB ⟨#[c]⟩ 0 (Lib.countB s ⟨#[c]⟩) s).map Value.string) 9 (Lib.countB s ⟨#[c]⟩ + 1)) (x := .cells ((Lib.splitB ⟨#[c]⟩ 0 (Lib.countB s ⟨#[c]⟩) s).map Value.string).toArray 9)
    ⟨[], 0, 0, by simp, by simp [hlen], .inl rfl⟩
  refine ⟨_, _, rfl, ⟨w.heap.size, Lib.splitB ⟨#[c]⟩ 0 (Lib.countB s ⟨#[c]⟩) s, hn, ?_, ?_, rfl⟩, ?_⟩
  · rw [Lib.splitB_data]
    exact pieces_of c _ _ rfl
  · rw [hlen]
  · rw [hw', hlen]; exact hat

theorem Tr.split {L : List As} {H : Hp} (h : Sep L H) (s : ByteArray) (c : UInt8) (hs : s.size < 4294967281) (hM : MaxL H) {K : Value → Hp → Prop}
    (k : ∀ (b : Nat) (ps : List ByteArray) (H' : Hp), Pieces c (ps.map (·.data.toList)) s.data.toList → Sep (L ++ [pts b (.row (ps.map Value.string) 9 ps.length)]) H' → K (.slice (some ⟨b, 0, none⟩) ps.length ps.length) H') :
    HCalls Tryd.prog 79 #[.string s, .string ⟨#[c]⟩] H K := (Split_hc s c hs H hM).mono fun v H' ⟨b, ps, hb, hp, e1, e2⟩ => by
  subst e1 e2
  exact k b ps _ hp (h.new hb _)

/-- A row's opening that hands on what every world of the form has, too. -/
theorem open_shaped {H : Type} {enc : TypeId × Value → H} {a : Assume} {C : Checked} {os : Os} {f : FuncId} {fn : Func} {s : ChangeSpec} {conds : List PathCond} {apart fresh handsOn again : Bool} {X : World → Array Value → Prop}
    (hX : ∀ (w w' : World) (args : Array Value), w.heap = w'.heap → X w args → X w' args) (own : ownKnob C.prog.godebug = none) (started : os.Started) (noInit : C.prog.inits.idxOf? f = none) (hfn : C.prog.funcs[f]? = some fn)
    (witness : ∃ (w : World) (tape : Tape) (i : Input), w.os = os ∧ (w.forCall tape i).Shaped C.prog ∧ i.vars = [] ∧ Input.okWide C.prog (w.forCall tape i) .any w.heap.size f i ∧
      ((s.pre enc C.prog fn conds apart (w.forCall tape i).memory i.args ∧ X (w.forCall tape i).memory i.args) ∧ sizedMet enc C.prog fn (OpenSpec.ofChange s) apart (w.forCall tape i).memory i.args) ∧ a.holds C.prog (lone (Frame.enter C.prog f i.args .normal) [] (w.forCall tape i)))
    (k : ∀ (W : World) (base : Nat) (args : Array Value) (ds gs : List (DataW H)) (before : List MemPlace),
      (∀ (j : Nat) t v, fn.params[j]? = some t → args[j]? = some v → Value.okWide C.prog W .any base t v) → DataW.Whole enc C.prog fn.params.toList s.vars apart W args.toList ds gs before →
      conds.all (PathCond.test C.prog ⟨fn.params.toList, ds, s.plain.varTypes C.prog, gs⟩) = true → (DataW.weightsEach C.prog (fn.params.toList ++ s.plain.varTypes C.prog) (ds ++ gs)).all (· ≤ reachBytes) = true → X W args → W.ShapedOpen C.prog →
      a.holds C.prog (lone (Frame.enter C.prog f args .normal) [] W) → Calls C.prog f args W fun e W' => ∃ v, e = .returned v ∧ s.post enc C.prog fn apart fresh handsOn again W args v W') :
    ReturnsInHanded a C os f .any (fun w args => (s.pre enc C.prog fn conds apart w args ∧ X w args) ∧ sizedMet enc C.prog fn (OpenSpec.ofChange s) apart w args) (s.post enc C.prog fn apart fresh handsOn again) :=
  returnsInHanded_of_calls own started noInit witness fun w tape i _ hsh _ hok hpre hh => by
    obtain ⟨_, _, _, fn', hfn', _, _, _, _, hval⟩ := hok
    cases Option.some.inj (hfn'.symm.trans hfn)
    obtain ⟨⟨⟨ds, gs, before, hw, hc⟩, hx⟩, hz⟩ := hpre
    refine (k _ w.heap.size i.args ds gs before hval (DataW.Whole.of_heap (w' := w.forCall tape i) (by rfl) hw) hc (hz.weights hw) (hX _ _ _ (by rfl) hx) hsh hh).mono ?_
    rintro e W' ⟨v, rfl, hp⟩
    exact ChangeSpec.post_blind hp

end Go.Hw

end
section
/-! CodD -/
/- codec: the row of a text, by the code. -/
set_option maxRecDepth 100000
set_option linter.unusedSimpArgs false
set_option linter.unusedVariables false
set_option linter.unnecessarySimpa false
set_option linter.unusedSectionVars false
namespace Go.Proofs.YtbnhfcdagoigkaaDoor.Cod
open Go Go.Hw Go.Proofs.YtbnhfcdagoigkaaDoor.W Go.Proofs.YtbnhfcdagoigkaaDoor.Gol Go.Proofs.YtbnhfcdagoigkaaDoor.Gen

/-- A call's new parts, beside those that were there. -/
theorem Sep.call {L M : List As} {H H' : Hp} (hs : Hw.Sep L H) (h : Hw.Sep (own H :: M) H') : Hw.Sep (L ++ M) H' := by
  obtain ⟨H1, H2, k1, k2, k3, k4, k5⟩ := h
  exact Hw.Sep.join k1 k2 k3 (hs.up k4) k5

/-- A text cut at each byte c. -/
def spl (c : UInt8) : List UInt8 → List (List UInt8)
  | [] => [[]]
  | x :: l => if x = c then [] :: spl c l else match spl c l with | [] => [[x]] | p :: ps => (x :: p) :: ps
theorem spl_c (c : UInt8) (l : List UInt8) : spl c (c :: l) = [] :: spl c l := by
  rw [spl, if_pos rfl]
theorem spl_o {c x : UInt8} (h : x ≠ c) (l : List UInt8) : spl c (x :: l) = match spl c l with | [] => [[x]] | p :: ps => (x :: p) :: ps := by
  rw [spl, if_neg h]
theorem spl_ne (c : UInt8) : ∀ l, spl c l ≠ []
  | [] => by simp [spl]
  | x :: l => by
    unfold spl
    split
    · simp
    · split <;> simp
theorem spl_last (c : UInt8) : ∀ (p : List UInt8), c ∉ p → spl c p = [p]
  | [], _ => rfl
  | x :: p, h => by
    rw [spl_o (fun e => h (by simp [e])), spl_last c p (fun e => h (by simp [e]))]
theorem spl_first (c : UInt8) : ∀ (p r : List UInt8), c ∉ p → spl c (p ++ c :: r) = p :: spl c r
  | [], r, _ => spl_c c r
  | x :: p, r, h => by
    show spl c (x :: (p ++ c :: r)) = _
    rw [spl_o (fun e => h (by simp [e])), spl_first c p r (fun e => h (by simp [e]))]
theorem Pieces.uniq {c : UInt8} : ∀ {ps : List (List UInt8)} {s : List UInt8}, Pieces c ps s → ps = spl c s
  | [], s, h => absurd rfl h.ne
  | [p], s, h => by
    have := h.eq
    subst this
    exact (spl_last c p (h.none p (by simp))).symm
  | p :: q :: r, s, h => by
    have he := h.eq
    subst he
    have ih : q :: r = spl c (joinW c (q :: r)) := Pieces.uniq ⟨by simp, fun x hx => h.none x (List.mem_cons_of_mem _ hx), rfl⟩
    show _ = spl c (p ++ c :: joinW c (q :: r))
    rw [spl_first c p _ (h.none p (by simp)), ← ih]
theorem spl_len (c : UInt8) : ∀ l, (spl c l).length ≤ l.length + 1
  | [] => by simp [spl]
  | x :: l => by
    have := spl_len c l
    unfold spl
    split
    · simp; omega
    · split
      · simp
      · rename_i p ps e
        rw [e] at this
        simp at this ⊢
        omega
theorem joinW_spl (c : UInt8) : ∀ l, joinW c (spl c l) = l
  | [] => rfl
  | x :: l => by
    have ih := joinW_spl c l
    unfold spl
    split
    · rename_i e
      rw [joinW_cons c [] (spl_ne c l), ih, e]; rfl
    · split
      · rename_i e
        exact absurd e (spl_ne c l)
      · rename_i p ps e
        rw [e] at ih
        cases ps with
        | nil => rw [← ih]; rfl
        | cons q r => rw [← ih]; rfl
theorem spl_mem (c : UInt8) : ∀ l, ∀ p ∈ spl c l, p.length ≤ l.length
  | [], p, hp => by simp [spl] at hp; simp [hp]
  | x :: l, p, hp => by
    have ih := spl_mem c l
    unfold spl at hp
    split at hp
    · rcases List.mem_cons.1 hp with rfl | hp
      · simp
      · have := ih p hp; simp; omega
    · split at hp
      · rename_i e; exact absurd e (spl_ne c l)
      · rename_i q ps e
        rcases List.mem_cons.1 hp with rfl | hp
        · have := ih q (by rw [e]; simp); simp; omega
        · have := ih p (by rw [e]; exact List.mem_cons_of_mem _ hp); simp; omega

/-- A text's row, and what is wrong, and where. -/
def readP : Nat → List Nat → List (List UInt8) → List Nat × Nat × Nat
  | _, acc, [] => (acc, 0, 0)
  | a, acc, p :: ps => if (numE p).2 ≠ 0 then ([], a, (numE p).2) else readP (a + (p.length + 1)) (acc ++ [(numE p).1]) ps
def readV (l : List UInt8) : List Nat × Nat × Nat := if l = [] then ([], 0, 0) else readP 0 [] (spl 32 l)

def strV (qs : List (List UInt8)) : List Value := qs.map fun q => .string ⟨⟨q⟩⟩
theorem strV_of (ps : List ByteArray) : ps.map Value.string = strV (ps.map (·.data.toList)) := by
  unfold strV
  rw [List.map_map]
  rfl

/-- What a reader leaves: the row is a row of one's own. -/
def RowQ (r : List Nat × Nat × Nat) (v : Value) (M : List As) : Prop :=
  ∃ A n m, v = .tuple #[.slice A n m, .int .i64 (r.2.1 : Int), .int .i64 (r.2.2 : Int)] ∧ n = r.1.length ∧ M = [Own 22 1 A n m (natV r.1)]

theorem Sep.addNone {L : List As} {H : Hp} (h : Hw.Sep L H) (e : TypeId) (s : Nat) : Hw.Sep (L ++ [Own e s none 0 0 []]) H := by
  have : Hw.Sep (Own e s none 0 0 [] :: L) H := ⟨fun _ => none, H, fun _ _ h => (nomatch h), Hp.le_refl _, fun _ => .inl rfl, Own.none _ _ _, h⟩
  exact Hw.Sep.perm (List.perm_append_comm (l₁ := [_])) this

theorem Read_loop (qs : List (List UInt8)) (N : Nat) (hN : N ≤ 1000000) (hq : ∀ q ∈ qs, q.length ≤ N) (hql : qs.length ≤ N + 1) (b : Nat) (e : TypeId) (H0 : Hp) (r : List Nat × Nat × Nat) :
    ∀ (t j : Nat) (a : Nat) (acc : List Nat) (A : Option Addr) (m : Nat) (H : Hp), j + t = qs.length → a ≤ j * (N + 1) → acc.length = j → r = readP a acc (qs.drop j) →
      Hw.Sep [own H0, pts b (.row (strV qs) e qs.length), Own 22 1 A j m (natV acc)] H →
      W_codec_Read.l4 (fun v H' => ∃ M, RowQ r v M ∧ Hw.Sep (own H0 :: M) H') (t + 1) A j m (a : Int) (some ⟨b, 0, none⟩) qs.length qs.length (qs.length : Int) (j : Int) H
  | 0, j, a, acc, A, m, H, hj, ha, hacc, hr, hs => by
    unfold W_codec_Read.l4
    refine BIf_dneg (by omega) ?_
    rw [List.drop_eq_nil_of_le (by omega)] at hr
    subst hr
    exact ⟨_, ⟨A, j, m, rfl, hacc.symm, rfl⟩, hs.re [0, 2] rfl⟩
  | t + 1, j, a, acc, A, m, H, hj, ha, hacc, hr, hs => by
    unfold W_codec_Read.l4
    have hlt : j < qs.length := by omega
    refine BIf_dpos (by omega) ?_
    have hc := Cells.row (hs.get 1 rfl) 0 qs.length
    have hg : (((strV qs).drop 0).take qs.length)[j]? = some (.string ⟨⟨qs[j]⟩⟩) := by
      rw [List.drop_zero, List.take_of_length_le (by simp [strV])]
      simp [strV, hlt]
    refine hc.read hg rfl (by simp [strV]) ?_
    simp only [DI_int', DB_bool, DS_string, DP_pointer, DSl_slice, DM_map, DA_agg, DTup_tuple, DCons_cons, DNil_nil, NN_some, BIf_true, BIf_false, BIf_same, List.toList_toArray, Bool.not_true, Bool.not_false]
    have hqj := hq _ (List.getElem_mem hlt)
    refine HCalls.use (numeral_ok qs[j] (by omega) H) ?_
    simp only [DI_int', DB_bool, DS_string, DP_pointer, DSl_slice, DM_map, DA_agg, DTup_tuple, DCons_cons, DNil_nil, NN_some, BIf_true, BIf_false, BIf_same, List.toList_toArray, Bool.not_true, Bool.not_false]
    rw [List.drop_eq_getElem_cons hlt] at hr
    unfold readP at hr
    have hmul : (j + 1) * (N + 1) = j * (N + 1) + (N + 1) := Nat.succ_mul _ _
    have hmul2 : j * (N + 1) ≤ 1000001 * 1000001 := Nat.mul_le_mul (by omega) (by omega)
    by_cases he : (numE qs[j]).2 ≠ 0
    · rw [if_pos he] at hr
      refine BIf_bnep (by omega) ?_
      subst hr
      have h2 := Sep.addNone hs 22 1
      exact ⟨_, ⟨none, 0, 0, rfl, rfl, rfl⟩, h2.re [0, 3] rfl⟩
    · rw [if_neg he] at hr
      refine BIf_bnen (by omega) ?_
      refine hs.app1 2 rfl cell_u64 (by omega) rfl (by omega) (by omega) fun A' m' H1 hs => ?_
      simp only [DI_int', DB_bool, DS_string, DP_pointer, DSl_slice, DM_map, DA_agg, DTup_tuple, DCons_cons, DNil_nil, NN_some, BIf_true, BIf_false, BIf_same, List.toList_toArray, Bool.not_true, Bool.not_false]
      have hsz : (⟨⟨qs[j]⟩⟩ : ByteArray).size = qs[j].length := rfl
      rw [hsz, i64w (x := (qs[j].length : Int) + 1) (by omega) (by omega), i64w (x := (a : Int) + ((qs[j].length : Int) + 1)) (by omega) (by omega), i64w (x := (j : Int) + 1) (by omega) (by omega)]
      refine Read_loop qs N hN hq hql b e H0 r t (j + 1) (a + (qs[j].length + 1)) (acc ++ [(numE qs[j]).1]) A' m' H1 (by omega) (by omega) (by simp [hacc]) hr ?_
      have e1 : natV acc ++ [Value.int .u64 ((numE qs[j]).1 : Int)] = natV (acc ++ [(numE qs[j]).1]) := by simp [natV]
      rw [← e1]
      exact hs

/-- codec.Read. -/
theorem Read_ok (l : List UInt8) (hl : l.length ≤ 1000000) (H : Hp) (hM : MaxL H) :
    HCalls Tryd.prog 34 #[.string ⟨⟨l⟩⟩] H fun v H' => ∃ M, RowQ (readV l) v M ∧ Hw.Sep (own H :: M) H' := by
  apply W_codec_Read.ok
  unfold W_codec_Read
  by_cases h0 : l = []
  · subst h0
    refine BIf_pos (ba_eq rfl) ?_
    exact ⟨_, ⟨none, 0, 0, rfl, rfl, rfl⟩, Sep.addNone (Sep.start H) 22 1⟩
  refine BIf_neg (ba_ne h0) ?_
  refine Tr.split (Sep.start H) ⟨⟨l⟩⟩ 32 (by show l.length < _; omega) hM fun b ps H1 hp hs => ?_
  simp only [DI_int', DB_bool, DS_string, DP_pointer, DSl_slice, DM_map, DA_agg, DTup_tuple, DCons_cons, DNil_nil, NN_some, BIf_true, BIf_false, BIf_same, List.toList_toArray, Bool.not_true, Bool.not_false]
  have hps := Pieces.uniq hp
  rw [strV_of, hps] at hs
  have hlen : ps.length = (spl 32 l).length := by rw [← hps, List.length_map]
  rw [hlen] at hs ⊢
  have hsl := spl_len 32 l
  refine ⟨(spl 32 l).length + 1, ?_⟩
  refine Read_loop (spl 32 l) l.length hl (spl_mem 32 l) hsl b 9 H (readV l) (spl 32 l).length 0 0 [] none 0 H1 (by omega) (by omega) rfl ?_ ?_
  · unfold readV
    rw [if_neg h0]; rfl
  · exact Sep.addNone hs 22 1

theorem Read_use {L : List As} {H : Hp} (hs : Hw.Sep L H) (l : List UInt8) (hl : l.length ≤ 1000000) (hM : MaxL H) {K : Value → Hp → Prop}
    (k : ∀ A m H', Hw.Sep (L ++ [Own 22 1 A (readV l).1.length m (natV (readV l).1)]) H' → K (.tuple #[.slice A (readV l).1.length m, .int .i64 ((readV l).2.1 : Int), .int .i64 ((readV l).2.2 : Int)]) H') :
    HCalls Tryd.prog 34 #[.string ⟨⟨l⟩⟩] H K := (Read_ok l hl H hM).mono fun v H' ⟨M, ⟨A, n, m, e1, e2, e3⟩, h⟩ => by
  subst e1 e2 e3
  exact k A m H' (Sep.call hs h)

end Go.Proofs.YtbnhfcdagoigkaaDoor.Cod

end
section
/-! LayU -/
/- Contracts of the library's functions, laid at this program (printed by lay2.py). -/
set_option maxRecDepth 100000
namespace Go.Proofs.YtbnhfcdagoigkaaDoor.Lib2
open Go Go.Proofs Go.Shelf Go.RowKit
def fmtL_ren : Go.Shelf.Ren := ⟨fun | 285 => 151 | n => n, fun | 37 => 26 | 53 => 22 | 3 => 3 | 4 => 4 | 51 => 23 | 9 => 9 | 5 => 5 | 0 => 0 | n => n, fun | n => n⟩
theorem fmtL : Go.Proofs.Lays.n285 Tryd.prog fmtL_ren where
  mixed := by kernel_rfl
  f285 := Tryd.func151.trans (congrArg some (by kernel_rfl))
  t0 := Tryd.underlying0
  a0 := Tryd.isAgg0
  z0 := Tryd.sizeOf0
  v0 := Tryd.zeroValue0
  t3 := Tryd.underlying3
  a3 := Tryd.isAgg3
  z3 := Tryd.sizeOf3
  v3 := Tryd.zeroValue3
  t4 := Tryd.underlying4
  a4 := Tryd.isAgg4
  z4 := Tryd.sizeOf4
  v4 := Tryd.zeroValue4
  t5 := Tryd.underlying5
  a5 := Tryd.isAgg5
  z5 := Tryd.sizeOf5
  v5 := Tryd.zeroValue5
  t9 := Tryd.underlying9
  a9 := Tryd.isAgg9
  z9 := Tryd.sizeOf9
  v9 := Tryd.zeroValue9
  t37 := Tryd.underlying26
  a37 := Tryd.isAgg26
  z37 := Tryd.sizeOf26
  v37 := Tryd.zeroValue26
  t51 := Tryd.underlying23
  a51 := Tryd.isAgg23
  z51 := Tryd.sizeOf23
  v51 := Tryd.zeroValue23
  t53 := Tryd.underlying22
  a53 := Tryd.isAgg22
  z53 := Tryd.sizeOf22
  v53 := Tryd.zeroValue22
def lenL_ren : Go.Shelf.Ren := ⟨fun | 129 => 187 | n => n, fun | 53 => 22 | 3 => 3 | 4 => 4 | 46 => 40 | 5 => 5 | 9 => 9 | n => n, fun | n => n⟩
theorem lenL : Go.Proofs.Lays.n129 Tryd.prog lenL_ren where
  mixed := by kernel_rfl
  f129 := Tryd.func187.trans (congrArg some (by kernel_rfl))
  t3 := Tryd.underlying3
  a3 := Tryd.isAgg3
  z3 := Tryd.sizeOf3
  v3 := Tryd.zeroValue3
  t4 := Tryd.underlying4
  a4 := Tryd.isAgg4
  z4 := Tryd.sizeOf4
  v4 := Tryd.zeroValue4
  t5 := Tryd.underlying5
  a5 := Tryd.isAgg5
  z5 := Tryd.sizeOf5
  v5 := Tryd.zeroValue5
  t9 := Tryd.underlying9
  a9 := Tryd.isAgg9
  z9 := Tryd.sizeOf9
  v9 := Tryd.zeroValue9
  t46 := Tryd.underlying40
  a46 := Tryd.isAgg40
  z46 := Tryd.sizeOf40
  v46 := Tryd.zeroValue40
  t53 := Tryd.underlying22
  a53 := Tryd.isAgg22
  z53 := Tryd.sizeOf22
  v53 := Tryd.zeroValue22
end Go.Proofs.YtbnhfcdagoigkaaDoor.Lib2

end
section
/-! HwU -/
/- The frame of the proofs: a number's decimal digits, as the library puts them. -/
set_option maxRecDepth 100000
set_option linter.unusedSimpArgs false
set_option linter.unusedVariables false
set_option linter.unnecessarySimpa false
set_option linter.unusedSectionVars false
namespace Go.Hw
open Go Go.Proofs Go.Proofs.YtbnhfcdagoigkaaDoor.Lib2 Go.RowKit Go.Shelf

/-- math/bits.Len64. -/
theorem Len64_hc (x : Nat) (hx : x < 18446744073709551616) (H : Hp) : HCalls Tryd.prog 187 #[.int .u64 (x : Int)] H (RetE (.int .i64 (Lib.bitLen x : Int)) H) := fun w hw => by
  refine (Any.bits_Len64 lenL (x : Int) w (by omega) (by omega)).mono ?_
  rintro e w' ⟨rfl, rfl⟩
  exact ⟨_, H, rfl, ⟨by rw [Int.toNat_natCast], rfl⟩, At.refl hw⟩

theorem At.drewN {H0 H : Hp} {w0 w : World} (h : At H0 w0 H w) (n : Nat) : At H0 w0 H (w.drewN n) := ⟨h.fits, h.size, h.os, h.tape, h.output, h.old⟩

def encB (b : UInt8) : Value := .int .u8 (b.toNat : Int)

/-- internal/strconv.formatBase10, into a block of one's own. -/
theorem format_hc (b cap u : Nat) (d : Array UInt8) (c : Array Value) (e : TypeId) (hc : ∀ j, j < d.size → c[j]? = some (encB d[j]!)) (hu : u < 10 ^ d.size) (hu64 : u < 18446744073709551616) (hsz : d.size ≤ 1000) {H : Hp} (hb : H b = some (.obj (.cells c e))) :
    HCalls Tryd.prog 151 #[.slice (some ⟨b, 0, none⟩) d.size cap, .int .u64 (u : Int)] H fun v H' => v = .tuple #[] ∧ ∃ (v' : Nat) (dk : Array UInt8), Lib.FmtInv d.size u 0 v' dk ∧ H' = H.set b (.obj (.cells (Go.Sort.putCells encB 0 dk c) e)) := fun w hw => by
  obtain ⟨o', ho, hh⟩ := hw _ _ hb
  cases hh
  have hH : Go.Sort.Holds encB w b 0 d := fun j hj => by
    refine ⟨?_, ?_⟩
    · unfold World.cell?
      rw [ho]
      simpa using hc j hj
    · unfold World.frozen?
      rw [ho]
      simp
  refine (Any.internal_strconv_formatBase10 fmtL b 0 cap u d w hH hu hu64 (by omega)).mono ?_
  rintro e' w' ⟨rfl, n, v', dk, rfl, hf⟩
  refine ⟨_, _, rfl, ⟨rfl, v', dk, hf, rfl⟩, ?_⟩
  refine At.drewN ?_ n
  have hx : (Go.Sort.putRow encB w b 0 dk).heap[b]? = some (.cells (Go.Sort.putCells encB 0 dk c) e (0, 0)) := by
    show (w.heap.modify b (Go.Sort.onCells (Go.Sort.putCells encB 0 dk)))[b]? = _
    rw [getElem?_modify_self ho]
    rfl
  refine (At.refl hw).turn hb hx rfl (by simp [Go.Sort.putRow, Go.Sort.mapBlock]) rfl rfl rfl fun k hk => ?_
  show (w.heap.modify b _)[k]? = _
  rw [Array.getElem?_modify, if_neg (Ne.symm hk)]

end Go.Hw

end
section
/-! CodH -/
/- strconv: the digits of any number; codec: the text of any row. -/
set_option maxRecDepth 100000
set_option linter.unusedSimpArgs false
set_option linter.unusedVariables false
set_option linter.unnecessarySimpa false
set_option linter.unusedSectionVars false
namespace Go.Proofs.YtbnhfcdagoigkaaDoor.Cod
open Go Go.Hw Go.Proofs.YtbnhfcdagoigkaaDoor.W Go.Proofs.YtbnhfcdagoigkaaDoor.Gol Go.Proofs.YtbnhfcdagoigkaaDoor.Gen

theorem small2_ok (x : Nat) (hx : x < 100) (H : Hp) : HCalls Tryd.prog 149 #[.int .i64 (x : Int)] H (RetE (.string ⟨(Go.Lib.decDigits x).toArray⟩) H) := by
  by_cases h10 : x < 10
  · have := small_ok x h10 H
    rw [Go.Lib.decDigits_one h10]
    exact this
  · apply W_internal_strconv_small.ok
    unfold W_internal_strconv_small
    refine BIf_dneg (by omega) ?_
    rw [i64w (x := (x : Int) * 2) (by omega) (by omega), i64w (x := (x : Int) * 2 + 2) (by omega) (by omega)]
    refine ⟨by omega, by show (x : Int) * 2 + 2 ≤ 200; omega, by omega, by omega, ?_⟩
    rw [show ((x : Int) * 2 + 2).toNat = x * 2 + 2 by omega, show ((x : Int) * 2).toNat = x * 2 by omega, Go.Lib.decDigits_two h10 hx]
    have : ∀ y : Fin 100, ((⟨#[48, 48, 48, 49, 48, 50, 48, 51, 48, 52, 48, 53, 48, 54, 48, 55, 48, 56, 48, 57, 49, 48, 49, 49, 49, 50, 49, 51, 49, 52, 49, 53, 49, 54, 49, 55, 49, 56, 49, 57, 50, 48, 50, 49, 50, 50, 50, 51, 50, 52, 50, 53, 50, 54, 50, 55, 50, 56, 50, 57, 51, 48, 51, 49, 51, 50, 51, 51, 51, 52, 51, 53, 51, 54, 51, 55, 51, 56, 51, 57, 52, 48, 52, 49, 52, 50, 52, 51, 52, 52, 52, 53, 52, 54, 52, 55, 52, 56, 52, 57, 53, 48, 53, 49, 53, 50, 53, 51, 53, 52, 53, 53, 53, 54, 53, 55, 53, 56, 53, 57, 54, 48, 54, 49, 54, 50, 54, 51, 54, 52, 54, 53, 54, 54, 54, 55, 54, 56, 54, 57, 55, 48, 55, 49, 55, 50, 55, 51, 55, 52, 55, 53, 55, 54, 55, 55, 55, 56, 55, 57, 56, 48, 56, 49, 56, 50, 56, 51, 56, 52, 56, 53, 56, 54, 56, 55, 56, 56, 56, 57, 57, 48, 57, 49, 57, 50, 57, 51, 57, 52, 57, 53, 57, 54, 57, 55, 57, 56, 57, 57]⟩ : ByteArray).extract (y.val * 2) (y.val * 2 + 2)) = ⟨#[UInt8.ofNat (48 + y.val / 10), UInt8.ofNat (48 + y.val % 10)]⟩ := by decide +kernel
    exact ⟨congrArg Value.string (this ⟨x, hx⟩), rfl⟩

/-- The library's powers of ten. -/
def powV : List Value := [.int .u64 1, .int .u64 10, .int .u64 100, .int .u64 1000, .int .u64 10000, .int .u64 100000, .int .u64 1000000, .int .u64 10000000, .int .u64 100000000, .int .u64 1000000000, .int .u64 10000000000, .int .u64 100000000000, .int .u64 1000000000000, .int .u64 10000000000000, .int .u64 100000000000000, .int .u64 1000000000000000, .int .u64 10000000000000000, .int .u64 100000000000000000, .int .u64 1000000000000000000, .int .u64 10000000000000000000]
def P10 (H : Hp) : Prop := Cells H (some ⟨4, 0, none⟩) powV
theorem P10.le {H H' : Hp} (h : P10 H) (k : H.le H') : P10 H' := Cells.le h k
theorem powV_get : ∀ i : Fin 20, powV[i.val]? = some (.int .u64 ((10 ^ i.val : Nat) : Int)) := by
  intro ⟨i, hi⟩
  match i, hi with
  | 0, _ => rfl | 1, _ => rfl | 2, _ => rfl | 3, _ => rfl | 4, _ => rfl | 5, _ => rfl | 6, _ => rfl | 7, _ => rfl | 8, _ => rfl | 9, _ => rfl
  | 10, _ => rfl | 11, _ => rfl | 12, _ => rfl | 13, _ => rfl | 14, _ => rfl | 15, _ => rfl | 16, _ => rfl | 17, _ => rfl | 18, _ => rfl | 19, _ => rfl
  | i + 20, h => exact absurd h (by omega)

theorem bitLen_le (u : Nat) (h : u < 18446744073709551616) : Go.Lib.bitLen u ≤ 64 := by
  unfold Go.Lib.bitLen
  by_cases h0 : u = 0
  · subst h0; rw [Go.Lib.bitLenAux_zero]; omega
  · obtain ⟨a, b, c⟩ := Go.Lib.bitLenAux_bounds 64 u h h0
    rcases Nat.lt_or_ge 64 (Go.Lib.bitLenAux 64 u) with h2 | h2
    · have := Nat.pow_le_pow_right (n := 2) (by decide) (show 64 ≤ Go.Lib.bitLenAux 64 u - 1 by omega)
      have h64 : (2 : Nat) ^ 64 = 18446744073709551616 := by decide
      omega
    · exact h2

theorem numDigits_ok (u : Nat) (h1 : 1 ≤ u) (hu : u < 18446744073709551616) (H : Hp) (hP : P10 H) : HCalls Tryd.prog 150 #[.int .u64 (u : Int)] H (RetE (.int .i64 (Go.Lib.nDigits u : Int)) H) := by
  apply W_internal_strconv_numDigits.ok
  unfold W_internal_strconv_numDigits
  refine HCalls.use (Len64_hc u hu H) ?_
  simp only [DI_int', DB_bool, DS_string, DP_pointer, DSl_slice, DM_map, DA_agg, DTup_tuple, DCons_cons, DNil_nil, NN_some, BIf_true, BIf_false, BIf_same, List.toList_toArray, Bool.not_true, Bool.not_false]
  have hb := bitLen_le u hu
  obtain ⟨hd, h19⟩ := Go.Lib.numDigits_eq u h1 hu
  have hL : HCalls Tryd.prog 186 #[.int .i64 (Go.Lib.bitLen u : Int)] H (RetE (.int .i64 (Go.Lib.l10 (Go.Lib.bitLen u) : Int)) H) := by
    apply W_internal_strconv_log10Pow2.ok
    unfold W_internal_strconv_log10Pow2
    refine ⟨by decide, ?_⟩
    rw [i64w (x := (Go.Lib.bitLen u : Int) * 78913) (by omega) (by omega), show (Go.Lib.bitLen u : Int) * 78913 = ((Go.Lib.bitLen u * 78913 : Nat) : Int) by omega, shrN (k := .i64) (a := Go.Lib.bitLen u * 78913) (i := 18) (n := 18) rfl (by decide)]
    exact RetE.mk _ _
  refine HCalls.use hL ?_
  simp only [DI_int', DB_bool, DS_string, DP_pointer, DSl_slice, DM_map, DA_agg, DTup_tuple, DCons_cons, DNil_nil, NN_some, BIf_true, BIf_false, BIf_same, List.toList_toArray, Bool.not_true, Bool.not_false]
  generalize Go.Lib.l10 (Go.Lib.bitLen u) = t at *
  refine ⟨by omega, by omega, ?_⟩
  obtain ⟨a, ha, hc⟩ := hP t _ (powV_get ⟨t, by omega⟩)
  cases ha
  rw [Int.toNat_natCast, Nat.mul_one]
  refine Ld_of hc ?_
  simp only [DI_int', DB_bool, DS_string, DP_pointer, DSl_slice, DM_map, DA_agg, DTup_tuple, DCons_cons, DNil_nil, NN_some, BIf_true, BIf_false, BIf_same, List.toList_toArray, Bool.not_true, Bool.not_false]
  have hB : ∀ c : Bool, HCalls Tryd.prog 188 #[.bool c] H (RetE (.int .i64 ((if c then 1 else 0 : Nat) : Int)) H) := fun c => by
    apply W_internal_strconv_bool2_int.ok
    unfold W_internal_strconv_bool2_int
    cases c
    · exact BIf_neg rfl (RetE.mk _ _)
    · exact BIf_pos rfl (RetE.mk _ _)
  refine HCalls.use (hB _) ?_
  simp only [DI_int', DB_bool, DS_string, DP_pointer, DSl_slice, DM_map, DA_agg, DTup_tuple, DCons_cons, DNil_nil, NN_some, BIf_true, BIf_false, BIf_same, List.toList_toArray, Bool.not_true, Bool.not_false]
  have hdec : decide ((u : Int) ≥ ((10 ^ t : Nat) : Int)) = decide (10 ^ t ≤ u) := decide_eq_decide.2 (by omega)
  rw [hdec, show (if decide (10 ^ t ≤ u) = true then 1 else 0 : Nat) = if 10 ^ t ≤ u then 1 else 0 by simp]
  have hle : (if 10 ^ t ≤ u then 1 else 0 : Nat) ≤ 1 := by split <;> omega
  rw [i64w (by omega) (by omega)]
  refine ⟨?_, rfl⟩
  rw [← hd]
  congr 1

theorem FormatU_ok (x : Nat) (hx : x < 18446744073709551616) (H : Hp) (hP : P10 H) : HCalls Tryd.prog 77 #[.int .u64 (x : Int), .int .i64 10] H (RetE (.string ⟨(Go.Lib.decDigits x).toArray⟩) H) := by
  apply W_strconv_FormatUint.ok
  unfold W_strconv_FormatUint
  have h : HCalls Tryd.prog 115 #[.int .u64 (x : Int), .int .i64 10] H (RetE (.string ⟨(Go.Lib.decDigits x).toArray⟩) H) := HCalls.ret (by
    apply W_internal_strconv_FormatUint.ok
    unfold W_internal_strconv_FormatUint
    refine BIf_beqp rfl ?_
    by_cases h100 : x < 100
    · refine BIf_dpos (by omega) ?_
      rw [i64n (by omega)]
      refine HCalls.use (small2_ok x h100 H) ?_
      simp only [DI_int', DB_bool, DS_string, DP_pointer, DSl_slice, DM_map, DA_agg, DTup_tuple, DCons_cons, DNil_nil, NN_some, BIf_true, BIf_false, BIf_same, List.toList_toArray, Bool.not_true, Bool.not_false]
      exact ⟨rfl, Hp.le_refl _⟩
    refine BIf_dneg (by omega) ?_
    refine (Sep.start H).nw fun b1 H1 hs => ?_
    refine HCalls.use (numDigits_ok x (by omega) hx H1 (hP.le (hs.ow 0 rfl))) ?_
    simp only [DI_int', DB_bool, DS_string, DP_pointer, DSl_slice, DM_map, DA_agg, DTup_tuple, DCons_cons, DNil_nil, NN_some, BIf_true, BIf_false, BIf_same, List.toList_toArray, Bool.not_true, Bool.not_false]
    have hnd20 : Go.Lib.nDigits x ≤ 20 := by have := Go.Lib.numDigits_eq x (by omega) hx; split at this <;> omega
    have hlt := Go.Lib.lt_pow_nDigits x
    have hdd := Go.Lib.decDigits_eq x
    generalize Go.Lib.nDigits x = nd at *
    refine slB_to (r := nd) rfl (by omega) ?_
    rw [slA_zero, Nat.sub_zero, Nat.sub_zero]
    have hf := format_hc b1 24 x (Array.replicate nd 0) (Array.replicate 24 (.int .u8 0)) 256 (fun j hj => by
      rw [Array.size_replicate] at hj
      rw [Array.getElem?_replicate, if_pos (by omega), getElem!_pos _ _ (by simpa using hj), Array.getElem_replicate]
      rfl) (by rw [Array.size_replicate]; exact hlt) hx (by rw [Array.size_replicate]; omega) (hs.get 1 rfl)
    rw [Array.size_replicate] at hf
    refine HCalls.mono hf ?_
    rintro v H2 ⟨rfl, v', dk, hinv, rfl⟩
    have hs := hs.put 1 (.obj (.cells (Go.Sort.putCells encB 0 dk (Array.replicate 24 (.int .u8 0))) 256)) rfl
    refine slB_to (r := nd) rfl (by omega) ?_
    rw [slA_zero, Nat.sub_zero]
    have hsz := hinv.size
    have hdk : dk.toList = Go.Lib.decDigits x := by
      rw [hdd]
      apply List.ext_getElem
      · simp [hsz]
      · intro t h1 h2
        have ht : t < nd := by rw [Array.length_toList, hsz] at h1; exact h1
        have := hinv.done t (Nat.zero_le _) ht
        rw [getElem!_pos _ t (by rw [hsz]; exact ht)] at this
        simp [this]
    refine BsK_of (bs := dk.toList) (fun i v hi => ?_) (by simp [hsz]) ?_
    · refine ⟨_, rfl, ?_⟩
      rw [Addr.add_lit', Nat.zero_add, cell_obj (hs.get 1 rfl)]
      have hlen : i < dk.toList.length := by
        have := (List.getElem?_eq_some_iff.1 hi).1
        rwa [byteVals_length] at this
      rw [Array.length_toList, hsz] at hlen
      unfold Go.Sort.putCells
      rw [Array.getElem?_mapIdx, Array.getElem?_replicate, if_pos (by omega)]
      simp only [Option.map_some]
      rw [if_pos ⟨Nat.zero_le _, by rw [hsz]; omega⟩, Nat.sub_zero, getElem!_pos _ i (by rw [hsz]; exact hlen)]
      rw [← hi]
      unfold byteVals encB
      rw [List.getElem?_map, List.getElem?_eq_getElem (by rw [Array.length_toList, hsz]; exact hlen)]
      simp
    · rw [hdk]
      exact ⟨rfl, hs.ow 0 rfl⟩)
  refine HCalls.use h ?_
  simp only [DI_int', DB_bool, DS_string, DP_pointer, DSl_slice, DM_map, DA_agg, DTup_tuple, DCons_cons, DNil_nil, NN_some, BIf_true, BIf_false, BIf_same, List.toList_toArray, Bool.not_true, Bool.not_false]
  exact RetE.mk _ _

end Go.Proofs.YtbnhfcdagoigkaaDoor.Cod

end
section
/-! FormA -/
/- Words' forms: codec's and the document's. -/
set_option maxRecDepth 100000
set_option linter.unusedSimpArgs false
set_option linter.unusedVariables false
set_option linter.unnecessarySimpa false
set_option linter.unusedSectionVars false
namespace Go.Form
open Go Go.Hw

/-- A word's form. -/
def formW (w : UInt64) : List UInt8 := (List.range 8).map fun k => UInt8.ofNat (w.toNat / 256 ^ k)
def form (l : List UInt64) : List UInt8 := l.flatMap formW

theorem formW_length (w : UInt64) : (formW w).length = 8 := by simp [formW]
theorem form_length (l : List UInt64) : (form l).length = 8 * l.length := by
  induction l with
  | nil => rfl
  | cons w l ih => simp only [form, List.flatMap_cons, List.length_append, formW_length, List.length_cons]; rw [show (List.flatMap formW l).length = (form l).length from rfl, ih]; omega
theorem form_append (a b : List UInt64) : form (a ++ b) = form a ++ form b := by simp [form]
theorem form_succ (l : List UInt64) {i : Nat} (h : i < l.length) : form (l.take (i + 1)) = form (l.take i) ++ formW l[i] := by
  rw [List.take_succ_eq_append_getElem h, form_append]; simp [form]

theorem shr_byte (w : UInt64) (k : Nat) : IntKind.u8.wrap ((w.toNat >>> (8 * k) : Nat) : Int) = ((UInt8.ofNat (w.toNat / 256 ^ k)).toNat : Int) := by
  rw [u8mod, Nat.shiftRight_eq_div_pow, show (2 : Nat) ^ (8 * k) = 256 ^ k from by rw [Nat.pow_mul]]
  simp

end Go.Form
namespace Go.Proofs.YtbnhfcdagoigkaaDoor.FormP
open Go Go.Hw Go.Form Go.Proofs.YtbnhfcdagoigkaaDoor.W

theorem set_loop (K : Value → Hp → Prop) (b off n m mm : Nat) (xs : List Value) (e : TypeId) (w : UInt64) (H0 : Hp) (ho : off + 8 ≤ xs.length) (hn : 8 ≤ n)
    (k : K (.tuple #[]) (H0.set b (.row (setAt xs off (byteVals (formW w))) e mm))) : ∀ (d j : Nat) (H : Hp), j + d = 8 → H = H0.set b (.row (setAt xs off ((byteVals (formW w)).take j)) e mm) →
      W_codec_set.l1 K (d + 1) (some ⟨b, off, none⟩) n m (w.toNat : Int) (j : Int) H
  | 0, j, H, hj, hH => by
    obtain rfl : j = 8 := by omega
    unfold W_codec_set.l1
    refine BIf_dneg (by omega) ?_
    rw [List.take_of_length_le (by rw [byteVals_length, formW_length]; omega)] at hH
    rw [hH]; exact k
  | d + 1, j, H, hj, hH => by
    unfold W_codec_set.l1
    refine BIf_dpos (by omega) ?_
    rw [i64w (x := 8 * (j : Int)) (by omega) (by omega), u64w (by omega) (by omega)]
    refine ⟨by omega, by omega, by omega, ?_⟩
    simp only [NN_some, Addr.add_lit', Int.toNat_natCast, Nat.mul_one, Nat.add_zero]
    rw [shrNat w.toNat (i := 8 * (j : Int)) (n := 8 * j) (by omega) (by show 8 * j ≤ 64; omega), shr_byte, i64w (by omega) (by omega)]
    have hlen : (byteVals (formW w)).length = 8 := by rw [byteVals_length, formW_length]
    have hb : H b = some (.row (setAt xs off ((byteVals (formW w)).take j)) e mm) := by rw [hH]; exact Hp.set_same _ _ _
    refine St_row hb (by rw [setAt_length (by rw [List.length_take, hlen]; omega)]; omega) rfl ?_
    refine set_loop K b off n m mm xs e w H0 ho hn k d (j + 1) _ (by omega) ?_
    rw [hH, Hp.set_set]
    congr 2
    have := setAt_step (xs := xs) (vs := byteVals (formW w)) (off := off) (k := j) (by rw [hlen]; exact ho) (by rw [hlen]; omega)
    rw [← this]
    congr 1
    simp [byteVals, formW]

theorem set_ok (b off n m mm : Nat) (xs : List Value) (e : TypeId) (w : UInt64) (H : Hp) (hb : H b = some (.row xs e mm)) (ho : off + 8 ≤ xs.length) (hn : 8 ≤ n) :
    HCalls Tryd.prog 89 #[.slice (some ⟨b, off, none⟩) n m, .int .u64 (w.toNat : Int)] H (RetE (.tuple #[]) (H.set b (.row (setAt xs off (byteVals (formW w))) e mm))) := by
  apply W_codec_set.ok
  refine ⟨9, set_loop _ b off n m mm xs e w H ho hn (RetE.mk _ _) 8 0 H rfl ?_⟩
  rw [List.take_zero, setAt_nil, Hp.set_id hb]

theorem slA_row (b m l : Nat) : slA (some ⟨b, 0, none⟩) m l 1 = if m = l then some ⟨b, 0, none⟩ else some ⟨b, l, none⟩ := by
  unfold slA; split
  · rfl
  · simp

theorem Put_loop (K : Value → Hp → Prop) (b : Nat) (e : TypeId) (A : Option Addr) (n m : Nat) (l : List UInt64) (hn : n = l.length) (hm : n ≤ 17592186044416) (H0 : Hp) (hb0 : H0 b = none) (hl : Cells H0 A (wordVals l)) (z : List Value) (hz : z.length = 8 * n)
    (k : ∀ H, H = H0.set b (.row (byteVals (form l)) e (8 * n)) → K (.slice (some ⟨b, 0, none⟩) (8 * n) (8 * n)) H) : ∀ (d j : Nat) (H : Hp), j + d = n → H = H0.set b (.row (setAt z 0 (byteVals (form (l.take j)))) e (8 * n)) →
      W_codec_Put.l3 K (d + 1) (some ⟨b, 0, none⟩) (8 * n) (8 * n) A n m (n : Int) (j : Int) H
  | 0, j, H, hj, hH => by
    unfold W_codec_Put.l3
    refine BIf_dneg (by omega) (k _ ?_)
    rw [hH, List.take_of_length_le (by omega), setAt_all (by rw [byteVals_length, form_length, hz, hn])]
  | d + 1, j, H, hj, hH => by
    unfold W_codec_Put.l3
    refine BIf_dpos (by omega) ?_
    have hlt : j < l.length := by omega
    have hle : H0.le H := by rw [hH]; exact Hp.le_set hb0
    refine (hl.le hle).read (i := j) (v := .int .u64 (l[j].toNat : Int)) (by rw [wordVals_get, List.getElem?_eq_getElem hlt]; rfl) rfl (by rw [wordVals_length]; omega) ?_
    simp only [DI_int', DB_bool, DS_string, DP_pointer, DSl_slice, DM_map, DA_agg, DTup_tuple, DCons_cons, DNil_nil, NN_some, BIf_true, BIf_false, BIf_same, List.toList_toArray, Bool.not_true, Bool.not_false]
    rw [i64w (x := 8 * (j : Int)) (by omega) (by omega)]
    refine ⟨by omega, by omega, ?_⟩
    dsimp only
    rw [show (8 * (j : Int)).toNat = 8 * j by omega, slA_row, if_neg (by omega)]
    have hlen : (byteVals (form (l.take j))).length = 8 * j := by rw [byteVals_length, form_length, List.length_take, Nat.min_eq_left (by omega)]
    have hb : H b = some (.row (setAt z 0 (byteVals (form (l.take j)))) e (8 * n)) := by rw [hH]; exact Hp.set_same _ _ _
    have hsl : (setAt z 0 (byteVals (form (l.take j)))).length = 8 * n := by rw [setAt_length (by omega), hz]
    refine HCalls.use (set_ok b (8 * j) _ _ _ _ e l[j] H hb (by omega) (by omega)) ?_
    rw [i64w (by omega) (by omega)]
    refine Put_loop K b e A n m l hn hm H0 hb0 hl z hz k d (j + 1) _ (by omega) ?_
    rw [hH, Hp.set_set]
    congr 2
    rw [form_succ l hlt, byteVals_append]
    have h8 : (byteVals (formW l[j])).length = 8 := by rw [byteVals_length, formW_length]
    rw [← setAt_setAt (by rw [hlen, h8]; omega), hlen]

theorem cell_u8 : cellInfo Tryd.prog 5 = some (1, 1, some #[.int .u8 0]) := by kernel_rfl

theorem Put_ok (A : Option Addr) (n m : Nat) (l : List UInt64) (hn : n = l.length) (hm : n ≤ 17592186044416) (H : Hp) (hl : Cells H A (wordVals l)) :
    HCalls Tryd.prog 45 #[.slice A n m] H (fun v H' => ∃ b, H b = none ∧ v = .slice (some ⟨b, 0, none⟩) (8 * n) (8 * n) ∧ H' = H.set b (.row (byteVals (form l)) 5 (8 * n))) := by
  apply W_codec_Put.ok
  unfold W_codec_Put
  rw [i64w (x := 8 * (n : Int)) (by omega) (by omega)]
  refine MkS_of cell_u8 rfl (n := 8 * n) (m := 8 * n) (by omega) (by omega) (Nat.le_refl _) (by omega) (by omega) ?_
  intro b hb
  rw [Nat.mul_one]
  simp only [DI_int', DB_bool, DS_string, DP_pointer, DSl_slice, DM_map, DA_agg, DTup_tuple, DCons_cons, DNil_nil, NN_some, BIf_true, BIf_false, BIf_same, List.toList_toArray, Bool.not_true, Bool.not_false]
  refine ⟨n + 1, ?_⟩
  refine Put_loop _ b 5 A n m l hn hm H hb hl (zeroRow [.int .u8 0] (8 * n)) (by rw [zeroRow_length]; simp) ?_ n 0 _ (by omega) ?_
  · intro H' hH; exact ⟨b, hb, rfl, hH⟩
  · rw [List.take_zero]; simp [form, byteVals, setAt_nil]

/-! ## The document's -/

theorem bsize (bs : List UInt8) : (ByteArray.mk bs.toArray).size = bs.length := by simp [ByteArray.size]
theorem bappend (a b : List UInt8) : ByteArray.mk a.toArray ++ ByteArray.mk b.toArray = ByteArray.mk (a ++ b).toArray := by
  apply ByteArray.ext
  simp

theorem rput_inner (K : Value → Hp → Prop) (R3 : Option Addr → Nat → Nat → ByteArray → Int → Hp → Prop) (A : Option Addr) (n m : Nat) (x3 : Int) (H0 : Hp) (w : UInt64) (pre : List UInt8) (hp : pre.length ≤ 1000000000000)
    (k : ∀ H, H0.le H → R3 A n m ⟨(pre ++ formW w).toArray⟩ (IntKind.i64.wrap (x3 + 1)) H) : ∀ (d j : Nat) (H : Hp), j + d = 8 → H0.le H →
      W_abacistref04_Put.l7 K R3 (d + 1) A n m ⟨(pre ++ (formW w).take j).toArray⟩ x3 ((w.toNat / 256 ^ j : Nat) : Int) (j : Int) H
  | 0, j, H, hj, hle => by
    unfold W_abacistref04_Put.l7
    refine BIf_dneg (by omega) ?_
    rw [List.take_of_length_le (by rw [formW_length]; omega)]
    exact k H hle
  | d + 1, j, H, hj, hle => by
    unfold W_abacistref04_Put.l7
    refine BIf_dpos (by omega) ?_
    refine ⟨by omega, rfl, ?_⟩
    intro b hb
    have hlen := formW_length w
    have hbyte : IntKind.u8.wrap (Int.tmod ((w.toNat / 256 ^ j : Nat) : Int) 256) = (((formW w)[j]'(by omega)).toNat : Int) := by
      rw [show Int.tmod ((w.toNat / 256 ^ j : Nat) : Int) 256 = ((w.toNat / 256 ^ j % 256 : Nat) : Int) from rfl, u8n (by omega)]
      simp [formW]
    have hc : Cells (H.set b (.row [.int .u8 (((formW w)[j]'(by omega)).toNat : Int)] 5 1)) (some ⟨b, 0, none⟩) (byteVals [(formW w)[j]'(by omega)]) := by
      have := Cells.row (Hp.set_same H b (.row [.int .u8 (((formW w)[j]'(by omega)).toNat : Int)] 5 1)) 0 1
      simpa [byteVals] using this
    rw [hbyte]
    refine BsK_of hc rfl ?_
    rw [bsize, bsize, bappend]
    refine ⟨by simp; omega, by omega, rfl, ?_⟩
    have hdiv : IntKind.u64.wrap (Int.tdiv ((w.toNat / 256 ^ j : Nat) : Int) 256) = ((w.toNat / 256 ^ (j + 1) : Nat) : Int) := by
      rw [show Int.tdiv ((w.toNat / 256 ^ j : Nat) : Int) 256 = ((w.toNat / 256 ^ j / 256 : Nat) : Int) from rfl, Nat.div_div_eq_div_mul, show 256 ^ j * 256 = 256 ^ (j + 1) from (Nat.pow_succ ..).symm]
      exact u64n (by have := Nat.div_le_self w.toNat (256 ^ (j + 1)); have := w.toNat_lt; omega)
    rw [hdiv, i64w (by omega) (by omega), List.append_assoc, ← List.take_succ_eq_append_getElem (by omega)]
    exact rput_inner K R3 A n m x3 H0 w pre hp k d (j + 1) _ (by omega) (Hp.le_trans hle (Hp.le_set hb))

theorem rput_outer (K : Value → Hp → Prop) (A : Option Addr) (n m : Nat) (l : List UInt64) (hn : n = l.length) (hm : n ≤ 10000000000) (H0 : Hp) (hl : Cells H0 A (wordVals l)) (k : ∀ H, H0.le H → K (.string ⟨(form l).toArray⟩) H) : ∀ (d j : Nat) (H : Hp), j + d = n → H0.le H →
      W_abacistref04_Put.l3 K (d + 1) A n m ⟨(form (l.take j)).toArray⟩ (j : Int) H
  | 0, j, H, hj, hle => by
    unfold W_abacistref04_Put.l3
    refine BIf_dneg (by omega) ?_
    rw [List.take_of_length_le (by omega)]
    exact k H hle
  | d + 1, j, H, hj, hle => by
    unfold W_abacistref04_Put.l3
    refine BIf_dpos (by omega) ?_
    have hlt : j < l.length := by omega
    refine (hl.le hle).read (i := j) (v := .int .u64 (l[j].toNat : Int)) (by rw [wordVals_get, List.getElem?_eq_getElem hlt]; rfl) rfl (by rw [wordVals_length]; omega) ?_
    simp only [DI_int', DB_bool, DS_string, DP_pointer, DSl_slice, DM_map, DA_agg, DTup_tuple, DCons_cons, DNil_nil, NN_some, BIf_true, BIf_false, BIf_same, List.toList_toArray, Bool.not_true, Bool.not_false]
    refine ⟨9, ?_⟩
    have := rput_inner K (W_abacistref04_Put.l3 K (d + 1)) A n m (j : Int) H0 l[j] (form (l.take j)) (by rw [form_length, List.length_take]; omega) (fun H' hle' => by
      rw [i64w (by omega) (by omega), ← form_succ l hlt]
      exact rput_outer K A n m l hn hm H0 hl k d (j + 1) H' (by omega) hle') 8 0 H rfl hle
    simpa using this

theorem rPut_ok (A : Option Addr) (n m : Nat) (l : List UInt64) (hn : n = l.length) (hm : n ≤ 10000000000) (H : Hp) (hl : Cells H A (wordVals l)) :
    HCalls Tryd.prog 44 #[.slice A n m] H (RetE (.string ⟨(form l).toArray⟩) H) := by
  apply HCalls.ret
  apply W_abacistref04_Put.ok
  exact ⟨n + 1, rput_outer _ A n m l hn hm H hl (fun H' hle => ⟨rfl, hle⟩) n 0 H (by omega) (Hp.le_refl _)⟩

end Go.Proofs.YtbnhfcdagoigkaaDoor.FormP

end
section
/-! FormB -/
/- Words of bytes: codec's and the document's. -/
set_option maxRecDepth 100000
set_option linter.unusedSimpArgs false
set_option linter.unusedVariables false
set_option linter.unnecessarySimpa false
set_option linter.unusedSectionVars false
namespace Go.Form
open Go Go.Hw
theorem formW_bytes (w : UInt64) : formW w = bytesN 8 w.toNat := range_bytes 8 w.toNat
theorem leN_formW (w : UInt64) : leN (formW w) = w.toNat := by
  rw [formW_bytes, leN_bytesN]
  exact Nat.mod_eq_of_lt w.toNat_lt

/-- The word whose form begins at a place. -/
def wordN (bs : List UInt8) (o : Nat) : Nat := leN ((bs.drop o).take 8)
theorem wordN_lt (bs : List UInt8) (o : Nat) : wordN bs o < 2 ^ 64 := leN_lt8 (by simp; omega)

theorem form_drop (l : List UInt64) (i : Nat) : (form l).drop (8 * i) = form (l.drop i) := by
  induction i generalizing l with
  | zero => simp
  | succ i ih =>
    cases l with
    | nil => simp [form]
    | cons w l =>
      rw [List.drop_succ_cons, ← ih]
      show List.drop (8 * (i + 1)) (formW w ++ form l) = _
      rw [show 8 * (i + 1) = (formW w).length + 8 * i by rw [formW_length]; omega, List.drop_append]
      simp
theorem wordN_form {l : List UInt64} {i : Nat} (h : i < l.length) (r : List UInt8) : wordN (form l ++ r) (8 * i) = l[i].toNat := by
  unfold wordN
  rw [List.drop_append_of_le_length (by rw [form_length]; omega), form_drop, List.drop_eq_getElem_cons h]
  show leN (((formW l[i] ++ form (l.drop (i + 1))) ++ r).take 8) = _
  rw [List.append_assoc, List.take_left' (formW_length _), leN_formW]
end Go.Form
namespace Go.Proofs.YtbnhfcdagoigkaaDoor.FormP
open Go Go.Hw Go.Form Go.Proofs.YtbnhfcdagoigkaaDoor.W

theorem word_loop (K : Value → Hp → Prop) (A : Option Addr) (n m : Nat) (bs : List UInt8) (hl : bs.length = 8) (hn : 8 ≤ n) (H : Hp) (hb : Cells H A (byteVals bs)) (k : K (.int .u64 (leN bs : Nat)) H) : ∀ j : Nat, j ≤ 8 →
    W_codec_word.l3 K (j + 1) A n m ((leN (bs.drop j) : Nat) : Int) ((j : Int) - 1) H
  | 0, _ => by
    unfold W_codec_word.l3
    refine BIf_dneg (by omega) ?_
    exact k
  | j + 1, hj => by
    unfold W_codec_word.l3
    refine BIf_dpos (by omega) ⟨by omega, ?_⟩
    rw [show (((j + 1 : Nat) : Int) - 1) = (j : Int) by omega]
    have hlt : j < bs.length := by omega
    refine ⟨by omega, by omega, ?_⟩
    obtain ⟨a, rfl, hc⟩ := hb j (.int .u8 (bs[j].toNat : Int)) (by rw [byteVals_get, List.getElem?_eq_getElem hlt]; rfl)
    show Ld H _ _
    refine Ld_of (v := .int .u8 (bs[j].toNat : Int)) (by rw [Int.toNat_natCast, Nat.mul_one]; exact hc) ?_
    simp only [DI_int', DB_bool, DS_string, DP_pointer, DSl_slice, DM_map, DA_agg, DTup_tuple, DCons_cons, DNil_nil, NN_some, BIf_true, BIf_false, BIf_same, List.toList_toArray, Bool.not_true, Bool.not_false]
    have h1 : leN (bs.drop (j + 1)) < 256 ^ 7 := by
      have h1 := leN_lt (bs.drop (j + 1))
      have h2 : 256 ^ (bs.drop (j + 1)).length ≤ 256 ^ 7 := Nat.pow_le_pow_right (by omega) (by simp; omega)
      omega
    have h2 : bs[j].toNat < 256 := bs[j].toNat_lt
    have h3 : leN (bs.drop (j + 1)) * 2 ^ 8 < 2 ^ 64 := by
      rw [show (256 : Nat) ^ 7 = 2 ^ 56 by decide] at h1; omega
    rw [shlN (i := (8 : Int)) (n := 8) rfl (by omega), Nat.mod_eq_of_lt h3, u64n (by omega), orN h3 (by omega), i64w (by omega) (by omega)]
    rw [← Nat.shiftLeft_eq, ← Nat.shiftLeft_add_eq_or_of_lt (by omega : bs[j].toNat < 2 ^ 8), Nat.shiftLeft_eq]
    have e := leN_drop hlt
    rw [show leN (bs.drop (j + 1)) * 2 ^ 8 + bs[j].toNat = leN (bs.drop j) by rw [e]; omega]
    exact word_loop K _ n m bs hl hn H hb k j (by omega)

theorem word_ok (A : Option Addr) (n m : Nat) (bs : List UInt8) (hl : bs.length = 8) (hn : 8 ≤ n) (H : Hp) (hb : Cells H A (byteVals bs)) : HCalls Tryd.prog 88 #[.slice A n m] H (RetE (.int .u64 (leN bs : Nat)) H) := by
  apply W_codec_word.ok
  refine ⟨9, ?_⟩
  have := word_loop (RetE (.int .u64 (leN bs : Nat)) H) A n m bs hl hn H hb (RetE.mk _ _) 8 (Nat.le_refl _)
  rw [List.drop_eq_nil_of_le (by omega)] at this
  exact this

theorem inside_ok (A : Option Addr) (n m : Nat) (hn : n ≤ 9000000000000000000) (i : Int) (H : Hp) : HCalls Tryd.prog 87 #[.slice A n m, .int .i64 i] H (RetE (.bool (decide (0 ≤ i ∧ i < (n / 8 : Nat)))) H) := by
  apply W_codec_inside.ok
  unfold W_codec_inside
  rw [BIf_decide]
  split
  · refine ⟨by omega, rfl, RetE.of ?_⟩
    rw [show Int.tdiv ((n : Nat) : Int) 8 = ((n / 8 : Nat) : Int) from rfl, i64n (by omega)]
    congr 1; simp only [decide_eq_decide]; omega
  · refine RetE.of ?_
    congr 1
    exact (decide_eq_false (by omega)).symm

theorem Word_ok (A : Option Addr) (n m : Nat) (hnm : n ≤ m) (hm : n ≤ 9000000000000000000) (bs : List UInt8) (hl : n = bs.length) (i : Nat) (hi : 8 * i + 8 ≤ n) (H : Hp) (hb : Cells H A (byteVals bs)) :
    HCalls Tryd.prog 41 #[.slice A n m, .int .i64 i] H (RetE (.tuple #[.int .u64 (wordN bs (8 * i) : Nat), .int .i64 0]) H) := by
  apply W_codec_Word.ok
  unfold W_codec_Word
  refine HCalls.use (inside_ok A n m (by omega) i H) ?_
  try simp only [DI_int', DB_bool, DS_string, DP_pointer, DSl_slice, DM_map, DA_agg, DTup_tuple, DCons_cons, DNil_nil, NN_some, BIf_true, BIf_false, BIf_same, List.toList_toArray, Bool.not_true, Bool.not_false]
  refine BIf_neg (by simp; omega) ?_
  rw [i64w (x := 8 * (i : Int)) (by omega) (by omega)]
  refine ⟨by omega, by omega, ?_⟩
  rw [show (8 * (i : Int)).toNat = 8 * i by omega]
  have h1 := (hb.shift (m := m) (l := 8 * i) (by rw [byteVals_length]; omega)).take 8
  rw [show ((byteVals bs).drop (8 * i)).take 8 = byteVals ((bs.drop (8 * i)).take 8) by unfold byteVals; rw [List.map_take, List.map_drop]] at h1
  refine HCalls.use (word_ok _ (n - 8 * i) (m - 8 * i) ((bs.drop (8 * i)).take 8) (by simp; omega) (by omega) H h1) ?_
  try simp only [DI_int', DB_bool, DS_string, DP_pointer, DSl_slice, DM_map, DA_agg, DTup_tuple, DCons_cons, DNil_nil, NN_some, BIf_true, BIf_false, BIf_same, List.toList_toArray, Bool.not_true, Bool.not_false]
  exact RetE.mk _ _

theorem rword_loop (K : Value → Hp → Prop) (bs : List UInt8) (o : Nat) (ho : o + 8 ≤ bs.length) (hb : bs.length ≤ 1000000000000) (H : Hp) (k : K (.int .u64 (wordN bs o : Nat)) H) : ∀ j : Nat, j ≤ 8 →
    W_abacistref04_Word.l3 K (j + 1) ⟨bs.toArray⟩ (o : Int) ((leN (((bs.drop o).take 8).drop j) : Nat) : Int) ((j : Int) - 1) H
  | 0, _ => by
    unfold W_abacistref04_Word.l3
    exact BIf_dneg (by omega) k
  | j + 1, hj => by
    unfold W_abacistref04_Word.l3
    have hl : ((bs.drop o).take 8).length = 8 := by simp; omega
    have hlt : j < ((bs.drop o).take 8).length := by omega
    refine BIf_dpos (by omega) ?_
    rw [show (o : Int) + (((j + 1 : Nat) : Int) - 1) = ((o + j : Nat) : Int) by omega, i64n (by omega)]
    refine ⟨by omega, ixB_of (by rw [Int.toNat_natCast]; show o + j < bs.toArray.size; simp; omega) ?_⟩
    have h1 : leN (((bs.drop o).take 8).drop (j + 1)) < 256 ^ 7 := by
      have h1 := leN_lt (((bs.drop o).take 8).drop (j + 1))
      have h2 : 256 ^ (((bs.drop o).take 8).drop (j + 1)).length ≤ 256 ^ 7 := Nat.pow_le_pow_right (by omega) (by simp; omega)
      omega
    rw [show (256 : Nat) ^ 7 = 2 ^ 56 by decide] at h1
    have e := leN_drop hlt
    have hg : ((⟨bs.toArray⟩ : ByteArray)[(((o + j : Nat) : Int)).toNat]'(by rw [Int.toNat_natCast]; show o + j < bs.toArray.size; simp; omega)) = ((bs.drop o).take 8)[j] := by
      simp only [Int.toNat_natCast, List.getElem_take, List.getElem_drop]
      rfl
    rw [hg]
    have h2 : ((bs.drop o).take 8)[j].toNat < 256 := ((bs.drop o).take 8)[j].toNat_lt
    rw [u64n (n := ((bs.drop o).take 8)[j].toNat) (by omega), u64w (x := (256 : Int) * _) (by omega) (by omega), u64w (by omega) (by omega), i64w (by omega) (by omega)]
    rw [show (256 : Int) * ((leN (((bs.drop o).take 8).drop (j + 1)) : Nat) : Int) + (((bs.drop o).take 8)[j].toNat : Int) = ((leN (((bs.drop o).take 8).drop j) : Nat) : Int) by rw [e]; omega]
    rw [show (((j + 1 : Nat) : Int) - 1) - 1 = (j : Int) - 1 by omega]
    exact rword_loop K bs o ho hb H k j (by omega)

theorem rWord_ok (bs : List UInt8) (o : Nat) (ho : o + 8 ≤ bs.length) (hb : bs.length ≤ 1000000000000) (H : Hp) : HCalls Tryd.prog 43 #[.string ⟨bs.toArray⟩, .int .i64 o] H (RetE (.int .u64 (wordN bs o : Nat)) H) := by
  apply W_abacistref04_Word.ok
  refine ⟨9, ?_⟩
  have := rword_loop (RetE (.int .u64 (wordN bs o : Nat)) H) bs o ho hb H (RetE.mk _ _) 8 (Nat.le_refl _)
  rw [List.drop_eq_nil_of_le (by simp; omega)] at this
  exact this

end Go.Proofs.YtbnhfcdagoigkaaDoor.FormP

end
section
/-! Wabacistlaw04 -/
/- Formulas of functions, printed by wip/tools/hwp.py. -/
set_option maxRecDepth 100000
set_option linter.unusedVariables false
namespace Go.Proofs.YtbnhfcdagoigkaaDoor.W
open Go Go.Hw

theorem mixWabacistlaw04 : Tryd.prog.follows .mixedOrders = true := by kernel_rfl
-- abacistlaw04.CodecTexts
def W_abacistlaw04_CodecTexts.j10 (K : Value → Hp → Prop) (A4 : Option Addr) (n4 : Nat) (m4 : Nat) (s5 : ByteArray) (H : Hp) : Prop :=
  HCalls Tryd.prog 34 #[.string s5] H fun v14 H8 => DTup v14 fun l9 => DCons l9 fun v15 l10 => DSl v15 fun A5 n5 m5 => DCons l10 fun v16 l11 => DI .i64 v16 fun x5 => DCons l11 fun v17 l12 => DI .i64 v17 fun x6 => DNil l12 (HCalls Tryd.prog 37 #[.slice A4 n4 m4] H8 fun v18 H9 => DTup v18 fun l13 => DCons l13 fun v19 l14 => DI .i64 v19 fun x7 => DCons l14 fun v20 l15 => DB v20 fun c3 => DNil l15 (BIf (!c3) (K (.bool (x6 == (3 : Int))) H9) (BIf (x6 == (0 : Int)) (HCalls Tryd.prog 27 #[.slice A5 n5 m5, .slice A4 n4 m4] H9 fun v21 H10 => DB v21 fun c4 => K (.bool c4) H10) (K (.bool false) H9))))
def W_abacistlaw04_CodecTexts (A1 : Option Addr) (n1 : Nat) (m1 : Nat) (s1 : ByteArray) (H : Hp) (K : Value → Hp → Prop) : Prop :=
  HCalls Tryd.prog 32 #[] H fun v1 H1 => DB v1 fun c1 => BIf (!c1) (K (.bool false) H1) (BIf (decide (((n1 : Nat) : Int) > (40 : Int))) (K (.bool true) H1) (BIf (decide (((s1.size : Nat) : Int) > (300 : Int))) (K (.bool true) H1) (HCalls Tryd.prog 33 #[.slice A1 n1 m1] H1 fun v2 H2 => DS v2 fun s2 => HCalls Tryd.prog 34 #[.string s1] H2 fun v3 H3 => DTup v3 fun l1 => DCons l1 fun v4 l2 => DSl v4 fun A2 n2 m2 => DCons l2 fun v5 l3 => DI .i64 v5 fun x1 => DCons l3 fun v6 l4 => DI .i64 v6 fun x2 => DNil l4 (HCalls Tryd.prog 35 #[.string s1] H3 fun v7 H4 => DTup v7 fun l5 => DCons l5 fun v8 l6 => DSl v8 fun A3 n3 m3 => DCons l6 fun v9 l7 => DI .i64 v9 fun x3 => DCons l7 fun v10 l8 => DI .i64 v10 fun x4 => DNil l8 (HCalls Tryd.prog 36 #[.slice A1 n1 m1] H4 fun v11 H5 => DS v11 fun s3 => BIf (!(s2.toList == s3.toList)) (K (.bool false) H5) (HCalls Tryd.prog 27 #[.slice A2 n2 m2, .slice A3 n3 m3] H5 fun v12 H6 => DB v12 fun c2 => BIf (!c2) (K (.bool false) H6) (BIf (x1 != x3) (K (.bool false) H6) (BIf (x2 != x4) (K (.bool false) H6) (BIf (x2 == (0 : Int)) (HCalls Tryd.prog 33 #[.slice A2 n2 m2] H6 fun v13 H7 => DS v13 fun s4 => BIf (!(s4.toList == s1.toList)) (K (.bool false) H7) (W_abacistlaw04_CodecTexts.j10 K A1 n1 m1 s2 H7)) (W_abacistlaw04_CodecTexts.j10 K A1 n1 m1 s2 H6))))))))))
def W_abacistlaw04_CodecTexts.Λ (K : Value → Hp → Prop) : Cuts := ⟨fun i => match Nat.beq i 10 with | true => some (fun E D H => DG (E.get? 0) fun w0 => DSl w0 fun A4 n4 m4 => DG (E.get? 5) fun w5 => DS w5 fun s5 => DNilD D (W_abacistlaw04_CodecTexts.j10 K A4 n4 m4 s5 H)) | false => none, fun i => none, (fun _ => none)⟩
theorem W_abacistlaw04_CodecTexts.ok (A1 : Option Addr) (n1 : Nat) (m1 : Nat) (s1 : ByteArray) (H : Hp) (K : Value → Hp → Prop) (h : W_abacistlaw04_CodecTexts A1 n1 m1 s1 H K) : HCalls Tryd.prog 7 #[.slice A1 n1 m1, .string s1] H K :=
  hcalls Tryd.func7 rfl (Nat.le_of_ble_eq_true rfl) (hw_safe (Λ := (W_abacistlaw04_CodecTexts.Λ K)) mixWabacistlaw04 _ _ _ _ _ (Eq.mp (by kernel_rfl) h) (obs_seq obs_region rfl (obs_seq (obs_seq obs_region rfl (obs_cond (obs_seq obs_region rfl obs_ret) obs_skip)) rfl (obs_seq (obs_seq obs_region rfl (obs_cond (obs_seq obs_region rfl obs_ret) obs_skip)) rfl (obs_seq obs_region rfl (obs_seq obs_region rfl (obs_seq obs_region rfl (obs_seqc (obs_seq obs_region rfl (obs_cond (obs_seq obs_region rfl obs_ret) obs_skip)) rfl (fun E D H h => by
      obtain ⟨w0, e0, g1⟩ := DG.out h
      obtain ⟨A4, n4, m4, rfl, g2⟩ := DSl.out g1
      obtain ⟨w5, e5, g3⟩ := DG.out g2
      obtain ⟨s5, rfl, g4⟩ := DS.out g3
      obtain ⟨rfl, h'⟩ := DNilD.out g4
      exact (hw_safe (Λ := (W_abacistlaw04_CodecTexts.Λ K)) mixWabacistlaw04 _ _ [(0, .slice A4 n4 m4), (5, .string s5)] [] H (Eq.mp (by kernel_rfl) h') (obs_seq obs_region rfl (obs_seq (obs_seq obs_region rfl (obs_seq obs_region rfl (obs_cond (obs_seq obs_region rfl obs_ret) obs_skip))) rfl (obs_seq obs_region rfl obs_ret)))).weaken (EnvLe.cons e0 (EnvLe.cons e5 (EnvLe.nil _))) (Hp.le_refl _))))))))))

-- abacistlaw04.CodecPlaces
def W_abacistlaw04_CodecPlaces (A1 : Option Addr) (n1 : Nat) (m1 : Nat) (x1 : Int) (x2 : Int) (H : Hp) (K : Value → Hp → Prop) : Prop :=
  HCalls Tryd.prog 32 #[] H fun v1 H1 => DB v1 fun c1 => BIf (!c1) (K (.bool false) H1) (BIf (decide (((n1 : Nat) : Int) > (300 : Int))) (K (.bool true) H1) (Nw H1 (.row [] 5 0) fun b1 H2 => AppK Tryd.prog 5 (.slice (some ⟨b1, 0, none⟩) 0 0) (.slice A1 n1 m1) H2 fun v2 H3 => DSl v2 fun A2 n2 m2 => HCalls Tryd.prog 41 #[.slice A2 n2 m2, .int .i64 x1] H3 fun v3 H4 => DTup v3 fun l1 => DCons l1 fun v4 l2 => DI .u64 v4 fun x3 => DCons l2 fun v5 l3 => DI .i64 v5 fun x4 => DNil l3 (HCalls Tryd.prog 42 #[.slice A2 n2 m2, .int .i64 x1, .int .u64 x2] H4 fun v6 H5 => DI .i64 v6 fun x5 => BIf (decide (x1 < (0 : Int))) (BIf (x4 == (2 : Int)) (BIf (x5 == (2 : Int)) (BIf (x3 == (0 : Int)) (BsK H5 A2 n2 fun s1 => BsK H5 A1 n1 fun s3 => K (.bool (s1.toList == s3.toList)) H5) (K (.bool false) H5)) (K (.bool false) H5)) (K (.bool false) H5)) (((8 : Int) ≠ 0 ∧ IntKind.i64 = IntKind.i64 ∧ BIf (decide (x1 ≥ (IntKind.i64.wrap (Int.tdiv ((n1 : Nat) : Int) (8 : Int))))) (BIf (x4 == (2 : Int)) (BIf (x5 == (2 : Int)) (BIf (x3 == (0 : Int)) (BsK H5 A2 n2 fun s2 => BsK H5 A1 n1 fun s4 => K (.bool (s2.toList == s4.toList)) H5) (K (.bool false) H5)) (K (.bool false) H5)) (K (.bool false) H5)) (HCalls Tryd.prog 41 #[.slice A2 n2 m2, .int .i64 x1] H5 fun v7 H6 => DTup v7 fun l4 => DCons l4 fun v8 l5 => DI .u64 v8 fun x6 => DCons l5 fun v9 l6 => DI .i64 v9 fun x7 => DNil l6 (BIf (x4 == (0 : Int)) (BIf (x5 == (0 : Int)) (BIf (x7 == (0 : Int)) (BsK H6 A1 n1 fun s5 => QCall Tryd.prog 43 #[.string s5, .int .i64 (IntKind.i64.wrap ((8 : Int) * x1))] H6 fun v10 => DI .u64 v10 fun x8 => BIf (x3 == x8) (BIf (x6 == x2) (BsK H6 A2 n2 fun s6 => slB n1 m1 none (some (IntKind.i64.wrap ((8 : Int) * x1))) fun n3 n4 => BsK H6 (slA A1 m1 n3 1) (n4 - n3) fun s7 => slB n1 m1 (some (IntKind.i64.wrap ((IntKind.i64.wrap ((8 : Int) * x1)) + (8 : Int)))) none fun n5 n6 => BsK H6 (slA A1 m1 n5 1) (n6 - n5) fun s8 => Nw H6 (.row [.int .u64 x2] 22 1) fun b2 H7 => QCall Tryd.prog 44 #[.slice (some ⟨b2, 0, none⟩) 1 1] H7 fun v11 => DS v11 fun s9 => (s7.size + s9.size ≤ 4611686018427387904 ∧ ((s7 ++ s9).size + s8.size ≤ 4611686018427387904 ∧ K (.bool (s6.toList == ((s7 ++ s9) ++ s8).toList)) H7))) (K (.bool false) H6)) (K (.bool false) H6)) (K (.bool false) H6)) (K (.bool false) H6)) (K (.bool false) H6))))))))
def W_abacistlaw04_CodecPlaces.Λ (_ : Value → Hp → Prop) : Cuts := Cuts.none (fun i => match Nat.beq i 11 with | true => some ([13, 16, 26, 31, 34, 41], [0, 1, 3, 7, 15, 31, 63, 127, 255, 511, 1023, 2047, 2047, 6143, 2047, 18431, 63487, 131071, 262143, 524287, 1048575, 1048575, 4194303, 8388607, 16777215, 33554431, 67108863, 33554431, 33554431, 301989887, 973078527, 2046820351, 33554431, 4328521727, 12918456319, 34259075071, 33554431, 33554431, 137472507903, 412350414847, 1030825705471, 2130337333247, 4397945847807, 8796093022207, 17592186044415, 35184372088831], 0) | false => none)
theorem W_abacistlaw04_CodecPlaces.ok (A1 : Option Addr) (n1 : Nat) (m1 : Nat) (x1 : Int) (x2 : Int) (H : Hp) (K : Value → Hp → Prop) (h : W_abacistlaw04_CodecPlaces A1 n1 m1 x1 x2 H K) : HCalls Tryd.prog 9 #[.slice A1 n1 m1, .int .i64 x1, .int .u64 x2] H K :=
  hcalls Tryd.func9 rfl (Nat.le_of_ble_eq_true rfl) (hw_safe (Λ := Cuts.none (fun i => match Nat.beq i 11 with | true => some ([13, 16, 26, 31, 34, 41], [0, 1, 3, 7, 15, 31, 63, 127, 255, 511, 1023, 2047, 2047, 6143, 2047, 18431, 63487, 131071, 262143, 524287, 1048575, 1048575, 4194303, 8388607, 16777215, 33554431, 67108863, 33554431, 33554431, 301989887, 973078527, 2046820351, 33554431, 4328521727, 12918456319, 34259075071, 33554431, 33554431, 137472507903, 412350414847, 1030825705471, 2130337333247, 4397945847807, 8796093022207, 17592186044415, 35184372088831], 0) | false => none)) mixWabacistlaw04 _ _ _ _ _ (Eq.mp (by kernel_rfl) h) (obs_none _ _ _ _ _))

-- abacistlaw04.CodecForms
def W_abacistlaw04_CodecForms.j10 (K : Value → Hp → Prop) (A10 : Option Addr) (n10 : Nat) (m10 : Nat) (A11 : Option Addr) (n11 : Nat) (m11 : Nat) (H : Hp) : Prop :=
  HCalls Tryd.prog 46 #[.slice A11 n11 m11] H fun v19 H13 => DTup v19 fun l9 => DCons l9 fun v20 l10 => DSl v20 fun A12 n12 m12 => DCons l10 fun v21 l11 => DI .i64 v21 fun x5 => DCons l11 fun v22 l12 => DI .i64 v22 fun x6 => DNil l12 (HCalls Tryd.prog 37 #[.slice A10 n10 m10] H13 fun v23 H14 => DTup v23 fun l13 => DCons l13 fun v24 l14 => DI .i64 v24 fun x7 => DCons l14 fun v25 l15 => DB v25 fun c4 => DNil l15 (BIf (!c4) (BIf (x6 == (3 : Int)) (BIf (decide (x7 < ((n10 : Nat) : Int))) (ixI x7 n10 (NN A10 fun a1 => Ld H14 (a1.add (x7.toNat * 1)) fun v26 => DI .u64 v26 fun x8 => K (.bool (decide (x8 ≥ (18446744069414584321 : Int)))) H14)) (K (.bool false) H14)) (K (.bool false) H14)) (BIf (x7 == (0 : Int)) (BIf (x6 == (0 : Int)) (HCalls Tryd.prog 27 #[.slice A12 n12 m12, .slice A10 n10 m10] H14 fun v27 H15 => DB v27 fun c5 => K (.bool c5) H15) (K (.bool false) H14)) (K (.bool false) H14))))
def W_abacistlaw04_CodecForms (A1 : Option Addr) (n1 : Nat) (m1 : Nat) (A2 : Option Addr) (n2 : Nat) (m2 : Nat) (H : Hp) (K : Value → Hp → Prop) : Prop :=
  HCalls Tryd.prog 32 #[] H fun v1 H1 => DB v1 fun c1 => BIf (!c1) (K (.bool false) H1) (BIf (decide (((n1 : Nat) : Int) > (40 : Int))) (K (.bool true) H1) (BIf (decide (((n2 : Nat) : Int) > (300 : Int))) (K (.bool true) H1) (HCalls Tryd.prog 45 #[.slice A1 n1 m1] H1 fun v2 H2 => DSl v2 fun A3 n3 m3 => HCalls Tryd.prog 46 #[.slice A2 n2 m2] H2 fun v3 H3 => DTup v3 fun l1 => DCons l1 fun v4 l2 => DSl v4 fun A4 n4 m4 => DCons l2 fun v5 l3 => DI .i64 v5 fun x1 => DCons l3 fun v6 l4 => DI .i64 v6 fun x2 => DNil l4 (BsK H3 A2 n2 fun s1 => HCalls Tryd.prog 47 #[.string s1] H3 fun v7 H4 => DTup v7 fun l5 => DCons l5 fun v8 l6 => DSl v8 fun A5 n5 m5 => DCons l6 fun v9 l7 => DI .i64 v9 fun x3 => DCons l7 fun v10 l8 => DI .i64 v10 fun x4 => DNil l8 ((BsK H4 A3 n3 fun s2 => HCalls Tryd.prog 44 #[.slice A1 n1 m1] H4 fun v11 H5 => DS v11 fun s3 => BIf (!(s2.toList == s3.toList)) (((K (.bool false) H5) ∧ (K (.bool false) H5)) ∧ (K (.bool false) H5)) (HCalls Tryd.prog 27 #[.slice A4 n4 m4, .slice A5 n5 m5] H5 fun v12 H6 => DB v12 fun c2 => BIf (!c2) (((K (.bool false) H6) ∧ (K (.bool false) H6)) ∧ (K (.bool false) H6)) (BIf (x1 != x3) (((K (.bool false) H6) ∧ (K (.bool false) H6)) ∧ (K (.bool false) H6)) (BIf (x2 != x4) (((K (.bool false) H6) ∧ (K (.bool false) H6)) ∧ (K (.bool false) H6)) (BIf (x2 == (0 : Int)) ((HCalls Tryd.prog 45 #[.slice A4 n4 m4] H6 fun v13 H7 => DSl v13 fun A6 n6 m6 => (BsK H7 A6 n6 fun s4 => BsK H7 A2 n2 fun s5 => BIf (!(s4.toList == s5.toList)) (K (.bool false) H7) (W_abacistlaw04_CodecForms.j10 K A1 n1 m1 A3 n3 m3 H7)) ∧ (BsK H7 A2 n2 fun s6 => BsK H7 A6 n6 fun s7 => BIf (!(s7.toList == s6.toList)) (K (.bool false) H7) (W_abacistlaw04_CodecForms.j10 K A1 n1 m1 A3 n3 m3 H7))) ∧ (BsK H6 A2 n2 fun s8 => HCalls Tryd.prog 45 #[.slice A4 n4 m4] H6 fun v14 H8 => DSl v14 fun A7 n7 m7 => BsK H8 A7 n7 fun s9 => BIf (!(s9.toList == s8.toList)) (K (.bool false) H8) (W_abacistlaw04_CodecForms.j10 K A1 n1 m1 A3 n3 m3 H8))) (((W_abacistlaw04_CodecForms.j10 K A1 n1 m1 A3 n3 m3 H6) ∧ (W_abacistlaw04_CodecForms.j10 K A1 n1 m1 A3 n3 m3 H6)) ∧ (W_abacistlaw04_CodecForms.j10 K A1 n1 m1 A3 n3 m3 H6))))))) ∧ (HCalls Tryd.prog 44 #[.slice A1 n1 m1] H4 fun v15 H9 => DS v15 fun s10 => BsK H9 A3 n3 fun s11 => BIf (!(s11.toList == s10.toList)) (((K (.bool false) H9) ∧ (K (.bool false) H9)) ∧ (K (.bool false) H9)) (HCalls Tryd.prog 27 #[.slice A4 n4 m4, .slice A5 n5 m5] H9 fun v16 H10 => DB v16 fun c3 => BIf (!c3) (((K (.bool false) H10) ∧ (K (.bool false) H10)) ∧ (K (.bool false) H10)) (BIf (x1 != x3) (((K (.bool false) H10) ∧ (K (.bool false) H10)) ∧ (K (.bool false) H10)) (BIf (x2 != x4) (((K (.bool false) H10) ∧ (K (.bool false) H10)) ∧ (K (.bool false) H10)) (BIf (x2 == (0 : Int)) ((HCalls Tryd.prog 45 #[.slice A4 n4 m4] H10 fun v17 H11 => DSl v17 fun A8 n8 m8 => (BsK H11 A8 n8 fun s12 => BsK H11 A2 n2 fun s13 => BIf (!(s12.toList == s13.toList)) (K (.bool false) H11) (W_abacistlaw04_CodecForms.j10 K A1 n1 m1 A3 n3 m3 H11)) ∧ (BsK H11 A2 n2 fun s14 => BsK H11 A8 n8 fun s15 => BIf (!(s15.toList == s14.toList)) (K (.bool false) H11) (W_abacistlaw04_CodecForms.j10 K A1 n1 m1 A3 n3 m3 H11))) ∧ (BsK H10 A2 n2 fun s16 => HCalls Tryd.prog 45 #[.slice A4 n4 m4] H10 fun v18 H12 => DSl v18 fun A9 n9 m9 => BsK H12 A9 n9 fun s17 => BIf (!(s17.toList == s16.toList)) (K (.bool false) H12) (W_abacistlaw04_CodecForms.j10 K A1 n1 m1 A3 n3 m3 H12))) (((W_abacistlaw04_CodecForms.j10 K A1 n1 m1 A3 n3 m3 H10) ∧ (W_abacistlaw04_CodecForms.j10 K A1 n1 m1 A3 n3 m3 H10)) ∧ (W_abacistlaw04_CodecForms.j10 K A1 n1 m1 A3 n3 m3 H10))))))))))))
def W_abacistlaw04_CodecForms.Λ (K : Value → Hp → Prop) : Cuts := ⟨fun i => match Nat.beq i 10 with | true => some (fun E D H => DG (E.get? 0) fun w0 => DSl w0 fun A10 n10 m10 => DG (E.get? 5) fun w5 => DSl w5 fun A11 n11 m11 => DNilD D (W_abacistlaw04_CodecForms.j10 K A10 n10 m10 A11 n11 m11 H)) | false => none, fun i => none, (fun i => match Nat.beq i 8 with | true => some ([], [0, 1, 0, 4, 15, 31, 63, 63, 255, 511, 1023, 2047, 4095, 4095, 16383, 32767, 65535, 131071, 131071, 524287, 1048575, 2097151, 4194303, 8388607, 16777215, 33554431, 67108863, 134217727, 33554431, 301989887, 1073741823, 2147483647, 4294967295], 0) | false => none)⟩
theorem W_abacistlaw04_CodecForms.ok (A1 : Option Addr) (n1 : Nat) (m1 : Nat) (A2 : Option Addr) (n2 : Nat) (m2 : Nat) (H : Hp) (K : Value → Hp → Prop) (h : W_abacistlaw04_CodecForms A1 n1 m1 A2 n2 m2 H K) : HCalls Tryd.prog 10 #[.slice A1 n1 m1, .slice A2 n2 m2] H K :=
  hcalls Tryd.func10 rfl (Nat.le_of_ble_eq_true rfl) (hw_safe (Λ := (W_abacistlaw04_CodecForms.Λ K)) mixWabacistlaw04 _ _ _ _ _ (Eq.mp (by kernel_rfl) h) (obs_seq obs_region rfl (obs_seq (obs_seq obs_region rfl (obs_cond (obs_seq obs_region rfl obs_ret) obs_skip)) rfl (obs_seq (obs_seq obs_region rfl (obs_cond (obs_seq obs_region rfl obs_ret) obs_skip)) rfl (obs_seq obs_region rfl (obs_seq obs_region rfl (obs_seq obs_region rfl (obs_seqc (obs_seq obs_region rfl (obs_cond (obs_seq obs_region rfl obs_ret) obs_skip)) rfl (fun E D H h => by
      obtain ⟨w0, e0, g1⟩ := DG.out h
      obtain ⟨A10, n10, m10, rfl, g2⟩ := DSl.out g1
      obtain ⟨w5, e5, g3⟩ := DG.out g2
      obtain ⟨A11, n11, m11, rfl, g4⟩ := DSl.out g3
      obtain ⟨rfl, h'⟩ := DNilD.out g4
      exact (hw_safe (Λ := (W_abacistlaw04_CodecForms.Λ K)) mixWabacistlaw04 _ _ [(0, .slice A10 n10 m10), (5, .slice A11 n11 m11)] [] H (Eq.mp (by kernel_rfl) h') (obs_seq obs_region rfl (obs_seq obs_region rfl (obs_seq (obs_seq obs_region rfl (obs_cond (obs_seq obs_region rfl obs_ret) obs_skip)) rfl (obs_seq obs_region rfl obs_ret))))).weaken (EnvLe.cons e0 (EnvLe.cons e5 (EnvLe.nil _))) (Hp.le_refl _))))))))))

-- abacistlaw04.awake
def W_abacistlaw04_awake (H : Hp) (K : Value → Hp → Prop) : Prop :=
  HCalls Tryd.prog 34 #[.string (⟨#[53, 32, 48]⟩)] H fun v1 H1 => DTup v1 fun l1 => DCons l1 fun v2 l2 => DSl v2 fun A1 n1 m1 => DCons l2 fun v3 l3 => DI .i64 v3 fun x1 => DCons l3 fun v4 l4 => DI .i64 v4 fun x2 => DNil l4 (Nw H1 (.row [.int .u64 (5 : Int), .int .u64 (0 : Int)] 22 2) fun b1 H2 => HCalls Tryd.prog 33 #[.slice (some ⟨b1, 0, none⟩) 2 2] H2 fun v5 H3 => DS v5 fun s1 => BIf (s1.toList == ((⟨#[53, 32, 48]⟩) : ByteArray).toList) (BIf (x2 == (0 : Int)) (BIf (((n1 : Nat) : Int) == (2 : Int)) (ixI (0 : Int) n1 (NN A1 fun a1 => Ld H3 (a1.add ((0 : Int).toNat * 1)) fun v6 => DI .u64 v6 fun x3 => BIf (x3 == (5 : Int)) (Nw H3 (.row [.int .u64 (258 : Int)] 22 1) fun b2 H4 => HCalls Tryd.prog 45 #[.slice (some ⟨b2, 0, none⟩) 1 1] H4 fun v7 H5 => DSl v7 fun A2 n2 m2 => BsK H5 A2 n2 fun s2 => K (.bool (s2.toList == ((⟨#[2, 1, 0, 0, 0, 0, 0, 0]⟩) : ByteArray).toList)) H5) (K (.bool false) H3))) (K (.bool false) H3)) (K (.bool false) H3)) (K (.bool false) H3))
def W_abacistlaw04_awake.Λ (_ : Value → Hp → Prop) : Cuts := Cuts.none (fun _ => none)
theorem W_abacistlaw04_awake.ok (H : Hp) (K : Value → Hp → Prop) (h : W_abacistlaw04_awake H K) : HCalls Tryd.prog 32 #[] H K :=
  hcalls Tryd.func32 rfl (Nat.le_of_ble_eq_true rfl) (hw_safe (Λ := Cuts.none (fun _ => none)) mixWabacistlaw04 _ _ _ _ _ (Eq.mp (by kernel_rfl) h) (obs_none _ _ _ _ _))

end Go.Proofs.YtbnhfcdagoigkaaDoor.W

end
section
/-! CodE -/
/- law 04: its first look; CodecPlaces. -/
set_option maxRecDepth 100000
set_option linter.unusedSimpArgs false
set_option linter.unusedVariables false
set_option linter.unnecessarySimpa false
set_option linter.unusedSectionVars false
namespace Go.Proofs.YtbnhfcdagoigkaaDoor.Cod
open Go Go.Hw Go.Proofs.YtbnhfcdagoigkaaDoor.W Go.Proofs.YtbnhfcdagoigkaaDoor.Gol Go.Proofs.YtbnhfcdagoigkaaDoor.Gen Go.Form Go.Proofs.YtbnhfcdagoigkaaDoor.FormP

theorem read_50 : readV [53, 32, 48] = ([5, 0], 0, 0) := by decide +kernel

theorem awake_ok (H : Hp) (hM : MaxL H) : HCalls Tryd.prog 32 #[] H (RetE (.bool true) H) := HCalls.ret (by
  apply W_abacistlaw04_awake.ok
  unfold W_abacistlaw04_awake
  refine Read_use (Sep.start H) [53, 32, 48] (by decide) hM fun A m H1 hs => ?_
  rw [read_50] at hs ⊢
  simp only [DI_int', DB_bool, DS_string, DP_pointer, DSl_slice, DM_map, DA_agg, DTup_tuple, DCons_cons, DNil_nil, NN_some, BIf_true, BIf_false, BIf_same, List.toList_toArray, Bool.not_true, Bool.not_false]
  refine hs.nw fun b H1 hs => ?_
  have hc : Cells H1 (some ⟨b, 0, none⟩) (natV [5, 0]) := Cells.row (hs.get 2 rfl) 0 2
  refine HCalls.use (Text_two (some ⟨b, 0, none⟩) 2 5 0 (by decide) (by decide) H1 hc) ?_
  simp only [DI_int', DB_bool, DS_string, DP_pointer, DSl_slice, DM_map, DA_agg, DTup_tuple, DCons_cons, DNil_nil, NN_some, BIf_true, BIf_false, BIf_same, List.toList_toArray, Bool.not_true, Bool.not_false]
  refine BIf_pos (ba_eq (by decide)) (BIf_beqp rfl (BIf_beqp rfl ?_))
  refine (hs.own 1 rfl).rd1 (j := 0) rfl (v := .int .u64 5) rfl ?_
  simp only [DI_int', DB_bool, DS_string, DP_pointer, DSl_slice, DM_map, DA_agg, DTup_tuple, DCons_cons, DNil_nil, NN_some, BIf_true, BIf_false, BIf_same, List.toList_toArray, Bool.not_true, Bool.not_false]
  refine BIf_beqp rfl ?_
  refine hs.nw fun b2 H1 hs => ?_
  have hc : Cells H1 (some ⟨b2, 0, none⟩) (wordVals [258]) := Cells.row (hs.get 3 rfl) 0 1
  refine (FormP.Put_ok (some ⟨b2, 0, none⟩) 1 1 [258] rfl (by decide) H1 hc).mono ?_
  rintro v H2 ⟨b3, hb3, rfl, rfl⟩
  have hs := hs.new hb3 (.row (byteVals (form [258])) 5 (8 * 1))
  have hb := Cells.row (hs.get 4 rfl) 0 8
  have hf : form [258] = [2, 1, 0, 0, 0, 0, 0, 0] := by decide +kernel
  rw [hf] at hb hs
  simp only [DI_int', DB_bool, DS_string, DP_pointer, DSl_slice, DM_map, DA_agg, DTup_tuple, DCons_cons, DNil_nil, NN_some, BIf_true, BIf_false, BIf_same, List.toList_toArray, Bool.not_true, Bool.not_false]
  refine BsK_of (bs := [2, 1, 0, 0, 0, 0, 0, 0]) hb rfl ?_
  rw [show ((⟨[2, 1, 0, 0, 0, 0, 0, 0].toArray⟩ : ByteArray).toList == (⟨#[2, 1, 0, 0, 0, 0, 0, 0]⟩ : ByteArray).toList) = true from ba_eq rfl]
  refine ⟨rfl, ?_⟩
  exact hs.ow 0 rfl)

theorem own_cells1 {e : TypeId} {A : Option Addr} {n m : Nat} {xs : List Value} {H : Hp} (h : Own e 1 A n m xs H) : Cells H A xs := by
  obtain ⟨h1, ⟨rfl, rfl, rfl⟩ | ⟨b, mm, rfl, h4, _⟩⟩ := h
  · rw [List.length_eq_zero_iff.1 (by omega : xs.length = 0)]
    exact Cells.nil _ _
  · have := Cells.row h4 0 xs.length
    rwa [List.drop_zero, List.take_length] at this

theorem Word_no (A : Option Addr) (n m : Nat) (hn : n ≤ 9000000000000000000) (i : Int) (hi : ¬ (0 ≤ i ∧ i < (n / 8 : Nat))) (H : Hp) :
    HCalls Tryd.prog 41 #[.slice A n m, .int .i64 i] H (RetE (.tuple #[.int .u64 0, .int .i64 2]) H) := by
  apply W_codec_Word.ok
  unfold W_codec_Word
  refine HCalls.use (inside_ok A n m hn i H) ?_
  try simp only [DI_int', DB_bool, DS_string, DP_pointer, DSl_slice, DM_map, DA_agg, DTup_tuple, DCons_cons, DNil_nil, NN_some, BIf_true, BIf_false, BIf_same, List.toList_toArray, Bool.not_true, Bool.not_false]
  exact BIf_pos (by rw [decide_eq_false hi]; rfl) (RetE.mk _ _)
theorem Set_no (A : Option Addr) (n m : Nat) (hn : n ≤ 9000000000000000000) (i : Int) (hi : ¬ (0 ≤ i ∧ i < (n / 8 : Nat))) (w : Int) (H : Hp) :
    HCalls Tryd.prog 42 #[.slice A n m, .int .i64 i, .int .u64 w] H (RetE (.int .i64 2) H) := by
  apply W_codec_Set.ok
  unfold W_codec_Set
  refine HCalls.use (inside_ok A n m hn i H) ?_
  try simp only [DI_int', DB_bool, DS_string, DP_pointer, DSl_slice, DM_map, DA_agg, DTup_tuple, DCons_cons, DNil_nil, NN_some, BIf_true, BIf_false, BIf_same, List.toList_toArray, Bool.not_true, Bool.not_false]
  exact BIf_pos (by rw [decide_eq_false hi]; rfl) (RetE.mk _ _)
theorem Set_ok (b n m mm : Nat) (hnm : n ≤ m) (hn : n ≤ 9000000000000000000) (xs : List Value) (hx : xs.length = n) (e : TypeId) (j : Nat) (hj : 8 * j + 8 ≤ n) (w : UInt64) (H : Hp) (hb : H b = some (.row xs e mm)) :
    HCalls Tryd.prog 42 #[.slice (some ⟨b, 0, none⟩) n m, .int .i64 (j : Int), .int .u64 (w.toNat : Int)] H (RetE (.int .i64 0) (H.set b (.row (setAt xs (8 * j) (byteVals (formW w))) e mm))) := by
  apply W_codec_Set.ok
  unfold W_codec_Set
  refine HCalls.use (inside_ok (some ⟨b, 0, none⟩) n m hn (j : Int) H) ?_
  try simp only [DI_int', DB_bool, DS_string, DP_pointer, DSl_slice, DM_map, DA_agg, DTup_tuple, DCons_cons, DNil_nil, NN_some, BIf_true, BIf_false, BIf_same, List.toList_toArray, Bool.not_true, Bool.not_false]
  refine BIf_neg (by rw [decide_eq_true (by omega)]; rfl) ?_
  rw [i64w (x := 8 * (j : Int)) (by omega) (by omega)]
  refine slB_from (l := 8 * j) (by omega) (by omega) ?_
  rw [slA_row, if_neg (by omega)]
  refine HCalls.use (FormP.set_ok b (8 * j) _ _ mm xs e w H hb (by omega) (by omega)) ?_
  exact RetE.mk _ _

theorem slA_zero' (A : Option Addr) (m : Nat) : slA A m 0 1 = A := by
  unfold slA
  split
  · rfl
  · cases A with
    | none => rfl
    | some a => simp [Addr.add_zero]

theorem ba_app (a b : List UInt8) : (⟨a.toArray⟩ : ByteArray) ++ (⟨b.toArray⟩ : ByteArray) = ⟨(a ++ b).toArray⟩ := ByteArray.ext (by rw [ByteArray.data_append]; simp)

theorem CodecPlaces_ok (A : Option Addr) (n m : Nat) (hnm : n ≤ m) (bs : List UInt8) (hl : n = bs.length) (i : Int) (w : Int) (hw : 0 ≤ w ∧ w ≤ 18446744073709551615) (H : Hp) (hM : MaxL H) (hc : Cells H A (byteVals bs)) :
    HCalls Tryd.prog 9 #[.slice A n m, .int .i64 i, .int .u64 w] H (Ret (.bool true) H) := by
  apply W_abacistlaw04_CodecPlaces.ok
  unfold W_abacistlaw04_CodecPlaces
  refine HCalls.use (awake_ok H hM) ?_
  simp only [DI_int', DB_bool, DS_string, DP_pointer, DSl_slice, DM_map, DA_agg, DTup_tuple, DCons_cons, DNil_nil, NN_some, BIf_true, BIf_false, BIf_same, List.toList_toArray, Bool.not_true, Bool.not_false]
  by_cases h3 : n > 300
  · exact BIf_dpos (by omega) ⟨rfl, Hp.le_refl _⟩
  refine BIf_dneg (by omega) ?_
  refine (Sep.start H).nw fun b1 H1 hs => ?_
  have hs := hs.turn 1 rfl (B := Own 5 1 (some ⟨b1, 0, none⟩) 0 0 []) (fun H1 h => ⟨rfl, .inr ⟨b1, 0, rfl, h, by omega⟩⟩)
  refine AppK_cap ?_
  refine hs.app 1 (k := n) (ys := byteVals bs) rfl cell_u8 rfl (by omega) (by omega) rfl (src_of (hc.le (hs.ow 0 rfl)) (by rw [byteVals_length]; exact hl)) (by rw [byteVals_length]; omega) (by simp [byteVals, Value.oneCell']) (by omega) (by omega) fun A' m' H1 hs => ?_
  intro hcap
  have hm' : 0 + n ≤ m' := hcap _ _ _ rfl
  rw [Nat.zero_add] at hm' hs ⊢
  simp only [List.nil_append] at hs
  simp only [DI_int', DB_bool, DS_string, DP_pointer, DSl_slice, DM_map, DA_agg, DTup_tuple, DCons_cons, DNil_nil, NN_some, BIf_true, BIf_false, BIf_same, List.toList_toArray, Bool.not_true, Bool.not_false]
  have hle := hs.ow 0 rfl
  have hcn := own_cells1 (hs.own 1 rfl)
  rw [show Int.tdiv ((n : Nat) : Int) 8 = ((n / 8 : Nat) : Int) from rfl, i64n (by omega)]
  have heq : ((⟨bs.toArray⟩ : ByteArray).toList == (⟨bs.toArray⟩ : ByteArray).toList) = true := by simp
  rcases (Classical.em (0 ≤ i ∧ i < (n / 8 : Nat))).symm with hin | hin
  · refine HCalls.use (Word_no A' n m' (by omega) i hin H1) ?_
    simp only [DI_int', DB_bool, DS_string, DP_pointer, DSl_slice, DM_map, DA_agg, DTup_tuple, DCons_cons, DNil_nil, NN_some, BIf_true, BIf_false, BIf_same, List.toList_toArray, Bool.not_true, Bool.not_false]
    refine HCalls.use (Set_no A' n m' (by omega) i hin w H1) ?_
    simp only [DI_int', DB_bool, DS_string, DP_pointer, DSl_slice, DM_map, DA_agg, DTup_tuple, DCons_cons, DNil_nil, NN_some, BIf_true, BIf_false, BIf_same, List.toList_toArray, Bool.not_true, Bool.not_false]
    have fin : BIf ((2 : Int) == 2) (BIf ((2 : Int) == 2) (BIf ((0 : Int) == 0) (BsK H1 A' n fun s1 => BsK H1 A n fun s3 => Ret (Value.bool true) H (Value.bool (s1.toList == s3.toList)) H1)
        (Ret (Value.bool true) H (Value.bool false) H1)) (Ret (Value.bool true) H (Value.bool false) H1)) (Ret (Value.bool true) H (Value.bool false) H1) := by
      refine BIf_beqp rfl (BIf_beqp rfl (BIf_beqp rfl ?_))
      refine BsK_of hcn hl (BsK_of (hc.le hle) hl ?_)
      rw [heq]
      exact ⟨rfl, hle⟩
    by_cases h0 : i < 0
    · exact BIf_dpos h0 fin
    · exact BIf_dneg h0 ⟨by decide, trivial, BIf_dpos (by omega) fin⟩
  · obtain ⟨j, rfl⟩ := Int.eq_ofNat_of_zero_le hin.1
    obtain ⟨u, rfl⟩ : ∃ u : UInt64, w = (u.toNat : Int) := ⟨UInt64.ofNat w.toNat, by rw [UInt64.toNat_ofNat_of_lt' (by show w.toNat < 2 ^ 64; omega)]; omega⟩
    have hj : 8 * j + 8 ≤ n := by omega
    rcases hs.unown 1 rfl with ⟨_, h0, _⟩ | ⟨b, mm, rfl, hmm, hlx, hs⟩
    · omega
    simp only [List.cons_append, List.nil_append, List.set_cons_zero, List.set_cons_succ] at hs
    refine HCalls.use (Word_ok _ n m' hm' (by omega) bs hl j hj H1 hcn) ?_
    simp only [DI_int', DB_bool, DS_string, DP_pointer, DSl_slice, DM_map, DA_agg, DTup_tuple, DCons_cons, DNil_nil, NN_some, BIf_true, BIf_false, BIf_same, List.toList_toArray, Bool.not_true, Bool.not_false]
    refine HCalls.use (Set_ok b n m' mm hm' (by omega) _ (by omega) _ j hj u H1 (hs.get 1 rfl)) ?_
    have hs := hs.put 1 (.row (setAt (byteVals bs) (8 * j) (byteVals (formW u))) 5 mm) rfl
    simp only [List.cons_append, List.nil_append, List.set_cons_zero, List.set_cons_succ] at hs
    have h8 := formW_length u
    have hset : setAt (byteVals bs) (8 * j) (byteVals (formW u)) = byteVals (bs.take (8 * j) ++ formW u ++ bs.drop (8 * j + 8)) := by
      unfold setAt
      rw [byteVals_length, h8]
      simp [byteVals]
    rw [hset] at hs ⊢
    simp only [DI_int', DB_bool, DS_string, DP_pointer, DSl_slice, DM_map, DA_agg, DTup_tuple, DCons_cons, DNil_nil, NN_some, BIf_true, BIf_false, BIf_same, List.toList_toArray, Bool.not_true, Bool.not_false]
    generalize (H1.set b (AO.row (byteVals (bs.take (8 * j) ++ formW u ++ bs.drop (8 * j + 8))) 5 mm)) = H2 at hs ⊢
    have hlen : n = (bs.take (8 * j) ++ formW u ++ bs.drop (8 * j + 8)).length := by
      simp only [List.length_append, List.length_take, List.length_drop, h8]; omega
    have hcn : Cells H2 (some ⟨b, 0, none⟩) (byteVals (bs.take (8 * j) ++ formW u ++ bs.drop (8 * j + 8))) := by
      have := Cells.row (hs.get 1 rfl) 0 n
      rwa [List.drop_zero, List.take_of_length_le (by rw [byteVals_length]; omega)] at this
    have hle := hs.ow 0 rfl
    refine BIf_dneg (by omega) ⟨by decide, trivial, BIf_dneg (by omega) ?_⟩
    refine HCalls.use (Word_ok _ n m' hm' (by omega) _ hlen j hj H2 hcn) ?_
    have hw2 : wordN (bs.take (8 * j) ++ formW u ++ bs.drop (8 * j + 8)) (8 * j) = u.toNat := by
      unfold wordN
      rw [List.append_assoc, List.drop_left' (by rw [List.length_take]; omega), List.take_left' h8, leN_formW]
    rw [hw2]
    simp only [DI_int', DB_bool, DS_string, DP_pointer, DSl_slice, DM_map, DA_agg, DTup_tuple, DCons_cons, DNil_nil, NN_some, BIf_true, BIf_false, BIf_same, List.toList_toArray, Bool.not_true, Bool.not_false]
    refine BIf_beqp rfl (BIf_beqp rfl (BIf_beqp rfl ?_))
    refine BsK_of (hc.le hle) hl ?_
    rw [i64w (x := 8 * (j : Int)) (by omega) (by omega)]
    have ho : (8 * (j : Int)) = ((8 * j : Nat) : Int) := by omega
    rw [ho]
    refine QCall.use (rWord_ok bs (8 * j) (by omega) (by omega) H2) ?_
    simp only [DI_int', DB_bool, DS_string, DP_pointer, DSl_slice, DM_map, DA_agg, DTup_tuple, DCons_cons, DNil_nil, NN_some, BIf_true, BIf_false, BIf_same, List.toList_toArray, Bool.not_true, Bool.not_false]
    refine BIf_beqp rfl (BIf_beqp rfl ?_)
    refine BsK_of hcn hlen ?_
    refine slB_to (r := 8 * j) rfl (by omega) ?_
    rw [slA_zero']
    have hcl := hc.le hle
    have ht := hcl.take (8 * j)
    rw [show (byteVals bs).take (8 * j) = byteVals (bs.take (8 * j)) by simp [byteVals]] at ht
    refine BsK_of ht (by rw [List.length_take]; omega) ?_
    rw [i64w (x := ((8 * j : Nat) : Int) + 8) (by omega) (by omega)]
    refine slB_from (l := 8 * j + 8) (by omega) (by omega) ?_
    have hd := hcl.shift (m := m) (l := 8 * j + 8) (by rw [byteVals_length]; omega)
    rw [show (byteVals bs).drop (8 * j + 8) = byteVals (bs.drop (8 * j + 8)) by simp [byteVals]] at hd
    refine BsK_of hd (by rw [List.length_drop]; omega) ?_
    refine hs.nw fun b2 H3 hs => ?_
    have hcw : Cells H3 (some ⟨b2, 0, none⟩) (wordVals [u]) := Cells.row (hs.get 2 rfl) 0 1
    refine QCall.use (rPut_ok (some ⟨b2, 0, none⟩) 1 1 [u] rfl (by decide) H3 hcw) ?_
    have hf : form [u] = formW u := by simp [form]
    rw [hf]
    simp only [DI_int', DB_bool, DS_string, DP_pointer, DSl_slice, DM_map, DA_agg, DTup_tuple, DCons_cons, DNil_nil, NN_some, BIf_true, BIf_false, BIf_same, List.toList_toArray, Bool.not_true, Bool.not_false]
    rw [ba_app, ba_app]
    refine ⟨?_, ?_, ?_⟩
    · show (bs.take (8 * j)).toArray.size + (formW u).toArray.size ≤ _
      simp only [List.size_toArray, List.length_take, h8]; omega
    · show (bs.take (8 * j) ++ formW u).toArray.size + (bs.drop (8 * j + 8)).toArray.size ≤ _
      simp only [List.size_toArray, List.length_append, List.length_take, List.length_drop, h8]; omega
    rw [show ((⟨(bs.take (8 * j) ++ formW u ++ bs.drop (8 * j + 8)).toArray⟩ : ByteArray).toList == (⟨(bs.take (8 * j) ++ formW u ++ bs.drop (8 * j + 8)).toArray⟩ : ByteArray).toList) = true by simp]
    exact ⟨rfl, hs.ow 0 rfl⟩

end Go.Proofs.YtbnhfcdagoigkaaDoor.Cod

end
section
/-! CodI -/
/- codec: the text of any row, by the code and by the reference; a numeral and a row of a text, by the reference. -/
set_option maxRecDepth 100000
set_option linter.unusedSimpArgs false
set_option linter.unusedVariables false
set_option linter.unnecessarySimpa false
set_option linter.unusedSectionVars false
namespace Go.Proofs.YtbnhfcdagoigkaaDoor.Cod
open Go Go.Hw Go.Proofs.YtbnhfcdagoigkaaDoor.W Go.Proofs.YtbnhfcdagoigkaaDoor.Gol Go.Proofs.YtbnhfcdagoigkaaDoor.Gen

def textV (l : List Nat) : List UInt8 := joinW 32 (l.map Go.Lib.decDigits)

theorem joinW_snoc (c : UInt8) (p : List UInt8) : ∀ (ps : List (List UInt8)), ps ≠ [] → joinW c (ps ++ [p]) = joinW c ps ++ c :: p
  | [], h => absurd rfl h
  | [q], _ => rfl
  | q :: r :: t, _ => by
    have ih := joinW_snoc c p (r :: t) (by simp)
    show q ++ c :: joinW c (r :: t ++ [p]) = (q ++ c :: joinW c (r :: t)) ++ c :: p
    rw [ih]; simp
theorem tail_join (c : UInt8) : ∀ (q : List UInt8) (r : List (List UInt8)), q ++ Go.Lib.joinTail [c] r = joinW c (q :: r)
  | q, [] => by simp [Go.Lib.joinTail, joinW]
  | q, p :: r => by
    have ih := tail_join c p r
    show _ = q ++ c :: joinW c (p :: r)
    rw [← ih]
    simp [Go.Lib.joinTail]
theorem lib_join (c : UInt8) : ∀ ps : List (List UInt8), Go.Lib.join ps [c] = joinW c ps
  | [] => rfl
  | q :: r => by rw [Go.Lib.join_cons, tail_join]

theorem dd_len {x : Nat} (hx : x < 18446744073709551616) : (Go.Lib.decDigits x).length ≤ 20 := by
  rw [Go.Lib.decDigits_length]
  by_cases h0 : x = 0
  · subst h0; rw [Go.Lib.nDigits_small (by decide)]; decide
  · have := Go.Lib.numDigits_eq x (by omega) hx
    split at this <;> omega
theorem joinW_len (c : UInt8) : ∀ ps : List (List UInt8), (∀ p ∈ ps, p.length ≤ 20) → (joinW c ps).length ≤ 21 * ps.length
  | [], _ => Nat.le_refl _
  | [p], h => by have := h p (by simp); show p.length ≤ 21; omega
  | p :: q :: r, h => by
    have ih := joinW_len c (q :: r) fun x hx => h x (List.mem_cons_of_mem _ hx)
    have := h p (by simp)
    show (p ++ c :: joinW c (q :: r)).length ≤ _
    simp only [List.length_append, List.length_cons] at ih ⊢
    omega
theorem textV_len {l : List Nat} (h : ∀ x ∈ l, x < 18446744073709551616) : (textV l).length ≤ 21 * l.length := by
  have := joinW_len 32 (l.map Go.Lib.decDigits) (fun p hp => by
    obtain ⟨x, hx, rfl⟩ := List.mem_map.1 hp
    exact dd_len (h x hx))
  rwa [List.length_map] at this
theorem textV_next (l : List Nat) {j : Nat} (h : j < l.length) : textV (l.take (j + 1)) = if j = 0 then Go.Lib.decDigits l[j] else textV (l.take j) ++ 32 :: Go.Lib.decDigits l[j] := by
  unfold textV
  rw [List.take_succ_eq_append_getElem h, List.map_append]
  split
  · rename_i e; subst e
    rw [List.take_zero]; rfl
  · refine joinW_snoc _ _ _ ?_
    intro e
    have := congrArg List.length e
    rw [List.length_map, List.length_take, List.length_nil] at this
    omega

/-- strings.Join of nothing. -/
theorem Join_no (A : Option Addr) (m : Nat) (sep : ByteArray) (H : Hp) : HCalls Tryd.prog 78 #[.slice A 0 m, .string sep] H (RetE (.string ⟨#[]⟩) H) := fun w hw => by
  refine (Go.Proofs.Any.strings_Join_none Go.Proofs.YtbnhfcdagoigkaaDoor.Lib2.joinL joinX A m sep w).mono ?_
  rintro e w' ⟨rfl, rfl⟩
  exact ⟨_, H, rfl, ⟨rfl, rfl⟩, At.refl hw⟩

def ddS (l : List Nat) : List ByteArray := l.map fun x => ⟨(Go.Lib.decDigits x).toArray⟩

theorem Text_loop (A : Option Addr) (n m : Nat) (l : List Nat) (hn : n = l.length) (hl : n ≤ 100000) (hb : ∀ x ∈ l, x < 18446744073709551616) (H0 : Hp) (hP : P10 H0) (hc : Cells H0 A (natV l)) :
    ∀ (t j : Nat) (A2 : Option Addr) (m2 : Nat) (H : Hp), j + t = n → j ≤ m2 → Hw.Sep [own H0, Own 9 1 A2 j m2 ((ddS (l.take j)).map Value.string)] H →
      W_codec_Text.l3 (Ret (.string ⟨(textV l).toArray⟩) H0) (t + 1) A2 j m2 A n m (n : Int) (j : Int) H
  | 0, j, A2, m2, H, hj, hm2, hs => by
    unfold W_codec_Text.l3
    refine BIf_dneg (by omega) ?_
    obtain rfl : j = n := by omega
    rw [List.take_of_length_le (by omega)] at hs
    rcases hs.unown 1 rfl with ⟨_, h0, _⟩ | ⟨b, mm, rfl, hmm, hlx, hs⟩
    · subst h0
      refine HCalls.use (Join_no A2 m2 ⟨#[32]⟩ H) ?_
      simp only [DI_int', DB_bool, DS_string, DP_pointer, DSl_slice, DM_map, DA_agg, DTup_tuple, DCons_cons, DNil_nil, NN_some, BIf_true, BIf_false, BIf_same, List.toList_toArray, Bool.not_true, Bool.not_false]
      have : l = [] := List.length_eq_zero_iff.1 hn.symm
      subst this
      exact ⟨rfl, hs.ow 0 rfl⟩
    · have hb1 := hs.get 1 rfl
      have hjl := textV_len hb
      have e1 : (ddS l).map (·.data.toList) = l.map Go.Lib.decDigits := by
        unfold ddS
        rw [List.map_map]
        rfl
      have e2 : Go.Lib.join ((ddS l).map (·.data.toList)) (⟨#[32]⟩ : ByteArray).data.toList = textV l := by
        rw [e1]
        exact lib_join 32 _
      have hj := Join_hc (b := b) (m := m2) (mm := mm) (e := 9) (H := H) (ddS l) ⟨#[32]⟩ hb1 (by unfold ddS; rw [List.length_map]; omega) (by unfold ddS; rw [List.length_map]; omega) (by rw [e2]; omega)
      rw [e2, show (ddS l).length = j by unfold ddS; rw [List.length_map]; omega] at hj
      refine HCalls.use hj ?_
      simp only [DI_int', DB_bool, DS_string, DP_pointer, DSl_slice, DM_map, DA_agg, DTup_tuple, DCons_cons, DNil_nil, NN_some, BIf_true, BIf_false, BIf_same, List.toList_toArray, Bool.not_true, Bool.not_false]
      exact ⟨rfl, hs.ow 0 rfl⟩
  | t + 1, j, A2, m2, H, hj, hm2, hs => by
    unfold W_codec_Text.l3
    refine BIf_dpos (by omega) ?_
    have hlt : j < l.length := by omega
    have hcl := hc.le (hs.ow 0 rfl)
    refine hcl.read (i := j) (v := .int .u64 ((l[j] : Nat) : Int)) (by unfold natV; rw [List.getElem?_map, List.getElem?_eq_getElem hlt]; rfl) rfl (by simp [natV]; omega) ?_
    simp only [DI_int', DB_bool, DS_string, DP_pointer, DSl_slice, DM_map, DA_agg, DTup_tuple, DCons_cons, DNil_nil, NN_some, BIf_true, BIf_false, BIf_same, List.toList_toArray, Bool.not_true, Bool.not_false]
    refine HCalls.use (FormatU_ok l[j] (hb _ (List.getElem_mem hlt)) H (hP.le (hs.ow 0 rfl))) ?_
    simp only [DI_int', DB_bool, DS_string, DP_pointer, DSl_slice, DM_map, DA_agg, DTup_tuple, DCons_cons, DNil_nil, NN_some, BIf_true, BIf_false, BIf_same, List.toList_toArray, Bool.not_true, Bool.not_false]
    refine Nw_cap ?_
    refine hs.app1 1 rfl cell_str (by omega) rfl (by omega) (by omega) fun A' m' H1 hs hcap => ?_
    simp only [DI_int', DB_bool, DS_string, DP_pointer, DSl_slice, DM_map, DA_agg, DTup_tuple, DCons_cons, DNil_nil, NN_some, BIf_true, BIf_false, BIf_same, List.toList_toArray, Bool.not_true, Bool.not_false]
    rw [i64w (x := (j : Int) + 1) (by omega) (by omega)]
    refine Text_loop A n m l hn hl hb H0 hP hc t (j + 1) A' m' H1 (by omega) (hcap _ _ _ rfl) ?_
    have e : (ddS (l.take (j + 1))).map Value.string = (ddS (l.take j)).map Value.string ++ [.string ⟨(Go.Lib.decDigits l[j]).toArray⟩] := by
      unfold ddS
      rw [List.take_succ_eq_append_getElem hlt, List.map_append, List.map_append]
      rfl
    rw [e]
    exact hs

theorem Text_ok (A : Option Addr) (n m : Nat) (l : List Nat) (hn : n = l.length) (hl : n ≤ 100000) (hb : ∀ x ∈ l, x < 18446744073709551616) (H : Hp) (hP : P10 H) (hc : Cells H A (natV l)) :
    HCalls Tryd.prog 33 #[.slice A n m] H (RetE (.string ⟨(textV l).toArray⟩) H) := HCalls.ret (by
  apply W_codec_Text.ok
  unfold W_codec_Text
  exact ⟨n + 1, Text_loop A n m l hn hl hb H hP hc n 0 none 0 H (by omega) (Nat.le_refl _) (Sep.addNone (Sep.start H) 9 1)⟩)

theorem rDigits_loop (H0 : Hp) (v : Value) : ∀ (k x : Nat) (s : List UInt8) (H : Hp), x < 10 ^ (k + 1) → x < 18446744073709551616 → s.length + k ≤ 1000 → H0.le H → v = .string ⟨(Go.Lib.decDigits x ++ s).toArray⟩ →
    W_abacistref04_Digits.l2 (Ret v H0) (k + 1) (x : Int) ⟨s.toArray⟩ H := by
  intro k
  induction k with
  | zero =>
    intro x s H hx hx64 hs1 hle hv
    unfold W_abacistref04_Digits.l2
    refine ⟨by decide, rfl, ?_⟩
    refine (Sep.start H).nw fun b1 H1 hs => ?_
    have h10 : x < 10 := by simpa using hx
    have hb : IntKind.u8.wrap (IntKind.u64.wrap (48 + Int.tmod (x : Int) 10)) = ((UInt8.ofNat (48 + x % 10)).toNat : Int) := by
      rw [show Int.tmod (x : Int) 10 = ((x % 10 : Nat) : Int) from rfl, u64w (by omega) (by omega), IntKind.wrap_u8]
      simp only [UInt8.toNat_ofNat']; omega
    rw [hb] at hs
    refine BsK_of (bs := [UInt8.ofNat (48 + x % 10)]) (Cells.row (hs.get 1 rfl) 0 1) rfl ?_
    rw [ba_app]
    refine ⟨?_, by decide, rfl, ?_⟩
    · show [_].toArray.size + s.toArray.size ≤ _
      simp; omega
    rw [show Int.tdiv (x : Int) 10 = ((x / 10 : Nat) : Int) from rfl, u64n (by omega)]
    refine BIf_beqp (by omega) ⟨?_, Hp.le_trans hle (hs.ow 0 rfl)⟩
    rw [hv, Go.Lib.decDigits_one h10, Nat.mod_eq_of_lt h10]
  | succ k ih =>
    intro x s H hx hx64 hs1 hle hv
    unfold W_abacistref04_Digits.l2
    refine ⟨by decide, rfl, ?_⟩
    refine (Sep.start H).nw fun b1 H1 hs => ?_
    have hb : IntKind.u8.wrap (IntKind.u64.wrap (48 + Int.tmod (x : Int) 10)) = ((UInt8.ofNat (48 + x % 10)).toNat : Int) := by
      rw [show Int.tmod (x : Int) 10 = ((x % 10 : Nat) : Int) from rfl, u64w (by omega) (by omega), IntKind.wrap_u8]
      simp only [UInt8.toNat_ofNat']; omega
    rw [hb] at hs
    refine BsK_of (bs := [UInt8.ofNat (48 + x % 10)]) (Cells.row (hs.get 1 rfl) 0 1) rfl ?_
    rw [ba_app]
    refine ⟨?_, by decide, rfl, ?_⟩
    · show [_].toArray.size + s.toArray.size ≤ _
      simp; omega
    rw [show Int.tdiv (x : Int) 10 = ((x / 10 : Nat) : Int) from rfl, u64n (by omega)]
    have hle2 := Hp.le_trans hle (hs.ow 0 rfl)
    by_cases h10 : x < 10
    · refine BIf_beqp (by omega) ⟨?_, hle2⟩
      rw [hv, Go.Lib.decDigits_one h10, Nat.mod_eq_of_lt h10]
    · refine BIf_beqn (by omega) ?_
      refine ih (x / 10) ([UInt8.ofNat (48 + x % 10)] ++ s) H1 (by rw [Nat.pow_succ] at hx; omega) (by omega) (by simp; omega) hle2 ?_
      rw [hv]
      conv => lhs; rw [Go.Lib.decDigits, dif_neg h10]
      simp

theorem rDigits_ok (x : Nat) (hx : x < 18446744073709551616) (H : Hp) : HCalls Tryd.prog 82 #[.int .u64 (x : Int)] H (RetE (.string ⟨(Go.Lib.decDigits x).toArray⟩) H) := HCalls.ret (by
  apply W_abacistref04_Digits.ok
  unfold W_abacistref04_Digits
  refine ⟨20, rDigits_loop H _ 19 x [] H ?_ hx (by decide) (Hp.le_refl _) (by rw [List.append_nil])⟩
  have : (10 : Nat) ^ (19 + 1) = 100000000000000000000 := by decide
  omega)

theorem rText_loop (A : Option Addr) (n m : Nat) (l : List Nat) (hn : n = l.length) (hl : n ≤ 100000) (hb : ∀ x ∈ l, x < 18446744073709551616) (H : Hp) (hc : Cells H A (natV l)) :
    ∀ (t j : Nat), j + t = n → W_abacistref04_Text.l3 (RetE (.string ⟨(textV l).toArray⟩) H) (t + 1) A n m ⟨(textV (l.take j)).toArray⟩ (j : Int) H
  | 0, j, hj => by
    unfold W_abacistref04_Text.l3
    refine BIf_dneg (by omega) ?_
    rw [List.take_of_length_le (by omega)]
    exact RetE.mk _ _
  | t + 1, j, hj => by
    unfold W_abacistref04_Text.l3
    refine BIf_dpos (by omega) ?_
    have hlt : j < l.length := by omega
    have ih := rText_loop A n m l hn hl hb H hc t (j + 1) (by omega)
    have hx := hb _ (List.getElem_mem hlt)
    have hdl := dd_len hx
    have htl : (textV (l.take j)).length ≤ 21 * n := by
      have := textV_len (l := l.take j) fun x hx => hb x (List.mem_of_mem_take hx)
      rw [List.length_take] at this
      omega
    have hg : (natV l)[j]? = some (.int .u64 ((l[j] : Nat) : Int)) := by unfold natV; rw [List.getElem?_map, List.getElem?_eq_getElem hlt]; rfl
    rw [textV_next l hlt] at ih
    by_cases h0 : j = 0
    · subst h0
      refine BIf_dneg (by decide) ?_
      refine hc.read (i := 0) hg rfl (by simp [natV]; omega) ?_
      simp only [DI_int', DB_bool, DS_string, DP_pointer, DSl_slice, DM_map, DA_agg, DTup_tuple, DCons_cons, DNil_nil, NN_some, BIf_true, BIf_false, BIf_same, List.toList_toArray, Bool.not_true, Bool.not_false]
      refine HCalls.use (rDigits_ok l[0] hx H) ?_
      simp only [DI_int', DB_bool, DS_string, DP_pointer, DSl_slice, DM_map, DA_agg, DTup_tuple, DCons_cons, DNil_nil, NN_some, BIf_true, BIf_false, BIf_same, List.toList_toArray, Bool.not_true, Bool.not_false]
      rw [if_pos rfl] at ih
      rw [ba_app]
      refine ⟨?_, ?_⟩
      · show (textV (l.take 0)).toArray.size + (Go.Lib.decDigits l[0]).toArray.size ≤ _
        simp only [List.size_toArray]; omega
      · exact ih
    · refine BIf_dpos (by omega) ?_
      have h32 : (⟨#[32]⟩ : ByteArray) = ⟨[32].toArray⟩ := rfl
      rw [h32, ba_app]
      refine ⟨?_, ?_⟩
      · show (textV (l.take j)).toArray.size + 1 ≤ _
        simp only [List.size_toArray]; omega
      refine hc.read (i := j) hg rfl (by simp [natV]; omega) ?_
      simp only [DI_int', DB_bool, DS_string, DP_pointer, DSl_slice, DM_map, DA_agg, DTup_tuple, DCons_cons, DNil_nil, NN_some, BIf_true, BIf_false, BIf_same, List.toList_toArray, Bool.not_true, Bool.not_false]
      refine HCalls.use (rDigits_ok l[j] hx H) ?_
      simp only [DI_int', DB_bool, DS_string, DP_pointer, DSl_slice, DM_map, DA_agg, DTup_tuple, DCons_cons, DNil_nil, NN_some, BIf_true, BIf_false, BIf_same, List.toList_toArray, Bool.not_true, Bool.not_false]
      rw [ba_app]
      refine ⟨?_, ?_⟩
      · show (textV (l.take j) ++ [32]).toArray.size + (Go.Lib.decDigits l[j]).toArray.size ≤ _
        simp only [List.size_toArray, List.length_append, List.length_singleton]; omega
      · rw [if_neg h0] at ih
        rw [i64w (x := (j : Int) + 1) (by omega) (by omega), List.append_assoc]
        exact ih

theorem rText_ok (A : Option Addr) (n m : Nat) (l : List Nat) (hn : n = l.length) (hl : n ≤ 100000) (hb : ∀ x ∈ l, x < 18446744073709551616) (H : Hp) (hc : Cells H A (natV l)) :
    HCalls Tryd.prog 36 #[.slice A n m] H (RetE (.string ⟨(textV l).toArray⟩) H) := by
  apply W_abacistref04_Text.ok
  unfold W_abacistref04_Text
  exact ⟨n + 1, rText_loop A n m l hn hl hb H hc n 0 (by omega)⟩

end Go.Proofs.YtbnhfcdagoigkaaDoor.Cod

end
section
/-! CodJ -/
/- codec: a numeral, and the row of a text, by the reference. -/
set_option maxRecDepth 100000
set_option linter.unusedSimpArgs false
set_option linter.unusedVariables false
set_option linter.unnecessarySimpa false
set_option linter.unusedSectionVars false
namespace Go.Proofs.YtbnhfcdagoigkaaDoor.Cod
open Go Go.Hw Go.Proofs.YtbnhfcdagoigkaaDoor.W Go.Proofs.YtbnhfcdagoigkaaDoor.Gol Go.Proofs.YtbnhfcdagoigkaaDoor.Gen

def numT (r : Nat × Nat) : Value := .tuple #[.int .u64 (r.1 : Int), .int .i64 (r.2 : Int)]

theorem rnum_val (l : List UInt8) (hd : ∀ c ∈ l, isDb c = true) (hl : l.length ≤ 20) (H : Hp) (r : Nat × Nat) (hr : r = if numV l < 18446744069414584321 then (numV l, 0) else (0, 3)) :
    ∀ (t j : Nat), j + t = l.length → numV (l.take j) < 18446744069414584321 → W_abacistref04_numeral.l12 (RetE (numT r) H) (t + 1) ⟨⟨l⟩⟩ ((numV (l.take j) : Nat) : Int) (j : Int) H
  | 0, j, hj, hlt => by
    unfold W_abacistref04_numeral.l12
    have hsz : (⟨⟨l⟩⟩ : ByteArray).size = l.length := rfl
    refine BIf_dneg (by rw [hsz]; omega) ?_
    rw [List.take_of_length_le (by omega)] at hlt ⊢
    rw [hr, if_pos hlt]
    exact RetE.mk _ _
  | t + 1, j, hj, hlt => by
    unfold W_abacistref04_numeral.l12
    have hsz : (⟨⟨l⟩⟩ : ByteArray).size = l.length := rfl
    have hjl : j < l.length := by omega
    refine BIf_dpos (by rw [hsz]; omega) ⟨by omega, ?_⟩
    rw [Int.toNat_natCast]
    refine ixB_of (i := j) (h := by rw [hsz]; exact hjl) ?_
    have hget : ((⟨⟨l⟩⟩ : ByteArray)[j]'(by rw [hsz]; exact hjl)) = l[j] := rfl
    rw [hget]
    have hdj := dig_lt (hd _ (List.getElem_mem hjl))
    have hnx := numV_next l j hjl
    have hup := numV_up l (j + 1)
    have ih := rnum_val l hd hl H r hr t (j + 1) (by omega)
    have e1 : IntKind.u64.wrap (IntKind.u64.wrap (l[j].toNat : Int) - 48) = ((l[j].toNat - 48 : Nat) : Int) := by
      rw [u64n (by omega), u64w (by omega) (by omega)]; omega
    rw [e1]
    have e2 : IntKind.u64.wrap ((18446744069414584320 : Int) - ((l[j].toNat - 48 : Nat) : Int)) = ((18446744069414584320 - (l[j].toNat - 48) : Nat) : Int) := by
      rw [u64w (by omega) (by omega)]; omega
    rw [e2, show Int.tdiv ((18446744069414584320 - (l[j].toNat - 48) : Nat) : Int) 10 = ((((18446744069414584320 - (l[j].toNat - 48)) / 10 : Nat)) : Int) from rfl, u64n (by omega)]
    refine ⟨by decide, rfl, ?_⟩
    rw [hnx] at ih hup
    have hd9 : l[j].toNat - 48 ≤ 9 := by omega
    generalize l[j].toNat - 48 = d at *
    generalize numV (l.take j) = N at *
    by_cases hg : N > (18446744069414584320 - d) / 10
    · refine BIf_dpos (by omega) ?_
      rw [hr, if_neg (by omega)]
      exact RetE.mk _ _
    · refine BIf_dneg (by omega) ?_
      rw [u64w (x := 10 * (N : Int)) (by omega) (by omega), u64w (by omega) (by omega), i64w (x := (j : Int) + 1) (by omega) (by omega), show 10 * (N : Int) + (d : Int) = ((10 * N + d : Nat) : Int) by omega]
      exact ih (by omega)

theorem rnum_dig (l : List UInt8) (h0 : l ≠ []) (hz : ¬ (l.head? = some 48 ∧ 1 < l.length)) (hl : l.length ≤ 1000000) (H : Hp) :
    ∀ (t j : Nat), j + t = l.length → (∀ k (hk : k < j) (h : k < l.length), isDb l[k] = true) → W_abacistref04_numeral.l4 (RetE (numT (numE l)) H) (t + 1) ⟨⟨l⟩⟩ (j : Int) H
  | 0, j, hj, hall => by
    unfold W_abacistref04_numeral.l4
    have hsz : (⟨⟨l⟩⟩ : ByteArray).size = l.length := rfl
    refine BIf_dneg (by rw [hsz]; omega) ?_
    have hd : ∀ c ∈ l, isDb c = true := fun c hc => by
      obtain ⟨k, hk, rfl⟩ := List.getElem_of_mem hc
      exact hall k (by omega) hk
    rw [hsz]
    by_cases h20 : 20 < l.length
    · refine BIf_dpos (by omega) ?_
      have : numE l = (0, 14) := by unfold numE; rw [if_neg h0, if_neg (fun h => h hd), if_neg hz, if_pos h20]
      rw [this]
      exact RetE.mk _ _
    · refine BIf_dneg (by omega) ⟨l.length + 1, ?_⟩
      have hr : numE l = if numV l < 18446744069414584321 then (numV l, 0) else (0, 3) := by
        unfold numE
        rw [if_neg h0, if_neg (fun h => h hd), if_neg hz, if_neg h20]
      exact rnum_val l hd (by omega) H _ hr l.length 0 (by omega) (by rw [List.take_zero]; decide)
  | t + 1, j, hj, hall => by
    unfold W_abacistref04_numeral.l4
    have hsz : (⟨⟨l⟩⟩ : ByteArray).size = l.length := rfl
    have hjl : j < l.length := by omega
    refine BIf_dpos (by rw [hsz]; omega) ⟨by omega, ?_⟩
    rw [Int.toNat_natCast]
    refine ixB_of (i := j) (h := by rw [hsz]; exact hjl) ?_
    have hget : ((⟨⟨l⟩⟩ : ByteArray)[j]'(by rw [hsz]; exact hjl)) = l[j] := rfl
    rw [hget]
    have bad : isDb l[j] = false → RetE (numT (numE l)) H (.tuple #[.int .u64 0, .int .i64 17]) H := fun hb => by
      have : numE l = (0, 17) := by
        unfold numE
        rw [if_neg h0, if_pos (fun h => by rw [h _ (List.getElem_mem hjl)] at hb; cases hb)]
      rw [this]
      exact RetE.mk _ _
    by_cases h1 : l[j].toNat < 48
    · exact BIf_dpos (by omega) (bad (decide_eq_false (by omega)))
    refine BIf_dneg (by omega) ⟨by omega, ?_⟩
    refine ixB_of (i := j) (h := by rw [hsz]; exact hjl) ?_
    rw [hget]
    by_cases h2 : l[j].toNat > 57
    · exact BIf_dpos (by omega) (bad (decide_eq_false (by omega)))
    refine BIf_dneg (by omega) ?_
    rw [i64w (x := (j : Int) + 1) (by omega) (by omega)]
    refine rnum_dig l h0 hz hl H t (j + 1) (by omega) fun k hk h => ?_
    by_cases e : k = j
    · subst e; exact decide_eq_true (by omega)
    · exact hall k (by omega) h

theorem rnumeral_ok (l : List UInt8) (hl : l.length ≤ 1000000) (H : Hp) : HCalls Tryd.prog 81 #[.string ⟨⟨l⟩⟩] H (RetE (numT (numE l)) H) := by
  apply W_abacistref04_numeral.ok
  unfold W_abacistref04_numeral
  by_cases h0 : l = []
  · subst h0
    exact BIf_pos (ba_eq rfl) (RetE.mk _ _)
  refine BIf_neg (ba_ne h0) ⟨by decide, ?_⟩
  obtain ⟨x, r, rfl⟩ : ∃ x r, l = x :: r := by
    cases l with
    | nil => exact absurd rfl h0
    | cons x r => exact ⟨x, r, rfl⟩
  have hsz : (⟨⟨x :: r⟩⟩ : ByteArray).size = r.length + 1 := rfl
  refine ixB_of (i := 0) (h := by rw [hsz]; omega) ?_
  have hx0 : ((⟨⟨x :: r⟩⟩ : ByteArray)[0]'(by rw [hsz]; omega)) = x := rfl
  rw [hx0, hsz]
  have hj : ¬ (x = 48 ∧ 1 < r.length + 1) → W_abacistref04_numeral.j3 (RetE (numT (numE (x :: r))) H) ⟨⟨x :: r⟩⟩ H := fun hz => by
    unfold W_abacistref04_numeral.j3
    refine ⟨(x :: r).length + 1, rnum_dig (x :: r) h0 ?_ hl H (x :: r).length 0 (by omega) fun k hk => absurd hk (by omega)⟩
    simpa using hz
  by_cases hx : x = 48
  · refine BIf_beqp (by subst hx; rfl) ?_
    by_cases h1 : 1 < r.length + 1
    · refine BIf_dpos (by omega) ?_
      have : numE (x :: r) = (0, 17) := by
        unfold numE
        rw [if_neg h0]
        split
        · rfl
        · rw [if_pos ⟨by rw [hx]; rfl, by simpa using h1⟩]
      rw [this]
      exact RetE.mk _ _
    · exact BIf_dneg (by omega) (hj (fun h => h1 h.2))
  · refine BIf_beqn (fun e => hx ?_) (hj (fun h => hx h.1))
    apply UInt8.toNat_inj.1
    show x.toNat = 48
    omega

theorem spl_none (c : UInt8) : ∀ l, ∀ p ∈ spl c l, c ∉ p
  | [], p, hp => by simp [spl] at hp; simp [hp]
  | x :: l, p, hp => by
    have ih := spl_none c l
    by_cases hx : x = c
    · subst hx
      rw [spl_c] at hp
      rcases List.mem_cons.1 hp with rfl | hp
      · simp
      · exact ih p hp
    · rw [spl_o hx] at hp
      split at hp
      · rename_i e; exact absurd e (spl_ne c l)
      · rename_i q ps e
        rw [e] at ih
        rcases List.mem_cons.1 hp with rfl | hp
        · intro h
          rcases List.mem_cons.1 h with h | h
          · exact hx h.symm
          · exact ih q (by simp) h
        · exact ih p (List.mem_cons_of_mem _ hp)

/-- Going through a piece. -/
theorem scan (l : List UInt8) (hl : l.length ≤ 1000000) (K : Value → Hp → Prop) (a : Nat) (A : Option Addr) (n m : Nat) (H : Hp) (rest : List UInt8) (hrest : rest = [] ∨ ∃ r, rest = 32 :: r) :
    ∀ (q : List UInt8) (i : Nat), (32 : UInt8) ∉ q → i ≤ l.length → l.drop i = q ++ rest →
      W_abacistref04_Read.j9 K (W_abacistref04_Read.l6 K (l.length + 1 - (i + q.length))) ⟨⟨l⟩⟩ A n m (a : Int) ((i + q.length : Nat) : Int) H →
      W_abacistref04_Read.l6 K (l.length + 2 - i) ⟨⟨l⟩⟩ A n m (a : Int) (i : Int) H
  | [], i, hq, hi, hd, hj => by
    rw [show l.length + 2 - i = (l.length + 1 - i) + 1 by omega]
    unfold W_abacistref04_Read.l6
    have hsz : (⟨⟨l⟩⟩ : ByteArray).size = l.length := rfl
    rw [hsz]
    refine BIf_dpos (by omega) ?_
    rcases hrest with rfl | ⟨r, rfl⟩
    · have : i = l.length := by
        have := congrArg List.length hd
        simp at this
        omega
      exact BIf_dneg (by omega) hj
    · have hlt : i < l.length := by
        have := congrArg List.length hd
        simp at this
        omega
      refine BIf_dpos (by omega) ⟨by omega, ?_⟩
      rw [Int.toNat_natCast]
      refine ixB_of (i := i) (h := by rw [hsz]; exact hlt) ?_
      have hget : ((⟨⟨l⟩⟩ : ByteArray)[i]'(by rw [hsz]; exact hlt)) = l[i] := rfl
      rw [List.drop_eq_getElem_cons hlt] at hd
      rw [hget, (List.cons.inj hd).1]
      exact BIf_bnen rfl hj
  | x :: q, i, hq, hi, hd, hj => by
    rw [show l.length + 2 - i = (l.length + 1 - i) + 1 by omega]
    unfold W_abacistref04_Read.l6
    have hsz : (⟨⟨l⟩⟩ : ByteArray).size = l.length := rfl
    rw [hsz]
    have hlt : i < l.length := by
      have := congrArg List.length hd
      simp at this
      omega
    refine BIf_dpos (by omega) (BIf_dpos (by omega) ⟨by omega, ?_⟩)
    rw [Int.toNat_natCast]
    refine ixB_of (i := i) (h := by rw [hsz]; exact hlt) ?_
    have hget : ((⟨⟨l⟩⟩ : ByteArray)[i]'(by rw [hsz]; exact hlt)) = l[i] := rfl
    rw [List.drop_eq_getElem_cons hlt] at hd
    have hx := (List.cons.inj hd).1
    rw [hget, hx]
    refine BIf_bnep (fun e => hq ?_) ?_
    · have : x = 32 := UInt8.toNat_inj.1 (by show x.toNat = 32; omega)
      simp [this]
    · rw [i64w (x := (i : Int) + 1) (by omega) (by omega), show l.length + 1 - i = l.length + 2 - (i + 1) by omega]
      refine scan l hl K a A n m H rest hrest q (i + 1) (fun h => hq (List.mem_cons_of_mem _ h)) (by omega) (List.cons.inj hd).2 ?_
      rw [show i + 1 + q.length = i + (x :: q).length by simp; omega]
      exact hj

theorem rRead_loop (l : List UInt8) (hl : l.length ≤ 1000000) (H0 : Hp) (r : List Nat × Nat × Nat) :
    ∀ (ps : List (List UInt8)) (a : Nat) (acc : List Nat) (A : Option Addr) (m : Nat) (H : Hp), ps ≠ [] → (∀ p ∈ ps, (32 : UInt8) ∉ p) → a ≤ l.length → l.drop a = joinW 32 ps → acc.length ≤ a → r = readP a acc ps →
      Hw.Sep [own H0, Own 22 1 A acc.length m (natV acc)] H →
      W_abacistref04_Read.l6 (fun v H' => ∃ M, RowQ r v M ∧ Hw.Sep (own H0 :: M) H') (l.length + 2 - a) ⟨⟨l⟩⟩ A acc.length m (a : Int) (a : Int) H
  | [], a, acc, A, m, H, h, _, _, _, _, _, _ => absurd rfl h
  | p :: ps, a, acc, A, m, H, _, hp, ha, hd, hacc, hr, hs => by
    obtain ⟨rest, hrest, hd2⟩ : ∃ rest, (rest = [] ∨ ∃ r, rest = 32 :: r) ∧ l.drop a = p ++ rest := by
      cases ps with
      | nil => exact ⟨[], .inl rfl, by rw [hd, List.append_nil]; rfl⟩
      | cons q t => exact ⟨32 :: joinW 32 (q :: t), .inr ⟨_, rfl⟩, hd⟩
    refine scan l hl _ a A acc.length m H rest hrest p a (hp p (by simp)) ha hd2 ?_
    have hlen : a + p.length + rest.length = l.length := by
      have := congrArg List.length hd2
      simp at this
      omega
    unfold W_abacistref04_Read.j9
    have hsz : (⟨⟨l⟩⟩ : ByteArray).size = l.length := rfl
    rw [hsz]
    refine ⟨by omega, by omega, by omega, by omega, ?_⟩
    rw [Int.toNat_natCast, Int.toNat_natCast]
    simp only []
    rw [extr]
    have hex : (l.take (a + p.length)).drop a = p := by
      rw [List.drop_take, hd2, show a + p.length - a = p.length by omega, List.take_left]
    rw [hex]
    refine HCalls.use (rnumeral_ok p (by omega) H) ?_
    unfold numT
    simp only [DI_int', DB_bool, DS_string, DP_pointer, DSl_slice, DM_map, DA_agg, DTup_tuple, DCons_cons, DNil_nil, NN_some, BIf_true, BIf_false, BIf_same, List.toList_toArray, Bool.not_true, Bool.not_false]
    unfold readP at hr
    by_cases he : (numE p).2 ≠ 0
    · rw [if_pos he] at hr
      refine BIf_bnep (by omega) ?_
      subst hr
      have h2 := Sep.addNone hs 22 1
      exact ⟨_, ⟨none, 0, 0, rfl, rfl, rfl⟩, h2.re [0, 2] rfl⟩
    · rw [if_neg he] at hr
      refine BIf_bnen (by omega) ?_
      refine hs.app1 1 rfl cell_u64 (by omega) rfl (by omega) (by omega) fun A' m' H1 hs => ?_
      simp only [DI_int', DB_bool, DS_string, DP_pointer, DSl_slice, DM_map, DA_agg, DTup_tuple, DCons_cons, DNil_nil, NN_some, BIf_true, BIf_false, BIf_same, List.toList_toArray, Bool.not_true, Bool.not_false]
      rw [i64w (by omega) (by omega)]
      have e1 : natV acc ++ [Value.int .u64 ((numE p).1 : Int)] = natV (acc ++ [(numE p).1]) := by simp [natV]
      rw [e1] at hs
      have hs : Hw.Sep [own H0, Own 22 1 A' (acc ++ [(numE p).1]).length m' (natV (acc ++ [(numE p).1]))] H1 := by
        rw [List.length_append]; exact hs
      have hal : acc.length + 1 = (acc ++ [(numE p).1]).length := by simp
      rw [hal]
      cases ps with
      | nil =>
        have hr0 : rest = [] := by
          have h2 := hd2.symm.trans hd
          have : p ++ rest = p := h2
          simpa using this
        subst hr0
        have e3 : a + p.length = l.length := by simpa using hlen
        rw [show l.length + 1 - (a + p.length) = 0 + 1 by omega]
        unfold W_abacistref04_Read.l6
        rw [hsz]
        refine BIf_dneg (by omega) ?_
        unfold readP at hr
        subst hr
        exact ⟨_, ⟨A', _, m', rfl, rfl, rfl⟩, hs⟩
      | cons q t =>
        have h32 : rest = 32 :: joinW 32 (q :: t) := by
          have h2 := hd2.symm.trans hd
          exact List.append_cancel_left (show p ++ rest = p ++ 32 :: joinW 32 (q :: t) from h2)
        have hd3 : l.drop (a + (p.length + 1)) = joinW 32 (q :: t) := by
          rw [← List.drop_drop, hd2, h32, ← List.drop_drop, List.drop_left]
          rfl
        have hr1 : rest.length = (joinW 32 (q :: t)).length + 1 := by rw [h32]; rfl
        have ih := rRead_loop l hl H0 r (q :: t) (a + (p.length + 1)) (acc ++ [(numE p).1]) A' m' H1 (by simp) (fun x hx => hp x (List.mem_cons_of_mem _ hx)) (by omega) hd3 (by simp; omega) hr hs
        rw [show l.length + 1 - (a + p.length) = l.length + 2 - (a + (p.length + 1)) by omega, show ((a + p.length : Nat) : Int) + 1 = ((a + (p.length + 1) : Nat) : Int) by omega]
        exact ih

theorem rRead_ok (l : List UInt8) (hl : l.length ≤ 1000000) (H : Hp) :
    HCalls Tryd.prog 35 #[.string ⟨⟨l⟩⟩] H fun v H' => ∃ M, RowQ (readV l) v M ∧ Hw.Sep (own H :: M) H' := by
  apply W_abacistref04_Read.ok
  unfold W_abacistref04_Read
  by_cases h0 : l = []
  · subst h0
    refine BIf_pos (ba_eq rfl) ?_
    exact ⟨_, ⟨none, 0, 0, rfl, rfl, rfl⟩, Sep.addNone (Sep.start H) 22 1⟩
  refine BIf_neg (ba_ne h0) ⟨l.length + 2, ?_⟩
  have hsp : ∀ p ∈ spl 32 l, (32 : UInt8) ∉ p := spl_none 32 l
  have := rRead_loop l hl H (readV l) (spl 32 l) 0 [] none 0 H (spl_ne 32 l) hsp (Nat.zero_le _) (by rw [joinW_spl]; rfl) (Nat.le_refl _) (by unfold readV; rw [if_neg h0]) (Sep.addNone (Sep.start H) 22 1)
  exact this

end Go.Proofs.YtbnhfcdagoigkaaDoor.Cod

end
section
/-! CodF -/
/- codec: are all words canonical, and which is the first that is not; the row of a form, by the code and by the reference. -/
set_option maxRecDepth 100000
set_option linter.unusedSimpArgs false
set_option linter.unusedVariables false
set_option linter.unnecessarySimpa false
set_option linter.unusedSectionVars false
namespace Go.Proofs.YtbnhfcdagoigkaaDoor.Cod
open Go Go.Hw Go.Proofs.YtbnhfcdagoigkaaDoor.W Go.Proofs.YtbnhfcdagoigkaaDoor.Gol Go.Proofs.YtbnhfcdagoigkaaDoor.Gen Go.Form Go.Proofs.YtbnhfcdagoigkaaDoor.FormP

/-- The place of the first word that is not canonical. -/
def fb (xs : List Nat) : Nat := xs.findIdx fun x => decide (18446744069414584321 ≤ x)
theorem fb_all {xs : List Nat} : fb xs = xs.length ↔ ∀ x ∈ xs, x < 18446744069414584321 := by
  unfold fb
  rw [List.findIdx_eq_length]
  exact ⟨fun h x hx => by have := of_decide_eq_false (h x hx); omega, fun h x hx => decide_eq_false (by have := h x hx; omega)⟩
theorem fb_le (xs : List Nat) : fb xs ≤ xs.length := List.findIdx_le_length
theorem fb_at {xs : List Nat} {j : Nat} (h : j < xs.length) (h1 : ¬ xs[j] < 18446744069414584321) (h2 : ∀ k (hk : k < j), xs[k] < 18446744069414584321) : fb xs = j := by
  unfold fb
  rw [List.findIdx_eq h]
  exact ⟨decide_eq_true (by omega), fun k hk => decide_eq_false (by have := h2 k hk; omega)⟩
theorem fb_get {xs : List Nat} (h : fb xs < xs.length) : 18446744069414584321 ≤ xs[fb xs] := by
  have := List.findIdx_getElem (w := h)
  exact of_decide_eq_true this

/-- What Check tells. -/
def chkI (xs : List Nat) : Nat := if fb xs < xs.length then fb xs else 0

theorem Index2 (H : Hp) (A : Option Addr) (n m : Nat) (xs : List Nat) (hn : n = xs.length) (hl : n ≤ 1000000000) (hc : Cells H A (natV xs)) :
    ∀ (t j : Nat), j + t = n → (∀ k (hk : k < j) (h : k < xs.length), xs[k] < 18446744069414584321) →
      W_slices_IndexFunc_uint64_uint64.l2 (RetE (.int .i64 (if fb xs < xs.length then (fb xs : Int) else -1)) H) (t + 1) A n m 84 #[] #[] (n : Int) (j : Int) H
  | 0, j, hj, hall => by
    unfold W_slices_IndexFunc_uint64_uint64.l2
    have : fb xs = xs.length := fb_all.2 fun x hx => by
      obtain ⟨k, hk, rfl⟩ := List.getElem_of_mem hx
      exact hall k (by omega) hk
    rw [if_neg (by omega)]
    exact BIf_dneg (by omega) (RetE.mk _ _)
  | t + 1, j, hj, hall => by
    unfold W_slices_IndexFunc_uint64_uint64.l2
    refine BIf_dpos (by omega) ?_
    have hlt : j < xs.length := by omega
    have hg2 : (natV xs)[j]? = some (.int .u64 ((xs[j] : Nat) : Int)) := by unfold natV; rw [List.getElem?_map, List.getElem?_eq_getElem hlt]; rfl
    refine hc.read hg2 rfl (by unfold natV; rw [List.length_map]; omega) ?_
    simp only [DI_int', DB_bool, DS_string, DP_pointer, DSl_slice, DM_map, DA_agg, DTup_tuple, DCons_cons, DNil_nil, NN_some, BIf_true, BIf_false, BIf_same, List.toList_toArray, Bool.not_true, Bool.not_false]
    refine BIf_pos (by kernel_rfl) ?_
    have hv : HCalls Tryd.prog 84 #[.int .u64 ((xs[j] : Nat) : Int)] H (RetE (.bool (!(decide (xs[j] < 18446744069414584321)))) H) := by
      apply W_codec_Check_1.ok
      unfold W_codec_Check_1
      refine HCalls.use (gGood_ok _ H) ?_
      simp only [DI_int', DB_bool, DS_string, DP_pointer, DSl_slice, DM_map, DA_agg, DTup_tuple, DCons_cons, DNil_nil, NN_some, BIf_true, BIf_false, BIf_same, List.toList_toArray, Bool.not_true, Bool.not_false]
      exact RetE.mk _ _
    refine HCalls.use hv ?_
    have hr : resTypes Tryd.prog 84 = [4] := by kernel_rfl
    rw [hr]
    have hdt : ∀ (b : Bool) (K : Value → Prop), K (.bool b) → DR Tryd.prog [4] (.bool b) K := fun b K k => by
      show DT Tryd.prog 4 (.bool b) K
      unfold DT
      rw [show Tryd.prog.underlying 4 = some .bool by kernel_rfl]
      exact k
    refine hdt _ _ ?_
    simp only [DI_int', DB_bool, DS_string, DP_pointer, DSl_slice, DM_map, DA_agg, DTup_tuple, DCons_cons, DNil_nil, NN_some, BIf_true, BIf_false, BIf_same, List.toList_toArray, Bool.not_true, Bool.not_false]
    have ih := Index2 H A n m xs hn hl hc t (j + 1) (by omega)
    have hfb := fun h1 => fb_at (xs := xs) hlt h1 fun k hk => hall k hk (by omega)
    have hall2 : ∀ (hx : xs[j] < 18446744069414584321), ∀ k (hk : k < j + 1) (h : k < xs.length), xs[k] < 18446744069414584321 := fun hx k hk h => by
      by_cases e : k = j
      · subst e; exact hx
      · exact hall k (by omega) h
    generalize xs[j] = z at *
    refine BIf_nd (fun hx => ?_) (fun hx => ?_)
    · rw [i64w (x := (j : Int) + 1) (by omega) (by omega)]
      exact ih (hall2 hx)
    · have := hfb hx
      rw [if_pos (by omega), this]
      exact RetE.mk _ _

theorem Check2_ok (A : Option Addr) (n m : Nat) (xs : List Nat) (hn : n = xs.length) (hl : n ≤ 1000000000) (H : Hp) (hc : Cells H A (natV xs)) :
    HCalls Tryd.prog 37 #[.slice A n m] H (RetE (.tuple #[.int .i64 (chkI xs : Int), .bool (decide (xs.length ≤ fb xs))]) H) := by
  apply W_codec_Check.ok
  unfold W_codec_Check
  have hI : HCalls Tryd.prog 83 #[.slice A n m, .func (.func 84) #[] #[]] H (RetE (.int .i64 (if fb xs < xs.length then (fb xs : Int) else -1)) H) := by
    apply W_slices_IndexFunc_uint64_uint64.ok
    unfold W_slices_IndexFunc_uint64_uint64
    exact ⟨n + 1, Index2 H A n m xs hn hl hc n 0 (by omega) fun k hk => absurd hk (by omega)⟩
  refine HCalls.use hI ?_
  simp only [DI_int', DB_bool, DS_string, DP_pointer, DSl_slice, DM_map, DA_agg, DTup_tuple, DCons_cons, DNil_nil, NN_some, BIf_true, BIf_false, BIf_same, List.toList_toArray, Bool.not_true, Bool.not_false]
  unfold chkI
  by_cases h : fb xs < xs.length
  · rw [if_pos h, if_pos h, if_neg (by omega), decide_eq_false (by omega), decide_eq_false (by omega)]
    exact RetE.mk _ _
  · rw [if_neg h, if_neg h, if_pos (by decide), decide_eq_true (show xs.length ≤ fb xs by omega)]
    exact RetE.mk _ _

theorem natV_next (ws : List Nat) {j : Nat} (h : j < ws.length) : natV (ws.take (j + 1)) = natV (ws.take j) ++ [.int .u64 ((ws[j] : Nat) : Int)] := by
  rw [List.take_succ_eq_append_getElem h]
  unfold natV
  rw [List.map_append]
  rfl
/-- The words of a form. -/
def wsN (bs : List UInt8) : List Nat := (List.range (bs.length / 8)).map fun i => wordN bs (8 * i)
theorem wsN_length (bs : List UInt8) : (wsN bs).length = bs.length / 8 := by simp [wsN]
theorem wsN_get (bs : List UInt8) {i : Nat} (h : i < (wsN bs).length) : (wsN bs)[i] = wordN bs (8 * i) := by simp [wsN]

/-- A form's row, and what is wrong, and where. -/
def takeR (bs : List UInt8) : List Nat × Nat × Nat :=
  if bs.length % 8 ≠ 0 then ([], 8 * (bs.length / 8), 15) else if fb (wsN bs) < (wsN bs).length then ([], 8 * fb (wsN bs), 3) else (wsN bs, 0, 0)

theorem row_step (ws : List Nat) (j t : Nat) (hj : j + (t + 1) = ws.length) : (natV (ws.take j ++ List.replicate (t + 1) 0)).set j (.int .u64 ((ws[j]'(by omega) : Nat) : Int)) = natV (ws.take (j + 1) ++ List.replicate t 0) := by
  have hlt : j < ws.length := by omega
  have e1 : natV (ws.take j ++ List.replicate (t + 1) 0) = natV (ws.take j) ++ natV (List.replicate (t + 1) 0) := by simp [natV]
  have e2 : (natV (ws.take j)).length = j := by simp [natV]; omega
  have e3 : natV (ws.take (j + 1) ++ List.replicate t 0) = natV (ws.take (j + 1)) ++ natV (List.replicate t 0) := by simp [natV]
  rw [e1, e3, List.set_append_right _ _ (by omega), e2, Nat.sub_self, List.replicate_succ, natV_next ws hlt, List.append_assoc]
  rfl

theorem zeroRow_rep : ∀ n, zeroRow [.int .u64 0] n = List.replicate n (Value.int .u64 0)
  | 0 => rfl
  | n + 1 => by rw [List.replicate_succ, ← zeroRow_rep n]; rfl

theorem Take_loop (A : Option Addr) (n m : Nat) (hnm : n ≤ m) (bs : List UInt8) (hl : n = bs.length) (hn : n ≤ 1000000) (h8 : bs.length % 8 = 0) (b : Nat) (H0 : Hp) (hc : Cells H0 A (byteVals bs)) :
    ∀ (t j : Nat) (H : Hp), j + t = n / 8 → Hw.Sep [own H0, pts b (.row (natV ((wsN bs).take j ++ List.replicate t 0)) 22 (n / 8 * 1))] H →
      W_codec_Take.l5 (fun v H' => ∃ M, RowQ (takeR bs) v M ∧ Hw.Sep (own H0 :: M) H') (t + 1) A n m (some ⟨b, 0, none⟩) (n / 8) (n / 8) ((n / 8 : Nat) : Int) (j : Int) H
  | 0, j, H, hj, hs => by
    unfold W_codec_Take.l5
    refine BIf_dneg (by omega) ?_
    have hwl : (wsN bs).length = n / 8 := by rw [wsN_length, hl]
    rw [List.take_of_length_le (by omega), List.replicate_zero, List.append_nil] at hs
    have hc := Cells.row (hs.get 1 rfl) 0 (n / 8)
    rw [List.drop_zero, List.take_of_length_le (by simp [natV]; omega)] at hc
    refine HCalls.use (Check2_ok _ _ _ (wsN bs) hwl.symm (by omega) H hc) ?_
    simp only [DI_int', DB_bool, DS_string, DP_pointer, DSl_slice, DM_map, DA_agg, DTup_tuple, DCons_cons, DNil_nil, NN_some, BIf_true, BIf_false, BIf_same, List.toList_toArray, Bool.not_true, Bool.not_false]
    by_cases hg : (wsN bs).length ≤ fb (wsN bs)
    · rw [decide_eq_true hg]
      simp only [DI_int', DB_bool, DS_string, DP_pointer, DSl_slice, DM_map, DA_agg, DTup_tuple, DCons_cons, DNil_nil, NN_some, BIf_true, BIf_false, BIf_same, List.toList_toArray, Bool.not_true, Bool.not_false]
      have : takeR bs = (wsN bs, 0, 0) := by unfold takeR; rw [if_neg (by omega), if_neg (by omega)]
      rw [this]
      refine ⟨_, ⟨some ⟨b, 0, none⟩, n / 8, n / 8, rfl, hwl.symm, rfl⟩, ?_⟩
      exact hs.turn 1 rfl (B := Own 22 1 (some ⟨b, 0, none⟩) (n / 8) (n / 8) (natV (wsN bs))) (fun H1 h => ⟨by simp [natV]; omega, .inr ⟨b, _, rfl, h, by omega⟩⟩)
    · rw [decide_eq_false hg]
      simp only [DI_int', DB_bool, DS_string, DP_pointer, DSl_slice, DM_map, DA_agg, DTup_tuple, DCons_cons, DNil_nil, NN_some, BIf_true, BIf_false, BIf_same, List.toList_toArray, Bool.not_true, Bool.not_false]
      have hfl := fb_le (wsN bs)
      have : takeR bs = ([], 8 * fb (wsN bs), 3) := by unfold takeR; rw [if_neg (by omega), if_pos (by omega)]
      rw [this]
      have hk : chkI (wsN bs) = fb (wsN bs) := by unfold chkI; rw [if_pos (by omega)]
      rw [hk, i64w (x := 8 * (fb (wsN bs) : Int)) (by omega) (by omega)]
      have h2 := Sep.addNone hs 22 1
      exact ⟨_, ⟨none, 0, 0, by simp, rfl, rfl⟩, h2.re [0, 2] rfl⟩
  | t + 1, j, H, hj, hs => by
    unfold W_codec_Take.l5
    have hwl : (wsN bs).length = n / 8 := by rw [wsN_length, hl]
    have hlt : j < (wsN bs).length := by omega
    refine BIf_dpos (by omega) ?_
    rw [i64w (x := 8 * (j : Int)) (by omega) (by omega)]
    refine slB_from (l := 8 * j) (by omega) (by omega) ?_
    have hcl := hc.le (hs.ow 0 rfl)
    have h1 := (hcl.shift (m := m) (l := 8 * j) (by rw [byteVals_length]; omega)).take 8
    rw [show ((byteVals bs).drop (8 * j)).take 8 = byteVals ((bs.drop (8 * j)).take 8) by unfold byteVals; rw [List.map_take, List.map_drop]] at h1
    refine HCalls.use (word_ok _ (n - 8 * j) (m - 8 * j) ((bs.drop (8 * j)).take 8) (by simp; omega) (by omega) H h1) ?_
    simp only [DI_int', DB_bool, DS_string, DP_pointer, DSl_slice, DM_map, DA_agg, DTup_tuple, DCons_cons, DNil_nil, NN_some, BIf_true, BIf_false, BIf_same, List.toList_toArray, Bool.not_true, Bool.not_false]
    have hw : (leN ((bs.drop (8 * j)).take 8)) = (wsN bs)[j] := by rw [wsN_get]; rfl
    rw [hw]
    refine ⟨by omega, by omega, ?_⟩
    rw [Addr.add_lit', Nat.zero_add, Addr.add_lit', show (j : Int).toNat * 1 + 0 = j by omega]
    refine hs.str 1 rfl (by simp [natV]; omega) rfl fun H1 hs => ?_
    rw [i64w (x := (j : Int) + 1) (by omega) (by omega)]
    refine Take_loop A n m hnm bs hl hn h8 b H0 hc t (j + 1) H1 (by omega) ?_
    rw [row_step (wsN bs) j t (by omega)] at hs
    exact hs

theorem Take2_ok (A : Option Addr) (n m : Nat) (hnm : n ≤ m) (bs : List UInt8) (hl : n = bs.length) (hn : n ≤ 1000000) (H : Hp) (hc : Cells H A (byteVals bs)) :
    HCalls Tryd.prog 46 #[.slice A n m] H fun v H' => ∃ M, RowQ (takeR bs) v M ∧ Hw.Sep (own H :: M) H' := by
  apply W_codec_Take.ok
  unfold W_codec_Take
  rw [show Int.tmod ((n : Nat) : Int) 8 = ((n % 8 : Nat) : Int) from rfl, show Int.tdiv ((n : Nat) : Int) 8 = ((n / 8 : Nat) : Int) from rfl]
  refine ⟨by decide, rfl, ?_⟩
  by_cases h8 : n % 8 ≠ 0
  · refine BIf_bnep (by omega) ⟨by decide, rfl, ?_⟩
    rw [i64w (x := (n : Int) - ((n % 8 : Nat) : Int)) (by omega) (by omega)]
    have : takeR bs = ([], 8 * (bs.length / 8), 15) := by unfold takeR; rw [if_pos (by omega)]
    rw [this, show (n : Int) - ((n % 8 : Nat) : Int) = ((8 * (bs.length / 8) : Nat) : Int) by omega]
    exact ⟨_, ⟨none, 0, 0, rfl, rfl, rfl⟩, Sep.addNone (Sep.start H) 22 1⟩
  · refine BIf_bnen (by omega) ⟨by decide, rfl, ?_⟩
    rw [i64n (by omega)]
    refine (Sep.start H).mks cell_u64 rfl (n := n / 8) (m := n / 8) rfl rfl (Nat.le_refl _) (by omega) (by omega) fun b H1 hs => ?_
    simp only [DI_int', DB_bool, DS_string, DP_pointer, DSl_slice, DM_map, DA_agg, DTup_tuple, DCons_cons, DNil_nil, NN_some, BIf_true, BIf_false, BIf_same, List.toList_toArray, Bool.not_true, Bool.not_false]
    refine ⟨n / 8 + 1, Take_loop A n m hnm bs hl hn (by omega) b H hc (n / 8) 0 H1 (by omega) ?_⟩
    have e0 : zeroRow [.int .u64 0] (n / 8) = natV ((wsN bs).take 0 ++ List.replicate (n / 8) 0) := by
      rw [zeroRow_rep]; simp [natV]
    rw [← e0]
    exact hs

theorem rTake_loop (bs : List UInt8) (hn : bs.length ≤ 1000000) (h8 : bs.length % 8 = 0) (H0 : Hp) :
    ∀ (t j : Nat) (A : Option Addr) (m : Nat) (H : Hp), j + t = (wsN bs).length → (∀ k (hk : k < j) (h : k < (wsN bs).length), (wsN bs)[k] < 18446744069414584321) →
      Hw.Sep [own H0, Own 22 1 A j m (natV ((wsN bs).take j))] H →
      W_abacistref04_Take.l6 (fun v H' => ∃ M, RowQ (takeR bs) v M ∧ Hw.Sep (own H0 :: M) H') (t + 1) ⟨⟨bs⟩⟩ ((bs.length / 8 : Nat) : Int) A j m (j : Int) H
  | 0, j, A, m, H, hj, hall, hs => by
    unfold W_abacistref04_Take.l6
    have hwl := wsN_length bs
    refine BIf_dneg (by omega) ?_
    rw [List.take_of_length_le (by omega)] at hs
    have : fb (wsN bs) = (wsN bs).length := fb_all.2 fun x hx => by
      obtain ⟨k, hk, rfl⟩ := List.getElem_of_mem hx
      exact hall k (by omega) hk
    have : takeR bs = (wsN bs, 0, 0) := by unfold takeR; rw [if_neg (by omega), if_neg (by omega)]
    rw [this]
    exact ⟨_, ⟨A, j, m, rfl, by show j = (wsN bs).length; omega, rfl⟩, hs⟩
  | t + 1, j, A, m, H, hj, hall, hs => by
    unfold W_abacistref04_Take.l6
    have hwl := wsN_length bs
    have hlt : j < (wsN bs).length := by omega
    refine BIf_dpos (by omega) ?_
    rw [i64w (x := 8 * (j : Int)) (by omega) (by omega), show (8 * (j : Int)) = ((8 * j : Nat) : Int) by omega]
    refine HCalls.use (rWord_ok bs (8 * j) (by omega) (by omega) H) ?_
    simp only [DI_int', DB_bool, DS_string, DP_pointer, DSl_slice, DM_map, DA_agg, DTup_tuple, DCons_cons, DNil_nil, NN_some, BIf_true, BIf_false, BIf_same, List.toList_toArray, Bool.not_true, Bool.not_false]
    have hw : wordN bs (8 * j) = (wsN bs)[j] := (wsN_get bs hlt).symm
    rw [hw]
    by_cases hb : (wsN bs)[j] < 18446744069414584321
    · refine BIf_dneg (by omega) ?_
      refine hs.app1 1 rfl cell_u64 (by omega) rfl (by omega) (by omega) fun A' m' H1 hs => ?_
      simp only [DI_int', DB_bool, DS_string, DP_pointer, DSl_slice, DM_map, DA_agg, DTup_tuple, DCons_cons, DNil_nil, NN_some, BIf_true, BIf_false, BIf_same, List.toList_toArray, Bool.not_true, Bool.not_false]
      rw [i64w (x := (j : Int) + 1) (by omega) (by omega)]
      refine rTake_loop bs hn h8 H0 t (j + 1) A' m' H1 (by omega) (fun k hk h => ?_) ?_
      · by_cases e : k = j
        · subst e; exact hb
        · exact hall k (by omega) h
      · have e1 : natV ((wsN bs).take j) ++ [Value.int .u64 ((wsN bs)[j] : Int)] = natV ((wsN bs).take (j + 1)) := by
          exact (natV_next _ hlt).symm
        rw [← e1]
        exact hs
    · refine BIf_dpos (by omega) ?_
      have hfb := fb_at hlt hb fun k hk => hall k hk (by omega)
      have : takeR bs = ([], 8 * fb (wsN bs), 3) := by unfold takeR; rw [if_neg (by omega), if_pos (by omega)]
      rw [this, hfb]
      have h2 := Sep.addNone hs 22 1
      exact ⟨_, ⟨none, 0, 0, rfl, rfl, rfl⟩, h2.re [0, 2] rfl⟩

theorem rTake_ok (bs : List UInt8) (hn : bs.length ≤ 1000000) (H : Hp) :
    HCalls Tryd.prog 47 #[.string ⟨⟨bs⟩⟩] H fun v H' => ∃ M, RowQ (takeR bs) v M ∧ Hw.Sep (own H :: M) H' := by
  apply W_abacistref04_Take.ok
  unfold W_abacistref04_Take
  have hsz : (⟨⟨bs⟩⟩ : ByteArray).size = bs.length := rfl
  rw [hsz, show Int.tdiv ((bs.length : Nat) : Int) 8 = ((bs.length / 8 : Nat) : Int) from rfl, i64n (by omega), i64w (x := 8 * ((bs.length / 8 : Nat) : Int)) (by omega) (by omega)]
  refine ⟨by decide, rfl, ?_⟩
  by_cases h8 : bs.length % 8 ≠ 0
  · refine BIf_bnep (by omega) ?_
    have : takeR bs = ([], 8 * (bs.length / 8), 15) := by unfold takeR; rw [if_pos (by omega)]
    rw [this]
    exact ⟨_, ⟨none, 0, 0, rfl, rfl, rfl⟩, Sep.addNone (Sep.start H) 22 1⟩
  · refine BIf_bnen (by omega) ⟨bs.length / 8 + 1, ?_⟩
    exact rTake_loop bs hn (by omega) H (bs.length / 8) 0 none 0 H (by rw [wsN_length]; omega) (fun k hk => absurd hk (by omega)) (Sep.addNone (Sep.start H) 22 1)

end Go.Proofs.YtbnhfcdagoigkaaDoor.Cod

end
section
/-! CodG -/
/- law 04: CodecForms. -/
set_option maxRecDepth 100000
set_option linter.unusedSimpArgs false
set_option linter.unusedVariables false
set_option linter.unnecessarySimpa false
set_option linter.unusedSectionVars false
namespace Go.Proofs.YtbnhfcdagoigkaaDoor.Cod
open Go Go.Hw Go.Proofs.YtbnhfcdagoigkaaDoor.W Go.Proofs.YtbnhfcdagoigkaaDoor.Gol Go.Proofs.YtbnhfcdagoigkaaDoor.Gen Go.Form Go.Proofs.YtbnhfcdagoigkaaDoor.FormP

theorem New.use {f : FuncId} {args : Array Value} {r : List Nat × Nat × Nat} {L : List As} {H : Hp} (hs : Hw.Sep L H) (t : HCalls Tryd.prog f args H fun v H' => ∃ M, RowQ r v M ∧ Hw.Sep (own H :: M) H') {K : Value → Hp → Prop}
    (k : ∀ A m H', Hw.Sep (L ++ [Own 22 1 A r.1.length m (natV r.1)]) H' → K (.tuple #[.slice A r.1.length m, .int .i64 (r.2.1 : Int), .int .i64 (r.2.2 : Int)]) H') : HCalls Tryd.prog f args H K := t.mono fun v H' ⟨M, ⟨A, n, m, e1, e2, e3⟩, h⟩ => by
  subst e1 e2 e3
  exact k A m H' (Sep.call hs h)

theorem natV_words (l : List UInt64) : natV (l.map UInt64.toNat) = wordVals l := by
  unfold natV wordVals
  rw [List.map_map]
  rfl
theorem wsN_form (l : List UInt64) : wsN (form l) = l.map UInt64.toNat := by
  apply List.ext_getElem
  · rw [wsN_length, form_length, List.length_map]; omega
  · intro i h1 h2
    rw [wsN_get, List.getElem_map]
    have := wordN_form (l := l) (i := i) (by simpa using h2) []
    rwa [List.append_nil] at this

def wsU (bs : List UInt8) : List UInt64 := (wsN bs).map UInt64.ofNat
theorem wsU_vals (bs : List UInt8) : wordVals (wsU bs) = natV (wsN bs) := by
  rw [← natV_words]
  congr 1
  unfold wsU
  rw [List.map_map]
  conv => rhs; rw [← List.map_id (wsN bs)]
  apply List.map_congr_left
  intro x hx
  obtain ⟨i, hi, rfl⟩ := List.getElem_of_mem hx
  show (UInt64.ofNat _).toNat = _
  rw [UInt64.toNat_ofNat_of_lt' (by rw [wsN_get]; exact wordN_lt _ _)]
  rfl
theorem wsN_cons (bs : List UInt8) (k : Nat) (h : bs.length = 8 * (k + 1)) : wsN bs = wordN bs 0 :: wsN (bs.drop 8) := by
  unfold wsN
  rw [show bs.length / 8 = k + 1 by omega, show (bs.drop 8).length / 8 = k by rw [List.length_drop]; omega, List.range_succ_eq_map, List.map_cons, List.map_map]
  congr 1
  apply List.map_congr_left
  intro i _
  show wordN bs (8 * (i + 1)) = wordN (bs.drop 8) (8 * i)
  unfold wordN
  rw [List.drop_drop, show 8 + 8 * i = 8 * (i + 1) by omega]
theorem form_wsU : ∀ (k : Nat) (bs : List UInt8), bs.length = 8 * k → form (wsU bs) = bs
  | 0, bs, h => by
    rw [List.length_eq_zero_iff.1 h]
    rfl
  | k + 1, bs, h => by
    have ih := form_wsU k (bs.drop 8) (by rw [List.length_drop]; omega)
    unfold wsU at ih ⊢
    rw [wsN_cons bs k h, List.map_cons]
    show formW (UInt64.ofNat (wordN bs 0)) ++ form ((wsN (bs.drop 8)).map UInt64.ofNat) = bs
    rw [ih, formW_bytes, UInt64.toNat_ofNat_of_lt' (wordN_lt _ _)]
    unfold wordN
    have h8 : ((bs.drop 0).take 8).length = 8 := by simp; omega
    have := bytesN_leN ((bs.drop 0).take 8)
    rw [h8] at this
    rw [this, List.drop_zero, List.take_append_drop]

theorem takeR_ok {bs : List UInt8} (h : (takeR bs).2.2 = 0) : takeR bs = (wsN bs, 0, 0) ∧ bs.length % 8 = 0 := by
  unfold takeR at h ⊢
  split at h
  · cases h
  · rename_i h8
    split at h
    · cases h
    · rename_i hf
      rw [if_neg h8, if_neg hf]
      exact ⟨rfl, by omega⟩
theorem takeR_len (bs : List UInt8) : (takeR bs).1.length ≤ bs.length := by
  unfold takeR
  split
  · exact Nat.zero_le _
  · split
    · exact Nat.zero_le _
    · show (wsN bs).length ≤ _
      rw [wsN_length]; omega

theorem forms_j10 (K : Value → Hp → Prop) (H0 : Hp) (hK : ∀ H', H0.le H' → K (.bool true) H') (A : Option Addr) (n m : Nat) (l : List UInt64) (hl : n = l.length) (hn : n ≤ 40) (hc : Cells H0 A (wordVals l))
    (b : Nat) (H : Hp) (e : TypeId) (mm : Nat) (hs : Hw.Sep [own H0, pts b (.row (byteVals (form l)) e mm)] H) : W_abacistlaw04_CodecForms.j10 K A n m (some ⟨b, 0, none⟩) (8 * n) (8 * n) H := by
  unfold W_abacistlaw04_CodecForms.j10
  have hfl : (form l).length = 8 * n := by rw [form_length, hl]
  have hcf : Cells H (some ⟨b, 0, none⟩) (byteVals (form l)) := by
    have := Cells.row (hs.get 1 rfl) 0 (8 * n)
    rwa [List.drop_zero, List.take_of_length_le (by rw [byteVals_length]; omega)] at this
  refine New.use hs (Take2_ok _ (8 * n) (8 * n) (Nat.le_refl _) (form l) hfl.symm (by omega) H hcf) fun A12 m12 H1 hs => ?_
  simp only [List.cons_append, List.nil_append, List.set_cons_zero, List.set_cons_succ] at hs
  simp only [DI_int', DB_bool, DS_string, DP_pointer, DSl_slice, DM_map, DA_agg, DTup_tuple, DCons_cons, DNil_nil, NN_some, BIf_true, BIf_false, BIf_same, List.toList_toArray, Bool.not_true, Bool.not_false]
  have hcl := hc.le (hs.ow 0 rfl)
  rw [← natV_words] at hcl
  have hln : (l.map UInt64.toNat).length = n := by rw [List.length_map, hl]
  refine HCalls.use (Check2_ok A n m (l.map UInt64.toNat) hln.symm (by omega) H1 hcl) ?_
  simp only [DI_int', DB_bool, DS_string, DP_pointer, DSl_slice, DM_map, DA_agg, DTup_tuple, DCons_cons, DNil_nil, NN_some, BIf_true, BIf_false, BIf_same, List.toList_toArray, Bool.not_true, Bool.not_false]
  have hfb := fb_le (l.map UInt64.toNat)
  have h8 : ¬ (form l).length % 8 ≠ 0 := by omega
  have htR : takeR (form l) = if fb (l.map UInt64.toNat) < (l.map UInt64.toNat).length then ([], 8 * fb (l.map UInt64.toNat), 3) else (l.map UInt64.toNat, 0, 0) := by
    unfold takeR
    rw [if_neg h8, wsN_form]
  by_cases hg : (l.map UInt64.toNat).length ≤ fb (l.map UInt64.toNat)
  · rw [if_neg (by omega)] at htR
    rw [htR] at hs ⊢
    rw [decide_eq_true hg]
    have hk : chkI (l.map UInt64.toNat) = 0 := by unfold chkI; rw [if_neg (by omega)]
    rw [hk]
    refine BIf_neg rfl (BIf_beqp rfl (BIf_beqp rfl ?_))
    have hcm := own_cells1 (hs.own 2 rfl)
    have hcm : Cells H1 A12 (natV (l.map UInt64.toNat)) := hcm
    rw [show ((l.map UInt64.toNat, 0, 0) : List Nat × Nat × Nat).1.length = n from hln]
    refine HCalls.use (Same_ok A12 A n m12 m (l.map UInt64.toNat) hln.symm (by omega) H1 hcm hcl) ?_
    simp only [DI_int', DB_bool, DS_string, DP_pointer, DSl_slice, DM_map, DA_agg, DTup_tuple, DCons_cons, DNil_nil, NN_some, BIf_true, BIf_false, BIf_same, List.toList_toArray, Bool.not_true, Bool.not_false]
    exact hK _ (hs.ow 0 rfl)
  · rw [if_pos (by omega)] at htR
    rw [htR] at hs ⊢
    rw [decide_eq_false hg]
    have hlt : fb (l.map UInt64.toNat) < (l.map UInt64.toNat).length := by omega
    have hk : chkI (l.map UInt64.toNat) = fb (l.map UInt64.toNat) := by unfold chkI; rw [if_pos hlt]
    rw [hk]
    refine BIf_pos rfl (BIf_beqp rfl (BIf_dpos (by omega) ?_))
    refine hcl.read (i := fb (l.map UInt64.toNat)) (v := .int .u64 (((l.map UInt64.toNat)[fb (l.map UInt64.toNat)] : Nat) : Int)) (by unfold natV; rw [List.getElem?_map, List.getElem?_eq_getElem hlt]; rfl) rfl (by simp [natV]; omega) ?_
    simp only [DI_int', DB_bool, DS_string, DP_pointer, DSl_slice, DM_map, DA_agg, DTup_tuple, DCons_cons, DNil_nil, NN_some, BIf_true, BIf_false, BIf_same, List.toList_toArray, Bool.not_true, Bool.not_false]
    have := fb_get hlt
    rw [decide_eq_true (by omega)]
    exact hK _ (hs.ow 0 rfl)


theorem CodecForms_ok (A : Option Addr) (n m : Nat) (l : List UInt64) (hl : n = l.length) (B : Option Addr) (nb mb : Nat) (hnb : nb ≤ mb) (bs : List UInt8) (hbl : nb = bs.length) (H0 : Hp) (hM : MaxL H0) (hc : Cells H0 A (wordVals l)) (hcb : Cells H0 B (byteVals bs)) :
    HCalls Tryd.prog 10 #[.slice A n m, .slice B nb mb] H0 (Ret (.bool true) H0) := by
  apply W_abacistlaw04_CodecForms.ok
  unfold W_abacistlaw04_CodecForms
  have hK : ∀ H', H0.le H' → Ret (.bool true) H0 (.bool true) H' := fun H' h => ⟨rfl, h⟩
  refine HCalls.use (awake_ok H0 hM) ?_
  simp only [DI_int', DB_bool, DS_string, DP_pointer, DSl_slice, DM_map, DA_agg, DTup_tuple, DCons_cons, DNil_nil, NN_some, BIf_true, BIf_false, BIf_same, List.toList_toArray, Bool.not_true, Bool.not_false]
  by_cases hn : n > 40
  · exact BIf_dpos (by omega) (hK _ (Hp.le_refl _))
  refine BIf_dneg (by omega) ?_
  by_cases hnb3 : nb > 300
  · exact BIf_dpos (by omega) (hK _ (Hp.le_refl _))
  refine BIf_dneg (by omega) ?_
  have hn : n ≤ 40 := by omega
  have htl := takeR_len bs
  refine (FormP.Put_ok A n m l hl (by omega) H0 hc).mono ?_
  rintro v H1 ⟨b, hb, rfl, rfl⟩
  have hs := (Sep.start H0).new hb (.row (byteVals (form l)) 5 (8 * n))
  simp only [DI_int', DB_bool, DS_string, DP_pointer, DSl_slice, DM_map, DA_agg, DTup_tuple, DCons_cons, DNil_nil, NN_some, BIf_true, BIf_false, BIf_same, List.toList_toArray, Bool.not_true, Bool.not_false]
  refine New.use hs (Take2_ok B nb mb hnb bs hbl (by omega) _ (hcb.le (hs.ow 0 rfl))) fun A4 m4 H1 hs => ?_
  simp only [DI_int', DB_bool, DS_string, DP_pointer, DSl_slice, DM_map, DA_agg, DTup_tuple, DCons_cons, DNil_nil, NN_some, BIf_true, BIf_false, BIf_same, List.toList_toArray, Bool.not_true, Bool.not_false]
  refine BsK_of (hcb.le (hs.ow 0 rfl)) hbl ?_
  refine New.use hs (rTake_ok bs (by omega) H1) fun A5 m5 H1 hs => ?_
  simp only [List.cons_append, List.nil_append, List.set_cons_zero, List.set_cons_succ] at hs
  simp only [DI_int', DB_bool, DS_string, DP_pointer, DSl_slice, DM_map, DA_agg, DTup_tuple, DCons_cons, DNil_nil, NN_some, BIf_true, BIf_false, BIf_same, List.toList_toArray, Bool.not_true, Bool.not_false]
  have hfl : (form l).length = 8 * n := by rw [form_length, hl]
  have hcf : Cells H1 (some ⟨b, 0, none⟩) (byteVals (form l)) := by
    have := Cells.row (hs.get 1 rfl) 0 (8 * n)
    rwa [List.drop_zero, List.take_of_length_le (by rw [byteVals_length]; omega)] at this
  have hrp := rPut_ok A n m l hl (by omega) H1 (hc.le (hs.ow 0 rfl))
  refine ⟨?_, ?_⟩
  · refine BsK_of hcf hfl.symm ?_
    refine HCalls.use hrp ?_
    simp only [DI_int', DB_bool, DS_string, DP_pointer, DSl_slice, DM_map, DA_agg, DTup_tuple, DCons_cons, DNil_nil, NN_some, BIf_true, BIf_false, BIf_same, List.toList_toArray, Bool.not_true, Bool.not_false]
    refine BIf_neg (by simp) ?_
    refine HCalls.use (Same_ok A4 A5 _ m4 m5 (takeR bs).1 rfl (by omega) _ (own_cells1 (hs.own 2 rfl)) (own_cells1 (hs.own 3 rfl))) ?_
    simp only [DI_int', DB_bool, DS_string, DP_pointer, DSl_slice, DM_map, DA_agg, DTup_tuple, DCons_cons, DNil_nil, NN_some, BIf_true, BIf_false, BIf_same, List.toList_toArray, Bool.not_true, Bool.not_false]
    refine BIf_bnen rfl (BIf_bnen rfl ?_)
    by_cases he : (takeR bs).2.2 = 0
    · refine BIf_beqp (by omega) ?_
      have hz := takeR_ok he
      have hfu : form (wsU bs) = bs := form_wsU (bs.length / 8) bs (by omega)
      refine ⟨?_, ?_⟩
      · refine (FormP.Put_ok A4 (takeR bs).1.length m4 (wsU bs) (by rw [hz.1]; simp [wsU]) (by omega) _ (by rw [wsU_vals]; have := own_cells1 (hs.own 2 rfl); rw [hz.1] at this; exact this)).mono ?_
        rintro v H7 ⟨b6, hb6, rfl, rfl⟩
        have hs7 := hs.new hb6 (.row (byteVals (form (wsU bs))) 5 (8 * (takeR bs).1.length))
        simp only [DI_int', DB_bool, DS_string, DP_pointer, DSl_slice, DM_map, DA_agg, DTup_tuple, DCons_cons, DNil_nil, NN_some, BIf_true, BIf_false, BIf_same, List.toList_toArray, Bool.not_true, Bool.not_false]
        rw [hfu] at hs7 ⊢
        have hl6 : 8 * (takeR bs).1.length = bs.length := by rw [hz.1]; show 8 * (wsN bs).length = _; rw [wsN_length]; omega
        have hc6 := Cells.row (hs7.get 4 rfl) 0 bs.length
        rw [List.drop_zero, List.take_of_length_le (by rw [byteVals_length]; exact Nat.le_refl _)] at hc6
        have hj := forms_j10 _ H0 hK A n m l hl hn hc b _ _ _ (hs7.re [0, 1] rfl)
        refine ⟨?_, ?_⟩
        · refine BsK_of hc6 hl6 (BsK_of (hcb.le (hs7.ow 0 rfl)) hbl (BIf_neg (by simp) hj))
        · refine BsK_of (hcb.le (hs7.ow 0 rfl)) hbl (BsK_of hc6 hl6 (BIf_neg (by simp) hj))
      · refine BsK_of (hcb.le (hs.ow 0 rfl)) hbl ?_
        refine (FormP.Put_ok A4 (takeR bs).1.length m4 (wsU bs) (by rw [hz.1]; simp [wsU]) (by omega) _ (by rw [wsU_vals]; have := own_cells1 (hs.own 2 rfl); rw [hz.1] at this; exact this)).mono ?_
        rintro v H7 ⟨b6, hb6, rfl, rfl⟩
        have hs7 := hs.new hb6 (.row (byteVals (form (wsU bs))) 5 (8 * (takeR bs).1.length))
        simp only [DI_int', DB_bool, DS_string, DP_pointer, DSl_slice, DM_map, DA_agg, DTup_tuple, DCons_cons, DNil_nil, NN_some, BIf_true, BIf_false, BIf_same, List.toList_toArray, Bool.not_true, Bool.not_false]
        rw [hfu] at hs7 ⊢
        have hl6 : 8 * (takeR bs).1.length = bs.length := by rw [hz.1]; show 8 * (wsN bs).length = _; rw [wsN_length]; omega
        have hc6 := Cells.row (hs7.get 4 rfl) 0 bs.length
        rw [List.drop_zero, List.take_of_length_le (by rw [byteVals_length]; exact Nat.le_refl _)] at hc6
        have hj := forms_j10 _ H0 hK A n m l hl hn hc b _ _ _ (hs7.re [0, 1] rfl)
        exact BsK_of hc6 hl6 (BIf_neg (by simp) hj)
    · refine BIf_beqn (by omega) ?_
      have hj := forms_j10 _ H0 hK A n m l hl hn hc b _ _ _ (hs.re [0, 1] rfl)
      exact ⟨⟨hj, hj⟩, hj⟩
  · refine HCalls.use hrp ?_
    simp only [DI_int', DB_bool, DS_string, DP_pointer, DSl_slice, DM_map, DA_agg, DTup_tuple, DCons_cons, DNil_nil, NN_some, BIf_true, BIf_false, BIf_same, List.toList_toArray, Bool.not_true, Bool.not_false]
    refine BsK_of hcf hfl.symm ?_
    refine BIf_neg (by simp) ?_
    refine HCalls.use (Same_ok A4 A5 _ m4 m5 (takeR bs).1 rfl (by omega) _ (own_cells1 (hs.own 2 rfl)) (own_cells1 (hs.own 3 rfl))) ?_
    simp only [DI_int', DB_bool, DS_string, DP_pointer, DSl_slice, DM_map, DA_agg, DTup_tuple, DCons_cons, DNil_nil, NN_some, BIf_true, BIf_false, BIf_same, List.toList_toArray, Bool.not_true, Bool.not_false]
    refine BIf_bnen rfl (BIf_bnen rfl ?_)
    by_cases he : (takeR bs).2.2 = 0
    · refine BIf_beqp (by omega) ?_
      have hz := takeR_ok he
      have hfu : form (wsU bs) = bs := form_wsU (bs.length / 8) bs (by omega)
      refine ⟨?_, ?_⟩
      · refine (FormP.Put_ok A4 (takeR bs).1.length m4 (wsU bs) (by rw [hz.1]; simp [wsU]) (by omega) _ (by rw [wsU_vals]; have := own_cells1 (hs.own 2 rfl); rw [hz.1] at this; exact this)).mono ?_
        rintro v H7 ⟨b6, hb6, rfl, rfl⟩
        have hs7 := hs.new hb6 (.row (byteVals (form (wsU bs))) 5 (8 * (takeR bs).1.length))
        simp only [DI_int', DB_bool, DS_string, DP_pointer, DSl_slice, DM_map, DA_agg, DTup_tuple, DCons_cons, DNil_nil, NN_some, BIf_true, BIf_false, BIf_same, List.toList_toArray, Bool.not_true, Bool.not_false]
        rw [hfu] at hs7 ⊢
        have hl6 : 8 * (takeR bs).1.length = bs.length := by rw [hz.1]; show 8 * (wsN bs).length = _; rw [wsN_length]; omega
        have hc6 := Cells.row (hs7.get 4 rfl) 0 bs.length
        rw [List.drop_zero, List.take_of_length_le (by rw [byteVals_length]; exact Nat.le_refl _)] at hc6
        have hj := forms_j10 _ H0 hK A n m l hl hn hc b _ _ _ (hs7.re [0, 1] rfl)
        refine ⟨?_, ?_⟩
        · refine BsK_of hc6 hl6 (BsK_of (hcb.le (hs7.ow 0 rfl)) hbl (BIf_neg (by simp) hj))
        · refine BsK_of (hcb.le (hs7.ow 0 rfl)) hbl (BsK_of hc6 hl6 (BIf_neg (by simp) hj))
      · refine BsK_of (hcb.le (hs.ow 0 rfl)) hbl ?_
        refine (FormP.Put_ok A4 (takeR bs).1.length m4 (wsU bs) (by rw [hz.1]; simp [wsU]) (by omega) _ (by rw [wsU_vals]; have := own_cells1 (hs.own 2 rfl); rw [hz.1] at this; exact this)).mono ?_
        rintro v H7 ⟨b6, hb6, rfl, rfl⟩
        have hs7 := hs.new hb6 (.row (byteVals (form (wsU bs))) 5 (8 * (takeR bs).1.length))
        simp only [DI_int', DB_bool, DS_string, DP_pointer, DSl_slice, DM_map, DA_agg, DTup_tuple, DCons_cons, DNil_nil, NN_some, BIf_true, BIf_false, BIf_same, List.toList_toArray, Bool.not_true, Bool.not_false]
        rw [hfu] at hs7 ⊢
        have hl6 : 8 * (takeR bs).1.length = bs.length := by rw [hz.1]; show 8 * (wsN bs).length = _; rw [wsN_length]; omega
        have hc6 := Cells.row (hs7.get 4 rfl) 0 bs.length
        rw [List.drop_zero, List.take_of_length_le (by rw [byteVals_length]; exact Nat.le_refl _)] at hc6
        have hj := forms_j10 _ H0 hK A n m l hl hn hc b _ _ _ (hs7.re [0, 1] rfl)
        exact BsK_of hc6 hl6 (BIf_neg (by simp) hj)
    · refine BIf_beqn (by omega) ?_
      have hj := forms_j10 _ H0 hK A n m l hl hn hc b _ _ _ (hs.re [0, 1] rfl)
      exact ⟨⟨hj, hj⟩, hj⟩

end Go.Proofs.YtbnhfcdagoigkaaDoor.Cod

end
section
/-! CodK -/
/- law 04: CodecTexts. -/
set_option maxRecDepth 100000
set_option linter.unusedSimpArgs false
set_option linter.unusedVariables false
set_option linter.unnecessarySimpa false
set_option linter.unusedSectionVars false
namespace Go.Proofs.YtbnhfcdagoigkaaDoor.Cod
open Go Go.Hw Go.Proofs.YtbnhfcdagoigkaaDoor.W Go.Proofs.YtbnhfcdagoigkaaDoor.Gol Go.Proofs.YtbnhfcdagoigkaaDoor.Gen Go.Form Go.Proofs.YtbnhfcdagoigkaaDoor.FormP

/-! ## Plain: numerals and digits -/

theorem dd_small {x : Nat} (h : x < 10) : Go.Lib.decDigits x = [UInt8.ofNat (48 + x)] := Go.Lib.decDigits_one h
theorem dd_big {x : Nat} (h : ¬ x < 10) : Go.Lib.decDigits x = Go.Lib.decDigits (x / 10) ++ [UInt8.ofNat (48 + x % 10)] := by
  conv => lhs; rw [Go.Lib.decDigits, dif_neg h]
theorem dg_nat {d : Nat} (h : d < 10) : (UInt8.ofNat (48 + d)).toNat = 48 + d := by
  simp only [UInt8.toNat_ofNat']; omega
theorem dd_ne (x : Nat) : Go.Lib.decDigits x ≠ [] := by
  by_cases h : x < 10
  · rw [dd_small h]; simp
  · rw [dd_big h]; simp
theorem dd_dig (x : Nat) : ∀ c ∈ Go.Lib.decDigits x, isDb c = true := by
  induction x using Nat.strongRecOn with
  | _ x ih =>
    intro c hc
    by_cases h : x < 10
    · rw [dd_small h, List.mem_singleton] at hc
      subst hc
      exact decide_eq_true (by rw [dg_nat h]; omega)
    · rw [dd_big h, List.mem_append, List.mem_singleton] at hc
      rcases hc with hc | rfl
      · exact ih (x / 10) (by omega) c hc
      · exact decide_eq_true (by rw [dg_nat (by omega)]; omega)
theorem numV_snoc (l : List UInt8) (c : UInt8) : numV (l ++ [c]) = 10 * numV l + (c.toNat - 48) := by
  unfold numV
  rw [List.foldl_append]
  rfl
theorem numV_dd (x : Nat) : numV (Go.Lib.decDigits x) = x := by
  induction x using Nat.strongRecOn with
  | _ x ih =>
    by_cases h : x < 10
    · rw [dd_small h]
      show 10 * 0 + ((UInt8.ofNat (48 + x)).toNat - 48) = x
      rw [dg_nat h]; omega
    · rw [dd_big h, numV_snoc, ih (x / 10) (by omega), dg_nat (by omega)]; omega
theorem dd_head (x : Nat) : 10 ≤ x → (Go.Lib.decDigits x).head? ≠ some 48 ∧ 1 < (Go.Lib.decDigits x).length := by
  induction x using Nat.strongRecOn with
  | _ x ih =>
    intro hx
    rw [dd_big (by omega)]
    by_cases h : x / 10 < 10
    · rw [dd_small h]
      refine ⟨fun e => ?_, by simp⟩
      have e2 : UInt8.ofNat (48 + x / 10) = 48 := by simpa using e
      have := congrArg UInt8.toNat e2
      rw [dg_nat h] at this
      have h48 : (48 : UInt8).toNat = 48 := rfl
      omega
    · obtain ⟨h1, h2⟩ := ih (x / 10) (by omega) (by omega)
      refine ⟨fun e => h1 ?_, by rw [List.length_append]; omega⟩
      cases hq : Go.Lib.decDigits (x / 10) with
      | nil => exact absurd hq (dd_ne _)
      | cons y t => rw [hq] at e; exact e
theorem numE_dd {x : Nat} (hx : x < 18446744073709551616) : numE (Go.Lib.decDigits x) = if x < 18446744069414584321 then (x, 0) else (0, 3) := by
  unfold numE
  have h20 := dd_len hx
  have hz : ¬ ((Go.Lib.decDigits x).head? = some 48 ∧ 1 < (Go.Lib.decDigits x).length) := fun ⟨h1, h2⟩ => by
    by_cases h : x < 10
    · rw [dd_small h] at h2; simp at h2
    · exact (dd_head x (by omega)).1 h1
  rw [if_neg (dd_ne x), if_neg (fun h => h (dd_dig x)), if_neg hz, if_neg (by omega), numV_dd]

theorem dd_num : ∀ (n : Nat) (p : List UInt8), p.length = n → p ≠ [] → (∀ c ∈ p, isDb c = true) → ¬ (p.head? = some 48 ∧ 1 < p.length) → Go.Lib.decDigits (numV p) = p
  | 0, p, hn, h0, _, _ => absurd (List.length_eq_zero_iff.1 hn) h0
  | n + 1, p, hn, h0, hd, hz => by
    obtain ⟨q, c, rfl⟩ : ∃ q c, p = q ++ [c] := ⟨_, _, (List.dropLast_concat_getLast h0).symm⟩
    have hc := dig_lt (hd c (by simp))
    have hcc : UInt8.ofNat (48 + (c.toNat - 48)) = c := by
      apply UInt8.toNat_inj.1
      rw [dg_nat (by omega)]; omega
    rw [numV_snoc]
    by_cases hq : q = []
    · subst hq
      have : numV [] = 0 := rfl
      rw [this, dd_small (by omega), Nat.mul_zero, Nat.zero_add, hcc]; rfl
    · obtain ⟨y, t, rfl⟩ : ∃ y t, q = y :: t := by
        cases q with
        | nil => exact absurd rfl hq
        | cons y t => exact ⟨y, t, rfl⟩
      have hy := dig_lt (hd y (by simp))
      have hy48 : y ≠ 48 := fun e => hz ⟨by rw [e]; rfl, by simp⟩
      have hy49 : 49 ≤ y.toNat := by
        rcases Nat.lt_or_ge y.toNat 49 with h | h
        · exact absurd (UInt8.toNat_inj.1 (show y.toNat = 48 by omega)) hy48
        · exact h
      have h1 : 1 ≤ numV (y :: t) := by
        have := fold_up t (numF 0 y)
        have h2 : numF 0 y = y.toNat - 48 := by unfold numF; omega
        show 1 ≤ t.foldl numF (numF 0 y)
        omega
      have ih := dd_num n (y :: t) (by simpa using hn) hq (fun x hx => hd x (by simp at hx ⊢; rcases hx with h | h <;> simp [h])) (fun h => hy48 (by simpa using h.1))
      rw [dd_big (by omega), show (10 * numV (y :: t) + (c.toNat - 48)) / 10 = numV (y :: t) by omega, show (10 * numV (y :: t) + (c.toNat - 48)) % 10 = c.toNat - 48 by omega, ih, hcc]
theorem numE_ok {p : List UInt8} (h : (numE p).2 = 0) : Go.Lib.decDigits (numE p).1 = p ∧ (numE p).1 < 18446744069414584321 := by
  unfold numE at h ⊢
  split at h
  · cases h
  · rename_i h0
    split at h
    · cases h
    · rename_i hd
      split at h
      · cases h
      · rename_i hz
        split at h
        · cases h
        · rename_i h20
          split at h
          · rename_i hv
            rw [if_neg h0, if_neg hd, if_neg hz, if_neg h20, if_pos hv]
            exact ⟨dd_num _ p rfl h0 (Classical.not_not.1 hd) hz, hv⟩
          · cases h

/-! ## Plain: rows and texts -/

theorem readP_ok : ∀ (ps : List (List UInt8)) (a : Nat) (acc : List Nat), (readP a acc ps).2.2 = 0 → ∃ xs : List Nat, (readP a acc ps).1 = acc ++ xs ∧ xs.map Go.Lib.decDigits = ps ∧ ∀ x ∈ xs, x < 18446744069414584321
  | [], a, acc, h => ⟨[], by simp [readP], rfl, by simp⟩
  | p :: ps, a, acc, h => by
    unfold readP at h ⊢
    by_cases he : (numE p).2 ≠ 0
    · rw [if_pos he] at h
      exact absurd h he
    · rw [if_neg he] at h ⊢
      obtain ⟨xs, h1, h2, h3⟩ := readP_ok ps _ _ h
      obtain ⟨g1, g2⟩ := numE_ok (p := p) (by omega)
      refine ⟨(numE p).1 :: xs, by rw [h1]; simp, by rw [List.map_cons, g1, h2], fun x hx => ?_⟩
      rcases List.mem_cons.1 hx with rfl | hx
      · exact g2
      · exact h3 x hx
theorem readV_ok {s : List UInt8} (h : (readV s).2.2 = 0) : textV (readV s).1 = s ∧ ∀ x ∈ (readV s).1, x < 18446744069414584321 := by
  unfold readV at h ⊢
  by_cases h0 : s = []
  · rw [if_pos h0]
    subst h0
    exact ⟨rfl, by simp⟩
  · rw [if_neg h0] at h ⊢
    obtain ⟨xs, h1, h2, h3⟩ := readP_ok _ _ _ h
    rw [h1, List.nil_append]
    refine ⟨?_, h3⟩
    unfold textV
    rw [h2, joinW_spl]
theorem readP_len : ∀ (ps : List (List UInt8)) (a : Nat) (acc : List Nat), (readP a acc ps).1.length ≤ acc.length + ps.length
  | [], a, acc => by simp [readP]
  | p :: ps, a, acc => by
    unfold readP
    split
    · simp
    · have := readP_len ps (a + (p.length + 1)) (acc ++ [(numE p).1])
      simp at this ⊢
      omega
theorem readV_len (s : List UInt8) : (readV s).1.length ≤ s.length + 1 := by
  unfold readV
  split
  · simp
  · have := readP_len (spl 32 s) 0 []
    have := spl_len 32 s
    simp at *
    omega

theorem readP_dd : ∀ (l : List Nat) (a : Nat) (acc : List Nat), (∀ x ∈ l, x < 18446744073709551616) → if ∀ x ∈ l, x < 18446744069414584321 then (readP a acc (l.map Go.Lib.decDigits)) = (acc ++ l, 0, 0) else (readP a acc (l.map Go.Lib.decDigits)).2.2 = 3
  | [], a, acc, _ => by simp [readP]
  | x :: l, a, acc, h => by
    have hx := h x (by simp)
    rw [List.map_cons]
    unfold readP
    rw [numE_dd hx]
    by_cases hg : x < 18446744069414584321
    · rw [if_pos hg]
      have ih := readP_dd l (a + ((Go.Lib.decDigits x).length + 1)) (acc ++ [x]) fun y hy => h y (List.mem_cons_of_mem _ hy)
      rw [if_neg (show ¬ ((x, 0) : Nat × Nat).2 ≠ 0 by simp)]
      by_cases hall : ∀ y ∈ l, y < 18446744069414584321
      · rw [if_pos hall] at ih
        rw [if_pos (fun y hy => by rcases List.mem_cons.1 hy with rfl | hy; exact hg; exact hall y hy), ih]
        simp
      · rw [if_neg hall] at ih
        rw [if_neg (fun g => hall fun y hy => g y (List.mem_cons_of_mem _ hy))]
        exact ih
    · rw [if_neg hg, if_neg (fun g => hg (g x (by simp))), if_pos (show ((0, 3) : Nat × Nat).2 ≠ 0 by simp)]
theorem readV_text (l : List Nat) (h : ∀ x ∈ l, x < 18446744073709551616) : if ∀ x ∈ l, x < 18446744069414584321 then readV (textV l) = (l, 0, 0) else (readV (textV l)).2.2 = 3 := by
  by_cases h0 : l = []
  · subst h0
    rw [if_pos (by simp)]
    rfl
  · have hne : textV l ≠ [] := by
      obtain ⟨x, t, rfl⟩ : ∃ x t, l = x :: t := by
        cases l with
        | nil => exact absurd rfl h0
        | cons x t => exact ⟨x, t, rfl⟩
      unfold textV
      rw [List.map_cons]
      intro e
      cases ht : t.map Go.Lib.decDigits with
      | nil => rw [ht] at e; exact dd_ne x e
      | cons q r => rw [ht] at e; exact absurd e (by show Go.Lib.decDigits x ++ 32 :: _ ≠ []; simp)
    have hsp : spl 32 (textV l) = l.map Go.Lib.decDigits := (Pieces.uniq ⟨by simpa using h0, fun p hp h32 => by
      obtain ⟨x, _, rfl⟩ := List.mem_map.1 hp
      have := dd_dig x 32 h32
      exact absurd this (by decide), rfl⟩).symm
    unfold readV
    rw [if_neg hne, hsp]
    have := readP_dd l 0 [] h
    simpa using this

theorem words_lt (l : List UInt64) : ∀ x ∈ l.map UInt64.toNat, x < 18446744073709551616 := fun x hx => by
  obtain ⟨w, _, rfl⟩ := List.mem_map.1 hx
  exact w.toNat_lt

/-! ## The law -/

theorem texts_j10 (K : Value → Hp → Prop) (H0 : Hp) (hM : MaxL H0) (hK : ∀ H', H0.le H' → K (.bool true) H') (A : Option Addr) (n m : Nat) (l : List Nat) (hl : n = l.length) (hn : n ≤ 40) (hb : ∀ x ∈ l, x < 18446744073709551616) (hc : Cells H0 A (natV l))
    (H : Hp) (hs : Hw.Sep [own H0] H) : W_abacistlaw04_CodecTexts.j10 K A n m ⟨(textV l).toArray⟩ H := by
  unfold W_abacistlaw04_CodecTexts.j10
  have htl := textV_len hb
  refine Read_use hs (textV l) (by omega) (hM.le (hs.ow 0 rfl)) fun A5 m5 H1 hs => ?_
  simp only [List.cons_append, List.nil_append, List.set_cons_zero, List.set_cons_succ] at hs
  simp only [DI_int', DB_bool, DS_string, DP_pointer, DSl_slice, DM_map, DA_agg, DTup_tuple, DCons_cons, DNil_nil, NN_some, BIf_true, BIf_false, BIf_same, List.toList_toArray, Bool.not_true, Bool.not_false]
  have hcl := hc.le (hs.ow 0 rfl)
  refine HCalls.use (Check2_ok A n m l hl (by omega) H1 hcl) ?_
  simp only [DI_int', DB_bool, DS_string, DP_pointer, DSl_slice, DM_map, DA_agg, DTup_tuple, DCons_cons, DNil_nil, NN_some, BIf_true, BIf_false, BIf_same, List.toList_toArray, Bool.not_true, Bool.not_false]
  have hrt := readV_text l hb
  have hfb := fb_le l
  by_cases hg : ∀ x ∈ l, x < 18446744069414584321
  · rw [if_pos hg] at hrt
    rw [hrt] at hs ⊢
    rw [decide_eq_true (Nat.le_of_eq (fb_all.2 hg).symm)]
    refine BIf_neg rfl (BIf_beqp rfl ?_)
    have hcm : Cells H1 A5 (natV l) := own_cells1 (hs.own 1 rfl)
    rw [show ((l, 0, 0) : List Nat × Nat × Nat).1.length = n from hl.symm]
    refine HCalls.use (Same_ok A5 A n m5 m l hl (by omega) H1 hcm hcl) ?_
    simp only [DI_int', DB_bool, DS_string, DP_pointer, DSl_slice, DM_map, DA_agg, DTup_tuple, DCons_cons, DNil_nil, NN_some, BIf_true, BIf_false, BIf_same, List.toList_toArray, Bool.not_true, Bool.not_false]
    exact hK _ (hs.ow 0 rfl)
  · rw [if_neg hg] at hrt
    have hne : fb l ≠ l.length := fun e => hg (fb_all.1 e)
    rw [decide_eq_false (by omega)]
    refine BIf_pos rfl ?_
    rw [hrt]
    exact hK _ (hs.ow 0 rfl)

theorem CodecTexts_ok (A : Option Addr) (n m : Nat) (ws : List UInt64) (hl : n = ws.length) (s : ByteArray) (H0 : Hp) (hM : MaxL H0) (hP : P10 H0) (hc : Cells H0 A (wordVals ws)) :
    HCalls Tryd.prog 7 #[.slice A n m, .string s] H0 (Ret (.bool true) H0) := by
  obtain ⟨⟨s⟩⟩ := s
  apply W_abacistlaw04_CodecTexts.ok
  unfold W_abacistlaw04_CodecTexts
  have hK : ∀ H', H0.le H' → Ret (.bool true) H0 (.bool true) H' := fun H' h => ⟨rfl, h⟩
  refine HCalls.use (awake_ok H0 hM) ?_
  simp only [DI_int', DB_bool, DS_string, DP_pointer, DSl_slice, DM_map, DA_agg, DTup_tuple, DCons_cons, DNil_nil, NN_some, BIf_true, BIf_false, BIf_same, List.toList_toArray, Bool.not_true, Bool.not_false]
  by_cases hn : n > 40
  · exact BIf_dpos (by omega) (hK _ (Hp.le_refl _))
  refine BIf_dneg (by omega) ?_
  have hsz : (⟨⟨s⟩⟩ : ByteArray).size = s.length := rfl
  rw [hsz]
  by_cases hs3 : s.length > 300
  · exact BIf_dpos (by omega) (hK _ (Hp.le_refl _))
  refine BIf_dneg (by omega) ?_
  rw [← natV_words] at hc
  have hb := words_lt ws
  have hln : n = (ws.map UInt64.toNat).length := by rw [List.length_map]; exact hl
  generalize ws.map UInt64.toNat = l at *
  have hn : n ≤ 40 := by omega
  refine HCalls.use (Text_ok A n m l hln (by omega) hb H0 hP hc) ?_
  simp only [DI_int', DB_bool, DS_string, DP_pointer, DSl_slice, DM_map, DA_agg, DTup_tuple, DCons_cons, DNil_nil, NN_some, BIf_true, BIf_false, BIf_same, List.toList_toArray, Bool.not_true, Bool.not_false]
  refine Read_use (Sep.start H0) s (by omega) hM fun A2 m2 H1 hs => ?_
  simp only [DI_int', DB_bool, DS_string, DP_pointer, DSl_slice, DM_map, DA_agg, DTup_tuple, DCons_cons, DNil_nil, NN_some, BIf_true, BIf_false, BIf_same, List.toList_toArray, Bool.not_true, Bool.not_false]
  refine New.use hs (rRead_ok s (by omega) H1) fun A3 m3 H1 hs => ?_
  simp only [List.cons_append, List.nil_append, List.set_cons_zero, List.set_cons_succ] at hs
  simp only [DI_int', DB_bool, DS_string, DP_pointer, DSl_slice, DM_map, DA_agg, DTup_tuple, DCons_cons, DNil_nil, NN_some, BIf_true, BIf_false, BIf_same, List.toList_toArray, Bool.not_true, Bool.not_false]
  have hrl := readV_len s
  refine HCalls.use (rText_ok A n m l hln (by omega) hb H1 (hc.le (hs.ow 0 rfl))) ?_
  simp only [DI_int', DB_bool, DS_string, DP_pointer, DSl_slice, DM_map, DA_agg, DTup_tuple, DCons_cons, DNil_nil, NN_some, BIf_true, BIf_false, BIf_same, List.toList_toArray, Bool.not_true, Bool.not_false]
  refine BIf_neg (by simp) ?_
  refine HCalls.use (Same_ok A2 A3 _ m2 m3 (readV s).1 rfl (by omega) H1 (own_cells1 (hs.own 1 rfl)) (own_cells1 (hs.own 2 rfl))) ?_
  simp only [DI_int', DB_bool, DS_string, DP_pointer, DSl_slice, DM_map, DA_agg, DTup_tuple, DCons_cons, DNil_nil, NN_some, BIf_true, BIf_false, BIf_same, List.toList_toArray, Bool.not_true, Bool.not_false]
  refine BIf_bnen rfl (BIf_bnen rfl ?_)
  have hj := texts_j10 _ H0 hM hK A n m l hln hn hb hc H1 (hs.re [0] rfl)
  by_cases he : (readV s).2.2 = 0
  · refine BIf_beqp (by omega) ?_
    obtain ⟨g1, g2⟩ := readV_ok he
    refine HCalls.use (Text_ok A2 _ m2 (readV s).1 rfl (by omega) (fun x hx => by have := g2 x hx; omega) H1 (hP.le (hs.ow 0 rfl)) (own_cells1 (hs.own 1 rfl))) ?_
    rw [g1]
    simp only [DI_int', DB_bool, DS_string, DP_pointer, DSl_slice, DM_map, DA_agg, DTup_tuple, DCons_cons, DNil_nil, NN_some, BIf_true, BIf_false, BIf_same, List.toList_toArray, Bool.not_true, Bool.not_false]
    refine BIf_neg ?_ hj
    rw [show ((⟨s.toArray⟩ : ByteArray).toList == (⟨⟨s⟩⟩ : ByteArray).toList) = true from ba_eq rfl]; rfl
  · exact BIf_beqn (by omega) hj

end Go.Proofs.YtbnhfcdagoigkaaDoor.Cod

end
section
/-! LayC -/
/- Contracts of the library's functions, laid at this program (printed by lay2.py). -/
set_option maxRecDepth 100000
namespace Go.Proofs.YtbnhfcdagoigkaaDoor.Lib2
open Go Go.Proofs Go.Shelf Go.RowKit
def cutSL_ren : Go.Shelf.Ren := ⟨fun | 145 => 92 | 220 => 125 | 219 => 167 | 217 => 201 | 225 => 202 | 224 => 203 | 267 => 204 | 266 => 220 | 314 => 221 | n => n, fun | 9 => 9 | 4 => 4 | 59 => 172 | 3 => 3 | 5 => 5 | 46 => 40 | 146 => 311 | 51 => 23 | n => n, fun | 1 => 7 | n => n⟩
theorem cutSL : Go.Proofs.Lays.n145 Tryd.prog cutSL_ren where
  mixed := by kernel_rfl
  f145 := Tryd.func92.trans (congrArg some (by kernel_rfl))
  f217 := Tryd.func201.trans (congrArg some (by kernel_rfl))
  f219 := Tryd.func167.trans (congrArg some (by kernel_rfl))
  f220 := Tryd.func125.trans (congrArg some (by kernel_rfl))
  f224 := Tryd.func203.trans (congrArg some (by kernel_rfl))
  f225 := Tryd.func202.trans (congrArg some (by kernel_rfl))
  f266 := Tryd.func220.trans (congrArg some (by kernel_rfl))
  f267 := Tryd.func204.trans (congrArg some (by kernel_rfl))
  f314 := Tryd.func221.trans (congrArg some (by kernel_rfl))
  t3 := Tryd.underlying3
  a3 := Tryd.isAgg3
  z3 := Tryd.sizeOf3
  v3 := Tryd.zeroValue3
  t4 := Tryd.underlying4
  a4 := Tryd.isAgg4
  z4 := Tryd.sizeOf4
  v4 := Tryd.zeroValue4
  t5 := Tryd.underlying5
  a5 := Tryd.isAgg5
  z5 := Tryd.sizeOf5
  v5 := Tryd.zeroValue5
  t9 := Tryd.underlying9
  a9 := Tryd.isAgg9
  z9 := Tryd.sizeOf9
  v9 := Tryd.zeroValue9
  t46 := Tryd.underlying40
  a46 := Tryd.isAgg40
  z46 := Tryd.sizeOf40
  v46 := Tryd.zeroValue40
  t51 := Tryd.underlying23
  a51 := Tryd.isAgg23
  z51 := Tryd.sizeOf23
  v51 := Tryd.zeroValue23
  t59 := Tryd.underlying172
  a59 := Tryd.isAgg172
  z59 := Tryd.sizeOf172
  v59 := Tryd.zeroValue172
  t146 := Tryd.underlying311
  a146 := Tryd.isAgg311
  z146 := Tryd.sizeOf311
  v146 := Tryd.zeroValue311
  g1 := by kernel_rfl
end Go.Proofs.YtbnhfcdagoigkaaDoor.Lib2

end
section
/-! HwF -/
/- The frame of the proofs: the library's Cut at one byte; a table read at once. -/
set_option maxRecDepth 100000
set_option linter.unusedSimpArgs false
set_option linter.unusedVariables false
set_option linter.unnecessarySimpa false
set_option linter.unusedSectionVars false
namespace Go.Hw
open Go Go.Proofs Go.Proofs.YtbnhfcdagoigkaaDoor.Lib2 Go.RowKit Go.Shelf

theorem cut_hit (c : UInt8) (w r : List UInt8) (h : c ∉ w) : Lib.cut (w ++ c :: r) [c] = (w, r, true) := by
  have hg : (w ++ c :: r)[w.length]? = some c := by simp
  have hi : Lib.index (w ++ c :: r) [c] = (w.length : Int) := by
    rw [Lib.index_one]
    rcases Int.lt_or_le (Lib.indexByte (w ++ c :: r) c) 0 with h1 | h1
    · have := Lib.indexByte_ge (w ++ c :: r) c
      exact absurd hg (Lib.indexByte_none (show Lib.indexByte (w ++ c :: r) c = -1 by omega) _)
    · obtain ⟨o, ho⟩ := Int.eq_ofNat_of_zero_le h1
      obtain ⟨g1, g2⟩ := Lib.indexByte_some ho
      rw [ho]
      rcases Nat.lt_trichotomy o w.length with h2 | h2 | h2
      · rw [List.getElem?_append_left h2] at g1
        exact absurd (List.mem_of_getElem? g1) h
      · rw [h2]
      · exact absurd hg (g2 _ h2)
  unfold Lib.cut
  rw [hi, if_pos (by omega), Int.toNat_natCast]
  simp
theorem cut_miss (c : UInt8) (s : List UInt8) (h : c ∉ s) : Lib.cut s [c] = (s, [], false) := by
  have hi : Lib.index s [c] = -1 := by
    rw [Lib.index_one]
    rcases Int.lt_or_le (Lib.indexByte s c) 0 with h1 | h1
    · have := Lib.indexByte_ge s c
      omega
    · obtain ⟨o, ho⟩ := Int.eq_ofNat_of_zero_le h1
      exact absurd (List.mem_of_getElem? (Lib.indexByte_some ho).1) h
  unfold Lib.cut
  rw [hi, if_neg (by decide)]
theorem cut_cases (c : UInt8) (s : List UInt8) : c ∉ s ∨ ∃ w r, c ∉ w ∧ s = w ++ c :: r := by
  by_cases h : c ∈ s
  · obtain ⟨w, r, h1, h2⟩ := List.append_of_mem h |> fun _ => List.eq_append_cons_of_mem h
    exact .inr ⟨w, r, h2, h1⟩
  · exact .inl h

/-- strings.Cut at one byte. -/
theorem Cut_hc (s : List UInt8) (c : UInt8) (hs : s.length < 4294967281) (H : Hp) (hM : MaxL H) :
    HCalls Tryd.prog 92 #[.string ⟨⟨s⟩⟩, .string ⟨#[c]⟩] H (RetE (.tuple #[.string ⟨⟨(Lib.cut s [c]).1⟩⟩, .string ⟨⟨(Lib.cut s [c]).2.1⟩⟩, .bool (Lib.cut s [c]).2.2]) H) := fun w hw => by
  obtain ⟨m, hm⟩ := hM
  refine (Any.strings_Cut cutSL ⟨⟨s⟩⟩ ⟨#[c]⟩ m w hs (Fits.cell? hw hm)).mono ?_
  rintro e w' ⟨rfl, n, rfl⟩
  exact ⟨_, H, rfl, ⟨rfl, rfl⟩, At.drewN (At.refl hw) n⟩

theorem cells_all {H : Hp} {a : Addr} : ∀ (vs : List Value) (i : Nat), (∀ j v, vs[j]? = some v → H.cell? (a.add (i + j)) = some v) → H.cells? a i vs.length = some vs
  | [], _, _ => rfl
  | v :: vs, i, h => by
    have h0 := h 0 v rfl
    have ih := cells_all vs (i + 1) fun j u hj => by
      have := h (j + 1) u (by simpa using hj)
      rwa [show i + (j + 1) = i + 1 + j by omega] at this
    show H.cells? a i (vs.length + 1) = _
    unfold Hp.cells?
    rw [Nat.add_zero] at h0
    rw [h0, ih]
theorem Cells.all {H : Hp} {a : Addr} {vs : List Value} (h : Cells H (some a) vs) {n : Nat} (hn : n = vs.length) {K : List Value → Prop} (k : K vs) : LdA H a n K := by
  subst hn
  unfold LdA
  rw [cells_all vs 0 fun j v hj => by
    obtain ⟨a', ha, hc⟩ := h j v hj
    cases ha
    rw [Nat.zero_add]; exact hc]
  exact k

end Go.Hw

end
