/- Formulas of functions, printed by wip/tools/hwp.py. -/
import Derived.Test.YtgkdkemhiglpdaaHwE
import Derived.Test.YtgkdkemhiglpdaaProg
set_option maxRecDepth 100000
set_option linter.unusedVariables false
namespace Go.Proofs.Ytgkdkemhiglpdaa.W
open Go Go.Hw

theorem mix : Try.prog.follows .mixedOrders = true := by kernel_rfl
-- abacistref18.Take
def W_abacistref18_Take.l5 (K : Value → Hp → Prop) : Nat → ByteArray → Addr → Int → Int → Hp → Prop
  | 0, _, _, _, _, _ => False
  | k + 1, s2, a1, x3, x4, H =>
    let R5 := W_abacistref18_Take.l5 K k
    BIf (decide (x4 < ((s2.size : Nat) : Int))) ((0 ≤ x4 ∧ ixB s2 x4.toNat fun x5 => BIf (x5 != (0 : Int)) (StA H a1 #[.int .i64 (0 : Int), .int .i64 (0 : Int), .int .i64 (0 : Int), .int .i64 (0 : Int)] 4 fun H5 => LdA H5 a1 4 fun l4 => K (.tuple #[.agg l4.toArray, .int .i64 (10 : Int)]) H5) (R5 s2 a1 x3 (IntKind.i64.wrap (x4 + (1 : Int))) H))) (((4294967296 : Int) ≠ 0 ∧ IntKind.u64 = IntKind.u64 ∧ BIf ((IntKind.u64.wrap (Int.tdiv x3 (4294967296 : Int))) != (1094861123 : Int)) (StA H a1 #[.int .i64 (0 : Int), .int .i64 (0 : Int), .int .i64 (0 : Int), .int .i64 (0 : Int)] 4 fun H6 => LdA H6 a1 4 fun l5 => K (.tuple #[.agg l5.toArray, .int .i64 (10 : Int)]) H6) (HCalls Try.prog 48 #[.string s2, .int .i64 (8 : Int)] H fun v3 H7 => DI .u64 v3 fun x6 => HCalls Try.prog 48 #[.string s2, .int .i64 (16 : Int)] H7 fun v4 H8 => DI .u64 v4 fun x7 => HCalls Try.prog 48 #[.string s2, .int .i64 (24 : Int)] H8 fun v5 H9 => DI .u64 v5 fun x8 => Nw H9 (.row [.int .u64 x3, .int .u64 x6, .int .u64 x7] 94 3) fun b2 H10 => HCalls Try.prog 49 #[.slice (some ⟨b2, 0, none⟩) 3 3] H10 fun v6 H11 => DI .u32 v6 fun x9 => BIf (x8 != (IntKind.u64.wrap x9)) (StA H11 a1 #[.int .i64 (0 : Int), .int .i64 (0 : Int), .int .i64 (0 : Int), .int .i64 (0 : Int)] 4 fun H12 => LdA H12 a1 4 fun l6 => K (.tuple #[.agg l6.toArray, .int .i64 (9 : Int)]) H12) (((65536 : Int) ≠ 0 ∧ IntKind.u64 = IntKind.u64 ∧ ((65536 : Int) ≠ 0 ∧ IntKind.u64 = IntKind.u64 ∧ Nw H11 (.obj (.cells #[.int .i64 (0 : Int), .int .i64 (0 : Int), .int .i64 (0 : Int), .int .i64 (0 : Int)] 23)) fun b3 H13 => StA H13 (⟨b3, 0, none⟩ : Addr) #[.int .i64 (IntKind.i64.wrap (Int.tmod (IntKind.u64.wrap (Int.tdiv x3 (65536 : Int))) (65536 : Int))), .int .i64 (IntKind.i64.wrap x6), .int .i64 ((s2.size : Nat) : Int), .int .i64 (IntKind.i64.wrap x7)] 4 fun H14 => LdA H14 (⟨b3, 0, none⟩ : Addr) 4 fun l1 => HCalls Try.prog 13 #[.agg l1.toArray] H14 fun v7 H15 => DB v7 fun c1 => BIf (!c1) (StA H15 a1 #[.int .i64 (0 : Int), .int .i64 (0 : Int), .int .i64 (0 : Int), .int .i64 (0 : Int)] 4 fun H17 => LdA H17 a1 4 fun l7 => K (.tuple #[.agg l7.toArray, .int .i64 (1 : Int)]) H17) (((65536 : Int) ≠ 0 ∧ IntKind.u64 = IntKind.u64 ∧ HCalls Try.prog 47 #[.int .i64 ((s2.size : Nat) : Int)] H15 fun v8 H16 => DI .i64 v8 fun x10 => BIf ((IntKind.i64.wrap (Int.tmod x3 (65536 : Int))) != x10) (StA H16 a1 #[.int .i64 (0 : Int), .int .i64 (0 : Int), .int .i64 (0 : Int), .int .i64 (0 : Int)] 4 fun H18 => LdA H18 a1 4 fun l8 => K (.tuple #[.agg l8.toArray, .int .i64 (1 : Int)]) H18) (LdA H16 (⟨b3, 0, none⟩ : Addr) 4 fun l2 => StA H16 a1 l2.toArray 4 fun H19 => LdA H19 a1 4 fun l9 => K (.tuple #[.agg l9.toArray, .int .i64 (0 : Int)]) H19)))))))))
def W_abacistref18_Take (s1 : ByteArray) (H : Hp) (K : Value → Hp → Prop) : Prop :=
  Nw H (.obj (.cells #[.int .i64 (0 : Int), .int .i64 (0 : Int), .int .i64 (0 : Int), .int .i64 (0 : Int)] 23)) fun b1 H1 => HCalls Try.prog 47 #[.int .i64 ((s1.size : Nat) : Int)] H1 fun v1 H2 => DI .i64 v1 fun x1 => BIf (decide (x1 < (0 : Int))) (StA H2 (⟨b1, 0, none⟩ : Addr) #[.int .i64 (0 : Int), .int .i64 (0 : Int), .int .i64 (0 : Int), .int .i64 (0 : Int)] 4 fun H3 => LdA H3 (⟨b1, 0, none⟩ : Addr) 4 fun l3 => K (.tuple #[.agg l3.toArray, .int .i64 (15 : Int)]) H3) (HCalls Try.prog 48 #[.string s1, .int .i64 (0 : Int)] H2 fun v2 H4 => DI .u64 v2 fun x2 => (∃ k, W_abacistref18_Take.l5 K k s1 (⟨b1, 0, none⟩ : Addr) x2 (32 : Int) H4))
def W_abacistref18_Take.l5.L (K : Value → Hp → Prop) (k : Nat) : Mid := fun E D H =>
  DG (E.get? 0) fun w0 => DS w0 fun s2 => DG (E.get? 2) fun w2 => DP w2 fun pw2 => NN pw2 fun a1 => DG (E.get? 4) fun w4 => DI .u64 w4 fun x3 => DG (E.get? 5) fun w5 => DI .i64 w5 fun x4 => DNilD D (W_abacistref18_Take.l5 K k s2 a1 x3 x4 H)
def W_abacistref18_Take.Λ5 (_ : Value → Hp → Prop) (_R5 : ByteArray → Addr → Int → Int → Hp → Prop) : Cuts := Cuts.none (fun _ => none)
def W_abacistref18_Take.Λ (K : Value → Hp → Prop) : Cuts := ⟨fun i => none, fun i => match Nat.beq i 5 with | true => some (fun E D H => ∃ k, W_abacistref18_Take.l5.L K k E D H) | false => none, (fun _ => none)⟩
theorem W_abacistref18_Take.ok (s1 : ByteArray) (H : Hp) (K : Value → Hp → Prop) (h : W_abacistref18_Take s1 H K) : HCalls Try.prog 11 #[.string s1] H K :=
  hcalls Try.func11 rfl (Nat.le_of_ble_eq_true rfl) (hw_safe (Λ := (W_abacistref18_Take.Λ K)) mix _ _ _ _ _ (Eq.mp (by kernel_rfl) h) (obs_seq obs_region rfl (obs_seq (obs_seq obs_region rfl (obs_cond (obs_seq obs_region rfl obs_ret) obs_skip)) rfl (obs_seq obs_region rfl (obs_seq (obs_seq obs_region rfl (obs_block (obs_loop rfl (fun E D H h => by
      refine Safe.loop' (W_abacistref18_Take.l5.L K) (fun E D H h => ?_) (fun k E D H h => ?_) E D H h
      · obtain ⟨w0, e0, g1⟩ := DG.out h; obtain ⟨s2, rfl, g2⟩ := DS.out g1; obtain ⟨w2, e2, g3⟩ := DG.out g2; obtain ⟨pw2, rfl, g4⟩ := DP.out g3; obtain ⟨a1, rfl, g5⟩ := NN.out g4; obtain ⟨w4, e4, g6⟩ := DG.out g5; obtain ⟨x3, rfl, g7⟩ := DI.out g6; obtain ⟨w5, e5, g8⟩ := DG.out g7; obtain ⟨x4, rfl, g9⟩ := DI.out g8; obtain ⟨rfl, h'⟩ := DNilD.out g9; exact h'
      · obtain ⟨w0, e0, g1⟩ := DG.out h
        obtain ⟨s2, rfl, g2⟩ := DS.out g1
        obtain ⟨w2, e2, g3⟩ := DG.out g2
        obtain ⟨pw2, rfl, g4⟩ := DP.out g3
        obtain ⟨a1, rfl, g5⟩ := NN.out g4
        obtain ⟨w4, e4, g6⟩ := DG.out g5
        obtain ⟨x3, rfl, g7⟩ := DI.out g6
        obtain ⟨w5, e5, g8⟩ := DG.out g7
        obtain ⟨x4, rfl, g9⟩ := DI.out g8
        obtain ⟨rfl, h'⟩ := DNilD.out g9
        exact (hw_safe (Λ := (W_abacistref18_Take.Λ5 K (W_abacistref18_Take.l5 K k))) mix _ _ [(0, .string s2), (2, .pointer (some a1)), (4, .int .u64 x3), (5, .int .i64 x4)] [] H (Eq.mp (by kernel_rfl) h') (obs_seq (obs_seq obs_region rfl (obs_cond obs_skip obs_exit)) rfl (obs_seq (obs_block (obs_seq obs_region rfl (obs_cond (obs_seq obs_region rfl obs_ret) obs_skip))) rfl obs_region))).weaken (EnvLe.cons e0 (EnvLe.cons e2 (EnvLe.cons e4 (EnvLe.cons e5 (EnvLe.nil _))))) (Hp.le_refl _))))) rfl (obs_seq (obs_seq obs_region rfl (obs_cond (obs_seq obs_region rfl obs_ret) obs_skip)) rfl (obs_seq obs_region rfl (obs_seq obs_region rfl (obs_seq (obs_seq obs_region rfl (obs_cond (obs_seq obs_region rfl obs_ret) obs_skip)) rfl (obs_seq obs_region rfl (obs_seq (obs_seq obs_region rfl (obs_cond (obs_seq obs_region rfl obs_ret) obs_skip)) rfl (obs_seq obs_region rfl obs_ret))))))))))))

-- abacistref18.Good
def W_abacistref18_Good (x1 : Int) (x2 : Int) (x3 : Int) (x4 : Int) (H : Hp) (K : Value → Hp → Prop) : Prop :=
  Nw H (.obj (.cells #[.int .i64 x1, .int .i64 x2, .int .i64 x3, .int .i64 x4] 23)) fun b1 H1 => Ld H1 ((⟨b1, 0, none⟩ : Addr).add 2) fun v1 => DI .i64 v1 fun x5 => QCall Try.prog 47 #[.int .i64 x5] H1 fun v2 => DI .i64 v2 fun x6 => BIf (decide (x6 ≥ (0 : Int))) (Ld H1 ((⟨b1, 0, none⟩ : Addr).add 0) fun v3 => DI .i64 v3 fun x7 => BIf (decide (x7 ≥ (0 : Int))) (Ld H1 ((⟨b1, 0, none⟩ : Addr).add 0) fun v4 => DI .i64 v4 fun x8 => BIf (decide (x8 ≤ (32 : Int))) (Ld H1 ((⟨b1, 0, none⟩ : Addr).add 1) fun v5 => DI .i64 v5 fun x9 => Ld H1 ((⟨b1, 0, none⟩ : Addr).add 0) fun v6 => DI .i64 v6 fun x10 => Ld H1 ((⟨b1, 0, none⟩ : Addr).add 2) fun v7 => DI .i64 v7 fun x11 => QCall Try.prog 51 #[.int .i64 x10, .int .i64 x11] H1 fun v8 => DI .i64 v8 fun x12 => BIf (decide (x9 ≥ x12)) (Ld H1 ((⟨b1, 0, none⟩ : Addr).add 3) fun v9 => DI .i64 v9 fun x13 => BIf (decide (x13 ≥ (1 : Int))) (Ld H1 ((⟨b1, 0, none⟩ : Addr).add 3) fun v10 => DI .i64 v10 fun x14 => K (.bool (decide (x14 ≤ (16777216 : Int)))) H1) (K (.bool false) H1)) (K (.bool false) H1)) (K (.bool false) H1)) (K (.bool false) H1)) (K (.bool false) H1)
def W_abacistref18_Good.Λ (_ : Value → Hp → Prop) : Cuts := Cuts.none (fun _ => none)
theorem W_abacistref18_Good.ok (x1 : Int) (x2 : Int) (x3 : Int) (x4 : Int) (H : Hp) (K : Value → Hp → Prop) (h : W_abacistref18_Good x1 x2 x3 x4 H K) : HCalls Try.prog 13 #[.agg #[.int .i64 x1, .int .i64 x2, .int .i64 x3, .int .i64 x4]] H K :=
  hcalls Try.func13 rfl (Nat.le_of_ble_eq_true rfl) (hw_safe (Λ := Cuts.none (fun _ => none)) mix _ _ _ _ _ (Eq.mp (by kernel_rfl) h) (obs_none _ _ _ _ _))

-- abacistref18.Put
def W_abacistref18_Put.l3 (K : Value → Hp → Prop) : Nat → Addr → ByteArray → Hp → Prop
  | 0, _, _, _ => False
  | k + 1, a1, s2, H =>
    let R3 := W_abacistref18_Put.l3 K k
    Ld H (a1.add 2) fun v9 => DI .i64 v9 fun x11 => BIf (decide (((s2.size : Nat) : Int) < x11)) ((s2.size + ((⟨#[0]⟩) : ByteArray).size ≤ 4611686018427387904 ∧ R3 a1 (s2 ++ (⟨#[0]⟩)) H)) (K (.string s2) H)
def W_abacistref18_Put (x1 : Int) (x2 : Int) (x3 : Int) (x4 : Int) (H : Hp) (K : Value → Hp → Prop) : Prop :=
  Nw H (.obj (.cells #[.int .i64 x1, .int .i64 x2, .int .i64 x3, .int .i64 x4] 23)) fun b1 H1 => Ld H1 ((⟨b1, 0, none⟩ : Addr).add 0) fun v1 => DI .i64 v1 fun x5 => Ld H1 ((⟨b1, 0, none⟩ : Addr).add 2) fun v2 => DI .i64 v2 fun x6 => QCall Try.prog 47 #[.int .i64 x6] H1 fun v3 => DI .i64 v3 fun x7 => Ld H1 ((⟨b1, 0, none⟩ : Addr).add 1) fun v4 => DI .i64 v4 fun x8 => Ld H1 ((⟨b1, 0, none⟩ : Addr).add 3) fun v5 => DI .i64 v5 fun x9 => Nw H1 (.row [.int .u64 (IntKind.u64.wrap ((IntKind.u64.wrap ((4702392716946833408 : Int) + (IntKind.u64.wrap ((IntKind.u64.wrap x5) * (65536 : Int))))) + (IntKind.u64.wrap x7))), .int .u64 (IntKind.u64.wrap x8), .int .u64 (IntKind.u64.wrap x9)] 94 3) fun b2 H2 => HCalls Try.prog 49 #[.slice (some ⟨b2, 0, none⟩) 3 3] H2 fun v6 H3 => DI .u32 v6 fun x10 => Nw H3 (.row [.int .u64 (IntKind.u64.wrap x10)] 94 1) fun b3 H4 => AppK Try.prog 94 (.slice (some ⟨b2, 0, none⟩) 3 3) (.slice (some ⟨b3, 0, none⟩) 1 1) H4 fun v7 H5 => DSl v7 fun A1 n1 m1 => HCalls Try.prog 52 #[.slice A1 n1 m1] H5 fun v8 H6 => DS v8 fun s1 => (∃ k, W_abacistref18_Put.l3 K k (⟨b1, 0, none⟩ : Addr) s1 H6)
def W_abacistref18_Put.l3.L (K : Value → Hp → Prop) (k : Nat) : Mid := fun E D H =>
  DG (E.get? 1) fun w1 => DP w1 fun pw1 => NN pw1 fun a1 => DG (E.get? 4) fun w4 => DS w4 fun s2 => DNilD D (W_abacistref18_Put.l3 K k a1 s2 H)
def W_abacistref18_Put.Λ3 (_ : Value → Hp → Prop) (_R3 : Addr → ByteArray → Hp → Prop) : Cuts := Cuts.none (fun i => match Nat.beq i 1 with | true => some ([], [0, 1, 2, 3, 4, 5, 6, 7, 8, 9, 10, 11, 12, 13, 14, 15], 16) | false => none)
def W_abacistref18_Put.Λ (K : Value → Hp → Prop) : Cuts := ⟨fun i => none, fun i => match Nat.beq i 3 with | true => some (fun E D H => ∃ k, W_abacistref18_Put.l3.L K k E D H) | false => none, (fun i => match Nat.beq i 1 with | true => some ([], [0, 1, 2, 3, 4, 5, 6, 7, 8, 9, 10, 11, 12, 13, 14, 15], 16) | false => none)⟩
theorem W_abacistref18_Put.ok (x1 : Int) (x2 : Int) (x3 : Int) (x4 : Int) (H : Hp) (K : Value → Hp → Prop) (h : W_abacistref18_Put x1 x2 x3 x4 H K) : HCalls Try.prog 15 #[.agg #[.int .i64 x1, .int .i64 x2, .int .i64 x3, .int .i64 x4]] H K :=
  hcalls Try.func15 rfl (Nat.le_of_ble_eq_true rfl) (hw_safe (Λ := (W_abacistref18_Put.Λ K)) mix _ _ _ _ _ (Eq.mp (by kernel_rfl) h) (obs_seq obs_region rfl (obs_seq obs_region rfl (obs_seq obs_region rfl (obs_seq (obs_block (obs_loop rfl (fun E D H h => by
      refine Safe.loop' (W_abacistref18_Put.l3.L K) (fun E D H h => ?_) (fun k E D H h => ?_) E D H h
      · obtain ⟨w1, e1, g1⟩ := DG.out h; obtain ⟨pw1, rfl, g2⟩ := DP.out g1; obtain ⟨a1, rfl, g3⟩ := NN.out g2; obtain ⟨w4, e4, g4⟩ := DG.out g3; obtain ⟨s2, rfl, g5⟩ := DS.out g4; obtain ⟨rfl, h'⟩ := DNilD.out g5; exact h'
      · obtain ⟨w1, e1, g1⟩ := DG.out h
        obtain ⟨pw1, rfl, g2⟩ := DP.out g1
        obtain ⟨a1, rfl, g3⟩ := NN.out g2
        obtain ⟨w4, e4, g4⟩ := DG.out g3
        obtain ⟨s2, rfl, g5⟩ := DS.out g4
        obtain ⟨rfl, h'⟩ := DNilD.out g5
        exact (hw_safe (Λ := (W_abacistref18_Put.Λ3 K (W_abacistref18_Put.l3 K k))) mix _ _ [(1, .pointer (some a1)), (4, .string s2)] [] H (Eq.mp (by kernel_rfl) h') (obs_seq (obs_seq obs_region rfl (obs_cond obs_skip obs_exit)) rfl (obs_block obs_region))).weaken (EnvLe.cons e1 (EnvLe.cons e4 (EnvLe.nil _))) (Hp.le_refl _)))) rfl (obs_seq obs_region rfl obs_ret))))))

-- abacistref18.Log
def W_abacistref18_Log.l3 (K : Value → Hp → Prop) : Nat → Int → Int → Int → Hp → Prop
  | 0, _, _, _, _ => False
  | k + 1, x2, x3, x4, H =>
    let R3 := W_abacistref18_Log.l3 K k
    BIf (decide (x4 ≤ (12 : Int))) (BIf (x2 == x3) (K (.int .i64 x4) H) (R3 x2 (IntKind.i64.wrap ((2 : Int) * x3)) (IntKind.i64.wrap (x4 + (1 : Int))) H)) (K (.int .i64 (-1 : Int)) H)
def W_abacistref18_Log (x1 : Int) (H : Hp) (K : Value → Hp → Prop) : Prop :=
  (∃ k, W_abacistref18_Log.l3 K k x1 (32 : Int) (5 : Int) H)
def W_abacistref18_Log.l3.L (K : Value → Hp → Prop) (k : Nat) : Mid := fun E D H =>
  DG (E.get? 0) fun w0 => DI .i64 w0 fun x2 => DG (E.get? 3) fun w3 => DI .i64 w3 fun x3 => DG (E.get? 4) fun w4 => DI .i64 w4 fun x4 => DNilD D (W_abacistref18_Log.l3 K k x2 x3 x4 H)
def W_abacistref18_Log.Λ3 (_ : Value → Hp → Prop) (_R3 : Int → Int → Int → Hp → Prop) : Cuts := Cuts.none (fun _ => none)
def W_abacistref18_Log.Λ (K : Value → Hp → Prop) : Cuts := ⟨fun i => none, fun i => match Nat.beq i 3 with | true => some (fun E D H => ∃ k, W_abacistref18_Log.l3.L K k E D H) | false => none, (fun _ => none)⟩
theorem W_abacistref18_Log.ok (x1 : Int) (H : Hp) (K : Value → Hp → Prop) (h : W_abacistref18_Log x1 H K) : HCalls Try.prog 47 #[.int .i64 x1] H K :=
  hcalls Try.func47 rfl (Nat.le_of_ble_eq_true rfl) (hw_safe (Λ := (W_abacistref18_Log.Λ K)) mix _ _ _ _ _ (Eq.mp (by kernel_rfl) h) (obs_seq obs_region rfl (obs_seq obs_region rfl (obs_seq (obs_seq obs_region rfl (obs_block (obs_loop rfl (fun E D H h => by
      refine Safe.loop' (W_abacistref18_Log.l3.L K) (fun E D H h => ?_) (fun k E D H h => ?_) E D H h
      · obtain ⟨w0, e0, g1⟩ := DG.out h; obtain ⟨x2, rfl, g2⟩ := DI.out g1; obtain ⟨w3, e3, g3⟩ := DG.out g2; obtain ⟨x3, rfl, g4⟩ := DI.out g3; obtain ⟨w4, e4, g5⟩ := DG.out g4; obtain ⟨x4, rfl, g6⟩ := DI.out g5; obtain ⟨rfl, h'⟩ := DNilD.out g6; exact h'
      · obtain ⟨w0, e0, g1⟩ := DG.out h
        obtain ⟨x2, rfl, g2⟩ := DI.out g1
        obtain ⟨w3, e3, g3⟩ := DG.out g2
        obtain ⟨x3, rfl, g4⟩ := DI.out g3
        obtain ⟨w4, e4, g5⟩ := DG.out g4
        obtain ⟨x4, rfl, g6⟩ := DI.out g5
        obtain ⟨rfl, h'⟩ := DNilD.out g6
        exact (hw_safe (Λ := (W_abacistref18_Log.Λ3 K (W_abacistref18_Log.l3 K k))) mix _ _ [(0, .int .i64 x2), (3, .int .i64 x3), (4, .int .i64 x4)] [] H (Eq.mp (by kernel_rfl) h') (obs_seq (obs_seq obs_region rfl (obs_cond obs_skip obs_exit)) rfl (obs_seq (obs_block (obs_seq (obs_seq obs_region rfl (obs_cond (obs_seq obs_region rfl obs_ret) obs_skip)) rfl obs_region)) rfl obs_region))).weaken (EnvLe.cons e0 (EnvLe.cons e3 (EnvLe.cons e4 (EnvLe.nil _)))) (Hp.le_refl _))))) rfl (obs_seq obs_region rfl obs_ret)))))

-- abacistref18.Need
def W_abacistref18_Need.l3 (K : Value → Hp → Prop) : Nat → Int → Int → Int → Int → Hp → Prop
  | 0, _, _, _, _, _ => False
  | k + 1, x3, x4, x5, x6, H =>
    let R3 := W_abacistref18_Need.l3 K k
    BIf (decide (x6 < x3)) (R3 x3 x4 (IntKind.i64.wrap ((2 : Int) * x5)) (IntKind.i64.wrap (x6 + (1 : Int))) H) (((8 : Int) ≠ 0 ∧ IntKind.i64 = IntKind.i64 ∧ BIf (decide (x5 ≤ (IntKind.i64.wrap (Int.tdiv x4 (8 : Int))))) (K (.int .i64 (13 : Int)) H) (((IntKind.i64.wrap (Int.tdiv x4 (8 : Int))) ≠ 0 ∧ IntKind.i64 = IntKind.i64 ∧ K (.int .i64 (IntKind.i64.wrap ((9 : Int) + (IntKind.i64.wrap ((4 : Int) * (IntKind.i64.wrap (Int.tdiv x5 (IntKind.i64.wrap (Int.tdiv x4 (8 : Int)))))))))) H))))
def W_abacistref18_Need (x1 : Int) (x2 : Int) (H : Hp) (K : Value → Hp → Prop) : Prop :=
  (∃ k, W_abacistref18_Need.l3 K k x1 x2 (1 : Int) (0 : Int) H)
def W_abacistref18_Need.l3.L (K : Value → Hp → Prop) (k : Nat) : Mid := fun E D H =>
  DG (E.get? 0) fun w0 => DI .i64 w0 fun x3 => DG (E.get? 1) fun w1 => DI .i64 w1 fun x4 => DG (E.get? 5) fun w5 => DI .i64 w5 fun x5 => DG (E.get? 6) fun w6 => DI .i64 w6 fun x6 => DNilD D (W_abacistref18_Need.l3 K k x3 x4 x5 x6 H)
def W_abacistref18_Need.Λ3 (_ : Value → Hp → Prop) (_R3 : Int → Int → Int → Int → Hp → Prop) : Cuts := Cuts.none (fun _ => none)
def W_abacistref18_Need.Λ (K : Value → Hp → Prop) : Cuts := ⟨fun i => none, fun i => match Nat.beq i 3 with | true => some (fun E D H => ∃ k, W_abacistref18_Need.l3.L K k E D H) | false => none, (fun _ => none)⟩
theorem W_abacistref18_Need.ok (x1 : Int) (x2 : Int) (H : Hp) (K : Value → Hp → Prop) (h : W_abacistref18_Need x1 x2 H K) : HCalls Try.prog 51 #[.int .i64 x1, .int .i64 x2] H K :=
  hcalls Try.func51 rfl (Nat.le_of_ble_eq_true rfl) (hw_safe (Λ := (W_abacistref18_Need.Λ K)) mix _ _ _ _ _ (Eq.mp (by kernel_rfl) h) (obs_seq obs_region rfl (obs_seq obs_region rfl (obs_seq (obs_seq obs_region rfl (obs_block (obs_loop rfl (fun E D H h => by
      refine Safe.loop' (W_abacistref18_Need.l3.L K) (fun E D H h => ?_) (fun k E D H h => ?_) E D H h
      · obtain ⟨w0, e0, g1⟩ := DG.out h; obtain ⟨x3, rfl, g2⟩ := DI.out g1; obtain ⟨w1, e1, g3⟩ := DG.out g2; obtain ⟨x4, rfl, g4⟩ := DI.out g3; obtain ⟨w5, e5, g5⟩ := DG.out g4; obtain ⟨x5, rfl, g6⟩ := DI.out g5; obtain ⟨w6, e6, g7⟩ := DG.out g6; obtain ⟨x6, rfl, g8⟩ := DI.out g7; obtain ⟨rfl, h'⟩ := DNilD.out g8; exact h'
      · obtain ⟨w0, e0, g1⟩ := DG.out h
        obtain ⟨x3, rfl, g2⟩ := DI.out g1
        obtain ⟨w1, e1, g3⟩ := DG.out g2
        obtain ⟨x4, rfl, g4⟩ := DI.out g3
        obtain ⟨w5, e5, g5⟩ := DG.out g4
        obtain ⟨x5, rfl, g6⟩ := DI.out g5
        obtain ⟨w6, e6, g7⟩ := DG.out g6
        obtain ⟨x6, rfl, g8⟩ := DI.out g7
        obtain ⟨rfl, h'⟩ := DNilD.out g8
        exact (hw_safe (Λ := (W_abacistref18_Need.Λ3 K (W_abacistref18_Need.l3 K k))) mix _ _ [(0, .int .i64 x3), (1, .int .i64 x4), (5, .int .i64 x5), (6, .int .i64 x6)] [] H (Eq.mp (by kernel_rfl) h') (obs_seq (obs_seq obs_region rfl (obs_cond obs_skip obs_exit)) rfl (obs_seq (obs_block obs_region) rfl obs_region))).weaken (EnvLe.cons e0 (EnvLe.cons e1 (EnvLe.cons e5 (EnvLe.cons e6 (EnvLe.nil _))))) (Hp.le_refl _))))) rfl (obs_seq obs_region rfl (obs_seq (obs_seq obs_region rfl (obs_cond (obs_seq obs_region rfl obs_ret) obs_skip)) rfl (obs_seq obs_region rfl obs_ret)))))))

end Go.Proofs.Ytgkdkemhiglpdaa.W
