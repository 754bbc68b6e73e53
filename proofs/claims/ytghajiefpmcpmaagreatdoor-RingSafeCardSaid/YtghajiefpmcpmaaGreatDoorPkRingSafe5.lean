import Derived.Test.YtghajiefpmcpmaaGreatDoorProg
import Derived.Shelf.Strconv.Itoa0
import Derived.Shelf.Strings.Trim
import Derived.Test.YtghajiefpmcpmaaGreatDoorPkRingSafe4
section
/-! Wabacistref20 -/
/- Formulas of functions, printed by wip/tools/hwp.py. -/
set_option maxRecDepth 100000
set_option linter.unusedVariables false
namespace Go.Proofs.YtghajiefpmcpmaaGreatDoor.W
open Go Go.Hw

theorem mixWabacistref20 : Tryz.prog.follows .mixedOrders = true := by kernel_rfl
-- abacistref20.After
def W_abacistref20_After (y1 : Array Value) (y2 : Array Value) (H : Hp) (K : Value → Hp → Prop) : Prop :=
  Nw H (.obj (.cells y1 87)) fun b1 H1 => Nw H1 (.obj (.cells y2 87)) fun b2 H2 => LdA H2 (⟨b1, 0, none⟩ : Addr) 8 fun l1 => HCalls Tryz.prog 43 #[.agg l1.toArray] H2 fun v1 H3 => DB v1 fun c1 => BIf (!c1) (K (.bool false) H3) (LdA H3 (⟨b2, 0, none⟩ : Addr) 8 fun l2 => HCalls Tryz.prog 43 #[.agg l2.toArray] H3 fun v2 H4 => DB v2 fun c2 => BIf (!c2) (K (.bool false) H4) (Ld H4 ((⟨b2, 0, none⟩ : Addr).add 0) fun v3 => DI .u64 v3 fun x1 => Ld H4 ((⟨b1, 0, none⟩ : Addr).add 0) fun v4 => DI .u64 v4 fun x2 => BIf (x1 != (IntKind.u64.wrap (x2 + (1 : Int)))) (K (.bool false) H4) (Ld H4 ((⟨b2, 0, none⟩ : Addr).add 1) fun v5 => DI .i64 v5 fun x3 => BIf (x3 == (1 : Int)) (K (.bool true) H4) (Ld H4 ((⟨b1, 0, none⟩ : Addr).add 5) fun v6 => DI .u32 v6 fun x4 => Ld H4 ((⟨b2, 0, none⟩ : Addr).add 5) fun v7 => DI .u32 v7 fun x5 => BIf (x4 != x5) (K (.bool false) H4) (Ld H4 ((⟨b1, 0, none⟩ : Addr).add 2) fun v8 => DI .i64 v8 fun x6 => Ld H4 ((⟨b2, 0, none⟩ : Addr).add 2) fun v9 => DI .i64 v9 fun x7 => BIf (x6 != x7) (K (.bool false) H4) (Ld H4 ((⟨b2, 0, none⟩ : Addr).add 1) fun v10 => DI .i64 v10 fun x8 => BIf (x8 == (2 : Int)) (Ld H4 ((⟨b1, 0, none⟩ : Addr).add 1) fun v11 => DI .i64 v11 fun x9 => K (.bool (x9 == (1 : Int))) H4) (Ld H4 ((⟨b1, 0, none⟩ : Addr).add 1) fun v12 => DI .i64 v12 fun x10 => BIf (x10 == (1 : Int)) (K (.bool false) H4) (Ld H4 ((⟨b1, 0, none⟩ : Addr).add 6) fun v13 => DI .u32 v13 fun x11 => Ld H4 ((⟨b2, 0, none⟩ : Addr).add 6) fun v14 => DI .u32 v14 fun x12 => BIf (x11 != x12) (K (.bool false) H4) (Ld H4 ((⟨b2, 0, none⟩ : Addr).add 1) fun v15 => DI .i64 v15 fun x13 => BIf (x13 == (3 : Int)) (Ld H4 ((⟨b2, 0, none⟩ : Addr).add 7) fun v16 => DI .u32 v16 fun x14 => K (.bool (x14 == (0 : Int))) H4) (Ld H4 ((⟨b1, 0, none⟩ : Addr).add 1) fun v17 => DI .i64 v17 fun x15 => BIf (x15 == (2 : Int)) (K (.bool false) H4) (Ld H4 ((⟨b1, 0, none⟩ : Addr).add 3) fun v18 => DI .i64 v18 fun x16 => Ld H4 ((⟨b2, 0, none⟩ : Addr).add 3) fun v19 => DI .i64 v19 fun x17 => BIf (x16 != x17) (K (.bool false) H4) (Ld H4 ((⟨b1, 0, none⟩ : Addr).add 1) fun v20 => DI .i64 v20 fun x18 => BIf (x18 == (3 : Int)) (Ld H4 ((⟨b2, 0, none⟩ : Addr).add 4) fun v21 => DI .i64 v21 fun x19 => K (.bool (x19 == (1 : Int))) H4) (Ld H4 ((⟨b2, 0, none⟩ : Addr).add 4) fun v22 => DI .i64 v22 fun x20 => Ld H4 ((⟨b1, 0, none⟩ : Addr).add 4) fun v23 => DI .i64 v23 fun x21 => K (.bool (x20 == (IntKind.i64.wrap (x21 + (1 : Int))))) H4)))))))))))))
def W_abacistref20_After.Λ (_ : Value → Hp → Prop) : Cuts := Cuts.none (fun _ => none)
theorem W_abacistref20_After.ok (y1 : Array Value) (y2 : Array Value) (H : Hp) (K : Value → Hp → Prop) (h : W_abacistref20_After y1 y2 H K) : HCalls Tryz.prog 39 #[.agg y1, .agg y2] H K :=
  hcalls Tryz.func39 rfl (Nat.le_of_ble_eq_true rfl) (hw_safe (Λ := Cuts.none (fun _ => none)) mixWabacistref20 _ _ _ _ _ (Eq.mp (by kernel_rfl) h) (obs_none _ _ _ _ _))

-- abacistref20.Good
def W_abacistref20_Good (y1 : Array Value) (H : Hp) (K : Value → Hp → Prop) : Prop :=
  Nw H (.obj (.cells y1 87)) fun b1 H1 => Ld H1 ((⟨b1, 0, none⟩ : Addr).add 0) fun v1 => DI .u64 v1 fun x1 => BIf (decide (x1 < (1 : Int))) (K (.bool false) H1) (Ld H1 ((⟨b1, 0, none⟩ : Addr).add 0) fun v2 => DI .u64 v2 fun x2 => BIf (decide (x2 ≥ (281474976710656 : Int))) (K (.bool false) H1) (Ld H1 ((⟨b1, 0, none⟩ : Addr).add 2) fun v3 => DI .i64 v3 fun x3 => BIf (decide (x3 < (0 : Int))) (K (.bool false) H1) (Ld H1 ((⟨b1, 0, none⟩ : Addr).add 2) fun v4 => DI .i64 v4 fun x4 => BIf (decide (x4 > (32 : Int))) (K (.bool false) H1) (Ld H1 ((⟨b1, 0, none⟩ : Addr).add 3) fun v5 => DI .i64 v5 fun x5 => BIf (decide (x5 < (0 : Int))) (K (.bool false) H1) (Ld H1 ((⟨b1, 0, none⟩ : Addr).add 3) fun v6 => DI .i64 v6 fun x6 => BIf (decide (x6 > (1 : Int))) (K (.bool false) H1) (Ld H1 ((⟨b1, 0, none⟩ : Addr).add 1) fun v7 => DI .i64 v7 fun x7 => BIf (decide (x7 < (1 : Int))) (K (.bool false) H1) (Ld H1 ((⟨b1, 0, none⟩ : Addr).add 1) fun v8 => DI .i64 v8 fun x8 => BIf (decide (x8 > (4 : Int))) (K (.bool false) H1) (Ld H1 ((⟨b1, 0, none⟩ : Addr).add 1) fun v9 => DI .i64 v9 fun x9 => BIf (x9 == (4 : Int)) (Ld H1 ((⟨b1, 0, none⟩ : Addr).add 4) fun v10 => DI .i64 v10 fun x10 => BIf (decide (x10 ≥ (1 : Int))) (Ld H1 ((⟨b1, 0, none⟩ : Addr).add 4) fun v11 => DI .i64 v11 fun x11 => K (.bool (decide (x11 ≤ (7 : Int)))) H1) (K (.bool false) H1)) (Ld H1 ((⟨b1, 0, none⟩ : Addr).add 1) fun v12 => DI .i64 v12 fun x12 => BIf (x12 == (1 : Int)) (Ld H1 ((⟨b1, 0, none⟩ : Addr).add 6) fun v13 => DI .u32 v13 fun x13 => BIf (x13 != (0 : Int)) (K (.bool false) H1) (Ld H1 ((⟨b1, 0, none⟩ : Addr).add 1) fun v14 => DI .i64 v14 fun x14 => BIf (decide (x14 ≤ (2 : Int))) (Ld H1 ((⟨b1, 0, none⟩ : Addr).add 3) fun v16 => DI .i64 v16 fun x16 => BIf (x16 != (0 : Int)) (K (.bool false) H1) (Ld H1 ((⟨b1, 0, none⟩ : Addr).add 7) fun v18 => DI .u32 v18 fun x18 => BIf (x18 != (0 : Int)) (K (.bool false) H1) (Ld H1 ((⟨b1, 0, none⟩ : Addr).add 4) fun v20 => DI .i64 v20 fun x20 => K (.bool (x20 == (0 : Int))) H1))) (Ld H1 ((⟨b1, 0, none⟩ : Addr).add 4) fun v21 => DI .i64 v21 fun x21 => K (.bool (x21 == (0 : Int))) H1))) (Ld H1 ((⟨b1, 0, none⟩ : Addr).add 1) fun v15 => DI .i64 v15 fun x15 => BIf (decide (x15 ≤ (2 : Int))) (Ld H1 ((⟨b1, 0, none⟩ : Addr).add 3) fun v17 => DI .i64 v17 fun x17 => BIf (x17 != (0 : Int)) (K (.bool false) H1) (Ld H1 ((⟨b1, 0, none⟩ : Addr).add 7) fun v19 => DI .u32 v19 fun x19 => BIf (x19 != (0 : Int)) (K (.bool false) H1) (Ld H1 ((⟨b1, 0, none⟩ : Addr).add 4) fun v22 => DI .i64 v22 fun x22 => K (.bool (x22 == (0 : Int))) H1))) (Ld H1 ((⟨b1, 0, none⟩ : Addr).add 4) fun v23 => DI .i64 v23 fun x23 => K (.bool (x23 == (0 : Int))) H1)))))))))))
def W_abacistref20_Good.Λ (_ : Value → Hp → Prop) : Cuts := Cuts.none (fun _ => none)
theorem W_abacistref20_Good.ok (y1 : Array Value) (H : Hp) (K : Value → Hp → Prop) (h : W_abacistref20_Good y1 H K) : HCalls Tryz.prog 43 #[.agg y1] H K :=
  hcalls Tryz.func43 rfl (Nat.le_of_ble_eq_true rfl) (hw_safe (Λ := Cuts.none (fun _ => none)) mixWabacistref20 _ _ _ _ _ (Eq.mp (by kernel_rfl) h) (obs_none _ _ _ _ _))

-- abacistref20.Take
def W_abacistref20_Take.l4 (K : Value → Hp → Prop) : Nat → ByteArray → Addr → Int → Hp → Prop
  | 0, _, _, _, _ => False
  | k + 1, s2, a1, x2, H =>
    let R4 := W_abacistref20_Take.l4 K k
    BIf (decide (x2 < ((s2.size : Nat) : Int))) ((0 ≤ x2 ∧ ixB s2 x2.toNat fun x3 => BIf (x3 != (0 : Int)) (StA H a1 #[.int .u64 (0 : Int), .int .i64 (0 : Int), .int .i64 (0 : Int), .int .i64 (0 : Int), .int .i64 (0 : Int), .int .u32 (0 : Int), .int .u32 (0 : Int), .int .u32 (0 : Int)] 8 fun H4 => LdA H4 a1 8 fun l4 => K (.tuple #[.agg l4.toArray, .int .i64 (10 : Int)]) H4) (R4 s2 a1 (IntKind.i64.wrap (x2 + (1 : Int))) H))) (HCalls Tryz.prog 202 #[.string s2, .int .i64 (0 : Int)] H fun v2 H5 => DI .u64 v2 fun x4 => HCalls Tryz.prog 202 #[.string s2, .int .i64 (8 : Int)] H5 fun v3 H6 => DI .u64 v3 fun x5 => HCalls Tryz.prog 202 #[.string s2, .int .i64 (16 : Int)] H6 fun v4 H7 => DI .u64 v4 fun x6 => ((281474976710656 : Int) ≠ 0 ∧ IntKind.u64 = IntKind.u64 ∧ BIf ((IntKind.u64.wrap (Int.tdiv x4 (281474976710656 : Int))) != (21061 : Int)) (StA H7 a1 #[.int .u64 (0 : Int), .int .i64 (0 : Int), .int .i64 (0 : Int), .int .i64 (0 : Int), .int .i64 (0 : Int), .int .u32 (0 : Int), .int .u32 (0 : Int), .int .u32 (0 : Int)] 8 fun H8 => LdA H8 a1 8 fun l5 => K (.tuple #[.agg l5.toArray, .int .i64 (10 : Int)]) H8) (Nw H7 (.row [.int .u64 x4, .int .u64 x5, .int .u64 x6] 60 3) fun b2 H9 => HCalls Tryz.prog 20 #[.slice (some ⟨b2, 0, none⟩) 3 3] H9 fun v5 H10 => DI .u32 v5 fun x7 => HCalls Tryz.prog 202 #[.string s2, .int .i64 (24 : Int)] H10 fun v6 H11 => DI .u64 v6 fun x8 => BIf (x8 != (IntKind.u64.wrap ((IntKind.u64.wrap ((IntKind.u64.wrap ((4294967295 : Int) - (IntKind.u64.wrap x7))) * (4294967296 : Int))) + (IntKind.u64.wrap x7)))) (StA H11 a1 #[.int .u64 (0 : Int), .int .i64 (0 : Int), .int .i64 (0 : Int), .int .i64 (0 : Int), .int .i64 (0 : Int), .int .u32 (0 : Int), .int .u32 (0 : Int), .int .u32 (0 : Int)] 8 fun H12 => LdA H12 a1 8 fun l6 => K (.tuple #[.agg l6.toArray, .int .i64 (9 : Int)]) H12) (((281474976710656 : Int) ≠ 0 ∧ IntKind.u64 = IntKind.u64 ∧ ((256 : Int) ≠ 0 ∧ IntKind.u64 = IntKind.u64 ∧ ((256 : Int) ≠ 0 ∧ IntKind.u64 = IntKind.u64 ∧ ((256 : Int) ≠ 0 ∧ IntKind.u64 = IntKind.u64 ∧ ((65536 : Int) ≠ 0 ∧ IntKind.u64 = IntKind.u64 ∧ ((256 : Int) ≠ 0 ∧ IntKind.u64 = IntKind.u64 ∧ ((16777216 : Int) ≠ 0 ∧ IntKind.u64 = IntKind.u64 ∧ ((256 : Int) ≠ 0 ∧ IntKind.u64 = IntKind.u64 ∧ ((4294967296 : Int) ≠ 0 ∧ IntKind.u64 = IntKind.u64 ∧ ((4294967296 : Int) ≠ 0 ∧ IntKind.u64 = IntKind.u64 ∧ ((4294967296 : Int) ≠ 0 ∧ IntKind.u64 = IntKind.u64 ∧ Nw H11 (.obj (.cells #[.int .u64 (0 : Int), .int .i64 (0 : Int), .int .i64 (0 : Int), .int .i64 (0 : Int), .int .i64 (0 : Int), .int .u32 (0 : Int), .int .u32 (0 : Int), .int .u32 (0 : Int)] 87)) fun b3 H13 => StA H13 (⟨b3, 0, none⟩ : Addr) #[.int .u64 (Int.tmod x4 (281474976710656 : Int)), .int .i64 (IntKind.i64.wrap (Int.tmod x5 (256 : Int))), .int .i64 (IntKind.i64.wrap (Int.tmod (IntKind.u64.wrap (Int.tdiv x5 (65536 : Int))) (256 : Int))), .int .i64 (IntKind.i64.wrap (Int.tmod (IntKind.u64.wrap (Int.tdiv x5 (256 : Int))) (256 : Int))), .int .i64 (IntKind.i64.wrap (Int.tmod (IntKind.u64.wrap (Int.tdiv x5 (16777216 : Int))) (256 : Int))), .int .u32 (IntKind.u32.wrap (IntKind.u64.wrap (Int.tdiv x5 (4294967296 : Int)))), .int .u32 (IntKind.u32.wrap (IntKind.u64.wrap (Int.tdiv x6 (4294967296 : Int)))), .int .u32 (IntKind.u32.wrap (Int.tmod x6 (4294967296 : Int)))] 8 fun H14 => LdA H14 (⟨b3, 0, none⟩ : Addr) 8 fun l1 => HCalls Tryz.prog 43 #[.agg l1.toArray] H14 fun v7 H15 => DB v7 fun c1 => BIf (!c1) (StA H15 a1 #[.int .u64 (0 : Int), .int .i64 (0 : Int), .int .i64 (0 : Int), .int .i64 (0 : Int), .int .i64 (0 : Int), .int .u32 (0 : Int), .int .u32 (0 : Int), .int .u32 (0 : Int)] 8 fun H16 => LdA H16 a1 8 fun l7 => K (.tuple #[.agg l7.toArray, .int .i64 (1 : Int)]) H16) (LdA H15 (⟨b3, 0, none⟩ : Addr) 8 fun l2 => StA H15 a1 l2.toArray 8 fun H17 => LdA H17 a1 8 fun l8 => K (.tuple #[.agg l8.toArray, .int .i64 (0 : Int)]) H17))))))))))))))))
def W_abacistref20_Take (s1 : ByteArray) (H : Hp) (K : Value → Hp → Prop) : Prop :=
  Nw H (.obj (.cells #[.int .u64 (0 : Int), .int .i64 (0 : Int), .int .i64 (0 : Int), .int .i64 (0 : Int), .int .i64 (0 : Int), .int .u32 (0 : Int), .int .u32 (0 : Int), .int .u32 (0 : Int)] 87)) fun b1 H1 => HCalls Tryz.prog 201 #[.int .i64 ((s1.size : Nat) : Int)] H1 fun v1 H2 => DI .i64 v1 fun x1 => BIf (decide (x1 < (0 : Int))) (StA H2 (⟨b1, 0, none⟩ : Addr) #[.int .u64 (0 : Int), .int .i64 (0 : Int), .int .i64 (0 : Int), .int .i64 (0 : Int), .int .i64 (0 : Int), .int .u32 (0 : Int), .int .u32 (0 : Int), .int .u32 (0 : Int)] 8 fun H3 => LdA H3 (⟨b1, 0, none⟩ : Addr) 8 fun l3 => K (.tuple #[.agg l3.toArray, .int .i64 (15 : Int)]) H3) ((∃ k, W_abacistref20_Take.l4 K k s1 (⟨b1, 0, none⟩ : Addr) (32 : Int) H2))
def W_abacistref20_Take.l4.L (K : Value → Hp → Prop) (k : Nat) : Mid := fun E D H =>
  DG (E.get? 0) fun w0 => DS w0 fun s2 => DG (E.get? 2) fun w2 => DP w2 fun pw2 => NN pw2 fun a1 => DG (E.get? 4) fun w4 => DI .i64 w4 fun x2 => DNilD D (W_abacistref20_Take.l4 K k s2 a1 x2 H)
def W_abacistref20_Take.Λ4 (_ : Value → Hp → Prop) (_R4 : ByteArray → Addr → Int → Hp → Prop) : Cuts := Cuts.none (fun _ => none)
def W_abacistref20_Take.Λ (K : Value → Hp → Prop) : Cuts := ⟨fun i => none, fun i => match Nat.beq i 4 with | true => some (fun E D H => ∃ k, W_abacistref20_Take.l4.L K k E D H) | false => none, (fun _ => none)⟩
theorem W_abacistref20_Take.ok (s1 : ByteArray) (H : Hp) (K : Value → Hp → Prop) (h : W_abacistref20_Take s1 H K) : HCalls Tryz.prog 121 #[.string s1] H K :=
  hcalls Tryz.func121 rfl (Nat.le_of_ble_eq_true rfl) (hw_safe (Λ := (W_abacistref20_Take.Λ K)) mixWabacistref20 _ _ _ _ _ (Eq.mp (by kernel_rfl) h) (obs_seq obs_region rfl (obs_seq (obs_seq obs_region rfl (obs_cond (obs_seq obs_region rfl obs_ret) obs_skip)) rfl (obs_seq (obs_seq obs_region rfl (obs_block (obs_loop rfl (fun E D H h => by
      refine Safe.loop' (W_abacistref20_Take.l4.L K) (fun E D H h => ?_) (fun k E D H h => ?_) E D H h
      · obtain ⟨w0, e0, g1⟩ := DG.out h; obtain ⟨s2, rfl, g2⟩ := DS.out g1; obtain ⟨w2, e2, g3⟩ := DG.out g2; obtain ⟨pw2, rfl, g4⟩ := DP.out g3; obtain ⟨a1, rfl, g5⟩ := NN.out g4; obtain ⟨w4, e4, g6⟩ := DG.out g5; obtain ⟨x2, rfl, g7⟩ := DI.out g6; obtain ⟨rfl, h'⟩ := DNilD.out g7; exact h'
      · obtain ⟨w0, e0, g1⟩ := DG.out h
        obtain ⟨s2, rfl, g2⟩ := DS.out g1
        obtain ⟨w2, e2, g3⟩ := DG.out g2
        obtain ⟨pw2, rfl, g4⟩ := DP.out g3
        obtain ⟨a1, rfl, g5⟩ := NN.out g4
        obtain ⟨w4, e4, g6⟩ := DG.out g5
        obtain ⟨x2, rfl, g7⟩ := DI.out g6
        obtain ⟨rfl, h'⟩ := DNilD.out g7
        exact (hw_safe (Λ := (W_abacistref20_Take.Λ4 K (W_abacistref20_Take.l4 K k))) mixWabacistref20 _ _ [(0, .string s2), (2, .pointer (some a1)), (4, .int .i64 x2)] [] H (Eq.mp (by kernel_rfl) h') (obs_seq (obs_seq obs_region rfl (obs_cond obs_skip obs_exit)) rfl (obs_seq (obs_block (obs_seq obs_region rfl (obs_cond (obs_seq obs_region rfl obs_ret) obs_skip))) rfl obs_region))).weaken (EnvLe.cons e0 (EnvLe.cons e2 (EnvLe.cons e4 (EnvLe.nil _)))) (Hp.le_refl _))))) rfl (obs_seq obs_region rfl (obs_seq obs_region rfl (obs_seq obs_region rfl (obs_seq (obs_seq obs_region rfl (obs_cond (obs_seq obs_region rfl obs_ret) obs_skip)) rfl (obs_seq obs_region rfl (obs_seq (obs_seq obs_region rfl (obs_cond (obs_seq obs_region rfl obs_ret) obs_skip)) rfl (obs_seq obs_region rfl (obs_seq (obs_seq obs_region rfl (obs_cond (obs_seq obs_region rfl obs_ret) obs_skip)) rfl (obs_seq obs_region rfl obs_ret)))))))))))))

end Go.Proofs.YtghajiefpmcpmaaGreatDoor.W

end
section
/-! RecA -/
/- record: right records; which may stand behind which. -/
set_option maxRecDepth 100000
set_option linter.unusedSimpArgs false
set_option linter.unusedVariables false
set_option linter.unnecessarySimpa false
set_option linter.unusedSectionVars false
namespace Go.Proofs.YtghajiefpmcpmaaGreatDoor.Rec
open Go Go.Hw Go.Proofs.YtghajiefpmcpmaaGreatDoor.W

structure R where
  s : Nat
  kd : Int
  kk : Int
  dir : Int
  ps : Int
  ld : Nat
  inp : Nat
  out : Nat
def R.c (r : R) : Array Value := #[.int .u64 (r.s : Int), .int .i64 r.kd, .int .i64 r.kk, .int .i64 r.dir, .int .i64 r.ps, .int .u32 (r.ld : Int), .int .u32 (r.inp : Int), .int .u32 (r.out : Int)]
def recO (r : R) : AO := .obj (.cells r.c 87)
abbrev R.good (r : R) : Prop := 1 ≤ r.s ∧ r.s < 281474976710656 ∧ 0 ≤ r.kk ∧ r.kk ≤ 32 ∧ (r.dir = 0 ∨ r.dir = 1) ∧
  ((r.kd = 1 ∧ r.inp = 0 ∧ r.ps = 0 ∧ r.dir = 0 ∧ r.out = 0) ∨ (r.kd = 2 ∧ r.ps = 0 ∧ r.dir = 0 ∧ r.out = 0) ∨ (r.kd = 3 ∧ r.ps = 0) ∨ (r.kd = 4 ∧ 1 ≤ r.ps ∧ r.ps ≤ 7))

theorem direction_ok (x : Int) (H : Hp) : HCalls Tryz.prog 245 #[.int .i64 x] H (RetE (.bool (decide (x = 0 ∨ x = 1))) H) := by
  apply W_record_direction.ok
  unfold W_record_direction
  by_cases h : x = 0
  · rw [decide_eq_true (.inl h)]
    exact BIf_beqp h (RetE.mk _ _)
  · refine BIf_beqn h ⟨?_, rfl⟩
    by_cases h1 : x = 1
    · rw [decide_eq_true (.inr h1), h1]; rfl
    · rw [decide_eq_false (by omega), beq_eq_false_iff_ne.2 h1]

section
variable {r : R} {H0 H : Hp} {b1 : Nat}
theorem out_no (hs : Sep [own H0, pts b1 (recO r)] H) (h : ¬ r.good) : Ret (.bool (decide r.good)) H0 (.bool false) H := by
  rw [decide_eq_false h]; exact hs.fin 0 rfl _
theorem out_b (hs : Sep [own H0, pts b1 (recO r)] H) {b : Bool} (h : b = true ↔ r.good) : Ret (.bool (decide r.good)) H0 (.bool b) H := by
  have : decide r.good = b := by
    cases b with
    | true => exact decide_eq_true (h.1 rfl)
    | false => exact decide_eq_false fun g => by have := h.2 g; cases this
  rw [this]; exact hs.fin 0 rfl _

theorem Good_j10 (hs : Sep [own H0, pts b1 (recO r)] H) (h : (r.ps = 0 ∧ r.dir = 0 ∧ r.out = 0) ↔ r.good) : W_record_Good.j10 (Ret (.bool (decide r.good)) H0) ⟨b1, 0, none⟩ H := by
  unfold W_record_Good.j10
  refine hs.ldf 1 rfl rfl ?_
  simp only [DI_int', DB_bool, DS_string, DP_pointer, DSl_slice, DM_map, DA_agg, DTup_tuple, DCons_cons, DNil_nil, NN_some, BIf_true, BIf_false, BIf_same, List.toList_toArray, Bool.not_true, Bool.not_false]
  by_cases h1 : r.ps = 0
  · refine BIf_beqp h1 ?_
    refine hs.ldf 1 rfl rfl ?_
    simp only [DI_int', DB_bool, DS_string, DP_pointer, DSl_slice, DM_map, DA_agg, DTup_tuple, DCons_cons, DNil_nil, NN_some, BIf_true, BIf_false, BIf_same, List.toList_toArray, Bool.not_true, Bool.not_false]
    by_cases h2 : r.dir = 0
    · refine BIf_beqp h2 ?_
      refine hs.ldf 1 rfl rfl ?_
      simp only [DI_int', DB_bool, DS_string, DP_pointer, DSl_slice, DM_map, DA_agg, DTup_tuple, DCons_cons, DNil_nil, NN_some, BIf_true, BIf_false, BIf_same, List.toList_toArray, Bool.not_true, Bool.not_false]
      refine out_b hs ?_
      rw [← h, beq_iff_eq]
      omega
    · exact BIf_beqn h2 (out_no hs fun g => h2 (h.2 g).2.1)
  · exact BIf_beqn h1 (out_no hs fun g => h1 (h.2 g).1)
end

theorem Good_ok (r : R) (H : Hp) : HCalls Tryz.prog 195 #[.agg r.c] H (RetE (.bool (decide r.good)) H) := HCalls.ret (by
  apply W_record_Good.ok
  unfold W_record_Good
  refine (Sep.start H).nw fun b1 H1 hs => ?_
  have hs : Sep [own H, pts b1 (recO r)] H1 := hs
  refine hs.ldf 1 rfl rfl ?_
  simp only [DI_int', DB_bool, DS_string, DP_pointer, DSl_slice, DM_map, DA_agg, DTup_tuple, DCons_cons, DNil_nil, NN_some, BIf_true, BIf_false, BIf_same, List.toList_toArray, Bool.not_true, Bool.not_false]
  by_cases h1 : (r.s : Int) < 1
  · exact BIf_dpos h1 (out_no hs fun g => by have := g.1; omega)
  refine BIf_dneg h1 ?_
  refine hs.ldf 1 rfl rfl ?_
  simp only [DI_int', DB_bool, DS_string, DP_pointer, DSl_slice, DM_map, DA_agg, DTup_tuple, DCons_cons, DNil_nil, NN_some, BIf_true, BIf_false, BIf_same, List.toList_toArray, Bool.not_true, Bool.not_false]
  by_cases h2 : (r.s : Int) ≥ 281474976710656
  · exact BIf_dpos h2 (out_no hs fun g => by have := g.2.1; omega)
  refine BIf_dneg h2 ?_
  refine hs.ldf 1 rfl rfl ?_
  simp only [DI_int', DB_bool, DS_string, DP_pointer, DSl_slice, DM_map, DA_agg, DTup_tuple, DCons_cons, DNil_nil, NN_some, BIf_true, BIf_false, BIf_same, List.toList_toArray, Bool.not_true, Bool.not_false]
  by_cases h3 : r.kk < 0
  · exact BIf_dpos h3 (out_no hs fun g => by have := g.2.2.1; omega)
  refine BIf_dneg h3 ?_
  refine hs.ldf 1 rfl rfl ?_
  simp only [DI_int', DB_bool, DS_string, DP_pointer, DSl_slice, DM_map, DA_agg, DTup_tuple, DCons_cons, DNil_nil, NN_some, BIf_true, BIf_false, BIf_same, List.toList_toArray, Bool.not_true, Bool.not_false]
  by_cases h4 : r.kk > 32
  · exact BIf_dpos h4 (out_no hs fun g => by have := g.2.2.2.1; omega)
  refine BIf_dneg h4 ?_
  refine hs.ldf 1 rfl rfl ?_
  simp only [DI_int', DB_bool, DS_string, DP_pointer, DSl_slice, DM_map, DA_agg, DTup_tuple, DCons_cons, DNil_nil, NN_some, BIf_true, BIf_false, BIf_same, List.toList_toArray, Bool.not_true, Bool.not_false]
  refine HCalls.use (direction_ok r.dir H1) ?_
  simp only [DI_int', DB_bool, DS_string, DP_pointer, DSl_slice, DM_map, DA_agg, DTup_tuple, DCons_cons, DNil_nil, NN_some, BIf_true, BIf_false, BIf_same, List.toList_toArray, Bool.not_true, Bool.not_false]
  by_cases h5 : r.dir = 0 ∨ r.dir = 1
  case neg =>
    rw [decide_eq_false h5]
    exact BIf_pos rfl (out_no hs fun g => h5 g.2.2.2.2.1)
  rw [decide_eq_true h5]
  refine BIf_neg rfl ?_
  have hd : ∀ {P : Prop}, (P ↔ ((r.kd = 1 ∧ r.inp = 0 ∧ r.ps = 0 ∧ r.dir = 0 ∧ r.out = 0) ∨ (r.kd = 2 ∧ r.ps = 0 ∧ r.dir = 0 ∧ r.out = 0) ∨ (r.kd = 3 ∧ r.ps = 0) ∨ (r.kd = 4 ∧ 1 ≤ r.ps ∧ r.ps ≤ 7))) → (P ↔ r.good) := fun h => by
    rw [h]
    exact ⟨fun g => ⟨by omega, by omega, by omega, by omega, h5, g⟩, fun g => g.2.2.2.2.2⟩
  refine hs.ldf 1 rfl rfl ?_
  simp only [DI_int', DB_bool, DS_string, DP_pointer, DSl_slice, DM_map, DA_agg, DTup_tuple, DCons_cons, DNil_nil, NN_some, BIf_true, BIf_false, BIf_same, List.toList_toArray, Bool.not_true, Bool.not_false]
  by_cases k1 : r.kd = 1
  · refine BIf_beqp k1 ?_
    refine hs.ldf 1 rfl rfl ?_
    simp only [DI_int', DB_bool, DS_string, DP_pointer, DSl_slice, DM_map, DA_agg, DTup_tuple, DCons_cons, DNil_nil, NN_some, BIf_true, BIf_false, BIf_same, List.toList_toArray, Bool.not_true, Bool.not_false]
    by_cases h6 : (r.inp : Int) = 0
    · exact BIf_bnen h6 (Good_j10 hs (hd (by omega)))
    · exact BIf_bnep h6 (out_no hs fun g => by have := g.2.2.2.2.2; omega)
  refine BIf_beqn k1 ?_
  by_cases k2 : r.kd = 2
  · exact BIf_beqp k2 (Good_j10 hs (hd (by omega)))
  refine BIf_beqn k2 ?_
  by_cases k3 : r.kd = 3
  · refine BIf_beqp k3 ?_
    refine hs.ldf 1 rfl rfl ?_
    simp only [DI_int', DB_bool, DS_string, DP_pointer, DSl_slice, DM_map, DA_agg, DTup_tuple, DCons_cons, DNil_nil, NN_some, BIf_true, BIf_false, BIf_same, List.toList_toArray, Bool.not_true, Bool.not_false]
    refine out_b hs (hd ?_)
    rw [beq_iff_eq]; omega
  refine BIf_beqn k3 ?_
  by_cases k4 : r.kd = 4
  · refine BIf_beqp k4 ?_
    refine hs.ldf 1 rfl rfl ?_
    simp only [DI_int', DB_bool, DS_string, DP_pointer, DSl_slice, DM_map, DA_agg, DTup_tuple, DCons_cons, DNil_nil, NN_some, BIf_true, BIf_false, BIf_same, List.toList_toArray, Bool.not_true, Bool.not_false]
    by_cases h7 : r.ps ≥ 1
    · refine BIf_dpos h7 ?_
      refine hs.ldf 1 rfl rfl ?_
      simp only [DI_int', DB_bool, DS_string, DP_pointer, DSl_slice, DM_map, DA_agg, DTup_tuple, DCons_cons, DNil_nil, NN_some, BIf_true, BIf_false, BIf_same, List.toList_toArray, Bool.not_true, Bool.not_false]
      refine out_b hs (hd ?_)
      rw [decide_eq_true_eq]; omega
    · exact BIf_dneg h7 (out_no hs fun g => by have := g.2.2.2.2.2; omega)
  · exact BIf_beqn k4 (out_no hs fun g => by have := g.2.2.2.2.2; omega))

theorem rGood_ok (r : R) (H : Hp) : HCalls Tryz.prog 43 #[.agg r.c] H (RetE (.bool (decide r.good)) H) := HCalls.ret (by
  apply W_abacistref20_Good.ok
  unfold W_abacistref20_Good
  refine (Sep.start H).nw fun b1 H1 hs => ?_
  have hs : Sep [own H, pts b1 (recO r)] H1 := hs
  refine hs.ldf 1 rfl rfl ?_
  simp only [DI_int', DB_bool, DS_string, DP_pointer, DSl_slice, DM_map, DA_agg, DTup_tuple, DCons_cons, DNil_nil, NN_some, BIf_true, BIf_false, BIf_same, List.toList_toArray, Bool.not_true, Bool.not_false]
  by_cases h1 : (r.s : Int) < 1
  · exact BIf_dpos h1 (out_no hs fun g => by have := g.1; omega)
  refine BIf_dneg h1 ?_
  refine hs.ldf 1 rfl rfl ?_
  simp only [DI_int', DB_bool, DS_string, DP_pointer, DSl_slice, DM_map, DA_agg, DTup_tuple, DCons_cons, DNil_nil, NN_some, BIf_true, BIf_false, BIf_same, List.toList_toArray, Bool.not_true, Bool.not_false]
  by_cases h2 : (r.s : Int) ≥ 281474976710656
  · exact BIf_dpos h2 (out_no hs fun g => by have := g.2.1; omega)
  refine BIf_dneg h2 ?_
  refine hs.ldf 1 rfl rfl ?_
  simp only [DI_int', DB_bool, DS_string, DP_pointer, DSl_slice, DM_map, DA_agg, DTup_tuple, DCons_cons, DNil_nil, NN_some, BIf_true, BIf_false, BIf_same, List.toList_toArray, Bool.not_true, Bool.not_false]
  by_cases h3 : r.kk < 0
  · exact BIf_dpos h3 (out_no hs fun g => by have := g.2.2.1; omega)
  refine BIf_dneg h3 ?_
  refine hs.ldf 1 rfl rfl ?_
  simp only [DI_int', DB_bool, DS_string, DP_pointer, DSl_slice, DM_map, DA_agg, DTup_tuple, DCons_cons, DNil_nil, NN_some, BIf_true, BIf_false, BIf_same, List.toList_toArray, Bool.not_true, Bool.not_false]
  by_cases h4 : r.kk > 32
  · exact BIf_dpos h4 (out_no hs fun g => by have := g.2.2.2.1; omega)
  refine BIf_dneg h4 ?_
  refine hs.ldf 1 rfl rfl ?_
  simp only [DI_int', DB_bool, DS_string, DP_pointer, DSl_slice, DM_map, DA_agg, DTup_tuple, DCons_cons, DNil_nil, NN_some, BIf_true, BIf_false, BIf_same, List.toList_toArray, Bool.not_true, Bool.not_false]
  by_cases h5 : r.dir < 0
  · exact BIf_dpos h5 (out_no hs fun g => by have := g.2.2.2.2.1; omega)
  refine BIf_dneg h5 ?_
  refine hs.ldf 1 rfl rfl ?_
  simp only [DI_int', DB_bool, DS_string, DP_pointer, DSl_slice, DM_map, DA_agg, DTup_tuple, DCons_cons, DNil_nil, NN_some, BIf_true, BIf_false, BIf_same, List.toList_toArray, Bool.not_true, Bool.not_false]
  by_cases h6 : r.dir > 1
  · exact BIf_dpos h6 (out_no hs fun g => by have := g.2.2.2.2.1; omega)
  refine BIf_dneg h6 ?_
  refine hs.ldf 1 rfl rfl ?_
  simp only [DI_int', DB_bool, DS_string, DP_pointer, DSl_slice, DM_map, DA_agg, DTup_tuple, DCons_cons, DNil_nil, NN_some, BIf_true, BIf_false, BIf_same, List.toList_toArray, Bool.not_true, Bool.not_false]
  by_cases h7 : r.kd < 1
  · exact BIf_dpos h7 (out_no hs fun g => by have := g.2.2.2.2.2; omega)
  refine BIf_dneg h7 ?_
  refine hs.ldf 1 rfl rfl ?_
  simp only [DI_int', DB_bool, DS_string, DP_pointer, DSl_slice, DM_map, DA_agg, DTup_tuple, DCons_cons, DNil_nil, NN_some, BIf_true, BIf_false, BIf_same, List.toList_toArray, Bool.not_true, Bool.not_false]
  by_cases h8 : r.kd > 4
  · exact BIf_dpos h8 (out_no hs fun g => by have := g.2.2.2.2.2; omega)
  refine BIf_dneg h8 ?_
  have hd : ∀ {P : Prop}, (P ↔ ((r.kd = 1 ∧ r.inp = 0 ∧ r.ps = 0 ∧ r.dir = 0 ∧ r.out = 0) ∨ (r.kd = 2 ∧ r.ps = 0 ∧ r.dir = 0 ∧ r.out = 0) ∨ (r.kd = 3 ∧ r.ps = 0) ∨ (r.kd = 4 ∧ 1 ≤ r.ps ∧ r.ps ≤ 7))) → (P ↔ r.good) := fun h => by
    rw [h]
    exact ⟨fun g => ⟨by omega, by omega, by omega, by omega, by omega, g⟩, fun g => g.2.2.2.2.2⟩
  refine hs.ldf 1 rfl rfl ?_
  simp only [DI_int', DB_bool, DS_string, DP_pointer, DSl_slice, DM_map, DA_agg, DTup_tuple, DCons_cons, DNil_nil, NN_some, BIf_true, BIf_false, BIf_same, List.toList_toArray, Bool.not_true, Bool.not_false]
  by_cases k4 : r.kd = 4
  · refine BIf_beqp k4 ?_
    refine hs.ldf 1 rfl rfl ?_
    simp only [DI_int', DB_bool, DS_string, DP_pointer, DSl_slice, DM_map, DA_agg, DTup_tuple, DCons_cons, DNil_nil, NN_some, BIf_true, BIf_false, BIf_same, List.toList_toArray, Bool.not_true, Bool.not_false]
    by_cases h7 : r.ps ≥ 1
    · refine BIf_dpos h7 ?_
      refine hs.ldf 1 rfl rfl ?_
      simp only [DI_int', DB_bool, DS_string, DP_pointer, DSl_slice, DM_map, DA_agg, DTup_tuple, DCons_cons, DNil_nil, NN_some, BIf_true, BIf_false, BIf_same, List.toList_toArray, Bool.not_true, Bool.not_false]
      refine out_b hs (hd ?_)
      rw [decide_eq_true_eq]; omega
    · exact BIf_dneg h7 (out_no hs fun g => by have := g.2.2.2.2.2; omega)
  refine BIf_beqn k4 ?_
  refine hs.ldf 1 rfl rfl ?_
  simp only [DI_int', DB_bool, DS_string, DP_pointer, DSl_slice, DM_map, DA_agg, DTup_tuple, DCons_cons, DNil_nil, NN_some, BIf_true, BIf_false, BIf_same, List.toList_toArray, Bool.not_true, Bool.not_false]
  by_cases k1 : r.kd = 1
  · refine BIf_beqp k1 ?_
    refine hs.ldf 1 rfl rfl ?_
    simp only [DI_int', DB_bool, DS_string, DP_pointer, DSl_slice, DM_map, DA_agg, DTup_tuple, DCons_cons, DNil_nil, NN_some, BIf_true, BIf_false, BIf_same, List.toList_toArray, Bool.not_true, Bool.not_false]
    by_cases h9 : (r.inp : Int) = 0
    · refine BIf_bnen h9 ?_
      refine hs.ldf 1 rfl rfl ?_
      simp only [DI_int', DB_bool, DS_string, DP_pointer, DSl_slice, DM_map, DA_agg, DTup_tuple, DCons_cons, DNil_nil, NN_some, BIf_true, BIf_false, BIf_same, List.toList_toArray, Bool.not_true, Bool.not_false]
      refine BIf_dpos (by omega) ?_
      refine hs.ldf 1 rfl rfl ?_
      simp only [DI_int', DB_bool, DS_string, DP_pointer, DSl_slice, DM_map, DA_agg, DTup_tuple, DCons_cons, DNil_nil, NN_some, BIf_true, BIf_false, BIf_same, List.toList_toArray, Bool.not_true, Bool.not_false]
      by_cases h10 : r.dir = 0
      · refine BIf_bnen h10 ?_
        refine hs.ldf 1 rfl rfl ?_
        simp only [DI_int', DB_bool, DS_string, DP_pointer, DSl_slice, DM_map, DA_agg, DTup_tuple, DCons_cons, DNil_nil, NN_some, BIf_true, BIf_false, BIf_same, List.toList_toArray, Bool.not_true, Bool.not_false]
        by_cases h11 : (r.out : Int) = 0
        · refine BIf_bnen h11 ?_
          refine hs.ldf 1 rfl rfl ?_
          simp only [DI_int', DB_bool, DS_string, DP_pointer, DSl_slice, DM_map, DA_agg, DTup_tuple, DCons_cons, DNil_nil, NN_some, BIf_true, BIf_false, BIf_same, List.toList_toArray, Bool.not_true, Bool.not_false]
          refine out_b hs (hd ?_)
          rw [beq_iff_eq]; omega
        · exact BIf_bnep h11 (out_no hs fun g => by have := g.2.2.2.2.2; omega)
      · exact BIf_bnep h10 (out_no hs fun g => by have := g.2.2.2.2.2; omega)
    · exact BIf_bnep h9 (out_no hs fun g => by have := g.2.2.2.2.2; omega)
  refine BIf_beqn k1 ?_
  refine hs.ldf 1 rfl rfl ?_
  simp only [DI_int', DB_bool, DS_string, DP_pointer, DSl_slice, DM_map, DA_agg, DTup_tuple, DCons_cons, DNil_nil, NN_some, BIf_true, BIf_false, BIf_same, List.toList_toArray, Bool.not_true, Bool.not_false]
  by_cases k2 : r.kd ≤ 2
  · refine BIf_dpos k2 ?_
    refine hs.ldf 1 rfl rfl ?_
    simp only [DI_int', DB_bool, DS_string, DP_pointer, DSl_slice, DM_map, DA_agg, DTup_tuple, DCons_cons, DNil_nil, NN_some, BIf_true, BIf_false, BIf_same, List.toList_toArray, Bool.not_true, Bool.not_false]
    by_cases h10 : r.dir = 0
    · refine BIf_bnen h10 ?_
      refine hs.ldf 1 rfl rfl ?_
      simp only [DI_int', DB_bool, DS_string, DP_pointer, DSl_slice, DM_map, DA_agg, DTup_tuple, DCons_cons, DNil_nil, NN_some, BIf_true, BIf_false, BIf_same, List.toList_toArray, Bool.not_true, Bool.not_false]
      by_cases h11 : (r.out : Int) = 0
      · refine BIf_bnen h11 ?_
        refine hs.ldf 1 rfl rfl ?_
        simp only [DI_int', DB_bool, DS_string, DP_pointer, DSl_slice, DM_map, DA_agg, DTup_tuple, DCons_cons, DNil_nil, NN_some, BIf_true, BIf_false, BIf_same, List.toList_toArray, Bool.not_true, Bool.not_false]
        refine out_b hs (hd ?_)
        rw [beq_iff_eq]; omega
      · exact BIf_bnep h11 (out_no hs fun g => by have := g.2.2.2.2.2; omega)
    · exact BIf_bnep h10 (out_no hs fun g => by have := g.2.2.2.2.2; omega)
  · refine BIf_dneg k2 ?_
    refine hs.ldf 1 rfl rfl ?_
    simp only [DI_int', DB_bool, DS_string, DP_pointer, DSl_slice, DM_map, DA_agg, DTup_tuple, DCons_cons, DNil_nil, NN_some, BIf_true, BIf_false, BIf_same, List.toList_toArray, Bool.not_true, Bool.not_false]
    refine out_b hs (hd ?_)
    rw [beq_iff_eq]; omega)

end Go.Proofs.YtghajiefpmcpmaaGreatDoor.Rec

end
section
/-! Wlslices -/
/- Formulas of functions, printed by wip/tools/hwp.py. -/
set_option maxRecDepth 100000
set_option linter.unusedVariables false
namespace Go.Proofs.YtghajiefpmcpmaaGreatDoor.W
open Go Go.Hw

theorem mixWlslices : Tryz.prog.follows .mixedOrders = true := by kernel_rfl
-- slices.SortFunc[[]api.Record,api.Record]
def W_slices_SortFunc_api_Record_api_Record (A1 : Option Addr) (n1 : Nat) (m1 : Nat) (fd1 : FuncId) (F1 : Array Value) (C1 : Array Value) (H : Hp) (K : Value → Hp → Prop) : Prop :=
  HCalls Tryz.prog 210 #[.int .u64 (IntKind.u64.wrap ((n1 : Nat) : Int))] H fun v1 H1 => DI .i64 v1 fun x1 => HCalls Tryz.prog 209 #[.slice A1 n1 m1, .int .i64 (0 : Int), .int .i64 ((n1 : Nat) : Int), .int .i64 x1, .func (.func fd1) F1 C1] H1 fun v2 H2 => K (.tuple #[]) H2
def W_slices_SortFunc_api_Record_api_Record.Λ (_ : Value → Hp → Prop) : Cuts := Cuts.none (fun _ => none)
theorem W_slices_SortFunc_api_Record_api_Record.ok (A1 : Option Addr) (n1 : Nat) (m1 : Nat) (fd1 : FuncId) (F1 : Array Value) (C1 : Array Value) (H : Hp) (K : Value → Hp → Prop) (h : W_slices_SortFunc_api_Record_api_Record A1 n1 m1 fd1 F1 C1 H K) : HCalls Tryz.prog 128 #[.slice A1 n1 m1, .func (.func fd1) F1 C1] H K :=
  hcalls Tryz.func128 rfl (Nat.le_of_ble_eq_true rfl) (hw_safe (Λ := Cuts.none (fun _ => none)) mixWlslices _ _ _ _ _ (Eq.mp (by kernel_rfl) h) (obs_none _ _ _ _ _))

-- slices.pdqsortCmpFunc[api.Record]
def W_slices_pdqsortCmpFunc_api_Record.j20 (K : Value → Hp → Prop) (R2 : Option Addr → Nat → Nat → Int → Int → Int → FuncId → Array Value → Array Value → Bool → Bool → Hp → Prop) (A6 : Option Addr) (n6 : Nat) (m6 : Nat) (x26 : Int) (x27 : Int) (x28 : Int) (fd6 : FuncId) (F6 : Array Value) (C6 : Array Value) (x29 : Int) (x30 : Int) (H : Hp) : Prop :=
  HCalls Tryz.prog 259 #[.slice A6 n6 m6, .int .i64 x26, .int .i64 x27, .int .i64 x30, .func (.func fd6) F6 C6] H fun v12 H9 => DTup v12 fun l6 => DCons l6 fun v13 l7 => DI .i64 v13 fun x31 => DCons l7 fun v14 l8 => DB v14 fun c10 => DNil l8 (((8 : Int) ≠ 0 ∧ IntKind.i64 = IntKind.i64 ∧ BIf (decide ((IntKind.i64.wrap (x31 - x26)) < (IntKind.i64.wrap (x27 - x31)))) (HCalls Tryz.prog 209 #[.slice A6 n6 m6, .int .i64 x26, .int .i64 x31, .int .i64 x28, .func (.func fd6) F6 C6] H9 fun v15 H10 => R2 A6 n6 m6 (IntKind.i64.wrap (x31 + (1 : Int))) x27 x28 fd6 F6 C6 (decide ((IntKind.i64.wrap (x31 - x26)) ≥ (IntKind.i64.wrap (Int.tdiv x29 (8 : Int))))) c10 H10) (HCalls Tryz.prog 209 #[.slice A6 n6 m6, .int .i64 (IntKind.i64.wrap (x31 + (1 : Int))), .int .i64 x27, .int .i64 x28, .func (.func fd6) F6 C6] H9 fun v16 H11 => R2 A6 n6 m6 x26 x31 x28 fd6 F6 C6 (decide ((IntKind.i64.wrap (x27 - x31)) ≥ (IntKind.i64.wrap (Int.tdiv x29 (8 : Int))))) c10 H11)))
def W_slices_pdqsortCmpFunc_api_Record.j17 (K : Value → Hp → Prop) (R2 : Option Addr → Nat → Nat → Int → Int → Int → FuncId → Array Value → Array Value → Bool → Bool → Hp → Prop) (A5 : Option Addr) (n5 : Nat) (m5 : Nat) (x19 : Int) (x20 : Int) (x21 : Int) (fd5 : FuncId) (F5 : Array Value) (C5 : Array Value) (c8 : Bool) (c9 : Bool) (x22 : Int) (x23 : Int) (H : Hp) : Prop :=
  BIf (decide (x19 > (0 : Int))) (ixI (IntKind.i64.wrap (x19 - (1 : Int))) n5 (NN A5 fun a1 => LdA H (a1.add ((IntKind.i64.wrap (x19 - (1 : Int))).toNat * 8)) 8 fun l4 => ixI x23 n5 (NN A5 fun a2 => LdA H (a2.add (x23.toNat * 8)) 8 fun l5 => CallK Tryz.prog fd5 ((F5 ++ #[.agg l4.toArray, .agg l5.toArray]) ++ C5) H fun v9 H7 => DR Tryz.prog (resTypes Tryz.prog fd5) v9 fun v10 => DI .i64 v10 fun x24 => BIf (!(decide (x24 < (0 : Int)))) (HCalls Tryz.prog 258 #[.slice A5 n5 m5, .int .i64 x19, .int .i64 x20, .int .i64 x23, .func (.func fd5) F5 C5] H7 fun v11 H8 => DI .i64 v11 fun x25 => R2 A5 n5 m5 x25 x20 x21 fd5 F5 C5 c8 c9 H8) (W_slices_pdqsortCmpFunc_api_Record.j20 K R2 A5 n5 m5 x19 x20 x21 fd5 F5 C5 x22 x23 H7)))) (W_slices_pdqsortCmpFunc_api_Record.j20 K R2 A5 n5 m5 x19 x20 x21 fd5 F5 C5 x22 x23 H)
def W_slices_pdqsortCmpFunc_api_Record.j15 (K : Value → Hp → Prop) (R2 : Option Addr → Nat → Nat → Int → Int → Int → FuncId → Array Value → Array Value → Bool → Bool → Hp → Prop) (A4 : Option Addr) (n4 : Nat) (m4 : Nat) (x13 : Int) (x14 : Int) (x15 : Int) (fd4 : FuncId) (F4 : Array Value) (C4 : Array Value) (c5 : Bool) (c6 : Bool) (x16 : Int) (x17 : Int) (x18 : Int) (H : Hp) : Prop :=
  BIf c5 (BIf c6 (BIf (x18 == (1 : Int)) (HCalls Tryz.prog 257 #[.slice A4 n4 m4, .int .i64 x13, .int .i64 x14, .func (.func fd4) F4 C4] H fun v8 H6 => DB v8 fun c7 => BIf c7 (K (.tuple #[]) H6) (W_slices_pdqsortCmpFunc_api_Record.j17 K R2 A4 n4 m4 x13 x14 x15 fd4 F4 C4 c5 c6 x16 x17 H6)) (W_slices_pdqsortCmpFunc_api_Record.j17 K R2 A4 n4 m4 x13 x14 x15 fd4 F4 C4 c5 c6 x16 x17 H)) (W_slices_pdqsortCmpFunc_api_Record.j17 K R2 A4 n4 m4 x13 x14 x15 fd4 F4 C4 c5 c6 x16 x17 H)) (W_slices_pdqsortCmpFunc_api_Record.j17 K R2 A4 n4 m4 x13 x14 x15 fd4 F4 C4 c5 c6 x16 x17 H)
def W_slices_pdqsortCmpFunc_api_Record.j10 (K : Value → Hp → Prop) (R2 : Option Addr → Nat → Nat → Int → Int → Int → FuncId → Array Value → Array Value → Bool → Bool → Hp → Prop) (A3 : Option Addr) (n3 : Nat) (m3 : Nat) (x7 : Int) (x8 : Int) (x9 : Int) (fd3 : FuncId) (F3 : Array Value) (C3 : Array Value) (c3 : Bool) (c4 : Bool) (x10 : Int) (H : Hp) : Prop :=
  HCalls Tryz.prog 255 #[.slice A3 n3 m3, .int .i64 x7, .int .i64 x8, .func (.func fd3) F3 C3] H fun v4 H4 => DTup v4 fun l1 => DCons l1 fun v5 l2 => DI .i64 v5 fun x11 => DCons l2 fun v6 l3 => DI .i64 v6 fun x12 => DNil l3 (BIf (x12 == (2 : Int)) (HCalls Tryz.prog 256 #[.slice A3 n3 m3, .int .i64 x7, .int .i64 x8, .func (.func fd3) F3 C3] H4 fun v7 H5 => W_slices_pdqsortCmpFunc_api_Record.j15 K R2 A3 n3 m3 x7 x8 x9 fd3 F3 C3 c3 c4 x10 (IntKind.i64.wrap ((IntKind.i64.wrap (x8 - (1 : Int))) - (IntKind.i64.wrap (x11 - x7)))) (1 : Int) H5) (W_slices_pdqsortCmpFunc_api_Record.j15 K R2 A3 n3 m3 x7 x8 x9 fd3 F3 C3 c3 c4 x10 x11 x12 H4))
def W_slices_pdqsortCmpFunc_api_Record.l2 (K : Value → Hp → Prop) : Nat → Option Addr → Nat → Nat → Int → Int → Int → FuncId → Array Value → Array Value → Bool → Bool → Hp → Prop
  | 0, _, _, _, _, _, _, _, _, _, _, _, _ => False
  | k + 1, A2, n2, m2, x4, x5, x6, fd2, F2, C2, c1, c2, H =>
    let R2 := W_slices_pdqsortCmpFunc_api_Record.l2 K k
    BIf (decide ((IntKind.i64.wrap (x5 - x4)) ≤ (12 : Int))) (HCalls Tryz.prog 252 #[.slice A2 n2 m2, .int .i64 x4, .int .i64 x5, .func (.func fd2) F2 C2] H fun v1 H1 => K (.tuple #[]) H1) (BIf (x6 == (0 : Int)) (HCalls Tryz.prog 253 #[.slice A2 n2 m2, .int .i64 x4, .int .i64 x5, .func (.func fd2) F2 C2] H fun v2 H2 => K (.tuple #[]) H2) (BIf (!c1) (HCalls Tryz.prog 254 #[.slice A2 n2 m2, .int .i64 x4, .int .i64 x5, .func (.func fd2) F2 C2] H fun v3 H3 => W_slices_pdqsortCmpFunc_api_Record.j10 K R2 A2 n2 m2 x4 x5 (IntKind.i64.wrap (x6 - (1 : Int))) fd2 F2 C2 c1 c2 (IntKind.i64.wrap (x5 - x4)) H3) (W_slices_pdqsortCmpFunc_api_Record.j10 K R2 A2 n2 m2 x4 x5 x6 fd2 F2 C2 c1 c2 (IntKind.i64.wrap (x5 - x4)) H)))
def W_slices_pdqsortCmpFunc_api_Record (A1 : Option Addr) (n1 : Nat) (m1 : Nat) (x1 : Int) (x2 : Int) (x3 : Int) (fd1 : FuncId) (F1 : Array Value) (C1 : Array Value) (H : Hp) (K : Value → Hp → Prop) : Prop :=
  (∃ k, W_slices_pdqsortCmpFunc_api_Record.l2 K k A1 n1 m1 x1 x2 x3 fd1 F1 C1 true true H)
def W_slices_pdqsortCmpFunc_api_Record.l2.L (K : Value → Hp → Prop) (k : Nat) : Mid := fun E D H =>
  DG (E.get? 0) fun w0 => DSl w0 fun A2 n2 m2 => DG (E.get? 1) fun w1 => DI .i64 w1 fun x4 => DG (E.get? 2) fun w2 => DI .i64 w2 fun x5 => DG (E.get? 3) fun w3 => DI .i64 w3 fun x6 => DG (E.get? 4) fun w4 => DFn w4 fun fd2 F2 C2 => DG (E.get? 10) fun w10 => DB w10 fun c1 => DG (E.get? 11) fun w11 => DB w11 fun c2 => DNilD D (W_slices_pdqsortCmpFunc_api_Record.l2 K k A2 n2 m2 x4 x5 x6 fd2 F2 C2 c1 c2 H)
def W_slices_pdqsortCmpFunc_api_Record.Λ2 (K : Value → Hp → Prop) (R2 : Option Addr → Nat → Nat → Int → Int → Int → FuncId → Array Value → Array Value → Bool → Bool → Hp → Prop) : Cuts := ⟨fun i => match Nat.beq i 20 with | true => some (fun E D H => DG (E.get? 0) fun w0 => DSl w0 fun A6 n6 m6 => DG (E.get? 1) fun w1 => DI .i64 w1 fun x26 => DG (E.get? 2) fun w2 => DI .i64 w2 fun x27 => DG (E.get? 3) fun w3 => DI .i64 w3 fun x28 => DG (E.get? 4) fun w4 => DFn w4 fun fd6 F6 C6 => DG (E.get? 12) fun w12 => DI .i64 w12 fun x29 => DG (E.get? 13) fun w13 => DI .i64 w13 fun x30 => DNilD D (W_slices_pdqsortCmpFunc_api_Record.j20 K R2 A6 n6 m6 x26 x27 x28 fd6 F6 C6 x29 x30 H)) | false => match Nat.beq i 17 with | true => some (fun E D H => DG (E.get? 0) fun w0 => DSl w0 fun A5 n5 m5 => DG (E.get? 1) fun w1 => DI .i64 w1 fun x19 => DG (E.get? 2) fun w2 => DI .i64 w2 fun x20 => DG (E.get? 3) fun w3 => DI .i64 w3 fun x21 => DG (E.get? 4) fun w4 => DFn w4 fun fd5 F5 C5 => DG (E.get? 10) fun w10 => DB w10 fun c8 => DG (E.get? 11) fun w11 => DB w11 fun c9 => DG (E.get? 12) fun w12 => DI .i64 w12 fun x22 => DG (E.get? 13) fun w13 => DI .i64 w13 fun x23 => DNilD D (W_slices_pdqsortCmpFunc_api_Record.j17 K R2 A5 n5 m5 x19 x20 x21 fd5 F5 C5 c8 c9 x22 x23 H)) | false => match Nat.beq i 15 with | true => some (fun E D H => DG (E.get? 0) fun w0 => DSl w0 fun A4 n4 m4 => DG (E.get? 1) fun w1 => DI .i64 w1 fun x13 => DG (E.get? 2) fun w2 => DI .i64 w2 fun x14 => DG (E.get? 3) fun w3 => DI .i64 w3 fun x15 => DG (E.get? 4) fun w4 => DFn w4 fun fd4 F4 C4 => DG (E.get? 10) fun w10 => DB w10 fun c5 => DG (E.get? 11) fun w11 => DB w11 fun c6 => DG (E.get? 12) fun w12 => DI .i64 w12 fun x16 => DG (E.get? 13) fun w13 => DI .i64 w13 fun x17 => DG (E.get? 14) fun w14 => DI .i64 w14 fun x18 => DNilD D (W_slices_pdqsortCmpFunc_api_Record.j15 K R2 A4 n4 m4 x13 x14 x15 fd4 F4 C4 c5 c6 x16 x17 x18 H)) | false => match Nat.beq i 10 with | true => some (fun E D H => DG (E.get? 0) fun w0 => DSl w0 fun A3 n3 m3 => DG (E.get? 1) fun w1 => DI .i64 w1 fun x7 => DG (E.get? 2) fun w2 => DI .i64 w2 fun x8 => DG (E.get? 3) fun w3 => DI .i64 w3 fun x9 => DG (E.get? 4) fun w4 => DFn w4 fun fd3 F3 C3 => DG (E.get? 10) fun w10 => DB w10 fun c3 => DG (E.get? 11) fun w11 => DB w11 fun c4 => DG (E.get? 12) fun w12 => DI .i64 w12 fun x10 => DNilD D (W_slices_pdqsortCmpFunc_api_Record.j10 K R2 A3 n3 m3 x7 x8 x9 fd3 F3 C3 c3 c4 x10 H)) | false => none, fun i => none, (fun i => match Nat.beq i 17 with | true => some ([], [0, 1, 2, 3, 4, 5, 6, 7, 8, 9, 10, 11, 12], 13) | false => none)⟩
def W_slices_pdqsortCmpFunc_api_Record.Λ (K : Value → Hp → Prop) : Cuts := ⟨fun i => none, fun i => match Nat.beq i 2 with | true => some (fun E D H => ∃ k, W_slices_pdqsortCmpFunc_api_Record.l2.L K k E D H) | false => none, (fun i => match Nat.beq i 17 with | true => some ([], [0, 1, 2, 3, 4, 5, 6, 7, 8, 9, 10, 11, 12], 13) | false => none)⟩
theorem W_slices_pdqsortCmpFunc_api_Record.ok (A1 : Option Addr) (n1 : Nat) (m1 : Nat) (x1 : Int) (x2 : Int) (x3 : Int) (fd1 : FuncId) (F1 : Array Value) (C1 : Array Value) (H : Hp) (K : Value → Hp → Prop) (h : W_slices_pdqsortCmpFunc_api_Record A1 n1 m1 x1 x2 x3 fd1 F1 C1 H K) : HCalls Tryz.prog 209 #[.slice A1 n1 m1, .int .i64 x1, .int .i64 x2, .int .i64 x3, .func (.func fd1) F1 C1] H K :=
  hcalls Tryz.func209 rfl (Nat.le_of_ble_eq_true rfl) (hw_safe (Λ := (W_slices_pdqsortCmpFunc_api_Record.Λ K)) mixWlslices _ _ _ _ _ (Eq.mp (by kernel_rfl) h) (obs_seq obs_region rfl (obs_seq obs_region rfl (obs_block (obs_loop rfl (fun E D H h => by
      refine Safe.loop' (W_slices_pdqsortCmpFunc_api_Record.l2.L K) (fun E D H h => ?_) (fun k E D H h => ?_) E D H h
      · obtain ⟨w0, e0, g1⟩ := DG.out h; obtain ⟨A2, n2, m2, rfl, g2⟩ := DSl.out g1; obtain ⟨w1, e1, g3⟩ := DG.out g2; obtain ⟨x4, rfl, g4⟩ := DI.out g3; obtain ⟨w2, e2, g5⟩ := DG.out g4; obtain ⟨x5, rfl, g6⟩ := DI.out g5; obtain ⟨w3, e3, g7⟩ := DG.out g6; obtain ⟨x6, rfl, g8⟩ := DI.out g7; obtain ⟨w4, e4, g9⟩ := DG.out g8; obtain ⟨fd2, F2, C2, rfl, g10⟩ := DFn.out g9; obtain ⟨w10, e10, g11⟩ := DG.out g10; obtain ⟨c1, rfl, g12⟩ := DB.out g11; obtain ⟨w11, e11, g13⟩ := DG.out g12; obtain ⟨c2, rfl, g14⟩ := DB.out g13; obtain ⟨rfl, h'⟩ := DNilD.out g14; exact h'
      · obtain ⟨w0, e0, g1⟩ := DG.out h
        obtain ⟨A2, n2, m2, rfl, g2⟩ := DSl.out g1
        obtain ⟨w1, e1, g3⟩ := DG.out g2
        obtain ⟨x4, rfl, g4⟩ := DI.out g3
        obtain ⟨w2, e2, g5⟩ := DG.out g4
        obtain ⟨x5, rfl, g6⟩ := DI.out g5
        obtain ⟨w3, e3, g7⟩ := DG.out g6
        obtain ⟨x6, rfl, g8⟩ := DI.out g7
        obtain ⟨w4, e4, g9⟩ := DG.out g8
        obtain ⟨fd2, F2, C2, rfl, g10⟩ := DFn.out g9
        obtain ⟨w10, e10, g11⟩ := DG.out g10
        obtain ⟨c1, rfl, g12⟩ := DB.out g11
        obtain ⟨w11, e11, g13⟩ := DG.out g12
        obtain ⟨c2, rfl, g14⟩ := DB.out g13
        obtain ⟨rfl, h'⟩ := DNilD.out g14
        exact (hw_safe (Λ := (W_slices_pdqsortCmpFunc_api_Record.Λ2 K (W_slices_pdqsortCmpFunc_api_Record.l2 K k))) mixWlslices _ _ [(0, .slice A2 n2 m2), (1, .int .i64 x4), (2, .int .i64 x5), (3, .int .i64 x6), (4, .func (.func fd2) F2 C2), (10, .bool c1), (11, .bool c2)] [] H (Eq.mp (by kernel_rfl) h') (obs_block (obs_seq obs_region rfl (obs_seq (obs_seq obs_region rfl (obs_cond (obs_seq obs_region rfl obs_ret) obs_skip)) rfl (obs_seq (obs_seq obs_region rfl (obs_cond (obs_seq obs_region rfl obs_ret) obs_skip)) rfl (obs_seqc (obs_seq obs_region rfl (obs_cond (obs_seq obs_region rfl obs_region) obs_skip)) rfl (fun E D H h => by
            obtain ⟨w0, e0, g1⟩ := DG.out h
            obtain ⟨A3, n3, m3, rfl, g2⟩ := DSl.out g1
            obtain ⟨w1, e1, g3⟩ := DG.out g2
            obtain ⟨x7, rfl, g4⟩ := DI.out g3
            obtain ⟨w2, e2, g5⟩ := DG.out g4
            obtain ⟨x8, rfl, g6⟩ := DI.out g5
            obtain ⟨w3, e3, g7⟩ := DG.out g6
            obtain ⟨x9, rfl, g8⟩ := DI.out g7
            obtain ⟨w4, e4, g9⟩ := DG.out g8
            obtain ⟨fd3, F3, C3, rfl, g10⟩ := DFn.out g9
            obtain ⟨w10, e10, g11⟩ := DG.out g10
            obtain ⟨c3, rfl, g12⟩ := DB.out g11
            obtain ⟨w11, e11, g13⟩ := DG.out g12
            obtain ⟨c4, rfl, g14⟩ := DB.out g13
            obtain ⟨w12, e12, g15⟩ := DG.out g14
            obtain ⟨x10, rfl, g16⟩ := DI.out g15
            obtain ⟨rfl, h'⟩ := DNilD.out g16
            exact (hw_safe (Λ := (W_slices_pdqsortCmpFunc_api_Record.Λ2 K (W_slices_pdqsortCmpFunc_api_Record.l2 K k))) mixWlslices _ _ [(0, .slice A3 n3 m3), (1, .int .i64 x7), (2, .int .i64 x8), (3, .int .i64 x9), (4, .func (.func fd3) F3 C3), (10, .bool c3), (11, .bool c4), (12, .int .i64 x10)] [] H (Eq.mp (by kernel_rfl) h') (obs_seq obs_region rfl (obs_seqc (obs_seq obs_region rfl (obs_cond (obs_seq obs_region rfl (obs_seq obs_region rfl obs_region)) obs_skip)) rfl (fun E D H h => by
                obtain ⟨w0, e0, g1⟩ := DG.out h
                obtain ⟨A4, n4, m4, rfl, g2⟩ := DSl.out g1
                obtain ⟨w1, e1, g3⟩ := DG.out g2
                obtain ⟨x13, rfl, g4⟩ := DI.out g3
                obtain ⟨w2, e2, g5⟩ := DG.out g4
                obtain ⟨x14, rfl, g6⟩ := DI.out g5
                obtain ⟨w3, e3, g7⟩ := DG.out g6
                obtain ⟨x15, rfl, g8⟩ := DI.out g7
                obtain ⟨w4, e4, g9⟩ := DG.out g8
                obtain ⟨fd4, F4, C4, rfl, g10⟩ := DFn.out g9
                obtain ⟨w10, e10, g11⟩ := DG.out g10
                obtain ⟨c5, rfl, g12⟩ := DB.out g11
                obtain ⟨w11, e11, g13⟩ := DG.out g12
                obtain ⟨c6, rfl, g14⟩ := DB.out g13
                obtain ⟨w12, e12, g15⟩ := DG.out g14
                obtain ⟨x16, rfl, g16⟩ := DI.out g15
                obtain ⟨w13, e13, g17⟩ := DG.out g16
                obtain ⟨x17, rfl, g18⟩ := DI.out g17
                obtain ⟨w14, e14, g19⟩ := DG.out g18
                obtain ⟨x18, rfl, g20⟩ := DI.out g19
                obtain ⟨rfl, h'⟩ := DNilD.out g20
                exact (hw_safe (Λ := (W_slices_pdqsortCmpFunc_api_Record.Λ2 K (W_slices_pdqsortCmpFunc_api_Record.l2 K k))) mixWlslices _ _ [(0, .slice A4 n4 m4), (1, .int .i64 x13), (2, .int .i64 x14), (3, .int .i64 x15), (4, .func (.func fd4) F4 C4), (10, .bool c5), (11, .bool c6), (12, .int .i64 x16), (13, .int .i64 x17), (14, .int .i64 x18)] [] H (Eq.mp (by kernel_rfl) h') (obs_seqc (obs_seq obs_region rfl (obs_cond (obs_seq obs_region rfl (obs_cond obs_ret obs_skip)) obs_skip)) rfl (fun E D H h => by
                    obtain ⟨w0, e0, g1⟩ := DG.out h
                    obtain ⟨A5, n5, m5, rfl, g2⟩ := DSl.out g1
                    obtain ⟨w1, e1, g3⟩ := DG.out g2
                    obtain ⟨x19, rfl, g4⟩ := DI.out g3
                    obtain ⟨w2, e2, g5⟩ := DG.out g4
                    obtain ⟨x20, rfl, g6⟩ := DI.out g5
                    obtain ⟨w3, e3, g7⟩ := DG.out g6
                    obtain ⟨x21, rfl, g8⟩ := DI.out g7
                    obtain ⟨w4, e4, g9⟩ := DG.out g8
                    obtain ⟨fd5, F5, C5, rfl, g10⟩ := DFn.out g9
                    obtain ⟨w10, e10, g11⟩ := DG.out g10
                    obtain ⟨c8, rfl, g12⟩ := DB.out g11
                    obtain ⟨w11, e11, g13⟩ := DG.out g12
                    obtain ⟨c9, rfl, g14⟩ := DB.out g13
                    obtain ⟨w12, e12, g15⟩ := DG.out g14
                    obtain ⟨x22, rfl, g16⟩ := DI.out g15
                    obtain ⟨w13, e13, g17⟩ := DG.out g16
                    obtain ⟨x23, rfl, g18⟩ := DI.out g17
                    obtain ⟨rfl, h'⟩ := DNilD.out g18
                    exact (hw_safe (Λ := (W_slices_pdqsortCmpFunc_api_Record.Λ2 K (W_slices_pdqsortCmpFunc_api_Record.l2 K k))) mixWlslices _ _ [(0, .slice A5 n5 m5), (1, .int .i64 x19), (2, .int .i64 x20), (3, .int .i64 x21), (4, .func (.func fd5) F5 C5), (10, .bool c8), (11, .bool c9), (12, .int .i64 x22), (13, .int .i64 x23)] [] H (Eq.mp (by kernel_rfl) h') (obs_seqc (obs_seq obs_region rfl (obs_cond (obs_seq obs_region rfl (obs_seq obs_region rfl obs_exit)) obs_skip)) rfl (fun E D H h => by
                        obtain ⟨w0, e0, g1⟩ := DG.out h
                        obtain ⟨A6, n6, m6, rfl, g2⟩ := DSl.out g1
                        obtain ⟨w1, e1, g3⟩ := DG.out g2
                        obtain ⟨x26, rfl, g4⟩ := DI.out g3
                        obtain ⟨w2, e2, g5⟩ := DG.out g4
                        obtain ⟨x27, rfl, g6⟩ := DI.out g5
                        obtain ⟨w3, e3, g7⟩ := DG.out g6
                        obtain ⟨x28, rfl, g8⟩ := DI.out g7
                        obtain ⟨w4, e4, g9⟩ := DG.out g8
                        obtain ⟨fd6, F6, C6, rfl, g10⟩ := DFn.out g9
                        obtain ⟨w12, e12, g11⟩ := DG.out g10
                        obtain ⟨x29, rfl, g12⟩ := DI.out g11
                        obtain ⟨w13, e13, g13⟩ := DG.out g12
                        obtain ⟨x30, rfl, g14⟩ := DI.out g13
                        obtain ⟨rfl, h'⟩ := DNilD.out g14
                        exact (hw_safe (Λ := (W_slices_pdqsortCmpFunc_api_Record.Λ2 K (W_slices_pdqsortCmpFunc_api_Record.l2 K k))) mixWlslices _ _ [(0, .slice A6 n6 m6), (1, .int .i64 x26), (2, .int .i64 x27), (3, .int .i64 x28), (4, .func (.func fd6) F6 C6), (12, .int .i64 x29), (13, .int .i64 x30)] [] H (Eq.mp (by kernel_rfl) h') (obs_seq obs_region rfl (obs_seq obs_region rfl (obs_seq obs_region rfl (obs_seq obs_region rfl (obs_seq obs_region rfl (obs_cond (obs_seq obs_region rfl (obs_seq obs_region rfl obs_region)) (obs_seq obs_region rfl (obs_seq obs_region rfl obs_region))))))))).weaken (EnvLe.cons e0 (EnvLe.cons e1 (EnvLe.cons e2 (EnvLe.cons e3 (EnvLe.cons e4 (EnvLe.cons e12 (EnvLe.cons e13 (EnvLe.nil _)))))))) (Hp.le_refl _)))).weaken (EnvLe.cons e0 (EnvLe.cons e1 (EnvLe.cons e2 (EnvLe.cons e3 (EnvLe.cons e4 (EnvLe.cons e10 (EnvLe.cons e11 (EnvLe.cons e12 (EnvLe.cons e13 (EnvLe.nil _)))))))))) (Hp.le_refl _)))).weaken (EnvLe.cons e0 (EnvLe.cons e1 (EnvLe.cons e2 (EnvLe.cons e3 (EnvLe.cons e4 (EnvLe.cons e10 (EnvLe.cons e11 (EnvLe.cons e12 (EnvLe.cons e13 (EnvLe.cons e14 (EnvLe.nil _))))))))))) (Hp.le_refl _))))).weaken (EnvLe.cons e0 (EnvLe.cons e1 (EnvLe.cons e2 (EnvLe.cons e3 (EnvLe.cons e4 (EnvLe.cons e10 (EnvLe.cons e11 (EnvLe.cons e12 (EnvLe.nil _))))))))) (Hp.le_refl _)))))))).weaken (EnvLe.cons e0 (EnvLe.cons e1 (EnvLe.cons e2 (EnvLe.cons e3 (EnvLe.cons e4 (EnvLe.cons e10 (EnvLe.cons e11 (EnvLe.nil _)))))))) (Hp.le_refl _)))))))

-- slices.insertionSortCmpFunc[api.Record]
def W_slices_insertionSortCmpFunc_api_Record.l4 (K : Value → Hp → Prop) (R1 : Option Addr → Nat → Nat → Int → Int → FuncId → Array Value → Array Value → Int → Hp → Prop) : Nat → Option Addr → Nat → Nat → Int → Int → FuncId → Array Value → Array Value → Int → Int → Hp → Prop
  | 0, _, _, _, _, _, _, _, _, _, _, _ => False
  | k + 1, A3, n3, m3, x6, x7, fd3, F3, C3, x8, x9, H =>
    let R4 := W_slices_insertionSortCmpFunc_api_Record.l4 K R1 k
    BIf (decide (x9 > x6)) (ixI x9 n3 (NN A3 fun a1 => LdA H (a1.add (x9.toNat * 8)) 8 fun l1 => ixI (IntKind.i64.wrap (x9 - (1 : Int))) n3 (NN A3 fun a2 => LdA H (a2.add ((IntKind.i64.wrap (x9 - (1 : Int))).toNat * 8)) 8 fun l2 => CallK Tryz.prog fd3 ((F3 ++ #[.agg l1.toArray, .agg l2.toArray]) ++ C3) H fun v1 H1 => DR Tryz.prog (resTypes Tryz.prog fd3) v1 fun v2 => DI .i64 v2 fun x10 => BIf (decide (x10 < (0 : Int))) (ixI (IntKind.i64.wrap (x9 - (1 : Int))) n3 (NN A3 fun a3 => ixI x9 n3 (NN A3 fun a4 => (LdA H1 (a3.add ((IntKind.i64.wrap (x9 - (1 : Int))).toNat * 8)) 8 fun l3 => LdA H1 (a4.add (x9.toNat * 8)) 8 fun l4 => ixI x9 n3 (NN A3 fun a5 => StA H1 (a5.add (x9.toNat * 8)) l3.toArray 8 fun H2 => ixI (IntKind.i64.wrap (x9 - (1 : Int))) n3 (NN A3 fun a6 => StA H2 (a6.add ((IntKind.i64.wrap (x9 - (1 : Int))).toNat * 8)) l4.toArray 8 fun H3 => R4 A3 n3 m3 x6 x7 fd3 F3 C3 x8 (IntKind.i64.wrap (x9 - (1 : Int))) H3))) ∧ (LdA H1 (a4.add (x9.toNat * 8)) 8 fun l5 => LdA H1 (a3.add ((IntKind.i64.wrap (x9 - (1 : Int))).toNat * 8)) 8 fun l6 => ixI x9 n3 (NN A3 fun a7 => StA H1 (a7.add (x9.toNat * 8)) l6.toArray 8 fun H4 => ixI (IntKind.i64.wrap (x9 - (1 : Int))) n3 (NN A3 fun a8 => StA H4 (a8.add ((IntKind.i64.wrap (x9 - (1 : Int))).toNat * 8)) l5.toArray 8 fun H5 => R4 A3 n3 m3 x6 x7 fd3 F3 C3 x8 (IntKind.i64.wrap (x9 - (1 : Int))) H5)))))) (R1 A3 n3 m3 x6 x7 fd3 F3 C3 (IntKind.i64.wrap (x8 + (1 : Int))) H1)))) (R1 A3 n3 m3 x6 x7 fd3 F3 C3 (IntKind.i64.wrap (x8 + (1 : Int))) H)
def W_slices_insertionSortCmpFunc_api_Record.l1 (K : Value → Hp → Prop) : Nat → Option Addr → Nat → Nat → Int → Int → FuncId → Array Value → Array Value → Int → Hp → Prop
  | 0, _, _, _, _, _, _, _, _, _, _ => False
  | k + 1, A2, n2, m2, x3, x4, fd2, F2, C2, x5, H =>
    let R1 := W_slices_insertionSortCmpFunc_api_Record.l1 K k
    BIf (decide (x5 < x4)) ((∃ k, W_slices_insertionSortCmpFunc_api_Record.l4 K R1 k A2 n2 m2 x3 x4 fd2 F2 C2 x5 x5 H)) (K (.tuple #[]) H)
def W_slices_insertionSortCmpFunc_api_Record (A1 : Option Addr) (n1 : Nat) (m1 : Nat) (x1 : Int) (x2 : Int) (fd1 : FuncId) (F1 : Array Value) (C1 : Array Value) (H : Hp) (K : Value → Hp → Prop) : Prop :=
  (∃ k, W_slices_insertionSortCmpFunc_api_Record.l1 K k A1 n1 m1 x1 x2 fd1 F1 C1 (IntKind.i64.wrap (x1 + (1 : Int))) H)
def W_slices_insertionSortCmpFunc_api_Record.l1.L (K : Value → Hp → Prop) (k : Nat) : Mid := fun E D H =>
  DG (E.get? 0) fun w0 => DSl w0 fun A2 n2 m2 => DG (E.get? 1) fun w1 => DI .i64 w1 fun x3 => DG (E.get? 2) fun w2 => DI .i64 w2 fun x4 => DG (E.get? 3) fun w3 => DFn w3 fun fd2 F2 C2 => DG (E.get? 8) fun w8 => DI .i64 w8 fun x5 => DNilD D (W_slices_insertionSortCmpFunc_api_Record.l1 K k A2 n2 m2 x3 x4 fd2 F2 C2 x5 H)
def W_slices_insertionSortCmpFunc_api_Record.l4.L (K : Value → Hp → Prop) (R1 : Option Addr → Nat → Nat → Int → Int → FuncId → Array Value → Array Value → Int → Hp → Prop) (k : Nat) : Mid := fun E D H =>
  DG (E.get? 0) fun w0 => DSl w0 fun A3 n3 m3 => DG (E.get? 1) fun w1 => DI .i64 w1 fun x6 => DG (E.get? 2) fun w2 => DI .i64 w2 fun x7 => DG (E.get? 3) fun w3 => DFn w3 fun fd3 F3 C3 => DG (E.get? 8) fun w8 => DI .i64 w8 fun x8 => DG (E.get? 9) fun w9 => DI .i64 w9 fun x9 => DNilD D (W_slices_insertionSortCmpFunc_api_Record.l4 K R1 k A3 n3 m3 x6 x7 fd3 F3 C3 x8 x9 H)
def W_slices_insertionSortCmpFunc_api_Record.Λ4 (_ : Value → Hp → Prop) (_R1 : Option Addr → Nat → Nat → Int → Int → FuncId → Array Value → Array Value → Int → Hp → Prop) (_R4 : Option Addr → Nat → Nat → Int → Int → FuncId → Array Value → Array Value → Int → Int → Hp → Prop) : Cuts := Cuts.none (fun i => match Nat.beq i 6 with | true => some ([], [0, 0, 0, 0, 8, 0, 0, 64, 224, 480, 0, 0, 3072, 7168, 16355, 32739, 65535, 131071], 0) | false => match Nat.beq i 4 with | true => some ([], [0, 1, 2, 3, 4, 5, 6, 7, 8, 9, 10, 11, 12, 13], 14) | false => none)
def W_slices_insertionSortCmpFunc_api_Record.Λ1 (K : Value → Hp → Prop) (R1 : Option Addr → Nat → Nat → Int → Int → FuncId → Array Value → Array Value → Int → Hp → Prop) : Cuts := ⟨fun i => none, fun i => match Nat.beq i 4 with | true => some (fun E D H => ∃ k, W_slices_insertionSortCmpFunc_api_Record.l4.L K R1 k E D H) | false => none, (fun i => match Nat.beq i 6 with | true => some ([], [0, 0, 0, 0, 8, 0, 0, 64, 224, 480, 0, 0, 3072, 7168, 16355, 32739, 65535, 131071], 0) | false => match Nat.beq i 4 with | true => some ([], [0, 1, 2, 3, 4, 5, 6, 7, 8, 9, 10, 11, 12, 13], 14) | false => none)⟩
def W_slices_insertionSortCmpFunc_api_Record.Λ (K : Value → Hp → Prop) : Cuts := ⟨fun i => none, fun i => match Nat.beq i 1 with | true => some (fun E D H => ∃ k, W_slices_insertionSortCmpFunc_api_Record.l1.L K k E D H) | false => none, (fun i => match Nat.beq i 6 with | true => some ([], [0, 0, 0, 0, 8, 0, 0, 64, 224, 480, 0, 0, 3072, 7168, 16355, 32739, 65535, 131071], 0) | false => match Nat.beq i 4 with | true => some ([], [0, 1, 2, 3, 4, 5, 6, 7, 8, 9, 10, 11, 12, 13], 14) | false => none)⟩
theorem W_slices_insertionSortCmpFunc_api_Record.ok (A1 : Option Addr) (n1 : Nat) (m1 : Nat) (x1 : Int) (x2 : Int) (fd1 : FuncId) (F1 : Array Value) (C1 : Array Value) (H : Hp) (K : Value → Hp → Prop) (h : W_slices_insertionSortCmpFunc_api_Record A1 n1 m1 x1 x2 fd1 F1 C1 H K) : HCalls Tryz.prog 252 #[.slice A1 n1 m1, .int .i64 x1, .int .i64 x2, .func (.func fd1) F1 C1] H K :=
  hcalls Tryz.func252 rfl (Nat.le_of_ble_eq_true rfl) (hw_safe (Λ := (W_slices_insertionSortCmpFunc_api_Record.Λ K)) mixWlslices _ _ _ _ _ (Eq.mp (by kernel_rfl) h) (obs_seq obs_region rfl (obs_block (obs_loop rfl (fun E D H h => by
      refine Safe.loop' (W_slices_insertionSortCmpFunc_api_Record.l1.L K) (fun E D H h => ?_) (fun k E D H h => ?_) E D H h
      · obtain ⟨w0, e0, g1⟩ := DG.out h; obtain ⟨A2, n2, m2, rfl, g2⟩ := DSl.out g1; obtain ⟨w1, e1, g3⟩ := DG.out g2; obtain ⟨x3, rfl, g4⟩ := DI.out g3; obtain ⟨w2, e2, g5⟩ := DG.out g4; obtain ⟨x4, rfl, g6⟩ := DI.out g5; obtain ⟨w3, e3, g7⟩ := DG.out g6; obtain ⟨fd2, F2, C2, rfl, g8⟩ := DFn.out g7; obtain ⟨w8, e8, g9⟩ := DG.out g8; obtain ⟨x5, rfl, g10⟩ := DI.out g9; obtain ⟨rfl, h'⟩ := DNilD.out g10; exact h'
      · obtain ⟨w0, e0, g1⟩ := DG.out h
        obtain ⟨A2, n2, m2, rfl, g2⟩ := DSl.out g1
        obtain ⟨w1, e1, g3⟩ := DG.out g2
        obtain ⟨x3, rfl, g4⟩ := DI.out g3
        obtain ⟨w2, e2, g5⟩ := DG.out g4
        obtain ⟨x4, rfl, g6⟩ := DI.out g5
        obtain ⟨w3, e3, g7⟩ := DG.out g6
        obtain ⟨fd2, F2, C2, rfl, g8⟩ := DFn.out g7
        obtain ⟨w8, e8, g9⟩ := DG.out g8
        obtain ⟨x5, rfl, g10⟩ := DI.out g9
        obtain ⟨rfl, h'⟩ := DNilD.out g10
        exact (hw_safe (Λ := (W_slices_insertionSortCmpFunc_api_Record.Λ1 K (W_slices_insertionSortCmpFunc_api_Record.l1 K k))) mixWlslices _ _ [(0, .slice A2 n2 m2), (1, .int .i64 x3), (2, .int .i64 x4), (3, .func (.func fd2) F2 C2), (8, .int .i64 x5)] [] H (Eq.mp (by kernel_rfl) h') (obs_seq (obs_seq obs_region rfl (obs_cond obs_skip obs_exit)) rfl (obs_seq (obs_block (obs_seq obs_region rfl (obs_block (obs_loop rfl (fun E D H h => by
            refine Safe.loop' (W_slices_insertionSortCmpFunc_api_Record.l4.L K (W_slices_insertionSortCmpFunc_api_Record.l1 K k)) (fun E D H h => ?_) (fun k E D H h => ?_) E D H h
            · obtain ⟨w0, e0, g1⟩ := DG.out h; obtain ⟨A3, n3, m3, rfl, g2⟩ := DSl.out g1; obtain ⟨w1, e1, g3⟩ := DG.out g2; obtain ⟨x6, rfl, g4⟩ := DI.out g3; obtain ⟨w2, e2, g5⟩ := DG.out g4; obtain ⟨x7, rfl, g6⟩ := DI.out g5; obtain ⟨w3, e3, g7⟩ := DG.out g6; obtain ⟨fd3, F3, C3, rfl, g8⟩ := DFn.out g7; obtain ⟨w8, e8, g9⟩ := DG.out g8; obtain ⟨x8, rfl, g10⟩ := DI.out g9; obtain ⟨w9, e9, g11⟩ := DG.out g10; obtain ⟨x9, rfl, g12⟩ := DI.out g11; obtain ⟨rfl, h'⟩ := DNilD.out g12; exact h'
            · obtain ⟨w0, e0, g1⟩ := DG.out h
              obtain ⟨A3, n3, m3, rfl, g2⟩ := DSl.out g1
              obtain ⟨w1, e1, g3⟩ := DG.out g2
              obtain ⟨x6, rfl, g4⟩ := DI.out g3
              obtain ⟨w2, e2, g5⟩ := DG.out g4
              obtain ⟨x7, rfl, g6⟩ := DI.out g5
              obtain ⟨w3, e3, g7⟩ := DG.out g6
              obtain ⟨fd3, F3, C3, rfl, g8⟩ := DFn.out g7
              obtain ⟨w8, e8, g9⟩ := DG.out g8
              obtain ⟨x8, rfl, g10⟩ := DI.out g9
              obtain ⟨w9, e9, g11⟩ := DG.out g10
              obtain ⟨x9, rfl, g12⟩ := DI.out g11
              obtain ⟨rfl, h'⟩ := DNilD.out g12
              exact (hw_safe (Λ := (W_slices_insertionSortCmpFunc_api_Record.Λ4 K (W_slices_insertionSortCmpFunc_api_Record.l1 K k) (W_slices_insertionSortCmpFunc_api_Record.l4 K (W_slices_insertionSortCmpFunc_api_Record.l1 K k) k))) mixWlslices _ _ [(0, .slice A3 n3 m3), (1, .int .i64 x6), (2, .int .i64 x7), (3, .func (.func fd3) F3 C3), (8, .int .i64 x8), (9, .int .i64 x9)] [] H (Eq.mp (by kernel_rfl) h') (obs_seq (obs_seq obs_region rfl (obs_cond obs_skip obs_exit)) rfl (obs_seq (obs_block obs_region) rfl obs_region))).weaken (EnvLe.cons e0 (EnvLe.cons e1 (EnvLe.cons e2 (EnvLe.cons e3 (EnvLe.cons e8 (EnvLe.cons e9 (EnvLe.nil _))))))) (Hp.le_refl _)))))) rfl obs_region))).weaken (EnvLe.cons e0 (EnvLe.cons e1 (EnvLe.cons e2 (EnvLe.cons e3 (EnvLe.cons e8 (EnvLe.nil _)))))) (Hp.le_refl _))))))

-- slices.IndexFunc[[]uint64,uint64]
def W_slices_IndexFunc_uint64_uint64.l2 (K : Value → Hp → Prop) : Nat → Option Addr → Nat → Nat → FuncId → Array Value → Array Value → Int → Int → Hp → Prop
  | 0, _, _, _, _, _, _, _, _, _ => False
  | k + 1, A2, n2, m2, fd2, F2, C2, x1, x2, H =>
    let R2 := W_slices_IndexFunc_uint64_uint64.l2 K k
    BIf (decide (x2 < x1)) (ixI x2 n2 (NN A2 fun a1 => Ld H (a1.add (x2.toNat * 1)) fun v1 => DI .u64 v1 fun x3 => CallK Tryz.prog fd2 ((F2 ++ #[.int .u64 x3]) ++ C2) H fun v2 H1 => DR Tryz.prog (resTypes Tryz.prog fd2) v2 fun v3 => DB v3 fun c1 => BIf c1 (K (.int .i64 x2) H1) (R2 A2 n2 m2 fd2 F2 C2 x1 (IntKind.i64.wrap (x2 + (1 : Int))) H1))) (K (.int .i64 (-1 : Int)) H)
def W_slices_IndexFunc_uint64_uint64 (A1 : Option Addr) (n1 : Nat) (m1 : Nat) (fd1 : FuncId) (F1 : Array Value) (C1 : Array Value) (H : Hp) (K : Value → Hp → Prop) : Prop :=
  (∃ k, W_slices_IndexFunc_uint64_uint64.l2 K k A1 n1 m1 fd1 F1 C1 ((n1 : Nat) : Int) (0 : Int) H)
def W_slices_IndexFunc_uint64_uint64.l2.L (K : Value → Hp → Prop) (k : Nat) : Mid := fun E D H =>
  DG (E.get? 0) fun w0 => DSl w0 fun A2 n2 m2 => DG (E.get? 1) fun w1 => DFn w1 fun fd2 F2 C2 => DG (E.get? 7) fun w7 => DI .i64 w7 fun x1 => DG (E.get? 8) fun w8 => DI .i64 w8 fun x2 => DNilD D (W_slices_IndexFunc_uint64_uint64.l2 K k A2 n2 m2 fd2 F2 C2 x1 x2 H)
def W_slices_IndexFunc_uint64_uint64.Λ2 (_ : Value → Hp → Prop) (_R2 : Option Addr → Nat → Nat → FuncId → Array Value → Array Value → Int → Int → Hp → Prop) : Cuts := Cuts.none (fun _ => none)
def W_slices_IndexFunc_uint64_uint64.Λ (K : Value → Hp → Prop) : Cuts := ⟨fun i => none, fun i => match Nat.beq i 2 with | true => some (fun E D H => ∃ k, W_slices_IndexFunc_uint64_uint64.l2.L K k E D H) | false => none, (fun _ => none)⟩
theorem W_slices_IndexFunc_uint64_uint64.ok (A1 : Option Addr) (n1 : Nat) (m1 : Nat) (fd1 : FuncId) (F1 : Array Value) (C1 : Array Value) (H : Hp) (K : Value → Hp → Prop) (h : W_slices_IndexFunc_uint64_uint64 A1 n1 m1 fd1 F1 C1 H K) : HCalls Tryz.prog 267 #[.slice A1 n1 m1, .func (.func fd1) F1 C1] H K :=
  hcalls Tryz.func267 rfl (Nat.le_of_ble_eq_true rfl) (hw_safe (Λ := (W_slices_IndexFunc_uint64_uint64.Λ K)) mixWlslices _ _ _ _ _ (Eq.mp (by kernel_rfl) h) (obs_seq obs_region rfl (obs_seq (obs_seq obs_region rfl (obs_block (obs_loop rfl (fun E D H h => by
      refine Safe.loop' (W_slices_IndexFunc_uint64_uint64.l2.L K) (fun E D H h => ?_) (fun k E D H h => ?_) E D H h
      · obtain ⟨w0, e0, g1⟩ := DG.out h; obtain ⟨A2, n2, m2, rfl, g2⟩ := DSl.out g1; obtain ⟨w1, e1, g3⟩ := DG.out g2; obtain ⟨fd2, F2, C2, rfl, g4⟩ := DFn.out g3; obtain ⟨w7, e7, g5⟩ := DG.out g4; obtain ⟨x1, rfl, g6⟩ := DI.out g5; obtain ⟨w8, e8, g7⟩ := DG.out g6; obtain ⟨x2, rfl, g8⟩ := DI.out g7; obtain ⟨rfl, h'⟩ := DNilD.out g8; exact h'
      · obtain ⟨w0, e0, g1⟩ := DG.out h
        obtain ⟨A2, n2, m2, rfl, g2⟩ := DSl.out g1
        obtain ⟨w1, e1, g3⟩ := DG.out g2
        obtain ⟨fd2, F2, C2, rfl, g4⟩ := DFn.out g3
        obtain ⟨w7, e7, g5⟩ := DG.out g4
        obtain ⟨x1, rfl, g6⟩ := DI.out g5
        obtain ⟨w8, e8, g7⟩ := DG.out g6
        obtain ⟨x2, rfl, g8⟩ := DI.out g7
        obtain ⟨rfl, h'⟩ := DNilD.out g8
        exact (hw_safe (Λ := (W_slices_IndexFunc_uint64_uint64.Λ2 K (W_slices_IndexFunc_uint64_uint64.l2 K k))) mixWlslices _ _ [(0, .slice A2 n2 m2), (1, .func (.func fd2) F2 C2), (7, .int .i64 x1), (8, .int .i64 x2)] [] H (Eq.mp (by kernel_rfl) h') (obs_seq obs_region rfl (obs_seq (obs_cond obs_skip obs_exit) rfl (obs_seq (obs_block (obs_seq obs_region rfl (obs_seq obs_region rfl (obs_cond (obs_seq obs_region rfl obs_ret) obs_skip)))) rfl obs_region)))).weaken (EnvLe.cons e0 (EnvLe.cons e1 (EnvLe.cons e7 (EnvLe.cons e8 (EnvLe.nil _))))) (Hp.le_refl _))))) rfl (obs_seq obs_region rfl obs_ret))))

end Go.Proofs.YtghajiefpmcpmaaGreatDoor.W

end
section
/-! Wlcmp -/
/- Formulas of functions, printed by wip/tools/hwp.py. -/
set_option maxRecDepth 100000
set_option linter.unusedVariables false
namespace Go.Proofs.YtghajiefpmcpmaaGreatDoor.W
open Go Go.Hw

theorem mixWlcmp : Tryz.prog.follows .mixedOrders = true := by kernel_rfl
-- cmp.Compare[uint64]
def W_cmp_Compare_uint64 (x1 : Int) (x2 : Int) (H : Hp) (K : Value → Hp → Prop) : Prop :=
  HCalls Tryz.prog 211 #[.int .u64 x1] H fun v1 H1 => DB v1 fun c1 => HCalls Tryz.prog 211 #[.int .u64 x2] H1 fun v2 H2 => DB v2 fun c2 => BIf c1 (BIf c2 (K (.int .i64 (0 : Int)) H2) (K (.int .i64 (-1 : Int)) H2)) (BIf c2 (K (.int .i64 (1 : Int)) H2) (BIf (decide (x1 < x2)) (K (.int .i64 (-1 : Int)) H2) (BIf (decide (x1 > x2)) (K (.int .i64 (1 : Int)) H2) (K (.int .i64 (0 : Int)) H2))))
def W_cmp_Compare_uint64.Λ (_ : Value → Hp → Prop) : Cuts := Cuts.none (fun _ => none)
theorem W_cmp_Compare_uint64.ok (x1 : Int) (x2 : Int) (H : Hp) (K : Value → Hp → Prop) (h : W_cmp_Compare_uint64 x1 x2 H K) : HCalls Tryz.prog 130 #[.int .u64 x1, .int .u64 x2] H K :=
  hcalls Tryz.func130 rfl (Nat.le_of_ble_eq_true rfl) (hw_safe (Λ := Cuts.none (fun _ => none)) mixWlcmp _ _ _ _ _ (Eq.mp (by kernel_rfl) h) (obs_none _ _ _ _ _))

-- cmp.isNaN[uint64]
def W_cmp_isNaN_uint64 (x1 : Int) (H : Hp) (K : Value → Hp → Prop) : Prop :=
  K (.bool (x1 != x1)) H
def W_cmp_isNaN_uint64.Λ (_ : Value → Hp → Prop) : Cuts := Cuts.none (fun _ => none)
theorem W_cmp_isNaN_uint64.ok (x1 : Int) (H : Hp) (K : Value → Hp → Prop) (h : W_cmp_isNaN_uint64 x1 H K) : HCalls Tryz.prog 211 #[.int .u64 x1] H K :=
  hcalls Tryz.func211 rfl (Nat.le_of_ble_eq_true rfl) (hw_safe (Λ := Cuts.none (fun _ => none)) mixWlcmp _ _ _ _ _ (Eq.mp (by kernel_rfl) h) (obs_none _ _ _ _ _))

-- cmp.Less[int]
def W_cmp_Less_int (x1 : Int) (x2 : Int) (H : Hp) (K : Value → Hp → Prop) : Prop :=
  HCalls Tryz.prog 319 #[.int .i64 x1] H fun v1 H1 => DB v1 fun c1 => BIf c1 (HCalls Tryz.prog 319 #[.int .i64 x2] H1 fun v2 H2 => DB v2 fun c2 => BIf (!c2) (K (.bool true) H2) (K (.bool (decide (x1 < x2))) H2)) (K (.bool (decide (x1 < x2))) H1)
def W_cmp_Less_int.Λ (_ : Value → Hp → Prop) : Cuts := Cuts.none (fun _ => none)
theorem W_cmp_Less_int.ok (x1 : Int) (x2 : Int) (H : Hp) (K : Value → Hp → Prop) (h : W_cmp_Less_int x1 x2 H K) : HCalls Tryz.prog 293 #[.int .i64 x1, .int .i64 x2] H K :=
  hcalls Tryz.func293 rfl (Nat.le_of_ble_eq_true rfl) (hw_safe (Λ := Cuts.none (fun _ => none)) mixWlcmp _ _ _ _ _ (Eq.mp (by kernel_rfl) h) (obs_none _ _ _ _ _))

-- cmp.isNaN[int]
def W_cmp_isNaN_int (x1 : Int) (H : Hp) (K : Value → Hp → Prop) : Prop :=
  K (.bool (x1 != x1)) H
def W_cmp_isNaN_int.Λ (_ : Value → Hp → Prop) : Cuts := Cuts.none (fun _ => none)
theorem W_cmp_isNaN_int.ok (x1 : Int) (H : Hp) (K : Value → Hp → Prop) (h : W_cmp_isNaN_int x1 H K) : HCalls Tryz.prog 319 #[.int .i64 x1] H K :=
  hcalls Tryz.func319 rfl (Nat.le_of_ble_eq_true rfl) (hw_safe (Λ := Cuts.none (fun _ => none)) mixWlcmp _ _ _ _ _ (Eq.mp (by kernel_rfl) h) (obs_none _ _ _ _ _))

end Go.Proofs.YtghajiefpmcpmaaGreatDoor.W

end
section
/-! Wring -/
/- Formulas of functions, printed by wip/tools/hwp.py. -/
set_option maxRecDepth 100000
set_option linter.unusedVariables false
namespace Go.Proofs.YtghajiefpmcpmaaGreatDoor.W
open Go Go.Hw

theorem mixWring : Tryz.prog.follows .mixedOrders = true := by kernel_rfl
-- ring.New
def W_ring_New (p1 : Option Addr) (x1 : Int) (x2 : Int) (x3 : Int) (H : Hp) (K : Value → Hp → Prop) : Prop :=
  Nw H (.obj (.cells #[.int .i64 x1, .int .i64 x2, .int .i64 x3] 30)) fun b1 H1 => BIf p1.isNone (K (.tuple #[.pointer none, .int .i64 (1 : Int)]) H1) (Ld H1 ((⟨b1, 0, none⟩ : Addr).add 1) fun v1 => DI .i64 v1 fun x4 => BIf (decide (x4 < (2 : Int))) (K (.tuple #[.pointer none, .int .i64 (2 : Int)]) H1) (Ld H1 ((⟨b1, 0, none⟩ : Addr).add 0) fun v2 => DI .i64 v2 fun x5 => BIf (decide (x5 < (0 : Int))) (K (.tuple #[.pointer none, .int .i64 (2 : Int)]) H1) (Ld H1 ((⟨b1, 0, none⟩ : Addr).add 0) fun v3 => DI .i64 v3 fun x6 => NN p1 fun a1 => QCall Tryz.prog 99 #[.pointer (some (a1.add 0))] H1 fun v4 => DI .i64 v4 fun x7 => BIf (decide (x6 ≥ x7)) (K (.tuple #[.pointer none, .int .i64 (2 : Int)]) H1) (Ld H1 ((⟨b1, 0, none⟩ : Addr).add 1) fun v5 => DI .i64 v5 fun x8 => NN p1 fun a2 => QCall Tryz.prog 99 #[.pointer (some (a2.add 0))] H1 fun v6 => DI .i64 v6 fun x9 => Ld H1 ((⟨b1, 0, none⟩ : Addr).add 0) fun v7 => DI .i64 v7 fun x10 => BIf (decide (x8 > (IntKind.i64.wrap (x9 - x10)))) (K (.tuple #[.pointer none, .int .i64 (2 : Int)]) H1) (LdA H1 (⟨b1, 0, none⟩ : Addr) 3 fun l1 => DCons l1.toArray.toList fun v8 l2 => DI .i64 v8 fun x11 => DCons l2 fun v9 l3 => DI .i64 v9 fun x12 => DCons l3 fun v10 l4 => DI .i64 v10 fun x13 => DNil l4 (Nw H1 (.obj (.cells #[.int .i64 x11, .int .i64 x12, .int .i64 x13, .pointer p1] 199)) fun b2 H2 => K (.tuple #[.pointer (some (⟨b2, 0, none⟩ : Addr)), .int .i64 (0 : Int)]) H2))))))
def W_ring_New.Λ (_ : Value → Hp → Prop) : Cuts := Cuts.none (fun _ => none)
theorem W_ring_New.ok (p1 : Option Addr) (x1 : Int) (x2 : Int) (x3 : Int) (H : Hp) (K : Value → Hp → Prop) (h : W_ring_New p1 x1 x2 x3 H K) : HCalls Tryz.prog 32 #[.pointer p1, .agg #[.int .i64 x1, .int .i64 x2, .int .i64 x3]] H K :=
  hcalls Tryz.func32 rfl (Nat.le_of_ble_eq_true rfl) (hw_safe (Λ := Cuts.none (fun _ => none)) mixWring _ _ _ _ _ (Eq.mp (by kernel_rfl) h) (obs_none _ _ _ _ _))

-- (*ring.Ring).Append
def W_ring_Ring_Append.j9 (K : Value → Hp → Prop) (p5 : Option Addr) (a5 : Addr) (A5 : Option Addr) (n5 : Nat) (m5 : Nat) (H : Hp) : Prop :=
  NN p5 fun a6 => Ld H (a6.add 3) fun v24 => DP v24 fun p6 => Ld H (a5.add 0) fun v25 => DI .u64 v25 fun x13 => QCall Tryz.prog 120 #[.pointer p5, .int .u64 x13] H fun v26 => DI .i64 v26 fun x14 => HCalls Tryz.prog 48 #[.pointer p6, .int .i64 x14, .slice A5 n5 m5] H fun v27 H12 => DI .i64 v27 fun x15 => BIf (x15 != (0 : Int)) (K (.int .i64 x15) H12) (NN p5 fun a7 => Ld H12 (a7.add 3) fun v28 => DP v28 fun p7 => HCalls Tryz.prog 102 #[.pointer p7] H12 fun v29 H13 => DI .i64 v29 fun x16 => K (.int .i64 x16) H13)
def W_ring_Ring_Append.j2 (K : Value → Hp → Prop) (p4 : Option Addr) (a4 : Addr) (A4 : Option Addr) (n4 : Nat) (m4 : Nat) (x7 : Int) (H : Hp) : Prop :=
  BIf (x7 != (0 : Int)) (K (.int .i64 (10 : Int)) H) (HCalls Tryz.prog 38 #[.pointer p4] H fun v15 H8 => DTup v15 fun l13 => DCons l13 fun v16 l14 => DA v16 fun y2 => DCons l14 fun v17 l15 => DB v17 fun c1 => DCons l15 fun v18 l16 => DI .i64 v18 fun x8 => DNil l16 (Nw H8 (.obj (.cells #[.int .u64 (0 : Int), .int .i64 (0 : Int), .int .i64 (0 : Int), .int .i64 (0 : Int), .int .i64 (0 : Int), .int .u32 (0 : Int), .int .u32 (0 : Int), .int .u32 (0 : Int)] 87)) fun b2 H9 => StA H9 (⟨b2, 0, none⟩ : Addr) y2 8 fun H10 => BIf (x8 != (0 : Int)) (K (.int .i64 x8) H10) (BIf c1 (LdA H10 (⟨b2, 0, none⟩ : Addr) 8 fun l17 => LdA H10 a4 8 fun l18 => HCalls Tryz.prog 119 #[.agg l17.toArray, .agg l18.toArray] H10 fun v19 H11 => DB v19 fun c2 => BIf (!c2) (K (.int .i64 (5 : Int)) H11) (BIf (!c1) (Ld H11 (a4.add 0) fun v20 => DI .u64 v20 fun x9 => BIf (x9 != (1 : Int)) (K (.int .i64 (5 : Int)) H11) (Ld H11 (a4.add 1) fun v22 => DI .i64 v22 fun x11 => BIf (x11 != (1 : Int)) (K (.int .i64 (5 : Int)) H11) (W_ring_Ring_Append.j9 K p4 a4 A4 n4 m4 H11))) (W_ring_Ring_Append.j9 K p4 a4 A4 n4 m4 H11))) (BIf (!c1) (Ld H10 (a4.add 0) fun v21 => DI .u64 v21 fun x10 => BIf (x10 != (1 : Int)) (K (.int .i64 (5 : Int)) H10) (Ld H10 (a4.add 1) fun v23 => DI .i64 v23 fun x12 => BIf (x12 != (1 : Int)) (K (.int .i64 (5 : Int)) H10) (W_ring_Ring_Append.j9 K p4 a4 A4 n4 m4 H10))) (W_ring_Ring_Append.j9 K p4 a4 A4 n4 m4 H10)))))
def W_ring_Ring_Append (p1 : Option Addr) (y1 : Array Value) (H : Hp) (K : Value → Hp → Prop) : Prop :=
  Nw H (.obj (.cells y1 87)) fun b1 H1 => NN p1 fun a1 => (LdA H1 (⟨b1, 0, none⟩ : Addr) 8 fun l1 => Ld H1 (a1.add 3) fun v1 => DP v1 fun p2 => NN p2 fun a2 => HCalls Tryz.prog 118 #[.pointer (some (a2.add 0))] H1 fun v2 H2 => DI .i64 v2 fun x1 => HCalls Tryz.prog 117 #[.agg l1.toArray, .int .i64 x1] H2 fun v3 H3 => DTup v3 fun l2 => DCons l2 fun v4 l3 => DSl v4 fun A1 n1 m1 => DCons l3 fun v5 l4 => DI .i64 v5 fun x2 => DNil l4 (W_ring_Ring_Append.j2 K p1 (⟨b1, 0, none⟩ : Addr) A1 n1 m1 x2 H3)) ∧ (Ld H1 (a1.add 3) fun v6 => DP v6 fun p3 => NN p3 fun a3 => (LdA H1 (⟨b1, 0, none⟩ : Addr) 8 fun l5 => HCalls Tryz.prog 118 #[.pointer (some (a3.add 0))] H1 fun v7 H4 => DI .i64 v7 fun x3 => HCalls Tryz.prog 117 #[.agg l5.toArray, .int .i64 x3] H4 fun v8 H5 => DTup v8 fun l6 => DCons l6 fun v9 l7 => DSl v9 fun A2 n2 m2 => DCons l7 fun v10 l8 => DI .i64 v10 fun x4 => DNil l8 (W_ring_Ring_Append.j2 K p1 (⟨b1, 0, none⟩ : Addr) A2 n2 m2 x4 H5)) ∧ (HCalls Tryz.prog 118 #[.pointer (some (a3.add 0))] H1 fun v11 H6 => DI .i64 v11 fun x5 => LdA H6 (⟨b1, 0, none⟩ : Addr) 8 fun l9 => HCalls Tryz.prog 117 #[.agg l9.toArray, .int .i64 x5] H6 fun v12 H7 => DTup v12 fun l10 => DCons l10 fun v13 l11 => DSl v13 fun A3 n3 m3 => DCons l11 fun v14 l12 => DI .i64 v14 fun x6 => DNil l12 (W_ring_Ring_Append.j2 K p1 (⟨b1, 0, none⟩ : Addr) A3 n3 m3 x6 H7)))
def W_ring_Ring_Append.Λ (K : Value → Hp → Prop) : Cuts := ⟨fun i => match Nat.beq i 9 with | true => some (fun E D H => DG (E.get? 0) fun w0 => DP w0 fun p5 => DG (E.get? 3) fun w3 => DP w3 fun pw3 => NN pw3 fun a5 => DG (E.get? 5) fun w5 => DSl w5 fun A5 n5 m5 => DNilD D (W_ring_Ring_Append.j9 K p5 a5 A5 n5 m5 H)) | false => match Nat.beq i 2 with | true => some (fun E D H => DG (E.get? 0) fun w0 => DP w0 fun p4 => DG (E.get? 3) fun w3 => DP w3 fun pw3 => NN pw3 fun a4 => DG (E.get? 5) fun w5 => DSl w5 fun A4 n4 m4 => DG (E.get? 6) fun w6 => DI .i64 w6 fun x7 => DNilD D (W_ring_Ring_Append.j2 K p4 a4 A4 n4 m4 x7 H)) | false => none, fun i => none, (fun i => match Nat.beq i 9 with | true => some ([], [0, 1, 2, 3, 4, 5, 6, 7, 8], 9) | false => match Nat.beq i 1 with | true => some ([], [0, 0, 2, 6, 14, 30, 62, 126, 255, 511, 1023, 1023, 2047, 8191], 0) | false => none)⟩
theorem W_ring_Ring_Append.ok (p1 : Option Addr) (y1 : Array Value) (H : Hp) (K : Value → Hp → Prop) (h : W_ring_Ring_Append p1 y1 H K) : HCalls Tryz.prog 34 #[.pointer p1, .agg y1] H K :=
  hcalls Tryz.func34 rfl (Nat.le_of_ble_eq_true rfl) (hw_safe (Λ := (W_ring_Ring_Append.Λ K)) mixWring _ _ _ _ _ (Eq.mp (by kernel_rfl) h) (obs_seq obs_region rfl (obs_seqc obs_region rfl (fun E D H h => by
      obtain ⟨w0, e0, g1⟩ := DG.out h
      obtain ⟨p4, rfl, g2⟩ := DP.out g1
      obtain ⟨w3, e3, g3⟩ := DG.out g2
      obtain ⟨pw3, rfl, g4⟩ := DP.out g3
      obtain ⟨a4, rfl, g5⟩ := NN.out g4
      obtain ⟨w5, e5, g6⟩ := DG.out g5
      obtain ⟨A4, n4, m4, rfl, g7⟩ := DSl.out g6
      obtain ⟨w6, e6, g8⟩ := DG.out g7
      obtain ⟨x7, rfl, g9⟩ := DI.out g8
      obtain ⟨rfl, h'⟩ := DNilD.out g9
      exact (hw_safe (Λ := (W_ring_Ring_Append.Λ K)) mixWring _ _ [(0, .pointer p4), (3, .pointer (some a4)), (5, .slice A4 n4 m4), (6, .int .i64 x7)] [] H (Eq.mp (by kernel_rfl) h') (obs_seq (obs_seq obs_region rfl (obs_cond (obs_seq obs_region rfl obs_ret) obs_skip)) rfl (obs_seq obs_region rfl (obs_seqc (obs_block (obs_seq obs_region rfl (obs_cond (obs_seq obs_region rfl obs_ret) (obs_seq obs_region rfl (obs_cond (obs_seq obs_region rfl obs_ret) obs_skip))))) rfl (fun E D H h => by
          obtain ⟨w0, e0, g1⟩ := DG.out h
          obtain ⟨p5, rfl, g2⟩ := DP.out g1
          obtain ⟨w3, e3, g3⟩ := DG.out g2
          obtain ⟨pw3, rfl, g4⟩ := DP.out g3
          obtain ⟨a5, rfl, g5⟩ := NN.out g4
          obtain ⟨w5, e5, g6⟩ := DG.out g5
          obtain ⟨A5, n5, m5, rfl, g7⟩ := DSl.out g6
          obtain ⟨rfl, h'⟩ := DNilD.out g7
          exact (hw_safe (Λ := (W_ring_Ring_Append.Λ K)) mixWring _ _ [(0, .pointer p5), (3, .pointer (some a5)), (5, .slice A5 n5 m5)] [] H (Eq.mp (by kernel_rfl) h') (obs_seq (obs_seq obs_region rfl (obs_seq obs_region rfl (obs_cond (obs_seq obs_region rfl obs_ret) obs_skip))) rfl (obs_seq obs_region rfl obs_ret))).weaken (EnvLe.cons e0 (EnvLe.cons e3 (EnvLe.cons e5 (EnvLe.nil _)))) (Hp.le_refl _)))))).weaken (EnvLe.cons e0 (EnvLe.cons e3 (EnvLe.cons e5 (EnvLe.cons e6 (EnvLe.nil _))))) (Hp.le_refl _)))))

-- (*ring.Ring).Last
def W_ring_Ring_Last (p1 : Option Addr) (H : Hp) (K : Value → Hp → Prop) : Prop :=
  Nw H (.obj (.cells #[.int .u64 (0 : Int), .int .i64 (0 : Int), .int .i64 (0 : Int), .int .i64 (0 : Int), .int .i64 (0 : Int), .int .u32 (0 : Int), .int .u32 (0 : Int), .int .u32 (0 : Int)] 87)) fun b1 H1 => HCalls Tryz.prog 50 #[.pointer p1] H1 fun v1 H2 => DTup v1 fun l1 => DCons l1 fun v2 l2 => DSl v2 fun A1 n1 m1 => DCons l2 fun v3 l3 => DI .i64 v3 fun x1 => DNil l3 (BIf (x1 != (0 : Int)) (StA H2 (⟨b1, 0, none⟩ : Addr) #[.int .u64 (0 : Int), .int .i64 (0 : Int), .int .i64 (0 : Int), .int .i64 (0 : Int), .int .i64 (0 : Int), .int .u32 (0 : Int), .int .u32 (0 : Int), .int .u32 (0 : Int)] 8 fun H3 => LdA H3 (⟨b1, 0, none⟩ : Addr) 8 fun l5 => K (.tuple #[.agg l5.toArray, .bool false, .int .i64 x1]) H3) (BIf (((n1 : Nat) : Int) == (0 : Int)) (StA H2 (⟨b1, 0, none⟩ : Addr) #[.int .u64 (0 : Int), .int .i64 (0 : Int), .int .i64 (0 : Int), .int .i64 (0 : Int), .int .i64 (0 : Int), .int .u32 (0 : Int), .int .u32 (0 : Int), .int .u32 (0 : Int)] 8 fun H4 => LdA H4 (⟨b1, 0, none⟩ : Addr) 8 fun l6 => K (.tuple #[.agg l6.toArray, .bool false, .int .i64 x1]) H4) (ixI (IntKind.i64.wrap (((n1 : Nat) : Int) - (1 : Int))) n1 (NN A1 fun a1 => LdA H2 (a1.add ((IntKind.i64.wrap (((n1 : Nat) : Int) - (1 : Int))).toNat * 8)) 8 fun l4 => StA H2 (⟨b1, 0, none⟩ : Addr) l4.toArray 8 fun H5 => LdA H5 (⟨b1, 0, none⟩ : Addr) 8 fun l7 => K (.tuple #[.agg l7.toArray, .bool true, .int .i64 (0 : Int)]) H5))))
def W_ring_Ring_Last.Λ (_ : Value → Hp → Prop) : Cuts := Cuts.none (fun _ => none)
theorem W_ring_Ring_Last.ok (p1 : Option Addr) (H : Hp) (K : Value → Hp → Prop) (h : W_ring_Ring_Last p1 H K) : HCalls Tryz.prog 38 #[.pointer p1] H K :=
  hcalls Tryz.func38 rfl (Nat.le_of_ble_eq_true rfl) (hw_safe (Λ := Cuts.none (fun _ => none)) mixWring _ _ _ _ _ (Eq.mp (by kernel_rfl) h) (obs_none _ _ _ _ _))

-- (*ring.Ring).Slots
def W_ring_Ring_Slots (p1 : Option Addr) (H : Hp) (K : Value → Hp → Prop) : Prop :=
  NN p1 fun a1 => Ld H ((a1.add 0).add 1) fun v1 => DI .i64 v1 fun x1 => K (.int .i64 x1) H
def W_ring_Ring_Slots.Λ (_ : Value → Hp → Prop) : Cuts := Cuts.none (fun _ => none)
theorem W_ring_Ring_Slots.ok (p1 : Option Addr) (H : Hp) (K : Value → Hp → Prop) (h : W_ring_Ring_Slots p1 H K) : HCalls Tryz.prog 40 #[.pointer p1] H K :=
  hcalls Tryz.func40 rfl (Nat.le_of_ble_eq_true rfl) (hw_safe (Λ := Cuts.none (fun _ => none)) mixWring _ _ _ _ _ (Eq.mp (by kernel_rfl) h) (obs_none _ _ _ _ _))

-- (*ring.Ring).Clear
def W_ring_Ring_Clear.l2 (K : Value → Hp → Prop) : Nat → Option Addr → Int → Int → Hp → Prop
  | 0, _, _, _, _ => False
  | k + 1, p2, x2, x3, H =>
    let R2 := W_ring_Ring_Clear.l2 K k
    BIf (decide (x3 < x2)) (NN p2 fun a2 => NN p2 fun a3 => NN p2 fun a4 => Ld H (a4.add 3) fun v2 => DP v2 fun p3 => NN p3 fun a5 => QCall Tryz.prog 118 #[.pointer (some (a5.add 0))] H fun v3 => DI .i64 v3 fun x4 => (Ld H (a2.add 3) fun v4 => DP v4 fun p4 => (Ld H ((a3.add 0).add 0) fun v5 => DI .i64 v5 fun x5 => MkS Tryz.prog 5 x4 x4 H fun v6 H1 => DSl v6 fun A1 n1 m1 => HCalls Tryz.prog 48 #[.pointer p4, .int .i64 (IntKind.i64.wrap (x5 + x3)), .slice A1 n1 m1] H1 fun v7 H2 => DI .i64 v7 fun x6 => BIf (x6 != (0 : Int)) (K (.int .i64 x6) H2) (R2 p2 x2 (IntKind.i64.wrap (x3 + (1 : Int))) H2)) ∧ (MkS Tryz.prog 5 x4 x4 H fun v8 H3 => DSl v8 fun A2 n2 m2 => Ld H3 ((a3.add 0).add 0) fun v9 => DI .i64 v9 fun x7 => HCalls Tryz.prog 48 #[.pointer p4, .int .i64 (IntKind.i64.wrap (x7 + x3)), .slice A2 n2 m2] H3 fun v10 H4 => DI .i64 v10 fun x8 => BIf (x8 != (0 : Int)) (K (.int .i64 x8) H4) (R2 p2 x2 (IntKind.i64.wrap (x3 + (1 : Int))) H4))) ∧ (Ld H ((a3.add 0).add 0) fun v11 => DI .i64 v11 fun x9 => (Ld H (a2.add 3) fun v12 => DP v12 fun p5 => MkS Tryz.prog 5 x4 x4 H fun v13 H5 => DSl v13 fun A3 n3 m3 => HCalls Tryz.prog 48 #[.pointer p5, .int .i64 (IntKind.i64.wrap (x9 + x3)), .slice A3 n3 m3] H5 fun v14 H6 => DI .i64 v14 fun x10 => BIf (x10 != (0 : Int)) (K (.int .i64 x10) H6) (R2 p2 x2 (IntKind.i64.wrap (x3 + (1 : Int))) H6)) ∧ (MkS Tryz.prog 5 x4 x4 H fun v15 H7 => DSl v15 fun A4 n4 m4 => Ld H7 (a2.add 3) fun v16 => DP v16 fun p6 => HCalls Tryz.prog 48 #[.pointer p6, .int .i64 (IntKind.i64.wrap (x9 + x3)), .slice A4 n4 m4] H7 fun v17 H8 => DI .i64 v17 fun x11 => BIf (x11 != (0 : Int)) (K (.int .i64 x11) H8) (R2 p2 x2 (IntKind.i64.wrap (x3 + (1 : Int))) H8))) ∧ (MkS Tryz.prog 5 x4 x4 H fun v18 H9 => DSl v18 fun A5 n5 m5 => Ld H9 (a2.add 3) fun v19 => DP v19 fun p7 => Ld H9 ((a3.add 0).add 0) fun v20 => DI .i64 v20 fun x12 => HCalls Tryz.prog 48 #[.pointer p7, .int .i64 (IntKind.i64.wrap (x12 + x3)), .slice A5 n5 m5] H9 fun v21 H10 => DI .i64 v21 fun x13 => BIf (x13 != (0 : Int)) (K (.int .i64 x13) H10) (R2 p2 x2 (IntKind.i64.wrap (x3 + (1 : Int))) H10))) (NN p2 fun a6 => Ld H (a6.add 3) fun v22 => DP v22 fun p8 => HCalls Tryz.prog 102 #[.pointer p8] H fun v23 H11 => DI .i64 v23 fun x14 => K (.int .i64 x14) H11)
def W_ring_Ring_Clear (p1 : Option Addr) (H : Hp) (K : Value → Hp → Prop) : Prop :=
  NN p1 fun a1 => Ld H ((a1.add 0).add 1) fun v1 => DI .i64 v1 fun x1 => (∃ k, W_ring_Ring_Clear.l2 K k p1 x1 (0 : Int) H)
def W_ring_Ring_Clear.l2.L (K : Value → Hp → Prop) (k : Nat) : Mid := fun E D H =>
  DG (E.get? 0) fun w0 => DP w0 fun p2 => DG (E.get? 9) fun w9 => DI .i64 w9 fun x2 => DG (E.get? 10) fun w10 => DI .i64 w10 fun x3 => DNilD D (W_ring_Ring_Clear.l2 K k p2 x2 x3 H)
def W_ring_Ring_Clear.Λ2 (_ : Value → Hp → Prop) (_R2 : Option Addr → Int → Int → Hp → Prop) : Cuts := Cuts.none (fun i => match Nat.beq i 4 with | true => some ([3, 8, 14, 17], [0, 1, 3, 7, 0, 16, 48, 112, 240, 0, 1008, 0, 2048, 6144, 14336, 30720, 63488, 129024, 260096, 524287, 1048575], 0) | false => none)
def W_ring_Ring_Clear.Λ (K : Value → Hp → Prop) : Cuts := ⟨fun i => none, fun i => match Nat.beq i 2 with | true => some (fun E D H => ∃ k, W_ring_Ring_Clear.l2.L K k E D H) | false => none, (fun i => match Nat.beq i 4 with | true => some ([3, 8, 14, 17], [0, 1, 3, 7, 0, 16, 48, 112, 240, 0, 1008, 0, 2048, 6144, 14336, 30720, 63488, 129024, 260096, 524287, 1048575], 0) | false => none)⟩
theorem W_ring_Ring_Clear.ok (p1 : Option Addr) (H : Hp) (K : Value → Hp → Prop) (h : W_ring_Ring_Clear p1 H K) : HCalls Tryz.prog 47 #[.pointer p1] H K :=
  hcalls Tryz.func47 rfl (Nat.le_of_ble_eq_true rfl) (hw_safe (Λ := (W_ring_Ring_Clear.Λ K)) mixWring _ _ _ _ _ (Eq.mp (by kernel_rfl) h) (obs_seq obs_region rfl (obs_seq (obs_seq obs_region rfl (obs_block (obs_loop rfl (fun E D H h => by
      refine Safe.loop' (W_ring_Ring_Clear.l2.L K) (fun E D H h => ?_) (fun k E D H h => ?_) E D H h
      · obtain ⟨w0, e0, g1⟩ := DG.out h; obtain ⟨p2, rfl, g2⟩ := DP.out g1; obtain ⟨w9, e9, g3⟩ := DG.out g2; obtain ⟨x2, rfl, g4⟩ := DI.out g3; obtain ⟨w10, e10, g5⟩ := DG.out g4; obtain ⟨x3, rfl, g6⟩ := DI.out g5; obtain ⟨rfl, h'⟩ := DNilD.out g6; exact h'
      · obtain ⟨w0, e0, g1⟩ := DG.out h
        obtain ⟨p2, rfl, g2⟩ := DP.out g1
        obtain ⟨w9, e9, g3⟩ := DG.out g2
        obtain ⟨x2, rfl, g4⟩ := DI.out g3
        obtain ⟨w10, e10, g5⟩ := DG.out g4
        obtain ⟨x3, rfl, g6⟩ := DI.out g5
        obtain ⟨rfl, h'⟩ := DNilD.out g6
        exact (hw_safe (Λ := (W_ring_Ring_Clear.Λ2 K (W_ring_Ring_Clear.l2 K k))) mixWring _ _ [(0, .pointer p2), (9, .int .i64 x2), (10, .int .i64 x3)] [] H (Eq.mp (by kernel_rfl) h') (obs_seq obs_region rfl (obs_seq (obs_cond obs_skip obs_exit) rfl (obs_seq (obs_block (obs_seq obs_region rfl (obs_seq obs_region rfl (obs_seq obs_region rfl (obs_cond (obs_seq obs_region rfl obs_ret) obs_skip))))) rfl obs_region)))).weaken (EnvLe.cons e0 (EnvLe.cons e9 (EnvLe.cons e10 (EnvLe.nil _)))) (Hp.le_refl _))))) rfl (obs_seq obs_region rfl obs_ret))))

-- (*ring.Ring).Scan
def W_ring_Ring_Scan.j5 (K : Value → Hp → Prop) (R2 : Option Addr → Option Addr → Nat → Nat → Int → Int → Hp → Prop) (p5 : Option Addr) (A4 : Option Addr) (n4 : Nat) (m4 : Nat) (x8 : Int) (A5 : Option Addr) (n5 : Nat) (m5 : Nat) (x9 : Int) (x10 : Int) (x11 : Int) (H : Hp) : Prop :=
  BIf (x9 != (0 : Int)) (K (.tuple #[.slice none 0 0, .int .i64 x9]) H) (HCalls Tryz.prog 127 #[.slice A5 n5 m5] H fun v12 H3 => DTup v12 fun l7 => DCons l7 fun v13 l8 => DA v13 fun y1 => DCons l8 fun v14 l9 => DI .i64 v14 fun x12 => DNil l9 (Nw H3 (.obj (.cells #[.int .u64 (0 : Int), .int .i64 (0 : Int), .int .i64 (0 : Int), .int .i64 (0 : Int), .int .i64 (0 : Int), .int .u32 (0 : Int), .int .u32 (0 : Int), .int .u32 (0 : Int)] 87)) fun b1 H4 => StA H4 (⟨b1, 0, none⟩ : Addr) y1 8 fun H5 => BIf (x12 == (0 : Int)) (Ld H5 ((⟨b1, 0, none⟩ : Addr).add 0) fun v15 => DI .u64 v15 fun x13 => QCall Tryz.prog 120 #[.pointer p5, .int .u64 x13] H5 fun v16 => DI .i64 v16 fun x14 => NN p5 fun a4 => Ld H5 ((a4.add 0).add 0) fun v17 => DI .i64 v17 fun x15 => BIf (x14 == (IntKind.i64.wrap (x15 + x8))) (LdA H5 (⟨b1, 0, none⟩ : Addr) 8 fun l10 => DCons l10.toArray.toList fun v18 l11 => DI .u64 v18 fun x16 => DCons l11 fun v19 l12 => DI .i64 v19 fun x17 => DCons l12 fun v20 l13 => DI .i64 v20 fun x18 => DCons l13 fun v21 l14 => DI .i64 v21 fun x19 => DCons l14 fun v22 l15 => DI .i64 v22 fun x20 => DCons l15 fun v23 l16 => DI .u32 v23 fun x21 => DCons l16 fun v24 l17 => DI .u32 v24 fun x22 => DCons l17 fun v25 l18 => DI .u32 v25 fun x23 => DNil l18 (Nw H5 (.row [.int .u64 x16, .int .i64 x17, .int .i64 x18, .int .i64 x19, .int .i64 x20, .int .u32 x21, .int .u32 x22, .int .u32 x23] 87 8) fun b2 H6 => AppK Tryz.prog 87 (.slice A4 n4 m4) (.slice (some ⟨b2, 0, none⟩) 1 1) H6 fun v26 H7 => DSl v26 fun A6 n6 m6 => R2 p5 A6 n6 m6 x10 (IntKind.i64.wrap (x11 + (1 : Int))) H7)) (R2 p5 A4 n4 m4 x10 (IntKind.i64.wrap (x11 + (1 : Int))) H5)) (R2 p5 A4 n4 m4 x10 (IntKind.i64.wrap (x11 + (1 : Int))) H5)))
def W_ring_Ring_Scan.l2 (K : Value → Hp → Prop) : Nat → Option Addr → Option Addr → Nat → Nat → Int → Int → Hp → Prop
  | 0, _, _, _, _, _, _, _ => False
  | k + 1, p2, A1, n1, m1, x2, x3, H =>
    let R2 := W_ring_Ring_Scan.l2 K k
    BIf (decide (x3 < x2)) (NN p2 fun a2 => NN p2 fun a3 => (Ld H (a2.add 3) fun v2 => DP v2 fun p3 => Ld H ((a3.add 0).add 0) fun v3 => DI .i64 v3 fun x4 => HCalls Tryz.prog 122 #[.pointer p3, .int .i64 (IntKind.i64.wrap (x4 + x3))] H fun v4 H1 => DTup v4 fun l1 => DCons l1 fun v5 l2 => DSl v5 fun A2 n2 m2 => DCons l2 fun v6 l3 => DI .i64 v6 fun x5 => DNil l3 (W_ring_Ring_Scan.j5 K R2 p2 A1 n1 m1 x3 A2 n2 m2 x5 x2 x3 H1)) ∧ (Ld H ((a3.add 0).add 0) fun v7 => DI .i64 v7 fun x6 => Ld H (a2.add 3) fun v8 => DP v8 fun p4 => HCalls Tryz.prog 122 #[.pointer p4, .int .i64 (IntKind.i64.wrap (x6 + x3))] H fun v9 H2 => DTup v9 fun l4 => DCons l4 fun v10 l5 => DSl v10 fun A3 n3 m3 => DCons l5 fun v11 l6 => DI .i64 v11 fun x7 => DNil l6 (W_ring_Ring_Scan.j5 K R2 p2 A1 n1 m1 x3 A3 n3 m3 x7 x2 x3 H2))) (HCalls Tryz.prog 128 #[.slice A1 n1 m1, .func (.func 129) #[] #[]] H fun v27 H8 => K (.tuple #[.slice A1 n1 m1, .int .i64 (0 : Int)]) H8)
def W_ring_Ring_Scan (p1 : Option Addr) (H : Hp) (K : Value → Hp → Prop) : Prop :=
  NN p1 fun a1 => Ld H ((a1.add 0).add 1) fun v1 => DI .i64 v1 fun x1 => (∃ k, W_ring_Ring_Scan.l2 K k p1 none 0 0 x1 (0 : Int) H)
def W_ring_Ring_Scan.l2.L (K : Value → Hp → Prop) (k : Nat) : Mid := fun E D H =>
  DG (E.get? 0) fun w0 => DP w0 fun p2 => DG (E.get? 2) fun w2 => DSl w2 fun A1 n1 m1 => DG (E.get? 13) fun w13 => DI .i64 w13 fun x2 => DG (E.get? 14) fun w14 => DI .i64 w14 fun x3 => DNilD D (W_ring_Ring_Scan.l2 K k p2 A1 n1 m1 x2 x3 H)
def W_ring_Ring_Scan.Λ2 (K : Value → Hp → Prop) (R2 : Option Addr → Option Addr → Nat → Nat → Int → Int → Hp → Prop) : Cuts := ⟨fun i => match Nat.beq i 5 with | true => some (fun E D H => DG (E.get? 0) fun w0 => DP w0 fun p5 => DG (E.get? 2) fun w2 => DSl w2 fun A4 n4 m4 => DG (E.get? 4) fun w4 => DI .i64 w4 fun x8 => DG (E.get? 5) fun w5 => DSl w5 fun A5 n5 m5 => DG (E.get? 6) fun w6 => DI .i64 w6 fun x9 => DG (E.get? 13) fun w13 => DI .i64 w13 fun x10 => DG (E.get? 14) fun w14 => DI .i64 w14 fun x11 => DNilD D (W_ring_Ring_Scan.j5 K R2 p5 A4 n4 m4 x8 A5 n5 m5 x9 x10 x11 H)) | false => none, fun i => none, (fun i => match Nat.beq i 4 with | true => some ([], [0, 1, 3, 7, 0, 16, 48, 112, 240, 0, 1008, 2047, 4095, 8191, 8191, 16383, 65535], 0) | false => none)⟩
def W_ring_Ring_Scan.Λ (K : Value → Hp → Prop) : Cuts := ⟨fun i => none, fun i => match Nat.beq i 2 with | true => some (fun E D H => ∃ k, W_ring_Ring_Scan.l2.L K k E D H) | false => none, (fun i => match Nat.beq i 4 with | true => some ([], [0, 1, 3, 7, 0, 16, 48, 112, 240, 0, 1008, 2047, 4095, 8191, 8191, 16383, 65535], 0) | false => none)⟩
theorem W_ring_Ring_Scan.ok (p1 : Option Addr) (H : Hp) (K : Value → Hp → Prop) (h : W_ring_Ring_Scan p1 H K) : HCalls Tryz.prog 50 #[.pointer p1] H K :=
  hcalls Tryz.func50 rfl (Nat.le_of_ble_eq_true rfl) (hw_safe (Λ := (W_ring_Ring_Scan.Λ K)) mixWring _ _ _ _ _ (Eq.mp (by kernel_rfl) h) (obs_seq obs_region rfl (obs_seq (obs_seq obs_region rfl (obs_block (obs_loop rfl (fun E D H h => by
      refine Safe.loop' (W_ring_Ring_Scan.l2.L K) (fun E D H h => ?_) (fun k E D H h => ?_) E D H h
      · obtain ⟨w0, e0, g1⟩ := DG.out h; obtain ⟨p2, rfl, g2⟩ := DP.out g1; obtain ⟨w2, e2, g3⟩ := DG.out g2; obtain ⟨A1, n1, m1, rfl, g4⟩ := DSl.out g3; obtain ⟨w13, e13, g5⟩ := DG.out g4; obtain ⟨x2, rfl, g6⟩ := DI.out g5; obtain ⟨w14, e14, g7⟩ := DG.out g6; obtain ⟨x3, rfl, g8⟩ := DI.out g7; obtain ⟨rfl, h'⟩ := DNilD.out g8; exact h'
      · obtain ⟨w0, e0, g1⟩ := DG.out h
        obtain ⟨p2, rfl, g2⟩ := DP.out g1
        obtain ⟨w2, e2, g3⟩ := DG.out g2
        obtain ⟨A1, n1, m1, rfl, g4⟩ := DSl.out g3
        obtain ⟨w13, e13, g5⟩ := DG.out g4
        obtain ⟨x2, rfl, g6⟩ := DI.out g5
        obtain ⟨w14, e14, g7⟩ := DG.out g6
        obtain ⟨x3, rfl, g8⟩ := DI.out g7
        obtain ⟨rfl, h'⟩ := DNilD.out g8
        exact (hw_safe (Λ := (W_ring_Ring_Scan.Λ2 K (W_ring_Ring_Scan.l2 K k))) mixWring _ _ [(0, .pointer p2), (2, .slice A1 n1 m1), (13, .int .i64 x2), (14, .int .i64 x3)] [] H (Eq.mp (by kernel_rfl) h') (obs_seq obs_region rfl (obs_seq (obs_cond obs_skip obs_exit) rfl (obs_seq (obs_block (obs_seq obs_region rfl (obs_seqc obs_region rfl (fun E D H h => by
            obtain ⟨w0, e0, g1⟩ := DG.out h
            obtain ⟨p5, rfl, g2⟩ := DP.out g1
            obtain ⟨w2, e2, g3⟩ := DG.out g2
            obtain ⟨A4, n4, m4, rfl, g4⟩ := DSl.out g3
            obtain ⟨w4, e4, g5⟩ := DG.out g4
            obtain ⟨x8, rfl, g6⟩ := DI.out g5
            obtain ⟨w5, e5, g7⟩ := DG.out g6
            obtain ⟨A5, n5, m5, rfl, g8⟩ := DSl.out g7
            obtain ⟨w6, e6, g9⟩ := DG.out g8
            obtain ⟨x9, rfl, g10⟩ := DI.out g9
            obtain ⟨w13, e13, g11⟩ := DG.out g10
            obtain ⟨x10, rfl, g12⟩ := DI.out g11
            obtain ⟨w14, e14, g13⟩ := DG.out g12
            obtain ⟨x11, rfl, g14⟩ := DI.out g13
            obtain ⟨rfl, h'⟩ := DNilD.out g14
            exact (hw_safe (Λ := (W_ring_Ring_Scan.Λ2 K (W_ring_Ring_Scan.l2 K k))) mixWring _ _ [(0, .pointer p5), (2, .slice A4 n4 m4), (4, .int .i64 x8), (5, .slice A5 n5 m5), (6, .int .i64 x9), (13, .int .i64 x10), (14, .int .i64 x11)] [] H (Eq.mp (by kernel_rfl) h') (obs_seq (obs_seq obs_region rfl (obs_cond (obs_seq obs_region rfl obs_ret) obs_skip)) rfl (obs_seq obs_region rfl (obs_seq obs_region rfl (obs_cond obs_region obs_skip))))).weaken (EnvLe.cons e0 (EnvLe.cons e2 (EnvLe.cons e4 (EnvLe.cons e5 (EnvLe.cons e6 (EnvLe.cons e13 (EnvLe.cons e14 (EnvLe.nil _)))))))) (Hp.le_refl _))))) rfl obs_region)))).weaken (EnvLe.cons e0 (EnvLe.cons e2 (EnvLe.cons e13 (EnvLe.cons e14 (EnvLe.nil _))))) (Hp.le_refl _))))) rfl (obs_seq obs_region rfl (obs_seq obs_region rfl obs_ret)))))

-- (*ring.Ring).Chain
def W_ring_Ring_Chain.l5 (K : Value → Hp → Prop) : Nat → Option Addr → Nat → Nat → Int → Hp → Prop
  | 0, _, _, _, _, _ => False
  | k + 1, A2, n2, m2, x2, H =>
    let R5 := W_ring_Ring_Chain.l5 K k
    BIf (decide (x2 > (0 : Int))) (ixI (IntKind.i64.wrap (x2 - (1 : Int))) n2 (NN A2 fun a1 => LdA H (a1.add ((IntKind.i64.wrap (x2 - (1 : Int))).toNat * 8)) 8 fun l4 => ixI x2 n2 (NN A2 fun a2 => LdA H (a2.add (x2.toNat * 8)) 8 fun l5 => QCall Tryz.prog 119 #[.agg l4.toArray, .agg l5.toArray] H fun v4 => DB v4 fun c1 => BIf c1 (R5 A2 n2 m2 (IntKind.i64.wrap (x2 - (1 : Int))) H) (slB n2 m2 (some x2) none fun n3 n4 => K (.tuple #[.slice (slA A2 m2 n3 8) (n4 - n3) (m2 - n3), .int .i64 (0 : Int)]) H)))) (slB n2 m2 (some x2) none fun n5 n6 => K (.tuple #[.slice (slA A2 m2 n5 8) (n6 - n5) (m2 - n5), .int .i64 (0 : Int)]) H)
def W_ring_Ring_Chain (p1 : Option Addr) (H : Hp) (K : Value → Hp → Prop) : Prop :=
  HCalls Tryz.prog 50 #[.pointer p1] H fun v1 H1 => DTup v1 fun l1 => DCons l1 fun v2 l2 => DSl v2 fun A1 n1 m1 => DCons l2 fun v3 l3 => DI .i64 v3 fun x1 => DNil l3 (BIf (x1 != (0 : Int)) (K (.tuple #[.slice none 0 0, .int .i64 x1]) H1) ((∃ k, W_ring_Ring_Chain.l5 K k A1 n1 m1 (if (0 : Int) > (IntKind.i64.wrap (((n1 : Nat) : Int) - (1 : Int))) then (0 : Int) else (IntKind.i64.wrap (((n1 : Nat) : Int) - (1 : Int)))) H1)))
def W_ring_Ring_Chain.l5.L (K : Value → Hp → Prop) (k : Nat) : Mid := fun E D H =>
  DG (E.get? 2) fun w2 => DSl w2 fun A2 n2 m2 => DG (E.get? 4) fun w4 => DI .i64 w4 fun x2 => DNilD D (W_ring_Ring_Chain.l5 K k A2 n2 m2 x2 H)
def W_ring_Ring_Chain.Λ5 (_ : Value → Hp → Prop) (_R5 : Option Addr → Nat → Nat → Int → Hp → Prop) : Cuts := Cuts.none (fun _ => none)
def W_ring_Ring_Chain.Λ (K : Value → Hp → Prop) : Cuts := ⟨fun i => none, fun i => match Nat.beq i 5 with | true => some (fun E D H => ∃ k, W_ring_Ring_Chain.l5.L K k E D H) | false => none, (fun _ => none)⟩
theorem W_ring_Ring_Chain.ok (p1 : Option Addr) (H : Hp) (K : Value → Hp → Prop) (h : W_ring_Ring_Chain p1 H K) : HCalls Tryz.prog 51 #[.pointer p1] H K :=
  hcalls Tryz.func51 rfl (Nat.le_of_ble_eq_true rfl) (hw_safe (Λ := (W_ring_Ring_Chain.Λ K)) mixWring _ _ _ _ _ (Eq.mp (by kernel_rfl) h) (obs_seq obs_region rfl (obs_seq obs_region rfl (obs_seq (obs_seq obs_region rfl (obs_cond (obs_seq obs_region rfl obs_ret) obs_skip)) rfl (obs_seq obs_region rfl (obs_seq (obs_block (obs_loop rfl (fun E D H h => by
      refine Safe.loop' (W_ring_Ring_Chain.l5.L K) (fun E D H h => ?_) (fun k E D H h => ?_) E D H h
      · obtain ⟨w2, e2, g1⟩ := DG.out h; obtain ⟨A2, n2, m2, rfl, g2⟩ := DSl.out g1; obtain ⟨w4, e4, g3⟩ := DG.out g2; obtain ⟨x2, rfl, g4⟩ := DI.out g3; obtain ⟨rfl, h'⟩ := DNilD.out g4; exact h'
      · obtain ⟨w2, e2, g1⟩ := DG.out h
        obtain ⟨A2, n2, m2, rfl, g2⟩ := DSl.out g1
        obtain ⟨w4, e4, g3⟩ := DG.out g2
        obtain ⟨x2, rfl, g4⟩ := DI.out g3
        obtain ⟨rfl, h'⟩ := DNilD.out g4
        exact (hw_safe (Λ := (W_ring_Ring_Chain.Λ5 K (W_ring_Ring_Chain.l5 K k))) mixWring _ _ [(2, .slice A2 n2 m2), (4, .int .i64 x2)] [] H (Eq.mp (by kernel_rfl) h') (obs_seq (obs_seq obs_region rfl (obs_cond obs_skip obs_exit)) rfl (obs_block obs_region))).weaken (EnvLe.cons e2 (EnvLe.cons e4 (EnvLe.nil _))) (Hp.le_refl _)))) rfl (obs_seq obs_region rfl obs_ret)))))))

-- (*ring.Ring).slot
def W_ring_Ring_slot (p1 : Option Addr) (x1 : Int) (H : Hp) (K : Value → Hp → Prop) : Prop :=
  NN p1 fun a1 => Ld H ((a1.add 0).add 0) fun v1 => DI .i64 v1 fun x2 => NN p1 fun a2 => Ld H ((a2.add 0).add 1) fun v2 => DI .i64 v2 fun x3 => ((IntKind.u64.wrap x3) ≠ 0 ∧ IntKind.u64 = IntKind.u64 ∧ K (.int .i64 (IntKind.i64.wrap (x2 + (IntKind.i64.wrap (Int.tmod (IntKind.u64.wrap (x1 - (1 : Int))) (IntKind.u64.wrap x3)))))) H)
def W_ring_Ring_slot.Λ (_ : Value → Hp → Prop) : Cuts := Cuts.none (fun _ => none)
theorem W_ring_Ring_slot.ok (p1 : Option Addr) (x1 : Int) (H : Hp) (K : Value → Hp → Prop) (h : W_ring_Ring_slot p1 x1 H K) : HCalls Tryz.prog 120 #[.pointer p1, .int .u64 x1] H K :=
  hcalls Tryz.func120 rfl (Nat.le_of_ble_eq_true rfl) (hw_safe (Λ := Cuts.none (fun _ => none)) mixWring _ _ _ _ _ (Eq.mp (by kernel_rfl) h) (obs_none _ _ _ _ _))

-- (*ring.Ring).Scan$1
def W_ring_Ring_Scan_1 (y1 : Array Value) (y2 : Array Value) (H : Hp) (K : Value → Hp → Prop) : Prop :=
  Nw H (.obj (.cells y1 87)) fun b1 H1 => Nw H1 (.obj (.cells y2 87)) fun b2 H2 => Ld H2 ((⟨b1, 0, none⟩ : Addr).add 0) fun v1 => DI .u64 v1 fun x1 => Ld H2 ((⟨b2, 0, none⟩ : Addr).add 0) fun v2 => DI .u64 v2 fun x2 => HCalls Tryz.prog 130 #[.int .u64 x1, .int .u64 x2] H2 fun v3 H3 => DI .i64 v3 fun x3 => K (.int .i64 x3) H3
def W_ring_Ring_Scan_1.Λ (_ : Value → Hp → Prop) : Cuts := Cuts.none (fun _ => none)
theorem W_ring_Ring_Scan_1.ok (y1 : Array Value) (y2 : Array Value) (H : Hp) (K : Value → Hp → Prop) (h : W_ring_Ring_Scan_1 y1 y2 H K) : HCalls Tryz.prog 129 #[.agg y1, .agg y2] H K :=
  hcalls Tryz.func129 rfl (Nat.le_of_ble_eq_true rfl) (hw_safe (Λ := Cuts.none (fun _ => none)) mixWring _ _ _ _ _ (Eq.mp (by kernel_rfl) h) (obs_none _ _ _ _ _))

end Go.Proofs.YtghajiefpmcpmaaGreatDoor.W

end
section
/-! LayU -/
/- Contracts of the library's functions, laid at this program (printed by lay2.py). -/
set_option maxRecDepth 100000
namespace Go.Proofs.YtghajiefpmcpmaaGreatDoor.Lib2
open Go Go.Proofs Go.Shelf Go.RowKit
def lenL_ren : Go.Shelf.Ren := ⟨fun | 129 => 261 | n => n, fun | 53 => 60 | 3 => 3 | 4 => 4 | 46 => 196 | 5 => 5 | 9 => 9 | n => n, fun | n => n⟩
theorem lenL : Go.Proofs.Lays.n129 Tryz.prog lenL_ren where
  mixed := by kernel_rfl
  f129 := Tryz.func261.trans (congrArg some (by kernel_rfl))
  t3 := Tryz.underlying3
  a3 := Tryz.isAgg3
  z3 := Tryz.sizeOf3
  v3 := Tryz.zeroValue3
  t4 := Tryz.underlying4
  a4 := Tryz.isAgg4
  z4 := Tryz.sizeOf4
  v4 := Tryz.zeroValue4
  t5 := Tryz.underlying5
  a5 := Tryz.isAgg5
  z5 := Tryz.sizeOf5
  v5 := Tryz.zeroValue5
  t9 := Tryz.underlying9
  a9 := Tryz.isAgg9
  z9 := Tryz.sizeOf9
  v9 := Tryz.zeroValue9
  t46 := Tryz.underlying196
  a46 := Tryz.isAgg196
  z46 := Tryz.sizeOf196
  v46 := Tryz.zeroValue196
  t53 := Tryz.underlying60
  a53 := Tryz.isAgg60
  z53 := Tryz.sizeOf60
  v53 := Tryz.zeroValue60
end Go.Proofs.YtghajiefpmcpmaaGreatDoor.Lib2

end
section
/-! HwU -/
/- The frame of the proofs: a number's decimal digits, as the library puts them. -/
set_option maxRecDepth 100000
set_option linter.unusedSimpArgs false
set_option linter.unusedVariables false
set_option linter.unnecessarySimpa false
set_option linter.unusedSectionVars false
namespace Go.Hw
open Go Go.Proofs Go.Proofs.YtghajiefpmcpmaaGreatDoor.Lib2 Go.RowKit Go.Shelf

/-- math/bits.Len64. -/
theorem Len64_hc (x : Nat) (hx : x < 18446744073709551616) (H : Hp) : HCalls Tryz.prog 261 #[.int .u64 (x : Int)] H (RetE (.int .i64 (Lib.bitLen x : Int)) H) := fun w hw => by
  refine (Any.bits_Len64 lenL (x : Int) w (by omega) (by omega)).mono ?_
  rintro e w' ⟨rfl, rfl⟩
  exact ⟨_, H, rfl, ⟨by rw [Int.toNat_natCast], rfl⟩, At.refl hw⟩

theorem At.drewN {H0 H : Hp} {w0 w : World} (h : At H0 w0 H w) (n : Nat) : At H0 w0 H (w.drewN n) := ⟨h.fits, h.size, h.os, h.tape, h.output, h.old⟩

def encB (b : UInt8) : Value := .int .u8 (b.toNat : Int)

end Go.Hw

end
section
/-! SrtA -/
/- slices.SortFunc of at most 12 records by their numbers. -/
set_option maxRecDepth 100000
set_option linter.unusedSimpArgs false
set_option linter.unusedVariables false
set_option linter.unnecessarySimpa false
set_option linter.unusedSectionVars false
namespace Go.Proofs.YtghajiefpmcpmaaGreatDoor.Srt
open Go Go.Hw Go.Proofs.YtghajiefpmcpmaaGreatDoor.W Go.Proofs.YtghajiefpmcpmaaGreatDoor.Rec

/-- A row is written into a slice of one's own. -/
theorem Sep.wrR {L : List As} {H : Hp} (h : Hw.Sep L H) (i : Nat) {e : TypeId} {s : Nat} {A : Option Addr} {n m : Nat} {xs : List Value} (hi : L[i]? = some (Own e s A n m xs)) {x : Int} {j : Nat} (hx : x = j) (hj : j < n) {y : Array Value} (hy : y.size = s) (hv : y.toList.all (fun v => v.oneCell') = true) {K : Hp → Prop}
    (k : ∀ H', Hw.Sep (L.set i (Own e s A n m (setAt xs (j * s) y.toList))) H' → K H') : ixI x n (NN A fun a => StA H (a.add (x.toNat * s)) y s K) := by
  subst hx
  refine ⟨by omega, by omega, ?_⟩
  rcases h.unown i hi with ⟨_, h0, _⟩ | ⟨b, mm, rfl, hmm, hlx, hs⟩
  · omega
  rw [NN_some, Addr.add_lit', Int.toNat_natCast, Nat.zero_add]
  have hlt : i < L.length := (List.getElem?_eq_some_iff.1 hi).1
  have hb : H b = some (.row xs e mm) := hs.get i (by rw [List.getElem?_set_self hlt])
  have hjs : j * s + s ≤ n * s := by
    have := Nat.mul_le_mul_right s (show j + 1 ≤ n by omega)
    rwa [Nat.succ_mul] at this
  have hyl : y.toList.length = s := by rw [Array.length_toList]; exact hy
  refine ⟨hy, ?_⟩
  rw [puts_row y.toList 0 H xs hb (by omega) (fun v hq => List.all_eq_true.1 hv v hq)]
  refine k _ ?_
  have hs2 := hs.put i (.row (setAt xs (j * s + 0) y.toList) e mm) (by rw [List.getElem?_set_self hlt])
  have hs3 := hs2.turn i (by rw [List.getElem?_set_self (by rw [List.length_set]; exact hlt)]) (B := Own e s (some ⟨b, 0, none⟩) n m (setAt xs (j * s) y.toList)) (fun H1 h1 => ⟨by rw [setAt_length (by omega)]; exact hlx, .inr ⟨b, mm, rfl, by rw [Nat.add_zero] at h1; exact h1, hmm⟩⟩)
  rw [List.set_set, List.set_set] at hs3
  exact hs3

def recV (l : List R) : List Value := l.flatMap fun r => r.c.toList
theorem recV_len : ∀ l : List R, (recV l).length = l.length * 8
  | [] => rfl
  | r :: l => by
    have := recV_len l
    show (r.c.toList ++ recV l).length = _
    rw [List.length_append, this, List.length_cons]
    have : r.c.toList.length = 8 := rfl
    omega
theorem recV_get : ∀ (l : List R) (j : Nat) (h : j < l.length), ((recV l).drop (j * 8)).take 8 = l[j].c.toList
  | r :: l, 0, _ => by
    show ((r.c.toList ++ recV l).drop (0 * 8)).take 8 = _
    rw [Nat.zero_mul, List.drop_zero]
    exact List.take_left' rfl
  | r :: l, j + 1, h => by
    have ih := recV_get l j (by simpa using h)
    show ((r.c.toList ++ recV l).drop ((j + 1) * 8)).take 8 = _
    rw [show (j + 1) * 8 = r.c.toList.length + j * 8 by rw [show r.c.toList.length = 8 from rfl]; omega, ← List.drop_drop, List.drop_left]
    exact ih
theorem recV_set : ∀ (l : List R) (j : Nat) (q : R) (h : j < l.length), setAt (recV l) (j * 8) q.c.toList = recV (l.set j q)
  | r :: l, 0, q, _ => by
    show setAt (r.c.toList ++ recV l) (0 * 8) q.c.toList = q.c.toList ++ recV l
    unfold setAt
    rw [Nat.zero_mul, List.take_zero, List.nil_append, Nat.zero_add]
    congr 1
  | r :: l, j + 1, q, h => by
    have ih := recV_set l j q (by simpa using h)
    show setAt (r.c.toList ++ recV l) ((j + 1) * 8) q.c.toList = r.c.toList ++ recV (l.set j q)
    rw [← ih]
    unfold setAt
    have e : (j + 1) * 8 = r.c.toList.length + j * 8 := by rw [show r.c.toList.length = 8 from rfl]; omega
    rw [e, List.take_length_add_append, Nat.add_assoc, List.drop_length_add_append]
    simp
theorem recC_ok (r : R) : r.c.toList.all (fun v => v.oneCell') = true := rfl

def dR : R := ⟨0, 0, 0, 0, 0, 0, 0, 0⟩
/-- One record goes down as far as it is less. -/
def bub (l : List R) : Nat → List R
  | 0 => l
  | j + 1 => if (l.getD (j + 1) dR).s < (l.getD j dR).s then bub ((l.set (j + 1) (l.getD j dR)).set j (l.getD (j + 1) dR)) j else l
theorem bub_len (j : Nat) : ∀ l, (bub l j).length = l.length := by
  induction j with
  | zero => intro l; rfl
  | succ j ih =>
    intro l
    unfold bub
    split
    · rw [ih]; simp
    · rfl
def isort (l : List R) : Nat → List R
  | 0 => l
  | i + 1 => isort l i |> fun q => bub q (i + 1)

theorem isNaN_ok (x : Int) (H : Hp) : HCalls Tryz.prog 211 #[.int .u64 x] H (RetE (.bool false) H) := by
  apply W_cmp_isNaN_uint64.ok
  unfold W_cmp_isNaN_uint64
  simp only [bne_self_eq_false]
  exact RetE.mk _ _

def cmpI (a b : Nat) : Int := if a < b then -1 else if b < a then 1 else 0
theorem cmp_ok (a b : Nat) (H : Hp) : HCalls Tryz.prog 130 #[.int .u64 (a : Int), .int .u64 (b : Int)] H (RetE (.int .i64 (cmpI a b)) H) := by
  apply W_cmp_Compare_uint64.ok
  unfold W_cmp_Compare_uint64
  refine HCalls.use (isNaN_ok _ H) ?_
  simp only [DI_int', DB_bool, DS_string, DP_pointer, DSl_slice, DM_map, DA_agg, DTup_tuple, DCons_cons, DNil_nil, NN_some, BIf_true, BIf_false, BIf_same, List.toList_toArray, Bool.not_true, Bool.not_false]
  refine HCalls.use (isNaN_ok _ H) ?_
  simp only [DI_int', DB_bool, DS_string, DP_pointer, DSl_slice, DM_map, DA_agg, DTup_tuple, DCons_cons, DNil_nil, NN_some, BIf_true, BIf_false, BIf_same, List.toList_toArray, Bool.not_true, Bool.not_false]
  unfold cmpI
  by_cases h1 : a < b
  · rw [if_pos h1]
    exact BIf_dpos (by omega) (RetE.mk _ _)
  · rw [if_neg h1]
    refine BIf_dneg (by omega) ?_
    by_cases h2 : b < a
    · rw [if_pos h2]
      exact BIf_dpos (by omega) (RetE.mk _ _)
    · rw [if_neg h2]
      exact BIf_dneg (by omega) (RetE.mk _ _)

theorem less_ok (a b : R) (H : Hp) : HCalls Tryz.prog 129 #[.agg a.c, .agg b.c] H (RetE (.int .i64 (cmpI a.s b.s)) H) := HCalls.ret (by
  apply W_ring_Ring_Scan_1.ok
  unfold W_ring_Ring_Scan_1
  refine (Sep.start H).nw fun b1 H1 hs => ?_
  refine hs.nw fun b2 H1 hs => ?_
  refine hs.ldf 1 rfl rfl ?_
  simp only [DI_int', DB_bool, DS_string, DP_pointer, DSl_slice, DM_map, DA_agg, DTup_tuple, DCons_cons, DNil_nil, NN_some, BIf_true, BIf_false, BIf_same, List.toList_toArray, Bool.not_true, Bool.not_false]
  refine hs.ldf 2 rfl rfl ?_
  simp only [DI_int', DB_bool, DS_string, DP_pointer, DSl_slice, DM_map, DA_agg, DTup_tuple, DCons_cons, DNil_nil, NN_some, BIf_true, BIf_false, BIf_same, List.toList_toArray, Bool.not_true, Bool.not_false]
  refine HCalls.use (cmp_ok a.s b.s H1) ?_
  simp only [DI_int', DB_bool, DS_string, DP_pointer, DSl_slice, DM_map, DA_agg, DTup_tuple, DCons_cons, DNil_nil, NN_some, BIf_true, BIf_false, BIf_same, List.toList_toArray, Bool.not_true, Bool.not_false]
  exact hs.fin 0 rfl _)

end Go.Proofs.YtghajiefpmcpmaaGreatDoor.Srt

end
section
/-! SrtB -/
/- slices.SortFunc of at most 12 records by their numbers: the walk. -/
set_option maxRecDepth 100000
set_option linter.unusedSimpArgs false
set_option linter.unusedVariables false
set_option linter.unnecessarySimpa false
set_option linter.unusedSectionVars false
namespace Go.Proofs.YtghajiefpmcpmaaGreatDoor.Srt
open Go Go.Hw Go.Proofs.YtghajiefpmcpmaaGreatDoor.W Go.Proofs.YtghajiefpmcpmaaGreatDoor.Rec

theorem getD_at (l : List R) {j : Nat} (h : j < l.length) : l.getD j dR = l[j] := by
  rw [List.getD_eq_getElem?_getD, List.getElem?_eq_getElem h]; rfl

theorem ins_inner (A : Option Addr) (n m : Nat) (i : Nat) (hn : n ≤ 1000) (K : Value → Hp → Prop) (R1 : Option Addr → Nat → Nat → Int → Int → FuncId → Array Value → Array Value → Int → Hp → Prop) (fin : List R)
    (k : ∀ H', Hw.Sep [Own 87 8 A n m (recV fin)] H' → R1 A n m 0 (n : Int) 129 #[] #[] (IntKind.i64.wrap ((i : Int) + 1)) H') :
    ∀ (j : Nat) (l : List R) (H : Hp), l.length = n → j < n → bub l j = fin → Hw.Sep [Own 87 8 A n m (recV l)] H →
      W_slices_insertionSortCmpFunc_api_Record.l4 K R1 (j + 1) A n m 0 (n : Int) 129 #[] #[] (i : Int) (j : Int) H
  | 0, l, H, hl, hj, hf, hs => by
    unfold W_slices_insertionSortCmpFunc_api_Record.l4
    refine BIf_dneg (by omega) ?_
    have hf : l = fin := hf
    rw [hf] at hs
    exact k H hs
  | j + 1, l, H, hl, hj, hf, hs => by
    unfold W_slices_insertionSortCmpFunc_api_Record.l4
    refine BIf_dpos (by omega) ?_
    have hj1 : j + 1 < l.length := by omega
    have hj0 : j < l.length := by omega
    have ej : IntKind.i64.wrap (((j + 1 : Nat) : Int) - 1) = (j : Int) := by rw [i64w (by omega) (by omega)]; omega
    rw [ej]
    have ho := hs.own 0 rfl
    refine ho.rdA rfl hj (recV_get l (j + 1) hj1) ?_
    refine ho.rdA (j := j) rfl (by omega) (recV_get l j hj0) ?_
    refine BIf_pos (by kernel_rfl) ?_
    rw [Array.toArray_toList, Array.toArray_toList]
    refine HCalls.use (less_ok l[j + 1] l[j] H) ?_
    have hr : resTypes Tryz.prog 129 = [3] := by kernel_rfl
    rw [hr]
    have hdt : ∀ (x : Int) (K : Value → Prop), K (.int .i64 x) → DR Tryz.prog [3] (.int .i64 x) K := fun x K k => by
      show DT Tryz.prog 3 (.int .i64 x) K
      unfold DT
      rw [show Tryz.prog.underlying 3 = some (.int .i64) by kernel_rfl]
      exact k
    refine hdt _ _ ?_
    simp only [DI_int', DB_bool, DS_string, DP_pointer, DSl_slice, DM_map, DA_agg, DTup_tuple, DCons_cons, DNil_nil, NN_some, BIf_true, BIf_false, BIf_same, List.toList_toArray, Bool.not_true, Bool.not_false]
    unfold bub at hf
    rw [getD_at l hj1, getD_at l hj0] at hf
    unfold cmpI
    by_cases hlt : l[j + 1].s < l[j].s
    · rw [if_pos hlt] at hf ⊢
      refine BIf_dpos (by decide) ?_
      have ix : ∀ {x : Int} {q : Nat} {P : Addr → Prop}, x = q → q < n → (∀ b mm, A = some ⟨b, 0, none⟩ → P ⟨b, 0, none⟩) → ixI x n (NN A P) := fun {x q P} hx hq hp => by
        refine ⟨by omega, by omega, ?_⟩
        rcases hs.unown 0 rfl with ⟨_, h0, _⟩ | ⟨b, mm, rfl, _, _, _⟩
        · omega
        · rw [NN_some]; exact hp b mm rfl
      refine ix (q := j) rfl (by omega) fun b mm hA => ?_
      subst hA
      refine ⟨by omega, by omega, ?_⟩
      rw [NN_some]
      have hw1 := recV_set l (j + 1) l[j] hj1
      have hw2 := recV_set (l.set (j + 1) l[j]) j l[j + 1] (by rw [List.length_set]; exact hj0)
      have go : ∀ H1, Hw.Sep [Own 87 8 (some ⟨b, 0, none⟩) n m (recV l)] H1 →
          ixI ((j + 1 : Nat) : Int) n (NN (some (⟨b, 0, none⟩ : Addr)) fun a5 => StA H1 (a5.add (((j + 1 : Nat) : Int).toNat * 8)) l[j].c 8 fun H2 => ixI (j : Int) n (NN (some (⟨b, 0, none⟩ : Addr)) fun a6 => StA H2 (a6.add ((j : Int).toNat * 8)) l[j + 1].c 8 fun H3 =>
            W_slices_insertionSortCmpFunc_api_Record.l4 K R1 (j + 1) (some ⟨b, 0, none⟩) n m 0 (n : Int) 129 #[] #[] (i : Int) (j : Int) H3)) := fun H1 hs => by
        refine Sep.wrR hs 0 rfl rfl hj rfl (recC_ok _) fun H2 hs => ?_
        refine Sep.wrR hs 0 rfl rfl (show j < n by omega) rfl (recC_ok _) fun H3 hs => ?_
        simp only [List.set_cons_zero] at hs
        rw [hw1, hw2] at hs
        exact ins_inner (some ⟨b, 0, none⟩) n m i hn K R1 fin k j _ H3 (by simp; exact hl) (by omega) hf hs
      have rd : ∀ {q : Nat} (hq : q < l.length) {P : List Value → Prop}, P l[q].c.toList → LdA H ((⟨b, 0, none⟩ : Addr).add ((q : Int).toNat * 8)) 8 P := fun {q} hq {P} hp => by
        have := (hs.own 0 rfl).rdA (x := (q : Int)) (j := q) rfl (by omega) (recV_get l q hq) (K := P) hp
        exact this.2.2
      refine ⟨?_, ?_⟩
      · refine rd hj0 (rd hj1 ?_)
        rw [Array.toArray_toList, Array.toArray_toList]
        exact go H hs
      · refine rd hj1 (rd hj0 ?_)
        rw [Array.toArray_toList, Array.toArray_toList]
        exact go H hs
    · rw [if_neg hlt] at hf ⊢
      refine BIf_dneg (by split <;> decide) ?_
      rw [hf] at hs
      exact k H hs

end Go.Proofs.YtghajiefpmcpmaaGreatDoor.Srt

end
section
/-! Wlbits -/
/- Formulas of functions, printed by wip/tools/hwp.py. -/
set_option maxRecDepth 100000
set_option linter.unusedVariables false
namespace Go.Proofs.YtghajiefpmcpmaaGreatDoor.W
open Go Go.Hw

theorem mixWlbits : Tryz.prog.follows .mixedOrders = true := by kernel_rfl
-- math/bits.Len
def W_math_bits_Len (x1 : Int) (H : Hp) (K : Value → Hp → Prop) : Prop :=
  HCalls Tryz.prog 261 #[.int .u64 x1] H fun v1 H1 => DI .i64 v1 fun x2 => K (.int .i64 x2) H1
def W_math_bits_Len.Λ (_ : Value → Hp → Prop) : Cuts := Cuts.none (fun _ => none)
theorem W_math_bits_Len.ok (x1 : Int) (H : Hp) (K : Value → Hp → Prop) (h : W_math_bits_Len x1 H K) : HCalls Tryz.prog 210 #[.int .u64 x1] H K :=
  hcalls Tryz.func210 rfl (Nat.le_of_ble_eq_true rfl) (hw_safe (Λ := Cuts.none (fun _ => none)) mixWlbits _ _ _ _ _ (Eq.mp (by kernel_rfl) h) (obs_none _ _ _ _ _))

-- math/bits.TrailingZeros
def W_math_bits_TrailingZeros (x1 : Int) (H : Hp) (K : Value → Hp → Prop) : Prop :=
  HCalls Tryz.prog 266 #[.int .u64 x1] H fun v1 H1 => DI .i64 v1 fun x2 => K (.int .i64 x2) H1
def W_math_bits_TrailingZeros.Λ (_ : Value → Hp → Prop) : Cuts := Cuts.none (fun _ => none)
theorem W_math_bits_TrailingZeros.ok (x1 : Int) (H : Hp) (K : Value → Hp → Prop) (h : W_math_bits_TrailingZeros x1 H K) : HCalls Tryz.prog 239 #[.int .u64 x1] H K :=
  hcalls Tryz.func239 rfl (Nat.le_of_ble_eq_true rfl) (hw_safe (Λ := Cuts.none (fun _ => none)) mixWlbits _ _ _ _ _ (Eq.mp (by kernel_rfl) h) (obs_none _ _ _ _ _))

-- math/bits.Len32
def W_math_bits_Len32.j4 (K : Value → Hp → Prop) (x2 : Int) (x3 : Int) (H : Hp) : Prop :=
  BIf (decide (x2 ≥ (256 : Int))) ((0 ≤ (8 : Int) ∧ (0 ≤ (IntKind.u8.wrap (shrI .u32 x2 (8 : Int))) ∧ ixB ((⟨#[0, 1, 2, 2, 3, 3, 3, 3, 4, 4, 4, 4, 4, 4, 4, 4, 5, 5, 5, 5, 5, 5, 5, 5, 5, 5, 5, 5, 5, 5, 5, 5, 6, 6, 6, 6, 6, 6, 6, 6, 6, 6, 6, 6, 6, 6, 6, 6, 6, 6, 6, 6, 6, 6, 6, 6, 6, 6, 6, 6, 6, 6, 6, 6, 7, 7, 7, 7, 7, 7, 7, 7, 7, 7, 7, 7, 7, 7, 7, 7, 7, 7, 7, 7, 7, 7, 7, 7, 7, 7, 7, 7, 7, 7, 7, 7, 7, 7, 7, 7, 7, 7, 7, 7, 7, 7, 7, 7, 7, 7, 7, 7, 7, 7, 7, 7, 7, 7, 7, 7, 7, 7, 7, 7, 7, 7, 7, 7, 8, 8, 8, 8, 8, 8, 8, 8, 8, 8, 8, 8, 8, 8, 8, 8, 8, 8, 8, 8, 8, 8, 8, 8, 8, 8, 8, 8, 8, 8, 8, 8, 8, 8, 8, 8, 8, 8, 8, 8, 8, 8, 8, 8, 8, 8, 8, 8, 8, 8, 8, 8, 8, 8, 8, 8, 8, 8, 8, 8, 8, 8, 8, 8, 8, 8, 8, 8, 8, 8, 8, 8, 8, 8, 8, 8, 8, 8, 8, 8, 8, 8, 8, 8, 8, 8, 8, 8, 8, 8, 8, 8, 8, 8, 8, 8, 8, 8, 8, 8, 8, 8, 8, 8, 8, 8, 8, 8, 8, 8, 8, 8, 8, 8, 8, 8, 8, 8, 8, 8, 8, 8, 8, 8, 8, 8, 8, 8]⟩) : ByteArray) (IntKind.u8.wrap (shrI .u32 x2 (8 : Int))).toNat fun x4 => K (.int .i64 (IntKind.i64.wrap ((IntKind.i64.wrap (x3 + (8 : Int))) + (IntKind.i64.wrap x4)))) H))) ((0 ≤ (IntKind.u8.wrap x2) ∧ ixB ((⟨#[0, 1, 2, 2, 3, 3, 3, 3, 4, 4, 4, 4, 4, 4, 4, 4, 5, 5, 5, 5, 5, 5, 5, 5, 5, 5, 5, 5, 5, 5, 5, 5, 6, 6, 6, 6, 6, 6, 6, 6, 6, 6, 6, 6, 6, 6, 6, 6, 6, 6, 6, 6, 6, 6, 6, 6, 6, 6, 6, 6, 6, 6, 6, 6, 7, 7, 7, 7, 7, 7, 7, 7, 7, 7, 7, 7, 7, 7, 7, 7, 7, 7, 7, 7, 7, 7, 7, 7, 7, 7, 7, 7, 7, 7, 7, 7, 7, 7, 7, 7, 7, 7, 7, 7, 7, 7, 7, 7, 7, 7, 7, 7, 7, 7, 7, 7, 7, 7, 7, 7, 7, 7, 7, 7, 7, 7, 7, 7, 8, 8, 8, 8, 8, 8, 8, 8, 8, 8, 8, 8, 8, 8, 8, 8, 8, 8, 8, 8, 8, 8, 8, 8, 8, 8, 8, 8, 8, 8, 8, 8, 8, 8, 8, 8, 8, 8, 8, 8, 8, 8, 8, 8, 8, 8, 8, 8, 8, 8, 8, 8, 8, 8, 8, 8, 8, 8, 8, 8, 8, 8, 8, 8, 8, 8, 8, 8, 8, 8, 8, 8, 8, 8, 8, 8, 8, 8, 8, 8, 8, 8, 8, 8, 8, 8, 8, 8, 8, 8, 8, 8, 8, 8, 8, 8, 8, 8, 8, 8, 8, 8, 8, 8, 8, 8, 8, 8, 8, 8, 8, 8, 8, 8, 8, 8, 8, 8, 8, 8, 8, 8, 8, 8, 8, 8, 8, 8]⟩) : ByteArray) (IntKind.u8.wrap x2).toNat fun x5 => K (.int .i64 (IntKind.i64.wrap (x3 + (IntKind.i64.wrap x5)))) H))
def W_math_bits_Len32 (x1 : Int) (H : Hp) (K : Value → Hp → Prop) : Prop :=
  BIf (decide (x1 ≥ (65536 : Int))) ((0 ≤ (16 : Int) ∧ W_math_bits_Len32.j4 K (shrI .u32 x1 (16 : Int)) (16 : Int) H)) (W_math_bits_Len32.j4 K x1 (0 : Int) H)
def W_math_bits_Len32.Λ (K : Value → Hp → Prop) : Cuts := ⟨fun i => match Nat.beq i 4 with | true => some (fun E D H => DG (E.get? 0) fun w0 => DI .u32 w0 fun x2 => DG (E.get? 2) fun w2 => DI .i64 w2 fun x3 => DNilD D (W_math_bits_Len32.j4 K x2 x3 H)) | false => none, fun i => none, (fun _ => none)⟩
theorem W_math_bits_Len32.ok (x1 : Int) (H : Hp) (K : Value → Hp → Prop) (h : W_math_bits_Len32 x1 H K) : HCalls Tryz.prog 260 #[.int .u32 x1] H K :=
  hcalls Tryz.func260 rfl (Nat.le_of_ble_eq_true rfl) (hw_safe (Λ := (W_math_bits_Len32.Λ K)) mixWlbits _ _ _ _ _ (Eq.mp (by kernel_rfl) h) (obs_seq obs_region rfl (obs_seqc (obs_seq obs_region rfl (obs_cond (obs_seq obs_region rfl obs_region) obs_skip)) rfl (fun E D H h => by
      obtain ⟨w0, e0, g1⟩ := DG.out h
      obtain ⟨x2, rfl, g2⟩ := DI.out g1
      obtain ⟨w2, e2, g3⟩ := DG.out g2
      obtain ⟨x3, rfl, g4⟩ := DI.out g3
      obtain ⟨rfl, h'⟩ := DNilD.out g4
      exact (hw_safe (Λ := (W_math_bits_Len32.Λ K)) mixWlbits _ _ [(0, .int .u32 x2), (2, .int .i64 x3)] [] H (Eq.mp (by kernel_rfl) h') (obs_seq (obs_seq obs_region rfl (obs_cond (obs_seq obs_region rfl obs_region) obs_skip)) rfl (obs_seq obs_region rfl obs_ret))).weaken (EnvLe.cons e0 (EnvLe.cons e2 (EnvLe.nil _))) (Hp.le_refl _)))))

-- math/bits.Len64
def W_math_bits_Len64.j7 (K : Value → Hp → Prop) (x4 : Int) (x5 : Int) (H : Hp) : Prop :=
  BIf (decide (x4 ≥ (256 : Int))) ((0 ≤ (8 : Int) ∧ (0 ≤ (IntKind.u8.wrap (shrI .u64 x4 (8 : Int))) ∧ ixB ((⟨#[0, 1, 2, 2, 3, 3, 3, 3, 4, 4, 4, 4, 4, 4, 4, 4, 5, 5, 5, 5, 5, 5, 5, 5, 5, 5, 5, 5, 5, 5, 5, 5, 6, 6, 6, 6, 6, 6, 6, 6, 6, 6, 6, 6, 6, 6, 6, 6, 6, 6, 6, 6, 6, 6, 6, 6, 6, 6, 6, 6, 6, 6, 6, 6, 7, 7, 7, 7, 7, 7, 7, 7, 7, 7, 7, 7, 7, 7, 7, 7, 7, 7, 7, 7, 7, 7, 7, 7, 7, 7, 7, 7, 7, 7, 7, 7, 7, 7, 7, 7, 7, 7, 7, 7, 7, 7, 7, 7, 7, 7, 7, 7, 7, 7, 7, 7, 7, 7, 7, 7, 7, 7, 7, 7, 7, 7, 7, 7, 8, 8, 8, 8, 8, 8, 8, 8, 8, 8, 8, 8, 8, 8, 8, 8, 8, 8, 8, 8, 8, 8, 8, 8, 8, 8, 8, 8, 8, 8, 8, 8, 8, 8, 8, 8, 8, 8, 8, 8, 8, 8, 8, 8, 8, 8, 8, 8, 8, 8, 8, 8, 8, 8, 8, 8, 8, 8, 8, 8, 8, 8, 8, 8, 8, 8, 8, 8, 8, 8, 8, 8, 8, 8, 8, 8, 8, 8, 8, 8, 8, 8, 8, 8, 8, 8, 8, 8, 8, 8, 8, 8, 8, 8, 8, 8, 8, 8, 8, 8, 8, 8, 8, 8, 8, 8, 8, 8, 8, 8, 8, 8, 8, 8, 8, 8, 8, 8, 8, 8, 8, 8, 8, 8, 8, 8, 8, 8]⟩) : ByteArray) (IntKind.u8.wrap (shrI .u64 x4 (8 : Int))).toNat fun x6 => K (.int .i64 (IntKind.i64.wrap ((IntKind.i64.wrap (x5 + (8 : Int))) + (IntKind.i64.wrap x6)))) H))) ((0 ≤ (IntKind.u8.wrap x4) ∧ ixB ((⟨#[0, 1, 2, 2, 3, 3, 3, 3, 4, 4, 4, 4, 4, 4, 4, 4, 5, 5, 5, 5, 5, 5, 5, 5, 5, 5, 5, 5, 5, 5, 5, 5, 6, 6, 6, 6, 6, 6, 6, 6, 6, 6, 6, 6, 6, 6, 6, 6, 6, 6, 6, 6, 6, 6, 6, 6, 6, 6, 6, 6, 6, 6, 6, 6, 7, 7, 7, 7, 7, 7, 7, 7, 7, 7, 7, 7, 7, 7, 7, 7, 7, 7, 7, 7, 7, 7, 7, 7, 7, 7, 7, 7, 7, 7, 7, 7, 7, 7, 7, 7, 7, 7, 7, 7, 7, 7, 7, 7, 7, 7, 7, 7, 7, 7, 7, 7, 7, 7, 7, 7, 7, 7, 7, 7, 7, 7, 7, 7, 8, 8, 8, 8, 8, 8, 8, 8, 8, 8, 8, 8, 8, 8, 8, 8, 8, 8, 8, 8, 8, 8, 8, 8, 8, 8, 8, 8, 8, 8, 8, 8, 8, 8, 8, 8, 8, 8, 8, 8, 8, 8, 8, 8, 8, 8, 8, 8, 8, 8, 8, 8, 8, 8, 8, 8, 8, 8, 8, 8, 8, 8, 8, 8, 8, 8, 8, 8, 8, 8, 8, 8, 8, 8, 8, 8, 8, 8, 8, 8, 8, 8, 8, 8, 8, 8, 8, 8, 8, 8, 8, 8, 8, 8, 8, 8, 8, 8, 8, 8, 8, 8, 8, 8, 8, 8, 8, 8, 8, 8, 8, 8, 8, 8, 8, 8, 8, 8, 8, 8, 8, 8, 8, 8, 8, 8, 8, 8]⟩) : ByteArray) (IntKind.u8.wrap x4).toNat fun x7 => K (.int .i64 (IntKind.i64.wrap (x5 + (IntKind.i64.wrap x7)))) H))
def W_math_bits_Len64.j4 (K : Value → Hp → Prop) (x2 : Int) (x3 : Int) (H : Hp) : Prop :=
  BIf (decide (x2 ≥ (65536 : Int))) ((0 ≤ (16 : Int) ∧ W_math_bits_Len64.j7 K (shrI .u64 x2 (16 : Int)) (IntKind.i64.wrap (x3 + (16 : Int))) H)) (W_math_bits_Len64.j7 K x2 x3 H)
def W_math_bits_Len64 (x1 : Int) (H : Hp) (K : Value → Hp → Prop) : Prop :=
  BIf (decide (x1 ≥ (4294967296 : Int))) ((0 ≤ (32 : Int) ∧ W_math_bits_Len64.j4 K (shrI .u64 x1 (32 : Int)) (32 : Int) H)) (W_math_bits_Len64.j4 K x1 (0 : Int) H)
def W_math_bits_Len64.Λ (K : Value → Hp → Prop) : Cuts := ⟨fun i => match Nat.beq i 7 with | true => some (fun E D H => DG (E.get? 0) fun w0 => DI .u64 w0 fun x4 => DG (E.get? 2) fun w2 => DI .i64 w2 fun x5 => DNilD D (W_math_bits_Len64.j7 K x4 x5 H)) | false => match Nat.beq i 4 with | true => some (fun E D H => DG (E.get? 0) fun w0 => DI .u64 w0 fun x2 => DG (E.get? 2) fun w2 => DI .i64 w2 fun x3 => DNilD D (W_math_bits_Len64.j4 K x2 x3 H)) | false => none, fun i => none, (fun _ => none)⟩
theorem W_math_bits_Len64.ok (x1 : Int) (H : Hp) (K : Value → Hp → Prop) (h : W_math_bits_Len64 x1 H K) : HCalls Tryz.prog 261 #[.int .u64 x1] H K :=
  hcalls Tryz.func261 rfl (Nat.le_of_ble_eq_true rfl) (hw_safe (Λ := (W_math_bits_Len64.Λ K)) mixWlbits _ _ _ _ _ (Eq.mp (by kernel_rfl) h) (obs_seq obs_region rfl (obs_seqc (obs_seq obs_region rfl (obs_cond (obs_seq obs_region rfl obs_region) obs_skip)) rfl (fun E D H h => by
      obtain ⟨w0, e0, g1⟩ := DG.out h
      obtain ⟨x2, rfl, g2⟩ := DI.out g1
      obtain ⟨w2, e2, g3⟩ := DG.out g2
      obtain ⟨x3, rfl, g4⟩ := DI.out g3
      obtain ⟨rfl, h'⟩ := DNilD.out g4
      exact (hw_safe (Λ := (W_math_bits_Len64.Λ K)) mixWlbits _ _ [(0, .int .u64 x2), (2, .int .i64 x3)] [] H (Eq.mp (by kernel_rfl) h') (obs_seqc (obs_seq obs_region rfl (obs_cond (obs_seq obs_region rfl obs_region) obs_skip)) rfl (fun E D H h => by
          obtain ⟨w0, e0, g1⟩ := DG.out h
          obtain ⟨x4, rfl, g2⟩ := DI.out g1
          obtain ⟨w2, e2, g3⟩ := DG.out g2
          obtain ⟨x5, rfl, g4⟩ := DI.out g3
          obtain ⟨rfl, h'⟩ := DNilD.out g4
          exact (hw_safe (Λ := (W_math_bits_Len64.Λ K)) mixWlbits _ _ [(0, .int .u64 x4), (2, .int .i64 x5)] [] H (Eq.mp (by kernel_rfl) h') (obs_seq (obs_seq obs_region rfl (obs_cond (obs_seq obs_region rfl obs_region) obs_skip)) rfl (obs_seq obs_region rfl obs_ret))).weaken (EnvLe.cons e0 (EnvLe.cons e2 (EnvLe.nil _))) (Hp.le_refl _)))).weaken (EnvLe.cons e0 (EnvLe.cons e2 (EnvLe.nil _))) (Hp.le_refl _)))))

-- math/bits.TrailingZeros64
def W_math_bits_TrailingZeros64 (x1 : Int) (H : Hp) (K : Value → Hp → Prop) : Prop :=
  BIf (x1 == (0 : Int)) (K (.int .i64 (64 : Int)) H) ((0 ≤ (58 : Int) ∧ ixI (shrI .u64 (IntKind.u64.wrap ((bAnd .u64 x1 (IntKind.u64.wrap (0 - x1))) * (285870213051353865 : Int))) (58 : Int)) 64 (Ld H ((⟨1, 0, none⟩ : Addr).add ((shrI .u64 (IntKind.u64.wrap ((bAnd .u64 x1 (IntKind.u64.wrap (0 - x1))) * (285870213051353865 : Int))) (58 : Int)).toNat * 1)) fun v1 => DI .u8 v1 fun x2 => K (.int .i64 (IntKind.i64.wrap x2)) H)))
def W_math_bits_TrailingZeros64.Λ (_ : Value → Hp → Prop) : Cuts := Cuts.none (fun _ => none)
theorem W_math_bits_TrailingZeros64.ok (x1 : Int) (H : Hp) (K : Value → Hp → Prop) (h : W_math_bits_TrailingZeros64 x1 H K) : HCalls Tryz.prog 266 #[.int .u64 x1] H K :=
  hcalls Tryz.func266 rfl (Nat.le_of_ble_eq_true rfl) (hw_safe (Λ := Cuts.none (fun _ => none)) mixWlbits _ _ _ _ _ (Eq.mp (by kernel_rfl) h) (obs_none _ _ _ _ _))

-- math/bits.Mul64
def W_math_bits_Mul64 (x1 : Int) (x2 : Int) (H : Hp) (K : Value → Hp → Prop) : Prop :=
  (0 ≤ (32 : Int) ∧ (0 ≤ (32 : Int) ∧ (0 ≤ (32 : Int) ∧ (0 ≤ (32 : Int) ∧ (0 ≤ (32 : Int) ∧ K (.tuple #[.int .u64 (IntKind.u64.wrap ((IntKind.u64.wrap ((IntKind.u64.wrap ((shrI .u64 x1 (32 : Int)) * (shrI .u64 x2 (32 : Int)))) + (shrI .u64 (IntKind.u64.wrap ((IntKind.u64.wrap ((shrI .u64 x1 (32 : Int)) * (bAnd .u64 x2 (4294967295 : Int)))) + (shrI .u64 (IntKind.u64.wrap ((bAnd .u64 x1 (4294967295 : Int)) * (bAnd .u64 x2 (4294967295 : Int)))) (32 : Int)))) (32 : Int)))) + (shrI .u64 (IntKind.u64.wrap ((bAnd .u64 (IntKind.u64.wrap ((IntKind.u64.wrap ((shrI .u64 x1 (32 : Int)) * (bAnd .u64 x2 (4294967295 : Int)))) + (shrI .u64 (IntKind.u64.wrap ((bAnd .u64 x1 (4294967295 : Int)) * (bAnd .u64 x2 (4294967295 : Int)))) (32 : Int)))) (4294967295 : Int)) + (IntKind.u64.wrap ((bAnd .u64 x1 (4294967295 : Int)) * (shrI .u64 x2 (32 : Int)))))) (32 : Int)))), .int .u64 (IntKind.u64.wrap (x1 * x2))]) H)))))
def W_math_bits_Mul64.Λ (_ : Value → Hp → Prop) : Cuts := Cuts.none (fun _ => none)
theorem W_math_bits_Mul64.ok (x1 : Int) (x2 : Int) (H : Hp) (K : Value → Hp → Prop) (h : W_math_bits_Mul64 x1 x2 H K) : HCalls Tryz.prog 277 #[.int .u64 x1, .int .u64 x2] H K :=
  hcalls Tryz.func277 rfl (Nat.le_of_ble_eq_true rfl) (hw_safe (Λ := Cuts.none (fun _ => none)) mixWlbits _ _ _ _ _ (Eq.mp (by kernel_rfl) h) (obs_none _ _ _ _ _))

-- math/bits.TrailingZeros32
def W_math_bits_TrailingZeros32 (x1 : Int) (H : Hp) (K : Value → Hp → Prop) : Prop :=
  BIf (x1 == (0 : Int)) (K (.int .i64 (32 : Int)) H) ((0 ≤ (27 : Int) ∧ ixI (shrI .u32 (IntKind.u32.wrap ((bAnd .u32 x1 (IntKind.u32.wrap (0 - x1))) * (125613361 : Int))) (27 : Int)) 32 (Ld H ((⟨2, 0, none⟩ : Addr).add ((shrI .u32 (IntKind.u32.wrap ((bAnd .u32 x1 (IntKind.u32.wrap (0 - x1))) * (125613361 : Int))) (27 : Int)).toNat * 1)) fun v1 => DI .u8 v1 fun x2 => K (.int .i64 (IntKind.i64.wrap x2)) H)))
def W_math_bits_TrailingZeros32.Λ (_ : Value → Hp → Prop) : Cuts := Cuts.none (fun _ => none)
theorem W_math_bits_TrailingZeros32.ok (x1 : Int) (H : Hp) (K : Value → Hp → Prop) (h : W_math_bits_TrailingZeros32 x1 H K) : HCalls Tryz.prog 282 #[.int .u32 x1] H K :=
  hcalls Tryz.func282 rfl (Nat.le_of_ble_eq_true rfl) (hw_safe (Λ := Cuts.none (fun _ => none)) mixWlbits _ _ _ _ _ (Eq.mp (by kernel_rfl) h) (obs_none _ _ _ _ _))

-- math/bits.Reverse64
def W_math_bits_Reverse64 (x1 : Int) (H : Hp) (K : Value → Hp → Prop) : Prop :=
  (0 ≤ (1 : Int) ∧ (0 ≤ (1 : Int) ∧ (0 ≤ (2 : Int) ∧ (0 ≤ (2 : Int) ∧ (0 ≤ (4 : Int) ∧ (0 ≤ (4 : Int) ∧ HCalls Tryz.prog 346 #[.int .u64 (bOr .u64 (bAnd .u64 (shrI .u64 (bOr .u64 (bAnd .u64 (shrI .u64 (bOr .u64 (bAnd .u64 (shrI .u64 x1 (1 : Int)) (6148914691236517205 : Int)) (shlI .u64 (bAnd .u64 x1 (6148914691236517205 : Int)) (1 : Int))) (2 : Int)) (3689348814741910323 : Int)) (shlI .u64 (bAnd .u64 (bOr .u64 (bAnd .u64 (shrI .u64 x1 (1 : Int)) (6148914691236517205 : Int)) (shlI .u64 (bAnd .u64 x1 (6148914691236517205 : Int)) (1 : Int))) (3689348814741910323 : Int)) (2 : Int))) (4 : Int)) (1085102592571150095 : Int)) (shlI .u64 (bAnd .u64 (bOr .u64 (bAnd .u64 (shrI .u64 (bOr .u64 (bAnd .u64 (shrI .u64 x1 (1 : Int)) (6148914691236517205 : Int)) (shlI .u64 (bAnd .u64 x1 (6148914691236517205 : Int)) (1 : Int))) (2 : Int)) (3689348814741910323 : Int)) (shlI .u64 (bAnd .u64 (bOr .u64 (bAnd .u64 (shrI .u64 x1 (1 : Int)) (6148914691236517205 : Int)) (shlI .u64 (bAnd .u64 x1 (6148914691236517205 : Int)) (1 : Int))) (3689348814741910323 : Int)) (2 : Int))) (1085102592571150095 : Int)) (4 : Int)))] H fun v1 H1 => DI .u64 v1 fun x2 => K (.int .u64 x2) H1))))))
def W_math_bits_Reverse64.Λ (_ : Value → Hp → Prop) : Cuts := Cuts.none (fun _ => none)
theorem W_math_bits_Reverse64.ok (x1 : Int) (H : Hp) (K : Value → Hp → Prop) (h : W_math_bits_Reverse64 x1 H K) : HCalls Tryz.prog 344 #[.int .u64 x1] H K :=
  hcalls Tryz.func344 rfl (Nat.le_of_ble_eq_true rfl) (hw_safe (Λ := Cuts.none (fun _ => none)) mixWlbits _ _ _ _ _ (Eq.mp (by kernel_rfl) h) (obs_none _ _ _ _ _))

-- math/bits.ReverseBytes64
def W_math_bits_ReverseBytes64 (x1 : Int) (H : Hp) (K : Value → Hp → Prop) : Prop :=
  (0 ≤ (8 : Int) ∧ (0 ≤ (8 : Int) ∧ (0 ≤ (16 : Int) ∧ (0 ≤ (16 : Int) ∧ (0 ≤ (32 : Int) ∧ (0 ≤ (32 : Int) ∧ K (.int .u64 (bOr .u64 (shrI .u64 (bOr .u64 (bAnd .u64 (shrI .u64 (bOr .u64 (bAnd .u64 (shrI .u64 x1 (8 : Int)) (71777214294589695 : Int)) (shlI .u64 (bAnd .u64 x1 (71777214294589695 : Int)) (8 : Int))) (16 : Int)) (281470681808895 : Int)) (shlI .u64 (bAnd .u64 (bOr .u64 (bAnd .u64 (shrI .u64 x1 (8 : Int)) (71777214294589695 : Int)) (shlI .u64 (bAnd .u64 x1 (71777214294589695 : Int)) (8 : Int))) (281470681808895 : Int)) (16 : Int))) (32 : Int)) (shlI .u64 (bOr .u64 (bAnd .u64 (shrI .u64 (bOr .u64 (bAnd .u64 (shrI .u64 x1 (8 : Int)) (71777214294589695 : Int)) (shlI .u64 (bAnd .u64 x1 (71777214294589695 : Int)) (8 : Int))) (16 : Int)) (281470681808895 : Int)) (shlI .u64 (bAnd .u64 (bOr .u64 (bAnd .u64 (shrI .u64 x1 (8 : Int)) (71777214294589695 : Int)) (shlI .u64 (bAnd .u64 x1 (71777214294589695 : Int)) (8 : Int))) (281470681808895 : Int)) (16 : Int))) (32 : Int)))) H))))))
def W_math_bits_ReverseBytes64.Λ (_ : Value → Hp → Prop) : Cuts := Cuts.none (fun _ => none)
theorem W_math_bits_ReverseBytes64.ok (x1 : Int) (H : Hp) (K : Value → Hp → Prop) (h : W_math_bits_ReverseBytes64 x1 H K) : HCalls Tryz.prog 346 #[.int .u64 x1] H K :=
  hcalls Tryz.func346 rfl (Nat.le_of_ble_eq_true rfl) (hw_safe (Λ := Cuts.none (fun _ => none)) mixWlbits _ _ _ _ _ (Eq.mp (by kernel_rfl) h) (obs_none _ _ _ _ _))

end Go.Proofs.YtghajiefpmcpmaaGreatDoor.W

end
section
/-! SrtC -/
/- slices.SortFunc of at most 12 records by their numbers: the contract; what it leaves. -/
set_option maxRecDepth 100000
set_option linter.unusedSimpArgs false
set_option linter.unusedVariables false
set_option linter.unnecessarySimpa false
set_option linter.unusedSectionVars false
namespace Go.Proofs.YtghajiefpmcpmaaGreatDoor.Srt
open Go Go.Hw Go.Proofs.YtghajiefpmcpmaaGreatDoor.W Go.Proofs.YtghajiefpmcpmaaGreatDoor.Rec

theorem isort_len : ∀ (i : Nat) (l : List R), (isort l i).length = l.length
  | 0, _ => rfl
  | i + 1, l => by
    show (bub (isort l i) (i + 1)).length = _
    rw [bub_len, isort_len i l]

theorem ins_outer (A : Option Addr) (n m : Nat) (hn : n ≤ 1000) (l : List R) (hl : l.length = n) (K : Value → Hp → Prop) (k : ∀ H', Hw.Sep [Own 87 8 A n m (recV (isort l (n - 1)))] H' → K (.tuple #[]) H') :
    ∀ (t i : Nat) (H : Hp), i + t = n - 1 → Hw.Sep [Own 87 8 A n m (recV (isort l i))] H →
      W_slices_insertionSortCmpFunc_api_Record.l1 K (t + 1) A n m 0 (n : Int) 129 #[] #[] ((i + 1 : Nat) : Int) H
  | 0, i, H, hi, hs => by
    unfold W_slices_insertionSortCmpFunc_api_Record.l1
    refine BIf_dneg (by omega) ?_
    obtain rfl : i = n - 1 := by omega
    exact k H hs
  | t + 1, i, H, hi, hs => by
    unfold W_slices_insertionSortCmpFunc_api_Record.l1
    refine BIf_dpos (by omega) ⟨i + 1 + 1, ?_⟩
    refine ins_inner A n m (i + 1) hn K _ (isort l (i + 1)) (fun H' hs' => ?_) (i + 1) (isort l i) H (by rw [isort_len]; exact hl) (by omega) rfl hs
    rw [i64w (by omega) (by omega), show ((i + 1 : Nat) : Int) + 1 = ((i + 1 + 1 : Nat) : Int) by omega]
    exact ins_outer A n m hn l hl K k t (i + 1) H' (by omega) hs'

theorem Len_ok (x : Nat) (hx : x < 18446744073709551616) (H : Hp) : HCalls Tryz.prog 210 #[.int .u64 (x : Int)] H (RetE (.int .i64 (Go.Lib.bitLen x : Int)) H) := by
  apply W_math_bits_Len.ok
  unfold W_math_bits_Len
  refine HCalls.use (Len64_hc x hx H) ?_
  simp only [DI_int', DB_bool, DS_string, DP_pointer, DSl_slice, DM_map, DA_agg, DTup_tuple, DCons_cons, DNil_nil, NN_some, BIf_true, BIf_false, BIf_same, List.toList_toArray, Bool.not_true, Bool.not_false]
  exact RetE.mk _ _

/-- slices.SortFunc by the numbers. -/
theorem SortFunc_tr (A : Option Addr) (n m : Nat) (hn : n ≤ 12) (l : List R) (hl : l.length = n) : Tr Tryz.prog 128 #[.slice A n m, .func (.func 129) #[] #[]]
    [Own 87 8 A n m (recV l)] fun v M => v = .tuple #[] ∧ M = [Own 87 8 A n m (recV (isort l (n - 1)))] := fun H hs => by
  apply W_slices_SortFunc_api_Record_api_Record.ok
  unfold W_slices_SortFunc_api_Record_api_Record
  rw [u64n (by omega)]
  refine HCalls.use (Len_ok n (by omega) H) ?_
  simp only [DI_int', DB_bool, DS_string, DP_pointer, DSl_slice, DM_map, DA_agg, DTup_tuple, DCons_cons, DNil_nil, NN_some, BIf_true, BIf_false, BIf_same, List.toList_toArray, Bool.not_true, Bool.not_false]
  have hI : HCalls Tryz.prog 252 #[.slice A n m, .int .i64 0, .int .i64 (n : Int), .func (.func 129) #[] #[]] H (fun v H' => v = .tuple #[] ∧ Hw.Sep [Own 87 8 A n m (recV (isort l (n - 1)))] H') := by
    apply W_slices_insertionSortCmpFunc_api_Record.ok
    unfold W_slices_insertionSortCmpFunc_api_Record
    rw [show IntKind.i64.wrap ((0 : Int) + 1) = ((0 + 1 : Nat) : Int) by decide]
    exact ⟨n - 1 + 1, ins_outer A n m (by omega) l hl _ (fun H' hs' => ⟨rfl, hs'⟩) (n - 1) 0 H (by omega) hs⟩
  have hP : HCalls Tryz.prog 209 #[.slice A n m, .int .i64 0, .int .i64 (n : Int), .int .i64 (Go.Lib.bitLen n : Int), .func (.func 129) #[] #[]] H (fun v H' => v = .tuple #[] ∧ Hw.Sep [Own 87 8 A n m (recV (isort l (n - 1)))] H') := by
    apply W_slices_pdqsortCmpFunc_api_Record.ok
    unfold W_slices_pdqsortCmpFunc_api_Record
    refine ⟨1, ?_⟩
    unfold W_slices_pdqsortCmpFunc_api_Record.l2
    refine BIf_dpos (by rw [i64w (by omega) (by omega)]; omega) ?_
    refine HCalls.mono hI ?_
    rintro v H' ⟨rfl, h⟩
    exact ⟨rfl, h⟩
  refine HCalls.mono hP ?_
  rintro v H' ⟨rfl, h⟩
  exact ⟨_, ⟨by first | trivial | rfl, rfl⟩, h⟩

/-! ## What it leaves -/

def upTo (l : List R) (i : Nat) : Prop := ∀ p q, p < q → q < i → q < l.length → (l.getD p dR).s ≤ (l.getD q dR).s

theorem swap_perm (l : List R) {j : Nat} (h : j + 1 < l.length) : ((l.set (j + 1) (l.getD j dR)).set j (l.getD (j + 1) dR)).Perm l := by
  induction l generalizing j with
  | nil => simp at h
  | cons x l ih =>
    cases j with
    | zero =>
      cases l with
      | nil => simp at h
      | cons y t => exact List.Perm.swap x y t
    | succ j =>
      exact (ih (j := j) (by simpa using h)).cons x
theorem bub_perm (j : Nat) : ∀ (l : List R), j < l.length → (bub l j).Perm l := by
  induction j with
  | zero => intro l _; exact List.Perm.refl _
  | succ j ih =>
    intro l h
    unfold bub
    split
    · refine (ih _ (by simp; omega)).trans (swap_perm l h)
    · exact List.Perm.refl _
theorem isort_perm (l : List R) : ∀ i, i < l.length ∨ i = 0 → (isort l i).Perm l
  | 0, _ => List.Perm.refl _
  | i + 1, h => by
    have ih := isort_perm l i (by omega)
    show (bub (isort l i) (i + 1)).Perm l
    refine (bub_perm (i + 1) _ (by rw [isort_len]; omega)).trans ih

end Go.Proofs.YtghajiefpmcpmaaGreatDoor.Srt

end
section
/-! SrtD -/
/- what slices.SortFunc leaves: the same records, by rising numbers. -/
set_option maxRecDepth 100000
set_option linter.unusedSimpArgs false
set_option linter.unusedVariables false
set_option linter.unnecessarySimpa false
set_option linter.unusedSectionVars false
namespace Go.Proofs.YtghajiefpmcpmaaGreatDoor.Srt
open Go Go.Hw Go.Proofs.YtghajiefpmcpmaaGreatDoor.Rec

def leR (a b : R) : Prop := a.s ≤ b.s

theorem bub_ins : ∀ (j : Nat) (p r : List R) (x : R), p.length = j → ∃ p', bub (p ++ x :: r) j = p' ++ r ∧ p'.length = j + 1 ∧ (p.Pairwise leR → p'.Pairwise leR) ∧ p'.Perm (x :: p)
  | 0, p, r, x, h => by
    rw [List.length_eq_zero_iff.1 h]
    exact ⟨[x], rfl, rfl, fun _ => by simp, List.Perm.refl _⟩
  | j + 1, p, r, x, h => by
    obtain ⟨q, y, rfl⟩ : ∃ q y, p = q ++ [y] := ⟨_, _, (List.dropLast_concat_getLast (by intro e; rw [e] at h; cases h)).symm⟩
    have hq : q.length = j := by simpa using h
    have e0 : q ++ [y] ++ x :: r = q ++ y :: x :: r := by simp
    rw [e0]
    unfold bub
    have g1 : (q ++ y :: x :: r).getD (j + 1) dR = x := by rw [List.getD_eq_getElem?_getD, List.getElem?_append_right (by omega), hq, show j + 1 - j = 1 by omega]; rfl
    have g0 : (q ++ y :: x :: r).getD j dR = y := by rw [List.getD_eq_getElem?_getD, List.getElem?_append_right (by omega), hq, Nat.sub_self]; rfl
    rw [g1, g0]
    by_cases hxy : x.s < y.s
    · rw [if_pos hxy]
      have es : ((q ++ y :: x :: r).set (j + 1) y).set j x = q ++ x :: y :: r := by
        rw [List.set_append_right _ _ (by omega), hq, show j + 1 - j = 1 by omega, List.set_append_right _ _ (by omega), hq, Nat.sub_self]
        rfl
      rw [es]
      obtain ⟨p'', h1, h2, h3, h4⟩ := bub_ins j q (y :: r) x hq
      refine ⟨p'' ++ [y], by rw [h1]; simp, by simp [h2], fun hs => ?_, ?_⟩
      · rw [List.pairwise_append] at hs ⊢
        obtain ⟨s1, _, s3⟩ := hs
        refine ⟨h3 s1, by simp, fun a ha b hb => ?_⟩
        have hb' : b = y := by simpa using hb
        subst hb'
        rcases List.mem_cons.1 (h4.mem_iff.1 ha) with rfl | ha
        · exact Nat.le_of_lt hxy
        · exact s3 a ha b (by simp)
      · have : (p'' ++ [y]).Perm ((x :: q) ++ [y]) := h4.append_right [y]
        simpa using this
    · rw [if_neg hxy]
      refine ⟨q ++ [y, x], by simp, by simp [hq], fun hs => ?_, ?_⟩
      · rw [List.pairwise_append] at hs ⊢
        obtain ⟨s1, _, s3⟩ := hs
        have hyx : leR y x := Nat.not_lt.1 hxy
        refine ⟨s1, by simp [hyx], fun a ha b hb => ?_⟩
        have hay := s3 a ha y (by simp)
        have : b = y ∨ b = x := by simpa using hb
        rcases this with rfl | rfl
        · exact hay
        · exact Nat.le_trans hay hyx
      · have : (q ++ [y] ++ [x]).Perm (x :: (q ++ [y])) := List.perm_append_comm
        simpa using this

theorem isort_pre : ∀ (i : Nat) (l : List R), i < l.length → ∃ p r, isort l i = p ++ r ∧ p.length = i + 1 ∧ p.Pairwise leR
  | 0, l, h => by
    cases l with
    | nil => simp at h
    | cons x t => exact ⟨[x], t, rfl, rfl, by simp⟩
  | i + 1, l, h => by
    obtain ⟨p, r, h1, h2, h3⟩ := isort_pre i l (by omega)
    have hlen := isort_len i l
    cases r with
    | nil =>
      rw [h1, List.append_nil, h2] at hlen
      omega
    | cons x r =>
      obtain ⟨p', g1, g2, g3, _⟩ := bub_ins (i + 1) p r x h2
      refine ⟨p', r, ?_, g2, g3 h3⟩
      show bub (isort l i) (i + 1) = _
      rw [h1, g1]
theorem isort_sorted (l : List R) : (isort l (l.length - 1)).Pairwise leR := by
  by_cases h0 : l = []
  · subst h0; exact List.Pairwise.nil
  · have hp : 0 < l.length := List.length_pos_iff.2 h0
    obtain ⟨p, r, h1, h2, h3⟩ := isort_pre (l.length - 1) l (by omega)
    have hlen := isort_len (l.length - 1) l
    rw [h1] at hlen ⊢
    have : r = [] := by
      rw [List.length_append, h2] at hlen
      exact List.length_eq_zero_iff.1 (by omega)
    rw [this, List.append_nil]
    exact h3
theorem isort_all (l : List R) : (isort l (l.length - 1)).Perm l := by
  by_cases h0 : l = []
  · subst h0; exact List.Perm.refl _
  · have hp : 0 < l.length := List.length_pos_iff.2 h0
    exact isort_perm l _ (.inl (by omega))

/-- Two rows by strictly rising numbers with the same records are one. -/
theorem rise_uniq : ∀ (a b : List R), a.Pairwise (fun x y => x.s < y.s) → b.Pairwise (fun x y => x.s < y.s) → a.Perm b → a = b
  | [], b, _, _, h => (List.nil_perm.1 h).symm
  | x :: a, [], _, _, h => by have := h.length_eq; simp at this
  | x :: a, y :: b, ha, hb, h => by
    rw [List.pairwise_cons] at ha hb
    have hxy : x = y := by
      rcases List.mem_cons.1 (h.mem_iff.1 (List.mem_cons_self : x ∈ x :: a)) with e | hx
      · exact e
      · rcases List.mem_cons.1 (h.mem_iff.2 (List.mem_cons_self : y ∈ y :: b)) with e | hy
        · exact e.symm
        · have h1 := ha.1 y hy
          have h2 := hb.1 x hx
          omega
    subst hxy
    rw [rise_uniq a b ha.2 hb.2 (List.Perm.cons_inv h)]

end Go.Proofs.YtghajiefpmcpmaaGreatDoor.Srt

end
section
/-! RecB -/
/- record: which may stand behind which. -/
set_option maxRecDepth 100000
set_option linter.unusedSimpArgs false
set_option linter.unusedVariables false
set_option linter.unnecessarySimpa false
set_option linter.unusedSectionVars false
namespace Go.Proofs.YtghajiefpmcpmaaGreatDoor.Rec
open Go Go.Hw Go.Proofs.YtghajiefpmcpmaaGreatDoor.W

abbrev after (a b : R) : Prop := a.good ∧ b.good ∧ b.s = a.s + 1 ∧ (b.kd = 1 ∨ (b.kd = 2 ∧ a.kd = 1 ∧ a.ld = b.ld ∧ a.kk = b.kk) ∨ (b.kd = 3 ∧ a.kd ≠ 1 ∧ a.ld = b.ld ∧ a.kk = b.kk ∧ a.inp = b.inp ∧ b.out = 0) ∨
  (b.kd = 4 ∧ 3 ≤ a.kd ∧ a.ld = b.ld ∧ a.kk = b.kk ∧ a.inp = b.inp ∧ a.dir = b.dir ∧ b.ps = a.ps + 1))
abbrev same (a b : R) : Prop := a.ld = b.ld ∧ a.kk = b.kk ∧ a.inp = b.inp

theorem same_ok (a b : R) (H : Hp) : HCalls Tryz.prog 200 #[.agg a.c, .agg b.c] H (RetE (.bool (decide (same a b))) H) := HCalls.ret (by
  apply W_record_same.ok
  unfold W_record_same
  refine (Sep.start H).nw fun b1 H1 hs => ?_
  refine hs.nw fun b2 H1 hs => ?_
  have hs : Sep [own H, pts b1 (recO a), pts b2 (recO b)] H1 := hs
  refine hs.ldf 1 rfl rfl ?_
  simp only [DI_int', DB_bool, DS_string, DP_pointer, DSl_slice, DM_map, DA_agg, DTup_tuple, DCons_cons, DNil_nil, NN_some, BIf_true, BIf_false, BIf_same, List.toList_toArray, Bool.not_true, Bool.not_false]
  refine hs.ldf 2 rfl rfl ?_
  simp only [DI_int', DB_bool, DS_string, DP_pointer, DSl_slice, DM_map, DA_agg, DTup_tuple, DCons_cons, DNil_nil, NN_some, BIf_true, BIf_false, BIf_same, List.toList_toArray, Bool.not_true, Bool.not_false]
  by_cases h1 : (a.ld : Int) = (b.ld : Int)
  · refine BIf_beqp h1 ?_
    refine hs.ldf 1 rfl rfl ?_
    simp only [DI_int', DB_bool, DS_string, DP_pointer, DSl_slice, DM_map, DA_agg, DTup_tuple, DCons_cons, DNil_nil, NN_some, BIf_true, BIf_false, BIf_same, List.toList_toArray, Bool.not_true, Bool.not_false]
    refine hs.ldf 2 rfl rfl ?_
    simp only [DI_int', DB_bool, DS_string, DP_pointer, DSl_slice, DM_map, DA_agg, DTup_tuple, DCons_cons, DNil_nil, NN_some, BIf_true, BIf_false, BIf_same, List.toList_toArray, Bool.not_true, Bool.not_false]
    by_cases h2 : a.kk = b.kk
    · refine BIf_beqp h2 ?_
      refine hs.ldf 1 rfl rfl ?_
      simp only [DI_int', DB_bool, DS_string, DP_pointer, DSl_slice, DM_map, DA_agg, DTup_tuple, DCons_cons, DNil_nil, NN_some, BIf_true, BIf_false, BIf_same, List.toList_toArray, Bool.not_true, Bool.not_false]
      refine hs.ldf 2 rfl rfl ?_
      simp only [DI_int', DB_bool, DS_string, DP_pointer, DSl_slice, DM_map, DA_agg, DTup_tuple, DCons_cons, DNil_nil, NN_some, BIf_true, BIf_false, BIf_same, List.toList_toArray, Bool.not_true, Bool.not_false]
      have : decide (same a b) = ((a.inp : Int) == (b.inp : Int)) := by
        by_cases h3 : (a.inp : Int) = (b.inp : Int)
        · rw [decide_eq_true ⟨by omega, h2, by omega⟩, h3]; simp
        · rw [decide_eq_false (fun h => by have := h.2.2; omega), beq_eq_false_iff_ne.2 h3]
      rw [this]
      exact hs.fin 0 rfl _
    · rw [decide_eq_false (fun h => h2 h.2.1)]
      exact BIf_beqn h2 (hs.fin 0 rfl _)
  · rw [decide_eq_false (fun h => h1 (by have := h.1; omega))]
    exact BIf_beqn h1 (hs.fin 0 rfl _))

section
variable {a b : R} {H0 H : Hp} {b1 b2 : Nat}
theorem aft_no (hs : Sep [own H0, pts b1 (recO a), pts b2 (recO b)] H) (h : ¬ after a b) : Ret (.bool (decide (after a b))) H0 (.bool false) H := by
  rw [decide_eq_false h]; exact hs.fin 0 rfl _
theorem aft_b (hs : Sep [own H0, pts b1 (recO a), pts b2 (recO b)] H) {x : Bool} (h : x = true ↔ after a b) : Ret (.bool (decide (after a b))) H0 (.bool x) H := by
  have : decide (after a b) = x := by
    cases x with
    | true => exact decide_eq_true (h.1 rfl)
    | false => exact decide_eq_false fun g => by have := h.2 g; cases this
  rw [this]; exact hs.fin 0 rfl _
end

theorem After_ok (a b : R) (H : Hp) : HCalls Tryz.prog 119 #[.agg a.c, .agg b.c] H (RetE (.bool (decide (after a b))) H) := HCalls.ret (by
  apply W_record_After.ok
  unfold W_record_After
  refine (Sep.start H).nw fun b1 H1 hs => ?_
  refine hs.nw fun b2 H1 hs => ?_
  have hs : Sep [own H, pts b1 (recO a), pts b2 (recO b)] H1 := hs
  refine hs.ldw 1 rfl rfl ?_
  refine HCalls.use (Good_ok a H1) ?_
  simp only [DI_int', DB_bool, DS_string, DP_pointer, DSl_slice, DM_map, DA_agg, DTup_tuple, DCons_cons, DNil_nil, NN_some, BIf_true, BIf_false, BIf_same, List.toList_toArray, Bool.not_true, Bool.not_false]
  by_cases ga : a.good
  case neg =>
    rw [decide_eq_false ga]
    exact BIf_pos rfl (aft_no hs fun h => ga h.1)
  rw [decide_eq_true ga]
  refine BIf_neg rfl ?_
  refine hs.ldw 2 rfl rfl ?_
  refine HCalls.use (Good_ok b H1) ?_
  simp only [DI_int', DB_bool, DS_string, DP_pointer, DSl_slice, DM_map, DA_agg, DTup_tuple, DCons_cons, DNil_nil, NN_some, BIf_true, BIf_false, BIf_same, List.toList_toArray, Bool.not_true, Bool.not_false]
  by_cases gb : b.good
  case neg =>
    rw [decide_eq_false gb]
    exact BIf_pos rfl (aft_no hs fun h => gb h.2.1)
  rw [decide_eq_true gb]
  refine BIf_neg rfl ?_
  have ga' := ga
  have gb' := gb
  obtain ⟨a1, a2, a3, a4, a5, a6⟩ := ga'
  obtain ⟨c1, c2, c3, c4, c5, c6⟩ := gb'
  refine hs.ldf 2 rfl rfl ?_
  simp only [DI_int', DB_bool, DS_string, DP_pointer, DSl_slice, DM_map, DA_agg, DTup_tuple, DCons_cons, DNil_nil, NN_some, BIf_true, BIf_false, BIf_same, List.toList_toArray, Bool.not_true, Bool.not_false]
  refine hs.ldf 1 rfl rfl ?_
  simp only [DI_int', DB_bool, DS_string, DP_pointer, DSl_slice, DM_map, DA_agg, DTup_tuple, DCons_cons, DNil_nil, NN_some, BIf_true, BIf_false, BIf_same, List.toList_toArray, Bool.not_true, Bool.not_false]
  rw [u64w (x := (a.s : Int) + 1) (by omega) (by omega)]
  by_cases hsq : (b.s : Int) = (a.s : Int) + 1
  case neg => exact BIf_bnep hsq (aft_no hs fun h => hsq (by have := h.2.2.1; omega))
  refine BIf_bnen hsq ?_
  have hd : ∀ {P : Prop}, (P ↔ (b.kd = 1 ∨ (b.kd = 2 ∧ a.kd = 1 ∧ a.ld = b.ld ∧ a.kk = b.kk) ∨ (b.kd = 3 ∧ a.kd ≠ 1 ∧ a.ld = b.ld ∧ a.kk = b.kk ∧ a.inp = b.inp ∧ b.out = 0) ∨ (b.kd = 4 ∧ 3 ≤ a.kd ∧ a.ld = b.ld ∧ a.kk = b.kk ∧ a.inp = b.inp ∧ a.dir = b.dir ∧ b.ps = a.ps + 1))) → (P ↔ after a b) := fun h => by
    rw [h]
    exact ⟨fun g => ⟨ga, gb, by omega, g⟩, fun g => g.2.2.2⟩
  have hn : ¬ (b.kd = 1 ∨ (b.kd = 2 ∧ a.kd = 1 ∧ a.ld = b.ld ∧ a.kk = b.kk) ∨ (b.kd = 3 ∧ a.kd ≠ 1 ∧ a.ld = b.ld ∧ a.kk = b.kk ∧ a.inp = b.inp ∧ b.out = 0) ∨ (b.kd = 4 ∧ 3 ≤ a.kd ∧ a.ld = b.ld ∧ a.kk = b.kk ∧ a.inp = b.inp ∧ a.dir = b.dir ∧ b.ps = a.ps + 1)) → Ret (.bool (decide (after a b))) H (.bool false) H1 := fun h => aft_no hs fun g => h g.2.2.2
  refine hs.ldf 2 rfl rfl ?_
  simp only [DI_int', DB_bool, DS_string, DP_pointer, DSl_slice, DM_map, DA_agg, DTup_tuple, DCons_cons, DNil_nil, NN_some, BIf_true, BIf_false, BIf_same, List.toList_toArray, Bool.not_true, Bool.not_false]
  by_cases k1 : b.kd = 1
  · exact BIf_beqp k1 (aft_b hs (hd ⟨fun _ => .inl k1, fun _ => rfl⟩))
  refine BIf_beqn k1 ?_
  by_cases k2 : b.kd = 2
  · refine BIf_beqp k2 ?_
    refine hs.ldf 1 rfl rfl ?_
    simp only [DI_int', DB_bool, DS_string, DP_pointer, DSl_slice, DM_map, DA_agg, DTup_tuple, DCons_cons, DNil_nil, NN_some, BIf_true, BIf_false, BIf_same, List.toList_toArray, Bool.not_true, Bool.not_false]
    by_cases h1 : a.kd = 1
    · refine BIf_beqp h1 ?_
      refine hs.ldf 1 rfl rfl ?_
      simp only [DI_int', DB_bool, DS_string, DP_pointer, DSl_slice, DM_map, DA_agg, DTup_tuple, DCons_cons, DNil_nil, NN_some, BIf_true, BIf_false, BIf_same, List.toList_toArray, Bool.not_true, Bool.not_false]
      refine hs.ldf 2 rfl rfl ?_
      simp only [DI_int', DB_bool, DS_string, DP_pointer, DSl_slice, DM_map, DA_agg, DTup_tuple, DCons_cons, DNil_nil, NN_some, BIf_true, BIf_false, BIf_same, List.toList_toArray, Bool.not_true, Bool.not_false]
      by_cases h2 : (a.ld : Int) = (b.ld : Int)
      · refine BIf_beqp h2 ?_
        refine hs.ldf 1 rfl rfl ?_
        simp only [DI_int', DB_bool, DS_string, DP_pointer, DSl_slice, DM_map, DA_agg, DTup_tuple, DCons_cons, DNil_nil, NN_some, BIf_true, BIf_false, BIf_same, List.toList_toArray, Bool.not_true, Bool.not_false]
        refine hs.ldf 2 rfl rfl ?_
        simp only [DI_int', DB_bool, DS_string, DP_pointer, DSl_slice, DM_map, DA_agg, DTup_tuple, DCons_cons, DNil_nil, NN_some, BIf_true, BIf_false, BIf_same, List.toList_toArray, Bool.not_true, Bool.not_false]
        refine aft_b hs (hd ?_)
        rw [beq_iff_eq]; omega
      · exact BIf_beqn h2 (hn (by omega))
    · exact BIf_beqn h1 (hn (by omega))
  refine BIf_beqn k2 ?_
  by_cases k3 : b.kd = 3
  · refine BIf_beqp k3 ?_
    refine hs.ldf 1 rfl rfl ?_
    simp only [DI_int', DB_bool, DS_string, DP_pointer, DSl_slice, DM_map, DA_agg, DTup_tuple, DCons_cons, DNil_nil, NN_some, BIf_true, BIf_false, BIf_same, List.toList_toArray, Bool.not_true, Bool.not_false]
    by_cases h1 : a.kd = 1
    · exact BIf_bnen h1 (hn (by omega))
    · refine BIf_bnep h1 ?_
      refine hs.ldw 1 rfl rfl ?_
      refine hs.ldw 2 rfl rfl ?_
      refine HCalls.use (same_ok a b H1) ?_
      simp only [DI_int', DB_bool, DS_string, DP_pointer, DSl_slice, DM_map, DA_agg, DTup_tuple, DCons_cons, DNil_nil, NN_some, BIf_true, BIf_false, BIf_same, List.toList_toArray, Bool.not_true, Bool.not_false]
      by_cases h2 : same a b
      · rw [decide_eq_true h2]
        refine BIf_pos rfl ?_
        obtain ⟨e1, e2, e3⟩ := h2
        refine hs.ldf 2 rfl rfl ?_
        simp only [DI_int', DB_bool, DS_string, DP_pointer, DSl_slice, DM_map, DA_agg, DTup_tuple, DCons_cons, DNil_nil, NN_some, BIf_true, BIf_false, BIf_same, List.toList_toArray, Bool.not_true, Bool.not_false]
        refine aft_b hs (hd ?_)
        rw [beq_iff_eq]; omega
      · rw [decide_eq_false h2]
        refine BIf_neg rfl (hn fun g => h2 ?_)
        rcases g with g | g | g | g
        · omega
        · omega
        · exact ⟨g.2.2.1, g.2.2.2.1, g.2.2.2.2.1⟩
        · omega
  refine BIf_beqn k3 ?_
  refine hs.ldf 1 rfl rfl ?_
  simp only [DI_int', DB_bool, DS_string, DP_pointer, DSl_slice, DM_map, DA_agg, DTup_tuple, DCons_cons, DNil_nil, NN_some, BIf_true, BIf_false, BIf_same, List.toList_toArray, Bool.not_true, Bool.not_false]
  by_cases h1 : a.kd ≥ 3
  · refine BIf_dpos h1 ?_
    refine hs.ldw 1 rfl rfl ?_
    refine hs.ldw 2 rfl rfl ?_
    refine HCalls.use (same_ok a b H1) ?_
    simp only [DI_int', DB_bool, DS_string, DP_pointer, DSl_slice, DM_map, DA_agg, DTup_tuple, DCons_cons, DNil_nil, NN_some, BIf_true, BIf_false, BIf_same, List.toList_toArray, Bool.not_true, Bool.not_false]
    by_cases h2 : same a b
    · rw [decide_eq_true h2]
      refine BIf_pos rfl ?_
      obtain ⟨e1, e2, e3⟩ := h2
      refine hs.ldf 1 rfl rfl ?_
      simp only [DI_int', DB_bool, DS_string, DP_pointer, DSl_slice, DM_map, DA_agg, DTup_tuple, DCons_cons, DNil_nil, NN_some, BIf_true, BIf_false, BIf_same, List.toList_toArray, Bool.not_true, Bool.not_false]
      refine hs.ldf 2 rfl rfl ?_
      simp only [DI_int', DB_bool, DS_string, DP_pointer, DSl_slice, DM_map, DA_agg, DTup_tuple, DCons_cons, DNil_nil, NN_some, BIf_true, BIf_false, BIf_same, List.toList_toArray, Bool.not_true, Bool.not_false]
      by_cases h3 : a.dir = b.dir
      · refine BIf_beqp h3 ?_
        refine hs.ldf 2 rfl rfl ?_
        simp only [DI_int', DB_bool, DS_string, DP_pointer, DSl_slice, DM_map, DA_agg, DTup_tuple, DCons_cons, DNil_nil, NN_some, BIf_true, BIf_false, BIf_same, List.toList_toArray, Bool.not_true, Bool.not_false]
        refine hs.ldf 1 rfl rfl ?_
        simp only [DI_int', DB_bool, DS_string, DP_pointer, DSl_slice, DM_map, DA_agg, DTup_tuple, DCons_cons, DNil_nil, NN_some, BIf_true, BIf_false, BIf_same, List.toList_toArray, Bool.not_true, Bool.not_false]
        rw [i64w (x := a.ps + 1) (by omega) (by omega)]
        refine aft_b hs (hd ?_)
        rw [beq_iff_eq]; omega
      · exact BIf_beqn h3 (hn (by omega))
    · rw [decide_eq_false h2]
      refine BIf_neg rfl (hn fun g => h2 ?_)
      rcases g with g | g | g | g
      · omega
      · omega
      · omega
      · exact ⟨g.2.2.1, g.2.2.2.1, g.2.2.2.2.1⟩
  · exact BIf_dneg h1 (hn (by omega)))

theorem rAfter_ok (a b : R) (H : Hp) : HCalls Tryz.prog 39 #[.agg a.c, .agg b.c] H (RetE (.bool (decide (after a b))) H) := HCalls.ret (by
  apply W_abacistref20_After.ok
  unfold W_abacistref20_After
  refine (Sep.start H).nw fun b1 H1 hs => ?_
  refine hs.nw fun b2 H1 hs => ?_
  have hs : Sep [own H, pts b1 (recO a), pts b2 (recO b)] H1 := hs
  refine hs.ldw 1 rfl rfl ?_
  refine HCalls.use (rGood_ok a H1) ?_
  simp only [DI_int', DB_bool, DS_string, DP_pointer, DSl_slice, DM_map, DA_agg, DTup_tuple, DCons_cons, DNil_nil, NN_some, BIf_true, BIf_false, BIf_same, List.toList_toArray, Bool.not_true, Bool.not_false]
  by_cases ga : a.good
  case neg =>
    rw [decide_eq_false ga]
    exact BIf_pos rfl (aft_no hs fun h => ga h.1)
  rw [decide_eq_true ga]
  refine BIf_neg rfl ?_
  refine hs.ldw 2 rfl rfl ?_
  refine HCalls.use (rGood_ok b H1) ?_
  simp only [DI_int', DB_bool, DS_string, DP_pointer, DSl_slice, DM_map, DA_agg, DTup_tuple, DCons_cons, DNil_nil, NN_some, BIf_true, BIf_false, BIf_same, List.toList_toArray, Bool.not_true, Bool.not_false]
  by_cases gb : b.good
  case neg =>
    rw [decide_eq_false gb]
    exact BIf_pos rfl (aft_no hs fun h => gb h.2.1)
  rw [decide_eq_true gb]
  refine BIf_neg rfl ?_
  have ga' := ga
  have gb' := gb
  obtain ⟨a1, a2, a3, a4, a5, a6⟩ := ga'
  obtain ⟨c1, c2, c3, c4, c5, c6⟩ := gb'
  refine hs.ldf 2 rfl rfl ?_
  simp only [DI_int', DB_bool, DS_string, DP_pointer, DSl_slice, DM_map, DA_agg, DTup_tuple, DCons_cons, DNil_nil, NN_some, BIf_true, BIf_false, BIf_same, List.toList_toArray, Bool.not_true, Bool.not_false]
  refine hs.ldf 1 rfl rfl ?_
  simp only [DI_int', DB_bool, DS_string, DP_pointer, DSl_slice, DM_map, DA_agg, DTup_tuple, DCons_cons, DNil_nil, NN_some, BIf_true, BIf_false, BIf_same, List.toList_toArray, Bool.not_true, Bool.not_false]
  rw [u64w (x := (a.s : Int) + 1) (by omega) (by omega)]
  by_cases hsq : (b.s : Int) = (a.s : Int) + 1
  case neg => exact BIf_bnep hsq (aft_no hs fun h => hsq (by have := h.2.2.1; omega))
  refine BIf_bnen hsq ?_
  have hd : ∀ {P : Prop}, (P ↔ (b.kd = 1 ∨ (b.kd = 2 ∧ a.kd = 1 ∧ a.ld = b.ld ∧ a.kk = b.kk) ∨ (b.kd = 3 ∧ a.kd ≠ 1 ∧ a.ld = b.ld ∧ a.kk = b.kk ∧ a.inp = b.inp ∧ b.out = 0) ∨ (b.kd = 4 ∧ 3 ≤ a.kd ∧ a.ld = b.ld ∧ a.kk = b.kk ∧ a.inp = b.inp ∧ a.dir = b.dir ∧ b.ps = a.ps + 1))) → (P ↔ after a b) := fun h => by
    rw [h]
    exact ⟨fun g => ⟨ga, gb, by omega, g⟩, fun g => g.2.2.2⟩
  have hn : ¬ (b.kd = 1 ∨ (b.kd = 2 ∧ a.kd = 1 ∧ a.ld = b.ld ∧ a.kk = b.kk) ∨ (b.kd = 3 ∧ a.kd ≠ 1 ∧ a.ld = b.ld ∧ a.kk = b.kk ∧ a.inp = b.inp ∧ b.out = 0) ∨ (b.kd = 4 ∧ 3 ≤ a.kd ∧ a.ld = b.ld ∧ a.kk = b.kk ∧ a.inp = b.inp ∧ a.dir = b.dir ∧ b.ps = a.ps + 1)) → Ret (.bool (decide (after a b))) H (.bool false) H1 := fun h => aft_no hs fun g => h g.2.2.2
  refine hs.ldf 2 rfl rfl ?_
  simp only [DI_int', DB_bool, DS_string, DP_pointer, DSl_slice, DM_map, DA_agg, DTup_tuple, DCons_cons, DNil_nil, NN_some, BIf_true, BIf_false, BIf_same, List.toList_toArray, Bool.not_true, Bool.not_false]
  by_cases k1 : b.kd = 1
  · exact BIf_beqp k1 (aft_b hs (hd ⟨fun _ => .inl k1, fun _ => rfl⟩))
  refine BIf_beqn k1 ?_
  refine hs.ldf 1 rfl rfl ?_
  simp only [DI_int', DB_bool, DS_string, DP_pointer, DSl_slice, DM_map, DA_agg, DTup_tuple, DCons_cons, DNil_nil, NN_some, BIf_true, BIf_false, BIf_same, List.toList_toArray, Bool.not_true, Bool.not_false]
  refine hs.ldf 2 rfl rfl ?_
  simp only [DI_int', DB_bool, DS_string, DP_pointer, DSl_slice, DM_map, DA_agg, DTup_tuple, DCons_cons, DNil_nil, NN_some, BIf_true, BIf_false, BIf_same, List.toList_toArray, Bool.not_true, Bool.not_false]
  by_cases e1 : (a.ld : Int) = (b.ld : Int)
  case neg => exact BIf_bnep e1 (hn (by omega))
  refine BIf_bnen e1 ?_
  refine hs.ldf 1 rfl rfl ?_
  simp only [DI_int', DB_bool, DS_string, DP_pointer, DSl_slice, DM_map, DA_agg, DTup_tuple, DCons_cons, DNil_nil, NN_some, BIf_true, BIf_false, BIf_same, List.toList_toArray, Bool.not_true, Bool.not_false]
  refine hs.ldf 2 rfl rfl ?_
  simp only [DI_int', DB_bool, DS_string, DP_pointer, DSl_slice, DM_map, DA_agg, DTup_tuple, DCons_cons, DNil_nil, NN_some, BIf_true, BIf_false, BIf_same, List.toList_toArray, Bool.not_true, Bool.not_false]
  by_cases e2 : a.kk = b.kk
  case neg => exact BIf_bnep e2 (hn (by omega))
  refine BIf_bnen e2 ?_
  refine hs.ldf 2 rfl rfl ?_
  simp only [DI_int', DB_bool, DS_string, DP_pointer, DSl_slice, DM_map, DA_agg, DTup_tuple, DCons_cons, DNil_nil, NN_some, BIf_true, BIf_false, BIf_same, List.toList_toArray, Bool.not_true, Bool.not_false]
  by_cases k2 : b.kd = 2
  · refine BIf_beqp k2 ?_
    refine hs.ldf 1 rfl rfl ?_
    simp only [DI_int', DB_bool, DS_string, DP_pointer, DSl_slice, DM_map, DA_agg, DTup_tuple, DCons_cons, DNil_nil, NN_some, BIf_true, BIf_false, BIf_same, List.toList_toArray, Bool.not_true, Bool.not_false]
    refine aft_b hs (hd ?_)
    rw [beq_iff_eq]; omega
  refine BIf_beqn k2 ?_
  refine hs.ldf 1 rfl rfl ?_
  simp only [DI_int', DB_bool, DS_string, DP_pointer, DSl_slice, DM_map, DA_agg, DTup_tuple, DCons_cons, DNil_nil, NN_some, BIf_true, BIf_false, BIf_same, List.toList_toArray, Bool.not_true, Bool.not_false]
  by_cases h1 : a.kd = 1
  · exact BIf_beqp h1 (hn (by omega))
  refine BIf_beqn h1 ?_
  refine hs.ldf 1 rfl rfl ?_
  simp only [DI_int', DB_bool, DS_string, DP_pointer, DSl_slice, DM_map, DA_agg, DTup_tuple, DCons_cons, DNil_nil, NN_some, BIf_true, BIf_false, BIf_same, List.toList_toArray, Bool.not_true, Bool.not_false]
  refine hs.ldf 2 rfl rfl ?_
  simp only [DI_int', DB_bool, DS_string, DP_pointer, DSl_slice, DM_map, DA_agg, DTup_tuple, DCons_cons, DNil_nil, NN_some, BIf_true, BIf_false, BIf_same, List.toList_toArray, Bool.not_true, Bool.not_false]
  by_cases e3 : (a.inp : Int) = (b.inp : Int)
  case neg => exact BIf_bnep e3 (hn (by omega))
  refine BIf_bnen e3 ?_
  refine hs.ldf 2 rfl rfl ?_
  simp only [DI_int', DB_bool, DS_string, DP_pointer, DSl_slice, DM_map, DA_agg, DTup_tuple, DCons_cons, DNil_nil, NN_some, BIf_true, BIf_false, BIf_same, List.toList_toArray, Bool.not_true, Bool.not_false]
  by_cases k3 : b.kd = 3
  · refine BIf_beqp k3 ?_
    refine hs.ldf 2 rfl rfl ?_
    simp only [DI_int', DB_bool, DS_string, DP_pointer, DSl_slice, DM_map, DA_agg, DTup_tuple, DCons_cons, DNil_nil, NN_some, BIf_true, BIf_false, BIf_same, List.toList_toArray, Bool.not_true, Bool.not_false]
    refine aft_b hs (hd ?_)
    rw [beq_iff_eq]; omega
  refine BIf_beqn k3 ?_
  refine hs.ldf 1 rfl rfl ?_
  simp only [DI_int', DB_bool, DS_string, DP_pointer, DSl_slice, DM_map, DA_agg, DTup_tuple, DCons_cons, DNil_nil, NN_some, BIf_true, BIf_false, BIf_same, List.toList_toArray, Bool.not_true, Bool.not_false]
  by_cases h2 : a.kd = 2
  · exact BIf_beqp h2 (hn (by omega))
  refine BIf_beqn h2 ?_
  refine hs.ldf 1 rfl rfl ?_
  simp only [DI_int', DB_bool, DS_string, DP_pointer, DSl_slice, DM_map, DA_agg, DTup_tuple, DCons_cons, DNil_nil, NN_some, BIf_true, BIf_false, BIf_same, List.toList_toArray, Bool.not_true, Bool.not_false]
  refine hs.ldf 2 rfl rfl ?_
  simp only [DI_int', DB_bool, DS_string, DP_pointer, DSl_slice, DM_map, DA_agg, DTup_tuple, DCons_cons, DNil_nil, NN_some, BIf_true, BIf_false, BIf_same, List.toList_toArray, Bool.not_true, Bool.not_false]
  by_cases e4 : a.dir = b.dir
  case neg => exact BIf_bnep e4 (hn (by omega))
  refine BIf_bnen e4 ?_
  refine hs.ldf 1 rfl rfl ?_
  simp only [DI_int', DB_bool, DS_string, DP_pointer, DSl_slice, DM_map, DA_agg, DTup_tuple, DCons_cons, DNil_nil, NN_some, BIf_true, BIf_false, BIf_same, List.toList_toArray, Bool.not_true, Bool.not_false]
  by_cases h3 : a.kd = 3
  · refine BIf_beqp h3 ?_
    refine hs.ldf 2 rfl rfl ?_
    simp only [DI_int', DB_bool, DS_string, DP_pointer, DSl_slice, DM_map, DA_agg, DTup_tuple, DCons_cons, DNil_nil, NN_some, BIf_true, BIf_false, BIf_same, List.toList_toArray, Bool.not_true, Bool.not_false]
    refine aft_b hs (hd ?_)
    rw [beq_iff_eq]; omega
  · refine BIf_beqn h3 ?_
    refine hs.ldf 2 rfl rfl ?_
    simp only [DI_int', DB_bool, DS_string, DP_pointer, DSl_slice, DM_map, DA_agg, DTup_tuple, DCons_cons, DNil_nil, NN_some, BIf_true, BIf_false, BIf_same, List.toList_toArray, Bool.not_true, Bool.not_false]
    refine hs.ldf 1 rfl rfl ?_
    simp only [DI_int', DB_bool, DS_string, DP_pointer, DSl_slice, DM_map, DA_agg, DTup_tuple, DCons_cons, DNil_nil, NN_some, BIf_true, BIf_false, BIf_same, List.toList_toArray, Bool.not_true, Bool.not_false]
    rw [i64w (x := a.ps + 1) (by omega) (by omega)]
    refine aft_b hs (hd ?_)
    rw [beq_iff_eq]; omega)

end Go.Proofs.YtghajiefpmcpmaaGreatDoor.Rec

end
section
/-! CrcM -/
/- Sums of bits: the plain laws. -/
set_option maxRecDepth 100000
set_option linter.unusedSimpArgs false
set_option linter.unusedVariables false
set_option linter.unnecessarySimpa false
set_option linter.unusedSectionVars false
namespace Go.Crc
open Go

abbrev W32 := BitVec 32
def poly : W32 := 0x82f63b78#32

/-- What a nought bit makes. -/
def bit1 (v : W32) : W32 := (v >>> 1) ^^^ (if v.getLsbD 0 then poly else 0#32)

def it (f : W32 → W32) : Nat → W32 → W32
  | 0, v => v
  | n + 1, v => it f n (f v)

theorem it_add (f : W32 → W32) : ∀ a b v, it f (a + b) v = it f b (it f a v)
  | 0, b, v => by simp [it]
  | a + 1, b, v => by rw [Nat.add_right_comm]; simp only [it]; exact it_add f a b (f v)
theorem it_succ' (f : W32 → W32) (n : Nat) (v : W32) : it f (n + 1) v = f (it f n v) := it_add f n 1 v
theorem it_mul (f : W32 → W32) (a : Nat) : ∀ b v, it f (a * b) v = it (it f a) b v
  | 0, v => rfl
  | b + 1, v => by rw [Nat.mul_succ, Nat.add_comm, it_add, it_mul f a b]; rfl

def Lin (f : W32 → W32) : Prop := ∀ x y, f (x ^^^ y) = f x ^^^ f y

theorem Lin.zero {f : W32 → W32} (h : Lin f) : f 0#32 = 0#32 := by
  have := h 0#32 0#32
  simp only [BitVec.xor_self] at this
  exact this
theorem Lin.it {f : W32 → W32} (h : Lin f) : ∀ n, Lin (it f n)
  | 0 => fun _ _ => rfl
  | n + 1 => fun x y => by simp only [Crc.it]; rw [h, Lin.it h n]

theorem xor4 (a b c d : W32) : (a ^^^ b) ^^^ (c ^^^ d) = (a ^^^ c) ^^^ (b ^^^ d) := by
  rw [BitVec.xor_assoc, ← BitVec.xor_assoc b, BitVec.xor_comm b c, BitVec.xor_assoc c, ← BitVec.xor_assoc]

theorem lin_bit1 : Lin bit1 := fun x y => by
  unfold bit1
  rw [BitVec.ushiftRight_xor_distrib, BitVec.getLsbD_xor, xor4]
  congr 1
  cases x.getLsbD 0 <;> cases y.getLsbD 0 <;> simp

theorem bit1_inj {x : W32} (h : bit1 x = 0#32) : x = 0#32 := by
  unfold bit1 at h
  have hp : poly.getLsbD 31 = true := by decide
  have h31 := congrArg (fun v => v.getLsbD 31) h
  simp only [BitVec.getLsbD_xor, BitVec.getLsbD_ushiftRight] at h31
  have h0 : x.getLsbD 0 = false := by
    cases hx : x.getLsbD 0 with
    | false => rfl
    | true =>
      rw [hx] at h31
      simp only [if_true, hp] at h31
      simp at h31
  rw [h0] at h
  simp only [Bool.false_eq_true, if_false, BitVec.xor_zero] at h
  apply BitVec.eq_of_getLsbD_eq
  intro i hi
  cases i with
  | zero => rw [h0]; simp
  | succ i =>
    have := congrArg (fun v => v.getLsbD i) h
    simp only [BitVec.getLsbD_ushiftRight] at this
    rw [Nat.add_comm, this]; simp

theorem it_inj {x : W32} : ∀ n, it bit1 n x = 0#32 → x = 0#32
  | 0, h => h
  | n + 1, h => bit1_inj (it_inj n h)

theorem bit1_shift {v : W32} (h : v.getLsbD 0 = false) : bit1 v = v >>> 1 := by unfold bit1; rw [h]; simp

theorem it_shift : ∀ (n : Nat) {v : W32}, (∀ i, i < n → v.getLsbD i = false) → it bit1 n v = v >>> n
  | 0, v, _ => by simp [it]
  | n + 1, v, h => by
    simp only [it]
    rw [bit1_shift (h 0 (by omega)), it_shift n (fun i hi => by rw [BitVec.getLsbD_ushiftRight]; exact h _ (by omega))]
    rw [← BitVec.shiftRight_add, Nat.add_comm]

/-- Four bits at once: by the table of half bytes. -/
theorem nibble (v : W32) : it bit1 4 v = (v >>> 4) ^^^ it bit1 4 (v &&& 15#32) := by
  have h1 : v = (v &&& ~~~15#32) ^^^ (v &&& 15#32) := by
    apply BitVec.eq_of_getLsbD_eq
    intro i hi
    simp only [BitVec.getLsbD_xor, BitVec.getLsbD_and, BitVec.getLsbD_not, hi, decide_true, Bool.true_and]
    cases v.getLsbD i <;> cases (15#32).getLsbD i <;> rfl
  have h2 : it bit1 4 (v &&& ~~~15#32) = (v &&& ~~~15#32) >>> 4 := it_shift 4 (fun i hi => by
    rw [BitVec.getLsbD_and]
    have : (~~~15#32).getLsbD i = false := by
      rcases (by omega : i = 0 ∨ i = 1 ∨ i = 2 ∨ i = 3) with rfl | rfl | rfl | rfl <;> decide
    rw [this, Bool.and_false])
  have h3 : (v &&& ~~~15#32) >>> 4 = v >>> 4 := by
    apply BitVec.eq_of_getLsbD_eq
    intro i hi
    simp only [BitVec.getLsbD_ushiftRight, BitVec.getLsbD_and, BitVec.getLsbD_not]
    by_cases h : 4 + i < 32
    · have : (15#32).getLsbD (4 + i) = false := by
        rw [show (15#32 : W32) = BitVec.ofNat 32 15 from rfl, BitVec.getLsbD_ofNat]
        have : Nat.testBit 15 (4 + i) = false := Nat.testBit_lt_two_pow (Nat.lt_of_lt_of_le (by decide : 15 < 2 ^ 4) (Nat.pow_le_pow_right (by decide) (by omega)))
        rw [this, Bool.and_false]
      simp only [this, h, decide_true, Bool.true_and, Bool.not_false, Bool.and_true]
    · have := BitVec.getLsbD_of_ge v (4 + i) (by omega)
      rw [this]; simp
  conv => lhs; rw [h1]
  rw [Lin.it lin_bit1 4, h2, h3]

def low (c : UInt8) : W32 := c.toBitVec.setWidth 32
/-- A byte more. -/
def byte (v : W32) (c : UInt8) : W32 := it bit1 8 (v ^^^ low c)
def run (v : W32) (bs : List UInt8) : W32 := bs.foldl byte v
/-- The sum of bytes behind others. -/
def more (s : W32) (bs : List UInt8) : W32 := ~~~ run (~~~ s) bs
def sum (bs : List UInt8) : W32 := more 0#32 bs

theorem run_append (v : W32) (a b : List UInt8) : run v (a ++ b) = run (run v a) b := List.foldl_append
theorem more_append (s : W32) (a b : List UInt8) : more s (a ++ b) = more (more s a) b := by
  unfold more; rw [run_append, BitVec.not_not]

theorem byte_lin (x y : W32) (c : UInt8) : byte (x ^^^ y) c = it bit1 8 x ^^^ byte y c := by
  unfold byte; rw [BitVec.xor_assoc, Lin.it lin_bit1 8]

theorem run_lin : ∀ (bs : List UInt8) (x y : W32), run (x ^^^ y) bs = it bit1 (8 * bs.length) x ^^^ run y bs
  | [], x, y => rfl
  | c :: bs, x, y => by
    simp only [run, List.foldl_cons, List.length_cons]
    rw [byte_lin]
    have := run_lin bs (it bit1 8 x) (byte y c)
    unfold run at this
    rw [this, Nat.mul_succ, Nat.add_comm, it_add]

/-- The sum of bytes behind others, by both sums. -/
theorem more_join (s : W32) (bs : List UInt8) : more s bs = it bit1 (8 * bs.length) s ^^^ sum bs := by
  unfold sum more
  have h : ~~~ s = s ^^^ ~~~ 0#32 := by
    apply BitVec.eq_of_getLsbD_eq
    intro i hi
    simp only [BitVec.getLsbD_not, BitVec.getLsbD_xor, BitVec.getLsbD_zero, hi, decide_true, Bool.true_and, Bool.not_false]
    cases s.getLsbD i <;> rfl
  rw [h, run_lin]
  apply BitVec.eq_of_getLsbD_eq
  intro i hi
  simp only [BitVec.getLsbD_not, BitVec.getLsbD_xor, hi, decide_true, Bool.true_and]
  cases (it bit1 (8 * bs.length) s).getLsbD i <;> cases (run (~~~0#32) bs).getLsbD i <;> rfl

/-! ## Matrices -/

/-- What a matrix makes of a sum: the entries of its bits, from the i-th on. -/
def app (m : Nat → W32) : Nat → Nat → W32 → W32 → W32
  | 0, _, _, out => out
  | k + 1, i, v, out => app m k (i + 1) (v >>> 1) (if v.getLsbD 0 then out ^^^ m i else out)

theorem app_lin {f : W32 → W32} (hf : Lin f) {m : Nat → W32} (hm : ∀ i, i < 32 → m i = f (1#32 <<< i)) :
    ∀ k i (v out : W32), i + k = 32 → app m k i v out = out ^^^ f (v <<< i)
  | 0, i, v, out, h => by
    obtain rfl : i = 32 := by omega
    have : v <<< 32 = 0#32 := by rw [BitVec.shiftLeft_eq_zero (by omega)]
    rw [this, hf.zero, BitVec.xor_zero]; rfl
  | k + 1, i, v, out, h => by
    simp only [app]
    rw [app_lin hf hm k (i + 1) _ _ (by omega)]
    have hv : v <<< i = (if v.getLsbD 0 then 1#32 <<< i else 0#32) ^^^ ((v >>> 1) <<< (i + 1)) := by
      apply BitVec.eq_of_getLsbD_eq
      intro j hj
      rw [BitVec.getLsbD_xor, BitVec.getLsbD_shiftLeft, BitVec.getLsbD_shiftLeft, BitVec.getLsbD_ushiftRight]
      by_cases h1 : j < i
      · have h2 : j < i + 1 := by omega
        cases v.getLsbD 0 <;> simp [h1, h2, BitVec.getLsbD_shiftLeft]
      · by_cases h2 : j = i
        · subst h2
          have h4 : j < j + 1 := by omega
          cases h3 : v.getLsbD 0
          · simp only [Nat.lt_irrefl, Nat.sub_self, h3, h4, Bool.false_eq_true, if_false, BitVec.getLsbD_zero, decide_true, Bool.not_true, Bool.and_false, Bool.false_and, Bool.xor_false]
          · simp only [Nat.lt_irrefl, Nat.sub_self, h3, h4, if_true, hj, BitVec.getLsbD_shiftLeft, decide_true, decide_false, Bool.not_true, Bool.not_false, Bool.and_false, Bool.and_true, Bool.false_and, Bool.xor_false]
            decide
        · have h3 : ¬ j < i + 1 := by omega
          have h4 : 1 + (j - (i + 1)) = j - i := by omega
          have h5 : (1#32).getLsbD (j - i) = false := by
            rw [show (1#32 : W32) = BitVec.ofNat 32 1 from rfl, BitVec.getLsbD_ofNat]
            have : Nat.testBit 1 (j - i) = false := Nat.testBit_lt_two_pow (Nat.lt_of_lt_of_le (by decide : 1 < 2 ^ 1) (Nat.pow_le_pow_right (by decide) (by omega)))
            rw [this, Bool.and_false]
          have h6 : j - i ≠ 0 := by omega
          cases v.getLsbD 0 <;> simp [h1, h3, h4, hj, h6, BitVec.getLsbD_shiftLeft]
    rw [hv, hf]
    cases v.getLsbD 0
    · simp [hf.zero]
    · simp only [if_true]
      rw [hm i (by omega), BitVec.xor_assoc]

/-- What a matrix makes of a sum. -/
def mul (m : Nat → W32) (v : W32) : W32 := app m 32 0 v 0#32

theorem mul_lin {f : W32 → W32} (hf : Lin f) {m : Nat → W32} (hm : ∀ i, i < 32 → m i = f (1#32 <<< i)) (v : W32) : mul m v = f v := by
  unfold mul; rw [app_lin hf hm 32 0 v 0#32 rfl]; simp

end Go.Crc

end
section
/-! Wcrc -/
/- Formulas of functions, printed by wip/tools/hwp.py. -/
set_option maxRecDepth 100000
set_option linter.unusedVariables false
namespace Go.Proofs.YtghajiefpmcpmaaGreatDoor.W
open Go Go.Hw

theorem mixWcrc : Tryz.prog.follows .mixedOrders = true := by kernel_rfl
-- (*crc.Counter).AddWords
def W_crc_Counter_AddWords (p1 : Option Addr) (A1 : Option Addr) (n1 : Nat) (m1 : Nat) (H : Hp) (K : Value → Hp → Prop) : Prop :=
  HCalls Tryz.prog 198 #[.slice A1 n1 m1] H fun v1 H1 => DSl v1 fun A2 n2 m2 => HCalls Tryz.prog 233 #[.pointer p1, .slice A2 n2 m2] H1 fun v2 H2 => K (.tuple #[]) H2
def W_crc_Counter_AddWords.Λ (_ : Value → Hp → Prop) : Cuts := Cuts.none (fun _ => none)
theorem W_crc_Counter_AddWords.ok (p1 : Option Addr) (A1 : Option Addr) (n1 : Nat) (m1 : Nat) (H : Hp) (K : Value → Hp → Prop) (h : W_crc_Counter_AddWords p1 A1 n1 m1 H K) : HCalls Tryz.prog 183 #[.pointer p1, .slice A1 n1 m1] H K :=
  hcalls Tryz.func183 rfl (Nat.le_of_ble_eq_true rfl) (hw_safe (Λ := Cuts.none (fun _ => none)) mixWcrc _ _ _ _ _ (Eq.mp (by kernel_rfl) h) (obs_none _ _ _ _ _))

-- (*crc.Counter).Sum
def W_crc_Counter_Sum (p1 : Option Addr) (H : Hp) (K : Value → Hp → Prop) : Prop :=
  NN p1 fun a1 => Ld H (a1.add 0) fun v1 => DI .u32 v1 fun x1 => K (.int .u32 x1) H
def W_crc_Counter_Sum.Λ (_ : Value → Hp → Prop) : Cuts := Cuts.none (fun _ => none)
theorem W_crc_Counter_Sum.ok (p1 : Option Addr) (H : Hp) (K : Value → Hp → Prop) (h : W_crc_Counter_Sum p1 H K) : HCalls Tryz.prog 184 #[.pointer p1] H K :=
  hcalls Tryz.func184 rfl (Nat.le_of_ble_eq_true rfl) (hw_safe (Λ := Cuts.none (fun _ => none)) mixWcrc _ _ _ _ _ (Eq.mp (by kernel_rfl) h) (obs_none _ _ _ _ _))

-- (*crc.Counter).Add
def W_crc_Counter_Add (p1 : Option Addr) (A1 : Option Addr) (n1 : Nat) (m1 : Nat) (H : Hp) (K : Value → Hp → Prop) : Prop :=
  NN p1 fun a1 => Ld H (a1.add 0) fun v1 => DI .u32 v1 fun x1 => HCalls Tryz.prog 280 #[.int .u32 x1, .slice A1 n1 m1] H fun v2 H1 => DI .u32 v2 fun x2 => NN p1 fun a2 => St H1 ((a2.add 0).add 0) (.int .u32 x2) fun H2 => NN p1 fun a3 => Ld H2 (a3.add 1) fun v3 => DI .i64 v3 fun x3 => NN p1 fun a4 => St H2 ((a4.add 1).add 0) (.int .i64 (IntKind.i64.wrap (x3 + ((n1 : Nat) : Int)))) fun H3 => K (.tuple #[]) H3
def W_crc_Counter_Add.Λ (_ : Value → Hp → Prop) : Cuts := Cuts.none (fun _ => none)
theorem W_crc_Counter_Add.ok (p1 : Option Addr) (A1 : Option Addr) (n1 : Nat) (m1 : Nat) (H : Hp) (K : Value → Hp → Prop) (h : W_crc_Counter_Add p1 A1 n1 m1 H K) : HCalls Tryz.prog 233 #[.pointer p1, .slice A1 n1 m1] H K :=
  hcalls Tryz.func233 rfl (Nat.le_of_ble_eq_true rfl) (hw_safe (Λ := Cuts.none (fun _ => none)) mixWcrc _ _ _ _ _ (Eq.mp (by kernel_rfl) h) (obs_none _ _ _ _ _))

-- crc.OfWords
def W_crc_OfWords (A1 : Option Addr) (n1 : Nat) (m1 : Nat) (H : Hp) (K : Value → Hp → Prop) : Prop :=
  HCalls Tryz.prog 198 #[.slice A1 n1 m1] H fun v1 H1 => DSl v1 fun A2 n2 m2 => HCalls Tryz.prog 286 #[.slice A2 n2 m2] H1 fun v2 H2 => DI .u32 v2 fun x1 => K (.int .u32 x1) H2
def W_crc_OfWords.Λ (_ : Value → Hp → Prop) : Cuts := Cuts.none (fun _ => none)
theorem W_crc_OfWords.ok (A1 : Option Addr) (n1 : Nat) (m1 : Nat) (H : Hp) (K : Value → Hp → Prop) (h : W_crc_OfWords A1 n1 m1 H K) : HCalls Tryz.prog 248 #[.slice A1 n1 m1] H K :=
  hcalls Tryz.func248 rfl (Nat.le_of_ble_eq_true rfl) (hw_safe (Λ := Cuts.none (fun _ => none)) mixWcrc _ _ _ _ _ (Eq.mp (by kernel_rfl) h) (obs_none _ _ _ _ _))

-- crc.More
def W_crc_More.l4 (K : Value → Hp → Prop) : Nat → Addr → Int → Option Addr → Nat → Nat → Int → Int → Hp → Prop
  | 0, _, _, _, _, _, _, _, _ => False
  | k + 1, a1, x2, A2, n2, m2, x3, x4, H =>
    let R4 := W_crc_More.l4 K k
    BIf (decide (x4 < x3)) (ixI x4 n2 (NN A2 fun a2 => Ld H (a2.add (x4.toNat * 1)) fun v2 => DI .u8 v2 fun x5 => (0 ≤ (4 : Int) ∧ ixI (bAnd .u32 (bXor .u32 x2 (IntKind.u32.wrap x5)) (15 : Int)) 16 (Ld H (a1.add ((bAnd .u32 (bXor .u32 x2 (IntKind.u32.wrap x5)) (15 : Int)).toNat * 1)) fun v3 => DI .u32 v3 fun x6 => (0 ≤ (4 : Int) ∧ ixI (bAnd .u32 (bXor .u32 (shrI .u32 (bXor .u32 x2 (IntKind.u32.wrap x5)) (4 : Int)) x6) (15 : Int)) 16 (Ld H (a1.add ((bAnd .u32 (bXor .u32 (shrI .u32 (bXor .u32 x2 (IntKind.u32.wrap x5)) (4 : Int)) x6) (15 : Int)).toNat * 1)) fun v4 => DI .u32 v4 fun x7 => R4 a1 (bXor .u32 (shrI .u32 (bXor .u32 (shrI .u32 (bXor .u32 x2 (IntKind.u32.wrap x5)) (4 : Int)) x6) (4 : Int)) x7) A2 n2 m2 x3 (IntKind.i64.wrap (x4 + (1 : Int))) H)))))) (K (.int .u32 (bXor .u32 IntKind.u32.max x2)) H)
def W_crc_More (x1 : Int) (A1 : Option Addr) (n1 : Nat) (m1 : Nat) (H : Hp) (K : Value → Hp → Prop) : Prop :=
  HCalls Tryz.prog 312 #[] H fun v1 H1 => DA v1 fun y1 => Nw H1 (.obj (.cells #[.int .u32 (0 : Int), .int .u32 (0 : Int), .int .u32 (0 : Int), .int .u32 (0 : Int), .int .u32 (0 : Int), .int .u32 (0 : Int), .int .u32 (0 : Int), .int .u32 (0 : Int), .int .u32 (0 : Int), .int .u32 (0 : Int), .int .u32 (0 : Int), .int .u32 (0 : Int), .int .u32 (0 : Int), .int .u32 (0 : Int), .int .u32 (0 : Int), .int .u32 (0 : Int)] 400)) fun b1 H2 => StA H2 (⟨b1, 0, none⟩ : Addr) y1 16 fun H3 => (∃ k, W_crc_More.l4 K k (⟨b1, 0, none⟩ : Addr) (bXor .u32 IntKind.u32.max x1) A1 n1 m1 ((n1 : Nat) : Int) (0 : Int) H3)
def W_crc_More.l4.L (K : Value → Hp → Prop) (k : Nat) : Mid := fun E D H =>
  DG (E.get? 5) fun w5 => DP w5 fun pw5 => NN pw5 fun a1 => DG (E.get? 6) fun w6 => DI .u32 w6 fun x2 => DG (E.get? 12) fun w12 => DSl w12 fun A2 n2 m2 => DG (E.get? 13) fun w13 => DI .i64 w13 fun x3 => DG (E.get? 14) fun w14 => DI .i64 w14 fun x4 => DNilD D (W_crc_More.l4 K k a1 x2 A2 n2 m2 x3 x4 H)
def W_crc_More.Λ4 (_ : Value → Hp → Prop) (_R4 : Addr → Int → Option Addr → Nat → Nat → Int → Int → Hp → Prop) : Cuts := Cuts.none (fun _ => none)
def W_crc_More.Λ (K : Value → Hp → Prop) : Cuts := ⟨fun i => none, fun i => match Nat.beq i 4 with | true => some (fun E D H => ∃ k, W_crc_More.l4.L K k E D H) | false => none, (fun _ => none)⟩
theorem W_crc_More.ok (x1 : Int) (A1 : Option Addr) (n1 : Nat) (m1 : Nat) (H : Hp) (K : Value → Hp → Prop) (h : W_crc_More x1 A1 n1 m1 H K) : HCalls Tryz.prog 280 #[.int .u32 x1, .slice A1 n1 m1] H K :=
  hcalls Tryz.func280 rfl (Nat.le_of_ble_eq_true rfl) (hw_safe (Λ := (W_crc_More.Λ K)) mixWcrc _ _ _ _ _ (Eq.mp (by kernel_rfl) h) (obs_seq obs_region rfl (obs_seq obs_region rfl (obs_seq obs_region rfl (obs_seq (obs_seq obs_region rfl (obs_block (obs_loop rfl (fun E D H h => by
      refine Safe.loop' (W_crc_More.l4.L K) (fun E D H h => ?_) (fun k E D H h => ?_) E D H h
      · obtain ⟨w5, e5, g1⟩ := DG.out h; obtain ⟨pw5, rfl, g2⟩ := DP.out g1; obtain ⟨a1, rfl, g3⟩ := NN.out g2; obtain ⟨w6, e6, g4⟩ := DG.out g3; obtain ⟨x2, rfl, g5⟩ := DI.out g4; obtain ⟨w12, e12, g6⟩ := DG.out g5; obtain ⟨A2, n2, m2, rfl, g7⟩ := DSl.out g6; obtain ⟨w13, e13, g8⟩ := DG.out g7; obtain ⟨x3, rfl, g9⟩ := DI.out g8; obtain ⟨w14, e14, g10⟩ := DG.out g9; obtain ⟨x4, rfl, g11⟩ := DI.out g10; obtain ⟨rfl, h'⟩ := DNilD.out g11; exact h'
      · obtain ⟨w5, e5, g1⟩ := DG.out h
        obtain ⟨pw5, rfl, g2⟩ := DP.out g1
        obtain ⟨a1, rfl, g3⟩ := NN.out g2
        obtain ⟨w6, e6, g4⟩ := DG.out g3
        obtain ⟨x2, rfl, g5⟩ := DI.out g4
        obtain ⟨w12, e12, g6⟩ := DG.out g5
        obtain ⟨A2, n2, m2, rfl, g7⟩ := DSl.out g6
        obtain ⟨w13, e13, g8⟩ := DG.out g7
        obtain ⟨x3, rfl, g9⟩ := DI.out g8
        obtain ⟨w14, e14, g10⟩ := DG.out g9
        obtain ⟨x4, rfl, g11⟩ := DI.out g10
        obtain ⟨rfl, h'⟩ := DNilD.out g11
        exact (hw_safe (Λ := (W_crc_More.Λ4 K (W_crc_More.l4 K k))) mixWcrc _ _ [(5, .pointer (some a1)), (6, .int .u32 x2), (12, .slice A2 n2 m2), (13, .int .i64 x3), (14, .int .i64 x4)] [] H (Eq.mp (by kernel_rfl) h') (obs_seq obs_region rfl (obs_seq (obs_cond obs_skip obs_exit) rfl (obs_seq (obs_block (obs_seq obs_region rfl (obs_seq obs_region rfl (obs_seq obs_region rfl obs_region)))) rfl obs_region)))).weaken (EnvLe.cons e5 (EnvLe.cons e6 (EnvLe.cons e12 (EnvLe.cons e13 (EnvLe.cons e14 (EnvLe.nil _)))))) (Hp.le_refl _))))) rfl (obs_seq obs_region rfl obs_ret))))))

-- crc.Of
def W_crc_Of (A1 : Option Addr) (n1 : Nat) (m1 : Nat) (H : Hp) (K : Value → Hp → Prop) : Prop :=
  HCalls Tryz.prog 280 #[.int .u32 (0 : Int), .slice A1 n1 m1] H fun v1 H1 => DI .u32 v1 fun x1 => K (.int .u32 x1) H1
def W_crc_Of.Λ (_ : Value → Hp → Prop) : Cuts := Cuts.none (fun _ => none)
theorem W_crc_Of.ok (A1 : Option Addr) (n1 : Nat) (m1 : Nat) (H : Hp) (K : Value → Hp → Prop) (h : W_crc_Of A1 n1 m1 H K) : HCalls Tryz.prog 286 #[.slice A1 n1 m1] H K :=
  hcalls Tryz.func286 rfl (Nat.le_of_ble_eq_true rfl) (hw_safe (Λ := Cuts.none (fun _ => none)) mixWcrc _ _ _ _ _ (Eq.mp (by kernel_rfl) h) (obs_none _ _ _ _ _))

-- crc.nibbles
def W_crc_nibbles.l6 (K : Value → Hp → Prop) (R2 : Addr → Int → Hp → Prop) : Nat → Addr → Int → Int → Int → Int → Hp → Prop
  | 0, _, _, _, _, _, _ => False
  | k + 1, a2, x2, x3, x4, x5, H =>
    let R6 := W_crc_nibbles.l6 K R2 k
    BIf (decide (x5 < (4 : Int))) ((0 ≤ (1 : Int) ∧ R6 a2 x2 (bXor .u32 (shrI .u32 x3 (1 : Int)) (IntKind.u32.wrap ((2197175160 : Int) * (bAnd .u32 x3 (1 : Int))))) x4 (IntKind.i64.wrap (x5 + (1 : Int))) H)) (ixI x2 16 (St H ((a2.add (x2.toNat * 1)).add 0) (.int .u32 x3) fun H2 => R2 a2 (IntKind.i64.wrap (x4 + (1 : Int))) H2))
def W_crc_nibbles.l2 (K : Value → Hp → Prop) : Nat → Addr → Int → Hp → Prop
  | 0, _, _, _ => False
  | k + 1, a1, x1, H =>
    let R2 := W_crc_nibbles.l2 K k
    BIf (decide (x1 < (16 : Int))) ((∃ k, W_crc_nibbles.l6 K R2 k a1 x1 (IntKind.u32.wrap x1) x1 (0 : Int) H)) (LdA H a1 16 fun l1 => StA H a1 l1.toArray 16 fun H3 => LdA H3 a1 16 fun l2 => K (.agg l2.toArray) H3)
def W_crc_nibbles (H : Hp) (K : Value → Hp → Prop) : Prop :=
  Nw H (.obj (.cells #[.int .u32 (0 : Int), .int .u32 (0 : Int), .int .u32 (0 : Int), .int .u32 (0 : Int), .int .u32 (0 : Int), .int .u32 (0 : Int), .int .u32 (0 : Int), .int .u32 (0 : Int), .int .u32 (0 : Int), .int .u32 (0 : Int), .int .u32 (0 : Int), .int .u32 (0 : Int), .int .u32 (0 : Int), .int .u32 (0 : Int), .int .u32 (0 : Int), .int .u32 (0 : Int)] 400)) fun b1 H1 => (∃ k, W_crc_nibbles.l2 K k (⟨b1, 0, none⟩ : Addr) (0 : Int) H1)
def W_crc_nibbles.l2.L (K : Value → Hp → Prop) (k : Nat) : Mid := fun E D H =>
  DG (E.get? 0) fun w0 => DP w0 fun pw0 => NN pw0 fun a1 => DG (E.get? 3) fun w3 => DI .i64 w3 fun x1 => DNilD D (W_crc_nibbles.l2 K k a1 x1 H)
def W_crc_nibbles.l6.L (K : Value → Hp → Prop) (R2 : Addr → Int → Hp → Prop) (k : Nat) : Mid := fun E D H =>
  DG (E.get? 0) fun w0 => DP w0 fun pw0 => NN pw0 fun a2 => DG (E.get? 1) fun w1 => DI .i64 w1 fun x2 => DG (E.get? 2) fun w2 => DI .u32 w2 fun x3 => DG (E.get? 3) fun w3 => DI .i64 w3 fun x4 => DG (E.get? 8) fun w8 => DI .i64 w8 fun x5 => DNilD D (W_crc_nibbles.l6 K R2 k a2 x2 x3 x4 x5 H)
def W_crc_nibbles.Λ6 (_ : Value → Hp → Prop) (_R2 : Addr → Int → Hp → Prop) (_R6 : Addr → Int → Int → Int → Int → Hp → Prop) : Cuts := Cuts.none (fun _ => none)
def W_crc_nibbles.Λ2 (K : Value → Hp → Prop) (R2 : Addr → Int → Hp → Prop) : Cuts := ⟨fun i => none, fun i => match Nat.beq i 6 with | true => some (fun E D H => ∃ k, W_crc_nibbles.l6.L K R2 k E D H) | false => none, (fun _ => none)⟩
def W_crc_nibbles.Λ (K : Value → Hp → Prop) : Cuts := ⟨fun i => none, fun i => match Nat.beq i 2 with | true => some (fun E D H => ∃ k, W_crc_nibbles.l2.L K k E D H) | false => none, (fun _ => none)⟩
theorem W_crc_nibbles.ok (H : Hp) (K : Value → Hp → Prop) (h : W_crc_nibbles H K) : HCalls Tryz.prog 312 #[] H K :=
  hcalls Tryz.func312 rfl (Nat.le_of_ble_eq_true rfl) (hw_safe (Λ := (W_crc_nibbles.Λ K)) mixWcrc _ _ _ _ _ (Eq.mp (by kernel_rfl) h) (obs_seq obs_region rfl (obs_seq (obs_seq obs_region rfl (obs_block (obs_loop rfl (fun E D H h => by
      refine Safe.loop' (W_crc_nibbles.l2.L K) (fun E D H h => ?_) (fun k E D H h => ?_) E D H h
      · obtain ⟨w0, e0, g1⟩ := DG.out h; obtain ⟨pw0, rfl, g2⟩ := DP.out g1; obtain ⟨a1, rfl, g3⟩ := NN.out g2; obtain ⟨w3, e3, g4⟩ := DG.out g3; obtain ⟨x1, rfl, g5⟩ := DI.out g4; obtain ⟨rfl, h'⟩ := DNilD.out g5; exact h'
      · obtain ⟨w0, e0, g1⟩ := DG.out h
        obtain ⟨pw0, rfl, g2⟩ := DP.out g1
        obtain ⟨a1, rfl, g3⟩ := NN.out g2
        obtain ⟨w3, e3, g4⟩ := DG.out g3
        obtain ⟨x1, rfl, g5⟩ := DI.out g4
        obtain ⟨rfl, h'⟩ := DNilD.out g5
        exact (hw_safe (Λ := (W_crc_nibbles.Λ2 K (W_crc_nibbles.l2 K k))) mixWcrc _ _ [(0, .pointer (some a1)), (3, .int .i64 x1)] [] H (Eq.mp (by kernel_rfl) h') (obs_seq obs_region rfl (obs_seq (obs_cond obs_skip obs_exit) rfl (obs_seq (obs_block (obs_seq obs_region rfl (obs_seq obs_region rfl (obs_seq (obs_seq obs_region rfl (obs_block (obs_loop rfl (fun E D H h => by
            refine Safe.loop' (W_crc_nibbles.l6.L K (W_crc_nibbles.l2 K k)) (fun E D H h => ?_) (fun k E D H h => ?_) E D H h
            · obtain ⟨w0, e0, g1⟩ := DG.out h; obtain ⟨pw0, rfl, g2⟩ := DP.out g1; obtain ⟨a2, rfl, g3⟩ := NN.out g2; obtain ⟨w1, e1, g4⟩ := DG.out g3; obtain ⟨x2, rfl, g5⟩ := DI.out g4; obtain ⟨w2, e2, g6⟩ := DG.out g5; obtain ⟨x3, rfl, g7⟩ := DI.out g6; obtain ⟨w3, e3, g8⟩ := DG.out g7; obtain ⟨x4, rfl, g9⟩ := DI.out g8; obtain ⟨w8, e8, g10⟩ := DG.out g9; obtain ⟨x5, rfl, g11⟩ := DI.out g10; obtain ⟨rfl, h'⟩ := DNilD.out g11; exact h'
            · obtain ⟨w0, e0, g1⟩ := DG.out h
              obtain ⟨pw0, rfl, g2⟩ := DP.out g1
              obtain ⟨a2, rfl, g3⟩ := NN.out g2
              obtain ⟨w1, e1, g4⟩ := DG.out g3
              obtain ⟨x2, rfl, g5⟩ := DI.out g4
              obtain ⟨w2, e2, g6⟩ := DG.out g5
              obtain ⟨x3, rfl, g7⟩ := DI.out g6
              obtain ⟨w3, e3, g8⟩ := DG.out g7
              obtain ⟨x4, rfl, g9⟩ := DI.out g8
              obtain ⟨w8, e8, g10⟩ := DG.out g9
              obtain ⟨x5, rfl, g11⟩ := DI.out g10
              obtain ⟨rfl, h'⟩ := DNilD.out g11
              exact (hw_safe (Λ := (W_crc_nibbles.Λ6 K (W_crc_nibbles.l2 K k) (W_crc_nibbles.l6 K (W_crc_nibbles.l2 K k) k))) mixWcrc _ _ [(0, .pointer (some a2)), (1, .int .i64 x2), (2, .int .u32 x3), (3, .int .i64 x4), (8, .int .i64 x5)] [] H (Eq.mp (by kernel_rfl) h') (obs_seq obs_region rfl (obs_seq (obs_cond obs_skip obs_exit) rfl (obs_seq (obs_block obs_region) rfl obs_region)))).weaken (EnvLe.cons e0 (EnvLe.cons e1 (EnvLe.cons e2 (EnvLe.cons e3 (EnvLe.cons e8 (EnvLe.nil _)))))) (Hp.le_refl _))))) rfl obs_region)))) rfl obs_region)))).weaken (EnvLe.cons e0 (EnvLe.cons e3 (EnvLe.nil _))) (Hp.le_refl _))))) rfl (obs_seq obs_region rfl obs_ret))))

end Go.Proofs.YtghajiefpmcpmaaGreatDoor.W

end
section
/-! Wabacistref16 -/
/- Formulas of functions, printed by wip/tools/hwp.py. -/
set_option maxRecDepth 100000
set_option linter.unusedVariables false
namespace Go.Proofs.YtghajiefpmcpmaaGreatDoor.W
open Go Go.Hw

theorem mixWabacistref16 : Tryz.prog.follows .mixedOrders = true := by kernel_rfl
-- abacistref16.OfWords
def W_abacistref16_OfWords (A1 : Option Addr) (n1 : Nat) (m1 : Nat) (H : Hp) (K : Value → Hp → Prop) : Prop :=
  HCalls Tryz.prog 105 #[.slice A1 n1 m1] H fun v1 H1 => DS v1 fun s1 => HCalls Tryz.prog 104 #[.string s1] H1 fun v2 H2 => DI .u32 v2 fun x1 => K (.int .u32 x1) H2
def W_abacistref16_OfWords.Λ (_ : Value → Hp → Prop) : Cuts := Cuts.none (fun _ => none)
theorem W_abacistref16_OfWords.ok (A1 : Option Addr) (n1 : Nat) (m1 : Nat) (H : Hp) (K : Value → Hp → Prop) (h : W_abacistref16_OfWords A1 n1 m1 H K) : HCalls Tryz.prog 20 #[.slice A1 n1 m1] H K :=
  hcalls Tryz.func20 rfl (Nat.le_of_ble_eq_true rfl) (hw_safe (Λ := Cuts.none (fun _ => none)) mixWabacistref16 _ _ _ _ _ (Eq.mp (by kernel_rfl) h) (obs_none _ _ _ _ _))

-- abacistref16.Of
def W_abacistref16_Of.l7 (K : Value → Hp → Prop) (R3 : ByteArray → Int → Int → Hp → Prop) : Nat → ByteArray → Int → Int → Int → Int → Hp → Prop
  | 0, _, _, _, _, _, _ => False
  | k + 1, s3, x4, x5, x6, x7, H =>
    let R7 := W_abacistref16_Of.l7 K R3 k
    BIf (decide (x7 < (8 : Int))) (((2 : Int) ≠ 0 ∧ IntKind.u32 = IntKind.u32 ∧ ((2 : Int) ≠ 0 ∧ IntKind.u32 = IntKind.u32 ∧ ((2 : Int) ≠ 0 ∧ IntKind.u8 = IntKind.u8 ∧ BIf ((Int.tmod (bXor .u32 x4 (IntKind.u32.wrap x6)) (2 : Int)) == (1 : Int)) (R7 s3 (bXor .u32 (IntKind.u32.wrap (Int.tdiv x4 (2 : Int))) (2197175160 : Int)) x5 (IntKind.u8.wrap (Int.tdiv x6 (2 : Int))) (IntKind.i64.wrap (x7 + (1 : Int))) H) (R7 s3 (IntKind.u32.wrap (Int.tdiv x4 (2 : Int))) x5 (IntKind.u8.wrap (Int.tdiv x6 (2 : Int))) (IntKind.i64.wrap (x7 + (1 : Int))) H))))) (R3 s3 x4 (IntKind.i64.wrap (x5 + (1 : Int))) H)
def W_abacistref16_Of.l3 (K : Value → Hp → Prop) : Nat → ByteArray → Int → Int → Hp → Prop
  | 0, _, _, _, _ => False
  | k + 1, s2, x1, x2, H =>
    let R3 := W_abacistref16_Of.l3 K k
    BIf (decide (x2 < ((s2.size : Nat) : Int))) ((0 ≤ x2 ∧ ixB s2 x2.toNat fun x3 => (∃ k, W_abacistref16_Of.l7 K R3 k s2 x1 x2 x3 (0 : Int) H))) (K (.int .u32 (bXor .u32 x1 (4294967295 : Int))) H)
def W_abacistref16_Of (s1 : ByteArray) (H : Hp) (K : Value → Hp → Prop) : Prop :=
  (∃ k, W_abacistref16_Of.l3 K k s1 (4294967295 : Int) (0 : Int) H)
def W_abacistref16_Of.l3.L (K : Value → Hp → Prop) (k : Nat) : Mid := fun E D H =>
  DG (E.get? 0) fun w0 => DS w0 fun s2 => DG (E.get? 3) fun w3 => DI .u32 w3 fun x1 => DG (E.get? 4) fun w4 => DI .i64 w4 fun x2 => DNilD D (W_abacistref16_Of.l3 K k s2 x1 x2 H)
def W_abacistref16_Of.l7.L (K : Value → Hp → Prop) (R3 : ByteArray → Int → Int → Hp → Prop) (k : Nat) : Mid := fun E D H =>
  DG (E.get? 0) fun w0 => DS w0 fun s3 => DG (E.get? 3) fun w3 => DI .u32 w3 fun x4 => DG (E.get? 4) fun w4 => DI .i64 w4 fun x5 => DG (E.get? 5) fun w5 => DI .u8 w5 fun x6 => DG (E.get? 6) fun w6 => DI .i64 w6 fun x7 => DNilD D (W_abacistref16_Of.l7 K R3 k s3 x4 x5 x6 x7 H)
def W_abacistref16_Of.Λ7 (_ : Value → Hp → Prop) (_R3 : ByteArray → Int → Int → Hp → Prop) (_R7 : ByteArray → Int → Int → Int → Int → Hp → Prop) : Cuts := Cuts.none (fun _ => none)
def W_abacistref16_Of.Λ3 (K : Value → Hp → Prop) (R3 : ByteArray → Int → Int → Hp → Prop) : Cuts := ⟨fun i => none, fun i => match Nat.beq i 7 with | true => some (fun E D H => ∃ k, W_abacistref16_Of.l7.L K R3 k E D H) | false => none, (fun _ => none)⟩
def W_abacistref16_Of.Λ (K : Value → Hp → Prop) : Cuts := ⟨fun i => none, fun i => match Nat.beq i 3 with | true => some (fun E D H => ∃ k, W_abacistref16_Of.l3.L K k E D H) | false => none, (fun _ => none)⟩
theorem W_abacistref16_Of.ok (s1 : ByteArray) (H : Hp) (K : Value → Hp → Prop) (h : W_abacistref16_Of s1 H K) : HCalls Tryz.prog 104 #[.string s1] H K :=
  hcalls Tryz.func104 rfl (Nat.le_of_ble_eq_true rfl) (hw_safe (Λ := (W_abacistref16_Of.Λ K)) mixWabacistref16 _ _ _ _ _ (Eq.mp (by kernel_rfl) h) (obs_seq obs_region rfl (obs_seq obs_region rfl (obs_seq (obs_seq obs_region rfl (obs_block (obs_loop rfl (fun E D H h => by
      refine Safe.loop' (W_abacistref16_Of.l3.L K) (fun E D H h => ?_) (fun k E D H h => ?_) E D H h
      · obtain ⟨w0, e0, g1⟩ := DG.out h; obtain ⟨s2, rfl, g2⟩ := DS.out g1; obtain ⟨w3, e3, g3⟩ := DG.out g2; obtain ⟨x1, rfl, g4⟩ := DI.out g3; obtain ⟨w4, e4, g5⟩ := DG.out g4; obtain ⟨x2, rfl, g6⟩ := DI.out g5; obtain ⟨rfl, h'⟩ := DNilD.out g6; exact h'
      · obtain ⟨w0, e0, g1⟩ := DG.out h
        obtain ⟨s2, rfl, g2⟩ := DS.out g1
        obtain ⟨w3, e3, g3⟩ := DG.out g2
        obtain ⟨x1, rfl, g4⟩ := DI.out g3
        obtain ⟨w4, e4, g5⟩ := DG.out g4
        obtain ⟨x2, rfl, g6⟩ := DI.out g5
        obtain ⟨rfl, h'⟩ := DNilD.out g6
        exact (hw_safe (Λ := (W_abacistref16_Of.Λ3 K (W_abacistref16_Of.l3 K k))) mixWabacistref16 _ _ [(0, .string s2), (3, .int .u32 x1), (4, .int .i64 x2)] [] H (Eq.mp (by kernel_rfl) h') (obs_seq (obs_seq obs_region rfl (obs_cond obs_skip obs_exit)) rfl (obs_seq (obs_block (obs_seq obs_region rfl (obs_seq obs_region rfl (obs_block (obs_loop rfl (fun E D H h => by
            refine Safe.loop' (W_abacistref16_Of.l7.L K (W_abacistref16_Of.l3 K k)) (fun E D H h => ?_) (fun k E D H h => ?_) E D H h
            · obtain ⟨w0, e0, g1⟩ := DG.out h; obtain ⟨s3, rfl, g2⟩ := DS.out g1; obtain ⟨w3, e3, g3⟩ := DG.out g2; obtain ⟨x4, rfl, g4⟩ := DI.out g3; obtain ⟨w4, e4, g5⟩ := DG.out g4; obtain ⟨x5, rfl, g6⟩ := DI.out g5; obtain ⟨w5, e5, g7⟩ := DG.out g6; obtain ⟨x6, rfl, g8⟩ := DI.out g7; obtain ⟨w6, e6, g9⟩ := DG.out g8; obtain ⟨x7, rfl, g10⟩ := DI.out g9; obtain ⟨rfl, h'⟩ := DNilD.out g10; exact h'
            · obtain ⟨w0, e0, g1⟩ := DG.out h
              obtain ⟨s3, rfl, g2⟩ := DS.out g1
              obtain ⟨w3, e3, g3⟩ := DG.out g2
              obtain ⟨x4, rfl, g4⟩ := DI.out g3
              obtain ⟨w4, e4, g5⟩ := DG.out g4
              obtain ⟨x5, rfl, g6⟩ := DI.out g5
              obtain ⟨w5, e5, g7⟩ := DG.out g6
              obtain ⟨x6, rfl, g8⟩ := DI.out g7
              obtain ⟨w6, e6, g9⟩ := DG.out g8
              obtain ⟨x7, rfl, g10⟩ := DI.out g9
              obtain ⟨rfl, h'⟩ := DNilD.out g10
              exact (hw_safe (Λ := (W_abacistref16_Of.Λ7 K (W_abacistref16_Of.l3 K k) (W_abacistref16_Of.l7 K (W_abacistref16_Of.l3 K k) k))) mixWabacistref16 _ _ [(0, .string s3), (3, .int .u32 x4), (4, .int .i64 x5), (5, .int .u8 x6), (6, .int .i64 x7)] [] H (Eq.mp (by kernel_rfl) h') (obs_seq (obs_seq obs_region rfl (obs_cond obs_skip obs_exit)) rfl (obs_seq (obs_block (obs_seq obs_region rfl (obs_seq obs_region rfl (obs_seq obs_region rfl (obs_seq obs_region rfl (obs_cond obs_region obs_skip)))))) rfl obs_region))).weaken (EnvLe.cons e0 (EnvLe.cons e3 (EnvLe.cons e4 (EnvLe.cons e5 (EnvLe.cons e6 (EnvLe.nil _)))))) (Hp.le_refl _))))))) rfl obs_region))).weaken (EnvLe.cons e0 (EnvLe.cons e3 (EnvLe.cons e4 (EnvLe.nil _)))) (Hp.le_refl _))))) rfl (obs_seq obs_region rfl obs_ret)))))

end Go.Proofs.YtghajiefpmcpmaaGreatDoor.W

end
section
/-! CrcA -/
/- crc, codec's forms and the document's answers: what they answer. -/
set_option maxRecDepth 100000
set_option linter.unusedSimpArgs false
set_option linter.unusedVariables false
set_option linter.unnecessarySimpa false
set_option linter.unusedSectionVars false
namespace Go.Proofs.YtghajiefpmcpmaaGreatDoor.CrcP
open Go Go.Hw Go.Crc Go.Proofs.YtghajiefpmcpmaaGreatDoor.W

theorem bit1_int (v : W32) : bXor .u32 (shrI .u32 (v.toNat : Int) 1) (IntKind.u32.wrap ((2197175160 : Int) * bAnd .u32 (v.toNat : Int) 1)) = ((bit1 v).toNat : Int) := by
  rw [shr32 v (i := 1) (n := 1) rfl (by omega), show (1 : Int) = ((1#32 : W32).toNat : Int) from rfl, and32]
  have : IntKind.u32.wrap ((2197175160 : Int) * ((v &&& 1#32).toNat : Int)) = ((if v.getLsbD 0 then poly else 0#32).toNat : Int) := by
    have h1 : v &&& 1#32 = if v.getLsbD 0 then 1#32 else 0#32 := by
      apply BitVec.eq_of_getLsbD_eq
      intro i hi
      rw [BitVec.getLsbD_and]
      cases i with
      | zero => cases h : v.getLsbD 0 <;> simp
      | succ i => cases h : v.getLsbD 0 <;> simp
    rw [h1]
    cases v.getLsbD 0 <;> decide
  rw [this, xor32]
  rfl

def tbl (i : Nat) : Value := .int .u32 ((it bit1 4 (BitVec.ofNat 32 i)).toNat : Int)

theorem nib_inner (K : Value → Hp → Prop) (R2 : Addr → Int → Hp → Prop) (b : Nat) (c : Array Value) (e : TypeId) (hc : c.size = 16) (H : Hp) (hb : H b = some (.obj (.cells c e))) (x2 : Nat) (hx : x2 < 16) (x4 : Int) (w : W32)
    (k : R2 ⟨b, 0, none⟩ (IntKind.i64.wrap (x4 + 1)) (H.set b (.obj (.cells (c.setIfInBounds x2 (.int .u32 (w.toNat : Int))) e)))) :
    ∀ (d j : Nat) (v : W32), j + d = 4 → it bit1 d v = w → W_crc_nibbles.l6 K R2 (d + 1) ⟨b, 0, none⟩ x2 (v.toNat : Int) x4 j H
  | 0, j, v, hj, hv => by
    unfold W_crc_nibbles.l6
    refine BIf_dneg (by omega) ?_
    refine ⟨by omega, by omega, ?_⟩
    simp only [Addr.add_lit', Int.toNat_natCast, Nat.mul_one, Nat.zero_add, Nat.add_zero]
    refine St_obj hb (by omega) rfl ?_
    obtain rfl : v = w := hv
    exact k
  | d + 1, j, v, hj, hv => by
    unfold W_crc_nibbles.l6
    refine BIf_dpos (by omega) ?_
    refine ⟨by omega, ?_⟩
    rw [bit1_int, i64w (by omega) (by omega)]
    exact nib_inner K R2 b c e hc H hb x2 hx x4 w k d (j + 1) (bit1 v) (by omega) hv

theorem nib_outer (K : Value → Hp → Prop) (b : Nat) (e : TypeId) (H0 : Hp) (hn : H0 b = none)
    (k : ∀ H, H0.le H → K (.agg ((List.range 16).map tbl).toArray) H) : ∀ (d i : Nat) (H : Hp), i + d = 16 → H = H0.set b (.obj (.cells (filled tbl (.int .u32 0) 16 i) e)) → W_crc_nibbles.l2 K (d + 1) ⟨b, 0, none⟩ (i : Int) H
  | 0, i, H, hi, hH => by
    obtain rfl : i = 16 := by omega
    unfold W_crc_nibbles.l2
    refine BIf_dneg (by omega) ?_
    have hb : H b = some (.obj (.cells (filled tbl (.int .u32 0) 16 16) e)) := by rw [hH]; exact Hp.set_same _ _ _
    refine LdA_obj hb (filled_size _ _ _ _) ?_
    refine StA_obj hb (filled_size _ _ _ _) (by simp [filled_size]) ?_ ?_
    · rw [filled_all]; intro v hv; simp at hv; obtain ⟨a, _, rfl⟩ := hv; rfl
    refine LdA_obj (Hp.set_same _ _ _) (by simp [filled_size]) ?_
    rw [Array.toArray_toList, filled_all]
    refine k _ ?_
    rw [hH, Hp.set_set]
    exact Hp.le_set hn
  | d + 1, i, H, hi, hH => by
    unfold W_crc_nibbles.l2
    refine BIf_dpos (by omega) ?_
    refine ⟨5, ?_⟩
    have hb : H b = some (.obj (.cells (filled tbl (.int .u32 0) 16 i) e)) := by rw [hH]; exact Hp.set_same _ _ _
    rw [show IntKind.u32.wrap (i : Int) = ((BitVec.ofNat 32 i).toNat : Int) by rw [BitVec.toNat_ofNat, Nat.mod_eq_of_lt (by omega)]; exact u32n (by omega)]
    refine nib_inner K _ b _ e (filled_size _ _ _ _) H hb i (by omega) i _ ?_ 4 0 _ rfl rfl
    rw [i64w (by omega) (by omega)]
    refine nib_outer K b e H0 hn k d (i + 1) _ (by omega) ?_
    rw [hH, Hp.set_set]
    congr 3
    exact filled_set tbl (.int .u32 0) (by omega)

theorem nibbles_ok (H : Hp) : HCalls Tryz.prog 312 #[] H (RetE (.agg ((List.range 16).map tbl).toArray) H) := by
  apply HCalls.ret
  apply W_crc_nibbles.ok
  unfold W_crc_nibbles
  intro b hb
  refine ⟨17, ?_⟩
  exact nib_outer _ b _ H hb (fun H' hl => ⟨rfl, hl⟩) 16 0 _ rfl rfl

/-- One step by half bytes. -/
theorem nib_step (v : W32) : (v >>> 4) ^^^ it bit1 4 (v &&& 15#32) = it bit1 4 v := (nibble v).symm

theorem and15 (v : W32) : bAnd .u32 (v.toNat : Int) 15 = ((v &&& 15#32).toNat : Int) := and32 v 15#32
theorem and15_lt (v : W32) : (v &&& 15#32).toNat < 16 := by
  rw [BitVec.toNat_and]
  exact Nat.lt_of_le_of_lt Nat.and_le_right (by decide)

theorem tbl_get (v : W32) : (((List.range 16).map tbl).toArray)[(v &&& 15#32).toNat]? = some (.int .u32 ((it bit1 4 (v &&& 15#32)).toNat : Int)) := by
  have h := and15_lt v
  simp only [List.getElem?_toArray, List.getElem?_map, List.getElem?_range h, Option.map_some]
  unfold tbl
  rw [BitVec.ofNat_toNat, BitVec.setWidth_eq]

theorem More_loop (K : Value → Hp → Prop) (t : Nat) (e : TypeId) (A : Option Addr) (n m : Nat) (bs : List UInt8) (hn : n = bs.length) (hm : n ≤ 9223372036854775807) (H : Hp) (ht : H t = some (.obj (.cells ((List.range 16).map tbl).toArray e))) (hb : Cells H A (byteVals bs)) (w : W32)
    (k : K (.int .u32 ((~~~ w).toNat : Int)) H) : ∀ (d j : Nat) (v : W32), j + d = n → run v (bs.drop j) = w → W_crc_More.l4 K (d + 1) ⟨t, 0, none⟩ (v.toNat : Int) A n m n (j : Int) H
  | 0, j, v, hj, hv => by
    unfold W_crc_More.l4
    refine BIf_dneg (by omega) ?_
    rw [List.drop_eq_nil_of_le (by omega)] at hv
    obtain rfl : v = w := hv
    rw [show IntKind.u32.max = ((BitVec.allOnes 32).toNat : Int) from rfl, xor32, BitVec.allOnes_xor]
    exact k
  | d + 1, j, v, hj, hv => by
    unfold W_crc_More.l4
    refine BIf_dpos (by omega) ?_
    have hlt : j < bs.length := by omega
    refine hb.read (i := j) (v := .int .u8 (bs[j].toNat : Int)) (by rw [byteVals_get, List.getElem?_eq_getElem hlt]; rfl) rfl (by rw [byteVals_length]; omega) ?_
    simp only [DI_int', DB_bool, DS_string, DP_pointer, DSl_slice, DM_map, DA_agg, DTup_tuple, DCons_cons, DNil_nil, NN_some, BIf_true, BIf_false, BIf_same, List.toList_toArray, Bool.not_true, Bool.not_false]
    refine ⟨by omega, ?_⟩
    rw [show (bs[j].toNat : Int) = ((bs[j].toBitVec).toNat : Int) from rfl, low8, xor32, and15]
    refine ⟨by omega, by have := and15_lt (v ^^^ BitVec.setWidth 32 bs[j].toBitVec); omega, ?_⟩
    simp only [Addr.add_lit', Int.toNat_natCast, Nat.mul_one, Nat.zero_add]
    refine Ld_obj ht (tbl_get _) ?_
    simp only [DI_int', DB_bool, DS_string, DP_pointer, DSl_slice, DM_map, DA_agg, DTup_tuple, DCons_cons, DNil_nil, NN_some, BIf_true, BIf_false, BIf_same, List.toList_toArray, Bool.not_true, Bool.not_false]
    refine ⟨by omega, ?_⟩
    rw [shr32 _ (i := 4) (n := 4) rfl (by omega), xor32, nib_step, and15]
    refine ⟨by omega, by have := and15_lt (it bit1 4 (v ^^^ BitVec.setWidth 32 bs[j].toBitVec)); omega, ?_⟩
    simp only [Addr.add_lit', Int.toNat_natCast, Nat.mul_one, Nat.zero_add]
    refine Ld_obj ht (tbl_get _) ?_
    simp only [DI_int', DB_bool, DS_string, DP_pointer, DSl_slice, DM_map, DA_agg, DTup_tuple, DCons_cons, DNil_nil, NN_some, BIf_true, BIf_false, BIf_same, List.toList_toArray, Bool.not_true, Bool.not_false]
    rw [shr32 _ (i := 4) (n := 4) rfl (by omega), xor32, nib_step, i64w (by omega) (by omega)]
    refine More_loop K t e A n m bs hn hm H ht hb w k d (j + 1) _ (by omega) ?_
    rw [List.drop_eq_getElem_cons hlt] at hv
    exact hv

theorem More_ok (s : W32) (A : Option Addr) (n m : Nat) (bs : List UInt8) (hn : n = bs.length) (hm : n ≤ 9223372036854775807) (H : Hp) (hb : Cells H A (byteVals bs)) :
    HCalls Tryz.prog 280 #[.int .u32 (s.toNat : Int), .slice A n m] H (RetE (.int .u32 ((more s bs).toNat : Int)) H) := by
  apply HCalls.ret
  apply W_crc_More.ok
  unfold W_crc_More
  refine HCalls.use (nibbles_ok H) ?_
  try simp only [DI_int', DB_bool, DS_string, DP_pointer, DSl_slice, DM_map, DA_agg, DTup_tuple, DCons_cons, DNil_nil, NN_some, BIf_true, BIf_false, BIf_same, List.toList_toArray, Bool.not_true, Bool.not_false]
  intro b hbn
  refine StA_obj (Hp.set_same _ _ _) rfl (by simp) ?_ ?_
  · intro v hv; simp at hv; obtain ⟨a, _, rfl⟩ := hv; rfl
  rw [Hp.set_set]
  refine ⟨n + 1, ?_⟩
  rw [show IntKind.u32.max = ((BitVec.allOnes 32).toNat : Int) from rfl, xor32, BitVec.allOnes_xor]
  refine More_loop _ b _ A n m bs hn hm _ (Hp.set_same _ _ _) (hb.le (Hp.le_set hbn)) (run (~~~ s) bs) ?_ n 0 _ (by omega) rfl
  exact ⟨rfl, Hp.le_set hbn⟩

theorem Of_ok (A : Option Addr) (n m : Nat) (bs : List UInt8) (hn : n = bs.length) (hm : n ≤ 9223372036854775807) (H : Hp) (hb : Cells H A (byteVals bs)) :
    HCalls Tryz.prog 286 #[.slice A n m] H (RetE (.int .u32 ((sum bs).toNat : Int)) H) := by
  apply W_crc_Of.ok
  unfold W_crc_Of
  refine HCalls.use (More_ok 0#32 A n m bs hn hm H hb) ?_
  try simp only [DI_int', DB_bool, DS_string, DP_pointer, DSl_slice, DM_map, DA_agg, DTup_tuple, DCons_cons, DNil_nil, NN_some, BIf_true, BIf_false, BIf_same, List.toList_toArray, Bool.not_true, Bool.not_false]
  exact RetE.mk _ _

end Go.Proofs.YtghajiefpmcpmaaGreatDoor.CrcP

end
section
/-! CrcB -/
/- The document's sums; the laws CrcTells and CrcJoins' parts. -/
set_option maxRecDepth 100000
set_option linter.unusedSimpArgs false
set_option linter.unusedVariables false
set_option linter.unnecessarySimpa false
set_option linter.unusedSectionVars false

namespace Go.Proofs.YtghajiefpmcpmaaGreatDoor.CrcP
open Go Go.Hw Go.Crc Go.Form Go.Proofs.YtghajiefpmcpmaaGreatDoor.W

theorem low_shr (c : BitVec 8) : (c >>> 1).setWidth 32 = (c.setWidth 32) >>> 1 := by
  apply BitVec.eq_of_getLsbD_eq
  intro i hi
  simp only [BitVec.getLsbD_setWidth, BitVec.getLsbD_ushiftRight]
  by_cases h : 1 + i < 32
  · simp [hi, h]
  · have := BitVec.getLsbD_of_ge c (1 + i) (by omega)
    simp [this]

theorem xor3 (a b c : W32) : (a ^^^ b) ^^^ c = (a ^^^ c) ^^^ b := by rw [BitVec.xor_assoc, BitVec.xor_comm b c, BitVec.xor_assoc]

theorem ref_step (v : W32) (c : BitVec 8) : ((v >>> 1) ^^^ (if (v ^^^ c.setWidth 32).getLsbD 0 then poly else 0#32)) ^^^ (c >>> 1).setWidth 32 = bit1 (v ^^^ c.setWidth 32) := by
  unfold bit1
  rw [BitVec.ushiftRight_xor_distrib, low_shr]
  exact xor3 _ _ _

theorem rOf_inner (K : Value → Hp → Prop) (R3 : ByteArray → Int → Int → Hp → Prop) (s : ByteArray) (x5 : Int) (H : Hp) (w : W32) (k : R3 s (w.toNat : Int) (IntKind.i64.wrap (x5 + 1)) H) : ∀ (d j : Nat) (v : W32) (c : BitVec 8), j + d = 8 → c >>> d = 0#8 → it bit1 d (v ^^^ c.setWidth 32) = w →
      W_abacistref16_Of.l7 K R3 (d + 1) s (v.toNat : Int) x5 (c.toNat : Int) (j : Int) H
  | 0, j, v, c, hj, hc, hv => by
    unfold W_abacistref16_Of.l7
    refine BIf_dneg (by omega) ?_
    have hc' : c = 0#8 := by simpa using hc
    subst hc'
    obtain rfl : v = w := by simpa [it] using hv
    exact k
  | d + 1, j, v, c, hj, hc, hv => by
    unfold W_abacistref16_Of.l7
    refine BIf_dpos (by omega) ?_
    rw [low8, xor32, mod32, div32, div8, i64w (by omega) (by omega)]
    refine ⟨by omega, rfl, by omega, rfl, by omega, rfl, ?_⟩
    have hc' : (c >>> 1) >>> d = 0#8 := by rw [← BitVec.shiftRight_add, Nat.add_comm]; exact hc
    have hs := ref_step v c
    refine BIf_intro (fun h => ?_) (fun h => ?_)
    · rw [h] at hs
      rw [show (2197175160 : Int) = (poly.toNat : Int) from rfl, xor32]
      exact rOf_inner K R3 s x5 H w k d (j + 1) _ _ (by omega) hc' (by rw [show it bit1 (d + 1) (v ^^^ BitVec.setWidth 32 c) = it bit1 d (bit1 (v ^^^ BitVec.setWidth 32 c)) from rfl, ← hs] at hv; simpa using hv)
    · rw [h] at hs
      exact rOf_inner K R3 s x5 H w k d (j + 1) _ _ (by omega) hc' (by rw [show it bit1 (d + 1) (v ^^^ BitVec.setWidth 32 c) = it bit1 d (bit1 (v ^^^ BitVec.setWidth 32 c)) from rfl, ← hs] at hv; simpa using hv)

theorem shr8 (c : BitVec 8) : c >>> 8 = 0#8 := by
  apply BitVec.eq_of_getLsbD_eq
  intro i hi
  rw [BitVec.getLsbD_ushiftRight, BitVec.getLsbD_of_ge c (8 + i) (by omega)]; simp

theorem rOf_outer (K : Value → Hp → Prop) (bs : List UInt8) (hm : bs.length ≤ 9223372036854775807) (H : Hp) (w : W32) (k : K (.int .u32 ((~~~ w).toNat : Int)) H) : ∀ (d j : Nat) (v : W32), j + d = bs.length → run v (bs.drop j) = w →
      W_abacistref16_Of.l3 K (d + 1) ⟨bs.toArray⟩ (v.toNat : Int) (j : Int) H
  | 0, j, v, hj, hv => by
    unfold W_abacistref16_Of.l3
    refine BIf_dneg (by rw [bsize']; omega) ?_
    rw [List.drop_eq_nil_of_le (by omega)] at hv
    obtain rfl : v = w := hv
    rw [show (4294967295 : Int) = ((BitVec.allOnes 32).toNat : Int) from rfl, xor32, BitVec.xor_allOnes]
    exact k
  | d + 1, j, v, hj, hv => by
    unfold W_abacistref16_Of.l3
    have hlt : j < bs.length := by omega
    refine BIf_dpos (by rw [bsize']; omega) ?_
    refine ⟨by omega, ?_⟩
    rw [Int.toNat_natCast]
    have hg : (ByteArray.mk bs.toArray)[j]? = some bs[j] := by
      rw [getElem?_pos (ByteArray.mk bs.toArray) j (by rw [bsize']; exact hlt)]
      congr 1
    unfold ixB
    rw [hg]
    refine ⟨9, ?_⟩
    rw [show ((bs[j].toNat : Nat) : Int) = ((bs[j].toBitVec).toNat : Int) from rfl]
    refine rOf_inner K _ _ _ H (byte v bs[j]) ?_ 8 0 v _ rfl (shr8 _) rfl
    rw [i64w (by omega) (by omega)]
    refine rOf_outer K bs hm H w k d (j + 1) _ (by omega) ?_
    rw [List.drop_eq_getElem_cons hlt] at hv
    exact hv
where bsize' : (ByteArray.mk bs.toArray).size = bs.length := FormP.bsize bs

theorem rOf_ok (bs : List UInt8) (hm : bs.length ≤ 9223372036854775807) (H : Hp) : HCalls Tryz.prog 104 #[.string ⟨bs.toArray⟩] H (RetE (.int .u32 ((sum bs).toNat : Int)) H) := by
  apply W_abacistref16_Of.ok
  refine ⟨bs.length + 1, ?_⟩
  rw [show (4294967295 : Int) = ((~~~ 0#32 : W32).toNat : Int) from rfl]
  refine rOf_outer _ bs hm H (run (~~~ 0#32) bs) ?_ bs.length 0 _ (by omega) rfl
  exact RetE.mk _ _

theorem rOfWords_ok (A : Option Addr) (n m : Nat) (l : List UInt64) (hn : n = l.length) (hm : n ≤ 10000000000) (H : Hp) (hl : Cells H A (wordVals l)) :
    HCalls Tryz.prog 20 #[.slice A n m] H (RetE (.int .u32 ((sum (form l)).toNat : Int)) H) := by
  apply W_abacistref16_OfWords.ok
  unfold W_abacistref16_OfWords
  refine HCalls.use (FormP.rPut_ok A n m l hn hm H hl) ?_
  try simp only [DI_int', DB_bool, DS_string, DP_pointer, DSl_slice, DM_map, DA_agg, DTup_tuple, DCons_cons, DNil_nil, NN_some, BIf_true, BIf_false, BIf_same, List.toList_toArray, Bool.not_true, Bool.not_false]
  refine HCalls.use (rOf_ok (form l) (by rw [form_length]; omega) H) ?_
  try simp only [DI_int', DB_bool, DS_string, DP_pointer, DSl_slice, DM_map, DA_agg, DTup_tuple, DCons_cons, DNil_nil, NN_some, BIf_true, BIf_false, BIf_same, List.toList_toArray, Bool.not_true, Bool.not_false]
  exact RetE.mk _ _

theorem OfWords_ok (A : Option Addr) (n m : Nat) (l : List UInt64) (hn : n = l.length) (hm : n ≤ 10000000000) (H : Hp) (hl : Cells H A (wordVals l)) :
    HCalls Tryz.prog 248 #[.slice A n m] H (RetE (.int .u32 ((sum (form l)).toNat : Int)) H) := by
  apply HCalls.ret
  apply W_crc_OfWords.ok
  unfold W_crc_OfWords
  refine (FormP.Put_ok A n m l hn (by omega) H hl).mono ?_
  rintro v H' ⟨b, hb, rfl, rfl⟩
  simp only [DI_int', DB_bool, DS_string, DP_pointer, DSl_slice, DM_map, DA_agg, DTup_tuple, DCons_cons, DNil_nil, NN_some, BIf_true, BIf_false, BIf_same, List.toList_toArray, Bool.not_true, Bool.not_false]
  have hf : (form l).length = 8 * n := by rw [form_length, hn]
  refine HCalls.use (Of_ok (some ⟨b, 0, none⟩) (8 * n) (8 * n) (form l) hf.symm (by omega) _ (by have := Cells.row (Hp.set_same H b (.row (byteVals (form l)) 5 (8 * n))) 0 (8 * n); rwa [List.drop_zero, List.take_of_length_le (by rw [byteVals_length, hf]; omega)] at this)) ?_
  try simp only [DI_int', DB_bool, DS_string, DP_pointer, DSl_slice, DM_map, DA_agg, DTup_tuple, DCons_cons, DNil_nil, NN_some, BIf_true, BIf_false, BIf_same, List.toList_toArray, Bool.not_true, Bool.not_false]
  exact ⟨rfl, Hp.le_set hb⟩

theorem sum_123 : sum [49, 50, 51, 52, 53, 54, 55, 56, 57] = 3808858755#32 := by decide +kernel

theorem u32_eq (a b : W32) : ((a.toNat : Int) == (b.toNat : Int)) = (a == b) := by
  by_cases h : a = b
  · subst h; simp
  · have : (a.toNat : Int) ≠ b.toNat := fun e => h (BitVec.eq_of_toNat_eq (by omega))
    rw [beq_false_of_ne h, beq_false_of_ne this]

end Go.Proofs.YtghajiefpmcpmaaGreatDoor.CrcP

end
section
/-! RecC -/
/- record: a form's words. -/
set_option maxRecDepth 100000
set_option linter.unusedSimpArgs false
set_option linter.unusedVariables false
set_option linter.unnecessarySimpa false
set_option linter.unusedSectionVars false
namespace Go.Proofs.YtghajiefpmcpmaaGreatDoor.Rec
open Go Go.Hw Go.Form Go.Crc Go.Proofs.YtghajiefpmcpmaaGreatDoor.W

def partV (ps : List (Nat × Nat)) : List Value := ps.flatMap fun (p : Nat × Nat) => [Value.int .u64 (p.1 : Int), Value.int .u64 (p.2 : Int)]
def joinN (w : Nat) : List (Nat × Nat) → Nat
  | [] => w
  | p :: ps => joinN (w ||| (p.1 * 2 ^ p.2 % 2 ^ 64)) ps
theorem joinN_lt : ∀ (ps : List (Nat × Nat)) (w : Nat), w < 2 ^ 64 → joinN w ps < 2 ^ 64
  | [], w, h => h
  | p :: ps, w, h => joinN_lt ps _ (or_lt h (Nat.mod_lt _ (Nat.two_pow_pos 64)))
theorem partV_get : ∀ (ps : List (Nat × Nat)) (j : Nat) (p : Nat × Nat), ps[j]? = some p → (partV ps)[j * 2]? = some (.int .u64 (p.1 : Int)) ∧ (partV ps)[j * 2 + 1]? = some (.int .u64 (p.2 : Int))
  | [], j, p, h => by simp at h
  | q :: ps, 0, p, h => by
    simp at h; subst h; exact ⟨rfl, rfl⟩
  | q :: ps, j + 1, p, h => by
    have := partV_get ps j p (by simpa using h)
    rw [show (j + 1) * 2 = j * 2 + 2 by omega]
    exact this

theorem LdA_two {H : Hp} {g off : Nat} {u v : Value} {K : List Value → Prop} (h1 : H.cell? ⟨g, off, none⟩ = some u) (h2 : H.cell? ⟨g, off + 1, none⟩ = some v) (k : K [u, v]) : LdA H ⟨g, off, none⟩ 2 K := by
  have e0 : (⟨g, off, none⟩ : Addr).add 0 = ⟨g, off, none⟩ := by rw [Addr.add_lit']; rfl
  have e1 : (⟨g, off, none⟩ : Addr).add (0 + 1) = ⟨g, off + 1, none⟩ := by rw [Addr.add_lit']
  unfold LdA Hp.cells? Hp.cells? Hp.cells?
  rw [e0, e1, h1, h2]
  exact k

theorem join_loop {H0 : Hp} {b : Nat} {ps : List (Nat × Nat)} (hc : Cells H0 (some ⟨b, 0, none⟩) (partV ps)) (hp : ∀ p ∈ ps, p.1 < 2 ^ 64 ∧ p.2 ≤ 64) (hl : ps.length ≤ 1000) :
    ∀ (t j : Nat) (w : Nat) (H : Hp), j + t = ps.length → w < 2 ^ 64 → Sep [own H0] H → W_record_join.l3 (Ret (.int .u64 ((joinN w (ps.drop j) : Nat) : Int)) H0) (t + 1) (w : Int) (some ⟨b, 0, none⟩) ps.length ps.length (ps.length : Int) (j : Int) H
  | 0, j, w, H, hj, hw, hs => by
    unfold W_record_join.l3
    rw [List.drop_eq_nil_of_le (by omega)]
    exact BIf_dneg (by omega) (hs.fin 0 rfl _)
  | t + 1, j, w, H, hj, hw, hs => by
    have hlt : j < ps.length := by omega
    have hg := partV_get ps j _ (List.getElem?_eq_getElem hlt)
    obtain ⟨hp1, hp2⟩ := hp _ (List.getElem_mem hlt)
    have hcH := hc.le (hs.ow 0 rfl)
    unfold W_record_join.l3
    refine BIf_dpos (by omega) ⟨by omega, by omega, ?_⟩
    rw [List.drop_eq_getElem_cons hlt]
    generalize ps[j] = p at *
    simp only [NN_some]
    rw [Int.toNat_natCast, Addr.add_lit', Nat.zero_add]
    have g1 : H.cell? ⟨b, j * 2, none⟩ = some (.int .u64 (p.1 : Int)) := by
      obtain ⟨a, ha, hc⟩ := hcH _ _ hg.1
      cases ha
      rw [Addr.add_lit', Nat.zero_add] at hc
      exact hc
    have g2 : H.cell? ⟨b, j * 2 + 1, none⟩ = some (.int .u64 (p.2 : Int)) := by
      obtain ⟨a, ha, hc⟩ := hcH _ _ hg.2
      cases ha
      rw [Addr.add_lit', Nat.zero_add] at hc
      exact hc
    refine LdA_two g1 g2 ?_
    refine hs.nw fun b1 H1 hs => ?_
    refine hs.stw 1 rfl rfl rfl rfl fun H1 hs => ?_
    refine hs.ldf 1 rfl rfl ?_
    simp only [DI_int', DB_bool, DS_string, DP_pointer, DSl_slice, DM_map, DA_agg, DTup_tuple, DCons_cons, DNil_nil, NN_some, BIf_true, BIf_false, BIf_same, List.toList_toArray, Bool.not_true, Bool.not_false]
    refine hs.ldf 1 rfl rfl ?_
    simp only [DI_int', DB_bool, DS_string, DP_pointer, DSl_slice, DM_map, DA_agg, DTup_tuple, DCons_cons, DNil_nil, NN_some, BIf_true, BIf_false, BIf_same, List.toList_toArray, Bool.not_true, Bool.not_false]
    refine ⟨by omega, ?_⟩
    have hm : p.1 * 2 ^ p.2 % 2 ^ 64 < 2 ^ 64 := Nat.mod_lt _ (Nat.two_pow_pos 64)
    rw [shlN (x := p.1) (i := (p.2 : Int)) (n := p.2) rfl hp2, orN hw hm, i64w (x := (j : Int) + 1) (by omega) (by omega), show (j : Int) + 1 = ((j + 1 : Nat) : Int) by omega]
    exact join_loop hc hp hl t (j + 1) _ H1 (by omega) (or_lt hw hm) (hs.re [0] rfl)

theorem join_ok {H : Hp} {b : Nat} (ps : List (Nat × Nat)) (n : Nat) (hn : n = ps.length) (hc : Cells H (some ⟨b, 0, none⟩) (partV ps)) (hp : ∀ p ∈ ps, p.1 < 2 ^ 64 ∧ p.2 ≤ 64) (hl : ps.length ≤ 1000) :
    HCalls Tryz.prog 246 #[.slice (some ⟨b, 0, none⟩) n n] H (RetE (.int .u64 ((joinN 0 ps : Nat) : Int)) H) := HCalls.ret (by
  subst hn
  apply W_record_join.ok
  unfold W_record_join
  exact ⟨ps.length + 1, join_loop hc hp hl ps.length 0 0 H (by omega) (by decide) (Sep.start H)⟩)

def R.p1 (r : R) : List (Nat × Nat) := [(21061, 48), (r.s, 0)]
def R.p2 (r : R) : List (Nat × Nat) := [(r.ld, 32), (r.ps.toNat, 24), (r.kk.toNat, 16), (r.dir.toNat, 8), (r.kd.toNat, 0)]
def R.p3 (r : R) : List (Nat × Nat) := [(r.inp, 32), (r.out, 0)]
def R.w3 (r : R) : List UInt64 := [UInt64.ofNat (joinN 0 r.p1), UInt64.ofNat (joinN 0 r.p2), UInt64.ofNat (joinN 0 r.p3)]
structure R.u32 (r : R) : Prop where
  ld : r.ld < 4294967296
  inp : r.inp < 4294967296
  out : r.out < 4294967296

def parO (ps : List (Nat × Nat)) : AO := .row (partV ps) 340 (2 * ps.length)

theorem jn {L : List As} {H : Hp} (hs : Sep L H) (i : Nat) {b : Nat} {ps : List (Nat × Nat)} (hi : L[i]? = some (pts b (parO ps))) (n : Nat) (hn : n = ps.length) (hp : ∀ p ∈ ps, p.1 < 2 ^ 64 ∧ p.2 ≤ 64) (hl : n ≤ 1000) :
    HCalls Tryz.prog 246 #[.slice (some ⟨b, 0, none⟩) n n] H (RetE (.int .u64 ((joinN 0 ps : Nat) : Int)) H) := by
  refine join_ok ps n hn ?_ hp (by omega)
  have := Cells.row (hs.get i hi) 0 (partV ps).length
  rw [List.drop_zero, List.take_of_length_le (Nat.le_refl _)] at this
  exact this

theorem three_tr (r : R) (hg : r.good) (hu : r.u32) : Tr Tryz.prog 197 #[.agg r.c] [] fun v M => ∃ b, v = .slice (some ⟨b, 0, none⟩) 3 3 ∧ M = [pts b (.row (wordVals r.w3) 60 3)] := fun H hs => by
  obtain ⟨g1, g2, g3, g4, g5, g6⟩ := hg
  obtain ⟨u1, u2, u3⟩ := hu
  have c1 : ∀ p ∈ r.p1, p.1 < 2 ^ 64 ∧ p.2 ≤ 64 := fun p hp => by
    simp only [R.p1, List.mem_cons, List.not_mem_nil, or_false] at hp
    rcases hp with rfl | rfl <;> exact ⟨by simp only []; omega, by simp only []; omega⟩
  have c2 : ∀ p ∈ r.p2, p.1 < 2 ^ 64 ∧ p.2 ≤ 64 := fun p hp => by
    simp only [R.p2, List.mem_cons, List.not_mem_nil, or_false] at hp
    rcases hp with rfl | rfl | rfl | rfl | rfl <;> exact ⟨by simp only []; omega, by simp only []; omega⟩
  have c3 : ∀ p ∈ r.p3, p.1 < 2 ^ 64 ∧ p.2 ≤ 64 := fun p hp => by
    simp only [R.p3, List.mem_cons, List.not_mem_nil, or_false] at hp
    rcases hp with rfl | rfl <;> exact ⟨by simp only []; omega, by simp only []; omega⟩
  apply W_record_three.ok
  unfold W_record_three
  refine hs.nw fun b1 H hs => ?_
  have hs : Sep [pts b1 (recO r)] H := hs
  refine hs.ldf 0 rfl rfl ?_
  simp only [DI_int', DB_bool, DS_string, DP_pointer, DSl_slice, DM_map, DA_agg, DTup_tuple, DCons_cons, DNil_nil, NN_some, BIf_true, BIf_false, BIf_same, List.toList_toArray, Bool.not_true, Bool.not_false]
  refine hs.ldf 0 rfl rfl ?_
  simp only [DI_int', DB_bool, DS_string, DP_pointer, DSl_slice, DM_map, DA_agg, DTup_tuple, DCons_cons, DNil_nil, NN_some, BIf_true, BIf_false, BIf_same, List.toList_toArray, Bool.not_true, Bool.not_false]
  refine hs.ldf 0 rfl rfl ?_
  simp only [DI_int', DB_bool, DS_string, DP_pointer, DSl_slice, DM_map, DA_agg, DTup_tuple, DCons_cons, DNil_nil, NN_some, BIf_true, BIf_false, BIf_same, List.toList_toArray, Bool.not_true, Bool.not_false]
  refine hs.ldf 0 rfl rfl ?_
  simp only [DI_int', DB_bool, DS_string, DP_pointer, DSl_slice, DM_map, DA_agg, DTup_tuple, DCons_cons, DNil_nil, NN_some, BIf_true, BIf_false, BIf_same, List.toList_toArray, Bool.not_true, Bool.not_false]
  refine hs.ldf 0 rfl rfl ?_
  simp only [DI_int', DB_bool, DS_string, DP_pointer, DSl_slice, DM_map, DA_agg, DTup_tuple, DCons_cons, DNil_nil, NN_some, BIf_true, BIf_false, BIf_same, List.toList_toArray, Bool.not_true, Bool.not_false]
  refine hs.ldf 0 rfl rfl ?_
  simp only [DI_int', DB_bool, DS_string, DP_pointer, DSl_slice, DM_map, DA_agg, DTup_tuple, DCons_cons, DNil_nil, NN_some, BIf_true, BIf_false, BIf_same, List.toList_toArray, Bool.not_true, Bool.not_false]
  refine hs.ldf 0 rfl rfl ?_
  simp only [DI_int', DB_bool, DS_string, DP_pointer, DSl_slice, DM_map, DA_agg, DTup_tuple, DCons_cons, DNil_nil, NN_some, BIf_true, BIf_false, BIf_same, List.toList_toArray, Bool.not_true, Bool.not_false]
  refine hs.ldf 0 rfl rfl ?_
  simp only [DI_int', DB_bool, DS_string, DP_pointer, DSl_slice, DM_map, DA_agg, DTup_tuple, DCons_cons, DNil_nil, NN_some, BIf_true, BIf_false, BIf_same, List.toList_toArray, Bool.not_true, Bool.not_false]
  have e1 : IntKind.u64.wrap (r.ld : Int) = (r.ld : Int) := u64n (by omega)
  have e2 : IntKind.u64.wrap r.ps = (r.ps.toNat : Int) := by rw [u64w (by omega) (by omega)]; omega
  have e3 : IntKind.u64.wrap r.kk = (r.kk.toNat : Int) := by rw [u64w (by omega) (by omega)]; omega
  have e4 : IntKind.u64.wrap r.dir = (r.dir.toNat : Int) := by rw [u64w (by omega) (by omega)]; omega
  have e5 : IntKind.u64.wrap r.kd = (r.kd.toNat : Int) := by rw [u64w (by omega) (by omega)]; omega
  have e6 : IntKind.u64.wrap (r.inp : Int) = (r.inp : Int) := u64n (by omega)
  have e7 : IntKind.u64.wrap (r.out : Int) = (r.out : Int) := u64n (by omega)
  rw [e1, e2, e3, e4, e5, e6, e7]
  have done : ∀ {L : List As} {H : Hp}, Sep L H → Nw H (.row [.int .u64 ((joinN 0 r.p1 : Nat) : Int), .int .u64 ((joinN 0 r.p2 : Nat) : Int), .int .u64 ((joinN 0 r.p3 : Nat) : Int)] 60 3) fun b5 H5 => ∃ M, (∃ b, (.slice (some ⟨b5, 0, none⟩) 3 3 : Value) = .slice (some ⟨b, 0, none⟩) 3 3 ∧ M = [pts b (.row (wordVals r.w3) 60 3)]) ∧ Sep M H5 := fun {L H} hs => by
    refine hs.nw fun b5 H5 hs => ⟨_, ⟨b5, rfl, rfl⟩, ?_⟩
    have hw : wordVals r.w3 = [.int .u64 ((joinN 0 r.p1 : Nat) : Int), .int .u64 ((joinN 0 r.p2 : Nat) : Int), .int .u64 ((joinN 0 r.p3 : Nat) : Int)] := by
      show [Value.int .u64 ((UInt64.ofNat (joinN 0 r.p1)).toNat : Int), Value.int .u64 ((UInt64.ofNat (joinN 0 r.p2)).toNat : Int), Value.int .u64 ((UInt64.ofNat (joinN 0 r.p3)).toNat : Int)] = _
      rw [UInt64.toNat_ofNat_of_lt' (joinN_lt r.p1 0 (by decide)), UInt64.toNat_ofNat_of_lt' (joinN_lt r.p2 0 (by decide)), UInt64.toNat_ofNat_of_lt' (joinN_lt r.p3 0 (by decide))]
    rw [hw]
    have hg := hs.get L.length (b := b5) (o := .row [.int .u64 ((joinN 0 r.p1 : Nat) : Int), .int .u64 ((joinN 0 r.p2 : Nat) : Int), .int .u64 ((joinN 0 r.p3 : Nat) : Int)] 60 3) (by simp)
    exact ⟨H5, fun _ => none, Hp.le_refl _, fun b o h => (by cases h), fun b => .inr rfl, hg, trivial⟩
  have n1 : ∀ {L : List As} {H : Hp} {K : Nat → Hp → Prop}, Sep L H → (∀ b H', Sep (L ++ [pts b (parO r.p1)]) H' → K b H') → Nw H (.row [.int .u64 21061, .int .u64 48, .int .u64 (r.s : Int), .int .u64 0] 340 4) K := fun hs k => hs.nw k
  have n2 : ∀ {L : List As} {H : Hp} {K : Nat → Hp → Prop}, Sep L H → (∀ b H', Sep (L ++ [pts b (parO r.p2)]) H' → K b H') → Nw H (.row [.int .u64 (r.ld : Int), .int .u64 32, .int .u64 (r.ps.toNat : Int), .int .u64 24, .int .u64 (r.kk.toNat : Int), .int .u64 16, .int .u64 (r.dir.toNat : Int), .int .u64 8, .int .u64 (r.kd.toNat : Int), .int .u64 0] 340 10) K := fun hs k => hs.nw k
  have n3 : ∀ {L : List As} {H : Hp} {K : Nat → Hp → Prop}, Sep L H → (∀ b H', Sep (L ++ [pts b (parO r.p3)]) H' → K b H') → Nw H (.row [.int .u64 (r.inp : Int), .int .u64 32, .int .u64 (r.out : Int), .int .u64 0] 340 4) K := fun hs k => hs.nw k
  refine ⟨n1 hs fun b2 H hs => ?_, n2 hs fun b2 H hs => ?_, n3 hs fun b2 H hs => ?_⟩
  · refine QCall.use (jn hs 1 rfl 2 rfl c1 (by decide)) ?_
    simp only [DI_int', DB_bool, DS_string, DP_pointer, DSl_slice, DM_map, DA_agg, DTup_tuple, DCons_cons, DNil_nil, NN_some, BIf_true, BIf_false, BIf_same, List.toList_toArray, Bool.not_true, Bool.not_false]
    refine ⟨n2 hs fun b3 H hs => ?_, n3 hs fun b3 H hs => n2 hs fun b4 H hs => ?_⟩
    · refine QCall.use (jn hs 2 rfl 5 rfl c2 (by decide)) ?_
      simp only [DI_int', DB_bool, DS_string, DP_pointer, DSl_slice, DM_map, DA_agg, DTup_tuple, DCons_cons, DNil_nil, NN_some, BIf_true, BIf_false, BIf_same, List.toList_toArray, Bool.not_true, Bool.not_false]
      refine n3 hs fun b4 H hs => ?_
      refine QCall.use (jn hs 3 rfl 2 rfl c3 (by decide)) ?_
      simp only [DI_int', DB_bool, DS_string, DP_pointer, DSl_slice, DM_map, DA_agg, DTup_tuple, DCons_cons, DNil_nil, NN_some, BIf_true, BIf_false, BIf_same, List.toList_toArray, Bool.not_true, Bool.not_false]
      exact done hs
    · refine QCall.use (jn hs 3 rfl 5 rfl c2 (by decide)) ?_
      simp only [DI_int', DB_bool, DS_string, DP_pointer, DSl_slice, DM_map, DA_agg, DTup_tuple, DCons_cons, DNil_nil, NN_some, BIf_true, BIf_false, BIf_same, List.toList_toArray, Bool.not_true, Bool.not_false]
      refine QCall.use (jn hs 2 rfl 2 rfl c3 (by decide)) ?_
      simp only [DI_int', DB_bool, DS_string, DP_pointer, DSl_slice, DM_map, DA_agg, DTup_tuple, DCons_cons, DNil_nil, NN_some, BIf_true, BIf_false, BIf_same, List.toList_toArray, Bool.not_true, Bool.not_false]
      exact done hs
  · refine ⟨n1 hs fun b3 H hs => ?_, n3 hs fun b3 H hs => n1 hs fun b4 H hs => ?_⟩
    · refine QCall.use (jn hs 2 rfl 2 rfl c1 (by decide)) ?_
      simp only [DI_int', DB_bool, DS_string, DP_pointer, DSl_slice, DM_map, DA_agg, DTup_tuple, DCons_cons, DNil_nil, NN_some, BIf_true, BIf_false, BIf_same, List.toList_toArray, Bool.not_true, Bool.not_false]
      refine QCall.use (jn hs 1 rfl 5 rfl c2 (by decide)) ?_
      simp only [DI_int', DB_bool, DS_string, DP_pointer, DSl_slice, DM_map, DA_agg, DTup_tuple, DCons_cons, DNil_nil, NN_some, BIf_true, BIf_false, BIf_same, List.toList_toArray, Bool.not_true, Bool.not_false]
      refine n3 hs fun b4 H hs => ?_
      refine QCall.use (jn hs 3 rfl 2 rfl c3 (by decide)) ?_
      simp only [DI_int', DB_bool, DS_string, DP_pointer, DSl_slice, DM_map, DA_agg, DTup_tuple, DCons_cons, DNil_nil, NN_some, BIf_true, BIf_false, BIf_same, List.toList_toArray, Bool.not_true, Bool.not_false]
      exact done hs
    · refine QCall.use (jn hs 3 rfl 2 rfl c1 (by decide)) ?_
      simp only [DI_int', DB_bool, DS_string, DP_pointer, DSl_slice, DM_map, DA_agg, DTup_tuple, DCons_cons, DNil_nil, NN_some, BIf_true, BIf_false, BIf_same, List.toList_toArray, Bool.not_true, Bool.not_false]
      refine QCall.use (jn hs 1 rfl 5 rfl c2 (by decide)) ?_
      simp only [DI_int', DB_bool, DS_string, DP_pointer, DSl_slice, DM_map, DA_agg, DTup_tuple, DCons_cons, DNil_nil, NN_some, BIf_true, BIf_false, BIf_same, List.toList_toArray, Bool.not_true, Bool.not_false]
      refine QCall.use (jn hs 2 rfl 2 rfl c3 (by decide)) ?_
      simp only [DI_int', DB_bool, DS_string, DP_pointer, DSl_slice, DM_map, DA_agg, DTup_tuple, DCons_cons, DNil_nil, NN_some, BIf_true, BIf_false, BIf_same, List.toList_toArray, Bool.not_true, Bool.not_false]
      exact done hs
  · refine ⟨n1 hs fun b3 H hs => ?_, n2 hs fun b3 H hs => n1 hs fun b4 H hs => ?_⟩
    · refine QCall.use (jn hs 2 rfl 2 rfl c1 (by decide)) ?_
      simp only [DI_int', DB_bool, DS_string, DP_pointer, DSl_slice, DM_map, DA_agg, DTup_tuple, DCons_cons, DNil_nil, NN_some, BIf_true, BIf_false, BIf_same, List.toList_toArray, Bool.not_true, Bool.not_false]
      refine n2 hs fun b4 H hs => ?_
      refine QCall.use (jn hs 3 rfl 5 rfl c2 (by decide)) ?_
      simp only [DI_int', DB_bool, DS_string, DP_pointer, DSl_slice, DM_map, DA_agg, DTup_tuple, DCons_cons, DNil_nil, NN_some, BIf_true, BIf_false, BIf_same, List.toList_toArray, Bool.not_true, Bool.not_false]
      refine QCall.use (jn hs 1 rfl 2 rfl c3 (by decide)) ?_
      simp only [DI_int', DB_bool, DS_string, DP_pointer, DSl_slice, DM_map, DA_agg, DTup_tuple, DCons_cons, DNil_nil, NN_some, BIf_true, BIf_false, BIf_same, List.toList_toArray, Bool.not_true, Bool.not_false]
      exact done hs
    · refine QCall.use (jn hs 3 rfl 2 rfl c1 (by decide)) ?_
      simp only [DI_int', DB_bool, DS_string, DP_pointer, DSl_slice, DM_map, DA_agg, DTup_tuple, DCons_cons, DNil_nil, NN_some, BIf_true, BIf_false, BIf_same, List.toList_toArray, Bool.not_true, Bool.not_false]
      refine QCall.use (jn hs 2 rfl 5 rfl c2 (by decide)) ?_
      simp only [DI_int', DB_bool, DS_string, DP_pointer, DSl_slice, DM_map, DA_agg, DTup_tuple, DCons_cons, DNil_nil, NN_some, BIf_true, BIf_false, BIf_same, List.toList_toArray, Bool.not_true, Bool.not_false]
      refine QCall.use (jn hs 1 rfl 2 rfl c3 (by decide)) ?_
      simp only [DI_int', DB_bool, DS_string, DP_pointer, DSl_slice, DM_map, DA_agg, DTup_tuple, DCons_cons, DNil_nil, NN_some, BIf_true, BIf_false, BIf_same, List.toList_toArray, Bool.not_true, Bool.not_false]
      exact done hs

end Go.Proofs.YtghajiefpmcpmaaGreatDoor.Rec

end
