/- Formulas of functions, printed by wip/tools/hwp.py. -/
import Derived.Test.YtbnhfcdagoigkaaHwE
import Derived.Test.YtbnhfcdagoigkaaProg
set_option maxRecDepth 100000
set_option linter.unusedVariables false
namespace Go.Proofs.Ytbnhfcdagoigkaa.W
open Go Go.Hw

theorem mix : Try.prog.follows .mixedOrders = true := by kernel_rfl
-- layout.Sector
def W_layout_Sector (x1 : Int) (x2 : Int) (x3 : Int) (x4 : Int) (x5 : Int) (H : Hp) (K : Value → Hp → Prop) : Prop :=
  Nw H (.obj (.cells #[.int .i64 x1, .int .i64 x2, .int .i64 x3] 97)) fun b1 H1 => BIf (decide (x4 < (1 : Int))) (K (.tuple #[.int .i64 (0 : Int), .int .i64 (0 : Int), .int .i64 (2 : Int)]) H1) (BIf (decide (x5 < (0 : Int))) (K (.tuple #[.int .i64 (0 : Int), .int .i64 (0 : Int), .int .i64 (2 : Int)]) H1) (Ld H1 ((⟨b1, 0, none⟩ : Addr).add 2) fun v1 => DI .i64 v1 fun x6 => BIf (decide (x5 ≥ x6)) (K (.tuple #[.int .i64 (0 : Int), .int .i64 (0 : Int), .int .i64 (2 : Int)]) H1) ((x4 ≠ 0 ∧ IntKind.i64 = IntKind.i64 ∧ Ld H1 ((⟨b1, 0, none⟩ : Addr).add 1) fun v2 => DI .i64 v2 fun x7 => BIf (decide ((IntKind.i64.wrap (Int.tdiv x5 x4)) ≥ x7)) (K (.tuple #[.int .i64 (0 : Int), .int .i64 (0 : Int), .int .i64 (2 : Int)]) H1) (Ld H1 ((⟨b1, 0, none⟩ : Addr).add 0) fun v3 => DI .i64 v3 fun x8 => (x4 ≠ 0 ∧ IntKind.i64 = IntKind.i64 ∧ (x4 ≠ 0 ∧ IntKind.i64 = IntKind.i64 ∧ K (.tuple #[.int .i64 (IntKind.i64.wrap (x8 + (IntKind.i64.wrap (Int.tdiv x5 x4)))), .int .i64 (Int.tmod x5 x4), .int .i64 (0 : Int)]) H1)))))))
def W_layout_Sector.Λ (_ : Value → Hp → Prop) : Cuts := Cuts.none (fun _ => none)
theorem W_layout_Sector.ok (x1 : Int) (x2 : Int) (x3 : Int) (x4 : Int) (x5 : Int) (H : Hp) (K : Value → Hp → Prop) (h : W_layout_Sector x1 x2 x3 x4 x5 H K) : HCalls Try.prog 72 #[.agg #[.int .i64 x1, .int .i64 x2, .int .i64 x3], .int .i64 x4, .int .i64 x5] H K :=
  hcalls Try.func72 rfl (Nat.le_of_ble_eq_true rfl) (hw_safe (Λ := Cuts.none (fun _ => none)) mix _ _ _ _ _ (Eq.mp (by kernel_rfl) h) (obs_none _ _ _ _ _))

-- layout.Of
def W_layout_Of (x1 : Int) (x2 : Int) (x3 : Int) (H : Hp) (K : Value → Hp → Prop) : Prop :=
  Nw H (.obj (.cells #[.int .i64 (0 : Int), .int .i64 (0 : Int), .int .i64 (0 : Int), .int .i64 (0 : Int), .int .i64 (0 : Int), .int .i64 (0 : Int), .int .i64 (0 : Int), .int .i64 (0 : Int), .int .i64 (0 : Int), .int .i64 (0 : Int), .int .i64 (0 : Int), .int .i64 (0 : Int), .int .i64 (0 : Int), .int .i64 (0 : Int), .int .i64 (0 : Int), .int .i64 (0 : Int), .int .i64 (0 : Int)] 149)) fun b1 H1 => HCalls Try.prog 80 #[.int .i64 x1, .int .i64 x3] H1 fun v1 H2 => DTup v1 fun l1 => DCons l1 fun v2 l2 => DI .i64 v2 fun x4 => DCons l2 fun v3 l3 => DI .i64 v3 fun x5 => DNil l3 (BIf (x5 != (0 : Int)) (StA H2 (⟨b1, 0, none⟩ : Addr) #[.int .i64 (0 : Int), .int .i64 (0 : Int), .int .i64 (0 : Int), .int .i64 (0 : Int), .int .i64 (0 : Int), .int .i64 (0 : Int), .int .i64 (0 : Int), .int .i64 (0 : Int), .int .i64 (0 : Int), .int .i64 (0 : Int), .int .i64 (0 : Int), .int .i64 (0 : Int), .int .i64 (0 : Int), .int .i64 (0 : Int), .int .i64 (0 : Int), .int .i64 (0 : Int), .int .i64 (0 : Int)] 17 fun H3 => LdA H3 (⟨b1, 0, none⟩ : Addr) 17 fun l4 => K (.tuple #[.agg l4.toArray, .int .i64 x5]) H3) (BIf (decide (x2 < x4)) (StA H2 (⟨b1, 0, none⟩ : Addr) #[.int .i64 (0 : Int), .int .i64 (0 : Int), .int .i64 (0 : Int), .int .i64 (0 : Int), .int .i64 (0 : Int), .int .i64 (0 : Int), .int .i64 (0 : Int), .int .i64 (0 : Int), .int .i64 (0 : Int), .int .i64 (0 : Int), .int .i64 (0 : Int), .int .i64 (0 : Int), .int .i64 (0 : Int), .int .i64 (0 : Int), .int .i64 (0 : Int), .int .i64 (0 : Int), .int .i64 (0 : Int)] 17 fun H4 => LdA H4 (⟨b1, 0, none⟩ : Addr) 17 fun l5 => K (.tuple #[.agg l5.toArray, .int .i64 (7 : Int)]) H4) (HCalls Try.prog 88 #[.int .i64 x3] H2 fun v4 H5 => DI .i64 v4 fun x6 => HCalls Try.prog 87 #[.int .i64 x1, .int .i64 x6] H5 fun v5 H6 => DA v5 fun y1 => StA H6 (⟨b1, 0, none⟩ : Addr) y1 17 fun H7 => LdA H7 (⟨b1, 0, none⟩ : Addr) 17 fun l6 => K (.tuple #[.agg l6.toArray, .int .i64 (0 : Int)]) H7)))
def W_layout_Of.Λ (_ : Value → Hp → Prop) : Cuts := Cuts.none (fun _ => none)
theorem W_layout_Of.ok (x1 : Int) (x2 : Int) (x3 : Int) (H : Hp) (K : Value → Hp → Prop) (h : W_layout_Of x1 x2 x3 H K) : HCalls Try.prog 76 #[.int .i64 x1, .int .i64 x2, .int .i64 x3] H K :=
  hcalls Try.func76 rfl (Nat.le_of_ble_eq_true rfl) (hw_safe (Λ := Cuts.none (fun _ => none)) mix _ _ _ _ _ (Eq.mp (by kernel_rfl) h) (obs_none _ _ _ _ _))

-- layout.Need
def W_layout_Need (x1 : Int) (x2 : Int) (H : Hp) (K : Value → Hp → Prop) : Prop :=
  HCalls Try.prog 88 #[.int .i64 x2] H fun v1 H1 => DI .i64 v1 fun x3 => HCalls Try.prog 91 #[.int .i64 x1, .int .i64 x3] H1 fun v2 H2 => DB v2 fun c1 => BIf (!c1) (K (.tuple #[.int .i64 (0 : Int), .int .i64 (1 : Int)]) H2) (HCalls Try.prog 88 #[.int .i64 x2] H2 fun v3 H3 => DI .i64 v3 fun x4 => HCalls Try.prog 92 #[.int .i64 x1, .int .i64 x4] H3 fun v4 H4 => DI .i64 v4 fun x5 => K (.tuple #[.int .i64 x5, .int .i64 (0 : Int)]) H4)
def W_layout_Need.Λ (_ : Value → Hp → Prop) : Cuts := Cuts.none (fun _ => none)
theorem W_layout_Need.ok (x1 : Int) (x2 : Int) (H : Hp) (K : Value → Hp → Prop) (h : W_layout_Need x1 x2 H K) : HCalls Try.prog 80 #[.int .i64 x1, .int .i64 x2] H K :=
  hcalls Try.func80 rfl (Nat.le_of_ble_eq_true rfl) (hw_safe (Λ := Cuts.none (fun _ => none)) mix _ _ _ _ _ (Eq.mp (by kernel_rfl) h) (obs_none _ _ _ _ _))

-- layout.lay
def W_layout_lay.l4 (K : Value → Hp → Prop) : Nat → Int → Addr → Addr → Int → Int → Int → Hp → Prop
  | 0, _, _, _, _, _, _, _ => False
  | k + 1, x4, a1, a2, x5, x6, x7, H =>
    let R4 := W_layout_lay.l4 K k
    BIf (decide (x7 < (4 : Int))) ((0 ≤ (IntKind.u64.wrap x4) ∧ ixI x7 4 (StA H ((a2.add 5).add (x7.toNat * 3)) #[.int .i64 x5, .int .i64 x6, .int .i64 (shlI .i64 (1 : Int) (IntKind.u64.wrap x4))] 3 fun H5 => R4 x4 a1 a2 (IntKind.i64.wrap (x5 + x6)) x6 (IntKind.i64.wrap (x7 + (1 : Int))) H5))) (LdA H a2 17 fun l1 => StA H a1 l1.toArray 17 fun H6 => LdA H6 a1 17 fun l2 => K (.agg l2.toArray) H6)
def W_layout_lay (x1 : Int) (x2 : Int) (H : Hp) (K : Value → Hp → Prop) : Prop :=
  Nw H (.obj (.cells #[.int .i64 (0 : Int), .int .i64 (0 : Int), .int .i64 (0 : Int), .int .i64 (0 : Int), .int .i64 (0 : Int), .int .i64 (0 : Int), .int .i64 (0 : Int), .int .i64 (0 : Int), .int .i64 (0 : Int), .int .i64 (0 : Int), .int .i64 (0 : Int), .int .i64 (0 : Int), .int .i64 (0 : Int), .int .i64 (0 : Int), .int .i64 (0 : Int), .int .i64 (0 : Int), .int .i64 (0 : Int)] 149)) fun b1 H1 => Nw H1 (.obj (.cells #[.int .i64 (0 : Int), .int .i64 (0 : Int), .int .i64 (0 : Int), .int .i64 (0 : Int), .int .i64 (0 : Int), .int .i64 (0 : Int), .int .i64 (0 : Int), .int .i64 (0 : Int), .int .i64 (0 : Int), .int .i64 (0 : Int), .int .i64 (0 : Int), .int .i64 (0 : Int), .int .i64 (0 : Int), .int .i64 (0 : Int), .int .i64 (0 : Int), .int .i64 (0 : Int), .int .i64 (0 : Int)] 149)) fun b2 H2 => StA H2 (⟨b2, 0, none⟩ : Addr) #[.int .i64 x1, .int .i64 x2, .int .i64 (1 : Int), .int .i64 (8 : Int), .int .i64 (IntKind.i64.wrap ((8 : Int) * x2)), .int .i64 (0 : Int), .int .i64 (0 : Int), .int .i64 (0 : Int), .int .i64 (0 : Int), .int .i64 (0 : Int), .int .i64 (0 : Int), .int .i64 (0 : Int), .int .i64 (0 : Int), .int .i64 (0 : Int), .int .i64 (0 : Int), .int .i64 (0 : Int), .int .i64 (0 : Int)] 17 fun H3 => HCalls Try.prog 103 #[.int .i64 x1, .int .i64 x2] H3 fun v1 H4 => DI .i64 v1 fun x3 => (∃ k, W_layout_lay.l4 K k x1 (⟨b1, 0, none⟩ : Addr) (⟨b2, 0, none⟩ : Addr) (9 : Int) x3 (0 : Int) H4)
def W_layout_lay.l4.L (K : Value → Hp → Prop) (k : Nat) : Mid := fun E D H =>
  DG (E.get? 0) fun w0 => DI .i64 w0 fun x4 => DG (E.get? 4) fun w4 => DP w4 fun pw4 => NN pw4 fun a1 => DG (E.get? 5) fun w5 => DP w5 fun pw5 => NN pw5 fun a2 => DG (E.get? 6) fun w6 => DI .i64 w6 fun x5 => DG (E.get? 7) fun w7 => DI .i64 w7 fun x6 => DG (E.get? 18) fun w18 => DI .i64 w18 fun x7 => DNilD D (W_layout_lay.l4 K k x4 a1 a2 x5 x6 x7 H)
def W_layout_lay.Λ4 (_ : Value → Hp → Prop) (_R4 : Int → Addr → Addr → Int → Int → Int → Hp → Prop) : Cuts := Cuts.none (fun _ => none)
def W_layout_lay.Λ (K : Value → Hp → Prop) : Cuts := ⟨fun i => none, fun i => match Nat.beq i 4 with | true => some (fun E D H => ∃ k, W_layout_lay.l4.L K k E D H) | false => none, (fun _ => none)⟩
theorem W_layout_lay.ok (x1 : Int) (x2 : Int) (H : Hp) (K : Value → Hp → Prop) (h : W_layout_lay x1 x2 H K) : HCalls Try.prog 87 #[.int .i64 x1, .int .i64 x2] H K :=
  hcalls Try.func87 rfl (Nat.le_of_ble_eq_true rfl) (hw_safe (Λ := (W_layout_lay.Λ K)) mix _ _ _ _ _ (Eq.mp (by kernel_rfl) h) (obs_seq obs_region rfl (obs_seq obs_region rfl (obs_seq obs_region rfl (obs_seq (obs_seq obs_region rfl (obs_block (obs_loop rfl (fun E D H h => by
      refine Safe.loop' (W_layout_lay.l4.L K) (fun E D H h => ?_) (fun k E D H h => ?_) E D H h
      · obtain ⟨w0, e0, g1⟩ := DG.out h; obtain ⟨x4, rfl, g2⟩ := DI.out g1; obtain ⟨w4, e4, g3⟩ := DG.out g2; obtain ⟨pw4, rfl, g4⟩ := DP.out g3; obtain ⟨a1, rfl, g5⟩ := NN.out g4; obtain ⟨w5, e5, g6⟩ := DG.out g5; obtain ⟨pw5, rfl, g7⟩ := DP.out g6; obtain ⟨a2, rfl, g8⟩ := NN.out g7; obtain ⟨w6, e6, g9⟩ := DG.out g8; obtain ⟨x5, rfl, g10⟩ := DI.out g9; obtain ⟨w7, e7, g11⟩ := DG.out g10; obtain ⟨x6, rfl, g12⟩ := DI.out g11; obtain ⟨w18, e18, g13⟩ := DG.out g12; obtain ⟨x7, rfl, g14⟩ := DI.out g13; obtain ⟨rfl, h'⟩ := DNilD.out g14; exact h'
      · obtain ⟨w0, e0, g1⟩ := DG.out h
        obtain ⟨x4, rfl, g2⟩ := DI.out g1
        obtain ⟨w4, e4, g3⟩ := DG.out g2
        obtain ⟨pw4, rfl, g4⟩ := DP.out g3
        obtain ⟨a1, rfl, g5⟩ := NN.out g4
        obtain ⟨w5, e5, g6⟩ := DG.out g5
        obtain ⟨pw5, rfl, g7⟩ := DP.out g6
        obtain ⟨a2, rfl, g8⟩ := NN.out g7
        obtain ⟨w6, e6, g9⟩ := DG.out g8
        obtain ⟨x5, rfl, g10⟩ := DI.out g9
        obtain ⟨w7, e7, g11⟩ := DG.out g10
        obtain ⟨x6, rfl, g12⟩ := DI.out g11
        obtain ⟨w18, e18, g13⟩ := DG.out g12
        obtain ⟨x7, rfl, g14⟩ := DI.out g13
        obtain ⟨rfl, h'⟩ := DNilD.out g14
        exact (hw_safe (Λ := (W_layout_lay.Λ4 K (W_layout_lay.l4 K k))) mix _ _ [(0, .int .i64 x4), (4, .pointer (some a1)), (5, .pointer (some a2)), (6, .int .i64 x5), (7, .int .i64 x6), (18, .int .i64 x7)] [] H (Eq.mp (by kernel_rfl) h') (obs_seq obs_region rfl (obs_seq (obs_cond obs_skip obs_exit) rfl (obs_seq (obs_block (obs_seq obs_region rfl (obs_seq obs_region rfl obs_region))) rfl obs_region)))).weaken (EnvLe.cons e0 (EnvLe.cons e4 (EnvLe.cons e5 (EnvLe.cons e6 (EnvLe.cons e7 (EnvLe.cons e18 (EnvLe.nil _))))))) (Hp.le_refl _))))) rfl (obs_seq obs_region rfl obs_ret))))))

-- layout.per
def W_layout_per (x1 : Int) (H : Hp) (K : Value → Hp → Prop) : Prop :=
  BIf (decide (x1 < (32 : Int))) (K (.int .i64 (0 : Int)) H) (BIf (decide (x1 > (4096 : Int))) (K (.int .i64 (0 : Int)) H) (BIf ((bAnd .i64 x1 (IntKind.i64.wrap (x1 - (1 : Int)))) != (0 : Int)) (K (.int .i64 (0 : Int)) H) (((8 : Int) ≠ 0 ∧ IntKind.i64 = IntKind.i64 ∧ K (.int .i64 (IntKind.i64.wrap (Int.tdiv x1 (8 : Int)))) H))))
def W_layout_per.Λ (_ : Value → Hp → Prop) : Cuts := Cuts.none (fun _ => none)
theorem W_layout_per.ok (x1 : Int) (H : Hp) (K : Value → Hp → Prop) (h : W_layout_per x1 H K) : HCalls Try.prog 88 #[.int .i64 x1] H K :=
  hcalls Try.func88 rfl (Nat.le_of_ble_eq_true rfl) (hw_safe (Λ := Cuts.none (fun _ => none)) mix _ _ _ _ _ (Eq.mp (by kernel_rfl) h) (obs_none _ _ _ _ _))

-- layout.good
def W_layout_good (x1 : Int) (x2 : Int) (H : Hp) (K : Value → Hp → Prop) : Prop :=
  BIf (decide (x1 ≥ (0 : Int))) (BIf (decide (x1 ≤ (32 : Int))) (K (.bool (decide (x2 > (0 : Int)))) H) (K (.bool false) H)) (K (.bool false) H)
def W_layout_good.Λ (_ : Value → Hp → Prop) : Cuts := Cuts.none (fun _ => none)
theorem W_layout_good.ok (x1 : Int) (x2 : Int) (H : Hp) (K : Value → Hp → Prop) (h : W_layout_good x1 x2 H K) : HCalls Try.prog 91 #[.int .i64 x1, .int .i64 x2] H K :=
  hcalls Try.func91 rfl (Nat.le_of_ble_eq_true rfl) (hw_safe (Λ := Cuts.none (fun _ => none)) mix _ _ _ _ _ (Eq.mp (by kernel_rfl) h) (obs_none _ _ _ _ _))

-- layout.need
def W_layout_need (x1 : Int) (x2 : Int) (H : Hp) (K : Value → Hp → Prop) : Prop :=
  HCalls Try.prog 103 #[.int .i64 x1, .int .i64 x2] H fun v1 H1 => DI .i64 v1 fun x3 => K (.int .i64 (IntKind.i64.wrap ((9 : Int) + (IntKind.i64.wrap ((4 : Int) * x3))))) H1
def W_layout_need.Λ (_ : Value → Hp → Prop) : Cuts := Cuts.none (fun _ => none)
theorem W_layout_need.ok (x1 : Int) (x2 : Int) (H : Hp) (K : Value → Hp → Prop) (h : W_layout_need x1 x2 H K) : HCalls Try.prog 92 #[.int .i64 x1, .int .i64 x2] H K :=
  hcalls Try.func92 rfl (Nat.le_of_ble_eq_true rfl) (hw_safe (Λ := Cuts.none (fun _ => none)) mix _ _ _ _ _ (Eq.mp (by kernel_rfl) h) (obs_none _ _ _ _ _))

-- layout.room
def W_layout_room (x1 : Int) (x2 : Int) (H : Hp) (K : Value → Hp → Prop) : Prop :=
  (0 ≤ (IntKind.u64.wrap x1) ∧ (x2 ≠ 0 ∧ IntKind.i64 = IntKind.i64 ∧ K (.int .i64 (IntKind.i64.wrap ((IntKind.i64.wrap (Int.tdiv (IntKind.i64.wrap ((shlI .i64 (1 : Int) (IntKind.u64.wrap x1)) - (1 : Int))) x2)) + (1 : Int)))) H))
def W_layout_room.Λ (_ : Value → Hp → Prop) : Cuts := Cuts.none (fun _ => none)
theorem W_layout_room.ok (x1 : Int) (x2 : Int) (H : Hp) (K : Value → Hp → Prop) (h : W_layout_room x1 x2 H K) : HCalls Try.prog 103 #[.int .i64 x1, .int .i64 x2] H K :=
  hcalls Try.func103 rfl (Nat.le_of_ble_eq_true rfl) (hw_safe (Λ := Cuts.none (fun _ => none)) mix _ _ _ _ _ (Eq.mp (by kernel_rfl) h) (obs_none _ _ _ _ _))

end Go.Proofs.Ytbnhfcdagoigkaa.W
