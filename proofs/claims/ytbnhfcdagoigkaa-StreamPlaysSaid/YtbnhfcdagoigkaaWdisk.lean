/- Formulas of functions, printed by wip/tools/hwp.py. -/
import Derived.Test.YtbnhfcdagoigkaaHwE
import Derived.Test.YtbnhfcdagoigkaaProg
set_option maxRecDepth 100000
set_option linter.unusedVariables false
namespace Go.Proofs.Ytbnhfcdagoigkaa.W
open Go Go.Hw

theorem mix : Try.prog.follows .mixedOrders = true := by kernel_rfl
-- disk.New
def W_disk_New (x1 : Int) (x2 : Int) (H : Hp) (K : Value → Hp → Prop) : Prop :=
  BIf (decide (x1 < (1 : Int))) (K (.pointer none) H) (BIf (decide (x1 > (1048576 : Int))) (K (.pointer none) H) (BIf (decide (x2 < (32 : Int))) (K (.pointer none) H) (BIf (decide (x2 > (4096 : Int))) (K (.pointer none) H) (BIf ((bAnd .i64 x2 (IntKind.i64.wrap (x2 - (1 : Int)))) != (0 : Int)) (K (.pointer none) H) ((x2 ≠ 0 ∧ IntKind.i64 = IntKind.i64 ∧ BIf (decide (x1 > (IntKind.i64.wrap (Int.tdiv (67108864 : Int) x2)))) (K (.pointer none) H) (Nw H (.obj (.map #[] 0)) fun b1 H1 => Nw H1 (.obj (.map #[] 0)) fun b2 H2 => Nw H2 (.obj (.map #[] 0)) fun b3 H3 => Nw H3 (.obj (.cells #[.int .i64 x1, .int .i64 x2, .map (some b1), .int .i64 (0 : Int), .int .i64 (0 : Int), .int .i64 (0 : Int), .map (some b2), .bool false, .int .i64 (0 : Int), .map (some b3)] 43)) fun b4 H4 => K (.pointer (some (⟨b4, 0, none⟩ : Addr))) H4)))))))
def W_disk_New.Λ (_ : Value → Hp → Prop) : Cuts := Cuts.none (fun _ => none)
theorem W_disk_New.ok (x1 : Int) (x2 : Int) (H : Hp) (K : Value → Hp → Prop) (h : W_disk_New x1 x2 H K) : HCalls Try.prog 6 #[.int .i64 x1, .int .i64 x2] H K :=
  hcalls Try.func6 rfl (Nat.le_of_ble_eq_true rfl) (hw_safe (Λ := Cuts.none (fun _ => none)) mix _ _ _ _ _ (Eq.mp (by kernel_rfl) h) (obs_none _ _ _ _ _))

-- (*disk.power).Fuse
def W_disk_power_Fuse (p1 : Option Addr) (x1 : Int) (H : Hp) (K : Value → Hp → Prop) : Prop :=
  NN p1 fun a1 => St H ((a1.add 1).add 0) (.int .i64 (if (0 : Int) > x1 then (0 : Int) else x1)) fun H1 => K (.tuple #[]) H1
def W_disk_power_Fuse.Λ (_ : Value → Hp → Prop) : Cuts := Cuts.none (fun _ => none)
theorem W_disk_power_Fuse.ok (p1 : Option Addr) (x1 : Int) (H : Hp) (K : Value → Hp → Prop) (h : W_disk_power_Fuse p1 x1 H K) : HCalls Try.prog 8 #[.pointer p1, .int .i64 x1] H K :=
  hcalls Try.func8 rfl (Nat.le_of_ble_eq_true rfl) (hw_safe (Λ := Cuts.none (fun _ => none)) mix _ _ _ _ _ (Eq.mp (by kernel_rfl) h) (obs_none _ _ _ _ _))

-- (*disk.counts).Touched
def W_disk_counts_Touched (p1 : Option Addr) (H : Hp) (K : Value → Hp → Prop) : Prop :=
  NN p1 fun a1 => Ld H (a1.add 3) fun v1 => DM v1 fun r1 => HCalls Try.prog 37 #[.map r1] H fun v2 H1 => HCalls Try.prog 36 #[v2] H1 fun v3 H2 => DSl v3 fun A1 n1 m1 => K (.slice A1 n1 m1) H2
def W_disk_counts_Touched.Λ (_ : Value → Hp → Prop) : Cuts := Cuts.none (fun _ => none)
theorem W_disk_counts_Touched.ok (p1 : Option Addr) (H : Hp) (K : Value → Hp → Prop) (h : W_disk_counts_Touched p1 H K) : HCalls Try.prog 11 #[.pointer p1] H K :=
  hcalls Try.func11 rfl (Nat.le_of_ble_eq_true rfl) (hw_safe (Λ := Cuts.none (fun _ => none)) mix _ _ _ _ _ (Eq.mp (by kernel_rfl) h) (obs_none _ _ _ _ _))

-- (*disk.power).Down
def W_disk_power_Down (p1 : Option Addr) (H : Hp) (K : Value → Hp → Prop) : Prop :=
  NN p1 fun a1 => Ld H (a1.add 0) fun v1 => DB v1 fun c1 => K (.bool c1) H
def W_disk_power_Down.Λ (_ : Value → Hp → Prop) : Cuts := Cuts.none (fun _ => none)
theorem W_disk_power_Down.ok (p1 : Option Addr) (H : Hp) (K : Value → Hp → Prop) (h : W_disk_power_Down p1 H K) : HCalls Try.prog 12 #[.pointer p1] H K :=
  hcalls Try.func12 rfl (Nat.le_of_ble_eq_true rfl) (hw_safe (Λ := Cuts.none (fun _ => none)) mix _ _ _ _ _ (Eq.mp (by kernel_rfl) h) (obs_none _ _ _ _ _))

-- (*disk.power).Crash
def W_disk_power_Crash (p1 : Option Addr) (H : Hp) (K : Value → Hp → Prop) : Prop :=
  NN p1 fun a1 => St H ((a1.add 0).add 0) (.bool true) fun H1 => NN p1 fun a2 => St H1 ((a2.add 1).add 0) (.int .i64 (0 : Int)) fun H2 => K (.tuple #[]) H2
def W_disk_power_Crash.Λ (_ : Value → Hp → Prop) : Cuts := Cuts.none (fun _ => none)
theorem W_disk_power_Crash.ok (p1 : Option Addr) (H : Hp) (K : Value → Hp → Prop) (h : W_disk_power_Crash p1 H K) : HCalls Try.prog 13 #[.pointer p1] H K :=
  hcalls Try.func13 rfl (Nat.le_of_ble_eq_true rfl) (hw_safe (Λ := Cuts.none (fun _ => none)) mix _ _ _ _ _ (Eq.mp (by kernel_rfl) h) (obs_none _ _ _ _ _))

-- (*disk.Disk).Boot
def W_disk_Disk_Boot.l4 (K : Value → Hp → Prop) : Nat → Option Addr → Option Addr → Nat → Nat → Option Addr → Nat → Nat → Int → Int → Hp → Prop
  | 0, _, _, _, _, _, _, _, _, _, _ => False
  | k + 1, p2, A3, n3, m3, A4, n4, m4, x1, x2, H =>
    let R4 := W_disk_Disk_Boot.l4 K k
    BIf (decide (x2 < x1)) (ixI x2 n4 (NN A4 fun a2 => Ld H (a2.add (x2.toNat * 1)) fun v3 => DI .i64 v3 fun x3 => BIf (decide (x2 < ((n3 : Nat) : Int))) (ixI x2 n3 (NN A3 fun a3 => Ld H (a3.add (x2.toNat * 1)) fun v4 => DB v4 fun c2 => BIf c2 (NN p2 fun a4 => Ld H ((a4.add 0).add 2) fun v5 => DM v5 fun r1 => NN p2 fun a5 => Ld H (a5.add 9) fun v6 => DM v6 fun r2 => SemV Try.prog (Instr.lookup 32 (.map r2) (.int .i64 x3) false) H fun v7 => DS v7 fun s1 => SemK Try.prog (Instr.mapUpdate 32 (.map r1) (.int .i64 x3) (.string s1)) H fun _ H2 => R4 p2 A3 n3 m3 A4 n4 m4 x1 (IntKind.i64.wrap (x2 + (1 : Int))) H2) (R4 p2 A3 n3 m3 A4 n4 m4 x1 (IntKind.i64.wrap (x2 + (1 : Int))) H))) (R4 p2 A3 n3 m3 A4 n4 m4 x1 (IntKind.i64.wrap (x2 + (1 : Int))) H))) (NN p2 fun a6 => Ld H (a6.add 9) fun v8 => DM v8 fun r3 => SemK Try.prog (Builtin.clear_ #[32] 0 #[.map r3]) H fun v9 H3 => NN p2 fun a7 => St H3 (((a7.add 7).add 0).add 0) (.bool false) fun H4 => K (.int .i64 (0 : Int)) H4)
def W_disk_Disk_Boot (p1 : Option Addr) (A1 : Option Addr) (n1 : Nat) (m1 : Nat) (H : Hp) (K : Value → Hp → Prop) : Prop :=
  NN p1 fun a1 => Ld H ((a1.add 7).add 0) fun v1 => DB v1 fun c1 => BIf (!c1) (K (.int .i64 (5 : Int)) H) (HCalls Try.prog 38 #[.pointer p1] H fun v2 H1 => DSl v2 fun A2 n2 m2 => (∃ k, W_disk_Disk_Boot.l4 K k p1 A1 n1 m1 A2 n2 m2 ((n2 : Nat) : Int) (0 : Int) H1))
def W_disk_Disk_Boot.l4.L (K : Value → Hp → Prop) (k : Nat) : Mid := fun E D H =>
  DG (E.get? 0) fun w0 => DP w0 fun p2 => DG (E.get? 1) fun w1 => DSl w1 fun A3 n3 m3 => DG (E.get? 14) fun w14 => DSl w14 fun A4 n4 m4 => DG (E.get? 15) fun w15 => DI .i64 w15 fun x1 => DG (E.get? 16) fun w16 => DI .i64 w16 fun x2 => DNilD D (W_disk_Disk_Boot.l4 K k p2 A3 n3 m3 A4 n4 m4 x1 x2 H)
def W_disk_Disk_Boot.Λ4 (_ : Value → Hp → Prop) (_R4 : Option Addr → Option Addr → Nat → Nat → Option Addr → Nat → Nat → Int → Int → Hp → Prop) : Cuts := Cuts.none (fun i => match Nat.beq i 7 with | true => some ([], [0, 1, 2, 3, 4, 5, 6, 7, 8, 9, 10, 11], 12) | false => none)
def W_disk_Disk_Boot.Λ (K : Value → Hp → Prop) : Cuts := ⟨fun i => none, fun i => match Nat.beq i 4 with | true => some (fun E D H => ∃ k, W_disk_Disk_Boot.l4.L K k E D H) | false => none, (fun i => match Nat.beq i 7 with | true => some ([], [0, 1, 2, 3, 4, 5, 6, 7, 8, 9, 10, 11], 12) | false => none)⟩
theorem W_disk_Disk_Boot.ok (p1 : Option Addr) (A1 : Option Addr) (n1 : Nat) (m1 : Nat) (H : Hp) (K : Value → Hp → Prop) (h : W_disk_Disk_Boot p1 A1 n1 m1 H K) : HCalls Try.prog 14 #[.pointer p1, .slice A1 n1 m1] H K :=
  hcalls Try.func14 rfl (Nat.le_of_ble_eq_true rfl) (hw_safe (Λ := (W_disk_Disk_Boot.Λ K)) mix _ _ _ _ _ (Eq.mp (by kernel_rfl) h) (obs_seq obs_region rfl (obs_seq (obs_seq obs_region rfl (obs_cond (obs_seq obs_region rfl obs_ret) obs_skip)) rfl (obs_seq (obs_seq obs_region rfl (obs_block (obs_loop rfl (fun E D H h => by
      refine Safe.loop' (W_disk_Disk_Boot.l4.L K) (fun E D H h => ?_) (fun k E D H h => ?_) E D H h
      · obtain ⟨w0, e0, g1⟩ := DG.out h; obtain ⟨p2, rfl, g2⟩ := DP.out g1; obtain ⟨w1, e1, g3⟩ := DG.out g2; obtain ⟨A3, n3, m3, rfl, g4⟩ := DSl.out g3; obtain ⟨w14, e14, g5⟩ := DG.out g4; obtain ⟨A4, n4, m4, rfl, g6⟩ := DSl.out g5; obtain ⟨w15, e15, g7⟩ := DG.out g6; obtain ⟨x1, rfl, g8⟩ := DI.out g7; obtain ⟨w16, e16, g9⟩ := DG.out g8; obtain ⟨x2, rfl, g10⟩ := DI.out g9; obtain ⟨rfl, h'⟩ := DNilD.out g10; exact h'
      · obtain ⟨w0, e0, g1⟩ := DG.out h
        obtain ⟨p2, rfl, g2⟩ := DP.out g1
        obtain ⟨w1, e1, g3⟩ := DG.out g2
        obtain ⟨A3, n3, m3, rfl, g4⟩ := DSl.out g3
        obtain ⟨w14, e14, g5⟩ := DG.out g4
        obtain ⟨A4, n4, m4, rfl, g6⟩ := DSl.out g5
        obtain ⟨w15, e15, g7⟩ := DG.out g6
        obtain ⟨x1, rfl, g8⟩ := DI.out g7
        obtain ⟨w16, e16, g9⟩ := DG.out g8
        obtain ⟨x2, rfl, g10⟩ := DI.out g9
        obtain ⟨rfl, h'⟩ := DNilD.out g10
        exact (hw_safe (Λ := (W_disk_Disk_Boot.Λ4 K (W_disk_Disk_Boot.l4 K k))) mix _ _ [(0, .pointer p2), (1, .slice A3 n3 m3), (14, .slice A4 n4 m4), (15, .int .i64 x1), (16, .int .i64 x2)] [] H (Eq.mp (by kernel_rfl) h') (obs_seq obs_region rfl (obs_seq (obs_cond obs_skip obs_exit) rfl (obs_seq (obs_block (obs_seq obs_region rfl (obs_seq obs_region rfl (obs_cond obs_region obs_skip)))) rfl obs_region)))).weaken (EnvLe.cons e0 (EnvLe.cons e1 (EnvLe.cons e14 (EnvLe.cons e15 (EnvLe.cons e16 (EnvLe.nil _)))))) (Hp.le_refl _))))) rfl (obs_seq obs_region rfl (obs_seq obs_region rfl (obs_seq obs_region rfl obs_ret)))))))

-- (*disk.Disk).Read
def W_disk_Disk_Read (p1 : Option Addr) (x1 : Int) (H : Hp) (K : Value → Hp → Prop) : Prop :=
  HCalls Try.prog 59 #[.pointer p1, .int .i64 x1] H fun v1 H1 => DI .i64 v1 fun x2 => BIf (x2 != (0 : Int)) (K (.tuple #[.slice none 0 0, .int .i64 x2]) H1) (NN p1 fun a1 => HCalls Try.prog 60 #[.pointer (some (a1.add 7))] H1 fun v2 H2 => DB v2 fun c1 => BIf c1 (K (.tuple #[.slice none 0 0, .int .i64 (8 : Int)]) H2) (NN p1 fun a2 => Ld H2 (((a2.add 3).add 0).add 0) fun v3 => DI .i64 v3 fun x3 => NN p1 fun a3 => St H2 ((((a3.add 3).add 0).add 0).add 0) (.int .i64 (IntKind.i64.wrap (x3 + (1 : Int)))) fun H3 => NN p1 fun a4 => Ld H3 (a4.add 9) fun v4 => DM v4 fun r1 => SemV Try.prog (Instr.lookup 32 (.map r1) (.int .i64 x1) true) H3 fun v5 => DTup v5 fun l1 => DCons l1 fun v6 l2 => DS v6 fun s1 => DCons l2 fun v7 l3 => DB v7 fun c2 => DNil l3 (BIf c2 (StB 5 s1 H3 fun v8 H4 => DSl v8 fun A1 n1 m1 => K (.tuple #[.slice A1 n1 m1, .int .i64 (0 : Int)]) H4) (NN p1 fun a5 => HCalls Try.prog 61 #[.pointer (some (a5.add 0)), .int .i64 x1] H3 fun v9 H5 => DSl v9 fun A2 n2 m2 => K (.tuple #[.slice A2 n2 m2, .int .i64 (0 : Int)]) H5))))
def W_disk_Disk_Read.Λ (_ : Value → Hp → Prop) : Cuts := Cuts.none (fun _ => none)
theorem W_disk_Disk_Read.ok (p1 : Option Addr) (x1 : Int) (H : Hp) (K : Value → Hp → Prop) (h : W_disk_Disk_Read p1 x1 H K) : HCalls Try.prog 29 #[.pointer p1, .int .i64 x1] H K :=
  hcalls Try.func29 rfl (Nat.le_of_ble_eq_true rfl) (hw_safe (Λ := Cuts.none (fun _ => none)) mix _ _ _ _ _ (Eq.mp (by kernel_rfl) h) (obs_none _ _ _ _ _))

-- (*disk.Disk).Write
def W_disk_Disk_Write (p1 : Option Addr) (x1 : Int) (A1 : Option Addr) (n1 : Nat) (m1 : Nat) (H : Hp) (K : Value → Hp → Prop) : Prop :=
  HCalls Try.prog 59 #[.pointer p1, .int .i64 x1] H fun v1 H1 => DI .i64 v1 fun x2 => BIf (x2 != (0 : Int)) (K (.int .i64 x2) H1) (NN p1 fun a1 => Ld H1 ((a1.add 0).add 1) fun v2 => DI .i64 v2 fun x3 => BIf (((n1 : Nat) : Int) != x3) (K (.int .i64 (19 : Int)) H1) (NN p1 fun a2 => HCalls Try.prog 60 #[.pointer (some (a2.add 7))] H1 fun v3 H2 => DB v3 fun c1 => BIf c1 (K (.int .i64 (8 : Int)) H2) (NN p1 fun a3 => Ld H2 (((a3.add 3).add 0).add 1) fun v4 => DI .i64 v4 fun x4 => NN p1 fun a4 => St H2 ((((a4.add 3).add 0).add 1).add 0) (.int .i64 (IntKind.i64.wrap (x4 + (1 : Int)))) fun H3 => NN p1 fun a5 => Ld H3 ((a5.add 3).add 3) fun v5 => DM v5 fun r1 => SemK Try.prog (Instr.mapUpdate 37 (.map r1) (.int .i64 x1) (.int .i64 (1 : Int))) H3 fun _ H4 => NN p1 fun a6 => Ld H4 (a6.add 9) fun v6 => DM v6 fun r2 => BsK H4 A1 n1 fun s1 => SemK Try.prog (Instr.mapUpdate 32 (.map r2) (.int .i64 x1) (.string s1)) H4 fun _ H5 => K (.int .i64 (0 : Int)) H5)))
def W_disk_Disk_Write.Λ (_ : Value → Hp → Prop) : Cuts := Cuts.none (fun i => match Nat.beq i 10 with | true => some ([], [0, 1, 2, 3, 4, 5, 6], 7) | false => none)
theorem W_disk_Disk_Write.ok (p1 : Option Addr) (x1 : Int) (A1 : Option Addr) (n1 : Nat) (m1 : Nat) (H : Hp) (K : Value → Hp → Prop) (h : W_disk_Disk_Write p1 x1 A1 n1 m1 H K) : HCalls Try.prog 32 #[.pointer p1, .int .i64 x1, .slice A1 n1 m1] H K :=
  hcalls Try.func32 rfl (Nat.le_of_ble_eq_true rfl) (hw_safe (Λ := Cuts.none (fun i => match Nat.beq i 10 with | true => some ([], [0, 1, 2, 3, 4, 5, 6], 7) | false => none)) mix _ _ _ _ _ (Eq.mp (by kernel_rfl) h) (obs_none _ _ _ _ _))

-- (*disk.Disk).Sync
def W_disk_Disk_Sync (p1 : Option Addr) (H : Hp) (K : Value → Hp → Prop) : Prop :=
  NN p1 fun a1 => Ld H ((a1.add 7).add 0) fun v1 => DB v1 fun c1 => BIf c1 (K (.int .i64 (8 : Int)) H) (NN p1 fun a2 => HCalls Try.prog 60 #[.pointer (some (a2.add 7))] H fun v2 H1 => DB v2 fun c2 => BIf c2 (K (.int .i64 (8 : Int)) H1) (NN p1 fun a3 => Ld H1 (((a3.add 3).add 0).add 2) fun v3 => DI .i64 v3 fun x1 => NN p1 fun a4 => St H1 ((((a4.add 3).add 0).add 2).add 0) (.int .i64 (IntKind.i64.wrap (x1 + (1 : Int)))) fun H2 => NN p1 fun a5 => Ld H2 ((a5.add 0).add 2) fun v4 => DM v4 fun r1 => NN p1 fun a6 => Ld H2 (a6.add 9) fun v5 => DM v5 fun r2 => HCalls Try.prog 67 #[.map r1, .map r2] H2 fun v6 H3 => NN p1 fun a7 => Ld H3 (a7.add 9) fun v7 => DM v7 fun r3 => SemK Try.prog (Builtin.clear_ #[32] 0 #[.map r3]) H3 fun v8 H4 => K (.int .i64 (0 : Int)) H4))
def W_disk_Disk_Sync.Λ (_ : Value → Hp → Prop) : Cuts := Cuts.none (fun i => match Nat.beq i 4 with | true => some ([], [0, 1, 2, 3, 4, 5, 6, 7, 8], 9) | false => none)
theorem W_disk_Disk_Sync.ok (p1 : Option Addr) (H : Hp) (K : Value → Hp → Prop) (h : W_disk_Disk_Sync p1 H K) : HCalls Try.prog 33 #[.pointer p1] H K :=
  hcalls Try.func33 rfl (Nat.le_of_ble_eq_true rfl) (hw_safe (Λ := Cuts.none (fun i => match Nat.beq i 4 with | true => some ([], [0, 1, 2, 3, 4, 5, 6, 7, 8], 9) | false => none)) mix _ _ _ _ _ (Eq.mp (by kernel_rfl) h) (obs_none _ _ _ _ _))

-- (*disk.Disk).Dirty
def W_disk_Disk_Dirty (p1 : Option Addr) (H : Hp) (K : Value → Hp → Prop) : Prop :=
  NN p1 fun a1 => Ld H (a1.add 9) fun v1 => DM v1 fun r1 => HCalls Try.prog 71 #[.map r1] H fun v2 H1 => HCalls Try.prog 36 #[v2] H1 fun v3 H2 => DSl v3 fun A1 n1 m1 => K (.slice A1 n1 m1) H2
def W_disk_Disk_Dirty.Λ (_ : Value → Hp → Prop) : Cuts := Cuts.none (fun _ => none)
theorem W_disk_Disk_Dirty.ok (p1 : Option Addr) (H : Hp) (K : Value → Hp → Prop) (h : W_disk_Disk_Dirty p1 H K) : HCalls Try.prog 38 #[.pointer p1] H K :=
  hcalls Try.func38 rfl (Nat.le_of_ble_eq_true rfl) (hw_safe (Λ := Cuts.none (fun _ => none)) mix _ _ _ _ _ (Eq.mp (by kernel_rfl) h) (obs_none _ _ _ _ _))

-- (*disk.Disk).check
def W_disk_Disk_check (p1 : Option Addr) (x1 : Int) (H : Hp) (K : Value → Hp → Prop) : Prop :=
  NN p1 fun a1 => Ld H ((a1.add 7).add 0) fun v1 => DB v1 fun c1 => BIf c1 (K (.int .i64 (8 : Int)) H) (BIf (decide (x1 < (0 : Int))) (K (.int .i64 (2 : Int)) H) (NN p1 fun a2 => Ld H ((a2.add 0).add 0) fun v2 => DI .i64 v2 fun x2 => BIf (decide (x1 ≥ x2)) (K (.int .i64 (2 : Int)) H) (K (.int .i64 (0 : Int)) H)))
def W_disk_Disk_check.Λ (_ : Value → Hp → Prop) : Cuts := Cuts.none (fun _ => none)
theorem W_disk_Disk_check.ok (p1 : Option Addr) (x1 : Int) (H : Hp) (K : Value → Hp → Prop) (h : W_disk_Disk_check p1 x1 H K) : HCalls Try.prog 59 #[.pointer p1, .int .i64 x1] H K :=
  hcalls Try.func59 rfl (Nat.le_of_ble_eq_true rfl) (hw_safe (Λ := Cuts.none (fun _ => none)) mix _ _ _ _ _ (Eq.mp (by kernel_rfl) h) (obs_none _ _ _ _ _))

-- (*disk.power).burns
def W_disk_power_burns (p1 : Option Addr) (H : Hp) (K : Value → Hp → Prop) : Prop :=
  NN p1 fun a1 => Ld H (a1.add 1) fun v1 => DI .i64 v1 fun x1 => BIf (x1 == (0 : Int)) (K (.bool false) H) (NN p1 fun a2 => Ld H (a2.add 1) fun v2 => DI .i64 v2 fun x2 => NN p1 fun a3 => St H ((a3.add 1).add 0) (.int .i64 (IntKind.i64.wrap (x2 - (1 : Int)))) fun H1 => NN p1 fun a4 => Ld H1 (a4.add 1) fun v3 => DI .i64 v3 fun x3 => NN p1 fun a5 => St H1 ((a5.add 0).add 0) (.bool (x3 == (0 : Int))) fun H2 => NN p1 fun a6 => Ld H2 (a6.add 0) fun v4 => DB v4 fun c1 => K (.bool c1) H2)
def W_disk_power_burns.Λ (_ : Value → Hp → Prop) : Cuts := Cuts.none (fun _ => none)
theorem W_disk_power_burns.ok (p1 : Option Addr) (H : Hp) (K : Value → Hp → Prop) (h : W_disk_power_burns p1 H K) : HCalls Try.prog 60 #[.pointer p1] H K :=
  hcalls Try.func60 rfl (Nat.le_of_ble_eq_true rfl) (hw_safe (Λ := Cuts.none (fun _ => none)) mix _ _ _ _ _ (Eq.mp (by kernel_rfl) h) (obs_none _ _ _ _ _))

-- (*disk.plates).get
def W_disk_plates_get (p1 : Option Addr) (x1 : Int) (H : Hp) (K : Value → Hp → Prop) : Prop :=
  NN p1 fun a1 => Ld H (a1.add 1) fun v1 => DI .i64 v1 fun x2 => MkS Try.prog 5 x2 x2 H fun v2 H1 => DSl v2 fun A1 n1 m1 => NN p1 fun a2 => Ld H1 (a2.add 2) fun v3 => DM v3 fun r1 => SemV Try.prog (Instr.lookup 32 (.map r1) (.int .i64 x1) false) H1 fun v4 => DS v4 fun s1 => CpK Try.prog 5 (.slice A1 n1 m1) (.string s1) H1 fun v5 H2 => DI .i64 v5 fun x3 => K (.slice A1 n1 m1) H2
def W_disk_plates_get.Λ (_ : Value → Hp → Prop) : Cuts := Cuts.none (fun _ => none)
theorem W_disk_plates_get.ok (p1 : Option Addr) (x1 : Int) (H : Hp) (K : Value → Hp → Prop) (h : W_disk_plates_get p1 x1 H K) : HCalls Try.prog 61 #[.pointer p1, .int .i64 x1] H K :=
  hcalls Try.func61 rfl (Nat.le_of_ble_eq_true rfl) (hw_safe (Λ := Cuts.none (fun _ => none)) mix _ _ _ _ _ (Eq.mp (by kernel_rfl) h) (obs_none _ _ _ _ _))

-- (*disk.plates).Sectors
def W_disk_plates_Sectors (p1 : Option Addr) (H : Hp) (K : Value → Hp → Prop) : Prop :=
  NN p1 fun a1 => Ld H (a1.add 0) fun v1 => DI .i64 v1 fun x1 => K (.int .i64 x1) H
def W_disk_plates_Sectors.Λ (_ : Value → Hp → Prop) : Cuts := Cuts.none (fun _ => none)
theorem W_disk_plates_Sectors.ok (p1 : Option Addr) (H : Hp) (K : Value → Hp → Prop) (h : W_disk_plates_Sectors p1 H K) : HCalls Try.prog 65 #[.pointer p1] H K :=
  hcalls Try.func65 rfl (Nat.le_of_ble_eq_true rfl) (hw_safe (Λ := Cuts.none (fun _ => none)) mix _ _ _ _ _ (Eq.mp (by kernel_rfl) h) (obs_none _ _ _ _ _))

-- (*disk.plates).Size
def W_disk_plates_Size (p1 : Option Addr) (H : Hp) (K : Value → Hp → Prop) : Prop :=
  NN p1 fun a1 => Ld H (a1.add 1) fun v1 => DI .i64 v1 fun x1 => K (.int .i64 x1) H
def W_disk_plates_Size.Λ (_ : Value → Hp → Prop) : Cuts := Cuts.none (fun _ => none)
theorem W_disk_plates_Size.ok (p1 : Option Addr) (H : Hp) (K : Value → Hp → Prop) (h : W_disk_plates_Size p1 H K) : HCalls Try.prog 66 #[.pointer p1] H K :=
  hcalls Try.func66 rfl (Nat.le_of_ble_eq_true rfl) (hw_safe (Λ := Cuts.none (fun _ => none)) mix _ _ _ _ _ (Eq.mp (by kernel_rfl) h) (obs_none _ _ _ _ _))

end Go.Proofs.Ytbnhfcdagoigkaa.W
