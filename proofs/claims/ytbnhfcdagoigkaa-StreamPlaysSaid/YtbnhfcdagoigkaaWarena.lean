/- Formulas of functions, printed by wip/tools/hwp.py. -/
import Derived.Test.YtbnhfcdagoigkaaHwE
import Derived.Test.YtbnhfcdagoigkaaProg
set_option maxRecDepth 100000
set_option linter.unusedVariables false
namespace Go.Proofs.Ytbnhfcdagoigkaa.W
open Go Go.Hw

theorem mix : Try.prog.follows .mixedOrders = true := by kernel_rfl
-- (*arena.meter).Used
def W_arena_meter_Used (p1 : Option Addr) (H : Hp) (K : Value → Hp → Prop) : Prop :=
  NN p1 fun a1 => Ld H (a1.add 1) fun v1 => DI .i64 v1 fun x1 => K (.int .i64 x1) H
def W_arena_meter_Used.Λ (_ : Value → Hp → Prop) : Cuts := Cuts.none (fun _ => none)
theorem W_arena_meter_Used.ok (p1 : Option Addr) (H : Hp) (K : Value → Hp → Prop) (h : W_arena_meter_Used p1 H K) : HCalls Try.prog 26 #[.pointer p1] H K :=
  hcalls Try.func26 rfl (Nat.le_of_ble_eq_true rfl) (hw_safe (Λ := Cuts.none (fun _ => none)) mix _ _ _ _ _ (Eq.mp (by kernel_rfl) h) (obs_none _ _ _ _ _))

-- (*arena.meter).Peak
def W_arena_meter_Peak (p1 : Option Addr) (H : Hp) (K : Value → Hp → Prop) : Prop :=
  NN p1 fun a1 => Ld H (a1.add 2) fun v1 => DI .i64 v1 fun x1 => K (.int .i64 x1) H
def W_arena_meter_Peak.Λ (_ : Value → Hp → Prop) : Cuts := Cuts.none (fun _ => none)
theorem W_arena_meter_Peak.ok (p1 : Option Addr) (H : Hp) (K : Value → Hp → Prop) (h : W_arena_meter_Peak p1 H K) : HCalls Try.prog 27 #[.pointer p1] H K :=
  hcalls Try.func27 rfl (Nat.le_of_ble_eq_true rfl) (hw_safe (Λ := Cuts.none (fun _ => none)) mix _ _ _ _ _ (Eq.mp (by kernel_rfl) h) (obs_none _ _ _ _ _))

-- arena.New
def W_arena_New (x1 : Int) (H : Hp) (K : Value → Hp → Prop) : Prop :=
  BIf (decide (x1 < (1 : Int))) (K (.pointer none) H) (BIf (decide (x1 > (16777216 : Int))) (K (.pointer none) H) (Nw H (.obj (.map #[] 0)) fun b1 H1 => Nw H1 (.obj (.cells #[.int .i64 x1, .int .i64 (0 : Int), .int .i64 (0 : Int), .map (some b1)] 75)) fun b2 H2 => K (.pointer (some (⟨b2, 0, none⟩ : Addr))) H2))
def W_arena_New.Λ (_ : Value → Hp → Prop) : Cuts := Cuts.none (fun _ => none)
theorem W_arena_New.ok (x1 : Int) (H : Hp) (K : Value → Hp → Prop) (h : W_arena_New x1 H K) : HCalls Try.prog 39 #[.int .i64 x1] H K :=
  hcalls Try.func39 rfl (Nat.le_of_ble_eq_true rfl) (hw_safe (Λ := Cuts.none (fun _ => none)) mix _ _ _ _ _ (Eq.mp (by kernel_rfl) h) (obs_none _ _ _ _ _))

-- (*arena.Arena).Take
def W_arena_Arena_Take (p1 : Option Addr) (x1 : Int) (H : Hp) (K : Value → Hp → Prop) : Prop :=
  BIf (decide (x1 < (1 : Int))) (K (.tuple #[.pointer none, .int .i64 (1 : Int)]) H) (NN p1 fun a1 => HCalls Try.prog 73 #[.pointer (some (a1.add 0))] H fun v1 H1 => DI .i64 v1 fun x2 => BIf (decide (x1 > x2)) (K (.tuple #[.pointer none, .int .i64 (6 : Int)]) H1) (MkS Try.prog 62 x1 x1 H1 fun v2 H2 => DSl v2 fun A1 n1 m1 => Nw H2 (.obj (.cells #[.pointer p1, .slice A1 n1 m1] 141)) fun b1 H3 => NN p1 fun a2 => Ld H3 (a2.add 3) fun v3 => DM v3 fun r1 => SemK Try.prog (Instr.mapUpdate 73 (.map r1) (.pointer (some (⟨b1, 0, none⟩ : Addr))) (.int .i64 x1)) H3 fun _ H4 => NN p1 fun a3 => HCalls Try.prog 74 #[.pointer (some (a3.add 0)), .int .i64 x1] H4 fun v4 H5 => K (.tuple #[.pointer (some (⟨b1, 0, none⟩ : Addr)), .int .i64 (0 : Int)]) H5))
def W_arena_Arena_Take.Λ (_ : Value → Hp → Prop) : Cuts := Cuts.none (fun _ => none)
theorem W_arena_Arena_Take.ok (p1 : Option Addr) (x1 : Int) (H : Hp) (K : Value → Hp → Prop) (h : W_arena_Arena_Take p1 x1 H K) : HCalls Try.prog 42 #[.pointer p1, .int .i64 x1] H K :=
  hcalls Try.func42 rfl (Nat.le_of_ble_eq_true rfl) (hw_safe (Λ := Cuts.none (fun _ => none)) mix _ _ _ _ _ (Eq.mp (by kernel_rfl) h) (obs_none _ _ _ _ _))

-- (*arena.Arena).Give
def W_arena_Arena_Give.l1 (K : Value → Hp → Prop) : Nat → Option Addr → Option Addr → Nat → Nat → Int → Int → Hp → Prop
  | 0, _, _, _, _, _, _, _ => False
  | k + 1, p2, A2, n2, m2, x1, x2, H =>
    let R1 := W_arena_Arena_Give.l1 K k
    BIf (decide (x2 < x1)) (ixI x2 n2 (NN A2 fun a1 => Ld H (a1.add (x2.toNat * 1)) fun v1 => DP v1 fun p3 => NN p2 fun a2 => Ld H (a2.add 3) fun v2 => DM v2 fun r1 => SemV Try.prog (Instr.lookup 73 (.map r1) (.pointer p3) true) H fun v3 => DTup v3 fun l1 => DCons l1 fun v4 l2 => DI .i64 v4 fun x3 => DCons l2 fun v5 l3 => DB v5 fun c1 => DNil l3 (BIf c1 (NN p2 fun a3 => Ld H (a3.add 3) fun v6 => DM v6 fun r2 => SemK Try.prog (Builtin.delete_ #[73, 105] 0 #[.map r2, .pointer p3]) H fun v7 H1 => NN p2 fun a4 => HCalls Try.prog 74 #[.pointer (some (a4.add 0)), .int .i64 (IntKind.i64.wrap (0 - x3))] H1 fun v8 H2 => NN p3 fun a5 => St H2 (((a5.add 0).add 1).add 0) (.slice none 0 0) fun H3 => R1 p2 A2 n2 m2 x1 (IntKind.i64.wrap (x2 + (1 : Int))) H3) (R1 p2 A2 n2 m2 x1 (IntKind.i64.wrap (x2 + (1 : Int))) H)))) (K (.tuple #[]) H)
def W_arena_Arena_Give (p1 : Option Addr) (A1 : Option Addr) (n1 : Nat) (m1 : Nat) (H : Hp) (K : Value → Hp → Prop) : Prop :=
  (∃ k, W_arena_Arena_Give.l1 K k p1 A1 n1 m1 ((n1 : Nat) : Int) (0 : Int) H)
def W_arena_Arena_Give.l1.L (K : Value → Hp → Prop) (k : Nat) : Mid := fun E D H =>
  DG (E.get? 0) fun w0 => DP w0 fun p2 => DG (E.get? 8) fun w8 => DSl w8 fun A2 n2 m2 => DG (E.get? 9) fun w9 => DI .i64 w9 fun x1 => DG (E.get? 10) fun w10 => DI .i64 w10 fun x2 => DNilD D (W_arena_Arena_Give.l1 K k p2 A2 n2 m2 x1 x2 H)
def W_arena_Arena_Give.Λ1 (_ : Value → Hp → Prop) (_R1 : Option Addr → Option Addr → Nat → Nat → Int → Int → Hp → Prop) : Cuts := Cuts.none (fun _ => none)
def W_arena_Arena_Give.Λ (K : Value → Hp → Prop) : Cuts := ⟨fun i => none, fun i => match Nat.beq i 1 with | true => some (fun E D H => ∃ k, W_arena_Arena_Give.l1.L K k E D H) | false => none, (fun _ => none)⟩
theorem W_arena_Arena_Give.ok (p1 : Option Addr) (A1 : Option Addr) (n1 : Nat) (m1 : Nat) (H : Hp) (K : Value → Hp → Prop) (h : W_arena_Arena_Give p1 A1 n1 m1 H K) : HCalls Try.prog 44 #[.pointer p1, .slice A1 n1 m1] H K :=
  hcalls Try.func44 rfl (Nat.le_of_ble_eq_true rfl) (hw_safe (Λ := (W_arena_Arena_Give.Λ K)) mix _ _ _ _ _ (Eq.mp (by kernel_rfl) h) (obs_seq obs_region rfl (obs_block (obs_loop rfl (fun E D H h => by
      refine Safe.loop' (W_arena_Arena_Give.l1.L K) (fun E D H h => ?_) (fun k E D H h => ?_) E D H h
      · obtain ⟨w0, e0, g1⟩ := DG.out h; obtain ⟨p2, rfl, g2⟩ := DP.out g1; obtain ⟨w8, e8, g3⟩ := DG.out g2; obtain ⟨A2, n2, m2, rfl, g4⟩ := DSl.out g3; obtain ⟨w9, e9, g5⟩ := DG.out g4; obtain ⟨x1, rfl, g6⟩ := DI.out g5; obtain ⟨w10, e10, g7⟩ := DG.out g6; obtain ⟨x2, rfl, g8⟩ := DI.out g7; obtain ⟨rfl, h'⟩ := DNilD.out g8; exact h'
      · obtain ⟨w0, e0, g1⟩ := DG.out h
        obtain ⟨p2, rfl, g2⟩ := DP.out g1
        obtain ⟨w8, e8, g3⟩ := DG.out g2
        obtain ⟨A2, n2, m2, rfl, g4⟩ := DSl.out g3
        obtain ⟨w9, e9, g5⟩ := DG.out g4
        obtain ⟨x1, rfl, g6⟩ := DI.out g5
        obtain ⟨w10, e10, g7⟩ := DG.out g6
        obtain ⟨x2, rfl, g8⟩ := DI.out g7
        obtain ⟨rfl, h'⟩ := DNilD.out g8
        exact (hw_safe (Λ := (W_arena_Arena_Give.Λ1 K (W_arena_Arena_Give.l1 K k))) mix _ _ [(0, .pointer p2), (8, .slice A2 n2 m2), (9, .int .i64 x1), (10, .int .i64 x2)] [] H (Eq.mp (by kernel_rfl) h') (obs_seq obs_region rfl (obs_seq (obs_cond obs_skip obs_exit) rfl (obs_seq (obs_block (obs_seq obs_region rfl (obs_seq obs_region rfl (obs_seq obs_region rfl (obs_cond (obs_seq obs_region rfl (obs_seq obs_region rfl obs_region)) obs_skip))))) rfl obs_region)))).weaken (EnvLe.cons e0 (EnvLe.cons e8 (EnvLe.cons e9 (EnvLe.cons e10 (EnvLe.nil _))))) (Hp.le_refl _))))))
theorem W_arena_Arena_Give.okD (p1 : Option Addr) (A1 : Option Addr) (n1 : Nat) (m1 : Nat) (H : Hp) (K : Value → Hp → Prop) (h : W_arena_Arena_Give p1 A1 n1 m1 H K) : HCallsD Try.prog 44 #[.pointer p1, .slice A1 n1 m1] H K :=
  hcallsD Try.func44 rfl (Nat.le_of_ble_eq_true rfl) (hw_safe (Λ := (W_arena_Arena_Give.Λ K)) mix _ _ _ _ _ (Eq.mp (by kernel_rfl) h) (obs_seq obs_region rfl (obs_block (obs_loop rfl (fun E D H h => by
      refine Safe.loop' (W_arena_Arena_Give.l1.L K) (fun E D H h => ?_) (fun k E D H h => ?_) E D H h
      · obtain ⟨w0, e0, g1⟩ := DG.out h; obtain ⟨p2, rfl, g2⟩ := DP.out g1; obtain ⟨w8, e8, g3⟩ := DG.out g2; obtain ⟨A2, n2, m2, rfl, g4⟩ := DSl.out g3; obtain ⟨w9, e9, g5⟩ := DG.out g4; obtain ⟨x1, rfl, g6⟩ := DI.out g5; obtain ⟨w10, e10, g7⟩ := DG.out g6; obtain ⟨x2, rfl, g8⟩ := DI.out g7; obtain ⟨rfl, h'⟩ := DNilD.out g8; exact h'
      · obtain ⟨w0, e0, g1⟩ := DG.out h
        obtain ⟨p2, rfl, g2⟩ := DP.out g1
        obtain ⟨w8, e8, g3⟩ := DG.out g2
        obtain ⟨A2, n2, m2, rfl, g4⟩ := DSl.out g3
        obtain ⟨w9, e9, g5⟩ := DG.out g4
        obtain ⟨x1, rfl, g6⟩ := DI.out g5
        obtain ⟨w10, e10, g7⟩ := DG.out g6
        obtain ⟨x2, rfl, g8⟩ := DI.out g7
        obtain ⟨rfl, h'⟩ := DNilD.out g8
        exact (hw_safe (Λ := (W_arena_Arena_Give.Λ1 K (W_arena_Arena_Give.l1 K k))) mix _ _ [(0, .pointer p2), (8, .slice A2 n2 m2), (9, .int .i64 x1), (10, .int .i64 x2)] [] H (Eq.mp (by kernel_rfl) h') (obs_seq obs_region rfl (obs_seq (obs_cond obs_skip obs_exit) rfl (obs_seq (obs_block (obs_seq obs_region rfl (obs_seq obs_region rfl (obs_seq obs_region rfl (obs_cond (obs_seq obs_region rfl (obs_seq obs_region rfl obs_region)) obs_skip))))) rfl obs_region)))).weaken (EnvLe.cons e0 (EnvLe.cons e8 (EnvLe.cons e9 (EnvLe.cons e10 (EnvLe.nil _))))) (Hp.le_refl _))))))

-- (*arena.Buffer).Words
def W_arena_Buffer_Words (p1 : Option Addr) (H : Hp) (K : Value → Hp → Prop) : Prop :=
  NN p1 fun a1 => Ld H ((a1.add 0).add 1) fun v1 => DSl v1 fun A1 n1 m1 => K (.slice A1 n1 m1) H
def W_arena_Buffer_Words.Λ (_ : Value → Hp → Prop) : Cuts := Cuts.none (fun _ => none)
theorem W_arena_Buffer_Words.ok (p1 : Option Addr) (H : Hp) (K : Value → Hp → Prop) (h : W_arena_Buffer_Words p1 H K) : HCalls Try.prog 46 #[.pointer p1] H K :=
  hcalls Try.func46 rfl (Nat.le_of_ble_eq_true rfl) (hw_safe (Λ := Cuts.none (fun _ => none)) mix _ _ _ _ _ (Eq.mp (by kernel_rfl) h) (obs_none _ _ _ _ _))

-- (*arena.meter).Free
def W_arena_meter_Free (p1 : Option Addr) (H : Hp) (K : Value → Hp → Prop) : Prop :=
  NN p1 fun a1 => Ld H (a1.add 0) fun v1 => DI .i64 v1 fun x1 => NN p1 fun a2 => Ld H (a2.add 1) fun v2 => DI .i64 v2 fun x2 => K (.int .i64 (IntKind.i64.wrap (x1 - x2))) H
def W_arena_meter_Free.Λ (_ : Value → Hp → Prop) : Cuts := Cuts.none (fun _ => none)
theorem W_arena_meter_Free.ok (p1 : Option Addr) (H : Hp) (K : Value → Hp → Prop) (h : W_arena_meter_Free p1 H K) : HCalls Try.prog 73 #[.pointer p1] H K :=
  hcalls Try.func73 rfl (Nat.le_of_ble_eq_true rfl) (hw_safe (Λ := Cuts.none (fun _ => none)) mix _ _ _ _ _ (Eq.mp (by kernel_rfl) h) (obs_none _ _ _ _ _))

-- (*arena.meter).add
def W_arena_meter_add (p1 : Option Addr) (x1 : Int) (H : Hp) (K : Value → Hp → Prop) : Prop :=
  NN p1 fun a1 => Ld H (a1.add 1) fun v1 => DI .i64 v1 fun x2 => NN p1 fun a2 => St H ((a2.add 1).add 0) (.int .i64 (IntKind.i64.wrap (x2 + x1))) fun H1 => NN p1 fun a3 => Ld H1 (a3.add 2) fun v2 => DI .i64 v2 fun x3 => NN p1 fun a4 => Ld H1 (a4.add 1) fun v3 => DI .i64 v3 fun x4 => NN p1 fun a5 => St H1 ((a5.add 2).add 0) (.int .i64 (if x4 > x3 then x4 else x3)) fun H2 => K (.tuple #[]) H2
def W_arena_meter_add.Λ (_ : Value → Hp → Prop) : Cuts := Cuts.none (fun i => match Nat.beq i 1 with | true => some ([], [0, 1, 2, 3, 4, 5, 6, 7, 8, 9, 10, 11], 12) | false => none)
theorem W_arena_meter_add.ok (p1 : Option Addr) (x1 : Int) (H : Hp) (K : Value → Hp → Prop) (h : W_arena_meter_add p1 x1 H K) : HCalls Try.prog 74 #[.pointer p1, .int .i64 x1] H K :=
  hcalls Try.func74 rfl (Nat.le_of_ble_eq_true rfl) (hw_safe (Λ := Cuts.none (fun i => match Nat.beq i 1 with | true => some ([], [0, 1, 2, 3, 4, 5, 6, 7, 8, 9, 10, 11], 12) | false => none)) mix _ _ _ _ _ (Eq.mp (by kernel_rfl) h) (obs_none _ _ _ _ _))

end Go.Proofs.Ytbnhfcdagoigkaa.W
