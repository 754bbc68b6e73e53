/- Formulas of functions, printed by wip/tools/hwp.py. -/
import Derived.Test.YtbnhfcdagoigkaaHwE
import Derived.Test.YtbnhfcdagoigkaaProg
set_option maxRecDepth 100000
set_option linter.unusedVariables false
namespace Go.Proofs.Ytbnhfcdagoigkaa.W
open Go Go.Hw

theorem mix : Try.prog.follows .mixedOrders = true := by kernel_rfl
-- maps.Keys[map[int]int,int,int]
def W_maps_Keys_map_int_int_int_int (r1 : Option Nat) (H : Hp) (K : Value → Hp → Prop) : Prop :=
  Nw H (.obj (.cells #[.map r1] 37)) fun b1 H1 => K (.func (.func 70) #[] #[.pointer (some (⟨b1, 0, none⟩ : Addr))]) H1
def W_maps_Keys_map_int_int_int_int.Λ (_ : Value → Hp → Prop) : Cuts := Cuts.none (fun _ => none)
theorem W_maps_Keys_map_int_int_int_int.ok (r1 : Option Nat) (H : Hp) (K : Value → Hp → Prop) (h : W_maps_Keys_map_int_int_int_int r1 H K) : HCalls Try.prog 37 #[.map r1] H K :=
  hcalls Try.func37 rfl (Nat.le_of_ble_eq_true rfl) (hw_safe (Λ := Cuts.none (fun _ => none)) mix _ _ _ _ _ (Eq.mp (by kernel_rfl) h) (obs_none _ _ _ _ _))

-- maps.Copy[map[int]string,map[int]string,int,string]
def W_maps_Copy_map_int_string_map_int_string_int_string.l1 (K : Value → Hp → Prop) : Nat → Option Nat → Value → Hp → Prop
  | 0, _, _, _ => False
  | k + 1, r3, v2, H =>
    let R1 := W_maps_Copy_map_int_string_map_int_string_int_string.l1 K k
    SemK Try.prog (Instr.next (v2) false 0) H fun v3 H2 => Ex v3 0 fun v4 => DB v4 fun c1 => BIf c1 (SemK Try.prog (Instr.entry (v2)) H2 fun v5 H3 => Ex v5 0 fun v6 => DI .i64 v6 fun x1 => Ex v5 1 fun v7 => DS v7 fun s1 => SemK Try.prog (Instr.mapUpdate 32 (.map r3) (.int .i64 x1) (.string s1)) H3 fun _ H4 => R1 r3 v2 H4) (K (.tuple #[]) H2)
def W_maps_Copy_map_int_string_map_int_string_int_string (r1 : Option Nat) (r2 : Option Nat) (H : Hp) (K : Value → Hp → Prop) : Prop :=
  SemK Try.prog (Instr.range 32 (.map r2)) H fun v1 H1 => (∃ k, W_maps_Copy_map_int_string_map_int_string_int_string.l1 K k r1 v1 H1)
def W_maps_Copy_map_int_string_map_int_string_int_string.l1.L (K : Value → Hp → Prop) (k : Nat) : Mid := fun E D H =>
  DG (E.get? 0) fun w0 => DM w0 fun r3 => DG (E.get? 7) fun w7 => (fun v2 => DNilD D (W_maps_Copy_map_int_string_map_int_string_int_string.l1 K k r3 v2 H)) w7
def W_maps_Copy_map_int_string_map_int_string_int_string.Λ1 (_ : Value → Hp → Prop) (_R1 : Option Nat → Value → Hp → Prop) : Cuts := Cuts.none (fun _ => none)
def W_maps_Copy_map_int_string_map_int_string_int_string.Λ (K : Value → Hp → Prop) : Cuts := ⟨fun i => none, fun i => match Nat.beq i 1 with | true => some (fun E D H => ∃ k, W_maps_Copy_map_int_string_map_int_string_int_string.l1.L K k E D H) | false => none, (fun _ => none)⟩
theorem W_maps_Copy_map_int_string_map_int_string_int_string.ok (r1 : Option Nat) (r2 : Option Nat) (H : Hp) (K : Value → Hp → Prop) (h : W_maps_Copy_map_int_string_map_int_string_int_string r1 r2 H K) : HCalls Try.prog 67 #[.map r1, .map r2] H K :=
  hcalls Try.func67 rfl (Nat.le_of_ble_eq_true rfl) (hw_safe (Λ := (W_maps_Copy_map_int_string_map_int_string_int_string.Λ K)) mix _ _ _ _ _ (Eq.mp (by kernel_rfl) h) (obs_seq obs_region rfl (obs_block (obs_loop rfl (fun E D H h => by
      refine Safe.loop' (W_maps_Copy_map_int_string_map_int_string_int_string.l1.L K) (fun E D H h => ?_) (fun k E D H h => ?_) E D H h
      · obtain ⟨w0, e0, g1⟩ := DG.out h; obtain ⟨r3, rfl, g2⟩ := DM.out g1; obtain ⟨w7, e7, g3⟩ := DG.out g2; obtain ⟨v2, rfl⟩ : ∃ q, q = w7 := ⟨_, rfl⟩; obtain ⟨rfl, h'⟩ := DNilD.out g3; exact h'
      · obtain ⟨w0, e0, g1⟩ := DG.out h
        obtain ⟨r3, rfl, g2⟩ := DM.out g1
        obtain ⟨w7, e7, g3⟩ := DG.out g2
        obtain ⟨v2, rfl⟩ : ∃ q, q = w7 := ⟨_, rfl⟩
        obtain ⟨rfl, h'⟩ := DNilD.out g3
        exact (hw_safe (Λ := (W_maps_Copy_map_int_string_map_int_string_int_string.Λ1 K (W_maps_Copy_map_int_string_map_int_string_int_string.l1 K k))) mix _ _ [(0, .map r3), (7, v2)] [] H (Eq.mp (by kernel_rfl) h') (obs_seq obs_region rfl (obs_seq (obs_cond obs_skip obs_exit) rfl (obs_block (obs_seq obs_region rfl obs_region))))).weaken (EnvLe.cons e0 (EnvLe.cons e7 (EnvLe.nil _))) (Hp.le_refl _))))))

-- maps.Keys[map[int]int,int,int]$1
def W_maps_Keys_map_int_int_int_int_1.l1 (K : Value → Hp → Prop) : Nat → FuncId → Array Value → Array Value → Value → Hp → Prop
  | 0, _, _, _, _, _ => False
  | k + 1, fd2, F2, C2, v3, H =>
    let R1 := W_maps_Keys_map_int_int_int_int_1.l1 K k
    SemK Try.prog (Instr.next (v3) false 0) H fun v4 H2 => Ex v4 0 fun v5 => DB v5 fun c1 => BIf c1 (SemK Try.prog (Instr.entry (v3)) H2 fun v6 H3 => Ex v6 0 fun v7 => DI .i64 v7 fun x1 => BIf (callable Try.prog fd2) (HCalls Try.prog fd2 ((F2 ++ #[.int .i64 x1]) ++ C2) H3 fun v8 H4 => DR Try.prog (resTypes Try.prog fd2) v8 fun v9 => DB v9 fun c2 => BIf (!c2) (K (.tuple #[]) H4) (R1 fd2 F2 C2 v3 H4)) False) (K (.tuple #[]) H2)
def W_maps_Keys_map_int_int_int_int_1 (fd1 : FuncId) (F1 : Array Value) (C1 : Array Value) (p1 : Option Addr) (H : Hp) (K : Value → Hp → Prop) : Prop :=
  NN p1 fun a1 => Ld H a1 fun v1 => DM v1 fun r1 => SemK Try.prog (Instr.range 37 (.map r1)) H fun v2 H1 => (∃ k, W_maps_Keys_map_int_int_int_int_1.l1 K k fd1 F1 C1 v2 H1)
def W_maps_Keys_map_int_int_int_int_1.l1.L (K : Value → Hp → Prop) (k : Nat) : Mid := fun E D H =>
  DG (E.get? 0) fun w0 => DFn w0 fun fd2 F2 C2 => DG (E.get? 5) fun w5 => (fun v3 => DNilD D (W_maps_Keys_map_int_int_int_int_1.l1 K k fd2 F2 C2 v3 H)) w5
def W_maps_Keys_map_int_int_int_int_1.Λ1 (_ : Value → Hp → Prop) (_R1 : FuncId → Array Value → Array Value → Value → Hp → Prop) : Cuts := Cuts.none (fun _ => none)
def W_maps_Keys_map_int_int_int_int_1.Λ (K : Value → Hp → Prop) : Cuts := ⟨fun i => none, fun i => match Nat.beq i 1 with | true => some (fun E D H => ∃ k, W_maps_Keys_map_int_int_int_int_1.l1.L K k E D H) | false => none, (fun _ => none)⟩
theorem W_maps_Keys_map_int_int_int_int_1.ok (fd1 : FuncId) (F1 : Array Value) (C1 : Array Value) (p1 : Option Addr) (H : Hp) (K : Value → Hp → Prop) (h : W_maps_Keys_map_int_int_int_int_1 fd1 F1 C1 p1 H K) : HCalls Try.prog 70 #[.func (.func fd1) F1 C1, .pointer p1] H K :=
  hcalls Try.func70 rfl (Nat.le_of_ble_eq_true rfl) (hw_safe (Λ := (W_maps_Keys_map_int_int_int_int_1.Λ K)) mix _ _ _ _ _ (Eq.mp (by kernel_rfl) h) (obs_seq obs_region rfl (obs_block (obs_loop rfl (fun E D H h => by
      refine Safe.loop' (W_maps_Keys_map_int_int_int_int_1.l1.L K) (fun E D H h => ?_) (fun k E D H h => ?_) E D H h
      · obtain ⟨w0, e0, g1⟩ := DG.out h; obtain ⟨fd2, F2, C2, rfl, g2⟩ := DFn.out g1; obtain ⟨w5, e5, g3⟩ := DG.out g2; obtain ⟨v3, rfl⟩ : ∃ q, q = w5 := ⟨_, rfl⟩; obtain ⟨rfl, h'⟩ := DNilD.out g3; exact h'
      · obtain ⟨w0, e0, g1⟩ := DG.out h
        obtain ⟨fd2, F2, C2, rfl, g2⟩ := DFn.out g1
        obtain ⟨w5, e5, g3⟩ := DG.out g2
        obtain ⟨v3, rfl⟩ : ∃ q, q = w5 := ⟨_, rfl⟩
        obtain ⟨rfl, h'⟩ := DNilD.out g3
        exact (hw_safe (Λ := (W_maps_Keys_map_int_int_int_int_1.Λ1 K (W_maps_Keys_map_int_int_int_int_1.l1 K k))) mix _ _ [(0, .func (.func fd2) F2 C2), (5, v3)] [] H (Eq.mp (by kernel_rfl) h') (obs_seq obs_region rfl (obs_seq (obs_cond obs_skip obs_exit) rfl (obs_block (obs_seq obs_region rfl (obs_seq obs_region rfl (obs_cond obs_ret obs_skip))))))).weaken (EnvLe.cons e0 (EnvLe.cons e5 (EnvLe.nil _))) (Hp.le_refl _))))))

-- maps.Keys[map[int]string,int,string]
def W_maps_Keys_map_int_string_int_string (r1 : Option Nat) (H : Hp) (K : Value → Hp → Prop) : Prop :=
  Nw H (.obj (.cells #[.map r1] 32)) fun b1 H1 => K (.func (.func 85) #[] #[.pointer (some (⟨b1, 0, none⟩ : Addr))]) H1
def W_maps_Keys_map_int_string_int_string.Λ (_ : Value → Hp → Prop) : Cuts := Cuts.none (fun _ => none)
theorem W_maps_Keys_map_int_string_int_string.ok (r1 : Option Nat) (H : Hp) (K : Value → Hp → Prop) (h : W_maps_Keys_map_int_string_int_string r1 H K) : HCalls Try.prog 71 #[.map r1] H K :=
  hcalls Try.func71 rfl (Nat.le_of_ble_eq_true rfl) (hw_safe (Λ := Cuts.none (fun _ => none)) mix _ _ _ _ _ (Eq.mp (by kernel_rfl) h) (obs_none _ _ _ _ _))

-- maps.Keys[map[int]string,int,string]$1
def W_maps_Keys_map_int_string_int_string_1.l1 (K : Value → Hp → Prop) : Nat → FuncId → Array Value → Array Value → Value → Hp → Prop
  | 0, _, _, _, _, _ => False
  | k + 1, fd2, F2, C2, v3, H =>
    let R1 := W_maps_Keys_map_int_string_int_string_1.l1 K k
    SemK Try.prog (Instr.next (v3) false 0) H fun v4 H2 => Ex v4 0 fun v5 => DB v5 fun c1 => BIf c1 (SemK Try.prog (Instr.entry (v3)) H2 fun v6 H3 => Ex v6 0 fun v7 => DI .i64 v7 fun x1 => BIf (callable Try.prog fd2) (HCalls Try.prog fd2 ((F2 ++ #[.int .i64 x1]) ++ C2) H3 fun v8 H4 => DR Try.prog (resTypes Try.prog fd2) v8 fun v9 => DB v9 fun c2 => BIf (!c2) (K (.tuple #[]) H4) (R1 fd2 F2 C2 v3 H4)) False) (K (.tuple #[]) H2)
def W_maps_Keys_map_int_string_int_string_1 (fd1 : FuncId) (F1 : Array Value) (C1 : Array Value) (p1 : Option Addr) (H : Hp) (K : Value → Hp → Prop) : Prop :=
  NN p1 fun a1 => Ld H a1 fun v1 => DM v1 fun r1 => SemK Try.prog (Instr.range 32 (.map r1)) H fun v2 H1 => (∃ k, W_maps_Keys_map_int_string_int_string_1.l1 K k fd1 F1 C1 v2 H1)
def W_maps_Keys_map_int_string_int_string_1.l1.L (K : Value → Hp → Prop) (k : Nat) : Mid := fun E D H =>
  DG (E.get? 0) fun w0 => DFn w0 fun fd2 F2 C2 => DG (E.get? 5) fun w5 => (fun v3 => DNilD D (W_maps_Keys_map_int_string_int_string_1.l1 K k fd2 F2 C2 v3 H)) w5
def W_maps_Keys_map_int_string_int_string_1.Λ1 (_ : Value → Hp → Prop) (_R1 : FuncId → Array Value → Array Value → Value → Hp → Prop) : Cuts := Cuts.none (fun _ => none)
def W_maps_Keys_map_int_string_int_string_1.Λ (K : Value → Hp → Prop) : Cuts := ⟨fun i => none, fun i => match Nat.beq i 1 with | true => some (fun E D H => ∃ k, W_maps_Keys_map_int_string_int_string_1.l1.L K k E D H) | false => none, (fun _ => none)⟩
theorem W_maps_Keys_map_int_string_int_string_1.ok (fd1 : FuncId) (F1 : Array Value) (C1 : Array Value) (p1 : Option Addr) (H : Hp) (K : Value → Hp → Prop) (h : W_maps_Keys_map_int_string_int_string_1 fd1 F1 C1 p1 H K) : HCalls Try.prog 85 #[.func (.func fd1) F1 C1, .pointer p1] H K :=
  hcalls Try.func85 rfl (Nat.le_of_ble_eq_true rfl) (hw_safe (Λ := (W_maps_Keys_map_int_string_int_string_1.Λ K)) mix _ _ _ _ _ (Eq.mp (by kernel_rfl) h) (obs_seq obs_region rfl (obs_block (obs_loop rfl (fun E D H h => by
      refine Safe.loop' (W_maps_Keys_map_int_string_int_string_1.l1.L K) (fun E D H h => ?_) (fun k E D H h => ?_) E D H h
      · obtain ⟨w0, e0, g1⟩ := DG.out h; obtain ⟨fd2, F2, C2, rfl, g2⟩ := DFn.out g1; obtain ⟨w5, e5, g3⟩ := DG.out g2; obtain ⟨v3, rfl⟩ : ∃ q, q = w5 := ⟨_, rfl⟩; obtain ⟨rfl, h'⟩ := DNilD.out g3; exact h'
      · obtain ⟨w0, e0, g1⟩ := DG.out h
        obtain ⟨fd2, F2, C2, rfl, g2⟩ := DFn.out g1
        obtain ⟨w5, e5, g3⟩ := DG.out g2
        obtain ⟨v3, rfl⟩ : ∃ q, q = w5 := ⟨_, rfl⟩
        obtain ⟨rfl, h'⟩ := DNilD.out g3
        exact (hw_safe (Λ := (W_maps_Keys_map_int_string_int_string_1.Λ1 K (W_maps_Keys_map_int_string_int_string_1.l1 K k))) mix _ _ [(0, .func (.func fd2) F2 C2), (5, v3)] [] H (Eq.mp (by kernel_rfl) h') (obs_seq obs_region rfl (obs_seq (obs_cond obs_skip obs_exit) rfl (obs_block (obs_seq obs_region rfl (obs_seq obs_region rfl (obs_cond obs_ret obs_skip))))))).weaken (EnvLe.cons e0 (EnvLe.cons e5 (EnvLe.nil _))) (Hp.le_refl _))))))

end Go.Proofs.Ytbnhfcdagoigkaa.W
