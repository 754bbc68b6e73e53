/- Formulas of functions, printed by wip/tools/hwp.py. -/
import Derived.Test.YtbnhfcdagoigkaaHwE
import Derived.Test.YtbnhfcdagoigkaaProg
set_option maxRecDepth 100000
set_option linter.unusedVariables false
namespace Go.Proofs.Ytbnhfcdagoigkaa.W
open Go Go.Hw

theorem mix : Try.prog.follows .mixedOrders = true := by kernel_rfl
-- (*stream.Pipe).Words
def W_stream_Pipe_Words (p1 : Option Addr) (H : Hp) (K : Value → Hp → Prop) : Prop :=
  NN p1 fun a1 => Ld H ((a1.add 2).add 2) fun v1 => DI .i64 v1 fun x1 => K (.int .i64 x1) H
def W_stream_Pipe_Words.Λ (_ : Value → Hp → Prop) : Cuts := Cuts.none (fun _ => none)
theorem W_stream_Pipe_Words.ok (p1 : Option Addr) (H : Hp) (K : Value → Hp → Prop) (h : W_stream_Pipe_Words p1 H K) : HCalls Try.prog 18 #[.pointer p1] H K :=
  hcalls Try.func18 rfl (Nat.le_of_ble_eq_true rfl) (hw_safe (Λ := Cuts.none (fun _ => none)) mix _ _ _ _ _ (Eq.mp (by kernel_rfl) h) (obs_none _ _ _ _ _))

-- (*stream.Pipe).Write
def W_stream_Pipe_Write.j15 (K : Value → Hp → Prop) (R9 : Option Addr → Option Addr → Nat → Nat → Option Addr → Option Addr → Nat → Nat → Int → Int → Option Addr → Option Addr → Nat → Nat → Hp → Prop) (p12 : Option Addr) (A8 : Option Addr) (n8 : Nat) (m8 : Nat) (p13 : Option Addr) (a7 : Addr) (A9 : Option Addr) (n9 : Nat) (m9 : Nat) (x14 : Int) (x15 : Int) (p14 : Option Addr) (A10 : Option Addr) (n10 : Nat) (m10 : Nat) (H : Hp) : Prop :=
  QCall Try.prog 46 #[.pointer p13] H fun v19 => DSl v19 fun A11 n11 m11 => Ld H (a7.add 1) fun v20 => DI .i64 v20 fun x16 => slB n11 m11 (some x16) none fun n12 n13 => Ld H (a7.add 2) fun v21 => DI .i64 v21 fun x17 => slB n8 m8 none (some x17) fun n14 n15 => CpK Try.prog 62 (.slice (slA A11 m11 n12 1) (n13 - n12) (m11 - n12)) (.slice (slA A8 m8 n14 1) (n15 - n14) (m8 - n14)) H fun v22 H10 => DI .i64 v22 fun x18 => NN p12 fun a8 => Ld H10 (a7.add 0) fun v23 => DI .i64 v23 fun x19 => HCalls Try.prog 47 #[.pointer (some (a8.add 0)), .int .i64 x19, .pointer p13] H10 fun v24 H11 => DI .i64 v24 fun x20 => BIf (x20 != (0 : Int)) (HCallsD Try.prog 44 #[.pointer p14, .slice A10 n10 m10] H11 fun _ H13 => K (.int .i64 x20) H13) (Ld H11 (a7.add 2) fun v25 => DI .i64 v25 fun x21 => slB n8 m8 (some x21) none fun n16 n17 => R9 p12 (slA A8 m8 n16 1) (n17 - n16) (m8 - n16) p13 A9 n9 m9 x14 (IntKind.i64.wrap (x15 + (1 : Int))) p14 A10 n10 m10 H11)
def W_stream_Pipe_Write.l9 (K : Value → Hp → Prop) : Nat → Option Addr → Option Addr → Nat → Nat → Option Addr → Option Addr → Nat → Nat → Int → Int → Option Addr → Option Addr → Nat → Nat → Hp → Prop
  | 0, _, _, _, _, _, _, _, _, _, _, _, _, _, _, _ => False
  | k + 1, p9, A5, n5, m5, p10, A6, n6, m6, x8, x9, p11, A7, n7, m7, H =>
    let R9 := W_stream_Pipe_Write.l9 K k
    BIf (decide (x9 < x8)) (ixI x9 n6 (NN A6 fun a4 => LdA H (a4.add (x9.toNat * 3)) 3 fun l10 => Nw H (.obj (.cells #[.int .i64 (0 : Int), .int .i64 (0 : Int), .int .i64 (0 : Int)] 110)) fun b2 H7 => StA H7 (⟨b2, 0, none⟩ : Addr) l10.toArray 3 fun H8 => Ld H8 ((⟨b2, 0, none⟩ : Addr).add 2) fun v15 => DI .i64 v15 fun x10 => NN p9 fun a5 => QCall Try.prog 43 #[.pointer (some (a5.add 0))] H8 fun v16 => DI .i64 v16 fun x11 => BIf (decide (x10 < x11)) (NN p9 fun a6 => Ld H8 ((⟨b2, 0, none⟩ : Addr).add 0) fun v17 => DI .i64 v17 fun x12 => HCalls Try.prog 45 #[.pointer (some (a6.add 0)), .int .i64 x12, .pointer p10] H8 fun v18 H9 => DI .i64 v18 fun x13 => BIf (x13 != (0 : Int)) (HCallsD Try.prog 44 #[.pointer p11, .slice A7 n7 m7] H9 fun _ H12 => K (.int .i64 x13) H12) (W_stream_Pipe_Write.j15 K R9 p9 A5 n5 m5 p10 (⟨b2, 0, none⟩ : Addr) A6 n6 m6 x8 x9 p11 A7 n7 m7 H9)) (W_stream_Pipe_Write.j15 K R9 p9 A5 n5 m5 p10 (⟨b2, 0, none⟩ : Addr) A6 n6 m6 x8 x9 p11 A7 n7 m7 H8))) (HCallsD Try.prog 44 #[.pointer p11, .slice A7 n7 m7] H fun _ H14 => K (.int .i64 (0 : Int)) H14)
def W_stream_Pipe_Write.j5 (K : Value → Hp → Prop) (p6 : Option Addr) (A3 : Option Addr) (n3 : Nat) (m3 : Nat) (A4 : Option Addr) (n4 : Nat) (m4 : Nat) (x7 : Int) (p7 : Option Addr) (H : Hp) : Prop :=
  BIf (x7 != (0 : Int)) (K (.int .i64 x7) H) (NN p6 fun a3 => Ld H ((a3.add 0).add 1) fun v14 => DP v14 fun p8 => Nw H (.row [.pointer p7] 105 1) fun b1 H6 => (∃ k, W_stream_Pipe_Write.l9 K k p6 A3 n3 m3 p7 A4 n4 m4 ((n4 : Nat) : Int) (0 : Int) p8 (some ⟨b1, 0, none⟩) 1 1 H6))
def W_stream_Pipe_Write (p1 : Option Addr) (x1 : Int) (A1 : Option Addr) (n1 : Nat) (m1 : Nat) (H : Hp) (K : Value → Hp → Prop) : Prop :=
  HCalls Try.prog 41 #[.pointer p1, .int .i64 x1, .int .i64 ((n1 : Nat) : Int)] H fun v1 H1 => DTup v1 fun l1 => DCons l1 fun v2 l2 => DSl v2 fun A2 n2 m2 => DCons l2 fun v3 l3 => DI .i64 v3 fun x2 => DNil l3 (BIf (x2 != (0 : Int)) (K (.int .i64 x2) H1) (BIf (((n1 : Nat) : Int) == (0 : Int)) (K (.int .i64 x2) H1) (NN p1 fun a1 => NN p1 fun a2 => (Ld H1 ((a1.add 0).add 1) fun v4 => DP v4 fun p2 => HCalls Try.prog 43 #[.pointer (some (a2.add 0))] H1 fun v5 H2 => DI .i64 v5 fun x3 => HCalls Try.prog 42 #[.pointer p2, .int .i64 x3] H2 fun v6 H3 => DTup v6 fun l4 => DCons l4 fun v7 l5 => DP v7 fun p3 => DCons l5 fun v8 l6 => DI .i64 v8 fun x4 => DNil l6 (W_stream_Pipe_Write.j5 K p1 A1 n1 m1 A2 n2 m2 x4 p3 H3)) ∧ (HCalls Try.prog 43 #[.pointer (some (a2.add 0))] H1 fun v9 H4 => DI .i64 v9 fun x5 => Ld H4 ((a1.add 0).add 1) fun v10 => DP v10 fun p4 => HCalls Try.prog 42 #[.pointer p4, .int .i64 x5] H4 fun v11 H5 => DTup v11 fun l7 => DCons l7 fun v12 l8 => DP v12 fun p5 => DCons l8 fun v13 l9 => DI .i64 v13 fun x6 => DNil l9 (W_stream_Pipe_Write.j5 K p1 A1 n1 m1 A2 n2 m2 x6 p5 H5)))))
def W_stream_Pipe_Write.l9.L (K : Value → Hp → Prop) (k : Nat) : Mid := fun E D H =>
  DG (E.get? 0) fun w0 => DP w0 fun p9 => DG (E.get? 2) fun w2 => DSl w2 fun A5 n5 m5 => DG (E.get? 9) fun w9 => DP w9 fun p10 => DG (E.get? 53) fun w53 => DSl w53 fun A6 n6 m6 => DG (E.get? 54) fun w54 => DI .i64 w54 fun x8 => DG (E.get? 55) fun w55 => DI .i64 w55 fun x9 => DDef 44 D fun dc0 da0 D1 => DNil dc0 (DCons da0 fun u0da0 r0da0 => DP u0da0 fun p11 => DCons r0da0 fun u1da0 r1da0 => DSl u1da0 fun A7 n7 m7 => DNil r1da0 (DNilD D1 (W_stream_Pipe_Write.l9 K k p9 A5 n5 m5 p10 A6 n6 m6 x8 x9 p11 A7 n7 m7 H)))
def W_stream_Pipe_Write.Λ9 (K : Value → Hp → Prop) (R9 : Option Addr → Option Addr → Nat → Nat → Option Addr → Option Addr → Nat → Nat → Int → Int → Option Addr → Option Addr → Nat → Nat → Hp → Prop) : Cuts := ⟨fun i => match Nat.beq i 15 with | true => some (fun E D H => DG (E.get? 0) fun w0 => DP w0 fun p12 => DG (E.get? 2) fun w2 => DSl w2 fun A8 n8 m8 => DG (E.get? 9) fun w9 => DP w9 fun p13 => DG (E.get? 11) fun w11 => DP w11 fun pw11 => NN pw11 fun a7 => DG (E.get? 53) fun w53 => DSl w53 fun A9 n9 m9 => DG (E.get? 54) fun w54 => DI .i64 w54 fun x14 => DG (E.get? 55) fun w55 => DI .i64 w55 fun x15 => DDef 44 D fun dc0 da0 D1 => DNil dc0 (DCons da0 fun u0da0 r0da0 => DP u0da0 fun p14 => DCons r0da0 fun u1da0 r1da0 => DSl u1da0 fun A10 n10 m10 => DNil r1da0 (DNilD D1 (W_stream_Pipe_Write.j15 K R9 p12 A8 n8 m8 p13 a7 A9 n9 m9 x14 x15 p14 A10 n10 m10 H)))) | false => none, fun i => none, (fun i => match Nat.beq i 16 with | true => some ([], [0, 1, 2, 3, 4, 5], 6) | false => match Nat.beq i 15 with | true => some ([], [0, 1, 2, 3, 4, 5, 6, 7, 8], 9) | false => match Nat.beq i 12 with | true => some ([], [0, 1, 2, 3, 4, 5], 6) | false => match Nat.beq i 4 with | true => some ([], [], 0) | false => none)⟩
def W_stream_Pipe_Write.Λ (K : Value → Hp → Prop) : Cuts := ⟨fun i => match Nat.beq i 5 with | true => some (fun E D H => DG (E.get? 0) fun w0 => DP w0 fun p6 => DG (E.get? 2) fun w2 => DSl w2 fun A3 n3 m3 => DG (E.get? 7) fun w7 => DSl w7 fun A4 n4 m4 => DG (E.get? 8) fun w8 => DI .i64 w8 fun x7 => DG (E.get? 9) fun w9 => DP w9 fun p7 => DNilD D (W_stream_Pipe_Write.j5 K p6 A3 n3 m3 A4 n4 m4 x7 p7 H)) | false => none, fun i => match Nat.beq i 9 with | true => some (fun E D H => ∃ k, W_stream_Pipe_Write.l9.L K k E D H) | false => none, (fun i => match Nat.beq i 16 with | true => some ([], [0, 1, 2, 3, 4, 5], 6) | false => match Nat.beq i 15 with | true => some ([], [0, 1, 2, 3, 4, 5, 6, 7, 8], 9) | false => match Nat.beq i 12 with | true => some ([], [0, 1, 2, 3, 4, 5], 6) | false => match Nat.beq i 4 with | true => some ([], [], 0) | false => none)⟩
theorem W_stream_Pipe_Write.ok (p1 : Option Addr) (x1 : Int) (A1 : Option Addr) (n1 : Nat) (m1 : Nat) (H : Hp) (K : Value → Hp → Prop) (h : W_stream_Pipe_Write p1 x1 A1 n1 m1 H K) : HCalls Try.prog 19 #[.pointer p1, .int .i64 x1, .slice A1 n1 m1] H K :=
  hcalls Try.func19 rfl (Nat.le_of_ble_eq_true rfl) (hw_safe (Λ := (W_stream_Pipe_Write.Λ K)) mix _ _ _ _ _ (Eq.mp (by kernel_rfl) h) (obs_seq obs_region rfl (obs_seq obs_region rfl (obs_seq (obs_seq obs_region rfl (obs_cond (obs_seq obs_region rfl obs_ret) obs_skip)) rfl (obs_seqc obs_region rfl (fun E D H h => by
      obtain ⟨w0, e0, g1⟩ := DG.out h
      obtain ⟨p6, rfl, g2⟩ := DP.out g1
      obtain ⟨w2, e2, g3⟩ := DG.out g2
      obtain ⟨A3, n3, m3, rfl, g4⟩ := DSl.out g3
      obtain ⟨w7, e7, g5⟩ := DG.out g4
      obtain ⟨A4, n4, m4, rfl, g6⟩ := DSl.out g5
      obtain ⟨w8, e8, g7⟩ := DG.out g6
      obtain ⟨x7, rfl, g8⟩ := DI.out g7
      obtain ⟨w9, e9, g9⟩ := DG.out g8
      obtain ⟨p7, rfl, g10⟩ := DP.out g9
      obtain ⟨rfl, h'⟩ := DNilD.out g10
      exact (hw_safe (Λ := (W_stream_Pipe_Write.Λ K)) mix _ _ [(0, .pointer p6), (2, .slice A3 n3 m3), (7, .slice A4 n4 m4), (8, .int .i64 x7), (9, .pointer p7)] [] H (Eq.mp (by kernel_rfl) h') (obs_seq (obs_seq obs_region rfl (obs_cond (obs_seq obs_region rfl obs_ret) obs_skip)) rfl (obs_seq obs_region rfl (obs_seq (obs_seq obs_region rfl (obs_block (obs_loop rfl (fun E D H h => by
          refine Safe.loop' (W_stream_Pipe_Write.l9.L K) (fun E D H h => ?_) (fun k E D H h => ?_) E D H h
          · obtain ⟨w0, e0, g1⟩ := DG.out h; obtain ⟨p9, rfl, g2⟩ := DP.out g1; obtain ⟨w2, e2, g3⟩ := DG.out g2; obtain ⟨A5, n5, m5, rfl, g4⟩ := DSl.out g3; obtain ⟨w9, e9, g5⟩ := DG.out g4; obtain ⟨p10, rfl, g6⟩ := DP.out g5; obtain ⟨w53, e53, g7⟩ := DG.out g6; obtain ⟨A6, n6, m6, rfl, g8⟩ := DSl.out g7; obtain ⟨w54, e54, g9⟩ := DG.out g8; obtain ⟨x8, rfl, g10⟩ := DI.out g9; obtain ⟨w55, e55, g11⟩ := DG.out g10; obtain ⟨x9, rfl, g12⟩ := DI.out g11; obtain ⟨dc0, da0, D1, rfl, g13⟩ := DDef.out g12; obtain ⟨rfl, g14⟩ := DNil.out g13; obtain ⟨u0da0, r0da0, rfl, g15⟩ := DCons.out g14; obtain ⟨p11, rfl, g16⟩ := DP.out g15; obtain ⟨u1da0, r1da0, rfl, g17⟩ := DCons.out g16; obtain ⟨A7, n7, m7, rfl, g18⟩ := DSl.out g17; obtain ⟨rfl, g19⟩ := DNil.out g18; obtain ⟨rfl, h'⟩ := DNilD.out g19; exact h'
          · obtain ⟨w0, e0, g1⟩ := DG.out h
            obtain ⟨p9, rfl, g2⟩ := DP.out g1
            obtain ⟨w2, e2, g3⟩ := DG.out g2
            obtain ⟨A5, n5, m5, rfl, g4⟩ := DSl.out g3
            obtain ⟨w9, e9, g5⟩ := DG.out g4
            obtain ⟨p10, rfl, g6⟩ := DP.out g5
            obtain ⟨w53, e53, g7⟩ := DG.out g6
            obtain ⟨A6, n6, m6, rfl, g8⟩ := DSl.out g7
            obtain ⟨w54, e54, g9⟩ := DG.out g8
            obtain ⟨x8, rfl, g10⟩ := DI.out g9
            obtain ⟨w55, e55, g11⟩ := DG.out g10
            obtain ⟨x9, rfl, g12⟩ := DI.out g11
            obtain ⟨dc0, da0, D1, rfl, g13⟩ := DDef.out g12
            obtain ⟨rfl, g14⟩ := DNil.out g13
            obtain ⟨u0da0, r0da0, rfl, g15⟩ := DCons.out g14
            obtain ⟨p11, rfl, g16⟩ := DP.out g15
            obtain ⟨u1da0, r1da0, rfl, g17⟩ := DCons.out g16
            obtain ⟨A7, n7, m7, rfl, g18⟩ := DSl.out g17
            obtain ⟨rfl, g19⟩ := DNil.out g18
            obtain ⟨rfl, h'⟩ := DNilD.out g19
            exact (hw_safe (Λ := (W_stream_Pipe_Write.Λ9 K (W_stream_Pipe_Write.l9 K k))) mix _ _ [(0, .pointer p9), (2, .slice A5 n5 m5), (9, .pointer p10), (53, .slice A6 n6 m6), (54, .int .i64 x8), (55, .int .i64 x9)] [{ target := .fn (.func 44) #[], args := #[.pointer p11, .slice A7 n7 m7] }] H (Eq.mp (by kernel_rfl) h') (obs_seq obs_region rfl (obs_seq (obs_cond obs_skip obs_exit) rfl (obs_seq (obs_block (obs_seq obs_region rfl (obs_seqc (obs_seq obs_region rfl (obs_cond (obs_seq obs_region rfl (obs_seq obs_region rfl (obs_cond (obs_seq obs_region rfl obs_ret) obs_skip))) obs_skip)) rfl (fun E D H h => by
                obtain ⟨w0, e0, g1⟩ := DG.out h
                obtain ⟨p12, rfl, g2⟩ := DP.out g1
                obtain ⟨w2, e2, g3⟩ := DG.out g2
                obtain ⟨A8, n8, m8, rfl, g4⟩ := DSl.out g3
                obtain ⟨w9, e9, g5⟩ := DG.out g4
                obtain ⟨p13, rfl, g6⟩ := DP.out g5
                obtain ⟨w11, e11, g7⟩ := DG.out g6
                obtain ⟨pw11, rfl, g8⟩ := DP.out g7
                obtain ⟨a7, rfl, g9⟩ := NN.out g8
                obtain ⟨w53, e53, g10⟩ := DG.out g9
                obtain ⟨A9, n9, m9, rfl, g11⟩ := DSl.out g10
                obtain ⟨w54, e54, g12⟩ := DG.out g11
                obtain ⟨x14, rfl, g13⟩ := DI.out g12
                obtain ⟨w55, e55, g14⟩ := DG.out g13
                obtain ⟨x15, rfl, g15⟩ := DI.out g14
                obtain ⟨dc0, da0, D1, rfl, g16⟩ := DDef.out g15
                obtain ⟨rfl, g17⟩ := DNil.out g16
                obtain ⟨u0da0, r0da0, rfl, g18⟩ := DCons.out g17
                obtain ⟨p14, rfl, g19⟩ := DP.out g18
                obtain ⟨u1da0, r1da0, rfl, g20⟩ := DCons.out g19
                obtain ⟨A10, n10, m10, rfl, g21⟩ := DSl.out g20
                obtain ⟨rfl, g22⟩ := DNil.out g21
                obtain ⟨rfl, h'⟩ := DNilD.out g22
                exact (hw_safe (Λ := (W_stream_Pipe_Write.Λ9 K (W_stream_Pipe_Write.l9 K k))) mix _ _ [(0, .pointer p12), (2, .slice A8 n8 m8), (9, .pointer p13), (11, .pointer (some a7)), (53, .slice A9 n9 m9), (54, .int .i64 x14), (55, .int .i64 x15)] [{ target := .fn (.func 44) #[], args := #[.pointer p14, .slice A10 n10 m10] }] H (Eq.mp (by kernel_rfl) h') (obs_seq obs_region rfl (obs_seq (obs_seq obs_region rfl (obs_seq obs_region rfl (obs_cond (obs_seq obs_region rfl obs_ret) obs_skip))) rfl obs_region))).weaken (EnvLe.cons e0 (EnvLe.cons e2 (EnvLe.cons e9 (EnvLe.cons e11 (EnvLe.cons e53 (EnvLe.cons e54 (EnvLe.cons e55 (EnvLe.nil _)))))))) (Hp.le_refl _))))) rfl obs_region)))).weaken (EnvLe.cons e0 (EnvLe.cons e2 (EnvLe.cons e9 (EnvLe.cons e53 (EnvLe.cons e54 (EnvLe.cons e55 (EnvLe.nil _))))))) (Hp.le_refl _))))) rfl (obs_seq obs_region rfl obs_ret))))).weaken (EnvLe.cons e0 (EnvLe.cons e2 (EnvLe.cons e7 (EnvLe.cons e8 (EnvLe.cons e9 (EnvLe.nil _)))))) (Hp.le_refl _)))))))

-- (*stream.Pipe).Read
def W_stream_Pipe_Read.l9 (K : Value → Hp → Prop) : Nat → Option Addr → Option Addr → Nat → Nat → Option Addr → Option Addr → Nat → Nat → Int → Int → Option Addr → Option Addr → Nat → Nat → Hp → Prop
  | 0, _, _, _, _, _, _, _, _, _, _, _, _, _, _, _ => False
  | k + 1, p9, A5, n5, m5, p10, A6, n6, m6, x8, x9, p11, A7, n7, m7, H =>
    let R9 := W_stream_Pipe_Read.l9 K k
    BIf (decide (x9 < x8)) (ixI x9 n6 (NN A6 fun a4 => LdA H (a4.add (x9.toNat * 3)) 3 fun l10 => Nw H (.obj (.cells #[.int .i64 (0 : Int), .int .i64 (0 : Int), .int .i64 (0 : Int)] 110)) fun b2 H7 => StA H7 (⟨b2, 0, none⟩ : Addr) l10.toArray 3 fun H8 => NN p9 fun a5 => Ld H8 ((⟨b2, 0, none⟩ : Addr).add 0) fun v15 => DI .i64 v15 fun x10 => HCalls Try.prog 45 #[.pointer (some (a5.add 0)), .int .i64 x10, .pointer p10] H8 fun v16 H9 => DI .i64 v16 fun x11 => BIf (x11 != (0 : Int)) (HCallsD Try.prog 44 #[.pointer p11, .slice A7 n7 m7] H9 fun _ H11 => K (.int .i64 x11) H11) (Ld H9 ((⟨b2, 0, none⟩ : Addr).add 2) fun v17 => DI .i64 v17 fun x12 => slB n5 m5 none (some x12) fun n8 n9 => QCall Try.prog 46 #[.pointer p10] H9 fun v18 => DSl v18 fun A8 n10 m8 => Ld H9 ((⟨b2, 0, none⟩ : Addr).add 1) fun v19 => DI .i64 v19 fun x13 => slB n10 m8 (some x13) none fun n11 n12 => CpK Try.prog 62 (.slice (slA A5 m5 n8 1) (n9 - n8) (m5 - n8)) (.slice (slA A8 m8 n11 1) (n12 - n11) (m8 - n11)) H9 fun v20 H10 => DI .i64 v20 fun x14 => Ld H10 ((⟨b2, 0, none⟩ : Addr).add 2) fun v21 => DI .i64 v21 fun x15 => slB n5 m5 (some x15) none fun n13 n14 => R9 p9 (slA A5 m5 n13 1) (n14 - n13) (m5 - n13) p10 A6 n6 m6 x8 (IntKind.i64.wrap (x9 + (1 : Int))) p11 A7 n7 m7 H10))) (HCallsD Try.prog 44 #[.pointer p11, .slice A7 n7 m7] H fun _ H12 => K (.int .i64 (0 : Int)) H12)
def W_stream_Pipe_Read.j5 (K : Value → Hp → Prop) (p6 : Option Addr) (A3 : Option Addr) (n3 : Nat) (m3 : Nat) (A4 : Option Addr) (n4 : Nat) (m4 : Nat) (x7 : Int) (p7 : Option Addr) (H : Hp) : Prop :=
  BIf (x7 != (0 : Int)) (K (.int .i64 x7) H) (NN p6 fun a3 => Ld H ((a3.add 0).add 1) fun v14 => DP v14 fun p8 => Nw H (.row [.pointer p7] 105 1) fun b1 H6 => (∃ k, W_stream_Pipe_Read.l9 K k p6 A3 n3 m3 p7 A4 n4 m4 ((n4 : Nat) : Int) (0 : Int) p8 (some ⟨b1, 0, none⟩) 1 1 H6))
def W_stream_Pipe_Read (p1 : Option Addr) (x1 : Int) (A1 : Option Addr) (n1 : Nat) (m1 : Nat) (H : Hp) (K : Value → Hp → Prop) : Prop :=
  HCalls Try.prog 41 #[.pointer p1, .int .i64 x1, .int .i64 ((n1 : Nat) : Int)] H fun v1 H1 => DTup v1 fun l1 => DCons l1 fun v2 l2 => DSl v2 fun A2 n2 m2 => DCons l2 fun v3 l3 => DI .i64 v3 fun x2 => DNil l3 (BIf (x2 != (0 : Int)) (K (.int .i64 x2) H1) (BIf (((n1 : Nat) : Int) == (0 : Int)) (K (.int .i64 x2) H1) (NN p1 fun a1 => NN p1 fun a2 => (Ld H1 ((a1.add 0).add 1) fun v4 => DP v4 fun p2 => HCalls Try.prog 43 #[.pointer (some (a2.add 0))] H1 fun v5 H2 => DI .i64 v5 fun x3 => HCalls Try.prog 42 #[.pointer p2, .int .i64 x3] H2 fun v6 H3 => DTup v6 fun l4 => DCons l4 fun v7 l5 => DP v7 fun p3 => DCons l5 fun v8 l6 => DI .i64 v8 fun x4 => DNil l6 (W_stream_Pipe_Read.j5 K p1 A1 n1 m1 A2 n2 m2 x4 p3 H3)) ∧ (HCalls Try.prog 43 #[.pointer (some (a2.add 0))] H1 fun v9 H4 => DI .i64 v9 fun x5 => Ld H4 ((a1.add 0).add 1) fun v10 => DP v10 fun p4 => HCalls Try.prog 42 #[.pointer p4, .int .i64 x5] H4 fun v11 H5 => DTup v11 fun l7 => DCons l7 fun v12 l8 => DP v12 fun p5 => DCons l8 fun v13 l9 => DI .i64 v13 fun x6 => DNil l9 (W_stream_Pipe_Read.j5 K p1 A1 n1 m1 A2 n2 m2 x6 p5 H5)))))
def W_stream_Pipe_Read.l9.L (K : Value → Hp → Prop) (k : Nat) : Mid := fun E D H =>
  DG (E.get? 0) fun w0 => DP w0 fun p9 => DG (E.get? 2) fun w2 => DSl w2 fun A5 n5 m5 => DG (E.get? 9) fun w9 => DP w9 fun p10 => DG (E.get? 52) fun w52 => DSl w52 fun A6 n6 m6 => DG (E.get? 53) fun w53 => DI .i64 w53 fun x8 => DG (E.get? 54) fun w54 => DI .i64 w54 fun x9 => DDef 44 D fun dc0 da0 D1 => DNil dc0 (DCons da0 fun u0da0 r0da0 => DP u0da0 fun p11 => DCons r0da0 fun u1da0 r1da0 => DSl u1da0 fun A7 n7 m7 => DNil r1da0 (DNilD D1 (W_stream_Pipe_Read.l9 K k p9 A5 n5 m5 p10 A6 n6 m6 x8 x9 p11 A7 n7 m7 H)))
def W_stream_Pipe_Read.Λ9 (_ : Value → Hp → Prop) (_R9 : Option Addr → Option Addr → Nat → Nat → Option Addr → Option Addr → Nat → Nat → Int → Int → Option Addr → Option Addr → Nat → Nat → Hp → Prop) : Cuts := Cuts.none (fun i => match Nat.beq i 14 with | true => some ([], [0, 1, 2, 3, 4, 5, 6, 7, 8], 9) | false => match Nat.beq i 11 with | true => some ([], [0, 1, 2, 3, 4, 5], 6) | false => match Nat.beq i 4 with | true => some ([], [], 0) | false => none)
def W_stream_Pipe_Read.Λ (K : Value → Hp → Prop) : Cuts := ⟨fun i => match Nat.beq i 5 with | true => some (fun E D H => DG (E.get? 0) fun w0 => DP w0 fun p6 => DG (E.get? 2) fun w2 => DSl w2 fun A3 n3 m3 => DG (E.get? 7) fun w7 => DSl w7 fun A4 n4 m4 => DG (E.get? 8) fun w8 => DI .i64 w8 fun x7 => DG (E.get? 9) fun w9 => DP w9 fun p7 => DNilD D (W_stream_Pipe_Read.j5 K p6 A3 n3 m3 A4 n4 m4 x7 p7 H)) | false => none, fun i => match Nat.beq i 9 with | true => some (fun E D H => ∃ k, W_stream_Pipe_Read.l9.L K k E D H) | false => none, (fun i => match Nat.beq i 14 with | true => some ([], [0, 1, 2, 3, 4, 5, 6, 7, 8], 9) | false => match Nat.beq i 11 with | true => some ([], [0, 1, 2, 3, 4, 5], 6) | false => match Nat.beq i 4 with | true => some ([], [], 0) | false => none)⟩
theorem W_stream_Pipe_Read.ok (p1 : Option Addr) (x1 : Int) (A1 : Option Addr) (n1 : Nat) (m1 : Nat) (H : Hp) (K : Value → Hp → Prop) (h : W_stream_Pipe_Read p1 x1 A1 n1 m1 H K) : HCalls Try.prog 20 #[.pointer p1, .int .i64 x1, .slice A1 n1 m1] H K :=
  hcalls Try.func20 rfl (Nat.le_of_ble_eq_true rfl) (hw_safe (Λ := (W_stream_Pipe_Read.Λ K)) mix _ _ _ _ _ (Eq.mp (by kernel_rfl) h) (obs_seq obs_region rfl (obs_seq obs_region rfl (obs_seq (obs_seq obs_region rfl (obs_cond (obs_seq obs_region rfl obs_ret) obs_skip)) rfl (obs_seqc obs_region rfl (fun E D H h => by
      obtain ⟨w0, e0, g1⟩ := DG.out h
      obtain ⟨p6, rfl, g2⟩ := DP.out g1
      obtain ⟨w2, e2, g3⟩ := DG.out g2
      obtain ⟨A3, n3, m3, rfl, g4⟩ := DSl.out g3
      obtain ⟨w7, e7, g5⟩ := DG.out g4
      obtain ⟨A4, n4, m4, rfl, g6⟩ := DSl.out g5
      obtain ⟨w8, e8, g7⟩ := DG.out g6
      obtain ⟨x7, rfl, g8⟩ := DI.out g7
      obtain ⟨w9, e9, g9⟩ := DG.out g8
      obtain ⟨p7, rfl, g10⟩ := DP.out g9
      obtain ⟨rfl, h'⟩ := DNilD.out g10
      exact (hw_safe (Λ := (W_stream_Pipe_Read.Λ K)) mix _ _ [(0, .pointer p6), (2, .slice A3 n3 m3), (7, .slice A4 n4 m4), (8, .int .i64 x7), (9, .pointer p7)] [] H (Eq.mp (by kernel_rfl) h') (obs_seq (obs_seq obs_region rfl (obs_cond (obs_seq obs_region rfl obs_ret) obs_skip)) rfl (obs_seq obs_region rfl (obs_seq (obs_seq obs_region rfl (obs_block (obs_loop rfl (fun E D H h => by
          refine Safe.loop' (W_stream_Pipe_Read.l9.L K) (fun E D H h => ?_) (fun k E D H h => ?_) E D H h
          · obtain ⟨w0, e0, g1⟩ := DG.out h; obtain ⟨p9, rfl, g2⟩ := DP.out g1; obtain ⟨w2, e2, g3⟩ := DG.out g2; obtain ⟨A5, n5, m5, rfl, g4⟩ := DSl.out g3; obtain ⟨w9, e9, g5⟩ := DG.out g4; obtain ⟨p10, rfl, g6⟩ := DP.out g5; obtain ⟨w52, e52, g7⟩ := DG.out g6; obtain ⟨A6, n6, m6, rfl, g8⟩ := DSl.out g7; obtain ⟨w53, e53, g9⟩ := DG.out g8; obtain ⟨x8, rfl, g10⟩ := DI.out g9; obtain ⟨w54, e54, g11⟩ := DG.out g10; obtain ⟨x9, rfl, g12⟩ := DI.out g11; obtain ⟨dc0, da0, D1, rfl, g13⟩ := DDef.out g12; obtain ⟨rfl, g14⟩ := DNil.out g13; obtain ⟨u0da0, r0da0, rfl, g15⟩ := DCons.out g14; obtain ⟨p11, rfl, g16⟩ := DP.out g15; obtain ⟨u1da0, r1da0, rfl, g17⟩ := DCons.out g16; obtain ⟨A7, n7, m7, rfl, g18⟩ := DSl.out g17; obtain ⟨rfl, g19⟩ := DNil.out g18; obtain ⟨rfl, h'⟩ := DNilD.out g19; exact h'
          · obtain ⟨w0, e0, g1⟩ := DG.out h
            obtain ⟨p9, rfl, g2⟩ := DP.out g1
            obtain ⟨w2, e2, g3⟩ := DG.out g2
            obtain ⟨A5, n5, m5, rfl, g4⟩ := DSl.out g3
            obtain ⟨w9, e9, g5⟩ := DG.out g4
            obtain ⟨p10, rfl, g6⟩ := DP.out g5
            obtain ⟨w52, e52, g7⟩ := DG.out g6
            obtain ⟨A6, n6, m6, rfl, g8⟩ := DSl.out g7
            obtain ⟨w53, e53, g9⟩ := DG.out g8
            obtain ⟨x8, rfl, g10⟩ := DI.out g9
            obtain ⟨w54, e54, g11⟩ := DG.out g10
            obtain ⟨x9, rfl, g12⟩ := DI.out g11
            obtain ⟨dc0, da0, D1, rfl, g13⟩ := DDef.out g12
            obtain ⟨rfl, g14⟩ := DNil.out g13
            obtain ⟨u0da0, r0da0, rfl, g15⟩ := DCons.out g14
            obtain ⟨p11, rfl, g16⟩ := DP.out g15
            obtain ⟨u1da0, r1da0, rfl, g17⟩ := DCons.out g16
            obtain ⟨A7, n7, m7, rfl, g18⟩ := DSl.out g17
            obtain ⟨rfl, g19⟩ := DNil.out g18
            obtain ⟨rfl, h'⟩ := DNilD.out g19
            exact (hw_safe (Λ := (W_stream_Pipe_Read.Λ9 K (W_stream_Pipe_Read.l9 K k))) mix _ _ [(0, .pointer p9), (2, .slice A5 n5 m5), (9, .pointer p10), (52, .slice A6 n6 m6), (53, .int .i64 x8), (54, .int .i64 x9)] [{ target := .fn (.func 44) #[], args := #[.pointer p11, .slice A7 n7 m7] }] H (Eq.mp (by kernel_rfl) h') (obs_seq obs_region rfl (obs_seq (obs_cond obs_skip obs_exit) rfl (obs_seq (obs_block (obs_seq obs_region rfl (obs_seq (obs_seq obs_region rfl (obs_seq obs_region rfl (obs_cond (obs_seq obs_region rfl obs_ret) obs_skip))) rfl (obs_seq obs_region rfl obs_region)))) rfl obs_region)))).weaken (EnvLe.cons e0 (EnvLe.cons e2 (EnvLe.cons e9 (EnvLe.cons e52 (EnvLe.cons e53 (EnvLe.cons e54 (EnvLe.nil _))))))) (Hp.le_refl _))))) rfl (obs_seq obs_region rfl obs_ret))))).weaken (EnvLe.cons e0 (EnvLe.cons e2 (EnvLe.cons e7 (EnvLe.cons e8 (EnvLe.cons e9 (EnvLe.nil _)))))) (Hp.le_refl _)))))))

-- (*stream.Pipe).Get
def W_stream_Pipe_Get (p1 : Option Addr) (x1 : Int) (H : Hp) (K : Value → Hp → Prop) : Prop :=
  Nw H (.obj (.cells #[.int .u64 (0 : Int)] 113)) fun b1 H1 => BIf (decide (x1 < (0 : Int))) (K (.tuple #[.int .u64 (0 : Int), .int .i64 (2 : Int)]) H1) (HCalls Try.prog 18 #[.pointer p1] H1 fun v1 H2 => DI .i64 v1 fun x2 => BIf (decide (x1 ≥ x2)) (K (.tuple #[.int .u64 (0 : Int), .int .i64 (2 : Int)]) H2) (slB 1 1 none none fun n1 n2 => HCalls Try.prog 20 #[.pointer p1, .int .i64 x1, .slice (slA (some (⟨b1, 0, none⟩ : Addr)) 1 n1 1) (n2 - n1) (1 - n1)] H2 fun v2 H3 => DI .i64 v2 fun x3 => BIf (x3 != (0 : Int)) (K (.tuple #[.int .u64 (0 : Int), .int .i64 x3]) H3) (ixI (0 : Int) 1 (Ld H3 ((⟨b1, 0, none⟩ : Addr).add ((0 : Int).toNat * 1)) fun v3 => DI .u64 v3 fun x4 => K (.tuple #[.int .u64 x4, .int .i64 (0 : Int)]) H3))))
def W_stream_Pipe_Get.Λ (_ : Value → Hp → Prop) : Cuts := Cuts.none (fun _ => none)
theorem W_stream_Pipe_Get.ok (p1 : Option Addr) (x1 : Int) (H : Hp) (K : Value → Hp → Prop) (h : W_stream_Pipe_Get p1 x1 H K) : HCalls Try.prog 22 #[.pointer p1, .int .i64 x1] H K :=
  hcalls Try.func22 rfl (Nat.le_of_ble_eq_true rfl) (hw_safe (Λ := Cuts.none (fun _ => none)) mix _ _ _ _ _ (Eq.mp (by kernel_rfl) h) (obs_none _ _ _ _ _))

-- (*stream.Pipe).Fill
def W_stream_Pipe_Fill (p1 : Option Addr) (x1 : Int) (H : Hp) (K : Value → Hp → Prop) : Prop :=
  Nw H (.obj (.cells #[.pointer p1] 53)) fun b1 H1 => Nw H1 (.obj (.cells #[.int .u64 x1] 62)) fun b2 H2 => Ld H2 (⟨b1, 0, none⟩ : Addr) fun v1 => DP v1 fun p2 => HCalls Try.prog 48 #[.pointer p2, .func (.func 49) #[] #[.pointer (some (⟨b1, 0, none⟩ : Addr)), .pointer (some (⟨b2, 0, none⟩ : Addr))]] H2 fun v2 H3 => DI .i64 v2 fun x2 => K (.int .i64 x2) H3
def W_stream_Pipe_Fill.Λ (_ : Value → Hp → Prop) : Cuts := Cuts.none (fun _ => none)
theorem W_stream_Pipe_Fill.ok (p1 : Option Addr) (x1 : Int) (H : Hp) (K : Value → Hp → Prop) (h : W_stream_Pipe_Fill p1 x1 H K) : HCalls Try.prog 23 #[.pointer p1, .int .u64 x1] H K :=
  hcalls Try.func23 rfl (Nat.le_of_ble_eq_true rfl) (hw_safe (Λ := Cuts.none (fun _ => none)) mix _ _ _ _ _ (Eq.mp (by kernel_rfl) h) (obs_none _ _ _ _ _))

-- (*stream.Pipe).Sum
def W_stream_Pipe_Sum (p1 : Option Addr) (H : Hp) (K : Value → Hp → Prop) : Prop :=
  Nw H (.obj (.cells #[.pointer p1] 53)) fun b1 H1 => Nw H1 (.obj (.cells #[.int .u32 (0 : Int), .int .i64 (0 : Int)] 117)) fun b2 H2 => Ld H2 (⟨b1, 0, none⟩ : Addr) fun v1 => DP v1 fun p2 => HCalls Try.prog 48 #[.pointer p2, .func (.func 50) #[] #[.pointer (some (⟨b1, 0, none⟩ : Addr)), .pointer (some (⟨b2, 0, none⟩ : Addr))]] H2 fun v2 H3 => DI .i64 v2 fun x1 => BIf (x1 != (0 : Int)) (K (.tuple #[.int .u32 (0 : Int), .int .i64 x1]) H3) (HCalls Try.prog 52 #[.pointer (some (⟨b2, 0, none⟩ : Addr))] H3 fun v3 H4 => DI .u32 v3 fun x2 => K (.tuple #[.int .u32 x2, .int .i64 (0 : Int)]) H4)
def W_stream_Pipe_Sum.Λ (_ : Value → Hp → Prop) : Cuts := Cuts.none (fun _ => none)
theorem W_stream_Pipe_Sum.ok (p1 : Option Addr) (H : Hp) (K : Value → Hp → Prop) (h : W_stream_Pipe_Sum p1 H K) : HCalls Try.prog 24 #[.pointer p1] H K :=
  hcalls Try.func24 rfl (Nat.le_of_ble_eq_true rfl) (hw_safe (Λ := Cuts.none (fun _ => none)) mix _ _ _ _ _ (Eq.mp (by kernel_rfl) h) (obs_none _ _ _ _ _))

-- stream.New
def W_stream_New (p1 : Option Addr) (p2 : Option Addr) (x1 : Int) (x2 : Int) (x3 : Int) (H : Hp) (K : Value → Hp → Prop) : Prop :=
  Nw H (.obj (.cells #[.int .i64 x1, .int .i64 x2, .int .i64 x3] 97)) fun b1 H1 => BIf p1.isNone (K (.tuple #[.pointer none, .int .i64 (1 : Int)]) H1) (BIf p2.isNone (K (.tuple #[.pointer none, .int .i64 (1 : Int)]) H1) (LdA H1 (⟨b1, 0, none⟩ : Addr) 3 fun l1 => DCons l1.toArray.toList fun v1 l2 => DI .i64 v1 fun x4 => DCons l2 fun v2 l3 => DI .i64 v2 fun x5 => DCons l3 fun v3 l4 => DI .i64 v3 fun x6 => DNil l4 (Nw H1 (.obj (.cells #[.pointer p1, .pointer p2, .int .i64 x4, .int .i64 x5, .int .i64 x6] 101)) fun b2 H2 => Ld H2 ((⟨b1, 0, none⟩ : Addr).add 2) fun v4 => DI .i64 v4 fun x7 => BIf (decide (x7 < (1 : Int))) (K (.tuple #[.pointer none, .int .i64 (2 : Int)]) H2) (Ld H2 ((⟨b1, 0, none⟩ : Addr).add 0) fun v5 => DI .i64 v5 fun x8 => BIf (decide (x8 < (0 : Int))) (K (.tuple #[.pointer none, .int .i64 (2 : Int)]) H2) (Ld H2 ((⟨b1, 0, none⟩ : Addr).add 1) fun v6 => DI .i64 v6 fun x9 => BIf (decide (x9 < (1 : Int))) (K (.tuple #[.pointer none, .int .i64 (2 : Int)]) H2) (Ld H2 ((⟨b1, 0, none⟩ : Addr).add 0) fun v7 => DI .i64 v7 fun x10 => NN p1 fun a1 => QCall Try.prog 65 #[.pointer (some (a1.add 0))] H2 fun v8 => DI .i64 v8 fun x11 => BIf (decide (x10 ≥ x11)) (K (.tuple #[.pointer none, .int .i64 (2 : Int)]) H2) (Ld H2 ((⟨b1, 0, none⟩ : Addr).add 1) fun v9 => DI .i64 v9 fun x12 => NN p1 fun a2 => QCall Try.prog 65 #[.pointer (some (a2.add 0))] H2 fun v10 => DI .i64 v10 fun x13 => Ld H2 ((⟨b1, 0, none⟩ : Addr).add 0) fun v11 => DI .i64 v11 fun x14 => BIf (decide (x12 > (IntKind.i64.wrap (x13 - x14)))) (K (.tuple #[.pointer none, .int .i64 (2 : Int)]) H2) (Ld H2 ((⟨b1, 0, none⟩ : Addr).add 2) fun v12 => DI .i64 v12 fun x15 => Ld H2 ((⟨b1, 0, none⟩ : Addr).add 1) fun v13 => DI .i64 v13 fun x16 => QCall Try.prog 43 #[.pointer (some ((⟨b2, 0, none⟩ : Addr).add 0))] H2 fun v14 => DI .i64 v14 fun x17 => BIf (decide (x15 > (IntKind.i64.wrap (x16 * x17)))) (K (.tuple #[.pointer none, .int .i64 (2 : Int)]) H2) (K (.tuple #[.pointer (some (⟨b2, 0, none⟩ : Addr)), .int .i64 (0 : Int)]) H2)))))))))
def W_stream_New.Λ (_ : Value → Hp → Prop) : Cuts := Cuts.none (fun _ => none)
theorem W_stream_New.ok (p1 : Option Addr) (p2 : Option Addr) (x1 : Int) (x2 : Int) (x3 : Int) (H : Hp) (K : Value → Hp → Prop) (h : W_stream_New p1 p2 x1 x2 x3 H K) : HCalls Try.prog 40 #[.pointer p1, .pointer p2, .agg #[.int .i64 x1, .int .i64 x2, .int .i64 x3]] H K :=
  hcalls Try.func40 rfl (Nat.le_of_ble_eq_true rfl) (hw_safe (Λ := Cuts.none (fun _ => none)) mix _ _ _ _ _ (Eq.mp (by kernel_rfl) h) (obs_none _ _ _ _ _))

-- (*stream.Pipe).pieces
def W_stream_Pipe_pieces.l4 (K : Value → Hp → Prop) : Nat → Option Addr → Int → Int → Option Addr → Nat → Nat → Hp → Prop
  | 0, _, _, _, _, _, _, _ => False
  | k + 1, p2, x5, x6, A1, n1, m1, H =>
    let R4 := W_stream_Pipe_pieces.l4 K k
    BIf (decide (x6 > (0 : Int))) (NN p2 fun a1 => LdA H (a1.add 2) 3 fun l1 => NN p2 fun a2 => QCall Try.prog 43 #[.pointer (some (a2.add 0))] H fun v3 => DI .i64 v3 fun x7 => QCall Try.prog 72 #[.agg l1.toArray, .int .i64 x7, .int .i64 x5] H fun v4 => DTup v4 fun l2 => DCons l2 fun v5 l3 => DI .i64 v5 fun x8 => DCons l3 fun v6 l4 => DI .i64 v6 fun x9 => DCons l4 fun v7 l5 => DI .i64 v7 fun x10 => DNil l5 (BIf (x10 != (0 : Int)) (K (.tuple #[.slice none 0 0, .int .i64 x10]) H) (NN p2 fun a3 => HCalls Try.prog 43 #[.pointer (some (a3.add 0))] H fun v8 H3 => DI .i64 v8 fun x11 => Nw H3 (.row [.int .i64 x8, .int .i64 x9, .int .i64 (if (IntKind.i64.wrap (x11 - x9)) < x6 then (IntKind.i64.wrap (x11 - x9)) else x6)] 110 3) fun b1 H4 => AppK Try.prog 110 (.slice A1 n1 m1) (.slice (some ⟨b1, 0, none⟩) 1 1) H4 fun v9 H5 => DSl v9 fun A2 n2 m2 => R4 p2 (IntKind.i64.wrap (x5 + (if (IntKind.i64.wrap (x11 - x9)) < x6 then (IntKind.i64.wrap (x11 - x9)) else x6))) (IntKind.i64.wrap (x6 - (if (IntKind.i64.wrap (x11 - x9)) < x6 then (IntKind.i64.wrap (x11 - x9)) else x6))) A2 n2 m2 H5))) (K (.tuple #[.slice A1 n1 m1, .int .i64 (0 : Int)]) H)
def W_stream_Pipe_pieces (p1 : Option Addr) (x1 : Int) (x2 : Int) (H : Hp) (K : Value → Hp → Prop) : Prop :=
  BIf (decide (x1 < (0 : Int))) (K (.tuple #[.slice none 0 0, .int .i64 (2 : Int)]) H) (HCalls Try.prog 18 #[.pointer p1] H fun v1 H1 => DI .i64 v1 fun x3 => BIf (decide (x1 > x3)) (K (.tuple #[.slice none 0 0, .int .i64 (2 : Int)]) H1) (HCalls Try.prog 18 #[.pointer p1] H1 fun v2 H2 => DI .i64 v2 fun x4 => BIf (decide (x2 > (IntKind.i64.wrap (x4 - x1)))) (K (.tuple #[.slice none 0 0, .int .i64 (2 : Int)]) H2) ((∃ k, W_stream_Pipe_pieces.l4 K k p1 x1 x2 none 0 0 H2))))
def W_stream_Pipe_pieces.l4.L (K : Value → Hp → Prop) (k : Nat) : Mid := fun E D H =>
  DG (E.get? 0) fun w0 => DP w0 fun p2 => DG (E.get? 1) fun w1 => DI .i64 w1 fun x5 => DG (E.get? 2) fun w2 => DI .i64 w2 fun x6 => DG (E.get? 8) fun w8 => DSl w8 fun A1 n1 m1 => DNilD D (W_stream_Pipe_pieces.l4 K k p2 x5 x6 A1 n1 m1 H)
def W_stream_Pipe_pieces.Λ4 (_ : Value → Hp → Prop) (_R4 : Option Addr → Int → Int → Option Addr → Nat → Nat → Hp → Prop) : Cuts := Cuts.none (fun _ => none)
def W_stream_Pipe_pieces.Λ (K : Value → Hp → Prop) : Cuts := ⟨fun i => none, fun i => match Nat.beq i 4 with | true => some (fun E D H => ∃ k, W_stream_Pipe_pieces.l4.L K k E D H) | false => none, (fun _ => none)⟩
theorem W_stream_Pipe_pieces.ok (p1 : Option Addr) (x1 : Int) (x2 : Int) (H : Hp) (K : Value → Hp → Prop) (h : W_stream_Pipe_pieces p1 x1 x2 H K) : HCalls Try.prog 41 #[.pointer p1, .int .i64 x1, .int .i64 x2] H K :=
  hcalls Try.func41 rfl (Nat.le_of_ble_eq_true rfl) (hw_safe (Λ := (W_stream_Pipe_pieces.Λ K)) mix _ _ _ _ _ (Eq.mp (by kernel_rfl) h) (obs_seq obs_region rfl (obs_seq (obs_seq obs_region rfl (obs_cond (obs_seq obs_region rfl obs_ret) obs_skip)) rfl (obs_seq obs_region rfl (obs_seq (obs_block (obs_loop rfl (fun E D H h => by
      refine Safe.loop' (W_stream_Pipe_pieces.l4.L K) (fun E D H h => ?_) (fun k E D H h => ?_) E D H h
      · obtain ⟨w0, e0, g1⟩ := DG.out h; obtain ⟨p2, rfl, g2⟩ := DP.out g1; obtain ⟨w1, e1, g3⟩ := DG.out g2; obtain ⟨x5, rfl, g4⟩ := DI.out g3; obtain ⟨w2, e2, g5⟩ := DG.out g4; obtain ⟨x6, rfl, g6⟩ := DI.out g5; obtain ⟨w8, e8, g7⟩ := DG.out g6; obtain ⟨A1, n1, m1, rfl, g8⟩ := DSl.out g7; obtain ⟨rfl, h'⟩ := DNilD.out g8; exact h'
      · obtain ⟨w0, e0, g1⟩ := DG.out h
        obtain ⟨p2, rfl, g2⟩ := DP.out g1
        obtain ⟨w1, e1, g3⟩ := DG.out g2
        obtain ⟨x5, rfl, g4⟩ := DI.out g3
        obtain ⟨w2, e2, g5⟩ := DG.out g4
        obtain ⟨x6, rfl, g6⟩ := DI.out g5
        obtain ⟨w8, e8, g7⟩ := DG.out g6
        obtain ⟨A1, n1, m1, rfl, g8⟩ := DSl.out g7
        obtain ⟨rfl, h'⟩ := DNilD.out g8
        exact (hw_safe (Λ := (W_stream_Pipe_pieces.Λ4 K (W_stream_Pipe_pieces.l4 K k))) mix _ _ [(0, .pointer p2), (1, .int .i64 x5), (2, .int .i64 x6), (8, .slice A1 n1 m1)] [] H (Eq.mp (by kernel_rfl) h') (obs_seq (obs_seq obs_region rfl (obs_cond obs_skip obs_exit)) rfl (obs_block (obs_seq obs_region rfl (obs_seq (obs_seq obs_region rfl (obs_cond (obs_seq obs_region rfl obs_ret) obs_skip)) rfl (obs_seq obs_region rfl (obs_seq obs_region rfl obs_region))))))).weaken (EnvLe.cons e0 (EnvLe.cons e1 (EnvLe.cons e2 (EnvLe.cons e8 (EnvLe.nil _))))) (Hp.le_refl _)))) rfl (obs_seq obs_region rfl obs_ret))))))

-- (*stream.means).per
def W_stream_means_per (p1 : Option Addr) (H : Hp) (K : Value → Hp → Prop) : Prop :=
  NN p1 fun a1 => Ld H (a1.add 0) fun v1 => DP v1 fun p2 => NN p2 fun a2 => HCalls Try.prog 66 #[.pointer (some (a2.add 0))] H fun v2 H1 => DI .i64 v2 fun x1 => ((8 : Int) ≠ 0 ∧ IntKind.i64 = IntKind.i64 ∧ K (.int .i64 (IntKind.i64.wrap (Int.tdiv x1 (8 : Int)))) H1)
def W_stream_means_per.Λ (_ : Value → Hp → Prop) : Cuts := Cuts.none (fun _ => none)
theorem W_stream_means_per.ok (p1 : Option Addr) (H : Hp) (K : Value → Hp → Prop) (h : W_stream_means_per p1 H K) : HCalls Try.prog 43 #[.pointer p1] H K :=
  hcalls Try.func43 rfl (Nat.le_of_ble_eq_true rfl) (hw_safe (Λ := Cuts.none (fun _ => none)) mix _ _ _ _ _ (Eq.mp (by kernel_rfl) h) (obs_none _ _ _ _ _))

-- (*stream.means).load
def W_stream_means_load.l6 (K : Value → Hp → Prop) : Nat → Option Addr → Nat → Nat → Option Addr → Nat → Nat → Int → Int → Hp → Prop
  | 0, _, _, _, _, _, _, _, _, _ => False
  | k + 1, A3, n3, m3, A4, n4, m4, x3, x4, H =>
    let R6 := W_stream_means_load.l6 K k
    BIf (decide (x4 < x3)) (HCalls Try.prog 63 #[.slice A3 n3 m3, .int .i64 x4] H fun v6 H3 => DTup v6 fun l4 => DCons l4 fun v7 l5 => DI .u64 v7 fun x5 => DCons l5 fun v8 l6 => DI .i64 v8 fun x6 => DNil l6 (ixI x4 n4 (NN A4 fun a2 => St H3 ((a2.add (x4.toNat * 1)).add 0) (.int .u64 x5) fun H4 => R6 A3 n3 m3 A4 n4 m4 x3 (IntKind.i64.wrap (x4 + (1 : Int))) H4))) (K (.int .i64 (0 : Int)) H)
def W_stream_means_load (p1 : Option Addr) (x1 : Int) (p2 : Option Addr) (H : Hp) (K : Value → Hp → Prop) : Prop :=
  NN p1 fun a1 => Ld H (a1.add 0) fun v1 => DP v1 fun p3 => HCalls Try.prog 29 #[.pointer p3, .int .i64 x1] H fun v2 H1 => DTup v2 fun l1 => DCons l1 fun v3 l2 => DSl v3 fun A1 n1 m1 => DCons l2 fun v4 l3 => DI .i64 v4 fun x2 => DNil l3 (BIf (x2 != (0 : Int)) (K (.int .i64 x2) H1) (HCalls Try.prog 46 #[.pointer p2] H1 fun v5 H2 => DSl v5 fun A2 n2 m2 => (∃ k, W_stream_means_load.l6 K k A1 n1 m1 A2 n2 m2 ((n2 : Nat) : Int) (0 : Int) H2)))
def W_stream_means_load.l6.L (K : Value → Hp → Prop) (k : Nat) : Mid := fun E D H =>
  DG (E.get? 7) fun w7 => DSl w7 fun A3 n3 m3 => DG (E.get? 9) fun w9 => DSl w9 fun A4 n4 m4 => DG (E.get? 28) fun w28 => DI .i64 w28 fun x3 => DG (E.get? 29) fun w29 => DI .i64 w29 fun x4 => DNilD D (W_stream_means_load.l6 K k A3 n3 m3 A4 n4 m4 x3 x4 H)
def W_stream_means_load.Λ6 (_ : Value → Hp → Prop) (_R6 : Option Addr → Nat → Nat → Option Addr → Nat → Nat → Int → Int → Hp → Prop) : Cuts := Cuts.none (fun _ => none)
def W_stream_means_load.Λ (K : Value → Hp → Prop) : Cuts := ⟨fun i => none, fun i => match Nat.beq i 6 with | true => some (fun E D H => ∃ k, W_stream_means_load.l6.L K k E D H) | false => none, (fun _ => none)⟩
theorem W_stream_means_load.ok (p1 : Option Addr) (x1 : Int) (p2 : Option Addr) (H : Hp) (K : Value → Hp → Prop) (h : W_stream_means_load p1 x1 p2 H K) : HCalls Try.prog 45 #[.pointer p1, .int .i64 x1, .pointer p2] H K :=
  hcalls Try.func45 rfl (Nat.le_of_ble_eq_true rfl) (hw_safe (Λ := (W_stream_means_load.Λ K)) mix _ _ _ _ _ (Eq.mp (by kernel_rfl) h) (obs_seq obs_region rfl (obs_seq obs_region rfl (obs_seq (obs_seq obs_region rfl (obs_cond (obs_seq obs_region rfl obs_ret) obs_skip)) rfl (obs_seq obs_region rfl (obs_seq (obs_seq obs_region rfl (obs_block (obs_loop rfl (fun E D H h => by
      refine Safe.loop' (W_stream_means_load.l6.L K) (fun E D H h => ?_) (fun k E D H h => ?_) E D H h
      · obtain ⟨w7, e7, g1⟩ := DG.out h; obtain ⟨A3, n3, m3, rfl, g2⟩ := DSl.out g1; obtain ⟨w9, e9, g3⟩ := DG.out g2; obtain ⟨A4, n4, m4, rfl, g4⟩ := DSl.out g3; obtain ⟨w28, e28, g5⟩ := DG.out g4; obtain ⟨x3, rfl, g6⟩ := DI.out g5; obtain ⟨w29, e29, g7⟩ := DG.out g6; obtain ⟨x4, rfl, g8⟩ := DI.out g7; obtain ⟨rfl, h'⟩ := DNilD.out g8; exact h'
      · obtain ⟨w7, e7, g1⟩ := DG.out h
        obtain ⟨A3, n3, m3, rfl, g2⟩ := DSl.out g1
        obtain ⟨w9, e9, g3⟩ := DG.out g2
        obtain ⟨A4, n4, m4, rfl, g4⟩ := DSl.out g3
        obtain ⟨w28, e28, g5⟩ := DG.out g4
        obtain ⟨x3, rfl, g6⟩ := DI.out g5
        obtain ⟨w29, e29, g7⟩ := DG.out g6
        obtain ⟨x4, rfl, g8⟩ := DI.out g7
        obtain ⟨rfl, h'⟩ := DNilD.out g8
        exact (hw_safe (Λ := (W_stream_means_load.Λ6 K (W_stream_means_load.l6 K k))) mix _ _ [(7, .slice A3 n3 m3), (9, .slice A4 n4 m4), (28, .int .i64 x3), (29, .int .i64 x4)] [] H (Eq.mp (by kernel_rfl) h') (obs_seq obs_region rfl (obs_seq (obs_cond obs_skip obs_exit) rfl (obs_seq (obs_block (obs_seq obs_region rfl (obs_seq obs_region rfl obs_region))) rfl obs_region)))).weaken (EnvLe.cons e7 (EnvLe.cons e9 (EnvLe.cons e28 (EnvLe.cons e29 (EnvLe.nil _))))) (Hp.le_refl _))))) rfl (obs_seq obs_region rfl obs_ret)))))))

-- (*stream.means).store
def W_stream_means_store (p1 : Option Addr) (x1 : Int) (p2 : Option Addr) (H : Hp) (K : Value → Hp → Prop) : Prop :=
  NN p1 fun a1 => (Ld H (a1.add 0) fun v1 => DP v1 fun p3 => HCalls Try.prog 46 #[.pointer p2] H fun v2 H1 => DSl v2 fun A1 n1 m1 => HCalls Try.prog 57 #[.slice A1 n1 m1] H1 fun v3 H2 => DSl v3 fun A2 n2 m2 => HCalls Try.prog 32 #[.pointer p3, .int .i64 x1, .slice A2 n2 m2] H2 fun v4 H3 => DI .i64 v4 fun x2 => K (.int .i64 x2) H3) ∧ (HCalls Try.prog 46 #[.pointer p2] H fun v5 H4 => DSl v5 fun A3 n3 m3 => (Ld H4 (a1.add 0) fun v6 => DP v6 fun p4 => HCalls Try.prog 57 #[.slice A3 n3 m3] H4 fun v7 H5 => DSl v7 fun A4 n4 m4 => HCalls Try.prog 32 #[.pointer p4, .int .i64 x1, .slice A4 n4 m4] H5 fun v8 H6 => DI .i64 v8 fun x3 => K (.int .i64 x3) H6) ∧ (HCalls Try.prog 57 #[.slice A3 n3 m3] H4 fun v9 H7 => DSl v9 fun A5 n5 m5 => Ld H7 (a1.add 0) fun v10 => DP v10 fun p5 => HCalls Try.prog 32 #[.pointer p5, .int .i64 x1, .slice A5 n5 m5] H7 fun v11 H8 => DI .i64 v11 fun x4 => K (.int .i64 x4) H8))
def W_stream_means_store.Λ (_ : Value → Hp → Prop) : Cuts := Cuts.none (fun i => match Nat.beq i 1 with | true => some ([], [], 0) | false => none)
theorem W_stream_means_store.ok (p1 : Option Addr) (x1 : Int) (p2 : Option Addr) (H : Hp) (K : Value → Hp → Prop) (h : W_stream_means_store p1 x1 p2 H K) : HCalls Try.prog 47 #[.pointer p1, .int .i64 x1, .pointer p2] H K :=
  hcalls Try.func47 rfl (Nat.le_of_ble_eq_true rfl) (hw_safe (Λ := Cuts.none (fun i => match Nat.beq i 1 with | true => some ([], [], 0) | false => none)) mix _ _ _ _ _ (Eq.mp (by kernel_rfl) h) (obs_none _ _ _ _ _))

-- (*stream.Pipe).each
def W_stream_Pipe_each.l6 (K : Value → Hp → Prop) : Nat → Option Addr → FuncId → Array Value → Array Value → Option Addr → Int → Int → Int → Option Addr → Option Addr → Nat → Nat → Hp → Prop
  | 0, _, _, _, _, _, _, _, _, _, _, _, _, _ => False
  | k + 1, p9, fd3, F3, C3, p10, x8, x9, x10, p11, A1, n1, m1, H =>
    let R6 := W_stream_Pipe_each.l6 K k
    BIf (decide (x9 > (0 : Int))) (BIf (x8 == (0 : Int)) (NN p9 fun a5 => HCalls Try.prog 43 #[.pointer (some (a5.add 0))] H fun v14 H6 => DI .i64 v14 fun x11 => BIf (callable Try.prog fd3) (HCalls Try.prog fd3 ((F3 ++ #[.int .i64 x10, .int .i64 (if x11 < x9 then x11 else x9), .pointer p10]) ++ C3) H6 fun v15 H7 => DR Try.prog (resTypes Try.prog fd3) v15 fun v16 => DI .i64 v16 fun x12 => NN p9 fun a6 => HCalls Try.prog 43 #[.pointer (some (a6.add 0))] H7 fun v17 H8 => DI .i64 v17 fun x13 => R6 p9 fd3 F3 C3 p10 x12 (IntKind.i64.wrap (x9 - x13)) (IntKind.i64.wrap (x10 + (1 : Int))) p11 A1 n1 m1 H8) False) (HCallsD Try.prog 44 #[.pointer p11, .slice A1 n1 m1] H fun _ H9 => K (.int .i64 x8) H9)) (HCallsD Try.prog 44 #[.pointer p11, .slice A1 n1 m1] H fun _ H10 => K (.int .i64 x8) H10)
def W_stream_Pipe_each.j2 (K : Value → Hp → Prop) (p6 : Option Addr) (fd2 : FuncId) (F2 : Array Value) (C2 : Array Value) (p7 : Option Addr) (x5 : Int) (H : Hp) : Prop :=
  BIf (x5 != (0 : Int)) (K (.int .i64 x5) H) (NN p6 fun a3 => Ld H ((a3.add 0).add 1) fun v11 => DP v11 fun p8 => Nw H (.row [.pointer p7] 105 1) fun b1 H5 => QCall Try.prog 18 #[.pointer p6] H5 fun v12 => DI .i64 v12 fun x6 => NN p6 fun a4 => Ld H5 ((a4.add 2).add 0) fun v13 => DI .i64 v13 fun x7 => (∃ k, W_stream_Pipe_each.l6 K k p6 fd2 F2 C2 p7 x5 x6 x7 p8 (some ⟨b1, 0, none⟩) 1 1 H5))
def W_stream_Pipe_each (p1 : Option Addr) (fd1 : FuncId) (F1 : Array Value) (C1 : Array Value) (H : Hp) (K : Value → Hp → Prop) : Prop :=
  NN p1 fun a1 => NN p1 fun a2 => (Ld H ((a1.add 0).add 1) fun v1 => DP v1 fun p2 => HCalls Try.prog 43 #[.pointer (some (a2.add 0))] H fun v2 H1 => DI .i64 v2 fun x1 => HCalls Try.prog 42 #[.pointer p2, .int .i64 x1] H1 fun v3 H2 => DTup v3 fun l1 => DCons l1 fun v4 l2 => DP v4 fun p3 => DCons l2 fun v5 l3 => DI .i64 v5 fun x2 => DNil l3 (W_stream_Pipe_each.j2 K p1 fd1 F1 C1 p3 x2 H2)) ∧ (HCalls Try.prog 43 #[.pointer (some (a2.add 0))] H fun v6 H3 => DI .i64 v6 fun x3 => Ld H3 ((a1.add 0).add 1) fun v7 => DP v7 fun p4 => HCalls Try.prog 42 #[.pointer p4, .int .i64 x3] H3 fun v8 H4 => DTup v8 fun l4 => DCons l4 fun v9 l5 => DP v9 fun p5 => DCons l5 fun v10 l6 => DI .i64 v10 fun x4 => DNil l6 (W_stream_Pipe_each.j2 K p1 fd1 F1 C1 p5 x4 H4))
def W_stream_Pipe_each.l6.L (K : Value → Hp → Prop) (k : Nat) : Mid := fun E D H =>
  DG (E.get? 0) fun w0 => DP w0 fun p9 => DG (E.get? 1) fun w1 => DFn w1 fun fd3 F3 C3 => DG (E.get? 5) fun w5 => DP w5 fun p10 => DG (E.get? 6) fun w6 => DI .i64 w6 fun x8 => DG (E.get? 7) fun w7 => DI .i64 w7 fun x9 => DG (E.get? 8) fun w8 => DI .i64 w8 fun x10 => DDef 44 D fun dc0 da0 D1 => DNil dc0 (DCons da0 fun u0da0 r0da0 => DP u0da0 fun p11 => DCons r0da0 fun u1da0 r1da0 => DSl u1da0 fun A1 n1 m1 => DNil r1da0 (DNilD D1 (W_stream_Pipe_each.l6 K k p9 fd3 F3 C3 p10 x8 x9 x10 p11 A1 n1 m1 H)))
def W_stream_Pipe_each.Λ6 (_ : Value → Hp → Prop) (_R6 : Option Addr → FuncId → Array Value → Array Value → Option Addr → Int → Int → Int → Option Addr → Option Addr → Nat → Nat → Hp → Prop) : Cuts := Cuts.none (fun i => match Nat.beq i 1 with | true => some ([], [], 0) | false => none)
def W_stream_Pipe_each.Λ (K : Value → Hp → Prop) : Cuts := ⟨fun i => match Nat.beq i 2 with | true => some (fun E D H => DG (E.get? 0) fun w0 => DP w0 fun p6 => DG (E.get? 1) fun w1 => DFn w1 fun fd2 F2 C2 => DG (E.get? 5) fun w5 => DP w5 fun p7 => DG (E.get? 6) fun w6 => DI .i64 w6 fun x5 => DNilD D (W_stream_Pipe_each.j2 K p6 fd2 F2 C2 p7 x5 H)) | false => none, fun i => match Nat.beq i 6 with | true => some (fun E D H => ∃ k, W_stream_Pipe_each.l6.L K k E D H) | false => none, (fun i => match Nat.beq i 1 with | true => some ([], [], 0) | false => none)⟩
theorem W_stream_Pipe_each.ok (p1 : Option Addr) (fd1 : FuncId) (F1 : Array Value) (C1 : Array Value) (H : Hp) (K : Value → Hp → Prop) (h : W_stream_Pipe_each p1 fd1 F1 C1 H K) : HCalls Try.prog 48 #[.pointer p1, .func (.func fd1) F1 C1] H K :=
  hcalls Try.func48 rfl (Nat.le_of_ble_eq_true rfl) (hw_safe (Λ := (W_stream_Pipe_each.Λ K)) mix _ _ _ _ _ (Eq.mp (by kernel_rfl) h) (obs_seq obs_region rfl (obs_seqc obs_region rfl (fun E D H h => by
      obtain ⟨w0, e0, g1⟩ := DG.out h
      obtain ⟨p6, rfl, g2⟩ := DP.out g1
      obtain ⟨w1, e1, g3⟩ := DG.out g2
      obtain ⟨fd2, F2, C2, rfl, g4⟩ := DFn.out g3
      obtain ⟨w5, e5, g5⟩ := DG.out g4
      obtain ⟨p7, rfl, g6⟩ := DP.out g5
      obtain ⟨w6, e6, g7⟩ := DG.out g6
      obtain ⟨x5, rfl, g8⟩ := DI.out g7
      obtain ⟨rfl, h'⟩ := DNilD.out g8
      exact (hw_safe (Λ := (W_stream_Pipe_each.Λ K)) mix _ _ [(0, .pointer p6), (1, .func (.func fd2) F2 C2), (5, .pointer p7), (6, .int .i64 x5)] [] H (Eq.mp (by kernel_rfl) h') (obs_seq (obs_seq obs_region rfl (obs_cond (obs_seq obs_region rfl obs_ret) obs_skip)) rfl (obs_seq obs_region rfl (obs_seq (obs_seq obs_region rfl (obs_block (obs_loop rfl (fun E D H h => by
          refine Safe.loop' (W_stream_Pipe_each.l6.L K) (fun E D H h => ?_) (fun k E D H h => ?_) E D H h
          · obtain ⟨w0, e0, g1⟩ := DG.out h; obtain ⟨p9, rfl, g2⟩ := DP.out g1; obtain ⟨w1, e1, g3⟩ := DG.out g2; obtain ⟨fd3, F3, C3, rfl, g4⟩ := DFn.out g3; obtain ⟨w5, e5, g5⟩ := DG.out g4; obtain ⟨p10, rfl, g6⟩ := DP.out g5; obtain ⟨w6, e6, g7⟩ := DG.out g6; obtain ⟨x8, rfl, g8⟩ := DI.out g7; obtain ⟨w7, e7, g9⟩ := DG.out g8; obtain ⟨x9, rfl, g10⟩ := DI.out g9; obtain ⟨w8, e8, g11⟩ := DG.out g10; obtain ⟨x10, rfl, g12⟩ := DI.out g11; obtain ⟨dc0, da0, D1, rfl, g13⟩ := DDef.out g12; obtain ⟨rfl, g14⟩ := DNil.out g13; obtain ⟨u0da0, r0da0, rfl, g15⟩ := DCons.out g14; obtain ⟨p11, rfl, g16⟩ := DP.out g15; obtain ⟨u1da0, r1da0, rfl, g17⟩ := DCons.out g16; obtain ⟨A1, n1, m1, rfl, g18⟩ := DSl.out g17; obtain ⟨rfl, g19⟩ := DNil.out g18; obtain ⟨rfl, h'⟩ := DNilD.out g19; exact h'
          · obtain ⟨w0, e0, g1⟩ := DG.out h
            obtain ⟨p9, rfl, g2⟩ := DP.out g1
            obtain ⟨w1, e1, g3⟩ := DG.out g2
            obtain ⟨fd3, F3, C3, rfl, g4⟩ := DFn.out g3
            obtain ⟨w5, e5, g5⟩ := DG.out g4
            obtain ⟨p10, rfl, g6⟩ := DP.out g5
            obtain ⟨w6, e6, g7⟩ := DG.out g6
            obtain ⟨x8, rfl, g8⟩ := DI.out g7
            obtain ⟨w7, e7, g9⟩ := DG.out g8
            obtain ⟨x9, rfl, g10⟩ := DI.out g9
            obtain ⟨w8, e8, g11⟩ := DG.out g10
            obtain ⟨x10, rfl, g12⟩ := DI.out g11
            obtain ⟨dc0, da0, D1, rfl, g13⟩ := DDef.out g12
            obtain ⟨rfl, g14⟩ := DNil.out g13
            obtain ⟨u0da0, r0da0, rfl, g15⟩ := DCons.out g14
            obtain ⟨p11, rfl, g16⟩ := DP.out g15
            obtain ⟨u1da0, r1da0, rfl, g17⟩ := DCons.out g16
            obtain ⟨A1, n1, m1, rfl, g18⟩ := DSl.out g17
            obtain ⟨rfl, g19⟩ := DNil.out g18
            obtain ⟨rfl, h'⟩ := DNilD.out g19
            exact (hw_safe (Λ := (W_stream_Pipe_each.Λ6 K (W_stream_Pipe_each.l6 K k))) mix _ _ [(0, .pointer p9), (1, .func (.func fd3) F3 C3), (5, .pointer p10), (6, .int .i64 x8), (7, .int .i64 x9), (8, .int .i64 x10)] [{ target := .fn (.func 44) #[], args := #[.pointer p11, .slice A1 n1 m1] }] H (Eq.mp (by kernel_rfl) h') (obs_seq (obs_seq obs_region rfl (obs_cond obs_skip obs_exit)) rfl (obs_seq (obs_block obs_region) rfl obs_region))).weaken (EnvLe.cons e0 (EnvLe.cons e1 (EnvLe.cons e5 (EnvLe.cons e6 (EnvLe.cons e7 (EnvLe.cons e8 (EnvLe.nil _))))))) (Hp.le_refl _))))) rfl (obs_seq obs_region rfl obs_ret))))).weaken (EnvLe.cons e0 (EnvLe.cons e1 (EnvLe.cons e5 (EnvLe.cons e6 (EnvLe.nil _))))) (Hp.le_refl _)))))

-- (*stream.Pipe).Fill$1
def W_stream_Pipe_Fill_1.l6 (K : Value → Hp → Prop) : Nat → Int → Option Addr → Option Addr → Option Addr → Int → Int → Hp → Prop
  | 0, _, _, _, _, _, _, _ => False
  | k + 1, x7, p9, p10, p11, x8, x9, H =>
    let R6 := W_stream_Pipe_Fill_1.l6 K k
    BIf (decide (x9 < x8)) (QCall Try.prog 46 #[.pointer p9] H fun v5 => DSl v5 fun A1 n1 m1 => NN p11 fun a5 => Ld H a5 fun v6 => DI .u64 v6 fun x10 => ixI x9 n1 (NN A1 fun a6 => St H ((a6.add (x9.toNat * 1)).add 0) (.int .u64 x10) fun H3 => R6 x7 p9 p10 p11 x8 (IntKind.i64.wrap (x9 + (1 : Int))) H3)) (NN p10 fun a7 => Ld H a7 fun v7 => DP v7 fun p12 => NN p12 fun a8 => HCalls Try.prog 47 #[.pointer (some (a8.add 0)), .int .i64 x7, .pointer p9] H fun v8 H4 => DI .i64 v8 fun x11 => K (.int .i64 x11) H4)
def W_stream_Pipe_Fill_1.j5 (K : Value → Hp → Prop) (x5 : Int) (x6 : Int) (p6 : Option Addr) (p7 : Option Addr) (p8 : Option Addr) (H : Hp) : Prop :=
  (∃ k, W_stream_Pipe_Fill_1.l6 K k x5 p6 p7 p8 x6 (0 : Int) H)
def W_stream_Pipe_Fill_1 (x1 : Int) (x2 : Int) (p1 : Option Addr) (p2 : Option Addr) (p3 : Option Addr) (H : Hp) (K : Value → Hp → Prop) : Prop :=
  NN p2 fun a1 => Ld H a1 fun v1 => DP v1 fun p4 => NN p4 fun a2 => HCalls Try.prog 43 #[.pointer (some (a2.add 0))] H fun v2 H1 => DI .i64 v2 fun x3 => BIf (decide (x2 < x3)) (NN p2 fun a3 => Ld H1 a3 fun v3 => DP v3 fun p5 => NN p5 fun a4 => HCalls Try.prog 45 #[.pointer (some (a4.add 0)), .int .i64 x1, .pointer p1] H1 fun v4 H2 => DI .i64 v4 fun x4 => BIf (x4 != (0 : Int)) (K (.int .i64 x4) H2) (W_stream_Pipe_Fill_1.j5 K x1 x2 p1 p2 p3 H2)) (W_stream_Pipe_Fill_1.j5 K x1 x2 p1 p2 p3 H1)
def W_stream_Pipe_Fill_1.l6.L (K : Value → Hp → Prop) (k : Nat) : Mid := fun E D H =>
  DG (E.get? 0) fun w0 => DI .i64 w0 fun x7 => DG (E.get? 2) fun w2 => DP w2 fun p9 => DG (E.get? 3) fun w3 => DP w3 fun p10 => DG (E.get? 4) fun w4 => DP w4 fun p11 => DG (E.get? 26) fun w26 => DI .i64 w26 fun x8 => DG (E.get? 27) fun w27 => DI .i64 w27 fun x9 => DNilD D (W_stream_Pipe_Fill_1.l6 K k x7 p9 p10 p11 x8 x9 H)
def W_stream_Pipe_Fill_1.Λ6 (_ : Value → Hp → Prop) (_R6 : Int → Option Addr → Option Addr → Option Addr → Int → Int → Hp → Prop) : Cuts := Cuts.none (fun i => match Nat.beq i 8 with | true => some ([], [0, 1, 2, 3, 4], 5) | false => none)
def W_stream_Pipe_Fill_1.Λ (K : Value → Hp → Prop) : Cuts := ⟨fun i => match Nat.beq i 5 with | true => some (fun E D H => DG (E.get? 0) fun w0 => DI .i64 w0 fun x5 => DG (E.get? 1) fun w1 => DI .i64 w1 fun x6 => DG (E.get? 2) fun w2 => DP w2 fun p6 => DG (E.get? 3) fun w3 => DP w3 fun p7 => DG (E.get? 4) fun w4 => DP w4 fun p8 => DNilD D (W_stream_Pipe_Fill_1.j5 K x5 x6 p6 p7 p8 H)) | false => none, fun i => match Nat.beq i 6 with | true => some (fun E D H => ∃ k, W_stream_Pipe_Fill_1.l6.L K k E D H) | false => none, (fun i => match Nat.beq i 8 with | true => some ([], [0, 1, 2, 3, 4], 5) | false => none)⟩
theorem W_stream_Pipe_Fill_1.ok (x1 : Int) (x2 : Int) (p1 : Option Addr) (p2 : Option Addr) (p3 : Option Addr) (H : Hp) (K : Value → Hp → Prop) (h : W_stream_Pipe_Fill_1 x1 x2 p1 p2 p3 H K) : HCalls Try.prog 49 #[.int .i64 x1, .int .i64 x2, .pointer p1, .pointer p2, .pointer p3] H K :=
  hcalls Try.func49 rfl (Nat.le_of_ble_eq_true rfl) (hw_safe (Λ := (W_stream_Pipe_Fill_1.Λ K)) mix _ _ _ _ _ (Eq.mp (by kernel_rfl) h) (obs_seq obs_region rfl (obs_seqc (obs_seq obs_region rfl (obs_cond (obs_seq obs_region rfl (obs_seq obs_region rfl (obs_cond (obs_seq obs_region rfl obs_ret) obs_skip))) obs_skip)) rfl (fun E D H h => by
      obtain ⟨w0, e0, g1⟩ := DG.out h
      obtain ⟨x5, rfl, g2⟩ := DI.out g1
      obtain ⟨w1, e1, g3⟩ := DG.out g2
      obtain ⟨x6, rfl, g4⟩ := DI.out g3
      obtain ⟨w2, e2, g5⟩ := DG.out g4
      obtain ⟨p6, rfl, g6⟩ := DP.out g5
      obtain ⟨w3, e3, g7⟩ := DG.out g6
      obtain ⟨p7, rfl, g8⟩ := DP.out g7
      obtain ⟨w4, e4, g9⟩ := DG.out g8
      obtain ⟨p8, rfl, g10⟩ := DP.out g9
      obtain ⟨rfl, h'⟩ := DNilD.out g10
      exact (hw_safe (Λ := (W_stream_Pipe_Fill_1.Λ K)) mix _ _ [(0, .int .i64 x5), (1, .int .i64 x6), (2, .pointer p6), (3, .pointer p7), (4, .pointer p8)] [] H (Eq.mp (by kernel_rfl) h') (obs_seq (obs_seq obs_region rfl (obs_block (obs_loop rfl (fun E D H h => by
          refine Safe.loop' (W_stream_Pipe_Fill_1.l6.L K) (fun E D H h => ?_) (fun k E D H h => ?_) E D H h
          · obtain ⟨w0, e0, g1⟩ := DG.out h; obtain ⟨x7, rfl, g2⟩ := DI.out g1; obtain ⟨w2, e2, g3⟩ := DG.out g2; obtain ⟨p9, rfl, g4⟩ := DP.out g3; obtain ⟨w3, e3, g5⟩ := DG.out g4; obtain ⟨p10, rfl, g6⟩ := DP.out g5; obtain ⟨w4, e4, g7⟩ := DG.out g6; obtain ⟨p11, rfl, g8⟩ := DP.out g7; obtain ⟨w26, e26, g9⟩ := DG.out g8; obtain ⟨x8, rfl, g10⟩ := DI.out g9; obtain ⟨w27, e27, g11⟩ := DG.out g10; obtain ⟨x9, rfl, g12⟩ := DI.out g11; obtain ⟨rfl, h'⟩ := DNilD.out g12; exact h'
          · obtain ⟨w0, e0, g1⟩ := DG.out h
            obtain ⟨x7, rfl, g2⟩ := DI.out g1
            obtain ⟨w2, e2, g3⟩ := DG.out g2
            obtain ⟨p9, rfl, g4⟩ := DP.out g3
            obtain ⟨w3, e3, g5⟩ := DG.out g4
            obtain ⟨p10, rfl, g6⟩ := DP.out g5
            obtain ⟨w4, e4, g7⟩ := DG.out g6
            obtain ⟨p11, rfl, g8⟩ := DP.out g7
            obtain ⟨w26, e26, g9⟩ := DG.out g8
            obtain ⟨x8, rfl, g10⟩ := DI.out g9
            obtain ⟨w27, e27, g11⟩ := DG.out g10
            obtain ⟨x9, rfl, g12⟩ := DI.out g11
            obtain ⟨rfl, h'⟩ := DNilD.out g12
            exact (hw_safe (Λ := (W_stream_Pipe_Fill_1.Λ6 K (W_stream_Pipe_Fill_1.l6 K k))) mix _ _ [(0, .int .i64 x7), (2, .pointer p9), (3, .pointer p10), (4, .pointer p11), (26, .int .i64 x8), (27, .int .i64 x9)] [] H (Eq.mp (by kernel_rfl) h') (obs_seq obs_region rfl (obs_seq (obs_cond obs_skip obs_exit) rfl (obs_seq (obs_block (obs_seq obs_region rfl obs_region)) rfl obs_region)))).weaken (EnvLe.cons e0 (EnvLe.cons e2 (EnvLe.cons e3 (EnvLe.cons e4 (EnvLe.cons e26 (EnvLe.cons e27 (EnvLe.nil _))))))) (Hp.le_refl _))))) rfl (obs_seq obs_region rfl obs_ret))).weaken (EnvLe.cons e0 (EnvLe.cons e1 (EnvLe.cons e2 (EnvLe.cons e3 (EnvLe.cons e4 (EnvLe.nil _)))))) (Hp.le_refl _)))))

-- (*stream.Pipe).Sum$1
def W_stream_Pipe_Sum_1 (x1 : Int) (x2 : Int) (p1 : Option Addr) (p2 : Option Addr) (p3 : Option Addr) (H : Hp) (K : Value → Hp → Prop) : Prop :=
  NN p2 fun a1 => Ld H a1 fun v1 => DP v1 fun p4 => NN p4 fun a2 => HCalls Try.prog 45 #[.pointer (some (a2.add 0)), .int .i64 x1, .pointer p1] H fun v2 H1 => DI .i64 v2 fun x3 => BIf (x3 == (0 : Int)) (HCalls Try.prog 46 #[.pointer p1] H1 fun v3 H2 => DSl v3 fun A1 n1 m1 => slB n1 m1 none (some x2) fun n2 n3 => HCalls Try.prog 51 #[.pointer p3, .slice (slA A1 m1 n2 1) (n3 - n2) (m1 - n2)] H2 fun v4 H3 => K (.int .i64 x3) H3) (K (.int .i64 x3) H1)
def W_stream_Pipe_Sum_1.Λ (_ : Value → Hp → Prop) : Cuts := Cuts.none (fun _ => none)
theorem W_stream_Pipe_Sum_1.ok (x1 : Int) (x2 : Int) (p1 : Option Addr) (p2 : Option Addr) (p3 : Option Addr) (H : Hp) (K : Value → Hp → Prop) (h : W_stream_Pipe_Sum_1 x1 x2 p1 p2 p3 H K) : HCalls Try.prog 50 #[.int .i64 x1, .int .i64 x2, .pointer p1, .pointer p2, .pointer p3] H K :=
  hcalls Try.func50 rfl (Nat.le_of_ble_eq_true rfl) (hw_safe (Λ := Cuts.none (fun _ => none)) mix _ _ _ _ _ (Eq.mp (by kernel_rfl) h) (obs_none _ _ _ _ _))

end Go.Proofs.Ytbnhfcdagoigkaa.W
