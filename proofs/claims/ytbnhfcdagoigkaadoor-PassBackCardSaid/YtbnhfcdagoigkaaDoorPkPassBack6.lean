import Derived.Test.YtbnhfcdagoigkaaDoorProg
import Derived.Test.YtbnhfcdagoigkaaDoorPkPassBack5
section
/-! Wpass -/
/- Formulas of functions, printed by wip/tools/hwp.py. -/
set_option maxRecDepth 100000
set_option linter.unusedVariables false
namespace Go.Proofs.YtbnhfcdagoigkaaDoor.W
open Go Go.Hw

theorem mixWpass : Tryd.prog.follows .mixedOrders = true := by kernel_rfl
-- pass.Run
def W_pass_Run.l17 (K : Value → Hp → Prop) : Nat → Option Addr → Option Addr → Addr → Int → Option Addr → Addr → Int → Option Addr → Option Addr → Nat → Nat → Option Addr → Option Addr → Nat → Nat → Hp → Prop
  | 0, _, _, _, _, _, _, _, _, _, _, _, _, _, _, _, _ => False
  | k + 1, p16, p17, a4, x46, p18, a5, x47, p19, A3, n3, m3, p20, A4, n4, m4, H =>
    let R17 := W_pass_Run.l17 K k
    Ld H ((a4.add 0).add 0) fun v50 => DI .i64 v50 fun x48 => BIf (decide (x47 < x48)) (HCalls Tryd.prog 71 #[.pointer p18] H fun v51 H21 => DSl v51 fun A5 n5 m5 => HCalls Tryd.prog 70 #[.pointer (some a5), .pointer p16, .pointer p17, .slice A5 n5 m5, .int .i64 x47] H21 fun v52 H22 => DI .i64 v52 fun x49 => BIf (x49 != (0 : Int)) (HCallsD Tryd.prog 67 #[.pointer p19, .slice A3 n3 m3] H22 fun _ H25 => HCallsD Tryd.prog 67 #[.pointer p20, .slice A4 n4 m4] H25 fun _ H26 => K (.tuple #[.int .u32 (0 : Int), .int .i64 x49]) H26) (R17 p16 p17 a4 x46 p18 a5 (IntKind.i64.wrap (x47 + x46)) p19 A3 n3 m3 p20 A4 n4 m4 H22)) (HCalls Tryd.prog 72 #[.pointer (some (a5.add 0))] H fun v53 H23 => DI .u32 v53 fun x50 => HCallsD Tryd.prog 67 #[.pointer p19, .slice A3 n3 m3] H23 fun _ H27 => HCallsD Tryd.prog 67 #[.pointer p20, .slice A4 n4 m4] H27 fun _ H28 => K (.tuple #[.int .u32 x50, .int .i64 (0 : Int)]) H28)
def W_pass_Run.j16 (K : Value → Hp → Prop) (p11 : Option Addr) (p12 : Option Addr) (a2 : Addr) (x45 : Int) (p13 : Option Addr) (a3 : Addr) (p14 : Option Addr) (A1 : Option Addr) (n1 : Nat) (m1 : Nat) (p15 : Option Addr) (A2 : Option Addr) (n2 : Nat) (m2 : Nat) (H : Hp) : Prop :=
  (∃ k, W_pass_Run.l17 K k p11 p12 a2 x45 p13 a3 (0 : Int) p14 A1 n1 m1 p15 A2 n2 m2 H)
def W_pass_Run (p1 : Option Addr) (p2 : Option Addr) (x1 : Int) (x2 : Int) (x3 : Int) (x4 : Int) (x5 : Int) (p3 : Option Addr) (x6 : Int) (H : Hp) (K : Value → Hp → Prop) : Prop :=
  Nw H (.obj (.cells #[.int .i64 x1, .int .i64 x2, .int .i64 x3, .int .i64 x4, .int .u64 x5] 56)) fun b1 H1 => LdA H1 (⟨b1, 0, none⟩ : Addr) 5 fun l1 => HCalls Tryd.prog 64 #[.pointer p1, .pointer p2, .agg l1.toArray, .pointer p3] H1 fun v1 H2 => DI .i64 v1 fun x7 => BIf (x7 != (0 : Int)) (K (.tuple #[.int .u32 (0 : Int), .int .i64 x7]) H2) (LdA H2 ((⟨b1, 0, none⟩ : Addr).add 0) 2 fun l2 => NN p3 fun a1 => QCall Tryd.prog 65 #[.pointer (some (a1.add 0))] H2 fun v2 => DI .i64 v2 fun x8 => QCall Tryd.prog 30 #[.agg l2.toArray, .int .i64 x6, .int .i64 x8] H2 fun v3 => DTup v3 fun l3 => DCons l3 fun v4 l4 => DI .i64 v4 fun x9 => DCons l4 fun v5 l5 => DB v5 fun c1 => DNil l5 (BIf (!c1) (K (.tuple #[.int .u32 (0 : Int), .int .i64 (6 : Int)]) H2) (Ld H2 (((⟨b1, 0, none⟩ : Addr).add 0).add 1) fun v6 => DI .i64 v6 fun x10 => HCalls Tryd.prog 66 #[.pointer p3, .int .i64 (IntKind.i64.wrap (x9 * x10))] H2 fun v7 H3 => DTup v7 fun l6 => DCons l6 fun v8 l7 => DP v8 fun p4 => DCons l7 fun v9 l8 => DI .i64 v9 fun x11 => DNil l8 (BIf (x11 != (0 : Int)) (K (.tuple #[.int .u32 (0 : Int), .int .i64 x11]) H3) (Nw H3 (.row [.pointer p4] 130 1) fun b2 H4 => Ld H4 (((⟨b1, 0, none⟩ : Addr).add 0).add 1) fun v10 => DI .i64 v10 fun x12 => HCalls Tryd.prog 66 #[.pointer p3, .int .i64 x12] H4 fun v11 H5 => DTup v11 fun l9 => DCons l9 fun v12 l10 => DP v12 fun p5 => DCons l10 fun v13 l11 => DI .i64 v13 fun x13 => DNil l11 (BIf (x13 != (0 : Int)) (HCallsD Tryd.prog 67 #[.pointer p3, .slice (some ⟨b2, 0, none⟩) 1 1] H5 fun _ H24 => K (.tuple #[.int .u32 (0 : Int), .int .i64 x13]) H24) (Nw H5 (.row [.pointer p5] 130 1) fun b3 H6 => (LdA H6 (⟨b1, 0, none⟩ : Addr) 5 fun l12 => Ld H6 (((⟨b1, 0, none⟩ : Addr).add 0).add 1) fun v14 => DI .i64 v14 fun x14 => HCalls Tryd.prog 69 #[.int .u64 (IntKind.u64.wrap x14)] H6 fun v15 H7 => DI .i64 v15 fun x15 => HCalls Tryd.prog 68 #[.int .i64 x15] H7 fun v16 H8 => DP v16 fun p6 => DCons l12.toArray.toList fun v17 l13 => DI .i64 v17 fun x16 => DCons l13 fun v18 l14 => DI .i64 v18 fun x17 => DCons l14 fun v19 l15 => DI .i64 v19 fun x18 => DCons l15 fun v20 l16 => DI .i64 v20 fun x19 => DCons l16 fun v21 l17 => DI .u64 v21 fun x20 => DNil l17 (Nw H8 (.obj (.cells #[.int .u32 (0 : Int), .int .i64 (0 : Int), .int .i64 x16, .int .i64 x17, .int .i64 x18, .int .i64 x19, .int .u64 x20, .pointer p6] 141)) fun b4 H9 => W_pass_Run.j16 K p1 p2 (⟨b1, 0, none⟩ : Addr) x9 p4 (⟨b4, 0, none⟩ : Addr) p3 (some ⟨b3, 0, none⟩) 1 1 p3 (some ⟨b2, 0, none⟩) 1 1 H9)) ∧ (Ld H6 (((⟨b1, 0, none⟩ : Addr).add 0).add 1) fun v22 => DI .i64 v22 fun x21 => (LdA H6 (⟨b1, 0, none⟩ : Addr) 5 fun l18 => HCalls Tryd.prog 69 #[.int .u64 (IntKind.u64.wrap x21)] H6 fun v23 H10 => DI .i64 v23 fun x22 => HCalls Tryd.prog 68 #[.int .i64 x22] H10 fun v24 H11 => DP v24 fun p7 => DCons l18.toArray.toList fun v25 l19 => DI .i64 v25 fun x23 => DCons l19 fun v26 l20 => DI .i64 v26 fun x24 => DCons l20 fun v27 l21 => DI .i64 v27 fun x25 => DCons l21 fun v28 l22 => DI .i64 v28 fun x26 => DCons l22 fun v29 l23 => DI .u64 v29 fun x27 => DNil l23 (Nw H11 (.obj (.cells #[.int .u32 (0 : Int), .int .i64 (0 : Int), .int .i64 x23, .int .i64 x24, .int .i64 x25, .int .i64 x26, .int .u64 x27, .pointer p7] 141)) fun b5 H12 => W_pass_Run.j16 K p1 p2 (⟨b1, 0, none⟩ : Addr) x9 p4 (⟨b5, 0, none⟩ : Addr) p3 (some ⟨b3, 0, none⟩) 1 1 p3 (some ⟨b2, 0, none⟩) 1 1 H12)) ∧ ((LdA H6 (⟨b1, 0, none⟩ : Addr) 5 fun l24 => HCalls Tryd.prog 69 #[.int .u64 (IntKind.u64.wrap x21)] H6 fun v30 H13 => DI .i64 v30 fun x28 => HCalls Tryd.prog 68 #[.int .i64 x28] H13 fun v31 H14 => DP v31 fun p8 => DCons l24.toArray.toList fun v32 l25 => DI .i64 v32 fun x29 => DCons l25 fun v33 l26 => DI .i64 v33 fun x30 => DCons l26 fun v34 l27 => DI .i64 v34 fun x31 => DCons l27 fun v35 l28 => DI .i64 v35 fun x32 => DCons l28 fun v36 l29 => DI .u64 v36 fun x33 => DNil l29 (Nw H14 (.obj (.cells #[.int .u32 (0 : Int), .int .i64 (0 : Int), .int .i64 x29, .int .i64 x30, .int .i64 x31, .int .i64 x32, .int .u64 x33, .pointer p8] 141)) fun b6 H15 => W_pass_Run.j16 K p1 p2 (⟨b1, 0, none⟩ : Addr) x9 p4 (⟨b6, 0, none⟩ : Addr) p3 (some ⟨b3, 0, none⟩) 1 1 p3 (some ⟨b2, 0, none⟩) 1 1 H15)) ∧ (HCalls Tryd.prog 69 #[.int .u64 (IntKind.u64.wrap x21)] H6 fun v37 H16 => DI .i64 v37 fun x34 => (LdA H16 (⟨b1, 0, none⟩ : Addr) 5 fun l30 => HCalls Tryd.prog 68 #[.int .i64 x34] H16 fun v38 H17 => DP v38 fun p9 => DCons l30.toArray.toList fun v39 l31 => DI .i64 v39 fun x35 => DCons l31 fun v40 l32 => DI .i64 v40 fun x36 => DCons l32 fun v41 l33 => DI .i64 v41 fun x37 => DCons l33 fun v42 l34 => DI .i64 v42 fun x38 => DCons l34 fun v43 l35 => DI .u64 v43 fun x39 => DNil l35 (Nw H17 (.obj (.cells #[.int .u32 (0 : Int), .int .i64 (0 : Int), .int .i64 x35, .int .i64 x36, .int .i64 x37, .int .i64 x38, .int .u64 x39, .pointer p9] 141)) fun b7 H18 => W_pass_Run.j16 K p1 p2 (⟨b1, 0, none⟩ : Addr) x9 p4 (⟨b7, 0, none⟩ : Addr) p3 (some ⟨b3, 0, none⟩) 1 1 p3 (some ⟨b2, 0, none⟩) 1 1 H18)) ∧ (HCalls Tryd.prog 68 #[.int .i64 x34] H16 fun v44 H19 => DP v44 fun p10 => LdA H19 (⟨b1, 0, none⟩ : Addr) 5 fun l36 => DCons l36.toArray.toList fun v45 l37 => DI .i64 v45 fun x40 => DCons l37 fun v46 l38 => DI .i64 v46 fun x41 => DCons l38 fun v47 l39 => DI .i64 v47 fun x42 => DCons l39 fun v48 l40 => DI .i64 v48 fun x43 => DCons l40 fun v49 l41 => DI .u64 v49 fun x44 => DNil l41 (Nw H19 (.obj (.cells #[.int .u32 (0 : Int), .int .i64 (0 : Int), .int .i64 x40, .int .i64 x41, .int .i64 x42, .int .i64 x43, .int .u64 x44, .pointer p10] 141)) fun b8 H20 => W_pass_Run.j16 K p1 p2 (⟨b1, 0, none⟩ : Addr) x9 p4 (⟨b8, 0, none⟩ : Addr) p3 (some ⟨b3, 0, none⟩) 1 1 p3 (some ⟨b2, 0, none⟩) 1 1 H20))))))))))))
def W_pass_Run.l17.L (K : Value → Hp → Prop) (k : Nat) : Mid := fun E D H =>
  DG (E.get? 0) fun w0 => DP w0 fun p16 => DG (E.get? 1) fun w1 => DP w1 fun p17 => DG (E.get? 7) fun w7 => DP w7 fun pw7 => NN pw7 fun a4 => DG (E.get? 13) fun w13 => DI .i64 w13 fun x46 => DG (E.get? 15) fun w15 => DP w15 fun p18 => DG (E.get? 17) fun w17 => DP w17 fun pw17 => NN pw17 fun a5 => DG (E.get? 18) fun w18 => DI .i64 w18 fun x47 => DDef 67 D fun dc0 da0 D1 => DNil dc0 (DCons da0 fun u0da0 r0da0 => DP u0da0 fun p19 => DCons r0da0 fun u1da0 r1da0 => DSl u1da0 fun A3 n3 m3 => DNil r1da0 (DDef 67 D1 fun dc1 da1 D2 => DNil dc1 (DCons da1 fun u0da1 r0da1 => DP u0da1 fun p20 => DCons r0da1 fun u1da1 r1da1 => DSl u1da1 fun A4 n4 m4 => DNil r1da1 (DNilD D2 (W_pass_Run.l17 K k p16 p17 a4 x46 p18 a5 x47 p19 A3 n3 m3 p20 A4 n4 m4 H)))))
def W_pass_Run.Λ17 (_ : Value → Hp → Prop) (_R17 : Option Addr → Option Addr → Addr → Int → Option Addr → Addr → Int → Option Addr → Option Addr → Nat → Nat → Option Addr → Option Addr → Nat → Nat → Hp → Prop) : Cuts := Cuts.none (fun i => match Nat.beq i 15 with | true => some ([], [], 0) | false => none)
def W_pass_Run.Λ (K : Value → Hp → Prop) : Cuts := ⟨fun i => match Nat.beq i 16 with | true => some (fun E D H => DG (E.get? 0) fun w0 => DP w0 fun p11 => DG (E.get? 1) fun w1 => DP w1 fun p12 => DG (E.get? 7) fun w7 => DP w7 fun pw7 => NN pw7 fun a2 => DG (E.get? 13) fun w13 => DI .i64 w13 fun x45 => DG (E.get? 15) fun w15 => DP w15 fun p13 => DG (E.get? 17) fun w17 => DP w17 fun pw17 => NN pw17 fun a3 => DDef 67 D fun dc0 da0 D1 => DNil dc0 (DCons da0 fun u0da0 r0da0 => DP u0da0 fun p14 => DCons r0da0 fun u1da0 r1da0 => DSl u1da0 fun A1 n1 m1 => DNil r1da0 (DDef 67 D1 fun dc1 da1 D2 => DNil dc1 (DCons da1 fun u0da1 r0da1 => DP u0da1 fun p15 => DCons r0da1 fun u1da1 r1da1 => DSl u1da1 fun A2 n2 m2 => DNil r1da1 (DNilD D2 (W_pass_Run.j16 K p11 p12 a2 x45 p13 a3 p14 A1 n1 m1 p15 A2 n2 m2 H)))))) | false => none, fun i => match Nat.beq i 17 with | true => some (fun E D H => ∃ k, W_pass_Run.l17.L K k E D H) | false => none, (fun i => match Nat.beq i 15 with | true => some ([], [], 0) | false => none)⟩
theorem W_pass_Run.ok (p1 : Option Addr) (p2 : Option Addr) (x1 : Int) (x2 : Int) (x3 : Int) (x4 : Int) (x5 : Int) (p3 : Option Addr) (x6 : Int) (H : Hp) (K : Value → Hp → Prop) (h : W_pass_Run p1 p2 x1 x2 x3 x4 x5 p3 x6 H K) : HCalls Tryd.prog 23 #[.pointer p1, .pointer p2, .agg #[.int .i64 x1, .int .i64 x2, .int .i64 x3, .int .i64 x4, .int .u64 x5], .pointer p3, .int .i64 x6] H K :=
  hcalls Tryd.func23 rfl (Nat.le_of_ble_eq_true rfl) (hw_safe (Λ := (W_pass_Run.Λ K)) mixWpass _ _ _ _ _ (Eq.mp (by kernel_rfl) h) (obs_seq obs_region rfl (obs_seq (obs_seq obs_region rfl (obs_seq obs_region rfl (obs_cond (obs_seq obs_region rfl obs_ret) obs_skip))) rfl (obs_seq obs_region rfl (obs_seq (obs_seq obs_region rfl (obs_cond (obs_seq obs_region rfl obs_ret) obs_skip)) rfl (obs_seq obs_region rfl (obs_seq (obs_seq obs_region rfl (obs_cond (obs_seq obs_region rfl obs_ret) obs_skip)) rfl (obs_seq obs_region rfl (obs_seq obs_region rfl (obs_seq (obs_seq obs_region rfl (obs_cond (obs_seq obs_region rfl obs_ret) obs_skip)) rfl (obs_seq obs_region rfl (obs_seqc obs_region rfl (fun E D H h => by
      obtain ⟨w0, e0, g1⟩ := DG.out h
      obtain ⟨p11, rfl, g2⟩ := DP.out g1
      obtain ⟨w1, e1, g3⟩ := DG.out g2
      obtain ⟨p12, rfl, g4⟩ := DP.out g3
      obtain ⟨w7, e7, g5⟩ := DG.out g4
      obtain ⟨pw7, rfl, g6⟩ := DP.out g5
      obtain ⟨a2, rfl, g7⟩ := NN.out g6
      obtain ⟨w13, e13, g8⟩ := DG.out g7
      obtain ⟨x45, rfl, g9⟩ := DI.out g8
      obtain ⟨w15, e15, g10⟩ := DG.out g9
      obtain ⟨p13, rfl, g11⟩ := DP.out g10
      obtain ⟨w17, e17, g12⟩ := DG.out g11
      obtain ⟨pw17, rfl, g13⟩ := DP.out g12
      obtain ⟨a3, rfl, g14⟩ := NN.out g13
      obtain ⟨dc0, da0, D1, rfl, g15⟩ := DDef.out g14
      obtain ⟨rfl, g16⟩ := DNil.out g15
      obtain ⟨u0da0, r0da0, rfl, g17⟩ := DCons.out g16
      obtain ⟨p14, rfl, g18⟩ := DP.out g17
      obtain ⟨u1da0, r1da0, rfl, g19⟩ := DCons.out g18
      obtain ⟨A1, n1, m1, rfl, g20⟩ := DSl.out g19
      obtain ⟨rfl, g21⟩ := DNil.out g20
      obtain ⟨dc1, da1, D2, rfl, g22⟩ := DDef.out g21
      obtain ⟨rfl, g23⟩ := DNil.out g22
      obtain ⟨u0da1, r0da1, rfl, g24⟩ := DCons.out g23
      obtain ⟨p15, rfl, g25⟩ := DP.out g24
      obtain ⟨u1da1, r1da1, rfl, g26⟩ := DCons.out g25
      obtain ⟨A2, n2, m2, rfl, g27⟩ := DSl.out g26
      obtain ⟨rfl, g28⟩ := DNil.out g27
      obtain ⟨rfl, h'⟩ := DNilD.out g28
      exact (hw_safe (Λ := (W_pass_Run.Λ K)) mixWpass _ _ [(0, .pointer p11), (1, .pointer p12), (7, .pointer (some a2)), (13, .int .i64 x45), (15, .pointer p13), (17, .pointer (some a3))] [{ target := .fn (.func 67) #[], args := #[.pointer p14, .slice A1 n1 m1] }, { target := .fn (.func 67) #[], args := #[.pointer p15, .slice A2 n2 m2] }] H (Eq.mp (by kernel_rfl) h') (obs_seq (obs_seq obs_region rfl (obs_block (obs_loop rfl (fun E D H h => by
          refine Safe.loop' (W_pass_Run.l17.L K) (fun E D H h => ?_) (fun k E D H h => ?_) E D H h
          · obtain ⟨w0, e0, g1⟩ := DG.out h; obtain ⟨p16, rfl, g2⟩ := DP.out g1; obtain ⟨w1, e1, g3⟩ := DG.out g2; obtain ⟨p17, rfl, g4⟩ := DP.out g3; obtain ⟨w7, e7, g5⟩ := DG.out g4; obtain ⟨pw7, rfl, g6⟩ := DP.out g5; obtain ⟨a4, rfl, g7⟩ := NN.out g6; obtain ⟨w13, e13, g8⟩ := DG.out g7; obtain ⟨x46, rfl, g9⟩ := DI.out g8; obtain ⟨w15, e15, g10⟩ := DG.out g9; obtain ⟨p18, rfl, g11⟩ := DP.out g10; obtain ⟨w17, e17, g12⟩ := DG.out g11; obtain ⟨pw17, rfl, g13⟩ := DP.out g12; obtain ⟨a5, rfl, g14⟩ := NN.out g13; obtain ⟨w18, e18, g15⟩ := DG.out g14; obtain ⟨x47, rfl, g16⟩ := DI.out g15; obtain ⟨dc0, da0, D1, rfl, g17⟩ := DDef.out g16; obtain ⟨rfl, g18⟩ := DNil.out g17; obtain ⟨u0da0, r0da0, rfl, g19⟩ := DCons.out g18; obtain ⟨p19, rfl, g20⟩ := DP.out g19; obtain ⟨u1da0, r1da0, rfl, g21⟩ := DCons.out g20; obtain ⟨A3, n3, m3, rfl, g22⟩ := DSl.out g21; obtain ⟨rfl, g23⟩ := DNil.out g22; obtain ⟨dc1, da1, D2, rfl, g24⟩ := DDef.out g23; obtain ⟨rfl, g25⟩ := DNil.out g24; obtain ⟨u0da1, r0da1, rfl, g26⟩ := DCons.out g25; obtain ⟨p20, rfl, g27⟩ := DP.out g26; obtain ⟨u1da1, r1da1, rfl, g28⟩ := DCons.out g27; obtain ⟨A4, n4, m4, rfl, g29⟩ := DSl.out g28; obtain ⟨rfl, g30⟩ := DNil.out g29; obtain ⟨rfl, h'⟩ := DNilD.out g30; exact h'
          · obtain ⟨w0, e0, g1⟩ := DG.out h
            obtain ⟨p16, rfl, g2⟩ := DP.out g1
            obtain ⟨w1, e1, g3⟩ := DG.out g2
            obtain ⟨p17, rfl, g4⟩ := DP.out g3
            obtain ⟨w7, e7, g5⟩ := DG.out g4
            obtain ⟨pw7, rfl, g6⟩ := DP.out g5
            obtain ⟨a4, rfl, g7⟩ := NN.out g6
            obtain ⟨w13, e13, g8⟩ := DG.out g7
            obtain ⟨x46, rfl, g9⟩ := DI.out g8
            obtain ⟨w15, e15, g10⟩ := DG.out g9
            obtain ⟨p18, rfl, g11⟩ := DP.out g10
            obtain ⟨w17, e17, g12⟩ := DG.out g11
            obtain ⟨pw17, rfl, g13⟩ := DP.out g12
            obtain ⟨a5, rfl, g14⟩ := NN.out g13
            obtain ⟨w18, e18, g15⟩ := DG.out g14
            obtain ⟨x47, rfl, g16⟩ := DI.out g15
            obtain ⟨dc0, da0, D1, rfl, g17⟩ := DDef.out g16
            obtain ⟨rfl, g18⟩ := DNil.out g17
            obtain ⟨u0da0, r0da0, rfl, g19⟩ := DCons.out g18
            obtain ⟨p19, rfl, g20⟩ := DP.out g19
            obtain ⟨u1da0, r1da0, rfl, g21⟩ := DCons.out g20
            obtain ⟨A3, n3, m3, rfl, g22⟩ := DSl.out g21
            obtain ⟨rfl, g23⟩ := DNil.out g22
            obtain ⟨dc1, da1, D2, rfl, g24⟩ := DDef.out g23
            obtain ⟨rfl, g25⟩ := DNil.out g24
            obtain ⟨u0da1, r0da1, rfl, g26⟩ := DCons.out g25
            obtain ⟨p20, rfl, g27⟩ := DP.out g26
            obtain ⟨u1da1, r1da1, rfl, g28⟩ := DCons.out g27
            obtain ⟨A4, n4, m4, rfl, g29⟩ := DSl.out g28
            obtain ⟨rfl, g30⟩ := DNil.out g29
            obtain ⟨rfl, h'⟩ := DNilD.out g30
            exact (hw_safe (Λ := (W_pass_Run.Λ17 K (W_pass_Run.l17 K k))) mixWpass _ _ [(0, .pointer p16), (1, .pointer p17), (7, .pointer (some a4)), (13, .int .i64 x46), (15, .pointer p18), (17, .pointer (some a5)), (18, .int .i64 x47)] [{ target := .fn (.func 67) #[], args := #[.pointer p19, .slice A3 n3 m3] }, { target := .fn (.func 67) #[], args := #[.pointer p20, .slice A4 n4 m4] }] H (Eq.mp (by kernel_rfl) h') (obs_seq (obs_seq obs_region rfl (obs_cond obs_skip obs_exit)) rfl (obs_seq (obs_block (obs_seq obs_region rfl (obs_seq obs_region rfl (obs_cond (obs_seq obs_region rfl obs_ret) obs_skip)))) rfl obs_region))).weaken (EnvLe.cons e0 (EnvLe.cons e1 (EnvLe.cons e7 (EnvLe.cons e13 (EnvLe.cons e15 (EnvLe.cons e17 (EnvLe.cons e18 (EnvLe.nil _)))))))) (Hp.le_refl _))))) rfl (obs_seq obs_region rfl obs_ret))).weaken (EnvLe.cons e0 (EnvLe.cons e1 (EnvLe.cons e7 (EnvLe.cons e13 (EnvLe.cons e15 (EnvLe.cons e17 (EnvLe.nil _))))))) (Hp.le_refl _))))))))))))))

-- pass.Cost
def W_pass_Cost (x1 : Int) (x2 : Int) (x3 : Int) (x4 : Int) (H : Hp) (K : Value → Hp → Prop) : Prop :=
  Nw H (.obj (.cells #[.int .i64 x1, .int .i64 x2] 44)) fun b1 H1 => Nw H1 (.obj (.cells #[.int .i64 (0 : Int), .int .i64 (0 : Int), .int .i64 (0 : Int)] 64)) fun b2 H2 => LdA H2 (⟨b1, 0, none⟩ : Addr) 2 fun l1 => HCalls Tryd.prog 30 #[.agg l1.toArray, .int .i64 x3, .int .i64 x4] H2 fun v1 H3 => DTup v1 fun l2 => DCons l2 fun v2 l3 => DI .i64 v2 fun x5 => DCons l3 fun v3 l4 => DB v3 fun c1 => DNil l4 (BIf (!c1) (StA H3 (⟨b2, 0, none⟩ : Addr) #[.int .i64 (0 : Int), .int .i64 (0 : Int), .int .i64 (0 : Int)] 3 fun H4 => LdA H4 (⟨b2, 0, none⟩ : Addr) 3 fun l7 => K (.tuple #[.agg l7.toArray, .int .i64 (6 : Int)]) H4) (Ld H3 ((⟨b1, 0, none⟩ : Addr).add 0) fun v4 => DI .i64 v4 fun x6 => (x5 ≠ 0 ∧ IntKind.i64 = IntKind.i64 ∧ Ld H3 ((⟨b1, 0, none⟩ : Addr).add 1) fun v5 => DI .i64 v5 fun x7 => (x3 ≠ 0 ∧ IntKind.i64 = IntKind.i64 ∧ Nw H3 (.obj (.cells #[.int .i64 (0 : Int), .int .i64 (0 : Int), .int .i64 (0 : Int)] 64)) fun b3 H5 => StA H5 (⟨b3, 0, none⟩ : Addr) #[.int .i64 (IntKind.i64.wrap ((IntKind.i64.wrap (Int.tdiv x6 x5)) * (if (IntKind.i64.wrap (Int.tdiv (IntKind.i64.wrap (x5 * x7)) x3)) > (1 : Int) then (IntKind.i64.wrap (Int.tdiv (IntKind.i64.wrap (x5 * x7)) x3)) else (1 : Int)))), .int .i64 (IntKind.i64.wrap ((IntKind.i64.wrap (Int.tdiv x6 x5)) * (if (IntKind.i64.wrap (Int.tdiv (IntKind.i64.wrap (x5 * x7)) x3)) > (1 : Int) then (IntKind.i64.wrap (Int.tdiv (IntKind.i64.wrap (x5 * x7)) x3)) else (1 : Int)))), .int .i64 (0 : Int)] 3 fun H6 => Ld H6 ((⟨b1, 0, none⟩ : Addr).add 1) fun v6 => DI .i64 v6 fun x8 => BIf (decide ((IntKind.i64.wrap (x5 * x8)) < x3)) (Ld H6 ((⟨b3, 0, none⟩ : Addr).add 0) fun v7 => DI .i64 v7 fun x9 => St H6 (((⟨b3, 0, none⟩ : Addr).add 0).add 0) (.int .i64 (IntKind.i64.wrap (x9 + (IntKind.i64.wrap (Int.tdiv x6 x5))))) fun H7 => LdA H7 (⟨b3, 0, none⟩ : Addr) 3 fun l5 => StA H7 (⟨b2, 0, none⟩ : Addr) l5.toArray 3 fun H8 => LdA H8 (⟨b2, 0, none⟩ : Addr) 3 fun l8 => K (.tuple #[.agg l8.toArray, .int .i64 (0 : Int)]) H8) (LdA H6 (⟨b3, 0, none⟩ : Addr) 3 fun l6 => StA H6 (⟨b2, 0, none⟩ : Addr) l6.toArray 3 fun H9 => LdA H9 (⟨b2, 0, none⟩ : Addr) 3 fun l9 => K (.tuple #[.agg l9.toArray, .int .i64 (0 : Int)]) H9)))))
def W_pass_Cost.Λ (_ : Value → Hp → Prop) : Cuts := Cuts.none (fun _ => none)
theorem W_pass_Cost.ok (x1 : Int) (x2 : Int) (x3 : Int) (x4 : Int) (H : Hp) (K : Value → Hp → Prop) (h : W_pass_Cost x1 x2 x3 x4 H K) : HCalls Tryd.prog 29 #[.agg #[.int .i64 x1, .int .i64 x2], .int .i64 x3, .int .i64 x4] H K :=
  hcalls Tryd.func29 rfl (Nat.le_of_ble_eq_true rfl) (hw_safe (Λ := Cuts.none (fun _ => none)) mixWpass _ _ _ _ _ (Eq.mp (by kernel_rfl) h) (obs_none _ _ _ _ _))

-- pass.Batch
def W_pass_Batch.l4 (K : Value → Hp → Prop) : Nat → Int → Int → Addr → Int → Hp → Prop
  | 0, _, _, _, _, _ => False
  | k + 1, x7, x8, a1, x9, H =>
    let R4 := W_pass_Batch.l4 K k
    Ld H (a1.add 0) fun v4 => DI .i64 v4 fun x10 => BIf (decide ((IntKind.i64.wrap ((2 : Int) * x9)) ≤ x10)) (Ld H (a1.add 1) fun v5 => DI .i64 v5 fun x11 => (x11 ≠ 0 ∧ IntKind.i64 = IntKind.i64 ∧ BIf (decide ((IntKind.i64.wrap ((IntKind.i64.wrap ((2 : Int) * x9)) + (1 : Int))) ≤ (IntKind.i64.wrap (Int.tdiv (IntKind.i64.wrap (x8 - x7)) x11)))) (R4 x7 x8 a1 (IntKind.i64.wrap (x9 * (2 : Int))) H) (K (.tuple #[.int .i64 x9, .bool true]) H))) (K (.tuple #[.int .i64 x9, .bool true]) H)
def W_pass_Batch (x1 : Int) (x2 : Int) (x3 : Int) (x4 : Int) (H : Hp) (K : Value → Hp → Prop) : Prop :=
  Nw H (.obj (.cells #[.int .i64 x1, .int .i64 x2] 44)) fun b1 H1 => LdA H1 (⟨b1, 0, none⟩ : Addr) 2 fun l1 => HCalls Tryd.prog 76 #[.agg l1.toArray] H1 fun v1 H2 => DB v1 fun c1 => BIf (!c1) (K (.tuple #[.int .i64 (0 : Int), .bool false]) H2) (Ld H2 ((⟨b1, 0, none⟩ : Addr).add 1) fun v2 => DI .i64 v2 fun x5 => BIf (decide (x5 > (1048576 : Int))) (K (.tuple #[.int .i64 (0 : Int), .bool false]) H2) (BIf (decide (x3 < (4 : Int))) (K (.tuple #[.int .i64 (0 : Int), .bool false]) H2) (BIf (decide (x3 > (512 : Int))) (K (.tuple #[.int .i64 (0 : Int), .bool false]) H2) (BIf ((bAnd .i64 x3 (IntKind.i64.wrap (x3 - (1 : Int)))) != (0 : Int)) (K (.tuple #[.int .i64 (0 : Int), .bool false]) H2) (BIf (decide (x4 < x3)) (K (.tuple #[.int .i64 (0 : Int), .bool false]) H2) (Ld H2 ((⟨b1, 0, none⟩ : Addr).add 1) fun v3 => DI .i64 v3 fun x6 => BIf (decide ((IntKind.i64.wrap (x4 - x3)) < (IntKind.i64.wrap ((2 : Int) * x6)))) (K (.tuple #[.int .i64 (0 : Int), .bool false]) H2) ((∃ k, W_pass_Batch.l4 K k x3 x4 (⟨b1, 0, none⟩ : Addr) (1 : Int) H2))))))))
def W_pass_Batch.l4.L (K : Value → Hp → Prop) (k : Nat) : Mid := fun E D H =>
  DG (E.get? 1) fun w1 => DI .i64 w1 fun x7 => DG (E.get? 2) fun w2 => DI .i64 w2 fun x8 => DG (E.get? 3) fun w3 => DP w3 fun pw3 => NN pw3 fun a1 => DG (E.get? 6) fun w6 => DI .i64 w6 fun x9 => DNilD D (W_pass_Batch.l4 K k x7 x8 a1 x9 H)
def W_pass_Batch.Λ4 (_ : Value → Hp → Prop) (_R4 : Int → Int → Addr → Int → Hp → Prop) : Cuts := Cuts.none (fun _ => none)
def W_pass_Batch.Λ (K : Value → Hp → Prop) : Cuts := ⟨fun i => none, fun i => match Nat.beq i 4 with | true => some (fun E D H => ∃ k, W_pass_Batch.l4.L K k E D H) | false => none, (fun _ => none)⟩
theorem W_pass_Batch.ok (x1 : Int) (x2 : Int) (x3 : Int) (x4 : Int) (H : Hp) (K : Value → Hp → Prop) (h : W_pass_Batch x1 x2 x3 x4 H K) : HCalls Tryd.prog 30 #[.agg #[.int .i64 x1, .int .i64 x2], .int .i64 x3, .int .i64 x4] H K :=
  hcalls Tryd.func30 rfl (Nat.le_of_ble_eq_true rfl) (hw_safe (Λ := (W_pass_Batch.Λ K)) mixWpass _ _ _ _ _ (Eq.mp (by kernel_rfl) h) (obs_seq obs_region rfl (obs_seq (obs_seq obs_region rfl (obs_cond (obs_seq obs_region rfl obs_ret) obs_skip)) rfl (obs_seq obs_region rfl (obs_seq (obs_block (obs_loop rfl (fun E D H h => by
      refine Safe.loop' (W_pass_Batch.l4.L K) (fun E D H h => ?_) (fun k E D H h => ?_) E D H h
      · obtain ⟨w1, e1, g1⟩ := DG.out h; obtain ⟨x7, rfl, g2⟩ := DI.out g1; obtain ⟨w2, e2, g3⟩ := DG.out g2; obtain ⟨x8, rfl, g4⟩ := DI.out g3; obtain ⟨w3, e3, g5⟩ := DG.out g4; obtain ⟨pw3, rfl, g6⟩ := DP.out g5; obtain ⟨a1, rfl, g7⟩ := NN.out g6; obtain ⟨w6, e6, g8⟩ := DG.out g7; obtain ⟨x9, rfl, g9⟩ := DI.out g8; obtain ⟨rfl, h'⟩ := DNilD.out g9; exact h'
      · obtain ⟨w1, e1, g1⟩ := DG.out h
        obtain ⟨x7, rfl, g2⟩ := DI.out g1
        obtain ⟨w2, e2, g3⟩ := DG.out g2
        obtain ⟨x8, rfl, g4⟩ := DI.out g3
        obtain ⟨w3, e3, g5⟩ := DG.out g4
        obtain ⟨pw3, rfl, g6⟩ := DP.out g5
        obtain ⟨a1, rfl, g7⟩ := NN.out g6
        obtain ⟨w6, e6, g8⟩ := DG.out g7
        obtain ⟨x9, rfl, g9⟩ := DI.out g8
        obtain ⟨rfl, h'⟩ := DNilD.out g9
        exact (hw_safe (Λ := (W_pass_Batch.Λ4 K (W_pass_Batch.l4 K k))) mixWpass _ _ [(1, .int .i64 x7), (2, .int .i64 x8), (3, .pointer (some a1)), (6, .int .i64 x9)] [] H (Eq.mp (by kernel_rfl) h') (obs_seq (obs_seq obs_region rfl (obs_cond obs_skip obs_exit)) rfl (obs_block obs_region))).weaken (EnvLe.cons e1 (EnvLe.cons e2 (EnvLe.cons e3 (EnvLe.cons e6 (EnvLe.nil _))))) (Hp.le_refl _)))) rfl (obs_seq obs_region rfl obs_ret))))))

-- pass.check
def W_pass_check (p1 : Option Addr) (p2 : Option Addr) (x1 : Int) (x2 : Int) (x3 : Int) (x4 : Int) (x5 : Int) (p3 : Option Addr) (H : Hp) (K : Value → Hp → Prop) : Prop :=
  Nw H (.obj (.cells #[.int .i64 x1, .int .i64 x2, .int .i64 x3, .int .i64 x4, .int .u64 x5] 56)) fun b1 H1 => BIf p1.isNone (K (.int .i64 (1 : Int)) H1) (BIf p2.isNone (K (.int .i64 (1 : Int)) H1) (BIf p3.isNone (K (.int .i64 (1 : Int)) H1) (LdA H1 ((⟨b1, 0, none⟩ : Addr).add 0) 2 fun l1 => QCall Tryd.prog 76 #[.agg l1.toArray] H1 fun v1 => DB v1 fun c1 => BIf (!c1) (K (.int .i64 (19 : Int)) H1) (QCall Tryd.prog 103 #[.pointer p1] H1 fun v2 => DI .i64 v2 fun x6 => LdA H1 ((⟨b1, 0, none⟩ : Addr).add 0) 2 fun l2 => QCall Tryd.prog 104 #[.agg l2.toArray] H1 fun v3 => DI .i64 v3 fun x7 => BIf (x6 != x7) (K (.int .i64 (19 : Int)) H1) (QCall Tryd.prog 103 #[.pointer p2] H1 fun v4 => DI .i64 v4 fun x8 => LdA H1 ((⟨b1, 0, none⟩ : Addr).add 0) 2 fun l3 => QCall Tryd.prog 104 #[.agg l3.toArray] H1 fun v5 => DI .i64 v5 fun x9 => BIf (x8 != x9) (K (.int .i64 (19 : Int)) H1) (Ld H1 ((⟨b1, 0, none⟩ : Addr).add 2) fun v6 => DI .i64 v6 fun x10 => BIf (decide (x10 < (0 : Int))) (K (.int .i64 (18 : Int)) H1) (Ld H1 ((⟨b1, 0, none⟩ : Addr).add 2) fun v7 => DI .i64 v7 fun x11 => BIf (decide (x11 > (1 : Int))) (K (.int .i64 (18 : Int)) H1) (Ld H1 ((⟨b1, 0, none⟩ : Addr).add 3) fun v8 => DI .i64 v8 fun x12 => BIf (decide (x12 < (-1 : Int))) (K (.int .i64 (2 : Int)) H1) (Ld H1 ((⟨b1, 0, none⟩ : Addr).add 3) fun v9 => DI .i64 v9 fun x13 => BIf (decide (x13 > (32 : Int))) (K (.int .i64 (2 : Int)) H1) (K (.int .i64 (0 : Int)) H1))))))))))
def W_pass_check.Λ (_ : Value → Hp → Prop) : Cuts := Cuts.none (fun _ => none)
theorem W_pass_check.ok (p1 : Option Addr) (p2 : Option Addr) (x1 : Int) (x2 : Int) (x3 : Int) (x4 : Int) (x5 : Int) (p3 : Option Addr) (H : Hp) (K : Value → Hp → Prop) (h : W_pass_check p1 p2 x1 x2 x3 x4 x5 p3 H K) : HCalls Tryd.prog 64 #[.pointer p1, .pointer p2, .agg #[.int .i64 x1, .int .i64 x2, .int .i64 x3, .int .i64 x4, .int .u64 x5], .pointer p3] H K :=
  hcalls Tryd.func64 rfl (Nat.le_of_ble_eq_true rfl) (hw_safe (Λ := Cuts.none (fun _ => none)) mixWpass _ _ _ _ _ (Eq.mp (by kernel_rfl) h) (obs_none _ _ _ _ _))

-- (*pass.run).batch
def W_pass_run_batch.l6 (K : Value → Hp → Prop) : Nat → Option Addr → Option Addr → Option Addr → Nat → Nat → Int → Int → Int → Hp → Prop
  | 0, _, _, _, _, _, _, _, _, _ => False
  | k + 1, p4, p5, A2, n2, m2, x4, x5, x6, H =>
    let R6 := W_pass_run_batch.l6 K k
    BIf (decide (x6 < ((n2 : Nat) : Int))) (slB n2 m2 (some x6) (some (IntKind.i64.wrap (x6 + x5))) fun n3 n4 => (x5 ≠ 0 ∧ IntKind.i64 = IntKind.i64 ∧ HCalls Tryd.prog 110 #[.pointer p4, .slice (slA A2 m2 n3 1) (n4 - n3) (m2 - n3), .int .i64 (IntKind.i64.wrap (x4 + (IntKind.i64.wrap (Int.tdiv x6 x5))))] H fun v3 H2 => R6 p4 p5 A2 n2 m2 x4 x5 (IntKind.i64.wrap (x6 + x5)) H2)) (NN p4 fun a2 => HCalls Tryd.prog 111 #[.pointer (some (a2.add 0)), .slice A2 n2 m2] H fun v4 H3 => HCalls Tryd.prog 63 #[.pointer p5, .int .i64 (IntKind.i64.wrap (x4 * x5)), .slice A2 n2 m2] H3 fun v5 H4 => DI .i64 v5 fun x7 => K (.int .i64 x7) H4)
def W_pass_run_batch (p1 : Option Addr) (p2 : Option Addr) (p3 : Option Addr) (A1 : Option Addr) (n1 : Nat) (m1 : Nat) (x1 : Int) (H : Hp) (K : Value → Hp → Prop) : Prop :=
  NN p1 fun a1 => Ld H (((a1.add 2).add 0).add 1) fun v1 => DI .i64 v1 fun x2 => HCalls Tryd.prog 74 #[.pointer p2, .int .i64 (IntKind.i64.wrap (x1 * x2)), .slice A1 n1 m1] H fun v2 H1 => DI .i64 v2 fun x3 => BIf (x3 != (0 : Int)) (K (.int .i64 x3) H1) ((∃ k, W_pass_run_batch.l6 K k p1 p3 A1 n1 m1 x1 x2 (0 : Int) H1))
def W_pass_run_batch.l6.L (K : Value → Hp → Prop) (k : Nat) : Mid := fun E D H =>
  DG (E.get? 0) fun w0 => DP w0 fun p4 => DG (E.get? 2) fun w2 => DP w2 fun p5 => DG (E.get? 3) fun w3 => DSl w3 fun A2 n2 m2 => DG (E.get? 4) fun w4 => DI .i64 w4 fun x4 => DG (E.get? 11) fun w11 => DI .i64 w11 fun x5 => DG (E.get? 13) fun w13 => DI .i64 w13 fun x6 => DNilD D (W_pass_run_batch.l6 K k p4 p5 A2 n2 m2 x4 x5 x6 H)
def W_pass_run_batch.Λ6 (_ : Value → Hp → Prop) (_R6 : Option Addr → Option Addr → Option Addr → Nat → Nat → Int → Int → Int → Hp → Prop) : Cuts := Cuts.none (fun i => match Nat.beq i 8 with | true => some ([], [0, 1, 2, 3, 4, 5, 6, 7, 8, 9, 10, 11], 12) | false => none)
def W_pass_run_batch.Λ (K : Value → Hp → Prop) : Cuts := ⟨fun i => none, fun i => match Nat.beq i 6 with | true => some (fun E D H => ∃ k, W_pass_run_batch.l6.L K k E D H) | false => none, (fun i => match Nat.beq i 8 with | true => some ([], [0, 1, 2, 3, 4, 5, 6, 7, 8, 9, 10, 11], 12) | false => none)⟩
theorem W_pass_run_batch.ok (p1 : Option Addr) (p2 : Option Addr) (p3 : Option Addr) (A1 : Option Addr) (n1 : Nat) (m1 : Nat) (x1 : Int) (H : Hp) (K : Value → Hp → Prop) (h : W_pass_run_batch p1 p2 p3 A1 n1 m1 x1 H K) : HCalls Tryd.prog 70 #[.pointer p1, .pointer p2, .pointer p3, .slice A1 n1 m1, .int .i64 x1] H K :=
  hcalls Tryd.func70 rfl (Nat.le_of_ble_eq_true rfl) (hw_safe (Λ := (W_pass_run_batch.Λ K)) mixWpass _ _ _ _ _ (Eq.mp (by kernel_rfl) h) (obs_seq obs_region rfl (obs_seq obs_region rfl (obs_seq (obs_seq obs_region rfl (obs_seq obs_region rfl (obs_cond (obs_seq obs_region rfl obs_ret) obs_skip))) rfl (obs_seq (obs_seq obs_region rfl (obs_block (obs_loop rfl (fun E D H h => by
      refine Safe.loop' (W_pass_run_batch.l6.L K) (fun E D H h => ?_) (fun k E D H h => ?_) E D H h
      · obtain ⟨w0, e0, g1⟩ := DG.out h; obtain ⟨p4, rfl, g2⟩ := DP.out g1; obtain ⟨w2, e2, g3⟩ := DG.out g2; obtain ⟨p5, rfl, g4⟩ := DP.out g3; obtain ⟨w3, e3, g5⟩ := DG.out g4; obtain ⟨A2, n2, m2, rfl, g6⟩ := DSl.out g5; obtain ⟨w4, e4, g7⟩ := DG.out g6; obtain ⟨x4, rfl, g8⟩ := DI.out g7; obtain ⟨w11, e11, g9⟩ := DG.out g8; obtain ⟨x5, rfl, g10⟩ := DI.out g9; obtain ⟨w13, e13, g11⟩ := DG.out g10; obtain ⟨x6, rfl, g12⟩ := DI.out g11; obtain ⟨rfl, h'⟩ := DNilD.out g12; exact h'
      · obtain ⟨w0, e0, g1⟩ := DG.out h
        obtain ⟨p4, rfl, g2⟩ := DP.out g1
        obtain ⟨w2, e2, g3⟩ := DG.out g2
        obtain ⟨p5, rfl, g4⟩ := DP.out g3
        obtain ⟨w3, e3, g5⟩ := DG.out g4
        obtain ⟨A2, n2, m2, rfl, g6⟩ := DSl.out g5
        obtain ⟨w4, e4, g7⟩ := DG.out g6
        obtain ⟨x4, rfl, g8⟩ := DI.out g7
        obtain ⟨w11, e11, g9⟩ := DG.out g8
        obtain ⟨x5, rfl, g10⟩ := DI.out g9
        obtain ⟨w13, e13, g11⟩ := DG.out g10
        obtain ⟨x6, rfl, g12⟩ := DI.out g11
        obtain ⟨rfl, h'⟩ := DNilD.out g12
        exact (hw_safe (Λ := (W_pass_run_batch.Λ6 K (W_pass_run_batch.l6 K k))) mixWpass _ _ [(0, .pointer p4), (2, .pointer p5), (3, .slice A2 n2 m2), (4, .int .i64 x4), (11, .int .i64 x5), (13, .int .i64 x6)] [] H (Eq.mp (by kernel_rfl) h') (obs_seq (obs_seq obs_region rfl (obs_cond obs_skip obs_exit)) rfl (obs_seq (obs_block obs_region) rfl obs_region))).weaken (EnvLe.cons e0 (EnvLe.cons e2 (EnvLe.cons e3 (EnvLe.cons e4 (EnvLe.cons e11 (EnvLe.cons e13 (EnvLe.nil _))))))) (Hp.le_refl _))))) rfl (obs_seq obs_region rfl (obs_seq obs_region rfl obs_ret)))))))

-- (*pass.run).work
def W_pass_run_work.j4 (K : Value → Hp → Prop) (p3 : Option Addr) (A4 : Option Addr) (n4 : Nat) (m4 : Nat) (H : Hp) : Prop :=
  NN p3 fun a6 => Ld H ((a6.add 2).add 4) fun v17 => DI .u64 v17 fun x13 => HCalls Tryd.prog 146 #[.slice A4 n4 m4, .int .u64 x13] H fun v18 H6 => DSl v18 fun A5 n5 m5 => CpK Tryd.prog 22 (.slice A4 n4 m4) (.slice A5 n5 m5) H6 fun v19 H7 => DI .i64 v19 fun x14 => K (.tuple #[]) H7
def W_pass_run_work (p1 : Option Addr) (A1 : Option Addr) (n1 : Nat) (m1 : Nat) (x1 : Int) (H : Hp) (K : Value → Hp → Prop) : Prop :=
  NN p1 fun a1 => Ld H (a1.add 7) fun v1 => DP v1 fun p2 => NN p1 fun a2 => Ld H ((a2.add 2).add 2) fun v2 => DI .i64 v2 fun x2 => HCalls Tryd.prog 144 #[.pointer p2, .slice A1 n1 m1, .int .i64 x2] H fun v3 H1 => DI .i64 v3 fun x3 => NN p1 fun a3 => Ld H1 ((a3.add 2).add 3) fun v4 => DI .i64 v4 fun x4 => BIf (decide (x4 ≥ (0 : Int))) (NN p1 fun a4 => NN p1 fun a5 => (Ld H1 ((a4.add 2).add 3) fun v5 => DI .i64 v5 fun x5 => Ld H1 ((a5.add 2).add 2) fun v6 => DI .i64 v6 fun x6 => HCalls Tryd.prog 145 #[.slice A1 n1 m1, .agg #[.int .i64 (1 : Int), .int .i64 ((n1 : Nat) : Int), .int .i64 x1, .int .i64 (0 : Int)], .int .i64 x5, .int .i64 x6] H1 fun v7 H2 => DTup v7 fun l1 => DCons l1 fun v8 l2 => DSl v8 fun A2 n2 m2 => DCons l2 fun v9 l3 => DI .i64 v9 fun x7 => DNil l3 (CpK Tryd.prog 22 (.slice A1 n1 m1) (.slice A2 n2 m2) H2 fun v15 H4 => DI .i64 v15 fun x11 => W_pass_run_work.j4 K p1 A1 n1 m1 H4)) ∧ (Ld H1 ((a5.add 2).add 2) fun v10 => DI .i64 v10 fun x8 => Ld H1 ((a4.add 2).add 3) fun v11 => DI .i64 v11 fun x9 => HCalls Tryd.prog 145 #[.slice A1 n1 m1, .agg #[.int .i64 (1 : Int), .int .i64 ((n1 : Nat) : Int), .int .i64 x1, .int .i64 (0 : Int)], .int .i64 x9, .int .i64 x8] H1 fun v12 H3 => DTup v12 fun l4 => DCons l4 fun v13 l5 => DSl v13 fun A3 n3 m3 => DCons l5 fun v14 l6 => DI .i64 v14 fun x10 => DNil l6 (CpK Tryd.prog 22 (.slice A1 n1 m1) (.slice A3 n3 m3) H3 fun v16 H5 => DI .i64 v16 fun x12 => W_pass_run_work.j4 K p1 A1 n1 m1 H5))) (W_pass_run_work.j4 K p1 A1 n1 m1 H1)
def W_pass_run_work.Λ (K : Value → Hp → Prop) : Cuts := ⟨fun i => match Nat.beq i 4 with | true => some (fun E D H => DG (E.get? 0) fun w0 => DP w0 fun p3 => DG (E.get? 1) fun w1 => DSl w1 fun A4 n4 m4 => DNilD D (W_pass_run_work.j4 K p3 A4 n4 m4 H)) | false => none, fun i => none, (fun i => match Nat.beq i 2 with | true => some ([], [], 0) | false => match Nat.beq i 0 with | true => some ([], [0, 1, 2, 3, 4, 5, 6, 7, 8, 9], 10) | false => none)⟩
theorem W_pass_run_work.ok (p1 : Option Addr) (A1 : Option Addr) (n1 : Nat) (m1 : Nat) (x1 : Int) (H : Hp) (K : Value → Hp → Prop) (h : W_pass_run_work p1 A1 n1 m1 x1 H K) : HCalls Tryd.prog 110 #[.pointer p1, .slice A1 n1 m1, .int .i64 x1] H K :=
  hcalls Tryd.func110 rfl (Nat.le_of_ble_eq_true rfl) (hw_safe (Λ := (W_pass_run_work.Λ K)) mixWpass _ _ _ _ _ (Eq.mp (by kernel_rfl) h) (obs_seq obs_region rfl (obs_seqc (obs_seq obs_region rfl (obs_cond (obs_seq obs_region rfl obs_region) obs_skip)) rfl (fun E D H h => by
      obtain ⟨w0, e0, g1⟩ := DG.out h
      obtain ⟨p3, rfl, g2⟩ := DP.out g1
      obtain ⟨w1, e1, g3⟩ := DG.out g2
      obtain ⟨A4, n4, m4, rfl, g4⟩ := DSl.out g3
      obtain ⟨rfl, h'⟩ := DNilD.out g4
      exact (hw_safe (Λ := (W_pass_run_work.Λ K)) mixWpass _ _ [(0, .pointer p3), (1, .slice A4 n4 m4)] [] H (Eq.mp (by kernel_rfl) h') obs_region).weaken (EnvLe.cons e0 (EnvLe.cons e1 (EnvLe.nil _))) (Hp.le_refl _)))))

end Go.Proofs.YtbnhfcdagoigkaaDoor.W

end
section
/-! PasA -/
/- pass: a row. -/
set_option maxRecDepth 100000
set_option linter.unusedSimpArgs false
set_option linter.unusedVariables false
set_option linter.unnecessarySimpa false
set_option linter.unusedSectionVars false
namespace Go.Proofs.YtbnhfcdagoigkaaDoor.Pas
open Go Go.Hw Go.Proofs.YtbnhfcdagoigkaaDoor.W Go.Proofs.YtbnhfcdagoigkaaDoor.Shp Go.Proofs.YtbnhfcdagoigkaaDoor.Gol Go.Proofs.YtbnhfcdagoigkaaDoor.Fft Go.Proofs.YtbnhfcdagoigkaaDoor.Ker

/-- A job of rows. -/
structure J where
  ea : Nat
  eb : Nat
  d : Bool
  tw : Int
  sh : UInt64
def J.dir (j : J) : Int := if j.d = true then 1 else 0
def J.a (j : J) : Array Value := #[.int .i64 ((2 ^ j.ea : Nat) : Int), .int .i64 ((2 ^ j.eb : Nat) : Int), .int .i64 (if j.d = true then 1 else 0), .int .i64 j.tw, .int .u64 (j.sh.toNat : Int)]
def runR (j : J) (kp : Nat) : List Value := [.int .i64 ((2 ^ j.ea : Nat) : Int), .int .i64 ((2 ^ j.eb : Nat) : Int), .int .i64 (if j.d = true then 1 else 0), .int .i64 j.tw, .int .u64 (j.sh.toNat : Int), .pointer (some ⟨kp, 0, none⟩)]
def runO (s : Crc.W32) (k : Nat) (j : J) (kp : Nat) : AO := .obj (.cells (CrcP.ctrC s k (runR j kp)) 141)

/-- What becomes of the r-th row. -/
def twL (j : J) (r : Nat) (l : List UInt64) : List UInt64 := if 0 ≤ j.tw then tileL (pw (rtd j.d j.tw.toNat) r) l else l
def rowP (j : J) (r : Nat) (l : List UInt64) : List UInt64 := sclL (zw j.sh) (twL j r (dftL j.d j.eb l))
theorem twL_len (j : J) (r : Nat) (l : List UInt64) : (twL j r l).length = l.length := by
  unfold twL; split
  · exact tileL_len _ _
  · rfl
theorem rowP_len (j : J) (r : Nat) (l : List UInt64) : (rowP j r l).length = 2 ^ j.eb := by unfold rowP; rw [sclL_len, twL_len, dftL_len]

theorem setAt_over {xs us bs : List Value} {off : Nat} (h : off + us.length ≤ xs.length) (hl : bs.length = us.length) : setAt (setAt xs off us) off bs = setAt xs off bs := by
  apply List.ext_getElem?
  intro i
  rw [setAt_get (by rw [setAt_length h]; omega), setAt_get h, setAt_get (by omega)]
  by_cases h1 : i < off
  · rw [if_pos h1, if_pos h1, if_pos h1]
  · rw [if_neg h1, if_neg h1, if_neg h1]
    by_cases h2 : i < off + bs.length
    · rw [if_pos h2, if_pos h2]
    · rw [if_neg h2, if_neg h2, if_neg (by omega)]
theorem one_vals (ws : List UInt64) : ∀ y ∈ wordVals ws, y.oneCell' = true := fun y hy => by
  unfold wordVals at hy
  obtain ⟨w, _, rfl⟩ := List.mem_map.1 hy
  rfl
theorem own_cells {e : TypeId} {A : Option Addr} {n m : Nat} {ws : List UInt64} {H : Hp} (h : Own e 1 A n m (wordVals ws) H) : Cells H A (wordVals ws) := by
  obtain ⟨h1, h2⟩ := h
  rcases h2 with ⟨rfl, rfl, rfl⟩ | ⟨b, mm, rfl, h4, _⟩
  · rw [Nat.zero_mul] at h1
    rw [List.length_eq_zero_iff.1 h1]
    exact Cells.nil _ _
  · have := Cells.row h4 0 (wordVals ws).length
    rw [List.drop_zero, List.take_of_length_le (Nat.le_refl _)] at this
    exact this

section
variable {TT : As} {kp b off mm n m rn r : Nat} {s : Crc.W32} {sk : Nat} {j : J} {l : List UInt64} {xs : List Value} {e : TypeId}

/-- A row of words is copied over another one. -/
theorem over_seg {H : Hp} {L : List As} {i : Nat} (hs : Sep L H) {ws us : List UInt64} (hi : L[i]? = some (pts b (.row (setAt xs off (wordVals ws)) e mm))) (hw : ws.length = n) (hu : us.length = n) (hx : off + n ≤ xs.length) {A : Option Addr} {m' : Nat} (hc : Cells H A (wordVals us)) {K : Value → Hp → Prop}
    (kk : ∀ H', Sep (L.set i (pts b (.row (setAt xs off (wordVals us)) e mm))) H' → K (.int .i64 (n : Int)) H') : CpK Tryd.prog 22 (.slice (some ⟨b, off, none⟩) n m) (.slice A n m') H K := by
  refine hs.cp i (k := n) (n := n) (c := m) (x := .slice A n m') (ys := wordVals us) hi cell_u64 rfl (by rw [show Nat.min n n = n from Nat.min_self n]; exact src_of hc (by rw [wordVals_length, hu])) (by rw [row_len (by omega), wordVals_length, hu]; exact hx) (one_vals us) fun H' hs' => ?_
  rw [setAt_over (by rw [wordVals_length]; omega) (by rw [wordVals_length, wordVals_length, hu, hw])] at hs'
  rw [show Nat.min n n = n from Nat.min_self n]
  exact kk H' hs'

theorem work_j4 (hn : n = 2 ^ j.eb) (hb : j.eb ≤ 20) (hx : off + n ≤ xs.length) {ws : List UInt64} (hw : ws.length = n) {L : List As} (K : Value → Hp → Prop)
    (hK : ∀ H, Sep (pts rn (runO s sk j kp) :: pts b (.row (setAt xs off (wordVals (sclL (zw j.sh) ws))) e mm) :: L) H → K (.tuple #[]) H) {H : Hp} (hs : Sep (pts rn (runO s sk j kp) :: pts b (.row (setAt xs off (wordVals ws)) e mm) :: L) H) :
    W_pass_run_work.j4 K (some ⟨rn, 0, none⟩) (some ⟨b, off, none⟩) n m H := by
  have h20 := pow_le hb
  unfold W_pass_run_work.j4
  simp only [NN_some]
  refine hs.ldg 0 rfl rfl ?_
  simp only [DI_int', DB_bool, DS_string, DP_pointer, DSl_slice, DM_map, DA_agg, DTup_tuple, DCons_cons, DNil_nil, NN_some, BIf_true, BIf_false, BIf_same, List.toList_toArray, Bool.not_true, Bool.not_false]
  refine (Scale_tr (n := n) (m := m) (R := pts b (.row (setAt xs off (wordVals ws)) e mm)) j.sh (fun H h => seg_cells h (by omega)) hw (by omega)).use hs [1] rfl rfl ?_
  rintro _ _ H ⟨r1, rfl, rfl⟩ hs
  have hs : Sep (pts r1 (.row (wordVals (sclL (zw j.sh) ws)) 22 (n * 1)) :: pts b (.row (setAt xs off (wordVals ws)) e mm) :: pts rn (runO s sk j kp) :: L) H := by
    have : rest (pts rn (runO s sk j kp) :: pts b (.row (setAt xs off (wordVals ws)) e mm) :: L) [1] = pts rn (runO s sk j kp) :: L := by
      have key : ∀ (L : List As) k, 2 ≤ k → rest.go [1] k L = L := by
        intro L
        induction L with
        | nil => intro k _; rfl
        | cons A L ih =>
          intro k hk
          unfold rest.go
          have : ([1] : List Nat).contains k = false := by simp; omega
          rw [this, ih (k + 1) (by omega)]
      show pts rn (runO s sk j kp) :: rest.go [1] 2 L = _
      rw [key L 2 (Nat.le_refl _)]
    rw [this] at hs
    exact hs
  simp only [DI_int', DB_bool, DS_string, DP_pointer, DSl_slice, DM_map, DA_agg, DTup_tuple, DCons_cons, DNil_nil, NN_some, BIf_true, BIf_false, BIf_same, List.toList_toArray, Bool.not_true, Bool.not_false]
  have hc : Cells H (some ⟨r1, 0, none⟩) (wordVals (sclL (zw j.sh) ws)) := by
    have := Cells.row (hs.get 0 rfl) 0 n
    rw [List.drop_zero, List.take_of_length_le (by rw [wordVals_length, sclL_len]; omega)] at this
    exact this
  refine over_seg (m' := n) hs (i := 1) rfl hw (by rw [sclL_len]; exact hw) hx hc fun H hs => ?_
  simp only [DI_int', DB_bool, DS_string, DP_pointer, DSl_slice, DM_map, DA_agg, DTup_tuple, DCons_cons, DNil_nil, NN_some, BIf_true, BIf_false, BIf_same, List.toList_toArray, Bool.not_true, Bool.not_false]
  refine hK H ?_
  have hs := hs.tail
  exact hs.swap

theorem work_tr (hT : ∀ H, TT H → T64 H) (hn : n = 2 ^ j.eb) (hb : j.eb ≤ 20) (htw : j.tw ≤ 32) (hr : r ≤ 4294967295) (hl : l.length = n) (hm : n ≤ m) (hx : off + n ≤ xs.length) (hseg : setAt xs off (wordVals l) = xs) :
    Tr Tryd.prog 110 #[.pointer (some ⟨rn, 0, none⟩), .slice (some ⟨b, off, none⟩) n m, .int .i64 (r : Int)] [pts rn (runO s sk j kp), pts b (.row xs e mm), Kn kp j.eb, TT] fun v M =>
      v = .tuple #[] ∧ M = [pts rn (runO s sk j kp), pts b (.row (setAt xs off (wordVals (rowP j r l))) e mm), Kn kp j.eb, TT] := fun H hs => by
  have h20 := pow_le hb
  apply W_pass_run_work.ok
  unfold W_pass_run_work
  simp only [NN_some]
  refine hs.ldf 0 rfl rfl ?_
  simp only [DI_int', DB_bool, DS_string, DP_pointer, DSl_slice, DM_map, DA_agg, DTup_tuple, DCons_cons, DNil_nil, NN_some, BIf_true, BIf_false, BIf_same, List.toList_toArray, Bool.not_true, Bool.not_false]
  refine hs.ldg 0 rfl rfl ?_
  simp only [DI_int', DB_bool, DS_string, DP_pointer, DSl_slice, DM_map, DA_agg, DTup_tuple, DCons_cons, DNil_nil, NN_some, BIf_true, BIf_false, BIf_same, List.toList_toArray, Bool.not_true, Bool.not_false]
  refine (Plain_tr (kp := kp) (m := m) (mm := mm) (e := e) hT hb hn hl hx hseg j.d).use hs [1, 2, 3] rfl rfl ?_
  rintro _ _ H ⟨rfl, rfl⟩ hs
  simp only [DI_int', DB_bool, DS_string, DP_pointer, DSl_slice, DM_map, DA_agg, DTup_tuple, DCons_cons, DNil_nil, NN_some, BIf_true, BIf_false, BIf_same, List.toList_toArray, Bool.not_true, Bool.not_false]
  have hs : Sep [pts b (.row (setAt xs off (wordVals (dftL j.d j.eb l))) e mm), Kn kp j.eb, TT, pts rn (runO s sk j kp)] H := hs
  refine hs.ldg 3 rfl rfl ?_
  simp only [DI_int', DB_bool, DS_string, DP_pointer, DSl_slice, DM_map, DA_agg, DTup_tuple, DCons_cons, DNil_nil, NN_some, BIf_true, BIf_false, BIf_same, List.toList_toArray, Bool.not_true, Bool.not_false]
  have hdl : (dftL j.d j.eb l).length = n := by rw [dftL_len, hn]
  have fin : ∀ {ws : List UInt64} {H : Hp}, ws.length = n → twL j r (dftL j.d j.eb l) = ws → Sep [pts b (.row (setAt xs off (wordVals ws)) e mm), Kn kp j.eb, TT, pts rn (runO s sk j kp)] H →
      W_pass_run_work.j4 (fun v H' => ∃ M, (v = .tuple #[] ∧ M = [pts rn (runO s sk j kp), pts b (.row (setAt xs off (wordVals (rowP j r l))) e mm), Kn kp j.eb, TT]) ∧ Sep M H') (some ⟨rn, 0, none⟩) (some ⟨b, off, none⟩) n m H := fun {ws} {H} hw he hs => by
    refine work_j4 (s := s) (sk := sk) (kp := kp) (mm := mm) (e := e) (L := [Kn kp j.eb, TT]) hn hb hx hw _ (fun H hs => ⟨_, ⟨rfl, rfl⟩, ?_⟩) (hs.re [3, 0, 1, 2] rfl)
    unfold rowP
    rw [he]; exact hs
  by_cases ht : 0 ≤ j.tw
  · refine BIf_dpos ht ?_
    obtain ⟨t, ht'⟩ := Int.eq_ofNat_of_zero_le ht
    have hz : pw (rtd j.d j.tw.toNat) r = pw (rtd j.d t) r := by rw [ht', Int.toNat_natCast]
    refine ⟨?_, ?_⟩
    all_goals
      refine hs.ldg 3 rfl rfl ?_
      simp only [DI_int', DB_bool, DS_string, DP_pointer, DSl_slice, DM_map, DA_agg, DTup_tuple, DCons_cons, DNil_nil, NN_some, BIf_true, BIf_false, BIf_same, List.toList_toArray, Bool.not_true, Bool.not_false]
      refine hs.ldg 3 rfl rfl ?_
      simp only [DI_int', DB_bool, DS_string, DP_pointer, DSl_slice, DM_map, DA_agg, DTup_tuple, DCons_cons, DNil_nil, NN_some, BIf_true, BIf_false, BIf_same, List.toList_toArray, Bool.not_true, Bool.not_false]
      rw [ht']
      refine (Tile_tr (n := n) (m := m) (k := t) (r := r) (l := dftL j.d j.eb l) (R := pts b (.row (setAt xs off (wordVals (dftL j.d j.eb l))) e mm)) hT (fun H h => seg_cells h (by omega)) hn hb hdl hm (by omega) hr j.d).use hs [0, 2] rfl rfl ?_
      rintro _ _ H ⟨A', m', rfl, rfl⟩ hs
      simp only [DI_int', DB_bool, DS_string, DP_pointer, DSl_slice, DM_map, DA_agg, DTup_tuple, DCons_cons, DNil_nil, NN_some, BIf_true, BIf_false, BIf_same, List.toList_toArray, Bool.not_true, Bool.not_false]
      refine over_seg (m' := m') hs (i := 1) rfl hdl (by rw [tileL_len]; exact hdl) hx (own_cells (hs.own 0 rfl)) fun H hs => ?_
      simp only [DI_int', DB_bool, DS_string, DP_pointer, DSl_slice, DM_map, DA_agg, DTup_tuple, DCons_cons, DNil_nil, NN_some, BIf_true, BIf_false, BIf_same, List.toList_toArray, Bool.not_true, Bool.not_false]
      exact fin (by rw [tileL_len]; exact hdl) (by unfold twL; rw [if_pos ht, hz]) (hs.re [1, 3, 2, 4] rfl)
  · exact BIf_dneg ht (fin hdl (by unfold twL; rw [if_neg ht]) hs)
end

end Go.Proofs.YtbnhfcdagoigkaaDoor.Pas

end
section
/-! PasB -/
/- pass: a batch of rows. -/
set_option maxRecDepth 100000
set_option linter.unusedSimpArgs false
set_option linter.unusedVariables false
set_option linter.unnecessarySimpa false
set_option linter.unusedSectionVars false
namespace Go.Proofs.YtbnhfcdagoigkaaDoor.Pas
open Go Go.Hw Go.Crc Go.Form Go.Proofs.YtbnhfcdagoigkaaDoor.W Go.Proofs.YtbnhfcdagoigkaaDoor.Shp Go.Proofs.YtbnhfcdagoigkaaDoor.Gol Go.Proofs.YtbnhfcdagoigkaaDoor.Fft Go.Proofs.YtbnhfcdagoigkaaDoor.Ker Go.Proofs.YtbnhfcdagoigkaaDoor.Str Go.Proofs.YtbnhfcdagoigkaaDoor.Dsk Go.Proofs.YtbnhfcdagoigkaaDoor.Are Go.Proofs.YtbnhfcdagoigkaaDoor.Trn

/-- Rows that were done, ahead of those that weren't. -/
def batF (j : J) (r : Nat) (ws : List UInt64) (i : Nat) : List UInt64 := (List.range i).flatMap fun q => rowP j (r + q) ((ws.drop (q * 2 ^ j.eb)).take (2 ^ j.eb))
def batL (j : J) (r : Nat) (ws : List UInt64) (i : Nat) : List UInt64 := batF j r ws i ++ ws.drop (i * 2 ^ j.eb)
theorem batF_len (j : J) (r : Nat) (ws : List UInt64) : ∀ i, (batF j r ws i).length = i * 2 ^ j.eb
  | 0 => by simp [batF]
  | i + 1 => by
    unfold batF
    rw [List.range_succ, List.flatMap_append, List.length_append]
    have := batF_len j r ws i
    unfold batF at this
    rw [this, Nat.succ_mul]
    simp [rowP_len]
theorem batF_succ (j : J) (r : Nat) (ws : List UInt64) (i : Nat) : batF j r ws (i + 1) = batF j r ws i ++ rowP j (r + i) ((ws.drop (i * 2 ^ j.eb)).take (2 ^ j.eb)) := by
  unfold batF
  rw [List.range_succ, List.flatMap_append]; simp
theorem batL_len {j : J} {r : Nat} {ws : List UInt64} {i nb : Nat} (hw : ws.length = nb * 2 ^ j.eb) (hi : i ≤ nb) : (batL j r ws i).length = nb * 2 ^ j.eb := by
  unfold batL
  have : i * 2 ^ j.eb ≤ nb * 2 ^ j.eb := Nat.mul_le_mul_right _ hi
  rw [List.length_append, batF_len, List.length_drop]; omega
theorem batL_zero (j : J) (r : Nat) (ws : List UInt64) : batL j r ws 0 = ws := by simp [batL, batF]
theorem setW_at (a b c : List UInt64) : setW (a ++ b) a.length c = a ++ c ++ b.drop c.length := by
  unfold setW
  rw [List.take_left, ← List.drop_drop, List.drop_left]

section
variable {TT : As} {kp rn p q dp ap bb mb : Nat} {s : W32} {sk : Nat} {j : J} {x y : X} {cap peak : Int} {bufs : List (Nat × Nat × Option Addr)}

theorem batch_loop (K : Value → Hp → Prop) (hT : ∀ H, TT H → T64 H) (hb : j.eb ≤ 20) (htw : j.tw ≤ 32) {nb r : Nat} (hr : r + nb ≤ 4294967296) (hsz : nb * 2 ^ j.eb ≤ 4294967296) {ws : List UInt64} (hw : ws.length = nb * 2 ^ j.eb) {L : List As} {n : Nat} (hn : n = nb * 2 ^ j.eb)
    (hK : ∀ H, Sep (pts rn (runO s sk j kp) :: pts bb (.row (wordVals (batF j r ws nb)) 22 mb) :: Kn kp j.eb :: TT :: L) H → W_pass_run_batch.l6 K 1 (some ⟨rn, 0, none⟩) (some ⟨q, 0, none⟩) (some ⟨bb, 0, none⟩) n n (r : Int) ((2 ^ j.eb : Nat) : Int) (n : Int) H) :
    ∀ (t i : Nat) (z : Int) (H : Hp), z = ((i * 2 ^ j.eb : Nat) : Int) → i + t = nb → Sep (pts rn (runO s sk j kp) :: pts bb (.row (wordVals (batL j r ws i)) 22 mb) :: Kn kp j.eb :: TT :: L) H →
      W_pass_run_batch.l6 K (t + 1) (some ⟨rn, 0, none⟩) (some ⟨q, 0, none⟩) (some ⟨bb, 0, none⟩) n n (r : Int) ((2 ^ j.eb : Nat) : Int) z H
  | 0, i, _, H, rfl, hi, hs => by
    obtain rfl : i = nb := by omega
    rw [← hn]
    refine hK H ?_
    unfold batL at hs
    rw [List.drop_eq_nil_of_le (by omega), List.append_nil] at hs
    exact hs
  | t + 1, i, _, H, rfl, hi, hs => by
    have hc1 := pow_pos j.eb
    have hse : (i + 1) * 2 ^ j.eb = i * 2 ^ j.eb + 2 ^ j.eb := Nat.succ_mul _ _
    have h20 := pow_le hb
    have hi1 : (i + 1) * 2 ^ j.eb ≤ nb * 2 ^ j.eb := Nat.mul_le_mul_right _ (by omega)
    have hi1' := hi1
    rw [Nat.succ_mul] at hi1
    unfold W_pass_run_batch.l6
    refine BIf_dpos (by omega) ?_
    rw [show IntKind.i64.wrap (((i * 2 ^ j.eb : Nat) : Int) + ((2 ^ j.eb : Nat) : Int)) = (((i + 1) * 2 ^ j.eb : Nat) : Int) by rw [Nat.succ_mul, ← Int.natCast_add, i64n (by omega)]]
    refine ⟨by omega, by omega, by omega, by omega, ?_⟩
    rw [Int.toNat_natCast, Int.toNat_natCast]
    refine ⟨by omega, by simp, ?_⟩
    rw [show Int.tdiv ((i * 2 ^ j.eb : Nat) : Int) ((2 ^ j.eb : Nat) : Int) = ((i * 2 ^ j.eb / 2 ^ j.eb : Nat) : Int) from rfl, Nat.mul_div_cancel _ (by omega), i64n (n := i) (by omega), ← Int.natCast_add, i64n (n := r + i) (by omega),
      slA_at (by omega), show (i + 1) * 2 ^ j.eb - i * 2 ^ j.eb = 2 ^ j.eb by rw [Nat.succ_mul]; omega, Nat.zero_add]
    have hA := batF_len j r ws i
    have hlen := batL_len (j := j) (r := r) hw (show i ≤ nb by omega)
    have hseg : setAt (wordVals (batL j r ws i)) (i * 2 ^ j.eb) (wordVals ((ws.drop (i * 2 ^ j.eb)).take (2 ^ j.eb))) = wordVals (batL j r ws i) := by
      rw [setW_vals]
      unfold batL
      rw [← hA, setW_at, hA, List.append_assoc]
      congr 2
      rw [List.length_take, List.length_drop, Nat.min_eq_left (by omega)]
      exact List.take_append_drop _ _
    have hsl : ((ws.drop (i * 2 ^ j.eb)).take (2 ^ j.eb)).length = 2 ^ j.eb := by rw [List.length_take, List.length_drop]; omega
    have ht := work_tr (rn := rn) (kp := kp) (b := bb) (off := i * 2 ^ j.eb) (mm := mb) (n := 2 ^ j.eb) (m := n - i * 2 ^ j.eb) (r := r + i) (s := s) (sk := sk) (j := j) (l := (ws.drop (i * 2 ^ j.eb)).take (2 ^ j.eb)) (xs := wordVals (batL j r ws i)) (e := 22) hT rfl hb htw (by omega) hsl (by omega) (by rw [wordVals_length, hlen]; omega) hseg
    have e0 : sel (pts rn (runO s sk j kp) :: pts bb (.row (wordVals (batL j r ws i)) 22 mb) :: Kn kp j.eb :: TT :: L) [0, 1, 2, 3] = [pts rn (runO s sk j kp), pts bb (.row (wordVals (batL j r ws i)) 22 mb), Kn kp j.eb, TT] := rfl
    refine ht.use hs [0, 1, 2, 3] e0 rfl ?_
    rintro _ _ H ⟨rfl, rfl⟩ hs
    have erest : rest (pts rn (runO s sk j kp) :: pts bb (.row (wordVals (batL j r ws i)) 22 mb) :: Kn kp j.eb :: TT :: L) [0, 1, 2, 3] = L := by
      have key : ∀ (L : List As) k, 4 ≤ k → rest.go [0, 1, 2, 3] k L = L := by
        intro L
        induction L with
        | nil => intro k _; rfl
        | cons A L ih =>
          intro k hk
          unfold rest.go
          have : ([0, 1, 2, 3] : List Nat).contains k = false := by simp; omega
          rw [this, ih (k + 1) (by omega)]
      exact key L 4 (Nat.le_refl _)
    rw [erest] at hs
    have hstep : setAt (wordVals (batL j r ws i)) (i * 2 ^ j.eb) (wordVals (rowP j (r + i) ((ws.drop (i * 2 ^ j.eb)).take (2 ^ j.eb)))) = wordVals (batL j r ws (i + 1)) := by
      rw [setW_vals]
      unfold batL
      rw [← hA, setW_at, hA, batF_succ, rowP_len, List.drop_drop, Nat.succ_mul]
    rw [hstep] at hs
    exact batch_loop K hT hb htw hr hsz hw hn hK t (i + 1) _ H rfl (by omega) hs

/-- What a batch leaves. -/
def batP (rn p q dp ap kp bb : Nat) (s : W32) (sk : Nat) (j : J) (d : D) (x y : X) (r nb : Nat) (cap peak : Int) (bufs : List (Nat × Nat × Option Addr)) (mb : Nat) (TT : As) (v : Value) (M : List As) : Prop :=
  let n := nb * 2 ^ j.eb
  let f := r * 2 ^ j.eb
  let us := batF j r (pws d x f n) nb
  let t := (pcs (D.per d) x.f n f n).length
  (Prog (inX y) d (wrsG (D.rdG d t) y n f us) (t + pcsR (D.per d) y.f n f n) (pcs (D.per d) y.f n f n).length ∧ v = .int .i64 0 ∧
    M = [pts rn (runO (more s (form us)) (sk + 8 * n) j kp), pts bb (.row (wordVals us) 22 mb), pts p (pipO dp ap x), pts q (pipO dp ap y), Dk dp (wrsG (D.rdG d t) y n f us), Ar ap cap (mx peak (sumB bufs + D.per d)) bufs, Kn kp j.eb, TT]) ∨
  (∃ d', Dead (inX y) d d' ∧ d.fuse ≤ t + pcsR (D.per d) y.f n f n + (pcs (D.per d) y.f n f n).length ∧ v = .int .i64 8 ∧
    M = [pts p (pipO dp ap x), pts q (pipO dp ap y), Dk dp d', Ar ap cap (mx peak (sumB bufs + D.per d)) bufs, TT])

set_option maxHeartbeats 1000000 in
theorem batch_tr {d : D} (hT : ∀ H, TT H → T64 H) (hok : Ok d) (hl : d.down = false) (hx : On d x) (hy : On d y) (ho : d.rd ≤ 4000000000000000000 ∧ d.wr ≤ 4000000000000000000) (hb : j.eb ≤ 20) (htw : j.tw ≤ 32) {r nb : Nat} (hnb : 1 ≤ nb) (hr : r + nb ≤ 4294967296) (hsz : nb * 2 ^ j.eb ≤ 4294967296)
    (hfx : r * 2 ^ j.eb + nb * 2 ^ j.eb ≤ x.w) (hfy : r * 2 ^ j.eb + nb * 2 ^ j.eb ≤ y.w) (hxw : x.w ≤ 4294967296) (hsk : sk ≤ 1000000000000) (hcap : (D.per d : Int) ≤ cap - sumB bufs) (ws : List UInt64) (hws : ws.length = nb * 2 ^ j.eb) :
    Tr Tryd.prog 70 #[.pointer (some ⟨rn, 0, none⟩), .pointer (some ⟨p, 0, none⟩), .pointer (some ⟨q, 0, none⟩), .slice (some ⟨bb, 0, none⟩) (nb * 2 ^ j.eb) (nb * 2 ^ j.eb), .int .i64 (r : Int)]
      [pts rn (runO s sk j kp), pts bb (.row (wordVals ws) 22 mb), pts p (pipO dp ap x), pts q (pipO dp ap y), Dk dp d, Ar ap cap peak bufs, Kn kp j.eb, TT] (batP rn p q dp ap kp bb s sk j d x y r nb cap peak bufs mb TT) := fun H hs => by
  have hp := Ok.per_le hok
  have hc1 := pow_pos j.eb
  have hn1 : 1 * 1 ≤ nb * 2 ^ j.eb := Nat.mul_le_mul hnb hc1
  have hpl := pcs_len (D.per d) x.f (nb * 2 ^ j.eb) (r * 2 ^ j.eb) (nb * 2 ^ j.eb)
  apply W_pass_run_batch.ok
  unfold W_pass_run_batch
  simp only [NN_some]
  rw [show (((⟨rn, 0, none⟩ : Addr).add 2).add 0).add 1 = ⟨rn, 3, none⟩ by rw [Addr.add_zero, Addr.add_lit', Addr.add_lit']]
  refine hs.ld 0 rfl rfl ?_
  simp only [DI_int', DB_bool, DS_string, DP_pointer, DSl_slice, DM_map, DA_agg, DTup_tuple, DCons_cons, DNil_nil, NN_some, BIf_true, BIf_false, BIf_same, List.toList_toArray, Bool.not_true, Bool.not_false]
  rw [← Int.natCast_mul, i64n (by omega)]
  refine (ReadG_tr (p := p) (dp := dp) (ap := ap) (d := d) (x := x) (cap := cap) (peak := peak) (bufs := bufs) (rl := bb) (off := 0) (mm := mb) (el := 22) (xs := wordVals ws) hok hl hx (by omega) (r * 2 ^ j.eb) (nb * 2 ^ j.eb) (nb * 2 ^ j.eb) (by omega) hfx (Nat.le_refl _) (by rw [wordVals_length]; omega) hcap).use hs [2, 4, 5, 1] rfl rfl ?_
  rintro v M H (⟨hgo, rfl, rfl⟩ | ⟨i, xs', hi, hfi, _, rfl, rfl⟩) hs
  case inr =>
    simp only [DI_int', DB_bool, DS_string, DP_pointer, DSl_slice, DM_map, DA_agg, DTup_tuple, DCons_cons, DNil_nil, NN_some, BIf_true, BIf_false, BIf_same, List.toList_toArray, Bool.not_true, Bool.not_false]
    refine BIf_bnep (by decide) ⟨_, .inr ⟨_, (Dead.rdG (fun _ => False) hok hl hfi).mono fun _ h => h.elim, by omega, rfl, rfl⟩, hs.re [0, 5, 1, 2, 7] rfl⟩
  simp only [DI_int', DB_bool, DS_string, DP_pointer, DSl_slice, DM_map, DA_agg, DTup_tuple, DCons_cons, DNil_nil, NN_some, BIf_true, BIf_false, BIf_same, List.toList_toArray, Bool.not_true, Bool.not_false]
  refine BIf_bnen rfl ?_
  rw [setAt_all (by rw [wordVals_length, wordVals_length, pws_len, hws])] at hs
  have hpg := Prog.rdG (inX y) hok hl hgo
  generalize ht : (pcs (D.per d) x.f (nb * 2 ^ j.eb) (r * 2 ^ j.eb) (nb * 2 ^ j.eb)).length = t at *
  have hper : D.per (D.rdG d t) = D.per d := rfl
  refine ⟨nb + 1, ?_⟩
  refine batch_loop (q := q) (s := s) (sk := sk) (kp := kp) (mb := mb) (L := [pts p (pipO dp ap x), Dk dp (D.rdG d t), Ar ap cap (mx peak (sumB bufs + D.per d)) bufs, pts q (pipO dp ap y)]) _ hT hb htw hr hsz (ws := pws d x (r * 2 ^ j.eb) (nb * 2 ^ j.eb)) (pws_len _ _ _ _) rfl (fun H hs => ?_) nb 0 0 H (by rw [Nat.zero_mul]; rfl) (by omega) ?_
  · generalize hus : batF j r (pws d x (r * 2 ^ j.eb) (nb * 2 ^ j.eb)) nb = us at *
    have hul : us.length = nb * 2 ^ j.eb := by rw [← hus]; exact batF_len _ _ _ _
    have hcell : ∀ H, pts bb (.row (wordVals us) 22 mb) H → Cells H (some ⟨bb, 0, none⟩) (wordVals us) := fun H h => by
      have := Cells.row h 0 us.length
      rwa [List.drop_zero, List.take_of_length_le (by rw [wordVals_length]; exact Nat.le_refl _)] at this
    unfold W_pass_run_batch.l6
    refine BIf_dneg (Int.lt_irrefl _) ?_
    simp only [NN_some, Addr.add_zero]
    refine CrcP.AddWordsG_s hs 0 rfl (some ⟨bb, 0, none⟩) (nb * 2 ^ j.eb) (nb * 2 ^ j.eb) us hul.symm ?_ (by omega) (by omega) fun H hs => ?_
    · obtain ⟨H1, h1, hle⟩ := hs.see 1 rfl
      exact (hcell H1 h1).le hle
    have hs : Sep [pts rn (runO (more s (form us)) (sk + 8 * (nb * 2 ^ j.eb)) j kp), pts bb (.row (wordVals us) 22 mb), Kn kp j.eb, TT, pts p (pipO dp ap x), Dk dp (D.rdG d t), Ar ap cap (mx peak (sumB bufs + D.per d)) bufs, pts q (pipO dp ap y)] H := hs
    rw [← Int.natCast_mul, i64n (by omega)]
    refine (WriteG_tr (p := q) (dp := dp) (ap := ap) (d := D.rdG d t) (x := y) (cap := cap) (peak := mx peak (sumB bufs + D.per d)) (bufs := bufs) (R := pts bb (.row (wordVals us) 22 mb)) (A := some ⟨bb, 0, none⟩) (n := nb * 2 ^ j.eb) (m := nb * 2 ^ j.eb) (src := us) hpg.ok hpg.down (hy.prog hpg) ⟨by show d.rd + t ≤ _; omega, by show d.wr ≤ _; omega⟩ (r * 2 ^ j.eb) hul.symm (by omega) hfy (Nat.le_refl _) hcap hcell).use hs [7, 5, 6, 1] rfl rfl ?_
    rintro v M H (⟨hpg2, rfl, rfl⟩ | ⟨d', hd, hfu, rfl, rfl⟩) hs
    · simp only [DI_int', DB_bool, DS_string, DP_pointer, DSl_slice, DM_map, DA_agg, DTup_tuple, DCons_cons, DNil_nil, NN_some, BIf_true, BIf_false, BIf_same, List.toList_toArray, Bool.not_true, Bool.not_false]
      rw [hul, hper, mx_mx] at hs
      rw [hul, hper] at hpg2
      have hpg3 := hpg.trans hpg2
      rw [Nat.zero_add] at hpg3
      subst hus
      subst ht
      exact ⟨_, .inl ⟨hpg3, rfl, rfl⟩, hs.re [4, 3, 7, 0, 1, 2, 5, 6] rfl⟩
    · simp only [DI_int', DB_bool, DS_string, DP_pointer, DSl_slice, DM_map, DA_agg, DTup_tuple, DCons_cons, DNil_nil, NN_some, BIf_true, BIf_false, BIf_same, List.toList_toArray, Bool.not_true, Bool.not_false]
      rw [hper, mx_mx] at hs
      rw [hul, hper] at hfu
      subst hus
      subst ht
      refine ⟨_, .inr ⟨d', hpg.dead hd, ?_, rfl, rfl⟩, hs.re [7, 0, 1, 2, 6] rfl⟩
      have h1 := hpg.fuse
      have h2 := hpg.go
      omega
  · rw [batL_zero]
    exact hs.re [4, 3, 6, 7, 0, 1, 2, 5] rfl
end

end Go.Proofs.YtbnhfcdagoigkaaDoor.Pas

end
section
/-! TrnD -/
/- turn: Run. -/
set_option maxRecDepth 100000
set_option linter.unusedSimpArgs false
set_option linter.unusedVariables false
set_option linter.unnecessarySimpa false
set_option linter.unusedSectionVars false
namespace Go.Proofs.YtbnhfcdagoigkaaDoor.Trn
open Go Go.Hw Go.Crc Go.Form Go.Proofs.YtbnhfcdagoigkaaDoor.W Go.Proofs.YtbnhfcdagoigkaaDoor.Shp Go.Proofs.YtbnhfcdagoigkaaDoor.Str Go.Proofs.YtbnhfcdagoigkaaDoor.Dsk Go.Proofs.YtbnhfcdagoigkaaDoor.Are

theorem BandIs.unique {r c per free : Int} {j j' : Nat} (hr : 1 ≤ r) (h : BandIs r c per free j) (h' : BandIs r c per free j') : j = j' := by
  have key : ∀ {a b : Nat}, BandIs r c per free a → BandIs r c per free b → ¬ a < b := fun {a b} ha hb hlt => by
    have hp : 2 ^ (a + 1) ≤ 2 ^ b := pow_le hlt
    rw [Nat.pow_succ] at hp
    have hz := pow_pos a
    have h1 := hb.le
    have h2 := hb.fit
    rcases ha.most with e | e
    · omega
    · have h3 : 2 * ((2 ^ a : Nat) : Int) ≤ ((2 ^ b : Nat) : Int) := by omega
      have := Int.mul_le_mul_of_nonneg_right h3 (show 0 ≤ r by omega)
      omega
  have h1 := key h h'
  have h2 := key h' h
  omega

/-- There is a band. -/
theorem BandIs.ex {ea eb : Nat} {per free : Int} (hab : ea + eb ≤ 32) (h : ((2 ^ ea : Nat) : Int) ≤ free - per) : ∃ j, j ≤ eb ∧ BandIs ((2 ^ ea : Nat) : Int) ((2 ^ eb : Nat) : Int) per free j := by
  have key : ∀ t j, j + t = eb → ((2 ^ j : Nat) : Int) * ((2 ^ ea : Nat) : Int) ≤ free - per → ∃ j, j ≤ eb ∧ BandIs ((2 ^ ea : Nat) : Int) ((2 ^ eb : Nat) : Int) per free j := fun t => by
    induction t with
    | zero => intro j hj hf; exact ⟨j, by omega, ⟨by rw [show j = eb by omega]; exact Int.le_refl _, hf, .inl (by rw [show j = eb by omega])⟩⟩
    | succ t ih =>
      intro j hj hf
      by_cases hc : ((2 ^ (j + 1) : Nat) : Int) * ((2 ^ ea : Nat) : Int) ≤ free - per
      · exact ih (j + 1) (by omega) hc
      · refine ⟨j, by omega, ⟨Int.ofNat_le.2 (pow_le (by omega)), hf, .inr ?_⟩⟩
        rw [show (2 : Int) * ((2 ^ j : Nat) : Int) = ((2 ^ (j + 1) : Nat) : Int) by rw [Nat.pow_succ]; omega]
        omega
  exact key eb 0 (by omega) (by rw [Nat.pow_zero]; omega)
theorem BandIs.ge {r : Int} {eb : Nat} {per free : Int} {j : Nat} (h : BandIs r ((2 ^ eb : Nat) : Int) per free j) : j ≤ eb := by
  apply Nat.le_of_not_lt
  intro hlt
  have h1 := pow_le (show eb + 1 ≤ j from hlt)
  rw [Nat.pow_succ] at h1
  have := h.le
  have := pow_pos eb
  omega

section
variable {p q dp ap : Nat} {x y : X} {cap peak : Int} {bufs : List (Nat × Nat × Option Addr)} {TT : As}

theorem see_T {L : List As} {H : Hp} (hT : ∀ H, TT H → T64 H) (hs : Sep L H) (i : Nat) (hi : L[i]? = some TT) : T64 H := by
  obtain ⟨H1, h1, hle⟩ := hs.see i hi
  exact (hT H1 h1).le hle

theorem div_pow {a b : Nat} (h : a ≤ b) : 2 ^ b = 2 ^ b / 2 ^ a * 2 ^ a := (Nat.div_mul_cancel (Nat.pow_dvd_pow 2 h)).symm

end

end Go.Proofs.YtbnhfcdagoigkaaDoor.Trn

end
section
/-! PasC -/
/- pass: the greatest batch; what is wrong with a pass. -/
set_option maxRecDepth 100000
set_option linter.unusedSimpArgs false
set_option linter.unusedVariables false
set_option linter.unnecessarySimpa false
set_option linter.unusedSectionVars false
namespace Go.Proofs.YtbnhfcdagoigkaaDoor.Pas
open Go Go.Hw Go.Crc Go.Form Go.Proofs.YtbnhfcdagoigkaaDoor.W Go.Proofs.YtbnhfcdagoigkaaDoor.Shp Go.Proofs.YtbnhfcdagoigkaaDoor.Gol Go.Proofs.YtbnhfcdagoigkaaDoor.Fft Go.Proofs.YtbnhfcdagoigkaaDoor.Ker Go.Proofs.YtbnhfcdagoigkaaDoor.Str Go.Proofs.YtbnhfcdagoigkaaDoor.Dsk Go.Proofs.YtbnhfcdagoigkaaDoor.Are Go.Proofs.YtbnhfcdagoigkaaDoor.Trn

/-- The greatest batch: of 2^ea rows, where q rows have room. -/
structure BatIs (ea q j : Nat) : Prop where
  le : j ≤ ea
  fit : 2 ^ j + 1 ≤ q
  most : j = ea ∨ q < 2 * 2 ^ j + 1
theorem BatIs.unique {ea q j j' : Nat} (h : BatIs ea q j) (h' : BatIs ea q j') : j = j' := by
  have key : ∀ {a b : Nat}, BatIs ea q a → BatIs ea q b → ¬ a < b := fun {a b} ha hb hlt => by
    have hp : 2 ^ (a + 1) ≤ 2 ^ b := pow_le hlt
    rw [Nat.pow_succ] at hp
    have h1 := hb.le
    have h2 := hb.fit
    rcases ha.most with e | e
    · omega
    · omega
  have h1 := key h h'
  have h2 := key h' h
  omega
theorem BatIs.ex {ea q : Nat} (h : 2 ≤ q) : ∃ j, BatIs ea q j := by
  have key : ∀ t j, j + t = ea → 2 ^ j + 1 ≤ q → ∃ j, BatIs ea q j := fun t => by
    induction t with
    | zero => intro j hj hf; exact ⟨j, by omega, hf, .inl (by omega)⟩
    | succ t ih =>
      intro j hj hf
      by_cases hc : 2 ^ (j + 1) + 1 ≤ q
      · exact ih (j + 1) (by omega) hc
      · rw [Nat.pow_succ] at hc
        exact ⟨j, by omega, hf, .inr (by omega)⟩
  exact key ea 0 (by omega) (by rw [Nat.pow_zero]; omega)

theorem pow2_inj {a b : Nat} (h : 2 ^ a = 2 ^ b) : a = b := by
  rcases Nat.lt_trichotomy a b with h1 | h1 | h1
  · have := Nat.pow_lt_pow_right (show 1 < 2 by omega) h1; omega
  · exact h1
  · have := Nat.pow_lt_pow_right (show 1 < 2 by omega) h1; omega

abbrev batC (r c per free : Int) : Prop := goodS r c = true ∧ c ≤ 1048576 ∧ perB per = true ∧ per ≤ free ∧ 2 * c ≤ free - per
def batQ (r c per free : Int) (v : Value) : Prop :=
  (¬ batC r c per free ∧ v = .tuple #[.int .i64 0, .bool false]) ∨
  (batC r c per free ∧ ∃ ea eb j : Nat, r = ((2 ^ ea : Nat) : Int) ∧ c = ((2 ^ eb : Nat) : Int) ∧ ea + eb ≤ 32 ∧ BatIs ea ((free - per).toNat / 2 ^ eb) j ∧ v = .tuple #[.int .i64 ((2 ^ j : Nat) : Int), .bool true])

theorem bat_loop {r c per free : Int} {ea eb f : Nat} (hr : r = ((2 ^ ea : Nat) : Int)) (hc : c = ((2 ^ eb : Nat) : Int)) (hab : ea + eb ≤ 32) (hf : free - per = (f : Int)) (hf2 : f ≤ 9223372036854775807) (hfr : free - per ≤ 9223372036854775807) (K : Value → Hp → Prop) (b1 : Nat) {L : List As} (i : Nat)
    (hi : L[i]? = some (pts b1 (.obj (.cells #[.int .i64 r, .int .i64 c] 44)))) {H : Hp} (hs : Sep L H) (hK : ∀ j, BatIs ea (f / 2 ^ eb) j → K (.tuple #[.int .i64 ((2 ^ j : Nat) : Int), .bool true]) H) :
    ∀ (t j : Nat), j + t = ea → 2 ^ j + 1 ≤ f / 2 ^ eb → W_pass_Batch.l4 K (t + 1) per free ⟨b1, 0, none⟩ ((2 ^ j : Nat) : Int) H := by
  have hc1 := pow_pos eb
  intro t
  induction t with
  | zero =>
    intro j hj hfit
    have hp2 := pow_le (show j ≤ 32 by omega)
    have hp1 := pow_pos j
    unfold W_pass_Batch.l4
    rw [show (⟨b1, 0, none⟩ : Addr).add 0 = ⟨b1, 0, none⟩ from rfl]
    refine hs.ld i hi rfl ?_
    simp only [DI_int', DB_bool, DS_string, DP_pointer, DSl_slice, DM_map, DA_agg, DTup_tuple, DCons_cons, DNil_nil, NN_some, BIf_true, BIf_false, BIf_same, List.toList_toArray, Bool.not_true, Bool.not_false]
    rw [i64w (x := 2 * ((2 ^ j : Nat) : Int)) (by omega) (by omega)]
    refine BIf_dneg ?_ (hK j ⟨by omega, hfit, .inl (by omega)⟩)
    rw [hr, show ea = j by omega]; omega
  | succ t ih =>
    intro j hj hfit
    have hp2 := pow_le (show j + 1 ≤ 32 by omega)
    have hp3 := pow_le (show j + 1 ≤ ea by omega)
    have hp1 := pow_pos j
    rw [Nat.pow_succ] at hp2 hp3
    unfold W_pass_Batch.l4
    rw [show (⟨b1, 0, none⟩ : Addr).add 0 = ⟨b1, 0, none⟩ from rfl]
    refine hs.ld i hi rfl ?_
    simp only [DI_int', DB_bool, DS_string, DP_pointer, DSl_slice, DM_map, DA_agg, DTup_tuple, DCons_cons, DNil_nil, NN_some, BIf_true, BIf_false, BIf_same, List.toList_toArray, Bool.not_true, Bool.not_false]
    rw [i64w (x := 2 * ((2 ^ j : Nat) : Int)) (by omega) (by omega)]
    refine BIf_dpos (by rw [hr]; omega) ?_
    refine hs.ldf i hi rfl ?_
    simp only [DI_int', DB_bool, DS_string, DP_pointer, DSl_slice, DM_map, DA_agg, DTup_tuple, DCons_cons, DNil_nil, NN_some, BIf_true, BIf_false, BIf_same, List.toList_toArray, Bool.not_true, Bool.not_false]
    refine ⟨by rw [hc]; omega, trivial, ?_⟩
    rw [i64w (x := free - per) (by omega) hfr]
    rw [show Int.tdiv (free - per) c = ((f / 2 ^ eb : Nat) : Int) by rw [hf, hc]; rfl]
    have hdl : f / 2 ^ eb ≤ f := Nat.div_le_self _ _
    rw [i64n (by omega), i64w (x := 2 * ((2 ^ j : Nat) : Int) + 1) (by omega) (by omega)]
    by_cases hc2 : 2 * 2 ^ j + 1 ≤ f / 2 ^ eb
    · refine BIf_dpos (by omega) ?_
      rw [i64w (by omega) (by omega), show ((2 ^ j : Nat) : Int) * 2 = ((2 ^ (j + 1) : Nat) : Int) by rw [Nat.pow_succ]; omega]
      exact ih (j + 1) (by omega) (by rw [Nat.pow_succ]; omega)
    · exact BIf_dneg (by omega) (hK j ⟨by omega, hfit, .inr (by omega)⟩)

theorem Batch_ok (r c per free : Int) (hper : -9223372036854775808 ≤ per ∧ per ≤ 9223372036854775807) (hf : free ≤ 9223372036854775807) (H : Hp) (hT : T64 H) :
    HCalls Tryd.prog 30 #[.agg #[.int .i64 r, .int .i64 c], .int .i64 per, .int .i64 free] H fun v H' => batQ r c per free v ∧ H' = H := by
  refine HCalls.forget ?_
  apply W_pass_Batch.ok
  unfold W_pass_Batch
  refine (Sep.start H).nw fun b1 H1 hs => ?_
  have out : ∀ {v : Value}, batQ r c per free v → ∃ H'', H''.le H1 ∧ batQ r c per free v ∧ H'' = H := fun h => ⟨H, hs.ow 0 rfl, h, rfl⟩
  first | refine hs.ldw 1 rfl rfl ?_
  try simp only [DI_int', DB_bool, DS_string, DP_pointer, DSl_slice, DM_map, DA_agg, DTup_tuple, DCons_cons, DNil_nil, NN_some, BIf_true, BIf_false, BIf_same, List.toList_toArray, Bool.not_true, Bool.not_false]
  refine HCalls.use (Good_ok r c H1 (hT.le (hs.ow 0 rfl))) ?_
  simp only [DI_int', DB_bool, DS_string, DP_pointer, DSl_slice, DM_map, DA_agg, DTup_tuple, DCons_cons, DNil_nil, NN_some, BIf_true, BIf_false, BIf_same, List.toList_toArray, Bool.not_true, Bool.not_false]
  cases hg : goodS r c with
  | false => exact BIf_pos rfl (out (.inl ⟨fun h => (by have h1 := h.1; rw [hg] at h1; cases h1), rfl⟩))
  | true =>
    refine BIf_neg rfl ?_
    obtain ⟨ea, eb, hr, hc, hab, _, _⟩ := goodS_some hg
    have he1 := pow_pos ea
    have he2 := pow_pos eb
    have he3 := pow_le (show ea ≤ 32 by omega)
    have he4 := pow_le (show eb ≤ 32 by omega)
    first | refine hs.ldf 1 rfl rfl ?_ | refine hs.ldg 1 rfl rfl ?_
    try simp only [DI_int', DB_bool, DS_string, DP_pointer, DSl_slice, DM_map, DA_agg, DTup_tuple, DCons_cons, DNil_nil, NN_some, BIf_true, BIf_false, BIf_same, List.toList_toArray, Bool.not_true, Bool.not_false]
    by_cases h0 : c > 1048576
    · exact BIf_dpos h0 (out (.inl ⟨fun h => (by have := h.2.1; omega), rfl⟩))
    refine BIf_dneg h0 ?_
    by_cases h1 : per < 4
    · exact BIf_dpos h1 (out (.inl ⟨fun h => (by have := perB_range h.2.2.1; omega), rfl⟩))
    refine BIf_dneg h1 ?_
    by_cases h2 : per > 512
    · exact BIf_dpos h2 (out (.inl ⟨fun h => (by have := perB_range h.2.2.1; omega), rfl⟩))
    refine BIf_dneg h2 ?_
    have hpb := perB_of (p := per) (by omega) (by omega)
    cases hp : perB per with
    | false => exact BIf_bnep (fun h => by rw [hpb.1 h] at hp; cases hp) (out (.inl ⟨fun h => (by have h1 := h.2.2.1; rw [hp] at h1; cases h1), rfl⟩))
    | true =>
      refine BIf_bnen (hpb.2 hp) ?_
      by_cases h3 : free < per
      · exact BIf_dpos h3 (out (.inl ⟨fun h => (by omega), rfl⟩))
      refine BIf_dneg h3 ?_
      first | refine hs.ldf 1 rfl rfl ?_ | refine hs.ldg 1 rfl rfl ?_
      try simp only [DI_int', DB_bool, DS_string, DP_pointer, DSl_slice, DM_map, DA_agg, DTup_tuple, DCons_cons, DNil_nil, NN_some, BIf_true, BIf_false, BIf_same, List.toList_toArray, Bool.not_true, Bool.not_false]
      rw [i64w (x := free - per) (by omega) (by omega), i64w (x := 2 * c) (by omega) (by omega)]
      by_cases h4 : free - per < 2 * c
      · exact BIf_dpos h4 (out (.inl ⟨fun h => (by omega), rfl⟩))
      refine BIf_dneg h4 ?_
      obtain ⟨f, hfe⟩ := Int.eq_ofNat_of_zero_le (show 0 ≤ free - per by omega)
      refine ⟨ea + 1, ?_⟩
      have h2q : 2 ≤ f / 2 ^ eb := by rw [Nat.le_div_iff_mul_le (by omega)]; omega
      exact bat_loop hr hc hab hfe (by omega) (by omega) (fun v H' => ∃ H'', H''.le H' ∧ batQ r c per free v ∧ H'' = H) b1 1 rfl hs (fun j hj => out (.inr ⟨⟨hg, by omega, hp, by omega, by omega⟩, ea, eb, j, hr, hc, hab, by rw [hfe, Int.toNat_natCast]; exact hj, rfl⟩)) ea 0 (by omega) (by rw [Nat.pow_zero]; omega)

theorem Batch_no (r c per free : Int) (hper : -9223372036854775808 ≤ per ∧ per ≤ 9223372036854775807) (hf : free ≤ 9223372036854775807) (H : Hp) (hT : T64 H) (hn : ¬ batC r c per free) :
    HCalls Tryd.prog 30 #[.agg #[.int .i64 r, .int .i64 c], .int .i64 per, .int .i64 free] H (RetE (.tuple #[.int .i64 0, .bool false]) H) :=
  (Batch_ok r c per free hper hf H hT).mono fun v H' ⟨hq, e⟩ => by
    rcases hq with ⟨_, rfl⟩ | ⟨h, _⟩
    · exact ⟨rfl, e⟩
    · exact absurd h hn
theorem Batch_is {ea eb : Nat} (per free : Int) (hper : -9223372036854775808 ≤ per ∧ per ≤ 9223372036854775807) (hf : free ≤ 9223372036854775807) (H : Hp) (hT : T64 H) (hab : ea + eb ≤ 32) (h : batC ((2 ^ ea : Nat) : Int) ((2 ^ eb : Nat) : Int) per free) {j : Nat} (hj : BatIs ea ((free - per).toNat / 2 ^ eb) j) :
    HCalls Tryd.prog 30 #[.agg #[.int .i64 ((2 ^ ea : Nat) : Int), .int .i64 ((2 ^ eb : Nat) : Int)], .int .i64 per, .int .i64 free] H (RetE (.tuple #[.int .i64 ((2 ^ j : Nat) : Int), .bool true]) H) :=
  (Batch_ok _ _ per free hper hf H hT).mono fun v H' ⟨hq, e⟩ => by
    rcases hq with ⟨h', _⟩ | ⟨_, ea', eb', j', h1, h2, _, hj', rfl⟩
    · exact absurd h h'
    · have e1 : ea = ea' := pow2_inj (show 2 ^ ea = 2 ^ ea' by omega)
      have e2 : eb = eb' := pow2_inj (show 2 ^ eb = 2 ^ eb' by omega)
      subst e1 e2
      rw [hj.unique hj']
      exact ⟨rfl, e⟩

/-- What is wrong with a pass. -/
def checkV (r c dir tw : Int) (xw yw : Int) : Int :=
  if goodS r c = true ∧ xw = r * c ∧ yw = r * c then (if dir < 0 ∨ dir > 1 then 18 else if tw < -1 ∨ tw > 32 then 2 else 0) else 19

section
variable {L : List As} {H : Hp} {p q dp ap ap' : Nat} {x y : X}
theorem check_s (hs : Sep L H) (i : Nat) (hi : L[i]? = some (pts p (pipO dp ap x))) (k : Nat) (hk : L[k]? = some (pts q (pipO dp ap y))) (hT : T64 H) (r c dir tw sh : Int) :
    HCalls Tryd.prog 64 #[.pointer (some ⟨p, 0, none⟩), .pointer (some ⟨q, 0, none⟩), .agg #[.int .i64 r, .int .i64 c, .int .i64 dir, .int .i64 tw, .int .u64 sh], .pointer (some ⟨ap', 0, none⟩)] H (RetE (.int .i64 (checkV r c dir tw x.w y.w)) H) := HCalls.ret (by
  have hp1 := hs.get i hi
  have hq1 := hs.get k hk
  apply W_pass_check.ok
  unfold W_pass_check
  refine (Sep.start H).nw fun b1 H1 hs => ?_
  have hs : Sep [own H, pts b1 (.obj (.cells #[.int .i64 r, .int .i64 c, .int .i64 dir, .int .i64 tw, .int .u64 sh] 56))] H1 := hs
  have hle := hs.ow 0 rfl
  have out : ∀ {v : Value}, v = .int .i64 (checkV r c dir tw x.w y.w) → Ret (.int .i64 (checkV r c dir tw x.w y.w)) H v H1 := fun h => ⟨h, hle⟩
  have hw : ∀ {b : Nat} {z : X}, H b = some (pipO dp ap z) → HCalls Tryd.prog 103 #[.pointer (some ⟨b, 0, none⟩)] H1 (RetE (.int .i64 (z.w : Int)) H1) := fun {b z} hb => by
    have hsP : Sep [pts b (pipO dp ap z)] H1 := ⟨H1, fun _ => none, Hp.le_refl _, fun _ _ h => (nomatch h), fun _ => .inr rfl, hle _ _ hb, trivial⟩
    exact words_s hsP 0 rfl
  refine BIf_neg rfl (BIf_neg rfl (BIf_neg rfl ?_))
  simp only [Addr.add_zero]
  refine hs.lda 1 rfl (show 0 + 2 ≤ 5 by omega) ?_
  refine QCall.use (Good_ok r c H1 (hT.le hle)) ?_
  simp only [DI_int', DB_bool, DS_string, DP_pointer, DSl_slice, DM_map, DA_agg, DTup_tuple, DCons_cons, DNil_nil, NN_some, BIf_true, BIf_false, BIf_same, List.toList_toArray, Bool.not_true, Bool.not_false]
  cases hg : goodS r c with
  | false =>
    refine BIf_pos rfl (out ?_)
    unfold checkV
    rw [if_neg (fun h => by rw [hg] at h; cases h.1)]
  | true =>
    refine BIf_neg rfl ?_
    refine QCall.use (hw hp1) ?_
    simp only [DI_int', DB_bool, DS_string, DP_pointer, DSl_slice, DM_map, DA_agg, DTup_tuple, DCons_cons, DNil_nil, NN_some, BIf_true, BIf_false, BIf_same, List.toList_toArray, Bool.not_true, Bool.not_false]
    refine hs.lda 1 rfl (show 0 + 2 ≤ 5 by omega) ?_
    refine QCall.use (Size_ok r c H1 (hT.le hle)) ?_
    rw [show sizeS r c = r * c by unfold sizeS; rw [if_pos hg]]
    simp only [DI_int', DB_bool, DS_string, DP_pointer, DSl_slice, DM_map, DA_agg, DTup_tuple, DCons_cons, DNil_nil, NN_some, BIf_true, BIf_false, BIf_same, List.toList_toArray, Bool.not_true, Bool.not_false]
    by_cases h1 : (x.w : Int) = r * c
    case neg =>
      refine BIf_bnep h1 (out ?_)
      unfold checkV
      rw [if_neg (fun h => h1 h.2.1)]
    refine BIf_bnen h1 ?_
    refine QCall.use (hw hq1) ?_
    simp only [DI_int', DB_bool, DS_string, DP_pointer, DSl_slice, DM_map, DA_agg, DTup_tuple, DCons_cons, DNil_nil, NN_some, BIf_true, BIf_false, BIf_same, List.toList_toArray, Bool.not_true, Bool.not_false]
    refine hs.lda 1 rfl (show 0 + 2 ≤ 5 by omega) ?_
    refine QCall.use (Size_ok r c H1 (hT.le hle)) ?_
    rw [show sizeS r c = r * c by unfold sizeS; rw [if_pos hg]]
    simp only [DI_int', DB_bool, DS_string, DP_pointer, DSl_slice, DM_map, DA_agg, DTup_tuple, DCons_cons, DNil_nil, NN_some, BIf_true, BIf_false, BIf_same, List.toList_toArray, Bool.not_true, Bool.not_false]
    by_cases h2 : (y.w : Int) = r * c
    case neg =>
      refine BIf_bnep h2 (out ?_)
      unfold checkV
      rw [if_neg (fun h => h2 h.2.2)]
    refine BIf_bnen h2 ?_
    have hc : checkV r c dir tw x.w y.w = if dir < 0 ∨ dir > 1 then 18 else if tw < -1 ∨ tw > 32 then 2 else 0 := by
      unfold checkV; rw [if_pos ⟨hg, h1, h2⟩]
    refine hs.ldf 1 rfl rfl ?_
    simp only [DI_int', DB_bool, DS_string, DP_pointer, DSl_slice, DM_map, DA_agg, DTup_tuple, DCons_cons, DNil_nil, NN_some, BIf_true, BIf_false, BIf_same, List.toList_toArray, Bool.not_true, Bool.not_false]
    by_cases h3 : dir < 0
    · exact BIf_dpos h3 (out (by rw [hc, if_pos (.inl h3)]))
    refine BIf_dneg h3 ?_
    refine hs.ldf 1 rfl rfl ?_
    simp only [DI_int', DB_bool, DS_string, DP_pointer, DSl_slice, DM_map, DA_agg, DTup_tuple, DCons_cons, DNil_nil, NN_some, BIf_true, BIf_false, BIf_same, List.toList_toArray, Bool.not_true, Bool.not_false]
    by_cases h4 : dir > 1
    · exact BIf_dpos h4 (out (by rw [hc, if_pos (.inr h4)]))
    refine BIf_dneg h4 ?_
    refine hs.ldf 1 rfl rfl ?_
    simp only [DI_int', DB_bool, DS_string, DP_pointer, DSl_slice, DM_map, DA_agg, DTup_tuple, DCons_cons, DNil_nil, NN_some, BIf_true, BIf_false, BIf_same, List.toList_toArray, Bool.not_true, Bool.not_false]
    by_cases h5 : tw < -1
    · exact BIf_dpos h5 (out (by rw [hc, if_neg (by omega), if_pos (.inl h5)]))
    refine BIf_dneg h5 ?_
    refine hs.ldf 1 rfl rfl ?_
    simp only [DI_int', DB_bool, DS_string, DP_pointer, DSl_slice, DM_map, DA_agg, DTup_tuple, DCons_cons, DNil_nil, NN_some, BIf_true, BIf_false, BIf_same, List.toList_toArray, Bool.not_true, Bool.not_false]
    by_cases h6 : tw > 32
    · exact BIf_dpos h6 (out (by rw [hc, if_neg (by omega), if_pos (.inr h6)]))
    refine BIf_dneg h6 (out (by rw [hc, if_neg (by omega), if_neg (by omega)])))
end

theorem TZu_ok (k : Nat) (hk : k < 64) (H : Hp) (hT : T64 H) : HCalls Tryd.prog 69 #[.int .u64 ((2 ^ k : Nat) : Int)] H (RetE (.int .i64 (k : Int)) H) := by
  apply W_math_bits_TrailingZeros.ok
  unfold W_math_bits_TrailingZeros
  refine HCalls.use (TZ_ok k hk H hT) ?_
  simp only [DI_int', DB_bool, DS_string, DP_pointer, DSl_slice, DM_map, DA_agg, DTup_tuple, DCons_cons, DNil_nil, NN_some, BIf_true, BIf_false, BIf_same, List.toList_toArray, Bool.not_true, Bool.not_false]
  exact RetE.mk _ _

end Go.Proofs.YtbnhfcdagoigkaaDoor.Pas

end
section
/-! PasD -/
/- pass: Run. -/
set_option maxRecDepth 100000
set_option linter.unusedSimpArgs false
set_option linter.unusedVariables false
set_option linter.unnecessarySimpa false
set_option linter.unusedSectionVars false
namespace Go.Proofs.YtbnhfcdagoigkaaDoor.Pas
open Go Go.Hw Go.Crc Go.Form Go.Proofs.YtbnhfcdagoigkaaDoor.W Go.Proofs.YtbnhfcdagoigkaaDoor.Shp Go.Proofs.YtbnhfcdagoigkaaDoor.Gol Go.Proofs.YtbnhfcdagoigkaaDoor.Fft Go.Proofs.YtbnhfcdagoigkaaDoor.Ker Go.Proofs.YtbnhfcdagoigkaaDoor.Str Go.Proofs.YtbnhfcdagoigkaaDoor.Dsk Go.Proofs.YtbnhfcdagoigkaaDoor.Are Go.Proofs.YtbnhfcdagoigkaaDoor.Trn

/-- The first m rows behind a pass. -/
def rowsU (j : J) (d : D) (x : X) (m : Nat) : List UInt64 := (List.range m).flatMap fun q => rowP j q (pws d x (q * 2 ^ j.eb) (2 ^ j.eb))
theorem rowsU_len (j : J) (d : D) (x : X) : ∀ m, (rowsU j d x m).length = m * 2 ^ j.eb
  | 0 => by simp [rowsU]
  | m + 1 => by
    unfold rowsU
    rw [List.range_succ, List.flatMap_append, List.length_append]
    have := rowsU_len j d x m
    unfold rowsU at this
    rw [this, Nat.succ_mul]
    simp [rowP_len]
theorem pws_part {d : D} {x : X} {fr n a c : Nat} (h : a + c ≤ n) : ((pws d x fr n).drop a).take c = pws d x (fr + a) c := by
  apply List.ext_getElem?
  intro i
  rw [List.getElem?_take]
  by_cases hi : i < c
  · rw [if_pos hi, List.getElem?_drop, pws_get (by omega), pws_get hi, Nat.add_assoc]
  · rw [if_neg hi, List.getElem?_eq_none (by rw [pws_len]; omega)]
theorem pws_eq {d d' : D} {x : X} {fr n : Nat} (h : ∀ k, fr ≤ k → k < fr + n → pw d' x k = pw d x k) : pws d' x fr n = pws d x fr n := by
  unfold pws
  apply List.map_congr_left
  intro k hk
  have := List.mem_range.1 hk
  exact h _ (by omega) (by omega)
theorem rowsU_add {j : J} {d d' : D} {x : X} (a b : Nat) (h : ∀ k, k < x.w → pw d' x k = pw d x k) (hw : (a + b) * 2 ^ j.eb ≤ x.w) :
    rowsU j d x (a + b) = rowsU j d x a ++ batF j a (pws d' x (a * 2 ^ j.eb) (b * 2 ^ j.eb)) b := by
  unfold rowsU batF
  rw [List.range_add, List.flatMap_append, List.flatMap_map]
  congr 1
  have : ∀ (l : List Nat), (∀ q, q ∈ l → q < b) → l.flatMap (fun q => rowP j (a + q) (pws d x ((a + q) * 2 ^ j.eb) (2 ^ j.eb))) = l.flatMap fun q => rowP j (a + q) (((pws d' x (a * 2 ^ j.eb) (b * 2 ^ j.eb)).drop (q * 2 ^ j.eb)).take (2 ^ j.eb)) := fun l => by
    induction l with
    | nil => intro _; rfl
    | cons q l ih =>
      intro hq
      have hqb := hq q (by simp)
      have h1 : (q + 1) * 2 ^ j.eb ≤ b * 2 ^ j.eb := Nat.mul_le_mul_right _ (by omega)
      have h2 : (a + q + 1) * 2 ^ j.eb ≤ (a + b) * 2 ^ j.eb := Nat.mul_le_mul_right _ (by omega)
      rw [Nat.succ_mul] at h1 h2
      rw [List.flatMap_cons, List.flatMap_cons, ih fun q' h' => hq q' (by simp [h']), pws_part h1, ← Nat.add_mul, pws_eq (d := d) (d' := d') (fr := (a + q) * 2 ^ j.eb) (n := 2 ^ j.eb) fun k h3 h4 => h k (by omega)]
  exact this _ fun q hq => List.mem_range.1 hq

/-- The reads and the writes of the first m batches of n words. -/
def rP (per f f' n m : Nat) : Nat := ((List.range m).map fun i => (pcs per f n (i * n) n).length + pcsR per f' n (i * n) n).sum
def wP (per f' n m : Nat) : Nat := ((List.range m).map fun i => (pcs per f' n (i * n) n).length).sum
theorem rP_succ (per f f' n m : Nat) : rP per f f' n (m + 1) = rP per f f' n m + ((pcs per f n (m * n) n).length + pcsR per f' n (m * n) n) := by
  unfold rP; rw [List.range_succ, List.map_append, List.sum_append]; simp
theorem wP_succ (per f' n m : Nat) : wP per f' n (m + 1) = wP per f' n m + (pcs per f' n (m * n) n).length := by
  unfold wP; rw [List.range_succ, List.map_append, List.sum_append]; simp
theorem rP_mono (per f f' n : Nat) {i j : Nat} (h : i ≤ j) : rP per f f' n i ≤ rP per f f' n j := by
  induction h with
  | refl => exact Nat.le_refl _
  | step h ih => rw [rP_succ]; omega
theorem wP_mono (per f' n : Nat) {i j : Nat} (h : i ≤ j) : wP per f' n i ≤ wP per f' n j := by
  induction h with
  | refl => exact Nat.le_refl _
  | step h ih => rw [wP_succ]; omega
theorem rP_le (per f f' n : Nat) : ∀ m, rP per f f' n m ≤ m * (2 * n)
  | 0 => by simp [rP]
  | m + 1 => by
    rw [rP_succ, Nat.succ_mul]
    have h1 := rP_le per f f' n m
    have h2 := pcs_len per f n (m * n) n
    have h3 := pcs_len per f' n (m * n) n
    have h4 : pcsR per f' n (m * n) n ≤ (pcs per f' n (m * n) n).length := List.length_filter_le _ _
    omega
theorem wP_le (per f' n : Nat) : ∀ m, wP per f' n m ≤ m * n
  | 0 => by simp [wP]
  | m + 1 => by
    rw [wP_succ, Nat.succ_mul]
    have h1 := wP_le per f' n m
    have h3 := pcs_len per f' n (m * n) n
    omega

/-- So many batches are done. -/
structure PasI (d d' : D) (x y : X) (j : J) (b m : Nat) : Prop where
  pg : Prog (inX y) d d' (rP (D.per d) x.f y.f (b * 2 ^ j.eb) m) (wP (D.per d) y.f (b * 2 ^ j.eb) m)
  src : ∀ k, k < x.w → pw d' x k = pw d x k
  dst : ∀ k, k < m * b * 2 ^ j.eb → pw d' y k = ((rowsU j d x (m * b))[k]?).getD 0

/-- What a pass leaves. -/
def passP (p q dp ap : Nat) (d : D) (x y : X) (j : J) (b : Nat) (cap peak : Int) (bufs : List (Nat × Nat × Option Addr)) (v : Value) (M : List As) : Prop :=
  (∃ d', PasI d d' x y j b (2 ^ j.ea / b) ∧ v = .tuple #[.int .u32 ((sum (form (rowsU j d x (2 ^ j.ea)))).toNat : Int), .int .i64 0] ∧
    M = [pts p (pipO dp ap x), pts q (pipO dp ap y), Dk dp d', Ar ap cap (mx peak (sumB bufs + (b * 2 ^ j.eb : Nat) + (2 ^ j.eb : Nat) + D.per d)) bufs]) ∨
  (∃ d', Dead (inX y) d d' ∧ d.fuse ≤ rP (D.per d) x.f y.f (b * 2 ^ j.eb) (2 ^ j.ea / b) + wP (D.per d) y.f (b * 2 ^ j.eb) (2 ^ j.ea / b) ∧ v = .tuple #[.int .u32 0, .int .i64 8] ∧
    M = [pts p (pipO dp ap x), pts q (pipO dp ap y), Dk dp d', Ar ap cap (mx peak (sumB bufs + (b * 2 ^ j.eb : Nat) + (2 ^ j.eb : Nat) + D.per d)) bufs])

section
variable {p q dp ap rn bn bb bn2 bb2 sb v2 v3 kp : Nat} {x y : X} {cap peak : Int} {bufs : List (Nat × Nat × Option Addr)} {TT : As} {j : J} {mb : Nat}

def bufs1 (bufs : List (Nat × Nat × Option Addr)) (bn n : Nat) (bb : Nat) : List (Nat × Nat × Option Addr) := bufs ++ [(bn, n, some ⟨bb, 0, none⟩)]

def passL (rn p q dp ap bn bb bn2 bb2 sb v2 v3 kp : Nat) (d0 d' : D) (x y : X) (j : J) (b m : Nat) (cap pk : Int) (bufs : List (Nat × Nat × Option Addr)) (ws : List UInt64) (mb : Nat) (TT : As) : List As :=
  [pts sb (.obj (.cells j.a 56)), pts rn (runO (sum (form (rowsU j d0 x (m * b)))) (8 * (m * b * 2 ^ j.eb)) j kp), pts bb (.row (wordVals ws) 22 mb),
    pts p (pipO dp ap x), pts q (pipO dp ap y), Dk dp d', Ar ap cap pk (bufs1 (bufs1 bufs bn (b * 2 ^ j.eb) bb) bn2 (2 ^ j.eb) bb2), pts v2 (.row [.pointer (some ⟨bn, 0, none⟩)] 130 1), pts v3 (.row [.pointer (some ⟨bn2, 0, none⟩)] 130 1), Kn kp j.eb, TT]

set_option maxHeartbeats 1000000 in
theorem run_loop (K : Value → Hp → Prop) {d : D} {b : Nat} (hT : ∀ H, TT H → T64 H) (hok : Ok d) (hx : On d x) (hy : On d y) (ho : d.rd ≤ 2000000000000000000 ∧ d.wr ≤ 2000000000000000000) (hab : j.ea + j.eb ≤ 32) (hb20 : j.eb ≤ 20) (htw : j.tw ≤ 32) (hxw : x.w = 2 ^ j.ea * 2 ^ j.eb) (hyw : y.w = 2 ^ j.ea * 2 ^ j.eb) (hdis : x.f + x.s ≤ y.f ∨ y.f + y.s ≤ x.f) (hb1 : 1 ≤ b) (hbd : 2 ^ j.ea = 2 ^ j.ea / b * b)
    (hcap : (D.per d : Int) ≤ cap - sumB (bufs1 (bufs1 bufs bn (b * 2 ^ j.eb) bb) bn2 (2 ^ j.eb) bb2)) (hbm : ∀ z ∈ bufs, z.1 ≠ bn) (hbm2 : ∀ z ∈ bufs1 bufs bn (b * 2 ^ j.eb) bb, z.1 ≠ bn2)
    {P1 : Int} (hP1 : P1 = mx peak (sumB (bufs1 (bufs1 bufs bn (b * 2 ^ j.eb) bb) bn2 (2 ^ j.eb) bb2) + D.per d))
    (hK : ∀ d' H, PasI d d' x y j b (2 ^ j.ea / b) → Sep [pts p (pipO dp ap x), pts q (pipO dp ap y), Dk dp d', Ar ap cap P1 bufs, TT] H → K (.tuple #[.int .u32 ((sum (form (rowsU j d x (2 ^ j.ea)))).toNat : Int), .int .i64 0]) H)
    (hK8 : ∀ d' H, Dead (inX y) d d' → d.fuse ≤ rP (D.per d) x.f y.f (b * 2 ^ j.eb) (2 ^ j.ea / b) + wP (D.per d) y.f (b * 2 ^ j.eb) (2 ^ j.ea / b) → Sep [pts p (pipO dp ap x), pts q (pipO dp ap y), Dk dp d', Ar ap cap P1 bufs, TT] H → K (.tuple #[.int .u32 0, .int .i64 8]) H) :
    ∀ (t m : Nat) (z : Int) (d' : D) (pk : Int) (ws : List UInt64) (H : Hp), z = ((m * b : Nat) : Int) → m + t = 2 ^ j.ea / b → PasI d d' x y j b m → ws.length = b * 2 ^ j.eb → mx pk (sumB (bufs1 (bufs1 bufs bn (b * 2 ^ j.eb) bb) bn2 (2 ^ j.eb) bb2) + D.per d) = P1 → (m = 0 ∨ pk = P1) → Sep (passL rn p q dp ap bn bb bn2 bb2 sb v2 v3 kp d d' x y j b m cap pk bufs ws mb TT) H →
      W_pass_Run.l17 K (t + 1) (some ⟨p, 0, none⟩) (some ⟨q, 0, none⟩) ⟨sb, 0, none⟩ (b : Int) (some ⟨bn, 0, none⟩) ⟨rn, 0, none⟩ z (some ⟨ap, 0, none⟩) (some ⟨v3, 0, none⟩) 1 1 (some ⟨ap, 0, none⟩) (some ⟨v2, 0, none⟩) 1 1 H := fun t => by
  have hp := Ok.per_le hok
  have hsz := size_le hab
  have hr1 := pow_pos j.ea
  have hc1 := pow_pos j.eb
  have hnb : 2 ^ j.ea / b ≤ 2 ^ j.ea := Nat.div_le_self _ _
  have hn1 : 1 ≤ 2 ^ j.ea / b := by
    have : 2 ^ j.ea / b ≠ 0 := fun h0 => by rw [h0, Nat.zero_mul] at hbd; omega
    exact Nat.pos_of_ne_zero this
  have hcc : 2 ^ j.ea / b * (b * 2 ^ j.eb) = 2 ^ j.ea * 2 ^ j.eb := by rw [← Nat.mul_assoc, ← hbd]
  have hbr : b * 2 ^ j.eb ≤ 2 ^ j.ea * 2 ^ j.eb := by rw [← hcc]; exact Nat.le_mul_of_pos_left _ hn1
  have hbb : b ≤ 2 ^ j.ea := by
    have : 1 * b ≤ 2 ^ j.ea / b * b := Nat.mul_le_mul_right b hn1
    omega
  have hbc1 : 1 * 2 ^ j.eb ≤ b * 2 ^ j.eb := Nat.mul_le_mul_right _ hb1
  have hr32 := pow_le (show j.ea ≤ 32 by omega)
  have cnt : ∀ m, m ≤ 2 ^ j.ea / b → m * (2 * (b * 2 ^ j.eb)) ≤ 2 * (2 ^ j.ea * 2 ^ j.eb) ∧ m * (b * 2 ^ j.eb) ≤ 2 ^ j.ea * 2 ^ j.eb := fun m hm => by
    have : m * (b * 2 ^ j.eb) ≤ 2 ^ j.ea * 2 ^ j.eb := by rw [← hcc]; exact Nat.mul_le_mul_right _ hm
    refine ⟨?_, this⟩
    rw [Nat.mul_left_comm]; omega
  have gives : ∀ {d' : D} {H : Hp} {K' : Hp → Prop}, Sep [Ar ap cap P1 (bufs1 (bufs1 bufs bn (b * 2 ^ j.eb) bb) bn2 (2 ^ j.eb) bb2), pts v3 (.row [.pointer (some ⟨bn2, 0, none⟩)] 130 1), pts v2 (.row [.pointer (some ⟨bn, 0, none⟩)] 130 1), pts p (pipO dp ap x), pts q (pipO dp ap y), Dk dp d', TT] H →
      (∀ H, Sep [pts p (pipO dp ap x), pts q (pipO dp ap y), Dk dp d', Ar ap cap P1 bufs, TT] H → K' H) →
      HCallsD Tryd.prog 67 #[.pointer (some ⟨ap, 0, none⟩), .slice (some ⟨v3, 0, none⟩) 1 1] H fun _ H => HCallsD Tryd.prog 67 #[.pointer (some ⟨ap, 0, none⟩), .slice (some ⟨v2, 0, none⟩) 1 1] H fun _ H => K' H := fun hs k => by
    refine (Give_oneD v3 bn2 (2 ^ j.eb) (some ⟨bb2, 0, none⟩) hbm2).use hs [0, 1] rfl rfl ?_
    rintro _ _ H ⟨rfl, rfl⟩ hs
    refine (Give_oneD v2 bn (b * 2 ^ j.eb) (some ⟨bb, 0, none⟩) hbm).use hs [0, 1] rfl rfl ?_
    rintro _ _ H ⟨rfl, rfl⟩ hs
    exact k H (hs.re [1, 2, 3, 0, 4] rfl)
  induction t with
  | zero =>
    rintro m _ d' pk ws H rfl hm hI hws hpk hip hs
    have hme : m = 2 ^ j.ea / b := by omega
    subst hme
    unfold passL at hs
    unfold W_pass_Run.l17
    rw [show ((⟨sb, 0, none⟩ : Addr).add 0).add 0 = ⟨sb, 0, none⟩ from rfl]
    refine hs.ld 0 rfl rfl ?_
    simp only [DI_int', DB_bool, DS_string, DP_pointer, DSl_slice, DM_map, DA_agg, DTup_tuple, DCons_cons, DNil_nil, NN_some, BIf_true, BIf_false, BIf_same, List.toList_toArray, Bool.not_true, Bool.not_false]
    rw [← hbd]
    refine BIf_dneg (Int.lt_irrefl _) ?_
    rw [Addr.add_zero]
    refine HCalls.use (CrcP.CSumG_s hs 1 rfl) ?_
    try simp only [DI_int', DB_bool, DS_string, DP_pointer, DSl_slice, DM_map, DA_agg, DTup_tuple, DCons_cons, DNil_nil, NN_some, BIf_true, BIf_false, BIf_same, List.toList_toArray, Bool.not_true, Bool.not_false]
    rw [← hbd]
    rw [hip.resolve_left (by omega)] at hs
    exact gives (hs.re [6, 8, 7, 3, 4, 5, 10] rfl) fun H hs => hK d' H hI hs
  | succ t ih =>
    rintro m _ d' pk ws H rfl hm hI hws hpk hip hs
    have hmlt : m < 2 ^ j.ea / b := by omega
    have hmb : (m + 1) * b ≤ 2 ^ j.ea := by
      have h1 : (m + 1) * b ≤ 2 ^ j.ea / b * b := Nat.mul_le_mul_right b hmlt
      omega
    have hmb' := hmb
    rw [Nat.succ_mul] at hmb'
    have hper : D.per d' = D.per d := hI.pg.per
    have hxd := hx.prog hI.pg
    have hyd := hy.prog hI.pg
    have hrt := rP_le (D.per d) x.f y.f (b * 2 ^ j.eb) m
    have hwt := wP_le (D.per d) y.f (b * 2 ^ j.eb) m
    have hcnt := cnt m (by omega)
    have hrd := hI.pg.rd
    have hwr := hI.pg.wr
    have hmr : (m * b + b) * 2 ^ j.eb ≤ 2 ^ j.ea * 2 ^ j.eb := Nat.mul_le_mul_right _ hmb'
    have hmr' := hmr
    rw [Nat.add_mul] at hmr
    unfold passL at hs
    unfold W_pass_Run.l17
    rw [show ((⟨sb, 0, none⟩ : Addr).add 0).add 0 = ⟨sb, 0, none⟩ from rfl]
    refine hs.ld 0 rfl rfl ?_
    simp only [DI_int', DB_bool, DS_string, DP_pointer, DSl_slice, DM_map, DA_agg, DTup_tuple, DCons_cons, DNil_nil, NN_some, BIf_true, BIf_false, BIf_same, List.toList_toArray, Bool.not_true, Bool.not_false]
    refine BIf_dpos (by omega) ?_
    refine HCalls.use (Words_s hs 6 rfl (b := bn) (n := b * 2 ^ j.eb) (A := some ⟨bb, 0, none⟩) (by simp [bufs1])) ?_
    try simp only [DI_int', DB_bool, DS_string, DP_pointer, DSl_slice, DM_map, DA_agg, DTup_tuple, DCons_cons, DNil_nil, NN_some, BIf_true, BIf_false, BIf_same, List.toList_toArray, Bool.not_true, Bool.not_false]
    refine (batch_tr (rn := rn) (p := p) (q := q) (dp := dp) (ap := ap) (kp := kp) (bb := bb) (mb := mb) (s := sum (form (rowsU j d x (m * b)))) (sk := 8 * (m * b * 2 ^ j.eb)) (j := j) (x := x) (y := y) (cap := cap) (peak := pk) (bufs := bufs1 (bufs1 bufs bn (b * 2 ^ j.eb) bb) bn2 (2 ^ j.eb) bb2) (d := d') (r := m * b) (nb := b) hT hI.pg.ok hI.pg.down hxd hyd (by omega) hb20 htw hb1 (by omega) (by omega) (by rw [hxw]; exact hmr) (by rw [hyw]; exact hmr) (by omega) (by omega) (by rw [hper]; exact hcap) ws hws).use hs [1, 2, 3, 4, 5, 6, 9, 10] rfl rfl ?_
    rintro v M H hQ hs
    unfold batP at hQ
    rw [hper] at hQ
    simp only at hQ
    have hPP : mx P1 (sumB (bufs1 (bufs1 bufs bn (b * 2 ^ j.eb) bb) bn2 (2 ^ j.eb) bb2) + D.per d) = P1 := by rw [hP1, mx_mx]
    have hma : m * (b * 2 ^ j.eb) = m * b * 2 ^ j.eb := (Nat.mul_assoc _ _ _).symm
    have hrs := rP_succ (D.per d) x.f y.f (b * 2 ^ j.eb) m
    have hws' := wP_succ (D.per d) y.f (b * 2 ^ j.eb) m
    rw [hma] at hrs hws'
    rcases hQ with ⟨hpg2, rfl, rfl⟩ | ⟨d2, hdd, hfu, rfl, rfl⟩
    case inr =>
      simp only [DI_int', DB_bool, DS_string, DP_pointer, DSl_slice, DM_map, DA_agg, DTup_tuple, DCons_cons, DNil_nil, NN_some, BIf_true, BIf_false, BIf_same, List.toList_toArray, Bool.not_true, Bool.not_false]
      refine BIf_bnep (by decide) ?_
      rw [hpk] at hs
      refine gives (hs.re [3, 7, 6, 0, 1, 2, 4] rfl) fun H hs => hK8 d2 H (hI.pg.dead hdd) ?_ hs
      have z1 := hI.pg.fuse; have z2 := hI.pg.go
      have z3 := rP_mono (D.per d) x.f y.f (b * 2 ^ j.eb) (show m + 1 ≤ 2 ^ j.ea / b by omega)
      have z4 := wP_mono (D.per d) y.f (b * 2 ^ j.eb) (show m + 1 ≤ 2 ^ j.ea / b by omega)
      omega
    simp only [DI_int', DB_bool, DS_string, DP_pointer, DSl_slice, DM_map, DA_agg, DTup_tuple, DCons_cons, DNil_nil, NN_some, BIf_true, BIf_false, BIf_same, List.toList_toArray, Bool.not_true, Bool.not_false]
    refine BIf_bnen rfl ?_
    generalize ht0 : (pcs (D.per d) x.f (b * 2 ^ j.eb) (m * b * 2 ^ j.eb) (b * 2 ^ j.eb)).length = t0 at *
    have hok1 : Ok (D.rdG d' t0) := Ok.rdG hI.pg.ok t0
    have hU := rowsU_add (j := j) (d := d) (d' := d') (x := x) (m * b) b hI.src (by rw [hxw]; exact hmr')
    have hul : (batF j (m * b) (pws d' x (m * b * 2 ^ j.eb) (b * 2 ^ j.eb)) b).length = b * 2 ^ j.eb := batF_len _ _ _ _
    generalize hus : batF j (m * b) (pws d' x (m * b * 2 ^ j.eb) (b * 2 ^ j.eb)) b = us at *
    have hpw := fun k => wrsG_pw y hok1 (m * b * 2 ^ j.eb) us k
    rw [hul] at hpw
    have hpg3 := hI.pg.trans hpg2
    rw [← hrs, ← hws'] at hpg3
    have htk : m * b + b = (m + 1) * b := (Nat.succ_mul m b).symm
    rw [htk] at hU
    have hUl := rowsU_len j d x (m * b)
    have hI2 : PasI d (wrsG (D.rdG d' t0) y (b * 2 ^ j.eb) (m * b * 2 ^ j.eb) us) x y j b (m + 1) := by
      refine ⟨hpg3, fun k hk => hpg3.pw hok hx (fun i hi => ?_) hk, fun k hk => ?_⟩
      · unfold inX at hi; omega
      · rw [hpw k]
        have hk2 : k < m * b * 2 ^ j.eb + b * 2 ^ j.eb := by
          rw [← htk, Nat.add_mul] at hk; exact hk
        rw [hU]
        by_cases h1 : m * b * 2 ^ j.eb ≤ k
        · rw [if_pos ⟨h1, hk2⟩, List.getElem?_append_right (by omega), hUl]
        · rw [if_neg (by omega), List.getElem?_append_left (by omega)]
          exact hI.dst k (by omega)
    have hcs : more (sum (form (rowsU j d x (m * b)))) (form us) = sum (form (rowsU j d x ((m + 1) * b))) := by
      rw [hU, form_append]
      unfold sum
      rw [more_append]
    have hsk : 8 * (m * b * 2 ^ j.eb) + 8 * (b * 2 ^ j.eb) = 8 * ((m + 1) * b * 2 ^ j.eb) := by rw [← htk, Nat.add_mul]; omega
    rw [hcs, hsk, hpk] at hs
    refine ih (m + 1) _ _ P1 us H ?_ (by omega) hI2 hul hPP (.inr rfl) ?_
    · rw [← Int.natCast_add, htk, i64n (by omega)]
    · exact hs.re [8, 0, 1, 2, 3, 4, 5, 9, 10, 6, 7] rfl
end

end Go.Proofs.YtbnhfcdagoigkaaDoor.Pas

end
section
/-! PasE -/
/- pass: Run, whole; where it can't. -/
set_option maxRecDepth 100000
set_option linter.unusedSimpArgs false
set_option linter.unusedVariables false
set_option linter.unnecessarySimpa false
set_option linter.unusedSectionVars false
namespace Go.Proofs.YtbnhfcdagoigkaaDoor.Pas
open Go Go.Hw Go.Crc Go.Form Go.Proofs.YtbnhfcdagoigkaaDoor.W Go.Proofs.YtbnhfcdagoigkaaDoor.Shp Go.Proofs.YtbnhfcdagoigkaaDoor.Gol Go.Proofs.YtbnhfcdagoigkaaDoor.Fft Go.Proofs.YtbnhfcdagoigkaaDoor.Ker Go.Proofs.YtbnhfcdagoigkaaDoor.Str Go.Proofs.YtbnhfcdagoigkaaDoor.Dsk Go.Proofs.YtbnhfcdagoigkaaDoor.Are Go.Proofs.YtbnhfcdagoigkaaDoor.Trn

theorem mx3 (p a b c : Int) (h1 : a ≤ b) (h2 : b ≤ c) : mx (mx (mx p a) b) c = mx p c := by
  have key : ∀ p a b : Int, a ≤ b → mx (mx p a) b = mx p b := fun p a b h => by
    unfold mx
    by_cases h1 : a > p
    · rw [if_pos h1]
      by_cases h2 : b > a
      · rw [if_pos h2, if_pos (by omega)]
      · rw [if_neg h2, if_pos (by omega)]; omega
    · rw [if_neg h1]
  rw [key p a b h1, key p b c h2]

theorem Run_nil (p1 p2 : Nat) (r c dir tw sh x3 : Int) (H : Hp) : HCalls Tryd.prog 23 #[.pointer (some ⟨p1, 0, none⟩), .pointer (some ⟨p2, 0, none⟩), .agg #[.int .i64 r, .int .i64 c, .int .i64 dir, .int .i64 tw, .int .u64 sh], .pointer none, .int .i64 x3] H (RetE (.tuple #[.int .u32 0, .int .i64 1]) H) := HCalls.ret (by
  apply W_pass_Run.ok
  unfold W_pass_Run
  refine (Sep.start H).nw fun b1 H1 hs => ?_
  refine hs.ldw 1 rfl rfl ?_
  have hc : HCalls Tryd.prog 64 #[.pointer (some ⟨p1, 0, none⟩), .pointer (some ⟨p2, 0, none⟩), .agg #[.int .i64 r, .int .i64 c, .int .i64 dir, .int .i64 tw, .int .u64 sh], .pointer none] H1 (RetE (.int .i64 1) H1) := HCalls.ret (by
    apply W_pass_check.ok
    unfold W_pass_check
    refine (Sep.start H1).nw fun b2 H2 hs2 => BIf_neg rfl (BIf_neg rfl (BIf_pos rfl (hs2.fin 0 rfl _))))
  refine HCalls.use hc ?_
  simp only [DI_int', DB_bool, DS_string, DP_pointer, DSl_slice, DM_map, DA_agg, DTup_tuple, DCons_cons, DNil_nil, NN_some, BIf_true, BIf_false, BIf_same, List.toList_toArray, Bool.not_true, Bool.not_false]
  exact BIf_bnep (by decide) (hs.fin 0 rfl _))

section
variable {p q dp ap : Nat} {x y : X} {cap peak : Int} {bufs : List (Nat × Nat × Option Addr)} {L : List As} {H : Hp} {TT : As} {j : J}

theorem Run_bad (hs : Sep L H) (hT : T64 H) (i k : Nat) (hi : L[i]? = some (pts p (pipO dp ap x))) (hk : L[k]? = some (pts q (pipO dp ap y))) (ap' : Nat) (r c dir tw sh x3 : Int) (hno : checkV r c dir tw x.w y.w ≠ 0) :
    HCalls Tryd.prog 23 #[.pointer (some ⟨p, 0, none⟩), .pointer (some ⟨q, 0, none⟩), .agg #[.int .i64 r, .int .i64 c, .int .i64 dir, .int .i64 tw, .int .u64 sh], .pointer (some ⟨ap', 0, none⟩), .int .i64 x3] H (RetE (.tuple #[.int .u32 0, .int .i64 (checkV r c dir tw x.w y.w)]) H) := HCalls.ret (by
  have hlt := (List.getElem?_eq_some_iff.1 hi).1
  have hlt2 := (List.getElem?_eq_some_iff.1 hk).1
  apply W_pass_Run.ok
  unfold W_pass_Run
  intro b1 hb
  have hs1 := hs.new hb (.obj (.cells #[.int .i64 r, .int .i64 c, .int .i64 dir, .int .i64 tw, .int .u64 sh] 56))
  have hle : H.le (H.set b1 (.obj (.cells #[.int .i64 r, .int .i64 c, .int .i64 dir, .int .i64 tw, .int .u64 sh] 56))) := Hp.le_set hb
  generalize hH : H.set b1 (.obj (.cells #[.int .i64 r, .int .i64 c, .int .i64 dir, .int .i64 tw, .int .u64 sh] 56)) = H1 at *
  refine hs1.ldw L.length (b := b1) (n := 5) (c := #[.int .i64 r, .int .i64 c, .int .i64 dir, .int .i64 tw, .int .u64 sh]) (e := 56) (by simp) rfl ?_
  refine HCalls.use (check_s (ap' := ap') hs1 i (by rw [List.getElem?_append_left hlt]; exact hi) k (by rw [List.getElem?_append_left hlt2]; exact hk) (hT.le hle) r c dir tw sh) ?_
  simp only [DI_int', DB_bool, DS_string, DP_pointer, DSl_slice, DM_map, DA_agg, DTup_tuple, DCons_cons, DNil_nil, NN_some, BIf_true, BIf_false, BIf_same, List.toList_toArray, Bool.not_true, Bool.not_false]
  exact BIf_bnep hno ⟨rfl, hle⟩)

theorem Run_full (hs : Sep L H) (hT : T64 H) (i k n : Nat) (hi : L[i]? = some (pts p (pipO dp ap x))) (hk : L[k]? = some (pts q (pipO dp ap y))) (hn : L[n]? = some (Ar ap cap peak bufs)) (r c dir tw sh per : Int) (hper : -9223372036854775808 ≤ per ∧ per ≤ 9223372036854775807) (hcap : cap - sumB bufs ≤ 9223372036854775807)
    (h0 : checkV r c dir tw x.w y.w = 0) (hno : ¬ batC r c per (cap - sumB bufs)) :
    HCalls Tryd.prog 23 #[.pointer (some ⟨p, 0, none⟩), .pointer (some ⟨q, 0, none⟩), .agg #[.int .i64 r, .int .i64 c, .int .i64 dir, .int .i64 tw, .int .u64 sh], .pointer (some ⟨ap, 0, none⟩), .int .i64 per] H (RetE (.tuple #[.int .u32 0, .int .i64 6]) H) := HCalls.ret (by
  have hlt := (List.getElem?_eq_some_iff.1 hi).1
  have hlt2 := (List.getElem?_eq_some_iff.1 hk).1
  have hlt3 := (List.getElem?_eq_some_iff.1 hn).1
  apply W_pass_Run.ok
  unfold W_pass_Run
  intro b1 hb
  have hs1 := hs.new hb (.obj (.cells #[.int .i64 r, .int .i64 c, .int .i64 dir, .int .i64 tw, .int .u64 sh] 56))
  have hle : H.le (H.set b1 (.obj (.cells #[.int .i64 r, .int .i64 c, .int .i64 dir, .int .i64 tw, .int .u64 sh] 56))) := Hp.le_set hb
  generalize hH : H.set b1 (.obj (.cells #[.int .i64 r, .int .i64 c, .int .i64 dir, .int .i64 tw, .int .u64 sh] 56)) = H1 at *
  refine hs1.ldw L.length (b := b1) (n := 5) (c := #[.int .i64 r, .int .i64 c, .int .i64 dir, .int .i64 tw, .int .u64 sh]) (e := 56) (by simp) rfl ?_
  refine HCalls.use (check_s (ap' := ap) hs1 i (by rw [List.getElem?_append_left hlt]; exact hi) k (by rw [List.getElem?_append_left hlt2]; exact hk) (hT.le hle) r c dir tw sh) ?_
  rw [h0]
  simp only [DI_int', DB_bool, DS_string, DP_pointer, DSl_slice, DM_map, DA_agg, DTup_tuple, DCons_cons, DNil_nil, NN_some, BIf_true, BIf_false, BIf_same, List.toList_toArray, Bool.not_true, Bool.not_false]
  refine BIf_bnen rfl ?_
  simp only [Addr.add_zero]
  refine hs1.lda L.length (b := b1) (off := 0) (c := #[.int .i64 r, .int .i64 c, .int .i64 dir, .int .i64 tw, .int .u64 sh]) (e := 56) (by simp) (show 0 + 2 ≤ 5 by omega) ?_
  refine QCall.use (free_s hs1 n (by rw [List.getElem?_append_left hlt3]; exact hn)) ?_
  simp only [DI_int', DB_bool, DS_string, DP_pointer, DSl_slice, DM_map, DA_agg, DTup_tuple, DCons_cons, DNil_nil, NN_some, BIf_true, BIf_false, BIf_same, List.toList_toArray, Bool.not_true, Bool.not_false]
  refine QCall.use (Batch_no r c per (cap - sumB bufs) hper hcap H1 (hT.le hle) hno) ?_
  simp only [DI_int', DB_bool, DS_string, DP_pointer, DSl_slice, DM_map, DA_agg, DTup_tuple, DCons_cons, DNil_nil, NN_some, BIf_true, BIf_false, BIf_same, List.toList_toArray, Bool.not_true, Bool.not_false]
  exact ⟨rfl, hle⟩)

theorem check_zero (hab : j.ea + j.eb ≤ 32) (htw : -1 ≤ j.tw ∧ j.tw ≤ 32) (hxw : x.w = 2 ^ j.ea * 2 ^ j.eb) (hyw : y.w = 2 ^ j.ea * 2 ^ j.eb) : checkV ((2 ^ j.ea : Nat) : Int) ((2 ^ j.eb : Nat) : Int) (if j.d = true then 1 else 0) j.tw x.w y.w = 0 := by
  unfold checkV
  rw [if_pos ⟨goodS_pow hab, by rw [hxw, Int.natCast_mul], by rw [hyw, Int.natCast_mul]⟩, if_neg (by cases j.d <;> decide), if_neg (by omega)]

set_option maxHeartbeats 1000000 in
theorem Run_tr {d : D} {jb : Nat} (hT : ∀ H, TT H → T64 H) (hok : Ok d) (hl : d.down = false) (hx : On d x) (hy : On d y) (ho : d.rd ≤ 2000000000000000000 ∧ d.wr ≤ 2000000000000000000) (hab : j.ea + j.eb ≤ 32) (hb20 : j.eb ≤ 20) (htw : -1 ≤ j.tw ∧ j.tw ≤ 32) (hxw : x.w = 2 ^ j.ea * 2 ^ j.eb) (hyw : y.w = 2 ^ j.ea * 2 ^ j.eb) (hdis : x.f + x.s ≤ y.f ∨ y.f + y.s ≤ x.f)
    (hper : perB (D.per d : Int) = true) (hcap : cap ≤ 1000000000000) (hsum : 0 ≤ sumB bufs) (hfr : (D.per d : Int) + 2 * (2 ^ j.eb : Nat) ≤ cap - sumB bufs) (hj : BatIs j.ea ((cap - sumB bufs - D.per d).toNat / 2 ^ j.eb) jb) :
    Tr Tryd.prog 23 #[.pointer (some ⟨p, 0, none⟩), .pointer (some ⟨q, 0, none⟩), .agg j.a, .pointer (some ⟨ap, 0, none⟩), .int .i64 (D.per d : Int)]
      [pts p (pipO dp ap x), pts q (pipO dp ap y), Dk dp d, Ar ap cap peak bufs, TT] fun v M => ∃ M0, passP p q dp ap d x y j (2 ^ jb) cap peak bufs v M0 ∧ M = M0 ++ [TT] := fun H hs => by
  have hp := Ok.per_le hok
  have hsz := size_le hab
  have hr1 := pow_pos j.ea
  have hc1 := pow_pos j.eb
  have hc20 := pow_le hb20
  have hb1 := pow_pos jb
  have hjb := hj.le
  have hfit := hj.fit
  have hbsz : 2 ^ jb * 2 ^ j.eb ≤ 2 ^ j.ea * 2 ^ j.eb := Nat.mul_le_mul_right _ (pow_le hjb)
  have hbc : 1 * 2 ^ j.eb ≤ 2 ^ jb * 2 ^ j.eb := Nat.mul_le_mul_right _ hb1
  have hroom : 2 ^ jb * 2 ^ j.eb + 2 ^ j.eb ≤ (cap - sumB bufs - D.per d).toNat := by
    rw [Nat.le_div_iff_mul_le (by omega), Nat.add_mul, Nat.one_mul] at hfit
    exact hfit
  have hroom' : ((2 ^ jb * 2 ^ j.eb : Nat) : Int) + ((2 ^ j.eb : Nat) : Int) ≤ cap - sumB bufs - D.per d := by omega
  apply W_pass_Run.ok
  unfold W_pass_Run
  refine hs.nw fun sb H hs => ?_
  have hs : Sep [pts p (pipO dp ap x), pts q (pipO dp ap y), Dk dp d, Ar ap cap peak bufs, TT, pts sb (.obj (.cells j.a 56))] H := hs
  refine hs.ldw 5 rfl rfl ?_
  refine HCalls.use (check_s (ap' := ap) hs 0 rfl 1 rfl (see_T hT hs 4 rfl) _ _ _ _ _) ?_
  rw [check_zero hab htw hxw hyw]
  simp only [DI_int', DB_bool, DS_string, DP_pointer, DSl_slice, DM_map, DA_agg, DTup_tuple, DCons_cons, DNil_nil, NN_some, BIf_true, BIf_false, BIf_same, List.toList_toArray, Bool.not_true, Bool.not_false]
  refine BIf_bnen rfl ?_
  simp only [Addr.add_zero]
  refine hs.lda 5 rfl (show 0 + 2 ≤ 5 by omega) ?_
  refine QCall.use (free_s hs 3 rfl) ?_
  simp only [DI_int', DB_bool, DS_string, DP_pointer, DSl_slice, DM_map, DA_agg, DTup_tuple, DCons_cons, DNil_nil, NN_some, BIf_true, BIf_false, BIf_same, List.toList_toArray, Bool.not_true, Bool.not_false]
  refine QCall.use (Batch_is (ea := j.ea) (eb := j.eb) (D.per d) (cap - sumB bufs) ⟨by omega, by omega⟩ (by omega) H (see_T hT hs 4 rfl) hab ⟨goodS_pow hab, by omega, hper, by omega, by omega⟩ hj) ?_
  simp only [DI_int', DB_bool, DS_string, DP_pointer, DSl_slice, DM_map, DA_agg, DTup_tuple, DCons_cons, DNil_nil, NN_some, BIf_true, BIf_false, BIf_same, List.toList_toArray, Bool.not_true, Bool.not_false]
  refine hs.ldf 5 rfl rfl ?_
  simp only [DI_int', DB_bool, DS_string, DP_pointer, DSl_slice, DM_map, DA_agg, DTup_tuple, DCons_cons, DNil_nil, NN_some, BIf_true, BIf_false, BIf_same, List.toList_toArray, Bool.not_true, Bool.not_false]
  rw [← Int.natCast_mul, i64n (by omega)]
  refine (Take_tr (a := ap) (cap := cap) (peak := peak) (bufs := bufs) (n := 2 ^ jb * 2 ^ j.eb) (by omega) (by omega)).use hs [3] rfl rfl ?_
  rintro _ _ H ⟨bn, bb, rfl, rfl⟩ hs
  simp only [DI_int', DB_bool, DS_string, DP_pointer, DSl_slice, DM_map, DA_agg, DTup_tuple, DCons_cons, DNil_nil, NN_some, BIf_true, BIf_false, BIf_same, List.toList_toArray, Bool.not_true, Bool.not_false]
  refine BIf_bnen rfl ?_
  have fresh : ∀ {L : List As} {H : Hp} {bufs : List (Nat × Nat × Option Addr)} {pk : Int} (b n rb : Nat), Sep L H → L[0]? = some (Ar ap cap pk (bufs ++ [(b, n, some ⟨rb, 0, none⟩)])) → ∀ z ∈ bufs, z.1 ≠ b := fun {L H bufs pk} b n rb hs h0 z hz e => by
    obtain ⟨mp, cl, tk, hA⟩ := Sep.ar hs 0 h0
    have := hA.bn
    rw [List.map_append, List.nodup_append] at this
    exact this.2.2 z.1 (List.mem_map_of_mem hz) b (by simp) e
  have hbm : ∀ z ∈ bufs, z.1 ≠ bn := fresh bn _ bb hs rfl
  refine hs.nw fun v2 H hs => ?_
  refine hs.ldf 6 rfl rfl ?_
  simp only [DI_int', DB_bool, DS_string, DP_pointer, DSl_slice, DM_map, DA_agg, DTup_tuple, DCons_cons, DNil_nil, NN_some, BIf_true, BIf_false, BIf_same, List.toList_toArray, Bool.not_true, Bool.not_false]
  have hsb1 : sumB (bufs ++ [(bn, 2 ^ jb * 2 ^ j.eb, some ⟨bb, 0, none⟩)]) = sumB bufs + ((2 ^ jb * 2 ^ j.eb : Nat) : Int) := by
    rw [sumB_append]; simp [sumB]
  refine (Take_tr (a := ap) (cap := cap) (bufs := bufs ++ [(bn, 2 ^ jb * 2 ^ j.eb, some ⟨bb, 0, none⟩)]) (n := 2 ^ j.eb) (by omega) (by omega)).use hs [0] rfl rfl ?_
  rintro _ _ H ⟨bn2, bb2, rfl, rfl⟩ hs
  simp only [DI_int', DB_bool, DS_string, DP_pointer, DSl_slice, DM_map, DA_agg, DTup_tuple, DCons_cons, DNil_nil, NN_some, BIf_true, BIf_false, BIf_same, List.toList_toArray, Bool.not_true, Bool.not_false]
  refine BIf_bnen rfl ?_
  have hbm2 : ∀ z ∈ bufs1 bufs bn (2 ^ jb * 2 ^ j.eb) bb, z.1 ≠ bn2 := fresh bn2 _ bb2 hs rfl
  refine hs.nw fun v3 H hs => ?_
  have hsb2 : sumB (bufs1 (bufs1 bufs bn (2 ^ jb * 2 ^ j.eb) bb) bn2 (2 ^ j.eb) bb2) = sumB bufs + ((2 ^ jb * 2 ^ j.eb : Nat) : Int) + ((2 ^ j.eb : Nat) : Int) := by
    unfold bufs1
    rw [sumB_append, hsb1]; simp [sumB]
  -- what is known from here on
  have hpk : mx (mx (mx peak (sumB bufs + ((2 ^ jb * 2 ^ j.eb : Nat) : Int))) (sumB bufs + ((2 ^ jb * 2 ^ j.eb : Nat) : Int) + ((2 ^ j.eb : Nat) : Int))) (sumB (bufs1 (bufs1 bufs bn (2 ^ jb * 2 ^ j.eb) bb) bn2 (2 ^ j.eb) bb2) + D.per d) = mx peak (sumB bufs + ((2 ^ jb * 2 ^ j.eb : Nat) : Int) + ((2 ^ j.eb : Nat) : Int) + D.per d) := by
    rw [hsb2]
    exact mx3 _ _ _ _ (by omega) (by omega)
  rw [hsb1] at hs
  have hs : Sep [Ar ap cap (mx (mx peak (sumB bufs + ((2 ^ jb * 2 ^ j.eb : Nat) : Int))) (sumB bufs + ((2 ^ jb * 2 ^ j.eb : Nat) : Int) + ((2 ^ j.eb : Nat) : Int))) (bufs1 (bufs1 bufs bn (2 ^ jb * 2 ^ j.eb) bb) bn2 (2 ^ j.eb) bb2), pts bb2 (.row (zerosU64 (2 ^ j.eb)) 22 (2 ^ j.eb)), pts bb (.row (zerosU64 (2 ^ jb * 2 ^ j.eb)) 22 (2 ^ jb * 2 ^ j.eb)),
    pts p (pipO dp ap x), pts q (pipO dp ap y), Dk dp d, TT, pts sb (.obj (.cells j.a 56)), pts v2 (.row [.pointer (some ⟨bn, 0, none⟩)] 130 1), pts v3 (.row [.pointer (some ⟨bn2, 0, none⟩)] 130 1)] H := hs
  have hz : zerosU64 (2 ^ jb * 2 ^ j.eb) = wordVals (List.replicate (2 ^ jb * 2 ^ j.eb) 0) := by
    unfold zerosU64
    rw [zeroRow_one]
    unfold wordVals
    rw [List.map_replicate]; rfl
  rw [hz] at hs
  have fin : ∀ (kp : Nat) (H : Hp), Sep [Kn kp j.eb, Ar ap cap (mx (mx peak (sumB bufs + ((2 ^ jb * 2 ^ j.eb : Nat) : Int))) (sumB bufs + ((2 ^ jb * 2 ^ j.eb : Nat) : Int) + ((2 ^ j.eb : Nat) : Int))) (bufs1 (bufs1 bufs bn (2 ^ jb * 2 ^ j.eb) bb) bn2 (2 ^ j.eb) bb2), pts bb2 (.row (zerosU64 (2 ^ j.eb)) 22 (2 ^ j.eb)), pts bb (.row (wordVals (List.replicate (2 ^ jb * 2 ^ j.eb) 0)) 22 (2 ^ jb * 2 ^ j.eb)),
      pts p (pipO dp ap x), pts q (pipO dp ap y), Dk dp d, TT, pts sb (.obj (.cells j.a 56)), pts v2 (.row [.pointer (some ⟨bn, 0, none⟩)] 130 1), pts v3 (.row [.pointer (some ⟨bn2, 0, none⟩)] 130 1)] H →
      Nw H (.obj (.cells #[.int .u32 0, .int .i64 0, .int .i64 ((2 ^ j.ea : Nat) : Int), .int .i64 ((2 ^ j.eb : Nat) : Int), .int .i64 (if j.d = true then 1 else 0), .int .i64 j.tw, .int .u64 (j.sh.toNat : Int), .pointer (some ⟨kp, 0, none⟩)] 141)) fun b4 H9 =>
        W_pass_Run.j16 (fun v H' => ∃ M, (∃ M0, passP p q dp ap d x y j (2 ^ jb) cap peak bufs v M0 ∧ M = M0 ++ [TT]) ∧ Sep M H') (some ⟨p, 0, none⟩) (some ⟨q, 0, none⟩) ⟨sb, 0, none⟩ ((2 ^ jb : Nat) : Int) (some ⟨bn, 0, none⟩) ⟨b4, 0, none⟩ (some ⟨ap, 0, none⟩) (some ⟨v3, 0, none⟩) 1 1 (some ⟨ap, 0, none⟩) (some ⟨v2, 0, none⟩) 1 1 H9 := fun kp H hs => by
    refine hs.nw fun rn H hs => ?_
    unfold W_pass_Run.j16
    refine ⟨2 ^ j.ea / 2 ^ jb + 1, ?_⟩
    have out : ∀ {v : Value} {d' : D} {H : Hp}, (∀ {M}, M = [pts p (pipO dp ap x), pts q (pipO dp ap y), Dk dp d', Ar ap cap (mx peak (sumB bufs + ((2 ^ jb * 2 ^ j.eb : Nat) : Int) + ((2 ^ j.eb : Nat) : Int) + D.per d)) bufs] → passP p q dp ap d x y j (2 ^ jb) cap peak bufs v M) →
        Sep [pts p (pipO dp ap x), pts q (pipO dp ap y), Dk dp d', Ar ap cap (mx peak (sumB bufs + ((2 ^ jb * 2 ^ j.eb : Nat) : Int) + ((2 ^ j.eb : Nat) : Int) + D.per d)) bufs, TT] H → ∃ M, (∃ M0, passP p q dp ap d x y j (2 ^ jb) cap peak bufs v M0 ∧ M = M0 ++ [TT]) ∧ Sep M H := fun h hs => ⟨_, ⟨_, h rfl, rfl⟩, hs⟩
    refine run_loop (p := p) (q := q) (dp := dp) (ap := ap) (rn := rn) (bn := bn) (bb := bb) (bn2 := bn2) (bb2 := bb2) (sb := sb) (v2 := v2) (v3 := v3) (kp := kp) (x := x) (y := y) (cap := cap) (bufs := bufs) (TT := TT) (j := j) (mb := 2 ^ jb * 2 ^ j.eb) (peak := mx (mx peak (sumB bufs + ((2 ^ jb * 2 ^ j.eb : Nat) : Int))) (sumB bufs + ((2 ^ jb * 2 ^ j.eb : Nat) : Int) + ((2 ^ j.eb : Nat) : Int))) _ hT hok hx hy ho hab hb20 htw.2 hxw hyw hdis hb1 (div_pow hjb) (by rw [hsb2]; omega) hbm hbm2 hpk.symm
      (fun d' H hI hs => out (fun e => .inl ⟨d', hI, rfl, e⟩) hs) (fun d' H hd hfu hs => out (fun e => .inr ⟨d', hd, hfu, rfl, e⟩) hs) (2 ^ j.ea / 2 ^ jb) 0 0 d _ (List.replicate (2 ^ jb * 2 ^ j.eb) 0) H (by rw [Nat.zero_mul]; rfl) (by omega)
      ⟨by simpa [rP, wP] using Prog.refl (inX y) hok hl, fun _ _ => rfl, fun k hk => by simp at hk⟩ (by simp) hpk (.inl rfl) ?_
    have hs := hs.re [8, 11, 3, 4, 5, 6, 1, 9, 10, 0, 7] rfl
    unfold passL
    simp only [Nat.zero_mul, Nat.mul_zero]
    have e0 : sum (form (rowsU j d x 0)) = 0#32 := by
      show sum (form []) = 0#32
      decide
    rw [e0]
    exact hs
  have tz : ∀ H, T64 H → HCalls Tryd.prog 69 #[.int .u64 (IntKind.u64.wrap ((2 ^ j.eb : Nat) : Int))] H (RetE (.int .i64 (j.eb : Int)) H) := fun H hT => by
    rw [u64n (by omega)]
    exact TZu_ok j.eb (by omega) H hT
  refine ⟨?_, ?_⟩
  · refine hs.ldw 7 rfl rfl ?_
    refine hs.ldf 7 rfl rfl ?_
    simp only [DI_int', DB_bool, DS_string, DP_pointer, DSl_slice, DM_map, DA_agg, DTup_tuple, DCons_cons, DNil_nil, NN_some, BIf_true, BIf_false, BIf_same, List.toList_toArray, Bool.not_true, Bool.not_false]
    refine HCalls.use (tz H (see_T hT hs 6 rfl)) ?_
    simp only [DI_int', DB_bool, DS_string, DP_pointer, DSl_slice, DM_map, DA_agg, DTup_tuple, DCons_cons, DNil_nil, NN_some, BIf_true, BIf_false, BIf_same, List.toList_toArray, Bool.not_true, Bool.not_false]
    refine (New_tr j.eb hb20).use hs [] rfl rfl ?_
    rintro _ _ H ⟨kp, rfl, rfl⟩ hs
    simp only [DI_int', DB_bool, DS_string, DP_pointer, DSl_slice, DM_map, DA_agg, DTup_tuple, DCons_cons, DNil_nil, NN_some, BIf_true, BIf_false, BIf_same, List.toList_toArray, Bool.not_true, Bool.not_false]
    exact fin kp H hs
  refine hs.ldf 7 rfl rfl ?_
  simp only [DI_int', DB_bool, DS_string, DP_pointer, DSl_slice, DM_map, DA_agg, DTup_tuple, DCons_cons, DNil_nil, NN_some, BIf_true, BIf_false, BIf_same, List.toList_toArray, Bool.not_true, Bool.not_false]
  refine ⟨?_, ?_, ?_⟩
  · refine hs.ldw 7 rfl rfl ?_
    refine HCalls.use (tz H (see_T hT hs 6 rfl)) ?_
    simp only [DI_int', DB_bool, DS_string, DP_pointer, DSl_slice, DM_map, DA_agg, DTup_tuple, DCons_cons, DNil_nil, NN_some, BIf_true, BIf_false, BIf_same, List.toList_toArray, Bool.not_true, Bool.not_false]
    refine (New_tr j.eb hb20).use hs [] rfl rfl ?_
    rintro _ _ H ⟨kp, rfl, rfl⟩ hs
    simp only [DI_int', DB_bool, DS_string, DP_pointer, DSl_slice, DM_map, DA_agg, DTup_tuple, DCons_cons, DNil_nil, NN_some, BIf_true, BIf_false, BIf_same, List.toList_toArray, Bool.not_true, Bool.not_false]
    exact fin kp H hs
  · refine hs.ldw 7 rfl rfl ?_
    refine HCalls.use (tz H (see_T hT hs 6 rfl)) ?_
    simp only [DI_int', DB_bool, DS_string, DP_pointer, DSl_slice, DM_map, DA_agg, DTup_tuple, DCons_cons, DNil_nil, NN_some, BIf_true, BIf_false, BIf_same, List.toList_toArray, Bool.not_true, Bool.not_false]
    refine (New_tr j.eb hb20).use hs [] rfl rfl ?_
    rintro _ _ H ⟨kp, rfl, rfl⟩ hs
    simp only [DI_int', DB_bool, DS_string, DP_pointer, DSl_slice, DM_map, DA_agg, DTup_tuple, DCons_cons, DNil_nil, NN_some, BIf_true, BIf_false, BIf_same, List.toList_toArray, Bool.not_true, Bool.not_false]
    exact fin kp H hs
  refine HCalls.use (tz H (see_T hT hs 6 rfl)) ?_
  simp only [DI_int', DB_bool, DS_string, DP_pointer, DSl_slice, DM_map, DA_agg, DTup_tuple, DCons_cons, DNil_nil, NN_some, BIf_true, BIf_false, BIf_same, List.toList_toArray, Bool.not_true, Bool.not_false]
  refine ⟨?_, ?_⟩
  · refine hs.ldw 7 rfl rfl ?_
    refine (New_tr j.eb hb20).use hs [] rfl rfl ?_
    rintro _ _ H ⟨kp, rfl, rfl⟩ hs
    simp only [DI_int', DB_bool, DS_string, DP_pointer, DSl_slice, DM_map, DA_agg, DTup_tuple, DCons_cons, DNil_nil, NN_some, BIf_true, BIf_false, BIf_same, List.toList_toArray, Bool.not_true, Bool.not_false]
    exact fin kp H hs
  · refine (New_tr j.eb hb20).use hs [] rfl rfl ?_
    rintro _ _ H ⟨kp, rfl, rfl⟩ hs
    simp only [DI_int', DB_bool, DS_string, DP_pointer, DSl_slice, DM_map, DA_agg, DTup_tuple, DCons_cons, DNil_nil, NN_some, BIf_true, BIf_false, BIf_same, List.toList_toArray, Bool.not_true, Bool.not_false]
    refine hs.ldw 8 rfl rfl ?_
    exact fin kp H hs
end

end Go.Proofs.YtbnhfcdagoigkaaDoor.Pas

end
section
/-! StrF -/
/- The law StreamCosts. -/
set_option maxRecDepth 100000
set_option linter.unusedSimpArgs false
set_option linter.unusedVariables false
set_option linter.unnecessarySimpa false
set_option linter.unusedSectionVars false

namespace Go.Proofs.YtbnhfcdagoigkaaDoor.Str
open Go Go.Hw Go.Form Go.Proofs.YtbnhfcdagoigkaaDoor.W Go.Proofs.YtbnhfcdagoigkaaDoor.Dsk Go.Proofs.YtbnhfcdagoigkaaDoor.Are

theorem p_ops : plain64 Tryd.prog 64 3 := ⟨by kernel_rfl, by kernel_rfl, by kernel_rfl, by kernel_rfl⟩

theorem fresh_ok {sec : Nat} (h1 : 1 ≤ sec ∧ sec ≤ 1000) : Ok (D.fresh sec 32) := Ok.fresh ⟨h1.1, by omega⟩ (by decide) (by omega)
theorem fresh_calm (sec : Nat) : Calm (D.fresh sec 32) := ⟨rfl, rfl⟩
theorem fresh_per (sec : Nat) : D.per (D.fresh sec 32) = 4 := by show 32 / 8 = 4; decide
theorem fresh_on {sec f w : Nat} (h1 : 1 ≤ w) (h2 : f + (w + 3) / 4 ≤ sec) : On (D.fresh sec 32) ⟨f, (w + 3) / 4, w⟩ := ⟨h1, by show 1 ≤ (w + 3) / 4; omega, h2, by rw [fresh_per]; show w ≤ (w + 3) / 4 * 4; omega⟩

/-- How many sectors are written in part. -/
def part1 (a k : Nat) : Nat := if a % 4 ≠ 0 ∨ (a / 4 = (a + k - 1) / 4 ∧ k < 4) then 1 else 0
def partN (a k : Nat) : Nat := part1 a k + (if (a + k - 1) / 4 > a / 4 ∧ (a + k) % 4 ≠ 0 then 1 else 0)
set_option maxRecDepth 100000 in
theorem costs4 : ∀ a < 40, ∀ k < 41, 1 ≤ k → a + k ≤ 40 → (pcs 4 2 k a k).length = (a + k - 1) / 4 - a / 4 + 1 ∧ ((pcs 4 2 k a k).filter (fun p => decide (p.2.2 < 4))).length = partN a k := by
  decide +kernel

end Go.Proofs.YtbnhfcdagoigkaaDoor.Str

end
section
/-! Wabacistlaw22 -/
/- Formulas of functions, printed by wip/tools/hwp.py. -/
set_option maxRecDepth 100000
set_option linter.unusedVariables false
namespace Go.Proofs.YtbnhfcdagoigkaaDoor.W
open Go Go.Hw

theorem mixWabacistlaw22 : Tryd.prog.follows .mixedOrders = true := by kernel_rfl
-- abacistlaw22.Make
def W_abacistlaw22_Make (A1 : Option Addr) (n1 : Nat) (m1 : Nat) (x1 : Int) (H : Hp) (K : Value → Hp → Prop) : Prop :=
  Nw H (.obj (.cells #[.pointer none, .pointer none, .pointer none, .pointer none] 50)) fun b1 H1 => ((4 : Int) ≠ 0 ∧ IntKind.i64 = IntKind.i64 ∧ HCalls Tryd.prog 60 #[.int .i64 (IntKind.i64.wrap ((IntKind.i64.wrap ((2 : Int) * (IntKind.i64.wrap (Int.tdiv (IntKind.i64.wrap (((n1 : Nat) : Int) + (3 : Int))) (4 : Int))))) + (1 : Int))), .int .i64 (32 : Int)] H1 fun v1 H2 => DP v1 fun p1 => HCalls Tryd.prog 61 #[.int .i64 x1] H2 fun v2 H3 => DP v2 fun p2 => HCalls Tryd.prog 61 #[.int .i64 (4 : Int)] H3 fun v3 H4 => DP v3 fun p3 => Nw H4 (.obj (.cells #[.pointer none, .pointer none, .pointer none, .pointer none] 50)) fun b2 H5 => StA H5 (⟨b2, 0, none⟩ : Addr) #[.pointer p1, .pointer p2, .pointer none, .pointer none] 4 fun H6 => BIf p1.isNone (LdA H6 (⟨b2, 0, none⟩ : Addr) 4 fun l1 => StA H6 (⟨b1, 0, none⟩ : Addr) l1.toArray 4 fun H7 => LdA H7 (⟨b1, 0, none⟩ : Addr) 4 fun l18 => K (.tuple #[.agg l18.toArray, .bool false]) H7) (BIf p2.isNone (LdA H6 (⟨b2, 0, none⟩ : Addr) 4 fun l2 => StA H6 (⟨b1, 0, none⟩ : Addr) l2.toArray 4 fun H8 => LdA H8 (⟨b1, 0, none⟩ : Addr) 4 fun l19 => K (.tuple #[.agg l19.toArray, .bool false]) H8) (BIf p3.isNone (LdA H6 (⟨b2, 0, none⟩ : Addr) 4 fun l3 => StA H6 (⟨b1, 0, none⟩ : Addr) l3.toArray 4 fun H9 => LdA H9 (⟨b1, 0, none⟩ : Addr) 4 fun l20 => K (.tuple #[.agg l20.toArray, .bool false]) H9) (HCalls Tryd.prog 62 #[.pointer p1, .pointer p3, .agg #[.int .i64 (1 : Int), .int .i64 (IntKind.i64.wrap (Int.tdiv (IntKind.i64.wrap (((n1 : Nat) : Int) + (3 : Int))) (4 : Int))), .int .i64 ((n1 : Nat) : Int)]] H6 fun v4 H10 => DTup v4 fun l4 => DCons l4 fun v5 l5 => DP v5 fun p4 => DCons l5 fun v6 l6 => DI .i64 v6 fun x2 => DNil l6 (HCalls Tryd.prog 62 #[.pointer p1, .pointer p2, .agg #[.int .i64 (1 : Int), .int .i64 (IntKind.i64.wrap (Int.tdiv (IntKind.i64.wrap (((n1 : Nat) : Int) + (3 : Int))) (4 : Int))), .int .i64 ((n1 : Nat) : Int)]] H10 fun v7 H11 => DTup v7 fun l7 => DCons l7 fun v8 l8 => DP v8 fun p5 => DCons l8 fun v9 l9 => DI .i64 v9 fun x3 => DNil l9 (HCalls Tryd.prog 62 #[.pointer p1, .pointer p2, .agg #[.int .i64 (IntKind.i64.wrap ((IntKind.i64.wrap (Int.tdiv (IntKind.i64.wrap (((n1 : Nat) : Int) + (3 : Int))) (4 : Int))) + (1 : Int))), .int .i64 (IntKind.i64.wrap (Int.tdiv (IntKind.i64.wrap (((n1 : Nat) : Int) + (3 : Int))) (4 : Int))), .int .i64 ((n1 : Nat) : Int)]] H11 fun v10 H12 => DTup v10 fun l10 => DCons l10 fun v11 l11 => DP v11 fun p6 => DCons l11 fun v12 l12 => DI .i64 v12 fun x4 => DNil l12 (BIf (x2 != (0 : Int)) (LdA H12 (⟨b2, 0, none⟩ : Addr) 4 fun l13 => StA H12 (⟨b1, 0, none⟩ : Addr) l13.toArray 4 fun H14 => LdA H14 (⟨b1, 0, none⟩ : Addr) 4 fun l21 => K (.tuple #[.agg l21.toArray, .bool false]) H14) (BIf (x3 != (0 : Int)) (LdA H12 (⟨b2, 0, none⟩ : Addr) 4 fun l14 => StA H12 (⟨b1, 0, none⟩ : Addr) l14.toArray 4 fun H15 => LdA H15 (⟨b1, 0, none⟩ : Addr) 4 fun l22 => K (.tuple #[.agg l22.toArray, .bool false]) H15) (BIf (x4 != (0 : Int)) (LdA H12 (⟨b2, 0, none⟩ : Addr) 4 fun l15 => StA H12 (⟨b1, 0, none⟩ : Addr) l15.toArray 4 fun H16 => LdA H16 (⟨b1, 0, none⟩ : Addr) 4 fun l23 => K (.tuple #[.agg l23.toArray, .bool false]) H16) (HCalls Tryd.prog 63 #[.pointer p4, .int .i64 (0 : Int), .slice A1 n1 m1] H12 fun v13 H13 => DI .i64 v13 fun x5 => BIf (x5 != (0 : Int)) (LdA H13 (⟨b2, 0, none⟩ : Addr) 4 fun l16 => StA H13 (⟨b1, 0, none⟩ : Addr) l16.toArray 4 fun H17 => LdA H17 (⟨b1, 0, none⟩ : Addr) 4 fun l24 => K (.tuple #[.agg l24.toArray, .bool false]) H17) (St H13 (((⟨b2, 0, none⟩ : Addr).add 2).add 0) (.pointer p5) fun H18 => St H18 (((⟨b2, 0, none⟩ : Addr).add 3).add 0) (.pointer p6) fun H19 => LdA H19 (⟨b2, 0, none⟩ : Addr) 4 fun l17 => StA H19 (⟨b1, 0, none⟩ : Addr) l17.toArray 4 fun H20 => LdA H20 (⟨b1, 0, none⟩ : Addr) 4 fun l25 => K (.tuple #[.agg l25.toArray, .bool true]) H20)))))))))))
def W_abacistlaw22_Make.Λ (_ : Value → Hp → Prop) : Cuts := Cuts.none (fun _ => none)
theorem W_abacistlaw22_Make.ok (A1 : Option Addr) (n1 : Nat) (m1 : Nat) (x1 : Int) (H : Hp) (K : Value → Hp → Prop) (h : W_abacistlaw22_Make A1 n1 m1 x1 H K) : HCalls Tryd.prog 22 #[.slice A1 n1 m1, .int .i64 x1] H K :=
  hcalls Tryd.func22 rfl (Nat.le_of_ble_eq_true rfl) (hw_safe (Λ := Cuts.none (fun _ => none)) mixWabacistlaw22 _ _ _ _ _ (Eq.mp (by kernel_rfl) h) (obs_none _ _ _ _ _))

-- abacistlaw22.Words
def W_abacistlaw22_Words (p1 : Option Addr) (x1 : Int) (x2 : Int) (H : Hp) (K : Value → Hp → Prop) : Prop :=
  HCalls Tryd.prog 61 #[.int .i64 (4 : Int)] H fun v1 H1 => DP v1 fun p2 => ((4 : Int) ≠ 0 ∧ IntKind.i64 = IntKind.i64 ∧ HCalls Tryd.prog 62 #[.pointer p1, .pointer p2, .agg #[.int .i64 x1, .int .i64 (IntKind.i64.wrap (Int.tdiv (IntKind.i64.wrap (x2 + (3 : Int))) (4 : Int))), .int .i64 x2]] H1 fun v2 H2 => DTup v2 fun l1 => DCons l1 fun v3 l2 => DP v3 fun p3 => DCons l2 fun v4 l3 => DI .i64 v4 fun x3 => DNil l3 (MkS Tryd.prog 22 x2 x2 H2 fun v5 H3 => DSl v5 fun A1 n1 m1 => BIf (x3 != (0 : Int)) (K (.tuple #[.slice none 0 0, .bool false]) H3) (HCalls Tryd.prog 74 #[.pointer p3, .int .i64 (0 : Int), .slice A1 n1 m1] H3 fun v6 H4 => DI .i64 v6 fun x4 => BIf (x4 != (0 : Int)) (K (.tuple #[.slice none 0 0, .bool false]) H4) (K (.tuple #[.slice A1 n1 m1, .bool true]) H4))))
def W_abacistlaw22_Words.Λ (_ : Value → Hp → Prop) : Cuts := Cuts.none (fun _ => none)
theorem W_abacistlaw22_Words.ok (p1 : Option Addr) (x1 : Int) (x2 : Int) (H : Hp) (K : Value → Hp → Prop) (h : W_abacistlaw22_Words p1 x1 x2 H K) : HCalls Tryd.prog 26 #[.pointer p1, .int .i64 x1, .int .i64 x2] H K :=
  hcalls Tryd.func26 rfl (Nat.le_of_ble_eq_true rfl) (hw_safe (Λ := Cuts.none (fun _ => none)) mixWabacistlaw22 _ _ _ _ _ (Eq.mp (by kernel_rfl) h) (obs_none _ _ _ _ _))

end Go.Proofs.YtbnhfcdagoigkaaDoor.W

end
section
/-! TrnE -/
/- Law 22: a pair of pipes, a pipe's words, and the law's first look. -/
set_option maxRecDepth 100000
set_option linter.unusedSimpArgs false
set_option linter.unusedVariables false
set_option linter.unnecessarySimpa false
set_option linter.unusedSectionVars false
namespace Go.Proofs.YtbnhfcdagoigkaaDoor.Trn
open Go Go.Hw Go.Crc Go.Form Go.Proofs.YtbnhfcdagoigkaaDoor.W Go.Proofs.YtbnhfcdagoigkaaDoor.Shp Go.Proofs.YtbnhfcdagoigkaaDoor.Str Go.Proofs.YtbnhfcdagoigkaaDoor.Dsk Go.Proofs.YtbnhfcdagoigkaaDoor.Are

theorem Same_loop (H : Hp) (A B : Option Addr) (n m m' : Nat) (ws : List UInt64) (hn : n = ws.length) (hl : n ≤ 1000000000) (ha : Cells H A (wordVals ws)) (hb : Cells H B (wordVals ws)) :
    ∀ (t i : Nat), i + t = n → W_abacistref04_Same.l4 (RetE (.bool true) H) (t + 1) A n m B n m' (i : Int) H
  | 0, i, h => by
    unfold W_abacistref04_Same.l4
    exact BIf_dneg (by omega) (RetE.mk _ _)
  | t + 1, i, h => by
    unfold W_abacistref04_Same.l4
    refine BIf_dpos (by omega) ?_
    have hg : (wordVals ws)[i]? = some (.int .u64 ((ws[i]'(by omega)).toNat : Int)) := by
      rw [wordVals_get, List.getElem?_eq_getElem (by omega)]; rfl
    refine ha.read hg rfl (by rw [wordVals_length]; omega) ?_
    simp only [DI_int', DB_bool, DS_string, DP_pointer, DSl_slice, DM_map, DA_agg, DTup_tuple, DCons_cons, DNil_nil, NN_some, BIf_true, BIf_false, BIf_same, List.toList_toArray, Bool.not_true, Bool.not_false]
    refine hb.read hg rfl (by rw [wordVals_length]; omega) ?_
    simp only [DI_int', DB_bool, DS_string, DP_pointer, DSl_slice, DM_map, DA_agg, DTup_tuple, DCons_cons, DNil_nil, NN_some, BIf_true, BIf_false, BIf_same, List.toList_toArray, Bool.not_true, Bool.not_false]
    refine BIf_bnen rfl ?_
    rw [i64w (x := (i : Int) + 1) (by omega) (by omega)]
    exact Same_loop H A B n m m' ws hn hl ha hb t (i + 1) (by omega)
theorem Same_ok (A B : Option Addr) (n m m' : Nat) (ws : List UInt64) (hn : n = ws.length) (hl : n ≤ 1000000000) (H : Hp) (ha : Cells H A (wordVals ws)) (hb : Cells H B (wordVals ws)) :
    HCalls Tryd.prog 27 #[.slice A n m, .slice B n m'] H (RetE (.bool true) H) := by
  apply W_abacistref04_Same.ok
  unfold W_abacistref04_Same
  refine BIf_bnen rfl ⟨n + 1, ?_⟩
  exact Same_loop H A B n m m' ws hn hl ha hb n 0 (by omega)

theorem zeros_u64 (n : Nat) : zeroRow [Value.int .u64 0] n = wordVals (List.replicate n 0) := by
  rw [zeroRow_one]
  unfold wordVals
  rw [List.map_replicate]; rfl
theorem zeros_set (n : Nat) (ws : List UInt64) (h : ws.length = n) : setAt (wordVals (List.replicate n 0)) 0 (wordVals ws) = wordVals ws := by
  rw [setW_vals]
  unfold setW
  rw [List.take_zero, List.nil_append, List.drop_eq_nil_of_le (by simp; omega), List.append_nil]

/-- A pair's disk. -/
structure MadeD (d : D) (k n : Nat) : Prop where
  ok : Ok d
  down : d.down = false
  fuse : d.fuse = 0
  cnt : d.rd ≤ 100000000 ∧ d.wr ≤ 100000000
  sec : d.sec = 2 * k + 1
  size : d.size = 32
theorem MadeD.per {d : D} {k n : Nat} (h : MadeD d k n) : D.per d = 4 := by unfold D.per; rw [h.size]
theorem MadeD.calm {d : D} {k n : Nat} (h : MadeD d k n) : Str.Calm d := ⟨h.down, h.fuse⟩

def xP (n : Nat) : X := ⟨1, (n + 3) / 4, n⟩
def xQ (n : Nat) : X := ⟨(n + 3) / 4 + 1, (n + 3) / 4, n⟩
theorem MadeD.onP {d : D} {n : Nat} (h : MadeD d ((n + 3) / 4) n) (h1 : 1 ≤ n) : On d (xP n) :=
  ⟨h1, by show 1 ≤ (n + 3) / 4; omega, by rw [h.sec]; show 1 + (n + 3) / 4 ≤ _; omega, by rw [h.per]; show n ≤ (n + 3) / 4 * 4; omega⟩
theorem MadeD.onQ {d : D} {n : Nat} (h : MadeD d ((n + 3) / 4) n) (h1 : 1 ≤ n) : On d (xQ n) :=
  ⟨h1, by show 1 ≤ (n + 3) / 4; omega, by rw [h.sec]; show (n + 3) / 4 + 1 + (n + 3) / 4 ≤ _; omega, by rw [h.per]; show n ≤ (n + 3) / 4 * 4; omega⟩

theorem MadeD.prog {S : Int → Prop} {d d' : D} {k n r w : Nat} (h : MadeD d k n) (hp : Prog S d d' r w) (hc : d'.rd ≤ 100000000 ∧ d'.wr ≤ 100000000) : MadeD d' k n :=
  ⟨hp.ok, hp.down, by rw [hp.fuse, h.fuse]; omega, hc, by rw [hp.sec, h.sec], by rw [hp.size, h.size]⟩
theorem MadeD.rdN {d : D} {k n : Nat} (h : MadeD d k n) (t : Nat) (hc : d.rd + t ≤ 100000000) : MadeD (D.rdN d t) k n :=
  ⟨Ok.rdN h.ok t, h.down, h.fuse, ⟨hc, h.cnt.2⟩, h.sec, h.size⟩

section
variable {A : Option Addr} {n m : Nat} {R : As}

theorem Make_tr (l : List UInt64) (hn : n = l.length) (h1 : 1 ≤ n) (h2 : n ≤ 1000) (hm : n ≤ m) (room : Nat) (hr : 1 ≤ room ∧ room ≤ 1000) (hR : ∀ H, R H → Cells H A (wordVals l)) :
    Tr Tryd.prog 22 #[.slice A n m, .int .i64 (room : Int)] [R] fun v M =>
      ∃ dp ap p q d, v = .tuple #[.agg #[.pointer (some ⟨dp, 0, none⟩), .pointer (some ⟨ap, 0, none⟩), .pointer (some ⟨p, 0, none⟩), .pointer (some ⟨q, 0, none⟩)], .bool true] ∧
        MadeD d ((n + 3) / 4) n ∧ d.rd ≤ n ∧ d.wr ≤ n ∧ (∀ j, j < n → pw d (xP n) j = (l[j]?).getD 0) ∧
        M = [pts p (pipO dp ap (xP n)), pts q (pipO dp ap (xQ n)), Dk dp d, Ar ap room 0 [], R] := fun H hs => by
  apply W_abacistlaw22_Make.ok
  unfold W_abacistlaw22_Make
  have eL : IntKind.i64.wrap (Int.tdiv (IntKind.i64.wrap ((n : Int) + 3)) 4) = (((n + 3) / 4 : Nat) : Int) := by
    rw [i64w (x := (n : Int) + 3) (by omega) (by omega), show (n : Int) + 3 = ((n + 3 : Nat) : Int) by omega, show Int.tdiv ((n + 3 : Nat) : Int) 4 = (((n + 3) / 4 : Nat) : Int) from rfl, i64n (by omega)]
  simp only [eL]
  have e2 : IntKind.i64.wrap (IntKind.i64.wrap ((2 : Int) * (((n + 3) / 4 : Nat) : Int)) + 1) = ((2 * ((n + 3) / 4) + 1 : Nat) : Int) := by
    rw [i64w (x := 2 * (((n + 3) / 4 : Nat) : Int)) (by omega) (by omega), i64w (by omega) (by omega)]; omega
  have e3 : IntKind.i64.wrap ((((n + 3) / 4 : Nat) : Int) + 1) = (((n + 3) / 4 + 1 : Nat) : Int) := by
    rw [i64w (by omega) (by omega)]; omega
  simp only [e2, e3]
  have hokF : Ok (D.fresh (2 * ((n + 3) / 4) + 1) 32) := fresh_ok (by omega)
  have hMF : MadeD (D.fresh (2 * ((n + 3) / 4) + 1) 32) ((n + 3) / 4) n := ⟨hokF, rfl, rfl, ⟨Nat.zero_le _, Nat.zero_le _⟩, rfl, rfl⟩
  have hx := hMF.onP h1
  have hy := hMF.onQ h1
  refine hs.nw fun b1 H hs => ⟨by decide, by simp, ?_⟩
  refine (Dsk.New_tr (2 * ((n + 3) / 4) + 1) 32 (by omega) (by decide) (by omega)).use hs [] rfl rfl ?_
  rintro _ _ H ⟨dp, rfl, rfl⟩ hs
  simp only [DI_int', DB_bool, DS_string, DP_pointer, DSl_slice, DM_map, DA_agg, DTup_tuple, DCons_cons, DNil_nil, NN_some, BIf_true, BIf_false, BIf_same, List.toList_toArray, Bool.not_true, Bool.not_false]
  refine (Are.New_tr (room : Int) (by omega)).use hs [] rfl rfl ?_
  rintro _ _ H ⟨ap, rfl, rfl⟩ hs
  simp only [DI_int', DB_bool, DS_string, DP_pointer, DSl_slice, DM_map, DA_agg, DTup_tuple, DCons_cons, DNil_nil, NN_some, BIf_true, BIf_false, BIf_same, List.toList_toArray, Bool.not_true, Bool.not_false]
  refine (Are.New_tr 4 (by omega)).use hs [] rfl rfl ?_
  rintro _ _ H ⟨bp, rfl, rfl⟩ hs
  simp only [DI_int', DB_bool, DS_string, DP_pointer, DSl_slice, DM_map, DA_agg, DTup_tuple, DCons_cons, DNil_nil, NN_some, BIf_true, BIf_false, BIf_same, List.toList_toArray, Bool.not_true, Bool.not_false]
  refine hs.nw fun b2 H hs => ?_
  refine hs.stw 5 rfl rfl rfl rfl fun H hs => ?_
  refine BIf_neg rfl (BIf_neg rfl (BIf_neg rfl ?_))
  refine (New_tr (dp := dp) (ap := bp) hokF (xP n) hx).use hs [2] rfl rfl ?_
  rintro _ _ H ⟨o, rfl, rfl⟩ hs
  simp only [DI_int', DB_bool, DS_string, DP_pointer, DSl_slice, DM_map, DA_agg, DTup_tuple, DCons_cons, DNil_nil, NN_some, BIf_true, BIf_false, BIf_same, List.toList_toArray, Bool.not_true, Bool.not_false]
  refine (New_tr (dp := dp) (ap := ap) hokF (xP n) hx).use hs [0] rfl rfl ?_
  rintro _ _ H ⟨p, rfl, rfl⟩ hs
  simp only [DI_int', DB_bool, DS_string, DP_pointer, DSl_slice, DM_map, DA_agg, DTup_tuple, DCons_cons, DNil_nil, NN_some, BIf_true, BIf_false, BIf_same, List.toList_toArray, Bool.not_true, Bool.not_false]
  refine (New_tr (dp := dp) (ap := ap) hokF (xQ n) hy).use hs [0] rfl rfl ?_
  rintro _ _ H ⟨q, rfl, rfl⟩ hs
  simp only [DI_int', DB_bool, DS_string, DP_pointer, DSl_slice, DM_map, DA_agg, DTup_tuple, DCons_cons, DNil_nil, NN_some, BIf_true, BIf_false, BIf_same, List.toList_toArray, Bool.not_true, Bool.not_false]
  refine BIf_bnen rfl (BIf_bnen rfl (BIf_bnen rfl ?_))
  refine (Write_tr (p := o) (dp := dp) (ap := bp) (d := D.fresh (2 * ((n + 3) / 4) + 1) 32) (x := xP n) (cap := 4) (peak := 0) (bufs := []) (R := R) (A := A) (n := n) (m := m) (src := l) hokF (fresh_calm _) hx ⟨Nat.zero_le _, Nat.zero_le _⟩ 0 hn (by omega) (by show 0 + n ≤ n; omega) hm (by rw [fresh_per, sumB_nil]; omega) hR).use hs [3, 0, 4, 6] rfl rfl ?_
  rintro _ _ H ⟨rfl, rfl⟩ hs
  simp only [DI_int', DB_bool, DS_string, DP_pointer, DSl_slice, DM_map, DA_agg, DTup_tuple, DCons_cons, DNil_nil, NN_some, BIf_true, BIf_false, BIf_same, List.toList_toArray, Bool.not_true, Bool.not_false]
  refine BIf_bnen rfl ?_
  have W := wrs_wrote (xP n) n 0 (D.fresh (2 * ((n + 3) / 4) + 1) 32) l hokF (by omega)
  have hpl := pcs_len (D.per (D.fresh (2 * ((n + 3) / 4) + 1) 32)) (xP n).f n 0 l.length
  have hcl := List.length_filter_le (fun p : Nat × Nat × Nat => decide (p.2.2 < D.per (D.fresh (2 * ((n + 3) / 4) + 1) 32))) (pcs (D.per (D.fresh (2 * ((n + 3) / 4) + 1) 32)) (xP n).f n 0 l.length)
  have hrd : (wrs (D.fresh (2 * ((n + 3) / 4) + 1) 32) (xP n) n 0 l).rd ≤ n := by
    rw [W.rd]
    exact Nat.le_trans (Nat.add_le_add_left hcl _) (by show 0 + (pcs (D.per (D.fresh (2 * ((n + 3) / 4) + 1) 32)) (xP n).f n 0 l.length).length ≤ _; omega)
  have hwr : (wrs (D.fresh (2 * ((n + 3) / 4) + 1) 32) (xP n) n 0 l).wr ≤ n := by
    rw [W.wr]; show 0 + (pcs (D.per (D.fresh (2 * ((n + 3) / 4) + 1) 32)) (xP n).f n 0 l.length).length ≤ _; omega
  have hM : MadeD (wrs (D.fresh (2 * ((n + 3) / 4) + 1) 32) (xP n) n 0 l) ((n + 3) / 4) n :=
    ⟨W.ok, (W.calm (fresh_calm _)).down, (W.calm (fresh_calm _)).fuse, ⟨by omega, by omega⟩, W.sec, W.size⟩
  have hpw := W.pw
  clear W hcl hpl
  generalize wrs (D.fresh (2 * ((n + 3) / 4) + 1) 32) (xP n) n 0 l = d at *
  refine hs.stf 8 rfl (Nat.lt_of_sub_eq_succ rfl) rfl fun H hs => ?_
  refine hs.stf 8 rfl (Nat.lt_of_sub_eq_succ rfl) rfl fun H hs => ?_
  refine hs.ldw 8 rfl rfl ?_
  refine hs.stw 7 rfl rfl rfl rfl fun H hs => ?_
  refine hs.ldw 7 rfl rfl ?_
  refine ⟨_, ⟨dp, ap, p, q, d, rfl, hM, hrd, hwr, fun j hj => ?_, rfl⟩, hs.re [5, 4, 1, 6, 3] rfl⟩
  rw [hpw j, if_pos ⟨by omega, by omega⟩, Nat.sub_zero]

/-- A pipe's words. -/
theorem Words_tr {dp : Nat} {d : D} (f w : Nat) (hok : Ok d) (hc : Str.Calm d) (hx : On d ⟨f, (w + 3) / 4, w⟩) (hper : D.per d = 4) (ho : d.rd ≤ 100000000) :
    Tr Tryd.prog 26 #[.pointer (some ⟨dp, 0, none⟩), .int .i64 (f : Int), .int .i64 (w : Int)] [Dk dp d] fun v M =>
      ∃ b t, t ≤ w ∧ v = .tuple #[.slice (some ⟨b, 0, none⟩) w w, .bool true] ∧ M = [Dk dp (D.rdN d t), pts b (.row (wordVals (pws d ⟨f, (w + 3) / 4, w⟩ 0 w)) 22 (w * 1))] := fun H hs => by
  have hsec := hok.sec
  have hw1 : 1 ≤ w := hx.w1
  have hfit : f + (w + 3) / 4 ≤ d.sec := hx.fit
  apply W_abacistlaw22_Words.ok
  unfold W_abacistlaw22_Words
  have eL : IntKind.i64.wrap (Int.tdiv (IntKind.i64.wrap ((w : Int) + 3)) 4) = (((w + 3) / 4 : Nat) : Int) := by
    rw [i64w (x := (w : Int) + 3) (by omega) (by omega), show (w : Int) + 3 = ((w + 3 : Nat) : Int) by omega, show Int.tdiv ((w + 3 : Nat) : Int) 4 = (((w + 3) / 4 : Nat) : Int) from rfl, i64n (by omega)]
  simp only [eL]
  refine (Are.New_tr 4 (by omega)).use hs [] rfl rfl ?_
  rintro _ _ H ⟨ap, rfl, rfl⟩ hs
  simp only [DI_int', DB_bool, DS_string, DP_pointer, DSl_slice, DM_map, DA_agg, DTup_tuple, DCons_cons, DNil_nil, NN_some, BIf_true, BIf_false, BIf_same, List.toList_toArray, Bool.not_true, Bool.not_false]
  refine ⟨by decide, by simp, ?_⟩
  refine (New_tr (dp := dp) (ap := ap) hok ⟨f, (w + 3) / 4, w⟩ hx).use hs [1] rfl rfl ?_
  rintro _ _ H ⟨p, rfl, rfl⟩ hs
  simp only [DI_int', DB_bool, DS_string, DP_pointer, DSl_slice, DM_map, DA_agg, DTup_tuple, DCons_cons, DNil_nil, NN_some, BIf_true, BIf_false, BIf_same, List.toList_toArray, Bool.not_true, Bool.not_false]
  refine hs.mks cell_u64 rfl (n := w) (m := w) rfl rfl (Nat.le_refl _) (by omega) (by omega) fun b H hs => ?_
  simp only [DI_int', DB_bool, DS_string, DP_pointer, DSl_slice, DM_map, DA_agg, DTup_tuple, DCons_cons, DNil_nil, NN_some, BIf_true, BIf_false, BIf_same, List.toList_toArray, Bool.not_true, Bool.not_false]
  refine BIf_bnen rfl ?_
  have hs : Sep [Dk dp d, pts p (pipO dp ap ⟨f, (w + 3) / 4, w⟩), Ar ap 4 0 [], pts b (.row (wordVals (List.replicate w 0)) 22 (w * 1))] H := by rw [← zeros_u64]; exact hs
  refine (Read_tr (p := p) (dp := dp) (ap := ap) (d := d) (x := ⟨f, (w + 3) / 4, w⟩) (cap := 4) (bufs := []) (rl := b) (off := 0) (mm := w * 1) (xs := wordVals (List.replicate w 0)) hok hc hx (by omega) 0 w w (by omega) (by show 0 + w ≤ w; omega) (Nat.le_refl _) (by rw [wordVals_length, List.length_replicate]; omega) (by rw [hper, sumB_nil]; omega)).use hs [1, 0, 2, 3] rfl rfl ?_
  rintro _ _ H ⟨rfl, rfl⟩ hs
  simp only [DI_int', DB_bool, DS_string, DP_pointer, DSl_slice, DM_map, DA_agg, DTup_tuple, DCons_cons, DNil_nil, NN_some, BIf_true, BIf_false, BIf_same, List.toList_toArray, Bool.not_true, Bool.not_false]
  refine BIf_bnen rfl ?_
  rw [zeros_set w _ (pws_len _ _ _ _)] at hs
  exact ⟨_, ⟨b, (pcs (D.per d) f w 0 w).length, pcs_len _ _ _ _ _, rfl, rfl⟩, hs.re [1, 3] rfl⟩
end

end Go.Proofs.YtbnhfcdagoigkaaDoor.Trn

end
section
/-! TrnF -/
/- Law 22: a turn of a pair, and the law's first look. -/
set_option maxRecDepth 100000
set_option linter.unusedSimpArgs false
set_option linter.unusedVariables false
set_option linter.unnecessarySimpa false
set_option linter.unusedSectionVars false
namespace Go.Proofs.YtbnhfcdagoigkaaDoor.Trn
open Go Go.Hw Go.Crc Go.Form Go.Proofs.YtbnhfcdagoigkaaDoor.W Go.Proofs.YtbnhfcdagoigkaaDoor.Shp Go.Proofs.YtbnhfcdagoigkaaDoor.Str Go.Proofs.YtbnhfcdagoigkaaDoor.Dsk Go.Proofs.YtbnhfcdagoigkaaDoor.Are

theorem Dead.calm {S : Int → Prop} {d d' : D} (h : Dead S d d') (hf : d.fuse = 0) : False := by
  have h1 := h.cnt; have h2 := h.rd; have h3 := h.wr
  omega

theorem pws_map {d : D} {x : X} {n : Nat} {f : Nat → UInt64} (h : ∀ j, j < n → pw d x j = f j) : pws d x 0 n = (List.range n).map f := by
  unfold pws
  apply List.map_congr_left
  intro j hj
  rw [Nat.zero_add]
  exact h j (List.mem_range.1 hj)
theorem range_get (l : List UInt64) : (List.range l.length).map (fun j => (l[j]?).getD 0) = l := by
  apply List.ext_getElem?
  intro j
  rw [List.getElem?_map]
  by_cases hj : j < l.length
  · rw [List.getElem?_range hj, Option.map_some, List.getElem?_eq_getElem hj]; rfl
  · rw [List.getElem?_eq_none (by simp; omega), List.getElem?_eq_none (by omega)]; rfl

section
variable {p q dp ap : Nat} {x y : X} {cap peak : Int} {TT : As}

end

end Go.Proofs.YtbnhfcdagoigkaaDoor.Trn

end
section
/-! TrnH -/
/- turn.Run where it can't; the reference's Transpose. -/
set_option maxRecDepth 100000
set_option linter.unusedSimpArgs false
set_option linter.unusedVariables false
set_option linter.unnecessarySimpa false
set_option linter.unusedSectionVars false
namespace Go.Proofs.YtbnhfcdagoigkaaDoor.Trn
open Go Go.Hw Go.Crc Go.Form Go.Proofs.YtbnhfcdagoigkaaDoor.W Go.Proofs.YtbnhfcdagoigkaaDoor.Shp Go.Proofs.YtbnhfcdagoigkaaDoor.Str Go.Proofs.YtbnhfcdagoigkaaDoor.Dsk Go.Proofs.YtbnhfcdagoigkaaDoor.Are

section
variable {p q dp ap : Nat} {x y : X} {cap peak : Int} {bufs : List (Nat × Nat × Option Addr)} {L : List As} {H : Hp}

end

/-! ## Transpose -/

/-- The words, column by column. -/
def trL (l : List UInt64) (rows cols : Nat) : List UInt64 := (List.range (rows * cols)).map fun k => (l[k % rows * cols + k / rows]?).getD 0
theorem trL_len (l : List UInt64) (rows cols : Nat) : (trL l rows cols).length = rows * cols := by simp [trL]

end Go.Proofs.YtbnhfcdagoigkaaDoor.Trn

end
section
/-! TrnJ -/
/- turn.Cost: so many reads, so many writes. -/
set_option maxRecDepth 100000
set_option linter.unusedSimpArgs false
set_option linter.unusedVariables false
set_option linter.unnecessarySimpa false
set_option linter.unusedSectionVars false
namespace Go.Proofs.YtbnhfcdagoigkaaDoor.Trn
open Go Go.Hw Go.Crc Go.Form Go.Proofs.YtbnhfcdagoigkaaDoor.W Go.Proofs.YtbnhfcdagoigkaaDoor.Shp Go.Proofs.YtbnhfcdagoigkaaDoor.Str Go.Proofs.YtbnhfcdagoigkaaDoor.Dsk Go.Proofs.YtbnhfcdagoigkaaDoor.Are

theorem pcs_one {per f k fr n : Nat} (hn : 1 ≤ n) (hk : 1 ≤ k) (h : fr % per + n ≤ per) : pcs per f k fr n = [(f + fr / per, fr % per, n)] := by
  obtain ⟨k, rfl⟩ : ∃ k', k = k' + 1 := ⟨k - 1, by omega⟩
  have hc : cN per fr n = n := by unfold cN; split <;> omega
  show (if n = 0 then [] else (f + fr / per, fr % per, cN per fr n) :: pcs per f k (fr + cN per fr n) (n - cN per fr n)) = _
  rw [if_neg (by omega), hc, Nat.sub_self]
  have e : pcs per f k (fr + n) 0 = [] := by cases k <;> simp [pcs]
  rw [e]

theorem pcs_al {per f : Nat} (hp : 0 < per) : ∀ (q k fr : Nat), q * per ≤ k → fr % per = 0 → (pcs per f k fr (q * per)).length = q ∧ ∀ p ∈ pcs per f k fr (q * per), p.2.2 = per
  | 0, k, fr, _, _ => by
    have e : pcs per f k fr (0 * per) = [] := by rw [Nat.zero_mul]; cases k <;> simp [pcs]
    rw [e]; simp
  | q + 1, k, fr, hk, hf => by
    rw [Nat.succ_mul] at hk
    obtain ⟨k, rfl⟩ : ∃ k', k = k' + 1 := ⟨k - 1, by omega⟩
    have hc : cN per fr ((q + 1) * per) = per := by
      unfold cN
      rw [hf, Nat.sub_zero, Nat.succ_mul]
      split
      · rfl
      · omega
    have e : pcs per f (k + 1) fr ((q + 1) * per) = (f + fr / per, fr % per, per) :: pcs per f k (fr + per) (q * per) := by
      show (if (q + 1) * per = 0 then [] else (f + fr / per, fr % per, cN per fr ((q + 1) * per)) :: pcs per f k (fr + cN per fr ((q + 1) * per)) ((q + 1) * per - cN per fr ((q + 1) * per))) = _
      rw [hc, if_neg (by rw [Nat.succ_mul]; omega), Nat.succ_mul, Nat.add_sub_cancel]
    obtain ⟨h1, h2⟩ := pcs_al (f := f) hp q k (fr + per) (by omega) (by rw [Nat.add_mod_right]; exact hf)
    rw [e]
    refine ⟨by rw [List.length_cons, h1], fun p hp' => ?_⟩
    rcases List.mem_cons.1 hp' with rfl | h
    · rfl
    · exact h2 p h

def m1 (q : Nat) : Nat := if 1 < q then q else 1
theorem unit_cnt (j f fr : Nat) (hd : 2 ^ j ∣ fr) : (pcs 4 f (2 ^ j) fr (2 ^ j)).length = m1 (2 ^ j / 4) ∧ pcsR 4 f (2 ^ j) fr (2 ^ j) = if 2 ^ j < 4 then 1 else 0 := by
  match j, hd with
  | 0, _ =>
    have e := pcs_one (per := 4) (f := f) (k := 2 ^ 0) (fr := fr) (n := 2 ^ 0) (by decide) (by decide) (by rw [Nat.pow_zero]; omega)
    unfold pcsR
    rw [e]; exact ⟨rfl, rfl⟩
  | 1, hd =>
    have e := pcs_one (per := 4) (f := f) (k := 2 ^ 1) (fr := fr) (n := 2 ^ 1) (by decide) (by decide) (by
      obtain ⟨t, rfl⟩ := hd
      rw [Nat.pow_one]; omega)
    unfold pcsR
    rw [e]; exact ⟨rfl, rfl⟩
  | j + 2, hd =>
    have e4 : 2 ^ (j + 2) = 2 ^ j * 4 := by rw [Nat.pow_succ, Nat.pow_succ]; omega
    have hj := pow_pos j
    have hf : fr % 4 = 0 := by
      obtain ⟨t, rfl⟩ := hd
      rw [e4, Nat.mul_assoc, Nat.mul_left_comm]
      exact Nat.mul_mod_right 4 _
    obtain ⟨h1, h2⟩ := pcs_al (per := 4) (f := f) (by omega) (2 ^ j) (2 ^ (j + 2)) fr (by rw [e4]; exact Nat.le_refl _) hf
    rw [← e4] at h1 h2
    refine ⟨?_, ?_⟩
    · rw [h1, e4, Nat.mul_div_cancel _ (by omega)]
      unfold m1
      split <;> omega
    · unfold pcsR
      rw [if_neg (by omega), List.length_eq_zero_iff, List.filter_eq_nil_iff]
      intro p hp
      rw [h2 p hp]; simp

theorem gR_is (ea eb j f m : Nat) (hj : j ≤ eb) : ∀ i, gR 4 f (2 ^ eb) (m * 2 ^ j) (2 ^ j) i = i * m1 (2 ^ j / 4)
  | 0 => by simp [gR]
  | i + 1 => by
    rw [gR_succ, gR_is ea eb j f m hj i, Nat.succ_mul, (unit_cnt j f (i * 2 ^ eb + m * 2 ^ j) (Nat.dvd_add (Nat.dvd_mul_left_of_dvd (Nat.pow_dvd_pow 2 hj) i) (Nat.dvd_mul_left _ _))).1]
theorem rT_is (ea eb j f f' : Nat) (hj : j ≤ eb) : ∀ m, rT 4 f f' (2 ^ ea) (2 ^ eb) (2 ^ j) m = m * (2 ^ ea * m1 (2 ^ j / 4)) + (if 2 ^ j * 2 ^ ea < 4 then m else 0)
  | 0 => by simp [rT]
  | m + 1 => by
    rw [rT_succ, rT_is ea eb j f f' hj m, gR_is ea eb j f m hj, Nat.succ_mul]
    have h := (unit_cnt (j + ea) f' (m * 2 ^ (j + ea)) (Nat.dvd_mul_left _ _)).2
    rw [Nat.mul_assoc, ← Nat.pow_add, h]
    split <;> omega
theorem wT_is (ea j f' : Nat) : ∀ m, wT 4 f' (2 ^ ea) (2 ^ j) m = m * m1 (2 ^ j * 2 ^ ea / 4)
  | 0 => by simp [wT]
  | m + 1 => by
    rw [wT_succ, wT_is ea j f' m, Nat.succ_mul]
    have h := (unit_cnt (j + ea) f' (m * 2 ^ (j + ea)) (Nat.dvd_mul_left _ _)).1
    rw [Nat.mul_assoc, ← Nat.pow_add, h]

theorem m1_le {q : Nat} (h : 1 ≤ q) : m1 (q / 4) ≤ q := by unfold m1; split <;> omega
theorem m1_if (q : Nat) : (if ((q : Nat) : Int) > 1 then ((q : Nat) : Int) else 1) = ((m1 q : Nat) : Int) := by
  unfold m1
  split <;> split <;> omega

def opO (r w : Int) : AO := .obj (.cells #[.int .i64 r, .int .i64 w, .int .i64 0] 64)
end Go.Proofs.YtbnhfcdagoigkaaDoor.Trn

end
section
/-! Wabacistlaw23 -/
/- Formulas of functions, printed by wip/tools/hwp.py. -/
set_option maxRecDepth 100000
set_option linter.unusedVariables false
namespace Go.Proofs.YtbnhfcdagoigkaaDoor.W
open Go Go.Hw

theorem mixWabacistlaw23 : Tryd.prog.follows .mixedOrders = true := by kernel_rfl
-- abacistlaw23.PassBack
def W_abacistlaw23_PassBack (A1 : Option Addr) (n1 : Nat) (m1 : Nat) (x1 : Int) (x2 : Int) (x3 : Int) (H : Hp) (K : Value → Hp → Prop) : Prop :=
  Nw H (.obj (.cells #[.int .i64 x1, .int .i64 x2] 44)) fun b1 H1 => HCalls Tryd.prog 20 #[] H1 fun v1 H2 => DB v1 fun c1 => BIf (!c1) (K (.bool false) H2) (BIf (decide (((n1 : Nat) : Int) > (128 : Int))) (K (.bool true) H2) (LdA H2 (⟨b1, 0, none⟩ : Addr) 2 fun l1 => HCalls Tryd.prog 21 #[.agg l1.toArray] H2 fun v2 H3 => DB v2 fun c2 => BIf (!c2) (K (.bool true) H3) (Ld H3 ((⟨b1, 0, none⟩ : Addr).add 0) fun v3 => DI .i64 v3 fun x4 => Ld H3 ((⟨b1, 0, none⟩ : Addr).add 1) fun v4 => DI .i64 v4 fun x5 => BIf ((IntKind.i64.wrap (x4 * x5)) != ((n1 : Nat) : Int)) (K (.bool true) H3) (Ld H3 ((⟨b1, 0, none⟩ : Addr).add 1) fun v5 => DI .i64 v5 fun x6 => ((300 : Int) ≠ 0 ∧ IntKind.i64 = IntKind.i64 ∧ HCalls Tryd.prog 22 #[.slice A1 n1 m1, .int .i64 (IntKind.i64.wrap ((IntKind.i64.wrap ((IntKind.i64.wrap ((2 : Int) * x6)) + (4 : Int))) + (Int.tmod (IntKind.i64.wrap x3) (300 : Int))))] H3 fun v6 H4 => DTup v6 fun l2 => DCons l2 fun v7 l3 => DA v7 fun y1 => DCons l3 fun v8 l4 => DB v8 fun c3 => DNil l4 (Nw H4 (.obj (.cells #[.pointer none, .pointer none, .pointer none, .pointer none] 50)) fun b2 H5 => StA H5 (⟨b2, 0, none⟩ : Addr) y1 4 fun H6 => BIf (!c3) (K (.bool false) H6) (Ld H6 ((⟨b2, 0, none⟩ : Addr).add 2) fun v9 => DP v9 fun p1 => Ld H6 ((⟨b2, 0, none⟩ : Addr).add 3) fun v10 => DP v10 fun p2 => LdA H6 (⟨b1, 0, none⟩ : Addr) 2 fun l5 => DCons l5.toArray.toList fun v11 l6 => DI .i64 v11 fun x7 => DCons l6 fun v12 l7 => DI .i64 v12 fun x8 => DNil l7 (Ld H6 ((⟨b2, 0, none⟩ : Addr).add 1) fun v13 => DP v13 fun p3 => HCalls Tryd.prog 23 #[.pointer p1, .pointer p2, .agg #[.int .i64 x7, .int .i64 x8, .int .i64 (0 : Int), .int .i64 (-1 : Int), .int .u64 (1 : Int)], .pointer p3, .int .i64 (4 : Int)] H6 fun v14 H7 => DTup v14 fun l8 => DCons l8 fun v15 l9 => DI .u32 v15 fun x9 => DCons l9 fun v16 l10 => DI .i64 v16 fun x10 => DNil l10 (Ld H7 ((⟨b2, 0, none⟩ : Addr).add 3) fun v17 => DP v17 fun p4 => Ld H7 ((⟨b2, 0, none⟩ : Addr).add 2) fun v18 => DP v18 fun p5 => LdA H7 (⟨b1, 0, none⟩ : Addr) 2 fun l11 => Ld H7 ((⟨b1, 0, none⟩ : Addr).add 1) fun v19 => DI .i64 v19 fun x11 => QCall Tryd.prog 25 #[.int .i64 x11] H7 fun v20 => DI .i64 v20 fun x12 => QCall Tryd.prog 24 #[.int .i64 x12] H7 fun v21 => DI .u64 v21 fun x13 => DCons l11.toArray.toList fun v22 l12 => DI .i64 v22 fun x14 => DCons l12 fun v23 l13 => DI .i64 v23 fun x15 => DNil l13 (Ld H7 ((⟨b2, 0, none⟩ : Addr).add 1) fun v24 => DP v24 fun p6 => HCalls Tryd.prog 23 #[.pointer p4, .pointer p5, .agg #[.int .i64 x14, .int .i64 x15, .int .i64 (1 : Int), .int .i64 (-1 : Int), .int .u64 x13], .pointer p6, .int .i64 (4 : Int)] H7 fun v25 H8 => DTup v25 fun l14 => DCons l14 fun v26 l15 => DI .u32 v26 fun x16 => DCons l15 fun v27 l16 => DI .i64 v27 fun x17 => DNil l16 (Ld H8 ((⟨b2, 0, none⟩ : Addr).add 0) fun v28 => DP v28 fun p7 => HCalls Tryd.prog 26 #[.pointer p7, .int .i64 (1 : Int), .int .i64 ((n1 : Nat) : Int)] H8 fun v29 H9 => DTup v29 fun l17 => DCons l17 fun v30 l18 => DSl v30 fun A2 n2 m2 => DCons l18 fun v31 l19 => DB v31 fun c4 => DNil l19 (BIf (x10 == (0 : Int)) (BIf (x17 == (0 : Int)) (BIf c4 (HCalls Tryd.prog 28 #[.slice A1 n1 m1] H9 fun v32 H10 => DSl v32 fun A3 n3 m3 => HCalls Tryd.prog 27 #[.slice A2 n2 m2, .slice A3 n3 m3] H10 fun v33 H11 => DB v33 fun c5 => K (.bool c5) H11) (K (.bool false) H9)) (K (.bool false) H9)) (K (.bool false) H9)))))))))))))
def W_abacistlaw23_PassBack.Λ (_ : Value → Hp → Prop) : Cuts := Cuts.none (fun i => match Nat.beq i 9 with | true => some ([1, 3, 4, 6, 7, 8, 11], [], 0) | false => none)
theorem W_abacistlaw23_PassBack.ok (A1 : Option Addr) (n1 : Nat) (m1 : Nat) (x1 : Int) (x2 : Int) (x3 : Int) (H : Hp) (K : Value → Hp → Prop) (h : W_abacistlaw23_PassBack A1 n1 m1 x1 x2 x3 H K) : HCalls Tryd.prog 5 #[.slice A1 n1 m1, .agg #[.int .i64 x1, .int .i64 x2], .int .u16 x3] H K :=
  hcalls Tryd.func5 rfl (Nat.le_of_ble_eq_true rfl) (hw_safe (Λ := Cuts.none (fun i => match Nat.beq i 9 with | true => some ([1, 3, 4, 6, 7, 8, 11], [], 0) | false => none)) mixWabacistlaw23 _ _ _ _ _ (Eq.mp (by kernel_rfl) h) (obs_none _ _ _ _ _))

-- abacistlaw23.PassCosts
def W_abacistlaw23_PassCosts.j10 (K : Value → Hp → Prop) (a1 : Addr) (x12 : Int) (a2 : Addr) (H : Hp) : Prop :=
  Ld H (a1.add 0) fun v15 => DI .i64 v15 fun x13 => BIf (decide (x13 > (256 : Int))) (K (.bool true) H) (Ld H (a1.add 1) fun v16 => DI .i64 v16 fun x14 => Ld H (a1.add 0) fun v17 => DI .i64 v17 fun x15 => (x15 ≠ 0 ∧ IntKind.i64 = IntKind.i64 ∧ BIf (decide (x14 > (IntKind.i64.wrap (Int.tdiv (256 : Int) x15)))) (K (.bool true) H) (Ld H (a1.add 0) fun v18 => DI .i64 v18 fun x16 => Ld H (a1.add 1) fun v19 => DI .i64 v19 fun x17 => MkS Tryd.prog 22 (IntKind.i64.wrap (x16 * x17)) (IntKind.i64.wrap (x16 * x17)) H fun v20 H8 => DSl v20 fun A1 n1 m1 => HCalls Tryd.prog 22 #[.slice A1 n1 m1, .int .i64 x12] H8 fun v21 H9 => DTup v21 fun l13 => DCons l13 fun v22 l14 => DA v22 fun y2 => DCons l14 fun v23 l15 => DB v23 fun c7 => DNil l15 (Nw H9 (.obj (.cells #[.pointer none, .pointer none, .pointer none, .pointer none] 50)) fun b3 H10 => StA H10 (⟨b3, 0, none⟩ : Addr) y2 4 fun H11 => BIf (!c7) (K (.bool false) H11) (Ld H11 ((⟨b3, 0, none⟩ : Addr).add 0) fun v24 => DP v24 fun p1 => NN p1 fun a3 => HCalls Tryd.prog 31 #[.pointer (some (a3.add 3))] H11 fun v25 H12 => DA v25 fun y3 => Nw H12 (.obj (.cells #[.int .i64 (0 : Int), .int .i64 (0 : Int), .int .i64 (0 : Int)] 64)) fun b4 H13 => StA H13 (⟨b4, 0, none⟩ : Addr) y3 3 fun H14 => Ld H14 ((⟨b3, 0, none⟩ : Addr).add 2) fun v26 => DP v26 fun p2 => Ld H14 ((⟨b3, 0, none⟩ : Addr).add 3) fun v27 => DP v27 fun p3 => LdA H14 a1 2 fun l16 => DCons l16.toArray.toList fun v28 l17 => DI .i64 v28 fun x18 => DCons l17 fun v29 l18 => DI .i64 v29 fun x19 => DNil l18 (Ld H14 ((⟨b3, 0, none⟩ : Addr).add 1) fun v30 => DP v30 fun p4 => HCalls Tryd.prog 23 #[.pointer p2, .pointer p3, .agg #[.int .i64 x18, .int .i64 x19, .int .i64 (0 : Int), .int .i64 (-1 : Int), .int .u64 (1 : Int)], .pointer p4, .int .i64 (4 : Int)] H14 fun v31 H15 => DTup v31 fun l19 => DCons l19 fun v32 l20 => DI .u32 v32 fun x20 => DCons l20 fun v33 l21 => DI .i64 v33 fun x21 => DNil l21 (BIf (x21 != (0 : Int)) (K (.bool false) H15) (Ld H15 ((⟨b3, 0, none⟩ : Addr).add 0) fun v34 => DP v34 fun p5 => NN p5 fun a4 => HCalls Tryd.prog 31 #[.pointer (some (a4.add 3))] H15 fun v35 H16 => DA v35 fun y4 => Nw H16 (.obj (.cells #[.int .i64 (0 : Int), .int .i64 (0 : Int), .int .i64 (0 : Int)] 64)) fun b5 H17 => StA H17 (⟨b5, 0, none⟩ : Addr) y4 3 fun H18 => Ld H18 ((⟨b5, 0, none⟩ : Addr).add 0) fun v36 => DI .i64 v36 fun x22 => Ld H18 ((⟨b4, 0, none⟩ : Addr).add 0) fun v37 => DI .i64 v37 fun x23 => Ld H18 (a2.add 0) fun v38 => DI .i64 v38 fun x24 => BIf ((IntKind.i64.wrap (x22 - x23)) == x24) (Ld H18 ((⟨b5, 0, none⟩ : Addr).add 1) fun v39 => DI .i64 v39 fun x25 => Ld H18 ((⟨b4, 0, none⟩ : Addr).add 1) fun v40 => DI .i64 v40 fun x26 => Ld H18 (a2.add 1) fun v41 => DI .i64 v41 fun x27 => BIf ((IntKind.i64.wrap (x25 - x26)) == x27) (Ld H18 ((⟨b5, 0, none⟩ : Addr).add 2) fun v42 => DI .i64 v42 fun x28 => Ld H18 ((⟨b4, 0, none⟩ : Addr).add 2) fun v43 => DI .i64 v43 fun x29 => K (.bool (x28 == x29)) H18) (K (.bool false) H18)) (K (.bool false) H18)))))))))
def W_abacistlaw23_PassCosts (x1 : Int) (x2 : Int) (x3 : Int) (H : Hp) (K : Value → Hp → Prop) : Prop :=
  Nw H (.obj (.cells #[.int .i64 x1, .int .i64 x2] 44)) fun b1 H1 => HCalls Tryd.prog 20 #[] H1 fun v1 H2 => DB v1 fun c1 => BIf (!c1) (K (.bool false) H2) (((600 : Int) ≠ 0 ∧ IntKind.i64 = IntKind.i64 ∧ LdA H2 (⟨b1, 0, none⟩ : Addr) 2 fun l1 => HCalls Tryd.prog 29 #[.agg l1.toArray, .int .i64 (4 : Int), .int .i64 (IntKind.i64.wrap ((1 : Int) + (Int.tmod (IntKind.i64.wrap x3) (600 : Int))))] H2 fun v2 H3 => DTup v2 fun l2 => DCons l2 fun v3 l3 => DA v3 fun y1 => DCons l3 fun v4 l4 => DI .i64 v4 fun x4 => DNil l4 (Nw H3 (.obj (.cells #[.int .i64 (0 : Int), .int .i64 (0 : Int), .int .i64 (0 : Int)] 64)) fun b2 H4 => StA H4 (⟨b2, 0, none⟩ : Addr) y1 3 fun H5 => LdA H5 (⟨b1, 0, none⟩ : Addr) 2 fun l5 => HCalls Tryd.prog 30 #[.agg l5.toArray, .int .i64 (4 : Int), .int .i64 (IntKind.i64.wrap ((1 : Int) + (Int.tmod (IntKind.i64.wrap x3) (600 : Int))))] H5 fun v5 H6 => DTup v5 fun l6 => DCons l6 fun v6 l7 => DI .i64 v6 fun x5 => DCons l7 fun v7 l8 => DB v7 fun c2 => DNil l8 (LdA H6 (⟨b1, 0, none⟩ : Addr) 2 fun l9 => HCalls Tryd.prog 21 #[.agg l9.toArray] H6 fun v8 H7 => DB v8 fun c3 => BIf (!c3) (BIf (x4 == (6 : Int)) (LdA H7 (⟨b2, 0, none⟩ : Addr) 3 fun l10 => EqV Tryd.prog .eql 64 (.agg l10.toArray) (.agg #[.int .i64 (0 : Int), .int .i64 (0 : Int), .int .i64 (0 : Int)]) fun c4 => BIf c4 (BIf (!c2) (K (.bool (x5 == (0 : Int))) H7) (K (.bool false) H7)) (K (.bool false) H7)) (K (.bool false) H7)) (Ld H7 ((⟨b1, 0, none⟩ : Addr).add 1) fun v9 => DI .i64 v9 fun x6 => BIf (decide (x6 > (1048576 : Int))) (BIf (x4 == (6 : Int)) (LdA H7 (⟨b2, 0, none⟩ : Addr) 3 fun l11 => EqV Tryd.prog .eql 64 (.agg l11.toArray) (.agg #[.int .i64 (0 : Int), .int .i64 (0 : Int), .int .i64 (0 : Int)]) fun c5 => BIf c5 (BIf (!c2) (K (.bool (x5 == (0 : Int))) H7) (K (.bool false) H7)) (K (.bool false) H7)) (K (.bool false) H7)) (Ld H7 ((⟨b1, 0, none⟩ : Addr).add 1) fun v10 => DI .i64 v10 fun x7 => BIf (decide ((IntKind.i64.wrap ((IntKind.i64.wrap ((1 : Int) + (Int.tmod (IntKind.i64.wrap x3) (600 : Int)))) - (4 : Int))) < (IntKind.i64.wrap ((2 : Int) * x7)))) (BIf (x4 == (6 : Int)) (LdA H7 (⟨b2, 0, none⟩ : Addr) 3 fun l12 => EqV Tryd.prog .eql 64 (.agg l12.toArray) (.agg #[.int .i64 (0 : Int), .int .i64 (0 : Int), .int .i64 (0 : Int)]) fun c6 => BIf c6 (BIf (!c2) (K (.bool (x5 == (0 : Int))) H7) (K (.bool false) H7)) (K (.bool false) H7)) (K (.bool false) H7)) (BIf (!c2) (K (.bool false) H7) (BIf (x4 != (0 : Int)) (K (.bool false) H7) (BIf (decide (x5 < (1 : Int))) (K (.bool false) H7) (Ld H7 ((⟨b1, 0, none⟩ : Addr).add 0) fun v11 => DI .i64 v11 fun x8 => BIf (decide (x5 > x8)) (K (.bool false) H7) (BIf ((bAnd .i64 x5 (IntKind.i64.wrap (x5 - (1 : Int)))) != (0 : Int)) (K (.bool false) H7) (Ld H7 ((⟨b1, 0, none⟩ : Addr).add 1) fun v12 => DI .i64 v12 fun x9 => (x9 ≠ 0 ∧ IntKind.i64 = IntKind.i64 ∧ BIf (decide ((IntKind.i64.wrap (x5 + (1 : Int))) > (IntKind.i64.wrap (Int.tdiv (IntKind.i64.wrap ((IntKind.i64.wrap ((1 : Int) + (Int.tmod (IntKind.i64.wrap x3) (600 : Int)))) - (4 : Int))) x9)))) (K (.bool false) H7) (Ld H7 ((⟨b1, 0, none⟩ : Addr).add 0) fun v13 => DI .i64 v13 fun x10 => BIf (decide (x5 < x10)) (Ld H7 ((⟨b1, 0, none⟩ : Addr).add 1) fun v14 => DI .i64 v14 fun x11 => (x11 ≠ 0 ∧ IntKind.i64 = IntKind.i64 ∧ BIf (decide ((IntKind.i64.wrap ((IntKind.i64.wrap ((2 : Int) * x5)) + (1 : Int))) ≤ (IntKind.i64.wrap (Int.tdiv (IntKind.i64.wrap ((IntKind.i64.wrap ((1 : Int) + (Int.tmod (IntKind.i64.wrap x3) (600 : Int)))) - (4 : Int))) x11)))) (K (.bool false) H7) (W_abacistlaw23_PassCosts.j10 K (⟨b1, 0, none⟩ : Addr) (IntKind.i64.wrap ((1 : Int) + (Int.tmod (IntKind.i64.wrap x3) (600 : Int)))) (⟨b2, 0, none⟩ : Addr) H7))) (W_abacistlaw23_PassCosts.j10 K (⟨b1, 0, none⟩ : Addr) (IntKind.i64.wrap ((1 : Int) + (Int.tmod (IntKind.i64.wrap x3) (600 : Int)))) (⟨b2, 0, none⟩ : Addr) H7)))))))))))))))
def W_abacistlaw23_PassCosts.Λ (K : Value → Hp → Prop) : Cuts := ⟨fun i => match Nat.beq i 10 with | true => some (fun E D H => DG (E.get? 2) fun w2 => DP w2 fun pw2 => NN pw2 fun a1 => DG (E.get? 5) fun w5 => DI .i64 w5 fun x12 => DG (E.get? 6) fun w6 => DP w6 fun pw6 => NN pw6 fun a2 => DNilD D (W_abacistlaw23_PassCosts.j10 K a1 x12 a2 H)) | false => none, fun i => none, (fun _ => none)⟩
theorem W_abacistlaw23_PassCosts.ok (x1 : Int) (x2 : Int) (x3 : Int) (H : Hp) (K : Value → Hp → Prop) (h : W_abacistlaw23_PassCosts x1 x2 x3 H K) : HCalls Tryd.prog 6 #[.agg #[.int .i64 x1, .int .i64 x2], .int .u16 x3] H K :=
  hcalls Tryd.func6 rfl (Nat.le_of_ble_eq_true rfl) (hw_safe (Λ := (W_abacistlaw23_PassCosts.Λ K)) mixWabacistlaw23 _ _ _ _ _ (Eq.mp (by kernel_rfl) h) (obs_seq obs_region rfl (obs_seq (obs_seq obs_region rfl (obs_cond (obs_seq obs_region rfl obs_ret) obs_skip)) rfl (obs_seq obs_region rfl (obs_seq obs_region rfl (obs_seq obs_region rfl (obs_seq (obs_seq obs_region rfl (obs_cond (obs_seq obs_region rfl obs_ret) obs_skip)) rfl (obs_seqc (obs_seq obs_region rfl (obs_cond (obs_seq obs_region rfl obs_ret) obs_skip)) rfl (fun E D H h => by
      obtain ⟨w2, e2, g1⟩ := DG.out h
      obtain ⟨pw2, rfl, g2⟩ := DP.out g1
      obtain ⟨a1, rfl, g3⟩ := NN.out g2
      obtain ⟨w5, e5, g4⟩ := DG.out g3
      obtain ⟨x12, rfl, g5⟩ := DI.out g4
      obtain ⟨w6, e6, g6⟩ := DG.out g5
      obtain ⟨pw6, rfl, g7⟩ := DP.out g6
      obtain ⟨a2, rfl, g8⟩ := NN.out g7
      obtain ⟨rfl, h'⟩ := DNilD.out g8
      exact (hw_safe (Λ := (W_abacistlaw23_PassCosts.Λ K)) mixWabacistlaw23 _ _ [(2, .pointer (some a1)), (5, .int .i64 x12), (6, .pointer (some a2))] [] H (Eq.mp (by kernel_rfl) h') (obs_seq (obs_seq obs_region rfl (obs_cond (obs_seq obs_region rfl obs_ret) obs_skip)) rfl (obs_seq obs_region rfl (obs_seq (obs_seq obs_region rfl (obs_cond (obs_seq obs_region rfl obs_ret) obs_skip)) rfl (obs_seq obs_region rfl (obs_seq (obs_seq obs_region rfl (obs_seq obs_region rfl (obs_cond (obs_seq obs_region rfl obs_ret) obs_skip))) rfl (obs_seq obs_region rfl (obs_seq obs_region rfl obs_ret)))))))).weaken (EnvLe.cons e2 (EnvLe.cons e5 (EnvLe.cons e6 (EnvLe.nil _)))) (Hp.le_refl _))))))))))

-- abacistlaw23.awake
def W_abacistlaw23_awake (H : Hp) (K : Value → Hp → Prop) : Prop :=
  Nw H (.row [.int .u64 (1 : Int), .int .u64 (0 : Int), .int .u64 (0 : Int), .int .u64 (0 : Int)] 22 4) fun b1 H1 => HCalls Tryd.prog 22 #[.slice (some ⟨b1, 0, none⟩) 4 4, .int .i64 (40 : Int)] H1 fun v1 H2 => DTup v1 fun l1 => DCons l1 fun v2 l2 => DA v2 fun y1 => DCons l2 fun v3 l3 => DB v3 fun c1 => DNil l3 (Nw H2 (.obj (.cells #[.pointer none, .pointer none, .pointer none, .pointer none] 50)) fun b2 H3 => StA H3 (⟨b2, 0, none⟩ : Addr) y1 4 fun H4 => BIf (!c1) (K (.bool false) H4) (Ld H4 ((⟨b2, 0, none⟩ : Addr).add 2) fun v4 => DP v4 fun p1 => Ld H4 ((⟨b2, 0, none⟩ : Addr).add 3) fun v5 => DP v5 fun p2 => Ld H4 ((⟨b2, 0, none⟩ : Addr).add 1) fun v6 => DP v6 fun p3 => HCalls Tryd.prog 23 #[.pointer p1, .pointer p2, .agg #[.int .i64 (1 : Int), .int .i64 (4 : Int), .int .i64 (0 : Int), .int .i64 (-1 : Int), .int .u64 (3 : Int)], .pointer p3, .int .i64 (4 : Int)] H4 fun v7 H5 => DTup v7 fun l4 => DCons l4 fun v8 l5 => DI .u32 v8 fun x1 => DCons l5 fun v9 l6 => DI .i64 v9 fun x2 => DNil l6 (Ld H5 ((⟨b2, 0, none⟩ : Addr).add 0) fun v10 => DP v10 fun p4 => HCalls Tryd.prog 26 #[.pointer p4, .int .i64 (2 : Int), .int .i64 (4 : Int)] H5 fun v11 H6 => DTup v11 fun l7 => DCons l7 fun v12 l8 => DSl v12 fun A1 n1 m1 => DCons l8 fun v13 l9 => DB v13 fun c2 => DNil l9 (BIf (x2 == (0 : Int)) (BIf c2 (Nw H6 (.row [.int .u64 (3 : Int), .int .u64 (3 : Int), .int .u64 (3 : Int), .int .u64 (3 : Int)] 22 4) fun b3 H7 => HCalls Tryd.prog 27 #[.slice A1 n1 m1, .slice (some ⟨b3, 0, none⟩) 4 4] H7 fun v14 H8 => DB v14 fun c3 => K (.bool c3) H8) (K (.bool false) H6)) (K (.bool false) H6)))))
def W_abacistlaw23_awake.Λ (_ : Value → Hp → Prop) : Cuts := Cuts.none (fun _ => none)
theorem W_abacistlaw23_awake.ok (H : Hp) (K : Value → Hp → Prop) (h : W_abacistlaw23_awake H K) : HCalls Tryd.prog 20 #[] H K :=
  hcalls Tryd.func20 rfl (Nat.le_of_ble_eq_true rfl) (hw_safe (Λ := Cuts.none (fun _ => none)) mixWabacistlaw23 _ _ _ _ _ (Eq.mp (by kernel_rfl) h) (obs_none _ _ _ _ _))

end Go.Proofs.YtbnhfcdagoigkaaDoor.W

end
section
/-! PasF -/
/- pass: Cost; a pass of a pair; the law's first look. -/
set_option maxRecDepth 100000
set_option linter.unusedSimpArgs false
set_option linter.unusedVariables false
set_option linter.unnecessarySimpa false
set_option linter.unusedSectionVars false
namespace Go.Proofs.YtbnhfcdagoigkaaDoor.Pas
open Go Go.Hw Go.Crc Go.Form Go.Proofs.YtbnhfcdagoigkaaDoor.W Go.Proofs.YtbnhfcdagoigkaaDoor.Shp Go.Proofs.YtbnhfcdagoigkaaDoor.Gol Go.Proofs.YtbnhfcdagoigkaaDoor.Fft Go.Proofs.YtbnhfcdagoigkaaDoor.Ker Go.Proofs.YtbnhfcdagoigkaaDoor.Str Go.Proofs.YtbnhfcdagoigkaaDoor.Dsk Go.Proofs.YtbnhfcdagoigkaaDoor.Are Go.Proofs.YtbnhfcdagoigkaaDoor.Trn

/-- The sectors of a part of a power of two, at a place that it divides. -/
theorem part_cnt (e j f fr : Nat) (hd : 2 ^ j ∣ fr) : (pcs (2 ^ e) f (2 ^ j) fr (2 ^ j)).length = m1 (2 ^ j / 2 ^ e) ∧ pcsR (2 ^ e) f (2 ^ j) fr (2 ^ j) = if 2 ^ j < 2 ^ e then 1 else 0 := by
  have hj := pow_pos j
  have he := pow_pos e
  by_cases h : j < e
  · have hlt : 2 ^ j < 2 ^ e := Nat.pow_lt_pow_right (by omega) h
    have hfit : fr % 2 ^ e + 2 ^ j ≤ 2 ^ e := by
      obtain ⟨t, rfl⟩ := hd
      have e1 : 2 ^ e = 2 ^ j * 2 ^ (e - j) := by rw [← Nat.pow_add]; congr 1; omega
      rw [e1, Nat.mul_mod_mul_left]
      have h1 := Nat.mod_lt t (pow_pos (e - j))
      have h2 : 2 ^ j * (t % 2 ^ (e - j) + 1) ≤ 2 ^ j * 2 ^ (e - j) := Nat.mul_le_mul_left _ h1
      rw [Nat.mul_add, Nat.mul_one] at h2
      exact h2
    have e1 := pcs_one (per := 2 ^ e) (f := f) (k := 2 ^ j) (fr := fr) (n := 2 ^ j) hj hj hfit
    unfold pcsR
    rw [e1, if_pos hlt, Nat.div_eq_of_lt hlt]
    refine ⟨rfl, ?_⟩
    simp [hlt]
  · have e4 : 2 ^ j = 2 ^ (j - e) * 2 ^ e := by rw [← Nat.pow_add]; congr 1; omega
    have hjm := pow_pos (j - e)
    have hf : fr % 2 ^ e = 0 := by
      obtain ⟨t, rfl⟩ := hd
      rw [e4, Nat.mul_right_comm]
      exact Nat.mul_mod_left _ _
    obtain ⟨h1, h2⟩ := pcs_al (per := 2 ^ e) (f := f) (by omega) (2 ^ (j - e)) (2 ^ j) fr (by rw [← e4]; exact Nat.le_refl _) hf
    rw [← e4] at h1 h2
    have hle := pow_le (show e ≤ j by omega)
    refine ⟨?_, ?_⟩
    · rw [h1]
      have : 2 ^ j / 2 ^ e = 2 ^ (j - e) := by rw [e4, Nat.mul_div_cancel _ (by omega)]
      rw [this]
      unfold m1
      split <;> omega
    · unfold pcsR
      rw [if_neg (by omega), List.length_eq_zero_iff, List.filter_eq_nil_iff]
      intro p hp
      rw [h2 p hp]; simp

theorem rP_is (e f f' n : Nat) : ∀ m, rP (2 ^ e) f f' (2 ^ n) m = m * m1 (2 ^ n / 2 ^ e) + (if 2 ^ n < 2 ^ e then m else 0)
  | 0 => by simp [rP]
  | m + 1 => by
    rw [rP_succ, rP_is e f f' n m, (part_cnt e n f (m * 2 ^ n) (Nat.dvd_mul_left _ _)).1, (part_cnt e n f' (m * 2 ^ n) (Nat.dvd_mul_left _ _)).2, Nat.succ_mul]
    split <;> omega
theorem wP_is (e f' n : Nat) : ∀ m, wP (2 ^ e) f' (2 ^ n) m = m * m1 (2 ^ n / 2 ^ e)
  | 0 => by simp [wP]
  | m + 1 => by
    rw [wP_succ, wP_is e f' n m, (part_cnt e n f' (m * 2 ^ n) (Nat.dvd_mul_left _ _)).1, Nat.succ_mul]

theorem m1_le' {q p : Nat} (h : 1 ≤ q) (hp : 1 ≤ p) : m1 (q / p) ≤ q := by
  have := Nat.div_le_self q p
  unfold m1; split <;> omega
theorem m1_if' (q : Nat) : (if ((q : Nat) : Int) > 1 then ((q : Nat) : Int) else 1) = ((m1 q : Nat) : Int) := by
  unfold m1
  split <;> split <;> omega

def opsV (r w : Int) : Array Value := #[.int .i64 r, .int .i64 w, .int .i64 0]
theorem Cost_no (r c per free : Int) (hper : -9223372036854775808 ≤ per ∧ per ≤ 9223372036854775807) (hf : free ≤ 9223372036854775807) (H : Hp) (hT : T64 H) (hn : ¬ batC r c per free) :
    HCalls Tryd.prog 29 #[.agg #[.int .i64 r, .int .i64 c], .int .i64 per, .int .i64 free] H (RetE (.tuple #[.agg (opsV 0 0), .int .i64 6]) H) := HCalls.ret (by
  apply W_pass_Cost.ok
  unfold W_pass_Cost
  refine (Sep.start H).nw fun b1 H1 hs => ?_
  refine hs.nw fun b2 H1 hs => ?_
  refine hs.ldw 1 rfl rfl ?_
  refine HCalls.use (Batch_no r c per free hper hf H1 (hT.le (hs.ow 0 rfl)) hn) ?_
  simp only [DI_int', DB_bool, DS_string, DP_pointer, DSl_slice, DM_map, DA_agg, DTup_tuple, DCons_cons, DNil_nil, NN_some, BIf_true, BIf_false, BIf_same, List.toList_toArray, Bool.not_true, Bool.not_false]
  refine hs.stw 2 rfl rfl rfl rfl fun H1 hs => ?_
  refine hs.ldw 2 rfl rfl ?_
  exact hs.fin 0 rfl _)

/-- What a pass costs. -/
def cR (per n m : Nat) : Nat := m * m1 (n / per) + (if n < per then m else 0)
def cW (per n m : Nat) : Nat := m * m1 (n / per)
theorem Cost_is {ea eb jb : Nat} {per : Nat} {free : Int} (hab : ea + eb ≤ 32) (hp : 4 ≤ per ∧ per ≤ 512) (hf : free ≤ 9223372036854775807) (h : batC ((2 ^ ea : Nat) : Int) ((2 ^ eb : Nat) : Int) (per : Int) free) (hj : BatIs ea ((free - per).toNat / 2 ^ eb) jb) (H : Hp) (hT : T64 H) :
    HCalls Tryd.prog 29 #[.agg #[.int .i64 ((2 ^ ea : Nat) : Int), .int .i64 ((2 ^ eb : Nat) : Int)], .int .i64 (per : Int), .int .i64 free] H
      (RetE (.tuple #[.agg (opsV ((cR per (2 ^ jb * 2 ^ eb) (2 ^ ea / 2 ^ jb) : Nat) : Int) ((cW per (2 ^ jb * 2 ^ eb) (2 ^ ea / 2 ^ jb) : Nat) : Int)), .int .i64 0]) H) := HCalls.ret (by
  have q1 := pow_pos ea
  have q2 := pow_pos eb
  have q3 := pow_pos jb
  have hjb := hj.le
  have hsz := size_le hab
  have hdiv := div_pow hjb
  have hN : 2 ^ ea / 2 ^ jb ≤ 2 ^ ea := Nat.div_le_self _ _
  have hN4 : 2 ^ ea / 2 ^ jb * (2 ^ jb * 2 ^ eb) ≤ 4294967296 := by rw [← Nat.mul_assoc, ← hdiv]; exact hsz
  have q5 : 2 ^ ea ≤ 2 ^ 32 := pow_le (by omega)
  have hbr : 2 ^ jb * 2 ^ eb ≤ 2 ^ ea * 2 ^ eb := Nat.mul_le_mul_right _ (pow_le hjb)
  have l2 : 2 ^ ea / 2 ^ jb * m1 (2 ^ jb * 2 ^ eb / per) ≤ 4294967296 := Nat.le_trans (Nat.mul_le_mul_left _ (m1_le' (Nat.mul_pos q3 q2) (by omega))) hN4
  have hdl := Nat.div_le_self (2 ^ jb * 2 ^ eb) per
  apply W_pass_Cost.ok
  unfold W_pass_Cost
  refine (Sep.start H).nw fun b1 H1 hs => ?_
  refine hs.nw fun b2 H1 hs => ?_
  refine hs.ldw 1 rfl rfl ?_
  refine HCalls.use (Batch_is (per : Int) free ⟨by omega, by omega⟩ hf H1 (hT.le (hs.ow 0 rfl)) hab h hj) ?_
  simp only [DI_int', DB_bool, DS_string, DP_pointer, DSl_slice, DM_map, DA_agg, DTup_tuple, DCons_cons, DNil_nil, NN_some, BIf_true, BIf_false, BIf_same, List.toList_toArray, Bool.not_true, Bool.not_false]
  rw [show (⟨b1, 0, none⟩ : Addr).add 0 = ⟨b1, 0, none⟩ from rfl]
  refine hs.ld 1 rfl rfl ?_
  simp only [DI_int', DB_bool, DS_string, DP_pointer, DSl_slice, DM_map, DA_agg, DTup_tuple, DCons_cons, DNil_nil, NN_some, BIf_true, BIf_false, BIf_same, List.toList_toArray, Bool.not_true, Bool.not_false]
  refine ⟨by omega, by simp, ?_⟩
  refine hs.ldf 1 rfl rfl ?_
  simp only [DI_int', DB_bool, DS_string, DP_pointer, DSl_slice, DM_map, DA_agg, DTup_tuple, DCons_cons, DNil_nil, NN_some, BIf_true, BIf_false, BIf_same, List.toList_toArray, Bool.not_true, Bool.not_false]
  refine ⟨by omega, by simp, hs.nw fun b3 H1 hs => ?_⟩
  have eA : IntKind.i64.wrap (Int.tdiv ((2 ^ ea : Nat) : Int) ((2 ^ jb : Nat) : Int)) = ((2 ^ ea / 2 ^ jb : Nat) : Int) := by
    rw [show Int.tdiv ((2 ^ ea : Nat) : Int) ((2 ^ jb : Nat) : Int) = ((2 ^ ea / 2 ^ jb : Nat) : Int) from rfl, i64n (by omega)]
  have eB : IntKind.i64.wrap (((2 ^ jb : Nat) : Int) * ((2 ^ eb : Nat) : Int)) = ((2 ^ jb * 2 ^ eb : Nat) : Int) := by rw [← Int.natCast_mul, i64n (by omega)]
  have eC : IntKind.i64.wrap (Int.tdiv ((2 ^ jb * 2 ^ eb : Nat) : Int) (per : Int)) = ((2 ^ jb * 2 ^ eb / per : Nat) : Int) := by
    rw [show Int.tdiv ((2 ^ jb * 2 ^ eb : Nat) : Int) (per : Int) = ((2 ^ jb * 2 ^ eb / per : Nat) : Int) from rfl, i64n (by omega)]
  have eW : IntKind.i64.wrap (((2 ^ ea / 2 ^ jb : Nat) : Int) * ((m1 (2 ^ jb * 2 ^ eb / per) : Nat) : Int)) = ((2 ^ ea / 2 ^ jb * m1 (2 ^ jb * 2 ^ eb / per) : Nat) : Int) := by
    rw [← Int.natCast_mul, i64n (by omega)]
  simp only [eA, eB, eC, m1_if', eW]
  refine hs.stw 3 rfl rfl rfl rfl fun H1 hs => ?_
  refine hs.ldf 1 rfl rfl ?_
  simp only [DI_int', DB_bool, DS_string, DP_pointer, DSl_slice, DM_map, DA_agg, DTup_tuple, DCons_cons, DNil_nil, NN_some, BIf_true, BIf_false, BIf_same, List.toList_toArray, Bool.not_true, Bool.not_false]
  rw [eB]
  unfold cR cW
  by_cases h4 : 2 ^ jb * 2 ^ eb < per
  · refine BIf_dpos (by omega) ?_
    rw [if_pos h4]
    simp only [Addr.add_zero]
    refine hs.ld 3 rfl rfl ?_
    simp only [DI_int', DB_bool, DS_string, DP_pointer, DSl_slice, DM_map, DA_agg, DTup_tuple, DCons_cons, DNil_nil, NN_some, BIf_true, BIf_false, BIf_same, List.toList_toArray, Bool.not_true, Bool.not_false]
    rw [← Int.natCast_add, i64n (by omega)]
    refine hs.st 3 rfl (Nat.lt_of_sub_eq_succ rfl) rfl fun H hs => ?_
    refine hs.ldw 3 rfl rfl ?_
    refine hs.stw 2 rfl rfl rfl rfl fun H1 hs => ?_
    refine hs.ldw 2 rfl rfl ?_
    exact hs.fin 0 rfl _
  · refine BIf_dneg (by omega) ?_
    rw [if_neg h4, Nat.add_zero]
    refine hs.ldw 3 rfl rfl ?_
    refine hs.stw 2 rfl rfl rfl rfl fun H1 hs => ?_
    refine hs.ldw 2 rfl rfl ?_
    exact hs.fin 0 rfl _)

section
variable {p q dp ap : Nat} {x y : X} {cap peak : Int} {TT : As} {j : J}

theorem RunM_tr {d : D} {n jb : Nat} (hT : ∀ H, TT H → T64 H) (hM : MadeD d ((n + 3) / 4) n) (hx : On d x) (hy : On d y) (hc : d.rd ≤ 10000000 ∧ d.wr ≤ 10000000) (hn : n ≤ 1000) (hab : j.ea + j.eb ≤ 32) (htw : -1 ≤ j.tw ∧ j.tw ≤ 32) (hxw : x.w = 2 ^ j.ea * 2 ^ j.eb) (hyw : y.w = 2 ^ j.ea * 2 ^ j.eb) (hxn : x.w = n) (hdis : x.f + x.s ≤ y.f ∨ y.f + y.s ≤ x.f)
    (hcap : cap ≤ 1000000000000) (hfr : 4 + 2 * ((2 ^ j.eb : Nat) : Int) ≤ cap) (hj : BatIs j.ea ((cap - 4).toNat / 2 ^ j.eb) jb) :
    Tr Tryd.prog 23 #[.pointer (some ⟨p, 0, none⟩), .pointer (some ⟨q, 0, none⟩), .agg j.a, .pointer (some ⟨ap, 0, none⟩), .int .i64 4]
      [pts p (pipO dp ap x), pts q (pipO dp ap y), Dk dp d, Ar ap cap peak [], TT] fun v M => ∃ d', MadeD d' ((n + 3) / 4) n ∧ Prog (inX y) d d' (rP 4 x.f y.f (2 ^ jb * 2 ^ j.eb) (2 ^ j.ea / 2 ^ jb)) (wP 4 y.f (2 ^ jb * 2 ^ j.eb) (2 ^ j.ea / 2 ^ jb)) ∧ d'.rd ≤ d.rd + 2 * n ∧ d'.wr ≤ d.wr + n ∧
        pws d' x 0 n = pws d x 0 n ∧ pws d' y 0 n = rowsU j d x (2 ^ j.ea) ∧
        v = .tuple #[.int .u32 ((sum (form (rowsU j d x (2 ^ j.ea)))).toNat : Int), .int .i64 0] ∧
        M = [pts p (pipO dp ap x), pts q (pipO dp ap y), Dk dp d', Ar ap cap (mx peak ((2 ^ jb * 2 ^ j.eb : Nat) + (2 ^ j.eb : Nat) + 4)) [], TT] := fun H hs => by
  have hper := hM.per
  have e4 : ((D.per d : Nat) : Int) = 4 := by rw [hper]; rfl
  have hjb := hj.le
  have hb := div_pow hjb
  have he1 := pow_pos j.ea
  have he2 : 2 ^ j.eb ≤ n := by
    rw [← hxn, hxw]; exact Nat.le_mul_of_pos_left _ he1
  have hb20 : j.eb ≤ 20 := by
    apply Nat.le_of_not_lt
    intro h
    have := pow_le (show 21 ≤ j.eb from h)
    omega
  have R := Run_tr (p := p) (q := q) (dp := dp) (ap := ap) (peak := peak) (bufs := []) (TT := TT) (jb := jb) (cap := cap) hT hM.ok hM.down hx hy ⟨by omega, by omega⟩ hab hb20 htw hxw hyw hdis (by rw [e4]; decide) hcap (by rw [sumB_nil]; omega) (by rw [e4, sumB_nil]; omega) (by rw [e4, sumB_nil, Int.sub_zero]; exact hj) H hs
  rw [e4] at R
  refine R.mono ?_
  rintro v H' ⟨M, ⟨M0, hr | hr, rfl⟩, hM'⟩
  · obtain ⟨d', hI, rfl, rfl⟩ := hr
    have hpg := hI.pg
    rw [hper] at hpg
    have r1 := rP_le 4 x.f y.f (2 ^ jb * 2 ^ j.eb) (2 ^ j.ea / 2 ^ jb)
    have r2 := wP_le 4 y.f (2 ^ jb * 2 ^ j.eb) (2 ^ j.ea / 2 ^ jb)
    have e2 : 2 ^ j.ea / 2 ^ jb * (2 ^ jb * 2 ^ j.eb) = n := by rw [← Nat.mul_assoc, ← hb, ← hxn, hxw]
    have e1 : 2 ^ j.ea / 2 ^ jb * (2 * (2 ^ jb * 2 ^ j.eb)) = 2 * n := by rw [Nat.mul_left_comm, e2]
    have h1 := hpg.rd; have h2 := hpg.wr
    have hrd : d'.rd ≤ d.rd + 2 * n := by omega
    have hwr : d'.wr ≤ d.wr + n := by omega
    refine ⟨_, ⟨d', hM.prog hpg ⟨by omega, by omega⟩, hpg, hrd, hwr, ?_, ?_, rfl, rfl⟩, ?_⟩
    · rw [pws_map (f := pw d x) fun k hk => hI.src k (by omega), pws_map (f := pw d x) fun _ _ => rfl]
    · have hl : (rowsU j d x (2 ^ j.ea)).length = n := by rw [rowsU_len, ← hxn, hxw]
      rw [pws_map (f := fun k => ((rowsU j d x (2 ^ j.ea))[k]?).getD 0) fun k hk => by
        have := hI.dst k (by rw [← hb, ← hxw, hxn]; exact hk)
        rw [← hb] at this
        exact this]
      have := range_get (rowsU j d x (2 ^ j.ea))
      rw [hl] at this
      exact this
    · rw [sumB_nil, Int.zero_add, e4] at hM'
      exact hM'
  · obtain ⟨d', hd, _⟩ := hr
    exact (Dead.calm hd hM.fuse).elim
end

theorem one_row (w : Zp) (j : Nat) : dft w 4 (at' [1, 0, 0, 0]) j = 1 := by
  have h0 : at' [1, 0, 0, 0] 0 = 1 := by decide
  have h1 : at' [1, 0, 0, 0] 1 = 0 := by decide
  have h2 : at' [1, 0, 0, 0] 2 = 0 := by decide
  have h3 : at' [1, 0, 0, 0] 3 = 0 := by decide
  unfold dft
  show (((0 + at' [1, 0, 0, 0] 0 * Fft.pw w (0 * j)) + at' [1, 0, 0, 0] 1 * Fft.pw w (1 * j)) + at' [1, 0, 0, 0] 2 * Fft.pw w (2 * j)) + at' [1, 0, 0, 0] 3 * Fft.pw w (3 * j) = 1
  rw [h0, h1, h2, h3, Nat.zero_mul, show Fft.pw w 0 = 1 from rfl]
  grind

def jA : J := ⟨0, 2, false, -1, 3⟩
theorem rowP_awake : rowP jA 0 [1, 0, 0, 0] = [3, 3, 3, 3] := by
  have e1 : dftL false 2 [1, 0, 0, 0] = [1, 1, 1, 1] := by
    unfold dftL
    simp only [show (2 : Nat) ^ 2 = 4 from rfl, one_row]
    decide
  show sclL (zw 3) (twL jA 0 (dftL false 2 [1, 0, 0, 0])) = _
  rw [e1, show twL jA 0 [1, 1, 1, 1] = [1, 1, 1, 1] from rfl]
  decide

theorem awake_ok (H : Hp) (hT : T64 H) : HCalls Tryd.prog 20 #[] H (RetE (.bool true) H) := HCalls.ret (by
  apply W_abacistlaw23_awake.ok
  unfold W_abacistlaw23_awake
  refine (Sep.start H).nw fun b1 H1 hs => ?_
  have hs : Sep [own H, pts b1 (.row (wordVals [1, 0, 0, 0]) 22 4)] H1 := hs
  refine (Make_tr (A := some ⟨b1, 0, none⟩) (n := 4) (m := 4) (R := pts b1 (.row (wordVals [1, 0, 0, 0]) 22 4)) [1, 0, 0, 0] rfl (by omega) (by omega) (by omega) 40 (by omega) (fun H h => by
    have := Cells.row h 0 4
    exact this)).use hs [1] rfl rfl ?_
  rintro _ _ H1 ⟨dp, ap, p, q, d, rfl, hM, hrd, hwr, hw, rfl⟩ hs
  simp only [DI_int', DB_bool, DS_string, DP_pointer, DSl_slice, DM_map, DA_agg, DTup_tuple, DCons_cons, DNil_nil, NN_some, BIf_true, BIf_false, BIf_same, List.toList_toArray, Bool.not_true, Bool.not_false]
  refine hs.nw fun b2 H1 hs => ?_
  refine hs.stw 6 rfl rfl rfl rfl fun H1 hs => ?_
  first | refine hs.ldf 6 rfl rfl ?_ | refine hs.ldg 6 rfl rfl ?_
  try simp only [DI_int', DB_bool, DS_string, DP_pointer, DSl_slice, DM_map, DA_agg, DTup_tuple, DCons_cons, DNil_nil, NN_some, BIf_true, BIf_false, BIf_same, List.toList_toArray, Bool.not_true, Bool.not_false]
  first | refine hs.ldf 6 rfl rfl ?_ | refine hs.ldg 6 rfl rfl ?_
  try simp only [DI_int', DB_bool, DS_string, DP_pointer, DSl_slice, DM_map, DA_agg, DTup_tuple, DCons_cons, DNil_nil, NN_some, BIf_true, BIf_false, BIf_same, List.toList_toArray, Bool.not_true, Bool.not_false]
  first | refine hs.ldf 6 rfl rfl ?_ | refine hs.ldg 6 rfl rfl ?_
  try simp only [DI_int', DB_bool, DS_string, DP_pointer, DSl_slice, DM_map, DA_agg, DTup_tuple, DCons_cons, DNil_nil, NN_some, BIf_true, BIf_false, BIf_same, List.toList_toArray, Bool.not_true, Bool.not_false]
  refine (RunM_tr (p := p) (q := q) (dp := dp) (ap := ap) (x := xP 4) (y := xQ 4) (cap := 40) (peak := 0) (TT := own H) (d := d) (n := 4) (j := jA) (jb := 0) (fun H' h => hT.le h) hM (hM.onP (by omega)) (hM.onQ (by omega)) ⟨by omega, by omega⟩ (by omega) (by decide) (by decide) rfl rfl rfl (.inl (by decide)) (by omega) (by decide) ⟨by decide, by decide, .inl rfl⟩).use hs [0, 1, 2, 3, 5] rfl rfl ?_
  rintro _ _ H1 ⟨d1, hM1, hpg, hrd1, hwr1, hP, hQ, rfl, rfl⟩ hs
  simp only [DI_int', DB_bool, DS_string, DP_pointer, DSl_slice, DM_map, DA_agg, DTup_tuple, DCons_cons, DNil_nil, NN_some, BIf_true, BIf_false, BIf_same, List.toList_toArray, Bool.not_true, Bool.not_false]
  first | refine hs.ldf 6 rfl rfl ?_ | refine hs.ld 6 rfl rfl ?_
  simp only [DI_int', DB_bool, DS_string, DP_pointer, DSl_slice, DM_map, DA_agg, DTup_tuple, DCons_cons, DNil_nil, NN_some, BIf_true, BIf_false, BIf_same, List.toList_toArray, Bool.not_true, Bool.not_false]
  refine (Words_tr (dp := dp) (d := d1) 2 4 hM1.ok hM1.calm (hM1.onQ (by omega)) hM1.per (by omega)).use hs [2] rfl rfl ?_
  rintro _ _ H1 ⟨b3, t, ht, rfl, rfl⟩ hs
  simp only [DI_int', DB_bool, DS_string, DP_pointer, DSl_slice, DM_map, DA_agg, DTup_tuple, DCons_cons, DNil_nil, NN_some, BIf_true, BIf_false, BIf_same, List.toList_toArray, Bool.not_true, Bool.not_false]
  refine BIf_beqp rfl ?_
  have hT4 : rowsU jA d (xP 4) (2 ^ 0) = [3, 3, 3, 3] := by
    have e : rowsU jA d (xP 4) (2 ^ 0) = rowP jA 0 [pw d (xP 4) 0, pw d (xP 4) 1, pw d (xP 4) 2, pw d (xP 4) 3] ++ [] := rfl
    rw [e, hw 0 (by omega), hw 1 (by omega), hw 2 (by omega), hw 3 (by omega)]
    exact (List.append_nil _).trans rowP_awake
  have hQ : pws d1 ⟨2, (4 + 3) / 4, 4⟩ 0 4 = [3, 3, 3, 3] := hQ.trans hT4
  rw [hQ] at hs
  refine hs.nw fun b4 H1 hs => ?_
  have hc : Cells H1 (some ⟨b3, 0, none⟩) (wordVals [3, 3, 3, 3]) := by
    have := Cells.row (hs.get 1 rfl) 0 4
    exact this
  have hc2 : Cells H1 (some ⟨b4, 0, none⟩) (wordVals [3, 3, 3, 3]) := by
    have := Cells.row (hs.get 8 rfl) 0 4
    exact this
  refine HCalls.use (Same_ok (some ⟨b3, 0, none⟩) (some ⟨b4, 0, none⟩) 4 4 4 [3, 3, 3, 3] rfl (by omega) H1 hc hc2) ?_
  simp only [DI_int', DB_bool, DS_string, DP_pointer, DSl_slice, DM_map, DA_agg, DTup_tuple, DCons_cons, DNil_nil, NN_some, BIf_true, BIf_false, BIf_same, List.toList_toArray, Bool.not_true, Bool.not_false]
  exact hs.fin 5 rfl _)

end Go.Proofs.YtbnhfcdagoigkaaDoor.Pas

end
section
/-! Wabacistref08 -/
/- Formulas of functions, printed by wip/tools/hwp.py. -/
set_option maxRecDepth 100000
set_option linter.unusedVariables false
namespace Go.Proofs.YtbnhfcdagoigkaaDoor.W
open Go Go.Hw

theorem mixWabacistref08 : Tryd.prog.follows .mixedOrders = true := by kernel_rfl
-- abacistref08.Share
def W_abacistref08_Share (x1 : Int) (H : Hp) (K : Value → Hp → Prop) : Prop :=
  HCalls Tryd.prog 73 #[.int .u64 (9223372034707292161 : Int), .int .u64 (IntKind.u64.wrap x1)] H fun v1 H1 => DI .u64 v1 fun x2 => K (.int .u64 x2) H1
def W_abacistref08_Share.Λ (_ : Value → Hp → Prop) : Cuts := Cuts.none (fun _ => none)
theorem W_abacistref08_Share.ok (x1 : Int) (H : Hp) (K : Value → Hp → Prop) (h : W_abacistref08_Share x1 H K) : HCalls Tryd.prog 24 #[.int .i64 x1] H K :=
  hcalls Tryd.func24 rfl (Nat.le_of_ble_eq_true rfl) (hw_safe (Λ := Cuts.none (fun _ => none)) mixWabacistref08 _ _ _ _ _ (Eq.mp (by kernel_rfl) h) (obs_none _ _ _ _ _))

-- abacistref08.Canon
def W_abacistref08_Canon (A1 : Option Addr) (n1 : Nat) (m1 : Nat) (H : Hp) (K : Value → Hp → Prop) : Prop :=
  HCalls Tryd.prog 75 #[.slice A1 n1 m1, .int .u64 (1 : Int)] H fun v1 H1 => DSl v1 fun A2 n2 m2 => K (.slice A2 n2 m2) H1
def W_abacistref08_Canon.Λ (_ : Value → Hp → Prop) : Cuts := Cuts.none (fun _ => none)
theorem W_abacistref08_Canon.ok (A1 : Option Addr) (n1 : Nat) (m1 : Nat) (H : Hp) (K : Value → Hp → Prop) (h : W_abacistref08_Canon A1 n1 m1 H K) : HCalls Tryd.prog 28 #[.slice A1 n1 m1] H K :=
  hcalls Tryd.func28 rfl (Nat.le_of_ble_eq_true rfl) (hw_safe (Λ := Cuts.none (fun _ => none)) mixWabacistref08 _ _ _ _ _ (Eq.mp (by kernel_rfl) h) (obs_none _ _ _ _ _))

-- abacistref08.Scale
def W_abacistref08_Scale.l3 (K : Value → Hp → Prop) : Nat → Option Addr → Nat → Nat → Int → Option Addr → Nat → Nat → Int → Hp → Prop
  | 0, _, _, _, _, _, _, _, _, _ => False
  | k + 1, A2, n2, m2, x2, A3, n3, m3, x3, H =>
    let R3 := W_abacistref08_Scale.l3 K k
    BIf (decide (x3 < ((n2 : Nat) : Int))) (ixI x3 n2 (NN A2 fun a1 => Ld H (a1.add (x3.toNat * 1)) fun v1 => DI .u64 v1 fun x4 => HCalls Tryd.prog 113 #[.int .u64 x4, .int .u64 x2] H fun v2 H1 => DI .u64 v2 fun x5 => Nw H1 (.row [.int .u64 x5] 22 1) fun b1 H2 => AppK Tryd.prog 22 (.slice A3 n3 m3) (.slice (some ⟨b1, 0, none⟩) 1 1) H2 fun v3 H3 => DSl v3 fun A4 n4 m4 => R3 A2 n2 m2 x2 A4 n4 m4 (IntKind.i64.wrap (x3 + (1 : Int))) H3)) (K (.slice A3 n3 m3) H)
def W_abacistref08_Scale (A1 : Option Addr) (n1 : Nat) (m1 : Nat) (x1 : Int) (H : Hp) (K : Value → Hp → Prop) : Prop :=
  (∃ k, W_abacistref08_Scale.l3 K k A1 n1 m1 x1 none 0 0 (0 : Int) H)
def W_abacistref08_Scale.l3.L (K : Value → Hp → Prop) (k : Nat) : Mid := fun E D H =>
  DG (E.get? 0) fun w0 => DSl w0 fun A2 n2 m2 => DG (E.get? 1) fun w1 => DI .u64 w1 fun x2 => DG (E.get? 5) fun w5 => DSl w5 fun A3 n3 m3 => DG (E.get? 6) fun w6 => DI .i64 w6 fun x3 => DNilD D (W_abacistref08_Scale.l3 K k A2 n2 m2 x2 A3 n3 m3 x3 H)
def W_abacistref08_Scale.Λ3 (_ : Value → Hp → Prop) (_R3 : Option Addr → Nat → Nat → Int → Option Addr → Nat → Nat → Int → Hp → Prop) : Cuts := Cuts.none (fun _ => none)
def W_abacistref08_Scale.Λ (K : Value → Hp → Prop) : Cuts := ⟨fun i => none, fun i => match Nat.beq i 3 with | true => some (fun E D H => ∃ k, W_abacistref08_Scale.l3.L K k E D H) | false => none, (fun _ => none)⟩
theorem W_abacistref08_Scale.ok (A1 : Option Addr) (n1 : Nat) (m1 : Nat) (x1 : Int) (H : Hp) (K : Value → Hp → Prop) (h : W_abacistref08_Scale A1 n1 m1 x1 H K) : HCalls Tryd.prog 75 #[.slice A1 n1 m1, .int .u64 x1] H K :=
  hcalls Tryd.func75 rfl (Nat.le_of_ble_eq_true rfl) (hw_safe (Λ := (W_abacistref08_Scale.Λ K)) mixWabacistref08 _ _ _ _ _ (Eq.mp (by kernel_rfl) h) (obs_seq obs_region rfl (obs_seq obs_region rfl (obs_seq (obs_seq obs_region rfl (obs_block (obs_loop rfl (fun E D H h => by
      refine Safe.loop' (W_abacistref08_Scale.l3.L K) (fun E D H h => ?_) (fun k E D H h => ?_) E D H h
      · obtain ⟨w0, e0, g1⟩ := DG.out h; obtain ⟨A2, n2, m2, rfl, g2⟩ := DSl.out g1; obtain ⟨w1, e1, g3⟩ := DG.out g2; obtain ⟨x2, rfl, g4⟩ := DI.out g3; obtain ⟨w5, e5, g5⟩ := DG.out g4; obtain ⟨A3, n3, m3, rfl, g6⟩ := DSl.out g5; obtain ⟨w6, e6, g7⟩ := DG.out g6; obtain ⟨x3, rfl, g8⟩ := DI.out g7; obtain ⟨rfl, h'⟩ := DNilD.out g8; exact h'
      · obtain ⟨w0, e0, g1⟩ := DG.out h
        obtain ⟨A2, n2, m2, rfl, g2⟩ := DSl.out g1
        obtain ⟨w1, e1, g3⟩ := DG.out g2
        obtain ⟨x2, rfl, g4⟩ := DI.out g3
        obtain ⟨w5, e5, g5⟩ := DG.out g4
        obtain ⟨A3, n3, m3, rfl, g6⟩ := DSl.out g5
        obtain ⟨w6, e6, g7⟩ := DG.out g6
        obtain ⟨x3, rfl, g8⟩ := DI.out g7
        obtain ⟨rfl, h'⟩ := DNilD.out g8
        exact (hw_safe (Λ := (W_abacistref08_Scale.Λ3 K (W_abacistref08_Scale.l3 K k))) mixWabacistref08 _ _ [(0, .slice A2 n2 m2), (1, .int .u64 x2), (5, .slice A3 n3 m3), (6, .int .i64 x3)] [] H (Eq.mp (by kernel_rfl) h') (obs_seq (obs_seq obs_region rfl (obs_cond obs_skip obs_exit)) rfl (obs_seq (obs_block obs_region) rfl obs_region))).weaken (EnvLe.cons e0 (EnvLe.cons e1 (EnvLe.cons e5 (EnvLe.cons e6 (EnvLe.nil _))))) (Hp.le_refl _))))) rfl (obs_seq obs_region rfl obs_ret)))))

end Go.Proofs.YtbnhfcdagoigkaaDoor.W

end
section
/-! PasH -/
/- The law PassBack. -/
set_option maxRecDepth 100000
set_option linter.unusedSimpArgs false
set_option linter.unusedVariables false
set_option linter.unnecessarySimpa false
set_option linter.unusedSectionVars false
namespace Go.Proofs.YtbnhfcdagoigkaaDoor.Pas
open Go Go.Hw Go.Crc Go.Form Go.Proofs.YtbnhfcdagoigkaaDoor.W Go.Proofs.YtbnhfcdagoigkaaDoor.Shp Go.Proofs.YtbnhfcdagoigkaaDoor.Gol Go.Proofs.YtbnhfcdagoigkaaDoor.Fft Go.Proofs.YtbnhfcdagoigkaaDoor.Ker Go.Proofs.YtbnhfcdagoigkaaDoor.Str Go.Proofs.YtbnhfcdagoigkaaDoor.Dsk Go.Proofs.YtbnhfcdagoigkaaDoor.Are Go.Proofs.YtbnhfcdagoigkaaDoor.Trn

/-! ## The reference's words -/

theorem rShare_ok (k : Nat) (hk : k ≤ 32) (H : Hp) : HCalls Tryd.prog 24 #[.int .i64 (k : Int)] H (RetE (.int .u64 ((Fft.pw half k).val : Int)) H) := by
  apply W_abacistref08_Share.ok
  unfold W_abacistref08_Share
  rw [u64n (by omega)]
  refine HCalls.use (rPow_ok (a := 9223372034707292161) (n := k) (by omega) H) ?_
  rw [pow_val]
  simp only [DI_int', DB_bool, DS_string, DP_pointer, DSl_slice, DM_map, DA_agg, DTup_tuple, DCons_cons, DNil_nil, NN_some, BIf_true, BIf_false, BIf_same, List.toList_toArray, Bool.not_true, Bool.not_false]
  exact RetE.mk _ _

theorem mulr_val (x : UInt64) (y : Nat) : x.toNat * y % 18446744069414584321 = (zw x * zp y).val := by
  rw [← mul_val]
  show _ = x.toNat % 18446744069414584321 * (y % 18446744069414584321) % 18446744069414584321
  rw [← Nat.mul_mod]

theorem sclL_snoc {l : List UInt64} (z : Zp) {i : Nat} (hil : i < l.length) : wordVals (sclL z (l.take (i + 1))) = wordVals (sclL z (l.take i)) ++ [.int .u64 ((zw l[i] * z).val : Int)] := by
  have e : sclL z (l.take (i + 1)) = sclL z (l.take i) ++ [uw (zw l[i] * z)] := by
    unfold sclL
    rw [List.take_add_one, List.getElem?_eq_getElem hil, List.map_append]; rfl
  rw [e, ← uw_int]
  unfold wordVals
  rw [List.map_append]; rfl
theorem dftL_get (d : Bool) (k : Nat) (l : List UInt64) {i : Nat} (h : i < 2 ^ k) : (dftL d k l)[i]? = some (uw (dft (rtd d k) (2 ^ k) (at' l) i)) := by
  unfold dftL; rw [List.getElem?_map, List.getElem?_range h]; rfl
theorem sclL_get (z : Zp) {l : List UInt64} {i : Nat} {w : UInt64} (h : l[i]? = some w) : (sclL z l)[i]? = some (uw (zw w * z)) := by
  unfold sclL; rw [List.getElem?_map, h]; rfl
theorem at_some {l : List UInt64} {i : Nat} {w : UInt64} (h : l[i]? = some w) : at' l i = zw w := by
  unfold at'; rw [List.getD_eq_getElem?_getD, h]; rfl

section
variable {R : As} {A : Option Addr} {n m : Nat} {l : List UInt64}
theorem rScale_loop (K : Value → Hp → Prop) (y : Nat) (hy : y < 2 ^ 64) {L : List As} (hR : ∀ H, R H → Cells H A (wordVals l)) (hl : l.length = n) (hn : n ≤ 4294967296)
    (hK : ∀ A' m' H, Sep (Own 22 1 A' n m' (wordVals (sclL (zp y) l)) :: R :: L) H → K (.slice A' n m') H) :
    ∀ (t i : Nat) (A' : Option Addr) (m' : Nat) (H : Hp), i + t = n → Sep (Own 22 1 A' i m' (wordVals (sclL (zp y) (l.take i))) :: R :: L) H →
      W_abacistref08_Scale.l3 K (t + 1) A n m (y : Int) A' i m' (i : Int) H
  | 0, i, A', m', H, hi, hs => by
    unfold W_abacistref08_Scale.l3
    obtain rfl : i = n := by omega
    refine BIf_dneg (by omega) (hK A' m' H ?_)
    rw [List.take_of_length_le (by omega)] at hs
    exact hs
  | t + 1, i, A', m', H, hi, hs => by
    have hc : Cells H A (wordVals l) := by
      obtain ⟨H1, h1, hle⟩ := hs.see 1 rfl
      exact (hR H1 h1).le hle
    unfold W_abacistref08_Scale.l3
    refine BIf_dpos (by omega) ?_
    have hil : i < l.length := by omega
    have hg : (wordVals l)[i]? = some (.int .u64 ((l[i]).toNat : Int)) := by
      rw [wordVals_get, List.getElem?_eq_getElem hil]; rfl
    refine hc.read hg rfl (by rw [wordVals_length]; omega) ?_
    simp only [DI_int', DB_bool, DS_string, DP_pointer, DSl_slice, DM_map, DA_agg, DTup_tuple, DCons_cons, DNil_nil, NN_some, BIf_true, BIf_false, BIf_same, List.toList_toArray, Bool.not_true, Bool.not_false]
    refine HCalls.use (rMul_ok (a := (l[i]).toNat) hy H) ?_
    rw [mulr_val]
    simp only [DI_int', DB_bool, DS_string, DP_pointer, DSl_slice, DM_map, DA_agg, DTup_tuple, DCons_cons, DNil_nil, NN_some, BIf_true, BIf_false, BIf_same, List.toList_toArray, Bool.not_true, Bool.not_false]
    refine hs.app1 0 rfl Ker.cell_u64 (by omega) rfl (by omega) (by omega) fun A2 m2 H hs => ?_
    simp only [DI_int', DB_bool, DS_string, DP_pointer, DSl_slice, DM_map, DA_agg, DTup_tuple, DCons_cons, DNil_nil, NN_some, BIf_true, BIf_false, BIf_same, List.toList_toArray, Bool.not_true, Bool.not_false]
    rw [i64w (x := (i : Int) + 1) (by omega) (by omega), show (i : Int) + 1 = ((i + 1 : Nat) : Int) by omega]
    refine rScale_loop K y hy hR hl hn hK t (i + 1) A2 m2 H (by omega) ?_
    rw [sclL_snoc _ hil]
    exact hs

theorem rScale_tr (y : Nat) (hy : y < 2 ^ 64) (hR : ∀ H, R H → Cells H A (wordVals l)) (hl : l.length = n) (hn : n ≤ 4294967296) :
    Tr Tryd.prog 75 #[.slice A n m, .int .u64 (y : Int)] [R] fun v M => ∃ A' m', v = .slice A' n m' ∧ M = [Own 22 1 A' n m' (wordVals (sclL (zp y) l)), R] := fun H hs => by
  apply W_abacistref08_Scale.ok
  unfold W_abacistref08_Scale
  have e0 : Sep [Own 22 1 none 0 0 (wordVals (sclL (zp y) (l.take 0))), R] H :=
    ⟨fun _ => none, H, fun _ _ h => (nomatch h), Hp.le_refl _, fun _ => .inl rfl, Own.none _ _ _, hs⟩
  refine ⟨n + 1, ?_⟩
  exact rScale_loop (L := []) _ y hy hR hl hn (fun A' m' H hs => ⟨_, ⟨A', m', rfl, rfl⟩, hs⟩) n 0 none 0 H (by omega) e0

theorem rCanon_tr (hR : ∀ H, R H → Cells H A (wordVals l)) (hl : l.length = n) (hn : n ≤ 4294967296) :
    Tr Tryd.prog 28 #[.slice A n m] [R] fun v M => ∃ A' m', v = .slice A' n m' ∧ M = [Own 22 1 A' n m' (wordVals (l.map fun x => uw (zw x))), R] := fun H hs => by
  apply W_abacistref08_Canon.ok
  unfold W_abacistref08_Canon
  refine (rScale_tr (n := n) (m := m) 1 (by decide) hR hl hn).use hs [0] rfl rfl ?_
  rintro _ _ H ⟨A', m', rfl, rfl⟩ hs
  simp only [DI_int', DB_bool, DS_string, DP_pointer, DSl_slice, DM_map, DA_agg, DTup_tuple, DCons_cons, DNil_nil, NN_some, BIf_true, BIf_false, BIf_same, List.toList_toArray, Bool.not_true, Bool.not_false]
  refine ⟨_, ⟨A', m', rfl, rfl⟩, ?_⟩
  have e : sclL (zp 1) l = l.map fun x => uw (zw x) := by
    unfold sclL
    apply List.map_congr_left
    intro x _
    have : zw x * zp 1 = zw x := by
      have : zp 1 = 1 := rfl
      rw [this]; grind
    rw [this]
  rw [← e]
  exact hs
end

/-! ## Forward and back -/

theorem rowsU_map {j : J} {d : D} {x : X} {m : Nat} {l : List UInt64} (h : pws d x 0 (m * 2 ^ j.eb) = l) :
    rowsU j d x m = (List.range m).flatMap fun q => rowP j q ((l.drop (q * 2 ^ j.eb)).take (2 ^ j.eb)) := by
  unfold rowsU
  have : ∀ (r : List Nat), (∀ q, q ∈ r → q < m) → r.flatMap (fun q => rowP j q (pws d x (q * 2 ^ j.eb) (2 ^ j.eb))) = r.flatMap fun q => rowP j q ((l.drop (q * 2 ^ j.eb)).take (2 ^ j.eb)) := fun r => by
    induction r with
    | nil => intro _; rfl
    | cons q r ih =>
      intro hq
      have hqb := hq q (by simp)
      have h1 : (q + 1) * 2 ^ j.eb ≤ m * 2 ^ j.eb := Nat.mul_le_mul_right _ (by omega)
      rw [Nat.succ_mul] at h1
      rw [List.flatMap_cons, List.flatMap_cons, ih fun q' h' => hq q' (by simp [h']), ← h, pws_part h1, Nat.zero_add]
  exact this _ fun q hq => List.mem_range.1 hq

/-- A part of rows put side by side. -/
theorem flat_part {f : Nat → List UInt64} {c : Nat} (hf : ∀ q, (f q).length = c) : ∀ (m q : Nat), q < m → (((List.range m).flatMap f).drop (q * c)).take c = f q
  | 0, q, h => by omega
  | m + 1, q, h => by
    have hl : ∀ m, ((List.range m).flatMap f).length = m * c := fun m => by
      induction m with
      | zero => simp
      | succ m ih => rw [List.range_succ, List.flatMap_append, List.length_append, ih, Nat.succ_mul]; simp [hf]
    rw [List.range_succ, List.flatMap_append]
    have hs : List.flatMap f [m] = f m := by simp
    rw [hs]
    by_cases e : q = m
    · subst e
      rw [List.drop_append, List.drop_eq_nil_of_le (by rw [hl]; exact Nat.le_refl _), hl, Nat.sub_self, List.drop_zero, List.nil_append, List.take_of_length_le (by rw [hf]; exact Nat.le_refl _)]
    · have h1 : (q + 1) * c ≤ m * c := Nat.mul_le_mul_right _ (by omega)
      rw [Nat.succ_mul] at h1
      rw [List.drop_append_of_le_length (by rw [hl]; omega), List.take_append_of_le_length (by rw [List.length_drop, hl]; omega)]
      exact flat_part hf m q (by omega)

theorem at_dftL (d : Bool) (k : Nat) (l : List UInt64) {i : Nat} (h : i < 2 ^ k) : at' (dftL d k l) i = dft (rtd d k) (2 ^ k) (at' l) i := by
  rw [at_some (dftL_get d k l h), zw_uw]

/-- A row forward, and back. -/
theorem row_back {ea eb : Nat} (heb : eb ≤ 32) (l : List UInt64) (hl : l.length = 2 ^ eb) (q q' : Nat) :
    rowP ⟨ea, eb, true, -1, uw (Fft.pw half eb)⟩ q (rowP ⟨ea, eb, false, -1, 1⟩ q' l) = l.map fun x => uw (zw x) := by
  have e1 : rowP ⟨ea, eb, false, -1, 1⟩ q' l = dftL false eb l := by
    show sclL (zw 1) (twL ⟨ea, eb, false, -1, 1⟩ q' (dftL false eb l)) = _
    have : twL ⟨ea, eb, false, -1, 1⟩ q' (dftL false eb l) = dftL false eb l := rfl
    rw [this]
    unfold sclL dftL
    rw [List.map_map]
    apply List.map_congr_left
    intro i _
    show uw (zw (uw _) * zw 1) = uw _
    rw [zw_uw]
    have : zw 1 = 1 := rfl
    rw [this]
    congr 1
    grind
  rw [e1]
  show sclL (zw (uw (Fft.pw half eb))) (twL ⟨ea, eb, true, -1, uw (Fft.pw half eb)⟩ q (dftL true eb (dftL false eb l))) = _
  have : twL ⟨ea, eb, true, -1, uw (Fft.pw half eb)⟩ q (dftL true eb (dftL false eb l)) = dftL true eb (dftL false eb l) := rfl
  rw [this, zw_uw]
  apply List.ext_getElem?
  intro i
  by_cases h1 : i < 2 ^ eb
  · rw [sclL_get _ (dftL_get true eb (dftL false eb l) h1), List.getElem?_map, List.getElem?_eq_getElem (by omega)]
    show some _ = some _
    congr 2
    rw [zw_uw, dft_congr (l' := dft (rtd false eb) (2 ^ eb) (at' l)) (fun i hi => at_dftL false eb l hi) i]
    have hb := dft_back (k := eb) (w := rtd false eb) (v := rtd true eb) (by
        rcases Nat.eq_zero_or_pos eb with h | h
        · exact .inl h
        · exact .inr (rtd_neg false heb h)) (by
        rcases Nat.eq_zero_or_pos eb with h | h
        · exact .inl h
        · exact .inr (rtd_neg true heb h)) (rtd_inv false heb) (at' l) h1
    rw [hb, nn_zp, zp_two, at_get (by omega)]
    have hh : Fft.pw half eb * Fft.pw 2 eb = 1 := by rw [← mul_pw, half_2, pw_one]
    grind
  · rw [List.getElem?_eq_none (by rw [sclL_len, dftL_len]; omega), List.getElem?_eq_none (by rw [List.length_map]; omega)]

theorem flat_map {ea eb : Nat} (l : List UInt64) (g : List UInt64 → List UInt64) (hg : ∀ r : List UInt64, g r = r.map fun x => uw (zw x)) (hl : l.length = 2 ^ ea * 2 ^ eb) :
    ((List.range (2 ^ ea)).flatMap fun q => g ((l.drop (q * 2 ^ eb)).take (2 ^ eb))) = l.map fun x => uw (zw x) := by
  have key : ∀ (m : Nat), m ≤ 2 ^ ea → ((List.range m).flatMap fun q => g ((l.drop (q * 2 ^ eb)).take (2 ^ eb))) = (l.take (m * 2 ^ eb)).map fun x => uw (zw x) := fun m => by
    induction m with
    | zero => intro _; simp
    | succ m ih =>
      intro hm
      rw [List.range_succ, List.flatMap_append, ih (by omega), Nat.succ_mul, List.take_add, List.map_append]
      simp [hg]
  rw [key _ (Nat.le_refl _), List.take_of_length_le (by omega)]

/-- Rows forward, and back. -/
theorem rows_back {ea eb : Nat} (hab : ea + eb ≤ 32) {d d1 : D} {x y : X} {l : List UInt64} (hl : l.length = 2 ^ ea * 2 ^ eb) (h0 : pws d x 0 (2 ^ ea * 2 ^ eb) = l) (h1 : pws d1 y 0 (2 ^ ea * 2 ^ eb) = rowsU ⟨ea, eb, false, -1, 1⟩ d x (2 ^ ea)) :
    rowsU ⟨ea, eb, true, -1, uw (Fft.pw half eb)⟩ d1 y (2 ^ ea) = l.map fun x => uw (zw x) := by
  rw [rowsU_map (j := ⟨ea, eb, true, -1, uw (Fft.pw half eb)⟩) h1, rowsU_map (j := ⟨ea, eb, false, -1, 1⟩) h0]
  rw [← flat_map (ea := ea) (eb := eb) l (fun r => r.map fun x => uw (zw x)) (fun _ => rfl) hl]
  have key : ∀ (r : List Nat), (∀ q, q ∈ r → q < 2 ^ ea) → (r.flatMap fun q => rowP ⟨ea, eb, true, -1, uw (Fft.pw half eb)⟩ q ((((List.range (2 ^ ea)).flatMap fun q => rowP ⟨ea, eb, false, -1, 1⟩ q ((l.drop (q * 2 ^ eb)).take (2 ^ eb))).drop (q * 2 ^ eb)).take (2 ^ eb))) = r.flatMap fun q => ((l.drop (q * 2 ^ eb)).take (2 ^ eb)).map fun x => uw (zw x) := fun r => by
    induction r with
    | nil => intro _; rfl
    | cons q r ih =>
      intro hq
      have hqb := hq q (by simp)
      have h2 : (q + 1) * 2 ^ eb ≤ 2 ^ ea * 2 ^ eb := Nat.mul_le_mul_right _ (by omega)
      rw [Nat.succ_mul] at h2
      rw [List.flatMap_cons, List.flatMap_cons, ih fun q' h' => hq q' (by simp [h']), flat_part (f := fun q => rowP ⟨ea, eb, false, -1, 1⟩ q ((l.drop (q * 2 ^ eb)).take (2 ^ eb))) (c := 2 ^ eb) (fun q => rowP_len _ _ _) (2 ^ ea) q hqb, row_back (by omega) _ (by rw [List.length_take, List.length_drop]; omega)]
  exact key _ fun q hq => List.mem_range.1 hq

end Go.Proofs.YtbnhfcdagoigkaaDoor.Pas

end
section
/-! PasI -/
/- The law PassBack. -/
set_option maxRecDepth 100000
set_option linter.unusedSimpArgs false
set_option linter.unusedVariables false
set_option linter.unnecessarySimpa false
set_option linter.unusedSectionVars false
namespace Go.Proofs.YtbnhfcdagoigkaaDoor.Pas
open Go Go.Hw Go.Crc Go.Form Go.Proofs.YtbnhfcdagoigkaaDoor.W Go.Proofs.YtbnhfcdagoigkaaDoor.Shp Go.Proofs.YtbnhfcdagoigkaaDoor.Gol Go.Proofs.YtbnhfcdagoigkaaDoor.Fft Go.Proofs.YtbnhfcdagoigkaaDoor.Ker Go.Proofs.YtbnhfcdagoigkaaDoor.Str Go.Proofs.YtbnhfcdagoigkaaDoor.Dsk Go.Proofs.YtbnhfcdagoigkaaDoor.Are Go.Proofs.YtbnhfcdagoigkaaDoor.Trn

theorem made_words {d : D} {n : Nat} {ws : List UInt64} (hn : n = ws.length) (hw : ∀ j, j < n → pw d (xP n) j = (ws[j]?).getD 0) : pws d (xP n) 0 n = ws := by
  rw [pws_map hw, hn]
  exact range_get ws

set_option maxHeartbeats 1000000 in
theorem PassBack_ok (A : Option Addr) (n m : Nat) (hnm : n ≤ m) (ws : List UInt64) (hn : n = ws.length) (r c : Int) (hr : -9223372036854775808 ≤ r ∧ r ≤ 9223372036854775807) (hc : -9223372036854775808 ≤ c ∧ c ≤ 9223372036854775807) (room : Nat) (hroom : room ≤ 65535) (H : Hp) (hT : T64 H) (hb : Cells H A (wordVals ws)) :
    HCalls Tryd.prog 5 #[.slice A n m, .agg #[.int .i64 r, .int .i64 c], .int .u16 room] H (Ret (.bool true) H) := by
  apply W_abacistlaw23_PassBack.ok
  unfold W_abacistlaw23_PassBack
  refine (Sep.start H).nw fun b1 H1 hs => ?_
  refine HCalls.use (awake_ok H1 (hT.le (hs.ow 0 rfl))) ?_
  simp only [DI_int', DB_bool, DS_string, DP_pointer, DSl_slice, DM_map, DA_agg, DTup_tuple, DCons_cons, DNil_nil, NN_some, BIf_true, BIf_false, BIf_same, List.toList_toArray, Bool.not_true, Bool.not_false]
  by_cases h128 : (n : Int) > 128
  · exact BIf_dpos h128 (hs.fin 0 rfl _)
  refine BIf_dneg h128 ?_
  refine hs.ldw 1 rfl rfl ?_
  refine HCalls.use (rGood_ok r c H1) ?_
  simp only [DI_int', DB_bool, DS_string, DP_pointer, DSl_slice, DM_map, DA_agg, DTup_tuple, DCons_cons, DNil_nil, NN_some, BIf_true, BIf_false, BIf_same, List.toList_toArray, Bool.not_true, Bool.not_false]
  by_cases hg : goodS r c = true
  case neg =>
    rw [show goodS r c = false by simpa using hg]
    exact BIf_pos rfl (hs.fin 0 rfl _)
  rw [hg]
  refine BIf_neg rfl ?_
  obtain ⟨ea, eb, rfl, rfl, hab, la, lb⟩ := goodS_some hg
  have q1 := pow_pos ea
  have q2 := pow_pos eb
  have hsz := size_le hab
  simp only [Addr.add_zero]
  refine hs.ld 1 rfl rfl ?_
  simp only [DI_int', DB_bool, DS_string, DP_pointer, DSl_slice, DM_map, DA_agg, DTup_tuple, DCons_cons, DNil_nil, NN_some, BIf_true, BIf_false, BIf_same, List.toList_toArray, Bool.not_true, Bool.not_false]
  refine hs.ldf 1 rfl rfl ?_
  simp only [DI_int', DB_bool, DS_string, DP_pointer, DSl_slice, DM_map, DA_agg, DTup_tuple, DCons_cons, DNil_nil, NN_some, BIf_true, BIf_false, BIf_same, List.toList_toArray, Bool.not_true, Bool.not_false]
  rw [← Int.natCast_mul, i64n (by omega)]
  by_cases hnn : ((2 ^ ea * 2 ^ eb : Nat) : Int) = (n : Int)
  case neg => exact BIf_bnep hnn (hs.fin 0 rfl _)
  refine BIf_bnen hnn ?_
  have hnw : n = 2 ^ ea * 2 ^ eb := by omega
  have hn1 : 1 ≤ n := by rw [hnw]; exact Nat.mul_pos q1 q2
  have hcn : 2 ^ eb ≤ n := by rw [hnw]; exact Nat.le_mul_of_pos_left _ q1
  refine hs.ldf 1 rfl rfl ?_
  simp only [DI_int', DB_bool, DS_string, DP_pointer, DSl_slice, DM_map, DA_agg, DTup_tuple, DCons_cons, DNil_nil, NN_some, BIf_true, BIf_false, BIf_same, List.toList_toArray, Bool.not_true, Bool.not_false]
  refine ⟨by decide, by simp, ?_⟩
  have eρ : IntKind.i64.wrap (IntKind.i64.wrap (IntKind.i64.wrap (2 * ((2 ^ eb : Nat) : Int)) + 4) + Int.tmod (IntKind.i64.wrap (room : Int)) 300) = ((2 * 2 ^ eb + 4 + room % 300 : Nat) : Int) := by
    rw [i64n (n := room) (by omega), show Int.tmod (room : Int) 300 = ((room % 300 : Nat) : Int) from rfl, i64w (x := 2 * ((2 ^ eb : Nat) : Int)) (by omega) (by omega), i64w (x := 2 * ((2 ^ eb : Nat) : Int) + 4) (by omega) (by omega), i64w (by omega) (by omega)]; omega
  rw [eρ]
  have hρ : 2 * 2 ^ eb + 4 ≤ 2 * 2 ^ eb + 4 + room % 300 ∧ 2 * 2 ^ eb + 4 + room % 300 ≤ 600 := by omega
  generalize 2 * 2 ^ eb + 4 + room % 300 = ρ at *
  refine (Make_tr (A := A) (n := n) (m := m) (R := own H) ws hn hn1 (by omega) hnm ρ (by omega) (fun H' h => hb.le h)).use hs [0] rfl rfl ?_
  rintro _ _ H1 ⟨dp, ap, p, q, d, rfl, hM, hrd, hwr, hw, rfl⟩ hs
  simp only [DI_int', DB_bool, DS_string, DP_pointer, DSl_slice, DM_map, DA_agg, DTup_tuple, DCons_cons, DNil_nil, NN_some, BIf_true, BIf_false, BIf_same, List.toList_toArray, Bool.not_true, Bool.not_false]
  have hs : Sep [pts p (pipO dp ap (xP n)), pts q (pipO dp ap (xQ n)), Dk dp d, Ar ap ρ 0 [], own H, pts b1 (.obj (.cells #[.int .i64 ((2 ^ ea : Nat) : Int), .int .i64 ((2 ^ eb : Nat) : Int)] 44))] H1 := hs
  refine hs.nw fun b2 H1 hs => ?_
  refine hs.stw 6 rfl rfl rfl rfl fun H1 hs => ?_
  first | refine hs.ldf 6 rfl rfl ?_ | refine hs.ld 6 rfl rfl ?_
  simp only [DI_int', DB_bool, DS_string, DP_pointer, DSl_slice, DM_map, DA_agg, DTup_tuple, DCons_cons, DNil_nil, NN_some, BIf_true, BIf_false, BIf_same, List.toList_toArray, Bool.not_true, Bool.not_false]
  first | refine hs.ldf 6 rfl rfl ?_ | refine hs.ld 6 rfl rfl ?_
  simp only [DI_int', DB_bool, DS_string, DP_pointer, DSl_slice, DM_map, DA_agg, DTup_tuple, DCons_cons, DNil_nil, NN_some, BIf_true, BIf_false, BIf_same, List.toList_toArray, Bool.not_true, Bool.not_false]
  refine hs.ldw 5 rfl rfl ?_
  simp only [DI_int', DB_bool, DS_string, DP_pointer, DSl_slice, DM_map, DA_agg, DTup_tuple, DCons_cons, DNil_nil, NN_some, BIf_true, BIf_false, BIf_same, List.toList_toArray, Bool.not_true, Bool.not_false]
  first | refine hs.ldf 6 rfl rfl ?_ | refine hs.ld 6 rfl rfl ?_
  simp only [DI_int', DB_bool, DS_string, DP_pointer, DSl_slice, DM_map, DA_agg, DTup_tuple, DCons_cons, DNil_nil, NN_some, BIf_true, BIf_false, BIf_same, List.toList_toArray, Bool.not_true, Bool.not_false]
  have h2q : 2 ≤ ((ρ : Int) - 4).toNat / 2 ^ eb := by rw [Nat.le_div_iff_mul_le (by omega)]; omega
  obtain ⟨jb, hj⟩ := BatIs.ex (ea := ea) h2q
  refine (RunM_tr (p := p) (q := q) (dp := dp) (ap := ap) (x := xP n) (y := xQ n) (cap := ρ) (peak := 0) (TT := own H) (d := d) (n := n) (j := ⟨ea, eb, false, -1, 1⟩) (jb := jb) (fun H' h => hT.le h) hM (hM.onP hn1) (hM.onQ hn1) ⟨by omega, by omega⟩ (by omega) hab ⟨by show (-1 : Int) ≤ -1; omega, by show (-1 : Int) ≤ 32; omega⟩ hnw hnw rfl (.inl (by show 1 + (n + 3) / 4 ≤ (n + 3) / 4 + 1; omega)) (by omega) (by show 4 + 2 * ((2 ^ eb : Nat) : Int) ≤ _; omega) hj).use hs [0, 1, 2, 3, 4] rfl rfl ?_
  rintro _ _ H1 ⟨d1, hM1, hpg, hrd1, hwr1, hP, hQ, rfl, rfl⟩ hs
  simp only [DI_int', DB_bool, DS_string, DP_pointer, DSl_slice, DM_map, DA_agg, DTup_tuple, DCons_cons, DNil_nil, NN_some, BIf_true, BIf_false, BIf_same, List.toList_toArray, Bool.not_true, Bool.not_false]
  first | refine hs.ldf 6 rfl rfl ?_ | refine hs.ld 6 rfl rfl ?_
  simp only [DI_int', DB_bool, DS_string, DP_pointer, DSl_slice, DM_map, DA_agg, DTup_tuple, DCons_cons, DNil_nil, NN_some, BIf_true, BIf_false, BIf_same, List.toList_toArray, Bool.not_true, Bool.not_false]
  first | refine hs.ldf 6 rfl rfl ?_ | refine hs.ld 6 rfl rfl ?_
  simp only [DI_int', DB_bool, DS_string, DP_pointer, DSl_slice, DM_map, DA_agg, DTup_tuple, DCons_cons, DNil_nil, NN_some, BIf_true, BIf_false, BIf_same, List.toList_toArray, Bool.not_true, Bool.not_false]
  refine hs.ldw 5 rfl rfl ?_
  refine hs.ldf 5 rfl rfl ?_
  simp only [DI_int', DB_bool, DS_string, DP_pointer, DSl_slice, DM_map, DA_agg, DTup_tuple, DCons_cons, DNil_nil, NN_some, BIf_true, BIf_false, BIf_same, List.toList_toArray, Bool.not_true, Bool.not_false]
  refine QCall.use (rFits_ok ((2 ^ eb : Nat) : Int) H1) ?_
  rw [show rfitsN ((2 ^ eb : Nat) : Int) = (eb : Int) by unfold rfitsN; rw [lg_pow (by omega)]]
  simp only [DI_int', DB_bool, DS_string, DP_pointer, DSl_slice, DM_map, DA_agg, DTup_tuple, DCons_cons, DNil_nil, NN_some, BIf_true, BIf_false, BIf_same, List.toList_toArray, Bool.not_true, Bool.not_false]
  refine QCall.use (rShare_ok eb (by omega) H1) ?_
  simp only [DI_int', DB_bool, DS_string, DP_pointer, DSl_slice, DM_map, DA_agg, DTup_tuple, DCons_cons, DNil_nil, NN_some, BIf_true, BIf_false, BIf_same, List.toList_toArray, Bool.not_true, Bool.not_false]
  first | refine hs.ldf 6 rfl rfl ?_ | refine hs.ld 6 rfl rfl ?_
  simp only [DI_int', DB_bool, DS_string, DP_pointer, DSl_slice, DM_map, DA_agg, DTup_tuple, DCons_cons, DNil_nil, NN_some, BIf_true, BIf_false, BIf_same, List.toList_toArray, Bool.not_true, Bool.not_false]
  rw [← uw_int]
  refine (RunM_tr (p := q) (q := p) (dp := dp) (ap := ap) (x := xQ n) (y := xP n) (cap := ρ) (peak := mx 0 (((2 ^ jb * 2 ^ eb : Nat) : Int) + ((2 ^ eb : Nat) : Int) + 4)) (TT := own H) (d := d1) (n := n) (j := ⟨ea, eb, true, -1, uw (Fft.pw half eb)⟩) (jb := jb) (fun H' h => hT.le h) hM1 (hM1.onQ hn1) (hM1.onP hn1) ⟨by omega, by omega⟩ (by omega) hab ⟨by show (-1 : Int) ≤ -1; omega, by show (-1 : Int) ≤ 32; omega⟩ hnw hnw rfl (.inr (by show 1 + (n + 3) / 4 ≤ (n + 3) / 4 + 1; omega)) (by omega) (by show 4 + 2 * ((2 ^ eb : Nat) : Int) ≤ _; omega) hj).use hs [1, 0, 2, 3, 4] rfl rfl ?_
  rintro _ _ H1 ⟨d2, hM2, hpg2, hrd2, hwr2, hP2, hQ2, rfl, rfl⟩ hs
  simp only [DI_int', DB_bool, DS_string, DP_pointer, DSl_slice, DM_map, DA_agg, DTup_tuple, DCons_cons, DNil_nil, NN_some, BIf_true, BIf_false, BIf_same, List.toList_toArray, Bool.not_true, Bool.not_false]
  first | refine hs.ldf 6 rfl rfl ?_ | refine hs.ld 6 rfl rfl ?_
  simp only [DI_int', DB_bool, DS_string, DP_pointer, DSl_slice, DM_map, DA_agg, DTup_tuple, DCons_cons, DNil_nil, NN_some, BIf_true, BIf_false, BIf_same, List.toList_toArray, Bool.not_true, Bool.not_false]
  refine (Words_tr (dp := dp) (d := d2) 1 n hM2.ok hM2.calm (hM2.onP hn1) hM2.per (by omega)).use hs [2] rfl rfl ?_
  rintro _ _ H1 ⟨b3, t, ht, rfl, rfl⟩ hs
  simp only [DI_int', DB_bool, DS_string, DP_pointer, DSl_slice, DM_map, DA_agg, DTup_tuple, DCons_cons, DNil_nil, NN_some, BIf_true, BIf_false, BIf_same, List.toList_toArray, Bool.not_true, Bool.not_false]
  refine BIf_beqp rfl (BIf_beqp rfl ?_)
  have hPn := made_words hn hw
  have hfin : pws d2 ⟨1, (n + 3) / 4, n⟩ 0 n = ws.map fun x => uw (zw x) := by
    have hQ2' : pws d2 (xP n) 0 n = rowsU ⟨ea, eb, true, -1, uw (Fft.pw half eb)⟩ d1 (xQ n) (2 ^ ea) := hQ2
    refine hQ2'.trans (rows_back hab (d := d) (x := xP n) (by rw [← hn, hnw]) (by rw [← hnw]; exact hPn) ?_)
    rw [← hnw]; exact hQ
  rw [hfin] at hs
  refine (rCanon_tr (A := A) (n := n) (m := m) (l := ws) (R := own H) (fun H' h => hb.le h) hn.symm (by omega)).use hs [5] rfl rfl ?_
  rintro _ _ H1 ⟨A', m', rfl, rfl⟩ hs
  simp only [DI_int', DB_bool, DS_string, DP_pointer, DSl_slice, DM_map, DA_agg, DTup_tuple, DCons_cons, DNil_nil, NN_some, BIf_true, BIf_false, BIf_same, List.toList_toArray, Bool.not_true, Bool.not_false]
  have hml : (ws.map fun x => uw (zw x)).length = n := by rw [List.length_map, hn]
  have hc1 : Cells H1 (some ⟨b3, 0, none⟩) (wordVals (ws.map fun x => uw (zw x))) := by
    have := Cells.row (hs.get 3 rfl) 0 n
    rw [List.drop_zero, List.take_of_length_le (by rw [wordVals_length, hml]; exact Nat.le_refl _)] at this
    exact this
  refine HCalls.use (Same_ok (some ⟨b3, 0, none⟩) A' n n m' (ws.map fun x => uw (zw x)) hml.symm (by omega) H1 hc1 (own_cells (hs.own 0 rfl))) ?_
  simp only [DI_int', DB_bool, DS_string, DP_pointer, DSl_slice, DM_map, DA_agg, DTup_tuple, DCons_cons, DNil_nil, NN_some, BIf_true, BIf_false, BIf_same, List.toList_toArray, Bool.not_true, Bool.not_false]
  exact hs.fin 1 rfl _

end Go.Proofs.YtbnhfcdagoigkaaDoor.Pas

end
