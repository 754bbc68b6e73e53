import Derived.Test.YtlgnlghmbcpmhaaGreatDoorProg
import Derived.LaidEql
import Derived.MapKept
import Derived.Test.YtlgnlghmbcpmhaaGreatDoorPkWholeProof2
set_option maxRecDepth 100000
set_option linter.unusedVariables false
set_option linter.unusedSimpArgs false
set_option linter.unnecessarySimpa false
set_option linter.unusedSectionVars false
open Go.IntKind (i64 u64)
namespace Go.Proofs.YtlgnlghmbcpmhaaGreatDoor
open Tryz (prog)
namespace W
open Go Go.Hw
theorem jw :prog.follows .mixedOrders=true:=by kernel_rfl
def nA (x1:Int)(H:Hp)(K:VK):Prop:=
 aq (decide (x1<0)) (K (.tuple #[U 0,I 1]) H) (aq (decide (x1>32)) (K (.tuple #[U 0,I 1]) H) ((0<=(u64.wrap x1)/\Hz 178 #[U (cT .u64 1 (u64.wrap x1))] H fun v1 H1=>kS v1 fun x2 x3=>(K (.tuple #[U x2,I x3]) H1))))
theorem nA.ok x1 H K (h:nA x1 H K):aa prog 118 #[I x1] H K:=
 bX jw Tryz.func118 rfl rfl h
def oR (x1 x2:Int)(H:Hp)(K:VK):Prop:=
 aq (decide (x1<0)) (K (.tuple #[U 0,I 1]) H) (aq (decide (x1>32)) (K (.tuple #[U 0,I 1]) H) (aq (x2==0) (Hz 310 #[I x1] H fun v1 H1=>kS v1 fun x3 x4=>(K (.tuple #[U x3,I x4]) H1)) (aq (x2==1) (Hz 311 #[I x1] H fun v4 H2=>kS v4 fun x5 x6=>(K (.tuple #[U x5,I x6]) H2)) (K (.tuple #[U 0,I 18]) H))))
theorem oR.ok x1 x2 H K (h:oR x1 x2 H K):aa prog 247 #[I x1,I x2] H K:=
 bX jw Tryz.func247 rfl rfl h
def nB (x1 x2:Int)(H:Hp)(K:VK):Prop:=
 Hz 247 #[I x1,I x2] H fun v1 H1=>kS v1 fun x3 x4=>(aq (x4 !=0) (K (.tuple #[.slice none 0 0,I x4]) H1) (aq (decide (x1>20)) (K (.tuple #[.slice none 0 0,I 14]) H1) ((0<=(u64.wrap x1)/\(0<=(1:Int)/\Hz 248 #[U x3,I (if 1>(cB .i64 (cT .i64 1 (u64.wrap x1)) 1)then 1 else(cB .i64 (cT .i64 1 (u64.wrap x1)) 1))] H1 fun v4 H2=>kc v4 fun A1 n1 m1 x5=>(K (.tuple #[.slice A1 n1 m1,I x5]) H2))))))
theorem nB.ok x1 x2 H K (h:nB x1 x2 H K):aa prog 345 #[I x1,I x2] H K:=
 bX jw Tryz.func345 rfl rfl h
def bQ.l15 (K:VK)(R10:OA->Nat->Nat->Addr->Int->OA->Nat->Nat->Int->Int->Hp->Prop):Nat->OA->Nat->Nat->Addr->Int->OA->Nat->Nat->Int->Int->Int->Int->OA->Nat->Nat->Int->Int->Hp->Prop
 |0,_,_,_,_,_,_,_,_,_,_,_,_,_,_,_,_,_,_=>False
 |k+1,A5,n7,m5,a2,x21,A6,n8,m6,x22,x23,x24,x25,A7,n9,m7,x26,x27,H=>
  let R15:=bQ.l15 K R10 k
  aq (decide (x27<x26)) (cz x27 n9 (NN A7 fun a3=>df H (a3.add (x27.toNat*1)) fun x28=>eh 120 #[U x28,U x23] H fun x29 H8=>Nw H8 (.row [U x29] 108 1) fun b2 H9=>jq prog 108 (.slice A6 n8 m6) (.slice (Oo b2) 1 1) H9 fun v18 H10=>aE v18 fun A8 n10 m8=>eh 120 #[U x23,U x22] H10 fun x30 H11=>R15 A5 n7 m5 a2 x21 A8 n10 m8 x22 x30 x24 x25 A7 n9 m7 x26 (i64.wrap (x27+1)) H11)) (R10 A5 n7 m5 a2 x21 A6 n8 m6 x24 (i64.wrap (x25+1)) H)
def bQ.l10 (K:VK):Nat->OA->Nat->Nat->Addr->Int->OA->Nat->Nat->Int->Int->Hp->Prop
 |0,_,_,_,_,_,_,_,_,_,_,_=>False
 |k+1,A3,n3,m3,a1,x12,A4,n4,m4,x13,x14,H=>
  let R10:=bQ.l10 K k
  aq (decide (x14<x13)) (aM H (a1.add 2) fun x15=>eh 246 #[U x12,U (u64.wrap (i64.wrap (x15+x14)))] H fun x16 H6=>aM H6 (a1.add 3) fun x17=>eh 246 #[U x16,U (u64.wrap x17)] H6 fun x18 H7=>aM H7 ((a1.add 0).add 1) fun x19=>aM H7 ((a1.add 0).add 1) fun x20=>lO n3 m3 (some (i64.wrap (x14*x19))) (some (i64.wrap ((i64.wrap (x14+1))*x20))) fun n5 n6=>(∃ k,bQ.l15 K R10 k A3 n3 m3 a1 x12 A4 n4 m4 x16 x18 x13 x14 (iG A3 m3 n5 1) (n6-n5) (m3-n5) ((n6-n5:Nat):Int) 0 H7)) (K (.tuple #[.slice A4 n4 m4,I 0]) H)
def bQ (A1:OA)(n1 m1:Nat)(x1 x2 x3 x4 x5 x6:Int)(H:Hp)(K:VK):Prop:=
 Nw H (Oa #[I x1,I x2,I x3,I x4] 464) fun b1 H1=>Hz 247 #[I x5,I x6] H1 fun v1 H2=>kS v1 fun x7 x8=>(aq (x8 !=0) (K (.tuple #[.slice none 0 0,I x8]) H2) (aY H2 ((O b1).add 0) 2 fun l4=>fP 297 #[.agg l4.toArray] H2 fun c1 H3=>aq (!c1) (K (.tuple #[.slice none 0 0,I 19]) H3) (aM H3 (((O b1).add 0).add 0) fun x9=>aM H3 (((O b1).add 0).add 1) fun x10=>aq ((n1:Int) !=(i64.wrap (x9*x10))) (K (.tuple #[.slice none 0 0,I 19]) H3) (aY H3 (O b1) 4 fun l5=>fP 368 #[.agg l5.toArray] H3 fun c2 H4=>aq (!c2) (K (.tuple #[.slice none 0 0,I 2]) H4) (jA prog 108 0 (n1:Int) H4 fun v8 H5=>aE v8 fun A2 n2 m2=>aM H5 (((O b1).add 0).add 0) fun x11=>(∃ k,bQ.l10 K k A1 n1 m1 (O b1) x7 A2 n2 m2 x11 0 H5))))))
def bQ.l10.L (K:VK)(k:Nat):de:=fun E D H=>
 DG (E.get? 0) fun w0=>aE w0 fun A3 n3 m3=>eN E 5 fun a1=>eI E 10 .u64 fun x12=>DG (E.get? 12) fun w12=>aE w12 fun A4 n4 m4=>eI E 54 .i64 fun x13=>eI E 55 .i64 fun x14=>ax D (bQ.l10 K k A3 n3 m3 a1 x12 A4 n4 m4 x13 x14 H)
def bQ.l15.L (K:VK)(R10:OA->Nat->Nat->Addr->Int->OA->Nat->Nat->Int->Int->Hp->Prop)(k:Nat):de:=fun E D H=>
 DG (E.get? 0) fun w0=>aE w0 fun A5 n7 m5=>eN E 5 fun a2=>eI E 10 .u64 fun x21=>DG (E.get? 12) fun w12=>aE w12 fun A6 n8 m6=>eI E 14 .u64 fun x22=>eI E 15 .u64 fun x23=>eI E 54 .i64 fun x24=>eI E 55 .i64 fun x25=>DG (E.get? 82) fun w82=>aE w82 fun A7 n9 m7=>eI E 83 .i64 fun x26=>eI E 84 .i64 fun x27=>ax D (bQ.l15 K R10 k A5 n7 m5 a2 x21 A6 n8 m6 x22 x23 x24 x25 A7 n9 m7 x26 x27 H)
def bQ.Λ15 (_:VK)(_R10:OA->Nat->Nat->Addr->Int->OA->Nat->Nat->Int->Int->Hp->Prop)(_R15:OA->Nat->Nat->Addr->Int->OA->Nat->Nat->Int->Int->Int->Int->OA->Nat->Nat->Int->Int->Hp->Prop):aI:=aI.none (fun _=>none)
def bQ.Λ10 (K:VK)(R10:OA→Nat→Nat→Addr→Int→OA→Nat→Nat→Int→Int→Hp→Prop):aI:=⟨fun i=>none,fun i=>match Nat.beq i 15 with|true=>some (fun E D H=>∃ k,bQ.l15.L K R10 k E D H)|false=>none,(fun _=>none)⟩
def bQ.Λ (K:VK):aI:=⟨fun i=>none,fun i=>match Nat.beq i 10 with|true=>some (fun E D H=>∃ k,bQ.l10.L K k E D H)|false=>none,(fun _=>none)⟩
theorem bQ.ok A1 n1 m1 x1 x2 x3 x4 x5 x6 H K (h:bQ A1 n1 m1 x1 x2 x3 x4 x5 x6 H K):aa prog 361 #[.slice A1 n1 m1,.agg #[I x1,I x2,I x3,I x4],I x5,I x6] H K:=
 dV (Λ:=(bQ.Λ K)) jw Tryz.func361 rfl rfl h (oC (fun E D H h=>by
   refine Safe.cJ (bQ.l10.L K) (fun E D H h=>?_) (fun k E D H h=>?_) E D H h
   .obtain⟨w0,e0,g1⟩:=DG.out h;obtain⟨A3,n3,m3,rfl,g2⟩:=aE.out g1;obtain⟨w5,e5,g3⟩:=DG.out g2;obtain⟨pw5,rfl,g4⟩:=DP.out g3;obtain⟨a1,rfl,g5⟩:=NN.out g4;obtain⟨w10,e10,g6⟩:=DG.out g5;obtain⟨x12,rfl,g7⟩:=DI.out g6;obtain⟨w12,e12,g8⟩:=DG.out g7;obtain⟨A4,n4,m4,rfl,g9⟩:=aE.out g8;obtain⟨w54,e54,g10⟩:=DG.out g9;obtain⟨x13,rfl,g11⟩:=DI.out g10;obtain⟨w55,e55,g12⟩:=DG.out g11;obtain⟨x14,rfl,g13⟩:=DI.out g12;obtain⟨rfl,h'⟩:=ax.out g13;exact h'
   .obtain⟨w0,e0,g1⟩:=DG.out h;obtain⟨A3,n3,m3,rfl,g2⟩:=aE.out g1;obtain⟨a1,e5,g5⟩:=GN g2;obtain⟨x12,e10,g7⟩:=GI g5;obtain⟨w12,e12,g8⟩:=DG.out g7;obtain⟨A4,n4,m4,rfl,g9⟩:=aE.out g8;obtain⟨x13,e54,g11⟩:=GI g9;obtain⟨x14,e55,g13⟩:=GI g11;obtain⟨rfl,h'⟩:=ax.out g13;exact cU (Λ:=(bQ.Λ10 K (bQ.l10 K k))) jw [] (ag.cons e0 (ag.cons e5 (ag.cons e10 (ag.cons e12 (ag.cons e54 (ag.cons e55 (ag.nil _))))))) h' (oC (fun E D H h=>by
      refine Safe.cJ (bQ.l15.L K (bQ.l10 K k)) (fun E D H h=>?_) (fun k E D H h=>?_) E D H h
      .obtain⟨w0,e0,g1⟩:=DG.out h;obtain⟨A5,n7,m5,rfl,g2⟩:=aE.out g1;obtain⟨w5,e5,g3⟩:=DG.out g2;obtain⟨pw5,rfl,g4⟩:=DP.out g3;obtain⟨a2,rfl,g5⟩:=NN.out g4;obtain⟨w10,e10,g6⟩:=DG.out g5;obtain⟨x21,rfl,g7⟩:=DI.out g6;obtain⟨w12,e12,g8⟩:=DG.out g7;obtain⟨A6,n8,m6,rfl,g9⟩:=aE.out g8;obtain⟨w14,e14,g10⟩:=DG.out g9;obtain⟨x22,rfl,g11⟩:=DI.out g10;obtain⟨w15,e15,g12⟩:=DG.out g11;obtain⟨x23,rfl,g13⟩:=DI.out g12;obtain⟨w54,e54,g14⟩:=DG.out g13;obtain⟨x24,rfl,g15⟩:=DI.out g14;obtain⟨w55,e55,g16⟩:=DG.out g15;obtain⟨x25,rfl,g17⟩:=DI.out g16;obtain⟨w82,e82,g18⟩:=DG.out g17;obtain⟨A7,n9,m7,rfl,g19⟩:=aE.out g18;obtain⟨w83,e83,g20⟩:=DG.out g19;obtain⟨x26,rfl,g21⟩:=DI.out g20;obtain⟨w84,e84,g22⟩:=DG.out g21;obtain⟨x27,rfl,g23⟩:=DI.out g22;obtain⟨rfl,h'⟩:=ax.out g23;exact h'
      .obtain⟨w0,e0,g1⟩:=DG.out h;obtain⟨A5,n7,m5,rfl,g2⟩:=aE.out g1;obtain⟨a2,e5,g5⟩:=GN g2;obtain⟨x21,e10,g7⟩:=GI g5;obtain⟨w12,e12,g8⟩:=DG.out g7;obtain⟨A6,n8,m6,rfl,g9⟩:=aE.out g8;obtain⟨x22,e14,g11⟩:=GI g9;obtain⟨x23,e15,g13⟩:=GI g11;obtain⟨x24,e54,g15⟩:=GI g13;obtain⟨x25,e55,g17⟩:=GI g15;obtain⟨w82,e82,g18⟩:=DG.out g17;obtain⟨A7,n9,m7,rfl,g19⟩:=aE.out g18;obtain⟨x26,e83,g21⟩:=GI g19;obtain⟨x27,e84,g23⟩:=GI g21;obtain⟨rfl,h'⟩:=ax.out g23;exact cU (Λ:=(bQ.Λ15 K (bQ.l10 K k) (bQ.l15 K (bQ.l10 K k) k))) jw [] (ag.cons e0 (ag.cons e5 (ag.cons e10 (ag.cons e12 (ag.cons e14 (ag.cons e15 (ag.cons e54 (ag.cons e55 (ag.cons e82 (ag.cons e83 (ag.cons e84 (ag.nil _)))))))))))) h' oN) oN)) oN)
def dk.l3 (K:VK):Nat->Int->OA->Nat->Nat->OA->Nat->Nat->Int->Int->Hp->Prop
 |0,_,_,_,_,_,_,_,_,_,_=>False
 |k+1,x2,A3,n3,m3,A4,n4,m4,x3,x4,H=>
  let R3:=dk.l3 K k
  aq (decide (x4<x3)) (cz x4 n4 (NN A4 fun a1=>df H (a1.add (x4.toNat*1)) fun x5=>eh 120 #[U x5,U x2] H fun x6 H2=>cz x4 n3 (NN A3 fun a2=>St H2 ((a2.add (x4.toNat*1)).add 0) (U x6) fun H3=>R3 x2 A3 n3 m3 A4 n4 m4 x3 (i64.wrap (x4+1)) H3))) (K (.slice A3 n3 m3) H)
def dk (A1:OA)(n1 m1:Nat)(x1:Int)(H:Hp)(K:VK):Prop:=
 jA prog 108 (n1:Int) (n1:Int) H fun v1 H1=>aE v1 fun A2 n2 m2=>(∃ k,dk.l3 K k x1 A2 n2 m2 A1 n1 m1 (n1:Int) 0 H1)
def dk.l3.L (K:VK)(k:Nat):de:=fun E D H=>
 eI E 1 .u64 fun x2=>DG (E.get? 5) fun w5=>aE w5 fun A3 n3 m3=>DG (E.get? 11) fun w11=>aE w11 fun A4 n4 m4=>eI E 12 .i64 fun x3=>eI E 13 .i64 fun x4=>ax D (dk.l3 K k x2 A3 n3 m3 A4 n4 m4 x3 x4 H)
def dk.Λ3 (_:VK)(_R3:Int->OA->Nat->Nat->OA->Nat->Nat->Int->Int->Hp->Prop):aI:=aI.none (fun _=>none)
def dk.Λ (K:VK):aI:=⟨fun i=>none,fun i=>match Nat.beq i 3 with|true=>some (fun E D H=>∃ k,dk.l3.L K k E D H)|false=>none,(fun _=>none)⟩
theorem dk.ok A1 n1 m1 x1 H K (h:dk A1 n1 m1 x1 H K):aa prog 362 #[.slice A1 n1 m1,U x1] H K:=
 dV (Λ:=(dk.Λ K)) jw Tryz.func362 rfl rfl h (oC (fun E D H h=>by
   refine Safe.cJ (dk.l3.L K) (fun E D H h=>?_) (fun k E D H h=>?_) E D H h
   .obtain⟨w1,e1,g1⟩:=DG.out h;obtain⟨x2,rfl,g2⟩:=DI.out g1;obtain⟨w5,e5,g3⟩:=DG.out g2;obtain⟨A3,n3,m3,rfl,g4⟩:=aE.out g3;obtain⟨w11,e11,g5⟩:=DG.out g4;obtain⟨A4,n4,m4,rfl,g6⟩:=aE.out g5;obtain⟨w12,e12,g7⟩:=DG.out g6;obtain⟨x3,rfl,g8⟩:=DI.out g7;obtain⟨w13,e13,g9⟩:=DG.out g8;obtain⟨x4,rfl,g10⟩:=DI.out g9;obtain⟨rfl,h'⟩:=ax.out g10;exact h'
   .obtain⟨x2,e1,g2⟩:=GI h;obtain⟨w5,e5,g3⟩:=DG.out g2;obtain⟨A3,n3,m3,rfl,g4⟩:=aE.out g3;obtain⟨w11,e11,g5⟩:=DG.out g4;obtain⟨A4,n4,m4,rfl,g6⟩:=aE.out g5;obtain⟨x3,e12,g8⟩:=GI g6;obtain⟨x4,e13,g10⟩:=GI g8;obtain⟨rfl,h'⟩:=ax.out g10;exact cU (Λ:=(dk.Λ3 K (dk.l3 K k))) jw [] (ag.cons e1 (ag.cons e5 (ag.cons e11 (ag.cons e12 (ag.cons e13 (ag.nil _)))))) h' oN) oN)
def lz (x1 x2 x3 x4:Int)(H:Hp)(K:VK):Prop:=
 Nw H (Oa #[I x1,I x2,I x3,I x4] 464) fun b1 H1=>aM H1 ((O b1).add 2) fun x5=>fP 374 #[I x5] H1 fun c1 H2=>aq c1 (aM H2 ((O b1).add 3) fun x6=>fP 374 #[I x6] H2 fun c2 H3=>aq c2 (aM H3 (((O b1).add 0).add 0) fun x7=>aM H3 ((O b1).add 2) fun x8=>aq (decide ((i64.wrap (x7-1))<=(i64.wrap (4294967295-x8)))) (aM H3 (((O b1).add 0).add 1) fun x9=>aM H3 ((O b1).add 3) fun x10=>K (.bool (decide ((i64.wrap (x9-1))<=(i64.wrap (4294967295-x10))))) H3) (K (.bool false) H3)) (K (.bool false) H3)) (K (.bool false) H2)
theorem lz.ok x1 x2 x3 x4 H K (h:lz x1 x2 x3 x4 H K):aa prog 368 #[.agg #[I x1,I x2,I x3,I x4]] H K:=
 bX jw Tryz.func368 rfl rfl h
def mD (x1:Int)(H:Hp)(K:VK):Prop:=
 aq (decide (x1>=0)) (K (.bool (decide (x1<=(4294967295:Int)))) H) (K (.bool false) H)
theorem mD.ok x1 H K (h:mD x1 H K):aa prog 374 #[I x1] H K:=
 bX jw Tryz.func374 rfl rfl h
end W
namespace Ker
open Go Go.Hw W Shp Gol Fft
theorem oo (a n:Nat):a^n%18446744069414584321=(pw (zp a) n).val:=congrArg Fin.val (tO a n)
theorem iE (x y:Zp):x.val*y.val%18446744069414584321=(x*y).val:=(Fin.val_mul x y).symm
theorem du (x:Zp):x.val<2^64:=by have:=x.isLt;omega
theorem Hg (x:UInt64)(y:Zp):x.toNat*y.val%18446744069414584321=(zw x*y).val:=by
 rw[<- iE];show _=x.toNat%18446744069414584321*y.val%18446744069414584321
 rw[tc]
theorem CC {k:Nat}(hk:k<=32)(H:Hp):aa prog 349 #[I (k:Int)] H (RetE (U ((rt k).val:Int)) H):=by
 apply oQ.ok;unfold oQ;rw[fC];refine⟨by omega,?_⟩;rw[show(18446744069414584320:Int)=((18446744069414584320:Nat):Int)from rfl,qq (k:=.u64) rfl (by show k<=64;omega)];have hlt:18446744069414584320/2^k<2^64:=Nat.lt_of_le_of_lt (Nat.div_le_self _ _) (by decide);refine aa.use (sO (a:=7) (by decide) hlt H) ?_;rw[oo];simp only[HV];exact RetE.mk _ _
theorem lB {k:Nat}(hk:k<=32)(H:Hp):aa prog 348 #[I (k:Int)] H (RetE (.bool true) H):=by
 apply oP.ok;unfold oP;refine aA (by omega) ?_;rw[decide_eq_true (by omega)];exact RetE.mk _ _
theorem ES {k:Nat}(hk:k<=32):pw (rt k) od=pw (rt k) (2^k-1):=by
 have e:=rI hk;have hp:=pow_pos k;generalize hq:18446744069414584320/2^k=q at e;have hq1:1<=q:=by
  rcases Nat.eq_zero_or_pos q with h|h
  .rw[h,Nat.zero_mul]at e;omega
  .exact h
 have e2:od=2^k*(q-1)+(2^k-1):=by
  unfold od;rw[Nat.mul_sub_one,Nat.mul_comm];have:1*2^k<=q*2^k:=Nat.mul_le_mul_right _ hq1;omega
 rw[e2,gM,dm,tu hk,iF];grind
theorem LL {k:Nat}(hk:k<=32):(rt k).val%18446744069414584321≠0:=fun h=>by
 have h1:rt k=0:=Fin.ext (by rw[Nat.mod_eq_of_lt (rt k).isLt]at h;exact h);have h2:=FQ hk;rw[h1]at h2;have h3:(0:Zp)*pw 0 (2^k-1)=0:=by grind
 rw[h3]at h2;exact absurd h2 (by decide)
theorem wZ {k:Nat}(hk:k<=32)(d:Bool)(H:Hp):aa prog 247 #[I (k:Int),I (if d=true then 1 else 0)] H (RetE (.tuple #[U ((bU d k).val:Int),I 0]) H):=by
 apply oR.ok;unfold oR;refine au (by omega) (au (by omega) ?_);cases d with
 |false=>
  refine bH rfl ?_;have h1:aa prog 310 #[I (k:Int)] H (RetE (.tuple #[U ((rt k).val:Int),I 0]) H):=by
   apply oO.ok;unfold oO;refine aa.use (lB hk H) ?_;simp only[HV];refine aa.use (CC hk H) ?_;simp only[HV];exact RetE.mk _ _
  refine aa.use h1 ?_;simp only[HV];exact RetE.mk _ _
 |true=>
  refine bT (by decide) (bH rfl ?_);have h1:aa prog 311 #[I (k:Int)] H (RetE (.tuple #[U ((bU true k).val:Int),I 0]) H):=by
   apply oL.ok;unfold oL;refine aa.use (lB hk H) ?_;simp only[HV];refine aa.use (CC hk H) ?_;simp only[HV];refine aa.use (zK (du _) (LL hk) H) ?_;have e:se (rt k).val=(bU true k).val:=by
    unfold se;rw[oo,jm,ES hk];rfl
   rw[e];simp only[HV];exact RetE.mk _ _
  refine aa.use h1 ?_;simp only[HV];exact RetE.mk _ _
def iP (z:Zp)(n:Nat):List UInt64:=(List.range n).map fun i=>uw (pw z i)
theorem su (z:Zp)(n:Nat):(iP z n).length=n:=by simp[iP]
theorem Hs (z:Zp){n i:Nat}(h:i<n):(iP z n)[i]? =some (uw (pw z i)):=by
 unfold iP;rw[List.getElem?_map,List.getElem?_range h];rfl
theorem ur (K:VK)(z:Zp){n r mr:Nat}(hn:n<=1048576){L:List As}
  (hK:∀ H,Sep (ah r (.row (af (iP z n)) 108 mr)::L) H->K (.tuple #[.slice (Oo r) n n,I 0]) H):
  ∀(t i:Nat) (ys:List UInt64) (H:Hp),i+t=n->ys.length=t->Sep (ah r (.row (af (iP z i++ys)) 108 mr)::L) H->
   cZ.l6 K (t+1) (z.val:Int) (Oo r) n n ((pw z i).val:Int) (n:Int) (i:Int) H
 |0,i,ys,H,hi,hy,hs=>by
  unfold cZ.l6;refine au (by omega) (hK H ?_);obtain rfl:ys=[]:=List.length_eq_zero_iff.1 hy;rw[List.append_nil,show i=n by omega]at hs;exact hs
 |t+1,i,ys,H,hi,hy,hs=>by
  unfold cZ.l6;refine aA (by omega) ⟨by omega,by omega,?_⟩;show St H _ _ _
  rw[Int.toNat_natCast,Nat.mul_one,Addr.aP,Addr.aP,Nat.zero_add,Nat.add_zero];refine hs.str 0 rfl (by rw[aB,List.length_append,su];omega) rfl fun H hs=>?_;have e:(af (iP z i++ys)).set i (U ((pw z i).val:Int))=af (iP z (i+1)++ys.drop 1):=by
   rw[<- lh,ou];congr 1;rw[List.set_append_right _ _ (by rw[su];exact Nat.le_refl _),su,Nat.sub_self];unfold iP;rw[List.range_succ,List.map_append,List.append_assoc];congr 1;cases ys with
   |nil=>simp at hy
   |cons y ys=>rfl
  rw[e]at hs;refine aa.use (ib (du _) (du _) H) ?_;rw[iE];simp only[HV];rw[bg (x:=(i:Int)+1),show(i:Int)+1=((i+1:Nat):Int) by omega];exact ur K z hn hK t (i+1) (ys.drop 1) H (by omega) (by rw[List.length_drop];omega) hs
theorem xQ (z:Zp)(n:Nat)(hn:n<=1048576:=by omega):Tr prog 248 #[U (z.val:Int),I (n:Int)] [] fun v M=>
  ∃ r,v= .tuple #[.slice (Oo r) n n,I 0]/\M=[ah r (.row (af (iP z n)) 108 (n*1))]:=fun H hs=>by
 apply cZ.ok;unfold cZ;refine au (by omega) (au (by omega) ?_);refine hs.nX fi rfl (n:=n) (m:=n) rfl rfl (Nat.le_refl _) (by omega) (by omega) fun r H hs=>?_
 simp only[HV];refine⟨n+1,?_⟩;refine ur (L:=[]) _ z hn (fun H hs=>⟨_,⟨r,rfl,rfl⟩,hs⟩) n 0 (List.replicate n 0) H (by omega) (by simp) ?_;rw[mU]at hs;exact hs
theorem zW (k:Nat)(hk:k<=20)(d:Bool):Tr prog 345 #[I (k:Int),I (if d=true then 1 else 0)] [] fun v M=>
  ∃ r,v= .tuple #[.slice (Oo r) (2^(k-1)) (2^(k-1)),I 0]/\M=[ah r (.row (af (iP (bU d k) (2^(k-1)))) 108 (2^(k-1)*1))]:=fun H hs=>by
 have h20:=cL hk;have h19:=cL (show k-1<=19 by omega);apply nB.ok;unfold nB;refine aa.use (wZ (by omega) d H) ?_;simp only[HV];refine aF rfl (au (by omega) ?_);rw[fC];refine⟨by omega,by decide,?_⟩;have e:(if(1:Int)>cB .i64 (cT .i64 1 (k:Int)) 1 then(1:Int)else cB .i64 (cT .i64 1 (k:Int)) 1)=((2^(k-1):Nat):Int):=by
  have:∀ k:Nat,k<21->(if(1:Int)>cB .i64 (cT .i64 1 (k:Int)) 1 then(1:Int)else cB .i64 (cT .i64 1 (k:Int)) 1)=((2^(k-1):Nat):Int):=by decide +kernel
  exact this k (by omega)
 rw[e];refine(xQ (bU d k) (2^(k-1))).use hs [] rfl rfl ?_;rintro _ _ H ⟨r,rfl,rfl⟩ hs;simp only[HV];exact⟨_,⟨r,rfl,rfl⟩,hs⟩
def half :Zp:=9223372034707292161
theorem Al :half*2=1:=by decide
theorem J4 :pw 2 (od+1)=1:=by
 unfold od;rw[<- AX 64 2 (18446744069414584319+1) (by decide)];decide +kernel
theorem HD (k:Nat):pw (pw 2 k) od=pw half k:=by
 have h1:pw (pw 2 k) od*pw 2 k=1:=by
  have:pw (pw 2 k) (od+1)=pw (pw 2 k) od*pw 2 k:=rfl;rw[<- this,<-dm,Nat.mul_comm,dm,J4,iF]
 have h2:pw half k*pw 2 k=1:=by rw[<- kC,Al,iF]
 grind
theorem BE (k:Nat):zp (2^k)=pw 2 k:=tO 2 k
theorem Lh (k:Nat):2^k%18446744069414584321≠0:=fun h=>by
 have h1:zp (2^k)=0:=Fin.ext h;have h2:pw half k*pw 2 k=1:=by rw[<- kC,Al,iF]
 rw[<- BE,h1]at h2;have h3:pw half k*0=0:=by grind
 rw[h3]at h2;exact absurd h2 (by decide)
theorem rW {k:Nat}(hk:k<=32)(H:Hp):aa prog 118 #[I (k:Int)] H (RetE (.tuple #[U ((pw half k).val:Int),I 0]) H):=by
 have h32:=cL hk;apply nA.ok;unfold nA;refine au (by omega) (au (by omega) ?_);rw[fC];refine⟨by omega,?_⟩;rw[show(1:Int)=((1:Nat):Int)from rfl,DY (x:=1) rfl,Nat.one_mul,Nat.mod_eq_of_lt (by omega)];refine aa.use (zK (by omega) (Lh k) H) ?_;have e:se (2^k)=(pw half k).val:=by
  unfold se;rw[oo,BE,HD]
 rw[e];simp only[HV];exact RetE.mk _ _
def k8 (z:Zp)(l:List UInt64):List UInt64:=l.map fun x=>uw (zw x*z)
theorem qp (z:Zp)(l:List UInt64):(k8 z l).length=l.length:=by simp[k8]
theorem Hf (x w:UInt64):x.toNat*w.toNat%18446744069414584321=(zw x*zw w).val:=by
 rw[<- iE];show _=x.toNat%18446744069414584321*(w.toNat%18446744069414584321)%18446744069414584321
 rw[<- Nat.mul_mod]
theorem vG (K:VK)(w:UInt64){R:As}{A:OA}{n m r mr:Nat}{l:List UInt64}(hR:∀ H,R H->Cells H A (af l))(hl:l.length=n)(hn:n<=4294967296)
  (hK:∀ H,Sep [ah r (.row (af (k8 (zw w) l)) 108 mr),R] H->K (.slice (Oo r) n n) H):
  ∀(t i:Nat) (ys:List UInt64) (H:Hp),i+t=n->ys.length=t->Sep [ah r (.row (af (k8 (zw w) (l.take i)++ys)) 108 mr),R] H->
   dk.l3 K (t+1) (w.toNat:Int) (Oo r) n n A n m (n:Int) (i:Int) H
 |0,i,ys,H,hi,hy,hs=>by
  unfold dk.l3;refine au (by omega) (hK H ?_);obtain rfl:ys=[]:=List.length_eq_zero_iff.1 hy;rw[List.append_nil,List.take_of_length_le (by omega)]at hs;exact hs
 |t+1,i,ys,H,hi,hy,hs=>by
  have hc:Cells H A (af l):=by
   obtain⟨H1,h1,hle⟩:=hs.fU 1 rfl;exact(hR H1 h1).le hle
  unfold dk.l3;refine aA (by omega) ?_;have hil:i<l.length:=by omega
  have hg:(af l)[i]? =some (U ((l[i]).toNat:Int)):=by
   rw[ct,List.getElem?_eq_getElem hil];rfl
  refine hc.read hg rfl (by rw[aB];omega) ?_;simp only[HV];refine aa.use (ib (l[i]).toNat_lt w.toNat_lt H) ?_;rw[Hf];simp only[HV];refine⟨by omega,by omega,?_⟩;show St H _ _ _
  rw[Int.toNat_natCast,Nat.mul_one,Addr.aP,Addr.aP,Nat.zero_add,Nat.add_zero];have hlt:(k8 (zw w) (l.take i)).length=i:=by rw[qp,List.length_take];omega
  refine hs.str 0 rfl (by rw[aB,List.length_append,hlt];omega) rfl fun H hs=>?_;have e:(af (k8 (zw w) (l.take i)++ys)).set i (U ((zw l[i]*zw w).val:Int))=af (k8 (zw w) (l.take (i+1))++ys.drop 1):=by
   rw[<- lh,ou];congr 1;rw[List.set_append_right _ _ (by omega),hlt,Nat.sub_self];unfold k8;rw[List.take_add_one,List.getElem?_eq_getElem hil];simp only[Option.toList,List.map_append,List.append_assoc];congr 1;cases ys with
   |nil=>simp at hy
   |cons y ys=>rfl
  rw[e]at hs;rw[bg (x:=(i:Int)+1),show(i:Int)+1=((i+1:Nat):Int) by omega];exact vG K w hR hl hn hK t (i+1) (ys.drop 1) H (by omega) (by rw[List.length_drop];omega) hs
theorem GK (w:UInt64){R:As}{A:OA}{n m:Nat}{l:List UInt64}(hR:∀ H,R H->Cells H A (af l))(hl:l.length=n)(hn:n<=4294967296):
  Tr prog 362 #[.slice A n m,U (w.toNat:Int)] [R] fun v M=>
  ∃ r,v= .slice (Oo r) n n/\M=[ah r (.row (af (k8 (zw w) l)) 108 (n*1)),R]:=fun H hs=>by
 apply dk.ok;unfold dk;refine hs.nX fi rfl (n:=n) (m:=n) rfl rfl (Nat.le_refl _) (by omega) (by omega) fun r H hs=>?_
 simp only[HV];refine⟨n+1,?_⟩;refine vG _ w hR hl hn (fun H hs=>⟨_,⟨r,rfl,rfl⟩,hs⟩) n 0 (List.replicate n 0) H (by omega) (by simp) ?_;rw[mU]at hs;exact hs.re [1,0] rfl
end Ker
namespace Fft
structure Pr (q:Nat):Prop where
 two:2<=q
 div:∀ d,d∣q->d=1\/d=q
theorem Pr.Mj {q a:Nat}(h:Pr q)(ha:¬q∣a):Nat.Coprime q a:=by
 rcases h.div _ (Nat.gcd_dvd_left q a)with e|e
 .exact e
 .exact absurd (e▸Nat.gcd_dvd_right q a) ha
theorem Pr.mul {q a b:Nat}(h:Pr q)(hd:q∣a*b):q∣a\/q∣b:=by
 by_cases ha:q∣a
 .exact .inl ha
 .exact .inr ((h.Mj ha).dvd_of_dvd_mul_left hd)
theorem yr :∀(t d n:Nat),2<=d->n<d+t->2<=n->(∀ e,2<=e->e<d->¬e∣n)->∃ q,Pr q/\q∣n/\(q=n\/q*q<=n)
 |0,d,n,h1,h2,h3,h4=>absurd (Nat.dvd_refl n) (h4 n h3 (by omega))
 |t+1,d,n,h1,h2,h3,h4=>by
  by_cases hd:d∣n
  .refine⟨d,⟨h1,fun e he=>?_⟩,hd,?_⟩
   .by_cases e0:e=0
    .subst e0;have:=Nat.eq_zero_of_zero_dvd he;omega
    by_cases e1:e=1
    .exact .inl e1
    .have hle:=Nat.le_of_dvd (by omega) he;by_cases e2:e=d
     .exact .inr e2
     .exact absurd (Nat.dvd_trans he hd) (h4 e (by omega) (by omega))
   .obtain⟨m,rfl⟩:=hd;by_cases hm:m<d
    .by_cases m2:2<=m
     .exact absurd (Nat.dvd_mul_left m d) (h4 m m2 hm)
     .left;have:m≠0:=fun e=>by subst e;omega
      obtain rfl:m=1:=by omega
      omega
    .exact .inr (Nat.mul_le_mul_left d (by omega))
  .refine yr t (d+1) n (by omega) (by omega) h3 fun e he1 he2=>?_
   by_cases e':e=d
   .subst e';exact hd
   .exact h4 e he1 (by omega)
def qR :List Nat->Nat
 | []=>1
 |x::l=>x*qR l
theorem Hq {a b:List Nat}(h:a.Perm b):qR a=qR b:=by
 induction h with
 |nil=>rfl
 |cons x _ ih=>show x*_=x*_;rw[ih]
 |swap x y l=>show y*(x*_)=x*(y*_);rw[<- Nat.mul_assoc,<-Nat.mul_assoc,Nat.mul_comm y x]
 |trans _ _ h1 h2=>exact h1.trans h2
theorem vg :∀(a b:List Nat),a.Nodup->(∀ x∈a,x∈b)->b.length<=a.length->a.Perm b
 | [],b,_,_,h=>by rw[List.length_eq_zero_iff.1 (Nat.le_zero.1 h)]
 |x::a,b,hn,hs,h=>by
  obtain⟨h1,h2⟩:=List.nodup_cons.1 hn;have hx:=hs x List.mem_cons_self;refine List.Perm.trans (List.Perm.cons x (vg a (b.erase x) h2 (fun y hy=>?_) ?_)) (List.perm_cons_erase hx).symm
  .exact(List.mem_erase_of_ne (fun e=>h1 (by rw[<- e];exact hy))).2 (hs y (List.mem_cons_of_mem _ hy))
  .rw[List.length_erase_of_mem hx];simp at h;omega
theorem Cv (q a:Nat):∀ l:List Nat,qR (l.map fun x=>a*x%q)%q=a^l.length*qR l%q
 | []=>by simp[qR]
 |x::l=>by
  show(a*x%q)*qR (l.map fun x=>a*x%q)%q=a^(l.length+1)*(x*qR l)%q
  rw[Nat.mul_mod,Nat.mod_mod,Cv q a l,<-Nat.mul_mod,Nat.pow_succ];congr 1;rw[Nat.mul_mul_mul_comm,Nat.mul_comm a]
theorem Pr.qR {q:Nat}(h:Pr q):∀ l:List Nat,(∀ x∈l,¬q∣x)->¬q∣Fft.qR l
 | [],_,hd=>by have h1:q<=1:=Nat.le_of_dvd (by decide) hd;have:=h.two;omega
 |x::l,hl,hd=>by
  rcases h.mul hd with e|e
  .exact hl x List.mem_cons_self e
  .exact h.qR l (fun y hy=>hl y (List.mem_cons_of_mem _ hy)) e
theorem Ci {q a b:Nat}(h:a%q=b%q)(hab:b<=a):q∣a-b:=by
 rw[Nat.dvd_iff_mod_eq_zero];exact Nat.sub_mod_eq_zero_of_mod_eq h
theorem Pr.EV {q a:Nat}(h:Pr q)(ha:¬q∣a):a^(q-1)%q=1:=by
 have h2:=h.two
 let l:=List.range' 1 (q-1)
 have hm:∀ x,x∈l↔1<=x/\x<q:=fun x=>by
  show x∈List.range' 1 (q-1)↔_
  rw[List.mem_range'_1];omega
 have hnd:∀ x∈l,¬q∣x:=fun x hx hd=>by
  have:=(hm x).1 hx;have:=Nat.le_of_dvd (by omega) hd;omega
 have hl:l.length=q-1:=List.length_range';have inj:∀ x∈l,∀ y∈l,x<=y->a*x%q=a*y%q->x=y:=fun x hx y hy hxy e=>by
  have hd:=Ci e.symm (Nat.mul_le_mul_left a hxy);rw[<- Nat.mul_sub]at hd;rcases h.mul hd with e|e
  .exact absurd e ha
  .have h1:=(hm x).1 hx;have h3:=(hm y).1 hy;by_cases e0:y-x=0
   .omega
   .have:=Nat.le_of_dvd (by omega) e;omega
 have hp:(l.map fun x=>a*x%q).Perm l:=by
  refine vg _ _ ?_ (fun z hz=>?_) (by rw[List.length_map];exact Nat.le_refl _)
  .rw[List.nodup_iff_pairwise_ne,List.pairwise_map];have hln:l.Nodup:=List.nodup_range';rw[List.nodup_iff_pairwise_ne]at hln;refine(List.Pairwise.and_mem.1 hln).imp fun{x y} hxy e=>?_
   obtain⟨hx,hy,hne⟩:=hxy;rcases Nat.le_total x y with h1|h1
   .exact hne (inj x hx y hy h1 e)
   .exact hne (inj y hy x hx h1 e.symm).symm
  .obtain⟨x,hx,rfl⟩:=List.mem_map.1 hz;refine(hm _).2 ⟨?_,Nat.mod_lt _ (by omega)⟩;have:¬q∣a*x:=fun hd=>by
    rcases h.mul hd with e|e
    .exact ha e
    .exact hnd x hx e
   rw[Nat.dvd_iff_mod_eq_zero]at this;show 1<=a*x%q
   omega
 have he:=Cv q a l;rw[Hq hp,hl]at he;have ha1:1<=a^(q-1):=Nat.pos_of_ne_zero fun e=>by
  have h0:a=0:=Nat.eq_zero_of_not_pos (fun hp=>(by have:=Nat.pow_pos (n:=q-1) hp;omega));exact ha (by rw[h0];exact Nat.dvd_zero q)
 have hd:q∣(a^(q-1)-1)*Fft.qR l:=by
  rw[Nat.sub_mul,Nat.one_mul];refine Ci he.symm ?_;have:=Nat.mul_le_mul_right (Fft.qR l) ha1;omega
 rcases h.mul hd with e|e
 .have e':=(Nat.dvd_iff_mod_eq_zero ..).1 e;have:a^(q-1)=(a^(q-1)-1)+1:=by omega
  rw[this,Nat.add_mod,e',Nat.zero_add,Nat.mod_mod];exact Nat.mod_eq_of_lt (by omega)
 .exact absurd e (h.qR l hnd)
theorem G6 (N:Nat)(hN:N=9223372034707292160):7^N%18446744069414584321=18446744069414584320:=by
 have h:=vc;rw[<- hN,show(7:Zp)=zp 7 from rfl,<-tO]at h;have:=congrArg Fin.val h;exact this
theorem wj {q t r:Nat}(h:r<q:=by omega):(t*q+r)%q=r:=by rw[Nat.mul_comm,Nat.mul_add_mod];exact Nat.mod_eq_of_lt h
theorem Cj {q x:Nat}(hq:2<=q)(h:x%q=q-1):∀ k,x^(2*k)%q=1/\x^(2*k+1)%q=q-1
 |0=>by
  refine⟨by rw[Nat.mul_zero,Nat.pow_zero];exact Nat.mod_eq_of_lt (by omega),?_⟩;rw[Nat.mul_zero,Nat.zero_add,Nat.pow_one];exact h
 |k+1=>by
  obtain⟨h1,h2⟩:=Cj hq h k;have e:x^(2*(k+1))%q=1:=by
   rw[show 2*(k+1)=2*k+1+1 by omega,Nat.pow_succ,Nat.mul_mod,h2,h];have:(q-1)*(q-1)=(q-2)*q+1:=by
    obtain⟨t,rfl⟩:∃ t,q=t+2:=⟨q-2,by omega⟩;show(t+1)*(t+1)=t*(t+2)+1
    grind
   rw[this,wj]
  refine⟨e,?_⟩;rw[Nat.pow_succ,Nat.mul_mod,e,h,Nat.one_mul];exact Nat.mod_eq_of_lt (by omega)
theorem Bv :∀(f n:Nat),1<=n->n<=f->∃ s t,n=2^s*(2*t+1)
 |0,n,h1,h2=>by omega
 |f+1,n,h1,h2=>by
  by_cases h:n%2=0
  .obtain⟨s,t,e⟩:=Bv f (n/2) (by omega) (by omega);refine⟨s+1,t,?_⟩;rw[Nat.pow_succ,Nat.mul_assoc,Nat.mul_left_comm,<-e];omega
  .exact⟨0,n/2,by rw[Nat.pow_zero,Nat.one_mul];omega⟩
theorem Ja :Pr 18446744069414584321:=by
 obtain⟨q,hq,hd,h⟩:=yr 18446744069414584321 2 18446744069414584321 (by omega) (by omega) (by omega) (fun e h1 h2=>by omega);rcases h with h|h
 .rw[<- h];exact hq
 exfalso;have h2:=hq.two;obtain⟨N,hN⟩:∃ N,N=9223372034707292160:=⟨_,rfl⟩;have h7:=G6 N hN;have hm:7^N%q=q-1:=by
  have h8:7^N%18446744069414584321%q=7^N%q:=Nat.mod_mod_of_dvd _ hd;rw[<- h8,h7];obtain⟨m,hm⟩:=hd;have:18446744069414584320=(m-1)*q+(q-1):=by
   rw[Nat.sub_mul,Nat.one_mul,Nat.mul_comm m q,<-hm];have:q<=18446744069414584321:=by
    have:q*1<=q*q:=Nat.mul_le_mul_left q (by omega);omega
   omega
  rw[this,wj]
 have hn7:¬q∣7:=fun hd7=>by
  have:q∣7^N:=Nat.dvd_trans hd7 (by rw[show N=(N-1)+1 by omega,Nat.pow_succ];exact Nat.dvd_mul_left _ _);rw[Nat.dvd_iff_mod_eq_zero]at this;omega
 have hf:=hq.EV hn7;obtain⟨s,t,hst⟩:=Bv (q-1) (q-1) (by omega) (Nat.le_refl _);by_cases hs:s<=31
 .have hE:N*(2*t+1)=(q-1)*(2^(31-s)*4294967295):=by
   have e31:2^s*2^(31-s)=2147483648:=by rw[<- Nat.pow_add,show s+(31-s)=31 by omega]
   have:N=2^s*2^(31-s)*4294967295:=by rw[e31,hN]
   rw[this,hst];grind
  have o1:=(Cj h2 hm t).2;rw[<- Nat.pow_mul,hE,Nat.pow_mul,Nat.pow_mod,hf,Nat.one_pow,Nat.mod_eq_of_lt (by omega)]at o1;obtain rfl:q=2:=by omega
  revert hd;decide
 .have:2^32<=2^s:=Nat.pow_le_pow_right (by omega) (by omega);have h3:2^s<=q-1:=by
   rw[hst];exact Nat.le_mul_of_pos_right _ (by omega)
  have h4:4294967297<=q:=by omega
  have:=Nat.mul_le_mul h4 h4;omega
theorem Gp {z:Zp}(h:z≠0):pw z 18446744069414584320=1:=by
 obtain⟨Q,hQ⟩:∃ Q,Q=18446744069414584321:=⟨_,rfl⟩;have hp:Pr Q:=hQ▸Ja;have hnd:¬Q∣z.val:=fun hd=>by
  have h0:z.val≠0:=fun e=>h (Fin.ext e)
  have:=Nat.le_of_dvd (by omega) hd;have:=z.isLt;omega
 have hf:=hp.EV hnd;have e:pw z (Q-1)=zp (z.val^(Q-1)):=by rw[tO,jm]
 have e0:pw z 18446744069414584320=pw z (Q-1):=congrArg (pw z) (by omega);rw[e0,e];apply Fin.ext;rw[jo];have hx:∀ x:Nat,x%Q=1->x%18446744069414584321=1:=fun x hx=>by rw[hQ]at hx;exact hx
 exact hx _ hf
theorem Gq {z:Zp}(h:z≠0):pw z 18446744069414584319*z=1:=Gp h
theorem tN {a b:Zp}(h:a*b=0):a=0\/b=0:=by
 by_cases ha:a=0
 .exact .inl ha
 .right;have e:=Gq ha;have:pw a 18446744069414584319*a*b=pw a 18446744069414584319*(a*b):=by grind
  rw[e,h]at this;grind
theorem yK :∀(k:Nat) (w z:Zp),(k=0\/pw w (2^(k-1))=-1)->pw z (2^k)=1->∃ i,i<2^k/\z=pw w i
 |0,w,z,_,h=>⟨0,by omega,by rw[show pw w 0=1 from rfl,<-h];exact(AY z).symm⟩
 |k+1,w,z,hw,h=>by
  have hw:pw w (2^k)=-1:=by
   rcases hw with e|e
   .omega
   .exact e
  have e2:pw z (2^k)*pw z (2^k)=1:=by
   rw[<- gM,show 2^k+2^k=2^(k+1) by rw[Nat.pow_succ];omega];exact h
  have hsq:∀ y:Zp,pw y (2^k)=1->∃ i,i<2^k/\y=pw w (2*i):=fun y hy=>by
   have hw2:k=0\/pw (w*w) (2^(k-1))=-1:=by
    cases k with
    |zero=>exact .inl rfl
    |succ k=>
     right;rw[show w*w=pw w 2 by show _=1*w*w;grind,<-dm,<-hw];congr 1;rw[Nat.pow_succ];simp;omega
   obtain⟨i,hi,e⟩:=yK k (w*w) y hw2 hy;refine⟨i,hi,?_⟩;rw[e,dm,show w*w=pw w 2 by show _=1*w*w;grind]
  have h0:(pw z (2^k)-1)*(pw z (2^k)+1)=0:=by grind
  rcases tN h0 with e|e
  .obtain⟨i,hi,e⟩:=hsq z (by grind);exact⟨2*i,by rw[Nat.pow_succ];omega,e⟩
  .-- z times w
   have hz:pw (z*w) (2^k)=1:=by rw[kC,hw];grind
   obtain⟨i,hi,e⟩:=hsq _ hz;have hww:w*pw w (2^(k+1)-1)=1:=by
    have e1:pw w (2^(k+1))=1:=by
     rw[show 2^(k+1)=2^k+2^k by rw[Nat.pow_succ];omega,gM,hw];grind
    have hp:=Nat.two_pow_pos (k+1);rw[<- e1];have:pw w (1+(2^(k+1)-1))=pw w 1*pw w (2^(k+1)-1):=gM w 1 _;rw[AY]at this;rw[<- this];congr 1;omega
   by_cases hi0:i=0
   .refine⟨2^(k+1)-1,by have:=Nat.two_pow_pos (k+1);omega,?_⟩;subst hi0;have e:z*w=1:=e;have:z*(w*pw w (2^(k+1)-1))=z*w*pw w (2^(k+1)-1):=by grind
    rw[hww,e]at this;grind
   .refine⟨2*i-1,by rw[Nat.pow_succ];omega,?_⟩;have e3:pw w (2*i)=pw w (2*i-1)*w:=by
     have:pw w (2*i-1+1)=pw w (2*i-1)*w:=rfl;rw[<- this];congr 1;omega
    have:z*(w*pw w (2^(k+1)-1))=z*w*pw w (2^(k+1)-1):=by grind
    rw[e,e3]at this;have h5:pw w (2*i-1)*w*pw w (2^(k+1)-1)=pw w (2*i-1)*(w*pw w (2^(k+1)-1)):=by grind
    rw[h5,hww]at this;grind
end Fft
namespace W
open Go Go.Hw
theorem AH :prog.follows .mixedOrders=true:=by kernel_rfl
def et.l3 (K:VK):Nat->OA->Nat->Nat->Int->Int->Int->Hp->Prop
 |0,_,_,_,_,_,_,_=>False
 |k+1,A2,n2,m2,x2,x3,x4,H=>
  let R3:=et.l3 K k
  aq (decide (x4>=0)) (pf 120 #[U x3,U x2] H fun x5=>cz x4 n2 (NN A2 fun a1=>df H (a1.add (x4.toNat*1)) fun x6=>pf 177 #[U x5,U x6] H fun x7=>R3 A2 n2 m2 x2 x7 (i64.wrap (x4-1)) H)) (K (U x3) H)
def et (A1:OA)(n1 m1:Nat)(x1:Int)(H:Hp)(K:VK):Prop:=
 (∃ k,et.l3 K k A1 n1 m1 x1 0 (i64.wrap ((n1:Int)-1)) H)
def et.l3.L (K:VK)(k:Nat):de:=fun E D H=>
 DG (E.get? 0) fun w0=>aE w0 fun A2 n2 m2=>eI E 1 .u64 fun x2=>eI E 5 .u64 fun x3=>eI E 6 .i64 fun x4=>ax D (et.l3 K k A2 n2 m2 x2 x3 x4 H)
def et.Λ3 (_:VK)(_R3:OA->Nat->Nat->Int->Int->Int->Hp->Prop):aI:=aI.none (fun _=>none)
def et.Λ (K:VK):aI:=⟨fun i=>none,fun i=>match Nat.beq i 3 with|true=>some (fun E D H=>∃ k,et.l3.L K k E D H)|false=>none,(fun _=>none)⟩
theorem et.ok A1 n1 m1 x1 H K (h:et A1 n1 m1 x1 H K):aa prog 117 #[.slice A1 n1 m1,U x1] H K:=
 dV (Λ:=(et.Λ K)) AH Tryz.func117 rfl rfl h (oC (fun E D H h=>by
   refine Safe.cJ (et.l3.L K) (fun E D H h=>?_) (fun k E D H h=>?_) E D H h
   .obtain⟨w0,e0,g1⟩:=DG.out h;obtain⟨A2,n2,m2,rfl,g2⟩:=aE.out g1;obtain⟨w1,e1,g3⟩:=DG.out g2;obtain⟨x2,rfl,g4⟩:=DI.out g3;obtain⟨w5,e5,g5⟩:=DG.out g4;obtain⟨x3,rfl,g6⟩:=DI.out g5;obtain⟨w6,e6,g7⟩:=DG.out g6;obtain⟨x4,rfl,g8⟩:=DI.out g7;obtain⟨rfl,h'⟩:=ax.out g8;exact h'
   .obtain⟨w0,e0,g1⟩:=DG.out h;obtain⟨A2,n2,m2,rfl,g2⟩:=aE.out g1;obtain⟨x2,e1,g4⟩:=GI g2;obtain⟨x3,e5,g6⟩:=GI g4;obtain⟨x4,e6,g8⟩:=GI g6;obtain⟨rfl,h'⟩:=ax.out g8;exact cU (Λ:=(et.Λ3 K (et.l3 K k))) AH [] (ag.cons e0 (ag.cons e1 (ag.cons e5 (ag.cons e6 (ag.nil _))))) h' oN) oN)
end W
namespace Prf
open Go Go.Hw W Shp Gol Fft Ker
theorem xe (x y:Zp):(x.val+y.val)%18446744069414584321=(x+y).val:=(Fin.val_add x y).symm
theorem zZ (x:Zp)(y:UInt64):(x.val+y.toNat)%18446744069414584321=(x+zw y).val:=by
 rw[<- xe];show _=(x.val+y.toNat%18446744069414584321)%18446744069414584321
 omega
theorem Hh (x:Zp)(y:UInt64):x.val*y.toNat%18446744069414584321=(x*zw y).val:=by
 rw[<- iE];show _=x.val*(y.toNat%18446744069414584321)%18446744069414584321
 rw[Nat.mul_mod,Nat.mul_mod x.val (y.toNat%18446744069414584321),Nat.mod_mod]
theorem CM (x y:Zp):sub x.val y.val=(x-y).val:=by
 have h1:=x.isLt;have h2:=y.isLt;have h:zp (sub x.val y.val)=zp x.val-zp y.val:=Lt (by unfold sub neg;omega);rw[jm,jm]at h;rw[<- h,jo,Nat.mod_eq_of_lt (by unfold sub;exact Nat.mod_lt _ (by decide))]
section
variable {A : Option Addr} {n m : Nat} {l : List UInt64}
theorem sP (hn:n=l.length)(hb:n<=4294967296)(H:Hp)(hc:Cells H A (af l)):∀(t j:Nat) (s:Zp),j+t=n->
  cW.l3 (RetE (U (((l.drop j).foldl (fun s w=>s*zw w) s).val:Int)) H) (t+1) (s.val:Int) A n m (n:Int) (j:Int) H
 |0,j,s,hj=>by
  unfold cW.l3;exact au (by omega) (RetE.of (by rw[List.drop_eq_nil_of_le (by omega)];rfl))
 |t+1,j,s,hj=>by
  unfold cW.l3;refine aA (by omega) ?_;have hil:j<l.length:=by omega
  refine hc.read (show(af l)[j]? =some (U ((l[j]).toNat:Int)) by rw[ct,List.getElem?_eq_getElem hil];rfl) rfl (by rw[aB];omega) ?_;simp only[HV];refine aa.use (ib (du s) (l[j]).toNat_lt H) ?_;rw[Hh];simp only[HV];rw[bg (x:=(j:Int)+1),List.drop_eq_getElem_cons hil];exact sP hn hb H hc t (j+1) _ (by omega)
theorem vF (hn:n=l.length)(hb:n<=4294967296)(H:Hp)(hc:Cells H A (af l)):
  aa prog 245 #[.slice A n m] H (RetE (U ((l.foldl (fun s w=>s*zw w) 1).val:Int)) H):=by
 apply cW.ok;exact⟨n+1,sP hn hb H hc n 0 1 (by omega)⟩
theorem zV (hn:n=l.length)(hb:n<=4294967296)(H:Hp)(hc:Cells H A (af l)):∀(t j:Nat),j+t=n->
  dY.l3 (RetE (U ((sm (bG l) n).val:Int)) H) (t+1) ((sm (bG l) j).val:Int) A n m (n:Int) (j:Int) H
 |0,j,hj=>by
  unfold dY.l3;exact au (by omega) (RetE.of (by rw[show j=n by omega]))
 |t+1,j,hj=>by
  unfold dY.l3;refine aA (by omega) ?_;have hil:j<l.length:=by omega
  refine hc.read (show(af l)[j]? =some (U ((l[j]).toNat:Int)) by rw[ct,List.getElem?_eq_getElem hil];rfl) rfl (by rw[aB];omega) ?_;simp only[HV];refine aa.use (pV (du _) (l[j]).toNat_lt H) ?_;rw[zZ,<-o2 hil];simp only[HV];rw[bg (x:=(j:Int)+1)];exact zV hn hb H hc t (j+1) (by omega)
theorem EE (hn:n=l.length)(hb:n<=4294967296)(H:Hp)(hc:Cells H A (af l)):
  aa prog 119 #[.slice A n m] H (RetE (U ((sm (bG l) n).val:Int)) H):=by
 apply dY.ok;exact⟨n+1,zV hn hb H hc n 0 (by omega)⟩
def qg (z:Zp)(l:List UInt64):Zp:=l.foldr (fun w s=>s*z+zw w) 0
theorem E9 (z:Zp):∀ l:List UInt64,qg z l=sm (fun i=>bG l i*pw z i) l.length
 | []=>rfl
 |w::l=>by
  show qg z l*z+zw w=sm _ (l.length+1)
  rw[E9 z l,Nat.add_comm,wI];have e:sm (fun i=>bG (w::l) (1+i)*pw z (1+i)) l.length=z*sm (fun i=>bG l i*pw z i) l.length:=by
   rw[<- j1];refine dO _ fun i _=>?_
   have h1:bG (w::l) (1+i)=bG l i:=by rw[Nat.add_comm];rfl
   have h2:pw z (1+i)=pw z i*z:=by rw[Nat.add_comm];rfl
   rw[h1,h2];grind
  rw[e];show _=(0+bG (w::l) 0*pw z 0)+_
  have h1:bG (w::l) 0=zw w:=rfl;have h2:pw z 0=1:=rfl;rw[h1,h2];grind
theorem BW {z:Nat}(hz:z<2^64)(hn:n=l.length)(hb:n<=4294967296)(H:Hp)(hc:Cells H A (af l)):∀(t:Nat),t<=n->
  et.l3 (RetE (U ((qg (zp z) l).val:Int)) H) (t+1) A n m (z:Int) ((qg (zp z) (l.drop t)).val:Int) ((t:Int)-1) H
 |0,hj=>by
  unfold et.l3;exact au (by omega) (RetE.of rfl)
 |t+1,hj=>by
  unfold et.l3;rw[show((t+1:Nat):Int)-1=(t:Int) by omega];refine aA (by omega) ?_;have hil:t<l.length:=by omega
  refine bD.use (ib (du _) hz H) ?_;have e:(qg (zp z) (l.drop (t+1))).val*z%18446744069414584321=(qg (zp z) (l.drop (t+1))*zp z).val:=by
   rw[<- iE,jo,Nat.mul_comm _ (z%18446744069414584321),tc,Nat.mul_comm]
  rw[e];simp only[HV];refine hc.read (show(af l)[t]? =some (U ((l[t]).toNat:Int)) by rw[ct,List.getElem?_eq_getElem hil];rfl) rfl (by rw[aB];omega) ?_;simp only[HV];refine bD.use (pV (du _) (l[t]).toNat_lt H) ?_;rw[zZ];simp only[HV];rw[bg (x:=(t:Int)-1)];have:=BW hz hn hb H hc t (by omega);rw[List.drop_eq_getElem_cons hil]at this;exact this
theorem Lu {z:Nat}(hz:z<2^64)(hn:n=l.length)(hb:n<=4294967296)(H:Hp)(hc:Cells H A (af l)):
  aa prog 117 #[.slice A n m,U (z:Int)] H (RetE (U ((qg (zp z) l).val:Int)) H):=by
 apply et.ok;unfold et;rw[bg (x:=(n:Int)-1)];have:=BW (m:=m) hz hn hb H hc n (Nat.le_refl _);rw[List.drop_eq_nil_of_le (by omega)]at this;exact⟨n+1,this⟩
end
def row (f:Nat->Zp)(n:Nat):List UInt64:=(List.range n).map fun i=>uw (f i)
theorem fp (f:Nat->Zp)(n:Nat):(row f n).length=n:=by simp[row]
theorem jY (f:Nat->Zp){n i:Nat}(h:i<n):(af (row f n))[i]? =some (U ((f i).val:Int)):=by
 rw[ct,<-lh];unfold row;rw[List.getElem?_map,List.getElem?_range h];rfl
theorem pR (f:Nat->Zp)(i:Nat){ys:List UInt64}(hy:ys≠ []):(af (row f i++ys)).set i (U ((f i).val:Int))=af (row f (i+1)++ys.drop 1):=by
 rw[<- lh,ou];congr 1;rw[List.set_append_right _ _ (by rw[fp];exact Nat.le_refl _),fp,Nat.sub_self];unfold row;rw[List.range_succ,List.map_append,List.append_assoc];congr 1;cases ys with
 |nil=>exact absurd rfl hy
 |cons y ys=>rfl
def pd (f:Nat->Zp):Nat->Zp
 |0=>1
 |n+1=>pd f n*f n
def iz (z:Zp):Zp:=pw z od
theorem Av {z:Zp}(h:z≠0):iz z*z=1:=Gq h
theorem IF {f:Nat->Zp}:∀ n,(∀ i,i<n->f i≠0)->pd f n≠0
 |0,_=>fun e=>absurd (show(1:Zp)=0 from e) (by decide)
 |n+1,h=>fun e=>by
  rcases tN e with e|e
  .exact IF n (fun i hi=>h i (by omega)) e
  .exact h n (by omega) e
def qY (f:Nat->Zp)(n i:Nat):List UInt64:=List.replicate i 0++(row f n).drop i
theorem GY (f:Nat->Zp){n i:Nat}(h:i<n):(af (qY f n (i+1))).set i (U ((f i).val:Int))=af (qY f n i):=by
 rw[<- lh,ou];congr 1;unfold qY;have hl:i<(row f n).length:=by rw[fp];exact h
 have e:(row f n)[i]=uw (f i):=by simp[row]
 rw[List.drop_eq_getElem_cons hl,List.set_append_left _ _ (by simp),List.replicate_succ',List.set_append_right _ _ (by simp),e];simp
theorem vB (K:VK){f:Nat->Zp}{R:As}{A:OA}{n m r1 r2 m1 m2:Nat}(hn:n<=4294967296)(hf:∀ i,i<n->f i≠0)(hR:∀ H,R H->Cells H A (af (row f n)))
  (hK:∀ H,Sep [ah r2 (.row (af (row (fun i=>iz (f i)) n)) 108 m2),R] H->K (.tuple #[.slice (Oo r2) n n,I 0,I 0]) H):
  ∀(t:Nat) (q:Zp) (H:Hp),t<=n->q*pd f t=1->Sep [ah r2 (.row (af (qY (fun i=>iz (f i)) n t)) 108 m2),ah r1 (.row (af (row (pd f) n)) 108 m1),R] H->
   bZ.l15 K (t+1) A n m (Oo r2) n n (Oo r1) n n (q.val:Int) ((t:Int)-1) H
 |0,q,H,ht,hq,hs=>by
  unfold bZ.l15;refine au (by omega) (hK H ?_);have e:qY (fun i=>iz (f i)) n 0=row (fun i=>iz (f i)) n:=by unfold qY;simp
  rw[e]at hs;exact hs.re [0,2] rfl
 |t+1,q,H,ht,hq,hs=>by
  have hc:Cells H A (af (row f n)):=by
   obtain⟨H1,h1,hle⟩:=hs.fU 2 rfl;exact(hR H1 h1).le hle
  unfold bZ.l15;rw[show((t+1:Nat):Int)-1=(t:Int) by omega];refine aA (by omega) ?_;refine⟨by omega,by omega,?_⟩;show Ld H ((O r1).add ((t:Int).toNat*1)) _
  rw[show((O r1).add ((t:Int).toNat*1))=⟨r1,t,none⟩ by rw[Int.toNat_natCast,Nat.mul_one,Addr.aP,Nat.zero_add]];refine hs.ph 1 rfl (jY (pd f) (show t<n by omega)) ?_;simp only[HV];refine bD.use (ib (du q) (du _) H) ?_;rw[iE];simp only[HV];refine hc.read (jY f (show t<n by omega)) rfl (by rw[aB,fp];omega) ?_;simp only[HV];refine bD.use (ib (du q) (du _) H) ?_;rw[iE];simp only[HV];refine⟨by omega,by omega,?_⟩;show St H _ _ _
  rw[Int.toNat_natCast,Nat.mul_one,Addr.aP,Addr.aP,Nat.zero_add,Nat.add_zero];have hlen:(qY (fun i=>iz (f i)) n (t+1)).length=n:=by unfold qY;simp[fp];omega
  refine hs.str 0 rfl (by rw[aB,hlen];omega) rfl fun H hs=>?_;have e1:q*(pd f t*f t)=1:=hq;have e2:q*pd f t=iz (f t):=by
   have:=Av (hf t (by omega));have h3:q*pd f t*f t=1:=by rw[<- e1];grind
   have h4:q*pd f t*f t*iz (f t)=iz (f t):=by rw[h3];grind
   have h5:q*pd f t*f t*iz (f t)=q*pd f t*(iz (f t)*f t):=by grind
   rw[h5,this]at h4;grind
  rw[e2,GY (fun i=>iz (f i)) (show t<n by omega)]at hs;rw[bg (x:=(t:Int)-1)];exact vB K hn hf hR hK t _ H (by omega) (by rw[<- e1];grind) hs
theorem vA (K:VK){f:Nat->Zp}{R:As}{A:OA}{n m r1 m1:Nat}(hn:n<=4294967296)(hf:∀ i,i<n->f i≠0)(hR:∀ H,R H->Cells H A (af (row f n)))
  (hK:∀ r2 H,Sep [ah r2 (.row (af (row (fun i=>iz (f i)) n)) 108 (n*1)),R] H->K (.tuple #[.slice (Oo r2) n n,I 0,I 0]) H):
  ∀(t j:Nat) (ys:List UInt64) (H:Hp),j+t=n->ys.length=t->Sep [ah r1 (.row (af (row (pd f) j++ys)) 108 m1),R] H->
   bZ.l4 K (t+1) A n m (Oo r1) n n ((pd f j).val:Int) A n m (n:Int) (j:Int) H
 |0,j,ys,H,hj,hy,hs=>by
  unfold bZ.l4;refine au (by omega) ?_;obtain rfl:ys=[]:=List.length_eq_zero_iff.1 hy;obtain rfl:j=n:=by omega
  rw[List.append_nil]at hs;have hne:=IF j hf;refine aa.use (zK (du _) (fun e=>hne (Fin.ext (by rw[Nat.mod_eq_of_lt (pd f j).isLt]at e;exact e))) H) ?_;have e:se (pd f j).val=(iz (pd f j)).val:=by
   unfold se;rw[oo,jm];rfl
  rw[e];simp only[HV];refine aF rfl ?_;refine hs.nX fi rfl (n:=j) (m:=j) rfl rfl (Nat.le_refl _) (by omega) (by omega) fun r2 H hs=>?_
  simp only[HV];rw[bg (x:=(j:Int)-1)];refine⟨j+1,vB K (r1:=r1) (m1:=m1) hn hf hR (hK r2) j _ H (Nat.le_refl _) (Av hne) ?_⟩;rw[mU]at hs;have e:qY (fun i=>iz (f i)) j j=List.replicate j 0:=by unfold qY;rw[List.drop_eq_nil_of_le (by rw[fp];exact Nat.le_refl _),List.append_nil]
  rw[e];exact hs.re [2,0,1] rfl
 |t+1,j,ys,H,hj,hy,hs=>by
  have hc:Cells H A (af (row f n)):=by
   obtain⟨H1,h1,hle⟩:=hs.fU 1 rfl;exact(hR H1 h1).le hle
  have hfj:=hf j (by omega);unfold bZ.l4;refine aA (by omega) ?_;refine hc.read (jY f (show j<n by omega)) rfl (by rw[aB,fp];omega) ?_;simp only[HV];refine aa.use (ie (du _) H) ?_;rw[Nat.mod_eq_of_lt (f j).isLt];simp only[HV];refine bT (fun e=>hfj (Fin.ext (by rw[show((0:Int))=((0:Nat):Int)from rfl]at e;exact Int.ofNat.inj e))) ?_;refine aa.use (ib (du _) (du _) H) ?_;rw[iE];simp only[HV];refine⟨by omega,by omega,?_⟩;show St H _ _ _
  rw[Int.toNat_natCast,Nat.mul_one,Addr.aP,Addr.aP,Nat.zero_add,Nat.add_zero];refine hs.str 0 rfl (by rw[aB,List.length_append,fp];omega) rfl fun H hs=>?_;rw[pR (pd f) j (fun e=>by rw[e]at hy;simp at hy)]at hs;rw[bg (x:=(j:Int)+1)];exact vA K hn hf hR hK t (j+1) (ys.drop 1) H (by omega) (by rw[List.length_drop];omega) hs
theorem I9 {f:Nat->Zp}{R:As}{A:OA}{n m:Nat}(hn:n<=4294967296)(hf:∀ i,i<n->f i≠0)(hR:∀ H,R H->Cells H A (af (row f n))):
  Tr prog 244 #[.slice A n m] [R] fun v M=>∃ r,v= .tuple #[.slice (Oo r) n n,I 0,I 0]/\M=[ah r (.row (af (row (fun i=>iz (f i)) n)) 108 (n*1)),R]:=fun H hs=>by
 apply bZ.ok;unfold bZ;refine hs.nX fi rfl (n:=n) (m:=n) rfl rfl (Nat.le_refl _) (by omega) (by omega) fun r1 H hs=>?_
 simp only[HV];refine⟨n+1,vA _ (r1:=r1) (m1:=n*1) hn hf hR (fun r2 H hs=>⟨_,⟨r2,rfl,rfl⟩,hs⟩) n 0 (List.replicate n 0) H (by omega) (by simp) ?_⟩;rw[mU]at hs;exact hs.re [1,0] rfl
end Prf
namespace W
open Go Go.Hw
theorem iC :prog.follows .mixedOrders=true:=by kernel_rfl
def nk (A1:OA)(n1 m1:Nat)(A2:OA)(n2 m2:Nat)(x1 x2:Int)(H:Hp)(K:VK):Prop:=
 Hz 115 #[.slice A1 n1 m1,.slice A2 n2 m2,I x1] H fun v1 H1=>pa v1 fun x3 x4=>(aq (x4 !=0) (K (.tuple #[.bool false,I x4]) H1) (Hz 116 #[.slice A2 n2 m2,I x1,U x2] H1 fun v4 H2=>kS v4 fun x5 x6=>(aq (x6==0) (eh 117 #[.slice A1 n1 m1,U x2] H2 fun x7 H3=>K (.tuple #[.bool (x5==x7),I x6]) H3) (K (.tuple #[.bool false,I x6]) H2))))
theorem nk.ok A1 n1 m1 A2 n2 m2 x1 x2 H K (h:nk A1 n1 m1 A2 n2 m2 x1 x2 H K):aa prog 65 #[.slice A1 n1 m1,.slice A2 n2 m2,I x1,U x2] H K:=
 bX iC Tryz.func65 rfl rfl h
def eH.j9 (K:VK)(A3:OA)(n3 m3:Nat)(A4:OA)(n4 m4:Nat)(x10 x11:Int)(H:Hp):=
 cz 0 n4 (NN A4 fun a1=>df H (a1.add ((0:Int).toNat*1)) fun x12=>eh 121 #[U x12] H fun x13 H7=>aq (x10==x13) (cz 0 n3 (NN A3 fun a2=>df H7 (a2.add ((0:Int).toNat*1)) fun x14=>eh 121 #[U x14] H7 fun x15 H8=>K (.tuple #[.bool (x11==x15),I 0]) H8)) (K (.tuple #[.bool false,I 0]) H7))
def eH (A1:OA)(n1 m1:Nat)(A2:OA)(n2 m2:Nat)(x1:Int)(H:Hp)(K:VK):Prop:=
 Hz 115 #[.slice A1 n1 m1,.slice A2 n2 m2,I x1] H fun v1 H1=>pa v1 fun x2 x3=>(aq (x3 !=0) (K (.tuple #[.bool false,I x3]) H1) (Hz 118 #[I x2] H1 fun v4 H2=>kS v4 fun x4 x5=>(eh 119 #[.slice A1 n1 m1] H2 fun x6 H3=>eh 119 #[.slice A2 n2 m2] H3 fun x7 H4=>aq (x1==1) (eh 120 #[U x6,U x4] H4 fun x8 H5=>eH.j9 K A1 n1 m1 A2 n2 m2 x8 x7 H5) (eh 120 #[U x7,U x4] H4 fun x9 H6=>eH.j9 K A1 n1 m1 A2 n2 m2 x6 x9 H6))))
def eH.Λ (K:VK):aI:=⟨fun i=>match Nat.beq i 9 with|true=>some (fun E D H=>DG (E.get? 0) fun w0=>aE w0 fun A3 n3 m3=>DG (E.get? 1) fun w1=>aE w1 fun A4 n4 m4=>eI E 12 .u64 fun x10=>eI E 13 .u64 fun x11=>ax D (eH.j9 K A3 n3 m3 A4 n4 m4 x10 x11 H))|false=>none,fun i=>none,(fun _=>none)⟩
theorem eH.ok A1 n1 m1 A2 n2 m2 x1 H K (h:eH A1 n1 m1 A2 n2 m2 x1 H K):aa prog 66 #[.slice A1 n1 m1,.slice A2 n2 m2,I x1] H K:=
 dV (Λ:=(eH.Λ K)) iC Tryz.func66 rfl rfl h (oC (fun E D H h=>by
   obtain⟨w0,e0,g1⟩:=DG.out h;obtain⟨A3,n3,m3,rfl,g2⟩:=aE.out g1;obtain⟨w1,e1,g3⟩:=DG.out g2;obtain⟨A4,n4,m4,rfl,g4⟩:=aE.out g3;obtain⟨x10,e12,g6⟩:=GI g4;obtain⟨x11,e13,g8⟩:=GI g6;obtain⟨rfl,h'⟩:=ax.out g8;exact cU (Λ:=(eH.Λ K)) iC [] (ag.cons e0 (ag.cons e1 (ag.cons e12 (ag.cons e13 (ag.nil _))))) h' oN) oN)
def nm (A1:OA)(n1 m1:Nat)(A2:OA)(n2 m2:Nat)(x1:Int)(H:Hp)(K:VK):Prop:=
 aq ((n1:Int) !=(n2:Int)) (K (.tuple #[I 0,I 19]) H) (Hz 174 #[.slice A2 n2 m2,I x1] H fun v1 H1=>pa v1 fun x2 x3=>(K (.tuple #[I x2,I x3]) H1))
theorem nm.ok A1 n1 m1 A2 n2 m2 x1 H K (h:nm A1 n1 m1 A2 n2 m2 x1 H K):aa prog 115 #[.slice A1 n1 m1,.slice A2 n2 m2,I x1] H K:=
 bX iC Tryz.func115 rfl rfl h
def mv (A1:OA)(n1 m1:Nat)(x1 x2:Int)(H:Hp)(K:VK):Prop:=
 Hz 174 #[.slice A1 n1 m1,I x1] H fun v1 H1=>pa v1 fun x3 x4=>(aq (x4 !=0) (K (.tuple #[U 0,I x4]) H1) (lM 176 #[I x3,I x1] H1 fun A2 n2 m2 H2=>eh 121 #[U x2] H2 fun x5 H3=>eh 175 #[.slice A1 n1 m1,.slice A2 n2 m2,I x3,U x5] H3 fun x6 H4=>aq (x1==1) (eh 120 #[U x6,U (u64.wrap (n1:Int))] H4 fun x7 H5=>K (.tuple #[U x7,I 0]) H5) (K (.tuple #[U x6,I 0]) H4)))
theorem mv.ok A1 n1 m1 x1 x2 H K (h:mv A1 n1 m1 x1 x2 H K):aa prog 116 #[.slice A1 n1 m1,I x1,U x2] H K:=
 bX iC Tryz.func116 rfl rfl h
def mw (A1:OA)(n1 m1:Nat)(x1:Int)(H:Hp)(K:VK):Prop:=
 Hz 147 #[I (n1:Int)] H fun v1 H1=>pZ v1 fun x2 c1=>(aq (!c1) (K (.tuple #[I 0,I 4]) H1) (aq (decide (x2>20)) (K (.tuple #[I 0,I 4]) H1) (aq (decide (x1<0)) (K (.tuple #[I 0,I 18]) H1) (aq (decide (x1>1)) (K (.tuple #[I 0,I 18]) H1) (K (.tuple #[I x2,I 0]) H1)))))
theorem mw.ok A1 n1 m1 x1 H K (h:mw A1 n1 m1 x1 H K):aa prog 174 #[.slice A1 n1 m1,I x1] H K:=
 bX iC Tryz.func174 rfl rfl h
def cq.l12 (K:VK):Nat->OA->Nat->Nat->OA->Nat->Nat->Int->Int->OA->Nat->Nat->Int->OA->Nat->Nat->Int->Int->Hp->Prop
 |0,_,_,_,_,_,_,_,_,_,_,_,_,_,_,_,_,_,_=>False
 |k+1,A9,n9,m9,A10,n10,m10,x14,x15,A11,n11,m11,x16,A12,n12,m12,x17,x18,H=>
  let R12:=cq.l12 K k
  aq (decide (x18<x17)) (cz x18 n12 (NN A12 fun a5=>df H (a5.add (x18.toNat*1)) fun x19=>cz x18 n9 (NN A9 fun a6=>df H (a6.add (x18.toNat*1)) fun x20=>cz x18 n11 (NN A11 fun a7=>df H (a7.add (x18.toNat*1)) fun x21=>Nw H (.row [U x20,U x19,U x21] 108 3) fun b1 H6=>eh 245 #[.slice (Oo b1) 3 3] H6 fun x22 H7=>eh 177 #[U x16,U x22] H7 fun x23 H8=>R12 A9 n9 m9 A10 n10 m10 x14 x15 A11 n11 m11 x23 A12 n12 m12 x17 (i64.wrap (x18+1)) H8)))) (Hz 118 #[I x14] H fun v16 H9=>kS v16 fun x24 x25=>(eh 246 #[U x15,U (u64.wrap (n10:Int))] H9 fun x26 H10=>eh 243 #[U x26,U 1] H10 fun x27 H11=>Nw H11 (.row [U x16,U x24,U x27] 108 3) fun b2 H12=>eh 245 #[.slice (Oo b2) 3 3] H12 fun x28 H13=>K (U x28) H13))
def cq.l3 (K:VK):Nat->OA->Nat->Nat->OA->Nat->Nat->Int->Int->OA->Nat->Nat->OA->Nat->Nat->Int->Int->Hp->Prop
 |0,_,_,_,_,_,_,_,_,_,_,_,_,_,_,_,_,_=>False
 |k+1,A4,n4,m4,A5,n5,m5,x3,x4,A6,n6,m6,A7,n7,m7,x5,x6,H=>
  let R3:=cq.l3 K k
  aq (decide (x6<x5)) (cz x6 n7 (NN A7 fun a1=>df H (a1.add (x6.toNat*1)) fun x7=>eh 243 #[U x4,U x7] H fun x8 H2=>cz x6 n6 (NN A6 fun a2=>St H2 ((a2.add (x6.toNat*1)).add 0) (U x8) fun H3=>cz x6 n6 (NN A6 fun a3=>df H3 (a3.add (x6.toNat*1)) fun x9=>aq (x9==0) (cz x6 n4 (NN A4 fun a4=>df H3 (a4.add (x6.toNat*1)) fun x10=>eh 121 #[U x10] H3 fun x11 H4=>K (U x11) H4)) (R3 A4 n4 m4 A5 n5 m5 x3 x4 A6 n6 m6 A7 n7 m7 x5 (i64.wrap (x6+1)) H3))))) (Hz 244 #[.slice A6 n6 m6] H fun v7 H5=>Iv v7 fun A8 n8 m8 x12 x13=>((∃ k,cq.l12 K k A4 n4 m4 A5 n5 m5 x3 x4 A8 n8 m8 0 A5 n5 m5 (n5:Int) 0 H5)))
def cq (A1:OA)(n1 m1:Nat)(A2:OA)(n2 m2:Nat)(x1 x2:Int)(H:Hp)(K:VK):Prop:=
 jA prog 108 (n2:Int) (n2:Int) H fun v1 H1=>aE v1 fun A3 n3 m3=>(∃ k,cq.l3 K k A1 n1 m1 A2 n2 m2 x1 x2 A3 n3 m3 A2 n2 m2 (n2:Int) 0 H1)
def cq.l3.L (K:VK)(k:Nat):de:=fun E D H=>
 DG (E.get? 0) fun w0=>aE w0 fun A4 n4 m4=>DG (E.get? 1) fun w1=>aE w1 fun A5 n5 m5=>eI E 2 .i64 fun x3=>eI E 3 .u64 fun x4=>DG (E.get? 9) fun w9=>aE w9 fun A6 n6 m6=>DG (E.get? 23) fun w23=>aE w23 fun A7 n7 m7=>eI E 24 .i64 fun x5=>eI E 25 .i64 fun x6=>ax D (cq.l3 K k A4 n4 m4 A5 n5 m5 x3 x4 A6 n6 m6 A7 n7 m7 x5 x6 H)
def cq.l12.L (K:VK)(k:Nat):de:=fun E D H=>
 DG (E.get? 0) fun w0=>aE w0 fun A9 n9 m9=>DG (E.get? 1) fun w1=>aE w1 fun A10 n10 m10=>eI E 2 .i64 fun x14=>eI E 3 .u64 fun x15=>DG (E.get? 12) fun w12=>aE w12 fun A11 n11 m11=>eI E 15 .u64 fun x16=>DG (E.get? 53) fun w53=>aE w53 fun A12 n12 m12=>eI E 54 .i64 fun x17=>eI E 55 .i64 fun x18=>ax D (cq.l12 K k A9 n9 m9 A10 n10 m10 x14 x15 A11 n11 m11 x16 A12 n12 m12 x17 x18 H)
def cq.Λ3 (_:VK)(_R3:OA→Nat→Nat→OA→Nat→Nat→Int→Int→OA→Nat→Nat→OA→Nat→Nat→Int→Int→Hp→Prop):aI:=aI.none (fun i=>match Nat.beq i 14 with|true=>some ([0],[1,2,3,4,5,6,7,8,9],10)|false=>none)
def cq.Λ12 (_:VK)(_R12:OA→Nat→Nat→OA→Nat→Nat→Int→Int→OA→Nat→Nat→Int→OA→Nat→Nat→Int→Int→Hp→Prop):aI:=aI.none (fun i=>match Nat.beq i 14 with|true=>some ([0],[1,2,3,4,5,6,7,8,9],10)|false=>none)
def cq.Λ (K:VK):aI:=⟨fun i=>none,fun i=>match Nat.beq i 12 with|true=>some (fun E D H=>∃ k,cq.l12.L K k E D H)|false=>match Nat.beq i 3 with|true=>some (fun E D H=>∃ k,cq.l3.L K k E D H)|false=>none,(fun i=>match Nat.beq i 14 with|true=>some ([0],[1,2,3,4,5,6,7,8,9],10)|false=>none)⟩
theorem cq.ok A1 n1 m1 A2 n2 m2 x1 x2 H K (h:cq A1 n1 m1 A2 n2 m2 x1 x2 H K):aa prog 175 #[.slice A1 n1 m1,.slice A2 n2 m2,I x1,U x2] H K:=
 dV (Λ:=(cq.Λ K)) iC Tryz.func175 rfl rfl h (oC (fun E D H h=>by
   refine Safe.cJ (cq.l3.L K) (fun E D H h=>?_) (fun k E D H h=>?_) E D H h
   .obtain⟨w0,e0,g1⟩:=DG.out h;obtain⟨A4,n4,m4,rfl,g2⟩:=aE.out g1;obtain⟨w1,e1,g3⟩:=DG.out g2;obtain⟨A5,n5,m5,rfl,g4⟩:=aE.out g3;obtain⟨w2,e2,g5⟩:=DG.out g4;obtain⟨x3,rfl,g6⟩:=DI.out g5;obtain⟨w3,e3,g7⟩:=DG.out g6;obtain⟨x4,rfl,g8⟩:=DI.out g7;obtain⟨w9,e9,g9⟩:=DG.out g8;obtain⟨A6,n6,m6,rfl,g10⟩:=aE.out g9;obtain⟨w23,e23,g11⟩:=DG.out g10;obtain⟨A7,n7,m7,rfl,g12⟩:=aE.out g11;obtain⟨w24,e24,g13⟩:=DG.out g12;obtain⟨x5,rfl,g14⟩:=DI.out g13;obtain⟨w25,e25,g15⟩:=DG.out g14;obtain⟨x6,rfl,g16⟩:=DI.out g15;obtain⟨rfl,h'⟩:=ax.out g16;exact h'
   .obtain⟨w0,e0,g1⟩:=DG.out h;obtain⟨A4,n4,m4,rfl,g2⟩:=aE.out g1;obtain⟨w1,e1,g3⟩:=DG.out g2;obtain⟨A5,n5,m5,rfl,g4⟩:=aE.out g3;obtain⟨x3,e2,g6⟩:=GI g4;obtain⟨x4,e3,g8⟩:=GI g6;obtain⟨w9,e9,g9⟩:=DG.out g8;obtain⟨A6,n6,m6,rfl,g10⟩:=aE.out g9;obtain⟨w23,e23,g11⟩:=DG.out g10;obtain⟨A7,n7,m7,rfl,g12⟩:=aE.out g11;obtain⟨x5,e24,g14⟩:=GI g12;obtain⟨x6,e25,g16⟩:=GI g14;obtain⟨rfl,h'⟩:=ax.out g16;exact cU (Λ:=(cq.Λ3 K (cq.l3 K k))) iC [] (ag.cons e0 (ag.cons e1 (ag.cons e2 (ag.cons e3 (ag.cons e9 (ag.cons e23 (ag.cons e24 (ag.cons e25 (ag.nil _))))))))) h' oN) (oC (fun E D H h=>by
   refine Safe.cJ (cq.l12.L K) (fun E D H h=>?_) (fun k E D H h=>?_) E D H h
   .obtain⟨w0,e0,g1⟩:=DG.out h;obtain⟨A9,n9,m9,rfl,g2⟩:=aE.out g1;obtain⟨w1,e1,g3⟩:=DG.out g2;obtain⟨A10,n10,m10,rfl,g4⟩:=aE.out g3;obtain⟨w2,e2,g5⟩:=DG.out g4;obtain⟨x14,rfl,g6⟩:=DI.out g5;obtain⟨w3,e3,g7⟩:=DG.out g6;obtain⟨x15,rfl,g8⟩:=DI.out g7;obtain⟨w12,e12,g9⟩:=DG.out g8;obtain⟨A11,n11,m11,rfl,g10⟩:=aE.out g9;obtain⟨w15,e15,g11⟩:=DG.out g10;obtain⟨x16,rfl,g12⟩:=DI.out g11;obtain⟨w53,e53,g13⟩:=DG.out g12;obtain⟨A12,n12,m12,rfl,g14⟩:=aE.out g13;obtain⟨w54,e54,g15⟩:=DG.out g14;obtain⟨x17,rfl,g16⟩:=DI.out g15;obtain⟨w55,e55,g17⟩:=DG.out g16;obtain⟨x18,rfl,g18⟩:=DI.out g17;obtain⟨rfl,h'⟩:=ax.out g18;exact h'
   .obtain⟨w0,e0,g1⟩:=DG.out h;obtain⟨A9,n9,m9,rfl,g2⟩:=aE.out g1;obtain⟨w1,e1,g3⟩:=DG.out g2;obtain⟨A10,n10,m10,rfl,g4⟩:=aE.out g3;obtain⟨x14,e2,g6⟩:=GI g4;obtain⟨x15,e3,g8⟩:=GI g6;obtain⟨w12,e12,g9⟩:=DG.out g8;obtain⟨A11,n11,m11,rfl,g10⟩:=aE.out g9;obtain⟨x16,e15,g12⟩:=GI g10;obtain⟨w53,e53,g13⟩:=DG.out g12;obtain⟨A12,n12,m12,rfl,g14⟩:=aE.out g13;obtain⟨x17,e54,g16⟩:=GI g14;obtain⟨x18,e55,g18⟩:=GI g16;obtain⟨rfl,h'⟩:=ax.out g18;exact cU (Λ:=(cq.Λ12 K (cq.l12 K k))) iC [] (ag.cons e0 (ag.cons e1 (ag.cons e2 (ag.cons e3 (ag.cons e12 (ag.cons e15 (ag.cons e53 (ag.cons e54 (ag.cons e55 (ag.nil _)))))))))) h' oN) oN))
def ll (x1 x2:Int)(H:Hp)(K:VK):Prop:=
 Hz 247 #[I x1,I x2] H fun v1 H1=>kS v1 fun x3 x4=>((0<=(u64.wrap x1)/\Hz 248 #[U x3,I (cT .i64 1 (u64.wrap x1))] H1 fun v4 H2=>kc v4 fun A1 n1 m1 x5=>(K (.slice A1 n1 m1) H2)))
theorem ll.ok x1 x2 H K (h:ll x1 x2 H K):aa prog 176 #[I x1,I x2] H K:=
 bX iC Tryz.func176 rfl rfl h
end W
namespace Prf
open Go Go.Hw W Shp Gol Fft Ker
theorem pP (k:Nat):pw half k*nn (2^k)=1:=by
 rw[Dv,BE,<-kC,Al,iF]
def nW (v:Zp)(k:Nat)(y:Nat->Zp)(z:Zp):Zp:=pw half k*sm (fun m=>eJ v (2^k) y m*pw z m) (2^k)
theorem GS {k:Nat}{w v:Zp}(hw:k=0\/pw w (2^(k-1))=-1)(hv:k=0\/pw v (2^(k-1))=-1)(hwv:w*v=1)(y:Nat->Zp){i:Nat}(hi:i<2^k):nW v k y (pw w i)=y i:=by
 have h:=Af hv hw (by rw[<- hwv];grind) y hi;have e:sm (fun m=>eJ v (2^k) y m*pw (pw w i) m) (2^k)=eJ w (2^k) (eJ v (2^k) y) i:=dO _ fun m _=>by rw[<- dm,Nat.mul_comm]
 unfold nW;rw[e,h];have:=pP k;have h2:pw half k*(nn (2^k)*y i)=pw half k*nn (2^k)*y i:=by grind
 rw[h2,this];grind
theorem Bp (x:Zp):∀ n,(x-1)*sm (pw x) n=pw x n-1
 |0=>by show(x-1)*0=1-1;grind
 |n+1=>by
  have h:=Bp x n;show(x-1)*(sm (pw x) n+pw x n)=pw x n*x-1
  grind
theorem FH {w v:Zp}(h:w*v=1)(i:Nat):pw w i*pw v i=1:=by rw[<- kC,h,iF]
theorem inner (v z:Zp)(k:Nat)(y:Nat->Zp):sm (fun m=>eJ v (2^k) y m*pw z m) (2^k)=sm (fun i=>y i*sm (pw (pw v i*z)) (2^k)) (2^k):=by
 have e1:sm (fun m=>eJ v (2^k) y m*pw z m) (2^k)=sm (fun m=>sm (fun i=>y i*(pw v (i*m)*pw z m)) (2^k)) (2^k):=dO _ fun m _=>by
  show sm (fun i=>y i*pw v (i*m)) (2^k)*pw z m=_
  have:sm (fun i=>y i*pw v (i*m)) (2^k)*pw z m=pw z m*sm (fun i=>y i*pw v (i*m)) (2^k):=by grind
  rw[this,<-j1];exact dO _ fun i _=>by grind
 rw[e1,ug];refine dO _ fun i _=>?_
 rw[j1];congr 1;refine dO _ fun m _=>?_
 rw[kC,dm]
theorem Mm {k:Nat}{w v z:Zp}(h1:pw v (2^k)=1)(hwv:w*v=1){i:Nat}:(z-pw w i)*sm (pw (pw v i*z)) (2^k)=pw w i*(pw z (2^k)-1):=by
 have h:=Bp (pw v i*z) (2^k);rw[kC,<-dm,Nat.mul_comm,dm,h1,iF]at h;have hi:=FH hwv i;have e:(z-pw w i)*sm (pw (pw v i*z)) (2^k)=(pw w i*pw v i*z-pw w i)*sm (pw (pw v i*z)) (2^k):=by rw[hi];grind
 rw[e];have e2:(pw w i*pw v i*z-pw w i)*sm (pw (pw v i*z)) (2^k)=pw w i*((pw v i*z-1)*sm (pw (pw v i*z)) (2^k)):=by grind
 rw[e2,h];grind
def uu (w z:Zp)(y:Nat->Zp)(i:Nat):Zp:=y i*pw w i*iz (z-pw w i)
theorem GR {k:Nat}{w v z:Zp}(h1:pw v (2^k)=1)(hwv:w*v=1)(y:Nat->Zp)(hz:∀ i,i<2^k->z-pw w i≠0):
  sm (uu w z y) (2^k)*pw half k*(pw z (2^k)-1)=nW v k y z:=by
 unfold nW;rw[inner];have e:sm (fun i=>y i*sm (pw (pw v i*z)) (2^k)) (2^k)=sm (fun i=>(pw z (2^k)-1)*uu w z y i) (2^k):=dO _ fun i hi=>by
  have h2:=Mm (z:=z) h1 hwv (i:=i);have h3:=Av (hz i hi);unfold uu;have h4:iz (z-pw w i)*((z-pw w i)*sm (pw (pw v i*z)) (2^k))=sm (pw (pw v i*z)) (2^k):=by
   have:iz (z-pw w i)*((z-pw w i)*sm (pw (pw v i*z)) (2^k))=iz (z-pw w i)*(z-pw w i)*sm (pw (pw v i*z)) (2^k):=by grind
   rw[this,h3];grind
  rw[h2]at h4;rw[<- h4];grind
 rw[e,j1];grind
theorem IY (w:UInt64)(b c:Zp):af [w,uw b,uw c]=[U (w.toNat:Int),U (b.val:Int),U (c.val:Int)]:=by
 rw[<- lh b,<-lh c];rfl
section
variable {k N : Nat} {d : Bool} {l : List UInt64} {z : Zp} {A1 A2 : Option Addr} {m1 m2 : Nat} {H0 : Hp}
theorem lG {k:Nat}(hk:k<=20):cT .i64 1 (k:Int)=((2^k:Nat):Int):=by
 have:∀ k:Nat,k<21->cT .i64 1 (k:Int)=((2^k:Nat):Int):=by decide +kernel
 exact this k (by omega)
theorem FF (hk:k<=20)(hN:N=2^k)(d:Bool):Tr prog 176 #[I (k:Int),I (if d=true then 1 else 0)] [] fun v M=>
  ∃ r,v= .slice (Oo r) N N/\M=[ah r (.row (af (row (pw (bU d k)) N)) 108 (N*1))]:=fun H hs=>by
 have h20:=cL hk;apply ll.ok;unfold ll;refine aa.use (wZ (by omega) d H) ?_;simp only[HV];rw[fC];refine⟨by omega,?_⟩;rw[lG hk,<-hN];refine(xQ (bU d k) N).use hs [] rfl rfl ?_;rintro _ _ H ⟨r,rfl,rfl⟩ hs;simp only[HV];exact⟨_,⟨r,rfl,rfl⟩,hs⟩
theorem Ad (hk:k<=20)(hN:lg (N:Int)=some k)(d:Bool)(H:Hp)(hT:T64 H):aa prog 174 #[.slice A1 N m1,I (if d=true then 1 else 0)] H (RetE (.tuple #[I (k:Int),I 0]) H):=by
 apply mw.ok;unfold mw;refine aa.use (pM (N:Int) H hT) ?_;unfold eV;rw[hN];simp only[HV];refine au (by omega) (au (by split<;>omega) (au (by split<;>omega) (RetE.mk _ _)))
theorem Cp (hk:k<=20)(hN:lg (N:Int)=some k)(d:Bool)(H:Hp)(hT:T64 H):aa prog 115 #[.slice A1 N m1,.slice A2 N m2,I (if d=true then 1 else 0)] H (RetE (.tuple #[I (k:Int),I 0]) H):=by
 apply nm.ok;unfold nm;refine aF rfl ?_;refine aa.use (Ad hk hN d H hT) ?_;simp only[HV];exact RetE.mk _ _
theorem xW (hk:k<=20)(hN:N=2^k)(hl:l.length=N)(hz:∀ i,i<2^k->z-pw (bU d k) i≠0){r m3:Nat}
  (h1:Cells H0 A1 (af l)) (h2:Cells H0 A2 (af (row (pw (bU d k)) N))):
  ∀(t j:Nat) (H:Hp),j+t=N->Sep [ah r (.row (af (row (fun i=>iz (z-pw (bU d k) i)) N)) 108 m3),own H0] H->
   cq.l12 (lU (U ((nW (bU (!d) k) k (bG l) z).val:Int)) H0) (t+1) A1 N m1 A2 N m2 (k:Int) (z.val:Int) (Oo r) N N ((sm (uu (bU d k) z (bG l)) j).val:Int) A2 N m2 (N:Int) (j:Int) H
 |0,j,H,hj,hs=>by
  have h20:=cL hk;obtain rfl:j=N:=by omega
  unfold cq.l12;refine au (by omega) ?_;refine aa.use (rW (by omega) H) ?_;simp only[HV];rw[fC];refine aa.use (sO (a:=z.val) (du _) (by omega) H) ?_;rw[oo,jm];simp only[HV];have hsb:aa prog 243 #[U ((pw z j).val:Int),U 1] H (RetE (U ((pw z j-1).val:Int)) H):=by
   have:=zU (a:=(pw z j).val) (b:=(1:Zp).val) (du _) (du _) H;rw[CM]at this;exact this
  refine aa.use hsb ?_;simp only[HV];refine hs.nw fun b2 H hs=>?_
  have hp:=vF (l:=[uw (sm (uu (bU d k) z (bG l)) j),uw (pw half k),uw (pw z j-1)]) (A:=some (O b2)) (n:=3) (m:=3) rfl (by omega) H (by
   rw[IY,lh];exact Cells.row (hs.get 2 rfl) 0 3)
  refine aa.use hp ?_;simp only[HV];have e:List.foldl (fun s w=>s*zw w) 1 [uw (sm (uu (bU d k) z (bG l)) j),uw (pw half k),uw (pw z j-1)]=nW (bU (!d) k) k (bG l) z:=by
   show 1*zw (uw _)*zw (uw _)*zw (uw _)=_
   rw[lL,lL,lL];have:=GR (xC (!d) (show k<=32 by omega)) (ud d (show k<=32 by omega)) (bG l) hz;rw[<- hN]at this;rw[<- this];grind
  rw[e];exact hs.fin 1 rfl _
 |t+1,j,H,hj,hs=>by
  have h20:=cL hk;have hle:=hs.ow 1 rfl;have hil:j<l.length:=by omega
  unfold cq.l12;refine aA (by omega) ?_;refine(h2.le hle).read (jY (pw (bU d k)) (show j<N by omega)) rfl (by rw[aB,fp];omega) ?_;simp only[HV];refine(h1.le hle).read (show(af l)[j]? =some (U ((l[j]).toNat:Int)) by rw[ct,List.getElem?_eq_getElem hil];rfl) rfl (by rw[aB];omega) ?_;simp only[HV];refine⟨by omega,by omega,?_⟩;show Ld H ((O r).add ((j:Int).toNat*1)) _
  rw[show((O r).add ((j:Int).toNat*1))=⟨r,j,none⟩ by rw[Int.toNat_natCast,Nat.mul_one,Addr.aP,Nat.zero_add]];refine hs.ph 0 rfl (jY (fun i=>iz (z-pw (bU d k) i)) (show j<N by omega)) ?_;simp only[HV];refine hs.nw fun b1 H hs=>?_
  have hp:=vF (l:=[l[j],uw (pw (bU d k) j),uw (iz (z-pw (bU d k) j))]) (A:=some (O b1)) (n:=3) (m:=3) rfl (by omega) H (by
   rw[IY];exact Cells.row (hs.get 2 rfl) 0 3)
  refine aa.use hp ?_;simp only[HV];refine aa.use (pV (du _) (du _) H) ?_;rw[xe];simp only[HV];rw[bg (x:=(j:Int)+1)];have e:sm (uu (bU d k) z (bG l)) j+List.foldl (fun s w=>s*zw w) 1 [l[j],uw (pw (bU d k) j),uw (iz (z-pw (bU d k) j))]=sm (uu (bU d k) z (bG l)) (j+1):=by
   have e0:List.foldl (fun s w=>s*zw w) 1 [l[j],uw (pw (bU d k) j),uw (iz (z-pw (bU d k) j))]=uu (bU d k) z (bG l) j:=by
    unfold uu;rw[List.foldl_cons,List.foldl_cons,List.foldl_cons,List.foldl_nil,lL,lL,o2 hil];grind
   rw[e0];rfl
  rw[e];exact xW hk hN hl hz h1 h2 t (j+1) H (by omega) (hs.re [0,1] rfl)
theorem z8 (hk:k<=20)(hN:N=2^k)(hl:l.length=N){r:Nat}(hm:m2=N)
  (h1:Cells H0 A1 (af l)) (h2:Cells H0 A2 (af (row (pw (bU d k)) N))):
  ∀(t j:Nat) (ys:List UInt64) (H:Hp),j+t=N->ys.length=t->(∀ i,i<j->z-pw (bU d k) i≠0)->Sep [own H0,ah r (.row (af (row (fun i=>z-pw (bU d k) i) j++ys)) 108 (N*1))] H->
   cq.l3 (lU (U ((nW (bU (!d) k) k (bG l) z).val:Int)) H0) (t+1) A1 N m1 A2 N m2 (k:Int) (z.val:Int) (Oo r) N N A2 N m2 (N:Int) (j:Int) H
 |0,j,ys,H,hj,hy,hz,hs=>by
  have h20:=cL hk;obtain rfl:ys=[]:=List.length_eq_zero_iff.1 hy;obtain rfl:j=N:=by omega
  unfold cq.l3;refine au (by omega) ?_;rw[List.append_nil]at hs;refine(I9 (f:=fun i=>z-pw (bU d k) i) (n:=j) (m:=j) (A:=some (O r)) (R:=ah r (.row (af (row (fun i=>z-pw (bU d k) i) j)) 108 (j*1))) (by omega) hz (fun H h=>by
   have:=Cells.row (b:=r) (H:=H) h 0 j;rw[List.drop_zero,List.take_of_length_le (by rw[aB,fp];exact Nat.le_refl _)]at this;exact this)).use hs [1] rfl rfl ?_
  rintro _ _ H ⟨r3,rfl,rfl⟩ hs;simp only[HV];refine⟨j+1,xW (m3:=j*1) hk hN hl (fun i hi=>hz i (by omega)) h1 h2 j 0 H (by omega) (hs.re [0,2] rfl)⟩
 |t+1,j,ys,H,hj,hy,hz,hs=>by
  have h20:=cL hk;have hle:=hs.ow 0 rfl;have hil:j<l.length:=by omega
  unfold cq.l3;refine aA (by omega) ?_;refine(h2.le hle).read (jY (pw (bU d k)) (show j<N by omega)) rfl (by rw[aB,fp];omega) ?_;simp only[HV];refine aa.use (zU (du _) (du _) H) ?_;rw[CM];simp only[HV];refine⟨by omega,by omega,?_⟩;show St H (((O r).add ((j:Int).toNat*1)).add 0) _ _
  rw[show(((O r).add ((j:Int).toNat*1)).add 0)=⟨r,j,none⟩ by rw[Int.toNat_natCast,Nat.mul_one,Addr.aP,Addr.aP,Nat.zero_add,Nat.add_zero]];refine hs.str 1 rfl (by rw[aB,List.length_append,fp];omega) rfl fun H hs=>?_;rw[pR (fun i=>z-pw (bU d k) i) j (fun e=>by rw[e]at hy;simp at hy)]at hs;refine⟨by omega,by omega,?_⟩;show Ld H ((O r).add ((j:Int).toNat*1)) _
  rw[show((O r).add ((j:Int).toNat*1))=⟨r,j,none⟩ by rw[Int.toNat_natCast,Nat.mul_one,Addr.aP,Nat.zero_add]];have hg:(af (row (fun i=>z-pw (bU d k) i) (j+1)++ys.drop 1))[j]? =some (U ((z-pw (bU d k) j).val:Int)):=by
   have h:=jY (fun i=>z-pw (bU d k) i) (show j<j+1 by omega);rw[ct]at h⊢;rw[List.getElem?_append_left (by rw[fp];omega)];exact h
  refine hs.ph 1 rfl hg ?_;simp only[HV];by_cases h0:z-pw (bU d k) j=0
  .refine bH (by rw[h0];rfl) ?_;refine(h1.le (hs.ow 0 rfl)).read (show(af l)[j]? =some (U ((l[j]).toNat:Int)) by rw[ct,List.getElem?_eq_getElem hil];rfl) rfl (by rw[aB];omega) ?_;simp only[HV];refine aa.use (ie (l[j]).toNat_lt H) ?_;simp only[HV];have e:((l[j]).toNat%18446744069414584321:Nat)=(nW (bU (!d) k) k (bG l) z).val:=by
    have hz:z=pw (bU d k) j:=by
     have:z=z-pw (bU d k) j+pw (bU d k) j:=by grind
     rw[this,h0];grind
    have hw:∀ d,k=0\/pw (bU d k) (2^(k-1))=-1:=fun d=>by
     by_cases h:k=0
     .exact .inl h
     .exact .inr (xB d)
    rw[hz,GS (hw d) (hw (!d)) (ud d) (bG l) (by omega),o2 hil];rfl
   rw[e];exact hs.fin 0 rfl _
  .refine bT (fun e=>h0 (Fin.ext (by rw[show((0:Int))=((0:Nat):Int)from rfl]at e;exact Int.ofNat.inj e))) ?_;rw[bg (x:=(j:Int)+1)];refine z8 hk hN hl hm h1 h2 t (j+1) (ys.drop 1) H (by omega) (by rw[List.length_drop];omega) (fun i hi=>?_) hs;by_cases e:i=j
   .rw[e];exact h0
   .exact hz i (by omega)
theorem Lx (hk:k<=20)(hN:N=2^k)(hl:l.length=N)(hm:m2=N)(H:Hp)
  (h1:Cells H A1 (af l)) (h2:Cells H A2 (af (row (pw (bU d k)) N))):
  aa prog 175 #[.slice A1 N m1,.slice A2 N m2,I (k:Int),U (z.val:Int)] H (RetE (U ((nW (bU (!d) k) k (bG l) z).val:Int)) H):=aa.ret (by
 have h20:=cL hk;apply cq.ok;unfold cq;refine(Sep.start H).nX fi rfl (n:=N) (m:=N) rfl rfl (Nat.le_refl _) (by omega) (by omega) fun r H1 hs=>?_
 simp only[HV];refine⟨N+1,z8 hk hN hl hm h1 h2 N 0 (List.replicate N 0) H1 (by omega) (by simp) (fun i hi=>absurd hi (by omega)) ?_⟩;rw[mU]at hs;exact hs)
def sB (d:Bool)(k:Nat)(y:Nat->Zp)(z:Zp):Zp:=if d=true then nW (bU (!d) k) k y z*nn (2^k)else nW (bU (!d) k) k y z
theorem GM (hk:k<=20)(hN:lg (N:Int)=some k)(hl:l.length=N)(d:Bool){x:Nat}(hx:x<2^64)(H:Hp)(hT:T64 H)(h1:Cells H A1 (af l)):
  aa prog 116 #[.slice A1 N m1,I (if d=true then 1 else 0),U (x:Int)] H (RetE (.tuple #[U ((sB d k (bG l) (zp x)).val:Int),I 0]) H):=aa.ret (by
 have h20:=cL hk;have hN2:N=2^k:=by have:=(gn hN).2;omega
 apply mv.ok;unfold mv;refine aa.use (Ad hk hN d H hT) ?_;simp only[HV];refine aF rfl ?_;have hs:=Sep.start H;refine(FF hk hN2 d).use hs [] rfl rfl ?_;rintro _ _ H1 ⟨r,rfl,rfl⟩ hs;simp only[HV];refine aa.use (ie hx H1) ?_;rw[show x%18446744069414584321=(zp x).val from rfl];simp only[HV];have hc:Cells H1 (Oo r) (af (row (pw (bU d k)) N)):=by
  have:=Cells.row (hs.get 0 rfl) 0 N;rw[List.drop_zero,List.take_of_length_le (by rw[aB,fp];exact Nat.le_refl _)]at this;exact this
 refine aa.use (Lx (z:=zp x) (d:=d) (m1:=m1) (m2:=N) hk hN2 hl rfl H1 (h1.le (hs.ow 1 rfl)) hc) ?_;simp only[HV];cases d with
 |false=>
  refine bT (by decide) ?_;exact hs.fin 1 rfl _
 |true=>
  refine bH rfl ?_;rw[fC];refine aa.use (ib (du _) (b:=N) (by omega) H1) ?_;have e:(nW (bU (!true) k) k (bG l) (zp x)).val*N%18446744069414584321=(sB true k (bG l) (zp x)).val:=by
   show _=(nW (bU (!true) k) k (bG l) (zp x)*nn (2^k)).val
   rw[<- iE,Dv,<-hN2,jo,Nat.mul_comm _ (N%18446744069414584321),tc,Nat.mul_comm]
  rw[e];simp only[HV];exact hs.fin 1 rfl _)
theorem zI {xs:List UInt64}(hk:k<=20)(hN:lg (N:Int)=some k)(hl:l.length=N)(hlx:xs.length=N)(d:Bool){x:Nat}(hx:x<2^64)(H:Hp)(hT:T64 H)(h1:Cells H A1 (af xs))(h2:Cells H A2 (af l)):
  aa prog 65 #[.slice A1 N m1,.slice A2 N m2,I (if d=true then 1 else 0),U (x:Int)] H (RetE (.tuple #[.bool (((sB d k (bG l) (zp x)).val:Int)==((qg (zp x) xs).val:Int)),I 0]) H):=by
 have h20:=cL hk;have hN2:N=2^k:=by have:=(gn hN).2;omega
 apply nk.ok;unfold nk;refine aa.use (Cp hk hN d H hT) ?_;simp only[HV];refine aF rfl ?_;refine aa.use (GM hk hN hl d hx H hT h2) ?_;simp only[HV];refine bH rfl ?_;refine aa.use (Lu hx hlx.symm (by omega) H h1) ?_;simp only[HV];exact RetE.mk _ _
theorem I5 {xs:List UInt64}(hk:k<=20)(hN:lg (N:Int)=some k)(hl:l.length=N)(hlx:xs.length=N)(d:Bool)(H:Hp)(hT:T64 H)(h1:Cells H A1 (af xs))(h2:Cells H A2 (af l))
  (ha:(if d=true then sm (bG xs) N*pw half k else sm (bG xs) N)=bG l 0) (hb:(if d=true then sm (bG l) N else sm (bG l) N*pw half k)=bG xs 0):
  aa prog 66 #[.slice A1 N m1,.slice A2 N m2,I (if d=true then 1 else 0)] H (RetE (.tuple #[.bool true,I 0]) H):=by
 have h20:=cL hk;have hN2:N=2^k:=by have:=(gn hN).2;omega
 have hpos:=Nat.two_pow_pos k;have hj:eH.j9 (RetE (.tuple #[.bool true,I 0]) H) A1 N m1 A2 N m2 ((bG l 0).val:Int) ((bG xs 0).val:Int) H:=by
  unfold eH.j9;have i1:0<l.length:=by omega
  have i2:0<xs.length:=by omega
  refine h2.read (show(af l)[0]? =some (U ((l[0]).toNat:Int)) by rw[ct,List.getElem?_eq_getElem i1];rfl) rfl (by rw[aB];omega) ?_;simp only[HV];refine aa.use (ie (l[0]).toNat_lt H) ?_;rw[show(l[0]).toNat%18446744069414584321=(bG l 0).val by rw[o2 i1];rfl];simp only[HV];refine bH rfl ?_;refine h1.read (show(af xs)[0]? =some (U ((xs[0]).toNat:Int)) by rw[ct,List.getElem?_eq_getElem i2];rfl) rfl (by rw[aB];omega) ?_;simp only[HV];refine aa.use (ie (xs[0]).toNat_lt H) ?_;rw[show(xs[0]).toNat%18446744069414584321=(bG xs 0).val by rw[o2 i2];rfl];simp only[HV];exact RetE.of (by rw[beq_self_eq_true])
 apply eH.ok;unfold eH;refine aa.use (Cp hk hN d H hT) ?_;simp only[HV];refine aF rfl ?_;refine aa.use (rW (by omega) H) ?_;simp only[HV];refine aa.use (EE hlx.symm (by omega) H h1) ?_;simp only[HV];refine aa.use (EE hl.symm (by omega) H h2) ?_;simp only[HV];cases d with
 |true=>
  refine bH rfl ?_;refine aa.use (ib (du _) (du _) H) ?_;rw[iE];simp only[HV];have ha:sm (bG xs) N*pw half k=bG l 0:=ha;have hb:sm (bG l) N=bG xs 0:=hb;rw[ha,hb];exact hj
 |false=>
  refine bT (by decide) ?_;refine aa.use (ib (du _) (du _) H) ?_;rw[iE];simp only[HV];have ha:sm (bG xs) N=bG l 0:=ha;have hb:sm (bG l) N*pw half k=bG xs 0:=hb;rw[ha,hb];exact hj
end
end Prf
namespace W
open Go Go.Hw
theorem iB :prog.follows .mixedOrders=true:=by kernel_rfl
def dC.l5 (K:VK):Nat->Int->Addr->Int->Hp->Prop
 |0,_,_,_,_=>False
 |k+1,x2,a1,x3,H=>
  let R5:=dC.l5 K k
  aq (decide (x3<2)) (Hz 345 #[I x2,I x3] H fun v1 H2=>kc v1 fun A1 n1 m1 x4=>(cz x3 2 (St H2 ((((a1.add 0).add 0).add (x3.toNat*1)).add 0) (.slice A1 n1 m1) fun H3=>R5 x2 a1 (i64.wrap (x3+1)) H3))) (Hz 118 #[I x2] H fun v4 H4=>kS v4 fun x5 x6=>(St H4 (((a1.add 0).add 2).add 0) (U x5) fun H5=>K (.pointer (some a1)) H5))
def dC (x1:Int)(H:Hp)(K:VK):Prop:=
 aq (decide (x1<0)) (K (.pointer none) H) (aq (decide (x1>20)) (K (.pointer none) H) (Nw H (Oa #[.slice none 0 0,.slice none 0 0,U 0,I x1] 445) fun b1 H1=>(∃ k,dC.l5 K k x1 (O b1) 0 H1)))
def dC.l5.L (K:VK)(k:Nat):de:=fun E D H=>
 eI E 0 .i64 fun x2=>eN E 3 fun a1=>eI E 14 .i64 fun x3=>ax D (dC.l5 K k x2 a1 x3 H)
def dC.Λ5 (_:VK)(_R5:Int→Addr→Int→Hp→Prop):aI:=aI.none (fun i=>match Nat.beq i 7 with|true=>some ([],[0,0,0,0,12,28,60,60,1,257,769,1919,3967],0)|false=>none)
def dC.Λ (K:VK):aI:=⟨fun i=>none,fun i=>match Nat.beq i 5 with|true=>some (fun E D H=>∃ k,dC.l5.L K k E D H)|false=>none,(fun i=>match Nat.beq i 7 with|true=>some ([],[0,0,0,0,12,28,60,60,1,257,769,1919,3967],0)|false=>none)⟩
theorem dC.ok x1 H K (h:dC x1 H K):aa prog 305 #[I x1] H K:=
 dV (Λ:=(dC.Λ K)) iB Tryz.func305 rfl rfl h (oC (fun E D H h=>by
   refine Safe.cJ (dC.l5.L K) (fun E D H h=>?_) (fun k E D H h=>?_) E D H h
   .obtain⟨w0,e0,g1⟩:=DG.out h;obtain⟨x2,rfl,g2⟩:=DI.out g1;obtain⟨w3,e3,g3⟩:=DG.out g2;obtain⟨pw3,rfl,g4⟩:=DP.out g3;obtain⟨a1,rfl,g5⟩:=NN.out g4;obtain⟨w14,e14,g6⟩:=DG.out g5;obtain⟨x3,rfl,g7⟩:=DI.out g6;obtain⟨rfl,h'⟩:=ax.out g7;exact h'
   .obtain⟨x2,e0,g2⟩:=GI h;obtain⟨a1,e3,g5⟩:=GN g2;obtain⟨x3,e14,g7⟩:=GI g5;obtain⟨rfl,h'⟩:=ax.out g7;exact cU (Λ:=(dC.Λ5 K (dC.l5 K k))) iB [] (ag.cons e0 (ag.cons e3 (ag.cons e14 (ag.nil _)))) h' oN) oN)
def aL.l13 (K:VK):Nat->OA->Nat->Nat->OA->Nat->Nat->Int->Hp->Prop
 |0,_,_,_,_,_,_,_,_=>False
 |k+1,A7,n7,m7,A8,n8,m8,x8,H=>
  let R13:=aL.l13 K k
  aq (decide (x8<(n7:Int))) (Hz 367 #[.slice A7 n7 m7,.slice A8 n8 m8,I x8] H fun v10 H5=>R13 A7 n7 m7 A8 n8 m8 (i64.wrap (x8*2)) H5) (K (I 0) H)
def aL.l8 (K:VK):Nat->OA->Nat->Nat->OA->Nat->Nat->OA->Nat->Nat->Int->Int->Hp->Prop
 |0,_,_,_,_,_,_,_,_,_,_,_,_=>False
 |k+1,A4,n4,m4,A5,n5,m5,A6,n6,m6,x4,x5,H=>
  let R8:=aL.l8 K k
  aq (decide (x5<x4)) (cz x5 n6 (NN A6 fun a3=>df H (a3.add (x5.toNat*1)) fun x6=>eh 121 #[U x6] H fun x7 H3=>cz x5 n4 (NN A4 fun a4=>St H3 ((a4.add (x5.toNat*1)).add 0) (U x7) fun H4=>R8 A4 n4 m4 A5 n5 m5 A6 n6 m6 x4 (i64.wrap (x5+1)) H4))) ((∃ k,aL.l13 K k A4 n4 m4 A5 n5 m5 1 H))
def aL (p1 A1:OA)(n1 m1:Nat)(x1:Int)(H:Hp)(K:VK):Prop:=
 NN p1 fun a1=>aM H (a1.add 3) fun x2=>(0<=(u64.wrap x2)/\aq ((n1:Int) !=(cT .i64 1 (u64.wrap x2))) (K (I 4) H) (NN p1 fun a2=>Hz 365 #[.pointer (some (a2.add 0)),I x1] H fun v2 H1=>Da v2 fun A2 n2 m2 c1=>(aq (!c1) (K (I 18) H1) (Hz 366 #[.slice A1 n1 m1] H1 fun v5 H2=>kc v5 fun A3 n3 m3 x3=>((∃ k,aL.l8 K k A1 n1 m1 A2 n2 m2 A3 n3 m3 (n3:Int) 0 H2))))))
def aL.l8.L (K:VK)(k:Nat):de:=fun E D H=>
 DG (E.get? 1) fun w1=>aE w1 fun A4 n4 m4=>DG (E.get? 7) fun w7=>aE w7 fun A5 n5 m5=>DG (E.get? 38) fun w38=>aE w38 fun A6 n6 m6=>eI E 39 .i64 fun x4=>eI E 40 .i64 fun x5=>ax D (aL.l8 K k A4 n4 m4 A5 n5 m5 A6 n6 m6 x4 x5 H)
def aL.l13.L (K:VK)(k:Nat):de:=fun E D H=>
 DG (E.get? 1) fun w1=>aE w1 fun A7 n7 m7=>DG (E.get? 7) fun w7=>aE w7 fun A8 n8 m8=>eI E 13 .i64 fun x8=>ax D (aL.l13 K k A7 n7 m7 A8 n8 m8 x8 H)
def aL.Λ8 (_:VK)(_R8:OA->Nat->Nat->OA->Nat->Nat->OA->Nat->Nat->Int->Int->Hp->Prop):aI:=aI.none (fun _=>none)
def aL.Λ13 (_:VK)(_R13:OA->Nat->Nat->OA->Nat->Nat->Int->Hp->Prop):aI:=aI.none (fun _=>none)
def aL.Λ (K:VK):aI:=⟨fun i=>none,fun i=>match Nat.beq i 13 with|true=>some (fun E D H=>∃ k,aL.l13.L K k E D H)|false=>match Nat.beq i 8 with|true=>some (fun E D H=>∃ k,aL.l8.L K k E D H)|false=>none,(fun _=>none)⟩
theorem aL.ok p1 A1 n1 m1 x1 H K (h:aL p1 A1 n1 m1 x1 H K):aa prog 360 #[.pointer p1,.slice A1 n1 m1,I x1] H K:=
 dV (Λ:=(aL.Λ K)) iB Tryz.func360 rfl rfl h (oC (fun E D H h=>by
   refine Safe.cJ (aL.l8.L K) (fun E D H h=>?_) (fun k E D H h=>?_) E D H h
   .obtain⟨w1,e1,g1⟩:=DG.out h;obtain⟨A4,n4,m4,rfl,g2⟩:=aE.out g1;obtain⟨w7,e7,g3⟩:=DG.out g2;obtain⟨A5,n5,m5,rfl,g4⟩:=aE.out g3;obtain⟨w38,e38,g5⟩:=DG.out g4;obtain⟨A6,n6,m6,rfl,g6⟩:=aE.out g5;obtain⟨w39,e39,g7⟩:=DG.out g6;obtain⟨x4,rfl,g8⟩:=DI.out g7;obtain⟨w40,e40,g9⟩:=DG.out g8;obtain⟨x5,rfl,g10⟩:=DI.out g9;obtain⟨rfl,h'⟩:=ax.out g10;exact h'
   .obtain⟨w1,e1,g1⟩:=DG.out h;obtain⟨A4,n4,m4,rfl,g2⟩:=aE.out g1;obtain⟨w7,e7,g3⟩:=DG.out g2;obtain⟨A5,n5,m5,rfl,g4⟩:=aE.out g3;obtain⟨w38,e38,g5⟩:=DG.out g4;obtain⟨A6,n6,m6,rfl,g6⟩:=aE.out g5;obtain⟨x4,e39,g8⟩:=GI g6;obtain⟨x5,e40,g10⟩:=GI g8;obtain⟨rfl,h'⟩:=ax.out g10;exact cU (Λ:=(aL.Λ8 K (aL.l8 K k))) iB [] (ag.cons e1 (ag.cons e7 (ag.cons e38 (ag.cons e39 (ag.cons e40 (ag.nil _)))))) h' oN) (oC (fun E D H h=>by
   refine Safe.cJ (aL.l13.L K) (fun E D H h=>?_) (fun k E D H h=>?_) E D H h
   .obtain⟨w1,e1,g1⟩:=DG.out h;obtain⟨A7,n7,m7,rfl,g2⟩:=aE.out g1;obtain⟨w7,e7,g3⟩:=DG.out g2;obtain⟨A8,n8,m8,rfl,g4⟩:=aE.out g3;obtain⟨w13,e13,g5⟩:=DG.out g4;obtain⟨x8,rfl,g6⟩:=DI.out g5;obtain⟨rfl,h'⟩:=ax.out g6;exact h'
   .obtain⟨w1,e1,g1⟩:=DG.out h;obtain⟨A7,n7,m7,rfl,g2⟩:=aE.out g1;obtain⟨w7,e7,g3⟩:=DG.out g2;obtain⟨A8,n8,m8,rfl,g4⟩:=aE.out g3;obtain⟨x8,e13,g6⟩:=GI g4;obtain⟨rfl,h'⟩:=ax.out g6;exact cU (Λ:=(aL.Λ13 K (aL.l13 K k))) iB [] (ag.cons e1 (ag.cons e7 (ag.cons e13 (ag.nil _)))) h' oN) oN))
def fB (p1:OA)(x1:Int)(H:Hp)(K:VK):Prop:=
 aq (decide (x1<0)) (K (.tuple #[.slice none 0 0,.bool false]) H) (aq (decide (x1>1)) (K (.tuple #[.slice none 0 0,.bool false]) H) (NN p1 fun a1=>cz x1 2 (mO H ((a1.add 0).add (x1.toNat*1)) fun A1 n1 m1=>K (.tuple #[.slice A1 n1 m1,.bool true]) H)))
theorem fB.ok p1 x1 H K (h:fB p1 x1 H K):aa prog 365 #[.pointer p1,I x1] H K:=
 bX iB Tryz.func365 rfl rfl h
def aT.l5.q1 (x10 x11 x12:Int)(H:Hp)(x7 x9:Int)(n5:Nat)(A5:OA)(x5:Int)(R5:OA->Nat->Nat->OA->Nat->Nat->Int->Int->Int->Int->Int->Hp->Prop)(m5:Nat)(A6:OA)(n6 m6:Nat)(x6 x8:Int):Prop:=
 Hz 373 #[U x10,U x11,U x12] H fun v4 H1=>zX v4 fun x13 x14=>(cz (i64.wrap (x7+x9)) n5 (NN A5 fun a4=>St H1 ((a4.add ((i64.wrap (x7+x9)).toNat*1)).add 0) (U x13) fun H2=>cz (i64.wrap ((i64.wrap (x7+x9))+x5)) n5 (NN A5 fun a5=>St H2 ((a5.add ((i64.wrap ((i64.wrap (x7+x9))+x5)).toNat*1)).add 0) (U x14) fun H3=>R5 A5 n5 m5 A6 n6 m6 x5 x6 x7 x8 (i64.wrap (x9+1)) H3)))
def aT.l5 (K:VK)(R2:OA->Nat->Nat->OA->Nat->Nat->Int->Int->Int->Hp->Prop):Nat->OA->Nat->Nat->OA->Nat->Nat->Int->Int->Int->Int->Int->Hp->Prop
 |0,_,_,_,_,_,_,_,_,_,_,_,_=>False
 |k+1,A5,n5,m5,A6,n6,m6,x5,x6,x7,x8,x9,H=>
  let R5:=aT.l5 K R2 k
  aq (decide (x9<x8)) (cz (i64.wrap (x7+x9)) n5 (NN A5 fun a1=>cz (i64.wrap ((i64.wrap (x7+x9))+x5)) n5 (NN A5 fun a2=>cz (i64.wrap (x9*x6)) n6 (NN A6 fun a3=>(df H (a1.add ((i64.wrap (x7+x9)).toNat*1)) fun x10=>(df H (a2.add ((i64.wrap ((i64.wrap (x7+x9))+x5)).toNat*1)) fun x11=>df H (a3.add ((i64.wrap (x9*x6)).toNat*1)) fun x12=>aT.l5.q1 x10 x11 x12 H x7 x9 n5 A5 x5 R5 m5 A6 n6 m6 x6 x8)/\(df H (a3.add ((i64.wrap (x9*x6)).toNat*1)) fun x15=>df H (a2.add ((i64.wrap ((i64.wrap (x7+x9))+x5)).toNat*1)) fun x16=>aT.l5.q1 x10 x16 x15 H x7 x9 n5 A5 x5 R5 m5 A6 n6 m6 x6 x8))/\(df H (a2.add ((i64.wrap ((i64.wrap (x7+x9))+x5)).toNat*1)) fun x19=>(df H (a1.add ((i64.wrap (x7+x9)).toNat*1)) fun x20=>df H (a3.add ((i64.wrap (x9*x6)).toNat*1)) fun x21=>aT.l5.q1 x20 x19 x21 H x7 x9 n5 A5 x5 R5 m5 A6 n6 m6 x6 x8)/\(df H (a3.add ((i64.wrap (x9*x6)).toNat*1)) fun x24=>df H (a1.add ((i64.wrap (x7+x9)).toNat*1)) fun x25=>aT.l5.q1 x25 x19 x24 H x7 x9 n5 A5 x5 R5 m5 A6 n6 m6 x6 x8))/\(df H (a3.add ((i64.wrap (x9*x6)).toNat*1)) fun x28=>(df H (a1.add ((i64.wrap (x7+x9)).toNat*1)) fun x29=>df H (a2.add ((i64.wrap ((i64.wrap (x7+x9))+x5)).toNat*1)) fun x30=>aT.l5.q1 x29 x30 x28 H x7 x9 n5 A5 x5 R5 m5 A6 n6 m6 x6 x8)/\(df H (a2.add ((i64.wrap ((i64.wrap (x7+x9))+x5)).toNat*1)) fun x33=>df H (a1.add ((i64.wrap (x7+x9)).toNat*1)) fun x34=>aT.l5.q1 x34 x33 x28 H x7 x9 n5 A5 x5 R5 m5 A6 n6 m6 x6 x8)))))) (R2 A5 n5 m5 A6 n6 m6 x5 x6 (i64.wrap (x7+(i64.wrap (2*x5)))) H)
def aT.l2 (K:VK):Nat->OA->Nat->Nat->OA->Nat->Nat->Int->Int->Int->Hp->Prop
 |0,_,_,_,_,_,_,_,_,_,_=>False
 |k+1,A3,n3,m3,A4,n4,m4,x2,x3,x4,H=>
  let R2:=aT.l2 K k
  aq (decide (x4<(n3:Int))) ((∃ k,aT.l5 K R2 k A3 n3 m3 A4 n4 m4 x2 x3 x4 x2 0 H)) (K (.tuple #[]) H)
def aT (A1:OA)(n1 m1:Nat)(A2:OA)(n2 m2:Nat)(x1:Int)(H:Hp)(K:VK):Prop:=
 ((i64.wrap (2*x1))≠0/\i64=i64/\(∃ k,aT.l2 K k A1 n1 m1 A2 n2 m2 x1 (i64.wrap (Int.tdiv (n1:Int) (i64.wrap (2*x1)))) 0 H))
def aT.l2.L (K:VK)(k:Nat):de:=fun E D H=>
 DG (E.get? 0) fun w0=>aE w0 fun A3 n3 m3=>DG (E.get? 1) fun w1=>aE w1 fun A4 n4 m4=>eI E 2 .i64 fun x2=>eI E 6 .i64 fun x3=>eI E 7 .i64 fun x4=>ax D (aT.l2 K k A3 n3 m3 A4 n4 m4 x2 x3 x4 H)
def aT.l5.L (K:VK)(R2:OA->Nat->Nat->OA->Nat->Nat->Int->Int->Int->Hp->Prop)(k:Nat):de:=fun E D H=>
 DG (E.get? 0) fun w0=>aE w0 fun A5 n5 m5=>DG (E.get? 1) fun w1=>aE w1 fun A6 n6 m6=>eI E 2 .i64 fun x5=>eI E 6 .i64 fun x6=>eI E 7 .i64 fun x7=>eI E 24 .i64 fun x8=>eI E 25 .i64 fun x9=>ax D (aT.l5 K R2 k A5 n5 m5 A6 n6 m6 x5 x6 x7 x8 x9 H)
def aT.Λ5 (_:VK)(_R2:OA→Nat→Nat→OA→Nat→Nat→Int→Int→Int→Hp→Prop)(_R5:OA→Nat→Nat→OA→Nat→Nat→Int→Int→Int→Int→Int→Hp→Prop):aI:=aI.none (fun i=>match Nat.beq i 8 with|true=>some ([],[0,0,0,0,0,0,48,112,0,0,768,1792,0,0,0,24576,61440,126976,262128,524272,1048560,1048560,2097139,6291443,16777215,33554431],0)|false=>none)
def aT.Λ2 (K:VK)(R2:OA→Nat→Nat→OA→Nat→Nat→Int→Int→Int→Hp→Prop):aI:=⟨fun i=>none,fun i=>match Nat.beq i 5 with|true=>some (fun E D H=>∃ k,aT.l5.L K R2 k E D H)|false=>none,(fun i=>match Nat.beq i 8 with|true=>some ([],[0,0,0,0,0,0,48,112,0,0,768,1792,0,0,0,24576,61440,126976,262128,524272,1048560,1048560,2097139,6291443,16777215,33554431],0)|false=>none)⟩
def aT.Λ (K:VK):aI:=⟨fun i=>none,fun i=>match Nat.beq i 2 with|true=>some (fun E D H=>∃ k,aT.l2.L K k E D H)|false=>none,(fun i=>match Nat.beq i 8 with|true=>some ([],[0,0,0,0,0,0,48,112,0,0,768,1792,0,0,0,24576,61440,126976,262128,524272,1048560,1048560,2097139,6291443,16777215,33554431],0)|false=>none)⟩
theorem aT.ok A1 n1 m1 A2 n2 m2 x1 H K (h:aT A1 n1 m1 A2 n2 m2 x1 H K):aa prog 367 #[.slice A1 n1 m1,.slice A2 n2 m2,I x1] H K:=
 dV (Λ:=(aT.Λ K)) iB Tryz.func367 rfl rfl h (oC (fun E D H h=>by
   refine Safe.cJ (aT.l2.L K) (fun E D H h=>?_) (fun k E D H h=>?_) E D H h
   .obtain⟨w0,e0,g1⟩:=DG.out h;obtain⟨A3,n3,m3,rfl,g2⟩:=aE.out g1;obtain⟨w1,e1,g3⟩:=DG.out g2;obtain⟨A4,n4,m4,rfl,g4⟩:=aE.out g3;obtain⟨w2,e2,g5⟩:=DG.out g4;obtain⟨x2,rfl,g6⟩:=DI.out g5;obtain⟨w6,e6,g7⟩:=DG.out g6;obtain⟨x3,rfl,g8⟩:=DI.out g7;obtain⟨w7,e7,g9⟩:=DG.out g8;obtain⟨x4,rfl,g10⟩:=DI.out g9;obtain⟨rfl,h'⟩:=ax.out g10;exact h'
   .obtain⟨w0,e0,g1⟩:=DG.out h;obtain⟨A3,n3,m3,rfl,g2⟩:=aE.out g1;obtain⟨w1,e1,g3⟩:=DG.out g2;obtain⟨A4,n4,m4,rfl,g4⟩:=aE.out g3;obtain⟨x2,e2,g6⟩:=GI g4;obtain⟨x3,e6,g8⟩:=GI g6;obtain⟨x4,e7,g10⟩:=GI g8;obtain⟨rfl,h'⟩:=ax.out g10;exact cU (Λ:=(aT.Λ2 K (aT.l2 K k))) iB [] (ag.cons e0 (ag.cons e1 (ag.cons e2 (ag.cons e6 (ag.cons e7 (ag.nil _)))))) h' (oC (fun E D H h=>by
      refine Safe.cJ (aT.l5.L K (aT.l2 K k)) (fun E D H h=>?_) (fun k E D H h=>?_) E D H h
      .obtain⟨w0,e0,g1⟩:=DG.out h;obtain⟨A5,n5,m5,rfl,g2⟩:=aE.out g1;obtain⟨w1,e1,g3⟩:=DG.out g2;obtain⟨A6,n6,m6,rfl,g4⟩:=aE.out g3;obtain⟨w2,e2,g5⟩:=DG.out g4;obtain⟨x5,rfl,g6⟩:=DI.out g5;obtain⟨w6,e6,g7⟩:=DG.out g6;obtain⟨x6,rfl,g8⟩:=DI.out g7;obtain⟨w7,e7,g9⟩:=DG.out g8;obtain⟨x7,rfl,g10⟩:=DI.out g9;obtain⟨w24,e24,g11⟩:=DG.out g10;obtain⟨x8,rfl,g12⟩:=DI.out g11;obtain⟨w25,e25,g13⟩:=DG.out g12;obtain⟨x9,rfl,g14⟩:=DI.out g13;obtain⟨rfl,h'⟩:=ax.out g14;exact h'
      .obtain⟨w0,e0,g1⟩:=DG.out h;obtain⟨A5,n5,m5,rfl,g2⟩:=aE.out g1;obtain⟨w1,e1,g3⟩:=DG.out g2;obtain⟨A6,n6,m6,rfl,g4⟩:=aE.out g3;obtain⟨x5,e2,g6⟩:=GI g4;obtain⟨x6,e6,g8⟩:=GI g6;obtain⟨x7,e7,g10⟩:=GI g8;obtain⟨x8,e24,g12⟩:=GI g10;obtain⟨x9,e25,g14⟩:=GI g12;obtain⟨rfl,h'⟩:=ax.out g14;exact cU (Λ:=(aT.Λ5 K (aT.l2 K k) (aT.l5 K (aT.l2 K k) k))) iB [] (ag.cons e0 (ag.cons e1 (ag.cons e2 (ag.cons e6 (ag.cons e7 (ag.cons e24 (ag.cons e25 (ag.nil _)))))))) h' oN) oN)) oN)
def jK (x1 x2 x3:Int)(H:Hp)(K:VK):Prop:=
 eh 120 #[U x2,U x3] H fun x4 H1=>eh 177 #[U x1,U x4] H1 fun x5 H2=>eh 243 #[U x1,U x4] H2 fun x6 H3=>K (.tuple #[U x5,U x6]) H3
theorem jK.ok x1 x2 x3 H K (h:jK x1 x2 x3 H K):aa prog 373 #[U x1,U x2,U x3] H K:=
 bX iB Tryz.func373 rfl rfl h
end W
namespace Ker
open Go Go.Hw W Shp Gol Fft
def mE (z:Zp)(l:List UInt64)(n:Nat):List UInt64:=(List.range n).map fun c=>uw (bG l c*pw z c)
def uk (z:Zp)(l:List UInt64):List UInt64:=mE z l l.length
theorem F8 (z:Zp)(l:List UInt64)(n:Nat):(mE z l n).length=n:=by simp[mE]
theorem tJ (z:Zp)(l:List UInt64):(uk z l).length=l.length:=F8 _ _ _
theorem D7 (z:Zp)(l:List UInt64)(n:Nat):mE z l (n+1)=mE z l n++[uw (bG l n*pw z n)]:=by
 unfold mE;rw[List.range_succ,List.map_append];rfl
theorem DL {n r:Nat}(hn:1<=n/\n<=1048576)(hr:r<=4294967295)(H:Hp):aa prog 368 #[.agg #[I 1,I (n:Int),I (r:Int),I 0]] H (RetE (.bool true) H):=aa.ret (by
 have hin:∀{x:Nat} (H:Hp),x<=4294967295->aa prog 374 #[I (x:Int)] H (RetE (.bool true) H):=fun{x} H hx=>by
  apply mD.ok;unfold mD;refine aA (by omega) ?_;rw[decide_eq_true (by omega)];exact RetE.mk _ _
 apply lz.ok;unfold lz;refine(Sep.start H).nw fun b1 H1 hs=>?_
 refine hs.cg 1 rfl rfl ?_;simp only[HV];refine aa.use (hin H1 hr) ?_;simp only[HV];refine hs.cg 1 rfl rfl ?_;simp only[HV];refine aa.use (hin (x:=0) H1 (by omega)) ?_;simp only[HV];refine hs.jU 1 rfl rfl ?_;simp only[HV];refine hs.cg 1 rfl rfl ?_;simp only[HV];rw[bg (x:=1-1) (by decide) (by decide),bg (x:=4294967295-(r:Int))];refine aA (by omega) ?_;refine hs.jU 1 rfl rfl ?_;simp only[HV];refine hs.cg 1 rfl rfl ?_;simp only[HV];rw[bg (x:=(n:Int)-1),bg (x:=4294967295-0) (by decide) (by decide),decide_eq_true (by omega)];exact hs.fin 0 rfl _)
section
variable {R TT : As} {A : Option Addr} {n m k r : Nat} {l : List UInt64}
theorem xV (K:VK)(R10:OA->Nat->Nat->Addr->Int->OA->Nat->Nat->Int->Int->Hp->Prop)(z:Zp){A5:OA}{n7 m5:Nat}{a2:Addr}{x21 x24 x25:Int}{A7:OA}{m7:Nat}{L:List As}
  (hR:∀ H,R H->Cells H A7 (af l)) (hl:l.length=n) (hn:n<=1048576)
  (hK:∀ A' m' H,Sep (cj 108 1 A' n m' (af (uk z l))::R::L) H->R10 A5 n7 m5 a2 x21 A' n m' x24 (i64.wrap (x25+1)) H):
  ∀(t i:Nat) (A':OA) (m':Nat) (H:Hp),i+t=n->Sep (cj 108 1 A' i m' (af (mE z l i))::R::L) H->
   bQ.l15 K R10 (t+1) A5 n7 m5 a2 x21 A' i m' (z.val:Int) ((pw z i).val:Int) x24 x25 A7 n m7 (n:Int) (i:Int) H
 |0,i,A',m',H,hi,hs=>by
  unfold bQ.l15;obtain rfl:i=n:=by omega
  refine au (by omega) (hK A' m' H ?_);unfold uk;rw[hl];exact hs
 |t+1,i,A',m',H,hi,hs=>by
  have hc:Cells H A7 (af l):=by
   obtain⟨H1,h1,hle⟩:=hs.fU 1 rfl;exact(hR H1 h1).le hle
  unfold bQ.l15;refine aA (by omega) ?_;have hil:i<l.length:=by omega
  have hg:(af l)[i]? =some (U ((l[i]).toNat:Int)):=by
   rw[ct,List.getElem?_eq_getElem hil];rfl
  refine hc.read hg rfl (by rw[aB];omega) ?_;simp only[HV];refine aa.use (ib (l[i]).toNat_lt (du _) H) ?_;rw[Hg];simp only[HV];refine hs.Db 0 rfl fi (by omega) rfl (by omega) (by omega) fun A2 m2 H hs=>?_
  simp only[HV];refine aa.use (ib (du _) (du _) H) ?_;rw[iE];simp only[HV];rw[bg (x:=(i:Int)+1),show(i:Int)+1=((i+1:Nat):Int) by omega];refine xV K R10 z hR hl hn hK t (i+1) A2 m2 H (by omega) ?_;rw[D7,show af (mE z l i++[uw (bG l i*pw z i)])=af (mE z l i)++[U ((zw l[i]*pw z i).val:Int)] by
   unfold af;rw[List.map_append,List.map_cons,lh,o2 hil];rfl]
  exact hs
theorem Jc (hT:∀ H,TT H->T64 H)(hR:∀ H,R H->Cells H A (af l)){b:Nat}(hn:n=2^b)(hb:b<=20)(hl:l.length=n)(hm:n<=m)(hk:k<=32)(hr:r<=4294967295)(d:Bool):
  Tr prog 361 #[.slice A n m,.agg #[I 1,I (n:Int),I (r:Int),I 0],I (k:Int),I (if d=true then 1 else 0)] [R,TT] fun v M=>
   ∃ A' m',v= .tuple #[.slice A' n m',I 0]/\M=[cj 108 1 A' n m' (af (uk (pw (bU d k) r) l)),R,TT]:=fun H hs=>by
 have h20:=cL hb;have h1:=pow_pos b;apply bQ.ok;unfold bQ;refine hs.nw fun b1 H hs=>?_
 have hs:Sep [R,TT,ah b1 (Oa #[I 1,I (n:Int),I (r:Int),I 0] 464)] H:=hs;refine aa.use (wZ hk d H) ?_;simp only[HV];refine aF rfl ?_;simp only[Addr.add_zero];refine hs.nH 2 rfl (show 0+2<=4 by omega) ?_;have hT0:T64 H:=by
  obtain⟨H1,h1,hle⟩:=hs.fU 1 rfl;exact(hT H1 h1).le hle
 have hg:jg 1 (n:Int)=true:=by
  have:=qM (a:=0) (b:=b) (by omega);rw[hn];exact this
 refine aa.use (fA 1 (n:Int) H hT0) ?_;rw[hg];simp only[HV];refine hs.ld 2 rfl rfl ?_;simp only[HV];refine hs.cg 2 rfl rfl ?_;simp only[HV];refine aF (by rw[bg];omega) ?_;refine hs.nH 2 rfl (show 0+4<=4 by omega) ?_;refine aa.use (DL (n:=n) (r:=r) ⟨by omega,by omega⟩ hr H) ?_;simp only[HV];refine hs.nX fi rfl (n:=0) (m:=n) rfl rfl (by omega) (by omega) (by omega) fun bo H hs=>?_
 simp only[HV];refine hs.ld 2 rfl rfl ?_;simp only[HV];have hs:Sep [R,TT,ah b1 (Oa #[I 1,I (n:Int),I (r:Int),I 0] 464),cj 108 1 (Oo bo) 0 n (af (mE (pw (bU d k) r) l 0))] H:=
  hs.jy 3 rfl (B:=cj 108 1 (Oo bo) 0 n (af (mE (pw (bU d k) r) l 0))) (fun H1 h=>⟨rfl,.inr ⟨bo,n*1,rfl,h,Nat.le_refl _⟩⟩)
 refine⟨2,?_⟩;unfold bQ.l10;refine aA (by decide) ?_;refine hs.cg 2 rfl rfl ?_;simp only[HV];rw[show u64.wrap (i64.wrap ((r:Int)+0))=(r:Int) by rw[bg,iQ];omega];refine aa.use (sO (du _) (n:=r) (by omega) H) ?_;rw[oo,jm];simp only[HV];refine hs.cg 2 rfl rfl ?_;simp only[HV];refine aa.use (sO (du _) (n:=0) (by decide) H) ?_;rw[oo,jm];simp only[HV];refine hs.cg 2 rfl rfl ?_;simp only[HV];refine hs.cg 2 rfl rfl ?_;simp only[HV];rw[show i64.wrap (0*(n:Int))=((0:Nat):Int) by rw[Int.zero_mul];rfl,show i64.wrap (i64.wrap (0+1)*(n:Int))=(n:Int) by
  rw[show i64.wrap (0+1)=1 by decide,bg];omega]
 refine⟨by omega,by omega,by omega,by omega,?_⟩;rw[Int.toNat_natCast,Int.toNat_natCast];simp only[Nat.sub_zero];refine⟨n+1,?_⟩;have hR':∀ H,R H->Cells H (iG A m 0 1) (af l):=fun H h=>(hR H h).shift (by rw[aB];omega)
 refine xV (L:=[TT]) _ _ (pw (bU d k) r) hR' hl (by omega) (fun A' m' H hs=>?_) n 0 (Oo bo) n H (by omega) (hs.re [3,0,1] rfl);unfold bQ.l10;refine au (by decide) ?_;exact⟨_,⟨A',m',rfl,rfl⟩,hs⟩
end
theorem zF (x y p:Zp)(H:Hp):aa prog 373 #[U ((uw x).toNat:Int),U ((uw y).toNat:Int),U ((uw p).toNat:Int)] H (RetE (.tuple #[U ((uw (x+y*p)).toNat:Int),U ((uw (x-y*p)).toNat:Int)]) H):=by
 apply jK.ok;unfold jK;simp only[lh];refine aa.use (ib (du _) (du _) H) ?_;rw[iE];simp only[HV];refine aa.use (pV (du _) (du _) H) ?_;simp only[HV];refine aa.use (zU (du _) (du _) H) ?_;simp only[HV];have e1:(x.val+(y*p).val)%18446744069414584321=(x+y*p).val:=(Fin.val_add x (y*p)).symm;have e2:sub x.val (y*p).val=(x-y*p).val:=by
  have h1:=x.isLt;have h2:=(y*p).isLt;rw[Fin.sub_def];show(x.val+(18446744069414584321-(y*p).val%18446744069414584321)%18446744069414584321)%18446744069414584321=(18446744069414584321-(y*p).val+x.val)%18446744069414584321
  omega
 rw[e1,e2];exact RetE.mk _ _
theorem jY {xs:List Value}{ws:List UInt64}{off p:Nat}(h:off+ws.length<=xs.length)(hp:p<ws.length):(setAt xs off (af ws))[off+p]? =some (U ((ws[p]).toNat:Int)):=by
 rw[fw (by rw[aB];exact h),if_neg (by omega),aB,if_pos (by omega),Nat.add_sub_cancel_left,ct,List.getElem?_eq_getElem hp];rfl
theorem fp {xs:List Value}{ws:List UInt64}{off:Nat}(h:off+ws.length<=xs.length):(setAt xs off (af ws)).length=xs.length:=gN (by rw[aB];exact h)
theorem pR {xs:List Value}{ws:List UInt64}{off p:Nat}(h:off+ws.length<=xs.length)(hp:p<ws.length)(w:UInt64):(setAt xs off (af ws)).set (off+p) (U (w.toNat:Int))=setAt xs off (af (ws.set p w)):=by
 apply List.ext_getElem?;intro j;rw[List.getElem?_set,fp h,fw (by rw[aB];exact h),fw (by rw[aB,List.length_set];exact h),aB,aB,List.length_set];by_cases e:off+p=j
 .subst e;rw[if_pos rfl,if_pos (by omega),if_neg (by omega),if_pos (by omega),Nat.add_sub_cancel_left,ct,List.getElem?_set,if_pos rfl,if_pos hp];rfl
 .rw[if_neg e];by_cases h1:j<off
  .rw[if_pos h1,if_pos h1]
  .rw[if_neg h1,if_neg h1];by_cases h2:j<off+ws.length
   .rw[if_pos h2,if_pos h2,ct,ct,List.getElem?_set,if_neg (by omega)]
   .rw[if_neg h2,if_neg h2]
section
variable {w : Zp} {k : Nat} {l : Nat -> Zp} {s b off mm n m n2 m2:Nat} {xs : List Value} {e : TypeId} {R : As} {A : Option Addr}
theorem Br (K:VK)(R2:OA->Nat->Nat->OA->Nat->Nat->Int->Int->Int->Hp->Prop)(hn:n=2^k)(hk:k<=20)(hsk:s<k)(hw:pw w (2^(k-1))=-1)(hx:off+n<=xs.length)(hR:∀ H,R H->Cells H A (af (iP w (2^(k-1)))))(hn2:n2=2^(k-1))(bl:Nat)(hbl:bl*(2*2^s)+2*2^s<=n)
  (hK:∀ H,Sep [ah b (.row (setAt xs off (af (ka w k l s (dn (2^s) (bl+1) 0)))) e mm),R] H->R2 (some ⟨b,off,none⟩) n m A n2 m2 ((2^s:Nat):Int) ((2^(k-s-1):Nat):Int) (i64.wrap (((bl*(2*2^s):Nat):Int)+i64.wrap ((2:Int)*((2^s:Nat):Int)))) H):
  ∀(t i:Nat) (H:Hp),i+t=2^s->Sep [ah b (.row (setAt xs off (af (ka w k l s (dn (2^s) bl i)))) e mm),R] H->
   aT.l5 K R2 (t+1) (some ⟨b,off,none⟩) n m A n2 m2 ((2^s:Nat):Int) ((2^(k-s-1):Nat):Int) ((bl*(2*2^s):Nat):Int) ((2^s:Nat):Int) (i:Int) H
 |0,i,H,hi,hs=>by
  unfold aT.l5 aT.l5.q1;refine au (by omega) (hK H ?_);rw[<- HH,<-show i=2^s by omega];rw[show dn i bl i=dn (2^s) bl i by rw[show i=2^s by omega]];exact hs
 |t+1,i,H,hi,hs=>by
  have h20:=cL hk;have hst:i*2^(k-s-1)<2^(k-1):=by
   have h1:2^(k-1)=2^s*2^(k-s-1):=by rw[<- Nat.pow_add];congr 1;omega
   rw[h1];exact Nat.mul_lt_mul_of_pos_right (by omega) (pow_pos _)
  have h19:=cL (show k-1<=19 by omega);have e3:i64.wrap ((i:Int)*((2^(k-s-1):Nat):Int))=((i*2^(k-s-1):Nat):Int):=by
   rw[<- Int.natCast_mul,dS]
  have ih:=fun H=>Br K R2 hn hk hsk hw hx hR hn2 bl hbl hK t (i+1) H (by omega)
  obtain⟨g1,g2⟩:=HM w k l hsk hw bl i (by omega);have hset:=HI (w:=w) (k:=k) (l:=l) (s:=s) (b:=bl) (i:=i) (2^s) (by omega) (by omega);rw[g1,g2]at hset;have hlen:=ui w k l s (dn (2^s) bl i);obtain⟨d1,d2⟩:=Jl (2^s) bl i (by omega);have ga0:=pT w k l s (dn (2^s) bl i) (p:=bl*(2*2^s)+i);have gb0:=pT w k l s (dn (2^s) bl i) (p:=bl*(2*2^s)+i+2^s);rw[d1,if_neg (by decide)]at ga0;rw[d2,if_neg (by decide)]at gb0;generalize nO w k l s (bl*(2*2^s)+i)=va at*;generalize nO w k l s (bl*(2*2^s)+i+2^s)=vb at*;generalize ka w k l s (dn (2^s) bl i)=ws at*;generalize hf:bl*(2*2^s)=f at*;generalize hh:2^s=h at*;have hpg:=Hs w hst;generalize i*2^(k-s-1)=q at*;have e1:i64.wrap ((f:Int)+(i:Int))=((f+i:Nat):Int):=by rw[<- Int.natCast_add,dS]
  have e2:i64.wrap (((f+i:Nat):Int)+(h:Int))=((f+i+h:Nat):Int):=by rw[<- Int.natCast_add,dS]
  have hc:Cells H A (af (iP w (2^(k-1)))):=by
   obtain⟨H1,h1,hle⟩:=hs.fU 1 rfl;exact(hR H1 h1).le hle
  have hpv:(af (iP w (2^(k-1))))[q]? =some (U ((uw (pw w q)).toNat:Int)):=by rw[ct,hpg];rfl
  obtain⟨a3,rfl,hcell⟩:=hc q _ hpv;unfold aT.l5 aT.l5.q1;refine aA (by omega) ?_;simp only[e1,e2,e3,dz,Int.toNat_natCast,Nat.mul_one,Addr.aP,Addr.add_zero];refine⟨by omega,by omega,by omega,by omega,by omega,by omega,?_⟩;have hla:f+i<ws.length:=by omega
  have hlb:f+i+h<ws.length:=by omega
  have ga:(setAt xs off (af ws))[off+(f+i)]? =some (U ((uw va).toNat:Int)):=by
   rw[jY (by omega) hla];rw[List.getElem?_eq_getElem hla]at ga0;rw[Option.some.inj ga0]
  have gb:(setAt xs off (af ws))[off+(f+i+h)]? =some (U ((uw vb).toNat:Int)):=by
   rw[jY (by omega) hlb];rw[List.getElem?_eq_getElem hlb]at gb0;rw[Option.some.inj gb0]
  repeat' first
   |refine⟨?_,?_⟩
   |(refine hs.ph 0 rfl ga ?_;simp only[HV])
   |(refine hs.ph 0 rfl gb ?_;simp only[HV])
   |(refine oz hcell ?_;simp only[HV])
  all_goals
   refine aa.use (zF va vb (pw w q) H) ?_;simp only[HV];refine⟨by omega,by omega,?_⟩;refine hs.str 0 (j:=off+(f+i)) rfl (by rw[fp (by omega)];omega) rfl fun H hs=>?_;rw[pR (by omega) hla]at hs;refine⟨by omega,by omega,?_⟩;refine hs.str 0 (j:=off+(f+i+h)) rfl (by rw[fp (by rw[List.length_set];omega)];omega) rfl fun H hs=>?_;rw[pR (by rw[List.length_set];omega) (by rw[List.length_set];exact hlb),hset]at hs;rw[bg (x:=(i:Int)+1),show(i:Int)+1=((i+1:Nat):Int) by omega];exact ih H hs
theorem HK (hn:n=2^k)(hk:k<=20)(hsk:s<k)(hw:pw w (2^(k-1))=-1)(hx:off+n<=xs.length)(hR:∀ H,R H->Cells H A (af (iP w (2^(k-1)))))(hn2:n2=2^(k-1))(h':Nat):
  Tr prog 367 #[.slice (some ⟨b,off,none⟩) n m,.slice A n2 m2,I ((2^s:Nat):Int)] [ah b (.row (setAt xs off (af (ka w k l s (dn (2^s) 0 0)))) e mm),R] fun v M=>
   v= .tuple #[]/\M=[ah b (.row (setAt xs off (af (ka w k l (s+1) (dn h' 0 0)))) e mm),R]:=fun H hs=>by
 have h20:=cL hk;have hp:=pow_pos s;have hsk2:=cL (show s+1<=k by omega);rw[Nat.pow_succ]at hsk2;have hdv:2^k=2^(k-s-1)*(2*2^s):=by
  rw[show 2*2^s=2^(s+1) by rw[Nat.pow_succ];omega,<-Nat.pow_add];congr 1;omega
 apply aT.ok;unfold aT;have e0:i64.wrap ((2:Int)*((2^s:Nat):Int))=((2*2^s:Nat):Int):=by rw[bg];omega
 have e1:i64.wrap (Int.tdiv (n:Int) ((2*2^s:Nat):Int))=((2^(k-s-1):Nat):Int):=by
  rw[show Int.tdiv (n:Int) ((2*2^s:Nat):Int)=((n/(2*2^s):Nat):Int)from rfl,hn,hdv,Nat.mul_div_cancel _ (by omega),dS (by have:=cL (show k-s-1<=19 by omega);omega)]
 rw[e0,e1];refine⟨by omega,by simp,⟨2^(k-s-1)+1,?_⟩⟩;have key:∀(t bl:Nat) (H:Hp),bl+t=2^(k-s-1)->Sep [ah b (.row (setAt xs off (af (ka w k l s (dn (2^s) bl 0)))) e mm),R] H->
   aT.l2 (fun v H'=>∃ M,(v= .tuple #[]/\M=[ah b (.row (setAt xs off (af (ka w k l (s+1) (dn h' 0 0)))) e mm),R])/\Sep M H') (t+1) (some ⟨b,off,none⟩) n m A n2 m2 ((2^s:Nat):Int) ((2^(k-s-1):Nat):Int) ((bl*(2*2^s):Nat):Int) H:=fun t=>by
  induction t with
  |zero=>
   intro bl H hb hs;unfold aT.l2;refine au (by rw[hn,hdv,show bl=2^(k-s-1) by omega];omega) ⟨_,⟨rfl,rfl⟩,?_⟩;rw[<- JX (2^s) h' (b:=bl) (by rw[hdv,show bl=2^(k-s-1) by omega];exact Nat.le_refl _)];exact hs
  |succ t ih=>
   intro bl H hb hs;have hfit:bl*(2*2^s)+2*2^s<=n:=by
    rw[hn,hdv,<-Nat.succ_mul];exact Nat.mul_le_mul_right _ (by omega)
   unfold aT.l2;refine aA (by omega) ⟨2^s+1,?_⟩;refine Br _ _ hn hk hsk hw hx hR hn2 bl hfit (fun H hs=>?_) (2^s) 0 H (by omega) hs;rw[e0,<-Int.natCast_add,dS,<-show(bl+1)*(2*2^s)=bl*(2*2^s)+2*2^s by rw[Nat.add_mul bl 1,Nat.one_mul]];exact ih (bl+1) H (by omega) hs
 have:=key (2^(k-s-1)) 0 H (by omega) hs;rw[Nat.zero_mul]at this;exact this
end
theorem Sep.ex {α:Type}{L:List As}{H:Hp}(h:Sep L H)(i:Nat){F:α->As}(hi:L[i]? =some fun H=>∃ x,F x H):∃ x,Sep (L.set i (F x)) H:=by
 induction L generalizing i H with
 |nil=>simp at hi
 |cons C L ih=>
  obtain⟨H1,H2,h1,h2,h3,h4,h5⟩:=h;cases i with
  |zero=>
   simp only[List.getElem?_cons_zero,Option.some.injEq]at hi;subst hi;obtain⟨x,hx⟩:=h4;exact⟨x,H1,H2,h1,h2,h3,hx,h5⟩
  |succ i=>
   obtain⟨x,hx⟩:=ih h5 i hi;exact⟨x,H1,H2,h1,h2,h3,h4,hx⟩
def LW (A0 A1:OA)(h:Nat)(sh:Int)(k:Nat):Array Value:=#[.slice A0 h h,.slice A1 h h,U sh,I (k:Int)]
def qE (kp k:Nat)(x:OA×OA×Int):As:=fun H=>H kp=some (Oa (LW x.1 x.2.1 (2^(k-1)) x.2.2 k) 445)/\Cells H x.1 (af (iP (bU false k) (2^(k-1))))/\Cells H x.2.1 (af (iP (bU true k) (2^(k-1))))
def Kn (kp k:Nat):As:=fun H=>∃ x,qE kp k x H
theorem qE.up {kp k:Nat}{x:OA×OA×Int}{H H':Hp}(h:qE kp k x H)(l:H.le H'):qE kp k x H':=by
 obtain⟨h1,h2,h3⟩:=h;exact⟨l _ _ h1,h2.le l,h3.le l⟩
theorem Sep.LX {L:List As}{H:Hp}(h:Sep L H)(i:Nat){kp k:Nat}{x:OA×OA×Int}(hi:L[i]? =some (qE kp k x)):qE kp k x H:=by
 obtain⟨H1,h1,h2⟩:=h.fU i hi;exact h1.up h2
def pick (x:OA×OA×Int)(d:Bool):OA:=if d=true then x.2.1 else x.1
theorem qE.cells {kp k:Nat}{x:OA×OA×Int}{H:Hp}(h:qE kp k x H)(d:Bool):Cells H (pick x d) (af (iP (bU d k) (2^(k-1)))):=by
 cases d
 .exact h.2.1
 .exact h.2.2
theorem iU (k:Nat)(hk:k<=20):Tr prog 305 #[I (k:Int)] [] fun v M=>∃ kp,v= V kp/\M=[Kn kp k]:=fun H hs=>by
 apply dC.ok;unfold dC;refine au (by omega) (au (by omega) ?_);refine hs.nw fun kp H hs=>?_
 have hs:Sep [ah kp (Oa #[.slice none 0 0,.slice none 0 0,U 0,I (k:Int)] 445)] H:=hs;refine⟨3,?_⟩;unfold dC.l5;refine aA (by decide) ?_;refine(zW k hk false).use hs [] rfl rfl ?_;rintro _ _ H ⟨r0,rfl,rfl⟩ hs;simp only[HV];refine⟨by decide,by decide,?_⟩;simp only[Addr.aP];refine hs.st 1 rfl (Nat.lt_of_sub_eq_succ rfl) rfl fun H hs=>?_;rw[show i64.wrap (0+1)=1 by decide];unfold dC.l5;refine aA (by decide) ?_;refine(zW k hk true).use hs [] rfl rfl ?_;rintro _ _ H ⟨r1,rfl,rfl⟩ hs;simp only[HV];refine⟨by decide,by decide,?_⟩;simp only[Addr.aP];refine hs.st 2 rfl (Nat.lt_of_sub_eq_succ rfl) rfl fun H hs=>?_;rw[show i64.wrap (1+1)=2 by decide];unfold dC.l5;refine au (by decide) ?_;refine aa.use (rW (k:=k) (by omega) H) ?_;simp only[HV];simp only[Addr.aP];refine hs.st 2 rfl (Nat.lt_of_sub_eq_succ rfl) rfl fun H hs=>?_;have hs:Sep [ah r1 (.row (af (iP (bU true k) (2^(k-1)))) 108 (2^(k-1)*1)),ah r0 (.row (af (iP (bU false k) (2^(k-1)))) 108 (2^(k-1)*1)),
  ah kp (Oa (LW (Oo r0) (Oo r1) (2^(k-1)) ((pw half k).val:Int) k) 445)] H:=hs
 have hcell:∀{r:Nat} {d:Bool},H r=some (.row (af (iP (bU d k) (2^(k-1)))) 108 (2^(k-1)*1))->Cells H (Oo r) (af (iP (bU d k) (2^(k-1)))):=fun{r d} h=>by
  have:=Cells.row h 0 (2^(k-1));rw[List.drop_zero,List.take_of_length_le (by rw[aB,su];exact Nat.le_refl _)]at this;exact this
 exact⟨[Kn kp k],⟨kp,rfl,rfl⟩,H,fun _=>none,Hp.le_refl _,fun _ _ h=>(nomatch h),fun _=>.inr rfl,⟨(some (O r0),some (O r1),((pw half k).val:Int)),hs.get 2 rfl,hcell (hs.get 1 rfl),hcell (hs.get 0 rfl)⟩,trivial⟩
theorem HR {kp k:Nat}{x:OA×OA×Int}{H:Hp}(h:qE kp k x H)(d:Bool):aa prog 365 #[V kp,I (if d=true then 1 else 0)] H (RetE (.tuple #[.slice (pick x d) (2^(k-1)) (2^(k-1)),.bool true]) H):=by
 obtain⟨h1,h2,h3⟩:=h;cases d
 .apply fB.ok;unfold fB;refine au (by decide) (au (by decide) ?_);simp only[dz];refine⟨by decide,by decide,?_⟩;simp only[Addr.aP];refine oz (v:=.slice x.1 (2^(k-1)) (2^(k-1))) ?_ ?_
  .show H.cell? (O kp)=_
   rw[mG h1];rfl
  .simp only[HV];exact RetE.mk _ _
 .apply fB.ok;unfold fB;refine au (by decide) (au (by decide) ?_);simp only[dz];refine⟨by decide,by decide,?_⟩;simp only[Addr.aP];refine oz (v:=.slice x.2.1 (2^(k-1)) (2^(k-1))) ?_ ?_
  .show H.cell? ⟨kp,1,none⟩=_
   rw[mG h1];rfl
  .simp only[HV];exact RetE.mk _ _
theorem tA {H:Hp}{b off mm:Nat}{xs:List Value}{ws:List UInt64}{e:TypeId}(h:H b=some (.row (setAt xs off (af ws)) e mm):=by omega)(hx:off+ws.length<=xs.length:=by omega):Cells H (some ⟨b,off,none⟩) (af ws):=by
 have h1:=Cells.row h off ws.length;have e1:((setAt xs off (af ws)).drop off).take ws.length=af ws:=by
  apply List.ext_getElem?;intro j;rw[List.getElem?_take];by_cases hj:j<ws.length
  .rw[if_pos hj,List.getElem?_drop,jY hx hj,ct,List.getElem?_eq_getElem hj];rfl
  .rw[if_neg hj,List.getElem?_eq_none (by rw[aB];omega)]
 rw[e1]at h1;exact h1
section
variable {TT : As} {kp k b off mm n m : Nat} {l : List UInt64} {xs : List Value} {e : TypeId} {d : Bool}
theorem Ck (K:VK)(hn:n=l.length)(hn20:n<=1048576)(hx:off+n<=xs.length){A5:OA}{n5 m5 r mr:Nat}{tl:List UInt64}(htl:tl.length=n){L:List As}
  (hK:∀ H,Sep (ah b (.row (setAt xs off (af (tl.map fun x=>uw (zw x)))) e mm)::L) H->∃ f,aL.l13 K f (some ⟨b,off,none⟩) n m A5 n5 m5 1 H):
  ∀(t i:Nat) (H:Hp),i+t=n->Sep (ah b (.row (setAt xs off (af ((tl.take i).map (fun x=>uw (zw x))++l.drop i))) e mm)::ah r (.row (af tl) 108 mr)::L) H->
   aL.l8 K (t+1) (some ⟨b,off,none⟩) n m A5 n5 m5 (Oo r) n n (n:Int) (i:Int) H
 |0,i,H,hi,hs=>by
  unfold aL.l8;refine au (by omega) (hK H ?_);rw[List.take_of_length_le (by omega),List.drop_eq_nil_of_le (by omega),List.append_nil]at hs;obtain⟨H1,H2,h1,h2,h3,h4,h5⟩:=hs;exact⟨H1,H2,h1,h2,h3,h4,h5.tail⟩
 |t+1,i,H,hi,hs=>by
  unfold aL.l8;refine aA (by omega) ?_;have hil:i<tl.length:=by omega
  refine⟨by omega,by omega,?_⟩;show Ld H _ _
  rw[Int.toNat_natCast,Nat.mul_one,Addr.aP,Nat.zero_add];refine hs.ph 1 (v:=U ((tl[i]).toNat:Int)) rfl (by rw[ct,List.getElem?_eq_getElem hil];rfl) ?_;simp only[HV];refine aa.use (ie (tl[i]).toNat_lt H) ?_;simp only[HV];have hlen:((tl.take i).map (fun x=>uw (zw x))++l.drop i).length=n:=by rw[List.length_append,List.length_map,List.length_take,List.length_drop];omega
  refine⟨by omega,by omega,?_⟩;rw[Addr.aP,Addr.add_zero];refine hs.str 0 rfl (by rw[fp (by omega)];omega) rfl fun H hs=>?_;have e1:(setAt xs off (af ((tl.take i).map (fun x=>uw (zw x))++l.drop i))).set (off+i) (U (((tl[i]).toNat%18446744069414584321:Nat):Int))=setAt xs off (af ((tl.take (i+1)).map (fun x=>uw (zw x))++l.drop (i+1))):=by
   have:(((tl[i]).toNat%18446744069414584321:Nat):Int)=((uw (zw tl[i])).toNat:Int):=by rw[lh];rfl
   rw[this,pR (by omega) (by omega)];congr 2;have hlt:((tl.take i).map (fun x=>uw (zw x))).length=i:=by rw[List.length_map,List.length_take];omega
   rw[List.set_append_right _ _ (by omega),hlt,Nat.sub_self,List.take_add_one,List.getElem?_eq_getElem hil];simp only[Option.toList,List.map_append,List.append_assoc];congr 1;rw[List.drop_eq_getElem_cons (show i<l.length by omega)];rfl
  rw[e1]at hs;rw[bg (x:=(i:Int)+1),show(i:Int)+1=((i+1:Nat):Int) by omega];exact Ck K hn hn20 hx htl hK t (i+1) H (by omega) hs
theorem GH (hT:∀ H,TT H->T64 H)(hk:k<=20)(hn:n=2^k)(hl:l.length=n)(hx:off+n<=xs.length)(hseg:setAt xs off (af l)=xs)(d:Bool):
  Tr prog 360 #[V kp,.slice (some ⟨b,off,none⟩) n m,I (if d=true then 1 else 0)] [ah b (.row xs e mm),Kn kp k,TT] fun v M=>
   v= I 0/\M=[ah b (.row (setAt xs off (af (kI d k l))) e mm),Kn kp k,TT]:=fun H hs=>by
 have h20:=cL hk;have h1:=pow_pos k;apply aL.ok;unfold aL;simp only[dz];obtain⟨x,hs⟩:=Sep.ex hs 1 rfl;have hs:Sep [ah b (.row xs e mm),qE kp k x,TT] H:=hs;have hkn:=(Sep.LX hs 1 rfl).1;refine oz (v:=I (k:Int)) ?_ ?_
 .show H.cell? ((O kp).add 3)=_
  rw[Addr.aP,mG hkn];rfl
 simp only[HV];rw[fC];refine⟨by omega,?_⟩;have e1:cT .i64 1 (k:Int)=(n:Int):=by
  have:∀ k:Nat,k<21->cT .i64 1 (k:Int)=((2^k:Nat):Int):=by decide +kernel
  rw[this k (by omega),hn]
 rw[e1];refine aF rfl ?_;simp only[Addr.add_zero];refine aa.use (HR (Sep.LX hs 1 rfl) d) ?_;simp only[HV];have hc:∀ H,ah b (.row xs e mm) H->Cells H (some ⟨b,off,none⟩) (af l):=fun H h=>by
  have h:H b=some (.row xs e mm):=h;rw[<- hseg]at h;exact tA h
 refine(Je (n:=n) (m:=m) (k:=k) (l:=l) hT hc hn hl hk).use hs [0,2] rfl rfl ?_;rintro _ _ H ⟨r,rfl,rfl⟩ hs;simp only[HV];have hs:Sep [ah r (.row (af (ky k l)) 108 (n*1)),ah b (.row xs e mm),TT,qE kp k x] H:=hs;refine⟨n+1,?_⟩;have htl:(ky k l).length=n:=by rw[hn];simp[ky]
 refine Ck (L:=[TT,qE kp k x]) (mr:=n*1) (e:=e) (mm:=mm) _ hl.symm (by omega) hx htl (fun H hs=>?_) n 0 H (by omega) ?_
 .rw[HJ (bU d k) k l 1]at hs;refine⟨k+1,?_⟩;have key:∀(t s:Nat) (H:Hp),s+t=k->Sep [ah b (.row (setAt xs off (af (ka (bU d k) k (bG l) s (dn (2^s) 0 0)))) e mm),TT,qE kp k x] H->
    aL.l13 (fun v H'=>∃ M,(v= I 0/\M=[ah b (.row (setAt xs off (af (kI d k l))) e mm),Kn kp k,TT])/\Sep M H') (t+1) (some ⟨b,off,none⟩) n m (pick x d) (2^(k-1)) (2^(k-1)) ((2^s:Nat):Int) H:=fun t=>by
   induction t with
   |zero=>
    intro s H hst hs;obtain rfl:s=k:=by omega
    unfold aL.l13;refine au (by omega) ⟨_,⟨rfl,rfl⟩,?_⟩;rw[JW]at hs;have hs:=hs.re [0,2,1] rfl;exact hs.jy 1 rfl (B:=Kn kp s) fun H1 h=>⟨x,h⟩
   |succ t ih=>
    intro s H hst hs;have hsk:2^s<2^k:=Nat.pow_lt_pow_right (by omega) (by omega);have hsp:=pow_pos s;unfold aL.l13;refine aA (by omega) ?_;have hw:pw (bU d k) (2^(k-1))=-1:=xB d;refine(HK (m:=m) (m2:=2^(k-1)) (A:=pick x d) (R:=qE kp k x) (l:=bG l) (s:=s) (mm:=mm) hn hk (by omega) hw hx (fun H h=>h.cells d) rfl (2^(s+1))).use hs [0,2] rfl rfl ?_;rintro _ _ H ⟨rfl,rfl⟩ hs;rw[bg,show((2^s:Nat):Int)*2=((2^(s+1):Nat):Int) by rw[Nat.pow_succ];omega];exact ih (s+1) H (by omega) (hs.re [0,2,1] rfl)
  exact key k 0 H (by omega) hs
 .rw[List.take_zero,List.map_nil,List.nil_append,List.drop_zero,hseg];exact hs.re [1,0,2,3] rfl
end
end Ker
namespace W
open Go Go.Hw
theorem k6 :prog.follows .mixedOrders=true:=by kernel_rfl
def dN.l14 (K:VK):Nat->Addr->Int->Addr->Int->OA->OA->Nat->Nat->Hp->Prop
 |0,_,_,_,_,_,_,_,_,_=>False
 |k+1,a2,x14,a3,x15,p5,A1,n1,m1,H=>
  let R14:=dN.l14 K k
  aM H (a2.add 1) fun x16=>aq (decide (x15<x16)) (cC 301 #[.pointer (some a3),I x15,I x14] H fun x17 H5=>aq (x17 !=0) (dv prog 257 #[.pointer p5,.slice A1 n1 m1] H5 fun _ H8=>K (.tuple #[Oi 0,I x17]) H8) (cC 302 #[.pointer (some a3),I x15] H5 fun x18 H6=>aq (x18 !=0) (dv prog 257 #[.pointer p5,.slice A1 n1 m1] H6 fun _ H9=>K (.tuple #[Oi 0,I x18]) H9) (R14 a2 x14 a3 (i64.wrap (x15+x14)) p5 A1 n1 m1 H6))) (xO 238 #[.pointer (some (a3.add 0))] H fun x19 H7=>dv prog 257 #[.pointer p5,.slice A1 n1 m1] H7 fun _ H10=>K (.tuple #[Oi x19,I 0]) H10)
def dN (p1 p2:OA)(x1 x2:Int)(p3:OA)(x3:Int)(H:Hp)(K:VK):Prop:=
 Nw H (Oa #[I x1,I x2] 217) fun b1 H1=>aq p1.isNone (K (.tuple #[Oi 0,I 1]) H1) (aq p2.isNone (K (.tuple #[Oi 0,I 1]) H1) (aq p3.isNone (K (.tuple #[Oi 0,I 1]) H1) (aY H1 (O b1) 2 fun l1=>Ip 297 #[.agg l1.toArray] H1 fun c1=>aq (!c1) (K (.tuple #[Oi 0,I 19]) H1) (eG 186 #[.pointer p1] H1 fun x4=>aY H1 (O b1) 2 fun l2=>eG 298 #[.agg l2.toArray] H1 fun x5=>aq (x4 !=x5) (K (.tuple #[Oi 0,I 19]) H1) (eG 186 #[.pointer p2] H1 fun x6=>aY H1 (O b1) 2 fun l3=>eG 298 #[.agg l3.toArray] H1 fun x7=>aq (x6 !=x7) (K (.tuple #[Oi 0,I 19]) H1) (aY H1 (O b1) 2 fun l4=>NN p3 fun a1=>eG 300 #[.pointer (some (a1.add 0))] H1 fun x8=>Qz 299 #[.agg l4.toArray,I x3,I x8] H1 fun v7=>pZ v7 fun x9 c2=>(aq (!c2) (K (.tuple #[Oi 0,I 6]) H1) (aM H1 ((O b1).add 0) fun x10=>Hz 255 #[.pointer p3,I (i64.wrap (x9*x10))] H1 fun v11 H2=>jO v11 fun p4 x11=>(aq (x11 !=0) (K (.tuple #[Oi 0,I x11]) H2) (Nw H2 (.row [.pointer p4] 331 1) fun b2 H3=>aY H3 (O b1) 2 fun l11=>CZ l11.toArray.toList fun x12 x13=>(Nw H3 (Oa #[Oi 0,I 0,.pointer p1,.pointer p2,I x12,I x13,.pointer p4] 409) fun b3 H4=>(∃ k,dN.l14 K k (O b1) x9 (O b3) 0 p3 (Oo b2) 1 1 H4))))))))))))
def dN.l14.L (K:VK)(k:Nat):de:=fun E D H=>
 eN E 7 fun a2=>eI E 12 .i64 fun x14=>eN E 15 fun a3=>eI E 16 .i64 fun x15=>gz 257 D fun dc0 da0 D1=>bF dc0 (az da0 fun u0da0 r0da0=>DP u0da0 fun p5=>az r0da0 fun u1da0 r1da0=>aE u1da0 fun A1 n1 m1=>bF r1da0 (ax D1 (dN.l14 K k a2 x14 a3 x15 p5 A1 n1 m1 H)))
def dN.Λ14 (_:VK)(_R14:Addr->Int->Addr->Int->OA->OA->Nat->Nat->Hp->Prop):aI:=aI.none (fun _=>none)
def dN.Λ (K:VK):aI:=⟨fun i=>none,fun i=>match Nat.beq i 14 with|true=>some (fun E D H=>∃ k,dN.l14.L K k E D H)|false=>none,(fun _=>none)⟩
theorem dN.ok p1 p2 x1 x2 p3 x3 H K (h:dN p1 p2 x1 x2 p3 x3 H K):aa prog 239 #[.pointer p1,.pointer p2,.agg #[I x1,I x2],.pointer p3,I x3] H K:=
 dV (Λ:=(dN.Λ K)) k6 Tryz.func239 rfl rfl h (oC (fun E D H h=>by
   refine Safe.cJ (dN.l14.L K) (fun E D H h=>?_) (fun k E D H h=>?_) E D H h
   .obtain⟨w7,e7,g1⟩:=DG.out h;obtain⟨pw7,rfl,g2⟩:=DP.out g1;obtain⟨a2,rfl,g3⟩:=NN.out g2;obtain⟨w12,e12,g4⟩:=DG.out g3;obtain⟨x14,rfl,g5⟩:=DI.out g4;obtain⟨w15,e15,g6⟩:=DG.out g5;obtain⟨pw15,rfl,g7⟩:=DP.out g6;obtain⟨a3,rfl,g8⟩:=NN.out g7;obtain⟨w16,e16,g9⟩:=DG.out g8;obtain⟨x15,rfl,g10⟩:=DI.out g9;obtain⟨dc0,da0,D1,rfl,g11⟩:=gz.out g10;obtain⟨rfl,g12⟩:=bF.out g11;obtain⟨u0da0,r0da0,rfl,g13⟩:=az.out g12;obtain⟨p5,rfl,g14⟩:=DP.out g13;obtain⟨u1da0,r1da0,rfl,g15⟩:=az.out g14;obtain⟨A1,n1,m1,rfl,g16⟩:=aE.out g15;obtain⟨rfl,g17⟩:=bF.out g16;obtain⟨rfl,h'⟩:=ax.out g17;exact h'
   .obtain⟨a2,e7,g3⟩:=GN h;obtain⟨x14,e12,g5⟩:=GI g3;obtain⟨a3,e15,g8⟩:=GN g5;obtain⟨x15,e16,g10⟩:=GI g8;obtain⟨dc0,da0,D1,rfl,g11⟩:=gz.out g10;obtain⟨rfl,g12⟩:=bF.out g11;obtain⟨u0da0,r0da0,rfl,g13⟩:=az.out g12;obtain⟨p5,rfl,g14⟩:=DP.out g13;obtain⟨u1da0,r1da0,rfl,g15⟩:=az.out g14;obtain⟨A1,n1,m1,rfl,g16⟩:=aE.out g15;obtain⟨rfl,g17⟩:=bF.out g16;obtain⟨rfl,h'⟩:=ax.out g17;exact cU (Λ:=(dN.Λ14 K (dN.l14 K k))) k6 [{ target:=.fn (.func 257) #[],args:=#[.pointer p5,.slice A1 n1 m1]}] (ag.cons e7 (ag.cons e12 (ag.cons e15 (ag.cons e16 (ag.nil _))))) h' oN) oN)
def dw.l4 (K:VK):Nat->Int->Int->Addr->Int->Hp->Prop
 |0,_,_,_,_,_=>False
 |k+1,x6,x7,a1,x8,H=>
  let R4:=dw.l4 K k
  aM H (a1.add 1) fun x9=>aq (decide ((i64.wrap (2*x8))<=x9)) (aM H (a1.add 0) fun x10=>(x10≠0/\i64=i64/\aq (decide ((i64.wrap (2*x8))<=(i64.wrap (Int.tdiv (i64.wrap (x7-x6)) x10)))) (R4 x6 x7 a1 (i64.wrap (x8*2)) H) (K (.tuple #[I x8,.bool true]) H))) (K (.tuple #[I x8,.bool true]) H)
def dw (x1 x2 x3 x4:Int)(H:Hp)(K:VK):Prop:=
 Nw H (Oa #[I x1,I x2] 217) fun b1 H1=>aY H1 (O b1) 2 fun l1=>fP 297 #[.agg l1.toArray] H1 fun c1 H2=>aq (!c1) (K (.tuple #[I 0,.bool false]) H2) (aq (decide (x3<4)) (K (.tuple #[I 0,.bool false]) H2) (aq (decide (x3>512)) (K (.tuple #[I 0,.bool false]) H2) (aq ((cD .i64 x3 (i64.wrap (x3-1))) !=0) (K (.tuple #[I 0,.bool false]) H2) (aq (decide (x4<x3)) (K (.tuple #[I 0,.bool false]) H2) (aM H2 ((O b1).add 0) fun x5=>aq (decide ((i64.wrap (x4-x3))<x5)) (K (.tuple #[I 0,.bool false]) H2) ((∃ k,dw.l4 K k x3 x4 (O b1) 1 H2)))))))
def dw.l4.L (K:VK)(k:Nat):de:=fun E D H=>
 eI E 1 .i64 fun x6=>eI E 2 .i64 fun x7=>eN E 3 fun a1=>eI E 6 .i64 fun x8=>ax D (dw.l4 K k x6 x7 a1 x8 H)
def dw.Λ4 (_:VK)(_R4:Int->Int->Addr->Int->Hp->Prop):aI:=aI.none (fun _=>none)
def dw.Λ (K:VK):aI:=⟨fun i=>none,fun i=>match Nat.beq i 4 with|true=>some (fun E D H=>∃ k,dw.l4.L K k E D H)|false=>none,(fun _=>none)⟩
theorem dw.ok x1 x2 x3 x4 H K (h:dw x1 x2 x3 x4 H K):aa prog 299 #[.agg #[I x1,I x2],I x3,I x4] H K:=
 dV (Λ:=(dw.Λ K)) k6 Tryz.func299 rfl rfl h (oC (fun E D H h=>by
   refine Safe.cJ (dw.l4.L K) (fun E D H h=>?_) (fun k E D H h=>?_) E D H h
   .obtain⟨w1,e1,g1⟩:=DG.out h;obtain⟨x6,rfl,g2⟩:=DI.out g1;obtain⟨w2,e2,g3⟩:=DG.out g2;obtain⟨x7,rfl,g4⟩:=DI.out g3;obtain⟨w3,e3,g5⟩:=DG.out g4;obtain⟨pw3,rfl,g6⟩:=DP.out g5;obtain⟨a1,rfl,g7⟩:=NN.out g6;obtain⟨w6,e6,g8⟩:=DG.out g7;obtain⟨x8,rfl,g9⟩:=DI.out g8;obtain⟨rfl,h'⟩:=ax.out g9;exact h'
   .obtain⟨x6,e1,g2⟩:=GI h;obtain⟨x7,e2,g4⟩:=GI g2;obtain⟨a1,e3,g7⟩:=GN g4;obtain⟨x8,e6,g9⟩:=GI g7;obtain⟨rfl,h'⟩:=ax.out g9;exact cU (Λ:=(dw.Λ4 K (dw.l4 K k))) k6 [] (ag.cons e1 (ag.cons e2 (ag.cons e3 (ag.cons e6 (ag.nil _))))) h' oN) oN)
def aS.l10 (K:VK)(R4:OA->Int->OA->Nat->Nat->OA->Nat->Nat->Int->Int->Hp->Prop):Nat->OA->Int->OA->Nat->Nat->OA->Nat->Nat->Int->Int->Int->OA->Nat->Nat->Int->Int->Hp->Prop
 |0,_,_,_,_,_,_,_,_,_,_,_,_,_,_,_,_,_=>False
 |k+1,p5,x9,A5,n5,m5,A6,n6,m6,x10,x11,x12,A7,n7,m7,x13,x14,H=>
  let R10:=aS.l10 K R4 k
  aq (decide (x14<x13)) (cz x14 n7 (NN A7 fun a5=>df H (a5.add (x14.toNat*1)) fun x15=>NN p5 fun a6=>aM H ((a6.add 4).add 0) fun x16=>cz (i64.wrap ((i64.wrap (x14*x16))+x10)) n5 (NN A5 fun a7=>St H ((a7.add ((i64.wrap ((i64.wrap (x14*x16))+x10)).toNat*1)).add 0) (U x15) fun H4=>R10 p5 x9 A5 n5 m5 A6 n6 m6 x10 x11 x12 A7 n7 m7 x13 (i64.wrap (x14+1)) H4))) (R4 p5 x9 A5 n5 m5 A6 n6 m6 x11 (i64.wrap (x12+1)) H)
def aS.l4 (K:VK):Nat->OA->Int->OA->Nat->Nat->OA->Nat->Nat->Int->Int->Hp->Prop
 |0,_,_,_,_,_,_,_,_,_,_,_=>False
 |k+1,p3,x4,A3,n3,m3,A4,n4,m4,x5,x6,H=>
  let R4:=aS.l4 K k
  aq (decide (x6<x5)) (NN p3 fun a3=>bj H (a3.add 2) fun p4=>NN p3 fun a4=>aM H ((a4.add 4).add 1) fun x7=>cC 187 #[.pointer p4,I (i64.wrap ((i64.wrap (x6*x7))+x4)),.slice A4 n4 m4] H fun x8 H3=>aq (x8 !=0) (K (I x8) H3) ((∃ k,aS.l10 K R4 k p3 x4 A3 n3 m3 A4 n4 m4 x6 x5 x6 A4 n4 m4 (n4:Int) 0 H3))) (K (I 0) H)
def aS (p1:OA)(x1 x2:Int)(H:Hp)(K:VK):Prop:=
 NN p1 fun a1=>bj H (a1.add 6) fun p2=>lM 237 #[.pointer p2] H fun A1 n1 m1 H1=>jA prog 108 x2 x2 H1 fun v3 H2=>aE v3 fun A2 n2 m2=>NN p1 fun a2=>aM H2 ((a2.add 4).add 0) fun x3=>(∃ k,aS.l4 K k p1 x1 A1 n1 m1 A2 n2 m2 x3 0 H2)
def aS.l4.L (K:VK)(k:Nat):de:=fun E D H=>
 eP E 0 fun p3=>eI E 1 .i64 fun x4=>DG (E.get? 7) fun w7=>aE w7 fun A3 n3 m3=>DG (E.get? 8) fun w8=>aE w8 fun A4 n4 m4=>eI E 24 .i64 fun x5=>eI E 25 .i64 fun x6=>ax D (aS.l4 K k p3 x4 A3 n3 m3 A4 n4 m4 x5 x6 H)
def aS.l10.L (K:VK)(R4:OA->Int->OA->Nat->Nat->OA->Nat->Nat->Int->Int->Hp->Prop)(k:Nat):de:=fun E D H=>
 eP E 0 fun p5=>eI E 1 .i64 fun x9=>DG (E.get? 7) fun w7=>aE w7 fun A5 n5 m5=>DG (E.get? 8) fun w8=>aE w8 fun A6 n6 m6=>eI E 9 .i64 fun x10=>eI E 24 .i64 fun x11=>eI E 25 .i64 fun x12=>DG (E.get? 46) fun w46=>aE w46 fun A7 n7 m7=>eI E 47 .i64 fun x13=>eI E 48 .i64 fun x14=>ax D (aS.l10 K R4 k p5 x9 A5 n5 m5 A6 n6 m6 x10 x11 x12 A7 n7 m7 x13 x14 H)
def aS.Λ10 (_:VK)(_R4:OA→Int→OA→Nat→Nat→OA→Nat→Nat→Int→Int→Hp→Prop)(_R10:OA→Int→OA→Nat→Nat→OA→Nat→Nat→Int→Int→Int→OA→Nat→Nat→Int→Int→Hp→Prop):aI:=aI.none (fun i=>match Nat.beq i 6 with|true=>some ([],[0,1,2,3,4,5,6,7,8,9,10,11,12,13],14)|false=>none)
def aS.Λ4 (K:VK)(R4:OA→Int→OA→Nat→Nat→OA→Nat→Nat→Int→Int→Hp→Prop):aI:=⟨fun i=>none,fun i=>match Nat.beq i 10 with|true=>some (fun E D H=>∃ k,aS.l10.L K R4 k E D H)|false=>none,(fun i=>match Nat.beq i 6 with|true=>some ([],[0,1,2,3,4,5,6,7,8,9,10,11,12,13],14)|false=>none)⟩
def aS.Λ (K:VK):aI:=⟨fun i=>none,fun i=>match Nat.beq i 4 with|true=>some (fun E D H=>∃ k,aS.l4.L K k E D H)|false=>none,(fun i=>match Nat.beq i 6 with|true=>some ([],[0,1,2,3,4,5,6,7,8,9,10,11,12,13],14)|false=>none)⟩
theorem aS.ok p1 x1 x2 H K (h:aS p1 x1 x2 H K):aa prog 301 #[.pointer p1,I x1,I x2] H K:=
 dV (Λ:=(aS.Λ K)) k6 Tryz.func301 rfl rfl h (oC (fun E D H h=>by
   refine Safe.cJ (aS.l4.L K) (fun E D H h=>?_) (fun k E D H h=>?_) E D H h
   .obtain⟨w0,e0,g1⟩:=DG.out h;obtain⟨p3,rfl,g2⟩:=DP.out g1;obtain⟨w1,e1,g3⟩:=DG.out g2;obtain⟨x4,rfl,g4⟩:=DI.out g3;obtain⟨w7,e7,g5⟩:=DG.out g4;obtain⟨A3,n3,m3,rfl,g6⟩:=aE.out g5;obtain⟨w8,e8,g7⟩:=DG.out g6;obtain⟨A4,n4,m4,rfl,g8⟩:=aE.out g7;obtain⟨w24,e24,g9⟩:=DG.out g8;obtain⟨x5,rfl,g10⟩:=DI.out g9;obtain⟨w25,e25,g11⟩:=DG.out g10;obtain⟨x6,rfl,g12⟩:=DI.out g11;obtain⟨rfl,h'⟩:=ax.out g12;exact h'
   .obtain⟨p3,e0,g2⟩:=GP h;obtain⟨x4,e1,g4⟩:=GI g2;obtain⟨w7,e7,g5⟩:=DG.out g4;obtain⟨A3,n3,m3,rfl,g6⟩:=aE.out g5;obtain⟨w8,e8,g7⟩:=DG.out g6;obtain⟨A4,n4,m4,rfl,g8⟩:=aE.out g7;obtain⟨x5,e24,g10⟩:=GI g8;obtain⟨x6,e25,g12⟩:=GI g10;obtain⟨rfl,h'⟩:=ax.out g12;exact cU (Λ:=(aS.Λ4 K (aS.l4 K k))) k6 [] (ag.cons e0 (ag.cons e1 (ag.cons e7 (ag.cons e8 (ag.cons e24 (ag.cons e25 (ag.nil _))))))) h' (oC (fun E D H h=>by
      refine Safe.cJ (aS.l10.L K (aS.l4 K k)) (fun E D H h=>?_) (fun k E D H h=>?_) E D H h
      .obtain⟨w0,e0,g1⟩:=DG.out h;obtain⟨p5,rfl,g2⟩:=DP.out g1;obtain⟨w1,e1,g3⟩:=DG.out g2;obtain⟨x9,rfl,g4⟩:=DI.out g3;obtain⟨w7,e7,g5⟩:=DG.out g4;obtain⟨A5,n5,m5,rfl,g6⟩:=aE.out g5;obtain⟨w8,e8,g7⟩:=DG.out g6;obtain⟨A6,n6,m6,rfl,g8⟩:=aE.out g7;obtain⟨w9,e9,g9⟩:=DG.out g8;obtain⟨x10,rfl,g10⟩:=DI.out g9;obtain⟨w24,e24,g11⟩:=DG.out g10;obtain⟨x11,rfl,g12⟩:=DI.out g11;obtain⟨w25,e25,g13⟩:=DG.out g12;obtain⟨x12,rfl,g14⟩:=DI.out g13;obtain⟨w46,e46,g15⟩:=DG.out g14;obtain⟨A7,n7,m7,rfl,g16⟩:=aE.out g15;obtain⟨w47,e47,g17⟩:=DG.out g16;obtain⟨x13,rfl,g18⟩:=DI.out g17;obtain⟨w48,e48,g19⟩:=DG.out g18;obtain⟨x14,rfl,g20⟩:=DI.out g19;obtain⟨rfl,h'⟩:=ax.out g20;exact h'
      .obtain⟨p5,e0,g2⟩:=GP h;obtain⟨x9,e1,g4⟩:=GI g2;obtain⟨w7,e7,g5⟩:=DG.out g4;obtain⟨A5,n5,m5,rfl,g6⟩:=aE.out g5;obtain⟨w8,e8,g7⟩:=DG.out g6;obtain⟨A6,n6,m6,rfl,g8⟩:=aE.out g7;obtain⟨x10,e9,g10⟩:=GI g8;obtain⟨x11,e24,g12⟩:=GI g10;obtain⟨x12,e25,g14⟩:=GI g12;obtain⟨w46,e46,g15⟩:=DG.out g14;obtain⟨A7,n7,m7,rfl,g16⟩:=aE.out g15;obtain⟨x13,e47,g18⟩:=GI g16;obtain⟨x14,e48,g20⟩:=GI g18;obtain⟨rfl,h'⟩:=ax.out g20;exact cU (Λ:=(aS.Λ10 K (aS.l4 K k) (aS.l10 K (aS.l4 K k) k))) k6 [] (ag.cons e0 (ag.cons e1 (ag.cons e7 (ag.cons e8 (ag.cons e9 (ag.cons e24 (ag.cons e25 (ag.cons e46 (ag.cons e47 (ag.cons e48 (ag.nil _))))))))))) h' oN) oN)) oN)
def lv (p1:OA)(x1:Int)(H:Hp)(K:VK):Prop:=
 NN p1 fun a1=>NN p1 fun a2=>bj H (a2.add 6) fun p2=>Iq 237 #[.pointer p2] H fun A1 n1 m1=>Hz 236 #[.pointer (some (a1.add 0)),.slice A1 n1 m1] H fun v3 H1=>NN p1 fun a3=>bj H1 (a3.add 3) fun p3=>NN p1 fun a4=>aM H1 ((a4.add 4).add 0) fun x2=>NN p1 fun a5=>bj H1 (a5.add 6) fun p4=>Iq 237 #[.pointer p4] H1 fun A2 n2 m2=>cC 185 #[.pointer p3,I (i64.wrap (x1*x2)),.slice A2 n2 m2] H1 fun x3 H2=>K (I x3) H2
theorem lv.ok p1 x1 H K (h:lv p1 x1 H K):aa prog 302 #[.pointer p1,I x1] H K:=
 nL (fun i=>match Nat.beq i 2 with|true=>some ([],[0,1,2,3,4,5,6,7,8,9,10,11,12,13,14,15],16)|false=>match Nat.beq i 1 with|true=>some ([],[0,1,2,3,4,5,6,7],8)|false=>none) k6 Tryz.func302 rfl rfl h
end W
namespace Trn
open Go Go.Hw W Shp
def gL (p:Int):Bool:=p==4||p==8||p==16||p==32||p==64||p==128||p==256||p==512
theorem FD :(List.range 513).all (fun n=>decide (n<4)||((n&&&(n-1)==0)==gL (n:Int)))=true:=by decide +kernel
theorem xt {p:Int}(h4:4<=p:=by omega)(h5:p<=512:=by omega):(cD .i64 p (i64.wrap (p-1))=0)↔gL p=true:=by
 obtain⟨n,rfl⟩:=Int.eq_ofNat_of_zero_le (show 0<=p by omega);rw[show((n:Int)-1)=((n-1:Nat):Int) by omega,bg,Lay.rZ (by omega) (by omega)];have ht:=List.all_eq_true.1 FD n (by simp;omega);simp only[Bool.or_eq_true,decide_eq_true_eq,beq_iff_eq]at ht;have ht:=ht.resolve_left (by omega);rw[<- ht];simp only[beq_iff_eq];omega
theorem lD {p:Int}(h:gL p=true):4<=p/\p<=512:=by
 simp only[gL,Bool.or_eq_true,beq_iff_eq]at h;omega
structure gy (r c:Int)(ae free:Int)(j:Nat):Prop where
 le:((2^j:Nat):Int)<=c
 fit:((2^j:Nat):Int)*r<=free-ae
 aG:((2^j:Nat):Int)=c\/free-ae<2*((2^j:Nat):Int)*r
def zi (r c ae free:Int)(v:Value):Prop:=
 (¬ (jg r c=true/\gL ae=true/\ae<=free/\r<=free-ae)/\v= .tuple #[I 0,.bool false])\/
 ((jg r c=true/\gL ae=true/\ae<=free/\r<=free-ae)/\∃ j:Nat,gy r c ae free j/\v= .tuple #[I ((2^j:Nat):Int),.bool true])
theorem EI {r c ae free:Int}{ea eb:Nat}(hr:r=((2^ea:Nat):Int))(hc:c=((2^eb:Nat):Int))(hab:ea+eb<=32)(hp:gL ae=true)(hf:ae<=free/\free<=9223372036854775807)(K:VK)(b1:Nat){L:List As}(i:Nat)
  (hi:L[i]? =some (ah b1 (Oa #[I r,I c] 217))) {H:Hp} (hs:Sep L H) (hK:∀ j,gy r c ae free j->K (.tuple #[I ((2^j:Nat):Int),.bool true]) H):
  ∀(t j:Nat),j+t=eb->((2^j:Nat):Int)*r<=free-ae->dw.l4 K (t+1) ae free (O b1) ((2^j:Nat):Int) H:=by
 have hpr:=lD hp;have hra:=pow_pos ea;have hca:=cL (show ea<=32 by omega);rw[show 2^32=4294967296 by decide]at hca;have key:∀(j:Nat),j<eb->dw.l4 K 0 ae free (O b1) ((2^j:Nat):Int) H=False:=fun _ _=>rfl
 intro t
 induction t with
 |zero=>
  intro j hj hfit;have hje:j=eb:=by omega
  have hp2:=cL (show j<=32 by omega);rw[show 2^32=4294967296 by decide]at hp2;have hz:=Int.natCast_nonneg (2^j);have hq:((2^j:Nat):Int)<=4294967296:=Int.ofNat_le.2 hp2;unfold dw.l4;refine hs.cg i hi rfl ?_;simp only[HV];rw[bg];refine au ?_ (hK j ⟨by rw[hc,hje];exact Int.le_refl _,hfit,.inl (by rw[hc,hje])⟩);rw[hc,<-hje];have:=pow_pos j;omega
 |succ t ih=>
  intro j hj hfit;have hp2:=cL (show j+1<=32 by omega);rw[show 2^32=4294967296 by decide,Nat.pow_succ]at hp2;have h2:i64.wrap ((2:Int)*((2^j:Nat):Int))=((2^(j+1):Nat):Int):=by
   rw[bg,Nat.pow_succ];omega
  have hle:((2^(j+1):Nat):Int)<=c:=by
   rw[hc];have:=cL (show j+1<=eb by omega);omega
  unfold dw.l4;refine hs.cg i hi rfl ?_;simp only[HV];rw[h2];refine aA hle ?_;refine hs.cg i hi rfl ?_;simp only[HV];refine⟨by omega,trivial,?_⟩;obtain⟨f,hfe⟩:=Int.eq_ofNat_of_zero_le (show 0<=free-ae by omega);rw[bg (x:=free-ae)];rw[show Int.tdiv (free-ae) r=((f/2^ea:Nat):Int) by rw[hfe,hr];rfl];have hdl:f/2^ea<=f:=Nat.div_le_self _ _;rw[dS];have hiff:(((2^(j+1):Nat):Int)<=((f/2^ea:Nat):Int))↔((2^(j+1):Nat):Int)*r<=free-ae:=by
   rw[Int.ofNat_le,Nat.le_div_iff_mul_le (by omega),hfe,hr,<-Int.natCast_mul,Int.ofNat_le]
  by_cases hc2:((2^(j+1):Nat):Int)*r<=free-ae
  .refine aA (hiff.2 hc2) ?_;have h3:i64.wrap (((2^j:Nat):Int)*(2:Int))=((2^(j+1):Nat):Int):=by rw[Int.mul_comm];exact h2
   rw[h3];exact ih (j+1) (by omega) hc2
  .refine au (fun h=>hc2 (hiff.1 h)) (hK j ⟨?_,hfit,.inr ?_⟩)
   .rw[hc];have:=cL (show j<=eb by omega);omega
   .have e:(2:Int)*((2^j:Nat):Int)=((2^(j+1):Nat):Int):=by rw[Nat.pow_succ];omega
    rw[e];omega
theorem I1 (r c ae free:Int)(hper: -9223372036854775808<=ae/\ae<=9223372036854775807)(hf:free<=9223372036854775807)(H:Hp)(hT:T64 H):
  aa prog 299 #[.agg #[I r,I c],I ae,I free] H fun v H'=>zi r c ae free v/\H'=H:=by
 refine aa.forget ?_;apply dw.ok;unfold dw;refine(Sep.start H).nw fun b1 H1 hs=>?_
 have out:∀{v:Value},zi r c ae free v->∃ H'',H''.le H1/\zi r c ae free v/\H''=H:=fun h=>⟨H,hs.ow 0 rfl,h,rfl⟩
 first|refine hs.bJ 1 rfl rfl ?_
 try simp only[HV]
 refine aa.use (fA r c H1 (hT.le (hs.ow 0 rfl))) ?_;simp only[HV];cases hg:jg r c with
 |false=>exact cO rfl (out (.inl ⟨fun h=>(by rw[hg]at h;cases h.1),rfl⟩))
 |true=>
  refine bY rfl ?_;by_cases h1:ae<4
  .exact aA h1 (out (.inl ⟨fun h=>(by have:=lD h.2.1;omega),rfl⟩))
  refine au h1 ?_;by_cases h2:ae>512
  .exact aA h2 (out (.inl ⟨fun h=>(by have:=lD h.2.1;omega),rfl⟩))
  refine au h2 ?_;have hpb:=xt (p:=ae);cases hp:gL ae with
  |false=>exact aU (fun h=>by rw[hpb.1 h]at hp;cases hp) (out (.inl ⟨fun h=>(by rw[hp]at h;cases h.2.1),rfl⟩))
  |true=>
   refine aF (hpb.2 hp) ?_;by_cases h3:free<ae
   .exact aA h3 (out (.inl ⟨fun h=>(by omega),rfl⟩))
   refine au h3 ?_
   first|refine hs.cg 1 rfl rfl ?_|refine hs.jU 1 rfl rfl ?_
   try simp only[HV]
   rw[bg (x:=free-ae)];by_cases h4:free-ae<r
   .exact aA h4 (out (.inl ⟨fun h=>(by omega),rfl⟩))
   refine au h4 ?_;obtain⟨ea,eb,hr,hc,hab,_,_⟩:=pE hg;refine⟨eb+1,?_⟩;have:=EI hr hc hab hp ⟨by omega,hf⟩ (fun v H'=>∃ H'',H''.le H'/\zi r c ae free v/\H''=H) b1 1 rfl hs (fun j hj=>out (.inr ⟨⟨hg,hp,by omega,by omega⟩,j,hj,rfl⟩)) eb 0 (by omega) (by rw[Nat.pow_zero];omega);exact this
end Trn
end Go.Proofs.YtlgnlghmbcpmhaaGreatDoor
namespace Go.Hw
open Go
def fR (b:Nat):Value:=V b
def uy (x:Nat×Int×Nat):MapEntry:={ key:=fR x.1,val:=I x.2.1,born:=x.2.2}
def fG (l:List (Nat×Int×Nat))(clock:Nat):AO:=.obj (.map (l.map uy).toArray clock)
def fM (H:Hp)(b:Nat):Prop:=∃ c e,H b=some (Oa c e)
theorem fM.le {H H':Hp}{b:Nat}(h:fM H b)(k:H.le H'):fM H' b:=by
 obtain⟨c,e,h⟩:=h;exact⟨c,e,k _ _ h⟩
theorem fM.heap {H:Hp}{w:World}{b:Nat}(h:fM H b)(hw:Fits H w):∃ c e,w.heap[b]? =some (.cells c e (0,0)):=by
 obtain⟨c,e,h⟩:=h;obtain⟨o,ho,hh⟩:=hw _ _ h;cases hh;exact⟨c,e,ho⟩
theorem fG.heap {H:Hp}{w:World}{r clock:Nat}{l:List (Nat×Int×Nat)}(h:H r=some (fG l clock))(hw:Fits H w):w.heap[r]? =some (.map (l.map uy).toArray clock):=by
 obtain⟨o,ho,hh⟩:=hw _ _ h;cases hh;exact ho
section
variable {P : Program} {t te : TypeId} {j : TypeInfo} (ht : P.underlying t = some (.pointer te)) (hj : P.info? te = some j) (hs : j.size ≠ 0)
include ht hj hs
theorem y9 {H:Hp}{w:World}(hw:Fits H w){a b:Nat}(ha:fM H a)(hb:fM H b):(Op.equal t (fR a) (fR b)).run P w= .ok (decide (a=b)) w:=by
 obtain⟨ca,ea,ha⟩:=ha.heap hw;obtain⟨cb,eb,hb⟩:=hb.heap hw;unfold Op.equal Op.maxDepth Op.equalIn fR;simp only[Sem.run_bind,aN ht,Result.andThen_ok,fk hj];rw[if_pos hs];by_cases e:a=b
 .subst e;rw[run_sameAddr_same];simp
 .rw[run_sameAddr_other w (a:=(O a)) (b:=(O b)) (by simpa using e) ha hb];simp[e]
theorem y8 {w:World}{b:Nat}:(Op.equal t (.pointer none) (fR b)).run P w= .ok false w:=by
 unfold Op.equal Op.maxDepth Op.equalIn fR;simp[aN ht]
def gH (a:Nat):List (Nat×Int×Nat)->Nat->Option (Nat×Value)
 | [],_=>none
 |x::l,i=>if a=x.1 then some (i,I x.2.1)else gH a l (i+1)
theorem uA {H:Hp}{w:World}(hw:Fits H w){a:Nat}(ha:fM H a):∀(l:List (Nat×Int×Nat)) (i:Nat),(∀ x∈l,fM H x.1)->(Instr.findAsking t (fR a) (l.map uy) i).run P w= .ok (gH a l i) w
 | [],i,_=>by simp[Instr.findAsking,gH]
 |x::l,i,h=>by
  simp only[List.map_cons,Instr.findAsking,Sem.run_bind];rw[show(uy x).key=fR x.1 from rfl,y9 ht hj hs hw ha (h x (by simp))];simp only[Result.andThen_ok,gH];by_cases e:a=x.1
  .simp[e,uy]
  .simp only[e,decide_false,Bool.false_eq_true,if_false];exact uA hw ha l (i+1) (fun y hy=>h y (by simp[hy]))
theorem uz {w:World}:∀(l:List (Nat×Int×Nat)) (i:Nat),(Instr.findAsking t (.pointer none) (l.map uy) i).run P w= .ok none w
 | [],i=>by simp[Instr.findAsking]
 |x::l,i=>by
  simp only[List.map_cons,Instr.findAsking,Sem.run_bind];rw[show(uy x).key=fR x.1 from rfl,y8 ht hj hs];simp only[Result.andThen_ok,Bool.false_eq_true,if_false];exact uz l (i+1)
theorem q7 {H:Hp}{w:World}(hw:Fits H w){a:Nat}(ha:fM H a)(l:List (Nat×Int×Nat))(h:∀ x∈l,fM H x.1):(Instr.findKey t (fR a) (l.map uy)).run P w= .ok (gH a l 0) w:=by
 unfold Instr.findKey;simp only[Sem.run_bind,aN ht,Result.andThen_ok];cases l with
 |nil=>simp[Instr.findNow,gH]
 |cons x l=>
  simp only[List.map_cons,Instr.findNow,Instr.sameNow];exact uA ht hj hs hw ha (x::l) 0 h
theorem BL {w:World}(l:List (Nat×Int×Nat)):(Instr.findKey t (.pointer none) (l.map uy)).run P w= .ok none w:=by
 unfold Instr.findKey;simp only[Sem.run_bind,aN ht,Result.andThen_ok];cases l with
 |nil=>simp[Instr.findNow]
 |cons x l=>
  simp only[List.map_cons,Instr.findNow,Instr.sameNow];exact uz ht hj hs (x::l) 0
theorem nE {w:World}(e:Bool)(p:OA):(Instr.checkKey e 10000 t (.pointer p)).run P w= .ok () w:=by
 unfold Instr.checkKey;simp[aN ht]
variable {tm tv : TypeId} (hm : P.underlying tm = some (.map t tv))
include hm
theorem Do {jv:TypeInfo}(hv:P.info? tv=some jv)(hz:jv.zero=some (.int .i64 0)){H:Hp}{r clock a:Nat}{l:List (Nat×Int×Nat)}(hr:H r=some (fG l clock))(ha:fM H a)(hl:∀ x∈l,fM H x.1){K:Value->Prop}
  (k1:∀ i v,gH a l 0=some (i,v)->K (.tuple #[v,.bool true])) (k2:gH a l 0=none->K (.tuple #[.int .i64 0,.bool false])):sR P (Instr.lookup tm (.map (some r)) (fR a) true) H K:=by
 have hrun:∀ w,Fits H w→(Instr.lookup tm (.map (some r)) (fR a) true).run P w= .ok (match gH a l 0 with|some (_,v)=>.tuple #[v,.bool true]|none=>.tuple #[.int .i64 0,.bool false]) w:=fun w hw=>by
  have hh:=fG.heap hr hw;simp only[Instr.lookup,Sem.run_bind,aN hm,Result.andThen_ok,MapKept.run_getObj_map hh,Sem.run_pure];rw[show fR a= .pointer (some ⟨a,0,none⟩)from rfl,nE ht hj hs];simp only[Result.andThen_ok];rw[show(Value.pointer (some ⟨a,0,none⟩))=fR a from rfl,q7 ht hj hs hw ha l hl];simp only[Result.andThen_ok];cases gH a l 0 with
  |some x=>simp
  |none=>simp[zeroValue,iI hv,hz]
 refine⟨_,?_,hrun⟩;cases hf:gH a l 0 with
 |some x=>exact k1 _ _ hf
 |none=>exact k2 hf
theorem za {jv:TypeInfo}(hv:P.info? tv=some jv)(hz:jv.zero=some (I 0)){H:Hp}{r clock:Nat}{l:List (Nat×Int×Nat)}(hr:H r=some (fG l clock)){K:Value->Prop}(k2:K (.tuple #[I 0,.bool false])):
  sR P (Instr.lookup tm (.map (some r)) (.pointer none) true) H K:=by
 refine⟨_,k2,fun w hw=>?_⟩;have hh:=fG.heap hr hw;simp only[Instr.lookup,Sem.run_bind,aN hm,Result.andThen_ok,MapKept.run_getObj_map hh,Sem.run_pure];rw[nE ht hj hs];simp only[Result.andThen_ok];rw[BL ht hj hs];simp[zeroValue,iI hv,hz]
end
theorem yc {α β:Type}(f:α->β):∀(l:List α) (k:Nat),(l.map f).eraseIdx k=(l.eraseIdx k).map f
 | [],k=>by simp
 |x::l,0=>by simp
 |x::l,k+1=>by simp[yc f l k]
theorem At.FW {H0 H:Hp}{w0 w:World}{r clock:Nat}{l:List (Nat×Int×Nat)}(hA:At H0 w0 H w)(hr:H r=some (fG l clock))(o:Obj):At H0 w0 (H.set r (.obj o)) { w with heap:=w.heap.setIfInBounds r o}:=by
 have hh:=fG.heap hr hA.fits;have hlt:r<w.heap.size:=(Array.getElem?_eq_some_iff.1 hh).1;refine hA.jy hr (x':=o) ?_ rfl ?_ rfl rfl rfl (fun c hc=>?_)
 .show(w.heap.setIfInBounds r o)[r]? =some o
  simp[hlt]
 .show(w.heap.setIfInBounds r o).size=w.heap.size
  simp
 .show(w.heap.setIfInBounds r o)[c]? =w.heap[c]?
  rw[Array.getElem?_setIfInBounds_ne (Ne.symm hc)]
section
variable {P : Program} {t te : TypeId} {j : TypeInfo} (ht : P.underlying t = some (.pointer te)) (hj : P.info? te = some j) (hs : j.size ≠ 0)
variable {tm tv : TypeId} (hm : P.underlying tm = some (.map t tv))
include ht hj hs hm
theorem zb {H:Hp}{r clock a:Nat}{n:Int}{l:List (Nat×Int×Nat)}(hr:H r=some (fG l clock))(ha:fM H a)(hl:∀ x∈l,fM H x.1)(hf:gH a l 0=none){K:Unit->Hp->Prop}
  (k:K () (H.set r (fG (l++[(a,n,clock)]) (clock+1)))):gA P (Instr.mapUpdate tm (.map (some r)) (fR a) (.int .i64 n)) H K:=fun H0 w0 w hA=>by
 have hh:=fG.heap hr hA.fits;refine⟨(),_,_,?_,k,hA.FW hr _⟩;simp only[Instr.mapUpdate,Sem.run_bind,aN hm,Result.andThen_ok,MapKept.run_getObj_map hh];rw[show fR a= .pointer (some ⟨a,0,none⟩)from rfl,nE ht hj hs];simp only[Result.andThen_ok];rw[show(Value.pointer (some ⟨a,0,none⟩))=fR a from rfl,q7 ht hj hs hA.fits ha l hl,hf];simp only[Result.andThen_ok];rw[MapKept.run_setObj_map _ hh];simp[uy]
theorem sZ (a:Nat):∀(l:List (Nat×Int×Nat)) (i k:Nat) (v:Value),(l.map (·.1)).Nodup->gH a l i=some (k,v)->i<=k/\l.eraseIdx (k-i)=l.filter (fun x=>x.1≠a)/\∃ x∈l,x.1=a/\v= I x.2.1
 | [],i,k,v,_,h=>by cases h
 |x::l,i,k,v,hn,h=>by
  unfold gH at h;simp only[List.map_cons,List.nodup_cons]at hn;by_cases e:a=x.1
  .rw[if_pos e]at h;cases h;refine⟨Nat.le_refl _,?_,x,by simp,e.symm,rfl⟩;rw[Nat.sub_self,List.eraseIdx_cons_zero,List.filter_cons_of_neg (by simp[e])]
   symm
   rw[List.filter_eq_self];intro y hy;have:y.1≠a:=fun e2=>hn.1 (by rw[<- e,<-e2];exact List.mem_map_of_mem hy)
   simpa using this
  .rw[if_neg e]at h;obtain⟨h1,h2,y,hy,h3,h4⟩:=sZ a l (i+1) k v hn.2 h;refine⟨by omega,?_,y,by simp[hy],h3,h4⟩;rw[show k-i=(k-(i+1))+1 by omega,List.eraseIdx_cons_succ,h2,List.filter_cons_of_pos (by simp;exact fun e2=>e e2.symm)]
theorem Dh {ty t2:TypeId}{H:Hp}{r clock a k:Nat}{v:Value}{l:List (Nat×Int×Nat)}(hr:H r=some (fG l clock))(ha:fM H a)(hl:∀ x∈l,fM H x.1)(hn:(l.map (·.1)).Nodup)(hf:gH a l 0=some (k,v)){K:VK}
  (kk:K (.tuple #[]) (H.set r (fG (l.filter fun x=>x.1≠a) clock))):gA P (Builtin.delete_ #[tm,t2] ty #[.map (some r),fR a]) H K:=fun H0 w0 w hA=>by
 have hh:=fG.heap hr hA.fits;obtain⟨_,h2,_⟩:=sZ ht hj hs hm a l 0 k v hn hf;rw[Nat.sub_zero]at h2;refine⟨_,_,_,?_,kk,hA.FW hr _⟩;simp only[Builtin.delete_,Sem.run_bind,aN hm,Result.andThen_ok,MapKept.run_getObj_map hh,List.getElem?_toArray,List.getElem?_cons_zero,List.getElem?_cons_succ];rw[show fR a= .pointer (some ⟨a,0,none⟩)from rfl,nE ht hj hs];simp only[Result.andThen_ok];rw[show(Value.pointer (some ⟨a,0,none⟩))=fR a from rfl,q7 ht hj hs hA.fits ha l hl,hf];simp only[Result.andThen_ok];rw[Sem.run_bind,MapKept.run_setObj_map _ hh];rw[<- h2,<-yc];simp
end
end Go.Hw
namespace Go.Proofs.YtlgnlghmbcpmhaaGreatDoor
open Tryz (prog)
namespace W
open Go Go.Hw
theorem kZ :prog.follows .mixedOrders=true:=by kernel_rfl
def oB (x1:Int)(H:Hp)(K:VK):Prop:=
 aq (decide (x1<1)) (K (.pointer none) H) (aq (decide (x1>16777216)) (K (.pointer none) H) (Nw H (.obj (.map #[] 0)) fun b1 H1=>Nw H1 (Oa #[I x1,I 0,I 0,.map (some b1)] 165) fun b2 H2=>K (V b2) H2))
theorem oB.ok x1 H K (h:oB x1 H K):aa prog 143 #[I x1] H K:=
 bX kZ Tryz.func143 rfl rfl h
def ij (p1:OA)(H:Hp)(K:VK):Prop:=
 NN p1 fun a1=>mO H ((a1.add 0).add 1) fun A1 n1 m1=>K (.slice A1 n1 m1) H
theorem ij.ok p1 H K (h:ij p1 H K):aa prog 237 #[.pointer p1] H K:=
 bX kZ Tryz.func237 rfl rfl h
def iX (p1:OA)(x1:Int)(H:Hp)(K:VK):Prop:=
 aq (decide (x1<1)) (K (.tuple #[.pointer none,I 1]) H) (NN p1 fun a1=>cC 300 #[.pointer (some (a1.add 0))] H fun x2 H1=>aq (decide (x1>x2)) (K (.tuple #[.pointer none,I 6]) H1) (jA prog 108 x1 x1 H1 fun v2 H2=>aE v2 fun A1 n1 m1=>Nw H2 (Oa #[.pointer p1,.slice A1 n1 m1] 403) fun b1 H3=>NN p1 fun a2=>qG H3 (a2.add 3) fun r1=>gA prog (Instr.mapUpdate 163 (.map r1) (V b1) (I x1)) H3 fun _ H4=>NN p1 fun a3=>Hz 317 #[.pointer (some (a3.add 0)),I x1] H4 fun v4 H5=>K (.tuple #[V b1,I 0]) H5))
theorem iX.ok p1 x1 H K (h:iX p1 x1 H K):aa prog 255 #[.pointer p1,I x1] H K:=
 bX kZ Tryz.func255 rfl rfl h
def cf.l1 (K:VK):Nat->OA->OA->Nat->Nat->Int->Int->Hp->Prop
 |0,_,_,_,_,_,_,_=>False
 |k+1,p2,A2,n2,m2,x1,x2,H=>
  let R1:=cf.l1 K k
  aq (decide (x2<x1)) (cz x2 n2 (NN A2 fun a1=>bj H (a1.add (x2.toNat*1)) fun p3=>NN p2 fun a2=>qG H (a2.add 3) fun r1=>sR prog (Instr.lookup 163 (.map r1) (.pointer p3) true) H fun v3=>pZ v3 fun x3 c1=>(aq c1 (NN p2 fun a3=>qG H (a3.add 3) fun r2=>gA prog (Builtin.delete_ #[163,331] 0 #[.map r2,.pointer p3]) H fun v7 H1=>NN p2 fun a4=>Hz 317 #[.pointer (some (a4.add 0)),I (i64.wrap (0-x3))] H1 fun v8 H2=>NN p3 fun a5=>St H2 (((a5.add 0).add 1).add 0) (.slice none 0 0) fun H3=>R1 p2 A2 n2 m2 x1 (i64.wrap (x2+1)) H3) (R1 p2 A2 n2 m2 x1 (i64.wrap (x2+1)) H)))) (K (.tuple #[]) H)
def cf (p1 A1:OA)(n1 m1:Nat)(H:Hp)(K:VK):Prop:=
 (∃ k,cf.l1 K k p1 A1 n1 m1 (n1:Int) 0 H)
def cf.l1.L (K:VK)(k:Nat):de:=fun E D H=>
 eP E 0 fun p2=>DG (E.get? 8) fun w8=>aE w8 fun A2 n2 m2=>eI E 9 .i64 fun x1=>eI E 10 .i64 fun x2=>ax D (cf.l1 K k p2 A2 n2 m2 x1 x2 H)
def cf.Λ1 (_:VK)(_R1:OA->OA->Nat->Nat->Int->Int->Hp->Prop):aI:=aI.none (fun _=>none)
def cf.Λ (K:VK):aI:=⟨fun i=>none,fun i=>match Nat.beq i 1 with|true=>some (fun E D H=>∃ k,cf.l1.L K k E D H)|false=>none,(fun _=>none)⟩
theorem cf.okD p1 A1 n1 m1 H K (h:cf p1 A1 n1 m1 H K):dv prog 257 #[.pointer p1,.slice A1 n1 m1] H K:=
 L7 (Λ:=(cf.Λ K)) kZ Tryz.func257 rfl rfl h (oC (fun E D H h=>by
   refine Safe.cJ (cf.l1.L K) (fun E D H h=>?_) (fun k E D H h=>?_) E D H h
   .obtain⟨w0,e0,g1⟩:=DG.out h;obtain⟨p2,rfl,g2⟩:=DP.out g1;obtain⟨w8,e8,g3⟩:=DG.out g2;obtain⟨A2,n2,m2,rfl,g4⟩:=aE.out g3;obtain⟨w9,e9,g5⟩:=DG.out g4;obtain⟨x1,rfl,g6⟩:=DI.out g5;obtain⟨w10,e10,g7⟩:=DG.out g6;obtain⟨x2,rfl,g8⟩:=DI.out g7;obtain⟨rfl,h'⟩:=ax.out g8;exact h'
   .obtain⟨p2,e0,g2⟩:=GP h;obtain⟨w8,e8,g3⟩:=DG.out g2;obtain⟨A2,n2,m2,rfl,g4⟩:=aE.out g3;obtain⟨x1,e9,g6⟩:=GI g4;obtain⟨x2,e10,g8⟩:=GI g6;obtain⟨rfl,h'⟩:=ax.out g8;exact cU (Λ:=(cf.Λ1 K (cf.l1 K k))) kZ [] (ag.cons e0 (ag.cons e8 (ag.cons e9 (ag.cons e10 (ag.nil _))))) h' oN) oN)
def iY (p1:OA)(H:Hp)(K:VK):Prop:=
 NN p1 fun a1=>aM H (a1.add 0) fun x1=>NN p1 fun a2=>aM H (a2.add 1) fun x2=>K (I (i64.wrap (x1-x2))) H
theorem iY.ok p1 H K (h:iY p1 H K):aa prog 300 #[.pointer p1] H K:=
 bX kZ Tryz.func300 rfl rfl h
def jF (p1:OA)(x1:Int)(H:Hp)(K:VK):Prop:=
 NN p1 fun a1=>aM H (a1.add 1) fun x2=>NN p1 fun a2=>St H ((a2.add 1).add 0) (I (i64.wrap (x2+x1))) fun H1=>NN p1 fun a3=>aM H1 (a3.add 2) fun x3=>NN p1 fun a4=>aM H1 (a4.add 1) fun x4=>NN p1 fun a5=>St H1 ((a5.add 2).add 0) (I (if x4>x3 then x4 else x3)) fun H2=>K (.tuple #[]) H2
theorem jF.ok p1 x1 H K (h:jF p1 x1 H K):aa prog 317 #[.pointer p1,I x1] H K:=
 nL (fun i=>match Nat.beq i 1 with|true=>some ([],[0,1,2,3,4,5,6,7,8,9,10,11],12)|false=>none) kZ Tryz.func317 rfl rfl h
end W
end Go.Proofs.YtlgnlghmbcpmhaaGreatDoor
