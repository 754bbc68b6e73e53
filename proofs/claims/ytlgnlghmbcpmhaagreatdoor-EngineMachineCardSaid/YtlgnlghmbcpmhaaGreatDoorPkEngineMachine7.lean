import Derived.Test.YtlgnlghmbcpmhaaGreatDoorProg
import Derived.Test.YtlgnlghmbcpmhaaGreatDoorPkEngineMachine6
set_option maxRecDepth 100000
set_option linter.unusedVariables false
set_option linter.unusedSimpArgs false
set_option linter.unnecessarySimpa false
set_option linter.unusedSectionVars false
open Go.IntKind (i64 u64)
namespace Go.Proofs.YtlgnlghmbcpmhaaGreatDoor
open Tryz (prog)
namespace W
open Go Go.Hw
theorem dZV :prog.follows .mixedOrders=true:=by kernel_rfl
def aZu.l17 (K:VK):Nat->OA->OA->Addr->Int->OA->Addr->Int->OA->OA->Nat->Nat->OA->OA->Nat->Nat->Hp->Prop
 |0,_,_,_,_,_,_,_,_,_,_,_,_,_,_,_,_=>False
 |k+1,p16,p17,a4,x46,p18,a5,x47,p19,A3,n3,m3,p20,A4,n4,m4,H=>
  let R17:=aZu.l17 K k
  LeI H ((a4.add 0).add 0) fun x48=>BIf (decide (x47<x48)) (HcS 237 #[.pointer p18] H fun A5 n5 m5 H21=>HcI 307 #[.pointer (some a5),.pointer p16,.pointer p17,.slice A5 n5 m5,I x47] H21 fun x49 H22=>BIf (x49 !=0) (aZZ prog 257 #[.pointer p19,.slice A3 n3 m3] H22 fun _ H25=>aZZ prog 257 #[.pointer p20,.slice A4 n4 m4] H25 fun _ H26=>K (.tuple #[Ii 0,I x49]) H26) (R17 p16 p17 a4 x46 p18 a5 (i64.wrap (x47+x46)) p19 A3 n3 m3 p20 A4 n4 m4 H22)) (HcU 238 #[.pointer (some (a5.add 0))] H fun x50 H23=>aZZ prog 257 #[.pointer p19,.slice A3 n3 m3] H23 fun _ H27=>aZZ prog 257 #[.pointer p20,.slice A4 n4 m4] H27 fun _ H28=>K (.tuple #[Ii x50,I 0]) H28)
def aZu.j16 (K:VK)(p11 p12:OA)(a2:Addr)(x45:Int)(p13:OA)(a3:Addr)(p14 A1:OA)(n1 m1:Nat)(p15 A2:OA)(n2 m2:Nat)(H:Hp):=
 (∃ k,aZu.l17 K k p11 p12 a2 x45 p13 a3 0 p14 A1 n1 m1 p15 A2 n2 m2 H)
def aZu.q1 (l12:List Value)(H8:Hp)(p6:OA)(K:VK)(p1 p2:OA)(b1:Nat)(x9:Int)(p4 p3:OA)(b3 b2:Nat):=
 pZT l12.toArray.toList fun x16 x17 x18 x19 x20=>(Nw H8 (Is #[Ii 0,I 0,I x16,I x17,I x18,I x19,U x20,.pointer p6] 415) fun b4 H9=>aZu.j16 K p1 p2 (O b1) x9 p4 (O b4) p3 (Io b3) 1 1 p3 (Io b2) 1 1 H9)
def aZu (p1 p2:OA)(x1 x2 x3 x4 x5:Int)(p3:OA)(x6:Int)(H:Hp)(K:VK):Prop:=
 Nw H (Is #[I x1,I x2,I x3,I x4,U x5] 219) fun b1 H1=>LdA H1 (O b1) 5 fun l1=>HcI 303 #[.pointer p1,.pointer p2,.agg l1.toArray,.pointer p3] H1 fun x7 H2=>BIf (x7 !=0) (K (.tuple #[Ii 0,I x7]) H2) (LdA H2 ((O b1).add 0) 2 fun l2=>NN p3 fun a1=>QcI 300 #[.pointer (some (a1.add 0))] H2 fun x8=>Qz 304 #[.agg l2.toArray,I x6,I x8] H2 fun v3=>iZt v3 fun x9 c1=>(BIf (!c1) (K (.tuple #[Ii 0,I 6]) H2) (LeI H2 (((O b1).add 0).add 1) fun x10=>Hz 255 #[.pointer p3,I (i64.wrap (x9*x10))] H2 fun v7 H3=>eZd v7 fun p4 x11=>(BIf (x11 !=0) (K (.tuple #[Ii 0,I x11]) H3) (Nw H3 (.row [.pointer p4] 331 1) fun b2 H4=>LeI H4 (((O b1).add 0).add 1) fun x12=>Hz 255 #[.pointer p3,I x12] H4 fun v11 H5=>eZd v11 fun p5 x13=>(BIf (x13 !=0) (aZZ prog 257 #[.pointer p3,.slice (Io b2) 1 1] H5 fun _ H24=>K (.tuple #[Ii 0,I x13]) H24) (Nw H5 (.row [.pointer p5] 331 1) fun b3 H6=>(LdA H6 (O b1) 5 fun l12=>LeI H6 (((O b1).add 0).add 1) fun x14=>HcI 306 #[U (u64.wrap x14)] H6 fun x15 H7=>HcP 305 #[I x15] H7 fun p6 H8=>aZu.q1 l12 H8 p6 K p1 p2 b1 x9 p4 p3 b3 b2)/\(LeI H6 (((O b1).add 0).add 1) fun x21=>(LdA H6 (O b1) 5 fun l18=>HcI 306 #[U (u64.wrap x21)] H6 fun x22 H10=>HcP 305 #[I x22] H10 fun p7 H11=>aZu.q1 l18 H11 p7 K p1 p2 b1 x9 p4 p3 b3 b2)/\((LdA H6 (O b1) 5 fun l24=>HcI 306 #[U (u64.wrap x21)] H6 fun x28 H13=>HcP 305 #[I x28] H13 fun p8 H14=>aZu.q1 l24 H14 p8 K p1 p2 b1 x9 p4 p3 b3 b2)/\(HcI 306 #[U (u64.wrap x21)] H6 fun x34 H16=>(LdA H16 (O b1) 5 fun l30=>HcP 305 #[I x34] H16 fun p9 H17=>aZu.q1 l30 H17 p9 K p1 p2 b1 x9 p4 p3 b3 b2)/\(HcP 305 #[I x34] H16 fun p10 H19=>LdA H19 (O b1) 5 fun l36=>aZu.q1 l36 H19 p10 K p1 p2 b1 x9 p4 p3 b3 b2)))))))))))
def aZu.l17.L (K:VK)(k:Nat):Mid:=fun E D H=>
 eP E 0 fun p16=>eP E 1 fun p17=>eN E 7 fun a4=>eI E 13 .i64 fun x46=>eP E 15 fun p18=>eN E 17 fun a5=>eI E 18 .i64 fun x47=>cZE 257 D fun dc0 da0 D1=>ZV dc0 (Zl da0 fun u0da0 r0da0=>DP u0da0 fun p19=>Zl r0da0 fun u1da0 r1da0=>DSl u1da0 fun A3 n3 m3=>ZV r1da0 (cZE 257 D1 fun dc1 da1 D2=>ZV dc1 (Zl da1 fun u0da1 r0da1=>DP u0da1 fun p20=>Zl r0da1 fun u1da1 r1da1=>DSl u1da1 fun A4 n4 m4=>ZV r1da1 (Zj D2 (aZu.l17 K k p16 p17 a4 x46 p18 a5 x47 p19 A3 n3 m3 p20 A4 n4 m4 H)))))
def aZu.Λ17 (_:VK)(_R17:OA→OA→Addr→Int→OA→Addr→Int→OA→OA→Nat→Nat→OA→OA→Nat→Nat→Hp→Prop):Zs:=Zs.none (fun i=>match Nat.beq i 15 with|true=>some ([],[0,0,2,6,14,30,62,127,255,511],0)|false=>none)
def aZu.Λ (K:VK):Zs:=⟨fun i=>match Nat.beq i 16 with|true=>some (fun E D H=>eP E 0 fun p11=>eP E 1 fun p12=>eN E 7 fun a2=>eI E 13 .i64 fun x45=>eP E 15 fun p13=>eN E 17 fun a3=>cZE 257 D fun dc0 da0 D1=>ZV dc0 (Zl da0 fun u0da0 r0da0=>DP u0da0 fun p14=>Zl r0da0 fun u1da0 r1da0=>DSl u1da0 fun A1 n1 m1=>ZV r1da0 (cZE 257 D1 fun dc1 da1 D2=>ZV dc1 (Zl da1 fun u0da1 r0da1=>DP u0da1 fun p15=>Zl r0da1 fun u1da1 r1da1=>DSl u1da1 fun A2 n2 m2=>ZV r1da1 (Zj D2 (aZu.j16 K p11 p12 a2 x45 p13 a3 p14 A1 n1 m1 p15 A2 n2 m2 H))))))|false=>none,fun i=>match Nat.beq i 17 with|true=>some (fun E D H=>∃ k,aZu.l17.L K k E D H)|false=>none,(fun i=>match Nat.beq i 15 with|true=>some ([],[0,0,2,6,14,30,62,127,255,511],0)|false=>none)⟩
theorem aZu.ok p1 p2 x1 x2 x3 x4 x5 p3 x6 H K (h:aZu p1 p2 x1 x2 x3 x4 x5 p3 x6 H K):Za prog 240 #[.pointer p1,.pointer p2,.agg #[I x1,I x2,I x3,I x4,U x5],.pointer p3,I x6] H K:=
 okL (Λ:=(aZu.Λ K)) dZV Tryz.func240 rfl rfl h (oC (fun E D H h=>by
   obtain⟨p11,e0,g2⟩:=GP h;obtain⟨p12,e1,g4⟩:=GP g2;obtain⟨a2,e7,g7⟩:=GN g4;obtain⟨x45,e13,g9⟩:=GI g7;obtain⟨p13,e15,g11⟩:=GP g9;obtain⟨a3,e17,g14⟩:=GN g11;obtain⟨dc0,da0,D1,rfl,g15⟩:=cZE.out g14;obtain⟨rfl,g16⟩:=ZV.out g15;obtain⟨u0da0,r0da0,rfl,g17⟩:=Zl.out g16;obtain⟨p14,rfl,g18⟩:=DP.out g17;obtain⟨u1da0,r1da0,rfl,g19⟩:=Zl.out g18;obtain⟨A1,n1,m1,rfl,g20⟩:=DSl.out g19;obtain⟨rfl,g21⟩:=ZV.out g20;obtain⟨dc1,da1,D2,rfl,g22⟩:=cZE.out g21;obtain⟨rfl,g23⟩:=ZV.out g22;obtain⟨u0da1,r0da1,rfl,g24⟩:=Zl.out g23;obtain⟨p15,rfl,g25⟩:=DP.out g24;obtain⟨u1da1,r1da1,rfl,g26⟩:=Zl.out g25;obtain⟨A2,n2,m2,rfl,g27⟩:=DSl.out g26;obtain⟨rfl,g28⟩:=ZV.out g27;obtain⟨rfl,h'⟩:=Zj.out g28;exact okJ (Λ:=(aZu.Λ K)) dZV [{ target:=.fn (.func 257) #[],args:=#[.pointer p14,.slice A1 n1 m1]},{ target:=.fn (.func 257) #[],args:=#[.pointer p15,.slice A2 n2 m2]}] (Zc.cons e0 (Zc.cons e1 (Zc.cons e7 (Zc.cons e13 (Zc.cons e15 (Zc.cons e17 (Zc.nil _))))))) h' (oC (fun E D H h=>by
     refine Safe.loop' (aZu.l17.L K) (fun E D H h=>?_) (fun k E D H h=>?_) E D H h
     ·obtain⟨w0,e0,g1⟩:=DG.out h;obtain⟨p16,rfl,g2⟩:=DP.out g1;obtain⟨w1,e1,g3⟩:=DG.out g2;obtain⟨p17,rfl,g4⟩:=DP.out g3;obtain⟨w7,e7,g5⟩:=DG.out g4;obtain⟨pw7,rfl,g6⟩:=DP.out g5;obtain⟨a4,rfl,g7⟩:=NN.out g6;obtain⟨w13,e13,g8⟩:=DG.out g7;obtain⟨x46,rfl,g9⟩:=DI.out g8;obtain⟨w15,e15,g10⟩:=DG.out g9;obtain⟨p18,rfl,g11⟩:=DP.out g10;obtain⟨w17,e17,g12⟩:=DG.out g11;obtain⟨pw17,rfl,g13⟩:=DP.out g12;obtain⟨a5,rfl,g14⟩:=NN.out g13;obtain⟨w18,e18,g15⟩:=DG.out g14;obtain⟨x47,rfl,g16⟩:=DI.out g15;obtain⟨dc0,da0,D1,rfl,g17⟩:=cZE.out g16;obtain⟨rfl,g18⟩:=ZV.out g17;obtain⟨u0da0,r0da0,rfl,g19⟩:=Zl.out g18;obtain⟨p19,rfl,g20⟩:=DP.out g19;obtain⟨u1da0,r1da0,rfl,g21⟩:=Zl.out g20;obtain⟨A3,n3,m3,rfl,g22⟩:=DSl.out g21;obtain⟨rfl,g23⟩:=ZV.out g22;obtain⟨dc1,da1,D2,rfl,g24⟩:=cZE.out g23;obtain⟨rfl,g25⟩:=ZV.out g24;obtain⟨u0da1,r0da1,rfl,g26⟩:=Zl.out g25;obtain⟨p20,rfl,g27⟩:=DP.out g26;obtain⟨u1da1,r1da1,rfl,g28⟩:=Zl.out g27;obtain⟨A4,n4,m4,rfl,g29⟩:=DSl.out g28;obtain⟨rfl,g30⟩:=ZV.out g29;obtain⟨rfl,h'⟩:=Zj.out g30;exact h'
     ·obtain⟨p16,e0,g2⟩:=GP h;obtain⟨p17,e1,g4⟩:=GP g2;obtain⟨a4,e7,g7⟩:=GN g4;obtain⟨x46,e13,g9⟩:=GI g7;obtain⟨p18,e15,g11⟩:=GP g9;obtain⟨a5,e17,g14⟩:=GN g11;obtain⟨x47,e18,g16⟩:=GI g14;obtain⟨dc0,da0,D1,rfl,g17⟩:=cZE.out g16;obtain⟨rfl,g18⟩:=ZV.out g17;obtain⟨u0da0,r0da0,rfl,g19⟩:=Zl.out g18;obtain⟨p19,rfl,g20⟩:=DP.out g19;obtain⟨u1da0,r1da0,rfl,g21⟩:=Zl.out g20;obtain⟨A3,n3,m3,rfl,g22⟩:=DSl.out g21;obtain⟨rfl,g23⟩:=ZV.out g22;obtain⟨dc1,da1,D2,rfl,g24⟩:=cZE.out g23;obtain⟨rfl,g25⟩:=ZV.out g24;obtain⟨u0da1,r0da1,rfl,g26⟩:=Zl.out g25;obtain⟨p20,rfl,g27⟩:=DP.out g26;obtain⟨u1da1,r1da1,rfl,g28⟩:=Zl.out g27;obtain⟨A4,n4,m4,rfl,g29⟩:=DSl.out g28;obtain⟨rfl,g30⟩:=ZV.out g29;obtain⟨rfl,h'⟩:=Zj.out g30;exact okJ (Λ:=(aZu.Λ17 K (aZu.l17 K k))) dZV [{ target:=.fn (.func 257) #[],args:=#[.pointer p19,.slice A3 n3 m3]},{ target:=.fn (.func 257) #[],args:=#[.pointer p20,.slice A4 n4 m4]}] (Zc.cons e0 (Zc.cons e1 (Zc.cons e7 (Zc.cons e13 (Zc.cons e15 (Zc.cons e17 (Zc.cons e18 (Zc.nil _)))))))) h' oN) oN)) oN)
def fZ8 (p1 p2:OA)(x1 x2 x3 x4 x5:Int)(p3:OA)(H:Hp)(K:VK):Prop:=
 Nw H (Is #[I x1,I x2,I x3,I x4,U x5] 219) fun b1 H1=>BIf p1.isNone (K (I 1) H1) (BIf p2.isNone (K (I 1) H1) (BIf p3.isNone (K (I 1) H1) (LdA H1 ((O b1).add 0) 2 fun l1=>QcB 297 #[.agg l1.toArray] H1 fun c1=>BIf (!c1) (K (I 19) H1) (QcI 186 #[.pointer p1] H1 fun x6=>LdA H1 ((O b1).add 0) 2 fun l2=>QcI 298 #[.agg l2.toArray] H1 fun x7=>BIf (x6 !=x7) (K (I 19) H1) (QcI 186 #[.pointer p2] H1 fun x8=>LdA H1 ((O b1).add 0) 2 fun l3=>QcI 298 #[.agg l3.toArray] H1 fun x9=>BIf (x8 !=x9) (K (I 19) H1) (LeI H1 ((O b1).add 2) fun x10=>BIf (decide (x10<0)) (K (I 18) H1) (LeI H1 ((O b1).add 2) fun x11=>BIf (decide (x11>1)) (K (I 18) H1) (LeI H1 ((O b1).add 3) fun x12=>BIf (decide (x12<(-1))) (K (I 2) H1) (LeI H1 ((O b1).add 3) fun x13=>BIf (decide (x13>32)) (K (I 2) H1) (K (I 0) H1))))))))))
theorem fZ8.ok p1 p2 x1 x2 x3 x4 x5 p3 H K (h:fZ8 p1 p2 x1 x2 x3 x4 x5 p3 H K):Za prog 303 #[.pointer p1,.pointer p2,.agg #[I x1,I x2,I x3,I x4,U x5],.pointer p3] H K:=
 okN dZV Tryz.func303 rfl rfl h
def aZS.l4 (K:VK):Nat->Int->Int->Addr->Int->Hp->Prop
 |0,_,_,_,_,_=>False
 |k+1,x7,x8,a1,x9,H=>
  let R4:=aZS.l4 K k
  LeI H (a1.add 0) fun x10=>BIf (decide ((i64.wrap (2*x9))<=x10)) (LeI H (a1.add 1) fun x11=>(x11≠0/\i64=i64/\BIf (decide ((i64.wrap ((i64.wrap (2*x9))+1))<=(i64.wrap (Int.tdiv (i64.wrap (x8-x7)) x11)))) (R4 x7 x8 a1 (i64.wrap (x9*2)) H) (K (.tuple #[I x9,.bool true]) H))) (K (.tuple #[I x9,.bool true]) H)
def aZS (x1 x2 x3 x4:Int)(H:Hp)(K:VK):Prop:=
 Nw H (Is #[I x1,I x2] 217) fun b1 H1=>LdA H1 (O b1) 2 fun l1=>HcB 297 #[.agg l1.toArray] H1 fun c1 H2=>BIf (!c1) (K (.tuple #[I 0,.bool false]) H2) (LeI H2 ((O b1).add 1) fun x5=>BIf (decide (x5>1048576)) (K (.tuple #[I 0,.bool false]) H2) (BIf (decide (x3<4)) (K (.tuple #[I 0,.bool false]) H2) (BIf (decide (x3>512)) (K (.tuple #[I 0,.bool false]) H2) (BIf ((aZD .i64 x3 (i64.wrap (x3-1))) !=0) (K (.tuple #[I 0,.bool false]) H2) (BIf (decide (x4<x3)) (K (.tuple #[I 0,.bool false]) H2) (LeI H2 ((O b1).add 1) fun x6=>BIf (decide ((i64.wrap (x4-x3))<(i64.wrap (2*x6)))) (K (.tuple #[I 0,.bool false]) H2) ((∃ k,aZS.l4 K k x3 x4 (O b1) 1 H2))))))))
def aZS.l4.L (K:VK)(k:Nat):Mid:=fun E D H=>
 eI E 1 .i64 fun x7=>eI E 2 .i64 fun x8=>eN E 3 fun a1=>eI E 6 .i64 fun x9=>Zj D (aZS.l4 K k x7 x8 a1 x9 H)
def aZS.Λ4 (_:VK)(_R4:Int->Int->Addr->Int->Hp->Prop):Zs:=Zs.none (fun _=>none)
def aZS.Λ (K:VK):Zs:=⟨fun i=>none,fun i=>match Nat.beq i 4 with|true=>some (fun E D H=>∃ k,aZS.l4.L K k E D H)|false=>none,(fun _=>none)⟩
theorem aZS.ok x1 x2 x3 x4 H K (h:aZS x1 x2 x3 x4 H K):Za prog 304 #[.agg #[I x1,I x2],I x3,I x4] H K:=
 okL (Λ:=(aZS.Λ K)) dZV Tryz.func304 rfl rfl h (oC (fun E D H h=>by
   refine Safe.loop' (aZS.l4.L K) (fun E D H h=>?_) (fun k E D H h=>?_) E D H h
   ·obtain⟨w1,e1,g1⟩:=DG.out h;obtain⟨x7,rfl,g2⟩:=DI.out g1;obtain⟨w2,e2,g3⟩:=DG.out g2;obtain⟨x8,rfl,g4⟩:=DI.out g3;obtain⟨w3,e3,g5⟩:=DG.out g4;obtain⟨pw3,rfl,g6⟩:=DP.out g5;obtain⟨a1,rfl,g7⟩:=NN.out g6;obtain⟨w6,e6,g8⟩:=DG.out g7;obtain⟨x9,rfl,g9⟩:=DI.out g8;obtain⟨rfl,h'⟩:=Zj.out g9;exact h'
   ·obtain⟨x7,e1,g2⟩:=GI h;obtain⟨x8,e2,g4⟩:=GI g2;obtain⟨a1,e3,g7⟩:=GN g4;obtain⟨x9,e6,g9⟩:=GI g7;obtain⟨rfl,h'⟩:=Zj.out g9;exact okJ (Λ:=(aZS.Λ4 K (aZS.l4 K k))) dZV [] (Zc.cons e1 (Zc.cons e2 (Zc.cons e3 (Zc.cons e6 (Zc.nil _))))) h' oN) oN)
def aZt.l6 (K:VK):Nat->OA->OA->OA->Nat->Nat->Int->Int->Int->Hp->Prop
 |0,_,_,_,_,_,_,_,_,_=>False
 |k+1,p4,p5,A2,n2,m2,x4,x5,x6,H=>
  let R6:=aZt.l6 K k
  BIf (decide (x6<(n2:Int))) (slB n2 m2 (some x6) (some (i64.wrap (x6+x5))) fun n3 n4=>(x5≠0/\i64=i64/\Hz 347 #[.pointer p4,.slice (slA A2 m2 n3 1) (n4-n3) (m2-n3),I (i64.wrap (x4+(i64.wrap (Int.tdiv x6 x5))))] H fun v3 H2=>R6 p4 p5 A2 n2 m2 x4 x5 (i64.wrap (x6+x5)) H2)) (NN p4 fun a2=>Hz 236 #[.pointer (some (a2.add 0)),.slice A2 n2 m2] H fun v4 H3=>HcI 185 #[.pointer p5,I (i64.wrap (x4*x5)),.slice A2 n2 m2] H3 fun x7 H4=>K (I x7) H4)
def aZt (p1 p2 p3 A1:OA)(n1 m1:Nat)(x1:Int)(H:Hp)(K:VK):Prop:=
 NN p1 fun a1=>LeI H (((a1.add 2).add 0).add 1) fun x2=>HcI 187 #[.pointer p2,I (i64.wrap (x1*x2)),.slice A1 n1 m1] H fun x3 H1=>BIf (x3 !=0) (K (I x3) H1) ((∃ k,aZt.l6 K k p1 p3 A1 n1 m1 x1 x2 0 H1))
def aZt.l6.L (K:VK)(k:Nat):Mid:=fun E D H=>
 eP E 0 fun p4=>eP E 2 fun p5=>DG (E.get? 3) fun w3=>DSl w3 fun A2 n2 m2=>eI E 4 .i64 fun x4=>eI E 11 .i64 fun x5=>eI E 13 .i64 fun x6=>Zj D (aZt.l6 K k p4 p5 A2 n2 m2 x4 x5 x6 H)
def aZt.Λ6 (_:VK)(_R6:OA→OA→OA→Nat→Nat→Int→Int→Int→Hp→Prop):Zs:=Zs.none (fun i=>match Nat.beq i 8 with|true=>some ([],[0,1,2,3,4,5,6,7,8,9,10,11],12)|false=>none)
def aZt.Λ (K:VK):Zs:=⟨fun i=>none,fun i=>match Nat.beq i 6 with|true=>some (fun E D H=>∃ k,aZt.l6.L K k E D H)|false=>none,(fun i=>match Nat.beq i 8 with|true=>some ([],[0,1,2,3,4,5,6,7,8,9,10,11],12)|false=>none)⟩
theorem aZt.ok p1 p2 p3 A1 n1 m1 x1 H K (h:aZt p1 p2 p3 A1 n1 m1 x1 H K):Za prog 307 #[.pointer p1,.pointer p2,.pointer p3,.slice A1 n1 m1,I x1] H K:=
 okL (Λ:=(aZt.Λ K)) dZV Tryz.func307 rfl rfl h (oC (fun E D H h=>by
   refine Safe.loop' (aZt.l6.L K) (fun E D H h=>?_) (fun k E D H h=>?_) E D H h
   ·obtain⟨w0,e0,g1⟩:=DG.out h;obtain⟨p4,rfl,g2⟩:=DP.out g1;obtain⟨w2,e2,g3⟩:=DG.out g2;obtain⟨p5,rfl,g4⟩:=DP.out g3;obtain⟨w3,e3,g5⟩:=DG.out g4;obtain⟨A2,n2,m2,rfl,g6⟩:=DSl.out g5;obtain⟨w4,e4,g7⟩:=DG.out g6;obtain⟨x4,rfl,g8⟩:=DI.out g7;obtain⟨w11,e11,g9⟩:=DG.out g8;obtain⟨x5,rfl,g10⟩:=DI.out g9;obtain⟨w13,e13,g11⟩:=DG.out g10;obtain⟨x6,rfl,g12⟩:=DI.out g11;obtain⟨rfl,h'⟩:=Zj.out g12;exact h'
   ·obtain⟨p4,e0,g2⟩:=GP h;obtain⟨p5,e2,g4⟩:=GP g2;obtain⟨w3,e3,g5⟩:=DG.out g4;obtain⟨A2,n2,m2,rfl,g6⟩:=DSl.out g5;obtain⟨x4,e4,g8⟩:=GI g6;obtain⟨x5,e11,g10⟩:=GI g8;obtain⟨x6,e13,g12⟩:=GI g10;obtain⟨rfl,h'⟩:=Zj.out g12;exact okJ (Λ:=(aZt.Λ6 K (aZt.l6 K k))) dZV [] (Zc.cons e0 (Zc.cons e2 (Zc.cons e3 (Zc.cons e4 (Zc.cons e11 (Zc.cons e13 (Zc.nil _))))))) h' oN) oN)
def aZI.j4 (K:VK)(p3 A4:OA)(n4 m4:Nat)(H:Hp):=
 NN p3 fun a6=>LeW H ((a6.add 2).add 4) fun x13=>HcS 362 #[.slice A4 n4 m4,U x13] H fun A5 n5 m5 H6=>CpK prog 108 (.slice A4 n4 m4) (.slice A5 n5 m5) H6 fun v19 H7=>DI .i64 v19 fun x14=>K (.tuple #[]) H7
def aZI.q1 (A1:OA)(n1 m1:Nat)(x1 x5 x6:Int)(H1:Hp)(K:VK)(p1:OA):=
 Hz 361 #[.slice A1 n1 m1,.agg #[I 1,I (n1:Int),I x1,I 0],I x5,I x6] H1 fun v7 H2=>eZe v7 fun A2 n2 m2 x7=>(CpK prog 108 (.slice A1 n1 m1) (.slice A2 n2 m2) H2 fun v15 H4=>DI .i64 v15 fun x11=>aZI.j4 K p1 A1 n1 m1 H4)
def aZI (p1 A1:OA)(n1 m1:Nat)(x1:Int)(H:Hp)(K:VK):Prop:=
 NN p1 fun a1=>LeP H (a1.add 7) fun p2=>NN p1 fun a2=>LeI H ((a2.add 2).add 2) fun x2=>HcI 360 #[.pointer p2,.slice A1 n1 m1,I x2] H fun x3 H1=>NN p1 fun a3=>LeI H1 ((a3.add 2).add 3) fun x4=>BIf (decide (x4>=0)) (NN p1 fun a4=>NN p1 fun a5=>(LeI H1 ((a4.add 2).add 3) fun x5=>LeI H1 ((a5.add 2).add 2) fun x6=>aZI.q1 A1 n1 m1 x1 x5 x6 H1 K p1)/\(LeI H1 ((a5.add 2).add 2) fun x8=>LeI H1 ((a4.add 2).add 3) fun x9=>aZI.q1 A1 n1 m1 x1 x9 x8 H1 K p1)) (aZI.j4 K p1 A1 n1 m1 H1)
def aZI.Λ (K:VK):Zs:=⟨fun i=>match Nat.beq i 4 with|true=>some (fun E D H=>eP E 0 fun p3=>DG (E.get? 1) fun w1=>DSl w1 fun A4 n4 m4=>Zj D (aZI.j4 K p3 A4 n4 m4 H))|false=>none,fun i=>none,(fun i=>match Nat.beq i 2 with|true=>some ([],[0,0,2,6,0,30,0,64,192,448,960,0,2048,6144,14336,30720,65535,131071,262143,262143,524287,2097151],0)|false=>match Nat.beq i 0 with|true=>some ([],[0,1,2,3,4,5,6,7,8,9],10)|false=>none)⟩
theorem aZI.ok p1 A1 n1 m1 x1 H K (h:aZI p1 A1 n1 m1 x1 H K):Za prog 347 #[.pointer p1,.slice A1 n1 m1,I x1] H K:=
 okL (Λ:=(aZI.Λ K)) dZV Tryz.func347 rfl rfl h (oC (fun E D H h=>by
   obtain⟨p3,e0,g2⟩:=GP h;obtain⟨w1,e1,g3⟩:=DG.out g2;obtain⟨A4,n4,m4,rfl,g4⟩:=DSl.out g3;obtain⟨rfl,h'⟩:=Zj.out g4;exact okJ (Λ:=(aZI.Λ K)) dZV [] (Zc.cons e0 (Zc.cons e1 (Zc.nil _))) h' oN) oN)
end W
namespace Pas
open Go Go.Hw W Shp Gol Fft Ker
structure J where
 ea:Nat
 eb:Nat
 d:Bool
 tw:Int
 sh:UInt64
def J.a (j:J):Array Value:=#[I ((2^j.ea:Nat):Int),I ((2^j.eb:Nat):Int),I (if j.d=true then 1 else 0),I j.tw,U (j.sh.toNat:Int)]
def uZn (j:J)(kp:Nat):List Value:=[I ((2^j.ea:Nat):Int),I ((2^j.eb:Nat):Int),I (if j.d=true then 1 else 0),I j.tw,U (j.sh.toNat:Int),V kp]
def cZh (s:Crc.W32)(k:Nat)(j:J)(kp:Nat):AO:=Is (CrcP.iZ3 s k (uZn j kp)) 415
def twL (j:J)(r:Nat)(l:List UInt64):List UInt64:=if 0<=j.tw then kZn (pw (rtd j.d j.tw.toNat) r) l else l
def eZl (j:J)(r:Nat)(l:List UInt64):List UInt64:=cZu (zw j.sh) (twL j r (cZP j.d j.eb l))
theorem wZr (j:J)(r:Nat)(l:List UInt64):(twL j r l).length=l.length:=by
 unfold twL;split
 ·exact jZX _ _
 ·rfl
theorem hZ4 (j:J)(r:Nat)(l:List UInt64):(eZl j r l).length=2^j.eb:=by unfold eZl;rw[gZL,wZr,eZY]
theorem rZj {xs us bs:List Value}{off:Nat}(h:off+us.length<=xs.length)(hl:bs.length=us.length):setAt (setAt xs off us) off bs=setAt xs off bs:=by
 apply List.ext_getElem?;intro i;rw[bZZ (by rw[cZS h];omega),bZZ h,bZZ (by omega)];by_cases h1:i<off
 ·rw[if_pos h1,if_pos h1,if_pos h1]
 ·rw[if_neg h1,if_neg h1,if_neg h1];by_cases h2:i<off+bs.length
  ·rw[if_pos h2,if_pos h2]
  ·rw[if_neg h2,if_neg h2,if_neg (by omega)]
theorem uZf (ws:List UInt64):∀ y∈Zb ws,y.oneCell'=true:=fun y hy=>by
 unfold Zb at hy;obtain⟨w,_,rfl⟩:=List.mem_map.1 hy;rfl
theorem sZI {e:TypeId}{A:OA}{n m:Nat}{ws:List UInt64}{H:Hp}(h:Own e 1 A n m (Zb ws) H):Cells H A (Zb ws):=by
 obtain⟨h1,h2⟩:=h;rcases h2 with⟨rfl,rfl,rfl⟩|⟨b,mm,rfl,h4,_⟩
 ·rw[Nat.zero_mul]at h1;rw[List.length_eq_zero_iff.1 h1];exact Cells.nil _ _
 ·have:=Cells.row h4 0 (Zb ws).length;rw[List.drop_zero,List.take_of_length_le (Nat.le_refl _)]at this;exact this
section
variable {TT : As} {kp b off mm n m rn r : Nat} {s : Crc.W32} {sk : Nat} {j : J} {l : List UInt64} {xs : List Value} {e : TypeId}
theorem oZ3 {H:Hp}{L:List As}{i:Nat}(hs:Sep L H){ws us:List UInt64}(hi:L[i]? =some (pts b (.row (setAt xs off (Zb ws)) e mm)))(hw:ws.length=n)(hu:us.length=n)(hx:off+n<=xs.length){A:OA}{m':Nat}(hc:Cells H A (Zb us)){K:VK}
  (kk:∀ H',Sep (L.set i (pts b (.row (setAt xs off (Zb us)) e mm))) H'->K (I (n:Int)) H'):CpK prog 108 (.slice (some ⟨b,off,none⟩) n m) (.slice A n m') H K:=by
 refine hs.cp i (k:=n) (n:=n) (c:=m) (x:=.slice A n m') (ys:=Zb us) hi bZS rfl (by rw[show Nat.min n n=n from Nat.min_self n];exact iZP hc (by rw[Zq,hu])) (by rw[iZO,Zq,hu];exact hx) (uZf us) fun H' hs'=>?_
 rw[rZj (by rw[Zq];omega) (by rw[Zq,Zq,hu,hw])]at hs';rw[show Nat.min n n=n from Nat.min_self n];exact kk H' hs'
theorem wZz (hn:n=2^j.eb)(hb:j.eb<=20)(hx:off+n<=xs.length){ws:List UInt64}(hw:ws.length=n){L:List As}(K:VK)
  (hK:∀ H,Sep (pts rn (cZh s sk j kp)::pts b (.row (setAt xs off (Zb (cZu (zw j.sh) ws))) e mm)::L) H->K (.tuple #[]) H) {H:Hp} (hs:Sep (pts rn (cZh s sk j kp)::pts b (.row (setAt xs off (Zb ws)) e mm)::L) H):
  aZI.j4 K (Io rn) (some ⟨b,off,none⟩) n m H:=by
 have h20:=aZP hb;unfold aZI.j4;simp only[aZ0];refine hs.ldg 0 rfl rfl ?_;simp only[HV];refine(tZK (n:=n) (m:=m) (R:=pts b (.row (setAt xs off (Zb ws)) e mm)) j.sh (fun H h=>jZP h) hw (by omega)).use hs [1] rfl rfl ?_;rintro _ _ H ⟨r1,rfl,rfl⟩ hs;have hs:Sep (pts r1 (.row (Zb (cZu (zw j.sh) ws)) 108 (n*1))::pts b (.row (setAt xs off (Zb ws)) e mm)::pts rn (cZh s sk j kp)::L) H:=by
  have:rest (pts rn (cZh s sk j kp)::pts b (.row (setAt xs off (Zb ws)) e mm)::L) [1]=pts rn (cZh s sk j kp)::L:=by
   have key:∀(L:List As) k,2<=k->rest.go [1] k L=L:=by
    intro L
    induction L with
    |nil=>intro k _;rfl
    |cons A L ih=>
     intro k hk;unfold rest.go;have:([1]:List Nat).contains k=false:=by simp;omega
     rw[this,ih (k+1) (by omega)]
   show pts rn (cZh s sk j kp)::rest.go [1] 2 L=_
   rw[key L 2 (Nat.le_refl _)]
  rw[this]at hs;exact hs
 simp only[HV];have hc:Cells H (Io r1) (Zb (cZu (zw j.sh) ws)):=by
  have:=Cells.row (hs.get 0 rfl) 0 n;rw[List.drop_zero,List.take_of_length_le (by rw[Zq,gZL];omega)]at this;exact this
 refine oZ3 (m':=n) hs (i:=1) rfl hw (by rw[gZL];exact hw) hx hc fun H hs=>?_;simp only[HV];refine hK H ?_;have hs:=hs.tail;exact hs.swap
theorem wZA (hT:∀ H,TT H->T64 H)(hn:n=2^j.eb)(hb:j.eb<=20)(htw:j.tw<=32)(hr:r<=4294967295)(hl:l.length=n)(hm:n<=m)(hx:off+n<=xs.length)(hseg:setAt xs off (Zb l)=xs):
  Tr prog 347 #[V rn,.slice (some ⟨b,off,none⟩) n m,I (r:Int)] [pts rn (cZh s sk j kp),pts b (.row xs e mm),Kn kp j.eb,TT] fun v M=>
   v= .tuple #[]/\M=[pts rn (cZh s sk j kp),pts b (.row (setAt xs off (Zb (eZl j r l))) e mm),Kn kp j.eb,TT]:=fun H hs=>by
 have h20:=aZP hb;apply aZI.ok;unfold aZI aZI.q1;simp only[aZ0];refine hs.ldf 0 rfl rfl ?_;simp only[HV];refine hs.ldg 0 rfl rfl ?_;simp only[HV];refine(tZI (kp:=kp) (m:=m) (mm:=mm) (e:=e) hT hb hn hl hx hseg j.d).use hs [1,2,3] rfl rfl ?_;rintro _ _ H ⟨rfl,rfl⟩ hs;simp only[HV];have hs:Sep [pts b (.row (setAt xs off (Zb (cZP j.d j.eb l))) e mm),Kn kp j.eb,TT,pts rn (cZh s sk j kp)] H:=hs;refine hs.ldg 3 rfl rfl ?_;simp only[HV];have hdl:(cZP j.d j.eb l).length=n:=by rw[eZY,hn]
 have fin:∀{ws:List UInt64} {H:Hp},ws.length=n->twL j r (cZP j.d j.eb l)=ws->Sep [pts b (.row (setAt xs off (Zb ws)) e mm),Kn kp j.eb,TT,pts rn (cZh s sk j kp)] H->
   aZI.j4 (fun v H'=>∃ M,(v= .tuple #[]/\M=[pts rn (cZh s sk j kp),pts b (.row (setAt xs off (Zb (eZl j r l))) e mm),Kn kp j.eb,TT])/\Sep M H') (Io rn) (some ⟨b,off,none⟩) n m H:=fun{ws} {H} hw he hs=>by
  refine wZz (s:=s) (sk:=sk) (kp:=kp) (mm:=mm) (e:=e) (L:=[Kn kp j.eb,TT]) hn hb hx hw _ (fun H hs=>⟨_,⟨rfl,rfl⟩,?_⟩) (hs.re [3,0,1,2] rfl);unfold eZl;rw[he];exact hs
 by_cases ht:0<=j.tw
 ·refine Zm ht ?_;obtain⟨t,ht'⟩:=Int.eq_ofNat_of_zero_le ht;have hz:pw (rtd j.d j.tw.toNat) r=pw (rtd j.d t) r:=by rw[ht',Int.toNat_natCast]
  refine⟨?_,?_⟩
  all_goals
   refine hs.ldg 3 rfl rfl ?_;simp only[HV];refine hs.ldg 3 rfl rfl ?_;simp only[HV];rw[ht'];refine(vZt (n:=n) (m:=m) (k:=t) (r:=r) (l:=cZP j.d j.eb l) (R:=pts b (.row (setAt xs off (Zb (cZP j.d j.eb l))) e mm)) hT (fun H h=>jZP h) hn hb hdl hm (by omega) hr j.d).use hs [0,2] rfl rfl ?_;rintro _ _ H ⟨A',m',rfl,rfl⟩ hs;simp only[HV];refine oZ3 (m':=m') hs (i:=1) rfl hdl (by rw[jZX];exact hdl) hx (sZI (hs.own 0 rfl)) fun H hs=>?_;simp only[HV];exact fin (by rw[jZX];exact hdl) (by unfold twL;rw[if_pos ht,hz]) (hs.re [1,3,2,4] rfl)
 ·exact Zg ht (fin hdl (by unfold twL;rw[if_neg ht]) hs)
end
end Pas
namespace Pas
open Go Go.Hw Go.Crc Go.Form W Shp Gol Fft Ker Str Dsk Are Trn
def fZp (j:J)(r:Nat)(ws:List UInt64)(i:Nat):List UInt64:=(List.range i).flatMap fun q=>eZl j (r+q) ((ws.drop (q*2^j.eb)).take (2^j.eb))
def fZq (j:J)(r:Nat)(ws:List UInt64)(i:Nat):List UInt64:=fZp j r ws i++ws.drop (i*2^j.eb)
theorem hZR (j:J)(r:Nat)(ws:List UInt64):∀ i,(fZp j r ws i).length=i*2^j.eb
 |0=>by simp[fZp]
 |i+1=>by
  unfold fZp;rw[List.range_succ,List.flatMap_append,List.length_append];have:=hZR j r ws i;unfold fZp at this;rw[this,Nat.succ_mul];simp[hZ4]
theorem rZ3 (j:J)(r:Nat)(ws:List UInt64)(i:Nat):fZp j r ws (i+1)=fZp j r ws i++eZl j (r+i) ((ws.drop (i*2^j.eb)).take (2^j.eb)):=by
 unfold fZp;rw[List.range_succ,List.flatMap_append];simp
theorem tZT {j:J}{r:Nat}{ws:List UInt64}{i nb:Nat}(hw:ws.length=nb*2^j.eb)(hi:i<=nb):(fZq j r ws i).length=nb*2^j.eb:=by
 unfold fZq;have:i*2^j.eb<=nb*2^j.eb:=Nat.mul_le_mul_right _ hi;rw[List.length_append,hZR,List.length_drop];omega
theorem rZ4 (j:J)(r:Nat)(ws:List UInt64):fZq j r ws 0=ws:=by simp[fZq,fZp]
theorem qZr (a b c:List UInt64):eZm (a++b) a.length c=a++c++b.drop c.length:=by
 unfold eZm;rw[List.take_left,←List.drop_drop,List.drop_left]
section
variable {TT : As} {kp rn p q dp ap bb mb : Nat} {s : W32} {sk : Nat} {j : J} {x y : X} {cap peak : Int} {bufs : List (Nat × Nat × Option Addr)}
theorem lZA (K:VK)(hT:∀ H,TT H->T64 H)(hb:j.eb<=20)(htw:j.tw<=32){nb r:Nat}(hr:r+nb<=4294967296)(hsz:nb*2^j.eb<=4294967296){ws:List UInt64}(hw:ws.length=nb*2^j.eb){L:List As}{n:Nat}(hn:n=nb*2^j.eb)
  (hK:∀ H,Sep (pts rn (cZh s sk j kp)::pts bb (.row (Zb (fZp j r ws nb)) 108 mb)::Kn kp j.eb::TT::L) H->aZt.l6 K 1 (Io rn) (Io q) (Io bb) n n (r:Int) ((2^j.eb:Nat):Int) (n:Int) H):
  ∀(t i:Nat) (z:Int) (H:Hp),z=((i*2^j.eb:Nat):Int)->i+t=nb->Sep (pts rn (cZh s sk j kp)::pts bb (.row (Zb (fZq j r ws i)) 108 mb)::Kn kp j.eb::TT::L) H->
   aZt.l6 K (t+1) (Io rn) (Io q) (Io bb) n n (r:Int) ((2^j.eb:Nat):Int) z H
 |0,i,_,H,rfl,hi,hs=>by
  obtain rfl:i=nb:=by omega
  rw[← hn];refine hK H ?_;unfold fZq at hs;rw[List.drop_eq_nil_of_le (by omega),List.append_nil]at hs;exact hs
 |t+1,i,_,H,rfl,hi,hs=>by
  have hc1:=pow_pos j.eb;have hse:(i+1)*2^j.eb=i*2^j.eb+2^j.eb:=Nat.succ_mul _ _;have h20:=aZP hb;have hi1:(i+1)*2^j.eb<=nb*2^j.eb:=Nat.mul_le_mul_right _ (by omega);have hi1':=hi1;rw[Nat.succ_mul]at hi1;unfold aZt.l6;refine Zm (by omega) ?_;rw[show i64.wrap (((i*2^j.eb:Nat):Int)+((2^j.eb:Nat):Int))=(((i+1)*2^j.eb:Nat):Int) by rw[Nat.succ_mul,←Int.natCast_add,bZc]];refine⟨by omega,by omega,by omega,by omega,?_⟩;rw[Int.toNat_natCast,Int.toNat_natCast];refine⟨by omega,by simp,?_⟩;rw[show Int.tdiv ((i*2^j.eb:Nat):Int) ((2^j.eb:Nat):Int)=((i*2^j.eb/2^j.eb:Nat):Int)from rfl,Nat.mul_div_cancel _ (by omega),bZc (n:=i),←Int.natCast_add,bZc (n:=r+i),
   mZc,show(i+1)*2^j.eb-i*2^j.eb=2^j.eb by rw[Nat.succ_mul];omega,Nat.zero_add]
  have hA:=hZR j r ws i;have hlen:=tZT (j:=j) (r:=r) hw (show i<=nb by omega);have hseg:setAt (Zb (fZq j r ws i)) (i*2^j.eb) (Zb ((ws.drop (i*2^j.eb)).take (2^j.eb)))=Zb (fZq j r ws i):=by
   rw[jZR];unfold fZq;rw[← hA,qZr,hA,List.append_assoc];congr 2;rw[List.length_take,List.length_drop,Nat.min_eq_left (by omega)];exact List.take_append_drop _ _
  have hsl:((ws.drop (i*2^j.eb)).take (2^j.eb)).length=2^j.eb:=by rw[List.length_take,List.length_drop];omega
  have ht:=wZA (rn:=rn) (kp:=kp) (b:=bb) (off:=i*2^j.eb) (mm:=mb) (n:=2^j.eb) (m:=n-i*2^j.eb) (r:=r+i) (s:=s) (sk:=sk) (j:=j) (l:=(ws.drop (i*2^j.eb)).take (2^j.eb)) (xs:=Zb (fZq j r ws i)) (e:=108) hT rfl hb htw (by omega) hsl (by omega) (by rw[Zq,hlen];omega) hseg;have e0:sel (pts rn (cZh s sk j kp)::pts bb (.row (Zb (fZq j r ws i)) 108 mb)::Kn kp j.eb::TT::L) [0,1,2,3]=[pts rn (cZh s sk j kp),pts bb (.row (Zb (fZq j r ws i)) 108 mb),Kn kp j.eb,TT]:=rfl;refine ht.use hs [0,1,2,3] e0 rfl ?_;rintro _ _ H ⟨rfl,rfl⟩ hs;have erest:rest (pts rn (cZh s sk j kp)::pts bb (.row (Zb (fZq j r ws i)) 108 mb)::Kn kp j.eb::TT::L) [0,1,2,3]=L:=by
   have key:∀(L:List As) k,4<=k->rest.go [0,1,2,3] k L=L:=by
    intro L
    induction L with
    |nil=>intro k _;rfl
    |cons A L ih=>
     intro k hk;unfold rest.go;have:([0,1,2,3]:List Nat).contains k=false:=by simp;omega
     rw[this,ih (k+1) (by omega)]
   exact key L 4 (Nat.le_refl _)
  rw[erest]at hs;have hstep:setAt (Zb (fZq j r ws i)) (i*2^j.eb) (Zb (eZl j (r+i) ((ws.drop (i*2^j.eb)).take (2^j.eb))))=Zb (fZq j r ws (i+1)):=by
   rw[jZR];unfold fZq;rw[← hA,qZr,hA,rZ3,hZ4,List.drop_drop,Nat.succ_mul]
  rw[hstep]at hs;exact lZA K hT hb htw hr hsz hw hn hK t (i+1) _ H rfl (by omega) hs
def wZZ (rn p q dp ap kp bb:Nat)(s:W32)(sk:Nat)(j:J)(d:D)(x y:X)(r nb:Nat)(cap peak:Int)(bufs:List (Nat×Nat×OA))(mb:Nat)(TT:As)(v:Value)(M:List As):Prop:=
 let n:=nb*2^j.eb
 let f:=r*2^j.eb
 let us:=fZp j r (pws d x f n) nb
 let t:=(pcs (D.per d) x.f n f n).length
 (Prog (inX y) d (eZn (D.rdG d t) y n f us) (t+dZA (D.per d) y.f n f n) (pcs (D.per d) y.f n f n).length/\v= I 0/\
  M=[pts rn (cZh (more s (form us)) (sk+8*n) j kp),pts bb (.row (Zb us) 108 mb),pts p (ZJ dp ap x),pts q (ZJ dp ap y),Dk dp (eZn (D.rdG d t) y n f us),Ar ap cap (mx peak (ZH bufs+D.per d)) bufs,Kn kp j.eb,TT])∨
 (∃ d',cZB (inX y) d d'/\d.fuse<=t+dZA (D.per d) y.f n f n+(pcs (D.per d) y.f n f n).length/\v= I 8/\
  M=[pts p (ZJ dp ap x),pts q (ZJ dp ap y),Dk dp d',Ar ap cap (mx peak (ZH bufs+D.per d)) bufs,TT])
set_option maxHeartbeats 1000000 in
theorem tZV {d:D}(hT:∀ H,TT H->T64 H)(hok:Ok d)(hl:d.down=false)(hx:On d x)(hy:On d y)(ho:d.rd<=4000000000000000000/\d.wr<=4000000000000000000)(hb:j.eb<=20)(htw:j.tw<=32){r nb:Nat}(hnb:1<=nb)(hr:r+nb<=4294967296)(hsz:nb*2^j.eb<=4294967296)
  (hfx:r*2^j.eb+nb*2^j.eb<=x.w) (hfy:r*2^j.eb+nb*2^j.eb<=y.w) (hxw:x.w<=4294967296) (hsk:sk<=1000000000000) (hcap:(D.per d:Int)<=cap-ZH bufs) (ws:List UInt64) (hws:ws.length=nb*2^j.eb):
  Tr prog 307 #[V rn,V p,V q,.slice (Io bb) (nb*2^j.eb) (nb*2^j.eb),I (r:Int)]
   [pts rn (cZh s sk j kp),pts bb (.row (Zb ws) 108 mb),pts p (ZJ dp ap x),pts q (ZJ dp ap y),Dk dp d,Ar ap cap peak bufs,Kn kp j.eb,TT] (wZZ rn p q dp ap kp bb s sk j d x y r nb cap peak bufs mb TT):=fun H hs=>by
 have hp:=Ok.per_le hok;have hc1:=pow_pos j.eb;have hn1:1*1<=nb*2^j.eb:=Nat.mul_le_mul hnb hc1;have hpl:=dZp (D.per d) x.f (nb*2^j.eb) (r*2^j.eb) (nb*2^j.eb);apply aZt.ok;unfold aZt;simp only[aZ0];rw[show(((O rn).add 2).add 0).add 1=⟨rn,3,none⟩ by rw[Addr.add_zero,Addr.add_lit',Addr.add_lit']];refine hs.ld 0 rfl rfl ?_;simp only[HV];rw[← Int.natCast_mul,bZc];refine(kZR (p:=p) (dp:=dp) (ap:=ap) (d:=d) (x:=x) (cap:=cap) (peak:=peak) (bufs:=bufs) (rl:=bb) (off:=0) (mm:=mb) (el:=108) (xs:=Zb ws) hok hl hx (by omega) (r*2^j.eb) (nb*2^j.eb) (nb*2^j.eb) (by omega) hfx (Nat.le_refl _) (by rw[Zq];omega) hcap).use hs [2,4,5,1] rfl rfl ?_;rintro v M H (⟨hgo,rfl,rfl⟩|⟨i,xs',hi,hfi,_,rfl,rfl⟩) hs
 case inr=>
  simp only[HV];refine Zz (by decide) ⟨_,.inr ⟨_,(cZB.rdG (fun _=>False) hok hl hfi).mono fun _ h=>h.elim,by omega,rfl,rfl⟩,hs.re [0,5,1,2,7] rfl⟩
 simp only[HV];refine Zr rfl ?_;rw[hZg (by rw[Zq,Zq,eZk,hws])]at hs;have hpg:=Prog.rdG (inX y) hok hl hgo;generalize ht:(pcs (D.per d) x.f (nb*2^j.eb) (r*2^j.eb) (nb*2^j.eb)).length=t at*;have hper:D.per (D.rdG d t)=D.per d:=rfl;refine⟨nb+1,?_⟩;refine lZA (q:=q) (s:=s) (sk:=sk) (kp:=kp) (mb:=mb) (L:=[pts p (ZJ dp ap x),Dk dp (D.rdG d t),Ar ap cap (mx peak (ZH bufs+D.per d)) bufs,pts q (ZJ dp ap y)]) _ hT hb htw hr hsz (ws:=pws d x (r*2^j.eb) (nb*2^j.eb)) (eZk _ _ _ _) rfl (fun H hs=>?_) nb 0 0 H (by rw[Nat.zero_mul];rfl) (by omega) ?_
 ·generalize hus:fZp j r (pws d x (r*2^j.eb) (nb*2^j.eb)) nb=us at*;have hul:us.length=nb*2^j.eb:=by rw[← hus];exact hZR _ _ _ _
  have hcell:∀ H,pts bb (.row (Zb us) 108 mb) H->Cells H (Io bb) (Zb us):=fun H h=>by
   have:=Cells.row h 0 us.length
   rwa [List.drop_zero,List.take_of_length_le (by rw[Zq];exact Nat.le_refl _)]at this
  unfold aZt.l6;refine Zg (Int.lt_irrefl _) ?_;simp only[aZ0,Addr.add_zero];refine CrcP.kZr hs 0 rfl (Io bb) (nb*2^j.eb) (nb*2^j.eb) us hul.symm ?_ (by omega) (by omega) fun H hs=>?_
  ·obtain⟨H1,h1,hle⟩:=hs.see 1 rfl;exact(hcell H1 h1).le hle
  have hs:Sep [pts rn (cZh (more s (form us)) (sk+8*(nb*2^j.eb)) j kp),pts bb (.row (Zb us) 108 mb),Kn kp j.eb,TT,pts p (ZJ dp ap x),Dk dp (D.rdG d t),Ar ap cap (mx peak (ZH bufs+D.per d)) bufs,pts q (ZJ dp ap y)] H:=hs;rw[← Int.natCast_mul,bZc];refine(jZr (p:=q) (dp:=dp) (ap:=ap) (d:=D.rdG d t) (x:=y) (cap:=cap) (peak:=mx peak (ZH bufs+D.per d)) (bufs:=bufs) (R:=pts bb (.row (Zb us) 108 mb)) (A:=some (O bb)) (n:=nb*2^j.eb) (m:=nb*2^j.eb) (src:=us) hpg.ok hpg.down (hy.prog hpg) ⟨by show d.rd+t<=_;omega,by show d.wr<=_;omega⟩ (r*2^j.eb) hul.symm (by omega) hfy (Nat.le_refl _) hcap hcell).use hs [7,5,6,1] rfl rfl ?_;rintro v M H (⟨hpg2,rfl,rfl⟩|⟨d',hd,hfu,rfl,rfl⟩) hs
  ·simp only[HV];rw[hul,hper,lZX]at hs;rw[hul,hper]at hpg2;have hpg3:=hpg.trans hpg2;rw[Nat.zero_add]at hpg3;subst hus;subst ht;exact⟨_,.inl ⟨hpg3,rfl,rfl⟩,hs.re [4,3,7,0,1,2,5,6] rfl⟩
  ·simp only[HV];rw[hper,lZX]at hs;rw[hul,hper]at hfu;subst hus;subst ht;refine⟨_,.inr ⟨d',hpg.dead hd,?_,rfl,rfl⟩,hs.re [7,0,1,2,6] rfl⟩;have h1:=hpg.fuse;have h2:=hpg.go;omega
 ·rw[rZ4];exact hs.re [4,3,6,7,0,1,2,5] rfl
end
end Pas
namespace Trn
open Go Go.Hw Go.Crc Go.Form W Shp Str Dsk Are
theorem cZD.unique {r c per free:Int}{j j':Nat}(hr:1<=r)(h:cZD r c per free j)(h':cZD r c per free j'):j=j':=by
 have key:∀{a b:Nat},cZD r c per free a->cZD r c per free b->¬a<b:=fun{a b} ha hb hlt=>by
  have hp:2^(a+1)<=2^b:=aZP hlt;rw[Nat.pow_succ]at hp;have hz:=pow_pos a;have h1:=hb.le;have h2:=hb.fit;rcases ha.most with e|e
  ·omega
  ·have h3:2*((2^a:Nat):Int)<=((2^b:Nat):Int):=by omega
   have:=Int.mul_le_mul_of_nonneg_right h3 (show 0<=r by omega);omega
 have h1:=key h h';have h2:=key h' h;omega
theorem vZh (r c per free:Int)(hper: -9223372036854775808<=per/\per<=9223372036854775807)(hf:free<=9223372036854775807)(H:Hp)(hT:T64 H)(hg:dZQ r c=true)(hp:cZR per=true)(h1:per<=free)(h2:r<=free-per){j:Nat}(hj:cZD r c per free j):
  Za prog 299 #[.agg #[I r,I c],I per,I free] H (RetE (.tuple #[I ((2^j:Nat):Int),.bool true]) H):=
 (vZi r c per free hper hf H hT).mono fun v H' ⟨hq,e⟩=>by
  rcases hq with⟨h,_⟩|⟨_,j',hj',rfl⟩
  ·exact absurd ⟨hg,hp,h1,h2⟩ h
  ·obtain⟨ea,_,rfl,_⟩:=hZz hg;have:=pow_pos ea;rw[hj.unique (by omega) hj'];exact⟨rfl,e⟩
theorem cZD.ex {ea eb:Nat}{per free:Int}(hab:ea+eb<=32:=by omega)(h:((2^ea:Nat):Int)<=free-per:=by omega):∃ j,j<=eb/\cZD ((2^ea:Nat):Int) ((2^eb:Nat):Int) per free j:=by
 have key:∀ t j,j+t=eb->((2^j:Nat):Int)*((2^ea:Nat):Int)<=free-per->∃ j,j<=eb/\cZD ((2^ea:Nat):Int) ((2^eb:Nat):Int) per free j:=fun t=>by
  induction t with
  |zero=>intro j hj hf;exact⟨j,by omega,⟨by rw[show j=eb by omega];exact Int.le_refl _,hf,.inl (by rw[show j=eb by omega])⟩⟩
  |succ t ih=>
   intro j hj hf;by_cases hc:((2^(j+1):Nat):Int)*((2^ea:Nat):Int)<=free-per
   ·exact ih (j+1) (by omega) hc
   ·refine⟨j,by omega,⟨Int.ofNat_le.2 (aZP (by omega)),hf,.inr ?_⟩⟩;rw[show(2:Int)*((2^j:Nat):Int)=((2^(j+1):Nat):Int) by rw[Nat.pow_succ];omega];omega
 exact key eb 0 (by omega) (by rw[Nat.pow_zero];omega)
theorem cZD.ge {r:Int}{eb:Nat}{per free:Int}{j:Nat}(h:cZD r ((2^eb:Nat):Int) per free j):j<=eb:=by
 apply Nat.le_of_not_lt;intro hlt;have h1:=aZP (show eb+1<=j from hlt);rw[Nat.pow_succ]at h1;have:=h.le;have:=pow_pos eb;omega
section
variable {p q dp ap : Nat} {x y : X} {cap peak : Int} {bufs : List (Nat × Nat × Option Addr)} {TT : As}
theorem gZ9 {L:List As}{H:Hp}(hT:∀ H,TT H->T64 H)(hs:Sep L H)(i:Nat)(hi:L[i]? =some TT):T64 H:=by
 obtain⟨H1,h1,hle⟩:=hs.see i hi;exact(hT H1 h1).le hle
theorem div_pow {a b:Nat}(h:a<=b):2^b=2^b/2^a*2^a:=(Nat.div_mul_cancel (Nat.pow_dvd_pow 2 h)).symm
theorem oZs {d:D}{ea eb j:Nat}(hT:∀ H,TT H->T64 H)(hok:Ok d)(hl:d.down=false)(hx:On d x)(hy:On d y)(ho:d.rd<=2000000000000000000/\d.wr<=2000000000000000000)(hab:ea+eb<=32)(hxw:x.w=2^ea*2^eb)(hyw:y.w=2^ea*2^eb)(hdis:x.f+x.s<=y.f∨y.f+y.s<=x.f)
  (hper:cZR (D.per d:Int)=true) (hcap:cap<=1000000000000) (hsum:0<=ZH bufs) (hj:cZD ((2^ea:Nat):Int) ((2^eb:Nat):Int) (D.per d) (cap-ZH bufs) j):
  Tr prog 239 #[V p,V q,.agg #[I ((2^ea:Nat):Int),I ((2^eb:Nat):Int)],V ap,I (D.per d:Int)]
   [pts p (ZJ dp ap x),pts q (ZJ dp ap y),Dk dp d,Ar ap cap peak bufs,TT] fun v M=>∃ M0,rZh p q dp ap d x y (2^ea) (2^eb) (2^j) cap peak bufs v M0/\M=M0++[TT]:=fun H hs=>by
 have hp:=Ok.per_le hok;have hg:=iZk hab;have hsz:=size_le hab;have hr1:=pow_pos ea;have hc1:=pow_pos eb;have hb1:=pow_pos j;have hjb:=hj.ge;have hfit:=hj.fit;rw[← Int.natCast_mul]at hfit;have hbr:1*2^ea<=2^j*2^ea:=Nat.mul_le_mul_right _ hb1;have hbsz:2^j*2^ea<=2^ea*2^eb:=by
  rw[Nat.mul_comm];exact Nat.mul_le_mul_left _ (aZP hjb)
 have hS:iZr ((2^ea:Nat):Int) ((2^eb:Nat):Int)=((2^ea*2^eb:Nat):Int):=by
  unfold iZr;rw[if_pos hg,Int.natCast_mul]
 apply bZg.ok;unfold bZg;refine hs.nw fun sb H hs=>aZe rfl (aZe rfl (aZe rfl ?_))
 first|refine hs.ldw 5 rfl rfl ?_
 try simp only[HV]
 refine ZS.use (bZ2 _ _ H (gZ9 hT hs 4 rfl)) ?_;rw[hg];simp only[HV];refine ZS.use (gZN hs 0 rfl) ?_;simp only[HV]
 first|refine hs.ldw 5 rfl rfl ?_
 try simp only[HV]
 refine ZS.use (jZ7 _ _ H (gZ9 hT hs 4 rfl)) ?_;rw[hS];simp only[HV];refine Zr (by rw[hxw]) ?_;refine ZS.use (gZN hs 1 rfl) ?_;simp only[HV]
 first|refine hs.ldw 5 rfl rfl ?_
 try simp only[HV]
 refine ZS.use (jZ7 _ _ H (gZ9 hT hs 4 rfl)) ?_;rw[hS];simp only[HV];refine Zr (by rw[hyw]) ?_
 first|refine hs.ldw 5 rfl rfl ?_
 try simp only[HV]
 simp only[aZ0,Addr.add_zero];refine ZS.use (sZh hs 3 rfl) ?_;simp only[HV];refine ZS.use (vZh _ _ _ _ ⟨by omega,by omega⟩ (by omega) H (gZ9 hT hs 4 rfl) hg hper (by omega) (by omega) hj) ?_;simp only[HV];refine hs.ld 5 (v:=I ((2^ea:Nat):Int)) rfl rfl ?_;simp only[HV];rw[← Int.natCast_mul,bZc];refine(eZ6 (a:=ap) (cap:=cap) (peak:=peak) (bufs:=bufs) (n:=2^j*2^ea)).use hs [3] rfl rfl ?_;rintro _ _ H ⟨bn,bb,rfl,rfl⟩ hs;simp only[HV];refine Zr rfl ?_;have hbm:∀ z∈bufs,z.1≠bn:=fun z hz e=>by
  obtain⟨mp,cl,tk,hA⟩:=Sep.ar hs 0 rfl;have:=hA.bn;rw[List.map_append,List.nodup_append]at this;exact this.2.2 z.1 (List.mem_map_of_mem hz) bn (by simp) e
 refine hs.nw fun vb H hs=>?_
 refine hs.ldw 6 rfl rfl ?_;simp only[HV];refine hs.nw fun rn H hs=>?_
 refine⟨2^eb/2^j+1,?_⟩;have hz:bZm (2^j*2^ea)=Zb (List.replicate (2^j*2^ea) 0):=by
  unfold bZm;rw[bZC];unfold Zb;rw[List.map_replicate];rfl
 rw[hz]at hs;have hsb:ZH (bufs++[(bn,2^j*2^ea,some (O bb))])=ZH bufs+((2^j*2^ea:Nat):Int):=by
  rw[fZw];simp[ZH]
 have hpk:mx (mx peak (ZH bufs+((2^j*2^ea:Nat):Int))) (ZH (bufs++[(bn,2^j*2^ea,some (O bb))])+D.per d)=mx peak (ZH bufs+((2^j*2^ea:Nat):Int)+D.per d):=by
  rw[hsb];generalize((2^j*2^ea:Nat):Int)=n at*;unfold mx;by_cases h1:ZH bufs+n>peak
  ·rw[if_pos h1,if_pos (by omega),if_pos (by omega)]
  ·rw[if_neg h1]
 have out:∀{v:Value} {d':D} {H:Hp},(∀{M},M=[pts p (ZJ dp ap x),pts q (ZJ dp ap y),Dk dp d',Ar ap cap (mx peak (ZH bufs+((2^j*2^ea:Nat):Int)+D.per d)) bufs]->rZh p q dp ap d x y (2^ea) (2^eb) (2^j) cap peak bufs v M)->
   Sep [pts p (ZJ dp ap x),pts q (ZJ dp ap y),Dk dp d',Ar ap cap (mx (mx peak (ZH bufs+((2^j*2^ea:Nat):Int))) (ZH (bufs++[(bn,2^j*2^ea,some (O bb))])+D.per d)) bufs,TT] H->∃ M,(∃ M0,rZh p q dp ap d x y (2^ea) (2^eb) (2^j) cap peak bufs v M0/\M=M0++[TT])/\Sep M H:=fun h hs=>by
  rw[hpk]at hs;exact⟨_,⟨_,h rfl,rfl⟩,hs⟩
 have hkk:=lZc (p:=p) (q:=q) (dp:=dp) (ap:=ap) (rn:=rn) (bn:=bn) (bb:=bb) (sb:=sb) (vb:=vb) (x:=x) (y:=y) (cap:=cap) (peak:=mx peak (ZH bufs+((2^j*2^ea:Nat):Int))) (bufs:=bufs) (mb:=2^j*2^ea) (TT:=TT) (fun v H'=>∃ M,(∃ M0,rZh p q dp ap d x y (2^ea) (2^eb) (2^j) cap peak bufs v M0/\M=M0++[TT])/\Sep M H') hok hx hy ho hxw hyw hdis hb1 (div_pow hjb) hsz hr1 hc1 (by rw[hsb];omega) hbm rfl
  (fun d' H hI hs=>out (fun e=>.inl ⟨d',hI,rfl,e⟩) hs) (fun d' H hd hfu hs=>out (fun e=>.inr ⟨d',hd,hfu,rfl,e⟩) hs) (2^eb/2^j) 0 d _ (List.replicate (2^j*2^ea) 0) H (by omega)
  ⟨by simpa [rT,wT]using Prog.refl (inX y) hok hl,fun _ _=>rfl,fun k hk=>by simp at hk⟩ (by simp) rfl (.inl rfl)
 have e0:((0*2^j:Nat):Int)=0:=by rw[Nat.zero_mul];rfl
 rw[e0]at hkk;refine hkk ?_;have hs:=hs.re [6,8,1,2,3,4,0,7,5] rfl;unfold eZE;simp only[Nat.zero_mul,Nat.mul_zero,List.take_zero];exact hs
end
end Trn
namespace Pas
open Go Go.Hw Go.Crc Go.Form W Shp Gol Fft Ker Str Dsk Are Trn
structure dZ0 (ea q j:Nat):Prop where
 le:j<=ea
 fit:2^j+1<=q
 most:j=ea∨q<2*2^j+1
theorem dZ0.unique {ea q j j':Nat}(h:dZ0 ea q j)(h':dZ0 ea q j'):j=j':=by
 have key:∀{a b:Nat},dZ0 ea q a->dZ0 ea q b->¬a<b:=fun{a b} ha hb hlt=>by
  have hp:2^(a+1)<=2^b:=aZP hlt;rw[Nat.pow_succ]at hp;have h1:=hb.le;have h2:=hb.fit;rcases ha.most with e|e
  ·omega
  ·omega
 have h1:=key h h';have h2:=key h' h;omega
theorem dZ0.ex {ea q:Nat}(h:2<=q):∃ j,dZ0 ea q j:=by
 have key:∀ t j,j+t=ea->2^j+1<=q->∃ j,dZ0 ea q j:=fun t=>by
  induction t with
  |zero=>intro j hj hf;exact⟨j,by omega,hf,.inl (by omega)⟩
  |succ t ih=>
   intro j hj hf;by_cases hc:2^(j+1)+1<=q
   ·exact ih (j+1) (by omega) hc
   ·rw[Nat.pow_succ]at hc;exact⟨j,by omega,hf,.inr (by omega)⟩
 exact key ea 0 (by omega) (by rw[Nat.pow_zero];omega)
theorem oZ6 {a b:Nat}(h:2^a=2^b):a=b:=by
 rcases Nat.lt_trichotomy a b with h1|h1|h1
 ·have:=Nat.pow_lt_pow_right (show 1<2 by omega) h1;omega
 ·exact h1
 ·have:=Nat.pow_lt_pow_right (show 1<2 by omega) h1;omega
abbrev tZS (r c per free:Int):Prop:=dZQ r c=true/\c<=1048576/\cZR per=true/\per<=free/\2*c<=free-per
def qZR (r c per free:Int)(v:Value):Prop:=
 (¬tZS r c per free/\v= .tuple #[I 0,.bool false])∨
 (tZS r c per free/\∃ ea eb j:Nat,r=((2^ea:Nat):Int)/\c=((2^eb:Nat):Int)/\ea+eb<=32/\dZ0 ea ((free-per).toNat/2^eb) j/\v= .tuple #[I ((2^j:Nat):Int),.bool true])
theorem tZU {r c per free:Int}{ea eb f:Nat}(hr:r=((2^ea:Nat):Int))(hc:c=((2^eb:Nat):Int))(hab:ea+eb<=32)(hf:free-per=(f:Int))(hf2:f<=9223372036854775807)(hfr:free-per<=9223372036854775807)(K:VK)(b1:Nat){L:List As}(i:Nat)
  (hi:L[i]? =some (pts b1 (Is #[I r,I c] 217))) {H:Hp} (hs:Sep L H) (hK:∀ j,dZ0 ea (f/2^eb) j->K (.tuple #[I ((2^j:Nat):Int),.bool true]) H):
  ∀(t j:Nat),j+t=ea->2^j+1<=f/2^eb->aZS.l4 K (t+1) per free (O b1) ((2^j:Nat):Int) H:=by
 have hc1:=pow_pos eb;intro t
 induction t with
 |zero=>
  intro j hj hfit;have hp2:=aZP (show j<=32 by omega);have hp1:=pow_pos j;unfold aZS.l4;rw[show(O b1).add 0=(O b1)from rfl];refine hs.ld i hi rfl ?_;simp only[HV];rw[ZM (x:=2*((2^j:Nat):Int))];refine Zg ?_ (hK j ⟨by omega,hfit,.inl (by omega)⟩);rw[hr,show ea=j by omega];omega
 |succ t ih=>
  intro j hj hfit;have hp2:=aZP (show j+1<=32 by omega);have hp3:=aZP (show j+1<=ea by omega);have hp1:=pow_pos j;rw[Nat.pow_succ]at hp2 hp3;unfold aZS.l4;rw[show(O b1).add 0=(O b1)from rfl];refine hs.ld i hi rfl ?_;simp only[HV];rw[ZM (x:=2*((2^j:Nat):Int))];refine Zm (by rw[hr];omega) ?_;refine hs.ldf i hi rfl ?_;simp only[HV];refine⟨by rw[hc];omega,trivial,?_⟩;rw[ZM (x:=free-per) (by omega) hfr];rw[show Int.tdiv (free-per) c=((f/2^eb:Nat):Int) by rw[hf,hc];rfl];have hdl:f/2^eb<=f:=Nat.div_le_self _ _;rw[bZc,ZM (x:=2*((2^j:Nat):Int)+1)];by_cases hc2:2*2^j+1<=f/2^eb
  ·refine Zm (by omega) ?_;rw[ZM,show((2^j:Nat):Int)*2=((2^(j+1):Nat):Int) by rw[Nat.pow_succ];omega];exact ih (j+1) (by omega) (by rw[Nat.pow_succ];omega)
  ·exact Zg (by omega) (hK j ⟨by omega,hfit,.inr (by omega)⟩)
theorem tZz (r c per free:Int)(hper: -9223372036854775808<=per/\per<=9223372036854775807)(hf:free<=9223372036854775807)(H:Hp)(hT:T64 H):
  Za prog 304 #[.agg #[I r,I c],I per,I free] H fun v H'=>qZR r c per free v/\H'=H:=by
 refine Za.forget ?_;apply aZS.ok;unfold aZS;refine(Sep.start H).nw fun b1 H1 hs=>?_
 have out:∀{v:Value},qZR r c per free v->∃ H'',H''.le H1/\qZR r c per free v/\H''=H:=fun h=>⟨H,hs.ow 0 rfl,h,rfl⟩
 first|refine hs.ldw 1 rfl rfl ?_
 try simp only[HV]
 refine Za.use (bZ2 r c H1 (hT.le (hs.ow 0 rfl))) ?_;simp only[HV];cases hg:dZQ r c with
 |false=>exact aZE rfl (out (.inl ⟨fun h=>(by have h1:=h.1;rw[hg]at h1;cases h1),rfl⟩))
 |true=>
  refine aZe rfl ?_;obtain⟨ea,eb,hr,hc,hab,_,_⟩:=hZz hg;have he1:=pow_pos ea;have he2:=pow_pos eb;have he3:=aZP (show ea<=32 by omega);have he4:=aZP (show eb<=32 by omega)
  first|refine hs.ldf 1 rfl rfl ?_|refine hs.ldg 1 rfl rfl ?_
  try simp only[HV]
  by_cases h0:c>1048576
  ·exact Zm h0 (out (.inl ⟨fun h=>(by have:=h.2.1;omega),rfl⟩))
  refine Zg h0 ?_;by_cases h1:per<4
  ·exact Zm h1 (out (.inl ⟨fun h=>(by have:=fZh h.2.2.1;omega),rfl⟩))
  refine Zg h1 ?_;by_cases h2:per>512
  ·exact Zm h2 (out (.inl ⟨fun h=>(by have:=fZh h.2.2.1;omega),rfl⟩))
  refine Zg h2 ?_;have hpb:=mZC (p:=per);cases hp:cZR per with
  |false=>exact Zz (fun h=>by rw[hpb.1 h]at hp;cases hp) (out (.inl ⟨fun h=>(by have h1:=h.2.2.1;rw[hp]at h1;cases h1),rfl⟩))
  |true=>
   refine Zr (hpb.2 hp) ?_;by_cases h3:free<per
   ·exact Zm h3 (out (.inl ⟨fun h=>(by omega),rfl⟩))
   refine Zg h3 ?_
   first|refine hs.ldf 1 rfl rfl ?_|refine hs.ldg 1 rfl rfl ?_
   try simp only[HV]
   rw[ZM (x:=free-per),ZM (x:=2*c)];by_cases h4:free-per<2*c
   ·exact Zm h4 (out (.inl ⟨fun h=>(by omega),rfl⟩))
   refine Zg h4 ?_;obtain⟨f,hfe⟩:=Int.eq_ofNat_of_zero_le (show 0<=free-per by omega);refine⟨ea+1,?_⟩;have h2q:2<=f/2^eb:=by rw[Nat.le_div_iff_mul_le (by omega)];omega
   exact tZU hr hc hab hfe (by omega) (by omega) (fun v H'=>∃ H'',H''.le H'/\qZR r c per free v/\H''=H) b1 1 rfl hs (fun j hj=>out (.inr ⟨⟨hg,by omega,hp,by omega,by omega⟩,ea,eb,j,hr,hc,hab,by rw[hfe,Int.toNat_natCast];exact hj,rfl⟩)) ea 0 (by omega) (by rw[Nat.pow_zero];omega)
theorem tZy {ea eb:Nat}(per free:Int)(hper: -9223372036854775808<=per/\per<=9223372036854775807)(hf:free<=9223372036854775807)(H:Hp)(hT:T64 H)(hab:ea+eb<=32)(h:tZS ((2^ea:Nat):Int) ((2^eb:Nat):Int) per free){j:Nat}(hj:dZ0 ea ((free-per).toNat/2^eb) j):
  Za prog 304 #[.agg #[I ((2^ea:Nat):Int),I ((2^eb:Nat):Int)],I per,I free] H (RetE (.tuple #[I ((2^j:Nat):Int),.bool true]) H):=
 (tZz _ _ per free hper hf H hT).mono fun v H' ⟨hq,e⟩=>by
  rcases hq with⟨h',_⟩|⟨_,ea',eb',j',h1,h2,_,hj',rfl⟩
  ·exact absurd h h'
  ·have e1:ea=ea':=oZ6 (show 2^ea=2^ea' by omega);have e2:eb=eb':=oZ6 (show 2^eb=2^eb' by omega);subst e1 e2;rw[hj.unique hj'];exact⟨rfl,e⟩
def fZs (r c dir tw xw yw:Int):Int:=
 if dZQ r c=true/\xw=r*c/\yw=r*c then(if dir<0∨dir>1 then 18 else if tw< -1∨tw>32 then 2 else 0)else 19
section
variable {L : List As} {H : Hp} {p q dp ap ap' : Nat} {x y : X}
theorem kZa (hs:Sep L H)(i:Nat)(hi:L[i]? =some (pts p (ZJ dp ap x)))(k:Nat)(hk:L[k]? =some (pts q (ZJ dp ap y)))(hT:T64 H)(r c dir tw sh:Int):
  Za prog 303 #[V p,V q,.agg #[I r,I c,I dir,I tw,U sh],V ap'] H (RetE (I (fZs r c dir tw x.w y.w)) H):=Za.ret (by
 have hp1:=hs.get i hi;have hq1:=hs.get k hk;apply fZ8.ok;unfold fZ8;refine(Sep.start H).nw fun b1 H1 hs=>?_
 have hs:Sep [own H,pts b1 (Is #[I r,I c,I dir,I tw,U sh] 219)] H1:=hs;have hle:=hs.ow 0 rfl;have out:∀{v:Value},v= I (fZs r c dir tw x.w y.w)->Ret (I (fZs r c dir tw x.w y.w)) H v H1:=fun h=>⟨h,hle⟩
 have hw:∀{b:Nat} {z:X},H b=some (ZJ dp ap z)->Za prog 186 #[V b] H1 (RetE (I (z.w:Int)) H1):=fun{b z} hb=>by
  have hsP:Sep [pts b (ZJ dp ap z)] H1:=⟨H1,fun _=>none,Hp.le_refl _,fun _ _ h=>(nomatch h),fun _=>.inr rfl,hle _ _ hb,trivial⟩;exact gZN hsP 0 rfl
 refine aZe rfl (aZe rfl (aZe rfl ?_));simp only[Addr.add_zero];refine hs.lda 1 rfl (show 0+2<=5 by omega) ?_;refine ZS.use (bZ2 r c H1 (hT.le hle)) ?_;simp only[HV];cases hg:dZQ r c with
 |false=>
  refine aZE rfl (out ?_);unfold fZs;rw[if_neg (fun h=>by rw[hg]at h;cases h.1)]
 |true=>
  refine aZe rfl ?_;refine ZS.use (hw hp1) ?_;simp only[HV];refine hs.lda 1 rfl (show 0+2<=5 by omega) ?_;refine ZS.use (jZ7 r c H1 (hT.le hle)) ?_;rw[show iZr r c=r*c by unfold iZr;rw[if_pos hg]];simp only[HV];by_cases h1:(x.w:Int)=r*c
  case neg=>
   refine Zz h1 (out ?_);unfold fZs;rw[if_neg (fun h=>h1 h.2.1)]
  refine Zr h1 ?_;refine ZS.use (hw hq1) ?_;simp only[HV];refine hs.lda 1 rfl (show 0+2<=5 by omega) ?_;refine ZS.use (jZ7 r c H1 (hT.le hle)) ?_;rw[show iZr r c=r*c by unfold iZr;rw[if_pos hg]];simp only[HV];by_cases h2:(y.w:Int)=r*c
  case neg=>
   refine Zz h2 (out ?_);unfold fZs;rw[if_neg (fun h=>h2 h.2.2)]
  refine Zr h2 ?_;have hc:fZs r c dir tw x.w y.w=if dir<0∨dir>1 then 18 else if tw< -1∨tw>32 then 2 else 0:=by
   unfold fZs;rw[if_pos ⟨hg,h1,h2⟩]
  refine hs.ldf 1 rfl rfl ?_;simp only[HV];by_cases h3:dir<0
  ·exact Zm h3 (out (by rw[hc,if_pos (.inl h3)]))
  refine Zg h3 ?_;refine hs.ldf 1 rfl rfl ?_;simp only[HV];by_cases h4:dir>1
  ·exact Zm h4 (out (by rw[hc,if_pos (.inr h4)]))
  refine Zg h4 ?_;refine hs.ldf 1 rfl rfl ?_;simp only[HV];by_cases h5:tw< -1
  ·exact Zm h5 (out (by rw[hc,if_neg (by omega),if_pos (.inl h5)]))
  refine Zg h5 ?_;refine hs.ldf 1 rfl rfl ?_;simp only[HV];by_cases h6:tw>32
  ·exact Zm h6 (out (by rw[hc,if_neg (by omega),if_pos (.inr h6)]))
  refine Zg h6 (out (by rw[hc,if_neg (by omega),if_neg (by omega)])))
end
theorem wZU (k:Nat)(hk:k<64)(H:Hp)(hT:T64 H):Za prog 306 #[U ((2^k:Nat):Int)] H (RetE (I (k:Int)) H):=by
 apply cZj.ok;unfold cZj;refine Za.use (uZX k hk H hT) ?_;simp only[HV];exact RetE.mk _ _
def cZO (j:J)(d:D)(x:X)(m:Nat):List UInt64:=(List.range m).flatMap fun q=>eZl j q (pws d x (q*2^j.eb) (2^j.eb))
theorem jZM (j:J)(d:D)(x:X):∀ m,(cZO j d x m).length=m*2^j.eb
 |0=>by simp[cZO]
 |m+1=>by
  unfold cZO;rw[List.range_succ,List.flatMap_append,List.length_append];have:=jZM j d x m;unfold cZO at this;rw[this,Nat.succ_mul];simp[hZ4]
theorem oZ9 {d:D}{x:X}{fr n a c:Nat}(h:a+c<=n):((pws d x fr n).drop a).take c=pws d x (fr+a) c:=by
 apply List.ext_getElem?;intro i;rw[List.getElem?_take];by_cases hi:i<c
 ·rw[if_pos hi,List.getElem?_drop,kZh (by omega),kZh hi,Nat.add_assoc]
 ·rw[if_neg hi,List.getElem?_eq_none (by rw[eZk];omega)]
theorem xZn {d d':D}{x:X}{fr n:Nat}(h:∀ k,fr<=k->k<fr+n->pw d' x k=pw d x k):pws d' x fr n=pws d x fr n:=by
 unfold pws;apply List.map_congr_left;intro k hk;have:=List.mem_range.1 hk;exact h _ (by omega) (by omega)
theorem sZ0 {j:J}{d d':D}{x:X}(a b:Nat)(h:∀ k,k<x.w->pw d' x k=pw d x k)(hw:(a+b)*2^j.eb<=x.w):
  cZO j d x (a+b)=cZO j d x a++fZp j a (pws d' x (a*2^j.eb) (b*2^j.eb)) b:=by
 unfold cZO fZp;rw[List.range_add,List.flatMap_append,List.flatMap_map];congr 1;have:∀(l:List Nat),(∀ q,q∈l->q<b)->l.flatMap (fun q=>eZl j (a+q) (pws d x ((a+q)*2^j.eb) (2^j.eb)))=l.flatMap fun q=>eZl j (a+q) (((pws d' x (a*2^j.eb) (b*2^j.eb)).drop (q*2^j.eb)).take (2^j.eb)):=fun l=>by
  induction l with
  |nil=>intro _;rfl
  |cons q l ih=>
   intro hq;have hqb:=hq q (by simp);have h1:(q+1)*2^j.eb<=b*2^j.eb:=Nat.mul_le_mul_right _ (by omega);have h2:(a+q+1)*2^j.eb<=(a+b)*2^j.eb:=Nat.mul_le_mul_right _ (by omega);rw[Nat.succ_mul]at h1 h2;rw[List.flatMap_cons,List.flatMap_cons,ih fun q' h'=>hq q' (by simp[h']),oZ9 h1,←Nat.add_mul,xZn (d:=d) (d':=d') (fr:=(a+q)*2^j.eb) (n:=2^j.eb) fun k h3 h4=>h k (by omega)]
 exact this _ fun q hq=>List.mem_range.1 hq
def rP (per f f' n m:Nat):Nat:=((List.range m).map fun i=>(pcs per f n (i*n) n).length+dZA per f' n (i*n) n).sum
def wP (per f' n m:Nat):Nat:=((List.range m).map fun i=>(pcs per f' n (i*n) n).length).sum
theorem mZH (per f f' n m:Nat):rP per f f' n (m+1)=rP per f f' n m+((pcs per f n (m*n) n).length+dZA per f' n (m*n) n):=by
 unfold rP;rw[List.range_succ,List.map_append,List.sum_append];simp
theorem mZS (per f' n m:Nat):wP per f' n (m+1)=wP per f' n m+(pcs per f' n (m*n) n).length:=by
 unfold wP;rw[List.range_succ,List.map_append,List.sum_append];simp
theorem vZ6 (per f f' n:Nat){i j:Nat}(h:i<=j):rP per f f' n i<=rP per f f' n j:=by
 induction h with
 |refl=>exact Nat.le_refl _
 |step h ih=>rw[mZH];omega
theorem wZw (per f' n:Nat){i j:Nat}(h:i<=j):wP per f' n i<=wP per f' n j:=by
 induction h with
 |refl=>exact Nat.le_refl _
 |step h ih=>rw[mZS];omega
theorem rZc (per f f' n:Nat):∀ m,rP per f f' n m<=m*(2*n)
 |0=>by simp[rP]
 |m+1=>by
  rw[mZH,Nat.succ_mul];have h1:=rZc per f f' n m;have h2:=dZp per f n (m*n) n;have h3:=dZp per f' n (m*n) n;have h4:dZA per f' n (m*n) n<=(pcs per f' n (m*n) n).length:=List.length_filter_le _ _;omega
theorem rZx (per f' n:Nat):∀ m,wP per f' n m<=m*n
 |0=>by simp[wP]
 |m+1=>by
  rw[mZS,Nat.succ_mul];have h1:=rZx per f' n m;have h3:=dZp per f' n (m*n) n;omega
structure qZM (d d':D)(x y:X)(j:J)(b m:Nat):Prop where
 pg:Prog (inX y) d d' (rP (D.per d) x.f y.f (b*2^j.eb) m) (wP (D.per d) y.f (b*2^j.eb) m)
 src:∀ k,k<x.w->pw d' x k=pw d x k
 dst:∀ k,k<m*b*2^j.eb->pw d' y k=((cZO j d x (m*b))[k]?).getD 0
def oZb (p q dp ap:Nat)(d:D)(x y:X)(j:J)(b:Nat)(cap peak:Int)(bufs:List (Nat×Nat×OA))(v:Value)(M:List As):Prop:=
 (∃ d',qZM d d' x y j b (2^j.ea/b)/\v= .tuple #[Ii ((sum (form (cZO j d x (2^j.ea)))).toNat:Int),I 0]/\
  M=[pts p (ZJ dp ap x),pts q (ZJ dp ap y),Dk dp d',Ar ap cap (mx peak (ZH bufs+(b*2^j.eb:Nat)+(2^j.eb:Nat)+D.per d)) bufs])∨
 (∃ d',cZB (inX y) d d'/\d.fuse<=rP (D.per d) x.f y.f (b*2^j.eb) (2^j.ea/b)+wP (D.per d) y.f (b*2^j.eb) (2^j.ea/b)/\v= .tuple #[Ii 0,I 8]/\
  M=[pts p (ZJ dp ap x),pts q (ZJ dp ap y),Dk dp d',Ar ap cap (mx peak (ZH bufs+(b*2^j.eb:Nat)+(2^j.eb:Nat)+D.per d)) bufs])
section
variable {p q dp ap rn bn bb bn2 bb2 sb v2 v3 kp : Nat} {x y : X} {cap peak : Int} {bufs : List (Nat × Nat × Option Addr)} {TT : As} {j : J} {mb : Nat}
def cZb (bufs:List (Nat×Nat×OA))(bn n bb:Nat):List (Nat×Nat×OA):=bufs++[(bn,n,some (O bb))]
def oZa (rn p q dp ap bn bb bn2 bb2 sb v2 v3 kp:Nat)(d0 d':D)(x y:X)(j:J)(b m:Nat)(cap pk:Int)(bufs:List (Nat×Nat×OA))(ws:List UInt64)(mb:Nat)(TT:As):List As:=
 [pts sb (Is j.a 219),pts rn (cZh (sum (form (cZO j d0 x (m*b)))) (8*(m*b*2^j.eb)) j kp),pts bb (.row (Zb ws) 108 mb),
  pts p (ZJ dp ap x),pts q (ZJ dp ap y),Dk dp d',Ar ap cap pk (cZb (cZb bufs bn (b*2^j.eb) bb) bn2 (2^j.eb) bb2),pts v2 (.row [V bn] 331 1),pts v3 (.row [V bn2] 331 1),Kn kp j.eb,TT]
set_option maxHeartbeats 1000000 in
theorem lZc (K:VK){d:D}{b:Nat}(hT:∀ H,TT H->T64 H)(hok:Ok d)(hx:On d x)(hy:On d y)(ho:d.rd<=2000000000000000000/\d.wr<=2000000000000000000)(hab:j.ea+j.eb<=32)(hb20:j.eb<=20)(htw:j.tw<=32)(hxw:x.w=2^j.ea*2^j.eb)(hyw:y.w=2^j.ea*2^j.eb)(hdis:x.f+x.s<=y.f∨y.f+y.s<=x.f)(hb1:1<=b)(hbd:2^j.ea=2^j.ea/b*b)
  (hcap:(D.per d:Int)<=cap-ZH (cZb (cZb bufs bn (b*2^j.eb) bb) bn2 (2^j.eb) bb2)) (hbm:∀ z∈bufs,z.1≠bn) (hbm2:∀ z∈cZb bufs bn (b*2^j.eb) bb,z.1≠bn2)
  {P1:Int} (hP1:P1=mx peak (ZH (cZb (cZb bufs bn (b*2^j.eb) bb) bn2 (2^j.eb) bb2)+D.per d))
  (hK:∀ d' H,qZM d d' x y j b (2^j.ea/b)->Sep [pts p (ZJ dp ap x),pts q (ZJ dp ap y),Dk dp d',Ar ap cap P1 bufs,TT] H->K (.tuple #[Ii ((sum (form (cZO j d x (2^j.ea)))).toNat:Int),I 0]) H)
  (hK8:∀ d' H,cZB (inX y) d d'->d.fuse<=rP (D.per d) x.f y.f (b*2^j.eb) (2^j.ea/b)+wP (D.per d) y.f (b*2^j.eb) (2^j.ea/b)->Sep [pts p (ZJ dp ap x),pts q (ZJ dp ap y),Dk dp d',Ar ap cap P1 bufs,TT] H->K (.tuple #[Ii 0,I 8]) H):
  ∀(t m:Nat) (z:Int) (d':D) (pk:Int) (ws:List UInt64) (H:Hp),z=((m*b:Nat):Int)->m+t=2^j.ea/b->qZM d d' x y j b m->ws.length=b*2^j.eb->mx pk (ZH (cZb (cZb bufs bn (b*2^j.eb) bb) bn2 (2^j.eb) bb2)+D.per d)=P1->(m=0∨pk=P1)->Sep (oZa rn p q dp ap bn bb bn2 bb2 sb v2 v3 kp d d' x y j b m cap pk bufs ws mb TT) H->
   aZu.l17 K (t+1) (Io p) (Io q) (O sb) (b:Int) (Io bn) (O rn) z (Io ap) (Io v3) 1 1 (Io ap) (Io v2) 1 1 H:=fun t=>by
 have hp:=Ok.per_le hok;have hsz:=size_le hab;have hr1:=pow_pos j.ea;have hc1:=pow_pos j.eb;have hnb:2^j.ea/b<=2^j.ea:=Nat.div_le_self _ _;have hn1:1<=2^j.ea/b:=by
  have:2^j.ea/b≠0:=fun h0=>by rw[h0,Nat.zero_mul]at hbd;omega
  exact Nat.pos_of_ne_zero this
 have hcc:2^j.ea/b*(b*2^j.eb)=2^j.ea*2^j.eb:=by rw[← Nat.mul_assoc,←hbd]
 have hbr:b*2^j.eb<=2^j.ea*2^j.eb:=by rw[← hcc];exact Nat.le_mul_of_pos_left _ hn1
 have hbb:b<=2^j.ea:=by
  have:1*b<=2^j.ea/b*b:=Nat.mul_le_mul_right b hn1;omega
 have hbc1:1*2^j.eb<=b*2^j.eb:=Nat.mul_le_mul_right _ hb1;have hr32:=aZP (show j.ea<=32 by omega);have cnt:∀ m,m<=2^j.ea/b->m*(2*(b*2^j.eb))<=2*(2^j.ea*2^j.eb)/\m*(b*2^j.eb)<=2^j.ea*2^j.eb:=fun m hm=>by
  have:m*(b*2^j.eb)<=2^j.ea*2^j.eb:=by rw[← hcc];exact Nat.mul_le_mul_right _ hm
  refine⟨?_,this⟩;rw[Nat.mul_left_comm];omega
 have gives:∀{d':D} {H:Hp} {K':Hp->Prop},Sep [Ar ap cap P1 (cZb (cZb bufs bn (b*2^j.eb) bb) bn2 (2^j.eb) bb2),pts v3 (.row [V bn2] 331 1),pts v2 (.row [V bn] 331 1),pts p (ZJ dp ap x),pts q (ZJ dp ap y),Dk dp d',TT] H->
   (∀ H,Sep [pts p (ZJ dp ap x),pts q (ZJ dp ap y),Dk dp d',Ar ap cap P1 bufs,TT] H->K' H)->
   aZZ prog 257 #[V ap,.slice (Io v3) 1 1] H fun _ H=>aZZ prog 257 #[V ap,.slice (Io v2) 1 1] H fun _ H=>K' H:=fun hs k=>by
  refine(cZx v3 bn2 (2^j.eb) (Io bb2) hbm2).use hs [0,1] rfl rfl ?_;rintro _ _ H ⟨rfl,rfl⟩ hs;refine(cZx v2 bn (b*2^j.eb) (Io bb) hbm).use hs [0,1] rfl rfl ?_;rintro _ _ H ⟨rfl,rfl⟩ hs;exact k H (hs.re [1,2,3,0,4] rfl)
 induction t with
 |zero=>
  rintro m _ d' pk ws H rfl hm hI hws hpk hip hs;have hme:m=2^j.ea/b:=by omega
  subst hme;unfold oZa at hs;unfold aZu.l17;rw[show((O sb).add 0).add 0=(O sb)from rfl];refine hs.ld 0 rfl rfl ?_;simp only[HV];rw[← hbd];refine Zg (Int.lt_irrefl _) ?_;rw[Addr.add_zero];refine Za.use (CrcP.pZP hs 1 rfl) ?_
  try simp only[HV]
  rw[← hbd];rw[hip.resolve_left (by omega)]at hs;exact gives (hs.re [6,8,7,3,4,5,10] rfl) fun H hs=>hK d' H hI hs
 |succ t ih=>
  rintro m _ d' pk ws H rfl hm hI hws hpk hip hs;have hmlt:m<2^j.ea/b:=by omega
  have hmb:(m+1)*b<=2^j.ea:=by
   have h1:(m+1)*b<=2^j.ea/b*b:=Nat.mul_le_mul_right b hmlt;omega
  have hmb':=hmb;rw[Nat.succ_mul]at hmb';have hper:D.per d'=D.per d:=hI.pg.per;have hxd:=hx.prog hI.pg;have hyd:=hy.prog hI.pg;have hrt:=rZc (D.per d) x.f y.f (b*2^j.eb) m;have hwt:=rZx (D.per d) y.f (b*2^j.eb) m;have hcnt:=cnt m (by omega);have hrd:=hI.pg.rd;have hwr:=hI.pg.wr;have hmr:(m*b+b)*2^j.eb<=2^j.ea*2^j.eb:=Nat.mul_le_mul_right _ hmb';have hmr':=hmr;rw[Nat.add_mul]at hmr;unfold oZa at hs;unfold aZu.l17;rw[show((O sb).add 0).add 0=(O sb)from rfl];refine hs.ld 0 rfl rfl ?_;simp only[HV];refine Zm (by omega) ?_;refine Za.use (eZJ hs 6 rfl (b:=bn) (n:=b*2^j.eb) (A:=some (O bb)) (by simp[cZb])) ?_
  try simp only[HV]
  refine(tZV (rn:=rn) (p:=p) (q:=q) (dp:=dp) (ap:=ap) (kp:=kp) (bb:=bb) (mb:=mb) (s:=sum (form (cZO j d x (m*b)))) (sk:=8*(m*b*2^j.eb)) (j:=j) (x:=x) (y:=y) (cap:=cap) (peak:=pk) (bufs:=cZb (cZb bufs bn (b*2^j.eb) bb) bn2 (2^j.eb) bb2) (d:=d') (r:=m*b) (nb:=b) hT hI.pg.ok hI.pg.down hxd hyd (by omega) hb20 htw hb1 (by omega) (by omega) (by rw[hxw];exact hmr) (by rw[hyw];exact hmr) (by omega) (by omega) (by rw[hper];exact hcap) ws hws).use hs [1,2,3,4,5,6,9,10] rfl rfl ?_;rintro v M H hQ hs;unfold wZZ at hQ;rw[hper]at hQ;simp only at hQ;have hPP:mx P1 (ZH (cZb (cZb bufs bn (b*2^j.eb) bb) bn2 (2^j.eb) bb2)+D.per d)=P1:=by rw[hP1,lZX]
  have hma:m*(b*2^j.eb)=m*b*2^j.eb:=(Nat.mul_assoc _ _ _).symm;have hrs:=mZH (D.per d) x.f y.f (b*2^j.eb) m;have hws':=mZS (D.per d) y.f (b*2^j.eb) m;rw[hma]at hrs hws';rcases hQ with⟨hpg2,rfl,rfl⟩|⟨d2,hdd,hfu,rfl,rfl⟩
  case inr=>
   simp only[HV];refine Zz (by decide) ?_;rw[hpk]at hs;refine gives (hs.re [3,7,6,0,1,2,4] rfl) fun H hs=>hK8 d2 H (hI.pg.dead hdd) ?_ hs
   have z1:=hI.pg.fuse;have z2:=hI.pg.go;have z3:=vZ6 (D.per d) x.f y.f (b*2^j.eb) (show m+1<=2^j.ea/b by omega);have z4:=wZw (D.per d) y.f (b*2^j.eb) (show m+1<=2^j.ea/b by omega);omega
  simp only[HV];refine Zr rfl ?_;generalize ht0:(pcs (D.per d) x.f (b*2^j.eb) (m*b*2^j.eb) (b*2^j.eb)).length=t0 at*;have hok1:Ok (D.rdG d' t0):=Ok.rdG hI.pg.ok t0;have hU:=sZ0 (j:=j) (d:=d) (d':=d') (x:=x) (m*b) b hI.src (by rw[hxw];exact hmr');have hul:(fZp j (m*b) (pws d' x (m*b*2^j.eb) (b*2^j.eb)) b).length=b*2^j.eb:=hZR _ _ _ _;generalize hus:fZp j (m*b) (pws d' x (m*b*2^j.eb) (b*2^j.eb)) b=us at*;have hpw:=fun k=>mZT y hok1 (m*b*2^j.eb) us k
  rw[hul]at hpw;have hpg3:=hI.pg.trans hpg2;rw[← hrs,←hws']at hpg3;have htk:m*b+b=(m+1)*b:=(Nat.succ_mul m b).symm;rw[htk]at hU;have hUl:=jZM j d x (m*b);have hI2:qZM d (eZn (D.rdG d' t0) y (b*2^j.eb) (m*b*2^j.eb) us) x y j b (m+1):=by
   refine⟨hpg3,fun k hk=>hpg3.pw hok hx (fun i hi=>?_) hk,fun k hk=>?_⟩
   ·unfold inX at hi;omega
   ·rw[hpw k];have hk2:k<m*b*2^j.eb+b*2^j.eb:=by
     rw[← htk,Nat.add_mul]at hk;exact hk
    rw[hU];by_cases h1:m*b*2^j.eb<=k
    ·rw[if_pos ⟨h1,hk2⟩,List.getElem?_append_right (by omega),hUl]
    ·rw[if_neg (by omega),List.getElem?_append_left (by omega)];exact hI.dst k (by omega)
  have hcs:more (sum (form (cZO j d x (m*b)))) (form us)=sum (form (cZO j d x ((m+1)*b))):=by
   rw[hU,iZw];unfold sum;rw[more_append]
  have hsk:8*(m*b*2^j.eb)+8*(b*2^j.eb)=8*((m+1)*b*2^j.eb):=by rw[← htk,Nat.add_mul];omega
  rw[hcs,hsk,hpk]at hs;refine ih (m+1) _ _ P1 us H ?_ (by omega) hI2 hul hPP (.inr rfl) ?_
  ·rw[← Int.natCast_add,htk,bZc]
  ·exact hs.re [8,0,1,2,3,4,5,9,10,6,7] rfl
end
theorem mx3 (p a b c:Int)(h1:a<=b)(h2:b<=c):mx (mx (mx p a) b) c=mx p c:=by
 have key:∀ p a b:Int,a<=b->mx (mx p a) b=mx p b:=fun p a b h=>by
  unfold mx;by_cases h1:a>p
  ·rw[if_pos h1];by_cases h2:b>a
   ·rw[if_pos h2,if_pos (by omega)]
   ·rw[if_neg h2,if_pos (by omega)];omega
  ·rw[if_neg h1]
 rw[key p a b h1,key p b c h2]
section
variable {p q dp ap : Nat} {x y : X} {cap peak : Int} {bufs : List (Nat × Nat × Option Addr)} {L : List As} {H : Hp} {TT : As} {j : J}
theorem qZT (hab:j.ea+j.eb<=32)(htw: -1<=j.tw/\j.tw<=32)(hxw:x.w=2^j.ea*2^j.eb)(hyw:y.w=2^j.ea*2^j.eb):fZs ((2^j.ea:Nat):Int) ((2^j.eb:Nat):Int) (if j.d=true then 1 else 0) j.tw x.w y.w=0:=by
 unfold fZs;rw[if_pos ⟨iZk hab,by rw[hxw,Int.natCast_mul],by rw[hyw,Int.natCast_mul]⟩,if_neg (by cases j.d<;>decide),if_neg (by omega)]
set_option maxHeartbeats 1000000 in
theorem oZs {d:D}{jb:Nat}(hT:∀ H,TT H->T64 H)(hok:Ok d)(hl:d.down=false)(hx:On d x)(hy:On d y)(ho:d.rd<=2000000000000000000/\d.wr<=2000000000000000000)(hab:j.ea+j.eb<=32)(hb20:j.eb<=20)(htw: -1<=j.tw/\j.tw<=32)(hxw:x.w=2^j.ea*2^j.eb)(hyw:y.w=2^j.ea*2^j.eb)(hdis:x.f+x.s<=y.f∨y.f+y.s<=x.f)
  (hper:cZR (D.per d:Int)=true) (hcap:cap<=1000000000000) (hsum:0<=ZH bufs) (hfr:(D.per d:Int)+2*(2^j.eb:Nat)<=cap-ZH bufs) (hj:dZ0 j.ea ((cap-ZH bufs-D.per d).toNat/2^j.eb) jb):
  Tr prog 240 #[V p,V q,.agg j.a,V ap,I (D.per d:Int)]
   [pts p (ZJ dp ap x),pts q (ZJ dp ap y),Dk dp d,Ar ap cap peak bufs,TT] fun v M=>∃ M0,oZb p q dp ap d x y j (2^jb) cap peak bufs v M0/\M=M0++[TT]:=fun H hs=>by
 have hp:=Ok.per_le hok;have hsz:=size_le hab;have hr1:=pow_pos j.ea;have hc1:=pow_pos j.eb;have hc20:=aZP hb20;have hb1:=pow_pos jb;have hjb:=hj.le;have hfit:=hj.fit;have hbsz:2^jb*2^j.eb<=2^j.ea*2^j.eb:=Nat.mul_le_mul_right _ (aZP hjb);have hbc:1*2^j.eb<=2^jb*2^j.eb:=Nat.mul_le_mul_right _ hb1;have hroom:2^jb*2^j.eb+2^j.eb<=(cap-ZH bufs-D.per d).toNat:=by
  rw[Nat.le_div_iff_mul_le (by omega),Nat.add_mul,Nat.one_mul]at hfit;exact hfit
 have hroom':((2^jb*2^j.eb:Nat):Int)+((2^j.eb:Nat):Int)<=cap-ZH bufs-D.per d:=by omega
 apply aZu.ok;unfold aZu aZu.q1;refine hs.nw fun sb H hs=>?_
 have hs:Sep [pts p (ZJ dp ap x),pts q (ZJ dp ap y),Dk dp d,Ar ap cap peak bufs,TT,pts sb (Is j.a 219)] H:=hs;refine hs.ldw 5 rfl rfl ?_;refine Za.use (kZa (ap':=ap) hs 0 rfl 1 rfl (gZ9 hT hs 4 rfl) _ _ _ _ _) ?_;rw[qZT hab htw hxw hyw];simp only[HV];refine Zr rfl ?_;simp only[Addr.add_zero];refine hs.lda 5 rfl (show 0+2<=5 by omega) ?_;refine ZS.use (sZh hs 3 rfl) ?_;simp only[HV];refine ZS.use (tZy (ea:=j.ea) (eb:=j.eb) (D.per d) (cap-ZH bufs) ⟨by omega,by omega⟩ (by omega) H (gZ9 hT hs 4 rfl) hab ⟨iZk hab,by omega,hper,by omega,by omega⟩ hj) ?_;simp only[HV];refine hs.ldf 5 rfl rfl ?_;simp only[HV];rw[← Int.natCast_mul,bZc];refine(eZ6 (a:=ap) (cap:=cap) (peak:=peak) (bufs:=bufs) (n:=2^jb*2^j.eb)).use hs [3] rfl rfl ?_;rintro _ _ H ⟨bn,bb,rfl,rfl⟩ hs;simp only[HV];refine Zr rfl ?_;have fresh:∀{L:List As} {H:Hp} {bufs:List (Nat×Nat×OA)} {pk:Int} (b n rb:Nat),Sep L H->L[0]? =some (Ar ap cap pk (bufs++[(b,n,some (O rb))]))->∀ z∈bufs,z.1≠b:=fun{L H bufs pk} b n rb hs h0 z hz e=>by
  obtain⟨mp,cl,tk,hA⟩:=Sep.ar hs 0 h0;have:=hA.bn;rw[List.map_append,List.nodup_append]at this;exact this.2.2 z.1 (List.mem_map_of_mem hz) b (by simp) e
 have hbm:∀ z∈bufs,z.1≠bn:=fresh bn _ bb hs rfl;refine hs.nw fun v2 H hs=>?_
 refine hs.ldf 6 rfl rfl ?_;simp only[HV];have hsb1:ZH (bufs++[(bn,2^jb*2^j.eb,some (O bb))])=ZH bufs+((2^jb*2^j.eb:Nat):Int):=by
  rw[fZw];simp[ZH]
 refine(eZ6 (a:=ap) (cap:=cap) (bufs:=bufs++[(bn,2^jb*2^j.eb,some (O bb))]) (n:=2^j.eb)).use hs [0] rfl rfl ?_;rintro _ _ H ⟨bn2,bb2,rfl,rfl⟩ hs;simp only[HV];refine Zr rfl ?_;have hbm2:∀ z∈cZb bufs bn (2^jb*2^j.eb) bb,z.1≠bn2:=fresh bn2 _ bb2 hs rfl;refine hs.nw fun v3 H hs=>?_
 have hsb2:ZH (cZb (cZb bufs bn (2^jb*2^j.eb) bb) bn2 (2^j.eb) bb2)=ZH bufs+((2^jb*2^j.eb:Nat):Int)+((2^j.eb:Nat):Int):=by
  unfold cZb;rw[fZw,hsb1];simp[ZH]
  -- what is known from here on
 have hpk:mx (mx (mx peak (ZH bufs+((2^jb*2^j.eb:Nat):Int))) (ZH bufs+((2^jb*2^j.eb:Nat):Int)+((2^j.eb:Nat):Int))) (ZH (cZb (cZb bufs bn (2^jb*2^j.eb) bb) bn2 (2^j.eb) bb2)+D.per d)=mx peak (ZH bufs+((2^jb*2^j.eb:Nat):Int)+((2^j.eb:Nat):Int)+D.per d):=by
  rw[hsb2];exact mx3 _ _ _ _ (by omega) (by omega)
 rw[hsb1]at hs;have hs:Sep [Ar ap cap (mx (mx peak (ZH bufs+((2^jb*2^j.eb:Nat):Int))) (ZH bufs+((2^jb*2^j.eb:Nat):Int)+((2^j.eb:Nat):Int))) (cZb (cZb bufs bn (2^jb*2^j.eb) bb) bn2 (2^j.eb) bb2),pts bb2 (.row (bZm (2^j.eb)) 108 (2^j.eb)),pts bb (.row (bZm (2^jb*2^j.eb)) 108 (2^jb*2^j.eb)),
  pts p (ZJ dp ap x),pts q (ZJ dp ap y),Dk dp d,TT,pts sb (Is j.a 219),pts v2 (.row [V bn] 331 1),pts v3 (.row [V bn2] 331 1)] H:=hs
 have hz:bZm (2^jb*2^j.eb)=Zb (List.replicate (2^jb*2^j.eb) 0):=by
  unfold bZm;rw[bZC];unfold Zb;rw[List.map_replicate];rfl
 rw[hz]at hs;have fin:∀(kp:Nat) (H:Hp),Sep [Kn kp j.eb,Ar ap cap (mx (mx peak (ZH bufs+((2^jb*2^j.eb:Nat):Int))) (ZH bufs+((2^jb*2^j.eb:Nat):Int)+((2^j.eb:Nat):Int))) (cZb (cZb bufs bn (2^jb*2^j.eb) bb) bn2 (2^j.eb) bb2),pts bb2 (.row (bZm (2^j.eb)) 108 (2^j.eb)),pts bb (.row (Zb (List.replicate (2^jb*2^j.eb) 0)) 108 (2^jb*2^j.eb)),
   pts p (ZJ dp ap x),pts q (ZJ dp ap y),Dk dp d,TT,pts sb (Is j.a 219),pts v2 (.row [V bn] 331 1),pts v3 (.row [V bn2] 331 1)] H->
   Nw H (Is #[Ii 0,I 0,I ((2^j.ea:Nat):Int),I ((2^j.eb:Nat):Int),I (if j.d=true then 1 else 0),I j.tw,U (j.sh.toNat:Int),V kp] 415) fun b4 H9=>
    aZu.j16 (fun v H'=>∃ M,(∃ M0,oZb p q dp ap d x y j (2^jb) cap peak bufs v M0/\M=M0++[TT])/\Sep M H') (Io p) (Io q) (O sb) ((2^jb:Nat):Int) (Io bn) (O b4) (Io ap) (Io v3) 1 1 (Io ap) (Io v2) 1 1 H9:=fun kp H hs=>by
  refine hs.nw fun rn H hs=>?_
  unfold aZu.j16;refine⟨2^j.ea/2^jb+1,?_⟩;have out:∀{v:Value} {d':D} {H:Hp},(∀{M},M=[pts p (ZJ dp ap x),pts q (ZJ dp ap y),Dk dp d',Ar ap cap (mx peak (ZH bufs+((2^jb*2^j.eb:Nat):Int)+((2^j.eb:Nat):Int)+D.per d)) bufs]->oZb p q dp ap d x y j (2^jb) cap peak bufs v M)->
    Sep [pts p (ZJ dp ap x),pts q (ZJ dp ap y),Dk dp d',Ar ap cap (mx peak (ZH bufs+((2^jb*2^j.eb:Nat):Int)+((2^j.eb:Nat):Int)+D.per d)) bufs,TT] H->∃ M,(∃ M0,oZb p q dp ap d x y j (2^jb) cap peak bufs v M0/\M=M0++[TT])/\Sep M H:=fun h hs=>⟨_,⟨_,h rfl,rfl⟩,hs⟩
  refine lZc (p:=p) (q:=q) (dp:=dp) (ap:=ap) (rn:=rn) (bn:=bn) (bb:=bb) (bn2:=bn2) (bb2:=bb2) (sb:=sb) (v2:=v2) (v3:=v3) (kp:=kp) (x:=x) (y:=y) (cap:=cap) (bufs:=bufs) (TT:=TT) (j:=j) (mb:=2^jb*2^j.eb) (peak:=mx (mx peak (ZH bufs+((2^jb*2^j.eb:Nat):Int))) (ZH bufs+((2^jb*2^j.eb:Nat):Int)+((2^j.eb:Nat):Int))) _ hT hok hx hy ho hab hb20 htw.2 hxw hyw hdis hb1 (div_pow hjb) (by rw[hsb2];omega) hbm hbm2 hpk.symm
   (fun d' H hI hs=>out (fun e=>.inl ⟨d',hI,rfl,e⟩) hs) (fun d' H hd hfu hs=>out (fun e=>.inr ⟨d',hd,hfu,rfl,e⟩) hs) (2^j.ea/2^jb) 0 0 d _ (List.replicate (2^jb*2^j.eb) 0) H (by rw[Nat.zero_mul];rfl) (by omega)
   ⟨by simpa [rP,wP]using Prog.refl (inX y) hok hl,fun _ _=>rfl,fun k hk=>by simp at hk⟩ (by simp) hpk (.inl rfl) ?_
  have hs:=hs.re [8,11,3,4,5,6,1,9,10,0,7] rfl;unfold oZa;simp only[Nat.zero_mul,Nat.mul_zero];have e0:sum (form (cZO j d x 0))=0#32:=by
   show sum (form [])=0#32
   decide
  rw[e0];exact hs
 have tz:∀ H,T64 H->Za prog 306 #[U (u64.wrap ((2^j.eb:Nat):Int))] H (RetE (I (j.eb:Int)) H):=fun H hT=>by
  rw[bZ5];exact wZU j.eb (by omega) H hT
 refine⟨?_,?_⟩
 ·refine hs.ldw 7 rfl rfl ?_;refine hs.ldf 7 rfl rfl ?_;simp only[HV];refine Za.use (tz H (gZ9 hT hs 6 rfl)) ?_;simp only[HV];refine(dZC j.eb hb20).use hs [] rfl rfl ?_;rintro _ _ H ⟨kp,rfl,rfl⟩ hs;simp only[HV];exact fin kp H hs
 refine hs.ldf 7 rfl rfl ?_;simp only[HV];refine⟨?_,?_,?_⟩
 ·refine hs.ldw 7 rfl rfl ?_;refine Za.use (tz H (gZ9 hT hs 6 rfl)) ?_;simp only[HV];refine(dZC j.eb hb20).use hs [] rfl rfl ?_;rintro _ _ H ⟨kp,rfl,rfl⟩ hs;simp only[HV];exact fin kp H hs
 ·refine hs.ldw 7 rfl rfl ?_;refine Za.use (tz H (gZ9 hT hs 6 rfl)) ?_;simp only[HV];refine(dZC j.eb hb20).use hs [] rfl rfl ?_;rintro _ _ H ⟨kp,rfl,rfl⟩ hs;simp only[HV];exact fin kp H hs
 refine Za.use (tz H (gZ9 hT hs 6 rfl)) ?_;simp only[HV];refine⟨?_,?_⟩
 ·refine hs.ldw 7 rfl rfl ?_;refine(dZC j.eb hb20).use hs [] rfl rfl ?_;rintro _ _ H ⟨kp,rfl,rfl⟩ hs;simp only[HV];exact fin kp H hs
 ·refine(dZC j.eb hb20).use hs [] rfl rfl ?_;rintro _ _ H ⟨kp,rfl,rfl⟩ hs;simp only[HV];refine hs.ldw 8 rfl rfl ?_;exact fin kp H hs
end
end Pas
namespace Str
open Go Go.Hw Go.Form W Dsk Are
end Str
namespace Trn
open Go Go.Hw Go.Crc Go.Form W Shp Str Dsk Are
structure lZq (d:D)(k n:Nat):Prop where
 ok:Ok d
 down:d.down=false
 fuse:d.fuse=0
 cnt:d.rd<=100000000/\d.wr<=100000000
 sec:d.sec=2*k+1
 size:d.size=32
theorem lZq.per {d:D}{k n:Nat}(h:lZq d k n):D.per d=4:=by unfold D.per;rw[h.size]
theorem lZq.prog {S:Int->Prop}{d d':D}{k n r w:Nat}(h:lZq d k n)(hp:Prog S d d' r w)(hc:d'.rd<=100000000/\d'.wr<=100000000):lZq d' k n:=
 ⟨hp.ok,hp.down,by rw[hp.fuse,h.fuse];omega,hc,by rw[hp.sec,h.sec],by rw[hp.size,h.size]⟩
section
variable {A : Option Addr} {n m : Nat} {R : As}
end
theorem qZg {d:D}{x:X}{n:Nat}{f:Nat->UInt64}(h:∀ j,j<n->pw d x j=f j):pws d x 0 n=(List.range n).map f:=by
 unfold pws;apply List.map_congr_left;intro j hj;rw[Nat.zero_add];exact h j (List.mem_range.1 hj)
theorem sZW (l:List UInt64):(List.range l.length).map (fun j=>(l[j]?).getD 0)=l:=by
 apply List.ext_getElem?;intro j;rw[List.getElem?_map];by_cases hj:j<l.length
 ·rw[List.getElem?_range hj,Option.map_some,List.getElem?_eq_getElem hj];rfl
 ·rw[List.getElem?_eq_none (by simp;omega),List.getElem?_eq_none (by omega)];rfl
section
variable {p q dp ap : Nat} {x y : X} {cap peak : Int} {TT : As}
end
section
variable {p q dp ap : Nat} {x y : X} {cap peak : Int} {bufs : List (Nat × Nat × Option Addr)} {L : List As} {H : Hp}
end
def trL (l:List UInt64)(rows cols:Nat):List UInt64:=(List.range (rows*cols)).map fun k=>(l[k%rows*cols+k/rows]?).getD 0
theorem mZO (l:List UInt64)(rows cols:Nat):(trL l rows cols).length=rows*cols:=by simp[trL]
def m1 (q:Nat):Nat:=if 1<q then q else 1
end Trn
namespace Pas
open Go Go.Hw Go.Crc Go.Form W Shp Gol Fft Ker Str Dsk Are Trn
section
variable {p q dp ap : Nat} {x y : X} {cap peak : Int} {TT : As} {j : J}
end
end Pas
namespace W
open Go Go.Hw
theorem bZF :prog.follows .mixedOrders=true:=by kernel_rfl
def cZo (A1:OA)(n1 m1:Nat)(x1 x2:Int)(H:Hp)(K:VK):Prop:=
 HcS 111 #[.slice A1 n1 m1,I x1,I x2] H fun A2 n2 m2 H1=>BIf (x2==1) (HcW 113 #[I x1] H1 fun x3 H2=>HcS 112 #[.slice A2 n2 m2,U x3] H2 fun A3 n3 m3 H3=>K (.slice A3 n3 m3) H3) (K (.slice A2 n2 m2) H1)
theorem cZo.ok A1 n1 m1 x1 x2 H K (h:cZo A1 n1 m1 x1 x2 H K):Za prog 63 #[.slice A1 n1 m1,I x1,I x2] H K:=
 okN bZF Tryz.func63 rfl rfl h
def ZA.l10 (K:VK)(R5:OA->Nat->Nat->Int->OA->Nat->Nat->Int->Int->Hp->Prop):Nat->OA->Nat->Nat->Int->OA->Nat->Nat->Int->Int->Int->Int->Int->Hp->Prop
 |0,_,_,_,_,_,_,_,_,_,_,_,_,_=>False
 |k+1,A4,n4,m4,x7,A5,n5,m5,x8,x9,x10,x11,x12,H=>
  let R10:=ZA.l10 K R5 k
  BIf (decide (x12<(n4:Int))) (ixI x12 n4 (NN A4 fun a1=>LeW H (a1.add (x12.toNat*1)) fun x13=>HcW 172 #[U x13,U x11] H fun x14 H2=>HcW 68 #[U x10,U x14] H2 fun x15 H3=>HcW 172 #[U x11,U x8] H3 fun x16 H4=>R10 A4 n4 m4 x7 A5 n5 m5 x8 x9 x15 x16 (i64.wrap (x12+1)) H4)) (Nw H (.row [U x10] 108 1) fun b1 H5=>cZ8 prog 108 (.slice A5 n5 m5) (.slice (Io b1) 1 1) H5 fun v6 H6=>DSl v6 fun A6 n6 m6=>HcW 172 #[U x8,U x7] H6 fun x17 H7=>R5 A4 n4 m4 x7 A6 n6 m6 x17 (i64.wrap (x9+1)) H7)
def ZA.l5 (K:VK):Nat->OA->Nat->Nat->Int->OA->Nat->Nat->Int->Int->Hp->Prop
 |0,_,_,_,_,_,_,_,_,_,_=>False
 |k+1,A2,n2,m2,x4,A3,n3,m3,x5,x6,H=>
  let R5:=ZA.l5 K k
  BIf (decide (x6<(n2:Int))) ((∃ k,ZA.l10 K R5 k A2 n2 m2 x4 A3 n3 m3 x5 x6 0 1 0 H)) (K (.slice A3 n3 m3) H)
def ZA (A1:OA)(n1 m1:Nat)(x1 x2:Int)(H:Hp)(K:VK):Prop:=
 HcW 171 #[I x1,I x2] H fun x3 H1=>(∃ k,ZA.l5 K k A1 n1 m1 x3 none 0 0 1 0 H1)
def ZA.l5.L (K:VK)(k:Nat):Mid:=fun E D H=>
 DG (E.get? 0) fun w0=>DSl w0 fun A2 n2 m2=>eI E 7 .u64 fun x4=>DG (E.get? 8) fun w8=>DSl w8 fun A3 n3 m3=>eI E 9 .u64 fun x5=>eI E 10 .i64 fun x6=>Zj D (ZA.l5 K k A2 n2 m2 x4 A3 n3 m3 x5 x6 H)
def ZA.l10.L (K:VK)(R5:OA->Nat->Nat->Int->OA->Nat->Nat->Int->Int->Hp->Prop)(k:Nat):Mid:=fun E D H=>
 DG (E.get? 0) fun w0=>DSl w0 fun A4 n4 m4=>eI E 7 .u64 fun x7=>DG (E.get? 8) fun w8=>DSl w8 fun A5 n5 m5=>eI E 9 .u64 fun x8=>eI E 10 .i64 fun x9=>eI E 11 .u64 fun x10=>eI E 12 .u64 fun x11=>eI E 13 .i64 fun x12=>Zj D (ZA.l10 K R5 k A4 n4 m4 x7 A5 n5 m5 x8 x9 x10 x11 x12 H)
def ZA.Λ10 (_:VK)(_R5:OA->Nat->Nat->Int->OA->Nat->Nat->Int->Int->Hp->Prop)(_R10:OA->Nat->Nat->Int->OA->Nat->Nat->Int->Int->Int->Int->Int->Hp->Prop):Zs:=Zs.none (fun _=>none)
def ZA.Λ5 (K:VK)(R5:OA→Nat→Nat→Int→OA→Nat→Nat→Int→Int→Hp→Prop):Zs:=⟨fun i=>none,fun i=>match Nat.beq i 10 with|true=>some (fun E D H=>∃ k,ZA.l10.L K R5 k E D H)|false=>none,(fun _=>none)⟩
def ZA.Λ (K:VK):Zs:=⟨fun i=>none,fun i=>match Nat.beq i 5 with|true=>some (fun E D H=>∃ k,ZA.l5.L K k E D H)|false=>none,(fun _=>none)⟩
theorem ZA.ok A1 n1 m1 x1 x2 H K (h:ZA A1 n1 m1 x1 x2 H K):Za prog 111 #[.slice A1 n1 m1,I x1,I x2] H K:=
 okL (Λ:=(ZA.Λ K)) bZF Tryz.func111 rfl rfl h (oC (fun E D H h=>by
   refine Safe.loop' (ZA.l5.L K) (fun E D H h=>?_) (fun k E D H h=>?_) E D H h
   ·obtain⟨w0,e0,g1⟩:=DG.out h;obtain⟨A2,n2,m2,rfl,g2⟩:=DSl.out g1;obtain⟨w7,e7,g3⟩:=DG.out g2;obtain⟨x4,rfl,g4⟩:=DI.out g3;obtain⟨w8,e8,g5⟩:=DG.out g4;obtain⟨A3,n3,m3,rfl,g6⟩:=DSl.out g5;obtain⟨w9,e9,g7⟩:=DG.out g6;obtain⟨x5,rfl,g8⟩:=DI.out g7;obtain⟨w10,e10,g9⟩:=DG.out g8;obtain⟨x6,rfl,g10⟩:=DI.out g9;obtain⟨rfl,h'⟩:=Zj.out g10;exact h'
   ·obtain⟨w0,e0,g1⟩:=DG.out h;obtain⟨A2,n2,m2,rfl,g2⟩:=DSl.out g1;obtain⟨x4,e7,g4⟩:=GI g2;obtain⟨w8,e8,g5⟩:=DG.out g4;obtain⟨A3,n3,m3,rfl,g6⟩:=DSl.out g5;obtain⟨x5,e9,g8⟩:=GI g6;obtain⟨x6,e10,g10⟩:=GI g8;obtain⟨rfl,h'⟩:=Zj.out g10;exact okJ (Λ:=(ZA.Λ5 K (ZA.l5 K k))) bZF [] (Zc.cons e0 (Zc.cons e7 (Zc.cons e8 (Zc.cons e9 (Zc.cons e10 (Zc.nil _)))))) h' (oC (fun E D H h=>by
      refine Safe.loop' (ZA.l10.L K (ZA.l5 K k)) (fun E D H h=>?_) (fun k E D H h=>?_) E D H h
      ·obtain⟨w0,e0,g1⟩:=DG.out h;obtain⟨A4,n4,m4,rfl,g2⟩:=DSl.out g1;obtain⟨w7,e7,g3⟩:=DG.out g2;obtain⟨x7,rfl,g4⟩:=DI.out g3;obtain⟨w8,e8,g5⟩:=DG.out g4;obtain⟨A5,n5,m5,rfl,g6⟩:=DSl.out g5;obtain⟨w9,e9,g7⟩:=DG.out g6;obtain⟨x8,rfl,g8⟩:=DI.out g7;obtain⟨w10,e10,g9⟩:=DG.out g8;obtain⟨x9,rfl,g10⟩:=DI.out g9;obtain⟨w11,e11,g11⟩:=DG.out g10;obtain⟨x10,rfl,g12⟩:=DI.out g11;obtain⟨w12,e12,g13⟩:=DG.out g12;obtain⟨x11,rfl,g14⟩:=DI.out g13;obtain⟨w13,e13,g15⟩:=DG.out g14;obtain⟨x12,rfl,g16⟩:=DI.out g15;obtain⟨rfl,h'⟩:=Zj.out g16;exact h'
      ·obtain⟨w0,e0,g1⟩:=DG.out h;obtain⟨A4,n4,m4,rfl,g2⟩:=DSl.out g1;obtain⟨x7,e7,g4⟩:=GI g2;obtain⟨w8,e8,g5⟩:=DG.out g4;obtain⟨A5,n5,m5,rfl,g6⟩:=DSl.out g5;obtain⟨x8,e9,g8⟩:=GI g6;obtain⟨x9,e10,g10⟩:=GI g8;obtain⟨x10,e11,g12⟩:=GI g10;obtain⟨x11,e12,g14⟩:=GI g12;obtain⟨x12,e13,g16⟩:=GI g14;obtain⟨rfl,h'⟩:=Zj.out g16;exact okJ (Λ:=(ZA.Λ10 K (ZA.l5 K k) (ZA.l10 K (ZA.l5 K k) k))) bZF [] (Zc.cons e0 (Zc.cons e7 (Zc.cons e8 (Zc.cons e9 (Zc.cons e10 (Zc.cons e11 (Zc.cons e12 (Zc.cons e13 (Zc.nil _))))))))) h' oN) oN)) oN)
def aZa.l3 (K:VK):Nat->OA->Nat->Nat->Int->OA->Nat->Nat->Int->Hp->Prop
 |0,_,_,_,_,_,_,_,_,_=>False
 |k+1,A2,n2,m2,x2,A3,n3,m3,x3,H=>
  let R3:=aZa.l3 K k
  BIf (decide (x3<(n2:Int))) (ixI x3 n2 (NN A2 fun a1=>LeW H (a1.add (x3.toNat*1)) fun x4=>HcW 172 #[U x4,U x2] H fun x5 H1=>Nw H1 (.row [U x5] 108 1) fun b1 H2=>cZ8 prog 108 (.slice A3 n3 m3) (.slice (Io b1) 1 1) H2 fun v3 H3=>DSl v3 fun A4 n4 m4=>R3 A2 n2 m2 x2 A4 n4 m4 (i64.wrap (x3+1)) H3)) (K (.slice A3 n3 m3) H)
def aZa (A1:OA)(n1 m1:Nat)(x1:Int)(H:Hp)(K:VK):Prop:=
 (∃ k,aZa.l3 K k A1 n1 m1 x1 none 0 0 0 H)
def aZa.l3.L (K:VK)(k:Nat):Mid:=fun E D H=>
 DG (E.get? 0) fun w0=>DSl w0 fun A2 n2 m2=>eI E 1 .u64 fun x2=>DG (E.get? 5) fun w5=>DSl w5 fun A3 n3 m3=>eI E 6 .i64 fun x3=>Zj D (aZa.l3 K k A2 n2 m2 x2 A3 n3 m3 x3 H)
def aZa.Λ3 (_:VK)(_R3:OA->Nat->Nat->Int->OA->Nat->Nat->Int->Hp->Prop):Zs:=Zs.none (fun _=>none)
def aZa.Λ (K:VK):Zs:=⟨fun i=>none,fun i=>match Nat.beq i 3 with|true=>some (fun E D H=>∃ k,aZa.l3.L K k E D H)|false=>none,(fun _=>none)⟩
theorem aZa.ok A1 n1 m1 x1 H K (h:aZa A1 n1 m1 x1 H K):Za prog 112 #[.slice A1 n1 m1,U x1] H K:=
 okL (Λ:=(aZa.Λ K)) bZF Tryz.func112 rfl rfl h (oC (fun E D H h=>by
   refine Safe.loop' (aZa.l3.L K) (fun E D H h=>?_) (fun k E D H h=>?_) E D H h
   ·obtain⟨w0,e0,g1⟩:=DG.out h;obtain⟨A2,n2,m2,rfl,g2⟩:=DSl.out g1;obtain⟨w1,e1,g3⟩:=DG.out g2;obtain⟨x2,rfl,g4⟩:=DI.out g3;obtain⟨w5,e5,g5⟩:=DG.out g4;obtain⟨A3,n3,m3,rfl,g6⟩:=DSl.out g5;obtain⟨w6,e6,g7⟩:=DG.out g6;obtain⟨x3,rfl,g8⟩:=DI.out g7;obtain⟨rfl,h'⟩:=Zj.out g8;exact h'
   ·obtain⟨w0,e0,g1⟩:=DG.out h;obtain⟨A2,n2,m2,rfl,g2⟩:=DSl.out g1;obtain⟨x2,e1,g4⟩:=GI g2;obtain⟨w5,e5,g5⟩:=DG.out g4;obtain⟨A3,n3,m3,rfl,g6⟩:=DSl.out g5;obtain⟨x3,e6,g8⟩:=GI g6;obtain⟨rfl,h'⟩:=Zj.out g8;exact okJ (Λ:=(aZa.Λ3 K (aZa.l3 K k))) bZF [] (Zc.cons e0 (Zc.cons e1 (Zc.cons e5 (Zc.cons e6 (Zc.nil _))))) h' oN) oN)
def dZb (x1:Int)(H:Hp)(K:VK):Prop:=
 HcW 173 #[U 9223372034707292161,U (u64.wrap x1)] H fun x2 H1=>K (U x2) H1
theorem dZb.ok x1 H K (h:dZb x1 H K):Za prog 113 #[I x1] H K:=
 okN bZF Tryz.func113 rfl rfl h
def aZl.l6 (K:VK):Nat->Int->Int->Int->Int->Hp->Prop
 |0,_,_,_,_,_=>False
 |k+1,x4,x5,x6,x7,H=>
  let R6:=aZl.l6 K k
  BIf (decide (x7<x4)) (R6 x4 x5 (u64.wrap (2*x6)) (i64.wrap (x7+1)) H) (HcW 173 #[U x5,U (u64.wrap (x6-1))] H fun x8 H2=>K (U x8) H2)
def aZl (x1 x2:Int)(H:Hp)(K:VK):Prop:=
 HcW 242 #[I x1] H fun x3 H1=>BIf (x2==0) (K (U x3) H1) ((∃ k,aZl.l6 K k x1 x3 1 0 H1))
def aZl.l6.L (K:VK)(k:Nat):Mid:=fun E D H=>
 eI E 0 .i64 fun x4=>eI E 5 .u64 fun x5=>eI E 6 .u64 fun x6=>eI E 7 .i64 fun x7=>Zj D (aZl.l6 K k x4 x5 x6 x7 H)
def aZl.Λ6 (_:VK)(_R6:Int->Int->Int->Int->Hp->Prop):Zs:=Zs.none (fun _=>none)
def aZl.Λ (K:VK):Zs:=⟨fun i=>none,fun i=>match Nat.beq i 6 with|true=>some (fun E D H=>∃ k,aZl.l6.L K k E D H)|false=>none,(fun _=>none)⟩
theorem aZl.ok x1 x2 H K (h:aZl x1 x2 H K):Za prog 171 #[I x1,I x2] H K:=
 okL (Λ:=(aZl.Λ K)) bZF Tryz.func171 rfl rfl h (oC (fun E D H h=>by
   refine Safe.loop' (aZl.l6.L K) (fun E D H h=>?_) (fun k E D H h=>?_) E D H h
   ·obtain⟨w0,e0,g1⟩:=DG.out h;obtain⟨x4,rfl,g2⟩:=DI.out g1;obtain⟨w5,e5,g3⟩:=DG.out g2;obtain⟨x5,rfl,g4⟩:=DI.out g3;obtain⟨w6,e6,g5⟩:=DG.out g4;obtain⟨x6,rfl,g6⟩:=DI.out g5;obtain⟨w7,e7,g7⟩:=DG.out g6;obtain⟨x7,rfl,g8⟩:=DI.out g7;obtain⟨rfl,h'⟩:=Zj.out g8;exact h'
   ·obtain⟨x4,e0,g2⟩:=GI h;obtain⟨x5,e5,g4⟩:=GI g2;obtain⟨x6,e6,g6⟩:=GI g4;obtain⟨x7,e7,g8⟩:=GI g6;obtain⟨rfl,h'⟩:=Zj.out g8;exact okJ (Λ:=(aZl.Λ6 K (aZl.l6 K k))) bZF [] (Zc.cons e0 (Zc.cons e5 (Zc.cons e6 (Zc.cons e7 (Zc.nil _))))) h' oN) oN)
end W
namespace Pas
open Go Go.Hw Go.Crc Go.Form W Shp Gol Fft Ker Str Dsk Are Trn
theorem nZB (k:Nat)(hk:k<=32)(H:Hp):Za prog 113 #[I (k:Int)] H (RetE (U ((Fft.pw half k).val:Int)) H):=by
 apply dZb.ok;unfold dZb;rw[bZ5];refine Za.use (mZI (a:=9223372034707292161) (n:=k) (by omega) H) ?_;rw[fZ0];simp only[HV];exact RetE.mk _ _
theorem uZd (x:UInt64)(y:Nat):x.toNat*y%18446744069414584321=(zw x*zp y).val:=by
 rw[← fZX];show _=x.toNat%18446744069414584321*(y%18446744069414584321)%18446744069414584321
 rw[← Nat.mul_mod]
theorem sZ6 {l:List UInt64}(z:Zp){i:Nat}(hil:i<l.length):Zb (cZu z (l.take (i+1)))=Zb (cZu z (l.take i))++[U ((zw l[i]*z).val:Int)]:=by
 have e:cZu z (l.take (i+1))=cZu z (l.take i)++[uw (zw l[i]*z)]:=by
  unfold cZu;rw[List.take_add_one,List.getElem?_eq_getElem hil,List.map_append];rfl
 rw[e,←iZc];unfold Zb;rw[List.map_append];rfl
theorem hZU (d:Bool)(k:Nat)(l:List UInt64){i:Nat}(h:i<2^k):(cZP d k l)[i]? =some (uw (dft (rtd d k) (2^k) (at' l) i)):=by
 unfold cZP;rw[List.getElem?_map,List.getElem?_range h];rfl
theorem lZe (z:Zp){l:List UInt64}{i:Nat}{w:UInt64}(h:l[i]? =some w):(cZu z l)[i]? =some (uw (zw w*z)):=by
 unfold cZu;rw[List.getElem?_map,h];rfl
theorem pZZ {l:List UInt64}{i:Nat}{w:UInt64}(h:l[i]? =some w):at' l i=zw w:=by
 unfold at';rw[List.getD_eq_getElem?_getD,h];rfl
section
variable {R : As} {A : Option Addr} {n m : Nat} {l : List UInt64}
theorem kZH (K:VK)(y:Nat)(hy:y<2^64){L:List As}(hR:∀ H,R H->Cells H A (Zb l))(hl:l.length=n)(hn:n<=4294967296)
  (hK:∀ A' m' H,Sep (Own 108 1 A' n m' (Zb (cZu (zp y) l))::R::L) H->K (.slice A' n m') H):
  ∀(t i:Nat) (A':OA) (m':Nat) (H:Hp),i+t=n->Sep (Own 108 1 A' i m' (Zb (cZu (zp y) (l.take i)))::R::L) H->
   aZa.l3 K (t+1) A n m (y:Int) A' i m' (i:Int) H
 |0,i,A',m',H,hi,hs=>by
  unfold aZa.l3;obtain rfl:i=n:=by omega
  refine Zg (by omega) (hK A' m' H ?_);rw[List.take_of_length_le (by omega)]at hs;exact hs
 |t+1,i,A',m',H,hi,hs=>by
  have hc:Cells H A (Zb l):=by
   obtain⟨H1,h1,hle⟩:=hs.see 1 rfl;exact(hR H1 h1).le hle
  unfold aZa.l3;refine Zm (by omega) ?_;have hil:i<l.length:=by omega
  have hg:(Zb l)[i]? =some (U ((l[i]).toNat:Int)):=by
   rw[aZ5,List.getElem?_eq_getElem hil];rfl
  refine hc.read hg rfl (by rw[Zq];omega) ?_;simp only[HV];refine Za.use (gZK (a:=(l[i]).toNat) hy H) ?_;rw[uZd];simp only[HV];refine hs.app1 0 rfl Ker.bZS (by omega) rfl (by omega) (by omega) fun A2 m2 H hs=>?_
  simp only[HV];rw[ZM (x:=(i:Int)+1),show(i:Int)+1=((i+1:Nat):Int) by omega];refine kZH K y hy hR hl hn hK t (i+1) A2 m2 H (by omega) ?_;rw[sZ6 _ hil];exact hs
theorem sZV (y:Nat)(hy:y<2^64)(hR:∀ H,R H->Cells H A (Zb l))(hl:l.length=n)(hn:n<=4294967296):
  Tr prog 112 #[.slice A n m,U (y:Int)] [R] fun v M=>∃ A' m',v= .slice A' n m'/\M=[Own 108 1 A' n m' (Zb (cZu (zp y) l)),R]:=fun H hs=>by
 apply aZa.ok;unfold aZa;have e0:Sep [Own 108 1 none 0 0 (Zb (cZu (zp y) (l.take 0))),R] H:=
  ⟨fun _=>none,H,fun _ _ h=>(nomatch h),Hp.le_refl _,fun _=>.inl rfl,Own.none _ _ _,hs⟩
 refine⟨n+1,?_⟩;exact kZH (L:=[]) _ y hy hR hl hn (fun A' m' H hs=>⟨_,⟨A',m',rfl,rfl⟩,hs⟩) n 0 none 0 H (by omega) e0
end
theorem sZ1 {j:J}{d:D}{x:X}{m:Nat}{l:List UInt64}(h:pws d x 0 (m*2^j.eb)=l):
  cZO j d x m=(List.range m).flatMap fun q=>eZl j q ((l.drop (q*2^j.eb)).take (2^j.eb)):=by
 unfold cZO;have:∀(r:List Nat),(∀ q,q∈r->q<m)->r.flatMap (fun q=>eZl j q (pws d x (q*2^j.eb) (2^j.eb)))=r.flatMap fun q=>eZl j q ((l.drop (q*2^j.eb)).take (2^j.eb)):=fun r=>by
  induction r with
  |nil=>intro _;rfl
  |cons q r ih=>
   intro hq;have hqb:=hq q (by simp);have h1:(q+1)*2^j.eb<=m*2^j.eb:=Nat.mul_le_mul_right _ (by omega);rw[Nat.succ_mul]at h1;rw[List.flatMap_cons,List.flatMap_cons,ih fun q' h'=>hq q' (by simp[h']),←h,oZ9 h1,Nat.zero_add]
 exact this _ fun q hq=>List.mem_range.1 hq
theorem nZa {f:Nat->List UInt64}{c:Nat}(hf:∀ q,(f q).length=c):∀(m q:Nat),q<m->(((List.range m).flatMap f).drop (q*c)).take c=f q
 |0,q,h=>by omega
 |m+1,q,h=>by
  have hl:∀ m,((List.range m).flatMap f).length=m*c:=fun m=>by
   induction m with
   |zero=>simp
   |succ m ih=>rw[List.range_succ,List.flatMap_append,List.length_append,ih,Nat.succ_mul];simp[hf]
  rw[List.range_succ,List.flatMap_append];have hs:List.flatMap f [m]=f m:=by simp
  rw[hs];by_cases e:q=m
  ·subst e;rw[List.drop_append,List.drop_eq_nil_of_le (by rw[hl];exact Nat.le_refl _),hl,Nat.sub_self,List.drop_zero,List.nil_append,List.take_of_length_le (by rw[hf];exact Nat.le_refl _)]
  ·have h1:(q+1)*c<=m*c:=Nat.mul_le_mul_right _ (by omega);rw[Nat.succ_mul]at h1;rw[List.drop_append_of_le_length (by rw[hl];omega),List.take_append_of_le_length (by rw[List.length_drop,hl];omega)];exact nZa hf m q (by omega)
theorem kZF {k:Nat}(hk:k<=32)(H:Hp):∀(t i:Nat),i+t=k->aZj.l3 (RetE (U ((rt k).val:Int)) H) (t+1) (k:Int) ((18446744069414584320/2^i:Nat):Int) (i:Int) H
 |0,i,hi=>by
  obtain rfl:i=k:=by omega
  unfold aZj.l3;refine Zg (by omega) ?_;have hlt:18446744069414584320/2^i<2^64:=Nat.lt_of_le_of_lt (Nat.div_le_self _ _) (by decide);refine Za.use (mZI (a:=7) hlt H) ?_;rw[fZ0];simp only[HV];exact RetE.mk _ _
 |t+1,i,hi=>by
  unfold aZj.l3;refine Zm (by omega) ⟨by decide,by simp,?_⟩;have hlt:18446744069414584320/2^i<=18446744069414584320:=Nat.div_le_self _ _;have e:u64.wrap (Int.tdiv ((18446744069414584320/2^i:Nat):Int) 2)=((18446744069414584320/2^(i+1):Nat):Int):=by
   rw[show Int.tdiv ((18446744069414584320/2^i:Nat):Int) 2=((18446744069414584320/2^i/2:Nat):Int)from rfl,bZ5,Nat.div_div_eq_div_mul,Nat.pow_succ]
  rw[e,ZM (x:=(i:Int)+1),show(i:Int)+1=((i+1:Nat):Int) by omega];exact kZF hk H t (i+1) (by omega)
theorem sZT {k:Nat}(hk:k<=32)(H:Hp):Za prog 242 #[I (k:Int)] H (RetE (U ((rt k).val:Int)) H):=by
 apply aZj.ok;unfold aZj;exact⟨k+1,kZF hk H k 0 (by omega)⟩
theorem kZG {k:Nat}(hk:k<=32)(H:Hp):∀(t i:Nat),i+t=k->aZl.l6 (RetE (U ((rtd true k).val:Int)) H) (t+1) (k:Int) ((rt k).val:Int) ((2^i:Nat):Int) (i:Int) H
 |0,i,hi=>by
  obtain rfl:i=k:=by omega
  have h32:=aZP hk;have h1:=pow_pos i;unfold aZl.l6;refine Zg (by omega) ?_;rw[dZl,show((2^i:Nat):Int)-1=((2^i-1:Nat):Int) by omega];refine Za.use (mZI (a:=(rt i).val) (n:=2^i-1) (by omega) H) ?_;rw[fZ0,fZ3];simp only[HV];exact RetE.mk _ _
 |t+1,i,hi=>by
  have h32:=aZP (show i<=32 by omega);have h1:=pow_pos i;unfold aZl.l6;refine Zm (by omega) ?_;rw[dZl,show(2:Int)*((2^i:Nat):Int)=((2^(i+1):Nat):Int) by rw[Nat.pow_succ];omega,ZM (x:=(i:Int)+1),show(i:Int)+1=((i+1:Nat):Int) by omega];exact kZG hk H t (i+1) (by omega)
theorem sZU {k:Nat}(hk:k<=32)(d:Bool)(H:Hp):Za prog 171 #[I (k:Int),I (if d=true then 1 else 0)] H (RetE (U ((rtd d k).val:Int)) H):=by
 apply aZl.ok;unfold aZl;refine Za.use (sZT hk H) ?_;simp only[HV];cases d with
 |false=>exact Zt rfl (RetE.mk _ _)
 |true=>
  refine Zu (by decide) ⟨k+1,?_⟩;exact kZG hk H k 0 (by omega)
section
variable {R : As} {A : Option Addr} {n m k : Nat} {l : List UInt64} {L : List As}
theorem qZh (K:VK)(R5:OA->Nat->Nat->Int->OA->Nat->Nat->Int->Int->Hp->Prop)(w z:Zp){xj:Int}{A':OA}{n' m':Nat}{vs:List Value}(hR:∀ H,R H->Cells H A (Zb l))(hl:l.length=n)(hn:n<=1048576)(hn':n'<=1048576)
  (hK:∀ A2 m2 H,Sep (Own 108 1 A2 (n'+1) m2 (vs++[U ((sm (fun i=>at' l i*Fft.pw z i) n).val:Int)])::R::L) H->R5 A n m (w.val:Int) A2 (n'+1) m2 ((z*w).val:Int) (i64.wrap (xj+1)) H):
  ∀(t i:Nat) (H:Hp),i+t=n->Sep (Own 108 1 A' n' m' vs::R::L) H->
   ZA.l10 K R5 (t+1) A n m (w.val:Int) A' n' m' (z.val:Int) xj ((sm (fun i=>at' l i*Fft.pw z i) i).val:Int) ((Fft.pw z i).val:Int) (i:Int) H
 |0,i,H,hi,hs=>by
  obtain rfl:i=n:=by omega
  unfold ZA.l10;refine Zg (by omega) ?_;refine hs.app1 0 rfl Ker.bZS (by omega) rfl (by omega) (by omega) fun A2 m2 H hs=>?_
  simp only[HV];refine Za.use (gZK (a:=z.val) (cZT w) H) ?_;rw[fZX];simp only[HV];exact hK A2 m2 H hs
 |t+1,i,H,hi,hs=>by
  have hc:Cells H A (Zb l):=by
   obtain⟨H1,h1,hle⟩:=hs.see 1 rfl;exact(hR H1 h1).le hle
  unfold ZA.l10;refine Zm (by omega) ?_;have hil:i<l.length:=by omega
  have hg:(Zb l)[i]? =some (U ((l[i]).toNat:Int)):=by
   rw[aZ5,List.getElem?_eq_getElem hil];rfl
  refine hc.read hg rfl (by rw[Zq];omega) ?_;simp only[HV];refine Za.use (gZK (a:=(l[i]).toNat) (cZT _) H) ?_;rw[oZX,←rZ1 hil];simp only[HV];refine Za.use (kZi H) ?_;rw[show((sm (fun i=>at' l i*Fft.pw z i) i).val+(at' l i*Fft.pw z i).val)%18446744069414584321=(sm (fun i=>at' l i*Fft.pw z i) (i+1)).val from(Fin.val_add _ _).symm];simp only[HV];refine Za.use (gZK (a:=(Fft.pw z i).val) (cZT z) H) ?_;rw[fZX];simp only[HV];rw[ZM (x:=(i:Int)+1),show(i:Int)+1=((i+1:Nat):Int) by omega];exact qZh K R5 w z hR hl hn hn' hK t (i+1) H (by omega) hs
def mZw (w:Zp)(n:Nat)(l:List UInt64)(i:Nat):List UInt64:=(List.range i).map fun j=>uw (dft w n (at' l) j)
theorem rZ8 (w:Zp)(n:Nat)(l:List UInt64)(i:Nat):Zb (mZw w n l (i+1))=Zb (mZw w n l i)++[U ((sm (fun a=>at' l a*Fft.pw (Fft.pw w i) a) n).val:Int)]:=by
 unfold mZw Zb;rw[List.range_succ,List.map_append,List.map_append];congr 1;show [Value.int .u64 ((uw (dft w n (at' l) i)).toNat:Int)]=_
 rw[iZc];have:dft w n (at' l) i=sm (fun a=>at' l a*Fft.pw (Fft.pw w i) a) n:=fZT n fun a _=>by rw[← bZO,Nat.mul_comm a i]
 rw[this]
theorem nZz (K:VK)(w:Zp)(hR:∀ H,R H->Cells H A (Zb l))(hl:l.length=n)(hn:n<=1048576)
  (hK:∀ A2 m2 H,Sep (Own 108 1 A2 n m2 (Zb (mZw w n l n))::R::L) H->K (.slice A2 n m2) H):
  ∀(t j:Nat) (A':OA) (m':Nat) (H:Hp),j+t=n->Sep (Own 108 1 A' j m' (Zb (mZw w n l j))::R::L) H->
   ZA.l5 K (t+1) A n m (w.val:Int) A' j m' ((Fft.pw w j).val:Int) (j:Int) H
 |0,j,A',m',H,hj,hs=>by
  obtain rfl:j=n:=by omega
  unfold ZA.l5;exact Zg (by omega) (hK A' m' H hs)
 |t+1,j,A',m',H,hj,hs=>by
  unfold ZA.l5;refine Zm (by omega) ⟨n+1,?_⟩;refine qZh K _ w (Fft.pw w j) hR hl hn (by omega) (fun A2 m2 H hs=>?_) n 0 H (by omega) hs;rw[ZM (x:=(j:Int)+1),show(j:Int)+1=((j+1:Nat):Int) by omega];refine nZz K w hR hl hn hK t (j+1) A2 m2 H (by omega) ?_;rw[rZ8];exact hs
theorem vZ4 (hR:∀ H,R H->Cells H A (Zb l))(hl:l.length=n)(hn:n=2^k)(hk:k<=20)(d:Bool):
  Tr prog 111 #[.slice A n m,I (k:Int),I (if d=true then 1 else 0)] [R] fun v M=>∃ A2 m2,v= .slice A2 n m2/\M=[Own 108 1 A2 n m2 (Zb (cZP d k l)),R]:=fun H hs=>by
 have h20:=aZP hk;apply ZA.ok;unfold ZA;refine Za.use (sZU (by omega) d H) ?_;simp only[HV];have e0:Sep [Own 108 1 none 0 0 (Zb (mZw (rtd d k) n l 0)),R] H:=
  ⟨fun _=>none,H,fun _ _ h=>(nomatch h),Hp.le_refl _,fun _=>.inl rfl,Own.none _ _ _,hs⟩
 refine⟨n+1,?_⟩;refine nZz (L:=[]) _ (rtd d k) hR hl (by omega) (fun A2 m2 H hs=>⟨_,⟨A2,m2,rfl,rfl⟩,?_⟩) n 0 none 0 H (by omega) e0;unfold cZP;rw[← hn];exact hs
end
def mZh (j:J)(q:Nat)(l:List UInt64)(c:Nat):Zp:=dft (rtd j.d j.eb) (2^j.eb) (at' l) c*zw j.sh*(if 0<=j.tw then Fft.pw (rtd j.d j.tw.toNat) (q*c)else 1)
theorem sZZ (j:J)(q:Nat)(l:List UInt64):eZl j q l=(List.range (2^j.eb)).map fun c=>uw (mZh j q l c):=by
 apply List.ext_getElem?;intro c;rw[List.getElem?_map];by_cases hc:c<2^j.eb
 ·rw[List.getElem?_range hc];have h1:=hZU j.d j.eb l hc;have h2:(twL j q (cZP j.d j.eb l))[c]? =some (uw (dft (rtd j.d j.eb) (2^j.eb) (at' l) c*(if 0<=j.tw then Fft.pw (rtd j.d j.tw.toNat) (q*c)else 1))):=by
   unfold twL;by_cases ht:0<=j.tw
   ·rw[if_pos ht,if_pos ht];unfold kZn fZO;rw[List.getElem?_map,eZY,List.getElem?_range hc];show some (uw (at' (cZP j.d j.eb l) c*Fft.pw (Fft.pw (rtd j.d j.tw.toNat) q) c))=some _
    rw[pZZ h1,kZp,←bZO]
   ·rw[if_neg ht,if_neg ht,h1];congr 2;grind
  unfold eZl;rw[lZe _ h2,kZp];show some _=some _
  congr 2;unfold mZh;grind
 ·rw[List.getElem?_eq_none (by rw[hZ4];omega),List.getElem?_eq_none (by simp;omega)];rfl
section
variable {R : As} {A : Option Addr} {n m b1 : Nat} {l : List UInt64} {j : J}
def dZz (j:J)(l:List UInt64)(m:Nat):List UInt64:=(List.range m).flatMap fun q=>eZl j q ((l.drop (q*2^j.eb)).take (2^j.eb))
end
end Pas
namespace Pln
open Go Go.Hw Shp Fft Ker Pas Str Dsk Trn
def trL (r c:Nat)(l:List UInt64):List UInt64:=(List.range (r*c)).map fun k=>l.getD (k%r*c+k/r) 0
theorem mZO (r c:Nat)(l:List UInt64):(trL r c l).length=r*c:=by simp[trL]
theorem qZA {r c:Nat}(l:List UInt64){i j:Nat}(hi:i<r)(hj:j<c):(trL r c l).getD (j*r+i) 0=l.getD (i*c+j) 0:=by
 have h1:j*r+i<r*c:=by
  have:(j+1)*r<=c*r:=Nat.mul_le_mul_right _ hj;rw[Nat.succ_mul]at this;rw[Nat.mul_comm r c];omega
 have h2:(j*r+i)%r=i:=by rw[Nat.add_comm,Nat.add_mul_mod_self_right,Nat.mod_eq_of_lt hi]
 have h3:(j*r+i)/r=j:=by rw[Nat.add_comm,Nat.add_mul_div_right _ _ (by omega),Nat.div_eq_of_lt hi,Nat.zero_add]
 unfold trL;rw[List.getD_eq_getElem?_getD,List.getElem?_map,List.getElem?_range h1];show l.getD _ 0=_
 rw[h2,h3]
theorem tZf {r c:Nat}(l:List UInt64){i j:Nat}(hi:i<r)(hj:j<c):at' (trL r c l) (j*r+i)=at' l (i*c+j):=by
 unfold at';rw[qZA l hi hj]
theorem wZp (d:D)(x:X)(r c:Nat):trW d x r c=trL r c (pws d x 0 (r*c)):=by
 unfold trW trL;apply List.map_congr_left;intro k hk;have hk:=List.mem_range.1 hk;have hr:0<r:=by
  rcases Nat.eq_zero_or_pos r with h|h
  ·rw[h,Nat.zero_mul]at hk;omega
  ·exact h
 have h1:k%r<r:=Nat.mod_lt _ hr;have h2:k/r<c:=Nat.div_lt_of_lt_mul hk;have h3:k%r*c+k/r<r*c:=by
  have:(k%r+1)*c<=r*c:=Nat.mul_le_mul_right _ h1;rw[Nat.succ_mul]at this;omega
 unfold trK;rw[List.getD_eq_getElem?_getD,kZh h3,Nat.zero_add];rfl
theorem rZz (j:J)(d:D)(x:X)(m:Nat):cZO j d x m=dZz j (pws d x 0 (m*2^j.eb)) m:=sZ1 rfl
theorem nZI (j:J)(l:List UInt64){m q c:Nat}(hq:q<m)(hc:c<2^j.eb):(dZz j l m)[q*2^j.eb+c]? =some (uw (mZh j q ((l.drop (q*2^j.eb)).take (2^j.eb)) c)):=by
 have h:=nZa (f:=fun q=>eZl j q ((l.drop (q*2^j.eb)).take (2^j.eb))) (c:=2^j.eb) (fun q=>hZ4 j q _) m q hq;have e:(dZz j l m)[q*2^j.eb+c]? =(((dZz j l m).drop (q*2^j.eb)).take (2^j.eb))[c]? :=by
  rw[List.getElem?_take_of_lt hc,List.getElem?_drop]
 rw[e];show((((List.range m).flatMap fun q=>eZl j q ((l.drop (q*2^j.eb)).take (2^j.eb))).drop (q*2^j.eb)).take (2^j.eb))[c]? =_
 rw[h,sZZ,List.getElem?_map,List.getElem?_range hc];rfl
def wz (j:J)(q:Nat)(f:Nat->Zp)(c:Nat):Zp:=dft (rtd j.d j.eb) (2^j.eb) (fun i=>f (q*2^j.eb+i)) c*zw j.sh*(if 0<=j.tw then Fft.pw (rtd j.d j.tw.toNat) (q*c)else 1)
theorem pZr (j:J)(l:List UInt64)(q c:Nat):mZh j q ((l.drop (q*2^j.eb)).take (2^j.eb)) c=wz j q (at' l) c:=by
 unfold mZh wz;congr 2;refine iZi (fun i hi=>?_) c;unfold at';rw[List.getD_eq_getElem?_getD,List.getElem?_take_of_lt hi,List.getElem?_drop,←List.getD_eq_getElem?_getD]
theorem uZK (j:J)(l:List UInt64){m q c:Nat}(hq:q<m)(hc:c<2^j.eb):at' (dZz j l m) (q*2^j.eb+c)=wz j q (at' l) c:=by
 rw[pZZ (nZI j l hq hc),kZp,pZr]
theorem uZL (j:J)(l:List UInt64){m q c:Nat}(hq:q<m)(hc:c<2^j.eb):(dZz j l m).getD (q*2^j.eb+c) 0=uw (wz j q (at' l) c):=by
 rw[List.getD_eq_getElem?_getD,nZI j l hq hc,pZr];rfl
structure Pz where
 t:Bool
 j:J
 f:Nat
 o:Nat
def Pz.c (p:Pz):Array Value:=p.j.a++ #[I (if p.t=true then 1 else 2),I (p.f:Int),I (p.o:Int)]
def Pz.ap (p:Pz)(l:List UInt64):List UInt64:=if p.t=true then trL (2^p.j.ea) (2^p.j.eb) l else dZz p.j l (2^p.j.ea)
def eZ3 (d:Bool)(k:Nat):UInt64:=if d=true then uw (Fft.pw half k)else 1
def jZT (d:Bool)(k:Nat):Pz:=⟨false,⟨0,k,d,-1,eZ3 d k⟩,0,3⟩
def hZB (d:Bool)(k:Nat):List Pz:=
 [⟨true,⟨k/2,k-k/2,false,-1,1⟩,0,1⟩,⟨false,⟨k-k/2,k/2,d,(k:Int),1⟩,1,2⟩,⟨true,⟨k-k/2,k/2,false,-1,1⟩,2,1⟩,
  ⟨false,⟨k/2,k-k/2,d,-1,eZ3 d k⟩,1,2⟩,⟨true,⟨k/2,k-k/2,false,-1,1⟩,2,3⟩]
def jZS (k per words:Nat):Bool:=decide (k<=20/\2*2^k+per<=words)
def aZW (d:Bool)(k per words:Nat):List Pz:=if jZS k per words=true then [jZT d k]else hZB d k
def bZM (k per:Nat):Nat:=2*2^((k+1)/2)+per
def apL (ps:List Pz)(l:List UInt64):List UInt64:=ps.foldl (fun l p=>p.ap l) l
theorem vZw (a b:List Pz)(l:List UInt64):apL (a++b) l=apL b (apL a l):=List.foldl_append
def tfL (d:Bool)(k:Nat)(l:List UInt64):List UInt64:=cZu (zw (eZ3 d k)) (cZP d k l)
theorem mZN (d:Bool)(k:Nat)(l:List UInt64):(tfL d k l).length=2^k:=by unfold tfL;rw[gZL,eZY]
theorem uZt (d:Bool)(k:Nat)(l:List UInt64)(hl:l.length=2^k):(jZT d k).ap l=tfL d k l:=by
 show dZz ⟨0,k,d,-1,eZ3 d k⟩ l 1=_
 unfold dZz;rw[show List.range 1=[0]from rfl,List.flatMap_cons,List.flatMap_nil,List.append_nil,Nat.zero_mul,List.drop_zero];show eZl _ 0 (l.take (2^k))=_
 rw[List.take_of_length_le (by omega)];rfl
theorem vZP (d:Bool)(k:Nat)(hk:k<=32)(l:List UInt64):apL (hZB d k) l=tfL d k l:=by
 obtain⟨a,ha⟩:∃ a,k/2=a:=⟨_,rfl⟩;obtain⟨b,hb⟩:∃ b,k-a=b:=⟨_,rfl⟩;have hab:a+b=k:=by omega
 have hka:k-b=a:=by omega
 have hkb:k-a=b:=by omega
 have hRC:2^a*2^b=2^k:=by rw[← Nat.pow_add,hab]
 have hpos:0<2^a:=Nat.two_pow_pos a;unfold hZB apL;simp only[List.foldl_cons,List.foldl_nil,ha,hb];show trL (2^a) (2^b) (dZz ⟨a,b,d,-1,eZ3 d k⟩ (trL (2^b) (2^a) (dZz ⟨b,a,d,(k:Int),1⟩ (trL (2^a) (2^b) l) (2^b))) (2^a))=_
 apply List.ext_getElem?;intro i;by_cases hi:i<2^k
 ·have hj:i%2^a<2^a:=Nat.mod_lt _ hpos;have hm:i/2^a<2^b:=Nat.div_lt_of_lt_mul (by rw[hRC];exact hi);have hij:i/2^a*2^a+i%2^a=i:=by rw[Nat.mul_comm];exact Nat.div_add_mod i (2^a)
  generalize hjj:i%2^a=j at hj hij;generalize hmm:i/2^a=m at hm hij;subst hij;have e1:=qZA (r:=2^a) (c:=2^b) (dZz ⟨a,b,d,-1,eZ3 d k⟩ (trL (2^b) (2^a) (dZz ⟨b,a,d,(k:Int),1⟩ (trL (2^a) (2^b) l) (2^b))) (2^a)) hj hm;have e2:=uZL ⟨a,b,d,-1,eZ3 d k⟩ (trL (2^b) (2^a) (dZz ⟨b,a,d,(k:Int),1⟩ (trL (2^a) (2^b) l) (2^b))) (m:=2^a) hj (c:=m) hm;have hlen:m*2^a+j<(trL (2^a) (2^b) (dZz ⟨a,b,d,-1,eZ3 d k⟩ (trL (2^b) (2^a) (dZz ⟨b,a,d,(k:Int),1⟩ (trL (2^a) (2^b) l) (2^b))) (2^a))).length:=by rw[mZO,hRC];exact hi
  rw[List.getElem?_eq_getElem hlen];rw[List.getD_eq_getElem?_getD,List.getElem?_eq_getElem hlen]at e1;simp only[Option.getD_some]at e1;rw[e1,e2];have e3:tfL d k l=cZu (zw (eZ3 d k)) (cZP d k l):=rfl;rw[e3,lZe _ (hZU d k l hi),kZp];congr 2;have hw:Fft.pw (rtd d k) (2^a*2^b)=1:=by rw[hRC];exact wZc d hk
  have hrows:=tZ1 hw (at' l) m j;rw[hRC]at hrows;rw[hrows];have hwa:Fft.pw (rtd d k) (2^a)=rtd d b:=by have:=qZo d hk (show b<=k by omega);rwa [hka]at this
  have hwb:Fft.pw (rtd d k) (2^b)=rtd d a:=by have:=qZo d hk (show a<=k by omega);rwa [hkb]at this
  rw[hwa,hwb];unfold wz;rw[if_neg (show ¬((0:Int)<=-1) by omega)];have key:dft (rtd d b) (2^b) (fun i=>at' (trL (2^b) (2^a) (dZz ⟨b,a,d,(k:Int),1⟩ (trL (2^a) (2^b) l) (2^b))) (j*2^b+i)) m=dft (rtd d b) (2^b) (fun c=>dft (rtd d a) (2^a) (fun r=>at' l (r*2^b+c)) j*Fft.pw (rtd d k) (c*j)) m:=by
   refine iZi (fun c hc=>?_) m;rw[tZf _ hc hj];have h2:=uZK ⟨b,a,d,(k:Int),1⟩ (trL (2^a) (2^b) l) (m:=2^b) hc (c:=j) hj;refine h2.trans ?_;unfold wz;rw[if_pos (Int.natCast_nonneg k)];have e1:zw 1=1:=by decide
   have h3:dft (rtd d a) (2^a) (fun i=>at' (trL (2^a) (2^b) l) (c*2^a+i)) j=dft (rtd d a) (2^a) (fun r=>at' l (r*2^b+c)) j:=
    iZi (fun r hr=>tZf l hr hc) j
   show dft (rtd d a) (2^a) (fun i=>at' (trL (2^a) (2^b) l) (c*2^a+i)) j*zw 1*Fft.pw (rtd d ((k:Int).toNat)) (c*j)=_
   rw[h3,e1,Int.toNat_natCast];grind
  show dft (rtd d b) (2^b) (fun i=>at' (trL (2^b) (2^a) (dZz ⟨b,a,d,(k:Int),1⟩ (trL (2^a) (2^b) l) (2^b))) (j*2^b+i)) m*zw (eZ3 d k)*1=_
  rw[key];grind
 ·rw[List.getElem?_eq_none (by rw[mZO,hRC];omega),List.getElem?_eq_none (by rw[mZN];omega)]
theorem mZD (d:Bool)(k per words:Nat)(hk:k<=32)(l:List UInt64)(hl:l.length=2^k):apL (aZW d k per words) l=tfL d k l:=by
 unfold aZW;split
 ·exact uZt d k l hl
 ·exact vZP d k hk l
end Pln
namespace Sup
open Go Go.Hw Go.Form W Lay
theorem oZm (s:Int)(hs:0<aZg s)(H:Hp):Za prog 227 #[U s] H (RetE (I (cZn s+1)) H):=by
 apply cZZ.ok;unfold cZZ;refine Za.use (v:=I (cZn s+1)) ?_ (RetE.mk _ _);apply aZy.ok;have:s=32∨s=64∨s=128∨s=256∨s=512∨s=1024∨s=2048∨s=4096:=by
  unfold aZg at hs
  repeat' split at hs
  all_goals omega
 unfold aZy;rcases this with rfl|rfl|rfl|rfl|rfl|rfl|rfl|rfl
 all_goals
  refine aZe rfl ?_;unfold aZy.j4;refine aZe rfl ?_;unfold aZy.j7
  first
   |(refine aZE rfl ⟨by decide,by decide,?_⟩;refine sZs (by decide) ?_;exact RetE.of rfl)
   |(refine aZe rfl ⟨by decide,?_⟩;refine sZs (by decide) ?_;exact RetE.of rfl)
def bZE (k:Nat)(s:Int):Nat:=4702392716946833408+k*65536+(cZn s).toNat
def gZw (k sec s ar:Int):List UInt64:=[UInt64.ofNat (bZE k.toNat s),UInt64.ofNat sec.toNat,UInt64.ofNat ar.toNat]
def hZm (k sec s ar:Int):List UInt64:=gZw k sec s ar++[UInt64.ofNat (Go.Crc.sum (form (gZw k sec s ar))).toNat]
def bZ9 (k sec s ar:Int):List UInt8:=form (hZm k sec s ar)++List.replicate (s.toNat-32) 0
theorem sZB (s:Int):cZn s<=12:=by
 rcases hZL s with h|h<;>omega
theorem oZF (k:Nat)(sec s ar:Int)(hk:k<=65535)(hs:0<aZg s)(H:Hp):Za prog 195 #[.agg (bZ0 k sec s ar)] H (RetE (U ((UInt64.ofNat (bZE k s)).toNat:Int)) H):=by
 apply Za.ret;apply fZL.ok;unfold fZL;simp only[HS];refine(Sep.start H).nw fun b1 H hs'=>?_
 have hs0:=hs;have hs:=hs';have h1:=hZL s;have h2:=iZL s
 first|refine hs.ld 1 rfl rfl ?_|refine hs.ld 2 rfl rfl ?_|refine hs.ld 3 rfl rfl ?_|refine hs.ld 4 rfl rfl ?_|refine hs.ld 5 rfl rfl ?_|refine hs.ld 6 rfl rfl ?_|refine hs.ld 7 rfl rfl ?_|refine hs.ld 8 rfl rfl ?_
 try simp only[HV]
 refine⟨by omega,?_⟩
 first|refine hs.ld 1 rfl rfl ?_|refine hs.ld 2 rfl rfl ?_|refine hs.ld 3 rfl rfl ?_|refine hs.ld 4 rfl rfl ?_|refine hs.ld 5 rfl rfl ?_|refine hs.ld 6 rfl rfl ?_|refine hs.ld 7 rfl rfl ?_|refine hs.ld 8 rfl rfl ?_
 try simp only[HV]
 rw[dZl (x:=s)];refine ZS.use (oZm s hs0 H) ?_
 try simp only[HV]
 have h3:bZE k s<2^64:=by unfold bZE;omega
 rw[show cZn s+1-1=cZn s by omega,ZM (x:=cZn s),dZl (x:=cZn s),bZ5 (n:=k)];rw[rZl (i:=(16:Int)) (n:=16) rfl,Nat.mod_eq_of_lt (by omega)];obtain⟨g,hg⟩:=Int.eq_ofNat_of_zero_le (show 0<=cZn s by omega);have h4:k*2^16<2^64:=by omega
 rw[show(4702392716946833408:Int)=((4702392716946833408:Nat):Int)from rfl,orN (by omega) h4,hg,orN (nZ9 (by omega) h4) (by omega)];have e1:∀ q,q=4702392716946833408->q|||k*2^16=q+k*2^16:=fun q hq=>by
  have h5:∀ p,p=1094861123->p*2^32=q:=fun p hp=>by omega
  have:=Nat.shiftLeft_add_eq_or_of_lt (show k*2^16<2^32 by omega) 1094861123;rw[Nat.shiftLeft_eq,h5 _ rfl]at this;exact this.symm
 have e2:∀ q,q=4702392716946833408+k*2^16->q|||g=q+g:=fun q hq=>by
  have h5:∀ p,p=1094861123*2^16+k->p*2^16=q:=fun p hp=>by omega
  have:=Nat.shiftLeft_add_eq_or_of_lt (show g<2^16 by omega) (1094861123*2^16+k);rw[Nat.shiftLeft_eq,h5 _ rfl]at this;exact this.symm
 have e3:4702392716946833408+k*2^16+g=bZE k s:=by unfold bZE;rw[hg];rfl
 rw[e1 _ rfl,e2 _ rfl,e3];rw[show(UInt64.ofNat (bZE k s)).toNat=bZE k s from UInt64.toNat_ofNat_of_lt' h3];exact hs.fin 0 rfl _
theorem jZh (k sec s ar:Int):(hZm k sec s ar).length=4:=rfl
theorem jZg (k sec s ar:Int)(hs:0<aZg s):((bZ9 k sec s ar).length:Int)=s:=by
 have h1:=hZL s;unfold bZ9;rw[List.length_append,bZb,jZh,List.length_replicate];have:4<=aZg s:=by
  rcases h1 with h|h
  ·rw[h.2.2.2.2];have:2^2<=2^(cZn s-3).toNat:=Nat.pow_le_pow_right (by omega) (by omega);omega
  ·omega
 omega
theorem bZS :bZp prog 108=some (1,8,some #[.int .u64 0]):=by kernel_rfl
theorem oZC :bZp prog 5=some (1,1,some #[.int .u8 0]):=by kernel_rfl
theorem oZp (k sec s ar:Int)(h:bZy k sec s ar=false)(H:Hp):Za prog 184 #[.agg (bZ0 k sec s ar)] H (RetE (.tuple #[.slice none 0 0,I 1]) H):=by
 apply Za.ret;apply eZI.ok;unfold eZI;refine(Sep.start H).nw fun b1 H hs=>?_
 first|refine hs.ldw 1 rfl rfl ?_|refine hs.ldw 2 rfl rfl ?_|refine hs.ldw 3 rfl rfl ?_|refine hs.ldw 4 rfl rfl ?_|refine hs.ldw 5 rfl rfl ?_|refine hs.ldw 6 rfl rfl ?_|refine hs.ldw 7 rfl rfl ?_|refine hs.ldw 8 rfl rfl ?_
 try simp only[HV]
 refine Za.use (bZ2 k sec s ar H) ?_
 try simp only[HV]
 rw[h];exact hs.fin 0 rfl _
theorem eZ5 {x:Nat}(h:x<2^64:=by omega):(UInt64.ofNat x).toNat=x:=UInt64.toNat_ofNat_of_lt' h
theorem Put_ok (k sec s ar:Int)(h:bZy k sec s ar=true)(hsec:sec<=9223372036854775807):Tr prog 184 #[.agg (bZ0 k sec s ar)] [] fun v M=>∃ b,v= .tuple #[.slice (Io b) s.toNat s.toNat,I 0]/\M=[pts b (.row (Zn (bZ9 k sec s ar)) 5 s.toNat)]:=fun H _=>by
 have hg:=h;unfold bZy at hg;simp only[decide_eq_true_eq]at hg;obtain⟨h1,h2,h3,h4,h5,h6⟩:=hg;obtain⟨kn,rfl⟩:=Int.eq_ofNat_of_zero_le h1;have hp:=iZL s;have hlog:=hZL s;have hlen:=jZg kn sec s ar h3;apply eZI.ok;unfold eZI;simp only[HS];refine(Sep.start H).nw fun b1 H hs=>?_
 first|refine hs.ldw 1 rfl rfl ?_|refine hs.ldw 2 rfl rfl ?_|refine hs.ldw 3 rfl rfl ?_|refine hs.ldw 4 rfl rfl ?_|refine hs.ldw 5 rfl rfl ?_|refine hs.ldw 6 rfl rfl ?_|refine hs.ldw 7 rfl rfl ?_|refine hs.ldw 8 rfl rfl ?_
 try simp only[HV]
 refine Za.use (bZ2 kn sec s ar H) ?_
 try simp only[HV]
 rw[h];simp only[HV]
 first|refine hs.ldw 1 rfl rfl ?_|refine hs.ldw 2 rfl rfl ?_|refine hs.ldw 3 rfl rfl ?_|refine hs.ldw 4 rfl rfl ?_|refine hs.ldw 5 rfl rfl ?_|refine hs.ldw 6 rfl rfl ?_|refine hs.ldw 7 rfl rfl ?_|refine hs.ldw 8 rfl rfl ?_
 try simp only[HV]
 refine ZS.use (oZF kn sec s ar (by omega) h3 H) ?_
 try simp only[HV]
 first|refine hs.ld 1 rfl rfl ?_|refine hs.ld 2 rfl rfl ?_|refine hs.ld 3 rfl rfl ?_|refine hs.ld 4 rfl rfl ?_|refine hs.ld 5 rfl rfl ?_|refine hs.ld 6 rfl rfl ?_|refine hs.ld 7 rfl rfl ?_|refine hs.ld 8 rfl rfl ?_
 try simp only[HV]
 first|refine hs.ld 1 rfl rfl ?_|refine hs.ld 2 rfl rfl ?_|refine hs.ld 3 rfl rfl ?_|refine hs.ld 4 rfl rfl ?_|refine hs.ld 5 rfl rfl ?_|refine hs.ld 6 rfl rfl ?_|refine hs.ld 7 rfl rfl ?_|refine hs.ld 8 rfl rfl ?_
 try simp only[HV]
 rw[dZl (x:=sec),dZl (x:=ar)];have hw:([U ((UInt64.ofNat (bZE kn s)).toNat:Int),U sec,U ar]:List Value)=Zb (gZw kn sec s ar):=by
  unfold gZw Zb;simp only[List.map_cons,List.map_nil,Int.toNat_natCast];rw[eZ5 (x:=sec.toNat),eZ5 (x:=ar.toNat)];rw[show((sec.toNat:Nat):Int)=sec by omega,show((ar.toNat:Nat):Int)=ar by omega]
 rw[hw];refine hs.nw fun b2 H hs=>?_
 first|refine hs.ld 1 rfl rfl ?_|refine hs.ld 2 rfl rfl ?_|refine hs.ld 3 rfl rfl ?_|refine hs.ld 4 rfl rfl ?_|refine hs.ld 5 rfl rfl ?_|refine hs.ld 6 rfl rfl ?_|refine hs.ld 7 rfl rfl ?_|refine hs.ld 8 rfl rfl ?_
 try simp only[HV]
 refine hs.mks oZC rfl (n:=s.toNat) (m:=s.toNat) (by omega) (by omega) (Nat.le_refl _) (by omega) (by omega) fun bo H hs=>?_
 simp only[HV];have hc2:∀ H,H b2=some (.row (Zb (gZw kn sec s ar)) 108 3)->Cells H (Io b2) (Zb (gZw kn sec s ar)):=fun H hb=>Cells.row hb 0 3
 refine Za.use (CrcP.iZY (Io b2) 3 3 (gZw kn sec s ar) rfl (by omega) H (hc2 H (hs.get 2 rfl))) ?_
 try simp only[HV]
 have hsum:=(Go.Crc.sum (form (gZw kn sec s ar))).isLt;rw[bZ5 (n:=(Go.Crc.sum (form (gZw kn sec s ar))).toNat)];have hs:Sep [own _,pts b1 _,Own 108 1 (Io b2) 3 3 (Zb (gZw kn sec s ar)),pts bo (.row (aZH [.int .u8 0] s.toNat) 5 (s.toNat*1))] H:=hs.turn 2 rfl fun H1 hH=>⟨rfl,.inr ⟨b2,3,rfl,hH,by omega⟩⟩
 refine hs.app1 2 (by rfl) bZS (by omega) (by rfl) (by omega) (by omega) fun A' m' H hs=>?_
 simp only[HV];have hw4:Zb (gZw kn sec s ar)++[U ((Go.Crc.sum (form (gZw kn sec s ar))).toNat:Int)]=Zb (hZm kn sec s ar):=by
  unfold hZm Zb;rw[List.map_append];congr 1;simp only[List.map_cons,List.map_nil];rw[eZ5]
 rw[hw4]at hs;have hc4:Cells H A' (Zb (hZm kn sec s ar)):=by
  obtain⟨_,h7⟩:=hs.own 2 rfl;rcases h7 with⟨_,h8,_⟩|⟨b,mm,rfl,h8,_⟩
  ·omega
  ·exact Cells.row h8 0 4
 refine(FormP.Put_ok A' 4 m' (hZm kn sec s ar) rfl (by omega) H hc4).mono ?_;rintro v H' ⟨b4,hb4,rfl,rfl⟩;have hs:=hs.new hb4 (.row (Zn (form (hZm kn sec s ar))) 5 (8*4));simp only[HV];have hf:(form (hZm kn sec s ar)).length=32:=by rw[bZb];rfl
 have hmin:Nat.min 32 s.toNat=32:=by
  have:4<=aZg s:=by
   rcases hlog with h|h
   ·rw[h.2.2.2.2];have:2^2<=2^(cZn s-3).toNat:=Nat.pow_le_pow_right (by omega) (by omega);omega
   ·omega
  exact Nat.min_eq_left (by omega)
 refine hs.cp 3 (k:=32) (n:=s.toNat) (ys:=Zn (form (hZm kn sec s ar))) (by rfl) oZC rfl ?_ ?_ (fun y hy=>?_) fun H hs=>?_
 ·rw[hmin];refine iZP ?_ (by rw[ZO,hf]);have:=Cells.row (hs.get 4 (b:=b4) (o:=.row (Zn (form (hZm kn sec s ar))) 5 (8*4)) rfl) 0 32;rw[List.drop_zero,List.take_of_length_le (by rw[ZO,hf];exact Nat.le_refl _)]at this;exact this
 ·rw[ZO,hf,bZQ];rw[← hmin];simp;exact Nat.min_le_right _ _
 ·obtain⟨x,_,rfl⟩:=List.mem_map.1 hy;rfl
 simp only[HV];refine⟨_,⟨bo,rfl,rfl⟩,?_⟩;have hs:=hs.re [3] rfl;have e:setAt (aZH [.int .u8 0] s.toNat) 0 (Zn (form (hZm kn sec s ar)))=Zn (bZ9 kn sec s ar):=by
  unfold bZ9;rw[iZh,bZC];unfold setAt;rw[ZO,hf];simp[Zn]
 rw[e,Nat.mul_one]at hs;exact hs
theorem iZq (A:OA)(n m:Nat)(H:Hp):Za prog 191 #[.slice A n m] H (RetE (.bool (decide (0<aZg n))) H):=by
 apply fZb.ok;unfold fZb;refine Za.use (jZ4 0 n H) ?_
 try simp only[HV]
 unfold gZP;by_cases h:0<aZg n
 ·rw[if_pos (by omega)];exact RetE.of (by simp[h])
 ·rw[if_neg (by omega)];exact RetE.of (by simp[h])
def iZJ (bs:List UInt8):Bool:=(bs.drop 32).all (· ==0)
theorem xZZ (b:UInt8):((b.toNat:Int) !=0)= !(b==0):=by
 by_cases h:b=0
 ·subst h;rfl
 ·have:b.toNat≠0:=fun e=>h (UInt8.toNat_inj.1 (by rw[e];rfl))
  have h2:(b==0)=false:=by simpa using h
  rw[h2];simp;omega
theorem kZt (K:VK)(A:OA)(n m:Nat)(bs:List UInt8)(hn:n=bs.length)(hm:n<=9000000000000000000)(H:Hp)(hb:Cells H A (Zn bs))(r:Bool)(hK:K (.bool (bs.all (· ==0))) H):∀ d j:Nat,j+d=n->(bs.take j).all (· ==0)=true->
  aZJ.l2 K (d+1) A n m (n:Int) (j:Int) H
 |0,j,hj,h0=>by
  unfold aZJ.l2;refine Zg (by omega) ?_;rw[List.take_of_length_le (by omega)]at h0;rw[h0]at hK;exact hK
 |d+1,j,hj,h0=>by
  unfold aZJ.l2;refine Zm (by omega) ?_;have hlt:j<bs.length:=by omega
  refine hb.read (i:=j) (v:=.int .u8 (bs[j].toNat:Int)) (by rw[hZS,List.getElem?_eq_getElem hlt];rfl) rfl (by rw[ZO];omega) ?_;simp only[HV];rw[xZZ];by_cases h:bs[j]=0
  ·refine aZe (by simp[h]) ?_;rw[ZM];refine kZt K A n m bs hn hm H hb r hK d (j+1) (by omega) ?_;rw[List.take_succ_eq_append_getElem hlt,List.all_append,h0];simp[h]
  ·refine aZE (by simp[h]) ?_;have:bs.all (· ==0)=false:=by
    rw[List.all_eq_false];exact⟨bs[j],List.getElem_mem hlt,by simpa using h⟩
   rw[this]at hK;exact hK
theorem rZ5 (A:OA)(n m:Nat)(hnm:n<=m)(bs:List UInt8)(hn:n=bs.length)(h32:32<=n)(hm:n<=9000000000000000000)(H:Hp)(hb:Cells H A (Zn bs)):
  Za prog 193 #[.slice A n m] H (RetE (.bool (iZJ bs)) H):=by
 apply aZJ.ok;unfold aZJ;refine⟨by omega,by omega,n-32+1,?_⟩;have h1:=hb.shift (m:=m) (l:=32) (by rw[ZO];omega);rw[show(Zn bs).drop 32=Zn (bs.drop 32) by unfold Zn;rw[List.map_drop]]at h1;exact kZt _ _ (n-32) (m-32) (bs.drop 32) (by simp;omega) (by omega) H h1 true (RetE.mk _ _) (n-32) 0 (by omega) rfl
abbrev Sb :=Int×Int×Int×Int
def sbV (x:Sb):Array Value:=bZ0 x.1 x.2.1 x.2.2.1 x.2.2.2
def mZu (a b c:Nat):Nat:=(Go.Crc.sum (form [UInt64.ofNat a,UInt64.ofNat b,UInt64.ofNat c])).toNat
def eZN (bs:List UInt8):Sb:=(((Zv bs 0/65536%65536:Nat):Int),i64.wrap (Zv bs 8:Nat),((bs.length:Nat):Int),i64.wrap (Zv bs 16:Nat))
def aZ8 (bs:List UInt8):Sb×Int:=
 if aZg bs.length=0 then((0,0,0,0),15)
 else if Zv bs 0/4294967296≠1094861123∨iZJ bs=false then((0,0,0,0),10)
 else if Zv bs 24≠mZu (Zv bs 0) (Zv bs 8) (Zv bs 16)then((0,0,0,0),9)
 else if bZy (eZN bs).1 (eZN bs).2.1 (eZN bs).2.2.1 (eZN bs).2.2.2=true/\((Zv bs 0%65536:Nat):Int)=cZn bs.length then(eZN bs,0)
 else((0,0,0,0),1)
theorem tZl (bs:List UInt8):([U (Zv bs 0:Nat),U (Zv bs 8:Nat),U (Zv bs 16:Nat)]:List Value)=Zb [UInt64.ofNat (Zv bs 0),UInt64.ofNat (Zv bs 8),UInt64.ofNat (Zv bs 16)]:=by
 unfold Zb;simp only[List.map_cons,List.map_nil];rw[eZ5 (cZ6 bs 0),eZ5 (cZ6 bs 8),eZ5 (cZ6 bs 16)]
theorem vZz (a b c:Nat):mZu a b c<2^32:=(Go.Crc.sum _).isLt
theorem oZU {n:Int}(h:0<aZg n):n=((2^(cZn n).toNat:Nat):Int)/\5<=cZn n/\cZn n<=12:=by
 unfold aZg at h;unfold cZn
 repeat' split
 all_goals first|(subst_vars;refine⟨by decide,by decide,by decide⟩)|skip
 repeat' split at h
 all_goals omega
theorem sZ7 {t:Nat}(h:t<=62):aZR .i64 1 (t:Int)=((2^t:Nat):Int):=gZM h
theorem tZ6 {a:Nat}(ha:a<2^64)(hm:a/4294967296=1094861123){sec ar n:Int}(hn:0<aZg n):
  (bZy ((a/65536%65536:Nat):Int) sec (aZR .i64 1 ((a%64:Nat):Int)) ar=true/\bZE (a/65536%65536) (aZR .i64 1 ((a%64:Nat):Int))=a/\aZR .i64 1 ((a%64:Nat):Int)=n)↔
   (bZy ((a/65536%65536:Nat):Int) sec n ar=true/\((a%65536:Nat):Int)=cZn n):=by
 obtain⟨h1,h2,h3⟩:=oZU hn;constructor
 ·rintro⟨g1,g2,g3⟩;rw[g3]at g1 g2;refine⟨g1,?_⟩;unfold bZE at g2;omega
 ·rintro⟨g1,g2⟩;obtain⟨t,ht⟩:=Int.eq_ofNat_of_zero_le (show 0<=cZn n by omega);have h64:a%64=t:=by omega
  have hv:aZR .i64 1 ((a%64:Nat):Int)=n:=by
   rw[h64,sZ7 (by omega),h1,ht];rfl
  rw[hv];refine⟨g1,?_,rfl⟩;unfold bZE;rw[ht]at g2⊢;have:(Int.toNat (t:Int))=t:=Int.toNat_natCast t;rw[this];omega
theorem hZG (K:VK)(d b1 b2:Nat)(A:OA)(n m:Nat)(hnm:n<=m)(hm:n<=9000000000000000000)(bs:List UInt8)(hn:n=bs.length)(h32:32<=n)(H0 H:Hp)(hb:Cells H0 A (Zn bs))(c:Array Value)(hc:c.size=4)(z:Array Value)(e1 e2:TypeId)(i:Nat)(hi:i<4)
  (hs:Sep [own H0,pts b1 (Is z e1),pts b2 (Is c e2)] H)
  (k:∀ H,Sep [own H0,pts b1 (Is z e1),pts b2 (Is (c.setIfInBounds i (U (Zv bs (8*i):Nat))) e2)] H->aZw.l5 K d A n m (O b1) (O b2) ((i+1:Nat):Int) H):
  aZw.l5 K (d+1) A n m (O b1) (O b2) (i:Int) H:=by
 conv=>unfold aZw.l5 aZw.l5.q1
 refine Zm (by omega) ?_;refine Za.use (FormP.Word_ok A n m hnm hm bs hn i (by omega) H (hb.le (hs.ow 0 rfl))) ?_
 try simp only[HV]
 refine hs.stx 2 rfl (j:=i) rfl hi (by omega) rfl fun H hs=>?_;rw[ZM (x:=(i:Int)+1)];exact k H hs
theorem fZ1 (K:VK){L:List As}{H:Hp}(hs:Sep L H){b1:Nat}{z:Array Value}{e1:TypeId}(i:Nat)(hi:L[i]? =some (pts b1 (Is z e1)))(hz:z.size=4)(e:Int)(y:Array Value)(hy:y.size=4)(hv:y.toList.all (fun v=>v.oneCell')=true)
  (hK:∀ H,Sep (L.set i (pts b1 (Is y e1))) H->K (.tuple #[.agg y,I e]) H):StA H (O b1) y 4 fun H3=>LdA H3 (O b1) 4 fun l7=>K (.tuple #[.agg l7.toArray,I e]) H3:=by
 refine hs.stw i hi hz hy hv fun H hs=>?_;have hlt:=(List.getElem?_eq_some_iff.1 hi).1;refine hs.ldw i (b:=b1) (c:=y) (e:=e1) (by rw[List.getElem?_set];simp[hlt]) hy ?_;rw[Array.toArray_toList];exact hK H hs
theorem iZB (A:OA)(n m:Nat)(hnm:n<=m)(hm:n<=9000000000000000000)(bs:List UInt8)(hn:n=bs.length)(H:Hp)(hb:Cells H A (Zn bs)):
  Za prog 139 #[.slice A n m] H (RetE (.tuple #[.agg (sbV (aZ8 bs).1),I (aZ8 bs).2]) H):=by
 apply Za.ret;apply aZw.ok;unfold aZw;refine(Sep.start H).nw fun b1 H' hs=>?_
 have fin:∀{L:List As} {H':Hp} (x:Sb) (e:Int),Sep L H'->L[0]? =some (own H)->aZ8 bs=(x,e)->Ret (.tuple #[.agg (sbV (aZ8 bs).1),I (aZ8 bs).2]) H (.tuple #[.agg (sbV x),I e]) H':=fun x e hs h0 he=>by
  rw[he];exact hs.fin 0 h0 _
 refine Za.use (iZq A n m H') ?_
 try simp only[HV]
 by_cases hp:aZg (n:Int)=0
 ·refine aZE (by simp;omega) ?_;refine fZ1 _ hs 1 rfl rfl 15 _ rfl rfl fun H' hs=>fin (0,0,0,0) 15 hs rfl ?_
  unfold aZ8;rw[← hn,if_pos hp]
 refine aZe (by simp;omega) ?_;refine hs.nw fun b2 H' hs=>?_
 have hp':0<aZg (n:Int):=by omega
 have h32:32<=n:=by
  obtain⟨h1,h2,h3⟩:=oZU hp';have:2^5<=2^(cZn n).toNat:=Nat.pow_le_pow_right (by omega) (by omega);omega
 refine⟨5,?_⟩;refine hZG _ 4 b1 b2 A n m hnm hm bs hn h32 H H' hb _ rfl _ _ _ 0 (by omega) hs fun H' hs=>?_
 refine hZG _ 3 b1 b2 A n m hnm hm bs hn h32 H H' hb _ rfl _ _ _ 1 (by omega) hs fun H' hs=>?_
 refine hZG _ 2 b1 b2 A n m hnm hm bs hn h32 H H' hb _ rfl _ _ _ 2 (by omega) hs fun H' hs=>?_
 refine hZG _ 1 b1 b2 A n m hnm hm bs hn h32 H H' hb _ rfl _ _ _ 3 (by omega) hs fun H' hs=>?_
 have hs:Sep [own H,pts b1 (Is #[I 0,I 0,I 0,I 0] 45),pts b2 (Is #[U (Zv bs 0:Nat),U (Zv bs 8:Nat),U (Zv bs 16:Nat),U (Zv bs 24:Nat)] 295)] H':=hs;have w0:=cZ6 bs 0;unfold aZw.l5 aZw.l5.q1;refine Zg (by omega) ?_;refine hs.ldx 2 rfl (j:=0) rfl (by omega) rfl ?_;simp only[HV];refine⟨by omega,?_⟩;refine hs.ldx 2 rfl (j:=0) rfl (by omega) rfl ?_;simp only[HV];rw[show aZD .u64 ((Zv bs 0:Nat):Int) 63=((Zv bs 0%64:Nat):Int) by rw[show(63:Int)=((63:Nat):Int)from rfl,mZt w0,Nat.and_two_pow_sub_one_eq_mod _ 6]];refine⟨by omega,?_⟩;refine hs.ldx 2 rfl (j:=1) rfl (by omega) rfl ?_;simp only[HV];refine hs.ldx 2 rfl (j:=2) rfl (by omega) rfl ?_;simp only[HV];refine hs.nw fun b3 H' hs=>?_
 refine hs.stw 3 rfl rfl rfl rfl fun H' hs=>?_
 have e16:i64.wrap (aZD .u64 (aZC .u64 ((Zv bs 0:Nat):Int) 16) 65535)=((Zv bs 0/65536%65536:Nat):Int):=by
  rw[hZ6 (i:=(16:Int)) (n:=16) rfl (by decide),show(65535:Int)=((65535:Nat):Int)from rfl,mZt,Nat.and_two_pow_sub_one_eq_mod _ 16,bZc]
 rw[e16]at hs;refine hs.ldx 2 rfl (j:=0) rfl (by omega) rfl ?_;simp only[HV];refine⟨by omega,?_⟩;rw[hZ6 (i:=(32:Int)) (n:=32) rfl (by decide)];by_cases hmg:Zv bs 0/4294967296=1094861123
 ·refine Zr (by omega) ?_;refine Za.use (rZ5 A n m hnm bs hn h32 (by omega) H' (hb.le (hs.ow 0 rfl))) ?_
  try simp only[HV]
  by_cases hz:iZJ bs=true
  ·refine aZe (by simp[hz]) ?_;refine hs.ldx 2 rfl (j:=3) rfl (by omega) rfl ?_;simp only[HV];refine⟨by omega,by omega,?_⟩;have hc3:=Cells.obj (hs.get 2 (b:=b2) (o:=Is #[U (Zv bs 0:Nat),U (Zv bs 8:Nat),U (Zv bs 16:Nat),U (Zv bs 24:Nat)] 295) rfl) 3;have hc3:Cells H' (Io b2) (Zb [UInt64.ofNat (Zv bs 0),UInt64.ofNat (Zv bs 8),UInt64.ofNat (Zv bs 16)]):=by
    rw[← tZl];exact hc3
   refine ZS.use (CrcP.iZY (Io b2) 3 4 _ rfl (by omega) H' hc3) ?_;simp only[HV];have hcl:=vZz (Zv bs 0) (Zv bs 8) (Zv bs 16);rw[show(Go.Crc.sum (form [UInt64.ofNat (Zv bs 0),UInt64.ofNat (Zv bs 8),UInt64.ofNat (Zv bs 16)])).toNat=mZu (Zv bs 0) (Zv bs 8) (Zv bs 16)from rfl,bZ5];by_cases hcr:Zv bs 24=mZu (Zv bs 0) (Zv bs 8) (Zv bs 16)
   ·refine Zr (by omega) ?_;refine hs.ldw 3 rfl rfl ?_;have hiff:=tZ6 w0 hmg (sec:=i64.wrap (Zv bs 8:Nat)) (ar:=i64.wrap (Zv bs 16:Nat)) hp';have hno:¬(bZy (eZN bs).1 (eZN bs).2.1 (eZN bs).2.2.1 (eZN bs).2.2.2=true/\((Zv bs 0%65536:Nat):Int)=cZn bs.length)->aZ8 bs=((0,0,0,0),1):=fun h=>by
     unfold aZ8;rw[← hn,if_neg (by omega),if_neg (by simp[hmg,hz]),if_neg (by simp[hcr]),if_neg (by rw[hn];exact h)]
    have hyes:(bZy (eZN bs).1 (eZN bs).2.1 (eZN bs).2.2.1 (eZN bs).2.2.2=true/\((Zv bs 0%65536:Nat):Int)=cZn bs.length)->aZ8 bs=(eZN bs,0):=fun h=>by
     unfold aZ8;rw[← hn,if_neg (by omega),if_neg (by simp[hmg,hz]),if_neg (by simp[hcr]),if_pos (by rw[hn];exact h)]
    have hsb:eZN bs=(((Zv bs 0/65536%65536:Nat):Int),i64.wrap (Zv bs 8:Nat),(n:Int),i64.wrap (Zv bs 16:Nat)):=by unfold eZN;rw[hn]
    rw[hsb]at hno hyes;simp only at hno hyes;rw[← hn]at hno hyes;rw[← hiff]at hno hyes;refine ZS.use (bZ2 ((Zv bs 0/65536%65536:Nat):Int) (i64.wrap (Zv bs 8:Nat)) (aZR .i64 1 ((Zv bs 0%64:Nat):Int)) (i64.wrap (Zv bs 16:Nat)) H') ?_;simp only[HV];by_cases hg:bZy ((Zv bs 0/65536%65536:Nat):Int) (i64.wrap (Zv bs 8:Nat)) (aZR .i64 1 ((Zv bs 0%64:Nat):Int)) (i64.wrap (Zv bs 16:Nat))=true
    ·refine aZe (by rw[hg];rfl) ?_;refine hs.ldw 3 rfl rfl ?_;have hg2:=hg;unfold bZy at hg2;simp only[decide_eq_true_eq]at hg2;refine ZS.use (oZF (Zv bs 0/65536%65536) (i64.wrap (Zv bs 8:Nat)) (aZR .i64 1 ((Zv bs 0%64:Nat):Int)) (i64.wrap (Zv bs 16:Nat)) (by omega) hg2.2.2.1 H') ?_;simp only[HV];have hf64:bZE (Zv bs 0/65536%65536) (aZR .i64 1 ((Zv bs 0%64:Nat):Int))<2^64:=by
      have:=sZB (aZR .i64 1 ((Zv bs 0%64:Nat):Int));unfold bZE;omega
     rw[eZ5 hf64];refine hs.ldx 2 rfl (j:=0) rfl (by omega) rfl ?_;simp only[HV];by_cases hf:bZE (Zv bs 0/65536%65536) (aZR .i64 1 ((Zv bs 0%64:Nat):Int))=Zv bs 0
     ·refine Zr (by omega) ?_;simp only[HS];refine hs.ld 3 rfl rfl ?_;simp only[HV];by_cases hv:aZR .i64 1 ((Zv bs 0%64:Nat):Int)=(n:Int)
      ·refine Zr hv ?_;refine hs.ldw 3 rfl rfl ?_;have hy:=hyes ⟨hg,hf,hv⟩;rw[hv];refine fZ1 _ hs 1 rfl rfl 0 _ rfl rfl fun H' hs=>fin _ 0 hs rfl hy
      ·refine Zz hv ?_;refine fZ1 _ hs 1 rfl rfl 1 _ rfl rfl fun H' hs=>fin (0,0,0,0) 1 hs rfl (hno fun h=>hv h.2.2)
     ·refine Zz (by omega) ?_;refine fZ1 _ hs 1 rfl rfl 1 _ rfl rfl fun H' hs=>fin (0,0,0,0) 1 hs rfl (hno fun h=>hf h.2.1)
    ·refine aZE (by rw[Bool.not_eq_true]at hg;rw[hg];rfl) ?_;refine fZ1 _ hs 1 rfl rfl 1 _ rfl rfl fun H' hs=>fin (0,0,0,0) 1 hs rfl (hno fun h=>hg h.1)
   ·refine Zz (by omega) ?_;refine fZ1 _ hs 1 rfl rfl 9 _ rfl rfl fun H' hs=>fin (0,0,0,0) 9 hs rfl ?_
    unfold aZ8;rw[← hn,if_neg (by omega),if_neg (by simp[hmg,hz]),if_pos hcr]
  ·refine aZE (by simp[hz]) ?_;refine fZ1 _ hs 1 rfl rfl 10 _ rfl rfl fun H' hs=>fin (0,0,0,0) 10 hs rfl ?_
   unfold aZ8;rw[← hn,if_neg (by omega),if_pos (.inr (by simpa using hz))]
 ·refine Zz (by omega) ?_;refine fZ1 _ hs 1 rfl rfl 10 _ rfl rfl fun H' hs=>fin (0,0,0,0) 10 hs rfl ?_
  unfold aZ8;rw[← hn,if_neg (by omega),if_pos (.inl hmg)]
theorem rZM (k sec s ar:Int)(H:Hp):Za prog 141 #[.agg (bZ0 k sec s ar)] H (RetE (if bZy k sec s ar=true then .tuple #[.agg (dZk k.toNat (aZg s)),I 0]else .tuple #[.agg oZO,I 1]) H):=by
 apply Za.ret;apply fZa.ok;unfold fZa;simp only[HS];refine(Sep.start H).nw fun b1 H' hs=>?_
 refine hs.nw fun b2 H' hs=>?_
 first|refine hs.ldw 1 rfl rfl ?_|refine hs.ldw 2 rfl rfl ?_|refine hs.ldw 3 rfl rfl ?_|refine hs.ldw 4 rfl rfl ?_|refine hs.ldw 5 rfl rfl ?_|refine hs.ldw 6 rfl rfl ?_|refine hs.ldw 7 rfl rfl ?_|refine hs.ldw 8 rfl rfl ?_
 try simp only[HV]
 refine Za.use (bZ2 k sec s ar H') ?_
 try simp only[HV]
 by_cases h:bZy k sec s ar=true
 ·rw[if_pos h,h];simp only[HV];have hg:=h;unfold bZy at hg;simp only[decide_eq_true_eq]at hg
  first|refine hs.ld 1 rfl rfl ?_|refine hs.ld 2 rfl rfl ?_|refine hs.ld 3 rfl rfl ?_|refine hs.ld 4 rfl rfl ?_|refine hs.ld 5 rfl rfl ?_|refine hs.ld 6 rfl rfl ?_|refine hs.ld 7 rfl rfl ?_|refine hs.ld 8 rfl rfl ?_
  try simp only[HV]
  first|refine hs.ld 1 rfl rfl ?_|refine hs.ld 2 rfl rfl ?_|refine hs.ld 3 rfl rfl ?_|refine hs.ld 4 rfl rfl ?_|refine hs.ld 5 rfl rfl ?_|refine hs.ld 6 rfl rfl ?_|refine hs.ld 7 rfl rfl ?_|refine hs.ld 8 rfl rfl ?_
  try simp only[HV]
  first|refine hs.ld 1 rfl rfl ?_|refine hs.ld 2 rfl rfl ?_|refine hs.ld 3 rfl rfl ?_|refine hs.ld 4 rfl rfl ?_|refine hs.ld 5 rfl rfl ?_|refine hs.ld 6 rfl rfl ?_|refine hs.ld 7 rfl rfl ?_|refine hs.ld 8 rfl rfl ?_
  try simp only[HV]
  refine Za.use (eZO k sec s H') ?_
  try simp only[HV]
  have:OfV k sec s=(dZk k.toNat (aZg s),0):=by unfold OfV;rw[if_pos (by omega),if_neg (by omega)]
  rw[this];refine hs.stw 2 rfl rfl rfl rfl fun H' hs=>?_
  refine hs.ldw 2 rfl rfl ?_;exact hs.fin 0 rfl _
 ·rw[Bool.not_eq_true]at h;rw[if_neg (by rw[h];simp),h];simp only[HV];refine hs.stw 2 rfl rfl rfl rfl fun H' hs=>?_
  refine hs.ldw 2 rfl rfl ?_;exact hs.fin 0 rfl _
end Sup
namespace Sup
open Go Go.Hw Go.Form W Lay Dsk
theorem kZ1 :∀ n,leN (List.replicate n 0)=0
 |0=>rfl
 |n+1=>by
  rw[List.replicate_succ];show(0:UInt8).toNat+256*leN (List.replicate n 0)=0
  rw[kZ1 n];rfl
theorem rZq (s:Nat)(hs:0<aZg s):aZ8 (List.replicate s 0)=((0,0,0,0),10):=by
 unfold aZ8;rw[List.length_replicate,if_neg (by omega),if_pos];left;have:Zv (List.replicate s 0) 0=0:=by
  unfold Zv;rw[List.drop_zero,List.take_replicate,kZ1]
 rw[this];decide
def ofB (d:D)(sec s:Int):Bool:=decide (sec=d.sec/\s=d.size)
theorem nZ8 {L:List As}{H:Hp}{p:Nat}{d:D}(hs0:Sep L H)(i:Nat)(hi:L[i]? =some (Dk p d))(k sec s ar:Int):Za prog 140 #[V p,.agg (bZ0 k sec s ar)] H (RetE (.bool (ofB d sec s)) H):=by
 apply Za.ret;apply hZw.ok;unfold hZw;refine(Sep.start H).nw fun b1 H' hs=>?_
 have hle:=hs.ow 0 rfl;refine hs.ld 1 rfl rfl ?_;simp only[HV]
 try simp only[HS]
 refine ZS.use (eZU (hs0.up hle) i hi) ?_;simp only[HV];by_cases h1:sec=d.sec
 ·refine Zt h1 (hs.ld 1 rfl rfl ?_);simp only[HV]
  try simp only[HS]
  refine ZS.use (hZP (hs0.up hle) i hi) ?_;simp only[HV];have e:(s==(d.size:Int))=ofB d sec s:=by
   unfold ofB;by_cases h2:s=d.size
   ·simp[h1,h2]
   ·simp[h2]
  rw[e];exact hs.fin 0 rfl _
 ·refine Zu h1 ?_;have e:ofB d sec s=false:=by unfold ofB;simp[h1]
  rw[e];exact hs.fin 0 rfl _
def wrV (d:D)(k sec s ar:Int):Int×D:=
 if bZy k sec s ar=false∨ofB d sec s=false then(1,d)
 else if d.writeE 0 s.toNat≠0 then(d.writeE 0 s.toNat,d.writeD 0 (bZ9 k sec s ar))
 else((d.writeD 0 (bZ9 k sec s ar)).syncE,(d.writeD 0 (bZ9 k sec s ar)).syncD)
theorem sZ5 {p:Nat}{d:D}(hok:Ok d)(hb:d.wr<=1000000/\d.sy<=1000000)(k sec s ar:Int)(hsec:sec<=9223372036854775807):
  Tr prog 130 #[V p,.agg (bZ0 k sec s ar)] [Dk p d] fun v M=>v= I (wrV d k sec s ar).1/\M=[Dk p (wrV d k sec s ar).2]:=fun H hs=>by
 apply fZK.ok;unfold fZK;refine hs.nw fun b1 H hs=>?_
 refine hs.ldw 1 rfl rfl ?_;cases hg:bZy k sec s ar with
 |false=>
  refine Za.use (oZp k sec s ar hg H) ?_;simp only[HV];have e:wrV d k sec s ar=(1,d):=by unfold wrV;rw[if_pos (.inl hg)]
  rw[e];exact Zz (by omega) ⟨_,⟨rfl,rfl⟩,hs.re [0] rfl⟩
 |true=>
  refine(Put_ok k sec s ar hg hsec).use hs [] rfl rfl ?_;rintro _ _ H ⟨b,rfl,rfl⟩ hs;simp only[HV];refine Zr rfl ?_;have hs:Sep [pts b (.row (Zn (bZ9 k sec s ar)) 5 s.toNat),Dk p d,pts b1 (Is (bZ0 k sec s ar) 45)] H:=hs;refine hs.ldw 2 rfl rfl ?_;refine Za.use (nZ8 hs 1 rfl k sec s ar) ?_;simp only[HV];cases ho:ofB d sec s with
  |false=>
   have e:wrV d k sec s ar=(1,d):=by unfold wrV;rw[if_pos (.inr ho)]
   rw[e];exact aZE rfl ⟨_,⟨rfl,rfl⟩,hs.re [1] rfl⟩
  |true=>
   refine aZe rfl ?_;have hper:0<aZg s:=by
    unfold bZy at hg;simp only[decide_eq_true_eq]at hg;exact hg.2.2.1
   have hl:=jZg k sec s ar hper;refine(eZu (p:=p) (d:=d) hok (by omega) 0 (Io b) s.toNat s.toNat (bZ9 k sec s ar) (by omega) (pts b (.row (Zn (bZ9 k sec s ar)) 5 s.toNat)) (fun H h=>?_)).use hs [1,0] rfl rfl ?_
   ·have:=Cells.row h 0 s.toNat;rw[List.drop_zero,List.take_of_length_le (by rw[ZO];omega)]at this;exact this
   rintro _ _ H ⟨rfl,rfl⟩ hs;simp only[HV];by_cases he:d.writeE 0 s.toNat=0
   ·refine Zr he ?_;have e:wrV d k sec s ar=((d.writeD 0 (bZ9 k sec s ar)).syncE,(d.writeD 0 (bZ9 k sec s ar)).syncD):=by
     unfold wrV;rw[if_neg (by rw[hg,ho];simp),if_neg (by rw[he];simp)]
    have hsy:(d.writeD 0 (bZ9 k sec s ar)).sy=d.sy:=by
     have hbr:=cZf d;unfold D.writeD;split
     ·rfl
     ·split
      ·rfl
      ·split
       ·exact hbr.2.2.1
       ·exact hbr.2.2.1
    refine(hZK (p:=p) (d:=d.writeD 0 (bZ9 k sec s ar)) (Ok.writeD hok 0 _) (by rw[hsy];omega)).use hs [0] rfl rfl ?_;rintro _ _ H ⟨rfl,rfl⟩ hs;simp only[HV];rw[e];exact⟨_,⟨rfl,rfl⟩,hs.re [0] rfl⟩
   ·have e:wrV d k sec s ar=(d.writeE 0 s.toNat,d.writeD 0 (bZ9 k sec s ar)):=by
     unfold wrV;rw[if_neg (by rw[hg,ho];simp),if_pos he]
    rw[e];exact Zz he ⟨_,⟨rfl,rfl⟩,hs.re [0] rfl⟩
def rdV (d:D)(bs:List UInt8):Sb×Int:=
 if(aZ8 bs).2≠0 then((0,0,0,0),(aZ8 bs).2)else if ofB d (aZ8 bs).1.2.1 (aZ8 bs).1.2.2.1=true then((aZ8 bs).1,0)else((0,0,0,0),1)
theorem uZo {p:Nat}{d:D}(hok:Ok d)(ho:d.rd<=1000000)(hc:d.chk 0=0)(hb:d.burns=false):
  Tr prog 79 #[V p] [Dk p d] fun v M=>v= .tuple #[.agg (sbV (rdV d (d.now 0)).1),I (rdV d (d.now 0)).2]/\M=[Dk p { d.burnt with rd:=d.rd+1}]:=fun H hs=>by
 have hnow:=hok.now 0;have hsz:=hok.size;have hbr:=cZf d;apply eZh.ok;unfold eZh;refine hs.nw fun b1 H hs=>?_
 refine(jZ6 (p:=p) (d:=d) hok (by omega) 0).use hs [0] rfl rfl ?_;rintro _ _ H (⟨h,_⟩|⟨_,h,_⟩|⟨_,_,b,c,m,rfl,hcc,rfl⟩) hs
 ·exact absurd hc h
 ·rw[hb]at h;cases h
 ·simp only[HV];refine Zr rfl ?_;have hcell:Cells H (Io b) (Zn (d.now 0)):=by
   have:=Cells.row (hs.get 1 (b:=b) (o:=.row (Zn (d.now 0)) 5 m) rfl) 0 d.size;rw[List.drop_zero,List.take_of_length_le (by rw[ZO];omega)]at this;exact this
  refine Za.use (iZB (Io b) d.size c hcc (by omega) (d.now 0) hnow.symm H hcell) ?_;simp only[HV];have hof:∀ x y,ofB { d.burnt with rd:=d.rd+1} x y=ofB d x y:=fun x y=>by
   unfold ofB;show decide (x=(d.burnt.sec:Int)/\y=(d.burnt.size:Int))=_
   rw[hbr.2.2.2.2.1,hbr.2.2.2.1]
  unfold rdV;generalize aZ8 (d.now 0)=tv at*;obtain⟨⟨k,sec,s,ar⟩,e⟩:=tv;have hs:Sep [Dk p { d.burnt with rd:=d.rd+1},pts b (.row (Zn (d.now 0)) 5 m),pts b1 (Is (bZ0 0 0 0 0) 45)] H:=hs;refine hs.nw fun b2 H hs=>?_
  refine hs.stw 3 (y:=bZ0 k sec s ar) rfl rfl rfl rfl fun H hs=>?_;have hs:Sep [Dk p { d.burnt with rd:=d.rd+1},pts b (.row (Zn (d.now 0)) 5 m),pts b1 (Is (bZ0 0 0 0 0) 45),pts b2 (Is (bZ0 k sec s ar) 45)] H:=hs;by_cases he:e=0
  ·refine Zr he ?_;refine hs.ldw 3 rfl rfl ?_;refine Za.use (nZ8 hs 0 rfl k sec s ar) ?_;rw[hof];simp only[HV];cases hob:ofB d sec s with
   |false=>
    refine aZE rfl ?_;refine hs.stw 2 rfl rfl rfl rfl fun H hs=>?_;refine hs.ldw 2 rfl rfl ?_;refine⟨_,⟨?_,rfl⟩,hs.re [0] rfl⟩;rw[if_neg (by simpa using he),if_neg (by simp)];rfl
   |true=>
    refine aZe rfl ?_;refine hs.ldw 3 rfl rfl ?_;refine hs.stw 2 rfl rfl rfl rfl fun H hs=>?_;refine hs.ldw 2 rfl rfl ?_;refine⟨_,⟨?_,rfl⟩,hs.re [0] rfl⟩;rw[if_neg (by simpa using he),if_pos rfl];rfl
  ·refine Zz he ?_;refine hs.stw 2 rfl rfl rfl rfl fun H hs=>?_;refine hs.ldw 2 rfl rfl ?_;refine⟨_,⟨?_,rfl⟩,hs.re [0] rfl⟩;rw[if_pos (by simpa using he)];rfl
end Sup
namespace Eng
open Go Go.Hw Go.Form Dsk Str Rec Srt Rng Pln
structure Log (L:List R):Prop where
 u:∀ r∈L,r.u32
 g:∀ r∈L,r.good
 hd:∀ r,L[0]? =some r->r.s=1/\r.kd=1
 ch:∀ i a b,L[i]? =some a->L[i+1]? =some b->after a b
theorem Log.nil :Log []:=⟨fun _ h=>(by cases h),fun _ h=>(by cases h),fun _ h=>(by simp at h),fun _ _ _ h=>(by simp at h)⟩
theorem Log.snoc {L:List R}(h:Log L){r:R}(hg:r.good)(hu:r.u32)(hm:cZQ L.getLast? r=true):Log (L++[r]):=by
 refine⟨fun x hx=>?_,fun x hx=>?_,fun x hx=>?_,fun i a b ha hb=>?_⟩
 ·rcases List.mem_append.1 hx with h1|h1
  ·exact h.u x h1
  ·rw[List.mem_singleton.1 h1];exact hu
 ·rcases List.mem_append.1 hx with h1|h1
  ·exact h.g x h1
  ·rw[List.mem_singleton.1 h1];exact hg
 ·cases L with
  |nil=>
   have:r=x:=by simpa using hx
   subst this;exact of_decide_eq_true hm
  |cons y L=>exact h.hd x (by simpa using hx)
 ·have hb2:=hb;rw[List.getElem?_append]at ha hb;have hlt:=(List.getElem?_eq_some_iff.1 hb2).1;rw[List.length_append,List.length_singleton]at hlt;rw[if_pos (by omega)]at ha;by_cases e:i+1<L.length
  ·rw[if_pos e]at hb;exact h.ch i a b ha hb
  ·rw[if_neg e]at hb;have e2:i+1-L.length=0:=by omega
   rw[e2]at hb;have:r=b:=by simpa using hb
   subst this;have hl:L.getLast? =some a:=by rw[List.getLast?_eq_getElem?,show L.length-1=i by omega];exact ha
   rw[hl]at hm;exact of_decide_eq_true hm
theorem Log.init {L:List R}{r:R}(h:Log (L++[r])):Log L/\r.good/\r.u32/\cZQ L.getLast? r=true:=by
 refine⟨⟨fun x hx=>h.u x (List.mem_append_left _ hx),fun x hx=>h.g x (List.mem_append_left _ hx),fun x hx=>?_,fun i a b ha hb=>?_⟩,h.g r (by simp),h.u r (by simp),?_⟩
 ·exact h.hd x (by rw[List.getElem?_append_left (List.getElem?_eq_some_iff.1 hx).1];exact hx)
 ·exact h.ch i a b (by rw[List.getElem?_append_left (List.getElem?_eq_some_iff.1 ha).1];exact ha) (by rw[List.getElem?_append_left (List.getElem?_eq_some_iff.1 hb).1];exact hb)
 ·cases hl:L.getLast? with
  |none=>
   rw[List.getLast?_eq_none_iff]at hl;subst hl;exact decide_eq_true (h.hd r (by simp))
  |some a=>
   have hn:L≠ []:=fun e=>by rw[e]at hl;simp at hl
   have hp:=List.length_pos_iff.2 hn;rw[List.getLast?_eq_getElem?]at hl;refine decide_eq_true (h.ch (L.length-1) a r ?_ ?_)
   ·rw[List.getElem?_append_left (by omega)];exact hl
   ·rw[show L.length-1+1=L.length by omega,List.getElem?_append_right (Nat.le_refl _),Nat.sub_self];rfl
theorem Log.num {L:List R}(h:Log L):∀ i a,L[i]? =some a->a.s=i+1
 |0,a,ha=>(h.hd a ha).1
 |i+1,a,ha=>by
  have hlt:=(List.getElem?_eq_some_iff.1 ha).1;have hb:L[i]? =some L[i]:=List.getElem?_eq_getElem (by omega);have:=h.num i _ hb;have h2:=(h.ch i _ a hb ha).2.2.1;omega
theorem Log.last {L:List R}(h:Log L){r:R}(hr:L.getLast? =some r):r.good/\r.u32/\r.s=L.length:=by
 have hn:L≠ []:=fun e=>by rw[e]at hr;simp at hr
 have hp:=List.length_pos_iff.2 hn;have hm:r∈L:=List.mem_of_getLast? hr;rw[List.getLast?_eq_getElem?]at hr;have:=h.num _ _ hr;exact⟨h.g r hm,h.u r hm,by omega⟩
def lZ6 (size:Nat)(L:List R):Nat->List UInt8:=L.foldl (fun f r=>fun j=>if j=(r.s-1)%8 then r.form size else f j) (fun _=>List.replicate size 0)
theorem jZe (size:Nat)(L:List R)(r:R)(j:Nat):lZ6 size (L++[r]) j=if j=(r.s-1)%8 then r.form size else lZ6 size L j:=by
 unfold lZ6;rw[List.foldl_append];rfl
def Ring (size:Nat)(L:List R)(c:Cn):Prop:=∀ i,i<8->c ((1+i:Nat):Int)=lZ6 size L i
theorem tZk (c:Cn)(k:Nat)(a b:List UInt8):bZD (bZD c k a) k b=bZD c k b:=funext fun i=>by
 unfold bZD;split<;>rfl
theorem wZt (c:Cn)(k:Nat):bZD c k (c k)=c:=funext fun i=>by
 unfold bZD;split
 ·rename_i h;rw[h]
 ·rfl
theorem kZo (c:Cn)(k:Nat)(b:List UInt8):bZD c k b k=b:=if_pos rfl
theorem iZS (c:Cn){k:Nat}(b:List UInt8){i:Int}(h:i≠k:=by omega):bZD c k b i=c i:=if_neg h
theorem Ring.upd {size:Nat}{L:List R}{c:Cn}(h:Ring size L c)(r:R):Ring size (L++[r]) (bZD c (aZX 1 8 r.s) (r.form size)):=fun i hi=>by
 rw[jZe];unfold aZX;by_cases e:i=(r.s-1)%8
 ·rw[if_pos e,e,kZo]
 ·rw[if_neg e,iZS _ _];exact h i hi
theorem rZg {size:Nat}(hs:secB (size:Int)=true):(aZ8 (List.replicate size 0)).2≠0:=by
 unfold Rec.aZ8;rw[List.length_replicate,if_pos hs,if_neg]
 ·decide
 ·intro h;have:Zv (List.replicate size 0) 0=0:=by
   unfold Zv;rw[List.drop_zero,List.take_replicate,Sup.kZ1]
  rw[this]at h;exact absurd h.1 (by decide)
theorem Ring.last {size:Nat}(hsec:secB (size:Int)=true):∀(n:Nat) {L:List R} {c:Cn},L.length=n->Log L->Ring size L c->lastC c 1 8=L.getLast?
 |0,L,c,hl,h,hr=>by
  have e:L=[]:=List.length_eq_zero_iff.1 hl;subst e;refine(jZC _).2 ?_;refine List.eq_nil_iff_forall_not_mem.2 fun x hx=>?_
  obtain⟨j,_,h2,h3⟩:=(hZM c 1 8 x 8 0).1 hx;rw[hr j (by omega),jZV]at h3;exact rZg hsec h3.1
 |n+1,L,c,hl,h,hr=>by
  have hn:L≠ []:=fun e=>by rw[e]at hl;simp at hl
  obtain⟨L',r,rfl⟩:∃ L' r,L=L'++[r]:=⟨L.dropLast,L.getLast hn,(List.dropLast_concat_getLast hn).symm⟩;obtain⟨h1,h2,h3,h4⟩:=h.init;have hsl:=hZ8 (f:=1) (n:=8) (s:=r.s);have hk:aZX 1 8 r.s=1+(r.s-1)%8:=rfl;have hm:=Nat.mod_lt (r.s-1) (show 8>0 by omega)
  let c':Cn:=bZD c (aZX 1 8 r.s) (lZ6 size L' ((r.s-1)%8))
  have hr':Ring size L' c':=fun i hi=>by
   have:=hr i hi;rw[jZe]at this;show bZD c (aZX 1 8 r.s) _ _=_
   by_cases e:i=(r.s-1)%8
   ·subst e;rw[← hk,kZo]
   ·rw[iZS _ _,this,if_neg e]
  have ih:=Ring.last hsec n (by simpa using hl) h1 hr';have hsz:=wZg hsec;have hup:=tZ7 (c:=c') (f:=1) (n:=8) (size:=size) (by omega) (by omega) hsec h2 h3 (by rw[ih];exact h4);have e:bZD c' (aZX 1 8 r.s) (r.form size)=c:=by
   show bZD (bZD c _ _) _ _=c
   rw[tZk];have:=hr ((r.s-1)%8) hm;rw[jZe,if_pos rfl,←hk]at this;rw[← this,wZt]
  rw[e]at hup;rw[hup,List.getLast?_append];rfl
def cw (c:Cn)(per f i:Nat):UInt64:=((aZL (c ((f+i/per:Nat):Int)))[i%per]?).getD 0
def cws (c:Cn)(per f n:Nat):List UInt64:=(List.range n).map (cw c per f)
theorem vZB (c:Cn)(per f n:Nat):(cws c per f n).length=n:=by simp[cws]
theorem xZS {d:D}{c:Cn}(h:∀ i,d.now i=c i)(x:X)(i:Nat):pw d x i=cw c (D.per d) x.f i:=by unfold pw cw;rw[h]
theorem gZJ {d:D}{c:Cn}(h:∀ i,d.now i=c i)(x:X)(n:Nat):pws d x 0 n=cws c (D.per d) x.f n:=by
 unfold pws cws;apply List.map_congr_left;intro i _;rw[Nat.zero_add,xZS h]
theorem mZv {c c':Cn}{per f n s:Nat}(hp:1<=per)(hn:n<=s*per)(h:∀ i:Nat,i<s->c' ((f+i:Nat):Int)=c ((f+i:Nat):Int)):cws c' per f n=cws c per f n:=by
 unfold cws;apply List.map_congr_left;intro i hi;have hi:=List.mem_range.1 hi;have:i/per<s:=Nat.div_lt_of_lt_mul (by rw[Nat.mul_comm];omega);unfold cw;rw[h _ this]
def eZX (l:List UInt64):Nat:=(Go.Crc.sum (form l)).toNat
theorem pZ1 (l:List UInt64):eZX l<4294967296:=(Go.Crc.sum (form l)).isLt
structure Mn where
 most:Nat
 arena:Nat
 L:List R
 inp:List UInt64
def exX (most per i k:Nat):X:=⟨9+i*Lay.ZX most per,Lay.ZX k per,2^k⟩
def dZi (r:R):Bool:=decide (r.dir=1)
def aZv (m:Mn)(per:Nat)(r:R):List Pz:=aZW (dZi r) r.kk.toNat per m.arena
structure lZo (m:Mn)(per:Nat)(c:Cn)(r:R):Prop where
 len:m.inp.length=2^r.kk.toNat
 can:∀ w∈m.inp,w.toNat<18446744069414584321
 sum:r.inp=eZX m.inp
 ws:cws c per 9 (2^r.kk.toNat)=m.inp
structure lZr (m:Mn)(per:Nat)(c:Cn)(r:R):Prop where
 ps:r.ps.toNat<=(aZv m per r).length
 ws:∀ p,(aZv m per r)[r.ps.toNat-1]? =some p->cws c per (9+p.o*Lay.ZX m.most per) (2^r.kk.toNat)=apL ((aZv m per r).take r.ps.toNat) m.inp
 sum:r.out=eZX (apL ((aZv m per r).take r.ps.toNat) m.inp)
structure Holds (sec size:Nat)(m:Mn)(c:Cn):Prop where
 sup:c 0=Sup.bZ9 m.most sec size m.arena
 good:Sup.bZy m.most sec size m.arena=true
 least:bZM m.most (size/8)<=m.arena
 log:Log m.L
 ring:Ring size m.L c
 kk:∀ r,m.L.getLast? =some r->r.kk<=m.most
 inp:∀ r,m.L.getLast? =some r->2<=r.kd->lZo m (size/8) c r
 out:∀ r,m.L.getLast? =some r->r.kd=4->lZr m (size/8) c r
def mZl (size:Nat)(c:Cn):Prop:=c 0=List.replicate size 0
def qZK (sec size:Nat):Option Mn->Cn->Prop
 |none,c=>mZl size c
 |some m,c=>Holds sec size m c
end Eng
end Go.Proofs.YtlgnlghmbcpmhaaGreatDoor
