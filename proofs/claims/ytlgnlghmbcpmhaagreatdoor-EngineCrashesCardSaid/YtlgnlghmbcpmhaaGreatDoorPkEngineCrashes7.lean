import Derived.Test.YtlgnlghmbcpmhaaGreatDoorProg
import Derived.Test.YtlgnlghmbcpmhaaGreatDoorPkEngineCrashes6
set_option maxRecDepth 100000
set_option linter.unusedVariables false
set_option linter.unusedSimpArgs false
set_option linter.unnecessarySimpa false
set_option linter.unusedSectionVars false
open Go.IntKind (i64 u64)
namespace Go.Proofs.YtlgnlghmbcpmhaaGreatDoor
open Tryz (prog)
namespace W
open Go Go.Hw
theorem jZ :prog.follows .mixedOrders=true:=by kernel_rfl
def cI.l17 (K:VK):Nat->OA->OA->Addr->Int->OA->Addr->Int->OA->OA->Nat->Nat->OA->OA->Nat->Nat->Hp->Prop
 |0,_,_,_,_,_,_,_,_,_,_,_,_,_,_,_,_=>False
 |k+1,p16,p17,a4,x46,p18,a5,x47,p19,A3,n3,m3,p20,A4,n4,m4,H=>
  let R17:=cI.l17 K k
  aM H ((a4.add 0).add 0) fun x48=>ao (decide (x47<x48)) (jF 237 #[.pointer p18] H fun A5 n5 m5 H21=>cF 307 #[.pointer (some a5),.pointer p16,.pointer p17,.slice A5 n5 m5,I x47] H21 fun x49 H22=>ao (x49 !=0) (dJ prog 257 #[.pointer p19,.slice A3 n3 m3] H22 fun _ H25=>dJ prog 257 #[.pointer p20,.slice A4 n4 m4] H25 fun _ H26=>K (.tuple #[Ot 0,I x49]) H26) (R17 p16 p17 a4 x46 p18 a5 (i64.wrap (x47+x46)) p19 A3 n3 m3 p20 A4 n4 m4 H22)) (zx 238 #[.pointer (some (a5.add 0))] H fun x50 H23=>dJ prog 257 #[.pointer p19,.slice A3 n3 m3] H23 fun _ H27=>dJ prog 257 #[.pointer p20,.slice A4 n4 m4] H27 fun _ H28=>K (.tuple #[Ot x50,I 0]) H28)
def cI.j16 (K:VK)(p11 p12:OA)(a2:Addr)(x45:Int)(p13:OA)(a3:Addr)(p14 A1:OA)(n1 m1:Nat)(p15 A2:OA)(n2 m2:Nat)(H:Hp):=
 (∃ k,cI.l17 K k p11 p12 a2 x45 p13 a3 0 p14 A1 n1 m1 p15 A2 n2 m2 H)
def cI.q1 (l12:List Value)(H8:Hp)(p6:OA)(K:VK)(p1 p2:OA)(b1:Nat)(x9:Int)(p4 p3:OA)(b3 b2:Nat):=
 Dq l12.toArray.toList fun x16 x17 x18 x19 x20=>(Nw H8 (Oq #[Ot 0,I 0,I x16,I x17,I x18,I x19,U x20,.pointer p6] 415) fun b4 H9=>cI.j16 K p1 p2 (O b1) x9 p4 (O b4) p3 (Oo b3) 1 1 p3 (Oo b2) 1 1 H9)
def cI (p1 p2:OA)(x1 x2 x3 x4 x5:Int)(p3:OA)(x6:Int)(H:Hp)(K:VK):Prop:=
 Nw H (Oq #[I x1,I x2,I x3,I x4,U x5] 219) fun b1 H1=>aJ H1 (O b1) 5 fun l1=>cF 303 #[.pointer p1,.pointer p2,.agg l1.toArray,.pointer p3] H1 fun x7 H2=>ao (x7 !=0) (K (.tuple #[Ot 0,I x7]) H2) (aJ H2 ((O b1).add 0) 2 fun l2=>NN p3 fun a1=>fc 300 #[.pointer (some (a1.add 0))] H2 fun x8=>Qz 304 #[.agg l2.toArray,I x6,I x8] H2 fun v3=>sf v3 fun x9 c1=>(ao (!c1) (K (.tuple #[Ot 0,I 6]) H2) (aM H2 (((O b1).add 0).add 1) fun x10=>Hz 255 #[.pointer p3,I (i64.wrap (x9*x10))] H2 fun v7 H3=>kA v7 fun p4 x11=>(ao (x11 !=0) (K (.tuple #[Ot 0,I x11]) H3) (Nw H3 (.row [.pointer p4] 331 1) fun b2 H4=>aM H4 (((O b1).add 0).add 1) fun x12=>Hz 255 #[.pointer p3,I x12] H4 fun v11 H5=>kA v11 fun p5 x13=>(ao (x13 !=0) (dJ prog 257 #[.pointer p3,.slice (Oo b2) 1 1] H5 fun _ H24=>K (.tuple #[Ot 0,I x13]) H24) (Nw H5 (.row [.pointer p5] 331 1) fun b3 H6=>(aJ H6 (O b1) 5 fun l12=>aM H6 (((O b1).add 0).add 1) fun x14=>cF 306 #[U (u64.wrap x14)] H6 fun x15 H7=>qN 305 #[I x15] H7 fun p6 H8=>cI.q1 l12 H8 p6 K p1 p2 b1 x9 p4 p3 b3 b2)/\(aM H6 (((O b1).add 0).add 1) fun x21=>(aJ H6 (O b1) 5 fun l18=>cF 306 #[U (u64.wrap x21)] H6 fun x22 H10=>qN 305 #[I x22] H10 fun p7 H11=>cI.q1 l18 H11 p7 K p1 p2 b1 x9 p4 p3 b3 b2)/\((aJ H6 (O b1) 5 fun l24=>cF 306 #[U (u64.wrap x21)] H6 fun x28 H13=>qN 305 #[I x28] H13 fun p8 H14=>cI.q1 l24 H14 p8 K p1 p2 b1 x9 p4 p3 b3 b2)/\(cF 306 #[U (u64.wrap x21)] H6 fun x34 H16=>(aJ H16 (O b1) 5 fun l30=>qN 305 #[I x34] H16 fun p9 H17=>cI.q1 l30 H17 p9 K p1 p2 b1 x9 p4 p3 b3 b2)/\(qN 305 #[I x34] H16 fun p10 H19=>aJ H19 (O b1) 5 fun l36=>cI.q1 l36 H19 p10 K p1 p2 b1 x9 p4 p3 b3 b2)))))))))))
def cI.l17.L (K:VK)(k:Nat):dm:=fun E D H=>
 eP E 0 fun p16=>eP E 1 fun p17=>eN E 7 fun a4=>eI E 13 .i64 fun x46=>eP E 15 fun p18=>eN E 17 fun a5=>eI E 18 .i64 fun x47=>hZ 257 D fun dc0 da0 D1=>bK dc0 (ay da0 fun u0da0 r0da0=>DP u0da0 fun p19=>ay r0da0 fun u1da0 r1da0=>aF u1da0 fun A3 n3 m3=>bK r1da0 (hZ 257 D1 fun dc1 da1 D2=>bK dc1 (ay da1 fun u0da1 r0da1=>DP u0da1 fun p20=>ay r0da1 fun u1da1 r1da1=>aF u1da1 fun A4 n4 m4=>bK r1da1 (az D2 (cI.l17 K k p16 p17 a4 x46 p18 a5 x47 p19 A3 n3 m3 p20 A4 n4 m4 H)))))
def cI.Λ17 (_:VK)(_R17:OA→OA→Addr→Int→OA→Addr→Int→OA→OA→Nat→Nat→OA→OA→Nat→Nat→Hp→Prop):aN:=aN.none (fun i=>match Nat.beq i 15 with|true=>some ([],[0,0,2,6,14,30,62,127,255,511],0)|false=>none)
def cI.Λ (K:VK):aN:=⟨fun i=>match Nat.beq i 16 with|true=>some (fun E D H=>eP E 0 fun p11=>eP E 1 fun p12=>eN E 7 fun a2=>eI E 13 .i64 fun x45=>eP E 15 fun p13=>eN E 17 fun a3=>hZ 257 D fun dc0 da0 D1=>bK dc0 (ay da0 fun u0da0 r0da0=>DP u0da0 fun p14=>ay r0da0 fun u1da0 r1da0=>aF u1da0 fun A1 n1 m1=>bK r1da0 (hZ 257 D1 fun dc1 da1 D2=>bK dc1 (ay da1 fun u0da1 r0da1=>DP u0da1 fun p15=>ay r0da1 fun u1da1 r1da1=>aF u1da1 fun A2 n2 m2=>bK r1da1 (az D2 (cI.j16 K p11 p12 a2 x45 p13 a3 p14 A1 n1 m1 p15 A2 n2 m2 H))))))|false=>none,fun i=>match Nat.beq i 17 with|true=>some (fun E D H=>∃ k,cI.l17.L K k E D H)|false=>none,(fun i=>match Nat.beq i 15 with|true=>some ([],[0,0,2,6,14,30,62,127,255,511],0)|false=>none)⟩
theorem cI.ok p1 p2 x1 x2 x3 x4 x5 p3 x6 H K (h:cI p1 p2 x1 x2 x3 x4 x5 p3 x6 H K):ae prog 240 #[.pointer p1,.pointer p2,.agg #[I x1,I x2,I x3,I x4,U x5],.pointer p3,I x6] H K:=
 dX (Λ:=(cI.Λ K)) jZ Tryz.func240 rfl rfl h (oC (fun E D H h=>by
   obtain⟨p11,e0,g2⟩:=GP h;obtain⟨p12,e1,g4⟩:=GP g2;obtain⟨a2,e7,g7⟩:=GN g4;obtain⟨x45,e13,g9⟩:=GI g7;obtain⟨p13,e15,g11⟩:=GP g9;obtain⟨a3,e17,g14⟩:=GN g11;obtain⟨dc0,da0,D1,rfl,g15⟩:=hZ.out g14;obtain⟨rfl,g16⟩:=bK.out g15;obtain⟨u0da0,r0da0,rfl,g17⟩:=ay.out g16;obtain⟨p14,rfl,g18⟩:=DP.out g17;obtain⟨u1da0,r1da0,rfl,g19⟩:=ay.out g18;obtain⟨A1,n1,m1,rfl,g20⟩:=aF.out g19;obtain⟨rfl,g21⟩:=bK.out g20;obtain⟨dc1,da1,D2,rfl,g22⟩:=hZ.out g21;obtain⟨rfl,g23⟩:=bK.out g22;obtain⟨u0da1,r0da1,rfl,g24⟩:=ay.out g23;obtain⟨p15,rfl,g25⟩:=DP.out g24;obtain⟨u1da1,r1da1,rfl,g26⟩:=ay.out g25;obtain⟨A2,n2,m2,rfl,g27⟩:=aF.out g26;obtain⟨rfl,g28⟩:=bK.out g27;obtain⟨rfl,h'⟩:=az.out g28;exact cY (Λ:=(cI.Λ K)) jZ [{ target:=.fn (.func 257) #[],args:=#[.pointer p14,.slice A1 n1 m1]},{ target:=.fn (.func 257) #[],args:=#[.pointer p15,.slice A2 n2 m2]}] (ag.cons e0 (ag.cons e1 (ag.cons e7 (ag.cons e13 (ag.cons e15 (ag.cons e17 (ag.nil _))))))) h' (oC (fun E D H h=>by
     refine Safe.c0 (cI.l17.L K) (fun E D H h=>?_) (fun k E D H h=>?_) E D H h
     .obtain⟨w0,e0,g1⟩:=DG.out h;obtain⟨p16,rfl,g2⟩:=DP.out g1;obtain⟨w1,e1,g3⟩:=DG.out g2;obtain⟨p17,rfl,g4⟩:=DP.out g3;obtain⟨w7,e7,g5⟩:=DG.out g4;obtain⟨pw7,rfl,g6⟩:=DP.out g5;obtain⟨a4,rfl,g7⟩:=NN.out g6;obtain⟨w13,e13,g8⟩:=DG.out g7;obtain⟨x46,rfl,g9⟩:=DI.out g8;obtain⟨w15,e15,g10⟩:=DG.out g9;obtain⟨p18,rfl,g11⟩:=DP.out g10;obtain⟨w17,e17,g12⟩:=DG.out g11;obtain⟨pw17,rfl,g13⟩:=DP.out g12;obtain⟨a5,rfl,g14⟩:=NN.out g13;obtain⟨w18,e18,g15⟩:=DG.out g14;obtain⟨x47,rfl,g16⟩:=DI.out g15;obtain⟨dc0,da0,D1,rfl,g17⟩:=hZ.out g16;obtain⟨rfl,g18⟩:=bK.out g17;obtain⟨u0da0,r0da0,rfl,g19⟩:=ay.out g18;obtain⟨p19,rfl,g20⟩:=DP.out g19;obtain⟨u1da0,r1da0,rfl,g21⟩:=ay.out g20;obtain⟨A3,n3,m3,rfl,g22⟩:=aF.out g21;obtain⟨rfl,g23⟩:=bK.out g22;obtain⟨dc1,da1,D2,rfl,g24⟩:=hZ.out g23;obtain⟨rfl,g25⟩:=bK.out g24;obtain⟨u0da1,r0da1,rfl,g26⟩:=ay.out g25;obtain⟨p20,rfl,g27⟩:=DP.out g26;obtain⟨u1da1,r1da1,rfl,g28⟩:=ay.out g27;obtain⟨A4,n4,m4,rfl,g29⟩:=aF.out g28;obtain⟨rfl,g30⟩:=bK.out g29;obtain⟨rfl,h'⟩:=az.out g30;exact h'
     .obtain⟨p16,e0,g2⟩:=GP h;obtain⟨p17,e1,g4⟩:=GP g2;obtain⟨a4,e7,g7⟩:=GN g4;obtain⟨x46,e13,g9⟩:=GI g7;obtain⟨p18,e15,g11⟩:=GP g9;obtain⟨a5,e17,g14⟩:=GN g11;obtain⟨x47,e18,g16⟩:=GI g14;obtain⟨dc0,da0,D1,rfl,g17⟩:=hZ.out g16;obtain⟨rfl,g18⟩:=bK.out g17;obtain⟨u0da0,r0da0,rfl,g19⟩:=ay.out g18;obtain⟨p19,rfl,g20⟩:=DP.out g19;obtain⟨u1da0,r1da0,rfl,g21⟩:=ay.out g20;obtain⟨A3,n3,m3,rfl,g22⟩:=aF.out g21;obtain⟨rfl,g23⟩:=bK.out g22;obtain⟨dc1,da1,D2,rfl,g24⟩:=hZ.out g23;obtain⟨rfl,g25⟩:=bK.out g24;obtain⟨u0da1,r0da1,rfl,g26⟩:=ay.out g25;obtain⟨p20,rfl,g27⟩:=DP.out g26;obtain⟨u1da1,r1da1,rfl,g28⟩:=ay.out g27;obtain⟨A4,n4,m4,rfl,g29⟩:=aF.out g28;obtain⟨rfl,g30⟩:=bK.out g29;obtain⟨rfl,h'⟩:=az.out g30;exact cY (Λ:=(cI.Λ17 K (cI.l17 K k))) jZ [{ target:=.fn (.func 257) #[],args:=#[.pointer p19,.slice A3 n3 m3]},{ target:=.fn (.func 257) #[],args:=#[.pointer p20,.slice A4 n4 m4]}] (ag.cons e0 (ag.cons e1 (ag.cons e7 (ag.cons e13 (ag.cons e15 (ag.cons e17 (ag.cons e18 (ag.nil _)))))))) h' oN) oN)) oN)
def oh (p1 p2:OA)(x1 x2 x3 x4 x5:Int)(p3:OA)(H:Hp)(K:VK):Prop:=
 Nw H (Oq #[I x1,I x2,I x3,I x4,U x5] 219) fun b1 H1=>ao p1.isNone (K (I 1) H1) (ao p2.isNone (K (I 1) H1) (ao p3.isNone (K (I 1) H1) (aJ H1 ((O b1).add 0) 2 fun l1=>JY 297 #[.agg l1.toArray] H1 fun c1=>ao (!c1) (K (I 19) H1) (fc 186 #[.pointer p1] H1 fun x6=>aJ H1 ((O b1).add 0) 2 fun l2=>fc 298 #[.agg l2.toArray] H1 fun x7=>ao (x6 !=x7) (K (I 19) H1) (fc 186 #[.pointer p2] H1 fun x8=>aJ H1 ((O b1).add 0) 2 fun l3=>fc 298 #[.agg l3.toArray] H1 fun x9=>ao (x8 !=x9) (K (I 19) H1) (aM H1 ((O b1).add 2) fun x10=>ao (decide (x10<0)) (K (I 18) H1) (aM H1 ((O b1).add 2) fun x11=>ao (decide (x11>1)) (K (I 18) H1) (aM H1 ((O b1).add 3) fun x12=>ao (decide (x12<(-1))) (K (I 2) H1) (aM H1 ((O b1).add 3) fun x13=>ao (decide (x13>32)) (K (I 2) H1) (K (I 0) H1))))))))))
theorem oh.ok p1 p2 x1 x2 x3 x4 x5 p3 H K (h:oh p1 p2 x1 x2 x3 x4 x5 p3 H K):ae prog 303 #[.pointer p1,.pointer p2,.agg #[I x1,I x2,I x3,I x4,U x5],.pointer p3] H K:=
 cg jZ Tryz.func303 rfl rfl h
def dB.l4 (K:VK):Nat->Int->Int->Addr->Int->Hp->Prop
 |0,_,_,_,_,_=>False
 |k+1,x7,x8,a1,x9,H=>
  let R4:=dB.l4 K k
  aM H (a1.add 0) fun x10=>ao (decide ((i64.wrap (2*x9))<=x10)) (aM H (a1.add 1) fun x11=>(x11≠0/\i64=i64/\ao (decide ((i64.wrap ((i64.wrap (2*x9))+1))<=(i64.wrap (Int.tdiv (i64.wrap (x8-x7)) x11)))) (R4 x7 x8 a1 (i64.wrap (x9*2)) H) (K (.tuple #[I x9,.bool true]) H))) (K (.tuple #[I x9,.bool true]) H)
def dB (x1 x2 x3 x4:Int)(H:Hp)(K:VK):Prop:=
 Nw H (Oq #[I x1,I x2] 217) fun b1 H1=>aJ H1 (O b1) 2 fun l1=>fS 297 #[.agg l1.toArray] H1 fun c1 H2=>ao (!c1) (K (.tuple #[I 0,.bool false]) H2) (aM H2 ((O b1).add 1) fun x5=>ao (decide (x5>1048576)) (K (.tuple #[I 0,.bool false]) H2) (ao (decide (x3<4)) (K (.tuple #[I 0,.bool false]) H2) (ao (decide (x3>512)) (K (.tuple #[I 0,.bool false]) H2) (ao ((cU .i64 x3 (i64.wrap (x3-1))) !=0) (K (.tuple #[I 0,.bool false]) H2) (ao (decide (x4<x3)) (K (.tuple #[I 0,.bool false]) H2) (aM H2 ((O b1).add 1) fun x6=>ao (decide ((i64.wrap (x4-x3))<(i64.wrap (2*x6)))) (K (.tuple #[I 0,.bool false]) H2) ((∃ k,dB.l4 K k x3 x4 (O b1) 1 H2))))))))
def dB.l4.L (K:VK)(k:Nat):dm:=fun E D H=>
 eI E 1 .i64 fun x7=>eI E 2 .i64 fun x8=>eN E 3 fun a1=>eI E 6 .i64 fun x9=>az D (dB.l4 K k x7 x8 a1 x9 H)
def dB.Λ4 (_:VK)(_R4:Int->Int->Addr->Int->Hp->Prop):aN:=aN.none (fun _=>none)
def dB.Λ (K:VK):aN:=⟨fun i=>none,fun i=>match Nat.beq i 4 with|true=>some (fun E D H=>∃ k,dB.l4.L K k E D H)|false=>none,(fun _=>none)⟩
theorem dB.ok x1 x2 x3 x4 H K (h:dB x1 x2 x3 x4 H K):ae prog 304 #[.agg #[I x1,I x2],I x3,I x4] H K:=
 dX (Λ:=(dB.Λ K)) jZ Tryz.func304 rfl rfl h (oC (fun E D H h=>by
   refine Safe.c0 (dB.l4.L K) (fun E D H h=>?_) (fun k E D H h=>?_) E D H h
   .obtain⟨w1,e1,g1⟩:=DG.out h;obtain⟨x7,rfl,g2⟩:=DI.out g1;obtain⟨w2,e2,g3⟩:=DG.out g2;obtain⟨x8,rfl,g4⟩:=DI.out g3;obtain⟨w3,e3,g5⟩:=DG.out g4;obtain⟨pw3,rfl,g6⟩:=DP.out g5;obtain⟨a1,rfl,g7⟩:=NN.out g6;obtain⟨w6,e6,g8⟩:=DG.out g7;obtain⟨x9,rfl,g9⟩:=DI.out g8;obtain⟨rfl,h'⟩:=az.out g9;exact h'
   .obtain⟨x7,e1,g2⟩:=GI h;obtain⟨x8,e2,g4⟩:=GI g2;obtain⟨a1,e3,g7⟩:=GN g4;obtain⟨x9,e6,g9⟩:=GI g7;obtain⟨rfl,h'⟩:=az.out g9;exact cY (Λ:=(dB.Λ4 K (dB.l4 K k))) jZ [] (ag.cons e1 (ag.cons e2 (ag.cons e3 (ag.cons e6 (ag.nil _))))) h' oN) oN)
def cG.l6 (K:VK):Nat->OA->OA->OA->Nat->Nat->Int->Int->Int->Hp->Prop
 |0,_,_,_,_,_,_,_,_,_=>False
 |k+1,p4,p5,A2,n2,m2,x4,x5,x6,H=>
  let R6:=cG.l6 K k
  ao (decide (x6<(n2:Int))) (mP n2 m2 (some x6) (some (i64.wrap (x6+x5))) fun n3 n4=>(x5≠0/\i64=i64/\Hz 347 #[.pointer p4,.slice (jk A2 m2 n3 1) (n4-n3) (m2-n3),I (i64.wrap (x4+(i64.wrap (Int.tdiv x6 x5))))] H fun v3 H2=>R6 p4 p5 A2 n2 m2 x4 x5 (i64.wrap (x6+x5)) H2)) (NN p4 fun a2=>Hz 236 #[.pointer (some (a2.add 0)),.slice A2 n2 m2] H fun v4 H3=>cF 185 #[.pointer p5,I (i64.wrap (x4*x5)),.slice A2 n2 m2] H3 fun x7 H4=>K (I x7) H4)
def cG (p1 p2 p3 A1:OA)(n1 m1:Nat)(x1:Int)(H:Hp)(K:VK):Prop:=
 NN p1 fun a1=>aM H (((a1.add 2).add 0).add 1) fun x2=>cF 187 #[.pointer p2,I (i64.wrap (x1*x2)),.slice A1 n1 m1] H fun x3 H1=>ao (x3 !=0) (K (I x3) H1) ((∃ k,cG.l6 K k p1 p3 A1 n1 m1 x1 x2 0 H1))
def cG.l6.L (K:VK)(k:Nat):dm:=fun E D H=>
 eP E 0 fun p4=>eP E 2 fun p5=>DG (E.get? 3) fun w3=>aF w3 fun A2 n2 m2=>eI E 4 .i64 fun x4=>eI E 11 .i64 fun x5=>eI E 13 .i64 fun x6=>az D (cG.l6 K k p4 p5 A2 n2 m2 x4 x5 x6 H)
def cG.Λ6 (_:VK)(_R6:OA→OA→OA→Nat→Nat→Int→Int→Int→Hp→Prop):aN:=aN.none (fun i=>match Nat.beq i 8 with|true=>some ([],[0,1,2,3,4,5,6,7,8,9,10,11],12)|false=>none)
def cG.Λ (K:VK):aN:=⟨fun i=>none,fun i=>match Nat.beq i 6 with|true=>some (fun E D H=>∃ k,cG.l6.L K k E D H)|false=>none,(fun i=>match Nat.beq i 8 with|true=>some ([],[0,1,2,3,4,5,6,7,8,9,10,11],12)|false=>none)⟩
theorem cG.ok p1 p2 p3 A1 n1 m1 x1 H K (h:cG p1 p2 p3 A1 n1 m1 x1 H K):ae prog 307 #[.pointer p1,.pointer p2,.pointer p3,.slice A1 n1 m1,I x1] H K:=
 dX (Λ:=(cG.Λ K)) jZ Tryz.func307 rfl rfl h (oC (fun E D H h=>by
   refine Safe.c0 (cG.l6.L K) (fun E D H h=>?_) (fun k E D H h=>?_) E D H h
   .obtain⟨w0,e0,g1⟩:=DG.out h;obtain⟨p4,rfl,g2⟩:=DP.out g1;obtain⟨w2,e2,g3⟩:=DG.out g2;obtain⟨p5,rfl,g4⟩:=DP.out g3;obtain⟨w3,e3,g5⟩:=DG.out g4;obtain⟨A2,n2,m2,rfl,g6⟩:=aF.out g5;obtain⟨w4,e4,g7⟩:=DG.out g6;obtain⟨x4,rfl,g8⟩:=DI.out g7;obtain⟨w11,e11,g9⟩:=DG.out g8;obtain⟨x5,rfl,g10⟩:=DI.out g9;obtain⟨w13,e13,g11⟩:=DG.out g10;obtain⟨x6,rfl,g12⟩:=DI.out g11;obtain⟨rfl,h'⟩:=az.out g12;exact h'
   .obtain⟨p4,e0,g2⟩:=GP h;obtain⟨p5,e2,g4⟩:=GP g2;obtain⟨w3,e3,g5⟩:=DG.out g4;obtain⟨A2,n2,m2,rfl,g6⟩:=aF.out g5;obtain⟨x4,e4,g8⟩:=GI g6;obtain⟨x5,e11,g10⟩:=GI g8;obtain⟨x6,e13,g12⟩:=GI g10;obtain⟨rfl,h'⟩:=az.out g12;exact cY (Λ:=(cG.Λ6 K (cG.l6 K k))) jZ [] (ag.cons e0 (ag.cons e2 (ag.cons e3 (ag.cons e4 (ag.cons e11 (ag.cons e13 (ag.nil _))))))) h' oN) oN)
def df.j4 (K:VK)(p3 A4:OA)(n4 m4:Nat)(H:Hp):=
 NN p3 fun a6=>eo H ((a6.add 2).add 4) fun x13=>jF 362 #[.slice A4 n4 m4,U x13] H fun A5 n5 m5 H6=>rI prog 108 (.slice A4 n4 m4) (.slice A5 n5 m5) H6 fun v19 H7=>DI .i64 v19 fun x14=>K (.tuple #[]) H7
def df.q1 (A1:OA)(n1 m1:Nat)(x1 x5 x6:Int)(H1:Hp)(K:VK)(p1:OA):=
 Hz 361 #[.slice A1 n1 m1,.agg #[I 1,I (n1:Int),I x1,I 0],I x5,I x6] H1 fun v7 H2=>kB v7 fun A2 n2 m2 x7=>(rI prog 108 (.slice A1 n1 m1) (.slice A2 n2 m2) H2 fun v15 H4=>DI .i64 v15 fun x11=>df.j4 K p1 A1 n1 m1 H4)
def df (p1 A1:OA)(n1 m1:Nat)(x1:Int)(H:Hp)(K:VK):Prop:=
 NN p1 fun a1=>bA H (a1.add 7) fun p2=>NN p1 fun a2=>aM H ((a2.add 2).add 2) fun x2=>cF 360 #[.pointer p2,.slice A1 n1 m1,I x2] H fun x3 H1=>NN p1 fun a3=>aM H1 ((a3.add 2).add 3) fun x4=>ao (decide (x4>=0)) (NN p1 fun a4=>NN p1 fun a5=>(aM H1 ((a4.add 2).add 3) fun x5=>aM H1 ((a5.add 2).add 2) fun x6=>df.q1 A1 n1 m1 x1 x5 x6 H1 K p1)/\(aM H1 ((a5.add 2).add 2) fun x8=>aM H1 ((a4.add 2).add 3) fun x9=>df.q1 A1 n1 m1 x1 x9 x8 H1 K p1)) (df.j4 K p1 A1 n1 m1 H1)
def df.Λ (K:VK):aN:=⟨fun i=>match Nat.beq i 4 with|true=>some (fun E D H=>eP E 0 fun p3=>DG (E.get? 1) fun w1=>aF w1 fun A4 n4 m4=>az D (df.j4 K p3 A4 n4 m4 H))|false=>none,fun i=>none,(fun i=>match Nat.beq i 2 with|true=>some ([],[0,0,2,6,0,30,0,64,192,448,960,0,2048,6144,14336,30720,65535,131071,262143,262143,524287,2097151],0)|false=>match Nat.beq i 0 with|true=>some ([],[0,1,2,3,4,5,6,7,8,9],10)|false=>none)⟩
theorem df.ok p1 A1 n1 m1 x1 H K (h:df p1 A1 n1 m1 x1 H K):ae prog 347 #[.pointer p1,.slice A1 n1 m1,I x1] H K:=
 dX (Λ:=(df.Λ K)) jZ Tryz.func347 rfl rfl h (oC (fun E D H h=>by
   obtain⟨p3,e0,g2⟩:=GP h;obtain⟨w1,e1,g3⟩:=DG.out g2;obtain⟨A4,n4,m4,rfl,g4⟩:=aF.out g3;obtain⟨rfl,h'⟩:=az.out g4;exact cY (Λ:=(df.Λ K)) jZ [] (ag.cons e0 (ag.cons e1 (ag.nil _))) h' oN) oN)
end W
namespace Pas
open Go Go.Hw W Shp Gol Fft Ker
structure J where
 ea:Nat
 eb:Nat
 d:Bool
 tw:Int
 sh:UInt64
def J.a (j:J):Array Value:=#[I ((2^j.ea:Nat):Int),I ((2^j.eb:Nat):Int),I (if j.d=true then 1 else 0),I j.tw,U (j.sh.toNat:Int)]
def Ji (j:J)(kp:Nat):List Value:=[I ((2^j.ea:Nat):Int),I ((2^j.eb:Nat):Int),I (if j.d=true then 1 else 0),I j.tw,U (j.sh.toNat:Int),V kp]
def gw (s:Crc.eX)(k:Nat)(j:J)(kp:Nat):AO:=Oq (CrcP.tj s k (Ji j kp)) 415
def AA (j:J)(r:Nat)(l:List UInt64):List UInt64:=if 0<=j.tw then vA (pw (fk j.d j.tw.toNat) r) l else l
def kL (j:J)(r:Nat)(l:List UInt64):List UInt64:=gK (zw j.sh) (AA j r (iu j.d j.eb l))
theorem LK (j:J)(r:Nat)(l:List UInt64):(AA j r l).length=l.length:=by
 unfold AA;split
 .exact uZ _ _
 .rfl
theorem ry (j:J)(r:Nat)(l:List UInt64):(kL j r l).length=2^j.eb:=by unfold kL;rw[pe,LK,lU]
theorem FA {xs us bs:List Value}{off:Nat}(h:off+us.length<=xs.length)(hl:bs.length=us.length):setAt (setAt xs off us) off bs=setAt xs off bs:=by
 apply List.ext_getElem?;intro i;rw[fP (by rw[iy h];omega),fP h,fP (by omega)];by_cases h1:i<off
 .rw[if_pos h1,if_pos h1,if_pos h1]
 .rw[if_neg h1,if_neg h1,if_neg h1];by_cases h2:i<off+bs.length
  .rw[if_pos h2,if_pos h2]
  .rw[if_neg h2,if_neg h2,if_neg (by omega)]
theorem Ja (ws:List UInt64):∀ y∈ah ws,y.oneCell'=true:=fun y hy=>by
 unfold ah at hy;obtain⟨w,_,rfl⟩:=List.mem_map.1 hy;rfl
theorem Hh {e:TypeId}{A:OA}{n m:Nat}{ws:List UInt64}{H:Hp}(h:bH e 1 A n m (ah ws) H):Cells H A (ah ws):=by
 obtain⟨h1,h2⟩:=h;rcases h2 with⟨rfl,rfl,rfl⟩|⟨b,mm,rfl,h4,_⟩
 .rw[Nat.zero_mul]at h1;rw[List.length_eq_zero_iff.1 h1];exact Cells.nil _ _
 .have:=Cells.row h4 0 (ah ws).length;rw[List.drop_zero,List.take_of_length_le (Nat.le_refl _)]at this;exact this
section
variable {TT : As} {kp b off mm n m rn r : Nat} {s : Crc.eX} {sk : Nat} {j : J} {l : List UInt64} {xs : List Value} {e : TypeId}
theorem Ck {H:Hp}{L:List As}{i:Nat}(hs:Sep L H){ws us:List UInt64}(hi:L[i]? =some (af b (.row (setAt xs off (ah ws)) e mm)))(hw:ws.length=n)(hu:us.length=n)(hx:off+n<=xs.length){A:OA}{m':Nat}(hc:Cells H A (ah us)){K:VK}
  (kk:∀ H',Sep (L.set i (af b (.row (setAt xs off (ah us)) e mm))) H'->K (I (n:Int)) H'):rI prog 108 (.slice (some ⟨b,off,none⟩) n m) (.slice A n m') H K:=by
 refine hs.cp i (k:=n) (n:=n) (c:=m) (x:=.slice A n m') (ys:=ah us) hi fH rfl (by rw[show Nat.min n n=n from Nat.min_self n];exact sT hc (by rw[aG,hu])) (by rw[sS,aG,hu];exact hx) (Ja us) fun H' hs'=>?_
 rw[FA (by rw[aG];omega) (by rw[aG,aG,hu,hw])]at hs';rw[show Nat.min n n=n from Nat.min_self n];exact kk H' hs'
theorem LS (hn:n=2^j.eb)(hb:j.eb<=20)(hx:off+n<=xs.length){ws:List UInt64}(hw:ws.length=n){L:List As}(K:VK)
  (hK:∀ H,Sep (af rn (gw s sk j kp)::af b (.row (setAt xs off (ah (gK (zw j.sh) ws))) e mm)::L) H->K (.tuple #[]) H) {H:Hp} (hs:Sep (af rn (gw s sk j kp)::af b (.row (setAt xs off (ah ws)) e mm)::L) H):
  df.j4 K (Oo rn) (some ⟨b,off,none⟩) n m H:=by
 have h20:=dw hb;unfold df.j4;simp only[dQ];refine hs.kH 0 rfl rfl ?_;simp only[HV];refine(IE (n:=n) (m:=m) (R:=af b (.row (setAt xs off (ah ws)) e mm)) j.sh (fun H h=>uP h) hw (by omega)).use hs [1] rfl rfl ?_;rintro _ _ H ⟨r1,rfl,rfl⟩ hs;have hs:Sep (af r1 (.row (ah (gK (zw j.sh) ws)) 108 (n*1))::af b (.row (setAt xs off (ah ws)) e mm)::af rn (gw s sk j kp)::L) H:=by
  have:rest (af rn (gw s sk j kp)::af b (.row (setAt xs off (ah ws)) e mm)::L) [1]=af rn (gw s sk j kp)::L:=by
   have key:∀(L:List As) k,2<=k->rest.go [1] k L=L:=by
    intro L
    induction L with
    |nil=>intro k _;rfl
    |cons A L ih=>
     intro k hk;unfold rest.go;have:([1]:List Nat).contains k=false:=by simp;omega
     rw[this,ih (k+1) (by omega)]
   show af rn (gw s sk j kp)::rest.go [1] 2 L=_
   rw[key L 2 (Nat.le_refl _)]
  rw[this]at hs;exact hs
 simp only[HV];have hc:Cells H (Oo r1) (ah (gK (zw j.sh) ws)):=by
  have:=Cells.row (hs.get 0 rfl) 0 n;rw[List.drop_zero,List.take_of_length_le (by rw[aG,pe];omega)]at this;exact this
 refine Ck (m':=n) hs (i:=1) rfl hw (by rw[pe];exact hw) hx hc fun H hs=>?_;simp only[HV];refine hK H ?_;have hs:=hs.tail;exact hs.swap
theorem LU (hT:∀ H,TT H->T64 H)(hn:n=2^j.eb)(hb:j.eb<=20)(htw:j.tw<=32)(hr:r<=4294967295)(hl:l.length=n)(hm:n<=m)(hx:off+n<=xs.length)(hseg:setAt xs off (ah l)=xs):
  Tr prog 347 #[V rn,.slice (some ⟨b,off,none⟩) n m,I (r:Int)] [af rn (gw s sk j kp),af b (.row xs e mm),Kn kp j.eb,TT] fun v M=>
   v= .tuple #[]/\M=[af rn (gw s sk j kp),af b (.row (setAt xs off (ah (kL j r l))) e mm),Kn kp j.eb,TT]:=fun H hs=>by
 have h20:=dw hb;apply df.ok;unfold df df.q1;simp only[dQ];refine hs.cC 0 rfl rfl ?_;simp only[HV];refine hs.kH 0 rfl rfl ?_;simp only[HV];refine(IC (kp:=kp) (m:=m) (mm:=mm) (e:=e) hT hb hn hl hx hseg j.d).use hs [1,2,3] rfl rfl ?_;rintro _ _ H ⟨rfl,rfl⟩ hs;simp only[HV];have hs:Sep [af b (.row (setAt xs off (ah (iu j.d j.eb l))) e mm),Kn kp j.eb,TT,af rn (gw s sk j kp)] H:=hs;refine hs.kH 3 rfl rfl ?_;simp only[HV];have hdl:(iu j.d j.eb l).length=n:=by rw[lU,hn]
 have fin:∀{ws:List UInt64} {H:Hp},ws.length=n->AA j r (iu j.d j.eb l)=ws->Sep [af b (.row (setAt xs off (ah ws)) e mm),Kn kp j.eb,TT,af rn (gw s sk j kp)] H->
   df.j4 (fun v H'=>∃ M,(v= .tuple #[]/\M=[af rn (gw s sk j kp),af b (.row (setAt xs off (ah (kL j r l))) e mm),Kn kp j.eb,TT])/\Sep M H') (Oo rn) (some ⟨b,off,none⟩) n m H:=fun{ws} {H} hw he hs=>by
  refine LS (s:=s) (sk:=sk) (kp:=kp) (mm:=mm) (e:=e) (L:=[Kn kp j.eb,TT]) hn hb hx hw _ (fun H hs=>⟨_,⟨rfl,rfl⟩,?_⟩) (hs.re [3,0,1,2] rfl);unfold kL;rw[he];exact hs
 by_cases ht:0<=j.tw
 .refine aC ht ?_;obtain⟨t,ht'⟩:=Int.eq_ofNat_of_zero_le ht;have hz:pw (fk j.d j.tw.toNat) r=pw (fk j.d t) r:=by rw[ht',Int.toNat_natCast]
  refine⟨?_,?_⟩
  all_goals
   refine hs.kH 3 rfl rfl ?_;simp only[HV];refine hs.kH 3 rfl rfl ?_;simp only[HV];rw[ht'];refine(KF (n:=n) (m:=m) (k:=t) (r:=r) (l:=iu j.d j.eb l) (R:=af b (.row (setAt xs off (ah (iu j.d j.eb l))) e mm)) hT (fun H h=>uP h) hn hb hdl hm (by omega) hr j.d).use hs [0,2] rfl rfl ?_;rintro _ _ H ⟨A',m',rfl,rfl⟩ hs;simp only[HV];refine Ck (m':=m') hs (i:=1) rfl hdl (by rw[uZ];exact hdl) hx (Hh (hs.own 0 rfl)) fun H hs=>?_;simp only[HV];exact fin (by rw[uZ];exact hdl) (by unfold AA;rw[if_pos ht,hz]) (hs.re [1,3,2,4] rfl)
 .exact aw ht (fin hdl (by unfold AA;rw[if_neg ht]) hs)
end
end Pas
namespace Pas
open Go Go.Hw Go.Crc Go.Form W Shp Gol Fft Ker Str Dsk Are Trn
def mR (j:J)(r:Nat)(ws:List UInt64)(i:Nat):List UInt64:=(List.range i).flatMap fun q=>kL j (r+q) ((ws.drop (q*2^j.eb)).take (2^j.eb))
def mS (j:J)(r:Nat)(ws:List UInt64)(i:Nat):List UInt64:=mR j r ws i++ws.drop (i*2^j.eb)
theorem qS (j:J)(r:Nat)(ws:List UInt64):∀ i,(mR j r ws i).length=i*2^j.eb
 |0=>by simp[mR]
 |i+1=>by
  unfold mR;rw[List.range_succ,List.flatMap_append,List.length_append];have:=qS j r ws i;unfold mR at this;rw[this,Nat.succ_mul];simp[ry]
theorem Gt (j:J)(r:Nat)(ws:List UInt64)(i:Nat):mR j r ws (i+1)=mR j r ws i++kL j (r+i) ((ws.drop (i*2^j.eb)).take (2^j.eb)):=by
 unfold mR;rw[List.range_succ,List.flatMap_append];simp
theorem IN {j:J}{r:Nat}{ws:List UInt64}{i nb:Nat}(hw:ws.length=nb*2^j.eb)(hi:i<=nb):(mS j r ws i).length=nb*2^j.eb:=by
 unfold mS;have:i*2^j.eb<=nb*2^j.eb:=Nat.mul_le_mul_right _ hi;rw[List.length_append,qS,List.length_drop];omega
theorem Gu (j:J)(r:Nat)(ws:List UInt64):mS j r ws 0=ws:=by simp[mS,mR]
theorem Er (a b c:List UInt64):kN (a++b) a.length c=a++c++b.drop c.length:=by
 unfold kN;rw[List.take_left,<-List.drop_drop,List.drop_left]
section
variable {TT : As} {kp rn p q dp ap bb mb : Nat} {s : eX} {sk : Nat} {j : J} {x y : X} {cap aj : Int} {bufs : List (Nat × Nat × Option Addr)}
theorem xz (K:VK)(hT:∀ H,TT H->T64 H)(hb:j.eb<=20)(htw:j.tw<=32){nb r:Nat}(hr:r+nb<=4294967296)(hsz:nb*2^j.eb<=4294967296){ws:List UInt64}(hw:ws.length=nb*2^j.eb){L:List As}{n:Nat}(hn:n=nb*2^j.eb)
  (hK:∀ H,Sep (af rn (gw s sk j kp)::af bb (.row (ah (mR j r ws nb)) 108 mb)::Kn kp j.eb::TT::L) H->cG.l6 K 1 (Oo rn) (Oo q) (Oo bb) n n (r:Int) ((2^j.eb:Nat):Int) (n:Int) H):
  ∀(t i:Nat) (z:Int) (H:Hp),z=((i*2^j.eb:Nat):Int)->i+t=nb->Sep (af rn (gw s sk j kp)::af bb (.row (ah (mS j r ws i)) 108 mb)::Kn kp j.eb::TT::L) H->
   cG.l6 K (t+1) (Oo rn) (Oo q) (Oo bb) n n (r:Int) ((2^j.eb:Nat):Int) z H
 |0,i,_,H,rfl,hi,hs=>by
  obtain rfl:i=nb:=by omega
  rw[<- hn];refine hK H ?_;unfold mS at hs;rw[List.drop_eq_nil_of_le (by omega),List.append_nil]at hs;exact hs
 |t+1,i,_,H,rfl,hi,hs=>by
  have hc1:=pow_pos j.eb;have hse:(i+1)*2^j.eb=i*2^j.eb+2^j.eb:=Nat.succ_mul _ _;have h20:=dw hb;have hi1:(i+1)*2^j.eb<=nb*2^j.eb:=Nat.mul_le_mul_right _ (by omega);have hi1':=hi1;rw[Nat.succ_mul]at hi1;unfold cG.l6;refine aC (by omega) ?_;rw[show i64.wrap (((i*2^j.eb:Nat):Int)+((2^j.eb:Nat):Int))=(((i+1)*2^j.eb:Nat):Int) by rw[Nat.succ_mul,<-Int.natCast_add,ed]];refine⟨by omega,by omega,by omega,by omega,?_⟩;rw[Int.toNat_natCast,Int.toNat_natCast];refine⟨by omega,by simp,?_⟩;rw[show Int.tdiv ((i*2^j.eb:Nat):Int) ((2^j.eb:Nat):Int)=((i*2^j.eb/2^j.eb:Nat):Int)from rfl,Nat.mul_div_cancel _ (by omega),ed (n:=i),<-Int.natCast_add,ed (n:=r+i),
   yx,show(i+1)*2^j.eb-i*2^j.eb=2^j.eb by rw[Nat.succ_mul];omega,Nat.zero_add]
  have hA:=qS j r ws i;have hlen:=IN (j:=j) (r:=r) hw (show i<=nb by omega);have hseg:setAt (ah (mS j r ws i)) (i*2^j.eb) (ah ((ws.drop (i*2^j.eb)).take (2^j.eb)))=ah (mS j r ws i):=by
   rw[uR];unfold mS;rw[<- hA,Er,hA,List.append_assoc];congr 2;rw[List.length_take,List.length_drop,Nat.min_eq_left (by omega)];exact List.take_append_drop _ _
  have hsl:((ws.drop (i*2^j.eb)).take (2^j.eb)).length=2^j.eb:=by rw[List.length_take,List.length_drop];omega
  have ht:=LU (rn:=rn) (kp:=kp) (b:=bb) (off:=i*2^j.eb) (mm:=mb) (n:=2^j.eb) (m:=n-i*2^j.eb) (r:=r+i) (s:=s) (sk:=sk) (j:=j) (l:=(ws.drop (i*2^j.eb)).take (2^j.eb)) (xs:=ah (mS j r ws i)) (e:=108) hT rfl hb htw (by omega) hsl (by omega) (by rw[aG,hlen];omega) hseg;have e0:we (af rn (gw s sk j kp)::af bb (.row (ah (mS j r ws i)) 108 mb)::Kn kp j.eb::TT::L) [0,1,2,3]=[af rn (gw s sk j kp),af bb (.row (ah (mS j r ws i)) 108 mb),Kn kp j.eb,TT]:=rfl;refine ht.use hs [0,1,2,3] e0 rfl ?_;rintro _ _ H ⟨rfl,rfl⟩ hs;have erest:rest (af rn (gw s sk j kp)::af bb (.row (ah (mS j r ws i)) 108 mb)::Kn kp j.eb::TT::L) [0,1,2,3]=L:=by
   have key:∀(L:List As) k,4<=k->rest.go [0,1,2,3] k L=L:=by
    intro L
    induction L with
    |nil=>intro k _;rfl
    |cons A L ih=>
     intro k hk;unfold rest.go;have:([0,1,2,3]:List Nat).contains k=false:=by simp;omega
     rw[this,ih (k+1) (by omega)]
   exact key L 4 (Nat.le_refl _)
  rw[erest]at hs;have hstep:setAt (ah (mS j r ws i)) (i*2^j.eb) (ah (kL j (r+i) ((ws.drop (i*2^j.eb)).take (2^j.eb))))=ah (mS j r ws (i+1)):=by
   rw[uR];unfold mS;rw[<- hA,Er,hA,Gt,ry,List.drop_drop,Nat.succ_mul]
  rw[hstep]at hs;exact xz K hT hb htw hr hsz hw hn hK t (i+1) _ H rfl (by omega) hs
def Ms (rn p q dp ap kp bb:Nat)(s:eX)(sk:Nat)(j:J)(d:D)(x y:X)(r nb:Nat)(cap aj:Int)(bufs:List (Nat×Nat×OA))(mb:Nat)(TT:As)(v:Value)(M:List As):Prop:=
 let n:=nb*2^j.eb
 let f:=r*2^j.eb
 let us:=mR j r (dV d x f n) nb
 let t:=(dP (D.aa d) x.f n f n).length
 (Prog (jd y) d (kO (D.bO d t) y n f us) (t+jC (D.aa d) y.f n f n) (dP (D.aa d) y.f n f n).length/\v= I 0/\
  M=[af rn (gw (more s (form us)) (sk+8*n) j kp),af bb (.row (ah us) 108 mb),af p (bh dp ap x),af q (bh dp ap y),Dk dp (kO (D.bO d t) y n f us),Ar ap cap (mx aj (bf bufs+D.aa d)) bufs,Kn kp j.eb,TT])\/
 (∃ d',gW (jd y) d d'/\d.aI<=t+jC (D.aa d) y.f n f n+(dP (D.aa d) y.f n f n).length/\v= I 8/\
  M=[af p (bh dp ap x),af q (bh dp ap y),Dk dp d',Ar ap cap (mx aj (bf bufs+D.aa d)) bufs,TT])
set_option maxHeartbeats 1000000 in
theorem IQ {d:D}(hT:∀ H,TT H->T64 H)(hok:Ok d)(hl:d.down=false)(hx:On d x)(hy:On d y)(ho:d.rd<=4000000000000000000/\d.wr<=4000000000000000000)(hb:j.eb<=20)(htw:j.tw<=32){r nb:Nat}(hnb:1<=nb)(hr:r+nb<=4294967296)(hsz:nb*2^j.eb<=4294967296)
  (hfx:r*2^j.eb+nb*2^j.eb<=x.w) (hfy:r*2^j.eb+nb*2^j.eb<=y.w) (hxw:x.w<=4294967296) (hsk:sk<=1000000000000) (hcap:(D.aa d:Int)<=cap-bf bufs) (ws:List UInt64) (hws:ws.length=nb*2^j.eb):
  Tr prog 307 #[V rn,V p,V q,.slice (Oo bb) (nb*2^j.eb) (nb*2^j.eb),I (r:Int)]
   [af rn (gw s sk j kp),af bb (.row (ah ws) 108 mb),af p (bh dp ap x),af q (bh dp ap y),Dk dp d,Ar ap cap aj bufs,Kn kp j.eb,TT] (Ms rn p q dp ap kp bb s sk j d x y r nb cap aj bufs mb TT):=fun H hs=>by
 have hp:=Ok.eB hok;have hc1:=pow_pos j.eb;have hn1:1*1<=nb*2^j.eb:=Nat.mul_le_mul hnb hc1;have hpl:=jg (D.aa d) x.f (nb*2^j.eb) (r*2^j.eb) (nb*2^j.eb);apply cG.ok;unfold cG;simp only[dQ];rw[show(((O rn).add 2).add 0).add 1=⟨rn,3,none⟩ by rw[Addr.add_zero,Addr.bm,Addr.bm]];refine hs.ld 0 rfl rfl ?_;simp only[HV];rw[<- Int.natCast_mul,ed];refine(wo (p:=p) (dp:=dp) (ap:=ap) (d:=d) (x:=x) (cap:=cap) (aj:=aj) (bufs:=bufs) (rl:=bb) (off:=0) (mm:=mb) (el:=108) (xs:=ah ws) hok hl hx (by omega) (r*2^j.eb) (nb*2^j.eb) (nb*2^j.eb) (by omega) hfx (Nat.le_refl _) (by rw[aG];omega) hcap).use hs [2,4,5,1] rfl rfl ?_;rintro v M H (⟨hgo,rfl,rfl⟩|⟨i,xs',hi,hfi,_,rfl,rfl⟩) hs
 case inr=>
  simp only[HV];refine aT (by decide) ⟨_,.inr ⟨_,(gW.bO (fun _=>False) hok hl hfi).mono fun _ h=>h.elim,by omega,rfl,rfl⟩,hs.re [0,5,1,2,7] rfl⟩
 simp only[HV];refine aH rfl ?_;rw[pX (by rw[aG,aG,kK,hws])]at hs;have hpg:=Prog.bO (jd y) hok hl hgo;generalize ht:(dP (D.aa d) x.f (nb*2^j.eb) (r*2^j.eb) (nb*2^j.eb)).length=t at*;have hper:D.aa (D.bO d t)=D.aa d:=rfl;refine⟨nb+1,?_⟩;refine xz (q:=q) (s:=s) (sk:=sk) (kp:=kp) (mb:=mb) (L:=[af p (bh dp ap x),Dk dp (D.bO d t),Ar ap cap (mx aj (bf bufs+D.aa d)) bufs,af q (bh dp ap y)]) _ hT hb htw hr hsz (ws:=dV d x (r*2^j.eb) (nb*2^j.eb)) (kK _ _ _ _) rfl (fun H hs=>?_) nb 0 0 H (by rw[Nat.zero_mul];rfl) (by omega) ?_
 .generalize hus:mR j r (dV d x (r*2^j.eb) (nb*2^j.eb)) nb=us at*;have hul:us.length=nb*2^j.eb:=by rw[<- hus];exact qS _ _ _ _
  have hcell:∀ H,af bb (.row (ah us) 108 mb) H->Cells H (Oo bb) (ah us):=fun H h=>by
   have:=Cells.row h 0 us.length
   rwa [List.drop_zero,List.take_of_length_le (by rw[aG];exact Nat.le_refl _)]at this
  unfold cG.l6;refine aw (Int.lt_irrefl _) ?_;simp only[dQ,Addr.add_zero];refine CrcP.vE hs 0 rfl (Oo bb) (nb*2^j.eb) (nb*2^j.eb) us hul.symm ?_ (by omega) (by omega) fun H hs=>?_
  .obtain⟨H1,h1,hle⟩:=hs.fE 1 rfl;exact(hcell H1 h1).le hle
  have hs:Sep [af rn (gw (more s (form us)) (sk+8*(nb*2^j.eb)) j kp),af bb (.row (ah us) 108 mb),Kn kp j.eb,TT,af p (bh dp ap x),Dk dp (D.bO d t),Ar ap cap (mx aj (bf bufs+D.aa d)) bufs,af q (bh dp ap y)] H:=hs;rw[<- Int.natCast_mul,ed];refine(ub (p:=q) (dp:=dp) (ap:=ap) (d:=D.bO d t) (x:=y) (cap:=cap) (aj:=mx aj (bf bufs+D.aa d)) (bufs:=bufs) (R:=af bb (.row (ah us) 108 mb)) (A:=some (O bb)) (n:=nb*2^j.eb) (m:=nb*2^j.eb) (src:=us) hpg.ok hpg.down (hy.prog hpg) ⟨by show d.rd+t<=_;omega,by show d.wr<=_;omega⟩ (r*2^j.eb) hul.symm (by omega) hfy (Nat.le_refl _) hcap hcell).use hs [7,5,6,1] rfl rfl ?_;rintro v M H (⟨hpg2,rfl,rfl⟩|⟨d',hd,hfu,rfl,rfl⟩) hs
  .simp only[HV];rw[hul,hper,ya]at hs;rw[hul,hper]at hpg2;have hpg3:=hpg.trans hpg2;rw[Nat.zero_add]at hpg3;subst hus;subst ht;exact⟨_,.inl ⟨hpg3,rfl,rfl⟩,hs.re [4,3,7,0,1,2,5,6] rfl⟩
  .simp only[HV];rw[hper,ya]at hs;rw[hul,hper]at hfu;subst hus;subst ht;refine⟨_,.inr ⟨d',hpg.dead hd,?_,rfl,rfl⟩,hs.re [7,0,1,2,6] rfl⟩;have h1:=hpg.aI;have h2:=hpg.go;omega
 .rw[Gu];exact hs.re [4,3,6,7,0,1,2,5] rfl
end
end Pas
namespace Trn
open Go Go.Hw Go.Crc Go.Form W Shp Str Dsk Are
theorem gZ.unique {r c aa free:Int}{j j':Nat}(hr:1<=r)(h:gZ r c aa free j)(h':gZ r c aa free j'):j=j':=by
 have key:∀{a b:Nat},gZ r c aa free a->gZ r c aa free b->¬a<b:=fun{a b} ha hb hlt=>by
  have hp:2^(a+1)<=2^b:=dw hlt;rw[Nat.pow_succ]at hp;have hz:=pow_pos a;have h1:=hb.le;have h2:=hb.fit;rcases ha.aA with e|e
  .omega
  .have h3:2*((2^a:Nat):Int)<=((2^b:Nat):Int):=by omega
   have:=Int.mul_le_mul_of_nonneg_right h3 (show 0<=r by omega);omega
 have h1:=key h h';have h2:=key h' h;omega
theorem Kw (r c aa free:Int)(hper: -9223372036854775808<=aa/\aa<=9223372036854775807)(hf:free<=9223372036854775807)(H:Hp)(hT:T64 H)(hg:jU r c=true)(hp:iw aa=true)(h1:aa<=free)(h2:r<=free-aa){j:Nat}(hj:gZ r c aa free j):
  ae prog 299 #[.agg #[I r,I c],I aa,I free] H (RetE (.tuple #[I ((2^j:Nat):Int),.bool true]) H):=
 (Kx r c aa free hper hf H hT).mono fun v H' ⟨hq,e⟩=>by
  rcases hq with⟨h,_⟩|⟨_,j',hj',rfl⟩
  .exact absurd ⟨hg,hp,h1,h2⟩ h
  .obtain⟨ea,_,rfl,_⟩:=qw hg;have:=pow_pos ea;rw[hj.unique (by omega) hj'];exact⟨rfl,e⟩
theorem gZ.ex {ea eb:Nat}{aa free:Int}(hab:ea+eb<=32:=by omega)(h:((2^ea:Nat):Int)<=free-aa:=by omega):∃ j,j<=eb/\gZ ((2^ea:Nat):Int) ((2^eb:Nat):Int) aa free j:=by
 have key:∀ t j,j+t=eb->((2^j:Nat):Int)*((2^ea:Nat):Int)<=free-aa->∃ j,j<=eb/\gZ ((2^ea:Nat):Int) ((2^eb:Nat):Int) aa free j:=fun t=>by
  induction t with
  |zero=>intro j hj hf;exact⟨j,by omega,⟨by rw[show j=eb by omega];exact Int.le_refl _,hf,.inl (by rw[show j=eb by omega])⟩⟩
  |succ t ih=>
   intro j hj hf;by_cases hc:((2^(j+1):Nat):Int)*((2^ea:Nat):Int)<=free-aa
   .exact ih (j+1) (by omega) hc
   .refine⟨j,by omega,⟨Int.ofNat_le.2 (dw (by omega)),hf,.inr ?_⟩⟩;rw[show(2:Int)*((2^j:Nat):Int)=((2^(j+1):Nat):Int) by rw[Nat.pow_succ];omega];omega
 exact key eb 0 (by omega) (by rw[Nat.pow_zero];omega)
theorem gZ.ge {r:Int}{eb:Nat}{aa free:Int}{j:Nat}(h:gZ r ((2^eb:Nat):Int) aa free j):j<=eb:=by
 apply Nat.le_of_not_lt;intro hlt;have h1:=dw (show eb+1<=j from hlt);rw[Nat.pow_succ]at h1;have:=h.le;have:=pow_pos eb;omega
section
variable {p q dp ap : Nat} {x y : X} {cap aj : Int} {bufs : List (Nat × Nat × Option Addr)} {TT : As}
theorem pN {L:List As}{H:Hp}(hT:∀ H,TT H->T64 H)(hs:Sep L H)(i:Nat)(hi:L[i]? =some TT):T64 H:=by
 obtain⟨H1,h1,hle⟩:=hs.fE i hi;exact(hT H1 h1).le hle
theorem div_pow {a b:Nat}(h:a<=b):2^b=2^b/2^a*2^a:=(Nat.div_mul_cancel (Nat.pow_dvd_pow 2 h)).symm
theorem BD {d:D}{ea eb j:Nat}(hT:∀ H,TT H->T64 H)(hok:Ok d)(hl:d.down=false)(hx:On d x)(hy:On d y)(ho:d.rd<=2000000000000000000/\d.wr<=2000000000000000000)(hab:ea+eb<=32)(hxw:x.w=2^ea*2^eb)(hyw:y.w=2^ea*2^eb)(hdis:x.f+x.s<=y.f\/y.f+y.s<=x.f)
  (hper:iw (D.aa d:Int)=true) (hcap:cap<=1000000000000) (hsum:0<=bf bufs) (hj:gZ ((2^ea:Nat):Int) ((2^eb:Nat):Int) (D.aa d) (cap-bf bufs) j):
  Tr prog 239 #[V p,V q,.agg #[I ((2^ea:Nat):Int),I ((2^eb:Nat):Int)],V ap,I (D.aa d:Int)]
   [af p (bh dp ap x),af q (bh dp ap y),Dk dp d,Ar ap cap aj bufs,TT] fun v M=>∃ M0,Fx p q dp ap d x y (2^ea) (2^eb) (2^j) cap aj bufs v M0/\M=M0++[TT]:=fun H hs=>by
 have hp:=Ok.eB hok;have hg:=rX hab;have hsz:=size_le hab;have hr1:=pow_pos ea;have hc1:=pow_pos eb;have hb1:=pow_pos j;have hjb:=hj.ge;have hfit:=hj.fit;rw[<- Int.natCast_mul]at hfit;have hbr:1*2^ea<=2^j*2^ea:=Nat.mul_le_mul_right _ hb1;have hbsz:2^j*2^ea<=2^ea*2^eb:=by
  rw[Nat.mul_comm];exact Nat.mul_le_mul_left _ (dw hjb)
 have hS:sa ((2^ea:Nat):Int) ((2^eb:Nat):Int)=((2^ea*2^eb:Nat):Int):=by
  unfold sa;rw[if_pos hg,Int.natCast_mul]
 apply ez.ok;unfold ez;refine hs.nw fun sb H hs=>bQ rfl (bQ rfl (bQ rfl ?_))
 first|refine hs.bd 5 rfl rfl ?_
 try simp only[HV]
 refine bN.use (fT _ _ H (pN hT hs 4 rfl)) ?_;rw[hg];simp only[HV];refine bN.use (ph hs 0 rfl) ?_;simp only[HV]
 first|refine hs.bd 5 rfl rfl ?_
 try simp only[HV]
 refine bN.use (vi _ _ H (pN hT hs 4 rfl)) ?_;rw[hS];simp only[HV];refine aH (by rw[hxw]) ?_;refine bN.use (ph hs 1 rfl) ?_;simp only[HV]
 first|refine hs.bd 5 rfl rfl ?_
 try simp only[HV]
 refine bN.use (vi _ _ H (pN hT hs 4 rfl)) ?_;rw[hS];simp only[HV];refine aH (by rw[hyw]) ?_
 first|refine hs.bd 5 rfl rfl ?_
 try simp only[HV]
 simp only[dQ,Addr.add_zero];refine bN.use (GL hs 3 rfl) ?_;simp only[HV];refine bN.use (Kw _ _ _ _ ⟨by omega,by omega⟩ (by omega) H (pN hT hs 4 rfl) hg hper (by omega) (by omega) hj) ?_;simp only[HV];refine hs.ld 5 (v:=I ((2^ea:Nat):Int)) rfl rfl ?_;simp only[HV];rw[<- Int.natCast_mul,ed];refine(ml (a:=ap) (cap:=cap) (aj:=aj) (bufs:=bufs) (n:=2^j*2^ea)).use hs [3] rfl rfl ?_;rintro _ _ H ⟨bn,bb,rfl,rfl⟩ hs;simp only[HV];refine aH rfl ?_;have hbm:∀ z∈bufs,z.1≠bn:=fun z hz e=>by
  obtain⟨mp,cl,tk,hA⟩:=Sep.ar hs 0 rfl;have:=hA.bn;rw[List.map_append,List.nodup_append]at this;exact this.2.2 z.1 (List.mem_map_of_mem hz) bn (by simp) e
 refine hs.nw fun vb H hs=>?_
 refine hs.bd 6 rfl rfl ?_;simp only[HV];refine hs.nw fun rn H hs=>?_
 refine⟨2^eb/2^j+1,?_⟩;have hz:eK (2^j*2^ea)=ah (List.replicate (2^j*2^ea) 0):=by
  unfold eK;rw[fm];unfold ah;rw[List.map_replicate];rfl
 rw[hz]at hs;have hsb:bf (bufs++[(bn,2^j*2^ea,some (O bb))])=bf bufs+((2^j*2^ea:Nat):Int):=by
  rw[nf];simp[bf]
 have hpk:mx (mx aj (bf bufs+((2^j*2^ea:Nat):Int))) (bf (bufs++[(bn,2^j*2^ea,some (O bb))])+D.aa d)=mx aj (bf bufs+((2^j*2^ea:Nat):Int)+D.aa d):=by
  rw[hsb];generalize((2^j*2^ea:Nat):Int)=n at*;unfold mx;by_cases h1:bf bufs+n>aj
  .rw[if_pos h1,if_pos (by omega),if_pos (by omega)]
  .rw[if_neg h1]
 have out:∀{v:Value} {d':D} {H:Hp},(∀{M},M=[af p (bh dp ap x),af q (bh dp ap y),Dk dp d',Ar ap cap (mx aj (bf bufs+((2^j*2^ea:Nat):Int)+D.aa d)) bufs]->Fx p q dp ap d x y (2^ea) (2^eb) (2^j) cap aj bufs v M)->
   Sep [af p (bh dp ap x),af q (bh dp ap y),Dk dp d',Ar ap cap (mx (mx aj (bf bufs+((2^j*2^ea:Nat):Int))) (bf (bufs++[(bn,2^j*2^ea,some (O bb))])+D.aa d)) bufs,TT] H->∃ M,(∃ M0,Fx p q dp ap d x y (2^ea) (2^eb) (2^j) cap aj bufs v M0/\M=M0++[TT])/\Sep M H:=fun h hs=>by
  rw[hpk]at hs;exact⟨_,⟨_,h rfl,rfl⟩,hs⟩
 have hkk:=wW (p:=p) (q:=q) (dp:=dp) (ap:=ap) (rn:=rn) (bn:=bn) (bb:=bb) (sb:=sb) (vb:=vb) (x:=x) (y:=y) (cap:=cap) (aj:=mx aj (bf bufs+((2^j*2^ea:Nat):Int))) (bufs:=bufs) (mb:=2^j*2^ea) (TT:=TT) (fun v H'=>∃ M,(∃ M0,Fx p q dp ap d x y (2^ea) (2^eb) (2^j) cap aj bufs v M0/\M=M0++[TT])/\Sep M H') hok hx hy ho hxw hyw hdis hb1 (div_pow hjb) hsz hr1 hc1 (by rw[hsb];omega) hbm rfl
  (fun d' H hI hs=>out (fun e=>.inl ⟨d',hI,rfl,e⟩) hs) (fun d' H hd hfu hs=>out (fun e=>.inr ⟨d',hd,hfu,rfl,e⟩) hs) (2^eb/2^j) 0 d _ (List.replicate (2^j*2^ea) 0) H (by omega)
  ⟨by simpa [rT,wT]using Prog.refl (jd y) hok hl,fun _ _=>rfl,fun k hk=>by simp at hk⟩ (by simp) rfl (.inl rfl)
 have e0:((0*2^j:Nat):Int)=0:=by rw[Nat.zero_mul];rfl
 rw[e0]at hkk;refine hkk ?_;have hs:=hs.re [6,8,1,2,3,4,0,7,5] rfl;unfold lh;simp only[Nat.zero_mul,Nat.mul_zero,List.take_zero];exact hs
end
end Trn
namespace Pas
open Go Go.Hw Go.Crc Go.Form W Shp Gol Fft Ker Str Dsk Are Trn
structure ke (ea q j:Nat):Prop where
 le:j<=ea
 fit:2^j+1<=q
 aA:j=ea\/q<2*2^j+1
theorem ke.unique {ea q j j':Nat}(h:ke ea q j)(h':ke ea q j'):j=j':=by
 have key:∀{a b:Nat},ke ea q a->ke ea q b->¬a<b:=fun{a b} ha hb hlt=>by
  have hp:2^(a+1)<=2^b:=dw hlt;rw[Nat.pow_succ]at hp;have h1:=hb.le;have h2:=hb.fit;rcases ha.aA with e|e
  .omega
  .omega
 have h1:=key h h';have h2:=key h' h;omega
theorem ke.ex {ea q:Nat}(h:2<=q):∃ j,ke ea q j:=by
 have key:∀ t j,j+t=ea->2^j+1<=q->∃ j,ke ea q j:=fun t=>by
  induction t with
  |zero=>intro j hj hf;exact⟨j,by omega,hf,.inl (by omega)⟩
  |succ t ih=>
   intro j hj hf;by_cases hc:2^(j+1)+1<=q
   .exact ih (j+1) (by omega) hc
   .rw[Nat.pow_succ]at hc;exact⟨j,by omega,hf,.inr (by omega)⟩
 exact key ea 0 (by omega) (by rw[Nat.pow_zero];omega)
theorem Co {a b:Nat}(h:2^a=2^b):a=b:=by
 rcases Nat.lt_trichotomy a b with h1|h1|h1
 .have:=Nat.pow_lt_pow_right (show 1<2 by omega) h1;omega
 .exact h1
 .have:=Nat.pow_lt_pow_right (show 1<2 by omega) h1;omega
abbrev IM (r c aa free:Int):Prop:=jU r c=true/\c<=1048576/\iw aa=true/\aa<=free/\2*c<=free-aa
def EX (r c aa free:Int)(v:Value):Prop:=
 (¬IM r c aa free/\v= .tuple #[I 0,.bool false])\/
 (IM r c aa free/\∃ ea eb j:Nat,r=((2^ea:Nat):Int)/\c=((2^eb:Nat):Int)/\ea+eb<=32/\ke ea ((free-aa).toNat/2^eb) j/\v= .tuple #[I ((2^j:Nat):Int),.bool true])
theorem IP {r c aa free:Int}{ea eb f:Nat}(hr:r=((2^ea:Nat):Int))(hc:c=((2^eb:Nat):Int))(hab:ea+eb<=32)(hf:free-aa=(f:Int))(hf2:f<=9223372036854775807)(hfr:free-aa<=9223372036854775807)(K:VK)(b1:Nat){L:List As}(i:Nat)
  (hi:L[i]? =some (af b1 (Oq #[I r,I c] 217))) {H:Hp} (hs:Sep L H) (hK:∀ j,ke ea (f/2^eb) j->K (.tuple #[I ((2^j:Nat):Int),.bool true]) H):
  ∀(t j:Nat),j+t=ea->2^j+1<=f/2^eb->dB.l4 K (t+1) aa free (O b1) ((2^j:Nat):Int) H:=by
 have hc1:=pow_pos eb;intro t
 induction t with
 |zero=>
  intro j hj hfit;have hp2:=dw (show j<=32 by omega);have hp1:=pow_pos j;unfold dB.l4;rw[show(O b1).add 0=(O b1)from rfl];refine hs.ld i hi rfl ?_;simp only[HV];rw[bu (x:=2*((2^j:Nat):Int))];refine aw ?_ (hK j ⟨by omega,hfit,.inl (by omega)⟩);rw[hr,show ea=j by omega];omega
 |succ t ih=>
  intro j hj hfit;have hp2:=dw (show j+1<=32 by omega);have hp3:=dw (show j+1<=ea by omega);have hp1:=pow_pos j;rw[Nat.pow_succ]at hp2 hp3;unfold dB.l4;rw[show(O b1).add 0=(O b1)from rfl];refine hs.ld i hi rfl ?_;simp only[HV];rw[bu (x:=2*((2^j:Nat):Int))];refine aC (by rw[hr];omega) ?_;refine hs.cC i hi rfl ?_;simp only[HV];refine⟨by rw[hc];omega,trivial,?_⟩;rw[bu (x:=free-aa) (by omega) hfr];rw[show Int.tdiv (free-aa) c=((f/2^eb:Nat):Int) by rw[hf,hc];rfl];have hdl:f/2^eb<=f:=Nat.div_le_self _ _;rw[ed,bu (x:=2*((2^j:Nat):Int)+1)];by_cases hc2:2*2^j+1<=f/2^eb
  .refine aC (by omega) ?_;rw[bu,show((2^j:Nat):Int)*2=((2^(j+1):Nat):Int) by rw[Nat.pow_succ];omega];exact ih (j+1) (by omega) (by rw[Nat.pow_succ];omega)
  .exact aw (by omega) (hK j ⟨by omega,hfit,.inr (by omega)⟩)
theorem It (r c aa free:Int)(hper: -9223372036854775808<=aa/\aa<=9223372036854775807)(hf:free<=9223372036854775807)(H:Hp)(hT:T64 H):
  ae prog 304 #[.agg #[I r,I c],I aa,I free] H fun v H'=>EX r c aa free v/\H'=H:=by
 refine ae.forget ?_;apply dB.ok;unfold dB;refine(Sep.start H).nw fun b1 H1 hs=>?_
 have out:∀{v:Value},EX r c aa free v->∃ H'',H''.le H1/\EX r c aa free v/\H''=H:=fun h=>⟨H,hs.ow 0 rfl,h,rfl⟩
 first|refine hs.bd 1 rfl rfl ?_
 try simp only[HV]
 refine ae.use (fT r c H1 (hT.le (hs.ow 0 rfl))) ?_;simp only[HV];cases hg:jU r c with
 |false=>exact cV rfl (out (.inl ⟨fun h=>(by have h1:=h.1;rw[hg]at h1;cases h1),rfl⟩))
 |true=>
  refine bQ rfl ?_;obtain⟨ea,eb,hr,hc,hab,_,_⟩:=qw hg;have he1:=pow_pos ea;have he2:=pow_pos eb;have he3:=dw (show ea<=32 by omega);have he4:=dw (show eb<=32 by omega)
  first|refine hs.cC 1 rfl rfl ?_|refine hs.kH 1 rfl rfl ?_
  try simp only[HV]
  by_cases h0:c>1048576
  .exact aC h0 (out (.inl ⟨fun h=>(by have:=h.2.1;omega),rfl⟩))
  refine aw h0 ?_;by_cases h1:aa<4
  .exact aC h1 (out (.inl ⟨fun h=>(by have:=mF h.2.2.1;omega),rfl⟩))
  refine aw h1 ?_;by_cases h2:aa>512
  .exact aC h2 (out (.inl ⟨fun h=>(by have:=mF h.2.2.1;omega),rfl⟩))
  refine aw h2 ?_;have hpb:=zc (p:=aa);cases hp:iw aa with
  |false=>exact aT (fun h=>by rw[hpb.1 h]at hp;cases hp) (out (.inl ⟨fun h=>(by have h1:=h.2.2.1;rw[hp]at h1;cases h1),rfl⟩))
  |true=>
   refine aH (hpb.2 hp) ?_;by_cases h3:free<aa
   .exact aC h3 (out (.inl ⟨fun h=>(by omega),rfl⟩))
   refine aw h3 ?_
   first|refine hs.cC 1 rfl rfl ?_|refine hs.kH 1 rfl rfl ?_
   try simp only[HV]
   rw[bu (x:=free-aa),bu (x:=2*c)];by_cases h4:free-aa<2*c
   .exact aC h4 (out (.inl ⟨fun h=>(by omega),rfl⟩))
   refine aw h4 ?_;obtain⟨f,hfe⟩:=Int.eq_ofNat_of_zero_le (show 0<=free-aa by omega);refine⟨ea+1,?_⟩;have h2q:2<=f/2^eb:=by rw[Nat.le_div_iff_mul_le (by omega)];omega
   exact IP hr hc hab hfe (by omega) (by omega) (fun v H'=>∃ H'',H''.le H'/\EX r c aa free v/\H''=H) b1 1 rfl hs (fun j hj=>out (.inr ⟨⟨hg,by omega,hp,by omega,by omega⟩,ea,eb,j,hr,hc,hab,by rw[hfe,Int.toNat_natCast];exact hj,rfl⟩)) ea 0 (by omega) (by rw[Nat.pow_zero];omega)
theorem Is {ea eb:Nat}(aa free:Int)(hper: -9223372036854775808<=aa/\aa<=9223372036854775807)(hf:free<=9223372036854775807)(H:Hp)(hT:T64 H)(hab:ea+eb<=32)(h:IM ((2^ea:Nat):Int) ((2^eb:Nat):Int) aa free){j:Nat}(hj:ke ea ((free-aa).toNat/2^eb) j):
  ae prog 304 #[.agg #[I ((2^ea:Nat):Int),I ((2^eb:Nat):Int)],I aa,I free] H (RetE (.tuple #[I ((2^j:Nat):Int),.bool true]) H):=
 (It _ _ aa free hper hf H hT).mono fun v H' ⟨hq,e⟩=>by
  rcases hq with⟨h',_⟩|⟨_,ea',eb',j',h1,h2,_,hj',rfl⟩
  .exact absurd h h'
  .have e1:ea=ea':=Co (show 2^ea=2^ea' by omega);have e2:eb=eb':=Co (show 2^eb=2^eb' by omega);subst e1 e2;rw[hj.unique hj'];exact⟨rfl,e⟩
def mW (r c dir tw xw yw:Int):Int:=
 if jU r c=true/\xw=r*c/\yw=r*c then(if dir<0\/dir>1 then 18 else if tw< -1\/tw>32 then 2 else 0)else 19
section
variable {L : List As} {H : Hp} {p q dp ap ap' : Nat} {x y : X}
theorem vl (hs:Sep L H)(i:Nat)(hi:L[i]? =some (af p (bh dp ap x)))(k:Nat)(hk:L[k]? =some (af q (bh dp ap y)))(hT:T64 H)(r c dir tw sh:Int):
  ae prog 303 #[V p,V q,.agg #[I r,I c,I dir,I tw,U sh],V ap'] H (RetE (I (mW r c dir tw x.w y.w)) H):=ae.ret (by
 have hp1:=hs.get i hi;have hq1:=hs.get k hk;apply oh.ok;unfold oh;refine(Sep.start H).nw fun b1 H1 hs=>?_
 have hs:Sep [own H,af b1 (Oq #[I r,I c,I dir,I tw,U sh] 219)] H1:=hs;have hle:=hs.ow 0 rfl;have out:∀{v:Value},v= I (mW r c dir tw x.w y.w)->lG (I (mW r c dir tw x.w y.w)) H v H1:=fun h=>⟨h,hle⟩
 have hw:∀{b:Nat} {z:X},H b=some (bh dp ap z)->ae prog 186 #[V b] H1 (RetE (I (z.w:Int)) H1):=fun{b z} hb=>by
  have hsP:Sep [af b (bh dp ap z)] H1:=⟨H1,fun _=>none,Hp.le_refl _,fun _ _ h=>(nomatch h),fun _=>.inr rfl,hle _ _ hb,trivial⟩;exact ph hsP 0 rfl
 refine bQ rfl (bQ rfl (bQ rfl ?_));simp only[Addr.add_zero];refine hs.mO 1 rfl (show 0+2<=5 by omega) ?_;refine bN.use (fT r c H1 (hT.le hle)) ?_;simp only[HV];cases hg:jU r c with
 |false=>
  refine cV rfl (out ?_);unfold mW;rw[if_neg (fun h=>by rw[hg]at h;cases h.1)]
 |true=>
  refine bQ rfl ?_;refine bN.use (hw hp1) ?_;simp only[HV];refine hs.mO 1 rfl (show 0+2<=5 by omega) ?_;refine bN.use (vi r c H1 (hT.le hle)) ?_;rw[show sa r c=r*c by unfold sa;rw[if_pos hg]];simp only[HV];by_cases h1:(x.w:Int)=r*c
  case neg=>
   refine aT h1 (out ?_);unfold mW;rw[if_neg (fun h=>h1 h.2.1)]
  refine aH h1 ?_;refine bN.use (hw hq1) ?_;simp only[HV];refine hs.mO 1 rfl (show 0+2<=5 by omega) ?_;refine bN.use (vi r c H1 (hT.le hle)) ?_;rw[show sa r c=r*c by unfold sa;rw[if_pos hg]];simp only[HV];by_cases h2:(y.w:Int)=r*c
  case neg=>
   refine aT h2 (out ?_);unfold mW;rw[if_neg (fun h=>h2 h.2.2)]
  refine aH h2 ?_;have hc:mW r c dir tw x.w y.w=if dir<0\/dir>1 then 18 else if tw< -1\/tw>32 then 2 else 0:=by
   unfold mW;rw[if_pos ⟨hg,h1,h2⟩]
  refine hs.cC 1 rfl rfl ?_;simp only[HV];by_cases h3:dir<0
  .exact aC h3 (out (by rw[hc,if_pos (.inl h3)]))
  refine aw h3 ?_;refine hs.cC 1 rfl rfl ?_;simp only[HV];by_cases h4:dir>1
  .exact aC h4 (out (by rw[hc,if_pos (.inr h4)]))
  refine aw h4 ?_;refine hs.cC 1 rfl rfl ?_;simp only[HV];by_cases h5:tw< -1
  .exact aC h5 (out (by rw[hc,if_neg (by omega),if_pos (.inl h5)]))
  refine aw h5 ?_;refine hs.cC 1 rfl rfl ?_;simp only[HV];by_cases h6:tw>32
  .exact aC h6 (out (by rw[hc,if_neg (by omega),if_pos (.inr h6)]))
  refine aw h6 (out (by rw[hc,if_neg (by omega),if_neg (by omega)])))
end
theorem Mi (k:Nat)(hk:k<64)(H:Hp)(hT:T64 H):ae prog 306 #[U ((2^k:Nat):Int)] H (RetE (I (k:Int)) H):=by
 apply gy.ok;unfold gy;refine ae.use (J1 k hk H hT) ?_;simp only[HV];exact RetE.mk _ _
def ir (j:J)(d:D)(x:X)(m:Nat):List UInt64:=(List.range m).flatMap fun q=>kL j q (dV d x (q*2^j.eb) (2^j.eb))
theorem uL (j:J)(d:D)(x:X):∀ m,(ir j d x m).length=m*2^j.eb
 |0=>by simp[ir]
 |m+1=>by
  unfold ir;rw[List.range_succ,List.flatMap_append,List.length_append];have:=uL j d x m;unfold ir at this;rw[this,Nat.succ_mul];simp[ry]
theorem Cr {d:D}{x:X}{fr n a c:Nat}(h:a+c<=n):((dV d x fr n).drop a).take c=dV d x (fr+a) c:=by
 apply List.ext_getElem?;intro i;rw[List.getElem?_take];by_cases hi:i<c
 .rw[if_pos hi,List.getElem?_drop,vu (by omega),vu hi,Nat.add_assoc]
 .rw[if_neg hi,List.getElem?_eq_none (by rw[kK];omega)]
theorem MZ {d d':D}{x:X}{fr n:Nat}(h:∀ k,fr<=k->k<fr+n->pw d' x k=pw d x k):dV d' x fr n=dV d x fr n:=by
 unfold dV;apply List.map_congr_left;intro k hk;have:=List.mem_range.1 hk;exact h _ (by omega) (by omega)
theorem HC {j:J}{d d':D}{x:X}(a b:Nat)(h:∀ k,k<x.w->pw d' x k=pw d x k)(hw:(a+b)*2^j.eb<=x.w):
  ir j d x (a+b)=ir j d x a++mR j a (dV d' x (a*2^j.eb) (b*2^j.eb)) b:=by
 unfold ir mR;rw[List.range_add,List.flatMap_append,List.flatMap_map];congr 1;have:∀(l:List Nat),(∀ q,q∈l->q<b)->l.flatMap (fun q=>kL j (a+q) (dV d x ((a+q)*2^j.eb) (2^j.eb)))=l.flatMap fun q=>kL j (a+q) (((dV d' x (a*2^j.eb) (b*2^j.eb)).drop (q*2^j.eb)).take (2^j.eb)):=fun l=>by
  induction l with
  |nil=>intro _;rfl
  |cons q l ih=>
   intro hq;have hqb:=hq q (by simp);have h1:(q+1)*2^j.eb<=b*2^j.eb:=Nat.mul_le_mul_right _ (by omega);have h2:(a+q+1)*2^j.eb<=(a+b)*2^j.eb:=Nat.mul_le_mul_right _ (by omega);rw[Nat.succ_mul]at h1 h2;rw[List.flatMap_cons,List.flatMap_cons,ih fun q' h'=>hq q' (by simp[h']),Cr h1,<-Nat.add_mul,MZ (d:=d) (d':=d') (fr:=(a+q)*2^j.eb) (n:=2^j.eb) fun k h3 h4=>h k (by omega)]
 exact this _ fun q hq=>List.mem_range.1 hq
def rP (aa f f' n m:Nat):Nat:=((List.range m).map fun i=>(dP aa f n (i*n) n).length+jC aa f' n (i*n) n).sum
def wP (aa f' n m:Nat):Nat:=((List.range m).map fun i=>(dP aa f' n (i*n) n).length).sum
theorem zh (aa f f' n m:Nat):rP aa f f' n (m+1)=rP aa f f' n m+((dP aa f n (m*n) n).length+jC aa f' n (m*n) n):=by
 unfold rP;rw[List.range_succ,List.map_append,List.sum_append];simp
theorem zs (aa f' n m:Nat):wP aa f' n (m+1)=wP aa f' n m+(dP aa f' n (m*n) n).length:=by
 unfold wP;rw[List.range_succ,List.map_append,List.sum_append];simp
theorem Ln (aa f f' n:Nat){i j:Nat}(h:i<=j):rP aa f f' n i<=rP aa f f' n j:=by
 induction h with
 |refl=>exact Nat.le_refl _
 |step h ih=>rw[zh];omega
theorem LP (aa f' n:Nat){i j:Nat}(h:i<=j):wP aa f' n i<=wP aa f' n j:=by
 induction h with
 |refl=>exact Nat.le_refl _
 |step h ih=>rw[zs];omega
theorem Fq (aa f f' n:Nat):∀ m,rP aa f f' n m<=m*(2*n)
 |0=>by simp[rP]
 |m+1=>by
  rw[zh,Nat.succ_mul];have h1:=Fq aa f f' n m;have h2:=jg aa f n (m*n) n;have h3:=jg aa f' n (m*n) n;have h4:jC aa f' n (m*n) n<=(dP aa f' n (m*n) n).length:=List.length_filter_le _ _;omega
theorem FO (aa f' n:Nat):∀ m,wP aa f' n m<=m*n
 |0=>by simp[wP]
 |m+1=>by
  rw[zs,Nat.succ_mul];have h1:=FO aa f' n m;have h3:=jg aa f' n (m*n) n;omega
structure ER (d d':D)(x y:X)(j:J)(b m:Nat):Prop where
 pg:Prog (jd y) d d' (rP (D.aa d) x.f y.f (b*2^j.eb) m) (wP (D.aa d) y.f (b*2^j.eb) m)
 src:∀ k,k<x.w->pw d' x k=pw d x k
 dst:∀ k,k<m*b*2^j.eb->pw d' y k=((ir j d x (m*b))[k]?).getD 0
def Bh (p q dp ap:Nat)(d:D)(x y:X)(j:J)(b:Nat)(cap aj:Int)(bufs:List (Nat×Nat×OA))(v:Value)(M:List As):Prop:=
 (∃ d',ER d d' x y j b (2^j.ea/b)/\v= .tuple #[Ot ((sum (form (ir j d x (2^j.ea)))).toNat:Int),I 0]/\
  M=[af p (bh dp ap x),af q (bh dp ap y),Dk dp d',Ar ap cap (mx aj (bf bufs+(b*2^j.eb:Nat)+(2^j.eb:Nat)+D.aa d)) bufs])\/
 (∃ d',gW (jd y) d d'/\d.aI<=rP (D.aa d) x.f y.f (b*2^j.eb) (2^j.ea/b)+wP (D.aa d) y.f (b*2^j.eb) (2^j.ea/b)/\v= .tuple #[Ot 0,I 8]/\
  M=[af p (bh dp ap x),af q (bh dp ap y),Dk dp d',Ar ap cap (mx aj (bf bufs+(b*2^j.eb:Nat)+(2^j.eb:Nat)+D.aa d)) bufs])
section
variable {p q dp ap rn bn bb bn2 bb2 sb v2 v3 kp : Nat} {x y : X} {cap aj : Int} {bufs : List (Nat × Nat × Option Addr)} {TT : As} {j : J} {mb : Nat}
def gi (bufs:List (Nat×Nat×OA))(bn n bb:Nat):List (Nat×Nat×OA):=bufs++[(bn,n,some (O bb))]
def Bg (rn p q dp ap bn bb bn2 bb2 sb v2 v3 kp:Nat)(d0 d':D)(x y:X)(j:J)(b m:Nat)(cap pk:Int)(bufs:List (Nat×Nat×OA))(ws:List UInt64)(mb:Nat)(TT:As):List As:=
 [af sb (Oq j.a 219),af rn (gw (sum (form (ir j d0 x (m*b)))) (8*(m*b*2^j.eb)) j kp),af bb (.row (ah ws) 108 mb),
  af p (bh dp ap x),af q (bh dp ap y),Dk dp d',Ar ap cap pk (gi (gi bufs bn (b*2^j.eb) bb) bn2 (2^j.eb) bb2),af v2 (.row [V bn] 331 1),af v3 (.row [V bn2] 331 1),Kn kp j.eb,TT]
set_option maxHeartbeats 1000000 in
theorem wW (K:VK){d:D}{b:Nat}(hT:∀ H,TT H->T64 H)(hok:Ok d)(hx:On d x)(hy:On d y)(ho:d.rd<=2000000000000000000/\d.wr<=2000000000000000000)(hab:j.ea+j.eb<=32)(hb20:j.eb<=20)(htw:j.tw<=32)(hxw:x.w=2^j.ea*2^j.eb)(hyw:y.w=2^j.ea*2^j.eb)(hdis:x.f+x.s<=y.f\/y.f+y.s<=x.f)(hb1:1<=b)(hbd:2^j.ea=2^j.ea/b*b)
  (hcap:(D.aa d:Int)<=cap-bf (gi (gi bufs bn (b*2^j.eb) bb) bn2 (2^j.eb) bb2)) (hbm:∀ z∈bufs,z.1≠bn) (hbm2:∀ z∈gi bufs bn (b*2^j.eb) bb,z.1≠bn2)
  {P1:Int} (hP1:P1=mx aj (bf (gi (gi bufs bn (b*2^j.eb) bb) bn2 (2^j.eb) bb2)+D.aa d))
  (hK:∀ d' H,ER d d' x y j b (2^j.ea/b)->Sep [af p (bh dp ap x),af q (bh dp ap y),Dk dp d',Ar ap cap P1 bufs,TT] H->K (.tuple #[Ot ((sum (form (ir j d x (2^j.ea)))).toNat:Int),I 0]) H)
  (hK8:∀ d' H,gW (jd y) d d'->d.aI<=rP (D.aa d) x.f y.f (b*2^j.eb) (2^j.ea/b)+wP (D.aa d) y.f (b*2^j.eb) (2^j.ea/b)->Sep [af p (bh dp ap x),af q (bh dp ap y),Dk dp d',Ar ap cap P1 bufs,TT] H->K (.tuple #[Ot 0,I 8]) H):
  ∀(t m:Nat) (z:Int) (d':D) (pk:Int) (ws:List UInt64) (H:Hp),z=((m*b:Nat):Int)->m+t=2^j.ea/b->ER d d' x y j b m->ws.length=b*2^j.eb->mx pk (bf (gi (gi bufs bn (b*2^j.eb) bb) bn2 (2^j.eb) bb2)+D.aa d)=P1->(m=0\/pk=P1)->Sep (Bg rn p q dp ap bn bb bn2 bb2 sb v2 v3 kp d d' x y j b m cap pk bufs ws mb TT) H->
   cI.l17 K (t+1) (Oo p) (Oo q) (O sb) (b:Int) (Oo bn) (O rn) z (Oo ap) (Oo v3) 1 1 (Oo ap) (Oo v2) 1 1 H:=fun t=>by
 have hp:=Ok.eB hok;have hsz:=size_le hab;have hr1:=pow_pos j.ea;have hc1:=pow_pos j.eb;have hnb:2^j.ea/b<=2^j.ea:=Nat.div_le_self _ _;have hn1:1<=2^j.ea/b:=by
  have:2^j.ea/b≠0:=fun h0=>by rw[h0,Nat.zero_mul]at hbd;omega
  exact Nat.pos_of_ne_zero this
 have hcc:2^j.ea/b*(b*2^j.eb)=2^j.ea*2^j.eb:=by rw[<- Nat.mul_assoc,<-hbd]
 have hbr:b*2^j.eb<=2^j.ea*2^j.eb:=by rw[<- hcc];exact Nat.le_mul_of_pos_left _ hn1
 have hbb:b<=2^j.ea:=by
  have:1*b<=2^j.ea/b*b:=Nat.mul_le_mul_right b hn1;omega
 have hbc1:1*2^j.eb<=b*2^j.eb:=Nat.mul_le_mul_right _ hb1;have hr32:=dw (show j.ea<=32 by omega);have tP:∀ m,m<=2^j.ea/b->m*(2*(b*2^j.eb))<=2*(2^j.ea*2^j.eb)/\m*(b*2^j.eb)<=2^j.ea*2^j.eb:=fun m hm=>by
  have:m*(b*2^j.eb)<=2^j.ea*2^j.eb:=by rw[<- hcc];exact Nat.mul_le_mul_right _ hm
  refine⟨?_,this⟩;rw[Nat.mul_left_comm];omega
 have gives:∀{d':D} {H:Hp} {K':Hp->Prop},Sep [Ar ap cap P1 (gi (gi bufs bn (b*2^j.eb) bb) bn2 (2^j.eb) bb2),af v3 (.row [V bn2] 331 1),af v2 (.row [V bn] 331 1),af p (bh dp ap x),af q (bh dp ap y),Dk dp d',TT] H->
   (∀ H,Sep [af p (bh dp ap x),af q (bh dp ap y),Dk dp d',Ar ap cap P1 bufs,TT] H->K' H)->
   dJ prog 257 #[V ap,.slice (Oo v3) 1 1] H fun _ H=>dJ prog 257 #[V ap,.slice (Oo v2) 1 1] H fun _ H=>K' H:=fun hs k=>by
  refine(gP v3 bn2 (2^j.eb) (Oo bb2) hbm2).use hs [0,1] rfl rfl ?_;rintro _ _ H ⟨rfl,rfl⟩ hs;refine(gP v2 bn (b*2^j.eb) (Oo bb) hbm).use hs [0,1] rfl rfl ?_;rintro _ _ H ⟨rfl,rfl⟩ hs;exact k H (hs.re [1,2,3,0,4] rfl)
 induction t with
 |zero=>
  rintro m _ d' pk ws H rfl hm hI hws hpk hip hs;have hme:m=2^j.ea/b:=by omega
  subst hme;unfold Bg at hs;unfold cI.l17;rw[show((O sb).add 0).add 0=(O sb)from rfl];refine hs.ld 0 rfl rfl ?_;simp only[HV];rw[<- hbd];refine aw (Int.lt_irrefl _) ?_;rw[Addr.add_zero];refine ae.use (CrcP.Di hs 1 rfl) ?_
  try simp only[HV]
  rw[<- hbd];rw[hip.resolve_left (by omega)]at hs;exact gives (hs.re [6,8,7,3,4,5,10] rfl) fun H hs=>hK d' H hI hs
 |succ t ih=>
  rintro m _ d' pk ws H rfl hm hI hws hpk hip hs;have hmlt:m<2^j.ea/b:=by omega
  have hmb:(m+1)*b<=2^j.ea:=by
   have h1:(m+1)*b<=2^j.ea/b*b:=Nat.mul_le_mul_right b hmlt;omega
  have hmb':=hmb;rw[Nat.succ_mul]at hmb';have hper:D.aa d'=D.aa d:=hI.pg.aa;have hxd:=hx.prog hI.pg;have hyd:=hy.prog hI.pg;have hrt:=Fq (D.aa d) x.f y.f (b*2^j.eb) m;have hwt:=FO (D.aa d) y.f (b*2^j.eb) m;have hcnt:=tP m (by omega);have hrd:=hI.pg.rd;have hwr:=hI.pg.wr;have hmr:(m*b+b)*2^j.eb<=2^j.ea*2^j.eb:=Nat.mul_le_mul_right _ hmb';have hmr':=hmr;rw[Nat.add_mul]at hmr;unfold Bg at hs;unfold cI.l17;rw[show((O sb).add 0).add 0=(O sb)from rfl];refine hs.ld 0 rfl rfl ?_;simp only[HV];refine aC (by omega) ?_;refine ae.use (lz hs 6 rfl (b:=bn) (n:=b*2^j.eb) (A:=some (O bb)) (by simp[gi])) ?_
  try simp only[HV]
  refine(IQ (rn:=rn) (p:=p) (q:=q) (dp:=dp) (ap:=ap) (kp:=kp) (bb:=bb) (mb:=mb) (s:=sum (form (ir j d x (m*b)))) (sk:=8*(m*b*2^j.eb)) (j:=j) (x:=x) (y:=y) (cap:=cap) (aj:=pk) (bufs:=gi (gi bufs bn (b*2^j.eb) bb) bn2 (2^j.eb) bb2) (d:=d') (r:=m*b) (nb:=b) hT hI.pg.ok hI.pg.down hxd hyd (by omega) hb20 htw hb1 (by omega) (by omega) (by rw[hxw];exact hmr) (by rw[hyw];exact hmr) (by omega) (by omega) (by rw[hper];exact hcap) ws hws).use hs [1,2,3,4,5,6,9,10] rfl rfl ?_;rintro v M H hQ hs;unfold Ms at hQ;rw[hper]at hQ;simp only at hQ;have hPP:mx P1 (bf (gi (gi bufs bn (b*2^j.eb) bb) bn2 (2^j.eb) bb2)+D.aa d)=P1:=by rw[hP1,ya]
  have hma:m*(b*2^j.eb)=m*b*2^j.eb:=(Nat.mul_assoc _ _ _).symm;have hrs:=zh (D.aa d) x.f y.f (b*2^j.eb) m;have hws':=zs (D.aa d) y.f (b*2^j.eb) m;rw[hma]at hrs hws';rcases hQ with⟨hpg2,rfl,rfl⟩|⟨d2,hdd,hfu,rfl,rfl⟩
  case inr=>
   simp only[HV];refine aT (by decide) ?_;rw[hpk]at hs;refine gives (hs.re [3,7,6,0,1,2,4] rfl) fun H hs=>hK8 d2 H (hI.pg.dead hdd) ?_ hs
   have z1:=hI.pg.aI;have z2:=hI.pg.go;have z3:=Ln (D.aa d) x.f y.f (b*2^j.eb) (show m+1<=2^j.ea/b by omega);have z4:=LP (D.aa d) y.f (b*2^j.eb) (show m+1<=2^j.ea/b by omega);omega
  simp only[HV];refine aH rfl ?_;generalize ht0:(dP (D.aa d) x.f (b*2^j.eb) (m*b*2^j.eb) (b*2^j.eb)).length=t0 at*;have hok1:Ok (D.bO d' t0):=Ok.bO hI.pg.ok t0;have hU:=HC (j:=j) (d:=d) (d':=d') (x:=x) (m*b) b hI.src (by rw[hxw];exact hmr');have hul:(mR j (m*b) (dV d' x (m*b*2^j.eb) (b*2^j.eb)) b).length=b*2^j.eb:=qS _ _ _ _;generalize hus:mR j (m*b) (dV d' x (m*b*2^j.eb) (b*2^j.eb)) b=us at*;have hpw:=fun k=>zt y hok1 (m*b*2^j.eb) us k
  rw[hul]at hpw;have hpg3:=hI.pg.trans hpg2;rw[<- hrs,<-hws']at hpg3;have htk:m*b+b=(m+1)*b:=(Nat.succ_mul m b).symm;rw[htk]at hU;have hUl:=uL j d x (m*b);have hI2:ER d (kO (D.bO d' t0) y (b*2^j.eb) (m*b*2^j.eb) us) x y j b (m+1):=by
   refine⟨hpg3,fun k hk=>hpg3.pw hok hx (fun i hi=>?_) hk,fun k hk=>?_⟩
   .unfold jd at hi;omega
   .rw[hpw k];have hk2:k<m*b*2^j.eb+b*2^j.eb:=by
     rw[<- htk,Nat.add_mul]at hk;exact hk
    rw[hU];by_cases h1:m*b*2^j.eb<=k
    .rw[if_pos ⟨h1,hk2⟩,List.getElem?_append_right (by omega),hUl]
    .rw[if_neg (by omega),List.getElem?_append_left (by omega)];exact hI.dst k (by omega)
  have hcs:more (sum (form (ir j d x (m*b)))) (form us)=sum (form (ir j d x ((m+1)*b))):=by
   rw[hU,sn];unfold sum;rw[sq]
  have hsk:8*(m*b*2^j.eb)+8*(b*2^j.eb)=8*((m+1)*b*2^j.eb):=by rw[<- htk,Nat.add_mul];omega
  rw[hcs,hsk,hpk]at hs;refine ih (m+1) _ _ P1 us H ?_ (by omega) hI2 hul hPP (.inr rfl) ?_
  .rw[<- Int.natCast_add,htk,ed]
  .exact hs.re [8,0,1,2,3,4,5,9,10,6,7] rfl
end
theorem Ob (p a b c:Int)(h1:a<=b)(h2:b<=c):mx (mx (mx p a) b) c=mx p c:=by
 have key:∀ p a b:Int,a<=b->mx (mx p a) b=mx p b:=fun p a b h=>by
  unfold mx;by_cases h1:a>p
  .rw[if_pos h1];by_cases h2:b>a
   .rw[if_pos h2,if_pos (by omega)]
   .rw[if_neg h2,if_pos (by omega)];omega
  .rw[if_neg h1]
 rw[key p a b h1,key p b c h2]
section
variable {p q dp ap : Nat} {x y : X} {cap aj : Int} {bufs : List (Nat × Nat × Option Addr)} {L : List As} {H : Hp} {TT : As} {j : J}
theorem EZ (hab:j.ea+j.eb<=32)(htw: -1<=j.tw/\j.tw<=32)(hxw:x.w=2^j.ea*2^j.eb)(hyw:y.w=2^j.ea*2^j.eb):mW ((2^j.ea:Nat):Int) ((2^j.eb:Nat):Int) (if j.d=true then 1 else 0) j.tw x.w y.w=0:=by
 unfold mW;rw[if_pos ⟨rX hab,by rw[hxw,Int.natCast_mul],by rw[hyw,Int.natCast_mul]⟩,if_neg (by cases j.d<;>decide),if_neg (by omega)]
set_option maxHeartbeats 1000000 in
theorem BD {d:D}{jb:Nat}(hT:∀ H,TT H->T64 H)(hok:Ok d)(hl:d.down=false)(hx:On d x)(hy:On d y)(ho:d.rd<=2000000000000000000/\d.wr<=2000000000000000000)(hab:j.ea+j.eb<=32)(hb20:j.eb<=20)(htw: -1<=j.tw/\j.tw<=32)(hxw:x.w=2^j.ea*2^j.eb)(hyw:y.w=2^j.ea*2^j.eb)(hdis:x.f+x.s<=y.f\/y.f+y.s<=x.f)
  (hper:iw (D.aa d:Int)=true) (hcap:cap<=1000000000000) (hsum:0<=bf bufs) (hfr:(D.aa d:Int)+2*(2^j.eb:Nat)<=cap-bf bufs) (hj:ke j.ea ((cap-bf bufs-D.aa d).toNat/2^j.eb) jb):
  Tr prog 240 #[V p,V q,.agg j.a,V ap,I (D.aa d:Int)]
   [af p (bh dp ap x),af q (bh dp ap y),Dk dp d,Ar ap cap aj bufs,TT] fun v M=>∃ M0,Bh p q dp ap d x y j (2^jb) cap aj bufs v M0/\M=M0++[TT]:=fun H hs=>by
 have hp:=Ok.eB hok;have hsz:=size_le hab;have hr1:=pow_pos j.ea;have hc1:=pow_pos j.eb;have hc20:=dw hb20;have hb1:=pow_pos jb;have hjb:=hj.le;have hfit:=hj.fit;have hbsz:2^jb*2^j.eb<=2^j.ea*2^j.eb:=Nat.mul_le_mul_right _ (dw hjb);have hbc:1*2^j.eb<=2^jb*2^j.eb:=Nat.mul_le_mul_right _ hb1;have hroom:2^jb*2^j.eb+2^j.eb<=(cap-bf bufs-D.aa d).toNat:=by
  rw[Nat.le_div_iff_mul_le (by omega),Nat.add_mul,Nat.one_mul]at hfit;exact hfit
 have hroom':((2^jb*2^j.eb:Nat):Int)+((2^j.eb:Nat):Int)<=cap-bf bufs-D.aa d:=by omega
 apply cI.ok;unfold cI cI.q1;refine hs.nw fun sb H hs=>?_
 have hs:Sep [af p (bh dp ap x),af q (bh dp ap y),Dk dp d,Ar ap cap aj bufs,TT,af sb (Oq j.a 219)] H:=hs;refine hs.bd 5 rfl rfl ?_;refine ae.use (vl (ap':=ap) hs 0 rfl 1 rfl (pN hT hs 4 rfl) _ _ _ _ _) ?_;rw[EZ hab htw hxw hyw];simp only[HV];refine aH rfl ?_;simp only[Addr.add_zero];refine hs.mO 5 rfl (show 0+2<=5 by omega) ?_;refine bN.use (GL hs 3 rfl) ?_;simp only[HV];refine bN.use (Is (ea:=j.ea) (eb:=j.eb) (D.aa d) (cap-bf bufs) ⟨by omega,by omega⟩ (by omega) H (pN hT hs 4 rfl) hab ⟨rX hab,by omega,hper,by omega,by omega⟩ hj) ?_;simp only[HV];refine hs.cC 5 rfl rfl ?_;simp only[HV];rw[<- Int.natCast_mul,ed];refine(ml (a:=ap) (cap:=cap) (aj:=aj) (bufs:=bufs) (n:=2^jb*2^j.eb)).use hs [3] rfl rfl ?_;rintro _ _ H ⟨bn,bb,rfl,rfl⟩ hs;simp only[HV];refine aH rfl ?_;have fresh:∀{L:List As} {H:Hp} {bufs:List (Nat×Nat×OA)} {pk:Int} (b n rb:Nat),Sep L H->L[0]? =some (Ar ap cap pk (bufs++[(b,n,some (O rb))]))->∀ z∈bufs,z.1≠b:=fun{L H bufs pk} b n rb hs h0 z hz e=>by
  obtain⟨mp,cl,tk,hA⟩:=Sep.ar hs 0 h0;have:=hA.bn;rw[List.map_append,List.nodup_append]at this;exact this.2.2 z.1 (List.mem_map_of_mem hz) b (by simp) e
 have hbm:∀ z∈bufs,z.1≠bn:=fresh bn _ bb hs rfl;refine hs.nw fun v2 H hs=>?_
 refine hs.cC 6 rfl rfl ?_;simp only[HV];have hsb1:bf (bufs++[(bn,2^jb*2^j.eb,some (O bb))])=bf bufs+((2^jb*2^j.eb:Nat):Int):=by
  rw[nf];simp[bf]
 refine(ml (a:=ap) (cap:=cap) (bufs:=bufs++[(bn,2^jb*2^j.eb,some (O bb))]) (n:=2^j.eb)).use hs [0] rfl rfl ?_;rintro _ _ H ⟨bn2,bb2,rfl,rfl⟩ hs;simp only[HV];refine aH rfl ?_;have hbm2:∀ z∈gi bufs bn (2^jb*2^j.eb) bb,z.1≠bn2:=fresh bn2 _ bb2 hs rfl;refine hs.nw fun v3 H hs=>?_
 have hsb2:bf (gi (gi bufs bn (2^jb*2^j.eb) bb) bn2 (2^j.eb) bb2)=bf bufs+((2^jb*2^j.eb:Nat):Int)+((2^j.eb:Nat):Int):=by
  unfold gi;rw[nf,hsb1];simp[bf]
  -- what is known from here on
 have hpk:mx (mx (mx aj (bf bufs+((2^jb*2^j.eb:Nat):Int))) (bf bufs+((2^jb*2^j.eb:Nat):Int)+((2^j.eb:Nat):Int))) (bf (gi (gi bufs bn (2^jb*2^j.eb) bb) bn2 (2^j.eb) bb2)+D.aa d)=mx aj (bf bufs+((2^jb*2^j.eb:Nat):Int)+((2^j.eb:Nat):Int)+D.aa d):=by
  rw[hsb2];exact Ob _ _ _ _ (by omega) (by omega)
 rw[hsb1]at hs;have hs:Sep [Ar ap cap (mx (mx aj (bf bufs+((2^jb*2^j.eb:Nat):Int))) (bf bufs+((2^jb*2^j.eb:Nat):Int)+((2^j.eb:Nat):Int))) (gi (gi bufs bn (2^jb*2^j.eb) bb) bn2 (2^j.eb) bb2),af bb2 (.row (eK (2^j.eb)) 108 (2^j.eb)),af bb (.row (eK (2^jb*2^j.eb)) 108 (2^jb*2^j.eb)),
  af p (bh dp ap x),af q (bh dp ap y),Dk dp d,TT,af sb (Oq j.a 219),af v2 (.row [V bn] 331 1),af v3 (.row [V bn2] 331 1)] H:=hs
 have hz:eK (2^jb*2^j.eb)=ah (List.replicate (2^jb*2^j.eb) 0):=by
  unfold eK;rw[fm];unfold ah;rw[List.map_replicate];rfl
 rw[hz]at hs;have fin:∀(kp:Nat) (H:Hp),Sep [Kn kp j.eb,Ar ap cap (mx (mx aj (bf bufs+((2^jb*2^j.eb:Nat):Int))) (bf bufs+((2^jb*2^j.eb:Nat):Int)+((2^j.eb:Nat):Int))) (gi (gi bufs bn (2^jb*2^j.eb) bb) bn2 (2^j.eb) bb2),af bb2 (.row (eK (2^j.eb)) 108 (2^j.eb)),af bb (.row (ah (List.replicate (2^jb*2^j.eb) 0)) 108 (2^jb*2^j.eb)),
   af p (bh dp ap x),af q (bh dp ap y),Dk dp d,TT,af sb (Oq j.a 219),af v2 (.row [V bn] 331 1),af v3 (.row [V bn2] 331 1)] H->
   Nw H (Oq #[Ot 0,I 0,I ((2^j.ea:Nat):Int),I ((2^j.eb:Nat):Int),I (if j.d=true then 1 else 0),I j.tw,U (j.sh.toNat:Int),V kp] 415) fun b4 H9=>
    cI.j16 (fun v H'=>∃ M,(∃ M0,Bh p q dp ap d x y j (2^jb) cap aj bufs v M0/\M=M0++[TT])/\Sep M H') (Oo p) (Oo q) (O sb) ((2^jb:Nat):Int) (Oo bn) (O b4) (Oo ap) (Oo v3) 1 1 (Oo ap) (Oo v2) 1 1 H9:=fun kp H hs=>by
  refine hs.nw fun rn H hs=>?_
  unfold cI.j16;refine⟨2^j.ea/2^jb+1,?_⟩;have out:∀{v:Value} {d':D} {H:Hp},(∀{M},M=[af p (bh dp ap x),af q (bh dp ap y),Dk dp d',Ar ap cap (mx aj (bf bufs+((2^jb*2^j.eb:Nat):Int)+((2^j.eb:Nat):Int)+D.aa d)) bufs]->Bh p q dp ap d x y j (2^jb) cap aj bufs v M)->
    Sep [af p (bh dp ap x),af q (bh dp ap y),Dk dp d',Ar ap cap (mx aj (bf bufs+((2^jb*2^j.eb:Nat):Int)+((2^j.eb:Nat):Int)+D.aa d)) bufs,TT] H->∃ M,(∃ M0,Bh p q dp ap d x y j (2^jb) cap aj bufs v M0/\M=M0++[TT])/\Sep M H:=fun h hs=>⟨_,⟨_,h rfl,rfl⟩,hs⟩
  refine wW (p:=p) (q:=q) (dp:=dp) (ap:=ap) (rn:=rn) (bn:=bn) (bb:=bb) (bn2:=bn2) (bb2:=bb2) (sb:=sb) (v2:=v2) (v3:=v3) (kp:=kp) (x:=x) (y:=y) (cap:=cap) (bufs:=bufs) (TT:=TT) (j:=j) (mb:=2^jb*2^j.eb) (aj:=mx (mx aj (bf bufs+((2^jb*2^j.eb:Nat):Int))) (bf bufs+((2^jb*2^j.eb:Nat):Int)+((2^j.eb:Nat):Int))) _ hT hok hx hy ho hab hb20 htw.2 hxw hyw hdis hb1 (div_pow hjb) (by rw[hsb2];omega) hbm hbm2 hpk.symm
   (fun d' H hI hs=>out (fun e=>.inl ⟨d',hI,rfl,e⟩) hs) (fun d' H hd hfu hs=>out (fun e=>.inr ⟨d',hd,hfu,rfl,e⟩) hs) (2^j.ea/2^jb) 0 0 d _ (List.replicate (2^jb*2^j.eb) 0) H (by rw[Nat.zero_mul];rfl) (by omega)
   ⟨by simpa [rP,wP]using Prog.refl (jd y) hok hl,fun _ _=>rfl,fun k hk=>by simp at hk⟩ (by simp) hpk (.inl rfl) ?_
  have hs:=hs.re [8,11,3,4,5,6,1,9,10,0,7] rfl;unfold Bg;simp only[Nat.zero_mul,Nat.mul_zero];have e0:sum (form (ir j d x 0))=0#32:=by
   show sum (form [])=0#32
   decide
  rw[e0];exact hs
 have tz:∀ H,T64 H->ae prog 306 #[U (u64.wrap ((2^j.eb:Nat):Int))] H (RetE (I (j.eb:Int)) H):=fun H hT=>by
  rw[fW];exact Mi j.eb (by omega) H hT
 refine⟨?_,?_⟩
 .refine hs.bd 7 rfl rfl ?_;refine hs.cC 7 rfl rfl ?_;simp only[HV];refine ae.use (tz H (pN hT hs 6 rfl)) ?_;simp only[HV];refine(jH j.eb hb20).use hs [] rfl rfl ?_;rintro _ _ H ⟨kp,rfl,rfl⟩ hs;simp only[HV];exact fin kp H hs
 refine hs.cC 7 rfl rfl ?_;simp only[HV];refine⟨?_,?_,?_⟩
 .refine hs.bd 7 rfl rfl ?_;refine ae.use (tz H (pN hT hs 6 rfl)) ?_;simp only[HV];refine(jH j.eb hb20).use hs [] rfl rfl ?_;rintro _ _ H ⟨kp,rfl,rfl⟩ hs;simp only[HV];exact fin kp H hs
 .refine hs.bd 7 rfl rfl ?_;refine ae.use (tz H (pN hT hs 6 rfl)) ?_;simp only[HV];refine(jH j.eb hb20).use hs [] rfl rfl ?_;rintro _ _ H ⟨kp,rfl,rfl⟩ hs;simp only[HV];exact fin kp H hs
 refine ae.use (tz H (pN hT hs 6 rfl)) ?_;simp only[HV];refine⟨?_,?_⟩
 .refine hs.bd 7 rfl rfl ?_;refine(jH j.eb hb20).use hs [] rfl rfl ?_;rintro _ _ H ⟨kp,rfl,rfl⟩ hs;simp only[HV];exact fin kp H hs
 .refine(jH j.eb hb20).use hs [] rfl rfl ?_;rintro _ _ H ⟨kp,rfl,rfl⟩ hs;simp only[HV];refine hs.bd 8 rfl rfl ?_;exact fin kp H hs
end
end Pas
namespace Str
open Go Go.Hw Go.Form W Dsk Are
end Str
namespace Trn
open Go Go.Hw Go.Crc Go.Form W Shp Str Dsk Are
structure xn (d:D)(k n:Nat):Prop where
 ok:Ok d
 down:d.down=false
 aI:d.aI=0
 tP:d.rd<=100000000/\d.wr<=100000000
 sec:d.sec=2*k+1
 size:d.size=32
theorem xn.aa {d:D}{k n:Nat}(h:xn d k n):D.aa d=4:=by unfold D.aa;rw[h.size]
theorem xn.prog {S:Int->Prop}{d d':D}{k n r w:Nat}(h:xn d k n)(hp:Prog S d d' r w)(hc:d'.rd<=100000000/\d'.wr<=100000000):xn d' k n:=
 ⟨hp.ok,hp.down,by rw[hp.aI,h.aI];omega,hc,by rw[hp.sec,h.sec],by rw[hp.size,h.size]⟩
section
variable {A : Option Addr} {n m : Nat} {R : As}
end
theorem D9 {d:D}{x:X}{n:Nat}{f:Nat->UInt64}(h:∀ j,j<n->pw d x j=f j):dV d x 0 n=(List.range n).map f:=by
 unfold dV;apply List.map_congr_left;intro j hj;rw[Nat.zero_add];exact h j (List.mem_range.1 hj)
theorem Hx (l:List UInt64):(List.range l.length).map (fun j=>(l[j]?).getD 0)=l:=by
 apply List.ext_getElem?;intro j;rw[List.getElem?_map];by_cases hj:j<l.length
 .rw[List.getElem?_range hj,Option.map_some,List.getElem?_eq_getElem hj];rfl
 .rw[List.getElem?_eq_none (by simp;omega),List.getElem?_eq_none (by omega)];rfl
section
variable {p q dp ap : Nat} {x y : X} {cap aj : Int} {TT : As}
end
section
variable {p q dp ap : Nat} {x y : X} {cap aj : Int} {bufs : List (Nat × Nat × Option Addr)} {L : List As} {H : Hp}
end
def kc (l:List UInt64)(rows cols:Nat):List UInt64:=(List.range (rows*cols)).map fun k=>(l[k%rows*cols+k/rows]?).getD 0
theorem zn (l:List UInt64)(rows cols:Nat):(kc l rows cols).length=rows*cols:=by simp[kc]
def m1 (q:Nat):Nat:=if 1<q then q else 1
end Trn
namespace Pas
open Go Go.Hw Go.Crc Go.Form W Shp Gol Fft Ker Str Dsk Are Trn
section
variable {p q dp ap : Nat} {x y : X} {cap aj : Int} {TT : As} {j : J}
end
end Pas
namespace W
open Go Go.Hw
theorem ft :prog.follows .mixedOrders=true:=by kernel_rfl
def gE (A1:OA)(n1 m1:Nat)(x1 x2:Int)(H:Hp)(K:VK):Prop:=
 jF 111 #[.slice A1 n1 m1,I x1,I x2] H fun A2 n2 m2 H1=>ao (x2==1) (fe 113 #[I x1] H1 fun x3 H2=>jF 112 #[.slice A2 n2 m2,U x3] H2 fun A3 n3 m3 H3=>K (.slice A3 n3 m3) H3) (K (.slice A2 n2 m2) H1)
theorem gE.ok A1 n1 m1 x1 x2 H K (h:gE A1 n1 m1 x1 x2 H K):ae prog 63 #[.slice A1 n1 m1,I x1,I x2] H K:=
 cg ft Tryz.func63 rfl rfl h
def aU.l10 (K:VK)(R5:OA->Nat->Nat->Int->OA->Nat->Nat->Int->Int->Hp->Prop):Nat->OA->Nat->Nat->Int->OA->Nat->Nat->Int->Int->Int->Int->Int->Hp->Prop
 |0,_,_,_,_,_,_,_,_,_,_,_,_,_=>False
 |k+1,A4,n4,m4,x7,A5,n5,m5,x8,x9,x10,x11,x12,H=>
  let R10:=aU.l10 K R5 k
  ao (decide (x12<(n4:Int))) (cX x12 n4 (NN A4 fun a1=>eo H (a1.add (x12.toNat*1)) fun x13=>fe 172 #[U x13,U x11] H fun x14 H2=>fe 68 #[U x10,U x14] H2 fun x15 H3=>fe 172 #[U x11,U x8] H3 fun x16 H4=>R10 A4 n4 m4 x7 A5 n5 m5 x8 x9 x15 x16 (i64.wrap (x12+1)) H4)) (Nw H (.row [U x10] 108 1) fun b1 H5=>gC prog 108 (.slice A5 n5 m5) (.slice (Oo b1) 1 1) H5 fun v6 H6=>aF v6 fun A6 n6 m6=>fe 172 #[U x8,U x7] H6 fun x17 H7=>R5 A4 n4 m4 x7 A6 n6 m6 x17 (i64.wrap (x9+1)) H7)
def aU.l5 (K:VK):Nat->OA->Nat->Nat->Int->OA->Nat->Nat->Int->Int->Hp->Prop
 |0,_,_,_,_,_,_,_,_,_,_=>False
 |k+1,A2,n2,m2,x4,A3,n3,m3,x5,x6,H=>
  let R5:=aU.l5 K k
  ao (decide (x6<(n2:Int))) ((∃ k,aU.l10 K R5 k A2 n2 m2 x4 A3 n3 m3 x5 x6 0 1 0 H)) (K (.slice A3 n3 m3) H)
def aU (A1:OA)(n1 m1:Nat)(x1 x2:Int)(H:Hp)(K:VK):Prop:=
 fe 171 #[I x1,I x2] H fun x3 H1=>(∃ k,aU.l5 K k A1 n1 m1 x3 none 0 0 1 0 H1)
def aU.l5.L (K:VK)(k:Nat):dm:=fun E D H=>
 DG (E.get? 0) fun w0=>aF w0 fun A2 n2 m2=>eI E 7 .u64 fun x4=>DG (E.get? 8) fun w8=>aF w8 fun A3 n3 m3=>eI E 9 .u64 fun x5=>eI E 10 .i64 fun x6=>az D (aU.l5 K k A2 n2 m2 x4 A3 n3 m3 x5 x6 H)
def aU.l10.L (K:VK)(R5:OA->Nat->Nat->Int->OA->Nat->Nat->Int->Int->Hp->Prop)(k:Nat):dm:=fun E D H=>
 DG (E.get? 0) fun w0=>aF w0 fun A4 n4 m4=>eI E 7 .u64 fun x7=>DG (E.get? 8) fun w8=>aF w8 fun A5 n5 m5=>eI E 9 .u64 fun x8=>eI E 10 .i64 fun x9=>eI E 11 .u64 fun x10=>eI E 12 .u64 fun x11=>eI E 13 .i64 fun x12=>az D (aU.l10 K R5 k A4 n4 m4 x7 A5 n5 m5 x8 x9 x10 x11 x12 H)
def aU.Λ10 (_:VK)(_R5:OA->Nat->Nat->Int->OA->Nat->Nat->Int->Int->Hp->Prop)(_R10:OA->Nat->Nat->Int->OA->Nat->Nat->Int->Int->Int->Int->Int->Hp->Prop):aN:=aN.none (fun _=>none)
def aU.Λ5 (K:VK)(R5:OA→Nat→Nat→Int→OA→Nat→Nat→Int→Int→Hp→Prop):aN:=⟨fun i=>none,fun i=>match Nat.beq i 10 with|true=>some (fun E D H=>∃ k,aU.l10.L K R5 k E D H)|false=>none,(fun _=>none)⟩
def aU.Λ (K:VK):aN:=⟨fun i=>none,fun i=>match Nat.beq i 5 with|true=>some (fun E D H=>∃ k,aU.l5.L K k E D H)|false=>none,(fun _=>none)⟩
theorem aU.ok A1 n1 m1 x1 x2 H K (h:aU A1 n1 m1 x1 x2 H K):ae prog 111 #[.slice A1 n1 m1,I x1,I x2] H K:=
 dX (Λ:=(aU.Λ K)) ft Tryz.func111 rfl rfl h (oC (fun E D H h=>by
   refine Safe.c0 (aU.l5.L K) (fun E D H h=>?_) (fun k E D H h=>?_) E D H h
   .obtain⟨w0,e0,g1⟩:=DG.out h;obtain⟨A2,n2,m2,rfl,g2⟩:=aF.out g1;obtain⟨w7,e7,g3⟩:=DG.out g2;obtain⟨x4,rfl,g4⟩:=DI.out g3;obtain⟨w8,e8,g5⟩:=DG.out g4;obtain⟨A3,n3,m3,rfl,g6⟩:=aF.out g5;obtain⟨w9,e9,g7⟩:=DG.out g6;obtain⟨x5,rfl,g8⟩:=DI.out g7;obtain⟨w10,e10,g9⟩:=DG.out g8;obtain⟨x6,rfl,g10⟩:=DI.out g9;obtain⟨rfl,h'⟩:=az.out g10;exact h'
   .obtain⟨w0,e0,g1⟩:=DG.out h;obtain⟨A2,n2,m2,rfl,g2⟩:=aF.out g1;obtain⟨x4,e7,g4⟩:=GI g2;obtain⟨w8,e8,g5⟩:=DG.out g4;obtain⟨A3,n3,m3,rfl,g6⟩:=aF.out g5;obtain⟨x5,e9,g8⟩:=GI g6;obtain⟨x6,e10,g10⟩:=GI g8;obtain⟨rfl,h'⟩:=az.out g10;exact cY (Λ:=(aU.Λ5 K (aU.l5 K k))) ft [] (ag.cons e0 (ag.cons e7 (ag.cons e8 (ag.cons e9 (ag.cons e10 (ag.nil _)))))) h' (oC (fun E D H h=>by
      refine Safe.c0 (aU.l10.L K (aU.l5 K k)) (fun E D H h=>?_) (fun k E D H h=>?_) E D H h
      .obtain⟨w0,e0,g1⟩:=DG.out h;obtain⟨A4,n4,m4,rfl,g2⟩:=aF.out g1;obtain⟨w7,e7,g3⟩:=DG.out g2;obtain⟨x7,rfl,g4⟩:=DI.out g3;obtain⟨w8,e8,g5⟩:=DG.out g4;obtain⟨A5,n5,m5,rfl,g6⟩:=aF.out g5;obtain⟨w9,e9,g7⟩:=DG.out g6;obtain⟨x8,rfl,g8⟩:=DI.out g7;obtain⟨w10,e10,g9⟩:=DG.out g8;obtain⟨x9,rfl,g10⟩:=DI.out g9;obtain⟨w11,e11,g11⟩:=DG.out g10;obtain⟨x10,rfl,g12⟩:=DI.out g11;obtain⟨w12,e12,g13⟩:=DG.out g12;obtain⟨x11,rfl,g14⟩:=DI.out g13;obtain⟨w13,e13,g15⟩:=DG.out g14;obtain⟨x12,rfl,g16⟩:=DI.out g15;obtain⟨rfl,h'⟩:=az.out g16;exact h'
      .obtain⟨w0,e0,g1⟩:=DG.out h;obtain⟨A4,n4,m4,rfl,g2⟩:=aF.out g1;obtain⟨x7,e7,g4⟩:=GI g2;obtain⟨w8,e8,g5⟩:=DG.out g4;obtain⟨A5,n5,m5,rfl,g6⟩:=aF.out g5;obtain⟨x8,e9,g8⟩:=GI g6;obtain⟨x9,e10,g10⟩:=GI g8;obtain⟨x10,e11,g12⟩:=GI g10;obtain⟨x11,e12,g14⟩:=GI g12;obtain⟨x12,e13,g16⟩:=GI g14;obtain⟨rfl,h'⟩:=az.out g16;exact cY (Λ:=(aU.Λ10 K (aU.l5 K k) (aU.l10 K (aU.l5 K k) k))) ft [] (ag.cons e0 (ag.cons e7 (ag.cons e8 (ag.cons e9 (ag.cons e10 (ag.cons e11 (ag.cons e12 (ag.cons e13 (ag.nil _))))))))) h' oN) oN)) oN)
def bW.l3 (K:VK):Nat->OA->Nat->Nat->Int->OA->Nat->Nat->Int->Hp->Prop
 |0,_,_,_,_,_,_,_,_,_=>False
 |k+1,A2,n2,m2,x2,A3,n3,m3,x3,H=>
  let R3:=bW.l3 K k
  ao (decide (x3<(n2:Int))) (cX x3 n2 (NN A2 fun a1=>eo H (a1.add (x3.toNat*1)) fun x4=>fe 172 #[U x4,U x2] H fun x5 H1=>Nw H1 (.row [U x5] 108 1) fun b1 H2=>gC prog 108 (.slice A3 n3 m3) (.slice (Oo b1) 1 1) H2 fun v3 H3=>aF v3 fun A4 n4 m4=>R3 A2 n2 m2 x2 A4 n4 m4 (i64.wrap (x3+1)) H3)) (K (.slice A3 n3 m3) H)
def bW (A1:OA)(n1 m1:Nat)(x1:Int)(H:Hp)(K:VK):Prop:=
 (∃ k,bW.l3 K k A1 n1 m1 x1 none 0 0 0 H)
def bW.l3.L (K:VK)(k:Nat):dm:=fun E D H=>
 DG (E.get? 0) fun w0=>aF w0 fun A2 n2 m2=>eI E 1 .u64 fun x2=>DG (E.get? 5) fun w5=>aF w5 fun A3 n3 m3=>eI E 6 .i64 fun x3=>az D (bW.l3 K k A2 n2 m2 x2 A3 n3 m3 x3 H)
def bW.Λ3 (_:VK)(_R3:OA->Nat->Nat->Int->OA->Nat->Nat->Int->Hp->Prop):aN:=aN.none (fun _=>none)
def bW.Λ (K:VK):aN:=⟨fun i=>none,fun i=>match Nat.beq i 3 with|true=>some (fun E D H=>∃ k,bW.l3.L K k E D H)|false=>none,(fun _=>none)⟩
theorem bW.ok A1 n1 m1 x1 H K (h:bW A1 n1 m1 x1 H K):ae prog 112 #[.slice A1 n1 m1,U x1] H K:=
 dX (Λ:=(bW.Λ K)) ft Tryz.func112 rfl rfl h (oC (fun E D H h=>by
   refine Safe.c0 (bW.l3.L K) (fun E D H h=>?_) (fun k E D H h=>?_) E D H h
   .obtain⟨w0,e0,g1⟩:=DG.out h;obtain⟨A2,n2,m2,rfl,g2⟩:=aF.out g1;obtain⟨w1,e1,g3⟩:=DG.out g2;obtain⟨x2,rfl,g4⟩:=DI.out g3;obtain⟨w5,e5,g5⟩:=DG.out g4;obtain⟨A3,n3,m3,rfl,g6⟩:=aF.out g5;obtain⟨w6,e6,g7⟩:=DG.out g6;obtain⟨x3,rfl,g8⟩:=DI.out g7;obtain⟨rfl,h'⟩:=az.out g8;exact h'
   .obtain⟨w0,e0,g1⟩:=DG.out h;obtain⟨A2,n2,m2,rfl,g2⟩:=aF.out g1;obtain⟨x2,e1,g4⟩:=GI g2;obtain⟨w5,e5,g5⟩:=DG.out g4;obtain⟨A3,n3,m3,rfl,g6⟩:=aF.out g5;obtain⟨x3,e6,g8⟩:=GI g6;obtain⟨rfl,h'⟩:=az.out g8;exact cY (Λ:=(bW.Λ3 K (bW.l3 K k))) ft [] (ag.cons e0 (ag.cons e1 (ag.cons e5 (ag.cons e6 (ag.nil _))))) h' oN) oN)
def iT (x1:Int)(H:Hp)(K:VK):Prop:=
 fe 173 #[U 9223372034707292161,U (u64.wrap x1)] H fun x2 H1=>K (U x2) H1
theorem iT.ok x1 H K (h:iT x1 H K):ae prog 113 #[I x1] H K:=
 cg ft Tryz.func113 rfl rfl h
def cq.l6 (K:VK):Nat->Int->Int->Int->Int->Hp->Prop
 |0,_,_,_,_,_=>False
 |k+1,x4,x5,x6,x7,H=>
  let R6:=cq.l6 K k
  ao (decide (x7<x4)) (R6 x4 x5 (u64.wrap (2*x6)) (i64.wrap (x7+1)) H) (fe 173 #[U x5,U (u64.wrap (x6-1))] H fun x8 H2=>K (U x8) H2)
def cq (x1 x2:Int)(H:Hp)(K:VK):Prop:=
 fe 242 #[I x1] H fun x3 H1=>ao (x2==0) (K (U x3) H1) ((∃ k,cq.l6 K k x1 x3 1 0 H1))
def cq.l6.L (K:VK)(k:Nat):dm:=fun E D H=>
 eI E 0 .i64 fun x4=>eI E 5 .u64 fun x5=>eI E 6 .u64 fun x6=>eI E 7 .i64 fun x7=>az D (cq.l6 K k x4 x5 x6 x7 H)
def cq.Λ6 (_:VK)(_R6:Int->Int->Int->Int->Hp->Prop):aN:=aN.none (fun _=>none)
def cq.Λ (K:VK):aN:=⟨fun i=>none,fun i=>match Nat.beq i 6 with|true=>some (fun E D H=>∃ k,cq.l6.L K k E D H)|false=>none,(fun _=>none)⟩
theorem cq.ok x1 x2 H K (h:cq x1 x2 H K):ae prog 171 #[I x1,I x2] H K:=
 dX (Λ:=(cq.Λ K)) ft Tryz.func171 rfl rfl h (oC (fun E D H h=>by
   refine Safe.c0 (cq.l6.L K) (fun E D H h=>?_) (fun k E D H h=>?_) E D H h
   .obtain⟨w0,e0,g1⟩:=DG.out h;obtain⟨x4,rfl,g2⟩:=DI.out g1;obtain⟨w5,e5,g3⟩:=DG.out g2;obtain⟨x5,rfl,g4⟩:=DI.out g3;obtain⟨w6,e6,g5⟩:=DG.out g4;obtain⟨x6,rfl,g6⟩:=DI.out g5;obtain⟨w7,e7,g7⟩:=DG.out g6;obtain⟨x7,rfl,g8⟩:=DI.out g7;obtain⟨rfl,h'⟩:=az.out g8;exact h'
   .obtain⟨x4,e0,g2⟩:=GI h;obtain⟨x5,e5,g4⟩:=GI g2;obtain⟨x6,e6,g6⟩:=GI g4;obtain⟨x7,e7,g8⟩:=GI g6;obtain⟨rfl,h'⟩:=az.out g8;exact cY (Λ:=(cq.Λ6 K (cq.l6 K k))) ft [] (ag.cons e0 (ag.cons e5 (ag.cons e6 (ag.cons e7 (ag.nil _))))) h' oN) oN)
end W
namespace Pas
open Go Go.Hw Go.Crc Go.Form W Shp Gol Fft Ker Str Dsk Are Trn
theorem Aq (k:Nat)(hk:k<=32)(H:Hp):ae prog 113 #[I (k:Int)] H (RetE (U ((Fft.pw half k).val:Int)) H):=by
 apply iT.ok;unfold iT;rw[fW];refine ae.use (zi (a:=9223372034707292161) (n:=k) (by omega) H) ?_;rw[nV];simp only[HV];exact RetE.mk _ _
theorem I9 (x:UInt64)(y:Nat):x.toNat*y%18446744069414584321=(zw x*zp y).val:=by
 rw[<- nT];show _=x.toNat%18446744069414584321*(y%18446744069414584321)%18446744069414584321
 rw[<- Nat.mul_mod]
theorem HK {l:List UInt64}(z:Zp){i:Nat}(hil:i<l.length):ah (gK z (l.take (i+1)))=ah (gK z (l.take i))++[U ((zw l[i]*z).val:Int)]:=by
 have e:gK z (l.take (i+1))=gK z (l.take i)++[uw (zw l[i]*z)]:=by
  unfold gK;rw[List.take_add_one,List.getElem?_eq_getElem hil,List.map_append];rfl
 rw[e,<-rG];unfold ah;rw[List.map_append];rfl
theorem qV (d:Bool)(k:Nat)(l:List UInt64){i:Nat}(h:i<2^k):(iu d k l)[i]? =some (uw (gS (fk d k) (2^k) (dq l) i)):=by
 unfold iu;rw[List.getElem?_map,List.getElem?_range h];rfl
theorem wY (z:Zp){l:List UInt64}{i:Nat}{w:UInt64}(h:l[i]? =some w):(gK z l)[i]? =some (uw (zw w*z)):=by
 unfold gK;rw[List.getElem?_map,h];rfl
theorem Dz {l:List UInt64}{i:Nat}{w:UInt64}(h:l[i]? =some w):dq l i=zw w:=by
 unfold dq;rw[List.getD_eq_getElem?_getD,h];rfl
section
variable {R : As} {A : Option Addr} {n m : Nat} {l : List UInt64}
theorem vY (K:VK)(y:Nat)(hy:y<2^64){L:List As}(hR:∀ H,R H->Cells H A (ah l))(hl:l.length=n)(hn:n<=4294967296)
  (hK:∀ A' m' H,Sep (bH 108 1 A' n m' (ah (gK (zp y) l))::R::L) H->K (.slice A' n m') H):
  ∀(t i:Nat) (A':OA) (m':Nat) (H:Hp),i+t=n->Sep (bH 108 1 A' i m' (ah (gK (zp y) (l.take i)))::R::L) H->
   bW.l3 K (t+1) A n m (y:Int) A' i m' (i:Int) H
 |0,i,A',m',H,hi,hs=>by
  unfold bW.l3;obtain rfl:i=n:=by omega
  refine aw (by omega) (hK A' m' H ?_);rw[List.take_of_length_le (by omega)]at hs;exact hs
 |t+1,i,A',m',H,hi,hs=>by
  have hc:Cells H A (ah l):=by
   obtain⟨H1,h1,hle⟩:=hs.fE 1 rfl;exact(hR H1 h1).le hle
  unfold bW.l3;refine aC (by omega) ?_;have hil:i<l.length:=by omega
  have hg:(ah l)[i]? =some (U ((l[i]).toNat:Int)):=by
   rw[dO,List.getElem?_eq_getElem hil];rfl
  refine hc.read hg rfl (by rw[aG];omega) ?_;simp only[HV];refine ae.use (pd (a:=(l[i]).toNat) hy H) ?_;rw[I9];simp only[HV];refine hs.yU 0 rfl Ker.fH (by omega) rfl (by omega) (by omega) fun A2 m2 H hs=>?_
  simp only[HV];rw[bu (x:=(i:Int)+1),show(i:Int)+1=((i+1:Nat):Int) by omega];refine vY K y hy hR hl hn hK t (i+1) A2 m2 H (by omega) ?_;rw[HK _ hil];exact hs
theorem Hu (y:Nat)(hy:y<2^64)(hR:∀ H,R H->Cells H A (ah l))(hl:l.length=n)(hn:n<=4294967296):
  Tr prog 112 #[.slice A n m,U (y:Int)] [R] fun v M=>∃ A' m',v= .slice A' n m'/\M=[bH 108 1 A' n m' (ah (gK (zp y) l)),R]:=fun H hs=>by
 apply bW.ok;unfold bW;have e0:Sep [bH 108 1 none 0 0 (ah (gK (zp y) (l.take 0))),R] H:=
  ⟨fun _=>none,H,fun _ _ h=>(nomatch h),Hp.le_refl _,fun _=>.inl rfl,bH.none _ _ _,hs⟩
 refine⟨n+1,?_⟩;exact vY (L:=[]) _ y hy hR hl hn (fun A' m' H hs=>⟨_,⟨A',m',rfl,rfl⟩,hs⟩) n 0 none 0 H (by omega) e0
end
theorem HD {j:J}{d:D}{x:X}{m:Nat}{l:List UInt64}(h:dV d x 0 (m*2^j.eb)=l):
  ir j d x m=(List.range m).flatMap fun q=>kL j q ((l.drop (q*2^j.eb)).take (2^j.eb)):=by
 unfold ir;have:∀(r:List Nat),(∀ q,q∈r->q<m)->r.flatMap (fun q=>kL j q (dV d x (q*2^j.eb) (2^j.eb)))=r.flatMap fun q=>kL j q ((l.drop (q*2^j.eb)).take (2^j.eb)):=fun r=>by
  induction r with
  |nil=>intro _;rfl
  |cons q r ih=>
   intro hq;have hqb:=hq q (by simp);have h1:(q+1)*2^j.eb<=m*2^j.eb:=Nat.mul_le_mul_right _ (by omega);rw[Nat.succ_mul]at h1;rw[List.flatMap_cons,List.flatMap_cons,ih fun q' h'=>hq q' (by simp[h']),<-h,Cr h1,Nat.zero_add]
 exact this _ fun q hq=>List.mem_range.1 hq
theorem zP {f:Nat->List UInt64}{c:Nat}(hf:∀ q,(f q).length=c):∀(m q:Nat),q<m->(((List.range m).flatMap f).drop (q*c)).take c=f q
 |0,q,h=>by omega
 |m+1,q,h=>by
  have hl:∀ m,((List.range m).flatMap f).length=m*c:=fun m=>by
   induction m with
   |zero=>simp
   |succ m ih=>rw[List.range_succ,List.flatMap_append,List.length_append,ih,Nat.succ_mul];simp[hf]
  rw[List.range_succ,List.flatMap_append];have hs:List.flatMap f [m]=f m:=by simp
  rw[hs];by_cases e:q=m
  .subst e;rw[List.drop_append,List.drop_eq_nil_of_le (by rw[hl];exact Nat.le_refl _),hl,Nat.sub_self,List.drop_zero,List.nil_append,List.take_of_length_le (by rw[hf];exact Nat.le_refl _)]
  .have h1:(q+1)*c<=m*c:=Nat.mul_le_mul_right _ (by omega);rw[Nat.succ_mul]at h1;rw[List.drop_append_of_le_length (by rw[hl];omega),List.take_append_of_le_length (by rw[List.length_drop,hl];omega)];exact zP hf m q (by omega)
theorem vW {k:Nat}(hk:k<=32)(H:Hp):∀(t i:Nat),i+t=k->cm.l3 (RetE (U ((rt k).val:Int)) H) (t+1) (k:Int) ((18446744069414584320/2^i:Nat):Int) (i:Int) H
 |0,i,hi=>by
  obtain rfl:i=k:=by omega
  unfold cm.l3;refine aw (by omega) ?_;have hlt:18446744069414584320/2^i<2^64:=Nat.lt_of_le_of_lt (Nat.div_le_self _ _) (by decide);refine ae.use (zi (a:=7) hlt H) ?_;rw[nV];simp only[HV];exact RetE.mk _ _
 |t+1,i,hi=>by
  unfold cm.l3;refine aC (by omega) ⟨by decide,by simp,?_⟩;have hlt:18446744069414584320/2^i<=18446744069414584320:=Nat.div_le_self _ _;have e:u64.wrap (Int.tdiv ((18446744069414584320/2^i:Nat):Int) 2)=((18446744069414584320/2^(i+1):Nat):Int):=by
   rw[show Int.tdiv ((18446744069414584320/2^i:Nat):Int) 2=((18446744069414584320/2^i/2:Nat):Int)from rfl,fW,Nat.div_div_eq_div_mul,Nat.pow_succ]
  rw[e,bu (x:=(i:Int)+1),show(i:Int)+1=((i+1:Nat):Int) by omega];exact vW hk H t (i+1) (by omega)
theorem Hs {k:Nat}(hk:k<=32)(H:Hp):ae prog 242 #[I (k:Int)] H (RetE (U ((rt k).val:Int)) H):=by
 apply cm.ok;unfold cm;exact⟨k+1,vW hk H k 0 (by omega)⟩
theorem vX {k:Nat}(hk:k<=32)(H:Hp):∀(t i:Nat),i+t=k->cq.l6 (RetE (U ((fk true k).val:Int)) H) (t+1) (k:Int) ((rt k).val:Int) ((2^i:Nat):Int) (i:Int) H
 |0,i,hi=>by
  obtain rfl:i=k:=by omega
  have h32:=dw hk;have h1:=pow_pos i;unfold cq.l6;refine aw (by omega) ?_;rw[i7,show((2^i:Nat):Int)-1=((2^i-1:Nat):Int) by omega];refine ae.use (zi (a:=(rt i).val) (n:=2^i-1) (by omega) H) ?_;rw[nV,nZ];simp only[HV];exact RetE.mk _ _
 |t+1,i,hi=>by
  have h32:=dw (show i<=32 by omega);have h1:=pow_pos i;unfold cq.l6;refine aC (by omega) ?_;rw[i7,show(2:Int)*((2^i:Nat):Int)=((2^(i+1):Nat):Int) by rw[Nat.pow_succ];omega,bu (x:=(i:Int)+1),show(i:Int)+1=((i+1:Nat):Int) by omega];exact vX hk H t (i+1) (by omega)
theorem Ht {k:Nat}(hk:k<=32)(d:Bool)(H:Hp):ae prog 171 #[I (k:Int),I (if d=true then 1 else 0)] H (RetE (U ((fk d k).val:Int)) H):=by
 apply cq.ok;unfold cq;refine ae.use (Hs hk H) ?_;simp only[HV];cases d with
 |false=>exact aL rfl (RetE.mk _ _)
 |true=>
  refine aK (by decide) ⟨k+1,?_⟩;exact vX hk H k 0 (by omega)
section
variable {R : As} {A : Option Addr} {n m k : Nat} {l : List UInt64} {L : List As}
theorem Ea (K:VK)(R5:OA->Nat->Nat->Int->OA->Nat->Nat->Int->Int->Hp->Prop)(w z:Zp){xj:Int}{A':OA}{n' m':Nat}{vs:List Value}(hR:∀ H,R H->Cells H A (ah l))(hl:l.length=n)(hn:n<=1048576)(hn':n'<=1048576)
  (hK:∀ A2 m2 H,Sep (bH 108 1 A2 (n'+1) m2 (vs++[U ((sm (fun i=>dq l i*Fft.pw z i) n).val:Int)])::R::L) H->R5 A n m (w.val:Int) A2 (n'+1) m2 ((z*w).val:Int) (i64.wrap (xj+1)) H):
  ∀(t i:Nat) (H:Hp),i+t=n->Sep (bH 108 1 A' n' m' vs::R::L) H->
   aU.l10 K R5 (t+1) A n m (w.val:Int) A' n' m' (z.val:Int) xj ((sm (fun i=>dq l i*Fft.pw z i) i).val:Int) ((Fft.pw z i).val:Int) (i:Int) H
 |0,i,H,hi,hs=>by
  obtain rfl:i=n:=by omega
  unfold aU.l10;refine aw (by omega) ?_;refine hs.yU 0 rfl Ker.fH (by omega) rfl (by omega) (by omega) fun A2 m2 H hs=>?_
  simp only[HV];refine ae.use (pd (a:=z.val) (iA w) H) ?_;rw[nT];simp only[HV];exact hK A2 m2 H hs
 |t+1,i,H,hi,hs=>by
  have hc:Cells H A (ah l):=by
   obtain⟨H1,h1,hle⟩:=hs.fE 1 rfl;exact(hR H1 h1).le hle
  unfold aU.l10;refine aC (by omega) ?_;have hil:i<l.length:=by omega
  have hg:(ah l)[i]? =some (U ((l[i]).toNat:Int)):=by
   rw[dO,List.getElem?_eq_getElem hil];rfl
  refine hc.read hg rfl (by rw[aG];omega) ?_;simp only[HV];refine ae.use (pd (a:=(l[i]).toNat) (iA _) H) ?_;rw[Cd,<-Gr hil];simp only[HV];refine ae.use (vv H) ?_;rw[show((sm (fun i=>dq l i*Fft.pw z i) i).val+(dq l i*Fft.pw z i).val)%18446744069414584321=(sm (fun i=>dq l i*Fft.pw z i) (i+1)).val from(Fin.val_add _ _).symm];simp only[HV];refine ae.use (pd (a:=(Fft.pw z i).val) (iA z) H) ?_;rw[nT];simp only[HV];rw[bu (x:=(i:Int)+1),show(i:Int)+1=((i+1:Nat):Int) by omega];exact Ea K R5 w z hR hl hn hn' hK t (i+1) H (by omega) hs
def yY (w:Zp)(n:Nat)(l:List UInt64)(i:Nat):List UInt64:=(List.range i).map fun j=>uw (gS w n (dq l) j)
theorem GA (w:Zp)(n:Nat)(l:List UInt64)(i:Nat):ah (yY w n l (i+1))=ah (yY w n l i)++[U ((sm (fun a=>dq l a*Fft.pw (Fft.pw w i) a) n).val:Int)]:=by
 unfold yY ah;rw[List.range_succ,List.map_append,List.map_append];congr 1;show [Value.int .u64 ((uw (gS w n (dq l) i)).toNat:Int)]=_
 rw[rG];have:gS w n (dq l) i=sm (fun a=>dq l a*Fft.pw (Fft.pw w i) a) n:=nL n fun a _=>by rw[<- fD,Nat.mul_comm a i]
 rw[this]
theorem Ao (K:VK)(w:Zp)(hR:∀ H,R H->Cells H A (ah l))(hl:l.length=n)(hn:n<=1048576)
  (hK:∀ A2 m2 H,Sep (bH 108 1 A2 n m2 (ah (yY w n l n))::R::L) H->K (.slice A2 n m2) H):
  ∀(t j:Nat) (A':OA) (m':Nat) (H:Hp),j+t=n->Sep (bH 108 1 A' j m' (ah (yY w n l j))::R::L) H->
   aU.l5 K (t+1) A n m (w.val:Int) A' j m' ((Fft.pw w j).val:Int) (j:Int) H
 |0,j,A',m',H,hj,hs=>by
  obtain rfl:j=n:=by omega
  unfold aU.l5;exact aw (by omega) (hK A' m' H hs)
 |t+1,j,A',m',H,hj,hs=>by
  unfold aU.l5;refine aC (by omega) ⟨n+1,?_⟩;refine Ea K _ w (Fft.pw w j) hR hl hn (by omega) (fun A2 m2 H hs=>?_) n 0 H (by omega) hs;rw[bu (x:=(j:Int)+1),show(j:Int)+1=((j+1:Nat):Int) by omega];refine Ao K w hR hl hn hK t (j+1) A2 m2 H (by omega) ?_;rw[GA];exact hs
theorem Ll (hR:∀ H,R H->Cells H A (ah l))(hl:l.length=n)(hn:n=2^k)(hk:k<=20)(d:Bool):
  Tr prog 111 #[.slice A n m,I (k:Int),I (if d=true then 1 else 0)] [R] fun v M=>∃ A2 m2,v= .slice A2 n m2/\M=[bH 108 1 A2 n m2 (ah (iu d k l)),R]:=fun H hs=>by
 have h20:=dw hk;apply aU.ok;unfold aU;refine ae.use (Ht (by omega) d H) ?_;simp only[HV];have e0:Sep [bH 108 1 none 0 0 (ah (yY (fk d k) n l 0)),R] H:=
  ⟨fun _=>none,H,fun _ _ h=>(nomatch h),Hp.le_refl _,fun _=>.inl rfl,bH.none _ _ _,hs⟩
 refine⟨n+1,?_⟩;refine Ao (L:=[]) _ (fk d k) hR hl (by omega) (fun A2 m2 H hs=>⟨_,⟨A2,m2,rfl,rfl⟩,?_⟩) n 0 none 0 H (by omega) e0;unfold iu;rw[<- hn];exact hs
end
def yE (j:J)(q:Nat)(l:List UInt64)(c:Nat):Zp:=gS (fk j.d j.eb) (2^j.eb) (dq l) c*zw j.sh*(if 0<=j.tw then Fft.pw (fk j.d j.tw.toNat) (q*c)else 1)
theorem HB (j:J)(q:Nat)(l:List UInt64):kL j q l=(List.range (2^j.eb)).map fun c=>uw (yE j q l c):=by
 apply List.ext_getElem?;intro c;rw[List.getElem?_map];by_cases hc:c<2^j.eb
 .rw[List.getElem?_range hc];have h1:=qV j.d j.eb l hc;have h2:(AA j q (iu j.d j.eb l))[c]? =some (uw (gS (fk j.d j.eb) (2^j.eb) (dq l) c*(if 0<=j.tw then Fft.pw (fk j.d j.tw.toNat) (q*c)else 1))):=by
   unfold AA;by_cases ht:0<=j.tw
   .rw[if_pos ht,if_pos ht];unfold vA nE;rw[List.getElem?_map,lU,List.getElem?_range hc];show some (uw (dq (iu j.d j.eb l) c*Fft.pw (Fft.pw (fk j.d j.tw.toNat) q) c))=some _
    rw[Dz h1,vC,<-fD]
   .rw[if_neg ht,if_neg ht,h1];congr 2;grind
  unfold kL;rw[wY _ h2,vC];show some _=some _
  congr 2;unfold yE;grind
 .rw[List.getElem?_eq_none (by rw[ry];omega),List.getElem?_eq_none (by simp;omega)];rfl
section
variable {R : As} {A : Option Addr} {n m b1 : Nat} {l : List UInt64} {j : J}
def jx (j:J)(l:List UInt64)(m:Nat):List UInt64:=(List.range m).flatMap fun q=>kL j q ((l.drop (q*2^j.eb)).take (2^j.eb))
end
end Pas
namespace Pln
open Go Go.Hw Shp Fft Ker Pas Str Dsk Trn
def kc (r c:Nat)(l:List UInt64):List UInt64:=(List.range (r*c)).map fun k=>l.getD (k%r*c+k/r) 0
theorem zn (r c:Nat)(l:List UInt64):(kc r c l).length=r*c:=by simp[kc]
theorem EE {r c:Nat}(l:List UInt64){i j:Nat}(hi:i<r)(hj:j<c):(kc r c l).getD (j*r+i) 0=l.getD (i*c+j) 0:=by
 have h1:j*r+i<r*c:=by
  have:(j+1)*r<=c*r:=Nat.mul_le_mul_right _ hj;rw[Nat.succ_mul]at this;rw[Nat.mul_comm r c];omega
 have h2:(j*r+i)%r=i:=by rw[Nat.add_comm,Nat.add_mul_mod_self_right,Nat.mod_eq_of_lt hi]
 have h3:(j*r+i)/r=j:=by rw[Nat.add_comm,Nat.add_mul_div_right _ _ (by omega),Nat.div_eq_of_lt hi,Nat.zero_add]
 unfold kc;rw[List.getD_eq_getElem?_getD,List.getElem?_map,List.getElem?_range h1];show l.getD _ 0=_
 rw[h2,h3]
theorem HX {r c:Nat}(l:List UInt64){i j:Nat}(hi:i<r)(hj:j<c):dq (kc r c l) (j*r+i)=dq l (i*c+j):=by
 unfold dq;rw[EE l hi hj]
theorem LI (d:D)(x:X)(r c:Nat):rD d x r c=kc r c (dV d x 0 (r*c)):=by
 unfold rD kc;apply List.map_congr_left;intro k hk;have hk:=List.mem_range.1 hk;have hr:0<r:=by
  rcases Nat.eq_zero_or_pos r with h|h
  .rw[h,Nat.zero_mul]at hk;omega
  .exact h
 have h1:k%r<r:=Nat.mod_lt _ hr;have h2:k/r<c:=Nat.div_lt_of_lt_mul hk;have h3:k%r*c+k/r<r*c:=by
  have:(k%r+1)*c<=r*c:=Nat.mul_le_mul_right _ h1;rw[Nat.succ_mul]at this;omega
 unfold Kt;rw[List.getD_eq_getElem?_getD,vu h3,Nat.zero_add];rfl
theorem FQ (j:J)(d:D)(x:X)(m:Nat):ir j d x m=jx j (dV d x 0 (m*2^j.eb)) m:=HD rfl
theorem AB (j:J)(l:List UInt64){m q c:Nat}(hq:q<m)(hc:c<2^j.eb):(jx j l m)[q*2^j.eb+c]? =some (uw (yE j q ((l.drop (q*2^j.eb)).take (2^j.eb)) c)):=by
 have h:=zP (f:=fun q=>kL j q ((l.drop (q*2^j.eb)).take (2^j.eb))) (c:=2^j.eb) (fun q=>ry j q _) m q hq;have e:(jx j l m)[q*2^j.eb+c]? =(((jx j l m).drop (q*2^j.eb)).take (2^j.eb))[c]? :=by
  rw[List.getElem?_take_of_lt hc,List.getElem?_drop]
 rw[e];show((((List.range m).flatMap fun q=>kL j q ((l.drop (q*2^j.eb)).take (2^j.eb))).drop (q*2^j.eb)).take (2^j.eb))[c]? =_
 rw[h,HB,List.getElem?_map,List.getElem?_range hc];rfl
def wz (j:J)(q:Nat)(f:Nat->Zp)(c:Nat):Zp:=gS (fk j.d j.eb) (2^j.eb) (fun i=>f (q*2^j.eb+i)) c*zw j.sh*(if 0<=j.tw then Fft.pw (fk j.d j.tw.toNat) (q*c)else 1)
theorem CN (j:J)(l:List UInt64)(q c:Nat):yE j q ((l.drop (q*2^j.eb)).take (2^j.eb)) c=wz j q (dq l) c:=by
 unfold yE wz;congr 2;refine rU (fun i hi=>?_) c;unfold dq;rw[List.getD_eq_getElem?_getD,List.getElem?_take_of_lt hi,List.getElem?_drop,<-List.getD_eq_getElem?_getD]
theorem JH (j:J)(l:List UInt64){m q c:Nat}(hq:q<m)(hc:c<2^j.eb):dq (jx j l m) (q*2^j.eb+c)=wz j q (dq l) c:=by
 rw[Dz (AB j l hq hc),vC,CN]
theorem JI (j:J)(l:List UInt64){m q c:Nat}(hq:q<m)(hc:c<2^j.eb):(jx j l m).getD (q*2^j.eb+c) 0=uw (wz j q (dq l) c):=by
 rw[List.getD_eq_getElem?_getD,AB j l hq hc,CN];rfl
structure Pz where
 t:Bool
 j:J
 f:Nat
 o:Nat
def Pz.c (p:Pz):Array Value:=p.j.a++ #[I (if p.t=true then 1 else 2),I (p.f:Int),I (p.o:Int)]
def Pz.ap (p:Pz)(l:List UInt64):List UInt64:=if p.t=true then kc (2^p.j.ea) (2^p.j.eb) l else jx p.j l (2^p.j.ea)
def me (d:Bool)(k:Nat):UInt64:=if d=true then uw (Fft.pw half k)else 1
def uT (d:Bool)(k:Nat):Pz:=⟨false,⟨0,k,d,-1,me d k⟩,0,3⟩
def qy (d:Bool)(k:Nat):List Pz:=
 [⟨true,⟨k/2,k-k/2,false,-1,1⟩,0,1⟩,⟨false,⟨k-k/2,k/2,d,(k:Int),1⟩,1,2⟩,⟨true,⟨k-k/2,k/2,false,-1,1⟩,2,1⟩,
  ⟨false,⟨k/2,k-k/2,d,-1,me d k⟩,1,2⟩,⟨true,⟨k/2,k-k/2,false,-1,1⟩,2,3⟩]
def uS (k aa words:Nat):Bool:=decide (k<=20/\2*2^k+aa<=words)
def dz (d:Bool)(k aa words:Nat):List Pz:=if uS k aa words=true then [uT d k]else qy d k
def fB (k aa:Nat):Nat:=2*2^((k+1)/2)+aa
def pT (ps:List Pz)(l:List UInt64):List UInt64:=ps.foldl (fun l p=>p.ap l) l
theorem KI (a b:List Pz)(l:List UInt64):pT (a++b) l=pT b (pT a l):=List.foldl_append
def sW (d:Bool)(k:Nat)(l:List UInt64):List UInt64:=gK (zw (me d k)) (iu d k l)
theorem zm (d:Bool)(k:Nat)(l:List UInt64):(sW d k l).length=2^k:=by unfold sW;rw[pe,lU]
theorem Jp (d:Bool)(k:Nat)(l:List UInt64)(hl:l.length=2^k):(uT d k).ap l=sW d k l:=by
 show jx ⟨0,k,d,-1,me d k⟩ l 1=_
 unfold jx;rw[show List.range 1=[0]from rfl,List.flatMap_cons,List.flatMap_nil,List.append_nil,Nat.zero_mul,List.drop_zero];show kL _ 0 (l.take (2^k))=_
 rw[List.take_of_length_le (by omega)];rfl
theorem K5 (d:Bool)(k:Nat)(hk:k<=32)(l:List UInt64):pT (qy d k) l=sW d k l:=by
 obtain⟨a,ha⟩:∃ a,k/2=a:=⟨_,rfl⟩;obtain⟨b,hb⟩:∃ b,k-a=b:=⟨_,rfl⟩;have hab:a+b=k:=by omega
 have hka:k-b=a:=by omega
 have hkb:k-a=b:=by omega
 have hRC:2^a*2^b=2^k:=by rw[<- Nat.pow_add,hab]
 have hpos:0<2^a:=Nat.two_pow_pos a;unfold qy pT;simp only[List.foldl_cons,List.foldl_nil,ha,hb];show kc (2^a) (2^b) (jx ⟨a,b,d,-1,me d k⟩ (kc (2^b) (2^a) (jx ⟨b,a,d,(k:Int),1⟩ (kc (2^a) (2^b) l) (2^b))) (2^a))=_
 apply List.ext_getElem?;intro i;by_cases hi:i<2^k
 .have hj:i%2^a<2^a:=Nat.mod_lt _ hpos;have hm:i/2^a<2^b:=Nat.div_lt_of_lt_mul (by rw[hRC];exact hi);have hij:i/2^a*2^a+i%2^a=i:=by rw[Nat.mul_comm];exact Nat.div_add_mod i (2^a)
  generalize hjj:i%2^a=j at hj hij;generalize hmm:i/2^a=m at hm hij;subst hij;have e1:=EE (r:=2^a) (c:=2^b) (jx ⟨a,b,d,-1,me d k⟩ (kc (2^b) (2^a) (jx ⟨b,a,d,(k:Int),1⟩ (kc (2^a) (2^b) l) (2^b))) (2^a)) hj hm;have e2:=JI ⟨a,b,d,-1,me d k⟩ (kc (2^b) (2^a) (jx ⟨b,a,d,(k:Int),1⟩ (kc (2^a) (2^b) l) (2^b))) (m:=2^a) hj (c:=m) hm;have hlen:m*2^a+j<(kc (2^a) (2^b) (jx ⟨a,b,d,-1,me d k⟩ (kc (2^b) (2^a) (jx ⟨b,a,d,(k:Int),1⟩ (kc (2^a) (2^b) l) (2^b))) (2^a))).length:=by rw[zn,hRC];exact hi
  rw[List.getElem?_eq_getElem hlen];rw[List.getD_eq_getElem?_getD,List.getElem?_eq_getElem hlen]at e1;simp only[Option.getD_some]at e1;rw[e1,e2];have e3:sW d k l=gK (zw (me d k)) (iu d k l):=rfl;rw[e3,wY _ (qV d k l hi),vC];congr 2;have hw:Fft.pw (fk d k) (2^a*2^b)=1:=by rw[hRC];exact Lv d hk
  have hrows:=IW hw (dq l) m j;rw[hRC]at hrows;rw[hrows];have hwa:Fft.pw (fk d k) (2^a)=fk d b:=by have:=El d hk (show b<=k by omega);rwa [hka]at this
  have hwb:Fft.pw (fk d k) (2^b)=fk d a:=by have:=El d hk (show a<=k by omega);rwa [hkb]at this
  rw[hwa,hwb];unfold wz;rw[if_neg (show ¬((0:Int)<=-1) by omega)];have key:gS (fk d b) (2^b) (fun i=>dq (kc (2^b) (2^a) (jx ⟨b,a,d,(k:Int),1⟩ (kc (2^a) (2^b) l) (2^b))) (j*2^b+i)) m=gS (fk d b) (2^b) (fun c=>gS (fk d a) (2^a) (fun r=>dq l (r*2^b+c)) j*Fft.pw (fk d k) (c*j)) m:=by
   refine rU (fun c hc=>?_) m;rw[HX _ hc hj];have h2:=JH ⟨b,a,d,(k:Int),1⟩ (kc (2^a) (2^b) l) (m:=2^b) hc (c:=j) hj;refine h2.trans ?_;unfold wz;rw[if_pos (Int.natCast_nonneg k)];have e1:zw 1=1:=by decide
   have h3:gS (fk d a) (2^a) (fun i=>dq (kc (2^a) (2^b) l) (c*2^a+i)) j=gS (fk d a) (2^a) (fun r=>dq l (r*2^b+c)) j:=
    rU (fun r hr=>HX l hr hc) j
   show gS (fk d a) (2^a) (fun i=>dq (kc (2^a) (2^b) l) (c*2^a+i)) j*zw 1*Fft.pw (fk d ((k:Int).toNat)) (c*j)=_
   rw[h3,e1,Int.toNat_natCast];grind
  show gS (fk d b) (2^b) (fun i=>dq (kc (2^b) (2^a) (jx ⟨b,a,d,(k:Int),1⟩ (kc (2^a) (2^b) l) (2^b))) (j*2^b+i)) m*zw (me d k)*1=_
  rw[key];grind
 .rw[List.getElem?_eq_none (by rw[zn,hRC];omega),List.getElem?_eq_none (by rw[zm];omega)]
theorem zd (d:Bool)(k aa words:Nat)(hk:k<=32)(l:List UInt64)(hl:l.length=2^k):pT (dz d k aa words) l=sW d k l:=by
 unfold dz;split
 .exact Jp d k l hl
 .exact K5 d k hk l
end Pln
namespace Sup
open Go Go.Hw Go.Form W Lay
theorem Bv (s:Int)(hs:0<cc s)(H:Hp):ae prog 227 #[U s] H (RetE (I (gB s+1)) H):=by
 apply iG.ok;unfold iG;refine ae.use (v:=I (gB s+1)) ?_ (RetE.mk _ _);apply cL.ok;have:s=32\/s=64\/s=128\/s=256\/s=512\/s=1024\/s=2048\/s=4096:=by
  unfold cc at hs
  repeat' split at hs
  all_goals omega
 unfold cL;rcases this with rfl|rfl|rfl|rfl|rfl|rfl|rfl|rfl
 all_goals
  refine bQ rfl ?_;unfold cL.j4;refine bQ rfl ?_;unfold cL.j7
  first
   |(refine cV rfl ⟨by decide,by decide,?_⟩;refine GY (by decide) ?_;exact RetE.of rfl)
   |(refine bQ rfl ⟨by decide,?_⟩;refine GY (by decide) ?_;exact RetE.of rfl)
def fq (k:Nat)(s:Int):Nat:=4702392716946833408+k*65536+(gB s).toNat
def oW (k sec s ar:Int):List UInt64:=[UInt64.ofNat (fq k.toNat s),UInt64.ofNat sec.toNat,UInt64.ofNat ar.toNat]
def qe (k sec s ar:Int):List UInt64:=oW k sec s ar++[UInt64.ofNat (Go.Crc.sum (form (oW k sec s ar))).toNat]
def gg (k sec s ar:Int):List UInt8:=form (qe k sec s ar)++List.replicate (s.toNat-32) 0
theorem G8 (s:Int):gB s<=12:=by
 rcases qJ s with h|h<;>omega
theorem BT (k:Nat)(sec s ar:Int)(hk:k<=65535)(hs:0<cc s)(H:Hp):ae prog 195 #[.agg (fQ k sec s ar)] H (RetE (U ((UInt64.ofNat (fq k s)).toNat:Int)) H):=by
 apply ae.ret;apply nC.ok;unfold nC;simp only[HS];refine(Sep.start H).nw fun b1 H hs'=>?_
 have hs0:=hs;have hs:=hs';have h1:=qJ s;have h2:=sP s
 first|refine hs.ld 1 rfl rfl ?_|refine hs.ld 2 rfl rfl ?_|refine hs.ld 3 rfl rfl ?_|refine hs.ld 4 rfl rfl ?_|refine hs.ld 5 rfl rfl ?_|refine hs.ld 6 rfl rfl ?_|refine hs.ld 7 rfl rfl ?_|refine hs.ld 8 rfl rfl ?_
 try simp only[HV]
 refine⟨by omega,?_⟩
 first|refine hs.ld 1 rfl rfl ?_|refine hs.ld 2 rfl rfl ?_|refine hs.ld 3 rfl rfl ?_|refine hs.ld 4 rfl rfl ?_|refine hs.ld 5 rfl rfl ?_|refine hs.ld 6 rfl rfl ?_|refine hs.ld 7 rfl rfl ?_|refine hs.ld 8 rfl rfl ?_
 try simp only[HV]
 rw[i7 (x:=s)];refine bN.use (Bv s hs0 H) ?_
 try simp only[HV]
 have h3:fq k s<2^64:=by unfold fq;omega
 rw[show gB s+1-1=gB s by omega,bu (x:=gB s),i7 (x:=gB s),fW (n:=k)];rw[FC (i:=(16:Int)) (n:=16) rfl,Nat.mod_eq_of_lt (by omega)];obtain⟨g,hg⟩:=Int.eq_ofNat_of_zero_le (show 0<=gB s by omega);have h4:k*2^16<2^64:=by omega
 rw[show(4702392716946833408:Int)=((4702392716946833408:Nat):Int)from rfl,Ka (by omega) h4,hg,Ka (Bf (by omega) h4) (by omega)];have e1:∀ q,q=4702392716946833408->q|||k*2^16=q+k*2^16:=fun q hq=>by
  have h5:∀ p,p=1094861123->p*2^32=q:=fun p hp=>by omega
  have:=Nat.shiftLeft_add_eq_or_of_lt (show k*2^16<2^32 by omega) 1094861123;rw[Nat.shiftLeft_eq,h5 _ rfl]at this;exact this.symm
 have e2:∀ q,q=4702392716946833408+k*2^16->q|||g=q+g:=fun q hq=>by
  have h5:∀ p,p=1094861123*2^16+k->p*2^16=q:=fun p hp=>by omega
  have:=Nat.shiftLeft_add_eq_or_of_lt (show g<2^16 by omega) (1094861123*2^16+k);rw[Nat.shiftLeft_eq,h5 _ rfl]at this;exact this.symm
 have e3:4702392716946833408+k*2^16+g=fq k s:=by unfold fq;rw[hg];rfl
 rw[e1 _ rfl,e2 _ rfl,e3];rw[show(UInt64.ofNat (fq k s)).toNat=fq k s from UInt64.toNat_ofNat_of_lt' h3];exact hs.fin 0 rfl _
theorem tJ (k sec s ar:Int):(qe k sec s ar).length=4:=rfl
theorem tI (k sec s ar:Int)(hs:0<cc s):((gg k sec s ar).length:Int)=s:=by
 have h1:=qJ s;unfold gg;rw[List.length_append,ec,tJ,List.length_replicate];have:4<=cc s:=by
  rcases h1 with h|h
  .rw[h.2.2.2.2];have:2^2<=2^(gB s-3).toNat:=Nat.pow_le_pow_right (by omega) (by omega);omega
  .omega
 omega
theorem fH :eJ prog 108=some (1,8,some #[.int .u64 0]):=by kernel_rfl
theorem BQ :eJ prog 5=some (1,1,some #[.int .u8 0]):=by kernel_rfl
theorem BA (k sec s ar:Int)(h:fh k sec s ar=false)(H:Hp):ae prog 184 #[.agg (fQ k sec s ar)] H (RetE (.tuple #[.slice none 0 0,I 1]) H):=by
 apply ae.ret;apply lv.ok;unfold lv;refine(Sep.start H).nw fun b1 H hs=>?_
 first|refine hs.bd 1 rfl rfl ?_|refine hs.bd 2 rfl rfl ?_|refine hs.bd 3 rfl rfl ?_|refine hs.bd 4 rfl rfl ?_|refine hs.bd 5 rfl rfl ?_|refine hs.bd 6 rfl rfl ?_|refine hs.bd 7 rfl rfl ?_|refine hs.bd 8 rfl rfl ?_
 try simp only[HV]
 refine ae.use (fT k sec s ar H) ?_
 try simp only[HV]
 rw[h];exact hs.fin 0 rfl _
theorem mh {x:Nat}(h:x<2^64:=by omega):(UInt64.ofNat x).toNat=x:=UInt64.toNat_ofNat_of_lt' h
theorem pR (k sec s ar:Int)(h:fh k sec s ar=true)(hsec:sec<=9223372036854775807):Tr prog 184 #[.agg (fQ k sec s ar)] [] fun v M=>∃ b,v= .tuple #[.slice (Oo b) s.toNat s.toNat,I 0]/\M=[af b (.row (aD (gg k sec s ar)) 5 s.toNat)]:=fun H _=>by
 have hg:=h;unfold fh at hg;simp only[decide_eq_true_eq]at hg;obtain⟨h1,h2,h3,h4,h5,h6⟩:=hg;obtain⟨kn,rfl⟩:=Int.eq_ofNat_of_zero_le h1;have hp:=sP s;have hlog:=qJ s;have hlen:=tI kn sec s ar h3;apply lv.ok;unfold lv;simp only[HS];refine(Sep.start H).nw fun b1 H hs=>?_
 first|refine hs.bd 1 rfl rfl ?_|refine hs.bd 2 rfl rfl ?_|refine hs.bd 3 rfl rfl ?_|refine hs.bd 4 rfl rfl ?_|refine hs.bd 5 rfl rfl ?_|refine hs.bd 6 rfl rfl ?_|refine hs.bd 7 rfl rfl ?_|refine hs.bd 8 rfl rfl ?_
 try simp only[HV]
 refine ae.use (fT kn sec s ar H) ?_
 try simp only[HV]
 rw[h];simp only[HV]
 first|refine hs.bd 1 rfl rfl ?_|refine hs.bd 2 rfl rfl ?_|refine hs.bd 3 rfl rfl ?_|refine hs.bd 4 rfl rfl ?_|refine hs.bd 5 rfl rfl ?_|refine hs.bd 6 rfl rfl ?_|refine hs.bd 7 rfl rfl ?_|refine hs.bd 8 rfl rfl ?_
 try simp only[HV]
 refine bN.use (BT kn sec s ar (by omega) h3 H) ?_
 try simp only[HV]
 first|refine hs.ld 1 rfl rfl ?_|refine hs.ld 2 rfl rfl ?_|refine hs.ld 3 rfl rfl ?_|refine hs.ld 4 rfl rfl ?_|refine hs.ld 5 rfl rfl ?_|refine hs.ld 6 rfl rfl ?_|refine hs.ld 7 rfl rfl ?_|refine hs.ld 8 rfl rfl ?_
 try simp only[HV]
 first|refine hs.ld 1 rfl rfl ?_|refine hs.ld 2 rfl rfl ?_|refine hs.ld 3 rfl rfl ?_|refine hs.ld 4 rfl rfl ?_|refine hs.ld 5 rfl rfl ?_|refine hs.ld 6 rfl rfl ?_|refine hs.ld 7 rfl rfl ?_|refine hs.ld 8 rfl rfl ?_
 try simp only[HV]
 rw[i7 (x:=sec),i7 (x:=ar)];have hw:([U ((UInt64.ofNat (fq kn s)).toNat:Int),U sec,U ar]:List Value)=ah (oW kn sec s ar):=by
  unfold oW ah;simp only[List.map_cons,List.map_nil,Int.toNat_natCast];rw[mh (x:=sec.toNat),mh (x:=ar.toNat)];rw[show((sec.toNat:Nat):Int)=sec by omega,show((ar.toNat:Nat):Int)=ar by omega]
 rw[hw];refine hs.nw fun b2 H hs=>?_
 first|refine hs.ld 1 rfl rfl ?_|refine hs.ld 2 rfl rfl ?_|refine hs.ld 3 rfl rfl ?_|refine hs.ld 4 rfl rfl ?_|refine hs.ld 5 rfl rfl ?_|refine hs.ld 6 rfl rfl ?_|refine hs.ld 7 rfl rfl ?_|refine hs.ld 8 rfl rfl ?_
 try simp only[HV]
 refine hs.q8 BQ rfl (n:=s.toNat) (m:=s.toNat) (by omega) (by omega) (Nat.le_refl _) (by omega) (by omega) fun bo H hs=>?_
 simp only[HV];have hc2:∀ H,H b2=some (.row (ah (oW kn sec s ar)) 108 3)->Cells H (Oo b2) (ah (oW kn sec s ar)):=fun H hb=>Cells.row hb 0 3
 refine ae.use (CrcP.td (Oo b2) 3 3 (oW kn sec s ar) rfl (by omega) H (hc2 H (hs.get 2 rfl))) ?_
 try simp only[HV]
 have hsum:=(Go.Crc.sum (form (oW kn sec s ar))).isLt;rw[fW (n:=(Go.Crc.sum (form (oW kn sec s ar))).toNat)];have hs:Sep [own _,af b1 _,bH 108 1 (Oo b2) 3 3 (ah (oW kn sec s ar)),af bo (.row (cZ [.int .u8 0] s.toNat) 5 (s.toNat*1))] H:=hs.jE 2 rfl fun H1 hH=>⟨rfl,.inr ⟨b2,3,rfl,hH,by omega⟩⟩
 refine hs.yU 2 (by rfl) fH (by omega) (by rfl) (by omega) (by omega) fun A' m' H hs=>?_
 simp only[HV];have hw4:ah (oW kn sec s ar)++[U ((Go.Crc.sum (form (oW kn sec s ar))).toNat:Int)]=ah (qe kn sec s ar):=by
  unfold qe ah;rw[List.map_append];congr 1;simp only[List.map_cons,List.map_nil];rw[mh]
 rw[hw4]at hs;have hc4:Cells H A' (ah (qe kn sec s ar)):=by
  obtain⟨_,h7⟩:=hs.own 2 rfl;rcases h7 with⟨_,h8,_⟩|⟨b,mm,rfl,h8,_⟩
  .omega
  .exact Cells.row h8 0 4
 refine(FormP.pR A' 4 m' (qe kn sec s ar) rfl (by omega) H hc4).mono ?_;rintro v H' ⟨b4,hb4,rfl,rfl⟩;have hs:=hs.new hb4 (.row (aD (form (qe kn sec s ar))) 5 (8*4));simp only[HV];have hf:(form (qe kn sec s ar)).length=32:=by rw[ec];rfl
 have hmin:Nat.min 32 s.toNat=32:=by
  have:4<=cc s:=by
   rcases hlog with h|h
   .rw[h.2.2.2.2];have:2^2<=2^(gB s-3).toNat:=Nat.pow_le_pow_right (by omega) (by omega);omega
   .omega
  exact Nat.min_eq_left (by omega)
 refine hs.cp 3 (k:=32) (n:=s.toNat) (ys:=aD (form (qe kn sec s ar))) (by rfl) BQ rfl ?_ ?_ (fun y hy=>?_) fun H hs=>?_
 .rw[hmin];refine sT ?_ (by rw[bz,hf]);have:=Cells.row (hs.get 4 (b:=b4) (o:=.row (aD (form (qe kn sec s ar))) 5 (8*4)) rfl) 0 32;rw[List.drop_zero,List.take_of_length_le (by rw[bz,hf];exact Nat.le_refl _)]at this;exact this
 .rw[bz,hf,fG];rw[<- hmin];simp;exact Nat.min_le_right _ _
 .obtain⟨x,_,rfl⟩:=List.mem_map.1 hy;rfl
 simp only[HV];refine⟨_,⟨bo,rfl,rfl⟩,?_⟩;have hs:=hs.re [3] rfl;have e:setAt (cZ [.int .u8 0] s.toNat) 0 (aD (form (qe kn sec s ar)))=aD (gg kn sec s ar):=by
  unfold gg;rw[rQ,fm];unfold setAt;rw[bz,hf];simp[aD]
 rw[e,Nat.mul_one]at hs;exact hs
theorem r8 (A:OA)(n m:Nat)(H:Hp):ae prog 191 #[.slice A n m] H (RetE (.bool (decide (0<cc n))) H):=by
 apply mw.ok;unfold mw;refine ae.use (vf 0 n H) ?_
 try simp only[HV]
 unfold pn;by_cases h:0<cc n
 .rw[if_pos (by omega)];exact RetE.of (by simp[h])
 .rw[if_neg (by omega)];exact RetE.of (by simp[h])
def sL (bs:List UInt8):Bool:=(bs.drop 32).all (· ==0)
theorem NH (b:UInt8):((b.toNat:Int) !=0)= !(b==0):=by
 by_cases h:b=0
 .subst h;rfl
 .have:b.toNat≠0:=fun e=>h (UInt8.toNat_inj.1 (by rw[e];rfl))
  have h2:(b==0)=false:=by simpa using h
  rw[h2];simp;omega
theorem vG (K:VK)(A:OA)(n m:Nat)(bs:List UInt8)(hn:n=bs.length)(hm:n<=9000000000000000000)(H:Hp)(hb:Cells H A (aD bs))(r:Bool)(hK:K (.bool (bs.all (· ==0))) H):∀ d j:Nat,j+d=n->(bs.take j).all (· ==0)=true->
  dh.l2 K (d+1) A n m (n:Int) (j:Int) H
 |0,j,hj,h0=>by
  unfold dh.l2;refine aw (by omega) ?_;rw[List.take_of_length_le (by omega)]at h0;rw[h0]at hK;exact hK
 |d+1,j,hj,h0=>by
  unfold dh.l2;refine aC (by omega) ?_;have hlt:j<bs.length:=by omega
  refine hb.read (i:=j) (v:=.int .u8 (bs[j].toNat:Int)) (by rw[qT,List.getElem?_eq_getElem hlt];rfl) rfl (by rw[bz];omega) ?_;simp only[HV];rw[NH];by_cases h:bs[j]=0
  .refine bQ (by simp[h]) ?_;rw[bu];refine vG K A n m bs hn hm H hb r hK d (j+1) (by omega) ?_;rw[List.take_succ_eq_append_getElem hlt,List.all_append,h0];simp[h]
  .refine cV (by simp[h]) ?_;have:bs.all (· ==0)=false:=by
    rw[List.all_eq_false];exact⟨bs[j],List.getElem_mem hlt,by simpa using h⟩
   rw[this]at hK;exact hK
theorem Gv (A:OA)(n m:Nat)(hnm:n<=m)(bs:List UInt8)(hn:n=bs.length)(h32:32<=n)(hm:n<=9000000000000000000)(H:Hp)(hb:Cells H A (aD bs)):
  ae prog 193 #[.slice A n m] H (RetE (.bool (sL bs)) H):=by
 apply dh.ok;unfold dh;refine⟨by omega,by omega,n-32+1,?_⟩;have h1:=hb.shift (m:=m) (l:=32) (by rw[bz];omega);rw[show(aD bs).drop 32=aD (bs.drop 32) by unfold aD;rw[List.map_drop]]at h1;exact vG _ _ (n-32) (m-32) (bs.drop 32) (by simp;omega) (by omega) H h1 true (RetE.mk _ _) (n-32) 0 (by omega) rfl
abbrev Sb :=Int×Int×Int×Int
def HJ (x:Sb):Array Value:=fQ x.1 x.2.1 x.2.2.1 x.2.2.2
def yV (a b c:Nat):Nat:=(Go.Crc.sum (form [UInt64.ofNat a,UInt64.ofNat b,UInt64.ofNat c])).toNat
def lE (bs:List UInt8):Sb:=(((aP bs 0/65536%65536:Nat):Int),i64.wrap (aP bs 8:Nat),((bs.length:Nat):Int),i64.wrap (aP bs 16:Nat))
def dU (bs:List UInt8):Sb×Int:=
 if cc bs.length=0 then((0,0,0,0),15)
 else if aP bs 0/4294967296≠1094861123\/sL bs=false then((0,0,0,0),10)
 else if aP bs 24≠yV (aP bs 0) (aP bs 8) (aP bs 16)then((0,0,0,0),9)
 else if fh (lE bs).1 (lE bs).2.1 (lE bs).2.2.1 (lE bs).2.2.2=true/\((aP bs 0%65536:Nat):Int)=gB bs.length then(lE bs,0)
 else((0,0,0,0),1)
theorem Ie (bs:List UInt8):([U (aP bs 0:Nat),U (aP bs 8:Nat),U (aP bs 16:Nat)]:List Value)=ah [UInt64.ofNat (aP bs 0),UInt64.ofNat (aP bs 8),UInt64.ofNat (aP bs 16)]:=by
 unfold ah;simp only[List.map_cons,List.map_nil];rw[mh (iQ bs 0),mh (iQ bs 8),mh (iQ bs 16)]
theorem KL (a b c:Nat):yV a b c<2^32:=(Go.Crc.sum _).isLt
theorem Ca {n:Int}(h:0<cc n):n=((2^(gB n).toNat:Nat):Int)/\5<=gB n/\gB n<=12:=by
 unfold cc at h;unfold gB
 repeat' split
 all_goals first|(subst_vars;refine⟨by decide,by decide,by decide⟩)|skip
 repeat' split at h
 all_goals omega
theorem HM {t:Nat}(h:t<=62):dA .i64 1 (t:Int)=((2^t:Nat):Int):=pf h
theorem I1 {a:Nat}(ha:a<2^64)(hm:a/4294967296=1094861123){sec ar n:Int}(hn:0<cc n):
  (fh ((a/65536%65536:Nat):Int) sec (dA .i64 1 ((a%64:Nat):Int)) ar=true/\fq (a/65536%65536) (dA .i64 1 ((a%64:Nat):Int))=a/\dA .i64 1 ((a%64:Nat):Int)=n)↔
   (fh ((a/65536%65536:Nat):Int) sec n ar=true/\((a%65536:Nat):Int)=gB n):=by
 obtain⟨h1,h2,h3⟩:=Ca hn;constructor
 .rintro⟨g1,g2,g3⟩;rw[g3]at g1 g2;refine⟨g1,?_⟩;unfold fq at g2;omega
 .rintro⟨g1,g2⟩;obtain⟨t,ht⟩:=Int.eq_ofNat_of_zero_le (show 0<=gB n by omega);have h64:a%64=t:=by omega
  have hv:dA .i64 1 ((a%64:Nat):Int)=n:=by
   rw[h64,HM (by omega),h1,ht];rfl
  rw[hv];refine⟨g1,?_,rfl⟩;unfold fq;rw[ht]at g2⊢;have:(Int.toNat (t:Int))=t:=Int.toNat_natCast t;rw[this];omega
theorem qE (K:VK)(d b1 b2:Nat)(A:OA)(n m:Nat)(hnm:n<=m)(hm:n<=9000000000000000000)(bs:List UInt8)(hn:n=bs.length)(h32:32<=n)(H0 H:Hp)(hb:Cells H0 A (aD bs))(c:Array Value)(hc:c.size=4)(z:Array Value)(e1 e2:TypeId)(i:Nat)(hi:i<4)
  (hs:Sep [own H0,af b1 (Oq z e1),af b2 (Oq c e2)] H)
  (k:∀ H,Sep [own H0,af b1 (Oq z e1),af b2 (Oq (c.setIfInBounds i (U (aP bs (8*i):Nat))) e2)] H->cK.l5 K d A n m (O b1) (O b2) ((i+1:Nat):Int) H):
  cK.l5 K (d+1) A n m (O b1) (O b2) (i:Int) H:=by
 conv=>unfold cK.l5 cK.l5.q1
 refine aC (by omega) ?_;refine ae.use (FormP.yR A n m hnm hm bs hn i (by omega) H (hb.le (hs.ow 0 rfl))) ?_
 try simp only[HV]
 refine hs.stx 2 rfl (j:=i) rfl hi (by omega) rfl fun H hs=>?_;rw[bu (x:=(i:Int)+1)];exact k H hs
theorem nW (K:VK){L:List As}{H:Hp}(hs:Sep L H){b1:Nat}{z:Array Value}{e1:TypeId}(i:Nat)(hi:L[i]? =some (af b1 (Oq z e1)))(hz:z.size=4)(e:Int)(y:Array Value)(hy:y.size=4)(hv:y.toList.all (fun v=>v.oneCell')=true)
  (hK:∀ H,Sep (L.set i (af b1 (Oq y e1))) H->K (.tuple #[.agg y,I e]) H):bR H (O b1) y 4 fun H3=>aJ H3 (O b1) 4 fun l7=>K (.tuple #[.agg l7.toArray,I e]) H3:=by
 refine hs.dW i hi hz hy hv fun H hs=>?_;have hlt:=(List.getElem?_eq_some_iff.1 hi).1;refine hs.bd i (b:=b1) (c:=y) (e:=e1) (by rw[List.getElem?_set];simp[hlt]) hy ?_;rw[Array.toArray_toList];exact hK H hs
theorem sA (A:OA)(n m:Nat)(hnm:n<=m)(hm:n<=9000000000000000000)(bs:List UInt8)(hn:n=bs.length)(H:Hp)(hb:Cells H A (aD bs)):
  ae prog 139 #[.slice A n m] H (RetE (.tuple #[.agg (HJ (dU bs).1),I (dU bs).2]) H):=by
 apply ae.ret;apply cK.ok;unfold cK;refine(Sep.start H).nw fun b1 H' hs=>?_
 have fin:∀{L:List As} {H':Hp} (x:Sb) (e:Int),Sep L H'->L[0]? =some (own H)->dU bs=(x,e)->lG (.tuple #[.agg (HJ (dU bs).1),I (dU bs).2]) H (.tuple #[.agg (HJ x),I e]) H':=fun x e hs h0 he=>by
  rw[he];exact hs.fin 0 h0 _
 refine ae.use (r8 A n m H') ?_
 try simp only[HV]
 by_cases hp:cc (n:Int)=0
 .refine cV (by simp;omega) ?_;refine nW _ hs 1 rfl rfl 15 _ rfl rfl fun H' hs=>fin (0,0,0,0) 15 hs rfl ?_
  unfold dU;rw[<- hn,if_pos hp]
 refine bQ (by simp;omega) ?_;refine hs.nw fun b2 H' hs=>?_
 have hp':0<cc (n:Int):=by omega
 have h32:32<=n:=by
  obtain⟨h1,h2,h3⟩:=Ca hp';have:2^5<=2^(gB n).toNat:=Nat.pow_le_pow_right (by omega) (by omega);omega
 refine⟨5,?_⟩;refine qE _ 4 b1 b2 A n m hnm hm bs hn h32 H H' hb _ rfl _ _ _ 0 (by omega) hs fun H' hs=>?_
 refine qE _ 3 b1 b2 A n m hnm hm bs hn h32 H H' hb _ rfl _ _ _ 1 (by omega) hs fun H' hs=>?_
 refine qE _ 2 b1 b2 A n m hnm hm bs hn h32 H H' hb _ rfl _ _ _ 2 (by omega) hs fun H' hs=>?_
 refine qE _ 1 b1 b2 A n m hnm hm bs hn h32 H H' hb _ rfl _ _ _ 3 (by omega) hs fun H' hs=>?_
 have hs:Sep [own H,af b1 (Oq #[I 0,I 0,I 0,I 0] 45),af b2 (Oq #[U (aP bs 0:Nat),U (aP bs 8:Nat),U (aP bs 16:Nat),U (aP bs 24:Nat)] 295)] H':=hs;have w0:=iQ bs 0;unfold cK.l5 cK.l5.q1;refine aw (by omega) ?_;refine hs.B4 2 rfl (j:=0) rfl (by omega) rfl ?_;simp only[HV];refine⟨by omega,?_⟩;refine hs.B4 2 rfl (j:=0) rfl (by omega) rfl ?_;simp only[HV];rw[show cU .u64 ((aP bs 0:Nat):Int) 63=((aP bs 0%64:Nat):Int) by rw[show(63:Int)=((63:Nat):Int)from rfl,yT w0,Nat.and_two_pow_sub_one_eq_mod _ 6]];refine⟨by omega,?_⟩;refine hs.B4 2 rfl (j:=1) rfl (by omega) rfl ?_;simp only[HV];refine hs.B4 2 rfl (j:=2) rfl (by omega) rfl ?_;simp only[HV];refine hs.nw fun b3 H' hs=>?_
 refine hs.dW 3 rfl rfl rfl rfl fun H' hs=>?_
 have e16:i64.wrap (cU .u64 (cT .u64 ((aP bs 0:Nat):Int) 16) 65535)=((aP bs 0/65536%65536:Nat):Int):=by
  rw[rz (i:=(16:Int)) (n:=16) rfl (by decide),show(65535:Int)=((65535:Nat):Int)from rfl,yT,Nat.and_two_pow_sub_one_eq_mod _ 16,ed]
 rw[e16]at hs;refine hs.B4 2 rfl (j:=0) rfl (by omega) rfl ?_;simp only[HV];refine⟨by omega,?_⟩;rw[rz (i:=(32:Int)) (n:=32) rfl (by decide)];by_cases hmg:aP bs 0/4294967296=1094861123
 .refine aH (by omega) ?_;refine ae.use (Gv A n m hnm bs hn h32 (by omega) H' (hb.le (hs.ow 0 rfl))) ?_
  try simp only[HV]
  by_cases hz:sL bs=true
  .refine bQ (by simp[hz]) ?_;refine hs.B4 2 rfl (j:=3) rfl (by omega) rfl ?_;simp only[HV];refine⟨by omega,by omega,?_⟩;have hc3:=Cells.obj (hs.get 2 (b:=b2) (o:=Oq #[U (aP bs 0:Nat),U (aP bs 8:Nat),U (aP bs 16:Nat),U (aP bs 24:Nat)] 295) rfl) 3;have hc3:Cells H' (Oo b2) (ah [UInt64.ofNat (aP bs 0),UInt64.ofNat (aP bs 8),UInt64.ofNat (aP bs 16)]):=by
    rw[<- Ie];exact hc3
   refine bN.use (CrcP.td (Oo b2) 3 4 _ rfl (by omega) H' hc3) ?_;simp only[HV];have hcl:=KL (aP bs 0) (aP bs 8) (aP bs 16);rw[show(Go.Crc.sum (form [UInt64.ofNat (aP bs 0),UInt64.ofNat (aP bs 8),UInt64.ofNat (aP bs 16)])).toNat=yV (aP bs 0) (aP bs 8) (aP bs 16)from rfl,fW];by_cases hcr:aP bs 24=yV (aP bs 0) (aP bs 8) (aP bs 16)
   .refine aH (by omega) ?_;refine hs.bd 3 rfl rfl ?_;have hiff:=I1 w0 hmg (sec:=i64.wrap (aP bs 8:Nat)) (ar:=i64.wrap (aP bs 16:Nat)) hp';have hno:¬(fh (lE bs).1 (lE bs).2.1 (lE bs).2.2.1 (lE bs).2.2.2=true/\((aP bs 0%65536:Nat):Int)=gB bs.length)->dU bs=((0,0,0,0),1):=fun h=>by
     unfold dU;rw[<- hn,if_neg (by omega),if_neg (by simp[hmg,hz]),if_neg (by simp[hcr]),if_neg (by rw[hn];exact h)]
    have hyes:(fh (lE bs).1 (lE bs).2.1 (lE bs).2.2.1 (lE bs).2.2.2=true/\((aP bs 0%65536:Nat):Int)=gB bs.length)->dU bs=(lE bs,0):=fun h=>by
     unfold dU;rw[<- hn,if_neg (by omega),if_neg (by simp[hmg,hz]),if_neg (by simp[hcr]),if_pos (by rw[hn];exact h)]
    have hsb:lE bs=(((aP bs 0/65536%65536:Nat):Int),i64.wrap (aP bs 8:Nat),(n:Int),i64.wrap (aP bs 16:Nat)):=by unfold lE;rw[hn]
    rw[hsb]at hno hyes;simp only at hno hyes;rw[<- hn]at hno hyes;rw[<- hiff]at hno hyes;refine bN.use (fT ((aP bs 0/65536%65536:Nat):Int) (i64.wrap (aP bs 8:Nat)) (dA .i64 1 ((aP bs 0%64:Nat):Int)) (i64.wrap (aP bs 16:Nat)) H') ?_;simp only[HV];by_cases hg:fh ((aP bs 0/65536%65536:Nat):Int) (i64.wrap (aP bs 8:Nat)) (dA .i64 1 ((aP bs 0%64:Nat):Int)) (i64.wrap (aP bs 16:Nat))=true
    .refine bQ (by rw[hg];rfl) ?_;refine hs.bd 3 rfl rfl ?_;have hg2:=hg;unfold fh at hg2;simp only[decide_eq_true_eq]at hg2;refine bN.use (BT (aP bs 0/65536%65536) (i64.wrap (aP bs 8:Nat)) (dA .i64 1 ((aP bs 0%64:Nat):Int)) (i64.wrap (aP bs 16:Nat)) (by omega) hg2.2.2.1 H') ?_;simp only[HV];have hf64:fq (aP bs 0/65536%65536) (dA .i64 1 ((aP bs 0%64:Nat):Int))<2^64:=by
      have:=G8 (dA .i64 1 ((aP bs 0%64:Nat):Int));unfold fq;omega
     rw[mh hf64];refine hs.B4 2 rfl (j:=0) rfl (by omega) rfl ?_;simp only[HV];by_cases hf:fq (aP bs 0/65536%65536) (dA .i64 1 ((aP bs 0%64:Nat):Int))=aP bs 0
     .refine aH (by omega) ?_;simp only[HS];refine hs.ld 3 rfl rfl ?_;simp only[HV];by_cases hv:dA .i64 1 ((aP bs 0%64:Nat):Int)=(n:Int)
      .refine aH hv ?_;refine hs.bd 3 rfl rfl ?_;have hy:=hyes ⟨hg,hf,hv⟩;rw[hv];refine nW _ hs 1 rfl rfl 0 _ rfl rfl fun H' hs=>fin _ 0 hs rfl hy
      .refine aT hv ?_;refine nW _ hs 1 rfl rfl 1 _ rfl rfl fun H' hs=>fin (0,0,0,0) 1 hs rfl (hno fun h=>hv h.2.2)
     .refine aT (by omega) ?_;refine nW _ hs 1 rfl rfl 1 _ rfl rfl fun H' hs=>fin (0,0,0,0) 1 hs rfl (hno fun h=>hf h.2.1)
    .refine cV (by rw[Bool.not_eq_true]at hg;rw[hg];rfl) ?_;refine nW _ hs 1 rfl rfl 1 _ rfl rfl fun H' hs=>fin (0,0,0,0) 1 hs rfl (hno fun h=>hg h.1)
   .refine aT (by omega) ?_;refine nW _ hs 1 rfl rfl 9 _ rfl rfl fun H' hs=>fin (0,0,0,0) 9 hs rfl ?_
    unfold dU;rw[<- hn,if_neg (by omega),if_neg (by simp[hmg,hz]),if_pos hcr]
  .refine cV (by simp[hz]) ?_;refine nW _ hs 1 rfl rfl 10 _ rfl rfl fun H' hs=>fin (0,0,0,0) 10 hs rfl ?_
   unfold dU;rw[<- hn,if_neg (by omega),if_pos (.inr (by simpa using hz))]
 .refine aT (by omega) ?_;refine nW _ hs 1 rfl rfl 10 _ rfl rfl fun H' hs=>fin (0,0,0,0) 10 hs rfl ?_
  unfold dU;rw[<- hn,if_neg (by omega),if_pos (.inl hmg)]
theorem F' (k sec s ar:Int)(H:Hp):ae prog 141 #[.agg (fQ k sec s ar)] H (RetE (if fh k sec s ar=true then .tuple #[.agg (i6 k.toNat (cc s)),I 0]else .tuple #[.agg B2,I 1]) H):=by
 apply ae.ret;apply mv.ok;unfold mv;simp only[HS];refine(Sep.start H).nw fun b1 H' hs=>?_
 refine hs.nw fun b2 H' hs=>?_
 first|refine hs.bd 1 rfl rfl ?_|refine hs.bd 2 rfl rfl ?_|refine hs.bd 3 rfl rfl ?_|refine hs.bd 4 rfl rfl ?_|refine hs.bd 5 rfl rfl ?_|refine hs.bd 6 rfl rfl ?_|refine hs.bd 7 rfl rfl ?_|refine hs.bd 8 rfl rfl ?_
 try simp only[HV]
 refine ae.use (fT k sec s ar H') ?_
 try simp only[HV]
 by_cases h:fh k sec s ar=true
 .rw[if_pos h,h];simp only[HV];have hg:=h;unfold fh at hg;simp only[decide_eq_true_eq]at hg
  first|refine hs.ld 1 rfl rfl ?_|refine hs.ld 2 rfl rfl ?_|refine hs.ld 3 rfl rfl ?_|refine hs.ld 4 rfl rfl ?_|refine hs.ld 5 rfl rfl ?_|refine hs.ld 6 rfl rfl ?_|refine hs.ld 7 rfl rfl ?_|refine hs.ld 8 rfl rfl ?_
  try simp only[HV]
  first|refine hs.ld 1 rfl rfl ?_|refine hs.ld 2 rfl rfl ?_|refine hs.ld 3 rfl rfl ?_|refine hs.ld 4 rfl rfl ?_|refine hs.ld 5 rfl rfl ?_|refine hs.ld 6 rfl rfl ?_|refine hs.ld 7 rfl rfl ?_|refine hs.ld 8 rfl rfl ?_
  try simp only[HV]
  first|refine hs.ld 1 rfl rfl ?_|refine hs.ld 2 rfl rfl ?_|refine hs.ld 3 rfl rfl ?_|refine hs.ld 4 rfl rfl ?_|refine hs.ld 5 rfl rfl ?_|refine hs.ld 6 rfl rfl ?_|refine hs.ld 7 rfl rfl ?_|refine hs.ld 8 rfl rfl ?_
  try simp only[HV]
  refine ae.use (lF k sec s H') ?_
  try simp only[HV]
  have:nP k sec s=(i6 k.toNat (cc s),0):=by unfold nP;rw[if_pos (by omega),if_neg (by omega)]
  rw[this];refine hs.dW 2 rfl rfl rfl rfl fun H' hs=>?_
  refine hs.bd 2 rfl rfl ?_;exact hs.fin 0 rfl _
 .rw[Bool.not_eq_true]at h;rw[if_neg (by rw[h];simp),h];simp only[HV];refine hs.dW 2 rfl rfl rfl rfl fun H' hs=>?_
  refine hs.bd 2 rfl rfl ?_;exact hs.fin 0 rfl _
end Sup
namespace Sup
open Go Go.Hw Go.Form W Lay Dsk
theorem wI :∀ n,ln (List.replicate n 0)=0
 |0=>rfl
 |n+1=>by
  rw[List.replicate_succ];show(0:UInt8).toNat+256*ln (List.replicate n 0)=0
  rw[wI n];rfl
theorem FH (s:Nat)(hs:0<cc s):dU (List.replicate s 0)=((0,0,0,0),10):=by
 unfold dU;rw[List.length_replicate,if_neg (by omega),if_pos];left;have:aP (List.replicate s 0) 0=0:=by
  unfold aP;rw[List.drop_zero,List.take_replicate,wI]
 rw[this];decide
def r4 (d:D)(sec s:Int):Bool:=decide (sec=d.sec/\s=d.size)
theorem Be {L:List As}{H:Hp}{p:Nat}{d:D}(hs0:Sep L H)(i:Nat)(hi:L[i]? =some (Dk p d))(k sec s ar:Int):ae prog 140 #[V p,.agg (fQ k sec s ar)] H (RetE (.bool (r4 d sec s)) H):=by
 apply ae.ret;apply qt.ok;unfold qt;refine(Sep.start H).nw fun b1 H' hs=>?_
 have hle:=hs.ow 0 rfl;refine hs.ld 1 rfl rfl ?_;simp only[HV]
 try simp only[HS]
 refine bN.use (lO (hs0.up hle) i hi) ?_;simp only[HV];by_cases h1:sec=d.sec
 .refine aL h1 (hs.ld 1 rfl rfl ?_);simp only[HV]
  try simp only[HS]
  refine bN.use (qP (hs0.up hle) i hi) ?_;simp only[HV];have e:(s==(d.size:Int))=r4 d sec s:=by
   unfold r4;by_cases h2:s=d.size
   .simp[h1,h2]
   .simp[h2]
  rw[e];exact hs.fin 0 rfl _
 .refine aK h1 ?_;have e:r4 d sec s=false:=by unfold r4;simp[h1]
  rw[e];exact hs.fin 0 rfl _
def tV (d:D)(k sec s ar:Int):Int×D:=
 if fh k sec s ar=false\/r4 d sec s=false then(1,d)
 else if d.dx 0 s.toNat≠0 then(d.dx 0 s.toNat,d.bJ 0 (gg k sec s ar))
 else((d.bJ 0 (gg k sec s ar)).iM,(d.bJ 0 (gg k sec s ar)).fK)
theorem HI {p:Nat}{d:D}(hok:Ok d)(hb:d.wr<=1000000/\d.sy<=1000000)(k sec s ar:Int)(hsec:sec<=9223372036854775807):
  Tr prog 130 #[V p,.agg (fQ k sec s ar)] [Dk p d] fun v M=>v= I (tV d k sec s ar).1/\M=[Dk p (tV d k sec s ar).2]:=fun H hs=>by
 apply nz.ok;unfold nz;refine hs.nw fun b1 H hs=>?_
 refine hs.bd 1 rfl rfl ?_;cases hg:fh k sec s ar with
 |false=>
  refine ae.use (BA k sec s ar hg H) ?_;simp only[HV];have e:tV d k sec s ar=(1,d):=by unfold tV;rw[if_pos (.inl hg)]
  rw[e];exact aT (by omega) ⟨_,⟨rfl,rfl⟩,hs.re [0] rfl⟩
 |true=>
  refine(pR k sec s ar hg hsec).use hs [] rfl rfl ?_;rintro _ _ H ⟨b,rfl,rfl⟩ hs;simp only[HV];refine aH rfl ?_;have hs:Sep [af b (.row (aD (gg k sec s ar)) 5 s.toNat),Dk p d,af b1 (Oq (fQ k sec s ar) 45)] H:=hs;refine hs.bd 2 rfl rfl ?_;refine ae.use (Be hs 1 rfl k sec s ar) ?_;simp only[HV];cases ho:r4 d sec s with
  |false=>
   have e:tV d k sec s ar=(1,d):=by unfold tV;rw[if_pos (.inr ho)]
   rw[e];exact cV rfl ⟨_,⟨rfl,rfl⟩,hs.re [1] rfl⟩
  |true=>
   refine bQ rfl ?_;have hper:0<cc s:=by
    unfold fh at hg;simp only[decide_eq_true_eq]at hg;exact hg.2.2.1
   have hl:=tI k sec s ar hper;refine(kV (p:=p) (d:=d) hok (by omega) 0 (Oo b) s.toNat s.toNat (gg k sec s ar) (by omega) (af b (.row (aD (gg k sec s ar)) 5 s.toNat)) (fun H h=>?_)).use hs [1,0] rfl rfl ?_
   .have:=Cells.row h 0 s.toNat;rw[List.drop_zero,List.take_of_length_le (by rw[bz];omega)]at this;exact this
   rintro _ _ H ⟨rfl,rfl⟩ hs;simp only[HV];by_cases he:d.dx 0 s.toNat=0
   .refine aH he ?_;have e:tV d k sec s ar=((d.bJ 0 (gg k sec s ar)).iM,(d.bJ 0 (gg k sec s ar)).fK):=by
     unfold tV;rw[if_neg (by rw[hg,ho];simp),if_neg (by rw[he];simp)]
    have hsy:(d.bJ 0 (gg k sec s ar)).sy=d.sy:=by
     have hbr:=gr d;unfold D.bJ;split
     .rfl
     .split
      .rfl
      .split
       .exact hbr.2.2.1
       .exact hbr.2.2.1
    refine(qI (p:=p) (d:=d.bJ 0 (gg k sec s ar)) (Ok.bJ hok 0 _) (by rw[hsy];omega)).use hs [0] rfl rfl ?_;rintro _ _ H ⟨rfl,rfl⟩ hs;simp only[HV];rw[e];exact⟨_,⟨rfl,rfl⟩,hs.re [0] rfl⟩
   .have e:tV d k sec s ar=(d.dx 0 s.toNat,d.bJ 0 (gg k sec s ar)):=by
     unfold tV;rw[if_neg (by rw[hg,ho];simp),if_pos he]
    rw[e];exact aT he ⟨_,⟨rfl,rfl⟩,hs.re [0] rfl⟩
def yj (d:D)(bs:List UInt8):Sb×Int:=
 if(dU bs).2≠0 then((0,0,0,0),(dU bs).2)else if r4 d (dU bs).1.2.1 (dU bs).1.2.2.1=true then((dU bs).1,0)else((0,0,0,0),1)
theorem Jj {p:Nat}{d:D}(hok:Ok d)(ho:d.rd<=1000000)(hc:d.kE 0=0)(hb:d.dG=false):
  Tr prog 79 #[V p] [Dk p d] fun v M=>v= .tuple #[.agg (HJ (yj d (d.now 0)).1),I (yj d (d.now 0)).2]/\M=[Dk p { d.bC with rd:=d.rd+1}]:=fun H hs=>by
 have hnow:=hok.now 0;have hsz:=hok.size;have hbr:=gr d;apply kD.ok;unfold kD;refine hs.nw fun b1 H hs=>?_
 refine(vh (p:=p) (d:=d) hok (by omega) 0).use hs [0] rfl rfl ?_;rintro _ _ H (⟨h,_⟩|⟨_,h,_⟩|⟨_,_,b,c,m,rfl,hcc,rfl⟩) hs
 .exact absurd hc h
 .rw[hb]at h;cases h
 .simp only[HV];refine aH rfl ?_;have hcell:Cells H (Oo b) (aD (d.now 0)):=by
   have:=Cells.row (hs.get 1 (b:=b) (o:=.row (aD (d.now 0)) 5 m) rfl) 0 d.size;rw[List.drop_zero,List.take_of_length_le (by rw[bz];omega)]at this;exact this
  refine ae.use (sA (Oo b) d.size c hcc (by omega) (d.now 0) hnow.symm H hcell) ?_;simp only[HV];have hof:∀ x y,r4 { d.bC with rd:=d.rd+1} x y=r4 d x y:=fun x y=>by
   unfold r4;show decide (x=(d.bC.sec:Int)/\y=(d.bC.size:Int))=_
   rw[hbr.2.2.2.2.1,hbr.2.2.2.1]
  unfold yj;generalize dU (d.now 0)=tv at*;obtain⟨⟨k,sec,s,ar⟩,e⟩:=tv;have hs:Sep [Dk p { d.bC with rd:=d.rd+1},af b (.row (aD (d.now 0)) 5 m),af b1 (Oq (fQ 0 0 0 0) 45)] H:=hs;refine hs.nw fun b2 H hs=>?_
  refine hs.dW 3 (y:=fQ k sec s ar) rfl rfl rfl rfl fun H hs=>?_;have hs:Sep [Dk p { d.bC with rd:=d.rd+1},af b (.row (aD (d.now 0)) 5 m),af b1 (Oq (fQ 0 0 0 0) 45),af b2 (Oq (fQ k sec s ar) 45)] H:=hs;by_cases he:e=0
  .refine aH he ?_;refine hs.bd 3 rfl rfl ?_;refine ae.use (Be hs 0 rfl k sec s ar) ?_;rw[hof];simp only[HV];cases hob:r4 d sec s with
   |false=>
    refine cV rfl ?_;refine hs.dW 2 rfl rfl rfl rfl fun H hs=>?_;refine hs.bd 2 rfl rfl ?_;refine⟨_,⟨?_,rfl⟩,hs.re [0] rfl⟩;rw[if_neg (by simpa using he),if_neg (by simp)];rfl
   |true=>
    refine bQ rfl ?_;refine hs.bd 3 rfl rfl ?_;refine hs.dW 2 rfl rfl rfl rfl fun H hs=>?_;refine hs.bd 2 rfl rfl ?_;refine⟨_,⟨?_,rfl⟩,hs.re [0] rfl⟩;rw[if_neg (by simpa using he),if_pos rfl];rfl
  .refine aT he ?_;refine hs.dW 2 rfl rfl rfl rfl fun H hs=>?_;refine hs.bd 2 rfl rfl ?_;refine⟨_,⟨?_,rfl⟩,hs.re [0] rfl⟩;rw[if_pos (by simpa using he)];rfl
end Sup
namespace Eng
open Go Go.Hw Go.Form Dsk Str Rec Srt Rng Pln
structure Log (L:List R):Prop where
 u:∀ r∈L,r.u32
 g:∀ r∈L,r.dc
 hd:∀ r,L[0]? =some r->r.s=1/\r.kd=1
 ch:∀ i a b,L[i]? =some a->L[i+1]? =some b->after a b
theorem Log.nil :Log []:=⟨fun _ h=>(by cases h),fun _ h=>(by cases h),fun _ h=>(by simp at h),fun _ _ _ h=>(by simp at h)⟩
theorem Log.snoc {L:List R}(h:Log L){r:R}(hg:r.dc)(hu:r.u32)(hm:iv L.getLast? r=true):Log (L++[r]):=by
 refine⟨fun x hx=>?_,fun x hx=>?_,fun x hx=>?_,fun i a b ha hb=>?_⟩
 .rcases List.mem_append.1 hx with h1|h1
  .exact h.u x h1
  .rw[List.mem_singleton.1 h1];exact hu
 .rcases List.mem_append.1 hx with h1|h1
  .exact h.g x h1
  .rw[List.mem_singleton.1 h1];exact hg
 .cases L with
  |nil=>
   have:r=x:=by simpa using hx
   subst this;exact of_decide_eq_true hm
  |cons y L=>exact h.hd x (by simpa using hx)
 .have hb2:=hb;rw[List.getElem?_append]at ha hb;have hlt:=(List.getElem?_eq_some_iff.1 hb2).1;rw[List.length_append,List.length_singleton]at hlt;rw[if_pos (by omega)]at ha;by_cases e:i+1<L.length
  .rw[if_pos e]at hb;exact h.ch i a b ha hb
  .rw[if_neg e]at hb;have e2:i+1-L.length=0:=by omega
   rw[e2]at hb;have:r=b:=by simpa using hb
   subst this;have hl:L.getLast? =some a:=by rw[List.getLast?_eq_getElem?,show L.length-1=i by omega];exact ha
   rw[hl]at hm;exact of_decide_eq_true hm
theorem Log.init {L:List R}{r:R}(h:Log (L++[r])):Log L/\r.dc/\r.u32/\iv L.getLast? r=true:=by
 refine⟨⟨fun x hx=>h.u x (List.mem_append_left _ hx),fun x hx=>h.g x (List.mem_append_left _ hx),fun x hx=>?_,fun i a b ha hb=>?_⟩,h.g r (by simp),h.u r (by simp),?_⟩
 .exact h.hd x (by rw[List.getElem?_append_left (List.getElem?_eq_some_iff.1 hx).1];exact hx)
 .exact h.ch i a b (by rw[List.getElem?_append_left (List.getElem?_eq_some_iff.1 ha).1];exact ha) (by rw[List.getElem?_append_left (List.getElem?_eq_some_iff.1 hb).1];exact hb)
 .cases hl:L.getLast? with
  |none=>
   rw[List.getLast?_eq_none_iff]at hl;subst hl;exact decide_eq_true (h.hd r (by simp))
  |some a=>
   have hn:L≠ []:=fun e=>by rw[e]at hl;simp at hl
   have hp:=List.length_pos_iff.2 hn;rw[List.getLast?_eq_getElem?]at hl;refine decide_eq_true (h.ch (L.length-1) a r ?_ ?_)
   .rw[List.getElem?_append_left (by omega)];exact hl
   .rw[show L.length-1+1=L.length by omega,List.getElem?_append_right (Nat.le_refl _),Nat.sub_self];rfl
theorem Log.num {L:List R}(h:Log L):∀ i a,L[i]? =some a->a.s=i+1
 |0,a,ha=>(h.hd a ha).1
 |i+1,a,ha=>by
  have hlt:=(List.getElem?_eq_some_iff.1 ha).1;have hb:L[i]? =some L[i]:=List.getElem?_eq_getElem (by omega);have:=h.num i _ hb;have h2:=(h.ch i _ a hb ha).2.2.1;omega
theorem Log.last {L:List R}(h:Log L){r:R}(hr:L.getLast? =some r):r.dc/\r.u32/\r.s=L.length:=by
 have hn:L≠ []:=fun e=>by rw[e]at hr;simp at hr
 have hp:=List.length_pos_iff.2 hn;have hm:r∈L:=List.mem_of_getLast? hr;rw[List.getLast?_eq_getElem?]at hr;have:=h.num _ _ hr;exact⟨h.g r hm,h.u r hm,by omega⟩
def yk (size:Nat)(L:List R):Nat->List UInt8:=L.foldl (fun f r=>fun j=>if j=(r.s-1)%8 then r.form size else f j) (fun _=>List.replicate size 0)
theorem tF (size:Nat)(L:List R)(r:R)(j:Nat):yk size (L++[r]) j=if j=(r.s-1)%8 then r.form size else yk size L j:=by
 unfold yk;rw[List.foldl_append];rfl
def Ring (size:Nat)(L:List R)(c:Cn):Prop:=∀ i,i<8->c ((1+i:Nat):Int)=yk size L i
theorem Ic (c:Cn)(k:Nat)(a b:List UInt8):fp (fp c k a) k b=fp c k b:=funext fun i=>by
 unfold fp;split<;>rfl
theorem LM (c:Cn)(k:Nat):fp c k (c k)=c:=funext fun i=>by
 unfold fp;split
 .rename_i h;rw[h]
 .rfl
theorem vB (c:Cn)(k:Nat)(b:List UInt8):fp c k b k=b:=if_pos rfl
theorem sY (c:Cn){k:Nat}(b:List UInt8){i:Int}(h:i≠k:=by omega):fp c k b i=c i:=if_neg h
theorem Ring.wi {size:Nat}{L:List R}{c:Cn}(h:Ring size L c)(r:R):Ring size (L++[r]) (fp c (dF 1 8 r.s) (r.form size)):=fun i hi=>by
 rw[tF];unfold dF;by_cases e:i=(r.s-1)%8
 .rw[if_pos e,e,vB]
 .rw[if_neg e,sY _ _];exact h i hi
theorem Fw {size:Nat}(hs:kM (size:Int)=true):(dU (List.replicate size 0)).2≠0:=by
 unfold Rec.dU;rw[List.length_replicate,if_pos hs,if_neg]
 .decide
 .intro h;have:aP (List.replicate size 0) 0=0:=by
   unfold aP;rw[List.drop_zero,List.take_replicate,Sup.wI]
  rw[this]at h;exact absurd h.1 (by decide)
theorem Ring.last {size:Nat}(hsec:kM (size:Int)=true):∀(n:Nat) {L:List R} {c:Cn},L.length=n->Log L->Ring size L c->jV c 1 8=L.getLast?
 |0,L,c,hl,h,hr=>by
  have e:L=[]:=List.length_eq_zero_iff.1 hl;subst e;refine(uq _).2 ?_;refine List.eq_nil_iff_forall_not_mem.2 fun x hx=>?_
  obtain⟨j,_,h2,h3⟩:=(qK c 1 8 x 8 0).1 hx;rw[hr j (by omega),uX]at h3;exact Fw hsec h3.1
 |n+1,L,c,hl,h,hr=>by
  have hn:L≠ []:=fun e=>by rw[e]at hl;simp at hl
  obtain⟨L',r,rfl⟩:∃ L' r,L=L'++[r]:=⟨L.dropLast,L.getLast hn,(List.dropLast_concat_getLast hn).symm⟩;obtain⟨h1,h2,h3,h4⟩:=h.init;have hsl:=rB (f:=1) (n:=8) (s:=r.s);have hk:dF 1 8 r.s=1+(r.s-1)%8:=rfl;have hm:=Nat.mod_lt (r.s-1) (show 8>0 by omega)
  let c':Cn:=fp c (dF 1 8 r.s) (yk size L' ((r.s-1)%8))
  have hr':Ring size L' c':=fun i hi=>by
   have:=hr i hi;rw[tF]at this;show fp c (dF 1 8 r.s) _ _=_
   by_cases e:i=(r.s-1)%8
   .subst e;rw[<- hk,vB]
   .rw[sY _ _,this,if_neg e]
  have ih:=Ring.last hsec n (by simpa using hl) h1 hr';have hsz:=Lz hsec;have hup:=I2 (c:=c') (f:=1) (n:=8) (size:=size) (by omega) (by omega) hsec h2 h3 (by rw[ih];exact h4);have e:fp c' (dF 1 8 r.s) (r.form size)=c:=by
   show fp (fp c _ _) _ _=c
   rw[Ic];have:=hr ((r.s-1)%8) hm;rw[tF,if_pos rfl,<-hk]at this;rw[<- this,LM]
  rw[e]at hup;rw[hup,List.getLast?_append];rfl
def cw (c:Cn)(aa f i:Nat):UInt64:=((dr (c ((f+i/aa:Nat):Int)))[i%aa]?).getD 0
def kF (c:Cn)(aa f n:Nat):List UInt64:=(List.range n).map (cw c aa f)
theorem KN (c:Cn)(aa f n:Nat):(kF c aa f n).length=n:=by simp[kF]
theorem Ny {d:D}{c:Cn}(h:∀ i,d.now i=c i)(x:X)(i:Nat):pw d x i=cw c (D.aa d) x.f i:=by unfold pw cw;rw[h]
theorem pc {d:D}{c:Cn}(h:∀ i,d.now i=c i)(x:X)(n:Nat):dV d x 0 n=kF c (D.aa d) x.f n:=by
 unfold dV kF;apply List.map_congr_left;intro i _;rw[Nat.zero_add,Ny h]
theorem yW {c c':Cn}{aa f n s:Nat}(hp:1<=aa)(hn:n<=s*aa)(h:∀ i:Nat,i<s->c' ((f+i:Nat):Int)=c ((f+i:Nat):Int)):kF c' aa f n=kF c aa f n:=by
 unfold kF;apply List.map_congr_left;intro i hi;have hi:=List.mem_range.1 hi;have:i/aa<s:=Nat.div_lt_of_lt_mul (by rw[Nat.mul_comm];omega);unfold cw;rw[h _ this]
def lT (l:List UInt64):Nat:=(Go.Crc.sum (form l)).toNat
theorem DE (l:List UInt64):lT l<4294967296:=(Go.Crc.sum (form l)).isLt
structure Mn where
 aA:Nat
 aO:Nat
 L:List R
 da:List UInt64
def eY (aA aa i k:Nat):X:=⟨9+i*Lay.bS aA aa,Lay.bS k aa,2^k⟩
def iN (r:R):Bool:=decide (r.dir=1)
def cE (m:Mn)(aa:Nat)(r:R):List Pz:=dz (iN r) r.kk.toNat aa m.aO
structure xl (m:Mn)(aa:Nat)(c:Cn)(r:R):Prop where
 len:m.da.length=2^r.kk.toNat
 can:∀ w∈m.da,w.toNat<18446744069414584321
 sum:r.da=lT m.da
 ws:kF c aa 9 (2^r.kk.toNat)=m.da
structure xp (m:Mn)(aa:Nat)(c:Cn)(r:R):Prop where
 ps:r.ps.toNat<=(cE m aa r).length
 ws:∀ p,(cE m aa r)[r.ps.toNat-1]? =some p->kF c aa (9+p.o*Lay.bS m.aA aa) (2^r.kk.toNat)=pT ((cE m aa r).take r.ps.toNat) m.da
 sum:r.out=lT (pT ((cE m aa r).take r.ps.toNat) m.da)
structure Holds (sec size:Nat)(m:Mn)(c:Cn):Prop where
 sup:c 0=Sup.gg m.aA sec size m.aO
 dc:Sup.fh m.aA sec size m.aO=true
 least:fB m.aA (size/8)<=m.aO
 log:Log m.L
 ring:Ring size m.L c
 kk:∀ r,m.L.getLast? =some r->r.kk<=m.aA
 da:∀ r,m.L.getLast? =some r->2<=r.kd->xl m (size/8) c r
 out:∀ r,m.L.getLast? =some r->r.kd=4->xp m (size/8) c r
def yK (size:Nat)(c:Cn):Prop:=c 0=List.replicate size 0
def EO (sec size:Nat):Option Mn->Cn->Prop
 |none,c=>yK size c
 |some m,c=>Holds sec size m c
end Eng
end Go.Proofs.YtlgnlghmbcpmhaaGreatDoor
