import Derived.Test.YtlgnlghmbcpmhaaGreatDoorProg
import Derived.Test.YtlgnlghmbcpmhaaGreatDoorPkEngineCrashes10
set_option maxRecDepth 100000
set_option linter.unusedVariables false
set_option linter.unusedSimpArgs false
set_option linter.unnecessarySimpa false
set_option linter.unusedSectionVars false
open Go.IntKind (i64)
namespace Go.Proofs.YtlgnlghmbcpmhaaGreatDoor
open Tryz (prog)
namespace W
open Go Go.Hw
theorem de :prog.follows .mixedOrders=true:=by kernel_rfl
def ak.j37 (K:VK)(R14:OA->Nat->Nat->OA->OA->Addr->OA->Nat->Nat->Bool->Int->Hp->Prop)(A15:OA)(n15 m15:Nat)(p13 p14:OA)(a18:Addr)(A16:OA)(n16 m16:Nat)(c7:Bool)(x41:Int)(a19:Addr)(H:Hp):=
 aM H (a19.add 0) fun x42=>ao (x42==8) (R14 A15 n15 m15 p13 p14 a18 A16 n16 m16 c7 (i64.wrap (x41+1)) H) (aM H (a19.add 0) fun x43=>ao (x43==9) (R14 A15 n15 m15 p13 p14 a18 A16 n16 m16 c7 (i64.wrap (x41+1)) H) (aJ H a19 5 fun l29=>Hz 17 #[.pointer p13,.pointer p14,.agg l29.toArray] H fun v51 H26=>Ml v51 fun x44 A17 n17 m17=>(NN p13 fun a20=>fS 24 #[.pointer (some (a20.add 7))] H26 fun c8 H27=>ao c8 (ao (x44 !=8) (K (.bool false) H27) (ao ((n17:Int) !=0) (K (.bool false) H27) (qg 18 #[.pointer p14] H27 fun y5 H28=>qf prog .neq 30 (.agg y5) (.agg #[I 0,I 0,I 0,I 0,I 0,I 0]) fun c9=>ao c9 (K (.bool false) H28) (aJ H28 a18 12 fun l33=>aJ H28 a19 5 fun l34=>jF 29 #[.agg l33.toArray,.agg l34.toArray] H28 fun A18 n18 m18 H29=>R14 A15 n15 m15 p13 p14 a18 A18 n18 m18 false (i64.wrap (x41+1)) H29)))) (aJ H27 a18 12 fun l35=>aJ H27 a19 5 fun l36=>Hz 19 #[.agg l35.toArray,.agg l36.toArray] H27 fun v57 H30=>EU v57 fun y6 x45 A19 n19 m19=>(Nw H30 (Oq #[I 0,I 0,I 0,I 0,I 0,I 0,I 0,I 0,I 0,I 0,I 0,.slice none 0 0] 33) fun b5 H31=>bR H31 (O b5) y6 12 fun H32=>ao (x44 !=x45) (K (.bool false) H32) (fS 20 #[.slice A17 n17 m17,.slice A19 n19 m19] H32 fun c10 H33=>ao (!c10) (K (.bool false) H33) (aJ H33 (O b5) 12 fun l41=>bR H33 a18 l41.toArray 12 fun H34=>aJ H34 a18 12 fun l42=>fU l42.toArray.toList fun x46 x47 x48 x49 x50 x51 x52 x53 x54 x55 x56 A20 n20 m20=>(Nw H34 (.row [I x46,I x47,I x48,I x49,I x50,I x51,I x52,I x53,I x54,I x55,I x56,.slice A20 n20 m20] 33 12) fun b6 H35=>(qg 18 #[.pointer p14] H35 fun y7 H36=>aJ H36 (a18.add 0) 6 fun l55=>qf prog .neq 30 (.agg y7) (.agg l55.toArray) fun c11=>ao c11 (K (.bool false) H36) (R14 A15 n15 m15 p13 p14 a18 (Oo b6) 1 1 c7 (i64.wrap (x41+1)) H36))/\(aJ H35 (a18.add 0) 6 fun l56=>qg 18 #[.pointer p14] H35 fun y8 H37=>qf prog .neq 30 (.agg y8) (.agg l56.toArray) fun c12=>ao c12 (K (.bool false) H37) (R14 A15 n15 m15 p13 p14 a18 (Oo b6) 1 1 c7 (i64.wrap (x41+1)) H37))))))))))
def ak.j34 (K:VK)(R14:OA->Nat->Nat->OA->OA->Addr->OA->Nat->Nat->Bool->Int->Hp->Prop)(A12:OA)(n12 m12:Nat)(p11 p12:OA)(a15:Addr)(A13:OA)(n13 m13:Nat)(x28:Int)(a16:Addr)(x29:Int)(H:Hp):=
 cX x29 n13 (NN A13 fun a17=>aJ H (a17.add (x29.toNat*12)) 12 fun l15=>bR H a15 l15.toArray 12 fun H24=>aJ H24 a15 12 fun l16=>fU l16.toArray.toList fun x30 x31 x32 x33 x34 x35 x36 x37 x38 x39 x40 A14 n14 m14=>(Nw H24 (.row [I x30,I x31,I x32,I x33,I x34,I x35,I x36,I x37,I x38,I x39,I x40,.slice A14 n14 m14] 33 12) fun b4 H25=>ak.j37 K R14 A12 n12 m12 p11 p12 a15 (Oo b4) 1 1 true x28 a16 H25))
def ak.j27 (K:VK)(R14:OA->Nat->Nat->OA->OA->Addr->OA->Nat->Nat->Bool->Int->Hp->Prop)(A10:OA)(n10 m10:Nat)(p9 p10:OA)(a11:Addr)(A11:OA)(n11 m11:Nat)(x24:Int)(a12:Addr)(x25:Int)(H:Hp):=
 NN p9 fun a13=>fS 24 #[.pointer (some (a13.add 7))] H fun c5 H19=>ao c5 (ao (x25 !=8) (K (.bool false) H19) (qg 18 #[.pointer p10] H19 fun y2 H20=>qf prog .neq 30 (.agg y2) (.agg #[I 0,I 0,I 0,I 0,I 0,I 0]) fun c6=>ao c6 (K (.bool false) H20) (R14 A10 n10 m10 p9 p10 a11 A11 n11 m11 false (i64.wrap (x24+1)) H20))) (qg 18 #[.pointer p10] H19 fun y3 H21=>qg 21 #[.pointer p10] H21 fun y4 H22=>cF 28 #[.slice A11 n11 m11,.agg y3,.agg y4] H22 fun x26 H23=>ao (decide (x26<0)) (K (.bool false) H23) (cX x26 n11 (NN A11 fun a14=>aM H23 (((a14.add (x26.toNat*12)).add 0).add 0) fun x27=>ao (!((x25==0)==(decide (x27>0)))) (K (.bool false) H23) (ao (x25 !=0) (ao (x25 !=11) (K (.bool false) H23) (ak.j34 K R14 A10 n10 m10 p9 p10 a11 A11 n11 m11 x24 a12 x26 H23)) (ak.j34 K R14 A10 n10 m10 p9 p10 a11 A11 n11 m11 x24 a12 x26 H23)))))
def ak.j25 (K:VK)(R14:OA->Nat->Nat->OA->OA->Addr->OA->Nat->Nat->Bool->Int->Hp->Prop)(A8:OA)(n8 m8:Nat)(p7 p8:OA)(a9:Addr)(A9:OA)(n9 m9:Nat)(c4:Bool)(x20:Int)(a10:Addr)(H:Hp):=
 ao (!c4) (cF 27 #[.pointer p8] H fun x22 H17=>ak.j27 K R14 A8 n8 m8 p7 p8 a9 A9 n9 m9 x20 a10 x22 H17) (aM H (a10.add 0) fun x21=>ao (x21==8) (cF 27 #[.pointer p8] H fun x23 H18=>ak.j27 K R14 A8 n8 m8 p7 p8 a9 A9 n9 m9 x20 a10 x23 H18) (ak.j37 K R14 A8 n8 m8 p7 p8 a9 A9 n9 m9 c4 x20 a10 H))
def ak.j21 (K:VK)(R14:OA->Nat->Nat->OA->OA->Addr->OA->Nat->Nat->Bool->Int->Hp->Prop)(A5:OA)(n5 m5:Nat)(p5:OA)(a7:Addr)(A6:OA)(n6 m6:Nat)(x18:Int)(a8:Addr)(H:Hp):=
 jy H (a8.add 4) fun A7 n7 m7=>cF 26 #[.pointer p5,.slice A7 n7 m7] H fun x19 H15=>ao (x19 !=0) (K (.bool false) H15) (qN 15 #[.pointer p5] H15 fun p6 H16=>ak.j25 K R14 A5 n5 m5 p5 p6 a7 A6 n6 m6 false x18 a8 H16)
def ak.l14 (K:VK):Nat->OA->Nat->Nat->OA->OA->Addr->OA->Nat->Nat->Bool->Int->Hp->Prop
 |0,_,_,_,_,_,_,_,_,_,_,_,_=>False
 |k+1,A3,n3,m3,p3,p4,a1,A4,n4,m4,c2,x14,H=>
  let R14:=ak.l14 K k
  ao (decide (x14<(n3:Int))) (cX x14 n3 (NN A3 fun a2=>aJ H (a2.add (x14.toNat*5)) 5 fun l14=>Nw H (Oq #[I 0,I 0,I 0,.slice none 0 0,.slice none 0 0] 37) fun b3 H9=>bR H9 (O b3) l14.toArray 5 fun H10=>aM H10 ((O b3).add 0) fun x15=>ao (x15==10) (NN p3 fun a3=>aM H10 ((O b3).add 1) fun x16=>Hz 23 #[.pointer (some (a3.add 7)),I x16] H10 fun v20 H11=>R14 A3 n3 m3 p3 p4 a1 A4 n4 m4 c2 (i64.wrap (x14+1)) H11) (aM H10 ((O b3).add 0) fun x17=>ao (x17==9) (NN p3 fun a5=>Hz 25 #[.pointer (some (a5.add 7))] H10 fun v23 H13=>ak.j21 K R14 A3 n3 m3 p3 a1 A4 n4 m4 x14 (O b3) H13) (NN p3 fun a4=>fS 24 #[.pointer (some (a4.add 7))] H10 fun c3 H12=>ao c3 (NN p3 fun a6=>Hz 25 #[.pointer (some (a6.add 7))] H12 fun v24 H14=>ak.j21 K R14 A3 n3 m3 p3 a1 A4 n4 m4 x14 (O b3) H14) (ak.j25 K R14 A3 n3 m3 p3 p4 a1 A4 n4 m4 c2 x14 (O b3) H12))))) (K (.bool true) H)
def ak (x1:Int)(A1:OA)(n1 m1:Nat)(H:Hp)(K:VK):Prop:=
 fS 12 #[] H fun c1 H1=>ao (!c1) (K (.bool false) H1) (cF 13 #[.slice A1 n1 m1] H1 fun x2 H2=>ao (x2 !=0) (K (.bool true) H2) (((48:Int)≠0/\i64=i64/\qN 14 #[I (i64.wrap (13+(Int.tmod (i64.wrap x1) 48))),I 32] H2 fun p1 H3=>qN 15 #[.pointer p1] H3 fun p2 H4=>ao p1.isNone (K (.bool false) H4) (ao p2.isNone (K (.bool false) H4) (qg 16 #[I (i64.wrap (13+(Int.tmod (i64.wrap x1) 48)))] H4 fun y1 H5=>Nw H5 (Oq #[I 0,I 0,I 0,I 0,I 0,I 0,I 0,I 0,I 0,I 0,I 0,.slice none 0 0] 33) fun b1 H6=>bR H6 (O b1) y1 12 fun H7=>aJ H7 (O b1) 12 fun l1=>fU l1.toArray.toList fun x3 x4 x5 x6 x7 x8 x9 x10 x11 x12 x13 A2 n2 m2=>(Nw H7 (.row [I x3,I x4,I x5,I x6,I x7,I x8,I x9,I x10,I x11,I x12,I x13,.slice A2 n2 m2] 33 12) fun b2 H8=>(∃ k,ak.l14 K k A1 n1 m1 p1 p2 (O b1) (Oo b2) 1 1 true 0 H8)))))))
def ak.l14.L (K:VK)(k:Nat):dm:=fun E D H=>
 DG (E.get? 1) fun w1=>aF w1 fun A3 n3 m3=>eP E 6 fun p3=>eP E 7 fun p4=>eN E 8 fun a1=>DG (E.get? 9) fun w9=>aF w9 fun A4 n4 m4=>DG (E.get? 10) fun w10=>DB w10 fun c2=>eI E 11 .i64 fun x14=>az D (ak.l14 K k A3 n3 m3 p3 p4 a1 A4 n4 m4 c2 x14 H)
def ak.Λ14 (K:VK)(R14:OA→Nat→Nat→OA→OA→Addr→OA→Nat→Nat→Bool→Int→Hp→Prop):aN:=⟨fun i=>match Nat.beq i 37 with|true=>some (fun E D H=>DG (E.get? 1) fun w1=>aF w1 fun A15 n15 m15=>eP E 6 fun p13=>eP E 7 fun p14=>eN E 8 fun a18=>DG (E.get? 9) fun w9=>aF w9 fun A16 n16 m16=>DG (E.get? 10) fun w10=>DB w10 fun c7=>eI E 11 .i64 fun x41=>eN E 12 fun a19=>az D (ak.j37 K R14 A15 n15 m15 p13 p14 a18 A16 n16 m16 c7 x41 a19 H))|false=>match Nat.beq i 34 with|true=>some (fun E D H=>DG (E.get? 1) fun w1=>aF w1 fun A12 n12 m12=>eP E 6 fun p11=>eP E 7 fun p12=>eN E 8 fun a15=>DG (E.get? 9) fun w9=>aF w9 fun A13 n13 m13=>eI E 11 .i64 fun x28=>eN E 12 fun a16=>eI E 14 .i64 fun x29=>az D (ak.j34 K R14 A12 n12 m12 p11 p12 a15 A13 n13 m13 x28 a16 x29 H))|false=>match Nat.beq i 27 with|true=>some (fun E D H=>DG (E.get? 1) fun w1=>aF w1 fun A10 n10 m10=>eP E 6 fun p9=>eP E 7 fun p10=>eN E 8 fun a11=>DG (E.get? 9) fun w9=>aF w9 fun A11 n11 m11=>eI E 11 .i64 fun x24=>eN E 12 fun a12=>eI E 13 .i64 fun x25=>az D (ak.j27 K R14 A10 n10 m10 p9 p10 a11 A11 n11 m11 x24 a12 x25 H))|false=>match Nat.beq i 25 with|true=>some (fun E D H=>DG (E.get? 1) fun w1=>aF w1 fun A8 n8 m8=>eP E 6 fun p7=>eP E 7 fun p8=>eN E 8 fun a9=>DG (E.get? 9) fun w9=>aF w9 fun A9 n9 m9=>DG (E.get? 10) fun w10=>DB w10 fun c4=>eI E 11 .i64 fun x20=>eN E 12 fun a10=>az D (ak.j25 K R14 A8 n8 m8 p7 p8 a9 A9 n9 m9 c4 x20 a10 H))|false=>match Nat.beq i 21 with|true=>some (fun E D H=>DG (E.get? 1) fun w1=>aF w1 fun A5 n5 m5=>eP E 6 fun p5=>eN E 8 fun a7=>DG (E.get? 9) fun w9=>aF w9 fun A6 n6 m6=>eI E 11 .i64 fun x18=>eN E 12 fun a8=>az D (ak.j21 K R14 A5 n5 m5 p5 a7 A6 n6 m6 x18 a8 H))|false=>none,fun i=>none,(fun i=>match Nat.beq i 49 with|true=>some ([],[0,1,0,4,15],0)|false=>match Nat.beq i 18 with|true=>some ([],[0,1,2,3,4],5)|false=>none)⟩
def ak.Λ (K:VK):aN:=⟨fun i=>none,fun i=>match Nat.beq i 14 with|true=>some (fun E D H=>∃ k,ak.l14.L K k E D H)|false=>none,(fun i=>match Nat.beq i 49 with|true=>some ([],[0,1,0,4,15],0)|false=>match Nat.beq i 18 with|true=>some ([],[0,1,2,3,4],5)|false=>none)⟩
theorem ak.ok x1 A1 n1 m1 H K (h:ak x1 A1 n1 m1 H K):ae prog 4 #[.int .u8 x1,.slice A1 n1 m1] H K:=
 dX (Λ:=(ak.Λ K)) de Tryz.func4 rfl rfl h (oC (fun E D H h=>by
   refine Safe.c0 (ak.l14.L K) (fun E D H h=>?_) (fun k E D H h=>?_) E D H h
   .obtain⟨w1,e1,g1⟩:=DG.out h;obtain⟨A3,n3,m3,rfl,g2⟩:=aF.out g1;obtain⟨w6,e6,g3⟩:=DG.out g2;obtain⟨p3,rfl,g4⟩:=DP.out g3;obtain⟨w7,e7,g5⟩:=DG.out g4;obtain⟨p4,rfl,g6⟩:=DP.out g5;obtain⟨w8,e8,g7⟩:=DG.out g6;obtain⟨pw8,rfl,g8⟩:=DP.out g7;obtain⟨a1,rfl,g9⟩:=NN.out g8;obtain⟨w9,e9,g10⟩:=DG.out g9;obtain⟨A4,n4,m4,rfl,g11⟩:=aF.out g10;obtain⟨w10,e10,g12⟩:=DG.out g11;obtain⟨c2,rfl,g13⟩:=DB.out g12;obtain⟨w11,e11,g14⟩:=DG.out g13;obtain⟨x14,rfl,g15⟩:=DI.out g14;obtain⟨rfl,h'⟩:=az.out g15;exact h'
   .obtain⟨w1,e1,g1⟩:=DG.out h;obtain⟨A3,n3,m3,rfl,g2⟩:=aF.out g1;obtain⟨p3,e6,g4⟩:=GP g2;obtain⟨p4,e7,g6⟩:=GP g4;obtain⟨a1,e8,g9⟩:=GN g6;obtain⟨w9,e9,g10⟩:=DG.out g9;obtain⟨A4,n4,m4,rfl,g11⟩:=aF.out g10;obtain⟨w10,e10,g12⟩:=DG.out g11;obtain⟨c2,rfl,g13⟩:=DB.out g12;obtain⟨x14,e11,g15⟩:=GI g13;obtain⟨rfl,h'⟩:=az.out g15;exact cY (Λ:=(ak.Λ14 K (ak.l14 K k))) de [] (ag.cons e1 (ag.cons e6 (ag.cons e7 (ag.cons e8 (ag.cons e9 (ag.cons e10 (ag.cons e11 (ag.nil _)))))))) h' (oC (fun E D H h=>by
      obtain⟨w1,e1,g1⟩:=DG.out h;obtain⟨A5,n5,m5,rfl,g2⟩:=aF.out g1;obtain⟨p5,e6,g4⟩:=GP g2;obtain⟨a7,e8,g7⟩:=GN g4;obtain⟨w9,e9,g8⟩:=DG.out g7;obtain⟨A6,n6,m6,rfl,g9⟩:=aF.out g8;obtain⟨x18,e11,g11⟩:=GI g9;obtain⟨a8,e12,g14⟩:=GN g11;obtain⟨rfl,h'⟩:=az.out g14;exact cY (Λ:=(ak.Λ14 K (ak.l14 K k))) de [] (ag.cons e1 (ag.cons e6 (ag.cons e8 (ag.cons e9 (ag.cons e11 (ag.cons e12 (ag.nil _))))))) h' oN) (oC (fun E D H h=>by
      obtain⟨w1,e1,g1⟩:=DG.out h;obtain⟨A8,n8,m8,rfl,g2⟩:=aF.out g1;obtain⟨p7,e6,g4⟩:=GP g2;obtain⟨p8,e7,g6⟩:=GP g4;obtain⟨a9,e8,g9⟩:=GN g6;obtain⟨w9,e9,g10⟩:=DG.out g9;obtain⟨A9,n9,m9,rfl,g11⟩:=aF.out g10;obtain⟨w10,e10,g12⟩:=DG.out g11;obtain⟨c4,rfl,g13⟩:=DB.out g12;obtain⟨x20,e11,g15⟩:=GI g13;obtain⟨a10,e12,g18⟩:=GN g15;obtain⟨rfl,h'⟩:=az.out g18;exact cY (Λ:=(ak.Λ14 K (ak.l14 K k))) de [] (ag.cons e1 (ag.cons e6 (ag.cons e7 (ag.cons e8 (ag.cons e9 (ag.cons e10 (ag.cons e11 (ag.cons e12 (ag.nil _))))))))) h' (oC (fun E D H h=>by
        obtain⟨w1,e1,g1⟩:=DG.out h;obtain⟨A10,n10,m10,rfl,g2⟩:=aF.out g1;obtain⟨p9,e6,g4⟩:=GP g2;obtain⟨p10,e7,g6⟩:=GP g4;obtain⟨a11,e8,g9⟩:=GN g6;obtain⟨w9,e9,g10⟩:=DG.out g9;obtain⟨A11,n11,m11,rfl,g11⟩:=aF.out g10;obtain⟨x24,e11,g13⟩:=GI g11;obtain⟨a12,e12,g16⟩:=GN g13;obtain⟨x25,e13,g18⟩:=GI g16;obtain⟨rfl,h'⟩:=az.out g18;exact cY (Λ:=(ak.Λ14 K (ak.l14 K k))) de [] (ag.cons e1 (ag.cons e6 (ag.cons e7 (ag.cons e8 (ag.cons e9 (ag.cons e11 (ag.cons e12 (ag.cons e13 (ag.nil _))))))))) h' (oC (fun E D H h=>by
          obtain⟨w1,e1,g1⟩:=DG.out h;obtain⟨A12,n12,m12,rfl,g2⟩:=aF.out g1;obtain⟨p11,e6,g4⟩:=GP g2;obtain⟨p12,e7,g6⟩:=GP g4;obtain⟨a15,e8,g9⟩:=GN g6;obtain⟨w9,e9,g10⟩:=DG.out g9;obtain⟨A13,n13,m13,rfl,g11⟩:=aF.out g10;obtain⟨x28,e11,g13⟩:=GI g11;obtain⟨a16,e12,g16⟩:=GN g13;obtain⟨x29,e14,g18⟩:=GI g16;obtain⟨rfl,h'⟩:=az.out g18;exact cY (Λ:=(ak.Λ14 K (ak.l14 K k))) de [] (ag.cons e1 (ag.cons e6 (ag.cons e7 (ag.cons e8 (ag.cons e9 (ag.cons e11 (ag.cons e12 (ag.cons e14 (ag.nil _))))))))) h' oN) oN)) (oC (fun E D H h=>by
        obtain⟨w1,e1,g1⟩:=DG.out h;obtain⟨A15,n15,m15,rfl,g2⟩:=aF.out g1;obtain⟨p13,e6,g4⟩:=GP g2;obtain⟨p14,e7,g6⟩:=GP g4;obtain⟨a18,e8,g9⟩:=GN g6;obtain⟨w9,e9,g10⟩:=DG.out g9;obtain⟨A16,n16,m16,rfl,g11⟩:=aF.out g10;obtain⟨w10,e10,g12⟩:=DG.out g11;obtain⟨c7,rfl,g13⟩:=DB.out g12;obtain⟨x41,e11,g15⟩:=GI g13;obtain⟨a19,e12,g18⟩:=GN g15;obtain⟨rfl,h'⟩:=az.out g18;exact cY (Λ:=(ak.Λ14 K (ak.l14 K k))) de [] (ag.cons e1 (ag.cons e6 (ag.cons e7 (ag.cons e8 (ag.cons e9 (ag.cons e10 (ag.cons e11 (ag.cons e12 (ag.nil _))))))))) h' oN) oN))) oN))) oN)
def iS (H:Hp)(K:VK):Prop:=
 qN 14 #[I 30,I 32] H fun p1 H1=>qN 15 #[.pointer p1] H1 fun p2 H2=>ao p2.isNone (K (.bool false) H2) (cF 69 #[.pointer p2,I 2,I 12] H2 fun x1 H3=>ao (x1 !=0) (K (.bool false) H3) (Nw H3 (.row [U 1,U 0,U 0,U 0] 108 4) fun b1 H4=>Hz 70 #[.pointer p2,.slice (Oo b1) 4 4] H4 fun v4 H5=>ua v4 fun x2 x3=>(cF 71 #[.pointer p2,I 0] H5 fun x4 H6=>Hz 62 #[.pointer p2] H6 fun v8 H7=>II v8 fun c1 x5=>(Hz 72 #[.pointer p2] H7 fun v11 H8=>kB v11 fun A1 n1 m1 x6=>(ao (x3==0) (ao (x4==0) (ao c1 (ao (x5==0) (ao (x6==0) (Nw H8 (.row [U 1,U 1,U 1,U 1] 108 4) fun b2 H9=>fS 20 #[.slice A1 n1 m1,.slice (Oo b2) 4 4] H9 fun c2 H10=>K (.bool c2) H10) (K (.bool false) H8)) (K (.bool false) H8)) (K (.bool false) H8)) (K (.bool false) H8)) (K (.bool false) H8))))))
theorem iS.ok H K (h:iS H K):ae prog 12 #[] H K:=
 cg de Tryz.func12 rfl rfl h
def bZ.l4 (K:VK):Nat->OA->Nat->Nat->Int->Hp->Prop
 |0,_,_,_,_,_=>False
 |k+1,A2,n2,m2,x1,H=>
  let R4:=bZ.l4 K k
  ao (decide (x1<(n2:Int))) (cX x1 n2 (NN A2 fun a1=>jy H ((a1.add (x1.toNat*5)).add 3) fun A3 n3 m3=>ao (decide ((n3:Int)>32)) (K (I 2) H) (cX x1 n2 (NN A2 fun a2=>jy H ((a2.add (x1.toNat*5)).add 4) fun A4 n4 m4=>ao (decide ((n4:Int)>40)) (K (I 2) H) (R4 A2 n2 m2 (i64.wrap (x1+1)) H))))) (K (I 0) H)
def bZ (A1:OA)(n1 m1:Nat)(H:Hp)(K:VK):Prop:=
 ao (decide ((n1:Int)>40)) (K (I 1) H) ((∃ k,bZ.l4 K k A1 n1 m1 0 H))
def bZ.l4.L (K:VK)(k:Nat):dm:=fun E D H=>
 DG (E.get? 0) fun w0=>aF w0 fun A2 n2 m2=>eI E 3 .i64 fun x1=>az D (bZ.l4 K k A2 n2 m2 x1 H)
def bZ.Λ4 (_:VK)(_R4:OA->Nat->Nat->Int->Hp->Prop):aN:=aN.none (fun _=>none)
def bZ.Λ (K:VK):aN:=⟨fun i=>none,fun i=>match Nat.beq i 4 with|true=>some (fun E D H=>∃ k,bZ.l4.L K k E D H)|false=>none,(fun _=>none)⟩
theorem bZ.ok A1 n1 m1 H K (h:bZ A1 n1 m1 H K):ae prog 13 #[.slice A1 n1 m1] H K:=
 dX (Λ:=(bZ.Λ K)) de Tryz.func13 rfl rfl h (oC (fun E D H h=>by
   refine Safe.c0 (bZ.l4.L K) (fun E D H h=>?_) (fun k E D H h=>?_) E D H h
   .obtain⟨w0,e0,g1⟩:=DG.out h;obtain⟨A2,n2,m2,rfl,g2⟩:=aF.out g1;obtain⟨w3,e3,g3⟩:=DG.out g2;obtain⟨x1,rfl,g4⟩:=DI.out g3;obtain⟨rfl,h'⟩:=az.out g4;exact h'
   .obtain⟨w0,e0,g1⟩:=DG.out h;obtain⟨A2,n2,m2,rfl,g2⟩:=aF.out g1;obtain⟨x1,e3,g4⟩:=GI g2;obtain⟨rfl,h'⟩:=az.out g4;exact cY (Λ:=(bZ.Λ4 K (bZ.l4 K k))) de [] (ag.cons e0 (ag.cons e3 (ag.nil _))) h' oN) oN)
def jo (x1:Int)(H:Hp)(K:VK):Prop:=
 Nw H (Oq #[I 0,I 0,I 0,I 0,I 0,I 0,I 0,I 0,I 0,I 0,I 0,.slice none 0 0] 33) fun b1 H1=>bR H1 (O b1) #[I 0,I 0,I 0,I 0,I 0,I 0,I 0,I 0,I x1,I 32,I 0,.slice none 0 0] 12 fun H2=>aJ H2 (O b1) 12 fun l1=>K (.agg l1.toArray) H2
theorem jo.ok x1 H K (h:jo x1 H K):ae prog 16 #[I x1] H K:=
 cg de Tryz.func16 rfl rfl h
def bP.q1 (x4:Int)(p2:OA)(H1:Hp)(K:VK)(p1:OA)(b1:Nat):=
 ao (x4==8) (cF 27 #[.pointer p2] H1 fun x24 H15=>K (.tuple #[I x24,.slice none 0 0]) H15) (ao (x4==9) (NN p1 fun a1=>Hz 25 #[.pointer (some (a1.add 7))] H1 fun v49 H23=>jy H23 ((O b1).add 4) fun A5 n5 m5=>cF 26 #[.pointer p1,.slice A5 n5 m5] H23 fun x32 H31=>K (.tuple #[I x32,.slice none 0 0]) H31) (ao (x4==10) (NN p1 fun a9=>aM H1 ((O b1).add 1) fun x40=>Hz 23 #[.pointer (some (a9.add 7)),I x40] H1 fun v81 H39=>K (.tuple #[I 0,.slice none 0 0]) H39) (ao (x4==11) (Hz 73 #[.pointer p2] H1 fun v89 H47=>kB v89 fun A13 n13 m13 x48=>(K (.tuple #[I x48,.slice A13 n13 m13]) H47)) (ao (x4==12) (Hz 72 #[.pointer p2] H1 fun v113 H55=>kB v113 fun A21 n21 m21 x56=>(K (.tuple #[I x56,.slice A21 n21 m21]) H55)) (K (.tuple #[I 0,.slice none 0 0]) H1)))))
def bP.q2.q1 (p2:OA)(H1:Hp)(K:VK):Prop:=
 Hz 62 #[.pointer p2] H1 fun v17 H7=>II v17 fun c1 x16=>(K (.tuple #[I x16,.slice none 0 0]) H7)
def bP.q2 (x4:Int)(H1:Hp)(b1:Nat)(p2:OA)(K:VK)(p1:OA):=
 ao (x4==3) (aM H1 ((O b1).add 1) fun x12=>cF 71 #[.pointer p2,I x12] H1 fun x14 H5=>K (.tuple #[I x14,.slice none 0 0]) H5) (ao (x4==4) (ao (x4==4) (bP.q2.q1 p2 H1 K) (bP.q1 x4 p2 H1 K p1 b1)) (ao (x4==5) (ao (x4==5) (bP.q2.q1 p2 H1 K) (bP.q1 x4 p2 H1 K p1 b1)) (ao (x4==6) (ao (x4==6) (bP.q2.q1 p2 H1 K) (bP.q1 x4 p2 H1 K p1 b1)) (ao (x4==7) (bP.q2.q1 p2 H1 K) (bP.q1 x4 p2 H1 K p1 b1)))))
def bP.q3 (H1:Hp)(b1:Nat)(p2:OA)(K:VK):Prop:=
 jy H1 ((O b1).add 3) fun A3 n3 m3=>Hz 70 #[.pointer p2,.slice A3 n3 m3] H1 fun v7 H3=>ua v7 fun x8 x9=>(K (.tuple #[I x9,.slice none 0 0]) H3)
def bP (p1 p2:OA)(x1 x2 x3:Int)(A1:OA)(n1 m1:Nat)(A2:OA)(n2 m2:Nat)(H:Hp)(K:VK):Prop:=
 Nw H (Oq #[I x1,I x2,I x3,.slice A1 n1 m1,.slice A2 n2 m2] 37) fun b1 H1=>aM H1 ((O b1).add 0) fun x4=>ao (x4==0) (aM H1 ((O b1).add 1) fun x5=>aM H1 ((O b1).add 2) fun x6=>cF 69 #[.pointer p2,I x5,I x6] H1 fun x7 H2=>K (.tuple #[I x7,.slice none 0 0]) H2) (ao (x4==1) (ao (x4==1) (bP.q3 H1 b1 p2 K) (bP.q2 x4 H1 b1 p2 K p1)) (ao (x4==2) (bP.q3 H1 b1 p2 K) (bP.q2 x4 H1 b1 p2 K p1)))
theorem bP.ok p1 p2 x1 x2 x3 A1 n1 m1 A2 n2 m2 H K (h:bP p1 p2 x1 x2 x3 A1 n1 m1 A2 n2 m2 H K):ae prog 17 #[.pointer p1,.pointer p2,.agg #[I x1,I x2,I x3,.slice A1 n1 m1,.slice A2 n2 m2]] H K:=
 mY (fun i=>match Nat.beq i 22 with|true=>some ([],[0,1,2,3,4],5)|false=>none) de Tryz.func17 rfl rfl h
def aQ.q1.q1 (H3:Hp)(b3:Nat)(l76:List Value)(K:VK)(A5:OA)(n5 m5:Nat):=
 bR H3 (O b3) l76.toArray 12 fun H64=>aJ H64 (O b3) 12 fun l169=>K (.tuple #[.agg l169.toArray,I 0,.slice A5 n5 m5]) H64
def aQ.q1 (x4:Int)(H3:Hp)(b1 b3:Nat)(K:VK):Prop:=
 ao (x4==11) (aM H3 (((O b1).add 0).add 0) fun x24=>ao (decide (x24<2)) (aJ H3 (O b1) 12 fun l68=>bR H3 (O b3) l68.toArray 12 fun H56=>aJ H56 (O b3) 12 fun l161=>K (.tuple #[.agg l161.toArray,I 11,.slice none 0 0]) H56) ((aJ H3 (O b1) 12 fun l76=>(jy H3 ((O b1).add 11) fun A5 n5 m5=>aQ.q1.q1 H3 b3 l76 K A5 n5 m5)/\(bR H3 (O b3) l76.toArray 12 fun H65=>jy H65 ((O b1).add 11) fun A6 n6 m6=>aJ H65 (O b3) 12 fun l170=>K (.tuple #[.agg l170.toArray,I 0,.slice A6 n6 m6]) H65))/\(jy H3 ((O b1).add 11) fun A7 n7 m7=>aJ H3 (O b1) 12 fun l77=>aQ.q1.q1 H3 b3 l77 K A7 n7 m7))) (ao (x4==12) (aM H3 (((O b1).add 0).add 0) fun x32=>ao (x32 !=4) (aJ H3 (O b1) 12 fun l92=>bR H3 (O b3) l92.toArray 12 fun H88=>aJ H88 (O b3) 12 fun l193=>K (.tuple #[.agg l193.toArray,I 12,.slice none 0 0]) H88) ((aJ H3 (O b1) 12 fun l100=>aJ H3 (O b1) 12 fun l101=>jF 56 #[.agg l101.toArray] H3 fun A29 n29 m29 H96=>aQ.q1.q1 H96 b3 l100 K A29 n29 m29)/\(aJ H3 (O b1) 12 fun l102=>(aJ H3 (O b1) 12 fun l103=>jF 56 #[.agg l102.toArray] H3 fun A30 n30 m30 H98=>aQ.q1.q1 H98 b3 l103 K A30 n30 m30)/\(jF 56 #[.agg l102.toArray] H3 fun A31 n31 m31 H100=>aJ H100 (O b1) 12 fun l104=>aQ.q1.q1 H100 b3 l104 K A31 n31 m31)))) (aJ H3 (O b1) 12 fun l140=>bR H3 (O b3) l140.toArray 12 fun H144=>aJ H144 (O b3) 12 fun l225=>K (.tuple #[.agg l225.toArray,I 0,.slice none 0 0]) H144))
def aQ.q2 (l3:List Value)(H4:Hp)(y2:Array Value)(b3:Nat)(K:VK):Prop:=
 NJ l3 fun x7=>(Nw H4 (Oq #[I 0,I 0,I 0,I 0,I 0,I 0,I 0,I 0,I 0,I 0,I 0,.slice none 0 0] 33) fun b4 H5=>bR H5 (O b4) y2 12 fun H6=>aJ H6 (O b4) 12 fun l5=>bR H6 (O b3) l5.toArray 12 fun H7=>aJ H7 (O b3) 12 fun l148=>K (.tuple #[.agg l148.toArray,I x7,.slice none 0 0]) H7)
def aQ.q3.q1 (H3:Hp)(b1 b3:Nat)(K:VK):Prop:=
 aJ H3 (O b1) 12 fun l28=>Hz 76 #[.agg l28.toArray] H3 fun v25 H24=>eO v25 fun l36=>ay l36 fun v26 l37=>DA v26 fun y7=>aQ.q2 l37 H24 y7 b3 K
def aQ.q3 (x4:Int)(H3:Hp)(b1 b2 b3:Nat)(K:VK):Prop:=
 ao (x4==3) (aJ H3 (O b1) 12 fun l18=>aM H3 ((O b2).add 1) fun x12=>Hz 55 #[.agg l18.toArray,I x12] H3 fun v19 H16=>eO v19 fun l20=>ay l20 fun v20 l21=>DA v20 fun y5=>aQ.q2 l21 H16 y5 b3 K) (ao (x4==4) (ao (x4==4) (aQ.q3.q1 H3 b1 b3 K) (aQ.q1 x4 H3 b1 b3 K)) (ao (x4==5) (ao (x4==5) (aQ.q3.q1 H3 b1 b3 K) (aQ.q1 x4 H3 b1 b3 K)) (ao (x4==6) (ao (x4==6) (aQ.q3.q1 H3 b1 b3 K) (aQ.q1 x4 H3 b1 b3 K)) (ao (x4==7) (aQ.q3.q1 H3 b1 b3 K) (aQ.q1 x4 H3 b1 b3 K)))))
def aQ.q4 (H3:Hp)(b1 b2 b3:Nat)(K:VK):Prop:=
 aJ H3 (O b1) 12 fun l6=>jy H3 ((O b2).add 3) fun A3 n3 m3=>Hz 54 #[.agg l6.toArray,.slice A3 n3 m3] H3 fun v9 H8=>eO v9 fun l8=>ay l8 fun v10 l9=>DA v10 fun y3=>ay l9 fun v11 l10=>DI .i64 v11 fun x8=>aQ.q2 l10 H8 y3 b3 K
def aQ (y1:Array Value)(x1 x2 x3:Int)(A1:OA)(n1 m1:Nat)(A2:OA)(n2 m2:Nat)(H:Hp)(K:VK):Prop:=
 Nw H (Oq y1 33) fun b1 H1=>Nw H1 (Oq #[I x1,I x2,I x3,.slice A1 n1 m1,.slice A2 n2 m2] 37) fun b2 H2=>Nw H2 (Oq #[I 0,I 0,I 0,I 0,I 0,I 0,I 0,I 0,I 0,I 0,I 0,.slice none 0 0] 33) fun b3 H3=>aM H3 ((O b2).add 0) fun x4=>ao (x4==0) (aJ H3 (O b1) 12 fun l1=>aM H3 ((O b2).add 1) fun x5=>aM H3 ((O b2).add 2) fun x6=>Hz 75 #[.agg l1.toArray,I x5,I x6] H3 fun v4 H4=>eO v4 fun l2=>ay l2 fun v5 l3=>DA v5 fun y2=>aQ.q2 l3 H4 y2 b3 K) (ao (x4==1) (ao (x4==1) (aQ.q4 H3 b1 b2 b3 K) (aQ.q3 x4 H3 b1 b2 b3 K)) (ao (x4==2) (aQ.q4 H3 b1 b2 b3 K) (aQ.q3 x4 H3 b1 b2 b3 K)))
theorem aQ.ok y1 x1 x2 x3 A1 n1 m1 A2 n2 m2 H K (h:aQ y1 x1 x2 x3 A1 n1 m1 A2 n2 m2 H K):ae prog 19 #[.agg y1,.agg #[I x1,I x2,I x3,.slice A1 n1 m1,.slice A2 n2 m2]] H K:=
 mY (fun i=>match Nat.beq i 25 with|true=>some ([],[0,0,2,7,15,31],0)|false=>match Nat.beq i 21 with|true=>some ([],[0,0,2,1,9,31],0)|false=>none) de Tryz.func19 rfl rfl h
def cj.l2 (K:VK):Nat->OA->Nat->Nat->Addr->Addr->Int->Hp->Prop
 |0,_,_,_,_,_,_,_=>False
 |k+1,A2,n2,m2,a1,a2,x5,H=>
  let R2:=cj.l2 K k
  ao (decide (x5<(n2:Int))) (cX x5 n2 (NN A2 fun a3=>aJ H ((a3.add (x5.toNat*12)).add 0) 6 fun l1=>aJ H a1 6 fun l2=>qf prog .eql 30 (.agg l1.toArray) (.agg l2.toArray) fun c1=>ao c1 (aM H (a1.add 0) fun x6=>ao (x6==0) (K (I x5) H) (cX x5 n2 (NN A2 fun a4=>aM H ((a4.add (x5.toNat*12)).add 6) fun x7=>aM H (a2.add 0) fun x8=>ao (x7==x8) (cX x5 n2 (NN A2 fun a5=>aM H ((a5.add (x5.toNat*12)).add 7) fun x9=>aM H (a2.add 3) fun x10=>ao (x9==x10) (K (I x5) H) (R2 A2 n2 m2 a1 a2 (i64.wrap (x5+1)) H))) (R2 A2 n2 m2 a1 a2 (i64.wrap (x5+1)) H)))) (R2 A2 n2 m2 a1 a2 (i64.wrap (x5+1)) H))) (K (I (-1)) H)
def cj (A1:OA)(n1 m1:Nat)(y1:Array Value)(x1 x2 x3 x4:Int)(H:Hp)(K:VK):Prop:=
 Nw H (Oq y1 30) fun b1 H1=>Nw H1 (Oq #[I x1,I x2,I x3,I x4] 45) fun b2 H2=>(∃ k,cj.l2 K k A1 n1 m1 (O b1) (O b2) 0 H2)
def cj.l2.L (K:VK)(k:Nat):dm:=fun E D H=>
 DG (E.get? 0) fun w0=>aF w0 fun A2 n2 m2=>eN E 4 fun a1=>eN E 5 fun a2=>eI E 7 .i64 fun x5=>az D (cj.l2 K k A2 n2 m2 a1 a2 x5 H)
def cj.Λ2 (_:VK)(_R2:OA->Nat->Nat->Addr->Addr->Int->Hp->Prop):aN:=aN.none (fun _=>none)
def cj.Λ (K:VK):aN:=⟨fun i=>none,fun i=>match Nat.beq i 2 with|true=>some (fun E D H=>∃ k,cj.l2.L K k E D H)|false=>none,(fun _=>none)⟩
theorem cj.ok A1 n1 m1 y1 x1 x2 x3 x4 H K (h:cj A1 n1 m1 y1 x1 x2 x3 x4 H K):ae prog 28 #[.slice A1 n1 m1,.agg y1,.agg #[I x1,I x2,I x3,I x4]] H K:=
 dX (Λ:=(cj.Λ K)) de Tryz.func28 rfl rfl h (oC (fun E D H h=>by
   refine Safe.c0 (cj.l2.L K) (fun E D H h=>?_) (fun k E D H h=>?_) E D H h
   .obtain⟨w0,e0,g1⟩:=DG.out h;obtain⟨A2,n2,m2,rfl,g2⟩:=aF.out g1;obtain⟨w4,e4,g3⟩:=DG.out g2;obtain⟨pw4,rfl,g4⟩:=DP.out g3;obtain⟨a1,rfl,g5⟩:=NN.out g4;obtain⟨w5,e5,g6⟩:=DG.out g5;obtain⟨pw5,rfl,g7⟩:=DP.out g6;obtain⟨a2,rfl,g8⟩:=NN.out g7;obtain⟨w7,e7,g9⟩:=DG.out g8;obtain⟨x5,rfl,g10⟩:=DI.out g9;obtain⟨rfl,h'⟩:=az.out g10;exact h'
   .obtain⟨w0,e0,g1⟩:=DG.out h;obtain⟨A2,n2,m2,rfl,g2⟩:=aF.out g1;obtain⟨a1,e4,g5⟩:=GN g2;obtain⟨a2,e5,g8⟩:=GN g5;obtain⟨x5,e7,g10⟩:=GI g8;obtain⟨rfl,h'⟩:=az.out g10;exact cY (Λ:=(cj.Λ2 K (cj.l2 K k))) de [] (ag.cons e0 (ag.cons e4 (ag.cons e5 (ag.cons e7 (ag.nil _))))) h' oN) oN)
def ct.j7.q1 (H:Hp)(a1:Addr)(A7:OA)(n7 m7:Nat)(a3:Addr)(K:VK):Prop:=
 aJ H a1 12 fun l32=>qg 84 #[.agg l32.toArray] H fun y4 H10=>fU y4.toList fun x31 x32 x33 x34 x35 x36 x37 x38 x39 x40 x41 A8 n8 m8=>(Nw H10 (.row [I x31,I x32,I x33,I x34,I x35,I x36,I x37,I x38,I x39,I x40,I x41,.slice A8 n8 m8] 33 12) fun b6 H12=>gC prog 33 (.slice A7 n7 m7) (.slice (Oo b6) 1 1) H12 fun v61 H14=>aF v61 fun A10 n10 m10=>aJ H14 a3 12 fun l58=>fU l58.toArray.toList fun x53 x54 x55 x56 x57 x58 x59 x60 x61 x62 x63 A12 n12 m12=>(Nw H14 (.row [I x53,I x54,I x55,I x56,I x57,I x58,I x59,I x60,I x61,I x62,I x63,.slice A12 n12 m12] 33 12) fun b8 H16=>gC prog 33 (.slice A10 n10 m10) (.slice (Oo b8) 1 1) H16 fun v99 H19=>aF v99 fun A15 n15 m15=>K (.slice A15 n15 m15) H19))
def ct.j7 (K:VK)(a1 a2 a3:Addr)(A7:OA)(n7 m7:Nat)(H:Hp):=
 aM H (a2.add 0) fun x29=>ao (x29==1) (ct.j7.q1 H a1 A7 n7 m7 a3 K) (aM H (a2.add 0) fun x30=>ao (x30==2) (ct.j7.q1 H a1 A7 n7 m7 a3 K) (aJ H a3 12 fun l60=>fU l60.toArray.toList fun x75 x76 x77 x78 x79 x80 x81 x82 x83 x84 x85 A14 n14 m14=>(Nw H (.row [I x75,I x76,I x77,I x78,I x79,I x80,I x81,I x82,I x83,I x84,I x85,.slice A14 n14 m14] 33 12) fun b10 H18=>gC prog 33 (.slice A7 n7 m7) (.slice (Oo b10) 1 1) H18 fun v101 H21=>aF v101 fun A17 n17 m17=>K (.slice A17 n17 m17) H21)))
def ct (y1:Array Value)(x1 x2 x3:Int)(A1:OA)(n1 m1:Nat)(A2:OA)(n2 m2:Nat)(H:Hp)(K:VK):Prop:=
 Nw H (Oq y1 33) fun b1 H1=>Nw H1 (Oq #[I x1,I x2,I x3,.slice A1 n1 m1,.slice A2 n2 m2] 37) fun b2 H2=>aJ H2 (O b1) 12 fun l1=>aJ H2 (O b2) 5 fun l2=>Hz 19 #[.agg l1.toArray,.agg l2.toArray] H2 fun v1 H3=>EU v1 fun y2 x4 A3 n3 m3=>(Nw H3 (Oq #[I 0,I 0,I 0,I 0,I 0,I 0,I 0,I 0,I 0,I 0,I 0,.slice none 0 0] 33) fun b3 H4=>bR H4 (O b3) y2 12 fun H5=>aJ H5 (O b1) 12 fun l7=>fU l7.toArray.toList fun x5 x6 x7 x8 x9 x10 x11 x12 x13 x14 x15 A4 n4 m4=>(Nw H5 (.row [I x5,I x6,I x7,I x8,I x9,I x10,I x11,I x12,I x13,I x14,I x15,.slice A4 n4 m4] 33 12) fun b4 H6=>ao (x4 !=0) (K (.slice (Oo b4) 1 1) H6) (aM H6 ((O b2).add 0) fun x16=>ao (x16==0) (aM H6 ((O b1).add 8) fun x17=>qg 16 #[I x17] H6 fun y3 H7=>fU y3.toList fun x18 x19 x20 x21 x22 x23 x24 x25 x26 x27 x28 A5 n5 m5=>(Nw H7 (.row [I x18,I x19,I x20,I x21,I x22,I x23,I x24,I x25,I x26,I x27,I x28,.slice A5 n5 m5] 33 12) fun b5 H8=>gC prog 33 (.slice (Oo b4) 1 1) (.slice (Oo b5) 1 1) H8 fun v32 H9=>aF v32 fun A6 n6 m6=>ct.j7 K (O b1) (O b2) (O b3) A6 n6 m6 H9)) (ct.j7 K (O b1) (O b2) (O b3) (Oo b4) 1 1 H6))))
def ct.Λ (K:VK):aN:=⟨fun i=>match Nat.beq i 7 with|true=>some (fun E D H=>eN E 2 fun a1=>eN E 3 fun a2=>eN E 5 fun a3=>DG (E.get? 8) fun w8=>aF w8 fun A7 n7 m7=>az D (ct.j7 K a1 a2 a3 A7 n7 m7 H))|false=>none,fun i=>none,(fun _=>none)⟩
theorem ct.ok y1 x1 x2 x3 A1 n1 m1 A2 n2 m2 H K (h:ct y1 x1 x2 x3 A1 n1 m1 A2 n2 m2 H K):ae prog 29 #[.agg y1,.agg #[I x1,I x2,I x3,.slice A1 n1 m1,.slice A2 n2 m2]] H K:=
 dX (Λ:=(ct.Λ K)) de Tryz.func29 rfl rfl h (oC (fun E D H h=>by
   obtain⟨a1,e2,g3⟩:=GN h;obtain⟨a2,e3,g6⟩:=GN g3;obtain⟨a3,e5,g9⟩:=GN g6;obtain⟨w8,e8,g10⟩:=DG.out g9;obtain⟨A7,n7,m7,rfl,g11⟩:=aF.out g10;obtain⟨rfl,h'⟩:=az.out g11;exact cY (Λ:=(ct.Λ K)) de [] (ag.cons e2 (ag.cons e3 (ag.cons e5 (ag.cons e8 (ag.nil _))))) h' oN) oN)
end W
namespace Eng
open Go Go.Hw Go.Form W Shp Dsk Str Are Trn Pas Pln Rec Srt Rng
structure eQ where
 k:Int
 n:Int
 m:Int
 A:OA
 nA:Nat
 mA:Nat
 l:List UInt64
 G:OA
 nG:Nat
 mG:Nat
 ks:List Bool
def cO (a:eQ):List Value:=[I a.k,I a.n,I a.m,.slice a.A a.nA a.mA,.slice a.G a.nG a.mG]
structure tM (H:Hp)(a:eQ):Prop where
 nA:a.nA=a.l.length
 mA:a.nA<=a.mA
 l:Cells H a.A (ah a.l)
 nG:a.nG=a.ks.length
 ks:Cells H a.G (lR a.ks)
 n: -9223372036854775808<=a.n/\a.n<=9223372036854775807
 m: -9223372036854775808<=a.m/\a.m<=9223372036854775807
theorem tM.le {H H':Hp}{a:eQ}(h:tM H a)(k:H.le H'):tM H' a:=⟨h.nA,h.mA,h.l.le k,h.nG,h.ks.le k,h.n,h.m⟩
section
open Go.RowKit Go.ChangeShapes Go.WideShapes Go.ChangeAt
variable {H : Type} {enc : TypeId × Value -> H} {W : World}
theorem eacts_of {A:OA}{n:Nat}{rows:List (List Value)}(hl:rows.length=n)
  (h:∀(i:Nat) (r:List Value),rows[i]? =some r->∃ a,A=some a/\(∀ j v,r[j]? =some v->(Full W).cell? (a.add (i*prog.cellsOf 37+j))=some v)/\r.length=prog.cellsOf 37/\
   ∃ f d' p',DataW.trod enc prog W 0 (fun _=>true) true f 37 r=some (d',p')):∃ l:List eQ,l.length=n/\eU 5 (Full W) A (l.map cO)/\∀ a∈l,tM (Full W) a:=by
 have hc:prog.cellsOf 37=5:=by kernel_rfl
 refine Lt hl fun i r hi=>?_
 obtain⟨a,ha,h1,h2,f,d',p',h3⟩:=h i r hi;rw[hc]at h1 h2;refine⟨a,ha,h1,?_⟩;obtain⟨_,f',h4⟩:=LJ Tryz.underlying37 h3;obtain⟨x,hx,wx⟩:=u0 (o:=0) Tryz.underlying3 (by kernel_rfl) (h4 0 _ rfl);obtain⟨y,hy,wy⟩:=u0 (o:=1) Tryz.underlying3 (by kernel_rfl) (h4 1 _ rfl);obtain⟨z,hz,wz⟩:=u0 (o:=2) Tryz.underlying3 (by kernel_rfl) (h4 2 _ rfl);obtain⟨B,nB,mB,_,_,hB,tB⟩:=CI (o:=3) Tryz.underlying31 (by kernel_rfl) (h4 3 _ rfl);obtain⟨G,nG,mG,_,_,hG,tG⟩:=CI (o:=4) Tryz.underlying35 (by kernel_rfl) (h4 4 _ rfl);obtain⟨_,_,_,e1,lB,mmB,bs,hbl,hbc⟩:=FK Tryz.underlying31 Tryz.underlying108 (by kernel_rfl) tB;obtain⟨rfl,rfl,rfl⟩:B=_/\nB=_/\mB=_:=by simpa using e1
 obtain⟨_,_,_,e2,_,_,gs,hgl,hgc⟩:=FJ Tryz.underlying35 Tryz.underlying4 (by kernel_rfl) tG;obtain⟨rfl,rfl,rfl⟩:G=_/\nG=_/\mG=_:=by simpa using e2
 refine⟨⟨x,y,z,B,nB,mB,bs,G,nG,mG,gs⟩,?_,⟨hbl.symm,by first|exact lB|exact mmB,hbc,hgl.symm,hgc,wf_int wy,wf_int wz⟩⟩;exact xi.out ⟨hx,hy,hz,hB,hG,trivial⟩ h2
end
def ma (a:eQ):Prop:=a.nA<=32/\a.nG<=40
theorem Bt (A:OA)(n m:Nat)(l:List eQ)(hl:l.length=n)(hn:n<=1000000)(H:Hp)(hc:eU 5 H A (l.map cO)):
  ∀(t j:Nat),j+t=n->(∀ q (hq:q<j) (h:q<l.length),ma l[q])->bZ.l4 (fun v H'=>H'=H/\∃ x:Int,v= I x/\(x=0->∀ a∈l,ma a)) (t+1) A n m (j:Int) H
 |0,j,h,hall=>by
  unfold bZ.l4;refine aw (by omega) ⟨rfl,0,rfl,fun _ a ha=>?_⟩;obtain⟨q,hq,rfl⟩:=List.getElem_of_mem ha;exact hall q (by omega) hq
 |t+1,j,h,hall=>by
  unfold bZ.l4;refine aC (by omega) ?_;have hg:l[j]? =some (l[j]'(by omega)):=List.getElem?_eq_getElem (by omega);have hrow:(l.map cO)[j]? =some (cO (l[j]'(by omega))):=by rw[List.getElem?_map,hg];rfl
  refine eU.rd hc hrow rfl (by rw[List.length_map];omega) (j:=3) rfl ?_;simp only[HV];by_cases h1:(((l[j]'(by omega)).nA:Nat):Int)>32
  .exact aC h1 ⟨by first|trivial|rfl,2,rfl,fun e=>by omega⟩
  refine aw h1 ?_;refine eU.rd hc hrow rfl (by rw[List.length_map];omega) (j:=4) rfl ?_;simp only[HV];by_cases h2:(((l[j]'(by omega)).nG:Nat):Int)>40
  .exact aC h2 ⟨by first|trivial|rfl,2,rfl,fun e=>by omega⟩
  refine aw h2 ?_;rw[bu (x:=(j:Int)+1)];refine Bt A n m l hl hn H hc t (j+1) (by omega) fun q hq hql=>?_
  by_cases e:q=j
  .subst e;exact⟨by omega,by omega⟩
  .exact hall q (by omega) hql
theorem L3 (A:OA)(n m:Nat)(l:List eQ)(hl:l.length=n)(H:Hp)(hc:eU 5 H A (l.map cO)):
  ae prog 13 #[.slice A n m] H fun v H'=>H'=H/\∃ x:Int,v= I x/\(x=0->n<=40/\∀ a∈l,ma a):=by
 by_cases hn:n>40
 .apply bZ.ok;unfold bZ;exact aC (by omega) ⟨rfl,1,rfl,fun h=>by omega⟩
 .have:ae prog 13 #[.slice A n m] H fun v H'=>H'=H/\∃ x:Int,v= I x/\(x=0->∀ a∈l,ma a):=by
   apply bZ.ok;unfold bZ;refine aw (by omega) ⟨n+1,?_⟩;exact Bt A n m l hl (by omega) H hc n 0 (by omega) fun q hq=>absurd hq (by omega)
  refine this.mono ?_;rintro v H' ⟨rfl,c,rfl,h⟩;exact⟨rfl,c,rfl,fun hc=>⟨by omega,h hc⟩⟩
structure IG (m0 m:Mn):Prop where
 aA:m.aA=m0.aA
 aO:m.aO=m0.aO
 da:m.da=m0.da
 kd:2<=m.r.kd
theorem IG.pass {m0 m:Mn}(h:IG m0 m)(aa:Nat):IG m0 (m.add (dk m aa)):=⟨h.aA,h.aO,h.da,by rw[Mn.fg];show(2:Int)<=4;omega⟩
theorem jG.up {N N':Nat}{d:D}{c:Cn}{m:Mn}(h:jG N d c m)(hN:N<=N'):jG N' d c m:=by
 have q1:=h.len;have q2:=h.ld;have q3:=h.rd;have q4:=h.wr;have q5:=h.sy;exact⟨h.cl,h.hh,h.aA,by omega,by omega,by omega,by omega,by omega⟩
theorem jG.pJ {N:Nat}{d:D}{c:Cn}{m:Mn}(h:jG N d c m)(n:Nat)(hn:n<=9223372036854775807):jG N { d with aI:=n} c m:=⟨h.cl.pJ n hn,h.hh,h.aA,h.len,h.ld,h.rd,h.wr,h.sy⟩
theorem Clean.again {d:D}{c:Cn}(hc:Clean d c):Ok { d with down:=true,aI:=0}/\sw { d with down:=true,aI:=0}/\∀ ks,KeysOf (eW d.cache) ks->∀ dI,Clean (D.jB { d with down:=true,aI:=0} ks dI) c:=by
 have hok:=hc.ok;have hok3:Ok { d with down:=true,aI:=0}:=⟨hok.sec,hok.size,hok.lk,hok.aa,hok.safe,hok.cache,Nat.zero_le _⟩;refine⟨hok3,fun k hk=>hc.tQ k hk,fun ks hks dI=>?_⟩;obtain⟨c3,ec3,hc3⟩:=(hc.rS).jB hok3 hks dI;rw[ec3]at hc3;exact hc3
theorem jG.again {N:Nat}{d:D}{c:Cn}{m:Mn}(h:jG N d c m){ks:List Int}(hks:KeysOf (eW d.cache) ks)(dI:List Bool):jG N (D.jB { d with down:=true,aI:=0} ks dI) c m:=
 ⟨(h.cl.again).2.2 ks hks dI,h.hh,h.aA,h.len,h.ld,h.rd,h.wr,h.sy⟩
structure Lo (N:Nat)(d:D)(c:Cn)(o:Option Mn):Prop where
 cl:Clean d c
 aa:0<Lay.cc (d.size:Int)
 rd:d.rd<=2000*N
 wr:d.wr<=2000*N
 sy:d.sy<=2000*N
 hh:EO d.sec d.size o c
 lp:∀ m,o=some m->jG N d c m
theorem Lo.of {N:Nat}{d:D}{c:Cn}{m:Mn}(h:jG N d c m):Lo N d c (some m):=⟨h.cl,h.aa,h.rd,h.wr,h.sy,h.hh,fun _ e=>by cases e;exact h⟩
theorem Lo.up {N N':Nat}{d:D}{c:Cn}{o:Option Mn}(h:Lo N d c o)(k:N<=N'):Lo N' d c o:=by
 have q3:=h.rd;have q4:=h.wr;have q5:=h.sy;exact⟨h.cl,h.aa,by omega,by omega,by omega,h.hh,fun m e=>(h.lp m e).up k⟩
theorem Lo.pJ {N:Nat}{d:D}{c:Cn}{o:Option Mn}(h:Lo N d c o)(n:Nat)(hn:n<=9223372036854775807):Lo N { d with aI:=n} c o:=⟨h.cl.pJ n hn,h.aa,h.rd,h.wr,h.sy,h.hh,fun m e=>(h.lp m e).pJ n hn⟩
theorem Lo.again {N:Nat}{d:D}{c:Cn}{o:Option Mn}(h:Lo N d c o){ks:List Int}(hks:KeysOf (eW d.cache) ks)(dI:List Bool):Lo N (D.jB { d with down:=true,aI:=0} ks dI) c o:=
 ⟨(h.cl.again).2.2 ks hks dI,h.aa,h.rd,h.wr,h.sy,h.hh,fun m e=>(h.lp m e).again hks dI⟩
theorem Lo.mT {N:Nat}{d d':D}{c:Cn}{o:Option Mn}(h:Lo N d c o){r w s:Nat}(hw:fA d d' r w s)(hr:r<=2000/\w<=2000/\s<=2000)(hc:Clean d' c):Lo (N+2) d' c o:=by
 have h1:=hw.rd;have h2:=hw.wr;have h3:=hw.sy;have h4:=h.rd;have h5:=h.wr;have h6:=h.sy;refine⟨hc,by rw[hw.size];exact h.aa,by omega,by omega,by omega,by rw[hw.sec,hw.size];exact h.hh,fun m e=>?_⟩;have hL:=h.lp m e;exact hL.mT hw hr hc hL.hh rfl (by have:=hL.len;omega) (by have:=hL.ld;omega)
structure Dd (N sc sz:Nat)(d:D)(P:Option Mn->Prop):Prop where
 ok:Ok d
 tQ:sw d
 down:d.down=true
 fz:d.aI=0
 sec:d.sec=sc
 size:d.size=sz
 left:Left d fun c'=>∃ o,P o/\(∀ m,o=some m->m.aA<=6/\m.L.length<=N/\m.r.ld<=N)/\EO sc sz o c'
 rd:d.rd<=2000*N
 wr:d.wr<=2000*N
 sy:d.sy<=2000*N
theorem Dd.jB {N sc sz:Nat}{d:D}{P:Option Mn->Prop}(h:Dd N sc sz d P)(hp:0<Lay.cc (sz:Int)){ks:List Int}(hks:KeysOf (eW d.cache) ks)(dI:List Bool):∃ c o,P o/\Lo N (D.jB d ks dI) c o/\(D.jB d ks dI).sec=sc/\(D.jB d ks dI).size=sz:=by
 obtain⟨c,⟨o,hP,h1,h4⟩,hc⟩:=h.left.jB h.ok hks dI;have e1:(D.jB d ks dI).sec=sc:=h.sec;have e2:(D.jB d ks dI).size=sz:=h.size;refine⟨c,o,hP,⟨hc,by rw[e2];exact hp,h.rd,h.wr,h.sy,by rw[e1,e2];exact h4,fun m e=>?_⟩,e1,e2⟩;subst e;obtain⟨h5,h6,h7⟩:=h1 m rfl;exact⟨hc,by rw[e1,e2];exact h4,h5,h6,h7,h.rd,h.wr,h.sy⟩
theorem Lo.cut {N:Nat}{d d':D}{c:Cn}{o:Option Mn}(h:Lo N d c o){n:Nat}(hc:gp d d' n){P:Option Mn->Prop}(hn:n<=3000)(hl:Left d' fun c'=>∃ o,P o/\(∀ m,o=some m->m.aA<=6/\m.L.length<=N+2/\m.r.ld<=N+2)/\EO d.sec d.size o c'):Dd (N+2) d.sec d.size d' P:=by
 have h1:=hc.tP;have h2:=hc.le;have h4:=h.rd;have h5:=h.wr;have h6:=h.sy;have h7:=hc.rd;have h8:=hc.wr;have h9:=hc.sy;exact⟨hc.ok,hc.tQ,hc.down,hc.aI,hc.sec,hc.size,hl,by omega,by omega,by omega⟩
def gO (d:D)(o:Option Mn)(pk:Int):Option Eg:=o.map fun m=>bE d m pk
theorem E7 {d d':D}(o:Option Mn)(pk:Int)(h1:d'.sec=d.sec)(h2:d'.size=d.size):gO d' o pk=gO d o pk:=by
 cases o with
 |none=>rfl
 |some m=>show some (bE d' m pk)=some (bE d m pk);rw[sE m pk h1 h2]
def Kc (o:Option Mn)(pk:Int):Prop:=∀ m,o=some m->pk<=(m.aO:Int)
def Mx (sec size:Nat):Prop:=∀ k:Nat,Lay.fI k (size/8)<=sec->k<=6
def J' (l:List UInt64)(aA k:Nat):Prop:=lg (l.length:Int)=some k/\k<=aA/\lN l
inductive Ef (sec aa:Nat):Option Mn→eQ→Int→Option Mn→List UInt64→Prop
 |xQ {o:Option Mn} {a:eQ} (h:a.k=0) (he:dM sec aa a.n a.m≠0):Ef sec aa o a (dM sec aa a.n a.m) o []
 |fmt {o:Option Mn} {a:eQ} {kn wn:Nat} (h:a.k=0) (hn:a.n=(kn:Int)) (hm:a.m=(wn:Int)) (he:dM sec aa a.n a.m=0):Ef sec aa o a 0 (some (fC kn wn)) []
 |ur {a:eQ} (h:a.k=1∨a.k=2):Ef sec aa none a 5 none []
 |B3 {m:Mn} {a:eQ} {k i e:Int} (h:a.k=1∨a.k=2) (hc:ng a.l m.aA k i e) (he:e≠0):Ef sec aa (some m) a e (some m) []
 |ld {m:Mn} {a:eQ} {k:Nat} (h:a.k=1∨a.k=2) (hk:J' a.l m.aA k):Ef sec aa (some m) a 0 (some (cH m k a.l)) []
 |uN {a:eQ} (h:a.k=3):Ef sec aa none a 5 none []
 |Cy {m:Mn} {a:eQ} (h:a.k=3) (h2:stM m aa≠2) (h4:stM m aa≠4):Ef sec aa (some m) a 5 (some m) []
 |yp {m:Mn} {a:eQ} (h:a.k=3) (h2:stM m aa=2∨stM m aa=4) (hn:¬(a.n=0∨a.n=1)):Ef sec aa (some m) a 18 (some m) []
 |sb {m:Mn} {a:eQ} {b:Bool} (h:a.k=3) (h2:stM m aa=2∨stM m aa=4) (hb:a.n=if b=true then 1 else 0):Ef sec aa (some m) a 0 (some (m.add (eG m b))) []
 |uV {a:eQ} (h:a.k=4∨a.k=5∨a.k=6∨a.k=7):Ef sec aa none a 5 none []
 |CF {m:Mn} {a:eQ} (h:a.k=4∨a.k=5∨a.k=6∨a.k=7) (h3:stM m aa≠3):Ef sec aa (some m) a 5 (some m) []
 |st {m:Mn} {a:eQ} (h:a.k=4∨a.k=5∨a.k=6∨a.k=7) (h3:stM m aa=3):Ef sec aa (some m) a 0 (some (m.add (dk m aa))) []
 |sR {a:eQ} (h:a.k=8):Ef sec aa none a 11 none []
 |rc {m:Mn} {a:eQ} (h:a.k=8):Ef sec aa (some m) a 0 (some m) []
 |uJ {a:eQ} (h:a.k=11):Ef sec aa none a 11 none []
 |Cv {m:Mn} {a:eQ} (h:a.k=11) (h2:stM m aa<2):Ef sec aa (some m) a 11 (some m) []
 |ri {m:Mn} {a:eQ} (h:a.k=11) (h2:2≤stM m aa):Ef sec aa (some m) a 0 (some m) m.da
 |uK {a:eQ} (h:a.k=12):Ef sec aa none a 12 none []
 |Cw {m:Mn} {a:eQ} (h:a.k=12) (h4:stM m aa≠4):Ef sec aa (some m) a 12 (some m) []
 |ro {m:Mn} {a:eQ} (h:a.k=12) (h4:stM m aa=4):Ef sec aa (some m) a 0 (some m) (k9 m aa)
 |vS {o:Option Mn} {a:eQ} (h:a.k<0∨a.k=9∨a.k=10∨12<a.k):Ef sec aa o a 0 o []
def dm (o:Option Mn)(a:eQ)(o' x:Option Mn):Prop:=x=o\/x=o'\/(a.k=0/\x=none)\/((a.k=1\/a.k=2)/\∃ m k,o=some m/\J' a.l m.aA k/\x=some (bG m k))
def uh (p dp N:Nat)(d:D)(a:eQ)(H0:Hp)(e:Int)(o':Option Mn)(w:List UInt64)(v:Value)(M:List As):Prop:=
 ∃(B:OA) (n mm:Nat) (d':D) (c':Cn) (pk':Int) (W:As),v= .tuple #[I e,.slice B n mm]/\n=w.length/\(∀ H,W H->Cells H B (ah w))/\Lo (N+2) d' c' o'/\d'.sec=d.sec/\d'.size=d.size/\(a.k≠10->d.aI=0->d'.aI=0)/\Kc o' pk'/\M=[En p dp (gO d' o' pk'),Dk dp d',W,own H0]
def ug (p dp N:Nat)(d:D)(a:eQ)(H0:Hp)(o:Option Mn)(e:Int)(o':Option Mn)(v:Value)(M:List As):Prop:=
 a.k≠9/\a.k≠10/\(a.k=8\/e=0)/\d.aI≠0/\∃ d',v= .tuple #[I 8,.slice none 0 0]/\Dd (N+2) d.sec d.size d' (dm o a o')/\M=[En p dp none,Dk dp d',(fun _=>True),own H0]
theorem Cells.qb (H:Hp)(B:OA):Cells H B (ah []):=fun i v hi=>by simp[ah]at hi
set_option maxHeartbeats 8000000 in
theorem L1 {p dp N:Nat}{d:D}{c:Cn}{o:Option Mn}{pk:Int}{a:eQ}{H0:Hp}(hT:T64 H0)(hL:Lo N d c o)(hN:N<=380)(hmx:Mx d.sec d.size)(hpk:Kc o pk)(ha:tM H0 a)(hs1:ma a):
  Tr prog 17 #[V dp,V p,.agg (cO a).toArray] [En p dp (gO d o pk),Dk dp d,own H0] fun v M=>∃ e o' w,Ef d.sec (d.size/8) o a e o' w/\(uh p dp N d a H0 e o' w v M\/ug p dp N d a H0 o e o' v M):=fun H hs=>by
 have hrd:=hL.rd;have hwr:=hL.wr;have hsy:=hL.sy;have hops:d.rd<=800000/\d.wr<=800000/\d.sy<=800000:=by omega
 obtain⟨x1,x2,x3,A,nA,mA,l,G,nG,mG,ks⟩:=a;have hks:Cells H0 G (lR ks):=ha.ks;have hnG:nG=ks.length:=ha.nG;have hx2: -9223372036854775808<=x2/\x2<=9223372036854775807:=ha.n;have hnA:nA=l.length:=ha.nA;have hmA:nA<=mA:=ha.mA;have hcA:Cells H0 A (ah l):=ha.l;have hl32:nA<=32:=hs1.1
  -- how a case ends
 have live:∀(e:Int) (o':Option Mn) (w:List UInt64) (B:OA) (n mm:Nat) (d':D) (c':Cn) (pk':Int) (W:As) (H:Hp),Ef d.sec (d.size/8) o ⟨x1,x2,x3,A,nA,mA,l,G,nG,mG,ks⟩ e o' w->n=w.length->(∀ H,W H->Cells H B (ah w))->Lo (N+2) d' c' o'->d'.sec=d.sec->d'.size=d.size->(x1≠10->d.aI=0->d'.aI=0)->Kc o' pk'->Sep [En p dp (gO d o' pk'),Dk dp d',W,own H0] H->
   ∃ M,(∃ e' o' w',Ef d.sec (d.size/8) o ⟨x1,x2,x3,A,nA,mA,l,G,nG,mG,ks⟩ e' o' w'/\(uh p dp N d ⟨x1,x2,x3,A,nA,mA,l,G,nG,mG,ks⟩ H0 e' o' w' (.tuple #[I e,.slice B n mm]) M\/ug p dp N d ⟨x1,x2,x3,A,nA,mA,l,G,nG,mG,ks⟩ H0 o e' o' (.tuple #[I e,.slice B n mm]) M))/\Sep M H:=fun e o' w B n mm d' c' pk' W H h1 h2 h3 h4 h5 h6 h7 h8 hs=>
  ⟨_,⟨e,o',w,h1,.inl ⟨B,n,mm,d',c',pk',W,rfl,h2,h3,h4,h5,h6,h7,h8,rfl⟩⟩,by rw[E7 o' pk' h5 h6];exact hs⟩
 have dead:∀(e:Int) (o':Option Mn) (w:List UInt64) (d':D) (H:Hp),Ef d.sec (d.size/8) o ⟨x1,x2,x3,A,nA,mA,l,G,nG,mG,ks⟩ e o' w->x1≠9->x1≠10->(x1=8\/e=0)->d.aI≠0->Dd (N+2) d.sec d.size d' (dm o ⟨x1,x2,x3,A,nA,mA,l,G,nG,mG,ks⟩ o')->Sep [En p dp none,Dk dp d',own H0] H->
   ∃ M,(∃ e' o' w',Ef d.sec (d.size/8) o ⟨x1,x2,x3,A,nA,mA,l,G,nG,mG,ks⟩ e' o' w'/\(uh p dp N d ⟨x1,x2,x3,A,nA,mA,l,G,nG,mG,ks⟩ H0 e' o' w' (.tuple #[I 8,.slice none 0 0]) M\/ug p dp N d ⟨x1,x2,x3,A,nA,mA,l,G,nG,mG,ks⟩ H0 o e' o' (.tuple #[I 8,.slice none 0 0]) M))/\Sep M H:=fun e o' w d' H h1 h2 h3 h4 h5 h6 hs=>
  ⟨_,⟨e,o',w,h1,.inr ⟨h2,h3,h4,h5,d',rfl,h6,rfl⟩⟩,by
   have:=(Sep.unit (X:=fun _=>True) hs trivial);exact this.re [1,2,0,3] rfl⟩
 have same:∀(e:Int) (H:Hp),Ef d.sec (d.size/8) o ⟨x1,x2,x3,A,nA,mA,l,G,nG,mG,ks⟩ e o []->Sep [En p dp (gO d o pk),Dk dp d,own H0] H->
   ∃ M,(∃ e' o' w',Ef d.sec (d.size/8) o ⟨x1,x2,x3,A,nA,mA,l,G,nG,mG,ks⟩ e' o' w'/\(uh p dp N d ⟨x1,x2,x3,A,nA,mA,l,G,nG,mG,ks⟩ H0 e' o' w' (.tuple #[I e,.slice none 0 0]) M\/ug p dp N d ⟨x1,x2,x3,A,nA,mA,l,G,nG,mG,ks⟩ H0 o e' o' (.tuple #[I e,.slice none 0 0]) M))/\Sep M H:=fun e H h1 hs=>
  live e o [] none 0 0 d c pk (fun _=>True) H h1 rfl (fun H _=>Cells.qb H _) (hL.up (by omega)) rfl rfl (fun _ h=>h) hpk (by
   have:=(Sep.unit (X:=fun _=>True) hs trivial);exact this.re [1,2,0,3] rfl)
 have unit:∀(o':Option Mn) (pk':Int) (d':D) (H:Hp),Sep [En p dp (gO d o' pk'),Dk dp d',own H0] H->Sep [En p dp (gO d o' pk'),Dk dp d',(fun _=>True),own H0] H:=fun o' pk' d' H hs=>by
  have:=(Sep.unit (X:=fun _=>True) hs trivial);exact this.re [1,2,0,3] rfl
 apply bP.ok;unfold bP bP.q3 bP.q2 bP.q2.q1 bP.q1;refine hs.nw fun b1 H hs=>?_
 try simp only[HS]
 refine hs.ld 3 (v:=I x1) rfl rfl ?_;simp only[HV];by_cases e0:x1=0
 .-- Format
  subst e0
  repeat first|refine aL rfl ?_|refine aK (by decide) ?_
  try simp only[HS]
  refine hs.ld 3 (v:=I x2) rfl rfl ?_;simp only[HV];refine hs.ld 3 (v:=I x3) rfl rfl ?_;simp only[HV];refine(zv (p:=p) (dp:=dp) (g:=gO d o pk) hL.cl hL.aa hops x2 x3).use hs [0,1] rfl rfl ?_;rintro _ _ H (⟨h,rfl,rfl⟩|⟨kn,wn,e1,e2,h0,⟨d',c',hw,hc,hh,rfl,rfl⟩|⟨d',hcut,hleft,rfl,rfl⟩⟩) hs
  .simp only[HV];exact same _ H (.xQ rfl h) (hs.re [0,1,2] rfl)
  .have hgd:=um hL.aa h0;have hk6:kn<=6:=by
    obtain⟨k',w',q1,q2,q3,_⟩:=hgd;obtain rfl:kn=k':=by omega
    exact hmx kn (gk q3).2.2.1
   have r1:=hw.rd;have r2:=hw.wr;have r3:=hw.sy;simp only[HV];refine live 0 (some (fC kn wn)) [] none 0 0 d' c' 0 (fun _=>True) H (.fmt rfl e1 e2 h0) rfl (fun H _=>Cells.qb H _) (Lo.of ⟨hc,by rw[hw.sec,hw.size];exact hh,hk6,Nat.zero_le _,Nat.zero_le _,by omega,by omega,by omega⟩) hw.sec hw.size (fun _ hf=>hw.calm hf) (fun m e=>by cases e;exact Int.natCast_nonneg _) (unit _ _ _ _ (hs.re [0,1,2] rfl))
  .have hgd:=um hL.aa h0;have hk6:kn<=6:=by
    obtain⟨k',w',q1,q2,q3,_⟩:=hgd;obtain rfl:kn=k':=by omega
    exact hmx kn (gk q3).2.2.1
   simp only[HV];refine dead 0 (some (fC kn wn)) [] d' H (.fmt rfl e1 e2 h0) (by decide) (by decide) (.inr rfl) (by have:=hcut.pos;omega) (hL.cut hcut (by omega) (hleft.mono fun c' h=>?_)) (hs.re [0,1,2] rfl);rcases h with h|h|h
   .refine⟨o,.inl rfl,fun m e=>?_,by rw[h];exact hL.hh⟩;have q:=hL.lp m e;have q1:=q.len;have q2:=q.ld;exact⟨q.aA,by omega,by omega⟩
   .exact⟨none,.inr (.inr (.inl ⟨rfl,rfl⟩)),fun m e=>(by cases e),h⟩
   .exact⟨some (fC kn wn),.inr (.inl rfl),fun m e=>by cases e;exact⟨hk6,Nat.zero_le _,Nat.zero_le _⟩,h⟩
 cases o with
 |none=>
  have hs:Sep [En p dp none,Dk dp d,own H0,af b1 (Oq (cO ⟨x1,x2,x3,A,nA,mA,l,G,nG,mG,ks⟩).toArray 37)] H:=hs;by_cases e12:x1=1\/x1=2
  .rcases e12 with e|e<;>subst e<;>(repeat first|refine aL rfl ?_|refine aK (by decide) ?_)
   all_goals
    try simp only[HS]
    refine hs.ld 3 (v:=.slice A nA mA) rfl rfl ?_;simp only[HV];refine(Gb (p:=p) (dp:=dp) (A:=A) (n:=nA) (mm:=mA)).use hs [0] rfl rfl ?_;rintro _ _ H ⟨rfl,rfl⟩ hs;simp only[HV];exact same 5 H (.ur (by first|exact .inl rfl|exact .inr rfl)) (hs.re [0,1,2] rfl)
  by_cases e3:x1=3
  .subst e3
   repeat first|refine aL rfl ?_|refine aK (by decide) ?_
   try simp only[HS]
   refine hs.ld 3 (v:=I x2) rfl rfl ?_;simp only[HV];refine(CZ (p:=p) (dp:=dp) x2).use hs [0] rfl rfl ?_;rintro _ _ H ⟨rfl,rfl⟩ hs;simp only[HV];exact same 5 H (.uN rfl) (hs.re [0,1,2] rfl)
  by_cases e4:x1=4\/x1=5\/x1=6\/x1=7
  .have h4:=e4;rcases e4 with e|e|e|e<;>subst e<;>(repeat first|refine aL rfl ?_|refine aK (by decide) ?_)
   all_goals
    refine(Gm (p:=p) (dp:=dp)).use hs [0] rfl rfl ?_;rintro _ _ H ⟨rfl,rfl⟩ hs;simp only[HV];exact same 5 H (.uV h4) (hs.re [0,1,2] rfl)
  by_cases e8:x1=8
  .subst e8
   repeat first|refine aL rfl ?_|refine aK (by decide) ?_
   refine(qh (p:=p) (dp:=dp) (g:=none) hL.cl hL.aa hops (o:=none) hL.hh).use hs [0,1] rfl rfl ?_;rintro _ _ H (⟨d',_,hw,hc,rfl,rfl⟩|⟨d',m4,hm4,_⟩|⟨d',hcut,_,hleft,rfl,rfl⟩) hs
   .simp only[HV];exact live 11 none [] none 0 0 d' c 0 (fun _=>True) H (.sR rfl) rfl (fun H _=>Cells.qb H _) (hL.mT hw (by omega) hc) hw.sec hw.size (fun _ hf=>hw.calm hf) (fun m e=>(by cases e)) (unit none 0 _ _ (hs.re [0,1,2] rfl))
   .cases hm4
   .simp only[HV];refine dead 11 none [] d' H (.sR rfl) (by decide) (by decide) (.inl rfl) (by have:=hcut.pos;omega) (hL.cut hcut (by omega) (hleft.mono fun c' h=>⟨none,.inl rfl,fun m e=>(by cases e),by rw[h];exact hL.hh⟩)) (hs.re [0,1,2] rfl)
  by_cases e9:x1=9
  .subst e9
   repeat first|refine aL rfl ?_|refine aK (by decide) ?_
   try simp only[HS]
   refine(ta (p:=dp) (d:=d)).use hs [1] rfl rfl ?_;rintro _ _ H ⟨rfl,rfl⟩ hs
   try simp only[HV]
   try simp only[HS]
   refine hs.ld 3 (v:=.slice G nG mG) rfl rfl ?_;simp only[HV];obtain⟨hok3,hdom3,_⟩:=hL.cl.again;refine(yL (p:=dp) hok3 hdom3 rfl G nG mG ks hnG (own H0) (fun H h=>hks.le h)).use hs [0,2] rfl rfl ?_;rintro _ _ H ⟨kk,hkk',rfl,rfl⟩ hs;simp only[HV];exact live 0 none [] none 0 0 _ c 0 (fun _=>True) H (.vS (.inr (.inl rfl))) rfl (fun H _=>Cells.qb H _) ((hL.again hkk' ks).up (by omega)) rfl rfl (fun _ _=>rfl) (fun m e=>(by cases e)) (unit none 0 _ _ (hs.re [2,0,1] rfl))
  by_cases e10:x1=10
  .subst e10
   repeat first|refine aL rfl ?_|refine aK (by decide) ?_
   try simp only[HS]
   refine hs.ld 3 (v:=I x2) rfl rfl ?_;simp only[HV];refine(ve (p:=dp) (d:=d) x2).use hs [1] rfl rfl ?_;rintro _ _ H ⟨rfl,rfl⟩ hs
   try simp only[HV]
   exact live 0 none [] none 0 0 _ c 0 (fun _=>True) H (.vS (.inr (.inr (.inl rfl)))) rfl (fun H _=>Cells.qb H _) ((hL.pJ x2.toNat (by omega)).up (by omega)) rfl rfl (fun h _=>absurd rfl h) (fun m e=>(by cases e)) (unit none 0 _ _ (hs.re [1,0,2] rfl))
  by_cases e11:x1=11
  .subst e11
   repeat first|refine aL rfl ?_|refine aK (by decide) ?_
   refine(yO (p:=p) (dp:=dp)).use hs [0] rfl rfl ?_;rintro _ _ H ⟨rfl,rfl⟩ hs;simp only[HV];exact same 11 H (.uJ rfl) (hs.re [0,1,2] rfl)
  by_cases e12:x1=12
  .subst e12
   repeat first|refine aL rfl ?_|refine aK (by decide) ?_
   refine(xr (p:=p) (dp:=dp)).use hs [0] rfl rfl ?_;rintro _ _ H ⟨rfl,rfl⟩ hs;simp only[HV];exact same 12 H (.uK rfl) (hs.re [0,1,2] rfl)
  repeat refine aK (by omega) ?_
  exact same 0 H (.vS (by show x1<0\/x1=9\/x1=10\/12<x1;omega)) (hs.re [0,1,2] rfl)
 |some m=>
  have hV:=hL.lp m rfl;have hsm:=hV.small (by omega);have hkk:m.r.kk<=14:=by have:=(Mn.nK hV.hh).2.2;have:=hV.aA;omega
  have hlen:=hV.len;have hld:=hV.ld;have hmost:=hV.aA;have hpk:pk<=(m.aO:Int):=hpk m rfl;have hs:Sep [En p dp (some (bE d m pk)),Dk dp d,own H0,af b1 (Oq (cO ⟨x1,x2,x3,A,nA,mA,l,G,nG,mG,ks⟩).toArray 37)] H:=hs;have pW:∀ m',some m=some m'->m'.aA<=6/\m'.L.length<=N+2/\m'.r.ld<=N+2:=fun m' e=>by cases e;exact⟨hmost,by omega,by omega⟩
  have two:∀(d':D) (n:Nat) (m':Mn),n<=3000->gp d d' n->m'.aA=m.aA->m'.L.length<=N+2->m'.r.ld<=N+2->Left d' (fun c'=>Holds d.sec d.size m c'\/Holds d.sec d.size m' c')->Dd (N+2) d.sec d.size d' (dm (some m) ⟨x1,x2,x3,A,nA,mA,l,G,nG,mG,ks⟩ (some m')):=fun d' n m' h1 h2 h4 h5 h6 h7=>
   hL.cut h2 h1 (h7.mono fun c' h=>by
    rcases h with h|h
    .exact⟨some m,.inl rfl,pW,h⟩
    .exact⟨some m',.inr (.inl rfl),fun m2 e=>by cases e;exact⟨by omega,h5,h6⟩,h⟩)
  have one:∀(d':D) (n:Nat),n<=3000->gp d d' n->Left d' (fun c'=>c'=c)->Dd (N+2) d.sec d.size d' (dm (some m) ⟨x1,x2,x3,A,nA,mA,l,G,nG,mG,ks⟩ (some m)):=fun d' n h1 h2 h7=>
   hL.cut h2 h1 (h7.mono fun c' h=>⟨some m,.inl rfl,pW,by rw[h];exact hV.hh⟩)
  have hrdc:∀ i,Ee m (d.size/8) i<=128:=fun i=>by
   have h1:=M3 (m:=m) (i:=i) (show 1<=d.size/8 by have:=hV.hh.aa;omega);have h2:=zr hV.kk;omega
  by_cases e12:x1=1\/x1=2
  .have hdec:(x1=1\/x1=2):=e12;have load:∀ H,Sep [En p dp (some (bE d m pk)),Dk dp d,own H0,af b1 (Oq (cO ⟨x1,x2,x3,A,nA,mA,l,G,nG,mG,ks⟩).toArray 37)] H->
     ae prog 70 #[V p,.slice A nA mA] H fun v H=>eO v fun vs=>ay vs fun i vs=>DI .i64 i fun _=>ay vs fun e vs=>DI .i64 e fun e=>bK vs (∃ M,(∃ e' o' w',Ef d.sec (d.size/8) (some m) ⟨x1,x2,x3,A,nA,mA,l,G,nG,mG,ks⟩ e' o' w'/\(uh p dp N d ⟨x1,x2,x3,A,nA,mA,l,G,nG,mG,ks⟩ H0 e' o' w' (.tuple #[I e,.slice none 0 0]) M\/ug p dp N d ⟨x1,x2,x3,A,nA,mA,l,G,nG,mG,ks⟩ H0 (some m) e' o' (.tuple #[I e,.slice none 0 0]) M))/\Sep M H):=fun H hs=>by
    have h64:∀ k:Nat,k<=m.aA->2^k<=64:=fun k hk=>zr (by omega)
    have hs:Sep [En p dp (some (bE d m pk)),Dk dp d,own H0,(fun _=>True),af b1 (Oq (cO ⟨x1,x2,x3,A,nA,mA,l,G,nG,mG,ks⟩).toArray 37)] H:=by
     have:=(Sep.unit (X:=fun _=>True) hs trivial);exact this.re [1,2,3,0,4] rfl
    refine(Dp (p:=p) (dp:=dp) hV.cl hV.hh hsm.1 hsm.2 hpk (l:=l) (A:=A) (n:=nA) (mm:=mA) (RR:=own H0) (TT:=fun _=>True) hnA hmA (by omega) (fun H' h=>hcA.le h) (.inr fun H' h=>hT.le h)).use hs [0,1,2,3] rfl rfl ?_;rintro _ _ H (⟨k',i,e,hchk,hne,rfl,rfl⟩|⟨k',hk',hkm,hcan,hq⟩) hs
    .simp only[HV];exact same e H (.B3 hdec hchk hne) (hs.re [0,1,2] rfl)
    have hper:=hV.hh.aa;have h64:=h64 k' hkm;have hb1:=yF (d.size/8) k';have hb2:=yG (d.size/8) k';have hb3:=vo (aa:=d.size/8) (w:=2^k') (by omega) (Nat.two_pow_pos k');have h1r:(bG m k').r=fL m k':=Mn.fg _ _;have h2r:(cH m k' l).r=gX (bG m k') k' l:=Mn.fg _ _;have hld0:(bG m k').r.ld=m.r.ld+1:=by rw[h1r];rfl
    have hld1:(cH m k' l).r.ld=m.r.ld+1:=by rw[h2r];exact hld0
    have hlen0:(bG m k').L.length=m.L.length+1:=by show(m.L++[_]).length=_;simp
    have hlen1:(cH m k' l).L.length=m.L.length+2:=by show((m.L++[_])++[_]).length=_;simp
    rcases hq with⟨d1,c1,pk1,hpk1,hw1,hc1,hh1,rfl,rfl⟩|⟨d1,hcut,hleft,rfl,rfl⟩
    .simp only[HV];exact live 0 (some (cH m k' l)) [] none 0 0 d1 c1 pk1 (fun _=>True) H (.ld hdec ⟨hk',hkm,hcan⟩) rfl (fun H _=>Cells.qb H _) (Lo.of (hV.mT hw1 (by unfold tS tT;omega) hc1 hh1 rfl (by omega) (by omega))) hw1.sec hw1.size (fun _ hf=>hw1.calm hf) (fun m e=>by cases e;exact hpk1) (hs.re [0,1,3,2] rfl)
    .simp only[HV];refine dead 0 (some (cH m k' l)) [] d1 H (.ld hdec ⟨hk',hkm,hcan⟩) (by omega) (by omega) (.inr rfl) (by have:=hcut.pos;omega) (hL.cut hcut (by unfold tS tT;omega) (hleft.mono fun c' h=>?_)) (hs.re [0,1,2] rfl);rcases h with h|h|h
     .exact⟨some m,.inl rfl,pW,h⟩
     .exact⟨some (bG m k'),.inr (.inr (.inr ⟨hdec,m,k',rfl,⟨hk',hkm,hcan⟩,rfl⟩)),fun m2 e=>by cases e;exact⟨hmost,by omega,by omega⟩,h⟩
     .exact⟨some (cH m k' l),.inr (.inl rfl),fun m2 e=>by cases e;exact⟨hmost,by omega,by omega⟩,h⟩
   rcases e12 with e|e<;>subst e<;>(repeat first|refine aL rfl ?_|refine aK (by decide) ?_)
   all_goals
    try simp only[HS]
    refine hs.ld 3 (v:=.slice A nA mA) rfl rfl ?_;simp only[HV];refine(load _ hs).mono fun v H h=>?_
    exact h
  by_cases e3:x1=3
  .subst e3
   repeat first|refine aL rfl ?_|refine aK (by decide) ?_
   try simp only[HS]
   refine hs.ld 3 (v:=I x2) rfl rfl ?_;simp only[HV];refine(zD (p:=p) (dp:=dp) hV.cl hV.hh hsm.1 hsm.2 hpk x2).use hs [0,1] rfl rfl ?_;rintro _ _ H (⟨h2,h4,rfl,rfl⟩|⟨h2,hn,rfl,rfl⟩|⟨h2,b,hb,⟨d',c',hw,hc,hh,rfl,rfl⟩|⟨d',hcut,hleft,rfl,rfl⟩⟩) hs
   .simp only[HV];exact same 5 H (.Cy rfl h2 h4) (hs.re [0,1,2] rfl)
   .simp only[HV];exact same 18 H (.yp rfl h2 hn) (hs.re [0,1,2] rfl)
   .simp only[HV];refine live 0 (some (m.add (eG m b))) [] none 0 0 d' c' pk (fun _=>True) H (.sb rfl h2 hb) rfl (fun H _=>Cells.qb H _) (Lo.of (hV.mT hw (by omega) hc hh rfl ?_ ?_)) hw.sec hw.size (fun _ hf=>hw.calm hf) (fun m2 e=>by cases e;exact hpk) (unit _ _ _ _ (hs.re [0,1,2] rfl))
    .show(m.L++[_]).length<=_;simp;omega
    .rw[Mn.fg];show m.r.ld<=_;omega
   .simp only[HV];refine dead 0 (some (m.add (eG m b))) [] d' H (.sb rfl h2 hb) (by decide) (by decide) (.inr rfl) (by have:=hcut.pos;omega) (two d' _ (m.add (eG m b)) (by omega) hcut rfl ?_ ?_ hleft) (hs.re [0,1,2] rfl)
    .show(m.L++[_]).length<=_;simp;omega
    .rw[Mn.fg];show m.r.ld<=_;omega
  by_cases e4:x1=4\/x1=5\/x1=6\/x1=7
  .have h4:=e4;rcases e4 with e|e|e|e<;>subst e<;>(repeat first|refine aL rfl ?_|refine aK (by decide) ?_)
   all_goals
    refine(Dw (p:=p) (dp:=dp) (TT:=own H0) (fun H h=>hT.le h) hV.cl hV.hh hsm.1 hsm.2 hpk hkk).use hs [0,1,2] rfl rfl ?_;rintro _ _ H (⟨h3,rfl,rfl⟩|⟨h3,r,w,hC,⟨d',c',pk',hpk',hw,hc,hh,rfl,rfl⟩|⟨d',hcut,hleft,rfl,rfl⟩⟩) hs
    .simp only[HV];exact same 5 H (.CF h4 h3) (hs.re [0,1,2] rfl)
    .simp only[HV];exact live 0 (some (m.add (dk m (d.size/8)))) [] none 0 0 d' c' pk' (fun _=>True) H (.st h4 h3) rfl (fun H _=>Cells.qb H _) (Lo.of (hV.EC hC hw hc hh)) hw.sec hw.size (fun _ hf=>hw.calm hf) (fun m2 e=>by cases e;exact hpk') (unit _ _ _ _ (hs.re [0,1,2] rfl))
    .simp only[HV];have hkl:r<=2000/\w<=900:=by
      have h1:=hC.le (by have:=hV.hh.aa;omega) (by have:=hV.kk;omega) (Nat.le_trans (qx (by have:=(Mn.nK hV.hh).2.2;omega)) hV.hh.least);have h2:=zr hV.kk;omega
     refine dead 0 (some (m.add (dk m (d.size/8)))) [] d' H (.st h4 h3) (by decide) (by decide) (.inr rfl) (by have:=hcut.pos;omega) (two d' _ (m.add (dk m (d.size/8))) (by omega) hcut rfl ?_ ?_ hleft) (hs.re [0,1,2] rfl)
     .show(m.L++[_]).length<=_;simp;omega
     .rw[Mn.fg];show m.r.ld<=_;omega
  by_cases e8:x1=8
  .subst e8
   repeat first|refine aL rfl ?_|refine aK (by decide) ?_
   refine(qh (p:=p) (dp:=dp) (g:=some (bE d m pk)) hV.cl hV.aa hsm.2 (o:=some m) hV.hh).use hs [0,1] rfl rfl ?_;rintro _ _ H (⟨_,h,_⟩|⟨d',m4,hm4,hw,hc,rfl,rfl⟩|⟨d',hcut,_,hleft,rfl,rfl⟩) hs
   .cases h
   .cases hm4;simp only[HV];exact live 0 (some m) [] none 0 0 d' c 0 (fun _=>True) H (.rc rfl) rfl (fun H _=>Cells.qb H _) (hL.mT hw (by omega) hc) hw.sec hw.size (fun _ hf=>hw.calm hf) (fun m2 e=>by cases e;exact Int.natCast_nonneg _) (unit _ _ _ _ (hs.re [0,1,2] rfl))
   .simp only[HV];exact dead 0 (some m) [] d' H (.rc rfl) (by decide) (by decide) (.inr rfl) (by have:=hcut.pos;omega) (one d' _ (by omega) hcut hleft) (hs.re [0,1,2] rfl)
  by_cases e9:x1=9
  .subst e9
   repeat first|refine aL rfl ?_|refine aK (by decide) ?_
   try simp only[HS]
   refine(ta (p:=dp) (d:=d)).use hs [1] rfl rfl ?_;rintro _ _ H ⟨rfl,rfl⟩ hs
   try simp only[HV]
   try simp only[HS]
   refine hs.ld 3 (v:=.slice G nG mG) rfl rfl ?_;simp only[HV];obtain⟨hok3,hdom3,_⟩:=hV.cl.again;refine(yL (p:=dp) hok3 hdom3 rfl G nG mG ks hnG (own H0) (fun H h=>hks.le h)).use hs [0,2] rfl rfl ?_;rintro _ _ H ⟨kk,hkk',rfl,rfl⟩ hs;simp only[HV];exact live 0 (some m) [] none 0 0 _ c pk (fun _=>True) H (.vS (.inr (.inl rfl))) rfl (fun H _=>Cells.qb H _) ((hL.again hkk' ks).up (by omega)) rfl rfl (fun _ _=>rfl) (fun m2 e=>by cases e;exact hpk) (unit _ _ _ _ (hs.re [2,0,1] rfl))
  by_cases e10:x1=10
  .subst e10
   repeat first|refine aL rfl ?_|refine aK (by decide) ?_
   try simp only[HS]
   refine hs.ld 3 (v:=I x2) rfl rfl ?_;simp only[HV];refine(ve (p:=dp) (d:=d) x2).use hs [1] rfl rfl ?_;rintro _ _ H ⟨rfl,rfl⟩ hs
   try simp only[HV]
   exact live 0 (some m) [] none 0 0 _ c pk (fun _=>True) H (.vS (.inr (.inr (.inl rfl)))) rfl (fun H _=>Cells.qb H _) ((hL.pJ x2.toNat (by omega)).up (by omega)) rfl rfl (fun h _=>absurd rfl h) (fun m2 e=>by cases e;exact hpk) (unit _ _ _ _ (hs.re [1,0,2] rfl))
  have rows:∀(w:List UInt64) (b mm:Nat) (H:Hp),af b (.row (ah w) 108 mm) H->Cells H (Oo b) (ah w):=fun w b mm H h=>by
   have:=Cells.row h 0 (ah w).length
   rwa [List.drop_zero,List.take_length]at this
  by_cases e11:x1=11
  .subst e11
   repeat first|refine aL rfl ?_|refine aK (by decide) ?_
   refine(BC (p:=p) (dp:=dp) hV.cl hV.hh hsm.2 hpk).use hs [0,1] rfl rfl ?_;rintro _ _ H (⟨h2,rfl,rfl⟩|⟨h2,⟨d',b,mm,pk',h1,hw,hc,rfl,rfl⟩|⟨d',hcut,hleft,rfl,rfl⟩⟩) hs
   .simp only[HV];exact same 11 H (.Cv rfl h2) (hs.re [0,1,2] rfl)
   .simp only[HV];exact live 0 (some m) m.da (Oo b) m.da.length m.da.length d' c pk' (af b (.row (ah m.da) 108 mm)) H (.ri rfl h2) rfl (fun H h=>rows _ _ _ H h) (hL.mT hw (by have:=hrdc 0;omega) hc) hw.sec hw.size (fun _ hf=>hw.calm hf) (fun m2 e=>by cases e;exact h1) (hs.re [0,1,2,3] rfl)
   .simp only[HV];exact dead 0 (some m) m.da d' H (.ri rfl h2) (by decide) (by decide) (.inr rfl) (by have:=hcut.pos;omega) (one d' _ (by have:=hrdc 0;omega) hcut hleft) (hs.re [0,1,2] rfl)
  by_cases e12':x1=12
  .subst e12'
   repeat first|refine aL rfl ?_|refine aK (by decide) ?_
   refine(tO (p:=p) (dp:=dp) hV.cl hV.hh hsm.2 hpk).use hs [0,1] rfl rfl ?_;rintro _ _ H (⟨h4,rfl,rfl⟩|⟨h4,⟨d',b,mm,pk',h1,hw,hc,rfl,rfl⟩|⟨d',hcut,hleft,rfl,rfl⟩⟩) hs
   .simp only[HV];exact same 12 H (.Cw rfl h4) (hs.re [0,1,2] rfl)
   .simp only[HV];exact live 0 (some m) (k9 m (d.size/8)) (Oo b) (k9 m (d.size/8)).length (k9 m (d.size/8)).length d' c pk' (af b (.row (ah (k9 m (d.size/8))) 108 mm)) H (.ro rfl h4) rfl (fun H h=>rows _ _ _ H h) (hL.mT hw (by have:=hrdc 3;omega) hc) hw.sec hw.size (fun _ hf=>hw.calm hf) (fun m2 e=>by cases e;exact h1) (hs.re [0,1,2,3] rfl)
   .simp only[HV];exact dead 0 (some m) (k9 m (d.size/8)) d' H (.ro rfl h4) (by decide) (by decide) (.inr rfl) (by have:=hcut.pos;omega) (one d' _ (by have:=hrdc 3;omega) hcut hleft) (hs.re [0,1,2] rfl)
  repeat refine aK (by omega) ?_
  exact same 0 H (.vS (by show x1<0\/x1=9\/x1=10\/12<x1;omega)) (hs.re [0,1,2] rfl)
theorem iz (m:Mn)(aa:Nat):stM m aa=1\/stM m aa=2\/stM m aa=3\/stM m aa=4:=by
 unfold stM;split
 .omega
 .split
  .omega
  .split<;>omega
def dj (aa:Nat):Option Mn->S6
 |none=>z6
 |some m=>if stM m aa=1 then(1,m.r.ld,0,0,0,0)else if stM m aa=2 then(2,m.r.ld,m.r.kk,0,0,0)else(stM m aa,m.r.ld,m.r.kk,m.r.dir,m.r.ps,(cE m aa m.r).length)
def q9 :Option Mn->Nat|none=>0|some m=>m.aA
def rO :Option Mn->Nat|none=>0|some m=>m.aO
def uu :Option Mn->Nat|none=>0|some m=>m.r.ld
def gq (sec:Nat)(o:Option Mn)(A:OA)(n m:Nat):Array Value:=fO (dj (32/8) o) (q9 o) (rO o) sec 32 (uu o) A n m
abbrev dE (sec:Nat)(o:Option Mn)(A:OA)(n m:Nat):AO:=Oq (gq sec o A n m) 33
def kz (o:Option Mn)(R:As)(A:OA)(n:Nat):Prop:=∀ m,o=some m->2<=stM m (32/8)->n=m.da.length/\∀ H,R H->Cells H A (ah m.da)
theorem kz.mono {o:Option Mn}{R R':As}{A:OA}{n:Nat}(h:kz o R A n)(k:∀ H,R' H->∃ H1,R H1/\H1.le H):kz o R' A n:=fun m hm hs=>⟨(h m hm hs).1,fun H hR=>by
 obtain⟨H1,h1,h2⟩:=k H hR;exact((h m hm hs).2 H1 h1).le h2⟩
theorem gL (aa:Nat)(m:Mn):dj aa (some m)=if stM m aa=1 then(1,(m.r.ld:Int),0,0,0,0)else if stM m aa=2 then(2,(m.r.ld:Int),m.r.kk,0,0,0)else(stM m aa,(m.r.ld:Int),m.r.kk,m.r.dir,m.r.ps,((cE m aa m.r).length:Int)):=rfl
theorem iL {aa:Nat}{m:Mn}:(dj aa (some m)).1=stM m aa:=by
 rw[gL];by_cases h1:stM m aa=1
 .rw[if_pos h1,h1]
 .rw[if_neg h1];by_cases h2:stM m aa=2
  .rw[if_pos h2,h2]
  .rw[if_neg h2]
def vk (sec:Nat)(e:Int)(o':Option Mn)(w:List UInt64)(RO:As)(H0:Hp)(v:Value)(M:List As):Prop:=
 ∃(X:As) (A':OA) (n' m':Nat) (B:OA) (nB mB:Nat),v= .tuple #[.agg (gq sec o' A' n' m'),I e,.slice B nB mB]/\(kz o' X A' n'\/kz o' RO A' n')/\nB=w.length/\((∀ H,X H->Cells H B (ah w))\/∀ H,RO H->Cells H B (ah w))/\M=[X,RO,own H0]
theorem JE {s:S6}{mo ar sc sz ld:Int}{A:OA}{n m:Nat}{L:List As}{H:Hp}{b3 j:Nat}{y:Array Value}{Q:List Value->Hp->Prop}(hs:Sep L H)(hj:L[j]? =some (af b3 (Oq y 33)))(hy:y.size=12)
  (k:∀ b4 H,Sep ((L.set j (af b3 (gI s mo ar sc sz ld A n m)))++[af b4 (gI s mo ar sc sz ld A n m)]) H->Q (fO s mo ar sc sz ld A n m).toList H):
  Nw H iO fun b4 H5=>bR H5 (O b4) (fO s mo ar sc sz ld A n m) 12 fun H6=>aJ H6 (O b4) 12 fun l5=>bR H6 (O b3) l5.toArray 12 fun H7=>aJ H7 (O b3) 12 fun l6=>Q l6 H7:=by
 have hlt:=(List.getElem?_eq_some_iff.1 hj).1;refine hs.nw fun b4 H hs=>?_
 refine hs.dW L.length (y:=fO s mo ar sc sz ld A n m) (by rw[List.getElem?_append_right (Nat.le_refl _),Nat.sub_self];rfl) rfl rfl rfl fun H hs=>?_;have e1:(L++[af b4 iO]).set L.length (af b4 (gI s mo ar sc sz ld A n m))=L++[af b4 (gI s mo ar sc sz ld A n m)]:=by
  rw[List.set_append_right _ _ (Nat.le_refl _),Nat.sub_self];rfl
 have hs:Sep (L++[af b4 (gI s mo ar sc sz ld A n m)]) H:=e1▸hs;refine hs.bd L.length (by rw[List.getElem?_append_right (Nat.le_refl _),Nat.sub_self];rfl) rfl ?_;refine hs.dW j (y:=fO s mo ar sc sz ld A n m) (by rw[List.getElem?_append_left hlt];exact hj) hy rfl rfl fun H hs=>?_;have e2:(L++[af b4 (gI s mo ar sc sz ld A n m)]).set j (af b3 (gI s mo ar sc sz ld A n m))=(L.set j (af b3 (gI s mo ar sc sz ld A n m)))++[af b4 (gI s mo ar sc sz ld A n m)]:=List.set_append_left _ _ hlt;rw[e2]at hs;refine hs.bd j (by rw[List.getElem?_append_left (by rw[List.length_set];exact hlt)];exact List.getElem?_set_self hlt) rfl ?_;exact k b4 H hs
theorem MQ (sec kn wn:Nat):fO (1,0,0,0,0,0) kn wn sec 32 0 .none 0 0=gq sec (some (fC kn wn)) .none 0 0:=rfl
theorem K7 (sec:Nat)(m:Mn)(k:Nat)(l:List UInt64)(A:OA)(n mm:Nat):fO (2,((m.r.ld:Nat):Int)+1,k,0,0,0) m.aA m.aO sec 32 (((m.r.ld:Nat):Int)+1) A n mm=gq sec (some (cH m k l)) A n mm:=by
 have h1r:(bG m k).r=fL m k:=Mn.fg _ _;have h2r:(cH m k l).r=gX (bG m k) k l:=Mn.fg _ _;have e:stM (cH m k l) (32/8)=2:=by unfold stM;rw[if_pos (by rw[h2r];rfl)]
 have hl:(cH m k l).r.ld=m.r.ld+1:=by rw[h2r];show(bG m k).r.ld=_;rw[h1r];rfl
 have hk:(cH m k l).r.kk=k:=by rw[h2r];rfl
 have hl':((cH m k l).r.ld:Int)=(m.r.ld:Int)+1:=by rw[hl];omega
 show _=fO (dj (32/8) (some (cH m k l))) m.aA m.aO sec 32 ((cH m k l).r.ld:Int) A n mm
 rw[gL,e,if_neg (by decide),if_pos rfl,hl',hk]
theorem La (sec:Nat)(m:Mn)(k:Nat):fO (1,((m.r.ld:Nat):Int)+1,0,0,0,0) m.aA m.aO sec 32 (((m.r.ld:Nat):Int)+1) .none 0 0=gq sec (some (bG m k)) .none 0 0:=by
 have h1r:(bG m k).r=fL m k:=Mn.fg _ _;have e:stM (bG m k) (32/8)=1:=by unfold stM;rw[h1r];rfl
 have hl:(bG m k).r.ld=m.r.ld+1:=by rw[h1r];rfl
 have hl':((bG m k).r.ld:Int)=(m.r.ld:Int)+1:=by rw[hl];omega
 show _=fO (dj (32/8) (some (bG m k))) m.aA m.aO sec 32 ((bG m k).r.ld:Int) .none 0 0
 rw[gL,e,if_pos rfl,hl']
theorem K9 (sec:Nat)(m:Mn)(b:Bool)(A:OA)(n mm:Nat)(h0:0<=m.r.kk):fO (3,m.r.ld,(m.r.kk.toNat:Int),if b=true then 1 else 0,0,(dz b m.r.kk.toNat (32/8) m.aO).length) m.aA m.aO sec 32 m.r.ld A n mm=gq sec (some (m.add (eG m b))) A n mm:=by
 have hr:(m.add (eG m b)).r=eG m b:=Mn.fg _ _;have hp:cE (m.add (eG m b)) (32/8) (eG m b)=dz b m.r.kk.toNat (32/8) m.aO:=by
  cases b<;>rfl
 have hl:=(kP b m.r.kk.toNat (32/8) m.aO).1;have e:stM (m.add (eG m b)) (32/8)=3:=by
  unfold stM;rw[hr,hp,if_neg (by show(3:Int)≠2;decide),if_neg (by show ¬(3:Int)<3;decide),if_pos (by show(0:Int)<_;omega)]
 show _=fO (dj (32/8) (some (m.add (eG m b)))) m.aA m.aO sec 32 ((m.add (eG m b)).r.ld:Int) A n mm
 rw[gL,e,if_neg (show ¬(3:Int)=1 by decide),if_neg (show ¬(3:Int)=2 by decide),hr,hp,Int.toNat_of_nonneg h0];rfl
theorem K8 (sec:Nat)(m:Mn)(A:OA)(n mm:Nat)(h3:stM m (32/8)=3):fO (if m.r.ps+1=((cE m (32/8) m.r).length:Int)then 4 else 3,m.r.ld,m.r.kk,m.r.dir,m.r.ps+1,(cE m (32/8) m.r).length) m.aA m.aO sec 32 m.r.ld A n mm=gq sec (some (m.add (dk m (32/8)))) A n mm:=by
 have hr:(m.add (dk m (32/8))).r=dk m (32/8):=Mn.fg _ _;have hp:cE (m.add (dk m (32/8))) (32/8) (dk m (32/8))=cE m (32/8) m.r:=Am m _ m.r _ rfl rfl _;have hlt:m.r.ps<((cE m (32/8) m.r).length:Int):=by
  unfold stM at h3;split at h3
  .omega
  .split at h3
   .omega
   .split at h3
    .assumption
    .omega
 have e:stM (m.add (dk m (32/8))) (32/8)=if m.r.ps+1=((cE m (32/8) m.r).length:Int)then 4 else 3:=by
  unfold stM;rw[hr,hp,if_neg (by show(4:Int)≠2;decide),if_neg (by show ¬(4:Int)<3;decide)];show(if m.r.ps+1<_ then(3:Int)else 4)=_
  by_cases h:m.r.ps+1=((cE m (32/8) m.r).length:Int)
  .rw[if_neg (by omega),if_pos h]
  .rw[if_pos (by omega),if_neg h]
 show _=fO (dj (32/8) (some (m.add (dk m (32/8))))) m.aA m.aO sec 32 ((m.add (dk m (32/8))).r.ld:Int) A n mm
 rw[gL,e,hr,hp];by_cases h:m.r.ps+1=((cE m (32/8) m.r).length:Int)
 .rw[if_pos h,if_neg (by decide),if_neg (by decide)];rfl
 .rw[if_neg h,if_neg (by decide),if_neg (by decide)];rfl
theorem sU {aa:Nat}{m:Mn}(h:3<=stM m aa:=by omega):dj aa (some m)=(stM m aa,(m.r.ld:Int),m.r.kk,m.r.dir,m.r.ps,((cE m aa m.r).length:Int)):=by
 rw[gL,if_neg (by omega),if_neg (by omega)]
theorem Lo.da {N:Nat}{d:D}{c:Cn}{m:Mn}(hL:Lo N d c (some m)){aa:Nat}(hs:2<=stM m aa):m.da.length=2^m.r.kk.toNat/\lN m.da:=by
 have hV:=hL.lp m rfl;have hk:2<=m.r.kd:=qM.1 hs;have hr:=Mn.rm (m:=m);have q:=hV.hh.da _ hr hk;exact⟨q.len,q.can⟩
theorem wN {N:Nat}{d:D}{c:Cn}{m:Mn}(hL:Lo N d c (some m)): -1000<=(dj (32/8) (some m)).2.2.2.2.1/\(dj (32/8) (some m)).2.2.2.2.1<=1000:=by
 have hV:=hL.lp m rfl;by_cases h:3<=stM m (32/8)
 .rw[sU h];show -1000<=m.r.ps/\m.r.ps<=1000
  rcases(Mn.nK hV.hh).1 with e|e
  .rw[e];decide
  .have h2:=e.2.2.2.2.2;omega
 .rw[gL];have:=iz m (32/8);by_cases h1:stM m (32/8)=1
  .rw[if_pos h1];show -1000<=(0:Int)/\(0:Int)<=1000;decide
  .rw[if_neg h1,if_pos (by omega)];show -1000<=(0:Int)/\(0:Int)<=1000;decide
set_option maxHeartbeats 4000000 in
theorem Dx {N:Nat}{d:D}{c:Cn}{o:Option Mn}{a:eQ}{e:Int}{o':Option Mn}{w:List UInt64}{H0:Hp}{A:OA}{n mm:Nat}{RO:As}(hL:Lo N d c o)(hN:N<=390)(hsz:d.size=32)(hsec:d.sec<=1000000)(hE:Ef d.sec (32/8) o a e o' w)(h8:a.k≠8)(ha:tM H0 a)(hsh:ma a)(hI:kz o RO A n):
  Tr prog 19 #[.agg (gq d.sec o A n mm),.agg (cO a).toArray] [RO,own H0] (vk d.sec e o' w RO H0):=fun H hs=>by
 obtain⟨x1,x2,x3,A1,nA,mA,l,G,nG,mG,ks⟩:=a;have hnA:nA=l.length:=ha.nA;have hcA:Cells H0 A1 (ah l):=ha.l;have hl32:nA<=32:=hsh.1;have ldb:(uu o:Int)<=390:=by
  cases o with
  |none=>show((0:Nat):Int)<=_;omega
  |some m=>have:=(hL.lp m rfl).ld;show((m.r.ld:Nat):Int)<=_;omega
  -- what an answer without words leaves
 have fin:∀(e':Int) (o2:Option Mn) (A':OA) (n' m':Nat) (X:As) (H:Hp),e'=e->o2=o'->w=[]->(kz o2 X A' n'\/kz o2 RO A' n')->Sep [X,RO,own H0] H->∃ M,vk d.sec e o' w RO H0 (.tuple #[.agg (gq d.sec o2 A' n' m'),I e',.slice none 0 0]) M/\Sep M H:=fun e' o2 A' n' m' X H h1 h2 h3 h4 hs=>by
  subst h1 h2 h3;exact⟨_,⟨X,A',n',m',none,0,0,rfl,h4,rfl,.inl fun H _=>Cells.qb H _,rfl⟩,hs⟩
 have tru:∀(H:Hp),Sep [RO,own H0] H->Sep [(fun _=>True),RO,own H0] H:=fun H hs=>Sep.unit (X:=fun _=>True) hs trivial
 have noIn:∀(o2:Option Mn),(∀ m,o2=some m->stM m (32/8)<2)->kz o2 RO .none 0:=fun o2 h m hm hs=>by have:=h m hm;omega
 apply aQ.ok;unfold aQ aQ.q4 aQ.q3 aQ.q3.q1 aQ.q2 aQ.q1 aQ.q1.q1;refine hs.nw fun b1 H hs=>?_
 refine hs.nw fun b2 H hs=>?_
 refine hs.nw fun b3 H hs=>?_
 have hs:Sep [RO,own H0,af b1 (dE d.sec o A n mm),af b2 (Oq (cO ⟨x1,x2,x3,A1,nA,mA,l,G,nG,mG,ks⟩).toArray 37),af b3 iO] H:=hs
 try simp only[HS]
 refine hs.ld 3 (v:=I x1) rfl rfl ?_;simp only[HV]
  -- the machine is handed back
 have dI:∀(e':Int) (H:Hp),e'=e->o=o'->w=[]->Sep [RO,own H0,af b1 (dE d.sec o A n mm),af b2 (Oq (cO ⟨x1,x2,x3,A1,nA,mA,l,G,nG,mG,ks⟩).toArray 37),af b3 iO] H->
   aJ H (O b1) 12 fun l1=>bR H (O b3) l1.toArray 12 fun H3=>aJ H3 (O b3) 12 fun l6=>∃ M,vk d.sec e o' w RO H0 (.tuple #[.agg l6.toArray,I e',.slice none 0 0]) M/\Sep M H3:=fun e' H h1 h2 h3 hs=>by
  refine oL hs (i:=2) (j:=4) rfl rfl rfl fun H hs=>?_;exact fin e' o A n mm (fun _=>True) H h1 h2 h3 (.inr hI) (tru _ (hs.re [0,1] rfl))
 have tail:∀(e':Int) (o2:Option Mn) (A':OA) (n' m':Nat) (X:As) (H:Hp),e'=e->o2=o'->w=[]->(kz o2 X A' n'\/kz o2 RO A' n')->Sep [X,RO,own H0,af b1 (dE d.sec o A n mm),af b2 (Oq (cO ⟨x1,x2,x3,A1,nA,mA,l,G,nG,mG,ks⟩).toArray 37),af b3 iO] H->
   Nw H iO fun b4 H5=>bR H5 (O b4) (gq d.sec o2 A' n' m') 12 fun H6=>aJ H6 (O b4) 12 fun l5=>bR H6 (O b3) l5.toArray 12 fun H7=>aJ H7 (O b3) 12 fun l6=>∃ M,vk d.sec e o' w RO H0 (.tuple #[.agg l6.toArray,I e',.slice none 0 0]) M/\Sep M H7:=fun e' o2 A' n' m' X H h1 h2 h3 h4 hs=>by
  refine JE hs (j:=5) rfl rfl fun b4 H hs=>?_
  exact fin e' o2 A' n' m' X H h1 h2 h3 h4 (hs.re [0,1,2] rfl)
 cases hE with
 |xQ h he=>
  have h:x1=0:=h;subst h
  repeat first|refine aL rfl ?_|refine aK (by decide) ?_
  refine hs.bd 2 rfl rfl ?_
  try simp only[Array.toArray_toList]
  refine hs.ld 3 (v:=I x2) rfl rfl ?_;simp only[HV];refine hs.ld 3 (v:=I x3) rfl rfl ?_;simp only[HV];refine(yh (s:=dj (32/8) o) (mo:=q9 o) (ar:=rO o) (ld:=uu o) (A:=A) (n:=n) (m:=mm) hsec x2 x3).use hs [] rfl rfl ?_;rintro _ _ H ⟨rfl,rfl⟩ hs;have he:dM d.sec (32/8) x2 x3≠0:=he;rw[if_neg he];simp only[HV];exact tail _ o A n mm (fun _=>True) H rfl rfl rfl (.inr hI) (Sep.unit (X:=fun _=>True) (hs.re [0,1,2,3,4] rfl) trivial)
 | @fmt _ _ kn wn h hn hm he=>
  have h:x1=0:=h;have hn:x2=kn:=hn;have hm:x3=wn:=hm;subst h hn hm
  repeat first|refine aL rfl ?_|refine aK (by decide) ?_
  refine hs.bd 2 rfl rfl ?_
  try simp only[Array.toArray_toList]
  refine hs.ld 3 (v:=I (kn:Int)) rfl rfl ?_;simp only[HV];refine hs.ld 3 (v:=I (wn:Int)) rfl rfl ?_;simp only[HV];refine(yh (s:=dj (32/8) o) (mo:=q9 o) (ar:=rO o) (ld:=uu o) (A:=A) (n:=n) (m:=mm) hsec kn wn).use hs [] rfl rfl ?_;rintro _ _ H ⟨rfl,rfl⟩ hs;have he:dM d.sec (32/8) kn wn=0:=he;rw[he,if_pos rfl,MQ];simp only[HV];exact tail _ (some (fC kn wn)) .none 0 0 (fun _=>True) H rfl rfl rfl (.inr (noIn _ fun m e=>by cases e;show(1:Int)<2;decide)) (Sep.unit (X:=fun _=>True) (hs.re [0,1,2,3,4] rfl) trivial)
 |ur h=>
  have h:x1=1\/x1=2:=h;rcases h with e|e<;>subst e<;>(repeat first|refine aL rfl ?_|refine aK (by decide) ?_)
  all_goals
   refine hs.bd 2 rfl rfl ?_
   try simp only[Array.toArray_toList]
   refine hs.ld 3 (v:=.slice A1 nA mA) rfl rfl ?_;simp only[HV];refine(Lm (s:=dj (32/8) none) (mo:=q9 none) (ar:=rO none) (sc:=d.sec) (sz:=32) (ld:=uu none) (A0:=A) (n0:=n) (m0:=mm) (A:=A1) (n:=nA) (m:=mA) rfl).use hs [] rfl rfl ?_;rintro _ _ H ⟨rfl,rfl⟩ hs;simp only[HV];exact tail _ none A n mm (fun _=>True) H rfl rfl rfl (.inr hI) (Sep.unit (X:=fun _=>True) (hs.re [0,1,2,3,4] rfl) trivial)
 | @B3 m _ k i _ h hc he=>
  have h:x1=1\/x1=2:=h;have hc:ng l m.aA k i e:=hc;have hee:=hc.err;have hs1:(dj (32/8) (some m)).1≠0:=by rw[iL];have:=iz m (32/8);omega
  rcases h with e1|e1<;>subst e1<;>(repeat first|refine aL rfl ?_|refine aK (by decide) ?_)
  all_goals
   refine hs.bd 2 rfl rfl ?_
   try simp only[Array.toArray_toList]
   refine hs.ld 3 (v:=.slice A1 nA mA) rfl rfl ?_;simp only[HV];refine(Eb (R0:=own H0) (A:=A1) (n:=nA) (m:=mA) (l:=l) (aA:=m.aA) (s:=dj (32/8) (some m)) (ar:=(m.aO:Int)) (sc:=d.sec) (sz:=32) (ld:=(m.r.ld:Int)) (A0:=A) (n0:=n) (m0:=mm) hnA (by omega) (fun H h=>hcA.le h) hs1 ⟨by omega,by have:((m.r.ld:Nat):Int)<=390:=ldb;omega⟩).use hs [1] rfl rfl ?_;rintro _ _ H (⟨i',h0,rfl,rfl⟩|⟨k',A',m',hok,rfl,rfl⟩) hs
   .simp only[HV];exact tail _ (some m) A n mm (fun _=>True) H hee.symm rfl rfl (.inr hI) (Sep.unit (X:=fun _=>True) (hs.re [1,0,2,3,4] rfl) trivial)
   .exfalso;apply he;rw[hee];unfold o7;rw[hok.1];show(if(m.aA:Int)<(k':Int)then(14:Int)else if lN l then 0 else 3)=0
    have:=hok.2.1;rw[if_neg (by omega),if_pos hok.2.2]
 | @ld m _ k h hk=>
  have h:x1=1\/x1=2:=h;have hk:J' l m.aA k:=hk;have hs1:(dj (32/8) (some m)).1≠0:=by rw[iL];have:=iz m (32/8);omega
  rcases h with e1|e1<;>subst e1<;>(repeat first|refine aL rfl ?_|refine aK (by decide) ?_)
  all_goals
   refine hs.bd 2 rfl rfl ?_
   try simp only[Array.toArray_toList]
   refine hs.ld 3 (v:=.slice A1 nA mA) rfl rfl ?_;simp only[HV];refine(Eb (R0:=own H0) (A:=A1) (n:=nA) (m:=mA) (l:=l) (aA:=m.aA) (s:=dj (32/8) (some m)) (ar:=(m.aO:Int)) (sc:=d.sec) (sz:=32) (ld:=(m.r.ld:Int)) (A0:=A) (n0:=n) (m0:=mm) hnA (by omega) (fun H h=>hcA.le h) hs1 ⟨by omega,by have:((m.r.ld:Nat):Int)<=390:=ldb;omega⟩).use hs [1] rfl rfl ?_;rintro _ _ H (⟨i',h0,rfl,rfl⟩|⟨k',A',m',hok,rfl,rfl⟩) hs
   .exfalso;apply h0;unfold o7;rw[hk.1];show(if(m.aA:Int)<(k:Int)then(14:Int)else if lN l then 0 else 3)=0
    have:=hk.2.1;rw[if_neg (by omega),if_pos hk.2.2]
   .obtain rfl:k'=k:=by have:=hok.1;rw[hk.1]at this;cases this;rfl
    rw[K7];simp only[HV];have hs:Sep [bH 108 1 A' l.length m' (ah l),own H0,RO,af b1 (dE d.sec (some m) A n mm),af b2 (Oq (cO ⟨_,x2,x3,A1,nA,mA,l,G,nG,mG,ks⟩).toArray 37),af b3 iO] H:=hs;exact tail _ (some (cH m k' l)) A' l.length m' (bH 108 1 A' l.length m' (ah l)) H rfl rfl rfl (.inl fun m2 e2 _=>by cases e2;exact⟨rfl,fun H h=>qB h⟩) (hs.re [0,2,1,3,4,5] rfl)
 |uN h=>
  have h:x1=3:=h;subst h
  repeat first|refine aL rfl ?_|refine aK (by decide) ?_
  refine hs.bd 2 rfl rfl ?_
  try simp only[Array.toArray_toList]
  refine hs.ld 3 (v:=I x2) rfl rfl ?_;simp only[HV];refine(tE (s0:=0) (s1:=0) (s2:=0) (s3:=0) (s4:=0) (s5:=0) (mo:=(q9 none:Int)) (ar:=0) (sc:=d.sec) (ld:=uu none) (A:=A) (n:=n) (m:=mm) (k:=0) (by omega) (by omega) (by omega) x2).use hs [] rfl rfl ?_;rintro _ _ H ⟨rfl,⟨_,_,rfl⟩|⟨h,_⟩|⟨h,_⟩⟩ hs
  .simp only[HV];exact tail _ none A n mm (fun _=>True) H rfl rfl rfl (.inr hI) (Sep.unit (X:=fun _=>True) (hs.re [0,1,2,3,4] rfl) trivial)
  .omega
  .omega
 | @Cy m _ h h2 h4=>
  have h:x1=3:=h;subst h;have hV:=hL.lp m rfl;have har:=(gk hV.hh.dc).2.2.2;have hs0:(dj (32/8) (some m)).1=stM m (32/8):=iL
  repeat first|refine aL rfl ?_|refine aK (by decide) ?_
  refine hs.bd 2 rfl rfl ?_
  try simp only[Array.toArray_toList]
  refine hs.ld 3 (v:=I x2) rfl rfl ?_;simp only[HV];obtain⟨s,hsS⟩:∃ s,s=dj (32/8) (some m):=⟨_,rfl⟩;rw[<- hsS]at hs0;have em:gq d.sec (some m) A n mm=fO s m.aA m.aO d.sec 32 m.r.ld A n mm:=by rw[hsS];rfl
  rw[em];obtain⟨s0,s1,s2,s3,s4,s5⟩:=s;have hs0:s0=stM m (32/8):=hs0;refine(tE (s0:=s0) (s1:=s1) (s2:=s2) (s3:=s3) (s4:=s4) (s5:=s5) (mo:=(m.aA:Int)) (ar:=m.aO) (sc:=d.sec) (ld:=(m.r.ld:Int)) (A:=A) (n:=n) (m:=mm) (k:=0) (by omega) (by omega) (by omega) x2).use hs [] rfl rfl ?_;rintro _ _ H ⟨rfl,⟨_,_,rfl⟩|⟨h,_⟩|⟨h,_⟩⟩ hs
  .rw[<- em];simp only[HV];exact tail _ (some m) A n mm (fun _=>True) H rfl rfl rfl (.inr hI) (Sep.unit (X:=fun _=>True) (hs.re [0,1,2,3,4] rfl) trivial)
  .omega
  .omega
 | @yp m _ h h24 hn=>
  have h:x1=3:=h;have hn:¬(x2=0\/x2=1):=hn;subst h;have hV:=hL.lp m rfl;have har:=(gk hV.hh.dc).2.2.2;have hkk:=(Mn.nK hV.hh).2.2;have hmost:=hV.aA;have hs0:(dj (32/8) (some m)).1=stM m (32/8):=iL;have hs2:(dj (32/8) (some m)).2.2.1=m.r.kk:=by
   rw[gL];rcases h24 with h|h<;>rw[h]<;>rfl
  have hkd:2<=m.r.kd:=(qM (m:=m) (aa:=32/8)).1 (by omega);have hg:=(hV.hh.log.last (Mn.rm (m:=m))).1;have h0:0<=m.r.kk:=hg.2.2.1
  repeat first|refine aL rfl ?_|refine aK (by decide) ?_
  refine hs.bd 2 rfl rfl ?_
  try simp only[Array.toArray_toList]
  refine hs.ld 3 (v:=I x2) rfl rfl ?_;simp only[HV];obtain⟨s,hsS⟩:∃ s,s=dj (32/8) (some m):=⟨_,rfl⟩;rw[<- hsS]at hs0 hs2;have em:gq d.sec (some m) A n mm=fO s m.aA m.aO d.sec 32 m.r.ld A n mm:=by rw[hsS];rfl
  rw[em];obtain⟨s0,s1,s2,s3,s4,s5⟩:=s;have hs0:s0=stM m (32/8):=hs0;have hs2:s2=m.r.kk:=hs2;refine(tE (s0:=s0) (s1:=s1) (s2:=s2) (s3:=s3) (s4:=s4) (s5:=s5) (mo:=(m.aA:Int)) (ar:=m.aO) (sc:=d.sec) (ld:=(m.r.ld:Int)) (A:=A) (n:=n) (m:=mm) (k:=m.r.kk.toNat) (by omega) (by omega) (by omega) x2).use hs [] rfl rfl ?_;rintro _ _ H ⟨rfl,⟨h2,h4,_⟩|⟨_,_,rfl⟩|⟨_,b,hb,_⟩⟩ hs
  .omega
  .rw[<- em];simp only[HV];exact tail _ (some m) A n mm (fun _=>True) H rfl rfl rfl (.inr hI) (Sep.unit (X:=fun _=>True) (hs.re [0,1,2,3,4] rfl) trivial)
  .exact absurd (by cases b<;>simp at hb<;>omega) hn
 | @sb m _ b h h24 hb=>
  have h:x1=3:=h;have hb:x2=if b=true then 1 else 0:=hb
  subst h;have hV:=hL.lp m rfl;have har:=(gk hV.hh.dc).2.2.2;have hkk:=(Mn.nK hV.hh).2.2;have hmost:=hV.aA;have hs0:(dj (32/8) (some m)).1=stM m (32/8):=iL;have hs1:(dj (32/8) (some m)).2.1=m.r.ld:=by
   rw[gL];rcases h24 with h|h<;>rw[h]<;>rfl
  have hs2:(dj (32/8) (some m)).2.2.1=m.r.kk:=by
   rw[gL];rcases h24 with h|h<;>rw[h]<;>rfl
  have hkd:2<=m.r.kd:=(qM (m:=m) (aa:=32/8)).1 (by omega);have hg:=(hV.hh.log.last (Mn.rm (m:=m))).1;have h0:0<=m.r.kk:=hg.2.2.1
  repeat first|refine aL rfl ?_|refine aK (by decide) ?_
  refine hs.bd 2 rfl rfl ?_
  try simp only[Array.toArray_toList]
  refine hs.ld 3 (v:=I x2) rfl rfl ?_;simp only[HV];obtain⟨s,hsS⟩:∃ s,s=dj (32/8) (some m):=⟨_,rfl⟩;rw[<- hsS]at hs0 hs1 hs2;have em:gq d.sec (some m) A n mm=fO s m.aA m.aO d.sec 32 m.r.ld A n mm:=by rw[hsS];rfl
  rw[em];obtain⟨s0,s1,s2,s3,s4,s5⟩:=s;have hs0:s0=stM m (32/8):=hs0;have hs1:s1=m.r.ld:=hs1;have hs2:s2=m.r.kk:=hs2;refine(tE (s0:=s0) (s1:=s1) (s2:=s2) (s3:=s3) (s4:=s4) (s5:=s5) (mo:=(m.aA:Int)) (ar:=m.aO) (sc:=d.sec) (ld:=(m.r.ld:Int)) (A:=A) (n:=n) (m:=mm) (k:=m.r.kk.toNat) (by omega) (by omega) (by omega) x2).use hs [] rfl rfl ?_;rintro _ _ H ⟨rfl,⟨h2,h4,_⟩|⟨_,hn,_⟩|⟨_,b',hb',rfl⟩⟩ hs
  .omega
  .exact absurd (by cases b<;>simp at hb<;>omega) hn
  .obtain rfl:b'=b:=by cases b<;>cases b'<;>first|rfl|(exfalso;simp at hb hb';omega)
   rw[hs1,K9 d.sec m b' A n mm h0];simp only[HV];exact tail _ (some (m.add (eG m b'))) A n mm (fun _=>True) H rfl rfl rfl (.inr fun m2 e2 _=>by cases e2;exact hI m rfl (by omega)) (Sep.unit (X:=fun _=>True) (hs.re [0,1,2,3,4] rfl) trivial)
 |uV h=>
  have h:x1=4\/x1=5\/x1=6\/x1=7:=h;rcases h with e|e|e|e<;>subst e<;>(repeat first|refine aL rfl ?_|refine aK (by decide) ?_)
  all_goals
   refine hs.bd 2 rfl rfl ?_
   try simp only[Array.toArray_toList]
   refine(wR (s0:=0) (s1:=0) (s2:=0) (s3:=0) (s4:=0) (s5:=0) (mo:=(q9 none:Int)) (ar:=rO none) (sc:=d.sec) (sz:=32) (ld:=uu none) (A:=A) (n:=n) (m:=mm) (by omega)).use hs [] rfl rfl ?_;rintro _ _ H ⟨rfl,⟨_,rfl⟩|⟨h,_⟩⟩ hs
   .simp only[HV];exact tail _ none A n mm (fun _=>True) H rfl rfl rfl (.inr hI) (Sep.unit (X:=fun _=>True) (hs.re [0,1,2,3,4] rfl) trivial)
   .omega
 | @CF m _ h h3=>
  have h:x1=4\/x1=5\/x1=6\/x1=7:=h;have hs0:(dj (32/8) (some m)).1=stM m (32/8):=iL;have hV:=hL.lp m rfl;have hps: -1000<=(dj (32/8) (some m)).2.2.2.2.1/\(dj (32/8) (some m)).2.2.2.2.1<=1000:=wN hL;obtain⟨s,hsS⟩:∃ s,s=dj (32/8) (some m):=⟨_,rfl⟩;rw[<- hsS]at hs0 hps;have em:gq d.sec (some m) A n mm=fO s m.aA m.aO d.sec 32 m.r.ld A n mm:=by rw[hsS];rfl
  obtain⟨s0,s1,s2,s3,s4,s5⟩:=s;have hs0:s0=stM m (32/8):=hs0;rcases h with e|e|e|e<;>subst e<;>(repeat first|refine aL rfl ?_|refine aK (by decide) ?_)
  all_goals
   refine hs.bd 2 rfl rfl ?_
   try simp only[Array.toArray_toList]
   rw[em];refine(wR (s0:=s0) (s1:=s1) (s2:=s2) (s3:=s3) (s4:=s4) (s5:=s5) (mo:=(m.aA:Int)) (ar:=(m.aO:Int)) (sc:=d.sec) (sz:=32) (ld:=(m.r.ld:Int)) (A:=A) (n:=n) (m:=mm) hps).use hs [] rfl rfl ?_;rintro _ _ H ⟨rfl,⟨_,rfl⟩|⟨h,_⟩⟩ hs
   .rw[<- em];simp only[HV];exact tail _ (some m) A n mm (fun _=>True) H rfl rfl rfl (.inr hI) (Sep.unit (X:=fun _=>True) (hs.re [0,1,2,3,4] rfl) trivial)
   .omega
 | @st m _ h h3=>
  have h:x1=4\/x1=5\/x1=6\/x1=7:=h;have hps:=wN hL;have ej:=sU (aa:=32/8) (m:=m);rw[ej,h3]at hps;have em:gq d.sec (some m) A n mm=fO (3,m.r.ld,m.r.kk,m.r.dir,m.r.ps,(cE m (32/8) m.r).length) m.aA m.aO d.sec 32 m.r.ld A n mm:=by
   unfold gq;rw[ej,h3];rfl
  rcases h with e|e|e|e<;>subst e<;>(repeat first|refine aL rfl ?_|refine aK (by decide) ?_)
  all_goals
   refine hs.bd 2 rfl rfl ?_
   try simp only[Array.toArray_toList]
   rw[em];refine(wR (s0:=3) (s1:=m.r.ld) (s2:=m.r.kk) (s3:=m.r.dir) (s4:=m.r.ps) (s5:=((cE m (32/8) m.r).length:Int)) (mo:=(m.aA:Int)) (ar:=(m.aO:Int)) (sc:=d.sec) (sz:=32) (ld:=(m.r.ld:Int)) (A:=A) (n:=n) (m:=mm) hps).use hs [] rfl rfl ?_;rintro _ _ H ⟨rfl,⟨h,_⟩|⟨_,rfl⟩⟩ hs
   .exact absurd rfl h
   .rw[K8 d.sec m A n mm h3];simp only[HV];refine tail _ (some (m.add (dk m (32/8)))) A n mm (fun _=>True) H rfl rfl rfl (.inr fun m2 e2 _=>by cases e2;exact hI m rfl (by omega)) (Sep.unit (X:=fun _=>True) ?_ trivial);exact hs.re [0,1,2,3,4] rfl
 |sR h=>exact absurd h h8
 |rc h=>exact absurd h h8
 |uJ h=>
  have h:x1=11:=h;subst h
  repeat first|refine aL rfl ?_|refine aK (by decide) ?_
  refine hs.ld 2 (v:=I 0) rfl rfl ?_;simp only[HV];refine aC (by decide) ?_;exact dI 11 H rfl rfl rfl hs
 | @Cv m _ h h2=>
  have h:x1=11:=h;subst h
  repeat first|refine aL rfl ?_|refine aK (by decide) ?_
  refine hs.ld 2 (v:=I (stM m (32/8))) rfl (by show some (Value.int .i64 (dj (32/8) (some m)).1)=_;rw[iL]) ?_;simp only[HV];refine aC h2 ?_;exact dI 11 H rfl rfl rfl hs
 | @ri m _ h h2=>
  have h:x1=11:=h;subst h
  repeat first|refine aL rfl ?_|refine aK (by decide) ?_
  refine hs.ld 2 (v:=I (stM m (32/8))) rfl (by show some (Value.int .i64 (dj (32/8) (some m)).1)=_;rw[iL]) ?_;simp only[HV];refine aw (by omega) ?_;obtain⟨hn,hc⟩:=hI m rfl h2;have fin2:∀ H,Sep [RO,own H0,af b1 (dE d.sec (some m) A n mm),af b2 (Oq (cO ⟨11,x2,x3,A1,nA,mA,l,G,nG,mG,ks⟩).toArray 37),af b3 (dE d.sec (some m) A n mm)] H->∃ M,vk d.sec 0 (some m) m.da RO H0 (.tuple #[.agg (gq d.sec (some m) A n mm),I 0,.slice A n mm]) M/\Sep M H:=fun H hs=>
   ⟨_,⟨(fun _=>True),A,n,mm,A,n,mm,rfl,.inr hI,hn,.inr hc,rfl⟩,tru _ (hs.re [0,1] rfl)⟩
  refine⟨hs.bd 2 rfl rfl ⟨hs.ld 2 (v:=.slice A n mm) rfl rfl ?_,?_⟩,hs.ld 2 (v:=.slice A n mm) rfl rfl ?_⟩
  .simp only[HV];refine hs.dW 4 (y:=gq d.sec (some m) A n mm) rfl rfl rfl rfl fun H hs=>?_;refine hs.bd 4 rfl rfl ?_;exact fin2 H hs
  .refine hs.dW 4 (y:=gq d.sec (some m) A n mm) rfl rfl rfl rfl fun H hs=>?_;refine hs.ld 2 (v:=.slice A n mm) rfl rfl ?_;simp only[HV];refine hs.bd 4 rfl rfl ?_;exact fin2 H hs
  .simp only[HV];refine hs.bd 2 rfl rfl ?_;refine hs.dW 4 (y:=gq d.sec (some m) A n mm) rfl rfl rfl rfl fun H hs=>?_;refine hs.bd 4 rfl rfl ?_;exact fin2 H hs
 |uK h=>
  have h:x1=12:=h;subst h
  repeat first|refine aL rfl ?_|refine aK (by decide) ?_
  refine hs.ld 2 (v:=I 0) rfl rfl ?_;simp only[HV];refine aT (by decide) ?_;exact dI 12 H rfl rfl rfl hs
 | @Cw m _ h h4=>
  have h:x1=12:=h;subst h
  repeat first|refine aL rfl ?_|refine aK (by decide) ?_
  refine hs.ld 2 (v:=I (stM m (32/8))) rfl (by show some (Value.int .i64 (dj (32/8) (some m)).1)=_;rw[iL]) ?_;simp only[HV];refine aT h4 ?_;exact dI 12 H rfl rfl rfl hs
 | @ro m _ h h4=>
  have h:x1=12:=h;subst h;have hV:=hL.lp m rfl
  repeat first|refine aL rfl ?_|refine aK (by decide) ?_
  refine hs.ld 2 (v:=I (stM m (32/8))) rfl (by show some (Value.int .i64 (dj (32/8) (some m)).1)=_;rw[iL]) ?_;simp only[HV];refine aH h4 ?_;obtain⟨hn,hc⟩:=hI m rfl (by omega);obtain⟨hil,_⟩:=hL.da (m:=m) (aa:=32/8) (by omega);have hkk:=(Mn.nK hV.hh).2.2;have hmost:=hV.aA;have hkd:2<=m.r.kd:=(qM (m:=m) (aa:=32/8)).1 (by omega);have hg:=(hV.hh.log.last (Mn.rm (m:=m))).1;have h0:0<=m.r.kk:=hg.2.2.1;have hdir:=(hV.hh.eg (aj:=0) (Int.natCast_nonneg _)).dir;have hdir:m.r.dir=if iN m.r=true then 1 else 0:=hdir
  have ej:=sU (aa:=32/8) (m:=m);have hout:k9 m (32/8)=sW (iN m.r) m.r.kk.toNat m.da:=by
   unfold k9 cE;exact zd _ _ _ _ (by omega) _ hil
  have call:∀(H:Hp) (K:VK),Sep [RO,own H0,af b1 (dE d.sec (some m) A n mm),af b2 (Oq (cO ⟨12,x2,x3,A1,nA,mA,l,G,nG,mG,ks⟩).toArray 37),af b3 iO] H->
    (∀(A2:OA) (m2:Nat) (H:Hp),Sep [bH 108 1 A2 n m2 (ah (k9 m (32/8))),RO,own H0,af b1 (dE d.sec (some m) A n mm),af b2 (Oq (cO ⟨12,x2,x3,A1,nA,mA,l,G,nG,mG,ks⟩).toArray 37),af b3 iO] H->K (.slice A2 n m2) H)->
    ae prog 56 #[.agg (gq d.sec (some m) A n mm)] H K:=fun H K hs hK=>by
   have em:gq d.sec (some m) A n mm=fO (stM m (32/8),m.r.ld,(m.r.kk.toNat:Int),if iN m.r=true then 1 else 0,m.r.ps,(cE m (32/8) m.r).length) m.aA m.aO d.sec 32 m.r.ld A n mm:=by
    unfold gq;rw[ej,<-hdir,Int.toNat_of_nonneg h0];rfl
   rw[em];refine(Fp (k:=m.r.kk.toNat) (l:=m.da) (R0:=RO) hc hn.symm (by omega) (by omega) (iN m.r)).use hs [0] rfl rfl ?_;rintro _ _ H ⟨A2,m2,rfl,rfl⟩ hs;rw[hout]at hK;exact hK A2 m2 H hs
  have lenO:n=(k9 m (32/8)).length:=by rw[hout];have:=zm (iN m.r) m.r.kk.toNat m.da;omega
  have fin2:∀(A2:OA) (m2:Nat) (H:Hp),Sep [bH 108 1 A2 n m2 (ah (k9 m (32/8))),RO,own H0,af b1 (dE d.sec (some m) A n mm),af b2 (Oq (cO ⟨12,x2,x3,A1,nA,mA,l,G,nG,mG,ks⟩).toArray 37),af b3 iO] H->bR H (O b3) (gq d.sec (some m) A n mm) 12 fun H3=>aJ H3 (O b3) 12 fun l6=>∃ M,vk d.sec 0 (some m) (k9 m (32/8)) RO H0 (.tuple #[.agg l6.toArray,I 0,.slice A2 n m2]) M/\Sep M H3:=fun A2 m2 H hs=>by
   refine hs.dW 5 (y:=gq d.sec (some m) A n mm) rfl rfl rfl rfl fun H hs=>?_;refine hs.bd 5 rfl rfl ?_;exact⟨_,⟨bH 108 1 A2 n m2 (ah (k9 m (32/8))),A,n,mm,A2,n,m2,rfl,.inr hI,lenO,.inl fun H h=>qB h,rfl⟩,hs.re [0,1,2] rfl⟩
  refine⟨hs.bd 2 rfl rfl (hs.bd 2 rfl rfl ?_),hs.bd 2 rfl rfl ⟨hs.bd 2 rfl rfl ?_,?_⟩⟩
  .try simp only[Array.toArray_toList]
   refine call H _ hs fun A2 m2 H hs=>?_
   simp only[HV];exact fin2 A2 m2 H hs
  .try simp only[Array.toArray_toList]
   refine call H _ hs fun A2 m2 H hs=>?_
   simp only[HV];exact fin2 A2 m2 H hs
  .try simp only[Array.toArray_toList]
   refine call H _ hs fun A2 m2 H hs=>?_
   simp only[HV];refine hs.bd 3 rfl rfl ?_;exact fin2 A2 m2 H hs
 |vS h=>
  have h:x1<0\/x1=9\/x1=10\/12<x1:=h
  repeat refine aK (by omega) ?_
  exact dI 0 H rfl rfl rfl hs
theorem MC {N:Nat}{d:D}{c:Cn}{o o':Option Mn}{a:eQ}{e:Int}{w:List UInt64}{sec:Nat}(hL:Lo N d c o)(hE:Ef sec (32/8) o a e o' w):w.length<=1000000000:=by
 cases hE with
 | @ri m _ h h2=>
  obtain⟨h1,_⟩:=hL.da (m:=m) h2;have hV:=hL.lp m rfl;have:=zr hV.kk;omega
 | @ro m _ h h4=>
  obtain⟨h1,_⟩:=hL.da (m:=m) (aa:=32/8) (by omega);have hV:=hL.lp m rfl;have:=zr hV.kk;have e:k9 m (32/8)=sW (iN m.r) m.r.kk.toNat m.da:=by
   unfold k9 cE;exact zd _ _ _ _ (by have:=hV.kk;omega) _ h1
  rw[e,zm];omega
 |_=>exact Nat.zero_le _
def w1 :List UInt64:=[1,0,0,0]
theorem NT (w:Fft.Zp)(i:Nat):Fft.gS w 4 (Fft.dq w1) i=1:=by
 have h0:Fft.dq w1 0=1:=by decide
 have h1:Fft.dq w1 1=0:=by decide
 have h2:Fft.dq w1 2=0:=by decide
 have h3:Fft.dq w1 3=0:=by decide
 unfold Fft.gS;simp only[Fft.sm,h0,h1,h2,h3,Nat.zero_mul];show _+_=_
 simp only[Fft.pw];grind
theorem Og :sW false 2 w1=[1,1,1,1]:=by
 rw[Ax];apply List.ext_getElem?;intro i;by_cases hi:i<4
 .rw[qV false 2 w1 (i:=i) (by omega)];have:(2:Nat)^2=4:=rfl;rw[this,NT];have hu:Fft.uw 1=1:=by decide
  rw[hu]
  match i,hi with
  |0,_=>rfl
  |1,_=>rfl
  |2,_=>rfl
  |3,_=>rfl
 .rw[List.getElem?_eq_none (by rw[Fft.lU];omega),List.getElem?_eq_none (by simpa using hi)]
theorem Nx :dz false 2 4 12=[uT false 2]:=by unfold dz;rw[if_pos (by decide)]
theorem MD :dM 30 (32/8) ((2:Nat):Int) ((12:Nat):Int)=0:=by decide +kernel
theorem EV (H:Hp)(hT:T64 H):ae prog 12 #[] H (RetE (.bool true) H):=by
 apply ae.ret;apply iS.ok;unfold iS;have hs:=Sep.start H;refine(Dsk.jH 30 32 (by omega) (by decide) (by omega)).use hs [] rfl rfl ?_;rintro _ _ H1 ⟨dp,rfl,rfl⟩ hs;simp only[HV];refine(ui (dp:=dp)).use hs [] rfl rfl ?_;rintro _ _ H1 ⟨p,rfl,rfl⟩ hs;simp only[HV];refine bQ rfl ?_;have hs:Sep [En p dp none,Dk dp (D.fresh 30 32),own H] H1:=hs;have hcl:=Clean.fresh (sec:=30) (size:=32) (by omega) (by decide) (by omega);refine(zv (p:=p) (dp:=dp) (g:=none) hcl (by decide) ⟨Nat.zero_le _,Nat.zero_le _,Nat.zero_le _⟩ 2 12).use hs [0,1] rfl rfl ?_;rintro _ _ H1 (⟨h,_⟩|⟨kn,wn,e1,e2,_,⟨d,c,hw',hc,hh,rfl,rfl⟩|⟨d',hcut,_⟩⟩) hs
 .exact absurd MD h
 rotate_left
 .exact(hcut.calm rfl).elim
 obtain rfl:kn=2:=by omega
 obtain rfl:wn=12:=by omega
 have r1:=hw'.rd;have r2:=hw'.wr;have r3:=hw'.sy;have hL:jG 2 d c (fC 2 12):=⟨hc,by rw[hw'.sec,hw'.size];exact hh,by decide,Nat.zero_le _,Nat.zero_le _,by rw[r1];show 0+0<=_;omega,by rw[r2];show 0+10<=_;omega,by rw[r3];show 0+3<=_;omega⟩;have hf:d.aI=0:=hw'.calm rfl;have hsz:d.size=32:=hw'.size;simp only[HV];refine aH rfl ?_;refine hs.nw fun b1 H1 hs=>?_
 have hs:Sep [En p dp (some (bE (D.fresh 30 32) (fC 2 12) 0)),Dk dp d,own H,af b1 (.row (ah w1) 108 4)] H1:=hs;rw[<- sE (fC 2 12) 0 hw'.sec hw'.size]at hs;have hR:∀ H,af b1 (.row (ah w1) 108 4) H->Cells H (Oo b1) (ah w1):=fun H h=>by
  have:=Cells.row h 0 4
  rwa [List.drop_zero,List.take_of_length_le (by decide)]at this
 have hsm:=hL.small (by omega);have hlg:lg ((w1.length:Nat):Int)=some 2:=sI (k:=2);have hcan:lN w1:=by decide
 refine(Dp (p:=p) (dp:=dp) hL.cl hL.hh hsm.1 hsm.2 (by decide) (l:=w1) (A:=some (O b1)) (n:=4) (mm:=4) (RR:=af b1 (.row (ah w1) 108 4)) (TT:=own H) rfl (Nat.le_refl _) (by decide) hR (.inl fun H h=>hT.le h)).use hs [0,1,3,2] rfl rfl ?_;rintro _ _ H1 (⟨k',i,e,hchk,hne,_⟩|⟨k',hk',_,_,⟨d1,c1,pk1,hpk1,hw1,hc1,hh1,rfl,rfl⟩|⟨d1,hcut,_⟩⟩) hs
 .cases hchk with
  |len h=>rw[h]at hlg;cases hlg
  |lk h h2=>rw[h]at hlg;cases hlg;exact absurd h2 (by decide)
  |word h h2 h3=>exact absurd hcan h3
  |ok h h2 h3=>exact absurd rfl hne
 rotate_left
 .exact(hcut.calm hf).elim
 obtain rfl:k'=2:=by rw[hlg]at hk';cases hk';rfl
 have hf1:d1.aI=0:=hw1.calm hf;have h1r:(bG (fC 2 12) 2).r=fL (fC 2 12) 2:=Mn.fg _ _;have h2r:(cH (fC 2 12) 2 w1).r=gX (bG (fC 2 12) 2) 2 w1:=Mn.fg _ _;have hld1:(cH (fC 2 12) 2 w1).r.ld=1:=by rw[h2r];show(bG (fC 2 12) 2).r.ld=_;rw[h1r];rfl
 have hcost:tS (d.size/8) 2<=2000/\tT (d.size/8) 2<=2000:=by
  have hb1:=yF (d.size/8) 2;have hb2:=yG (d.size/8) 2;have hb3:=vo (aa:=d.size/8) (w:=2^2) (by rw[hsz];decide) (by decide);unfold tS tT;omega
 have hL1:jG 4 d1 c1 (cH (fC 2 12) 2 w1):=hL.mT hw1 (by omega) hc1 hh1 rfl (by decide) (by omega);have hsm1:=hL1.small (by omega);simp only[HV];have hs:Sep [En p dp (some (bE d (cH (fC 2 12) 2 w1) pk1)),Dk dp d1,af b1 (.row (ah w1) 108 4),own H] H1:=hs;rw[<- sE (cH (fC 2 12) 2 w1) pk1 hw1.sec hw1.size]at hs;have hst:stM (cH (fC 2 12) 2 w1) (d1.size/8)=2:=by unfold stM;rw[if_pos (by rw[h2r];rfl)]
 refine(zD (p:=p) (dp:=dp) hL1.cl hL1.hh hsm1.1 hsm1.2 hpk1 0).use hs [0,1] rfl rfl ?_;rintro _ _ H1 (⟨h,_⟩|⟨_,h,_⟩|⟨_,b',hb',⟨d2,c2,hw2,hc2,hh2,rfl,rfl⟩|⟨d2,hcut,_⟩⟩) hs
 .exact absurd hst h
 .exact absurd (.inl rfl) h
 rotate_left
 .exact(hcut.calm hf1).elim
 obtain rfl:b'=false:=by cases b'<;>first|rfl|(exfalso;revert hb';decide)
 have h3r:(qX (fC 2 12) 2 w1 false).r=eG (cH (fC 2 12) 2 w1) false:=Mn.fg _ _;have hld2:(qX (fC 2 12) 2 w1 false).r.ld=1:=by rw[h3r];exact hld1
 have hL2:jG 6 d2 c2 (qX (fC 2 12) 2 w1 false):=hL1.mT hw2 (by omega) hc2 hh2 rfl (by decide) (by show(qX (fC 2 12) 2 w1 false).r.ld<=_;omega);simp only[HV];have hs:Sep [En p dp (some (bE d1 (qX (fC 2 12) 2 w1 false) pk1)),Dk dp d2,af b1 (.row (ah w1) 108 4),own H] H1:=hs;rw[<- sE (qX (fC 2 12) 2 w1 false) pk1 hw2.sec hw2.size]at hs;have hsz2:d2.size=32:=hw2.size.trans (hw1.size.trans hsz);have hf2:d2.aI=0:=hw2.calm hf1;have hJ:=IZ (fC 2 12) 2 w1 false;have har:(qX (fC 2 12) 2 w1 false).aO=12:=rfl;have hpk2:pk1<=(qX (fC 2 12) 2 w1 false).aO:=hpk1;generalize qX (fC 2 12) 2 w1 false=m at*;have e8:d2.size/8=4:=by rw[hsz2]
 have hpl:(dz false 2 (d2.size/8) m.aO).length=1:=by rw[e8,har,Nx];rfl
 have hst3:stM m (d2.size/8)=3:=by rw[hJ.st,hpl,if_pos (by omega)]
 have hsm2:=hL2.small (by omega);refine(Dw (p:=p) (dp:=dp) (TT:=own H) (fun H h=>hT.le h) hL2.cl hL2.hh hsm2.1 hsm2.2 hpk2 (by rw[hJ.kk];decide)).use hs [0,1,3] rfl rfl ?_;rintro v M H1 (⟨h,_⟩|⟨_,r,w,hC,⟨d3,c3,pk3,hpk3,hw3,hc3,hh3,rfl,rfl⟩|⟨d3,hcut,_⟩⟩) hs
 .exact absurd hst3 h
 rotate_left
 .exact(hcut.calm hf2).elim
 have hL3:=hL2.EC hC hw3 hc3 hh3;have hJ3:=hJ.next (d2.size/8);have hst4:stM (m.add (dk m (d2.size/8))) (d2.size/8)=4:=by
  rw[hJ3.st];have:(m.add (dk m (d2.size/8))).aO=m.aO:=rfl;rw[this,hpl,if_neg (by omega)]
 have hout:k9 (m.add (dk m (d2.size/8))) (d3.size/8)=[1,1,1,1]:=by
  unfold k9;rw[hJ3.MY,hJ3.da];exact(zd false 2 _ _ (by omega) w1 rfl).trans Og
 rw[hst4];have hsm3:=hL3.small (by omega);have hpk3':pk3<=((m.add (dk m (d2.size/8))).aO:Int):=hpk3;generalize m.add (dk m (d2.size/8))=m3 at*;simp only[HV];have hs:Sep [En p dp (some (bE d2 m3 pk3)),Dk dp d3,own H,af b1 (.row (ah w1) 108 4)] H1:=hs;rw[<- sE m3 pk3 hw3.sec hw3.size]at hs;refine(tO (p:=p) (dp:=dp) hL3.cl hL3.hh hsm3.2 hpk3').use hs [0,1] rfl rfl ?_;rintro v M H1 (⟨h,_⟩|⟨_,hq⟩) hs
 .rw[hw3.size]at h;exact absurd hst4 h
 rw[hout]at hq;rcases hq with⟨d4,bo,mo,pk4,h1,h2,h3,rfl,rfl⟩|⟨d4,h1,_⟩
 .simp only[HV];refine aL rfl (aL rfl (cV rfl (aL rfl (aL rfl ?_))));refine hs.nw fun b2 H1 hs=>?_
  refine ae.use (BE (Oo bo) (Oo b2) 4 4 4 4 [1,1,1,1] rfl rfl (by omega) H1 (Cells.row (hs.get 2 rfl) 0 4) (Cells.row (hs.get 5 (b:=b2) (o:=.row (ah [1,1,1,1]) 108 4) rfl) 0 4)) ?_;simp only[HV];exact hs.fin 3 rfl _
 .exact(h1.calm (hw3.calm hf2)).elim
theorem uE :vr prog 30 6:=⟨by kernel_rfl,by kernel_rfl,by kernel_rfl,by kernel_rfl⟩
def iJ (s:S6):List Int:=[s.1,s.2.1,s.2.2.1,s.2.2.2.1,s.2.2.2.2.1,s.2.2.2.2.2]
theorem EB (d:D)(o:Option Mn)(pk:Int):yA (gO d o pk)=iJ (dj (d.size/8) o):=by
 cases o with
 |none=>rfl
 |some m=>
  have h:=iz m (d.size/8);have e:gU (bE d m pk)=stM m (d.size/8):=vy;show(if gU (bE d m pk)=1 then _ else if gU (bE d m pk)=2 then _ else _:List Int)=_
  rw[gL,e];by_cases h1:stM m (d.size/8)=1
  .rw[if_pos h1,if_pos h1];rfl
  .rw[if_neg h1,if_neg h1];by_cases h2:stM m (d.size/8)=2
   .rw[if_pos h2,if_pos h2];rfl
   .rw[if_neg h2,if_neg h2];have hk:3<=m.r.kd:=by
     have:=(qM (m:=m) (aa:=d.size/8)).1 (by omega);by_cases h3:m.r.kd=2
     .exfalso;apply h2;unfold stM;rw[if_pos h3]
     .omega
    show [stM m (d.size/8),(m.r.ld:Int),m.r.kk,m.r.dir,m.r.ps,((cJ (bE d m pk)).length:Int)]=_
    rw[wM hk];rfl
theorem HH {N:Nat}{d:D}{c:Cn}{o:Option Mn}(hL:Lo N d c o)(hN:N<=390):∀ x∈iJ (dj (32/8) o),-9223372036854775808<=x/\x<=9223372036854775807:=by
 cases o with
 |none=>intro x hx;simp[iJ,dj,z6]at hx;omega
 |some m=>
  have hV:=hL.lp m rfl;have hld:=hV.ld;have h:=iz m (32/8);have h44:=iz m 4;have hpl4:(cE m 4 m.r).length<=5:=(kP (iN m.r) m.r.kk.toNat 4 m.aO).2;have hp5:=(kP (iN m.r) m.r.kk.toNat (32/8) m.aO).2;have hpl:(cE m (32/8) m.r).length<=5:=hp5;have hmost:=hV.aA;have hkk:=(Mn.nK hV.hh).2.2;have hps:=wN hL;have hk0:0<=m.r.kk/\(m.r.dir=0\/m.r.dir=1):=by
   rcases(Mn.nK hV.hh).1 with e|e
   .rw[e];decide
   .exact⟨e.2.2.1,e.2.2.2.2.1⟩
  rw[gL]at hps⊢;intro x hx;by_cases h1:stM m (32/8)=1
  .rw[if_pos h1]at hx;simp[iJ]at hx;omega
  .rw[if_neg h1]at hx hps;by_cases h2:stM m (32/8)=2
   .rw[if_pos h2]at hx;simp[iJ]at hx;omega
   .rw[if_neg h2]at hx hps;simp[iJ]at hx;simp only at hps;omega
theorem Dh (sec:Nat)(H:Hp):ae prog 16 #[I (sec:Int)] H (RetE (.agg (gq sec none .none 0 0)) H):=ae.ret (by
 apply jo.ok;unfold jo;refine(Sep.start H).nw fun b H1 hs=>?_
 refine hs.dW 1 (y:=gq sec none .none 0 0) rfl rfl rfl rfl fun H1 hs=>?_
 refine hs.bd 1 rfl rfl ?_;exact hs.fin 0 rfl _)
section
variable {p dp sc b1 b2 : Nat} {o : Option Mn} {A : Option Addr} {n m N:Nat} {d : D} {c : Cn} {pk : Int} {R0 : As} {H0 : Hp}
abbrev DJ (p dp sc b1 b2:Nat)(o:Option Mn)(A:OA)(n m:Nat)(d:D)(pk:Int)(R0:As)(H0:Hp)(x:AO):List As:=[En p dp (gO d o pk),Dk dp d,R0,own H0,af b1 (dE sc o A n m),af b2 x]
theorem NB {x:AO}{b j:Nat}{H:Hp}(hL:Lo N d c o)(hN:N<=390)(hsz:d.size=32)(hs:Sep (DJ p dp sc b1 b2 o A n m d pk R0 H0 x) H)(hj:(DJ p dp sc b1 b2 o A n m d pk R0 H0 x)[j]? =some (af b (dE sc o A n m))){X Y:Hp->Prop}(hY:∀ H,Sep (DJ p dp sc b1 b2 o A n m d pk R0 H0 x) H->Y H):
  (ae prog 18 #[V p] H fun v H1=>DA v fun y=>aJ H1 ((O b).add 0) 6 fun l=>qf prog .neq 30 (.agg y) (.agg l.toArray) fun c=>ao c (X H1) (Y H1))/\
  (aJ H ((O b).add 0) 6 fun l=>ae prog 18 #[V p] H fun v H1=>DA v fun y=>qf prog .neq 30 (.agg y) (.agg l.toArray) fun c=>ao c (X H1) (Y H1)):=by
 have hr:=HH hL hN;have e:=EB d o pk;rw[hsz]at e;have hld:∀ e',gO d o pk=some e'->e'.r.ld<4294967296:=fun e' he=>by
  cases o with
  |none=>cases he
  |some m=>cases he;have:=(hL.lp m rfl).ld;show m.r.ld<_;omega
 refine⟨?_,?_⟩
 .refine(pS (p:=p) (dp:=dp) (gO d o pk) hld).use hs [0] rfl rfl ?_;rintro _ _ H ⟨rfl,rfl⟩ hs;have hs:Sep (DJ p dp sc b1 b2 o A n m d pk R0 H0 x) H:=hs;simp only[HV];refine hs.mO j hj (off:=0) (n:=6) (by show 0+6<=12;omega) ?_;refine vd uE (a:=iJ (dj (32/8) o)) (b:=iJ (dj (32/8) o)) rfl rfl hr hr (by rw[e]) rfl ?_;rw[decide_eq_true rfl];exact bQ rfl (hY H hs)
 .refine hs.mO j hj (off:=0) (n:=6) (by show 0+6<=12;omega) ?_;refine(pS (p:=p) (dp:=dp) (gO d o pk) hld).use hs [0] rfl rfl ?_;rintro _ _ H ⟨rfl,rfl⟩ hs;have hs:Sep (DJ p dp sc b1 b2 o A n m d pk R0 H0 x) H:=hs;simp only[HV];refine vd uE (a:=iJ (dj (32/8) o)) (b:=iJ (dj (32/8) o)) rfl rfl hr hr (by rw[e]) rfl ?_;rw[decide_eq_true rfl];exact bQ rfl (hY H hs)
variable {A4 : Option Addr} {n4 m4 : Nat} {x11 : Int}
end
theorem NX {sc:Nat}(h:sc<=60):Mx sc 32:=fun k hk=>by
 rcases Nat.lt_or_ge k 7 with h7|h7
 .omega
 .have h1:2^7<=2^k:=Nat.pow_le_pow_right (by omega) h7;unfold Lay.fI Lay.bS at hk;omega
theorem xB {H:Hp}{a:Addr}:∀(vs:List Value) (i:Nat),(∀ j v,vs[j]? =some v->H.cell? (a.add (i+j))=some v)->H.cells? a i vs.length=some vs
 | [],_,_=>rfl
 |v::vs,i,h=>by
  have h0:=h 0 v rfl;have ih:=xB vs (i+1) fun j u hj=>by rw[show i+1+j=i+(j+1) by omega];exact h (j+1) u hj
  show(match H.cell? (a.add i)with|some v=>(match H.cells? a (i+1) vs.length with|some l=>some (v::l)|none=>none)|none=>none)=_
  rw[Nat.add_zero]at h0;rw[h0,ih]
theorem eU.Oe {s:Nat}{H:Hp}{A:OA}{rows:List (List Value)}(h:eU s H A rows){i:Nat}{r:List Value}(hi:rows[i]? =some r){x:Int}(hx:x=i){n:Nat}(hn:rows.length<=n)(off k:Nat)(hk:off+k<=r.length){K:List Value->Prop}(kk:K ((r.drop off).take k)):
  cX x n (NN A fun a=>aJ H ((a.add (x.toNat*s)).add off) k K):=by
 obtain⟨a,rfl,hc⟩:=h i r hi;subst hx;have:=(List.getElem?_eq_some_iff.1 hi).1;refine⟨by omega,by omega,?_⟩;rw[Int.toNat_natCast];show aJ H ((a.add (i*s)).add off) k K
 rw[add_add];have hl:((r.drop off).take k).length=k:=by rw[List.length_take,List.length_drop];omega
 have e:=xB (H:=H) (a:=a.add (i*s+off)) ((r.drop off).take k) 0 fun j v hj=>by
  rw[Nat.zero_add,add_add,Nat.add_assoc];refine hc (off+j) v ?_;have hjk:=(List.getElem?_eq_some_iff.1 hj).1;rw[List.getElem?_take,if_pos (by omega),List.getElem?_drop]at hj;exact hj
 rw[hl]at e;show(match H.cells? (a.add (i*s+off)) 0 k with|some l=>K l|none=>False)
 rw[e];exact kk
structure eh where
 o:Option Mn
 A:OA
 n:Nat
 m:Nat
def eh.row (sc:Nat)(r:eh):List Value:=(gq sc r.o r.A r.n r.m).toList
def Mt (o1 o2:Option Mn):Prop:=dj (32/8) o1=dj (32/8) o2/\((dj (32/8) o1).1=0\/(q9 o1=q9 o2/\rO o1=rO o2))
instance (o1 o2:Option Mn):Decidable (Mt o1 o2):=by unfold Mt;infer_instance
structure Alike (o1 o2:Option Mn):Prop where
 st:dj (32/8) o1=dj (32/8) o2
 mo:q9 o1=q9 o2
 ar:rO o1=rO o2
 ld:uu o1=uu o2
 da:∀ R A n,kz o1 R A n->kz o2 R A n
theorem Alike.mc {o1 o2:Option Mn}(h:Alike o1 o2)(sc:Nat)(A:OA)(n m:Nat):gq sc o1 A n m=gq sc o2 A n m:=by
 unfold gq;rw[h.st,h.mo,h.ar,h.ld]
theorem Kl {o:Option Mn}(h:(dj (32/8) o).1=0):o=none:=by
 cases o with
 |none=>rfl
 |some m=>rw[iL]at h;have:=iz m (32/8);omega
theorem uW {m:Mn}:(dj (32/8) (some m)).2.1=m.r.ld:=by
 rw[gL];by_cases h1:stM m (32/8)=1
 .rw[if_pos h1]
 .rw[if_neg h1];by_cases h2:stM m (32/8)=2
  .rw[if_pos h2]
  .rw[if_neg h2]
theorem BM {o1 o2:Option Mn}(h:Mt o1 o2)(h2:2<=(dj (32/8) o1).1->o1=o2):Alike o1 o2:=by
 by_cases h3:2<=(dj (32/8) o1).1
 .obtain rfl:=h2 h3;exact⟨rfl,rfl,rfl,rfl,fun _ _ _ h=>h⟩
 obtain⟨e,hm⟩:=h;by_cases h0:(dj (32/8) o1).1=0
 .have e1:=Kl h0;rw[e]at h0;have e2:=Kl h0;rw[e1,e2];exact⟨rfl,rfl,rfl,rfl,fun _ _ _ h=>h⟩
 .obtain⟨m1,m2⟩:=hm.resolve_left h0;cases o1 with
  |none=>exact absurd rfl h0
  |some x=>
   cases o2 with
   |none=>rw[e]at h0;exact absurd rfl h0
   |some y=>
    have l1:=uW (m:=x);have l2:=uW (m:=y);have q:(dj (32/8) (some y)).1=stM y (32/8):=iL;rw[<- e]at q l2;refine⟨e,m1,m2,by show x.r.ld=y.r.ld;omega,fun R A n _ z hz hs=>?_⟩;cases hz;omega
def F0 (l:List (Option Mn)):Prop:=∀ x∈l,∀ y∈l,Mt x y->Alike x y
def ju (o:Option Mn):List eh->Nat
 | []=>0
 |r::l=>if Mt r.o o then 0 else ju o l+1
theorem wD {o:Option Mn}:∀{l:List eh},(∃ r∈l,r.o=o)->∃ h:ju o l<l.length,Mt (l[ju o l]).o o
 | [],h=>by obtain⟨r,hr,_⟩:=h;cases hr
 |r::l,h=>by
  by_cases hm:Mt r.o o
  .have e:ju o (r::l)=0:=if_pos hm;exact⟨by rw[e];simp,by simp only[e];exact hm⟩
  .have e:ju o (r::l)=ju o l+1:=if_neg hm;obtain⟨q,hq,he⟩:=h;have hq':q∈l:=by
    rcases List.mem_cons.1 hq with e1|e1
    .exfalso;apply hm;rw[<- e1,he];refine⟨rfl,.inr ⟨rfl,rfl⟩⟩
    .exact e1
   obtain⟨h1,h2⟩:=wD ⟨q,hq',he⟩;refine⟨by rw[e];simp;exact h1,?_⟩;simp only[e,List.getElem_cons_succ];exact h2
theorem Em {a b:S6}:iJ a=iJ b↔a=b:=by
 constructor
 .intro h;obtain⟨a1,a2,a3,a4,a5,a6⟩:=a;obtain⟨b1,b2,b3,b4,b5,b6⟩:=b;simpa [iJ]using h
 .intro h;rw[h]
def Bm (o:Option Mn)(sc sz:Int):Array Value:=#[I (q9 o),I sc,I sz,I (rO o)]
theorem zO {A1:OA}{n1 m1 sc b1 b2:Nat}{reps:List eh}{o:Option Mn}{sc2 sz2:Int}{L:List As}(hn:n1=reps.length)(hlen:reps.length<=100)(hrng:∀ r∈reps,∀ x∈iJ (dj (32/8) r.o),-9223372036854775808<=x/\x<=9223372036854775807)(hro:∀ x∈iJ (dj (32/8) o),-9223372036854775808<=x/\x<=9223372036854775807){H:Hp}(hc:eU 12 H A1 (reps.map (eh.row sc)))
  (hs:Sep (af b1 (Oq ((iJ (dj (32/8) o)).map (Value.int .i64)).toArray 30)::af b2 (Oq (Bm o sc2 sz2) 45)::L) H) {K:VK} (k:∀ i,i=ju o reps->K (I (i:Nat)) H):
  ∀ t i:Nat,i+t=n1->ju o reps=i+ju o (reps.drop i)->ju o reps<n1->cj.l2 K (t+1) A1 n1 m1 (O b1) (O b2) (i:Int) H
 |0,i,hi,he,hlt=>by
  exfalso;rw[List.drop_eq_nil_of_le (by omega)]at he;have:ju o ([]:List eh)=0:=rfl;omega
 |t+1,i,hi,he,hlt=>by
  have hil:i<reps.length:=by omega
  have hrow:(reps.map (eh.row sc))[i]? =some ((reps[i]'hil).row sc):=by rw[List.getElem?_map,List.getElem?_eq_getElem hil];rfl
  have hd:reps.drop i=reps[i]::reps.drop (i+1):=List.drop_eq_getElem_cons hil;have hr1:=hrng _ (List.getElem_mem hil);unfold cj.l2;refine aC (by omega) ?_;have nx:¬Mt (reps[i]'hil).o o->cj.l2 K (t+1) A1 n1 m1 (O b1) (O b2) (i64.wrap ((i:Int)+1)) H:=fun hm=>by
   rw[bu (x:=(i:Int)+1)];refine zO hn hlen hrng hro hc hs k t (i+1) (by omega) ?_ hlt;rw[he,hd];show i+(if Mt (reps[i]'hil).o o then 0 else ju o (reps.drop (i+1))+1)=_
   rw[if_neg hm];omega
  have yes:Mt (reps[i]'hil).o o->K (I (i:Int)) H:=fun hm=>by
   refine k i ?_;rw[he,hd];show _=i+(if Mt (reps[i]'hil).o o then 0 else ju o (reps.drop (i+1))+1)
   rw[if_pos hm];rfl
  generalize reps[i]'hil=r at*;refine eU.Oe hc hrow rfl (by rw[List.length_map];omega) 0 6 (by show 0+6<=12;omega) ?_;refine hs.bd 0 rfl rfl ?_;refine Dl uE (a:=iJ (dj (32/8) r.o)) (b:=iJ (dj (32/8) o)) rfl rfl hr1 hro rfl (by simp) ?_;by_cases hst:dj (32/8) r.o=dj (32/8) o
  .rw[decide_eq_true (Em.2 hst)];refine cV rfl ?_
   try simp only[HS]
   refine hs.ld 0 (v:=I (dj (32/8) o).1) rfl rfl ?_;simp only[HV];by_cases h0:(dj (32/8) o).1=0
   .refine aL h0 (yes ⟨hst,.inl (by rw[hst];exact h0)⟩)
   .refine aK h0 ?_;refine eU.rd hc hrow rfl (by rw[List.length_map];omega) (j:=6) rfl ?_;simp only[HV]
    try simp only[HS]
    refine hs.ld 1 (v:=I (q9 o:Int)) rfl rfl ?_;simp only[HV];by_cases h1:((q9 r.o:Nat):Int)=(q9 o:Int)
    .refine aL h1 ?_;refine eU.rd hc hrow rfl (by rw[List.length_map];omega) (j:=7) rfl ?_;simp only[HV]
     try simp only[HS]
     refine hs.ld 1 (v:=I (rO o:Int)) rfl rfl ?_;simp only[HV];by_cases h2:((rO r.o:Nat):Int)=(rO o:Int)
     .exact aL h2 (yes ⟨hst,.inr ⟨by omega,by omega⟩⟩)
     .refine aK h2 (nx fun hm=>?_);rcases hm.2 with h|h
      .rw[hst]at h;exact h0 h
      .exact h2 (by rw[h.2])
    .refine aK h1 (nx fun hm=>?_);rcases hm.2 with h|h
     .rw[hst]at h;exact h0 h
     .exact h1 (by rw[h.1])
  .rw[decide_eq_false fun h=>hst (Em.1 h)];refine bQ rfl (nx fun hm=>hst hm.1)
theorem KT {A1:OA}{n1 m1 sc:Nat}{reps:List eh}{o:Option Mn}{sc2 sz2:Int}(hn:n1=reps.length)(hlen:reps.length<=100)(hrng:∀ r∈reps,∀ x∈iJ (dj (32/8) r.o),-9223372036854775808<=x/\x<=9223372036854775807)(hro:∀ x∈iJ (dj (32/8) o),-9223372036854775808<=x/\x<=9223372036854775807)(H:Hp)(hc:eU 12 H A1 (reps.map (eh.row sc)))(hex:∃ r∈reps,r.o=o):
  ae prog 28 #[.slice A1 n1 m1,.agg ((iJ (dj (32/8) o)).map (Value.int .i64)).toArray,.agg (Bm o sc2 sz2)] H (RetE (I (ju o reps:Nat)) H):=ae.ret (by
 apply cj.ok;unfold cj;refine(Sep.start H).nw fun b1 H1 hs=>?_
 refine hs.nw fun b2 H1 hs=>?_
 have hle:=hs.ow 0 rfl;have hs:Sep [own H,af b1 (Oq ((iJ (dj (32/8) o)).map (Value.int .i64)).toArray 30),af b2 (Oq (Bm o sc2 sz2) 45)] H1:=hs;obtain⟨hlt,_⟩:=wD hex;refine⟨n1+1,zO (L:=[own H]) (sc2:=sc2) (sz2:=sz2) hn hlen hrng hro (hc.le hle) (hs.re [1,2,0] rfl) (fun i hi=>?_) n1 0 (by omega) (by rw[List.drop_zero];omega) (by omega)⟩;subst hi;exact hs.fin 0 rfl _)
theorem Gw :∃ bs z,eJ prog 33=some (12,bs,some z)/\z.size=12/\bs<=200:=⟨112,#[I 0,I 0,I 0,I 0,I 0,I 0,I 0,I 0,I 0,I 0,I 0,.slice none 0 0],by kernel_rfl,rfl,by omega⟩
def I6 (sc:Nat)(o:Option Mn)(a:eQ)(o':Option Mn)(RO:As)(H0:Hp)(v:Value)(M:List As):Prop:=
 ∃(reps:List eh) (X:As) (A':OA) (n' m':Nat),v= .slice A' n' m'/\n'=reps.length/\reps.length<=3/\(∀ x,dm o a o' x->∃ r∈reps,r.o=x)/\F0 (reps.map eh.o)/\(∀ r∈reps,(kz r.o X r.A r.n\/kz r.o RO r.A r.n)/\(∀ y∈iJ (dj (32/8) r.o),-9223372036854775808<=y/\y<=9223372036854775807))/\M=[bH 33 12 A' n' m' (reps.map (eh.row sc)).flatten,X,RO,own H0]
theorem KO {o o':Option Mn}(h1:Mt o o'->Alike o o')(h2:Mt o' o->Alike o' o):F0 [o,o']:=fun x hx y hy hm=>by
 have rf:∀ z,Alike z z:=fun z=>⟨rfl,rfl,rfl,rfl,fun _ _ _ h=>h⟩
 simp at hx hy;rcases hx with rfl|rfl<;>rcases hy with rfl|rfl
 .exact rf _
 .exact h1 hm
 .exact h2 hm
 .exact rf _
theorem zK {o p o':Option Mn}(h12:Mt o p->Alike o p)(h21:Mt p o->Alike p o)(h13:Mt o o'->Alike o o')(h31:Mt o' o->Alike o' o)(h23:Mt p o'->Alike p o')(h32:Mt o' p->Alike o' p):F0 [o,p,o']:=fun x hx y hy hm=>by
 have rf:∀ z,Alike z z:=fun z=>⟨rfl,rfl,rfl,rfl,fun _ _ _ h=>h⟩
 simp at hx hy;rcases hx with rfl|rfl|rfl<;>rcases hy with rfl|rfl|rfl
 .exact rf _
 .exact h12 hm
 .exact h13 hm
 .exact h21 hm
 .exact rf _
 .exact h23 hm
 .exact h31 hm
 .exact h32 hm
 .exact rf _
theorem K2 (m:Mn)(k:Nat):(dj (32/8) (some (bG m k))).1=1/\(dj (32/8) (some (bG m k))).2.1=(m.r.ld:Int)+1:=by
 have h1r:(bG m k).r=fL m k:=Mn.fg _ _;have e:stM (bG m k) (32/8)=1:=by unfold stM;rw[h1r];rfl
 refine⟨by rw[iL,e],?_⟩;rw[uW,h1r];show((m.r.ld+1:Nat):Int)=_;omega
theorem K1 (m:Mn)(k:Nat)(l:List UInt64):(dj (32/8) (some (cH m k l))).1=2/\(dj (32/8) (some (cH m k l))).2.1=(m.r.ld:Int)+1:=by
 have h1r:(bG m k).r=fL m k:=Mn.fg _ _;have h2r:(cH m k l).r=gX (bG m k) k l:=Mn.fg _ _;have e:stM (cH m k l) (32/8)=2:=by unfold stM;rw[if_pos (by rw[h2r];rfl)]
 refine⟨by rw[iL,e],?_⟩;rw[uW,h2r];show(((bG m k).r.ld:Nat):Int)=_
 rw[h1r];show((m.r.ld+1:Nat):Int)=_;omega
theorem MB {sec:Nat}{o o':Option Mn}{a:eQ}{w:List UInt64}(hE:Ef sec (32/8) o a 0 o' w)(h8:a.k≠8)(h0:a.k≠0)(hl:¬(a.k=1\/a.k=2)):(Mt o o'->Alike o o')/\(Mt o' o->Alike o' o):=by
 have rf:∀ z,Alike z z:=fun z=>⟨rfl,rfl,rfl,rfl,fun _ _ _ h=>h⟩
 generalize he:(0:Int)=e at hE;cases hE with
 |xQ h=>exact absurd h h0
 |fmt h=>exact absurd h h0
 |ur h=>exact absurd h hl
 |B3 h=>exact absurd h hl
 |ld h=>exact absurd h hl
 | @sb m _ b h h24 hb=>
  have hr:(m.add (eG m b)).r=eG m b:=Mn.fg _ _;have hl:=(kP b m.r.kk.toNat (32/8) m.aO).1;have hp:cE (m.add (eG m b)) (32/8) (eG m b)=dz b m.r.kk.toNat (32/8) m.aO:=by cases b<;>rfl
  have e:stM (m.add (eG m b)) (32/8)=3:=by
   unfold stM;rw[hr,hp,if_neg (by show(3:Int)≠2;decide),if_neg (by show ¬(3:Int)<3;decide),if_pos (by show(0:Int)<_;omega)]
  have q1:=iL (aa:=32/8) (m:=m);have q2:=iL (aa:=32/8) (m:=m.add (eG m b));refine⟨fun h=>?_,fun h=>?_⟩<;>(have:=congrArg Prod.fst h.1;omega)
 | @st m _ h h3=>
  have hr:(m.add (dk m (32/8))).r=dk m (32/8):=Mn.fg _ _;have hp:cE (m.add (dk m (32/8))) (32/8) (dk m (32/8))=cE m (32/8) m.r:=Am m _ m.r _ rfl rfl _;have e:3<=stM (m.add (dk m (32/8))) (32/8):=by
   unfold stM;rw[hr,hp,if_neg (by show(4:Int)≠2;decide),if_neg (by show ¬(4:Int)<3;decide)];split<;>omega
  have q1:=sU (aa:=32/8) (m:=m);have q2:=sU (aa:=32/8) (m:=m.add (dk m (32/8))) e;refine⟨fun h=>?_,fun h=>?_⟩
  .exfalso;have h1:=h.1;rw[q1,q2,hr]at h1;have:=congrArg (fun s:S6=>s.2.2.2.2.1) h1;have:m.r.ps=m.r.ps+1:=this;omega
  .exfalso;have h1:=h.1;rw[q1,q2,hr]at h1;have:=congrArg (fun s:S6=>s.2.2.2.2.1) h1;have:m.r.ps+1=m.r.ps:=this;omega
 |sR h=>exact absurd h h8
 |rc h=>exact absurd h h8
 |uN h=>exact⟨fun _=>rf _,fun _=>rf _⟩
 |Cy h=>exact⟨fun _=>rf _,fun _=>rf _⟩
 |yp h=>exact⟨fun _=>rf _,fun _=>rf _⟩
 |uV h=>exact⟨fun _=>rf _,fun _=>rf _⟩
 |CF h=>exact⟨fun _=>rf _,fun _=>rf _⟩
 |uJ h=>exact⟨fun _=>rf _,fun _=>rf _⟩
 |Cv h=>exact⟨fun _=>rf _,fun _=>rf _⟩
 |ri h=>exact⟨fun _=>rf _,fun _=>rf _⟩
 |uK h=>exact⟨fun _=>rf _,fun _=>rf _⟩
 |Cw h=>exact⟨fun _=>rf _,fun _=>rf _⟩
 |ro h=>exact⟨fun _=>rf _,fun _=>rf _⟩
 |vS h=>exact⟨fun _=>rf _,fun _=>rf _⟩
theorem mV {x y:Option Mn}(h:(dj (32/8) x).1<2):(Mt x y->Alike x y)/\(Mt y x->Alike y x):=
 ⟨fun hm=>BM hm fun h2=>by omega,fun hm=>BM hm fun h2=>by rw[hm.1]at h2;omega⟩
end Eng
end Go.Proofs.YtlgnlghmbcpmhaaGreatDoor
