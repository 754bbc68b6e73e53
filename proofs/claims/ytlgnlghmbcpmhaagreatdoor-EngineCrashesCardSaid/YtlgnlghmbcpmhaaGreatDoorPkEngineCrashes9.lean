import Derived.Test.YtlgnlghmbcpmhaaGreatDoorProg
import Derived.Test.YtlgnlghmbcpmhaaGreatDoorPkEngineCrashes8
set_option maxRecDepth 100000
set_option linter.unusedVariables false
set_option linter.unusedSimpArgs false
set_option linter.unnecessarySimpa false
set_option linter.unusedSectionVars false
open Go.IntKind (i64 u32 u64)
namespace Go.Proofs.YtlgnlghmbcpmhaaGreatDoor
open Tryz (prog)
namespace W
open Go Go.Hw
theorem cd :prog.follows .mixedOrders=true:=by kernel_rfl
def oe (p1:OA)(H:Hp)(K:VK):Prop:=
 ao p1.isNone (K (.pointer none) H) (Nw H (Oq #[.pointer p1,.pointer none] 148) fun b1 H1=>K (V b1) H1)
theorem oe.ok p1 H K (h:oe p1 H K):ae prog 15 #[.pointer p1] H K:=
 cg cd Tryz.func15 rfl rfl h
def aB.j6.q1 (H10:Hp)(a14 a8:Addr)(x8:Int)(a7:Addr)(K:VK):Prop:=
 (jy H10 (a14.add 31) fun A2 n2 m2=>St H10 ((a8.add 4).add 0) (I x8) fun H11=>St H11 ((a8.add 5).add 0) (I (n2:Int)) fun H12=>aJ H12 a8 6 fun l2=>bR H12 a7 l2.toArray 6 fun H89=>aJ H89 a7 6 fun l34=>K (.agg l34.toArray) H89)/\(St H10 ((a8.add 4).add 0) (I x8) fun H13=>jy H13 (a14.add 31) fun A3 n3 m3=>St H13 ((a8.add 5).add 0) (I (n3:Int)) fun H14=>aJ H14 a8 6 fun l3=>bR H14 a7 l3.toArray 6 fun H90=>aJ H90 a7 6 fun l35=>K (.agg l35.toArray) H90)
def aB.j6.q2 (H7:Hp)(a8:Addr)(x8:Int)(n1:Nat)(a7:Addr)(K:VK):Prop:=
 St H7 ((a8.add 4).add 0) (I x8) fun H8=>St H8 ((a8.add 5).add 0) (I (n1:Int)) fun H9=>aJ H9 a8 6 fun l1=>bR H9 a7 l1.toArray 6 fun H88=>aJ H88 a7 6 fun l33=>K (.agg l33.toArray) H88
def aB.j6.q3 (H15:Hp)(a12 a8:Addr)(x8:Int)(a7:Addr)(K:VK):Prop:=
 (bA H15 (a12.add 1) fun p9=>NN p9 fun a15=>aB.j6.q1 H15 a15 a8 x8 a7 K)/\(St H15 ((a8.add 4).add 0) (I x8) fun H20=>bA H20 (a12.add 1) fun p10=>NN p10 fun a16=>jy H20 (a16.add 31) fun A6 n6 m6=>St H20 ((a8.add 5).add 0) (I (n6:Int)) fun H21=>aJ H21 a8 6 fun l6=>bR H21 a7 l6.toArray 6 fun H93=>aJ H93 a7 6 fun l38=>K (.agg l38.toArray) H93)
def aB.j6.q4 (H:Hp)(a13 a17 a8:Addr)(x7:Int)(a7:Addr)(K:VK):Prop:=
 (aM H ((a13.add 23).add 4) fun x9=>(jy H (a17.add 31) fun A7 n7 m7=>St H ((a8.add 3).add 0) (I x7) fun H22=>aB.j6.q2 H22 a8 x9 n7 a7 K)/\(St H ((a8.add 3).add 0) (I x7) fun H25=>aB.j6.q1 H25 a17 a8 x9 a7 K))/\(jy H (a17.add 31) fun A10 n10 m10=>(aM H ((a13.add 23).add 4) fun x10=>St H ((a8.add 3).add 0) (I x7) fun H30=>aB.j6.q2 H30 a8 x10 n10 a7 K)/\(St H ((a8.add 3).add 0) (I x7) fun H33=>aM H33 ((a13.add 23).add 4) fun x11=>aB.j6.q2 H33 a8 x11 n10 a7 K))/\(St H ((a8.add 3).add 0) (I x7) fun H36=>aM H36 ((a13.add 23).add 4) fun x12=>aB.j6.q1 H36 a17 a8 x12 a7 K)
def aB.j6 (K:VK)(p5:OA)(a7 a8:Addr)(H:Hp):=
 aM H (a8.add 0) fun x6=>ao (decide (x6>=3)) (NN p5 fun a9=>bA H (a9.add 1) fun p6=>NN p6 fun a10=>aM H ((a10.add 23).add 3) fun x7=>NN p5 fun a11=>NN p5 fun a12=>(bA H (a11.add 1) fun p7=>NN p7 fun a13=>(aM H ((a13.add 23).add 4) fun x8=>(bA H (a12.add 1) fun p8=>NN p8 fun a14=>(jy H (a14.add 31) fun A1 n1 m1=>St H ((a8.add 3).add 0) (I x7) fun H7=>aB.j6.q2 H7 a8 x8 n1 a7 K)/\(St H ((a8.add 3).add 0) (I x7) fun H10=>aB.j6.q1 H10 a14 a8 x8 a7 K))/\(St H ((a8.add 3).add 0) (I x7) fun H15=>aB.j6.q3 H15 a12 a8 x8 a7 K))/\(bA H (a12.add 1) fun p11=>NN p11 fun a17=>aB.j6.q4 H a13 a17 a8 x7 a7 K)/\(St H ((a8.add 3).add 0) (I x7) fun H41=>aM H41 ((a13.add 23).add 4) fun x13=>aB.j6.q3 H41 a12 a8 x13 a7 K))/\(bA H (a12.add 1) fun p14=>NN p14 fun a20=>(bA H (a11.add 1) fun p15=>NN p15 fun a21=>aB.j6.q4 H a21 a20 a8 x7 a7 K)/\(jy H (a20.add 31) fun A22 n22 m22=>(bA H (a11.add 1) fun p16=>NN p16 fun a22=>(aM H ((a22.add 23).add 4) fun x18=>St H ((a8.add 3).add 0) (I x7) fun H67=>aB.j6.q2 H67 a8 x18 n22 a7 K)/\(St H ((a8.add 3).add 0) (I x7) fun H70=>aM H70 ((a22.add 23).add 4) fun x19=>aB.j6.q2 H70 a8 x19 n22 a7 K))/\(St H ((a8.add 3).add 0) (I x7) fun H73=>bA H73 (a11.add 1) fun p17=>NN p17 fun a23=>aM H73 ((a23.add 23).add 4) fun x20=>aB.j6.q2 H73 a8 x20 n22 a7 K))/\(St H ((a8.add 3).add 0) (I x7) fun H76=>bA H76 (a11.add 1) fun p18=>NN p18 fun a24=>aM H76 ((a24.add 23).add 4) fun x21=>aB.j6.q1 H76 a20 a8 x21 a7 K))/\(St H ((a8.add 3).add 0) (I x7) fun H81=>bA H81 (a11.add 1) fun p19=>NN p19 fun a25=>aM H81 ((a25.add 23).add 4) fun x22=>aB.j6.q3 H81 a12 a8 x22 a7 K)) (aJ H a8 6 fun l32=>bR H a7 l32.toArray 6 fun H119=>aJ H119 a7 6 fun l64=>K (.agg l64.toArray) H119)
def aB.j4 (K:VK)(p3:OA)(a3 a4:Addr)(H:Hp):=
 aM H (a4.add 0) fun x4=>ao (decide (x4>=2)) (NN p3 fun a5=>bA H (a5.add 1) fun p4=>NN p4 fun a6=>aM H ((a6.add 23).add 2) fun x5=>St H ((a4.add 2).add 0) (I x5) fun H6=>aB.j6 K p3 a3 a4 H6) (aB.j6 K p3 a3 a4 H)
def aB (p1:OA)(H:Hp)(K:VK):Prop:=
 Nw H (Oq #[I 0,I 0,I 0,I 0,I 0,I 0] 30) fun b1 H1=>cF 74 #[.pointer p1] H1 fun x1 H2=>Nw H2 (Oq #[I 0,I 0,I 0,I 0,I 0,I 0] 30) fun b2 H3=>bR H3 (O b2) #[I x1,I 0,I 0,I 0,I 0,I 0] 6 fun H4=>aM H4 ((O b2).add 0) fun x2=>ao (decide (x2>=1)) (NN p1 fun a1=>bA H4 (a1.add 1) fun p2=>NN p2 fun a2=>jA H4 ((a2.add 23).add 5) fun x3=>St H4 (((O b2).add 1).add 0) (I (i64.wrap x3)) fun H5=>aB.j4 K p1 (O b1) (O b2) H5) (aB.j4 K p1 (O b1) (O b2) H4)
def aB.Λ (K:VK):aN:=⟨fun i=>match Nat.beq i 6 with|true=>some (fun E D H=>eP E 0 fun p5=>eN E 2 fun a7=>eN E 3 fun a8=>az D (aB.j6 K p5 a7 a8 H))|false=>match Nat.beq i 4 with|true=>some (fun E D H=>eP E 0 fun p3=>eN E 2 fun a3=>eN E 3 fun a4=>az D (aB.j4 K p3 a3 a4 H))|false=>none,fun i=>none,(fun i=>match Nat.beq i 7 with|true=>some ([3,7,11,15,19,22],[0,1,3,7,15,31,63,127,0,256,768,1792,3840,7936,16128,32512,0,65536,196608,458752,983040,2031616,4128768,8323072,255,16777471,50397183,117506047,268435455,536870911],0)|false=>none)⟩
theorem aB.ok p1 H K (h:aB p1 H K):ae prog 18 #[.pointer p1] H K:=
 dX (Λ:=(aB.Λ K)) cd Tryz.func18 rfl rfl h (oC (fun E D H h=>by
   obtain⟨p3,e0,g2⟩:=GP h;obtain⟨a3,e2,g5⟩:=GN g2;obtain⟨a4,e3,g8⟩:=GN g5;obtain⟨rfl,h'⟩:=az.out g8;exact cY (Λ:=(aB.Λ K)) cd [] (ag.cons e0 (ag.cons e2 (ag.cons e3 (ag.nil _)))) h' (oC (fun E D H h=>by
     obtain⟨p5,e0,g2⟩:=GP h;obtain⟨a7,e2,g5⟩:=GN g2;obtain⟨a8,e3,g8⟩:=GN g5;obtain⟨rfl,h'⟩:=az.out g8;exact cY (Λ:=(aB.Λ K)) cd [] (ag.cons e0 (ag.cons e2 (ag.cons e3 (ag.nil _)))) h' oN) oN)) oN)
def iD (p1:OA)(H:Hp)(K:VK):Prop:=
 Nw H (Oq #[I 0,I 0,I 0,I 0] 45) fun b1 H1=>NN p1 fun a1=>bA H1 (a1.add 1) fun p2=>ao p2.isNone (bR H1 (O b1) #[I 0,I 0,I 0,I 0] 4 fun H2=>aJ H2 (O b1) 4 fun l2=>K (.agg l2.toArray) H2) (NN p1 fun a2=>bA H1 (a2.add 1) fun p3=>NN p3 fun a3=>aJ H1 (a3.add 0) 4 fun l1=>bR H1 (O b1) l1.toArray 4 fun H3=>aJ H3 (O b1) 4 fun l3=>K (.agg l3.toArray) H3)
theorem iD.ok p1 H K (h:iD p1 H K):ae prog 21 #[.pointer p1] H K:=
 cg cd Tryz.func21 rfl rfl h
def cM.j8 (K:VK)(p7:OA)(x5:Int)(p8:OA)(H:Hp):=
 ao (x5 !=0) (NN p7 fun a4=>St H ((a4.add 1).add 0) (.pointer none) fun H8=>K (I 11) H8) (NN p8 fun a5=>bA H (a5.add 22) fun p9=>Hz 82 #[.pointer p9] H fun v15 H9=>ET v15 fun y2 c1 x6=>(Nw H9 (Oq #[U 0,I 0,I 0,I 0,I 0,Ot 0,Ot 0,Ot 0] 110) fun b2 H10=>bR H10 (O b2) y2 8 fun H11=>ao (x6 !=0) (cF 80 #[.pointer p7,I x6] H11 fun x7 H12=>K (I x7) H12) (aJ H11 (O b2) 8 fun l16=>NN p8 fun a6=>bR H11 (a6.add 23) l16.toArray 8 fun H13=>Hz 83 #[.pointer p8] H13 fun v20 H14=>NN p7 fun a7=>St H14 ((a7.add 1).add 0) (.pointer p8) fun H15=>K (I 0) H15)))
def cM (p1:OA)(H:Hp)(K:VK):Prop:=
 NN p1 fun a1=>bA H (a1.add 0) fun p2=>Hz 79 #[.pointer p2] H fun v2 H1=>o5 v2 fun y1 x1=>(Nw H1 (Oq #[I 0,I 0,I 0,I 0] 45) fun b1 H2=>bR H2 (O b1) y1 4 fun H3=>ao (x1==8) (cF 80 #[.pointer p1,I x1] H3 fun x2 H4=>K (I x2) H4) (ao (x1 !=0) (NN p1 fun a2=>St H3 ((a2.add 1).add 0) (.pointer none) fun H5=>K (I 11) H5) (NN p1 fun a3=>(bA H3 (a3.add 0) fun p3=>aJ H3 (O b1) 4 fun l4=>Hz 81 #[.pointer p3,.agg l4.toArray] H3 fun v7 H6=>kA v7 fun p4 x3=>(cM.j8 K p1 x3 p4 H6))/\(aJ H3 (O b1) 4 fun l8=>bA H3 (a3.add 0) fun p5=>Hz 81 #[.pointer p5,.agg l8.toArray] H3 fun v11 H7=>kA v11 fun p6 x4=>(cM.j8 K p1 x4 p6 H7)))))
def cM.Λ (K:VK):aN:=⟨fun i=>match Nat.beq i 8 with|true=>some (fun E D H=>eP E 0 fun p7=>eI E 4 .i64 fun x5=>eP E 5 fun p8=>az D (cM.j8 K p7 x5 p8 H))|false=>none,fun i=>none,(fun i=>match Nat.beq i 7 with|true=>some ([],[0,1,3,7,0,31,63,127,127,255,1023],0)|false=>none)⟩
theorem cM.ok p1 H K (h:cM p1 H K):ae prog 27 #[.pointer p1] H K:=
 dX (Λ:=(cM.Λ K)) cd Tryz.func27 rfl rfl h (oC (fun E D H h=>by
   obtain⟨p7,e0,g2⟩:=GP h;obtain⟨x5,e4,g4⟩:=GI g2;obtain⟨p8,e5,g6⟩:=GP g4;obtain⟨rfl,h'⟩:=az.out g6;exact cY (Λ:=(cM.Λ K)) cd [] (ag.cons e0 (ag.cons e4 (ag.cons e5 (ag.nil _)))) h' oN) oN)
def cQ.j7 (K:VK)(p3:OA)(a3:Addr)(x5:Int)(H:Hp):=
 NN p3 fun a4=>bA H (a4.add 0) fun p4=>NN p3 fun a5=>bA H (a5.add 1) fun p5=>NN p5 fun a6=>bA H (a6.add 21) fun p6=>NN p3 fun a7=>bA H (a7.add 1) fun p7=>NN p7 fun a8=>aJ H (a8.add 4) 17 fun l2=>aM H (a3.add 2) fun x6=>NN p3 fun a9=>bA H (a9.add 1) fun p8=>NN p8 fun a10=>jy H (a10.add 31) fun A1 n1 m1=>aM H (a3.add 4) fun x7=>cX x7 n1 (NN A1 fun a11=>aJ H (a11.add (x7.toNat*8)) 8 fun l3=>Hz 109 #[.pointer p4,.pointer p6,.agg l2.toArray,I x6,.agg l3.toArray,Ot x5] H fun v14 H4=>tf v14 fun x8 x9=>(ao (x9 !=0) (cF 80 #[.pointer p3,I x9] H4 fun x10 H5=>K (.tuple #[.bool false,I x10]) H5) (aM H4 (a3.add 4) fun x11=>St H4 ((a3.add 1).add 0) (I 4) fun H6=>St H6 ((a3.add 4).add 0) (I (i64.wrap (x11+1))) fun H7=>St H7 ((a3.add 7).add 0) (Ot x8) fun H8=>NN p3 fun a12=>bA H8 (a12.add 1) fun p9=>aJ H8 a3 8 fun l7=>cF 110 #[.pointer p9,.agg l7.toArray] H8 fun x12 H9=>cF 80 #[.pointer p3,I x12] H9 fun x13 H10=>ao (x13 !=0) (K (.tuple #[.bool false,I x13]) H10) (cF 74 #[.pointer p3] H10 fun x14 H11=>K (.tuple #[.bool (x14==4),I 0]) H11))))
def cQ (p1:OA)(H:Hp)(K:VK):Prop:=
 cF 74 #[.pointer p1] H fun x1 H1=>ao (x1 !=3) (K (.tuple #[.bool false,I 5]) H1) (NN p1 fun a1=>bA H1 (a1.add 1) fun p2=>NN p2 fun a2=>aJ H1 (a2.add 23) 8 fun l1=>Nw H1 (Oq #[U 0,I 0,I 0,I 0,I 0,Ot 0,Ot 0,Ot 0] 110) fun b1 H2=>bR H2 (O b1) l1.toArray 8 fun H3=>jA H3 ((O b1).add 7) fun x2=>aM H3 ((O b1).add 4) fun x3=>ao (x3==0) (jA H3 ((O b1).add 6) fun x4=>cQ.j7 K p1 (O b1) x4 H3) (cQ.j7 K p1 (O b1) x2 H3))
def cQ.Λ (K:VK):aN:=⟨fun i=>match Nat.beq i 7 with|true=>some (fun E D H=>eP E 0 fun p3=>eN E 4 fun a3=>eI E 5 .u32 fun x5=>az D (cQ.j7 K p3 a3 x5 H))|false=>none,fun i=>none,(fun i=>match Nat.beq i 11 with|true=>some ([0],[1,2,3,4,5],6)|false=>match Nat.beq i 7 with|true=>some ([3,7,10,14,17,19,23,26,28,30],[0,1,3,7,0,16,48,112,240,496,1008,0,2048,6144,14336,30720,63488,129024,0,262144,0,1048576,3145728,7340032,15728640,32505856,66060288,0,134217728,535822336,1072693248,0,4294967295,8589934591,17179869183,17179869183,34359738367,137438953471],0)|false=>none)⟩
theorem cQ.ok p1 H K (h:cQ p1 H K):ae prog 62 #[.pointer p1] H K:=
 dX (Λ:=(cQ.Λ K)) cd Tryz.func62 rfl rfl h (oC (fun E D H h=>by
   obtain⟨p3,e0,g2⟩:=GP h;obtain⟨a3,e4,g5⟩:=GN g2;obtain⟨x5,e5,g7⟩:=GI g5;obtain⟨rfl,h'⟩:=az.out g7;exact cY (Λ:=(cQ.Λ K)) cd [] (ag.cons e0 (ag.cons e4 (ag.cons e5 (ag.nil _)))) h' oN) oN)
def aq.j6 (K:VK)(a58 a59:Addr)(p64:OA)(x80:Int)(H:Hp):=
 ao (x80 !=0) (K (I x80) H) (bA H a58 fun p65=>bA H a58 fun p66=>NN p66 fun a60=>bA H (a60.add 0) fun p67=>NN p64 fun a61=>bA H (a61.add 22) fun p68=>Nw H (.row [.func (.func 125) #[] #[.pointer (some a58)],.func (.func 127) #[.pointer p67] #[],.func (.func 128) #[.pointer p68] #[],.func (.func 129) #[] #[.pointer (some a58),.pointer (some a59)]] 65 4) fun b46 H94=>cF 126 #[.pointer p65,.slice (Oo b46) 4 4] H94 fun x81 H95=>ao (x81==0) (bA H95 a58 fun p69=>NN p69 fun a62=>St H95 ((a62.add 1).add 0) (.pointer p64) fun H96=>K (I x81) H96) (K (I x81) H95))
def aq.j5.q1 (p57:OA)(l1:List Value)(H:Hp)(K:VK)(a54 a55:Addr):=
 Hz 81 #[.pointer p57,.agg l1.toArray] H fun v131 H91=>kA v131 fun p58 x77=>(aq.j6 K a54 a55 p58 x77 H91)
def aq.j5 (K:VK)(a54 a55:Addr)(H:Hp):=
 (bA H a54 fun p56=>NN p56 fun a56=>(bA H (a56.add 0) fun p57=>aJ H a55 4 fun l1=>aq.j5.q1 p57 l1 H K a54 a55)/\(aJ H a55 4 fun l5=>bA H (a56.add 0) fun p59=>aq.j5.q1 p59 l5 H K a54 a55))/\(aJ H a55 4 fun l9=>bA H a54 fun p61=>NN p61 fun a57=>bA H (a57.add 0) fun p62=>aq.j5.q1 p62 l9 H K a54 a55)
def aq.q1.q1 (a9:Addr)(H13:Hp)(b7:Nat)(x1 x9 x2:Int)(K:VK)(b1:Nat):=
 fc 124 #[.pointer (some (a9.add 0))] H13 fun x11=>bR H13 (O b7) #[I x1,I x9,I x11,I x2] 4 fun H14=>aq.j5 K (O b1) (O b7) H14
def aq.q1.q2 (a9:Addr)(H2:Hp)(x1 x9 x2:Int)(K:VK)(b1:Nat):=
 (fc 124 #[.pointer (some (a9.add 0))] H2 fun x10=>Nw H2 (Oq #[I 0,I 0,I 0,I 0] 45) fun b6 H11=>bR H11 (O b6) #[I x1,I x9,I x10,I x2] 4 fun H12=>aq.j5 K (O b1) (O b6) H12)/\(Nw H2 (Oq #[I 0,I 0,I 0,I 0] 45) fun b7 H13=>aq.q1.q1 a9 H13 b7 x1 x9 x2 K b1)
def aq.q1 (a2:Addr)(H2:Hp)(a8:Addr)(x1 x2:Int)(K:VK)(b1:Nat):=
 (fc 123 #[.pointer (some (a2.add 0))] H2 fun x9=>(bA H2 (a8.add 0) fun p11=>NN p11 fun a9=>aq.q1.q2 a9 H2 x1 x9 x2 K b1)/\(Nw H2 (Oq #[I 0,I 0,I 0,I 0] 45) fun b8 H15=>bA H15 (a8.add 0) fun p12=>NN p12 fun a10=>aq.q1.q1 a10 H15 b8 x1 x9 x2 K b1))/\(bA H2 (a8.add 0) fun p13=>NN p13 fun a11=>(fc 123 #[.pointer (some (a2.add 0))] H2 fun x13=>aq.q1.q2 a11 H2 x1 x13 x2 K b1)/\(Nw H2 (Oq #[I 0,I 0,I 0,I 0] 45) fun b11 H21=>fc 123 #[.pointer (some (a2.add 0))] H21 fun x16=>aq.q1.q1 a11 H21 b11 x1 x16 x2 K b1))/\(Nw H2 (Oq #[I 0,I 0,I 0,I 0] 45) fun b12 H23=>fc 123 #[.pointer (some (a2.add 0))] H23 fun x18=>bA H23 (a8.add 0) fun p14=>NN p14 fun a12=>aq.q1.q1 a12 H23 b12 x1 x18 x2 K b1)
def aq.q2.q1 (a21:Addr)(H43:Hp)(b22:Nat)(x1 x33 x2:Int)(K:VK)(b1:Nat):=
 fc 124 #[.pointer (some (a21.add 0))] H43 fun x35=>bR H43 (O b22) #[I x1,I x33,I x35,I x2] 4 fun H44=>aq.j5 K (O b1) (O b22) H44
def aq.q2 (H2:Hp)(a1 a21:Addr)(x1 x2:Int)(K:VK)(b1:Nat):=
 (bA H2 (a1.add 0) fun p24=>NN p24 fun a22=>(fc 123 #[.pointer (some (a22.add 0))] H2 fun x33=>(fc 124 #[.pointer (some (a21.add 0))] H2 fun x34=>Nw H2 (Oq #[I 0,I 0,I 0,I 0] 45) fun b21 H41=>bR H41 (O b21) #[I x1,I x33,I x34,I x2] 4 fun H42=>aq.j5 K (O b1) (O b21) H42)/\(Nw H2 (Oq #[I 0,I 0,I 0,I 0] 45) fun b22 H43=>aq.q2.q1 a21 H43 b22 x1 x33 x2 K b1))/\(Nw H2 (Oq #[I 0,I 0,I 0,I 0] 45) fun b23 H45=>fc 123 #[.pointer (some (a22.add 0))] H45 fun x36=>aq.q2.q1 a21 H45 b23 x1 x36 x2 K b1))/\(Nw H2 (Oq #[I 0,I 0,I 0,I 0] 45) fun b24 H47=>bA H47 (a1.add 0) fun p25=>NN p25 fun a23=>fc 123 #[.pointer (some (a23.add 0))] H47 fun x38=>aq.q2.q1 a21 H47 b24 x1 x38 x2 K b1)
def aq.q3 (H7:Hp)(a3:Addr)(b4:Nat)(x1 x4 x2:Int)(K:VK)(b1:Nat):=
 bA H7 (a3.add 0) fun p7=>NN p7 fun a5=>fc 124 #[.pointer (some (a5.add 0))] H7 fun x7=>bR H7 (O b4) #[I x1,I x4,I x7,I x2] 4 fun H8=>aq.j5 K (O b1) (O b4) H8
def aq.q4 (H2:Hp)(a1 a15:Addr)(x1 x2:Int)(K:VK)(b1:Nat):=
 (bA H2 (a1.add 0) fun p18=>NN p18 fun a16=>aq.q1 a16 H2 a15 x1 x2 K b1)/\(bA H2 (a15.add 0) fun p23=>NN p23 fun a21=>aq.q2 H2 a1 a21 x1 x2 K b1)/\(Nw H2 (Oq #[I 0,I 0,I 0,I 0] 45) fun b25 H49=>bA H49 (a1.add 0) fun p26=>NN p26 fun a24=>fc 123 #[.pointer (some (a24.add 0))] H49 fun x40=>aq.q3 H49 a15 b25 x1 x40 x2 K b1)
def aq.q5 (a2:Addr)(H25:Hp)(b1 b13:Nat)(x1 x2:Int)(K:VK):Prop:=
 fc 123 #[.pointer (some (a2.add 0))] H25 fun x20=>bA H25 (O b1) fun p15=>NN p15 fun a13=>aq.q3 H25 a13 b13 x1 x20 x2 K b1
def aq (p1:OA)(x1 x2:Int)(H:Hp)(K:VK):Prop:=
 Nw H (Oq #[.pointer p1] 27) fun b1 H1=>bA H1 (O b1) fun p2=>cF 122 #[.pointer p2,I x1,I x2] H1 fun x3 H2=>ao (x3 !=0) (K (I x3) H2) ((bA H2 (O b1) fun p3=>NN p3 fun a1=>(bA H2 (a1.add 0) fun p4=>NN p4 fun a2=>(fc 123 #[.pointer (some (a2.add 0))] H2 fun x4=>(bA H2 (O b1) fun p5=>NN p5 fun a3=>(bA H2 (a3.add 0) fun p6=>NN p6 fun a4=>(fc 124 #[.pointer (some (a4.add 0))] H2 fun x5=>Nw H2 (Oq #[I 0,I 0,I 0,I 0] 45) fun b2 H3=>bR H3 (O b2) #[I x1,I x4,I x5,I x2] 4 fun H4=>aq.j5 K (O b1) (O b2) H4)/\(Nw H2 (Oq #[I 0,I 0,I 0,I 0] 45) fun b3 H5=>fc 124 #[.pointer (some (a4.add 0))] H5 fun x6=>bR H5 (O b3) #[I x1,I x4,I x6,I x2] 4 fun H6=>aq.j5 K (O b1) (O b3) H6))/\(Nw H2 (Oq #[I 0,I 0,I 0,I 0] 45) fun b4 H7=>aq.q3 H7 a3 b4 x1 x4 x2 K b1))/\(Nw H2 (Oq #[I 0,I 0,I 0,I 0] 45) fun b5 H9=>bA H9 (O b1) fun p8=>NN p8 fun a6=>aq.q3 H9 a6 b5 x1 x4 x2 K b1))/\(bA H2 (O b1) fun p10=>NN p10 fun a8=>aq.q1 a2 H2 a8 x1 x2 K b1)/\(Nw H2 (Oq #[I 0,I 0,I 0,I 0] 45) fun b13 H25=>aq.q5 a2 H25 b1 b13 x1 x2 K))/\(bA H2 (O b1) fun p17=>NN p17 fun a15=>aq.q4 H2 a1 a15 x1 x2 K b1)/\(Nw H2 (Oq #[I 0,I 0,I 0,I 0] 45) fun b26 H51=>bA H51 (a1.add 0) fun p28=>NN p28 fun a26=>aq.q5 a26 H51 b1 b26 x1 x2 K))/\(bA H2 (O b1) fun p31=>NN p31 fun a29=>(bA H2 (O b1) fun p32=>NN p32 fun a30=>aq.q4 H2 a30 a29 x1 x2 K b1)/\(bA H2 (a29.add 0) fun p43=>NN p43 fun a41=>(bA H2 (O b1) fun p44=>NN p44 fun a42=>aq.q2 H2 a42 a41 x1 x2 K b1)/\(Nw H2 (Oq #[I 0,I 0,I 0,I 0] 45) fun b43 H85=>bA H85 (O b1) fun p47=>NN p47 fun a45=>bA H85 (a45.add 0) fun p48=>NN p48 fun a46=>fc 123 #[.pointer (some (a46.add 0))] H85 fun x71=>fc 124 #[.pointer (some (a41.add 0))] H85 fun x72=>bR H85 (O b43) #[I x1,I x71,I x72,I x2] 4 fun H86=>aq.j5 K (O b1) (O b43) H86))/\(Nw H2 (Oq #[I 0,I 0,I 0,I 0] 45) fun b44 H87=>bA H87 (O b1) fun p49=>NN p49 fun a47=>bA H87 (a47.add 0) fun p50=>NN p50 fun a48=>fc 123 #[.pointer (some (a48.add 0))] H87 fun x73=>aq.q3 H87 a29 b44 x1 x73 x2 K b1))/\(Nw H2 (Oq #[I 0,I 0,I 0,I 0] 45) fun b45 H89=>bA H89 (O b1) fun p52=>NN p52 fun a50=>bA H89 (a50.add 0) fun p53=>NN p53 fun a51=>aq.q5 a51 H89 b1 b45 x1 x2 K))
def aq.Λ (K:VK):aN:=⟨fun i=>match Nat.beq i 6 with|true=>some (fun E D H=>eN E 3 fun a58=>eN E 8 fun a59=>eP E 9 fun p64=>eI E 10 .i64 fun x80=>az D (aq.j6 K a58 a59 p64 x80 H))|false=>match Nat.beq i 5 with|true=>some (fun E D H=>eN E 3 fun a54=>eN E 8 fun a55=>az D (aq.j5 K a54 a55 H))|false=>none,fun i=>none,(fun i=>match Nat.beq i 9 with|true=>some ([0,2,5,10],[0,0,0,4,12,28,60,0,128,384,896,1920,0,8190,16383,32767],0)|false=>match Nat.beq i 5 with|true=>some ([],[0,1,3,7,0,31,63,127,127,255,1023],0)|false=>match Nat.beq i 4 with|true=>some ([1,4,7,8,11,14],[0,0,2,6,14,30,62,126,0,256,768,1792,3840,7936,16382,0,65535,0,262143],0)|false=>none)⟩
theorem aq.ok p1 x1 x2 H K (h:aq p1 x1 x2 H K):ae prog 69 #[.pointer p1,I x1,I x2] H K:=
 dX (Λ:=(aq.Λ K)) cd Tryz.func69 rfl rfl h (oC (fun E D H h=>by
   obtain⟨a54,e3,g3⟩:=GN h;obtain⟨a55,e8,g6⟩:=GN g3;obtain⟨rfl,h'⟩:=az.out g6;exact cY (Λ:=(aq.Λ K)) cd [] (ag.cons e3 (ag.cons e8 (ag.nil _))) h' (oC (fun E D H h=>by
     obtain⟨a58,e3,g3⟩:=GN h;obtain⟨a59,e8,g6⟩:=GN g3;obtain⟨p64,e9,g8⟩:=GP g6;obtain⟨x80,e10,g10⟩:=GI g8;obtain⟨rfl,h'⟩:=az.out g10;exact cY (Λ:=(aq.Λ K)) cd [] (ag.cons e3 (ag.cons e8 (ag.cons e9 (ag.cons e10 (ag.nil _))))) h' oN) oN)) oN)
def ax.j7 (K:VK)(a29 a30 a31 a32:Addr)(H:Hp):=
 Nw H (Oq #[Ot 0] 84) fun b35 H85=>bA H85 a29 fun p28=>NN p28 fun a33=>bA H85 (a33.add 1) fun p29=>Nw H85 (Oq #[.pointer none] 146) fun b36 H86=>St H86 ((O b36).add 0) (.pointer p29) fun H87=>bA H87 a29 fun p30=>Nw H87 (.row [.func (.func 132) #[] #[V b36,.pointer (some a32)],.func (.func 133) #[] #[V b36,.pointer (some a29),.pointer (some a31),.pointer (some a30),V b35],.func (.func 135) #[] #[V b35,.pointer (some a32),V b36]] 65 3) fun b37 H88=>cF 126 #[.pointer p30,.slice (Oo b37) 3 3] H88 fun x91 H89=>K (.tuple #[I 0,I x91]) H89
def ax.j4.q1 (H57:Hp)(b21:Nat)(x70 x71:Int)(K:VK)(a14 a15 a16:Addr):=
 bR H57 (O b21) #[U 0,I 1,I x70,I 0,I 0,Ot (u32.wrap (x71+1)),Ot 0,Ot 0] 8 fun H58=>ax.j7 K a14 a15 a16 (O b21) H58
def ax.j4.q2 (H:Hp)(a18:Addr)(x70:Int)(K:VK)(a14 a15 a16:Addr):=
 (jA H ((a18.add 23).add 5) fun x71=>Nw H (Oq #[U 0,I 0,I 0,I 0,I 0,Ot 0,Ot 0,Ot 0] 110) fun b21 H57=>ax.j4.q1 H57 b21 x70 x71 K a14 a15 a16)/\(Nw H (Oq #[U 0,I 0,I 0,I 0,I 0,Ot 0,Ot 0,Ot 0] 110) fun b22 H59=>jA H59 ((a18.add 23).add 5) fun x72=>ax.j4.q1 H59 b22 x70 x72 K a14 a15 a16)
def ax.j4.q3 (H61:Hp)(a17:Addr)(b23:Nat)(x70:Int)(K:VK)(a14 a15 a16:Addr):=
 bA H61 (a17.add 1) fun p18=>NN p18 fun a19=>jA H61 ((a19.add 23).add 5) fun x73=>ax.j4.q1 H61 b23 x70 x73 K a14 a15 a16
def ax.j4.q4 (H:Hp)(a17:Addr)(x70:Int)(K:VK)(a14 a15 a16:Addr):=
 (bA H (a17.add 1) fun p17=>NN p17 fun a18=>ax.j4.q2 H a18 x70 K a14 a15 a16)/\(Nw H (Oq #[U 0,I 0,I 0,I 0,I 0,Ot 0,Ot 0,Ot 0] 110) fun b23 H61=>ax.j4.q3 H61 a17 b23 x70 K a14 a15 a16)
def ax.j4 (K:VK)(a14 a15:Addr)(x68 x69:Int)(a16:Addr)(H:Hp):=
 ao (x69 !=0) (K (.tuple #[I x68,I x69]) H) ((aM H a16 fun x70=>(bA H a14 fun p16=>NN p16 fun a17=>ax.j4.q4 H a17 x70 K a14 a15 a16)/\(Nw H (Oq #[U 0,I 0,I 0,I 0,I 0,Ot 0,Ot 0,Ot 0] 110) fun b24 H63=>bA H63 a14 fun p19=>NN p19 fun a20=>ax.j4.q3 H63 a20 b24 x70 K a14 a15 a16))/\(bA H a14 fun p21=>NN p21 fun a22=>(aM H a16 fun x75=>ax.j4.q4 H a22 x75 K a14 a15 a16)/\(bA H (a22.add 1) fun p24=>NN p24 fun a25=>(aM H a16 fun x79=>ax.j4.q2 H a25 x79 K a14 a15 a16)/\(jA H ((a25.add 23).add 5) fun x82=>(aM H a16 fun x83=>Nw H (Oq #[U 0,I 0,I 0,I 0,I 0,Ot 0,Ot 0,Ot 0] 110) fun b30 H75=>ax.j4.q1 H75 b30 x83 x82 K a14 a15 a16)/\(Nw H (Oq #[U 0,I 0,I 0,I 0,I 0,Ot 0,Ot 0,Ot 0] 110) fun b31 H77=>aM H77 a16 fun x84=>ax.j4.q1 H77 b31 x84 x82 K a14 a15 a16))/\(Nw H (Oq #[U 0,I 0,I 0,I 0,I 0,Ot 0,Ot 0,Ot 0] 110) fun b32 H79=>aM H79 a16 fun x85=>jA H79 ((a25.add 23).add 5) fun x86=>ax.j4.q1 H79 b32 x85 x86 K a14 a15 a16))/\(Nw H (Oq #[U 0,I 0,I 0,I 0,I 0,Ot 0,Ot 0,Ot 0] 110) fun b33 H81=>aM H81 a16 fun x87=>ax.j4.q3 H81 a22 b33 x87 K a14 a15 a16))/\(Nw H (Oq #[U 0,I 0,I 0,I 0,I 0,Ot 0,Ot 0,Ot 0] 110) fun b34 H83=>aM H83 a16 fun x89=>bA H83 a14 fun p26=>NN p26 fun a27=>ax.j4.q3 H83 a27 b34 x89 K a14 a15 a16))
def ax.q1 (A2:OA)(n2 m2:Nat)(x1:Int)(H6:Hp)(b4:Nat)(K:VK)(b1 b2:Nat):=
 Hz 131 #[.slice A2 n2 m2,I x1] H6 fun v11 H7=>AS v11 fun x5 x6 x7=>(St H7 ((O b4).add 0) (I x5) fun H8=>ax.j4 K (O b1) (O b2) x6 x7 (O b4) H8)
def ax.q2 (A2:OA)(n2 m2:Nat)(x1:Int)(H2:Hp)(K:VK)(b1 b2:Nat):=
 (Hz 131 #[.slice A2 n2 m2,I x1] H2 fun v7 H3=>AS v7 fun x2 x3 x4=>(Nw H3 (Oq #[I 0] 3) fun b3 H4=>St H4 ((O b3).add 0) (I x2) fun H5=>ax.j4 K (O b1) (O b2) x3 x4 (O b3) H5))/\(Nw H2 (Oq #[I 0] 3) fun b4 H6=>ax.q1 A2 n2 m2 x1 H6 b4 K b1 b2)
def ax.q3 (H2:Hp)(a2:Addr)(A2:OA)(n2 m2:Nat)(K:VK)(b1 b2:Nat):=
 (bA H2 (a2.add 1) fun p5=>NN p5 fun a3=>(aM H2 ((a3.add 0).add 0) fun x1=>ax.q2 A2 n2 m2 x1 H2 K b1 b2)/\(Nw H2 (Oq #[I 0] 3) fun b5 H9=>aM H9 ((a3.add 0).add 0) fun x8=>ax.q1 A2 n2 m2 x8 H9 b5 K b1 b2))/\(Nw H2 (Oq #[I 0] 3) fun b6 H12=>bA H12 (a2.add 1) fun p6=>NN p6 fun a4=>aM H12 ((a4.add 0).add 0) fun x12=>ax.q1 A2 n2 m2 x12 H12 b6 K b1 b2)
def ax (p1 A1:OA)(n1 m1:Nat)(H:Hp)(K:VK):Prop:=
 Nw H (Oq #[.pointer p1] 27) fun b1 H1=>Nw H1 (Oq #[.slice A1 n1 m1] 31) fun b2 H2=>bA H2 (O b1) fun p2=>NN p2 fun a1=>bA H2 (a1.add 1) fun p3=>ao p3.isNone (K (.tuple #[I 0,I 5]) H2) ((jy H2 (O b2) fun A2 n2 m2=>(bA H2 (O b1) fun p4=>NN p4 fun a2=>ax.q3 H2 a2 A2 n2 m2 K b1 b2)/\(Nw H2 (Oq #[I 0] 3) fun b7 H15=>bA H15 (O b1) fun p7=>NN p7 fun a5=>bA H15 (a5.add 1) fun p8=>NN p8 fun a6=>aM H15 ((a6.add 0).add 0) fun x16=>ax.q1 A2 n2 m2 x16 H15 b7 K b1 b2))/\(bA H2 (O b1) fun p9=>NN p9 fun a7=>(jy H2 (O b2) fun A3 n3 m3=>ax.q3 H2 a7 A3 n3 m3 K b1 b2)/\(bA H2 (a7.add 1) fun p12=>NN p12 fun a10=>(jy H2 (O b2) fun A4 n4 m4=>(aM H2 ((a10.add 0).add 0) fun x35=>ax.q2 A4 n4 m4 x35 H2 K b1 b2)/\(Nw H2 (Oq #[I 0] 3) fun b14 H36=>aM H36 ((a10.add 0).add 0) fun x42=>ax.q1 A4 n4 m4 x42 H36 b14 K b1 b2))/\(aM H2 ((a10.add 0).add 0) fun x46=>(jy H2 (O b2) fun A5 n5 m5=>ax.q2 A5 n5 m5 x46 H2 K b1 b2)/\(Nw H2 (Oq #[I 0] 3) fun b17 H45=>jy H45 (O b2) fun A6 n6 m6=>ax.q1 A6 n6 m6 x46 H45 b17 K b1 b2))/\(Nw H2 (Oq #[I 0] 3) fun b18 H48=>jy H48 (O b2) fun A7 n7 m7=>aM H48 ((a10.add 0).add 0) fun x56=>ax.q1 A7 n7 m7 x56 H48 b18 K b1 b2))/\(Nw H2 (Oq #[I 0] 3) fun b19 H51=>jy H51 (O b2) fun A8 n8 m8=>bA H51 (a7.add 1) fun p13=>NN p13 fun a11=>aM H51 ((a11.add 0).add 0) fun x60=>ax.q1 A8 n8 m8 x60 H51 b19 K b1 b2))/\(Nw H2 (Oq #[I 0] 3) fun b20 H54=>jy H54 (O b2) fun A9 n9 m9=>bA H54 (O b1) fun p14=>NN p14 fun a12=>bA H54 (a12.add 1) fun p15=>NN p15 fun a13=>aM H54 ((a13.add 0).add 0) fun x64=>ax.q1 A9 n9 m9 x64 H54 b20 K b1 b2))
def ax.Λ (K:VK):aN:=⟨fun i=>match Nat.beq i 7 with|true=>some (fun E D H=>eN E 2 fun a29=>eN E 3 fun a30=>eN E 6 fun a31=>eN E 7 fun a32=>az D (ax.j7 K a29 a30 a31 a32 H))|false=>match Nat.beq i 4 with|true=>some (fun E D H=>eN E 2 fun a14=>eN E 3 fun a15=>eI E 4 .i64 fun x68=>eI E 5 .i64 fun x69=>eN E 6 fun a16=>az D (ax.j4 K a14 a15 x68 x69 a16 H))|false=>none,fun i=>none,(fun i=>match Nat.beq i 6 with|true=>some ([0,1,4,8],[0,0,2,6,14,30,62,126,254,510,1023,0,4095],0)|false=>match Nat.beq i 3 with|true=>some ([0,1,4,8],[0,0,2,6,14,30,62,126,254,511,1023,2047,2047,2047,0,20479,57343,131071],0)|false=>none)⟩
theorem ax.ok p1 A1 n1 m1 H K (h:ax p1 A1 n1 m1 H K):ae prog 70 #[.pointer p1,.slice A1 n1 m1] H K:=
 dX (Λ:=(ax.Λ K)) cd Tryz.func70 rfl rfl h (oC (fun E D H h=>by
   obtain⟨a14,e2,g3⟩:=GN h;obtain⟨a15,e3,g6⟩:=GN g3;obtain⟨x68,e4,g8⟩:=GI g6;obtain⟨x69,e5,g10⟩:=GI g8;obtain⟨a16,e6,g13⟩:=GN g10;obtain⟨rfl,h'⟩:=az.out g13;exact cY (Λ:=(ax.Λ K)) cd [] (ag.cons e2 (ag.cons e3 (ag.cons e4 (ag.cons e5 (ag.cons e6 (ag.nil _)))))) h' (oC (fun E D H h=>by
     obtain⟨a29,e2,g3⟩:=GN h;obtain⟨a30,e3,g6⟩:=GN g3;obtain⟨a31,e6,g9⟩:=GN g6;obtain⟨a32,e7,g12⟩:=GN g9;obtain⟨rfl,h'⟩:=az.out g12;exact cY (Λ:=(ax.Λ K)) cd [] (ag.cons e2 (ag.cons e3 (ag.cons e6 (ag.cons e7 (ag.nil _))))) h' oN) oN)) oN)
def cD.j4 (K:VK)(p2:OA)(x3:Int)(H:Hp):=
 ao (decide (x3<0)) (K (I 18) H) (ao (decide (x3>1)) (K (I 18) H) (NN p2 fun a1=>bA H (a1.add 1) fun p3=>NN p2 fun a2=>bA H (a2.add 1) fun p4=>NN p4 fun a3=>aM H ((a3.add 23).add 2) fun x4=>NN p2 fun a4=>bA H (a4.add 1) fun p5=>NN p5 fun a5=>jA H ((a5.add 23).add 5) fun x5=>NN p2 fun a6=>bA H (a6.add 1) fun p6=>NN p6 fun a7=>jA H ((a7.add 23).add 6) fun x6=>cF 110 #[.pointer p3,.agg #[U 0,I 3,I x4,I x3,I 0,Ot x5,Ot x6,Ot 0]] H fun x7 H2=>cF 80 #[.pointer p2,I x7] H2 fun x8 H3=>K (I x8) H3))
def cD (p1:OA)(x1:Int)(H:Hp)(K:VK):Prop:=
 cF 74 #[.pointer p1] H fun x2 H1=>ao (x2 !=2) (ao (x2 !=4) (K (I 5) H1) (cD.j4 K p1 x1 H1)) (cD.j4 K p1 x1 H1)
def cD.Λ (K:VK):aN:=⟨fun i=>match Nat.beq i 4 with|true=>some (fun E D H=>eP E 0 fun p2=>eI E 1 .i64 fun x3=>az D (cD.j4 K p2 x3 H))|false=>none,fun i=>none,(fun i=>match Nat.beq i 6 with|true=>some ([0],[1,2,3,4,5,6,7,8,9,10,11,12,13,14,15,16,17,18,19,20,21,22,23,24,25,26,27,28,29,30],31)|false=>none)⟩
theorem cD.ok p1 x1 H K (h:cD p1 x1 H K):ae prog 71 #[.pointer p1,I x1] H K:=
 dX (Λ:=(cD.Λ K)) cd Tryz.func71 rfl rfl h (oC (fun E D H h=>by
   obtain⟨p2,e0,g2⟩:=GP h;obtain⟨x3,e1,g4⟩:=GI g2;obtain⟨rfl,h'⟩:=az.out g4;exact cY (Λ:=(cD.Λ K)) cd [] (ag.cons e0 (ag.cons e1 (ag.nil _))) h' oN) oN)
def eR (p1:OA)(H:Hp)(K:VK):Prop:=
 cF 74 #[.pointer p1] H fun x1 H1=>ao (x1 !=4) (K (.tuple #[.slice none 0 0,I 12]) H1) (NN p1 fun a1=>bA H1 (a1.add 1) fun p2=>NN p2 fun a2=>jA H1 ((a2.add 23).add 7) fun x2=>Hz 136 #[.pointer p1,I 3,Ot x2] H1 fun v4 H2=>kB v4 fun A1 n1 m1 x3=>(K (.tuple #[.slice A1 n1 m1,I x3]) H2))
theorem eR.ok p1 H K (h:eR p1 H K):ae prog 72 #[.pointer p1] H K:=
 cg cd Tryz.func72 rfl rfl h
def fa (p1:OA)(H:Hp)(K:VK):Prop:=
 cF 74 #[.pointer p1] H fun x1 H1=>ao (decide (x1<2)) (K (.tuple #[.slice none 0 0,I 11]) H1) (NN p1 fun a1=>bA H1 (a1.add 1) fun p2=>NN p2 fun a2=>jA H1 ((a2.add 23).add 6) fun x2=>Hz 136 #[.pointer p1,I 0,Ot x2] H1 fun v4 H2=>kB v4 fun A1 n1 m1 x3=>(K (.tuple #[.slice A1 n1 m1,I x3]) H2))
theorem fa.ok p1 H K (h:fa p1 H K):ae prog 73 #[.pointer p1] H K:=
 cg cd Tryz.func73 rfl rfl h
def iE (p1:OA)(H:Hp)(K:VK):Prop:=
 NN p1 fun a1=>bA H (a1.add 1) fun p2=>ao p2.isNone (K (I 0) H) (NN p1 fun a2=>bA H (a2.add 1) fun p3=>NN p3 fun a3=>aM H ((a3.add 23).add 1) fun x1=>ao (x1==2) (K (I 2) H) (NN p1 fun a4=>bA H (a4.add 1) fun p4=>NN p4 fun a5=>aM H ((a5.add 23).add 1) fun x2=>ao (decide (x2<3)) (K (I 1) H) (NN p1 fun a6=>bA H (a6.add 1) fun p5=>NN p5 fun a7=>aM H ((a7.add 23).add 4) fun x3=>NN p1 fun a8=>bA H (a8.add 1) fun p6=>NN p6 fun a9=>jy H (a9.add 31) fun A1 n1 m1=>ao (decide (x3<(n1:Int))) (K (I 3) H) (K (I 4) H))))
theorem iE.ok p1 H K (h:iE p1 H K):ae prog 74 #[.pointer p1] H K:=
 cg cd Tryz.func74 rfl rfl h
def eM (p1:OA)(x1:Int)(H:Hp)(K:VK):Prop:=
 ao (x1==8) (NN p1 fun a1=>St H ((a1.add 1).add 0) (.pointer none) fun H1=>K (I x1) H1) (K (I x1) H)
theorem eM.ok p1 x1 H K (h:eM p1 x1 H K):ae prog 80 #[.pointer p1,I x1] H K:=
 cg cd Tryz.func80 rfl rfl h
def fx.q1 (l9 l10:List Value)(H6:Hp)(p3 p2:OA)(K:VK):Prop:=
 Gc l9.toArray.toList fun x8 x9 x10 x11=>(o3 l10.toArray.toList fun x12 x13 x14 x15 x16 x17 x18 x19 x20 x21 x22 x23 x24 x25 x26 x27 x28=>(Nw H6 (Oq #[I x8,I x9,I x10,I x11,I x12,I x13,I x14,I x15,I x16,I x17,I x18,I x19,I x20,I x21,I x22,I x23,I x24,I x25,I x26,I x27,I x28,.pointer p3,.pointer p2,U 0,I 0,I 0,I 0,I 0,Ot 0,Ot 0,Ot 0,.slice none 0 0] 158) fun b3 H7=>K (.tuple #[V b3,I 0]) H7))
def fx (p1:OA)(x1 x2 x3 x4:Int)(H:Hp)(K:VK):Prop:=
 Nw H (Oq #[I x1,I x2,I x3,I x4] 45) fun b1 H1=>aJ H1 (O b1) 4 fun l1=>Hz 141 #[.agg l1.toArray] H1 fun v1 H2=>o5 v1 fun y1 x5=>(Nw H2 (Oq #[I 0,I 0,I 0,I 0,I 0,I 0,I 0,I 0,I 0,I 0,I 0,I 0,I 0,I 0,I 0,I 0,I 0] 153) fun b2 H3=>bR H3 (O b2) y1 17 fun H4=>ao (x5 !=0) (K (.tuple #[.pointer none,I x5]) H4) (aJ H4 ((O b2).add 2) 3 fun l5=>Hz 142 #[.pointer p1,.agg l5.toArray] H4 fun v4 H5=>kA v4 fun p2 x6=>(ao (x6 !=0) (K (.tuple #[.pointer none,I x6]) H5) (aM H5 ((O b1).add 3) fun x7=>(aJ H5 (O b1) 4 fun l9=>(aJ H5 (O b2) 17 fun l10=>qN 143 #[I x7] H5 fun p3 H6=>fx.q1 l9 l10 H6 p3 p2 K)/\(qN 143 #[I x7] H5 fun p4 H8=>aJ H8 (O b2) 17 fun l32=>fx.q1 l9 l32 H8 p4 p2 K))/\(aJ H5 (O b2) 17 fun l54=>(aJ H5 (O b1) 4 fun l55=>qN 143 #[I x7] H5 fun p5 H10=>fx.q1 l55 l54 H10 p5 p2 K)/\(qN 143 #[I x7] H5 fun p6 H12=>aJ H12 (O b1) 4 fun l77=>fx.q1 l77 l54 H12 p6 p2 K))/\(qN 143 #[I x7] H5 fun p7 H14=>aJ H14 (O b1) 4 fun l99=>aJ H14 (O b2) 17 fun l100=>fx.q1 l99 l100 H14 p7 p2 K)))))
theorem fx.ok p1 x1 x2 x3 x4 H K (h:fx p1 x1 x2 x3 x4 H K):ae prog 81 #[.pointer p1,.agg #[I x1,I x2,I x3,I x4]] H K:=
 mY (fun i=>match Nat.beq i 7 with|true=>some ([0,1,3],[0,0,0,4,12,0,63,127,255,511],0)|false=>none) cd Tryz.func81 rfl rfl h
def jQ (p1:OA)(H:Hp)(K:VK):Prop:=
 NN p1 fun a1=>St H ((a1.add 31).add 0) (.slice none 0 0) fun H1=>NN p1 fun a2=>aM H1 ((a2.add 23).add 1) fun x1=>ao (decide (x1>=3)) (NN p1 fun a3=>aM H1 ((a3.add 23).add 2) fun x2=>NN p1 fun a4=>aM H1 ((a4.add 23).add 3) fun x3=>NN p1 fun a5=>aM H1 ((a5.add 4).add 1) fun x4=>NN p1 fun a6=>aM H1 ((a6.add 0).add 3) fun x5=>Hz 144 #[I x2,I x3,I x4,I x5] H1 fun v6 H2=>kB v6 fun A1 n1 m1 x6=>(NN p1 fun a7=>St H2 ((a7.add 31).add 0) (.slice A1 n1 m1) fun H3=>K (.tuple #[]) H3)) (K (.tuple #[]) H1)
theorem jQ.ok p1 H K (h:jQ p1 H K):ae prog 83 #[.pointer p1] H K:=
 mY (fun i=>match Nat.beq i 2 with|true=>some ([5,10,15,20],[0,0,2,6,14,30,0,64,192,448,960,0,2048,6144,14336,30720,0,65536,196608,458752,983040,2097150,4194302,8388606,8388606,16777215,50331647,117440511],0)|false=>none) cd Tryz.func83 rfl rfl h
def iF (p1:OA)(y1:Array Value)(H:Hp)(K:VK):Prop:=
 Nw H (Oq y1 110) fun b1 H1=>NN p1 fun a1=>eo H1 ((a1.add 23).add 0) fun x1=>St H1 (((O b1).add 0).add 0) (U (u64.wrap (x1+1))) fun H2=>NN p1 fun a2=>bA H2 (a2.add 22) fun p2=>aJ H2 (O b1) 8 fun l1=>cF 170 #[.pointer p2,.agg l1.toArray] H2 fun x2 H3=>ao (x2==0) (aJ H3 (O b1) 8 fun l2=>NN p1 fun a3=>bR H3 (a3.add 23) l2.toArray 8 fun H4=>Hz 83 #[.pointer p1] H4 fun v4 H5=>K (I x2) H5) (K (I x2) H3)
theorem iF.ok p1 y1 H K (h:iF p1 y1 H K):ae prog 110 #[.pointer p1,.agg y1] H K:=
 mY (fun i=>match Nat.beq i 2 with|true=>some ([],[0,1,2,3,4],5)|false=>none) cd Tryz.func110 rfl rfl h
def aX.j4 (K:VK)(x38 x39:Int)(a13:Addr)(x40:Int)(H:Hp):=
 ao (x40 !=0) (K (I x40) H) (aM H (a13.add 1) fun x41=>Hz 182 #[I x38,I x41] H fun v77 H31=>ua v77 fun x42 x43=>(ao (x43 !=0) (K (I 6) H31) (ao (decide (x39<x42)) (K (I 6) H31) (K (I 0) H31))))
def aX.q1 (a4:Addr)(H:Hp)(x1 x3:Int)(K:VK)(x2:Int):=
 (fc 124 #[.pointer (some (a4.add 0))] H fun x4=>(Qz 181 #[I x1,I x3,I x4] H fun v5=>o5 v5 fun y1 x5=>(Nw H (Oq #[I 0,I 0,I 0,I 0,I 0,I 0,I 0,I 0,I 0,I 0,I 0,I 0,I 0,I 0,I 0,I 0,I 0] 153) fun b1 H1=>bR H1 (O b1) y1 17 fun H2=>aX.j4 K x1 x2 (O b1) x5 H2))/\(Nw H (Oq #[I 0,I 0,I 0,I 0,I 0,I 0,I 0,I 0,I 0,I 0,I 0,I 0,I 0,I 0,I 0,I 0,I 0] 153) fun b2 H3=>Qz 181 #[I x1,I x3,I x4] H3 fun v8=>o5 v8 fun y2 x6=>(bR H3 (O b2) y2 17 fun H4=>aX.j4 K x1 x2 (O b2) x6 H4)))/\(Nw H (Oq #[I 0,I 0,I 0,I 0,I 0,I 0,I 0,I 0,I 0,I 0,I 0,I 0,I 0,I 0,I 0,I 0,I 0] 153) fun b3 H5=>fc 124 #[.pointer (some (a4.add 0))] H5 fun x7=>Qz 181 #[I x1,I x3,I x7] H5 fun v12=>o5 v12 fun y3 x8=>(bR H5 (O b3) y3 17 fun H6=>aX.j4 K x1 x2 (O b3) x8 H6))
def aX.q2 (a5:Addr)(H7:Hp)(x1 x3:Int)(b4:Nat)(K:VK)(x2:Int):=
 fc 124 #[.pointer (some (a5.add 0))] H7 fun x9=>Qz 181 #[I x1,I x3,I x9] H7 fun v17=>o5 v17 fun y4 x10=>(bR H7 (O b4) y4 17 fun H8=>aX.j4 K x1 x2 (O b4) x10 H8)
def aX.q3 (a3:Addr)(H:Hp)(a6:Addr)(x1:Int)(K:VK)(x2:Int):=
 (fc 123 #[.pointer (some (a3.add 0))] H fun x11=>aX.q1 a6 H x1 x11 K x2)/\(Nw H (Oq #[I 0,I 0,I 0,I 0,I 0,I 0,I 0,I 0,I 0,I 0,I 0,I 0,I 0,I 0,I 0,I 0,I 0] 153) fun b8 H15=>fc 123 #[.pointer (some (a3.add 0))] H15 fun x17=>aX.q2 a6 H15 x1 x17 b8 K x2)
def aX (p1:OA)(x1 x2:Int)(H:Hp)(K:VK):Prop:=
 ao (decide (x2<1)) (K (I 1) H) (ao (decide (x2>16777216)) (K (I 1) H) (NN p1 fun a1=>NN p1 fun a2=>(bA H (a1.add 0) fun p2=>NN p2 fun a3=>(fc 123 #[.pointer (some (a3.add 0))] H fun x3=>(bA H (a2.add 0) fun p3=>NN p3 fun a4=>aX.q1 a4 H x1 x3 K x2)/\(Nw H (Oq #[I 0,I 0,I 0,I 0,I 0,I 0,I 0,I 0,I 0,I 0,I 0,I 0,I 0,I 0,I 0,I 0,I 0] 153) fun b4 H7=>bA H7 (a2.add 0) fun p4=>NN p4 fun a5=>aX.q2 a5 H7 x1 x3 b4 K x2))/\(bA H (a2.add 0) fun p5=>NN p5 fun a6=>aX.q3 a3 H a6 x1 K x2)/\(Nw H (Oq #[I 0,I 0,I 0,I 0,I 0,I 0,I 0,I 0,I 0,I 0,I 0,I 0,I 0,I 0,I 0,I 0,I 0] 153) fun b9 H17=>fc 123 #[.pointer (some (a3.add 0))] H17 fun x20=>bA H17 (a2.add 0) fun p6=>NN p6 fun a7=>aX.q2 a7 H17 x1 x20 b9 K x2))/\(bA H (a2.add 0) fun p7=>NN p7 fun a8=>(bA H (a1.add 0) fun p8=>NN p8 fun a9=>aX.q3 a9 H a8 x1 K x2)/\(Nw H (Oq #[I 0,I 0,I 0,I 0,I 0,I 0,I 0,I 0,I 0,I 0,I 0,I 0,I 0,I 0,I 0,I 0,I 0] 153) fun b14 H27=>bA H27 (a1.add 0) fun p9=>NN p9 fun a10=>fc 123 #[.pointer (some (a10.add 0))] H27 fun x32=>aX.q2 a8 H27 x1 x32 b14 K x2))/\(Nw H (Oq #[I 0,I 0,I 0,I 0,I 0,I 0,I 0,I 0,I 0,I 0,I 0,I 0,I 0,I 0,I 0,I 0,I 0] 153) fun b15 H29=>bA H29 (a1.add 0) fun p10=>NN p10 fun a11=>fc 123 #[.pointer (some (a11.add 0))] H29 fun x35=>bA H29 (a2.add 0) fun p11=>NN p11 fun a12=>aX.q2 a12 H29 x1 x35 b15 K x2)))
def aX.Λ (K:VK):aN:=⟨fun i=>match Nat.beq i 4 with|true=>some (fun E D H=>eI E 1 .i64 fun x38=>eI E 2 .i64 fun x39=>eN E 7 fun a13=>eI E 8 .i64 fun x40=>az D (aX.j4 K x38 x39 a13 x40 H))|false=>none,fun i=>none,(fun i=>match Nat.beq i 3 with|true=>some ([4,7,11,14,15],[0,0,2,6,14,30,62,126,0,256,768,1792,3840,7936,16382,32767,65535,131071,131071,0,786431,2097151],0)|false=>none)⟩
theorem aX.ok p1 x1 x2 H K (h:aX p1 x1 x2 H K):ae prog 122 #[.pointer p1,I x1,I x2] H K:=
 dX (Λ:=(aX.Λ K)) cd Tryz.func122 rfl rfl h (oC (fun E D H h=>by
   obtain⟨x38,e1,g2⟩:=GI h;obtain⟨x39,e2,g4⟩:=GI g2;obtain⟨a13,e7,g7⟩:=GN g4;obtain⟨x40,e8,g9⟩:=GI g7;obtain⟨rfl,h'⟩:=az.out g9;exact cY (Λ:=(aX.Λ K)) cd [] (ag.cons e1 (ag.cons e2 (ag.cons e7 (ag.cons e8 (ag.nil _))))) h' oN) oN)
def gF (p1:OA)(H:Hp)(K:VK):Prop:=
 NN p1 fun a1=>bA H a1 fun p2=>NN p2 fun a2=>bA H (a2.add 0) fun p3=>NN p3 fun a3=>fc 124 #[.pointer (some (a3.add 0))] H fun x1=>(NN p1 fun a4=>bA H a4 fun p4=>NN p4 fun a5=>(bA H (a5.add 0) fun p5=>lj prog 5 x1 x1 H fun v6 H1=>aF v6 fun A1 n1 m1=>cF 47 #[.pointer p5,I 0,.slice A1 n1 m1] H1 fun x2 H2=>K (I x2) H2)/\(lj prog 5 x1 x1 H fun v8 H3=>aF v8 fun A2 n2 m2=>bA H3 (a5.add 0) fun p6=>cF 47 #[.pointer p6,I 0,.slice A2 n2 m2] H3 fun x3 H4=>K (I x3) H4))/\(lj prog 5 x1 x1 H fun v11 H5=>aF v11 fun A3 n3 m3=>NN p1 fun a6=>bA H5 a6 fun p7=>NN p7 fun a7=>bA H5 (a7.add 0) fun p8=>cF 47 #[.pointer p8,I 0,.slice A3 n3 m3] H5 fun x4 H6=>K (I x4) H6)
theorem gF.ok p1 H K (h:gF p1 H K):ae prog 125 #[.pointer p1] H K:=
 mY (fun i=>match Nat.beq i 1 with|true=>some ([0,3,4,7,10],[0,1,3,7,0,16,48,112,240,496,1008,2032,4095,8191],0)|false=>none) cd Tryz.func125 rfl rfl h
def bg.l2 (K:VK):Nat->OA->OA->Nat->Nat->Int->Int->Hp->Prop
 |0,_,_,_,_,_,_,_=>False
 |k+1,p2,A2,n2,m2,x1,x2,H=>
  let R2:=bg.l2 K k
  ao (decide (x2<x1)) (cX x2 n2 (NN A2 fun a1=>Ld H (a1.add (x2.toNat*1)) fun v1=>jc v1 fun q1 q2 q3=>kf prog q1 ((q2++ #[])++q3) H fun v2 H1=>DR prog (fj prog q1) v2 fun v3=>DI .i64 v3 fun x3=>ao (x3 !=0) (cF 80 #[.pointer p2,I x3] H1 fun x4 H2=>K (I x4) H2) (R2 p2 A2 n2 m2 x1 (i64.wrap (x2+1)) H1))) (K (I 0) H)
def bg (p1 A1:OA)(n1 m1:Nat)(H:Hp)(K:VK):Prop:=
 (∃ k,bg.l2 K k p1 A1 n1 m1 (n1:Int) 0 H)
def bg.l2.L (K:VK)(k:Nat):dm:=fun E D H=>
 eP E 0 fun p2=>DG (E.get? 8) fun w8=>aF w8 fun A2 n2 m2=>eI E 9 .i64 fun x1=>eI E 10 .i64 fun x2=>az D (bg.l2 K k p2 A2 n2 m2 x1 x2 H)
def bg.Λ2 (_:VK)(_R2:OA->OA->Nat->Nat->Int->Int->Hp->Prop):aN:=aN.none (fun _=>none)
def bg.Λ (K:VK):aN:=⟨fun i=>none,fun i=>match Nat.beq i 2 with|true=>some (fun E D H=>∃ k,bg.l2.L K k E D H)|false=>none,(fun _=>none)⟩
theorem bg.ok p1 A1 n1 m1 H K (h:bg p1 A1 n1 m1 H K):ae prog 126 #[.pointer p1,.slice A1 n1 m1] H K:=
 dX (Λ:=(bg.Λ K)) cd Tryz.func126 rfl rfl h (oC (fun E D H h=>by
   refine Safe.c0 (bg.l2.L K) (fun E D H h=>?_) (fun k E D H h=>?_) E D H h
   .obtain⟨w0,e0,g1⟩:=DG.out h;obtain⟨p2,rfl,g2⟩:=DP.out g1;obtain⟨w8,e8,g3⟩:=DG.out g2;obtain⟨A2,n2,m2,rfl,g4⟩:=aF.out g3;obtain⟨w9,e9,g5⟩:=DG.out g4;obtain⟨x1,rfl,g6⟩:=DI.out g5;obtain⟨w10,e10,g7⟩:=DG.out g6;obtain⟨x2,rfl,g8⟩:=DI.out g7;obtain⟨rfl,h'⟩:=az.out g8;exact h'
   .obtain⟨p2,e0,g2⟩:=GP h;obtain⟨w8,e8,g3⟩:=DG.out g2;obtain⟨A2,n2,m2,rfl,g4⟩:=aF.out g3;obtain⟨x1,e9,g6⟩:=GI g4;obtain⟨x2,e10,g8⟩:=GI g6;obtain⟨rfl,h'⟩:=az.out g8;exact cY (Λ:=(bg.Λ2 K (bg.l2 K k))) cd [] (ag.cons e0 (ag.cons e8 (ag.cons e9 (ag.cons e10 (ag.nil _))))) h' oN) oN)
def gG (p1 p2:OA)(H:Hp)(K:VK):Prop:=
 NN p1 fun a1=>bA H a1 fun p3=>NN p3 fun a2=>bA H (a2.add 0) fun p4=>NN p2 fun a3=>aJ H a3 4 fun l1=>cF 130 #[.pointer p4,.agg l1.toArray] H fun x1 H1=>K (I x1) H1
theorem gG.ok p1 p2 H K (h:gG p1 p2 H K):ae prog 129 #[.pointer p1,.pointer p2] H K:=
 mY (fun i=>match Nat.beq i 1 with|true=>some ([],[0,1,2,3,4],5)|false=>none) cd Tryz.func129 rfl rfl h
def ik (p1 p2:OA)(H:Hp)(K:VK):Prop:=
 NN p1 fun a1=>bA H a1 fun p3=>NN p2 fun a2=>aJ H a2 8 fun l1=>cF 110 #[.pointer p3,.agg l1.toArray] H fun x1 H1=>K (I x1) H1
theorem ik.ok p1 p2 H K (h:ik p1 p2 H K):ae prog 132 #[.pointer p1,.pointer p2] H K:=
 cg cd Tryz.func132 rfl rfl h
def il (p1 p2 p3 p4 p5:OA)(H:Hp)(K:VK):Prop:=
 NN p1 fun a1=>bA H a1 fun p6=>NN p2 fun a2=>bA H a2 fun p7=>NN p7 fun a3=>bA H (a3.add 0) fun p8=>NN p3 fun a4=>aM H a4 fun x1=>NN p4 fun a5=>jy H a5 fun A1 n1 m1=>Hz 134 #[.pointer p6,.pointer p8,I x1,.slice A1 n1 m1] H fun v6 H1=>tf v6 fun x2 x3=>(NN p5 fun a6=>St H1 (a6.add 0) (Ot x2) fun H2=>K (I x3) H2)
theorem il.ok p1 p2 p3 p4 p5 H K (h:il p1 p2 p3 p4 p5 H K):ae prog 133 #[.pointer p1,.pointer p2,.pointer p3,.pointer p4,.pointer p5] H K:=
 mY (fun i=>match Nat.beq i 1 with|true=>some ([0,1,4,5,6],[0,0,2,6,14,0,0,127,255,511,511,1023,4095],0)|false=>none) cd Tryz.func133 rfl rfl h
def ba.j6 (K:VK)(x8:Int)(p11:OA)(H:Hp):=
 ao (x8 !=0) (K (.tuple #[Ot 0,I x8]) H) (Hz 166 #[.pointer p11] H fun v11 H5=>tf v11 fun x9 x10=>(K (.tuple #[Ot x9,I x10]) H5))
def ba.j4 (K:VK)(p9:OA)(x6:Int)(p10:OA)(H:Hp):=
 ao (x6==0) (cF 127 #[.pointer p9] H fun x7 H4=>ba.j6 K x7 p10 H4) (ba.j6 K x6 p10 H)
def ba.j2 (K:VK)(p7 A2:OA)(n2 m2:Nat)(x4:Int)(p8:OA)(H:Hp):=
 ao (x4==0) (cF 185 #[.pointer p8,I 0,.slice A2 n2 m2] H fun x5 H3=>ba.j4 K p7 x5 p8 H3) (ba.j4 K p7 x4 p8 H)
def ba (p1 p2:OA)(x1:Int)(A1:OA)(n1 m1:Nat)(H:Hp)(K:VK):Prop:=
 NN p1 fun a1=>NN p1 fun a2=>(bA H (a1.add 21) fun p3=>aJ H (a2.add 4) 17 fun l1=>Hz 165 #[.pointer p2,.pointer p3,.agg l1.toArray,I 0,I x1] H fun v2 H1=>kA v2 fun p4 x2=>(ba.j2 K p2 A1 n1 m1 x2 p4 H1))/\(aJ H (a2.add 4) 17 fun l5=>bA H (a1.add 21) fun p5=>Hz 165 #[.pointer p2,.pointer p5,.agg l5.toArray,I 0,I x1] H fun v6 H2=>kA v6 fun p6 x3=>(ba.j2 K p2 A1 n1 m1 x3 p6 H2))
def ba.Λ (K:VK):aN:=⟨fun i=>match Nat.beq i 6 with|true=>some (fun E D H=>eI E 9 .i64 fun x8=>eP E 10 fun p11=>az D (ba.j6 K x8 p11 H))|false=>match Nat.beq i 4 with|true=>some (fun E D H=>eP E 1 fun p9=>eI E 9 .i64 fun x6=>eP E 10 fun p10=>az D (ba.j4 K p9 x6 p10 H))|false=>match Nat.beq i 2 with|true=>some (fun E D H=>eP E 1 fun p7=>DG (E.get? 3) fun w3=>aF w3 fun A2 n2 m2=>eI E 9 .i64 fun x4=>eP E 10 fun p8=>az D (ba.j2 K p7 A2 n2 m2 x4 p8 H))|false=>none,fun i=>none,(fun i=>match Nat.beq i 1 with|true=>some ([],[0,0,2,6,14,0,32,96,224,0,1023,2047,4095,4095,8191,32767],0)|false=>none)⟩
theorem ba.ok p1 p2 x1 A1 n1 m1 H K (h:ba p1 p2 x1 A1 n1 m1 H K):ae prog 134 #[.pointer p1,.pointer p2,I x1,.slice A1 n1 m1] H K:=
 dX (Λ:=(ba.Λ K)) cd Tryz.func134 rfl rfl h (oC (fun E D H h=>by
   obtain⟨p7,e1,g2⟩:=GP h;obtain⟨w3,e3,g3⟩:=DG.out g2;obtain⟨A2,n2,m2,rfl,g4⟩:=aF.out g3;obtain⟨x4,e9,g6⟩:=GI g4;obtain⟨p8,e10,g8⟩:=GP g6;obtain⟨rfl,h'⟩:=az.out g8;exact cY (Λ:=(ba.Λ K)) cd [] (ag.cons e1 (ag.cons e3 (ag.cons e9 (ag.cons e10 (ag.nil _))))) h' (oC (fun E D H h=>by
     obtain⟨p9,e1,g2⟩:=GP h;obtain⟨x6,e9,g4⟩:=GI g2;obtain⟨p10,e10,g6⟩:=GP g4;obtain⟨rfl,h'⟩:=az.out g6;exact cY (Λ:=(ba.Λ K)) cd [] (ag.cons e1 (ag.cons e9 (ag.cons e10 (ag.nil _)))) h' (oC (fun E D H h=>by
       obtain⟨x8,e9,g2⟩:=GI h;obtain⟨p11,e10,g4⟩:=GP g2;obtain⟨rfl,h'⟩:=az.out g4;exact cY (Λ:=(ba.Λ K)) cd [] (ag.cons e9 (ag.cons e10 (ag.nil _))) h' oN) oN)) oN)) oN)
def eA.q1 (p2:OA)(H1:Hp)(x1:Int)(p3:OA)(K:VK):Prop:=
 NN p2 fun a3=>St H1 ((a3.add 6).add 0) (Ot x1) fun H2=>NN p3 fun a6=>bA H2 a6 fun p4=>NN p2 fun a8=>aJ H2 a8 8 fun l1=>cF 110 #[.pointer p4,.agg l1.toArray] H2 fun x3 H5=>K (I x3) H5
def eA (p1 p2 p3:OA)(H:Hp)(K:VK):Prop:=
 NN p2 fun a1=>(NN p1 fun a2=>jA H a2 fun x1=>St H ((a1.add 1).add 0) (I 2) fun H1=>eA.q1 p2 H1 x1 p3 K)/\(St H ((a1.add 1).add 0) (I 2) fun H3=>NN p1 fun a4=>jA H3 a4 fun x2=>eA.q1 p2 H3 x2 p3 K)
theorem eA.ok p1 p2 p3 H K (h:eA p1 p2 p3 H K):ae prog 135 #[.pointer p1,.pointer p2,.pointer p3] H K:=
 mY (fun i=>match Nat.beq i 1 with|true=>some ([],[0,0,2,7,15],0)|false=>none) cd Tryz.func135 rfl rfl h
def iY (p1:OA)(x1 x2:Int)(H:Hp)(K:VK):Prop:=
 NN p1 fun a1=>bA H (a1.add 0) fun p2=>NN p1 fun a2=>bA H (a2.add 1) fun p3=>NN p3 fun a3=>bA H (a3.add 21) fun p4=>NN p1 fun a4=>bA H (a4.add 1) fun p5=>NN p5 fun a5=>aJ H (a5.add 4) 17 fun l1=>NN p1 fun a6=>bA H (a6.add 1) fun p6=>NN p6 fun a7=>aM H ((a7.add 23).add 2) fun x3=>Hz 165 #[.pointer p2,.pointer p4,.agg l1.toArray,I x1,I x3] H fun v7 H1=>kA v7 fun p7 x4=>(ao (x4 !=0) (cF 80 #[.pointer p1,I x4] H1 fun x5 H2=>K (.tuple #[.slice none 0 0,I x5]) H2) (Hz 166 #[.pointer p7] H1 fun v11 H3=>tf v11 fun x6 x7=>(ao (x7 !=0) (cF 80 #[.pointer p1,I x7] H3 fun x8 H4=>K (.tuple #[.slice none 0 0,I x8]) H4) (ao (x6 !=x2) (K (.tuple #[.slice none 0 0,I 9]) H3) (cF 186 #[.pointer p7] H3 fun x9 H5=>lj prog 108 x9 x9 H5 fun v16 H6=>aF v16 fun A1 n1 m1=>cF 187 #[.pointer p7,I 0,.slice A1 n1 m1] H6 fun x10 H7=>cF 80 #[.pointer p1,I x10] H7 fun x11 H8=>ao (x11 !=0) (K (.tuple #[.slice none 0 0,I x11]) H8) (K (.tuple #[.slice A1 n1 m1,I 0]) H8))))))
theorem iY.ok p1 x1 x2 H K (h:iY p1 x1 x2 H K):ae prog 136 #[.pointer p1,I x1,Ot x2] H K:=
 mY (fun i=>match Nat.beq i 1 with|true=>some ([3,7,10,14,17,22,26],[0,1,3,7,0,16,48,112,240,496,1008,0,2048,6144,14336,30720,63488,129024,0,0,524288,1572864,3670016,7864320,16252928,33030144,66584576,134217727,268435455,536870911,536870911,1073741823,4294967295],0)|false=>none) cd Tryz.func136 rfl rfl h
end W
namespace Eng
open Go Go.Hw Go.Form W Shp Dsk Str Are Trn Pas Pln Rec Srt Rng
structure Eg where
 aA:Nat
 sec:Nat
 size:Nat
 aO:Nat
 r:R
 aj:Int
def Eg.aa (e:Eg):Nat:=e.size/8
def cJ (e:Eg):List Pz:=if 3<=e.r.kd then dz (iN e.r) e.r.kk.toNat e.aa e.aO else []
def sJ (e:Eg)(ap rp:Nat)(A:OA)(n m:Nat):Array Value:=
 let q:Int:=Lay.bS e.aA e.aa
 let w:Int:=(2^e.aA:Nat)
 #[I e.aA,I e.sec,I e.size,I e.aO,I e.aA,I e.aa,I 1,I 8,I ((8*e.aa:Nat):Int),I 9,I q,I w,I (9+q),I q,I w,
  I (9+2*q),I q,I w,I (9+3*q),I q,I w,V ap,V rp,
  U (e.r.s:Int),I e.r.kd,I e.r.kk,I e.r.dir,I e.r.ps,Ot (e.r.ld:Int),Ot (e.r.da:Int),Ot (e.r.out:Int),.slice A n m]
def cu (e:Eg)(ap rp:Nat)(A:OA)(n m:Nat):AO:=Oq (sJ e ap rp A n m) 158
def cR (dp:Nat)(mp:Option Nat):AO:=Oq #[V dp,.pointer (mp.map fun q=>(O q))] 148
structure oc (e:Eg)(d:D):Prop where
 aA:e.aA<=32
 p:iw (e.aa:Int)=true
 size:e.size=d.size
 sec:e.sec=d.sec
 fit:Lay.fI e.aA e.aa<=d.sec
 least:fB e.aA e.aa<=e.aO
 aO:e.aO<=16777216
 aj:e.aj<=e.aO
 rk:e.r=eH\/e.r.dc
 rw:e.r.wf
 kk:e.r.kk<=e.aA
theorem oc.aa {e:Eg}{d:D}(h:oc e d):e.aa=D.aa d:=by unfold Eg.aa D.aa;rw[h.size]
theorem oc.lay {e:Eg}{d:D}(h:oc e d):rK d e.aA:=⟨h.aA,by rw[<- h.aa];exact h.p,by rw[<- h.aa];exact h.fit⟩
theorem oc.MI {e:Eg}{d:D}(h:oc e d):0<=e.r.kk/\e.r.kk.toNat<=e.aA:=by
 have:=h.kk;rcases h.rk with e1|e1
 .rw[e1]at *;exact⟨by decide,Nat.zero_le _⟩
 .have:=e1.2.2.1;omega
theorem oc.dir {e:Eg}{d:D}(h:oc e d):e.r.dir=if iN e.r=true then 1 else 0:=by
 unfold iN;rcases h.rk with e1|e1
 .rw[e1];rfl
 .rcases e1.2.2.2.2.1 with e2|e2<;>rw[e2]<;>rfl
theorem oc.to {e:Eg}{d d':D}(h:oc e d)(h1:d'.sec=d.sec)(h2:d'.size=d.size):oc e d':=⟨h.aA,h.p,h.size.trans h2.symm,h.sec.trans h1.symm,by rw[h1];exact h.fit,h.least,h.aO,h.aj,h.rk,h.rw,h.kk⟩
theorem qx {k m aa:Nat}(h:k<=m):fB k aa<=fB m aa:=by
 have:2^((k+1)/2)<=2^((m+1)/2):=Nat.pow_le_pow_right (by omega) (Nat.div_le_div_right (by omega));unfold fB;omega
def pK (mp dp ap rp:Nat)(e:Eg)(A:OA)(n m:Nat):List As:=[af mp (cu e ap rp A n m),Ar ap e.aO e.aj [],af rp (bU dp 1 8 ((8*e.aa:Nat):Int)),bH 221 8 A (cJ e).length m (fb (cJ e))]
def Me (mp dp:Nat)(e:Eg):As:=fun H=>∃ ap rp A m,Sep (pK mp dp ap rp e A (cJ e).length m) H
theorem Me.open {mp dp:Nat}{e:Eg}{L:List As}{H:Hp}(h:Sep (Me mp dp e::L) H):∃ ap rp A m,Sep (pK mp dp ap rp e A (cJ e).length m++L) H:=by
 obtain⟨H1,H2,h1,h2,h3,⟨ap,rp,A,m,h4⟩,h5⟩:=h;exact⟨ap,rp,A,m,Sep.join h1 h2 h3 h4 h5⟩
theorem Me.shut {mp dp:Nat}{e:Eg}{ap rp:Nat}{A:OA}{m:Nat}{L:List As}{H:Hp}(h:Sep (pK mp dp ap rp e A (cJ e).length m++L) H):Sep (Me mp dp e::L) H:=
 Dsk.Sep.fold h fun H1 h1=>⟨ap,rp,A,m,h1⟩
theorem G0 {mp ap rp:Nat}{e:Eg}{A:OA}{n m:Nat}(hm:e.aA<=32)(hp:iw (e.aa:Int)=true)(hl:fB e.aA e.aa<=e.aO/\e.aO<=16777216)(hk:3<=e.r.kd->0<=e.r.kk/\e.r.kk<=e.aA/\e.r.dir=if iN e.r=true then 1 else 0):
  Tr prog 83 #[V mp] [af mp (cu e ap rp A n m)] fun v M=>∃ A' m',v= .tuple #[]/\M=[af mp (cu e ap rp A' (cJ e).length m'),bH 221 8 A' (cJ e).length m' (fb (cJ e))]:=fun H hs=>by
 apply jQ.ok;unfold jQ
 try simp only[HS]
 refine hs.st 0 rfl (by show 31<32;omega) rfl fun H hs=>?_;have hs:Sep [af mp (cu e ap rp .none 0 0)] H:=hs;refine hs.ld 0 (v:=I e.r.kd) rfl rfl ?_;simp only[HV];by_cases h3:e.r.kd>=3
 .refine aC h3 ?_;obtain⟨k1,k2,k3⟩:=hk h3;refine hs.ld 0 (v:=I e.r.kk) rfl rfl ?_;simp only[HV];refine hs.ld 0 (v:=I e.r.dir) rfl rfl ?_;simp only[HV];refine hs.ld 0 (v:=I (e.aa:Int)) rfl rfl ?_;simp only[HV];refine hs.ld 0 (v:=I (e.aO:Int)) rfl rfl ?_;simp only[HV];have ek:e.r.kk=(e.r.kk.toNat:Int):=by omega
  have hml:=qx (aa:=e.aa) (show e.r.kk.toNat<=e.aA by omega);rw[k3,ek];refine(Gi (k:=e.r.kk.toNat) (aa:=e.aa) (words:=e.aO) (by omega) hp ⟨by omega,hl.2⟩ (iN e.r)).use hs [] rfl rfl ?_;rintro _ _ H ⟨b,rfl,rfl⟩ hs;simp only[HV];have eps:cJ e=dz (iN e.r) e.r.kk.toNat e.aa e.aO:=by unfold cJ;rw[if_pos h3]
  rw[<- eps]at hs⊢;refine hs.st 1 rfl (by show 31<32;omega) rfl fun H hs=>?_;have hs:Sep [af b (.row (fb (cJ e)) 221 ((cJ e).length*8)),af mp (cu e ap rp (Oo b) (cJ e).length (cJ e).length)] H:=hs;have hs:=Fk hs 0 (n:=(cJ e).length) (s:=8) rfl (Aj _) rfl;exact⟨_,⟨_,_,by first|rfl|trivial,rfl⟩,hs.re [1,0] rfl⟩
 .refine aw h3 ?_;have eps:cJ e=[]:=by unfold cJ;rw[if_neg h3]
  rw[eps];have hs:Sep (bH 221 8 .none 0 0 []::[af mp (cu e ap rp .none 0 0)]) H:=⟨fun _=>none,H,fun _ _ h=>(nomatch h),Hp.le_refl _,fun _=>.inl rfl,bH.none _ _ _,hs⟩;exact⟨_,⟨.none,0,by first|rfl|trivial,rfl⟩,hs.re [1,0] rfl⟩
def En (p dp:Nat):Option Eg->As
 |none=>af p (cR dp none)
 |some e=>fun H=>∃ mp,Sep [af p (cR dp (some mp)),Me mp dp e] H
theorem En.open {p dp:Nat}{e:Eg}{L:List As}{H:Hp}(h:Sep (En p dp (some e)::L) H):∃ mp,Sep (af p (cR dp (some mp))::Me mp dp e::L) H:=by
 obtain⟨H1,H2,h1,h2,h3,⟨mp,h4⟩,h5⟩:=h;exact⟨mp,Sep.join h1 h2 h3 h4 h5⟩
theorem En.shut {p dp mp:Nat}{e:Eg}{L:List As}{H:Hp}(h:Sep (af p (cR dp (some mp))::Me mp dp e::L) H):Sep (En p dp (some e)::L) H:=
 Dsk.Sep.fold (M:=[af p (cR dp (some mp)),Me mp dp e]) h fun H1 h1=>⟨mp,h1⟩
theorem En.whole {p dp:Nat}{e:Eg}{L:List As}{H:Hp}(h:Sep (En p dp (some e)::L) H):∃ mp ap rp A m,Sep (af p (cR dp (some mp))::(pK mp dp ap rp e A (cJ e).length m++L)) H:=by
 obtain⟨mp,h⟩:=En.open h;have h2:Sep (Me mp dp e::af p (cR dp (some mp))::L) H:=h.swap;obtain⟨ap,rp,A,m,h3⟩:=Me.open h2;exact⟨mp,ap,rp,A,m,Sep.perm (List.perm_middle (l₁:=pK mp dp ap rp e A (cJ e).length m)) h3⟩
theorem En.nY {p dp mp ap rp m:Nat}{A:OA}{e:Eg}{L:List As}{H:Hp}(h:Sep (af p (cR dp (some mp))::(pK mp dp ap rp e A (cJ e).length m++L)) H):Sep (En p dp (some e)::L) H:=by
 have h2:Sep (pK mp dp ap rp e A (cJ e).length m++(af p (cR dp (some mp))::L)) H:=Sep.perm (List.perm_middle (l₁:=pK mp dp ap rp e A (cJ e).length m)).symm h;exact En.shut (Me.shut h2).swap
def gU (e:Eg):Int:=if e.r.kd=2 then 2 else if e.r.kd<3 then 1 else if e.r.ps<((cJ e).length:Int)then 3 else 4
def sd :Option Eg->Int
 |none=>0
 |some e=>gU e
theorem kY {p dp mp:Nat}(x:Int):Tr prog 80 #[V p,I x] [af p (cR dp (some mp))] fun v M=>v= I x/\M=[af p (cR dp (if x=8 then none else some mp))]:=fun H hs=>by
 apply eM.ok;unfold eM;by_cases h:x=8
 .refine aL h ?_
  try simp only[HS]
  refine hs.st 0 rfl (by show 1<2;omega) rfl fun H hs=>?_;exact⟨_,⟨by first|rfl|trivial,rfl⟩,by rw[if_pos h];exact hs⟩
 .exact aK h ⟨_,⟨by first|rfl|trivial,rfl⟩,by rw[if_neg h];exact hs⟩
theorem kb {p dp:Nat}(g:Option Eg):Tr prog 74 #[V p] [En p dp g] fun v M=>v= I (sd g)/\M=[En p dp g]:=fun H hs=>by
 apply iE.ok;unfold iE;cases g with
 |none=>
  have hs:Sep [af p (cR dp none)] H:=hs
  try simp only[HS]
  refine hs.ld 0 (v:=.pointer none) rfl rfl ?_;simp only[HV];exact cV rfl ⟨_,⟨by first|rfl|trivial,rfl⟩,hs⟩
 |some e=>
  obtain⟨mp,ap,rp,A,m,hs⟩:=En.whole hs;have fin:∀ x:Int,x=gU e->∃ M,(Value.int .i64 x= I (sd (some e))/\M=[En p dp (some e)])/\Sep M H:=fun x hx=>⟨_,⟨by rw[hx];rfl,rfl⟩,En.nY hs⟩
  try simp only[HS]
  refine hs.ld 0 (v:=V mp) rfl rfl ?_;simp only[HV];refine bQ rfl ?_
  try simp only[HS]
  refine hs.ld 0 (v:=V mp) rfl rfl ?_;simp only[HV]
  try simp only[HS]
  refine hs.ld 1 (v:=I e.r.kd) rfl rfl ?_;simp only[HV];by_cases h2:e.r.kd=2
  .exact aL h2 (fin 2 (by unfold gU;rw[if_pos h2]))
  refine aK h2 ?_;refine hs.ld 0 (v:=V mp) rfl rfl ?_;simp only[HV]
  try simp only[HS]
  refine hs.ld 1 (v:=I e.r.kd) rfl rfl ?_;simp only[HV];by_cases h3:e.r.kd<3
  .exact aC h3 (fin 1 (by unfold gU;rw[if_neg h2,if_pos h3]))
  refine aw h3 ?_;refine hs.ld 0 (v:=V mp) rfl rfl ?_;simp only[HV]
  try simp only[HS]
  refine hs.ld 1 (v:=I e.r.ps) rfl rfl ?_;simp only[HV];refine hs.ld 0 (v:=V mp) rfl rfl ?_;simp only[HV]
  try simp only[HS]
  refine hs.ld 1 (v:=.slice A (cJ e).length m) rfl rfl ?_;simp only[HV];by_cases h4:e.r.ps<((cJ e).length:Int)
  .exact aC h4 (fin 3 (by unfold gU;rw[if_neg h2,if_neg h3,if_pos h4]))
  .exact aw h4 (fin 4 (by unfold gU;rw[if_neg h2,if_neg h3,if_neg h4]))
def JB :Option Eg->Array Value
 |none=>#[I 0,I 0,I 0,I 0]
 |some e=>#[I e.aA,I e.sec,I e.size,I e.aO]
theorem IH {p dp:Nat}(g:Option Eg):Tr prog 21 #[V p] [En p dp g] fun v M=>v= .agg (JB g)/\M=[En p dp g]:=fun H hs=>by
 apply iD.ok;unfold iD;cases g with
 |none=>
  have hs:Sep [af p (cR dp none)] H:=hs;refine hs.nw fun b H hs=>?_
  try simp only[HS]
  refine hs.ld 0 (v:=.pointer none) rfl rfl ?_;simp only[HV];refine cV rfl ?_;refine hs.dW 1 rfl rfl rfl rfl fun H hs=>?_;refine hs.bd 1 rfl rfl ?_;exact⟨_,⟨by first|rfl|trivial,rfl⟩,hs.re [0] rfl⟩
 |some e=>
  obtain⟨mp,ap,rp,A,m,hs⟩:=En.whole hs;refine hs.nw fun b H hs=>?_
  have hs:Sep [af p (cR dp (some mp)),af mp (cu e ap rp A (cJ e).length m),Ar ap e.aO e.aj [],af rp (bU dp 1 8 ((8*e.aa:Nat):Int)),bH 221 8 A (cJ e).length m (fb (cJ e)),af b (Oq #[I 0,I 0,I 0,I 0] 45)] H:=hs
  try simp only[HS]
  refine hs.ld 0 (v:=V mp) rfl rfl ?_;simp only[HV];refine bQ rfl ?_;refine hs.ld 0 (v:=V mp) rfl rfl ?_;simp only[HV]
  try simp only[HS]
  refine hs.mO 1 (off:=0) (n:=4) rfl (by show 0+4<=32;omega) ?_;have ea:(((sJ e ap rp A (cJ e).length m).toList.drop 0).take 4).toArray=JB (some e):=rfl;rw[ea];refine hs.dW 5 rfl rfl rfl rfl fun H hs=>?_;refine hs.bd 5 rfl rfl ?_;exact⟨_,⟨by first|rfl|trivial,rfl⟩,En.nY (L:=[]) (hs.re [0,1,2,3,4] rfl)⟩
def NR (mp dp:Nat)(e:Eg)(d:D)(c:Cn)(r:R)(v:Value)(M:List As):Prop:=
 (∃ d',v= I 0/\fA d d' 8 1 1/\Clean d' (fp c (dF 1 8 r.s) (r.form d.size))/\M=[Me mp dp { e with r:=r},Dk dp d'])\/
 (∃ d',v= I 8/\gp d d' 10/\Left d' (fun c'=>c'=c\/c'=fp c (dF 1 8 r.s) (r.form d.size))/\M=[Me mp dp e,Dk dp d'])
theorem rN {mp dp:Nat}{e:Eg}{d:D}{c:Cn}(hc:Clean d c)(he:oc e d)(ho:d.rd<=900000/\d.wr<=900000/\d.sy<=900000){r:R}(r0:R)(hr0:{ r0 with s:=r.s}=r)(hrs:r.s=e.r.s+1)(hg:r.dc)(hu:r.u32)(hm:iv (jV c 1 8) r=true)(hk:r.kk<=e.aA):
  Tr prog 110 #[V mp,.agg r0.c] [Me mp dp e,Dk dp d] (NR mp dp e d c r):=fun H hs=>by
 have hok:=hc.ok;have hp:=Ok.eB hok;have hfit:=he.fit;have hsz:=hok.size;obtain⟨ap,rp,A,m,hs⟩:=Me.open hs;apply iF.ok;unfold iF;refine hs.nw fun b H hs=>?_
 have hs:Sep [af mp (cu e ap rp A (cJ e).length m),Ar ap e.aO e.aj [],af rp (bU dp 1 8 ((8*e.aa:Nat):Int)),bH 221 8 A (cJ e).length m (fb (cJ e)),Dk dp d,af b (fw r0)] H:=hs
 try simp only[HS]
 refine hs.ld 0 (v:=U (e.r.s:Int)) rfl rfl ?_;simp only[HV];have hrlt:=hg.2.1;rw[i7 (x:=(e.r.s:Int)+1),show(e.r.s:Int)+1=((r.s:Nat):Int) by omega];refine hs.st 5 rfl (by show 0<8;omega) rfl fun H hs=>?_;have hs:Sep [af mp (cu e ap rp A (cJ e).length m),Ar ap e.aO e.aj [],af rp (bU dp 1 8 ((8*e.aa:Nat):Int)),bH 221 8 A (cJ e).length m (fb (cJ e)),Dk dp d,af b (fw r)] H:=by rw[<- hr0];exact hs
 refine hs.ld 0 (v:=V rp) rfl rfl ?_;simp only[HV];refine hs.bd 5 rfl rfl ?_
 try simp only[Array.toArray_toList]
 have hneed:9<=d.sec:=by unfold Lay.fI at hfit;omega
 have hcs:=Gq hc (f:=1) (n:=8) (by omega) (by omega) r;have hlen:(dH 1 8 d).1=0->(dH 1 8 d).2.2.length<=12:=fun _=>by
  have:=uO 1 8 8 0 d [];have h9:(dH 1 8 d).2.2.length<=0+8:=this;omega
 have hsecB:kM (d.size:Int)=true:=(wZ _).2 (by
  have h1:=D6 he.p;have h2:=nU he.p;have h3:e.aa*8=d.size:=by have:=he.aa;omega
  rw[h3]at h1;omega)
 refine(FT (b:=rp) (p:=dp) (f:=1) (n:=8) (w:=((8*e.aa:Nat):Int)) (d:=d) (by omega) (by omega) hok ⟨by omega,by omega⟩ (by omega) hlen hsecB r hu).use hs [4,2] rfl rfl ?_;rintro _ _ H ⟨rfl,rfl⟩ hs;have hs:Sep [Dk dp (mQ 1 8 d r).2,af rp (bU dp 1 8 ((8*e.aa:Nat):Int)),af mp (cu e ap rp A (cJ e).length m),Ar ap e.aO e.aj [],bH 221 8 A (cJ e).length m (fb (cJ e)),af b (fw r)] H:=hs;have back:∀ d',Sep [Dk dp d',af rp (bU dp 1 8 ((8*e.aa:Nat):Int)),af mp (cu e ap rp A (cJ e).length m),Ar ap e.aO e.aj [],bH 221 8 A (cJ e).length m (fb (cJ e)),af b (fw r)] H->Sep [Me mp dp e,Dk dp d'] H:=fun d' hs=>Me.shut (L:=[Dk dp d']) (hs.re [2,3,1,4,0] rfl)
 rcases hcs with⟨h,_⟩|⟨_,d',e1,hcut,hleft⟩|⟨_,h,_⟩|⟨_,_,d',e1,hcut,hleft⟩|⟨_,_,d',e1,hw,hcl⟩
 .exact absurd hg h
 .rw[e1]at hs⊢;simp only[HV];refine aK (by decide) ⟨_,.inr ⟨d',rfl,hcut.more (by omega),hleft.mono fun c' h=>.inl h,rfl⟩,back d' hs⟩
 .rw[hm]at h;cases h
 .rw[e1]at hs⊢;simp only[HV];refine aK (by decide) ⟨_,.inr ⟨d',rfl,hcut.more (by omega),hleft,rfl⟩,back d' hs⟩
 .rw[e1]at hs⊢;simp only[HV];refine aL rfl ?_;refine hs.bd 5 rfl rfl ?_
  try simp only[Array.toArray_toList]
  try simp only[HS]
  refine hs.HT 2 (off:=23) (n:=8) (y:=r.c) rfl (by show 23+8<=32;omega) rfl (mI _) fun H hs=>?_;have hs:Sep [Dk dp d',af rp (bU dp 1 8 ((8*e.aa:Nat):Int)),af mp (cu { e with r:=r} ap rp A (cJ e).length m),Ar ap e.aO e.aj [],bH 221 8 A (cJ e).length m (fb (cJ e)),af b (fw r)] H:=hs;refine(G0 (mp:=mp) (ap:=ap) (rp:=rp) (e:={ e with r:=r}) (A:=A) (n:=(cJ e).length) (m:=m) he.aA he.p ⟨he.least,he.aO⟩ (fun _=>⟨hg.2.2.1,hk,?_⟩)).use hs [2] rfl rfl ?_
  .show r.dir=if iN r=true then 1 else 0
   unfold iN;rcases hg.2.2.2.2.1 with e2|e2<;>rw[e2]<;>rfl
  rintro _ _ H ⟨A',m',rfl,rfl⟩ hs
  try simp only[HV]
  exact⟨_,.inl ⟨d',rfl,hw,hcl,rfl⟩,Me.shut (e:={ e with r:=r}) (L:=[Dk dp d']) (hs.re [0,4,3,1,2] rfl)⟩
def yA :Option Eg->List Int
 |none=>[0,0,0,0,0,0]
 |some e=>if gU e=1 then [1,e.r.ld,0,0,0,0]else if gU e=2 then [2,e.r.ld,e.r.kk,0,0,0]else [gU e,e.r.ld,e.r.kk,e.r.dir,e.r.ps,(cJ e).length]
theorem HQ (e:Eg):gU e=1\/gU e=2\/gU e=3\/gU e=4:=by
 unfold gU
 repeat' split
 all_goals simp
def pP (l:List Int):AO:=Oq (l.map (Value.int .i64)).toArray 30
theorem pS {p dp:Nat}(g:Option Eg)(hld:∀ e,g=some e->e.r.ld<4294967296):Tr prog 18 #[V p] [En p dp g] fun v M=>v= .agg ((yA g).map (Value.int .i64)).toArray/\M=[En p dp g]:=fun H hs=>by
 apply aB.ok;unfold aB;refine hs.nw fun b1 H hs=>?_
 refine(kb (p:=p) (dp:=dp) g).use hs [0] rfl rfl ?_;rintro _ _ H ⟨rfl,rfl⟩ hs;simp only[HV];refine hs.nw fun b2 H hs=>?_
 refine hs.dW 2 rfl rfl rfl rfl fun H hs=>?_;refine hs.cC 2 (v:=I (sd g)) rfl rfl ?_;simp only[HV];cases g with
 |none=>
  refine aw (by decide) ?_;unfold aB.j4;refine hs.cC 2 (v:=I 0) rfl rfl ?_;simp only[HV];refine aw (by decide) ?_;unfold aB.j6 aB.j6.q4 aB.j6.q3 aB.j6.q2 aB.j6.q1;refine hs.cC 2 (v:=I 0) rfl rfl ?_;simp only[HV];refine aw (by decide) ?_;refine hs.bd 2 rfl rfl ?_;refine hs.dW 1 rfl rfl rfl rfl fun H hs=>?_;refine hs.bd 1 rfl rfl ?_;exact⟨_,⟨by first|rfl|trivial,rfl⟩,hs.re [0] rfl⟩
 |some e=>
  have hl:=hld e rfl;have hst:=HQ e;have hs:Sep [En p dp (some e),af b1 (pP [0,0,0,0,0,0]),af b2 (pP [gU e,0,0,0,0,0])] H:=hs;obtain⟨mp,ap,rp,A,m,hs⟩:=En.whole hs;have hs:Sep [af p (cR dp (some mp)),af mp (cu e ap rp A (cJ e).length m),Ar ap e.aO e.aj [],af rp (bU dp 1 8 ((8*e.aa:Nat):Int)),bH 221 8 A (cJ e).length m (fb (cJ e)),af b1 (pP [0,0,0,0,0,0]),af b2 (pP [gU e,0,0,0,0,0])] H:=hs;have fin:∀(l:List Int) (H:Hp),l=yA (some e)->l.length=6->Sep [af p (cR dp (some mp)),af mp (cu e ap rp A (cJ e).length m),Ar ap e.aO e.aj [],af rp (bU dp 1 8 ((8*e.aa:Nat):Int)),bH 221 8 A (cJ e).length m (fb (cJ e)),af b1 (pP [0,0,0,0,0,0]),af b2 (pP l)] H->
    aJ H (O b2) 6 fun l1=>bR H (O b1) l1.toArray 6 fun H88=>aJ H88 (O b1) 6 fun l33=>∃ M,((Value.agg l33.toArray)= .agg ((yA (some e)).map (Value.int .i64)).toArray/\M=[En p dp (some e)])/\Sep M H88:=fun l H hl h6 hs=>by
   refine hs.bd 6 rfl (by simp[h6]) ?_;refine hs.dW 5 (y:=((l.map (Value.int .i64)).toArray)) rfl rfl (by simp[h6]) (List.all_eq_true.2 fun v hv=>by obtain⟨x,_,rfl⟩:=List.mem_map.1 (show v∈l.map (Value.int .i64)from hv);rfl) fun H hs=>?_;refine hs.bd 5 rfl (by simp[h6]) ?_;exact⟨_,⟨by rw[<- hl],rfl⟩,En.nY (L:=[]) (hs.re [0,1,2,3,4] rfl)⟩
  refine aC (show sd (some e)>=1 by show gU e>=1;omega) ?_
  try simp only[HS]
  refine hs.ld 0 (v:=V mp) rfl rfl ?_;simp only[HV]
  try simp only[HS]
  refine hs.ld 1 (v:=Ot (e.r.ld:Int)) rfl rfl ?_;simp only[HV];rw[ed (n:=e.r.ld)];refine hs.st 6 rfl (by show 1<6;omega) rfl fun H hs=>?_;unfold aB.j4;have hs:Sep [af p (cR dp (some mp)),af mp (cu e ap rp A (cJ e).length m),Ar ap e.aO e.aj [],af rp (bU dp 1 8 ((8*e.aa:Nat):Int)),bH 221 8 A (cJ e).length m (fb (cJ e)),af b1 (pP [0,0,0,0,0,0]),af b2 (pP [gU e,e.r.ld,0,0,0,0])] H:=hs
  try simp only[HS]
  refine hs.ld 6 (v:=I (gU e)) rfl rfl ?_;simp only[HV];by_cases h2:gU e>=2
  .refine aC h2 ?_;refine hs.ld 0 (v:=V mp) rfl rfl ?_;simp only[HV]
   try simp only[HS]
   refine hs.ld 1 (v:=I e.r.kk) rfl rfl ?_;simp only[HV];refine hs.st 6 rfl (by show 2<6;omega) rfl fun H hs=>?_;have hs:Sep [af p (cR dp (some mp)),af mp (cu e ap rp A (cJ e).length m),Ar ap e.aO e.aj [],af rp (bU dp 1 8 ((8*e.aa:Nat):Int)),bH 221 8 A (cJ e).length m (fb (cJ e)),af b1 (pP [0,0,0,0,0,0]),af b2 (pP [gU e,e.r.ld,e.r.kk,0,0,0])] H:=hs;unfold aB.j6 aB.j6.q4 aB.j6.q3 aB.j6.q2 aB.j6.q1
   try simp only[HS]
   refine hs.ld 6 (v:=I (gU e)) rfl rfl ?_;simp only[HV];by_cases h3:gU e>=3
   .refine aC h3 ?_;have hfin:=fin [gU e,e.r.ld,e.r.kk,e.r.dir,e.r.ps,(cJ e).length];have hval:[gU e,(e.r.ld:Int),e.r.kk,e.r.dir,e.r.ps,((cJ e).length:Int)]=yA (some e):=by
     show _=if gU e=1 then _ else if gU e=2 then _ else _
     rw[if_neg (by omega),if_neg (by omega)]
    repeat' first
     |exact hfin _ hval rfl hs
     |refine hs.ld 0 (v:=.pointer (some ⟨mp,0,none⟩)) rfl rfl ?_
     |refine hs.ld 1 (v:=.int .i64 e.r.dir) rfl rfl ?_
     |refine hs.ld 1 (v:=.int .i64 e.r.ps) rfl rfl ?_
     |refine hs.ld 1 (v:=.slice A (cJ e).length m) rfl rfl ?_
     |refine hs.st 6 rfl (Nat.lt_of_sub_eq_succ rfl) rfl fun H hs=>?_
     |(simp only[HV];try simp only[HS])
     |refine⟨?_,?_⟩
   .refine aw h3 ?_;refine fin _ H ?_ rfl hs;show _=if gU e=1 then _ else if gU e=2 then _ else _
    rw[if_neg (by omega),if_pos (by omega)];have:gU e=2:=by omega
    rw[this]
  .refine aw h2 ?_;unfold aB.j6 aB.j6.q4 aB.j6.q3 aB.j6.q2 aB.j6.q1
   try simp only[HS]
   refine hs.ld 6 (v:=I (gU e)) rfl rfl ?_;simp only[HV];refine aw (by omega) ?_;refine fin _ H ?_ rfl hs;show _=if gU e=1 then _ else _
   have:gU e=1:=by omega
   rw[if_pos this,this]
def bE (d:D)(m:Mn)(aj:Int):Eg:=⟨m.aA,d.sec,d.size,m.aO,m.r,aj⟩
theorem sE {d d':D}(m:Mn)(aj:Int)(h1:d'.sec=d.sec)(h2:d'.size=d.size):bE d' m aj=bE d m aj:=by unfold bE;rw[h1,h2]
theorem Mn.nK {sec size:Nat}{m:Mn}{c:Cn}(h:Holds sec size m c):(m.r=eH\/m.r.dc)/\m.r.wf/\m.r.kk<=m.aA:=by
 rcases m.Fu with⟨_,e⟩|e
 .rw[e];exact⟨.inl rfl,zeroR_wf',by show(0:Int)<=m.aA;omega⟩
 .have h1:=h.log.last e;have g:=h1.1;refine⟨.inr g,⟨by have:=g.2.1;omega,?_,?_,?_,?_,h1.2.1⟩,h.kk _ e⟩
  .obtain⟨_,_,_,_,_,h|h|h|h⟩:=g<;>omega
  .have:=g.2.2;omega
  .have:=g.2.2.2.2.1;omega
  .obtain⟨_,_,_,_,_,h|h|h|h⟩:=g<;>omega
where zeroR_wf':eH.wf:=⟨by decide,by decide,by decide,by decide,by decide,⟨by decide,by decide,by decide⟩⟩
theorem Holds.eg {d:D}{m:Mn}{c:Cn}(h:Holds d.sec d.size m c){aj:Int}(hp:aj<=m.aO):oc (bE d m aj) d:=by
 have hg:=gk h.dc;have hr:=Mn.nK h;exact⟨hg.1,Ak hg.2.1,rfl,rfl,hg.2.2.1,h.least,by have:=hg.2.2.2;show m.aO<=_;omega,hp,hr.1,hr.2.1,hr.2.2⟩
theorem Holds.kM {sec size:Nat}{m:Mn}{c:Cn}(h:Holds sec size m c):kM (size:Int)=true:=(wZ _).2 (gk h.dc).2.1
theorem Holds.jV {sec size:Nat}{m:Mn}{c:Cn}(h:Holds sec size m c):jV c 1 8=m.L.getLast? :=Ring.last h.kM _ rfl h.log h.ring
theorem wM {d:D}{m:Mn}{aj:Int}(hk:3<=m.r.kd):cJ (bE d m aj)=cE m (d.size/8) m.r:=by unfold cJ bE;rw[if_pos hk];rfl
def stM (m:Mn)(aa:Nat):Int:=if m.r.kd=2 then 2 else if m.r.kd<3 then 1 else if m.r.ps<((cE m aa m.r).length:Int)then 3 else 4
theorem vy {d:D}{m:Mn}{aj:Int}:gU (bE d m aj)=stM m (d.size/8):=by
 unfold gU stM;show(if m.r.kd=2 then(2:Int)else if m.r.kd<3 then 1 else if m.r.ps<((cJ (bE d m aj)).length:Int)then 3 else 4)=_
 by_cases h2:m.r.kd=2
 .rw[if_pos h2,if_pos h2]
 rw[if_neg h2,if_neg h2];by_cases h3:m.r.kd<3
 .rw[if_pos h3,if_pos h3]
 rw[if_neg h3,if_neg h3,wM (by omega)]
def vj (m:Mn)(aa r w:Nat):Prop:=∃ pz r0 w0,(cE m aa m.r)[m.r.ps.toNat]? =some pz/\u9 aa m.aO (eY m.aA aa pz.f m.r.kk.toNat).f (eY m.aA aa pz.o m.r.kk.toNat).f pz r0 w0/\r=nS aa (2^m.r.kk.toNat)+r0+8/\w=w0+1
theorem vj.le {m:Mn}{aa r w:Nat}(hp:1<=aa)(hk:m.r.kk.toNat<=32)(hl:fB m.r.kk.toNat aa<=m.aO)(h:vj m aa r w):r<=3*2^m.r.kk.toNat+8/\w<=2^m.r.kk.toNat+1:=by
 obtain⟨pz,r0,w0,hpz,hc,rfl,rfl⟩:=h;have hz:=Cm hk hl pz (List.mem_of_getElem? hpz);have h1:=Iv hc hz.k;have h2:=vo (aa:=aa) (w:=2^m.r.kk.toNat) hp (Nat.two_pow_pos _);exact⟨by omega,by omega⟩
section
variable {p dp : Nat} {d : D} {c : Cn} {m : Mn} {aj : Int} {TT : As} (hc : Clean d c) (hh : Holds d.sec d.size m c) (hS : Small 100000 m) (ho : d.rd <= 800000 /\ d.wr <= 800000 /\ d.sy <= 800000) (hpk : aj <= m.aO)
include hc hh hS ho hpk
def Kp (p dp:Nat)(d:D)(m:Mn)(aj dir:Int)(v:Value)(M:List As):Prop:=
 (stM m (d.size/8)≠2/\stM m (d.size/8)≠4/\v= I 5/\M=[En p dp (some (bE d m aj)),Dk dp d])\/
 ((stM m (d.size/8)=2\/stM m (d.size/8)=4)/\¬(dir=0\/dir=1)/\v= I 18/\M=[En p dp (some (bE d m aj)),Dk dp d])\/
 ((stM m (d.size/8)=2\/stM m (d.size/8)=4)/\∃ b:Bool,dir=(if b=true then 1 else 0)/\
  ((∃ d' c',fA d d' 8 1 1/\Clean d' c'/\Holds d.sec d.size (m.add (eG m b)) c'/\v= I 0/\M=[En p dp (some (bE d (m.add (eG m b)) aj)),Dk dp d'])\/
  (∃ d',gp d d' 10/\Left d' (fun c'=>Holds d.sec d.size m c'\/Holds d.sec d.size (m.add (eG m b)) c')/\v= I 8/\M=[En p dp none,Dk dp d'])))
theorem zD (dir:Int):Tr prog 71 #[V p,I dir] [En p dp (some (bE d m aj)),Dk dp d] (Kp p dp d m aj dir):=fun H hs=>by
 have he:=hh.eg hpk;apply cD.ok;unfold cD;refine(kb (p:=p) (dp:=dp) (some (bE d m aj))).use hs [0] rfl rfl ?_;rintro _ _ H ⟨rfl,rfl⟩ hs;have est:sd (some (bE d m aj))=stM m (d.size/8):=vy;rw[est];simp only[HV];have j4:(stM m (d.size/8)=2\/stM m (d.size/8)=4)->cD.j4 (fun v H'=>∃ M,Kp p dp d m aj dir v M/\Sep M H') (Oo p) dir H:=fun hst=>by
  have hk2:2<=m.r.kd:=by
   unfold stM at hst;by_cases e2:m.r.kd=2
   .omega
   .rw[if_neg e2]at hst;by_cases e3:m.r.kd<3
    .rw[if_pos e3]at hst;omega
    .omega
  unfold cD.j4;by_cases h0:dir<0
  .exact aC h0 ⟨_,.inr (.inl ⟨hst,by omega,rfl,rfl⟩),hs⟩
  refine aw h0 ?_;by_cases h1:dir>1
  .exact aC h1 ⟨_,.inr (.inl ⟨hst,by omega,rfl,rfl⟩),hs⟩
  refine aw h1 ?_;obtain⟨b,hb⟩:∃ b:Bool,dir=(if b=true then 1 else 0):=by
   rcases(by omega:dir=0\/dir=1)with e|e
   .exact⟨false,e⟩
   .exact⟨true,e⟩
  obtain⟨mp,ap,rp,A,mm,hs⟩:=En.whole hs
  try simp only[HS]
  refine hs.ld 0 (v:=V mp) rfl rfl ?_;simp only[HV];refine hs.ld 0 (v:=V mp) rfl rfl ?_;simp only[HV]
  try simp only[HS]
  refine hs.ld 1 (v:=I m.r.kk) rfl rfl ?_;simp only[HV];refine hs.ld 0 (v:=V mp) rfl rfl ?_;simp only[HV]
  try simp only[HS]
  refine hs.ld 1 (v:=Ot (m.r.ld:Int)) rfl rfl ?_;simp only[HV];refine hs.ld 0 (v:=V mp) rfl rfl ?_;simp only[HV]
  try simp only[HS]
  refine hs.ld 1 (v:=Ot (m.r.da:Int)) rfl rfl ?_;simp only[HV];have hs:=Me.shut (L:=[af p (cR dp (some mp)),Dk dp d]) (hs.re [1,2,3,4,0,5] rfl);obtain⟨g1,g2,g3,g4⟩:=LH hh hS (by omega) hk2 b;have hkm:=(Mn.nK hh).2.2;rw[hb];refine(rN (mp:=mp) (dp:=dp) (e:=bE d m aj) hc he (by omega) (r:=eG m b) { eG m b with s:=0} rfl (Mn.r9 hh).symm g1 g2 (by rw[hh.jV];exact g3) hkm).use hs [0,2] rfl rfl ?_;rintro _ _ H (⟨d',rfl,hw,hcl,rfl⟩|⟨d',rfl,hcut,hleft,rfl⟩) hs
  .simp only[HV];refine(kY (p:=p) (dp:=dp) (mp:=mp) 0).use hs [2] rfl rfl ?_;rintro _ _ H ⟨rfl,rfl⟩ hs;simp only[HV];have hs:=En.shut (e:={ bE d m aj with r:=eG m b}) (L:=[Dk dp d']) (hs.re [0,1,2] rfl);have e1:bE d (m.add (eG m b)) aj={ bE d m aj with r:=eG m b}:=by unfold bE;rw[Mn.fg];rfl
   exact⟨_,.inr (.inr ⟨hst,b,rfl,.inl ⟨d',_,hw,hcl,g4,rfl,rfl⟩⟩),by rw[e1];exact hs⟩
  .simp only[HV];refine(kY (p:=p) (dp:=dp) (mp:=mp) 8).use hs [2] rfl rfl ?_;rintro _ _ H ⟨rfl,rfl⟩ hs;simp only[HV];refine⟨_,.inr (.inr ⟨hst,b,rfl,.inr ⟨d',hcut,hleft.mono fun c' h=>?_,rfl,rfl⟩⟩),hs.re [0,2] rfl⟩;rcases h with e|e
   .left;rw[e];exact hh
   .right;rw[e];exact g4
 by_cases h2:stM m (d.size/8)=2
 .exact aH h2 (j4 (.inl h2))
 .refine aT h2 ?_;by_cases h4:stM m (d.size/8)=4
  .exact aH h4 (j4 (.inr h4))
  .exact aT h4 ⟨_,.inl ⟨h2,h4,rfl,rfl⟩,hs⟩
end
theorem IL {ps:List Pz}{i:Nat}{pz:Pz}(h:ps[i]? =some pz)(l:List UInt64):pT (ps.take (i+1)) l=pz.ap (pT (ps.take i) l):=by
 have hlt:=(List.getElem?_eq_some_iff.1 h).1;have hg:=(List.getElem?_eq_some_iff.1 h).2;rw[List.take_succ_eq_append_getElem hlt,KI,hg];rfl
section
variable {p dp : Nat} {d : D} {c : Cn} {m : Mn} {aj : Int} {TT : As} (hT : ∀ H, TT H -> T64 H) (hc : Clean d c) (hh : Holds d.sec d.size m c) (hS : Small 100000 m) (ho : d.rd <= 800000 /\ d.wr <= 800000 /\ d.sy <= 800000) (hpk : aj <= m.aO) (hk14 : m.r.kk <= 14)
include hT hc hh hS ho hpk hk14
def Km (p dp:Nat)(d:D)(m:Mn)(aj:Int)(TT:As)(v:Value)(M:List As):Prop:=
 (stM m (d.size/8)≠3/\v= .tuple #[.bool false,I 5]/\M=[En p dp (some (bE d m aj)),Dk dp d,TT])\/
 (stM m (d.size/8)=3/\∃ r w,vj m (d.size/8) r w/\
  ((∃ d' c' peak',peak'<=(m.aO:Int)/\fA d d' r w 2/\Clean d' c'/\Holds d.sec d.size (m.add (dk m (d.size/8))) c'/\v= .tuple #[.bool (stM (m.add (dk m (d.size/8))) (d.size/8)==4),I 0]/\
    M=[En p dp (some (bE d (m.add (dk m (d.size/8))) peak')),Dk dp d',TT])\/
  (∃ d',gp d d' (r+w+2)/\Left d' (fun c'=>Holds d.sec d.size m c'\/Holds d.sec d.size (m.add (dk m (d.size/8))) c')/\v= .tuple #[.bool false,I 8]/\M=[En p dp none,Dk dp d',TT])))
set_option maxHeartbeats 1000000 in
theorem Dw :Tr prog 62 #[V p] [En p dp (some (bE d m aj)),Dk dp d,TT] (Km p dp d m aj TT):=fun H hs=>by
 have he:=hh.eg hpk;have hper:(bE d m aj).aa=D.aa d:=rfl;have hper8:d.size/8=D.aa d:=rfl;have hl:=he.lay;apply cQ.ok;unfold cQ;refine(kb (p:=p) (dp:=dp) (some (bE d m aj))).use hs [0] rfl rfl ?_;rintro _ _ H ⟨rfl,rfl⟩ hs;have est:sd (some (bE d m aj))=stM m (d.size/8):=vy;rw[est];simp only[HV];by_cases h3:stM m (d.size/8)=3
 .refine aH h3 ?_;have hk3:3<=m.r.kd/\m.r.ps<((cE m (d.size/8) m.r).length:Int):=by
   unfold stM at h3;by_cases e2:m.r.kd=2
   .rw[if_pos e2]at h3;omega
   .rw[if_neg e2]at h3;by_cases e3:m.r.kd<3
    .rw[if_pos e3]at h3;omega
    .rw[if_neg e3]at h3;by_cases e4:m.r.ps<((cE m (d.size/8) m.r).length:Int)
     .exact⟨by omega,e4⟩
     .rw[if_neg e4]at h3;omega
  have eL:=Mn.rm (m:=m);have hr:=hh.log.last eL;have hps:=R.Fo hr.1;have hkk0:=he.MI;have hkk:0<=m.r.kk/\m.r.kk.toNat<=m.aA:=hkk0;have hkm:=(Mn.nK hh).2.2;have hlt:m.r.ps.toNat<(cE m (d.size/8) m.r).length:=by omega
  obtain⟨pz,hpz⟩:∃ pz,(cE m (d.size/8) m.r)[m.r.ps.toNat]? =some pz:=⟨_,List.getElem?_eq_getElem hlt⟩;have hgd:=gk hh.dc;have hleast:fB m.r.kk.toNat (d.size/8)<=m.aO:=Nat.le_trans (qx hkk.2) hh.least;have hzok:BB pz m.r.kk.toNat (d.size/8) m.aO:=Cm (by omega) hleast pz (List.mem_of_getElem? hpz);have hends:=yd (iN m.r) m.r.kk.toNat (d.size/8) m.aO _ pz hpz;obtain⟨s1,s2,s3⟩:=M' hh hS (by omega) hk3.1 hpz;have hpow14:2^m.r.kk.toNat<=2^14:=Nat.pow_le_pow_right (by omega) (by omega);have hcap:m.aO<=16777216:=by have:=hgd.2.2.2;omega
  obtain⟨mp,ap,rp,A,mm,hs⟩:=En.whole hs
  try simp only[HS]
  refine hs.ld 0 (v:=V mp) rfl rfl ?_;simp only[HV]
  try simp only[HS]
  refine hs.mO 1 (off:=23) (n:=8) rfl (by show 23+8<=32;omega) ?_;have ea:(((sJ (bE d m aj) ap rp A (cJ (bE d m aj)).length mm).toList.drop 23).take 8).toArray=m.r.c:=rfl;rw[ea];refine hs.nw fun b1 H hs=>?_
  refine hs.dW 7 (y:=m.r.c) rfl rfl rfl (mI _) fun H hs=>?_;have hs:Sep [af p (cR dp (some mp)),af mp (cu (bE d m aj) ap rp A (cJ (bE d m aj)).length mm),Ar ap m.aO aj [],af rp (bU dp 1 8 ((8*(bE d m aj).aa:Nat):Int)),bH 221 8 A (cJ (bE d m aj)).length mm (fb (cJ (bE d m aj))),Dk dp d,TT,af b1 (fw m.r)] H:=hs;have j7:∀ want:Int,want=(lT (pT ((cE m (d.size/8) m.r).take m.r.ps.toNat) m.da):Int)->cQ.j7 (fun v H'=>∃ M,Km p dp d m aj TT v M/\Sep M H') (Oo p) (O b1) want H:=fun want hwant=>by
   unfold cQ.j7
   try simp only[HS]
   refine hs.ld 0 (v:=V dp) rfl rfl ?_;simp only[HV];refine hs.ld 0 (v:=V mp) rfl rfl ?_;simp only[HV]
   try simp only[HS]
   refine hs.ld 1 (v:=V ap) rfl rfl ?_;simp only[HV];refine hs.ld 0 (v:=V mp) rfl rfl ?_;simp only[HV]
   try simp only[HS]
   refine hs.mO 1 (off:=4) (n:=17) rfl (by show 4+17<=32;omega) ?_;have eb:(((sJ (bE d m aj) ap rp A (cJ (bE d m aj)).length mm).toList.drop 4).take 17).toArray=Lay.i6 m.aA (D.aa d):=rfl;rw[eb];refine hs.ld 7 (v:=I m.r.kk) rfl rfl ?_;simp only[HV];refine hs.ld 0 (v:=V mp) rfl rfl ?_;simp only[HV]
   try simp only[HS]
   refine hs.ld 1 (v:=.slice A (cJ (bE d m aj)).length mm) rfl rfl ?_;simp only[HV];refine hs.ld 7 (v:=I m.r.ps) rfl rfl ?_;simp only[HV];have eps:cJ (bE d m aj)=cE m (d.size/8) m.r:=wM hk3.1;refine(hs.own 4 rfl).uG (x:=m.r.ps) (j:=m.r.ps.toNat) (by omega) (by rw[eps];exact hlt) (Ai _ _ pz (by rw[eps];exact hpz)) ?_;have ekk:m.r.kk=(m.r.kk.toNat:Int):=by omega
   have hw2:want=(lT (kF c (D.aa d) (eY m.aA (D.aa d) pz.f m.r.kk.toNat).f (2^m.r.kk.toNat)):Int):=by rw[hwant];congr 2;exact s1.symm
   rw[hw2,ekk,Array.toArray_toList];refine(Nl (dp:=dp) (ap:=ap) (d:=d) (c:=c) (aA:=m.aA) (k:=m.r.kk.toNat) (pz:=pz) (cap:=m.aO) (aj:=aj) (TT:=TT) hT hc hl hkk.2 (by omega) hcap hpk hzok).use hs [5,2,6] rfl rfl ?_;rintro v M H ⟨peak',hpk',r0,w0,hcost,hq⟩ hs;have hsc:vj m (d.size/8) (nS (D.aa d) (2^m.r.kk.toNat)+r0+8) (w0+1):=⟨pz,r0,w0,hpz,hcost,rfl,rfl⟩;have hpd:=Ok.eB hc.ok;have hcle:=hsc.le (by omega) (by omega) hleast;have target:∀ c',qO (jd (eY m.aA (D.aa d) pz.o m.r.kk.toNat)) c c'->Holds d.sec d.size m c':=fun c' hsam=>
    hh.target hkk.2 (fun r hr' _=>by have:=hends.1;omega) (fun r hr' h4 q hq'=>by
     rw[eL]at hr';cases hr';exact s3 q h4 hq') hsam
   rcases hq with⟨d1,c1,hw1,hc1,hsam,hwords,rfl,rfl⟩|⟨d1,hcut,hleft,rfl,rfl⟩
   .simp only[HV];refine aH rfl ?_;have hs:Sep [Dk dp d1,Ar ap m.aO peak' [],TT,af p (cR dp (some mp)),af mp (cu (bE d m aj) ap rp A (cJ (bE d m aj)).length mm),af rp (bU dp 1 8 ((8*(bE d m aj).aa:Nat):Int)),bH 221 8 A (cJ (bE d m aj)).length mm (fb (cJ (bE d m aj))),af b1 (fw m.r)] H:=hs;refine hs.ld 7 (v:=I m.r.ps) rfl rfl ?_;simp only[HV];have hl5:=(kP (iN m.r) m.r.kk.toNat (d.size/8) m.aO).2;have hl5:(cE m (d.size/8) m.r).length<=5:=hl5;rw[bu (x:=m.r.ps+1)];refine hs.st 7 rfl (by show 1<8;omega) rfl fun H hs=>?_;refine hs.st 7 rfl (by show 4<8;omega) rfl fun H hs=>?_;refine hs.st 7 rfl (by show 7<8;omega) rfl fun H hs=>?_;have hap:pz.ap (kF c (D.aa d) (eY m.aA (D.aa d) pz.f m.r.kk.toNat).f (2^m.r.kk.toNat))=pT ((cE m (d.size/8) m.r).take (m.r.ps.toNat+1)) m.da:=by
     rw[IL hpz];congr 1
    rw[hap]at hs hwords;have hh1:=target c1 hsam;have hc1':=hc1;have e12:Holds d1.sec d1.size m c1:=by rw[hw1.sec,hw1.size];exact hh1
    obtain⟨g1,g2,g3,g4⟩:=Li hh1 hS (by omega) hk3.1 hpz hwords;have hs:Sep [Dk dp d1,Ar ap m.aO peak' [],TT,af p (cR dp (some mp)),af mp (cu (bE d1 m peak') ap rp A (cJ (bE d1 m peak')).length mm),af rp (bU dp 1 8 ((8*(bE d1 m peak').aa:Nat):Int)),bH 221 8 A (cJ (bE d1 m peak')).length mm (fb (cJ (bE d1 m peak'))),af b1 (fw { dk m (d.size/8)with s:=m.r.s})] H:=by
     rw[sE m peak' hw1.sec hw1.size];exact hs
    refine hs.ld 3 (v:=V mp) rfl rfl ?_;simp only[HV];refine hs.bd 7 rfl rfl ?_
    try simp only[Array.toArray_toList]
    have hs:=Me.shut (mp:=mp) (dp:=dp) (e:=bE d1 m peak') (L:=[af p (cR dp (some mp)),Dk dp d1,TT]) (hs.re [4,1,5,6,3,0,2] rfl);have hrd1:=hw1.rd;have hwr1:=hw1.wr;have hsy1:=hw1.sy;refine(rN (mp:=mp) (dp:=dp) (e:=bE d1 m peak') hc1 (e12.eg hpk') (by omega) (r:=dk m (d.size/8)) { dk m (d.size/8)with s:=m.r.s} rfl (Mn.r9 hh).symm g1 g2 (by rw[e12.jV];exact g3) hkm).use hs [0,2] rfl rfl ?_;have e1:∀ d2:D,{ bE d1 m peak' with r:=dk m (d.size/8)}=bE d (m.add (dk m (d.size/8))) peak':=fun _=>by unfold bE;rw[Mn.fg,hw1.sec,hw1.size];rfl
    rintro _ _ H (⟨d2,rfl,hw2',hcl2,rfl⟩|⟨d2,rfl,hcut,hleft,rfl⟩) hs
    .simp only[HV];refine(kY (p:=p) (dp:=dp) (mp:=mp) 0).use hs [2] rfl rfl ?_;rintro _ _ H ⟨rfl,rfl⟩ hs;simp only[HV];refine aH rfl ?_;have hs:=En.shut (e:={ bE d1 m peak' with r:=dk m (d.size/8)}) (L:=[Dk dp d2,TT]) (hs.re [0,1,2,3] rfl);rw[e1 d2]at hs;refine(kb (p:=p) (dp:=dp) (some (bE d (m.add (dk m (d.size/8))) peak'))).use hs [0] rfl rfl ?_;rintro _ _ H ⟨rfl,rfl⟩ hs;have est:sd (some (bE d (m.add (dk m (d.size/8))) peak'))=stM (m.add (dk m (d.size/8))) (d.size/8):=vy;rw[est];simp only[HV];have hgo:=hw1.trans hw2';rw[hw1.size]at hcl2;refine⟨_,.inr ⟨h3,_,_,hsc,.inl ⟨d2,_,peak',hpk',?_,hcl2,g4,rfl,rfl⟩⟩,hs⟩;exact hgo
    .simp only[HV];refine(kY (p:=p) (dp:=dp) (mp:=mp) 8).use hs [2] rfl rfl ?_;rintro _ _ H ⟨rfl,rfl⟩ hs;simp only[HV];refine aT (by decide) ?_;have hgo:=hw1.cut hcut;refine⟨_,.inr ⟨h3,_,_,hsc,.inr ⟨d2,hgo.more (by omega),hleft.mono fun c' h=>?_,rfl,rfl⟩⟩,hs.re [0,2,3] rfl⟩;rcases h with e|e
     .left;rw[e];exact hh1
     .right;rw[e,hw1.size];exact g4
   .simp only[HV];refine aT (by decide) ?_;have hs:Sep [Dk dp d1,Ar ap m.aO peak' [],TT,af p (cR dp (some mp)),af mp (cu (bE d m aj) ap rp A (cJ (bE d m aj)).length mm),af rp (bU dp 1 8 ((8*(bE d m aj).aa:Nat):Int)),bH 221 8 A (cJ (bE d m aj)).length mm (fb (cJ (bE d m aj))),af b1 (fw m.r)] H:=hs;refine(kY (p:=p) (dp:=dp) (mp:=mp) 8).use hs [3] rfl rfl ?_;rintro _ _ H ⟨rfl,rfl⟩ hs;simp only[HV];exact⟨_,.inr ⟨h3,_,_,hsc,.inr ⟨d1,hcut.more (by omega),hleft.mono fun c' h=>.inl (target c' h),rfl,rfl⟩⟩,hs.re [0,1,3] rfl⟩
  refine hs.ld 7 (v:=Ot (m.r.out:Int)) rfl rfl ?_;simp only[HV];refine hs.ld 7 (v:=I m.r.ps) rfl rfl ?_;simp only[HV];by_cases h0:m.r.ps=0
  .refine aL h0 ?_;refine hs.ld 7 (v:=Ot (m.r.da:Int)) rfl rfl ?_;simp only[HV];rw[if_pos h0]at s2;exact j7 _ (by rw[s2])
  .refine aK h0 ?_;rw[if_neg h0]at s2;exact j7 _ (by rw[s2])
 .exact aT h3 ⟨_,.inl ⟨h3,rfl,rfl⟩,hs⟩
end
theorem Gx :eJ prog 108=some (1,8,some #[U 0]):=by kernel_rfl
theorem FS (n:Nat):cZ [Value.int .u64 0] n=ah (List.replicate n 0):=by
 rw[fm];unfold ah;rw[List.map_replicate];rfl
def Ee (m:Mn)(aa i:Nat):Nat:=nS aa (2^m.r.kk.toNat)+(dP aa (eY m.aA aa i m.r.kk.toNat).f (2^m.r.kk.toNat) 0 (2^m.r.kk.toNat)).length
theorem M3 {m:Mn}{aa i:Nat}(hp:1<=aa):Ee m aa i<=2*2^m.r.kk.toNat:=by
 have h1:=vo (aa:=aa) (w:=2^m.r.kk.toNat) hp (Nat.two_pow_pos _);have h2:=jg aa (eY m.aA aa i m.r.kk.toNat).f (2^m.r.kk.toNat) 0 (2^m.r.kk.toNat);unfold Ee;omega
theorem qM {m:Mn}{aa:Nat}:2<=stM m aa↔2<=m.r.kd:=by
 unfold stM;by_cases e2:m.r.kd=2
 .rw[if_pos e2];omega
 .rw[if_neg e2];by_cases e3:m.r.kd<3
  .rw[if_pos e3];omega
  .rw[if_neg e3];split<;>omega
section
variable {p dp : Nat} {d : D} {c : Cn} {m : Mn} {aj : Int} (hc : Clean d c) (hh : Holds d.sec d.size m c) (ho : d.rd <= 800000 /\ d.wr <= 800000 /\ d.sy <= 800000) (hpk : aj <= m.aO)
include hc hh ho hpk
def CQ (p dp:Nat)(d:D)(c:Cn)(m:Mn)(i:Nat)(l:List UInt64)(v:Value)(M:List As):Prop:=
 (∃ d' b mm peak',peak'<=(m.aO:Int)/\fA d d' (Ee m (d.size/8) i) 0 0/\Clean d' c/\v= .tuple #[.slice (Oo b) l.length l.length,I 0]/\M=[En p dp (some (bE d m peak')),Dk dp d',af b (.row (ah l) 108 mm)])\/
 (∃ d',gp d d' (Ee m (d.size/8) i)/\Left d' (fun c'=>c'=c)/\v= .tuple #[.slice none 0 0,I 8]/\M=[En p dp none,Dk dp d'])
theorem Eh {i:Nat}(hi:i<4){l:List UInt64}(hl:l.length=2^m.r.kk.toNat)(hw:kF c (d.size/8) (eY m.aA (d.size/8) i m.r.kk.toNat).f (2^m.r.kk.toNat)=l)(want:Int)(hwant:want=(lT l:Int)):
  Tr prog 136 #[V p,I (i:Int),Ot want] [En p dp (some (bE d m aj)),Dk dp d] (CQ p dp d c m i l):=fun H hs=>by
 have he:=hh.eg hpk;have hok:=hc.ok;have hpd:=Ok.eB hok;have hlay:=he.lay;have hkk:0<=m.r.kk/\m.r.kk.toNat<=m.aA:=he.MI;have hm32:=he.aA;have hm32:m.aA<=32:=hm32;have h2k:=gV (k:=m.r.kk.toNat);have h2p:=Nat.two_pow_pos m.r.kk.toNat;have hper8:d.size/8=D.aa d:=rfl;have hcapd:D.aa d<=m.aO:=by
  have:=hh.least;unfold fB at this;rw[hper8]at this;omega
 have hcap:m.aO<=16777216:=by have:=(gk hh.dc).2.2.2;omega
 obtain⟨mp,ap,rp,A,mm,hs⟩:=En.whole hs;have hs:Sep [af p (cR dp (some mp)),af mp (cu (bE d m aj) ap rp A (cJ (bE d m aj)).length mm),Ar ap m.aO aj [],af rp (bU dp 1 8 ((8*(bE d m aj).aa:Nat):Int)),bH 221 8 A (cJ (bE d m aj)).length mm (fb (cJ (bE d m aj))),Dk dp d] H:=hs;have back:∀(H:Hp) (peak':Int) (d':D) (L:List As),Sep ([af p (cR dp (some mp)),af mp (cu (bE d m aj) ap rp A (cJ (bE d m aj)).length mm),Ar ap m.aO peak' [],af rp (bU dp 1 8 ((8*(bE d m aj).aa:Nat):Int)),bH 221 8 A (cJ (bE d m aj)).length mm (fb (cJ (bE d m aj))),Dk dp d']++L) H->Sep (En p dp (some (bE d m peak'))::Dk dp d'::L) H:=fun H peak' d' L hs=>
  En.nY (mp:=mp) (ap:=ap) (rp:=rp) (A:=A) (m:=mm) (e:=bE d m peak') (L:=Dk dp d'::L) hs
 apply iY.ok;unfold iY
 try simp only[HS]
 refine hs.ld 0 (v:=V dp) rfl rfl ?_;simp only[HV];refine hs.ld 0 (v:=V mp) rfl rfl ?_;simp only[HV]
 try simp only[HS]
 refine hs.ld 1 (v:=V ap) rfl rfl ?_;simp only[HV];refine hs.ld 0 (v:=V mp) rfl rfl ?_;simp only[HV]
 try simp only[HS]
 refine hs.mO 1 (off:=4) (n:=17) rfl (by show 4+17<=32;omega) ?_;have eb:(((sJ (bE d m aj) ap rp A (cJ (bE d m aj)).length mm).toList.drop 4).take 17).toArray=Lay.i6 m.aA (D.aa d):=rfl;rw[eb];refine hs.ld 0 (v:=V mp) rfl rfl ?_;simp only[HV]
 try simp only[HS]
 refine hs.ld 1 (v:=I m.r.kk) rfl rfl ?_;simp only[HV];have ekk:m.r.kk=(m.r.kk.toNat:Int):=by omega
 rw[ekk];refine(vg (dp:=dp) (ap:=ap) hok hlay hi hkk.2).use hs [5] rfl rfl ?_;rintro _ _ H ⟨q,rfl,rfl⟩ hs;simp only[HV];refine aH rfl ?_;have hx:On d (eY m.aA (D.aa d) i m.r.kk.toNat):=hlay.on hok hi hkk.2;have hwx:(eY m.aA (D.aa d) i m.r.kk.toNat).w=2^m.r.kk.toNat:=rfl;have hs:Sep [Dk dp d,af q (bh dp ap (eY m.aA (D.aa d) i m.r.kk.toNat)),af p (cR dp (some mp)),af mp (cu (bE d m aj) ap rp A (cJ (bE d m aj)).length mm),Ar ap m.aO aj [],af rp (bU dp 1 8 ((8*(bE d m aj).aa:Nat):Int)),bH 221 8 A (cJ (bE d m aj)).length mm (fb (cJ (bE d m aj)))] H:=hs;have hrc:Ee m (d.size/8) i=nS (D.aa d) (2^m.r.kk.toNat)+(dP (D.aa d) (eY m.aA (D.aa d) i m.r.kk.toNat).f (2^m.r.kk.toNat) 0 (2^m.r.kk.toNat)).length:=rfl;have hnl:=vo (aa:=D.aa d) (w:=2^m.r.kk.toNat) (by omega) h2p;have hpl:=jg (D.aa d) (eY m.aA (D.aa d) i m.r.kk.toNat).f (2^m.r.kk.toNat) 0 (2^m.r.kk.toNat);rw[hper8]at hw;generalize eY m.aA (D.aa d) i m.r.kk.toNat=x at*;refine(yQ (p:=q) (dp:=dp) (ap:=ap) (x:=x) (cap:=m.aO) (aj:=aj) (bufs:=[]) hok hc.down hx (by omega) (by rw[gf];omega)).use hs [1,0,4] rfl rfl ?_;have hw0:=pc hc.now x (2^m.r.kk.toNat);have hpk1:mx aj (bf []+(D.aa d:Int))<=m.aO:=tx hpk (by rw[gf];omega);rintro _ _ H (⟨hf,rfl,rfl⟩|⟨j,hj,hf,rfl,rfl⟩) hs
 .have hsum:((Go.Crc.sum (form (dV d x 0 x.w))).toNat:Int)=want:=by rw[hwx,hw0,hw,hwant];rfl
  rw[hsum];simp only[HV];refine aH rfl (aH rfl ?_);rw[hwx]at hs hf;have hcN:=hc.bO (nS (D.aa d) (2^m.r.kk.toNat));have hwN:=fA.bO hf;generalize hN:nS (D.aa d) (2^m.r.kk.toNat)=N at*;have hs:Sep [af q (bh dp ap x),Dk dp (D.bO d N),Ar ap m.aO (mx aj (bf []+(D.aa d:Int))) [],af p (cR dp (some mp)),af mp (cu (bE d m aj) ap rp A (cJ (bE d m aj)).length mm),af rp (bU dp 1 8 ((8*(bE d m aj).aa:Nat):Int)),bH 221 8 A (cJ (bE d m aj)).length mm (fb (cJ (bE d m aj)))] H:=hs;refine ae.use (ph hs 0 rfl) ?_;simp only[HV];rw[hwx];refine hs.q8 Gx rfl (n:=2^m.r.kk.toNat) (m:=2^m.r.kk.toNat) rfl rfl (Nat.le_refl _) (by omega) (by omega) fun b H hs=>?_
  simp only[HV];rw[FS]at hs;have hrd:(D.bO d N).rd=d.rd+N:=rfl;have hpeN:D.aa (D.bO d N)=D.aa d:=rfl;refine(wo (p:=q) (dp:=dp) (ap:=ap) (d:=D.bO d N) (x:=x) (cap:=m.aO) (aj:=mx aj (bf []+(D.aa d:Int))) (bufs:=[]) (rl:=b) (off:=0) (mm:=2^m.r.kk.toNat*1) (el:=108) (xs:=ah (List.replicate (2^m.r.kk.toNat) 0)) hcN.ok hcN.down ⟨hx.w1,hx.s1,hx.fit,hx.room⟩ (by omega) 0 (2^m.r.kk.toNat) (2^m.r.kk.toNat) (by omega) (by omega) (Nat.le_refl _) (by rw[aG,List.length_replicate];omega) (by rw[gf,hpeN];omega)).use hs [0,1,2,7] rfl rfl ?_;have hpx:dV (D.bO d N) x 0 (2^m.r.kk.toNat)=l:=by rw[<- hw];exact pc hcN.now x (2^m.r.kk.toNat)
  have hall:setAt (ah (List.replicate (2^m.r.kk.toNat) 0)) 0 (ah l)=ah l:=by rw[pX (by rw[aG,aG,List.length_replicate];exact hl)]
  have hpk2:mx (mx aj (bf []+(D.aa d:Int))) (bf []+(D.aa d:Int))<=m.aO:=tx hpk1 (by rw[gf];omega);rintro _ _ H (⟨hf2,rfl,rfl⟩|⟨j,xs',hj,hf2,hxl,rfl,rfl⟩) hs
  .simp only[HV];refine(kY (p:=p) (dp:=dp) (mp:=mp) 0).use hs [4] rfl rfl ?_;rintro _ _ H ⟨rfl,rfl⟩ hs;simp only[HV];refine aH rfl ?_;rw[hpx,hall,hpeN]at hs;have hgo:=hwN.trans (fA.bO (d:=D.bO d N) hf2);refine⟨_,.inl ⟨_,b,_,_,hpk2,by rw[hrc];exact hgo,hcN.bO _,by rw[hl],rfl⟩,back H _ _ _ (hs.re [0,5,3,6,7,2,4] rfl)⟩
  .simp only[HV];refine(kY (p:=p) (dp:=dp) (mp:=mp) 8).use hs [4] rfl rfl ?_;rintro _ _ H ⟨rfl,rfl⟩ hs;simp only[HV];refine aT (by decide) ?_;have hgo:=hwN.cut (gp.bO hcN hf2 hj);exact⟨_,.inr ⟨_,hgo.more (by rw[hrc];show N+0+0+_<=_;rw[hpeN];omega),Left.bO hcN j,rfl,rfl⟩,hs.re [0,2] rfl⟩
 .simp only[HV];refine aT (by decide) ?_;refine(kY (p:=p) (dp:=dp) (mp:=mp) 8).use hs [3] rfl rfl ?_;rintro _ _ H ⟨rfl,rfl⟩ hs;simp only[HV];rw[hwx]at hj;exact⟨_,.inr ⟨_,(gp.bO hc hf hj).more (by rw[hrc];omega),Left.bO hc j,rfl,rfl⟩,hs.re [0,2] rfl⟩
def MH (p dp:Nat)(d:D)(c:Cn)(m:Mn)(aj:Int)(v:Value)(M:List As):Prop:=
 (stM m (d.size/8)<2/\v= .tuple #[.slice none 0 0,I 11]/\M=[En p dp (some (bE d m aj)),Dk dp d])\/(2<=stM m (d.size/8)/\CQ p dp d c m 0 m.da v M)
theorem BC :Tr prog 73 #[V p] [En p dp (some (bE d m aj)),Dk dp d] (MH p dp d c m aj):=fun H hs=>by
 apply fa.ok;unfold fa;refine(kb (p:=p) (dp:=dp) (some (bE d m aj))).use hs [0] rfl rfl ?_;rintro _ _ H ⟨rfl,rfl⟩ hs;have est:sd (some (bE d m aj))=stM m (d.size/8):=vy;rw[est];simp only[HV];by_cases h2:stM m (d.size/8)<2
 .exact aC h2 ⟨_,.inl ⟨h2,rfl,rfl⟩,hs⟩
 .refine aw h2 ?_;have hk2:=(qM (m:=m) (aa:=d.size/8)).1 (by omega);have eL:=Mn.rm (m:=m);have hi:=hh.da _ eL hk2;obtain⟨mp,ap,rp,A,mm,hs⟩:=En.whole hs
  try simp only[HS]
  refine hs.ld 0 (v:=V mp) rfl rfl ?_;simp only[HV]
  try simp only[HS]
  refine hs.ld 1 (v:=Ot (m.r.da:Int)) rfl rfl ?_;simp only[HV];have hs:=En.nY hs;have hs:Sep [En p dp (some (bE d m aj)),Dk dp d] H:=hs;have hf0:(eY m.aA (d.size/8) 0 m.r.kk.toNat).f=9:=by show 9+0*_=9;omega
  refine(Eh (p:=p) (dp:=dp) hc hh ho hpk (i:=0) (by omega) hi.len (by rw[hf0];exact hi.ws) _ (by rw[hi.sum])).use hs [0,1] rfl rfl ?_;rintro v M H hq hs;rw[show rest [En p dp (some (bE d m aj)),Dk dp d] [0,1]=[]from rfl,List.append_nil]at hs;rcases hq with⟨d',b,mm,peak',h1,h2',h3,rfl,rfl⟩|⟨d',h1,h2',rfl,rfl⟩
  .simp only[HV];exact⟨_,.inr ⟨by omega,.inl ⟨d',b,mm,peak',h1,h2',h3,rfl,rfl⟩⟩,hs⟩
  .simp only[HV];exact⟨_,.inr ⟨by omega,.inr ⟨d',h1,h2',rfl,rfl⟩⟩,hs⟩
def k9 (m:Mn)(aa:Nat):List UInt64:=pT (cE m aa m.r) m.da
def Lh (p dp:Nat)(d:D)(c:Cn)(m:Mn)(aj:Int)(v:Value)(M:List As):Prop:=
 (stM m (d.size/8)≠4/\v= .tuple #[.slice none 0 0,I 12]/\M=[En p dp (some (bE d m aj)),Dk dp d])\/(stM m (d.size/8)=4/\CQ p dp d c m 3 (k9 m (d.size/8)) v M)
theorem tO :Tr prog 72 #[V p] [En p dp (some (bE d m aj)),Dk dp d] (Lh p dp d c m aj):=fun H hs=>by
 apply eR.ok;unfold eR;refine(kb (p:=p) (dp:=dp) (some (bE d m aj))).use hs [0] rfl rfl ?_;rintro _ _ H ⟨rfl,rfl⟩ hs;have est:sd (some (bE d m aj))=stM m (d.size/8):=vy;rw[est];simp only[HV];by_cases h4:stM m (d.size/8)=4
 .refine aH h4 ?_;have hk:3<=m.r.kd/\¬m.r.ps<((cE m (d.size/8) m.r).length:Int):=by
   unfold stM at h4;by_cases e2:m.r.kd=2
   .rw[if_pos e2]at h4;omega
   .rw[if_neg e2]at h4;by_cases e3:m.r.kd<3
    .rw[if_pos e3]at h4;omega
    .rw[if_neg e3]at h4;by_cases e4:m.r.ps<((cE m (d.size/8) m.r).length:Int)
     .rw[if_pos e4]at h4;omega
     .exact⟨by omega,e4⟩
  have eL:=Mn.rm (m:=m);have hr:=hh.log.last eL;have hl1:=(kP (iN m.r) m.r.kk.toNat (d.size/8) m.aO).1;have hl1:1<=(cE m (d.size/8) m.r).length:=hl1;have hkd4:m.r.kd=4:=by
   obtain⟨_,_,_,_,_,h|h|h|h⟩:=hr.1<;>omega
  have hout:=hh.out _ eL hkd4;have hpsl:=hout.ps;have hpe:m.r.ps.toNat=(cE m (d.size/8) m.r).length:=by omega
  have hlast:∃ pz,(cE m (d.size/8) m.r)[m.r.ps.toNat-1]? =some pz/\pz.o=3:=by
   have:(cE m (d.size/8) m.r)[(cE m (d.size/8) m.r).length-1]? =some ((cE m (d.size/8) m.r)[(cE m (d.size/8) m.r).length-1]'(by omega)):=List.getElem?_eq_getElem _;refine⟨_,by rw[hpe];exact this,?_⟩;unfold cE dz;split
   .rfl
   .rfl
  obtain⟨pz,hpz,ho3⟩:=hlast;have hws:=hout.ws pz hpz;have hsum:=hout.sum;rw[hpe,List.take_length]at hws hsum;rw[ho3]at hws;obtain⟨mp,ap,rp,A,mm,hs⟩:=En.whole hs
  try simp only[HS]
  refine hs.ld 0 (v:=V mp) rfl rfl ?_;simp only[HV]
  try simp only[HS]
  refine hs.ld 1 (v:=Ot (m.r.out:Int)) rfl rfl ?_;simp only[HV];have hs:=En.nY hs;have hs:Sep [En p dp (some (bE d m aj)),Dk dp d] H:=hs;have hlen:(k9 m (d.size/8)).length=2^m.r.kk.toNat:=by
   have:=congrArg List.length hws;rw[KN]at this;exact this.symm
  refine(Eh (p:=p) (dp:=dp) hc hh ho hpk (i:=3) (by omega) hlen hws _ (by rw[hsum];rfl)).use hs [0,1] rfl rfl ?_;rintro v M H hq hs;rw[show rest [En p dp (some (bE d m aj)),Dk dp d] [0,1]=[]from rfl,List.append_nil]at hs;rcases hq with⟨d',b,mm,peak',h1,h2',h3,rfl,rfl⟩|⟨d',h1,h2',rfl,rfl⟩
  .simp only[HV];exact⟨_,.inr ⟨h4,.inl ⟨d',b,mm,peak',h1,h2',h3,rfl,rfl⟩⟩,hs⟩
  .simp only[HV];exact⟨_,.inr ⟨h4,.inr ⟨d',h1,h2',rfl,rfl⟩⟩,hs⟩
 .exact aT h4 ⟨_,.inl ⟨h4,rfl,rfl⟩,hs⟩
end
end Eng
end Go.Proofs.YtlgnlghmbcpmhaaGreatDoor
