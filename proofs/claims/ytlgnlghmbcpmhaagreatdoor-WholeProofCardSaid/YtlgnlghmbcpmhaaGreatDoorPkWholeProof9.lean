import Derived.Test.YtlgnlghmbcpmhaaGreatDoorProg
import Derived.Test.YtlgnlghmbcpmhaaGreatDoorPkWholeProof8
set_option maxRecDepth 100000
set_option linter.unusedVariables false
set_option linter.unusedSimpArgs false
set_option linter.unnecessarySimpa false
set_option linter.unusedSectionVars false
open Go.IntKind (i64 u32 u64)
namespace Go.Proofs.YtlgnlghmbcpmhaaGreatDoor
open Tryz (prog)
namespace W
open Go Go.Hw
theorem bV :prog.follows .mixedOrders=true:=by kernel_rfl
def mY (p1:OA)(H:Hp)(K:VK):Prop:=
 aq p1.isNone (K (.pointer none) H) (Nw H (Oa #[.pointer p1,.pointer none] 148) fun b1 H1=>K (V b1) H1)
theorem mY.ok p1 H K (h:mY p1 H K):aa prog 15 #[.pointer p1] H K:=
 bX bV Tryz.func15 rfl rfl h
def ay.j6.q1 (H10:Hp)(a14 a8:Addr)(x8:Int)(a7:Addr)(K:VK):Prop:=
 (mO H10 (a14.add 31) fun A2 n2 m2=>St H10 ((a8.add 4).add 0) (I x8) fun H11=>St H11 ((a8.add 5).add 0) (I (n2:Int)) fun H12=>aY H12 a8 6 fun l2=>cK H12 a7 l2.toArray 6 fun H89=>aY H89 a7 6 fun l34=>K (.agg l34.toArray) H89)/\(St H10 ((a8.add 4).add 0) (I x8) fun H13=>mO H13 (a14.add 31) fun A3 n3 m3=>St H13 ((a8.add 5).add 0) (I (n3:Int)) fun H14=>aY H14 a8 6 fun l3=>cK H14 a7 l3.toArray 6 fun H90=>aY H90 a7 6 fun l35=>K (.agg l35.toArray) H90)
def ay.j6.q2 (H7:Hp)(a8:Addr)(x8:Int)(n1:Nat)(a7:Addr)(K:VK):Prop:=
 St H7 ((a8.add 4).add 0) (I x8) fun H8=>St H8 ((a8.add 5).add 0) (I (n1:Int)) fun H9=>aY H9 a8 6 fun l1=>cK H9 a7 l1.toArray 6 fun H88=>aY H88 a7 6 fun l33=>K (.agg l33.toArray) H88
def ay.j6.q3 (H15:Hp)(a12 a8:Addr)(x8:Int)(a7:Addr)(K:VK):Prop:=
 (bj H15 (a12.add 1) fun p9=>NN p9 fun a15=>ay.j6.q1 H15 a15 a8 x8 a7 K)/\(St H15 ((a8.add 4).add 0) (I x8) fun H20=>bj H20 (a12.add 1) fun p10=>NN p10 fun a16=>mO H20 (a16.add 31) fun A6 n6 m6=>St H20 ((a8.add 5).add 0) (I (n6:Int)) fun H21=>aY H21 a8 6 fun l6=>cK H21 a7 l6.toArray 6 fun H93=>aY H93 a7 6 fun l38=>K (.agg l38.toArray) H93)
def ay.j6.q4 (H:Hp)(a13 a17 a8:Addr)(x7:Int)(a7:Addr)(K:VK):Prop:=
 (aM H ((a13.add 23).add 4) fun x9=>(mO H (a17.add 31) fun A7 n7 m7=>St H ((a8.add 3).add 0) (I x7) fun H22=>ay.j6.q2 H22 a8 x9 n7 a7 K)/\(St H ((a8.add 3).add 0) (I x7) fun H25=>ay.j6.q1 H25 a17 a8 x9 a7 K))/\(mO H (a17.add 31) fun A10 n10 m10=>(aM H ((a13.add 23).add 4) fun x10=>St H ((a8.add 3).add 0) (I x7) fun H30=>ay.j6.q2 H30 a8 x10 n10 a7 K)/\(St H ((a8.add 3).add 0) (I x7) fun H33=>aM H33 ((a13.add 23).add 4) fun x11=>ay.j6.q2 H33 a8 x11 n10 a7 K))/\(St H ((a8.add 3).add 0) (I x7) fun H36=>aM H36 ((a13.add 23).add 4) fun x12=>ay.j6.q1 H36 a17 a8 x12 a7 K)
def ay.j6 (K:VK)(p5:OA)(a7 a8:Addr)(H:Hp):=
 aM H (a8.add 0) fun x6=>aq (decide (x6>=3)) (NN p5 fun a9=>bj H (a9.add 1) fun p6=>NN p6 fun a10=>aM H ((a10.add 23).add 3) fun x7=>NN p5 fun a11=>NN p5 fun a12=>(bj H (a11.add 1) fun p7=>NN p7 fun a13=>(aM H ((a13.add 23).add 4) fun x8=>(bj H (a12.add 1) fun p8=>NN p8 fun a14=>(mO H (a14.add 31) fun A1 n1 m1=>St H ((a8.add 3).add 0) (I x7) fun H7=>ay.j6.q2 H7 a8 x8 n1 a7 K)/\(St H ((a8.add 3).add 0) (I x7) fun H10=>ay.j6.q1 H10 a14 a8 x8 a7 K))/\(St H ((a8.add 3).add 0) (I x7) fun H15=>ay.j6.q3 H15 a12 a8 x8 a7 K))/\(bj H (a12.add 1) fun p11=>NN p11 fun a17=>ay.j6.q4 H a13 a17 a8 x7 a7 K)/\(St H ((a8.add 3).add 0) (I x7) fun H41=>aM H41 ((a13.add 23).add 4) fun x13=>ay.j6.q3 H41 a12 a8 x13 a7 K))/\(bj H (a12.add 1) fun p14=>NN p14 fun a20=>(bj H (a11.add 1) fun p15=>NN p15 fun a21=>ay.j6.q4 H a21 a20 a8 x7 a7 K)/\(mO H (a20.add 31) fun A22 n22 m22=>(bj H (a11.add 1) fun p16=>NN p16 fun a22=>(aM H ((a22.add 23).add 4) fun x18=>St H ((a8.add 3).add 0) (I x7) fun H67=>ay.j6.q2 H67 a8 x18 n22 a7 K)/\(St H ((a8.add 3).add 0) (I x7) fun H70=>aM H70 ((a22.add 23).add 4) fun x19=>ay.j6.q2 H70 a8 x19 n22 a7 K))/\(St H ((a8.add 3).add 0) (I x7) fun H73=>bj H73 (a11.add 1) fun p17=>NN p17 fun a23=>aM H73 ((a23.add 23).add 4) fun x20=>ay.j6.q2 H73 a8 x20 n22 a7 K))/\(St H ((a8.add 3).add 0) (I x7) fun H76=>bj H76 (a11.add 1) fun p18=>NN p18 fun a24=>aM H76 ((a24.add 23).add 4) fun x21=>ay.j6.q1 H76 a20 a8 x21 a7 K))/\(St H ((a8.add 3).add 0) (I x7) fun H81=>bj H81 (a11.add 1) fun p19=>NN p19 fun a25=>aM H81 ((a25.add 23).add 4) fun x22=>ay.j6.q3 H81 a12 a8 x22 a7 K)) (aY H a8 6 fun l32=>cK H a7 l32.toArray 6 fun H119=>aY H119 a7 6 fun l64=>K (.agg l64.toArray) H119)
def ay.j4 (K:VK)(p3:OA)(a3 a4:Addr)(H:Hp):=
 aM H (a4.add 0) fun x4=>aq (decide (x4>=2)) (NN p3 fun a5=>bj H (a5.add 1) fun p4=>NN p4 fun a6=>aM H ((a6.add 23).add 2) fun x5=>St H ((a4.add 2).add 0) (I x5) fun H6=>ay.j6 K p3 a3 a4 H6) (ay.j6 K p3 a3 a4 H)
def ay (p1:OA)(H:Hp)(K:VK):Prop:=
 Nw H (Oa #[I 0,I 0,I 0,I 0,I 0,I 0] 30) fun b1 H1=>cC 74 #[.pointer p1] H1 fun x1 H2=>Nw H2 (Oa #[I 0,I 0,I 0,I 0,I 0,I 0] 30) fun b2 H3=>cK H3 (O b2) #[I x1,I 0,I 0,I 0,I 0,I 0] 6 fun H4=>aM H4 ((O b2).add 0) fun x2=>aq (decide (x2>=1)) (NN p1 fun a1=>bj H4 (a1.add 1) fun p2=>NN p2 fun a2=>iS H4 ((a2.add 23).add 5) fun x3=>St H4 (((O b2).add 1).add 0) (I (i64.wrap x3)) fun H5=>ay.j4 K p1 (O b1) (O b2) H5) (ay.j4 K p1 (O b1) (O b2) H4)
def ay.Λ (K:VK):aI:=⟨fun i=>match Nat.beq i 6 with|true=>some (fun E D H=>eP E 0 fun p5=>eN E 2 fun a7=>eN E 3 fun a8=>ax D (ay.j6 K p5 a7 a8 H))|false=>match Nat.beq i 4 with|true=>some (fun E D H=>eP E 0 fun p3=>eN E 2 fun a3=>eN E 3 fun a4=>ax D (ay.j4 K p3 a3 a4 H))|false=>none,fun i=>none,(fun i=>match Nat.beq i 7 with|true=>some ([3,7,11,15,19,22],[0,1,3,7,15,31,63,127,0,256,768,1792,3840,7936,16128,32512,0,65536,196608,458752,983040,2031616,4128768,8323072,255,16777471,50397183,117506047,268435455,536870911],0)|false=>none)⟩
theorem ay.ok p1 H K (h:ay p1 H K):aa prog 18 #[.pointer p1] H K:=
 dV (Λ:=(ay.Λ K)) bV Tryz.func18 rfl rfl h (oC (fun E D H h=>by
   obtain⟨p3,e0,g2⟩:=GP h;obtain⟨a3,e2,g5⟩:=GN g2;obtain⟨a4,e3,g8⟩:=GN g5;obtain⟨rfl,h'⟩:=ax.out g8;exact cU (Λ:=(ay.Λ K)) bV [] (ag.cons e0 (ag.cons e2 (ag.cons e3 (ag.nil _)))) h' (oC (fun E D H h=>by
     obtain⟨p5,e0,g2⟩:=GP h;obtain⟨a7,e2,g5⟩:=GN g2;obtain⟨a8,e3,g8⟩:=GN g5;obtain⟨rfl,h'⟩:=ax.out g8;exact cU (Λ:=(ay.Λ K)) bV [] (ag.cons e0 (ag.cons e2 (ag.cons e3 (ag.nil _)))) h' oN) oN)) oN)
def cv.j8 (K:VK)(p7:OA)(x5:Int)(p8:OA)(H:Hp):=
 aq (x5 !=0) (NN p7 fun a4=>St H ((a4.add 1).add 0) (.pointer none) fun H8=>K (I 11) H8) (NN p8 fun a5=>bj H (a5.add 22) fun p9=>Hz 82 #[.pointer p9] H fun v15 H9=>C' v15 fun y2 c1 x6=>(Nw H9 (Oa #[U 0,I 0,I 0,I 0,I 0,Oi 0,Oi 0,Oi 0] 110) fun b2 H10=>cK H10 (O b2) y2 8 fun H11=>aq (x6 !=0) (cC 80 #[.pointer p7,I x6] H11 fun x7 H12=>K (I x7) H12) (aY H11 (O b2) 8 fun l16=>NN p8 fun a6=>cK H11 (a6.add 23) l16.toArray 8 fun H13=>Hz 83 #[.pointer p8] H13 fun v20 H14=>NN p7 fun a7=>St H14 ((a7.add 1).add 0) (.pointer p8) fun H15=>K (I 0) H15)))
def cv (p1:OA)(H:Hp)(K:VK):Prop:=
 NN p1 fun a1=>bj H (a1.add 0) fun p2=>Hz 79 #[.pointer p2] H fun v2 H1=>nZ v2 fun y1 x1=>(Nw H1 (Oa #[I 0,I 0,I 0,I 0] 45) fun b1 H2=>cK H2 (O b1) y1 4 fun H3=>aq (x1==8) (cC 80 #[.pointer p1,I x1] H3 fun x2 H4=>K (I x2) H4) (aq (x1 !=0) (NN p1 fun a2=>St H3 ((a2.add 1).add 0) (.pointer none) fun H5=>K (I 11) H5) (NN p1 fun a3=>(bj H3 (a3.add 0) fun p3=>aY H3 (O b1) 4 fun l4=>Hz 81 #[.pointer p3,.agg l4.toArray] H3 fun v7 H6=>jO v7 fun p4 x3=>(cv.j8 K p1 x3 p4 H6))/\(aY H3 (O b1) 4 fun l8=>bj H3 (a3.add 0) fun p5=>Hz 81 #[.pointer p5,.agg l8.toArray] H3 fun v11 H7=>jO v11 fun p6 x4=>(cv.j8 K p1 x4 p6 H7)))))
def cv.Λ (K:VK):aI:=⟨fun i=>match Nat.beq i 8 with|true=>some (fun E D H=>eP E 0 fun p7=>eI E 4 .i64 fun x5=>eP E 5 fun p8=>ax D (cv.j8 K p7 x5 p8 H))|false=>none,fun i=>none,(fun i=>match Nat.beq i 7 with|true=>some ([],[0,1,3,7,0,31,63,127,127,255,1023],0)|false=>none)⟩
theorem cv.ok p1 H K (h:cv p1 H K):aa prog 27 #[.pointer p1] H K:=
 dV (Λ:=(cv.Λ K)) bV Tryz.func27 rfl rfl h (oC (fun E D H h=>by
   obtain⟨p7,e0,g2⟩:=GP h;obtain⟨x5,e4,g4⟩:=GI g2;obtain⟨p8,e5,g6⟩:=GP g4;obtain⟨rfl,h'⟩:=ax.out g6;exact cU (Λ:=(cv.Λ K)) bV [] (ag.cons e0 (ag.cons e4 (ag.cons e5 (ag.nil _)))) h' oN) oN)
def cP.j7 (K:VK)(p3:OA)(a3:Addr)(x5:Int)(H:Hp):=
 NN p3 fun a4=>bj H (a4.add 0) fun p4=>NN p3 fun a5=>bj H (a5.add 1) fun p5=>NN p5 fun a6=>bj H (a6.add 21) fun p6=>NN p3 fun a7=>bj H (a7.add 1) fun p7=>NN p7 fun a8=>aY H (a8.add 4) 17 fun l2=>aM H (a3.add 2) fun x6=>NN p3 fun a9=>bj H (a9.add 1) fun p8=>NN p8 fun a10=>mO H (a10.add 31) fun A1 n1 m1=>aM H (a3.add 4) fun x7=>cz x7 n1 (NN A1 fun a11=>aY H (a11.add (x7.toNat*8)) 8 fun l3=>Hz 109 #[.pointer p4,.pointer p6,.agg l2.toArray,I x6,.agg l3.toArray,Oi x5] H fun v14 H4=>rX v14 fun x8 x9=>(aq (x9 !=0) (cC 80 #[.pointer p3,I x9] H4 fun x10 H5=>K (.tuple #[.bool false,I x10]) H5) (aM H4 (a3.add 4) fun x11=>St H4 ((a3.add 1).add 0) (I 4) fun H6=>St H6 ((a3.add 4).add 0) (I (i64.wrap (x11+1))) fun H7=>St H7 ((a3.add 7).add 0) (Oi x8) fun H8=>NN p3 fun a12=>bj H8 (a12.add 1) fun p9=>aY H8 a3 8 fun l7=>cC 110 #[.pointer p9,.agg l7.toArray] H8 fun x12 H9=>cC 80 #[.pointer p3,I x12] H9 fun x13 H10=>aq (x13 !=0) (K (.tuple #[.bool false,I x13]) H10) (cC 74 #[.pointer p3] H10 fun x14 H11=>K (.tuple #[.bool (x14==4),I 0]) H11))))
def cP (p1:OA)(H:Hp)(K:VK):Prop:=
 cC 74 #[.pointer p1] H fun x1 H1=>aq (x1 !=3) (K (.tuple #[.bool false,I 5]) H1) (NN p1 fun a1=>bj H1 (a1.add 1) fun p2=>NN p2 fun a2=>aY H1 (a2.add 23) 8 fun l1=>Nw H1 (Oa #[U 0,I 0,I 0,I 0,I 0,Oi 0,Oi 0,Oi 0] 110) fun b1 H2=>cK H2 (O b1) l1.toArray 8 fun H3=>iS H3 ((O b1).add 7) fun x2=>aM H3 ((O b1).add 4) fun x3=>aq (x3==0) (iS H3 ((O b1).add 6) fun x4=>cP.j7 K p1 (O b1) x4 H3) (cP.j7 K p1 (O b1) x2 H3))
def cP.Λ (K:VK):aI:=⟨fun i=>match Nat.beq i 7 with|true=>some (fun E D H=>eP E 0 fun p3=>eN E 4 fun a3=>eI E 5 .u32 fun x5=>ax D (cP.j7 K p3 a3 x5 H))|false=>none,fun i=>none,(fun i=>match Nat.beq i 11 with|true=>some ([0],[1,2,3,4,5],6)|false=>match Nat.beq i 7 with|true=>some ([3,7,10,14,17,19,23,26,28,30],[0,1,3,7,0,16,48,112,240,496,1008,0,2048,6144,14336,30720,63488,129024,0,262144,0,1048576,3145728,7340032,15728640,32505856,66060288,0,134217728,535822336,1072693248,0,4294967295,8589934591,17179869183,17179869183,34359738367,137438953471],0)|false=>none)⟩
theorem cP.ok p1 H K (h:cP p1 H K):aa prog 62 #[.pointer p1] H K:=
 dV (Λ:=(cP.Λ K)) bV Tryz.func62 rfl rfl h (oC (fun E D H h=>by
   obtain⟨p3,e0,g2⟩:=GP h;obtain⟨a3,e4,g5⟩:=GN g2;obtain⟨x5,e5,g7⟩:=GI g5;obtain⟨rfl,h'⟩:=ax.out g7;exact cU (Λ:=(cP.Λ K)) bV [] (ag.cons e0 (ag.cons e4 (ag.cons e5 (ag.nil _)))) h' oN) oN)
def ak.j6 (K:VK)(a58 a59:Addr)(p64:OA)(x80:Int)(H:Hp):=
 aq (x80 !=0) (K (I x80) H) (bj H a58 fun p65=>bj H a58 fun p66=>NN p66 fun a60=>bj H (a60.add 0) fun p67=>NN p64 fun a61=>bj H (a61.add 22) fun p68=>Nw H (.row [.func (.func 125) #[] #[.pointer (some a58)],.func (.func 127) #[.pointer p67] #[],.func (.func 128) #[.pointer p68] #[],.func (.func 129) #[] #[.pointer (some a58),.pointer (some a59)]] 65 4) fun b46 H94=>cC 126 #[.pointer p65,.slice (Oo b46) 4 4] H94 fun x81 H95=>aq (x81==0) (bj H95 a58 fun p69=>NN p69 fun a62=>St H95 ((a62.add 1).add 0) (.pointer p64) fun H96=>K (I x81) H96) (K (I x81) H95))
def ak.j5.q1 (p57:OA)(l1:List Value)(H:Hp)(K:VK)(a54 a55:Addr):=
 Hz 81 #[.pointer p57,.agg l1.toArray] H fun v131 H91=>jO v131 fun p58 x77=>(ak.j6 K a54 a55 p58 x77 H91)
def ak.j5 (K:VK)(a54 a55:Addr)(H:Hp):=
 (bj H a54 fun p56=>NN p56 fun a56=>(bj H (a56.add 0) fun p57=>aY H a55 4 fun l1=>ak.j5.q1 p57 l1 H K a54 a55)/\(aY H a55 4 fun l5=>bj H (a56.add 0) fun p59=>ak.j5.q1 p59 l5 H K a54 a55))/\(aY H a55 4 fun l9=>bj H a54 fun p61=>NN p61 fun a57=>bj H (a57.add 0) fun p62=>ak.j5.q1 p62 l9 H K a54 a55)
def ak.q1.q1 (a9:Addr)(H13:Hp)(b7:Nat)(x1 x9 x2:Int)(K:VK)(b1:Nat):=
 eG 124 #[.pointer (some (a9.add 0))] H13 fun x11=>cK H13 (O b7) #[I x1,I x9,I x11,I x2] 4 fun H14=>ak.j5 K (O b1) (O b7) H14
def ak.q1.q2 (a9:Addr)(H2:Hp)(x1 x9 x2:Int)(K:VK)(b1:Nat):=
 (eG 124 #[.pointer (some (a9.add 0))] H2 fun x10=>Nw H2 (Oa #[I 0,I 0,I 0,I 0] 45) fun b6 H11=>cK H11 (O b6) #[I x1,I x9,I x10,I x2] 4 fun H12=>ak.j5 K (O b1) (O b6) H12)/\(Nw H2 (Oa #[I 0,I 0,I 0,I 0] 45) fun b7 H13=>ak.q1.q1 a9 H13 b7 x1 x9 x2 K b1)
def ak.q1 (a2:Addr)(H2:Hp)(a8:Addr)(x1 x2:Int)(K:VK)(b1:Nat):=
 (eG 123 #[.pointer (some (a2.add 0))] H2 fun x9=>(bj H2 (a8.add 0) fun p11=>NN p11 fun a9=>ak.q1.q2 a9 H2 x1 x9 x2 K b1)/\(Nw H2 (Oa #[I 0,I 0,I 0,I 0] 45) fun b8 H15=>bj H15 (a8.add 0) fun p12=>NN p12 fun a10=>ak.q1.q1 a10 H15 b8 x1 x9 x2 K b1))/\(bj H2 (a8.add 0) fun p13=>NN p13 fun a11=>(eG 123 #[.pointer (some (a2.add 0))] H2 fun x13=>ak.q1.q2 a11 H2 x1 x13 x2 K b1)/\(Nw H2 (Oa #[I 0,I 0,I 0,I 0] 45) fun b11 H21=>eG 123 #[.pointer (some (a2.add 0))] H21 fun x16=>ak.q1.q1 a11 H21 b11 x1 x16 x2 K b1))/\(Nw H2 (Oa #[I 0,I 0,I 0,I 0] 45) fun b12 H23=>eG 123 #[.pointer (some (a2.add 0))] H23 fun x18=>bj H23 (a8.add 0) fun p14=>NN p14 fun a12=>ak.q1.q1 a12 H23 b12 x1 x18 x2 K b1)
def ak.q2.q1 (a21:Addr)(H43:Hp)(b22:Nat)(x1 x33 x2:Int)(K:VK)(b1:Nat):=
 eG 124 #[.pointer (some (a21.add 0))] H43 fun x35=>cK H43 (O b22) #[I x1,I x33,I x35,I x2] 4 fun H44=>ak.j5 K (O b1) (O b22) H44
def ak.q2 (H2:Hp)(a1 a21:Addr)(x1 x2:Int)(K:VK)(b1:Nat):=
 (bj H2 (a1.add 0) fun p24=>NN p24 fun a22=>(eG 123 #[.pointer (some (a22.add 0))] H2 fun x33=>(eG 124 #[.pointer (some (a21.add 0))] H2 fun x34=>Nw H2 (Oa #[I 0,I 0,I 0,I 0] 45) fun b21 H41=>cK H41 (O b21) #[I x1,I x33,I x34,I x2] 4 fun H42=>ak.j5 K (O b1) (O b21) H42)/\(Nw H2 (Oa #[I 0,I 0,I 0,I 0] 45) fun b22 H43=>ak.q2.q1 a21 H43 b22 x1 x33 x2 K b1))/\(Nw H2 (Oa #[I 0,I 0,I 0,I 0] 45) fun b23 H45=>eG 123 #[.pointer (some (a22.add 0))] H45 fun x36=>ak.q2.q1 a21 H45 b23 x1 x36 x2 K b1))/\(Nw H2 (Oa #[I 0,I 0,I 0,I 0] 45) fun b24 H47=>bj H47 (a1.add 0) fun p25=>NN p25 fun a23=>eG 123 #[.pointer (some (a23.add 0))] H47 fun x38=>ak.q2.q1 a21 H47 b24 x1 x38 x2 K b1)
def ak.q3 (H7:Hp)(a3:Addr)(b4:Nat)(x1 x4 x2:Int)(K:VK)(b1:Nat):=
 bj H7 (a3.add 0) fun p7=>NN p7 fun a5=>eG 124 #[.pointer (some (a5.add 0))] H7 fun x7=>cK H7 (O b4) #[I x1,I x4,I x7,I x2] 4 fun H8=>ak.j5 K (O b1) (O b4) H8
def ak.q4 (H2:Hp)(a1 a15:Addr)(x1 x2:Int)(K:VK)(b1:Nat):=
 (bj H2 (a1.add 0) fun p18=>NN p18 fun a16=>ak.q1 a16 H2 a15 x1 x2 K b1)/\(bj H2 (a15.add 0) fun p23=>NN p23 fun a21=>ak.q2 H2 a1 a21 x1 x2 K b1)/\(Nw H2 (Oa #[I 0,I 0,I 0,I 0] 45) fun b25 H49=>bj H49 (a1.add 0) fun p26=>NN p26 fun a24=>eG 123 #[.pointer (some (a24.add 0))] H49 fun x40=>ak.q3 H49 a15 b25 x1 x40 x2 K b1)
def ak.q5 (a2:Addr)(H25:Hp)(b1 b13:Nat)(x1 x2:Int)(K:VK):Prop:=
 eG 123 #[.pointer (some (a2.add 0))] H25 fun x20=>bj H25 (O b1) fun p15=>NN p15 fun a13=>ak.q3 H25 a13 b13 x1 x20 x2 K b1
def ak (p1:OA)(x1 x2:Int)(H:Hp)(K:VK):Prop:=
 Nw H (Oa #[.pointer p1] 27) fun b1 H1=>bj H1 (O b1) fun p2=>cC 122 #[.pointer p2,I x1,I x2] H1 fun x3 H2=>aq (x3 !=0) (K (I x3) H2) ((bj H2 (O b1) fun p3=>NN p3 fun a1=>(bj H2 (a1.add 0) fun p4=>NN p4 fun a2=>(eG 123 #[.pointer (some (a2.add 0))] H2 fun x4=>(bj H2 (O b1) fun p5=>NN p5 fun a3=>(bj H2 (a3.add 0) fun p6=>NN p6 fun a4=>(eG 124 #[.pointer (some (a4.add 0))] H2 fun x5=>Nw H2 (Oa #[I 0,I 0,I 0,I 0] 45) fun b2 H3=>cK H3 (O b2) #[I x1,I x4,I x5,I x2] 4 fun H4=>ak.j5 K (O b1) (O b2) H4)/\(Nw H2 (Oa #[I 0,I 0,I 0,I 0] 45) fun b3 H5=>eG 124 #[.pointer (some (a4.add 0))] H5 fun x6=>cK H5 (O b3) #[I x1,I x4,I x6,I x2] 4 fun H6=>ak.j5 K (O b1) (O b3) H6))/\(Nw H2 (Oa #[I 0,I 0,I 0,I 0] 45) fun b4 H7=>ak.q3 H7 a3 b4 x1 x4 x2 K b1))/\(Nw H2 (Oa #[I 0,I 0,I 0,I 0] 45) fun b5 H9=>bj H9 (O b1) fun p8=>NN p8 fun a6=>ak.q3 H9 a6 b5 x1 x4 x2 K b1))/\(bj H2 (O b1) fun p10=>NN p10 fun a8=>ak.q1 a2 H2 a8 x1 x2 K b1)/\(Nw H2 (Oa #[I 0,I 0,I 0,I 0] 45) fun b13 H25=>ak.q5 a2 H25 b1 b13 x1 x2 K))/\(bj H2 (O b1) fun p17=>NN p17 fun a15=>ak.q4 H2 a1 a15 x1 x2 K b1)/\(Nw H2 (Oa #[I 0,I 0,I 0,I 0] 45) fun b26 H51=>bj H51 (a1.add 0) fun p28=>NN p28 fun a26=>ak.q5 a26 H51 b1 b26 x1 x2 K))/\(bj H2 (O b1) fun p31=>NN p31 fun a29=>(bj H2 (O b1) fun p32=>NN p32 fun a30=>ak.q4 H2 a30 a29 x1 x2 K b1)/\(bj H2 (a29.add 0) fun p43=>NN p43 fun a41=>(bj H2 (O b1) fun p44=>NN p44 fun a42=>ak.q2 H2 a42 a41 x1 x2 K b1)/\(Nw H2 (Oa #[I 0,I 0,I 0,I 0] 45) fun b43 H85=>bj H85 (O b1) fun p47=>NN p47 fun a45=>bj H85 (a45.add 0) fun p48=>NN p48 fun a46=>eG 123 #[.pointer (some (a46.add 0))] H85 fun x71=>eG 124 #[.pointer (some (a41.add 0))] H85 fun x72=>cK H85 (O b43) #[I x1,I x71,I x72,I x2] 4 fun H86=>ak.j5 K (O b1) (O b43) H86))/\(Nw H2 (Oa #[I 0,I 0,I 0,I 0] 45) fun b44 H87=>bj H87 (O b1) fun p49=>NN p49 fun a47=>bj H87 (a47.add 0) fun p50=>NN p50 fun a48=>eG 123 #[.pointer (some (a48.add 0))] H87 fun x73=>ak.q3 H87 a29 b44 x1 x73 x2 K b1))/\(Nw H2 (Oa #[I 0,I 0,I 0,I 0] 45) fun b45 H89=>bj H89 (O b1) fun p52=>NN p52 fun a50=>bj H89 (a50.add 0) fun p53=>NN p53 fun a51=>ak.q5 a51 H89 b1 b45 x1 x2 K))
def ak.Λ (K:VK):aI:=⟨fun i=>match Nat.beq i 6 with|true=>some (fun E D H=>eN E 3 fun a58=>eN E 8 fun a59=>eP E 9 fun p64=>eI E 10 .i64 fun x80=>ax D (ak.j6 K a58 a59 p64 x80 H))|false=>match Nat.beq i 5 with|true=>some (fun E D H=>eN E 3 fun a54=>eN E 8 fun a55=>ax D (ak.j5 K a54 a55 H))|false=>none,fun i=>none,(fun i=>match Nat.beq i 9 with|true=>some ([0,2,5,10],[0,0,0,4,12,28,60,0,128,384,896,1920,0,8190,16383,32767],0)|false=>match Nat.beq i 5 with|true=>some ([],[0,1,3,7,0,31,63,127,127,255,1023],0)|false=>match Nat.beq i 4 with|true=>some ([1,4,7,8,11,14],[0,0,2,6,14,30,62,126,0,256,768,1792,3840,7936,16382,0,65535,0,262143],0)|false=>none)⟩
theorem ak.ok p1 x1 x2 H K (h:ak p1 x1 x2 H K):aa prog 69 #[.pointer p1,I x1,I x2] H K:=
 dV (Λ:=(ak.Λ K)) bV Tryz.func69 rfl rfl h (oC (fun E D H h=>by
   obtain⟨a54,e3,g3⟩:=GN h;obtain⟨a55,e8,g6⟩:=GN g3;obtain⟨rfl,h'⟩:=ax.out g6;exact cU (Λ:=(ak.Λ K)) bV [] (ag.cons e3 (ag.cons e8 (ag.nil _))) h' (oC (fun E D H h=>by
     obtain⟨a58,e3,g3⟩:=GN h;obtain⟨a59,e8,g6⟩:=GN g3;obtain⟨p64,e9,g8⟩:=GP g6;obtain⟨x80,e10,g10⟩:=GI g8;obtain⟨rfl,h'⟩:=ax.out g10;exact cU (Λ:=(ak.Λ K)) bV [] (ag.cons e3 (ag.cons e8 (ag.cons e9 (ag.cons e10 (ag.nil _))))) h' oN) oN)) oN)
def av.j7 (K:VK)(a29 a30 a31 a32:Addr)(H:Hp):=
 Nw H (Oa #[Oi 0] 84) fun b35 H85=>bj H85 a29 fun p28=>NN p28 fun a33=>bj H85 (a33.add 1) fun p29=>Nw H85 (Oa #[.pointer none] 146) fun b36 H86=>St H86 ((O b36).add 0) (.pointer p29) fun H87=>bj H87 a29 fun p30=>Nw H87 (.row [.func (.func 132) #[] #[V b36,.pointer (some a32)],.func (.func 133) #[] #[V b36,.pointer (some a29),.pointer (some a31),.pointer (some a30),V b35],.func (.func 135) #[] #[V b35,.pointer (some a32),V b36]] 65 3) fun b37 H88=>cC 126 #[.pointer p30,.slice (Oo b37) 3 3] H88 fun x91 H89=>K (.tuple #[I 0,I x91]) H89
def av.j4.q1 (H57:Hp)(b21:Nat)(x70 x71:Int)(K:VK)(a14 a15 a16:Addr):=
 cK H57 (O b21) #[U 0,I 1,I x70,I 0,I 0,Oi (u32.wrap (x71+1)),Oi 0,Oi 0] 8 fun H58=>av.j7 K a14 a15 a16 (O b21) H58
def av.j4.q2 (H:Hp)(a18:Addr)(x70:Int)(K:VK)(a14 a15 a16:Addr):=
 (iS H ((a18.add 23).add 5) fun x71=>Nw H (Oa #[U 0,I 0,I 0,I 0,I 0,Oi 0,Oi 0,Oi 0] 110) fun b21 H57=>av.j4.q1 H57 b21 x70 x71 K a14 a15 a16)/\(Nw H (Oa #[U 0,I 0,I 0,I 0,I 0,Oi 0,Oi 0,Oi 0] 110) fun b22 H59=>iS H59 ((a18.add 23).add 5) fun x72=>av.j4.q1 H59 b22 x70 x72 K a14 a15 a16)
def av.j4.q3 (H61:Hp)(a17:Addr)(b23:Nat)(x70:Int)(K:VK)(a14 a15 a16:Addr):=
 bj H61 (a17.add 1) fun p18=>NN p18 fun a19=>iS H61 ((a19.add 23).add 5) fun x73=>av.j4.q1 H61 b23 x70 x73 K a14 a15 a16
def av.j4.q4 (H:Hp)(a17:Addr)(x70:Int)(K:VK)(a14 a15 a16:Addr):=
 (bj H (a17.add 1) fun p17=>NN p17 fun a18=>av.j4.q2 H a18 x70 K a14 a15 a16)/\(Nw H (Oa #[U 0,I 0,I 0,I 0,I 0,Oi 0,Oi 0,Oi 0] 110) fun b23 H61=>av.j4.q3 H61 a17 b23 x70 K a14 a15 a16)
def av.j4 (K:VK)(a14 a15:Addr)(x68 x69:Int)(a16:Addr)(H:Hp):=
 aq (x69 !=0) (K (.tuple #[I x68,I x69]) H) ((aM H a16 fun x70=>(bj H a14 fun p16=>NN p16 fun a17=>av.j4.q4 H a17 x70 K a14 a15 a16)/\(Nw H (Oa #[U 0,I 0,I 0,I 0,I 0,Oi 0,Oi 0,Oi 0] 110) fun b24 H63=>bj H63 a14 fun p19=>NN p19 fun a20=>av.j4.q3 H63 a20 b24 x70 K a14 a15 a16))/\(bj H a14 fun p21=>NN p21 fun a22=>(aM H a16 fun x75=>av.j4.q4 H a22 x75 K a14 a15 a16)/\(bj H (a22.add 1) fun p24=>NN p24 fun a25=>(aM H a16 fun x79=>av.j4.q2 H a25 x79 K a14 a15 a16)/\(iS H ((a25.add 23).add 5) fun x82=>(aM H a16 fun x83=>Nw H (Oa #[U 0,I 0,I 0,I 0,I 0,Oi 0,Oi 0,Oi 0] 110) fun b30 H75=>av.j4.q1 H75 b30 x83 x82 K a14 a15 a16)/\(Nw H (Oa #[U 0,I 0,I 0,I 0,I 0,Oi 0,Oi 0,Oi 0] 110) fun b31 H77=>aM H77 a16 fun x84=>av.j4.q1 H77 b31 x84 x82 K a14 a15 a16))/\(Nw H (Oa #[U 0,I 0,I 0,I 0,I 0,Oi 0,Oi 0,Oi 0] 110) fun b32 H79=>aM H79 a16 fun x85=>iS H79 ((a25.add 23).add 5) fun x86=>av.j4.q1 H79 b32 x85 x86 K a14 a15 a16))/\(Nw H (Oa #[U 0,I 0,I 0,I 0,I 0,Oi 0,Oi 0,Oi 0] 110) fun b33 H81=>aM H81 a16 fun x87=>av.j4.q3 H81 a22 b33 x87 K a14 a15 a16))/\(Nw H (Oa #[U 0,I 0,I 0,I 0,I 0,Oi 0,Oi 0,Oi 0] 110) fun b34 H83=>aM H83 a16 fun x89=>bj H83 a14 fun p26=>NN p26 fun a27=>av.j4.q3 H83 a27 b34 x89 K a14 a15 a16))
def av.q1 (A2:OA)(n2 m2:Nat)(x1:Int)(H6:Hp)(b4:Nat)(K:VK)(b1 b2:Nat):=
 Hz 131 #[.slice A2 n2 m2,I x1] H6 fun v11 H7=>zg v11 fun x5 x6 x7=>(St H7 ((O b4).add 0) (I x5) fun H8=>av.j4 K (O b1) (O b2) x6 x7 (O b4) H8)
def av.q2 (A2:OA)(n2 m2:Nat)(x1:Int)(H2:Hp)(K:VK)(b1 b2:Nat):=
 (Hz 131 #[.slice A2 n2 m2,I x1] H2 fun v7 H3=>zg v7 fun x2 x3 x4=>(Nw H3 (Oa #[I 0] 3) fun b3 H4=>St H4 ((O b3).add 0) (I x2) fun H5=>av.j4 K (O b1) (O b2) x3 x4 (O b3) H5))/\(Nw H2 (Oa #[I 0] 3) fun b4 H6=>av.q1 A2 n2 m2 x1 H6 b4 K b1 b2)
def av.q3 (H2:Hp)(a2:Addr)(A2:OA)(n2 m2:Nat)(K:VK)(b1 b2:Nat):=
 (bj H2 (a2.add 1) fun p5=>NN p5 fun a3=>(aM H2 ((a3.add 0).add 0) fun x1=>av.q2 A2 n2 m2 x1 H2 K b1 b2)/\(Nw H2 (Oa #[I 0] 3) fun b5 H9=>aM H9 ((a3.add 0).add 0) fun x8=>av.q1 A2 n2 m2 x8 H9 b5 K b1 b2))/\(Nw H2 (Oa #[I 0] 3) fun b6 H12=>bj H12 (a2.add 1) fun p6=>NN p6 fun a4=>aM H12 ((a4.add 0).add 0) fun x12=>av.q1 A2 n2 m2 x12 H12 b6 K b1 b2)
def av (p1 A1:OA)(n1 m1:Nat)(H:Hp)(K:VK):Prop:=
 Nw H (Oa #[.pointer p1] 27) fun b1 H1=>Nw H1 (Oa #[.slice A1 n1 m1] 31) fun b2 H2=>bj H2 (O b1) fun p2=>NN p2 fun a1=>bj H2 (a1.add 1) fun p3=>aq p3.isNone (K (.tuple #[I 0,I 5]) H2) ((mO H2 (O b2) fun A2 n2 m2=>(bj H2 (O b1) fun p4=>NN p4 fun a2=>av.q3 H2 a2 A2 n2 m2 K b1 b2)/\(Nw H2 (Oa #[I 0] 3) fun b7 H15=>bj H15 (O b1) fun p7=>NN p7 fun a5=>bj H15 (a5.add 1) fun p8=>NN p8 fun a6=>aM H15 ((a6.add 0).add 0) fun x16=>av.q1 A2 n2 m2 x16 H15 b7 K b1 b2))/\(bj H2 (O b1) fun p9=>NN p9 fun a7=>(mO H2 (O b2) fun A3 n3 m3=>av.q3 H2 a7 A3 n3 m3 K b1 b2)/\(bj H2 (a7.add 1) fun p12=>NN p12 fun a10=>(mO H2 (O b2) fun A4 n4 m4=>(aM H2 ((a10.add 0).add 0) fun x35=>av.q2 A4 n4 m4 x35 H2 K b1 b2)/\(Nw H2 (Oa #[I 0] 3) fun b14 H36=>aM H36 ((a10.add 0).add 0) fun x42=>av.q1 A4 n4 m4 x42 H36 b14 K b1 b2))/\(aM H2 ((a10.add 0).add 0) fun x46=>(mO H2 (O b2) fun A5 n5 m5=>av.q2 A5 n5 m5 x46 H2 K b1 b2)/\(Nw H2 (Oa #[I 0] 3) fun b17 H45=>mO H45 (O b2) fun A6 n6 m6=>av.q1 A6 n6 m6 x46 H45 b17 K b1 b2))/\(Nw H2 (Oa #[I 0] 3) fun b18 H48=>mO H48 (O b2) fun A7 n7 m7=>aM H48 ((a10.add 0).add 0) fun x56=>av.q1 A7 n7 m7 x56 H48 b18 K b1 b2))/\(Nw H2 (Oa #[I 0] 3) fun b19 H51=>mO H51 (O b2) fun A8 n8 m8=>bj H51 (a7.add 1) fun p13=>NN p13 fun a11=>aM H51 ((a11.add 0).add 0) fun x60=>av.q1 A8 n8 m8 x60 H51 b19 K b1 b2))/\(Nw H2 (Oa #[I 0] 3) fun b20 H54=>mO H54 (O b2) fun A9 n9 m9=>bj H54 (O b1) fun p14=>NN p14 fun a12=>bj H54 (a12.add 1) fun p15=>NN p15 fun a13=>aM H54 ((a13.add 0).add 0) fun x64=>av.q1 A9 n9 m9 x64 H54 b20 K b1 b2))
def av.Λ (K:VK):aI:=⟨fun i=>match Nat.beq i 7 with|true=>some (fun E D H=>eN E 2 fun a29=>eN E 3 fun a30=>eN E 6 fun a31=>eN E 7 fun a32=>ax D (av.j7 K a29 a30 a31 a32 H))|false=>match Nat.beq i 4 with|true=>some (fun E D H=>eN E 2 fun a14=>eN E 3 fun a15=>eI E 4 .i64 fun x68=>eI E 5 .i64 fun x69=>eN E 6 fun a16=>ax D (av.j4 K a14 a15 x68 x69 a16 H))|false=>none,fun i=>none,(fun i=>match Nat.beq i 6 with|true=>some ([0,1,4,8],[0,0,2,6,14,30,62,126,254,510,1023,0,4095],0)|false=>match Nat.beq i 3 with|true=>some ([0,1,4,8],[0,0,2,6,14,30,62,126,254,511,1023,2047,2047,2047,0,20479,57343,131071],0)|false=>none)⟩
theorem av.ok p1 A1 n1 m1 H K (h:av p1 A1 n1 m1 H K):aa prog 70 #[.pointer p1,.slice A1 n1 m1] H K:=
 dV (Λ:=(av.Λ K)) bV Tryz.func70 rfl rfl h (oC (fun E D H h=>by
   obtain⟨a14,e2,g3⟩:=GN h;obtain⟨a15,e3,g6⟩:=GN g3;obtain⟨x68,e4,g8⟩:=GI g6;obtain⟨x69,e5,g10⟩:=GI g8;obtain⟨a16,e6,g13⟩:=GN g10;obtain⟨rfl,h'⟩:=ax.out g13;exact cU (Λ:=(av.Λ K)) bV [] (ag.cons e2 (ag.cons e3 (ag.cons e4 (ag.cons e5 (ag.cons e6 (ag.nil _)))))) h' (oC (fun E D H h=>by
     obtain⟨a29,e2,g3⟩:=GN h;obtain⟨a30,e3,g6⟩:=GN g3;obtain⟨a31,e6,g9⟩:=GN g6;obtain⟨a32,e7,g12⟩:=GN g9;obtain⟨rfl,h'⟩:=ax.out g12;exact cU (Λ:=(av.Λ K)) bV [] (ag.cons e2 (ag.cons e3 (ag.cons e6 (ag.cons e7 (ag.nil _))))) h' oN) oN)) oN)
def cF.j4 (K:VK)(p2:OA)(x3:Int)(H:Hp):=
 aq (decide (x3<0)) (K (I 18) H) (aq (decide (x3>1)) (K (I 18) H) (NN p2 fun a1=>bj H (a1.add 1) fun p3=>NN p2 fun a2=>bj H (a2.add 1) fun p4=>NN p4 fun a3=>aM H ((a3.add 23).add 2) fun x4=>NN p2 fun a4=>bj H (a4.add 1) fun p5=>NN p5 fun a5=>iS H ((a5.add 23).add 5) fun x5=>NN p2 fun a6=>bj H (a6.add 1) fun p6=>NN p6 fun a7=>iS H ((a7.add 23).add 6) fun x6=>cC 110 #[.pointer p3,.agg #[U 0,I 3,I x4,I x3,I 0,Oi x5,Oi x6,Oi 0]] H fun x7 H2=>cC 80 #[.pointer p2,I x7] H2 fun x8 H3=>K (I x8) H3))
def cF (p1:OA)(x1:Int)(H:Hp)(K:VK):Prop:=
 cC 74 #[.pointer p1] H fun x2 H1=>aq (x2 !=2) (aq (x2 !=4) (K (I 5) H1) (cF.j4 K p1 x1 H1)) (cF.j4 K p1 x1 H1)
def cF.Λ (K:VK):aI:=⟨fun i=>match Nat.beq i 4 with|true=>some (fun E D H=>eP E 0 fun p2=>eI E 1 .i64 fun x3=>ax D (cF.j4 K p2 x3 H))|false=>none,fun i=>none,(fun i=>match Nat.beq i 6 with|true=>some ([0],[1,2,3,4,5,6,7,8,9,10,11,12,13,14,15,16,17,18,19,20,21,22,23,24,25,26,27,28,29,30],31)|false=>none)⟩
theorem cF.ok p1 x1 H K (h:cF p1 x1 H K):aa prog 71 #[.pointer p1,I x1] H K:=
 dV (Λ:=(cF.Λ K)) bV Tryz.func71 rfl rfl h (oC (fun E D H h=>by
   obtain⟨p2,e0,g2⟩:=GP h;obtain⟨x3,e1,g4⟩:=GI g2;obtain⟨rfl,h'⟩:=ax.out g4;exact cU (Λ:=(cF.Λ K)) bV [] (ag.cons e0 (ag.cons e1 (ag.nil _))) h' oN) oN)
def fN (p1:OA)(H:Hp)(K:VK):Prop:=
 cC 74 #[.pointer p1] H fun x1 H1=>aq (x1 !=4) (K (.tuple #[.slice none 0 0,I 12]) H1) (NN p1 fun a1=>bj H1 (a1.add 1) fun p2=>NN p2 fun a2=>iS H1 ((a2.add 23).add 7) fun x2=>Hz 136 #[.pointer p1,I 3,Oi x2] H1 fun v4 H2=>kc v4 fun A1 n1 m1 x3=>(K (.tuple #[.slice A1 n1 m1,I x3]) H2))
theorem fN.ok p1 H K (h:fN p1 H K):aa prog 72 #[.pointer p1] H K:=
 bX bV Tryz.func72 rfl rfl h
def gQ (p1:OA)(H:Hp)(K:VK):Prop:=
 NN p1 fun a1=>bj H (a1.add 1) fun p2=>aq p2.isNone (K (I 0) H) (NN p1 fun a2=>bj H (a2.add 1) fun p3=>NN p3 fun a3=>aM H ((a3.add 23).add 1) fun x1=>aq (x1==2) (K (I 2) H) (NN p1 fun a4=>bj H (a4.add 1) fun p4=>NN p4 fun a5=>aM H ((a5.add 23).add 1) fun x2=>aq (decide (x2<3)) (K (I 1) H) (NN p1 fun a6=>bj H (a6.add 1) fun p5=>NN p5 fun a7=>aM H ((a7.add 23).add 4) fun x3=>NN p1 fun a8=>bj H (a8.add 1) fun p6=>NN p6 fun a9=>mO H (a9.add 31) fun A1 n1 m1=>aq (decide (x3<(n1:Int))) (K (I 3) H) (K (I 4) H))))
theorem gQ.ok p1 H K (h:gQ p1 H K):aa prog 74 #[.pointer p1] H K:=
 bX bV Tryz.func74 rfl rfl h
def dZ (p1:OA)(x1:Int)(H:Hp)(K:VK):Prop:=
 aq (x1==8) (NN p1 fun a1=>St H ((a1.add 1).add 0) (.pointer none) fun H1=>K (I x1) H1) (K (I x1) H)
theorem dZ.ok p1 x1 H K (h:dZ p1 x1 H K):aa prog 80 #[.pointer p1,I x1] H K:=
 bX bV Tryz.func80 rfl rfl h
def eZ.q1 (l9 l10:List Value)(H6:Hp)(p3 p2:OA)(K:VK):Prop:=
 zN l9.toArray.toList fun x8 x9 x10 x11=>(nV l10.toArray.toList fun x12 x13 x14 x15 x16 x17 x18 x19 x20 x21 x22 x23 x24 x25 x26 x27 x28=>(Nw H6 (Oa #[I x8,I x9,I x10,I x11,I x12,I x13,I x14,I x15,I x16,I x17,I x18,I x19,I x20,I x21,I x22,I x23,I x24,I x25,I x26,I x27,I x28,.pointer p3,.pointer p2,U 0,I 0,I 0,I 0,I 0,Oi 0,Oi 0,Oi 0,.slice none 0 0] 158) fun b3 H7=>K (.tuple #[V b3,I 0]) H7))
def eZ (p1:OA)(x1 x2 x3 x4:Int)(H:Hp)(K:VK):Prop:=
 Nw H (Oa #[I x1,I x2,I x3,I x4] 45) fun b1 H1=>aY H1 (O b1) 4 fun l1=>Hz 141 #[.agg l1.toArray] H1 fun v1 H2=>nZ v1 fun y1 x5=>(Nw H2 (Oa #[I 0,I 0,I 0,I 0,I 0,I 0,I 0,I 0,I 0,I 0,I 0,I 0,I 0,I 0,I 0,I 0,I 0] 153) fun b2 H3=>cK H3 (O b2) y1 17 fun H4=>aq (x5 !=0) (K (.tuple #[.pointer none,I x5]) H4) (aY H4 ((O b2).add 2) 3 fun l5=>Hz 142 #[.pointer p1,.agg l5.toArray] H4 fun v4 H5=>jO v4 fun p2 x6=>(aq (x6 !=0) (K (.tuple #[.pointer none,I x6]) H5) (aM H5 ((O b1).add 3) fun x7=>(aY H5 (O b1) 4 fun l9=>(aY H5 (O b2) 17 fun l10=>qD 143 #[I x7] H5 fun p3 H6=>eZ.q1 l9 l10 H6 p3 p2 K)/\(qD 143 #[I x7] H5 fun p4 H8=>aY H8 (O b2) 17 fun l32=>eZ.q1 l9 l32 H8 p4 p2 K))/\(aY H5 (O b2) 17 fun l54=>(aY H5 (O b1) 4 fun l55=>qD 143 #[I x7] H5 fun p5 H10=>eZ.q1 l55 l54 H10 p5 p2 K)/\(qD 143 #[I x7] H5 fun p6 H12=>aY H12 (O b1) 4 fun l77=>eZ.q1 l77 l54 H12 p6 p2 K))/\(qD 143 #[I x7] H5 fun p7 H14=>aY H14 (O b1) 4 fun l99=>aY H14 (O b2) 17 fun l100=>eZ.q1 l99 l100 H14 p7 p2 K)))))
theorem eZ.ok p1 x1 x2 x3 x4 H K (h:eZ p1 x1 x2 x3 x4 H K):aa prog 81 #[.pointer p1,.agg #[I x1,I x2,I x3,I x4]] H K:=
 nL (fun i=>match Nat.beq i 7 with|true=>some ([0,1,3],[0,0,0,4,12,0,63,127,255,511],0)|false=>none) bV Tryz.func81 rfl rfl h
def jc (p1:OA)(H:Hp)(K:VK):Prop:=
 NN p1 fun a1=>St H ((a1.add 31).add 0) (.slice none 0 0) fun H1=>NN p1 fun a2=>aM H1 ((a2.add 23).add 1) fun x1=>aq (decide (x1>=3)) (NN p1 fun a3=>aM H1 ((a3.add 23).add 2) fun x2=>NN p1 fun a4=>aM H1 ((a4.add 23).add 3) fun x3=>NN p1 fun a5=>aM H1 ((a5.add 4).add 1) fun x4=>NN p1 fun a6=>aM H1 ((a6.add 0).add 3) fun x5=>Hz 144 #[I x2,I x3,I x4,I x5] H1 fun v6 H2=>kc v6 fun A1 n1 m1 x6=>(NN p1 fun a7=>St H2 ((a7.add 31).add 0) (.slice A1 n1 m1) fun H3=>K (.tuple #[]) H3)) (K (.tuple #[]) H1)
theorem jc.ok p1 H K (h:jc p1 H K):aa prog 83 #[.pointer p1] H K:=
 nL (fun i=>match Nat.beq i 2 with|true=>some ([5,10,15,20],[0,0,2,6,14,30,0,64,192,448,960,0,2048,6144,14336,30720,0,65536,196608,458752,983040,2097150,4194302,8388606,8388606,16777215,50331647,117440511],0)|false=>none) bV Tryz.func83 rfl rfl h
def gS (p1:OA)(y1:Array Value)(H:Hp)(K:VK):Prop:=
 Nw H (Oa y1 110) fun b1 H1=>NN p1 fun a1=>df H1 ((a1.add 23).add 0) fun x1=>St H1 (((O b1).add 0).add 0) (U (u64.wrap (x1+1))) fun H2=>NN p1 fun a2=>bj H2 (a2.add 22) fun p2=>aY H2 (O b1) 8 fun l1=>cC 170 #[.pointer p2,.agg l1.toArray] H2 fun x2 H3=>aq (x2==0) (aY H3 (O b1) 8 fun l2=>NN p1 fun a3=>cK H3 (a3.add 23) l2.toArray 8 fun H4=>Hz 83 #[.pointer p1] H4 fun v4 H5=>K (I x2) H5) (K (I x2) H3)
theorem gS.ok p1 y1 H K (h:gS p1 y1 H K):aa prog 110 #[.pointer p1,.agg y1] H K:=
 nL (fun i=>match Nat.beq i 2 with|true=>some ([],[0,1,2,3,4],5)|false=>none) bV Tryz.func110 rfl rfl h
def aR.j4 (K:VK)(x38 x39:Int)(a13:Addr)(x40:Int)(H:Hp):=
 aq (x40 !=0) (K (I x40) H) (aM H (a13.add 1) fun x41=>Hz 182 #[I x38,I x41] H fun v77 H31=>pa v77 fun x42 x43=>(aq (x43 !=0) (K (I 6) H31) (aq (decide (x39<x42)) (K (I 6) H31) (K (I 0) H31))))
def aR.q1 (a4:Addr)(H:Hp)(x1 x3:Int)(K:VK)(x2:Int):=
 (eG 124 #[.pointer (some (a4.add 0))] H fun x4=>(Qz 181 #[I x1,I x3,I x4] H fun v5=>nZ v5 fun y1 x5=>(Nw H (Oa #[I 0,I 0,I 0,I 0,I 0,I 0,I 0,I 0,I 0,I 0,I 0,I 0,I 0,I 0,I 0,I 0,I 0] 153) fun b1 H1=>cK H1 (O b1) y1 17 fun H2=>aR.j4 K x1 x2 (O b1) x5 H2))/\(Nw H (Oa #[I 0,I 0,I 0,I 0,I 0,I 0,I 0,I 0,I 0,I 0,I 0,I 0,I 0,I 0,I 0,I 0,I 0] 153) fun b2 H3=>Qz 181 #[I x1,I x3,I x4] H3 fun v8=>nZ v8 fun y2 x6=>(cK H3 (O b2) y2 17 fun H4=>aR.j4 K x1 x2 (O b2) x6 H4)))/\(Nw H (Oa #[I 0,I 0,I 0,I 0,I 0,I 0,I 0,I 0,I 0,I 0,I 0,I 0,I 0,I 0,I 0,I 0,I 0] 153) fun b3 H5=>eG 124 #[.pointer (some (a4.add 0))] H5 fun x7=>Qz 181 #[I x1,I x3,I x7] H5 fun v12=>nZ v12 fun y3 x8=>(cK H5 (O b3) y3 17 fun H6=>aR.j4 K x1 x2 (O b3) x8 H6))
def aR.q2 (a5:Addr)(H7:Hp)(x1 x3:Int)(b4:Nat)(K:VK)(x2:Int):=
 eG 124 #[.pointer (some (a5.add 0))] H7 fun x9=>Qz 181 #[I x1,I x3,I x9] H7 fun v17=>nZ v17 fun y4 x10=>(cK H7 (O b4) y4 17 fun H8=>aR.j4 K x1 x2 (O b4) x10 H8)
def aR.q3 (a3:Addr)(H:Hp)(a6:Addr)(x1:Int)(K:VK)(x2:Int):=
 (eG 123 #[.pointer (some (a3.add 0))] H fun x11=>aR.q1 a6 H x1 x11 K x2)/\(Nw H (Oa #[I 0,I 0,I 0,I 0,I 0,I 0,I 0,I 0,I 0,I 0,I 0,I 0,I 0,I 0,I 0,I 0,I 0] 153) fun b8 H15=>eG 123 #[.pointer (some (a3.add 0))] H15 fun x17=>aR.q2 a6 H15 x1 x17 b8 K x2)
def aR (p1:OA)(x1 x2:Int)(H:Hp)(K:VK):Prop:=
 aq (decide (x2<1)) (K (I 1) H) (aq (decide (x2>16777216)) (K (I 1) H) (NN p1 fun a1=>NN p1 fun a2=>(bj H (a1.add 0) fun p2=>NN p2 fun a3=>(eG 123 #[.pointer (some (a3.add 0))] H fun x3=>(bj H (a2.add 0) fun p3=>NN p3 fun a4=>aR.q1 a4 H x1 x3 K x2)/\(Nw H (Oa #[I 0,I 0,I 0,I 0,I 0,I 0,I 0,I 0,I 0,I 0,I 0,I 0,I 0,I 0,I 0,I 0,I 0] 153) fun b4 H7=>bj H7 (a2.add 0) fun p4=>NN p4 fun a5=>aR.q2 a5 H7 x1 x3 b4 K x2))/\(bj H (a2.add 0) fun p5=>NN p5 fun a6=>aR.q3 a3 H a6 x1 K x2)/\(Nw H (Oa #[I 0,I 0,I 0,I 0,I 0,I 0,I 0,I 0,I 0,I 0,I 0,I 0,I 0,I 0,I 0,I 0,I 0] 153) fun b9 H17=>eG 123 #[.pointer (some (a3.add 0))] H17 fun x20=>bj H17 (a2.add 0) fun p6=>NN p6 fun a7=>aR.q2 a7 H17 x1 x20 b9 K x2))/\(bj H (a2.add 0) fun p7=>NN p7 fun a8=>(bj H (a1.add 0) fun p8=>NN p8 fun a9=>aR.q3 a9 H a8 x1 K x2)/\(Nw H (Oa #[I 0,I 0,I 0,I 0,I 0,I 0,I 0,I 0,I 0,I 0,I 0,I 0,I 0,I 0,I 0,I 0,I 0] 153) fun b14 H27=>bj H27 (a1.add 0) fun p9=>NN p9 fun a10=>eG 123 #[.pointer (some (a10.add 0))] H27 fun x32=>aR.q2 a8 H27 x1 x32 b14 K x2))/\(Nw H (Oa #[I 0,I 0,I 0,I 0,I 0,I 0,I 0,I 0,I 0,I 0,I 0,I 0,I 0,I 0,I 0,I 0,I 0] 153) fun b15 H29=>bj H29 (a1.add 0) fun p10=>NN p10 fun a11=>eG 123 #[.pointer (some (a11.add 0))] H29 fun x35=>bj H29 (a2.add 0) fun p11=>NN p11 fun a12=>aR.q2 a12 H29 x1 x35 b15 K x2)))
def aR.Λ (K:VK):aI:=⟨fun i=>match Nat.beq i 4 with|true=>some (fun E D H=>eI E 1 .i64 fun x38=>eI E 2 .i64 fun x39=>eN E 7 fun a13=>eI E 8 .i64 fun x40=>ax D (aR.j4 K x38 x39 a13 x40 H))|false=>none,fun i=>none,(fun i=>match Nat.beq i 3 with|true=>some ([4,7,11,14,15],[0,0,2,6,14,30,62,126,0,256,768,1792,3840,7936,16382,32767,65535,131071,131071,0,786431,2097151],0)|false=>none)⟩
theorem aR.ok p1 x1 x2 H K (h:aR p1 x1 x2 H K):aa prog 122 #[.pointer p1,I x1,I x2] H K:=
 dV (Λ:=(aR.Λ K)) bV Tryz.func122 rfl rfl h (oC (fun E D H h=>by
   obtain⟨x38,e1,g2⟩:=GI h;obtain⟨x39,e2,g4⟩:=GI g2;obtain⟨a13,e7,g7⟩:=GN g4;obtain⟨x40,e8,g9⟩:=GI g7;obtain⟨rfl,h'⟩:=ax.out g9;exact cU (Λ:=(aR.Λ K)) bV [] (ag.cons e1 (ag.cons e2 (ag.cons e7 (ag.cons e8 (ag.nil _))))) h' oN) oN)
def gf (p1:OA)(H:Hp)(K:VK):Prop:=
 NN p1 fun a1=>bj H a1 fun p2=>NN p2 fun a2=>bj H (a2.add 0) fun p3=>NN p3 fun a3=>eG 124 #[.pointer (some (a3.add 0))] H fun x1=>(NN p1 fun a4=>bj H a4 fun p4=>NN p4 fun a5=>(bj H (a5.add 0) fun p5=>jA prog 5 x1 x1 H fun v6 H1=>aE v6 fun A1 n1 m1=>cC 47 #[.pointer p5,I 0,.slice A1 n1 m1] H1 fun x2 H2=>K (I x2) H2)/\(jA prog 5 x1 x1 H fun v8 H3=>aE v8 fun A2 n2 m2=>bj H3 (a5.add 0) fun p6=>cC 47 #[.pointer p6,I 0,.slice A2 n2 m2] H3 fun x3 H4=>K (I x3) H4))/\(jA prog 5 x1 x1 H fun v11 H5=>aE v11 fun A3 n3 m3=>NN p1 fun a6=>bj H5 a6 fun p7=>NN p7 fun a7=>bj H5 (a7.add 0) fun p8=>cC 47 #[.pointer p8,I 0,.slice A3 n3 m3] H5 fun x4 H6=>K (I x4) H6)
theorem gf.ok p1 H K (h:gf p1 H K):aa prog 125 #[.pointer p1] H K:=
 nL (fun i=>match Nat.beq i 1 with|true=>some ([0,3,4,7,10],[0,1,3,7,0,16,48,112,240,496,1008,2032,4095,8191],0)|false=>none) bV Tryz.func125 rfl rfl h
def aZ.l2 (K:VK):Nat->OA->OA->Nat->Nat->Int->Int->Hp->Prop
 |0,_,_,_,_,_,_,_=>False
 |k+1,p2,A2,n2,m2,x1,x2,H=>
  let R2:=aZ.l2 K k
  aq (decide (x2<x1)) (cz x2 n2 (NN A2 fun a1=>Ld H (a1.add (x2.toNat*1)) fun v1=>iw v1 fun q1 q2 q3=>jD prog q1 ((q2++ #[])++q3) H fun v2 H1=>DR prog (eM prog q1) v2 fun v3=>DI .i64 v3 fun x3=>aq (x3 !=0) (cC 80 #[.pointer p2,I x3] H1 fun x4 H2=>K (I x4) H2) (R2 p2 A2 n2 m2 x1 (i64.wrap (x2+1)) H1))) (K (I 0) H)
def aZ (p1 A1:OA)(n1 m1:Nat)(H:Hp)(K:VK):Prop:=
 (∃ k,aZ.l2 K k p1 A1 n1 m1 (n1:Int) 0 H)
def aZ.l2.L (K:VK)(k:Nat):de:=fun E D H=>
 eP E 0 fun p2=>DG (E.get? 8) fun w8=>aE w8 fun A2 n2 m2=>eI E 9 .i64 fun x1=>eI E 10 .i64 fun x2=>ax D (aZ.l2 K k p2 A2 n2 m2 x1 x2 H)
def aZ.Λ2 (_:VK)(_R2:OA->OA->Nat->Nat->Int->Int->Hp->Prop):aI:=aI.none (fun _=>none)
def aZ.Λ (K:VK):aI:=⟨fun i=>none,fun i=>match Nat.beq i 2 with|true=>some (fun E D H=>∃ k,aZ.l2.L K k E D H)|false=>none,(fun _=>none)⟩
theorem aZ.ok p1 A1 n1 m1 H K (h:aZ p1 A1 n1 m1 H K):aa prog 126 #[.pointer p1,.slice A1 n1 m1] H K:=
 dV (Λ:=(aZ.Λ K)) bV Tryz.func126 rfl rfl h (oC (fun E D H h=>by
   refine Safe.cJ (aZ.l2.L K) (fun E D H h=>?_) (fun k E D H h=>?_) E D H h
   .obtain⟨w0,e0,g1⟩:=DG.out h;obtain⟨p2,rfl,g2⟩:=DP.out g1;obtain⟨w8,e8,g3⟩:=DG.out g2;obtain⟨A2,n2,m2,rfl,g4⟩:=aE.out g3;obtain⟨w9,e9,g5⟩:=DG.out g4;obtain⟨x1,rfl,g6⟩:=DI.out g5;obtain⟨w10,e10,g7⟩:=DG.out g6;obtain⟨x2,rfl,g8⟩:=DI.out g7;obtain⟨rfl,h'⟩:=ax.out g8;exact h'
   .obtain⟨p2,e0,g2⟩:=GP h;obtain⟨w8,e8,g3⟩:=DG.out g2;obtain⟨A2,n2,m2,rfl,g4⟩:=aE.out g3;obtain⟨x1,e9,g6⟩:=GI g4;obtain⟨x2,e10,g8⟩:=GI g6;obtain⟨rfl,h'⟩:=ax.out g8;exact cU (Λ:=(aZ.Λ2 K (aZ.l2 K k))) bV [] (ag.cons e0 (ag.cons e8 (ag.cons e9 (ag.cons e10 (ag.nil _))))) h' oN) oN)
def gg (p1 p2:OA)(H:Hp)(K:VK):Prop:=
 NN p1 fun a1=>bj H a1 fun p3=>NN p3 fun a2=>bj H (a2.add 0) fun p4=>NN p2 fun a3=>aY H a3 4 fun l1=>cC 130 #[.pointer p4,.agg l1.toArray] H fun x1 H1=>K (I x1) H1
theorem gg.ok p1 p2 H K (h:gg p1 p2 H K):aa prog 129 #[.pointer p1,.pointer p2] H K:=
 nL (fun i=>match Nat.beq i 1 with|true=>some ([],[0,1,2,3,4],5)|false=>none) bV Tryz.func129 rfl rfl h
def gF (p1 p2:OA)(H:Hp)(K:VK):Prop:=
 NN p1 fun a1=>bj H a1 fun p3=>NN p2 fun a2=>aY H a2 8 fun l1=>cC 110 #[.pointer p3,.agg l1.toArray] H fun x1 H1=>K (I x1) H1
theorem gF.ok p1 p2 H K (h:gF p1 p2 H K):aa prog 132 #[.pointer p1,.pointer p2] H K:=
 bX bV Tryz.func132 rfl rfl h
def gG (p1 p2 p3 p4 p5:OA)(H:Hp)(K:VK):Prop:=
 NN p1 fun a1=>bj H a1 fun p6=>NN p2 fun a2=>bj H a2 fun p7=>NN p7 fun a3=>bj H (a3.add 0) fun p8=>NN p3 fun a4=>aM H a4 fun x1=>NN p4 fun a5=>mO H a5 fun A1 n1 m1=>Hz 134 #[.pointer p6,.pointer p8,I x1,.slice A1 n1 m1] H fun v6 H1=>rX v6 fun x2 x3=>(NN p5 fun a6=>St H1 (a6.add 0) (Oi x2) fun H2=>K (I x3) H2)
theorem gG.ok p1 p2 p3 p4 p5 H K (h:gG p1 p2 p3 p4 p5 H K):aa prog 133 #[.pointer p1,.pointer p2,.pointer p3,.pointer p4,.pointer p5] H K:=
 nL (fun i=>match Nat.beq i 1 with|true=>some ([0,1,4,5,6],[0,0,2,6,14,0,0,127,255,511,511,1023,4095],0)|false=>none) bV Tryz.func133 rfl rfl h
def aV.j6 (K:VK)(x8:Int)(p11:OA)(H:Hp):=
 aq (x8 !=0) (K (.tuple #[Oi 0,I x8]) H) (Hz 166 #[.pointer p11] H fun v11 H5=>rX v11 fun x9 x10=>(K (.tuple #[Oi x9,I x10]) H5))
def aV.j4 (K:VK)(p9:OA)(x6:Int)(p10:OA)(H:Hp):=
 aq (x6==0) (cC 127 #[.pointer p9] H fun x7 H4=>aV.j6 K x7 p10 H4) (aV.j6 K x6 p10 H)
def aV.j2 (K:VK)(p7 A2:OA)(n2 m2:Nat)(x4:Int)(p8:OA)(H:Hp):=
 aq (x4==0) (cC 185 #[.pointer p8,I 0,.slice A2 n2 m2] H fun x5 H3=>aV.j4 K p7 x5 p8 H3) (aV.j4 K p7 x4 p8 H)
def aV (p1 p2:OA)(x1:Int)(A1:OA)(n1 m1:Nat)(H:Hp)(K:VK):Prop:=
 NN p1 fun a1=>NN p1 fun a2=>(bj H (a1.add 21) fun p3=>aY H (a2.add 4) 17 fun l1=>Hz 165 #[.pointer p2,.pointer p3,.agg l1.toArray,I 0,I x1] H fun v2 H1=>jO v2 fun p4 x2=>(aV.j2 K p2 A1 n1 m1 x2 p4 H1))/\(aY H (a2.add 4) 17 fun l5=>bj H (a1.add 21) fun p5=>Hz 165 #[.pointer p2,.pointer p5,.agg l5.toArray,I 0,I x1] H fun v6 H2=>jO v6 fun p6 x3=>(aV.j2 K p2 A1 n1 m1 x3 p6 H2))
def aV.Λ (K:VK):aI:=⟨fun i=>match Nat.beq i 6 with|true=>some (fun E D H=>eI E 9 .i64 fun x8=>eP E 10 fun p11=>ax D (aV.j6 K x8 p11 H))|false=>match Nat.beq i 4 with|true=>some (fun E D H=>eP E 1 fun p9=>eI E 9 .i64 fun x6=>eP E 10 fun p10=>ax D (aV.j4 K p9 x6 p10 H))|false=>match Nat.beq i 2 with|true=>some (fun E D H=>eP E 1 fun p7=>DG (E.get? 3) fun w3=>aE w3 fun A2 n2 m2=>eI E 9 .i64 fun x4=>eP E 10 fun p8=>ax D (aV.j2 K p7 A2 n2 m2 x4 p8 H))|false=>none,fun i=>none,(fun i=>match Nat.beq i 1 with|true=>some ([],[0,0,2,6,14,0,32,96,224,0,1023,2047,4095,4095,8191,32767],0)|false=>none)⟩
theorem aV.ok p1 p2 x1 A1 n1 m1 H K (h:aV p1 p2 x1 A1 n1 m1 H K):aa prog 134 #[.pointer p1,.pointer p2,I x1,.slice A1 n1 m1] H K:=
 dV (Λ:=(aV.Λ K)) bV Tryz.func134 rfl rfl h (oC (fun E D H h=>by
   obtain⟨p7,e1,g2⟩:=GP h;obtain⟨w3,e3,g3⟩:=DG.out g2;obtain⟨A2,n2,m2,rfl,g4⟩:=aE.out g3;obtain⟨x4,e9,g6⟩:=GI g4;obtain⟨p8,e10,g8⟩:=GP g6;obtain⟨rfl,h'⟩:=ax.out g8;exact cU (Λ:=(aV.Λ K)) bV [] (ag.cons e1 (ag.cons e3 (ag.cons e9 (ag.cons e10 (ag.nil _))))) h' (oC (fun E D H h=>by
     obtain⟨p9,e1,g2⟩:=GP h;obtain⟨x6,e9,g4⟩:=GI g2;obtain⟨p10,e10,g6⟩:=GP g4;obtain⟨rfl,h'⟩:=ax.out g6;exact cU (Λ:=(aV.Λ K)) bV [] (ag.cons e1 (ag.cons e9 (ag.cons e10 (ag.nil _)))) h' (oC (fun E D H h=>by
       obtain⟨x8,e9,g2⟩:=GI h;obtain⟨p11,e10,g4⟩:=GP g2;obtain⟨rfl,h'⟩:=ax.out g4;exact cU (Λ:=(aV.Λ K)) bV [] (ag.cons e9 (ag.cons e10 (ag.nil _))) h' oN) oN)) oN)) oN)
def dP.q1 (p2:OA)(H1:Hp)(x1:Int)(p3:OA)(K:VK):Prop:=
 NN p2 fun a3=>St H1 ((a3.add 6).add 0) (Oi x1) fun H2=>NN p3 fun a6=>bj H2 a6 fun p4=>NN p2 fun a8=>aY H2 a8 8 fun l1=>cC 110 #[.pointer p4,.agg l1.toArray] H2 fun x3 H5=>K (I x3) H5
def dP (p1 p2 p3:OA)(H:Hp)(K:VK):Prop:=
 NN p2 fun a1=>(NN p1 fun a2=>iS H a2 fun x1=>St H ((a1.add 1).add 0) (I 2) fun H1=>dP.q1 p2 H1 x1 p3 K)/\(St H ((a1.add 1).add 0) (I 2) fun H3=>NN p1 fun a4=>iS H3 a4 fun x2=>dP.q1 p2 H3 x2 p3 K)
theorem dP.ok p1 p2 p3 H K (h:dP p1 p2 p3 H K):aa prog 135 #[.pointer p1,.pointer p2,.pointer p3] H K:=
 nL (fun i=>match Nat.beq i 1 with|true=>some ([],[0,0,2,7,15],0)|false=>none) bV Tryz.func135 rfl rfl h
def il (p1:OA)(x1 x2:Int)(H:Hp)(K:VK):Prop:=
 NN p1 fun a1=>bj H (a1.add 0) fun p2=>NN p1 fun a2=>bj H (a2.add 1) fun p3=>NN p3 fun a3=>bj H (a3.add 21) fun p4=>NN p1 fun a4=>bj H (a4.add 1) fun p5=>NN p5 fun a5=>aY H (a5.add 4) 17 fun l1=>NN p1 fun a6=>bj H (a6.add 1) fun p6=>NN p6 fun a7=>aM H ((a7.add 23).add 2) fun x3=>Hz 165 #[.pointer p2,.pointer p4,.agg l1.toArray,I x1,I x3] H fun v7 H1=>jO v7 fun p7 x4=>(aq (x4 !=0) (cC 80 #[.pointer p1,I x4] H1 fun x5 H2=>K (.tuple #[.slice none 0 0,I x5]) H2) (Hz 166 #[.pointer p7] H1 fun v11 H3=>rX v11 fun x6 x7=>(aq (x7 !=0) (cC 80 #[.pointer p1,I x7] H3 fun x8 H4=>K (.tuple #[.slice none 0 0,I x8]) H4) (aq (x6 !=x2) (K (.tuple #[.slice none 0 0,I 9]) H3) (cC 186 #[.pointer p7] H3 fun x9 H5=>jA prog 108 x9 x9 H5 fun v16 H6=>aE v16 fun A1 n1 m1=>cC 187 #[.pointer p7,I 0,.slice A1 n1 m1] H6 fun x10 H7=>cC 80 #[.pointer p1,I x10] H7 fun x11 H8=>aq (x11 !=0) (K (.tuple #[.slice none 0 0,I x11]) H8) (K (.tuple #[.slice A1 n1 m1,I 0]) H8))))))
theorem il.ok p1 x1 x2 H K (h:il p1 x1 x2 H K):aa prog 136 #[.pointer p1,I x1,Oi x2] H K:=
 nL (fun i=>match Nat.beq i 1 with|true=>some ([3,7,10,14,17,22,26],[0,1,3,7,0,16,48,112,240,496,1008,0,2048,6144,14336,30720,63488,129024,0,0,524288,1572864,3670016,7864320,16252928,33030144,66584576,134217727,268435455,536870911,536870911,1073741823,4294967295],0)|false=>none) bV Tryz.func136 rfl rfl h
end W
namespace Eng
open Go Go.Hw Go.Form W Shp Dsk Str Are Trn Pas Pln Rec Srt Rng
structure Eg where
 aG:Nat
 sec:Nat
 size:Nat
 aX:Nat
 r:R
 aj:Int
def Eg.ae (e:Eg):Nat:=e.size/8
def cE (e:Eg):List Pz:=if 3<=e.r.kd then eC (mH e.r) e.r.kk.toNat e.ae e.aX else []
def ta (e:Eg)(ap rp:Nat)(A:OA)(n m:Nat):Array Value:=
 let q:Int:=Lay.bI e.aG e.ae
 let w:Int:=(2^e.aG:Nat)
 #[I e.aG,I e.sec,I e.size,I e.aX,I e.aG,I e.ae,I 1,I 8,I ((8*e.ae:Nat):Int),I 9,I q,I w,I (9+q),I q,I w,
  I (9+2*q),I q,I w,I (9+3*q),I q,I w,V ap,V rp,
  U (e.r.s:Int),I e.r.kd,I e.r.kk,I e.r.dir,I e.r.ps,Oi (e.r.ld:Int),Oi (e.r.dJ:Int),Oi (e.r.out:Int),.slice A n m]
def bW (e:Eg)(ap rp:Nat)(A:OA)(n m:Nat):AO:=Oa (ta e ap rp A n m) 158
def cH (dp:Nat)(mp:Option Nat):AO:=Oa #[V dp,.pointer (mp.map fun q=>(O q))] 148
structure mW (e:Eg)(d:D):Prop where
 aG:e.aG<=32
 p:gL (e.ae:Int)=true
 size:e.size=d.size
 sec:e.sec=d.sec
 fit:Lay.eQ e.aG e.ae<=d.sec
 least:ec e.aG e.ae<=e.aX
 aX:e.aX<=16777216
 aj:e.aj<=e.aX
 rk:e.r=dW\/e.r.cR
 rw:e.r.wf
 kk:e.r.kk<=e.aG
theorem mW.ae {e:Eg}{d:D}(h:mW e d):e.ae=D.ae d:=by unfold Eg.ae D.ae;rw[h.size]
theorem mW.lay {e:Eg}{d:D}(h:mW e d):qF d e.aG:=⟨h.aG,by rw[<- h.ae];exact h.p,by rw[<- h.ae];exact h.fit⟩
theorem mW.KR {e:Eg}{d:D}(h:mW e d):0<=e.r.kk/\e.r.kk.toNat<=e.aG:=by
 have:=h.kk;rcases h.rk with e1|e1
 .rw[e1]at *;exact⟨by decide,Nat.zero_le _⟩
 .have:=e1.2.2.1;omega
theorem mW.dir {e:Eg}{d:D}(h:mW e d):e.r.dir=if mH e.r=true then 1 else 0:=by
 unfold mH;rcases h.rk with e1|e1
 .rw[e1];rfl
 .rcases e1.2.2.2.2.1 with e2|e2<;>rw[e2]<;>rfl
theorem mW.to {e:Eg}{d d':D}(h:mW e d)(h1:d'.sec=d.sec)(h2:d'.size=d.size):mW e d':=⟨h.aG,h.p,h.size.trans h2.symm,h.sec.trans h1.symm,by rw[h1];exact h.fit,h.least,h.aX,h.aj,h.rk,h.rw,h.kk⟩
theorem si {k m ae:Nat}(h:k<=m):ec k ae<=ec m ae:=by
 have:2^((k+1)/2)<=2^((m+1)/2):=Nat.pow_le_pow_right (by omega) (Nat.div_le_div_right (by omega));unfold ec;omega
def oS (mp dp ap rp:Nat)(e:Eg)(A:OA)(n m:Nat):List As:=[ah mp (bW e ap rp A n m),Ar ap e.aX e.aj [],ah rp (bO dp 1 8 ((8*e.ae:Nat):Int)),cj 221 8 A (cE e).length m (fc (cE e))]
def Me (mp dp:Nat)(e:Eg):As:=fun H=>∃ ap rp A m,Sep (oS mp dp ap rp e A (cE e).length m) H
theorem Me.open {mp dp:Nat}{e:Eg}{L:List As}{H:Hp}(h:Sep (Me mp dp e::L) H):∃ ap rp A m,Sep (oS mp dp ap rp e A (cE e).length m++L) H:=by
 obtain⟨H1,H2,h1,h2,h3,⟨ap,rp,A,m,h4⟩,h5⟩:=h;exact⟨ap,rp,A,m,Sep.join h1 h2 h3 h4 h5⟩
theorem Me.shut {mp dp:Nat}{e:Eg}{ap rp:Nat}{A:OA}{m:Nat}{L:List As}{H:Hp}(h:Sep (oS mp dp ap rp e A (cE e).length m++L) H):Sep (Me mp dp e::L) H:=
 Dsk.Sep.fold h fun H1 h1=>⟨ap,rp,A,m,h1⟩
theorem Fi {mp ap rp:Nat}{e:Eg}{A:OA}{n m:Nat}(hm:e.aG<=32)(hp:gL (e.ae:Int)=true)(hl:ec e.aG e.ae<=e.aX/\e.aX<=16777216)(hk:3<=e.r.kd->0<=e.r.kk/\e.r.kk<=e.aG/\e.r.dir=if mH e.r=true then 1 else 0):
  Tr prog 83 #[V mp] [ah mp (bW e ap rp A n m)] fun v M=>∃ A' m',v= .tuple #[]/\M=[ah mp (bW e ap rp A' (cE e).length m'),cj 221 8 A' (cE e).length m' (fc (cE e))]:=fun H hs=>by
 apply jc.ok;unfold jc
 try simp only[HS]
 refine hs.st 0 rfl (by show 31<32;omega) rfl fun H hs=>?_;have hs:Sep [ah mp (bW e ap rp .none 0 0)] H:=hs;refine hs.ld 0 (v:=I e.r.kd) rfl rfl ?_;simp only[HV];by_cases h3:e.r.kd>=3
 .refine aA h3 ?_;obtain⟨k1,k2,k3⟩:=hk h3;refine hs.ld 0 (v:=I e.r.kk) rfl rfl ?_;simp only[HV];refine hs.ld 0 (v:=I e.r.dir) rfl rfl ?_;simp only[HV];refine hs.ld 0 (v:=I (e.ae:Int)) rfl rfl ?_;simp only[HV];refine hs.ld 0 (v:=I (e.aX:Int)) rfl rfl ?_;simp only[HV];have ek:e.r.kk=(e.r.kk.toNat:Int):=by omega
  have hml:=si (ae:=e.ae) (show e.r.kk.toNat<=e.aG by omega);rw[k3,ek];refine(EB (k:=e.r.kk.toNat) (ae:=e.ae) (words:=e.aX) (by omega) hp ⟨by omega,hl.2⟩ (mH e.r)).use hs [] rfl rfl ?_;rintro _ _ H ⟨b,rfl,rfl⟩ hs;simp only[HV];have eps:cE e=eC (mH e.r) e.r.kk.toNat e.ae e.aX:=by unfold cE;rw[if_pos h3]
  rw[<- eps]at hs⊢;refine hs.st 1 rfl (by show 31<32;omega) rfl fun H hs=>?_;have hs:Sep [ah b (.row (fc (cE e)) 221 ((cE e).length*8)),ah mp (bW e ap rp (Oo b) (cE e).length (cE e).length)] H:=hs;have hs:=DC hs 0 (n:=(cE e).length) (s:=8) rfl (yG _) rfl;exact⟨_,⟨_,_,by first|rfl|trivial,rfl⟩,hs.re [1,0] rfl⟩
 .refine au h3 ?_;have eps:cE e=[]:=by unfold cE;rw[if_neg h3]
  rw[eps];have hs:Sep (cj 221 8 .none 0 0 []::[ah mp (bW e ap rp .none 0 0)]) H:=⟨fun _=>none,H,fun _ _ h=>(nomatch h),Hp.le_refl _,fun _=>.inl rfl,cj.none _ _ _,hs⟩;exact⟨_,⟨.none,0,by first|rfl|trivial,rfl⟩,hs.re [1,0] rfl⟩
def En (p dp:Nat):Option Eg->As
 |none=>ah p (cH dp none)
 |some e=>fun H=>∃ mp,Sep [ah p (cH dp (some mp)),Me mp dp e] H
theorem En.open {p dp:Nat}{e:Eg}{L:List As}{H:Hp}(h:Sep (En p dp (some e)::L) H):∃ mp,Sep (ah p (cH dp (some mp))::Me mp dp e::L) H:=by
 obtain⟨H1,H2,h1,h2,h3,⟨mp,h4⟩,h5⟩:=h;exact⟨mp,Sep.join h1 h2 h3 h4 h5⟩
theorem En.shut {p dp mp:Nat}{e:Eg}{L:List As}{H:Hp}(h:Sep (ah p (cH dp (some mp))::Me mp dp e::L) H):Sep (En p dp (some e)::L) H:=
 Dsk.Sep.fold (M:=[ah p (cH dp (some mp)),Me mp dp e]) h fun H1 h1=>⟨mp,h1⟩
theorem En.whole {p dp:Nat}{e:Eg}{L:List As}{H:Hp}(h:Sep (En p dp (some e)::L) H):∃ mp ap rp A m,Sep (ah p (cH dp (some mp))::(oS mp dp ap rp e A (cE e).length m++L)) H:=by
 obtain⟨mp,h⟩:=En.open h;have h2:Sep (Me mp dp e::ah p (cH dp (some mp))::L) H:=h.swap;obtain⟨ap,rp,A,m,h3⟩:=Me.open h2;exact⟨mp,ap,rp,A,m,Sep.perm (List.perm_middle (l₁:=oS mp dp ap rp e A (cE e).length m)) h3⟩
theorem En.pU {p dp mp ap rp m:Nat}{A:OA}{e:Eg}{L:List As}{H:Hp}(h:Sep (ah p (cH dp (some mp))::(oS mp dp ap rp e A (cE e).length m++L)) H):Sep (En p dp (some e)::L) H:=by
 have h2:Sep (oS mp dp ap rp e A (cE e).length m++(ah p (cH dp (some mp))::L)) H:=Sep.perm (List.perm_middle (l₁:=oS mp dp ap rp e A (cE e).length m)).symm h;exact En.shut (Me.shut h2).swap
def gu (e:Eg):Int:=if e.r.kd=2 then 2 else if e.r.kd<3 then 1 else if e.r.ps<((cE e).length:Int)then 3 else 4
def yN :Option Eg->Int
 |none=>0
 |some e=>gu e
theorem kq {p dp mp:Nat}(x:Int):Tr prog 80 #[V p,I x] [ah p (cH dp (some mp))] fun v M=>v= I x/\M=[ah p (cH dp (if x=8 then none else some mp))]:=fun H hs=>by
 apply dZ.ok;unfold dZ;by_cases h:x=8
 .refine bH h ?_
  try simp only[HS]
  refine hs.st 0 rfl (by show 1<2;omega) rfl fun H hs=>?_;exact⟨_,⟨by first|rfl|trivial,rfl⟩,by rw[if_pos h];exact hs⟩
 .exact bT h ⟨_,⟨by first|rfl|trivial,rfl⟩,by rw[if_neg h];exact hs⟩
theorem qv {p dp:Nat}(g:Option Eg):Tr prog 74 #[V p] [En p dp g] fun v M=>v= I (yN g)/\M=[En p dp g]:=fun H hs=>by
 apply gQ.ok;unfold gQ;cases g with
 |none=>
  have hs:Sep [ah p (cH dp none)] H:=hs
  try simp only[HS]
  refine hs.ld 0 (v:=.pointer none) rfl rfl ?_;simp only[HV];exact cO rfl ⟨_,⟨by first|rfl|trivial,rfl⟩,hs⟩
 |some e=>
  obtain⟨mp,ap,rp,A,m,hs⟩:=En.whole hs;have fin:∀ x:Int,x=gu e->∃ M,(Value.int .i64 x= I (yN (some e))/\M=[En p dp (some e)])/\Sep M H:=fun x hx=>⟨_,⟨by rw[hx];rfl,rfl⟩,En.pU hs⟩
  try simp only[HS]
  refine hs.ld 0 (v:=V mp) rfl rfl ?_;simp only[HV];refine bY rfl ?_
  try simp only[HS]
  refine hs.ld 0 (v:=V mp) rfl rfl ?_;simp only[HV]
  try simp only[HS]
  refine hs.ld 1 (v:=I e.r.kd) rfl rfl ?_;simp only[HV];by_cases h2:e.r.kd=2
  .exact bH h2 (fin 2 (by unfold gu;rw[if_pos h2]))
  refine bT h2 ?_;refine hs.ld 0 (v:=V mp) rfl rfl ?_;simp only[HV]
  try simp only[HS]
  refine hs.ld 1 (v:=I e.r.kd) rfl rfl ?_;simp only[HV];by_cases h3:e.r.kd<3
  .exact aA h3 (fin 1 (by unfold gu;rw[if_neg h2,if_pos h3]))
  refine au h3 ?_;refine hs.ld 0 (v:=V mp) rfl rfl ?_;simp only[HV]
  try simp only[HS]
  refine hs.ld 1 (v:=I e.r.ps) rfl rfl ?_;simp only[HV];refine hs.ld 0 (v:=V mp) rfl rfl ?_;simp only[HV]
  try simp only[HS]
  refine hs.ld 1 (v:=.slice A (cE e).length m) rfl rfl ?_;simp only[HV];by_cases h4:e.r.ps<((cE e).length:Int)
  .exact aA h4 (fin 3 (by unfold gu;rw[if_neg h2,if_neg h3,if_pos h4]))
  .exact au h4 (fin 4 (by unfold gu;rw[if_neg h2,if_neg h3,if_neg h4]))
def L2 (mp dp:Nat)(e:Eg)(d:D)(c:Cn)(r:R)(v:Value)(M:List As):Prop:=
 (∃ d',v= I 0/\fh d d' 8 1 1/\Clean d' (eT c (dq 1 8 r.s) (r.form d.size))/\M=[Me mp dp { e with r:=r},Dk dp d'])\/
 (∃ d',v= I 8/\fY d d' 10/\Left d' (fun c'=>c'=c\/c'=eT c (dq 1 8 r.s) (r.form d.size))/\M=[Me mp dp e,Dk dp d'])
theorem qI {mp dp:Nat}{e:Eg}{d:D}{c:Cn}(hc:Clean d c)(he:mW e d)(ho:d.rd<=900000/\d.wr<=900000/\d.sy<=900000){r:R}(r0:R)(hr0:{ r0 with s:=r.s}=r)(hrs:r.s=e.r.s+1)(hg:r.cR)(hu:r.u32)(hm:gK (jh c 1 8) r=true)(hk:r.kk<=e.aG):
  Tr prog 110 #[V mp,.agg r0.c] [Me mp dp e,Dk dp d] (L2 mp dp e d c r):=fun H hs=>by
 have hok:=hc.ok;have hp:=Ok.dQ hok;have hfit:=he.fit;have hsz:=hok.size;obtain⟨ap,rp,A,m,hs⟩:=Me.open hs;apply gS.ok;unfold gS;refine hs.nw fun b H hs=>?_
 have hs:Sep [ah mp (bW e ap rp A (cE e).length m),Ar ap e.aX e.aj [],ah rp (bO dp 1 8 ((8*e.ae:Nat):Int)),cj 221 8 A (cE e).length m (fc (cE e)),Dk dp d,ah b (eX r0)] H:=hs
 try simp only[HS]
 refine hs.ld 0 (v:=U (e.r.s:Int)) rfl rfl ?_;simp only[HV];have hrlt:=hg.2.1;rw[iQ (x:=(e.r.s:Int)+1),show(e.r.s:Int)+1=((r.s:Nat):Int) by omega];refine hs.st 5 rfl (by show 0<8;omega) rfl fun H hs=>?_;have hs:Sep [ah mp (bW e ap rp A (cE e).length m),Ar ap e.aX e.aj [],ah rp (bO dp 1 8 ((8*e.ae:Nat):Int)),cj 221 8 A (cE e).length m (fc (cE e)),Dk dp d,ah b (eX r)] H:=by rw[<- hr0];exact hs
 refine hs.ld 0 (v:=V rp) rfl rfl ?_;simp only[HV];refine hs.bJ 5 rfl rfl ?_
 try simp only[Array.toArray_toList]
 have hneed:9<=d.sec:=by unfold Lay.eQ at hfit;omega
 have hcs:=EH hc (f:=1) (n:=8) (by omega) (by omega) r;have hlen:(dt 1 8 d).1=0->(dt 1 8 d).2.2.length<=12:=fun _=>by
  have:=tx 1 8 8 0 d [];have h9:(dt 1 8 d).2.2.length<=0+8:=this;omega
 have hsecB:jZ (d.size:Int)=true:=(vp _).2 (by
  have h1:=Cs he.p;have h2:=mR he.p;have h3:e.ae*8=d.size:=by have:=he.ae;omega
  rw[h3]at h1;omega)
 refine(Eh (b:=rp) (p:=dp) (f:=1) (n:=8) (w:=((8*e.ae:Nat):Int)) (d:=d) (by omega) (by omega) hok ⟨by omega,by omega⟩ (by omega) hlen hsecB r hu).use hs [4,2] rfl rfl ?_;rintro _ _ H ⟨rfl,rfl⟩ hs;have hs:Sep [Dk dp (lQ 1 8 d r).2,ah rp (bO dp 1 8 ((8*e.ae:Nat):Int)),ah mp (bW e ap rp A (cE e).length m),Ar ap e.aX e.aj [],cj 221 8 A (cE e).length m (fc (cE e)),ah b (eX r)] H:=hs;have back:∀ d',Sep [Dk dp d',ah rp (bO dp 1 8 ((8*e.ae:Nat):Int)),ah mp (bW e ap rp A (cE e).length m),Ar ap e.aX e.aj [],cj 221 8 A (cE e).length m (fc (cE e)),ah b (eX r)] H->Sep [Me mp dp e,Dk dp d'] H:=fun d' hs=>Me.shut (L:=[Dk dp d']) (hs.re [2,3,1,4,0] rfl)
 rcases hcs with⟨h,_⟩|⟨_,d',e1,hcut,hleft⟩|⟨_,h,_⟩|⟨_,_,d',e1,hcut,hleft⟩|⟨_,_,d',e1,hw,hcl⟩
 .exact absurd hg h
 .rw[e1]at hs⊢;simp only[HV];refine bT (by decide) ⟨_,.inr ⟨d',rfl,hcut.more (by omega),hleft.mono fun c' h=>.inl h,rfl⟩,back d' hs⟩
 .rw[hm]at h;cases h
 .rw[e1]at hs⊢;simp only[HV];refine bT (by decide) ⟨_,.inr ⟨d',rfl,hcut.more (by omega),hleft,rfl⟩,back d' hs⟩
 .rw[e1]at hs⊢;simp only[HV];refine bH rfl ?_;refine hs.bJ 5 rfl rfl ?_
  try simp only[Array.toArray_toList]
  try simp only[HS]
  refine hs.LY 2 (off:=23) (n:=8) (y:=r.c) rfl (by show 23+8<=32;omega) rfl (lF _) fun H hs=>?_;have hs:Sep [Dk dp d',ah rp (bO dp 1 8 ((8*e.ae:Nat):Int)),ah mp (bW { e with r:=r} ap rp A (cE e).length m),Ar ap e.aX e.aj [],cj 221 8 A (cE e).length m (fc (cE e)),ah b (eX r)] H:=hs;refine(Fi (mp:=mp) (ap:=ap) (rp:=rp) (e:={ e with r:=r}) (A:=A) (n:=(cE e).length) (m:=m) he.aG he.p ⟨he.least,he.aX⟩ (fun _=>⟨hg.2.2.1,hk,?_⟩)).use hs [2] rfl rfl ?_
  .show r.dir=if mH r=true then 1 else 0
   unfold mH;rcases hg.2.2.2.2.1 with e2|e2<;>rw[e2]<;>rfl
  rintro _ _ H ⟨A',m',rfl,rfl⟩ hs
  try simp only[HV]
  exact⟨_,.inl ⟨d',rfl,hw,hcl,rfl⟩,Me.shut (e:={ e with r:=r}) (L:=[Dk dp d']) (hs.re [0,4,3,1,2] rfl)⟩
def wK :Option Eg->List Int
 |none=>[0,0,0,0,0,0]
 |some e=>if gu e=1 then [1,e.r.ld,0,0,0,0]else if gu e=2 then [2,e.r.ld,e.r.kk,0,0,0]else [gu e,e.r.ld,e.r.kk,e.r.dir,e.r.ps,(cE e).length]
theorem yM (e:Eg):gu e=1\/gu e=2\/gu e=3\/gu e=4:=by
 unfold gu
 repeat' split
 all_goals simp
def oX (l:List Int):AO:=Oa (l.map (Value.int .i64)).toArray 30
theorem xT {p dp:Nat}(g:Option Eg)(hld:∀ e,g=some e->e.r.ld<4294967296):Tr prog 18 #[V p] [En p dp g] fun v M=>v= .agg ((wK g).map (Value.int .i64)).toArray/\M=[En p dp g]:=fun H hs=>by
 apply ay.ok;unfold ay;refine hs.nw fun b1 H hs=>?_
 refine(qv (p:=p) (dp:=dp) g).use hs [0] rfl rfl ?_;rintro _ _ H ⟨rfl,rfl⟩ hs;simp only[HV];refine hs.nw fun b2 H hs=>?_
 refine hs.eY 2 rfl rfl rfl rfl fun H hs=>?_;refine hs.cg 2 (v:=I (yN g)) rfl rfl ?_;simp only[HV];cases g with
 |none=>
  refine au (by decide) ?_;unfold ay.j4;refine hs.cg 2 (v:=I 0) rfl rfl ?_;simp only[HV];refine au (by decide) ?_;unfold ay.j6 ay.j6.q4 ay.j6.q3 ay.j6.q2 ay.j6.q1;refine hs.cg 2 (v:=I 0) rfl rfl ?_;simp only[HV];refine au (by decide) ?_;refine hs.bJ 2 rfl rfl ?_;refine hs.eY 1 rfl rfl rfl rfl fun H hs=>?_;refine hs.bJ 1 rfl rfl ?_;exact⟨_,⟨by first|rfl|trivial,rfl⟩,hs.re [0] rfl⟩
 |some e=>
  have hl:=hld e rfl;have hst:=yM e;have hs:Sep [En p dp (some e),ah b1 (oX [0,0,0,0,0,0]),ah b2 (oX [gu e,0,0,0,0,0])] H:=hs;obtain⟨mp,ap,rp,A,m,hs⟩:=En.whole hs;have hs:Sep [ah p (cH dp (some mp)),ah mp (bW e ap rp A (cE e).length m),Ar ap e.aX e.aj [],ah rp (bO dp 1 8 ((8*e.ae:Nat):Int)),cj 221 8 A (cE e).length m (fc (cE e)),ah b1 (oX [0,0,0,0,0,0]),ah b2 (oX [gu e,0,0,0,0,0])] H:=hs;have fin:∀(l:List Int) (H:Hp),l=wK (some e)->l.length=6->Sep [ah p (cH dp (some mp)),ah mp (bW e ap rp A (cE e).length m),Ar ap e.aX e.aj [],ah rp (bO dp 1 8 ((8*e.ae:Nat):Int)),cj 221 8 A (cE e).length m (fc (cE e)),ah b1 (oX [0,0,0,0,0,0]),ah b2 (oX l)] H->
    aY H (O b2) 6 fun l1=>cK H (O b1) l1.toArray 6 fun H88=>aY H88 (O b1) 6 fun l33=>∃ M,((Value.agg l33.toArray)= .agg ((wK (some e)).map (Value.int .i64)).toArray/\M=[En p dp (some e)])/\Sep M H88:=fun l H hl h6 hs=>by
   refine hs.bJ 6 rfl (by simp[h6]) ?_;refine hs.eY 5 (y:=((l.map (Value.int .i64)).toArray)) rfl rfl (by simp[h6]) (List.all_eq_true.2 fun v hv=>by obtain⟨x,_,rfl⟩:=List.mem_map.1 (show v∈l.map (Value.int .i64)from hv);rfl) fun H hs=>?_;refine hs.bJ 5 rfl (by simp[h6]) ?_;exact⟨_,⟨by rw[<- hl],rfl⟩,En.pU (L:=[]) (hs.re [0,1,2,3,4] rfl)⟩
  refine aA (show yN (some e)>=1 by show gu e>=1;omega) ?_
  try simp only[HS]
  refine hs.ld 0 (v:=V mp) rfl rfl ?_;simp only[HV]
  try simp only[HS]
  refine hs.ld 1 (v:=Oi (e.r.ld:Int)) rfl rfl ?_;simp only[HV];rw[dS (n:=e.r.ld)];refine hs.st 6 rfl (by show 1<6;omega) rfl fun H hs=>?_;unfold ay.j4;have hs:Sep [ah p (cH dp (some mp)),ah mp (bW e ap rp A (cE e).length m),Ar ap e.aX e.aj [],ah rp (bO dp 1 8 ((8*e.ae:Nat):Int)),cj 221 8 A (cE e).length m (fc (cE e)),ah b1 (oX [0,0,0,0,0,0]),ah b2 (oX [gu e,e.r.ld,0,0,0,0])] H:=hs
  try simp only[HS]
  refine hs.ld 6 (v:=I (gu e)) rfl rfl ?_;simp only[HV];by_cases h2:gu e>=2
  .refine aA h2 ?_;refine hs.ld 0 (v:=V mp) rfl rfl ?_;simp only[HV]
   try simp only[HS]
   refine hs.ld 1 (v:=I e.r.kk) rfl rfl ?_;simp only[HV];refine hs.st 6 rfl (by show 2<6;omega) rfl fun H hs=>?_;have hs:Sep [ah p (cH dp (some mp)),ah mp (bW e ap rp A (cE e).length m),Ar ap e.aX e.aj [],ah rp (bO dp 1 8 ((8*e.ae:Nat):Int)),cj 221 8 A (cE e).length m (fc (cE e)),ah b1 (oX [0,0,0,0,0,0]),ah b2 (oX [gu e,e.r.ld,e.r.kk,0,0,0])] H:=hs;unfold ay.j6 ay.j6.q4 ay.j6.q3 ay.j6.q2 ay.j6.q1
   try simp only[HS]
   refine hs.ld 6 (v:=I (gu e)) rfl rfl ?_;simp only[HV];by_cases h3:gu e>=3
   .refine aA h3 ?_;have hfin:=fin [gu e,e.r.ld,e.r.kk,e.r.dir,e.r.ps,(cE e).length];have hval:[gu e,(e.r.ld:Int),e.r.kk,e.r.dir,e.r.ps,((cE e).length:Int)]=wK (some e):=by
     show _=if gu e=1 then _ else if gu e=2 then _ else _
     rw[if_neg (by omega),if_neg (by omega)]
    repeat' first
     |exact hfin _ hval rfl hs
     |refine hs.ld 0 (v:=.pointer (some ⟨mp,0,none⟩)) rfl rfl ?_
     |refine hs.ld 1 (v:=.int .i64 e.r.dir) rfl rfl ?_
     |refine hs.ld 1 (v:=.int .i64 e.r.ps) rfl rfl ?_
     |refine hs.ld 1 (v:=.slice A (cE e).length m) rfl rfl ?_
     |refine hs.st 6 rfl (Nat.lt_of_sub_eq_succ rfl) rfl fun H hs=>?_
     |(simp only[HV];try simp only[HS])
     |refine⟨?_,?_⟩
   .refine au h3 ?_;refine fin _ H ?_ rfl hs;show _=if gu e=1 then _ else if gu e=2 then _ else _
    rw[if_neg (by omega),if_pos (by omega)];have:gu e=2:=by omega
    rw[this]
  .refine au h2 ?_;unfold ay.j6 ay.j6.q4 ay.j6.q3 ay.j6.q2 ay.j6.q1
   try simp only[HS]
   refine hs.ld 6 (v:=I (gu e)) rfl rfl ?_;simp only[HV];refine au (by omega) ?_;refine fin _ H ?_ rfl hs;show _=if gu e=1 then _ else _
   have:gu e=1:=by omega
   rw[if_pos this,this]
def bA (d:D)(m:Mn)(aj:Int):Eg:=⟨m.aG,d.sec,d.size,m.aX,m.r,aj⟩
theorem nF {d d':D}(m:Mn)(aj:Int)(h1:d'.sec=d.sec)(h2:d'.size=d.size):bA d' m aj=bA d m aj:=by unfold bA;rw[h1,h2]
theorem Mn.Bc {sec size:Nat}{m:Mn}{c:Cn}(h:Holds sec size m c):(m.r=dW\/m.r.cR)/\m.r.wf/\m.r.kk<=m.aG:=by
 rcases m.DK with⟨_,e⟩|e
 .rw[e];exact⟨.inl rfl,zeroR_wf',by show(0:Int)<=m.aG;omega⟩
 .have h1:=h.log.last e;have g:=h1.1;refine⟨.inr g,⟨by have:=g.2.1;omega,?_,?_,?_,?_,h1.2.1⟩,h.kk _ e⟩
  .obtain⟨_,_,_,_,_,h|h|h|h⟩:=g<;>omega
  .have:=g.2.2;omega
  .have:=g.2.2.2.2.1;omega
  .obtain⟨_,_,_,_,_,h|h|h|h⟩:=g<;>omega
where zeroR_wf':dW.wf:=⟨by decide,by decide,by decide,by decide,by decide,⟨by decide,by decide,by decide⟩⟩
theorem Holds.eg {d:D}{m:Mn}{c:Cn}(h:Holds d.sec d.size m c){aj:Int}(hp:aj<=m.aX):mW (bA d m aj) d:=by
 have hg:=iD h.cR;have hr:=Mn.Bc h;exact⟨hg.1,yH hg.2.1,rfl,rfl,hg.2.2.1,h.least,by have:=hg.2.2.2;show m.aX<=_;omega,hp,hr.1,hr.2.1,hr.2.2⟩
theorem Holds.jZ {sec size:Nat}{m:Mn}{c:Cn}(h:Holds sec size m c):jZ (size:Int)=true:=(vp _).2 (iD h.cR).2.1
theorem Holds.jh {sec size:Nat}{m:Mn}{c:Cn}(h:Holds sec size m c):jh c 1 8=m.L.getLast? :=Ring.last h.jZ _ rfl h.log h.ring
theorem AV {d:D}{m:Mn}{aj:Int}(hk:3<=m.r.kd):cE (bA d m aj)=dF m (d.size/8) m.r:=by unfold cE bA;rw[if_pos hk];rfl
def stM (m:Mn)(ae:Nat):Int:=if m.r.kd=2 then 2 else if m.r.kd<3 then 1 else if m.r.ps<((dF m ae m.r).length:Int)then 3 else 4
theorem uh {d:D}{m:Mn}{aj:Int}:gu (bA d m aj)=stM m (d.size/8):=by
 unfold gu stM;show(if m.r.kd=2 then(2:Int)else if m.r.kd<3 then 1 else if m.r.ps<((cE (bA d m aj)).length:Int)then 3 else 4)=_
 by_cases h2:m.r.kd=2
 .rw[if_pos h2,if_pos h2]
 rw[if_neg h2,if_neg h2];by_cases h3:m.r.kd<3
 .rw[if_pos h3,if_pos h3]
 rw[if_neg h3,if_neg h3,AV (by omega)]
def tU (m:Mn)(ae r w:Nat):Prop:=∃ pz r0 w0,(dF m ae m.r)[m.r.ps.toNat]? =some pz/\vv ae m.aX (eO m.aG ae pz.f m.r.kk.toNat).f (eO m.aG ae pz.o m.r.kk.toNat).f pz r0 w0/\r=nS ae (2^m.r.kk.toNat)+r0+8/\w=w0+1
theorem tU.le {m:Mn}{ae r w:Nat}(hp:1<=ae)(hk:m.r.kk.toNat<=32)(hl:ec m.r.kk.toNat ae<=m.aX)(h:tU m ae r w):r<=3*2^m.r.kk.toNat+8/\w<=2^m.r.kk.toNat+1:=by
 obtain⟨pz,r0,w0,hpz,hc,rfl,rfl⟩:=h;have hz:=AT hk hl pz (List.mem_of_getElem? hpz);have h1:=Gz hc hz.k;have h2:=wm (ae:=ae) (w:=2^m.r.kk.toNat) hp (Nat.two_pow_pos _);exact⟨by omega,by omega⟩
section
variable {p dp : Nat} {d : D} {c : Cn} {m : Mn} {aj : Int} {TT : As} (hc : Clean d c) (hh : Holds d.sec d.size m c) (hS : Small 100000 m) (ho : d.rd <= 800000 /\ d.wr <= 800000 /\ d.sy <= 800000) (hpk : aj <= m.aX)
include hc hh hS ho hpk
def IS (p dp:Nat)(d:D)(m:Mn)(aj dir:Int)(v:Value)(M:List As):Prop:=
 (stM m (d.size/8)≠2/\stM m (d.size/8)≠4/\v= I 5/\M=[En p dp (some (bA d m aj)),Dk dp d])\/
 ((stM m (d.size/8)=2\/stM m (d.size/8)=4)/\¬(dir=0\/dir=1)/\v= I 18/\M=[En p dp (some (bA d m aj)),Dk dp d])\/
 ((stM m (d.size/8)=2\/stM m (d.size/8)=4)/\∃ b:Bool,dir=(if b=true then 1 else 0)/\
  ((∃ d' c',fh d d' 8 1 1/\Clean d' c'/\Holds d.sec d.size (m.add (gX m b)) c'/\v= I 0/\M=[En p dp (some (bA d (m.add (gX m b)) aj)),Dk dp d'])\/
  (∃ d',fY d d' 10/\Left d' (fun c'=>Holds d.sec d.size m c'\/Holds d.sec d.size (m.add (gX m b)) c')/\v= I 8/\M=[En p dp none,Dk dp d'])))
theorem xU (dir:Int):Tr prog 71 #[V p,I dir] [En p dp (some (bA d m aj)),Dk dp d] (IS p dp d m aj dir):=fun H hs=>by
 have he:=hh.eg hpk;apply cF.ok;unfold cF;refine(qv (p:=p) (dp:=dp) (some (bA d m aj))).use hs [0] rfl rfl ?_;rintro _ _ H ⟨rfl,rfl⟩ hs;have est:yN (some (bA d m aj))=stM m (d.size/8):=uh;rw[est];simp only[HV];have j4:(stM m (d.size/8)=2\/stM m (d.size/8)=4)->cF.j4 (fun v H'=>∃ M,IS p dp d m aj dir v M/\Sep M H') (Oo p) dir H:=fun hst=>by
  have hk2:2<=m.r.kd:=by
   unfold stM at hst;by_cases e2:m.r.kd=2
   .omega
   .rw[if_neg e2]at hst;by_cases e3:m.r.kd<3
    .rw[if_pos e3]at hst;omega
    .omega
  unfold cF.j4;by_cases h0:dir<0
  .exact aA h0 ⟨_,.inr (.inl ⟨hst,by omega,rfl,rfl⟩),hs⟩
  refine au h0 ?_;by_cases h1:dir>1
  .exact aA h1 ⟨_,.inr (.inl ⟨hst,by omega,rfl,rfl⟩),hs⟩
  refine au h1 ?_;obtain⟨b,hb⟩:∃ b:Bool,dir=(if b=true then 1 else 0):=by
   rcases(by omega:dir=0\/dir=1)with e|e
   .exact⟨false,e⟩
   .exact⟨true,e⟩
  obtain⟨mp,ap,rp,A,mm,hs⟩:=En.whole hs
  try simp only[HS]
  refine hs.ld 0 (v:=V mp) rfl rfl ?_;simp only[HV];refine hs.ld 0 (v:=V mp) rfl rfl ?_;simp only[HV]
  try simp only[HS]
  refine hs.ld 1 (v:=I m.r.kk) rfl rfl ?_;simp only[HV];refine hs.ld 0 (v:=V mp) rfl rfl ?_;simp only[HV]
  try simp only[HS]
  refine hs.ld 1 (v:=Oi (m.r.ld:Int)) rfl rfl ?_;simp only[HV];refine hs.ld 0 (v:=V mp) rfl rfl ?_;simp only[HV]
  try simp only[HS]
  refine hs.ld 1 (v:=Oi (m.r.dJ:Int)) rfl rfl ?_;simp only[HV];have hs:=Me.shut (L:=[ah p (cH dp (some mp)),Dk dp d]) (hs.re [1,2,3,4,0,5] rfl);obtain⟨g1,g2,g3,g4⟩:=J0 hh hS (by omega) hk2 b;have hkm:=(Mn.Bc hh).2.2;rw[hb];refine(qI (mp:=mp) (dp:=dp) (e:=bA d m aj) hc he (by omega) (r:=gX m b) { gX m b with s:=0} rfl (Mn.qV hh).symm g1 g2 (by rw[hh.jh];exact g3) hkm).use hs [0,2] rfl rfl ?_;rintro _ _ H (⟨d',rfl,hw,hcl,rfl⟩|⟨d',rfl,hcut,hleft,rfl⟩) hs
  .simp only[HV];refine(kq (p:=p) (dp:=dp) (mp:=mp) 0).use hs [2] rfl rfl ?_;rintro _ _ H ⟨rfl,rfl⟩ hs;simp only[HV];have hs:=En.shut (e:={ bA d m aj with r:=gX m b}) (L:=[Dk dp d']) (hs.re [0,1,2] rfl);have e1:bA d (m.add (gX m b)) aj={ bA d m aj with r:=gX m b}:=by unfold bA;rw[Mn.kj];rfl
   exact⟨_,.inr (.inr ⟨hst,b,rfl,.inl ⟨d',_,hw,hcl,g4,rfl,rfl⟩⟩),by rw[e1];exact hs⟩
  .simp only[HV];refine(kq (p:=p) (dp:=dp) (mp:=mp) 8).use hs [2] rfl rfl ?_;rintro _ _ H ⟨rfl,rfl⟩ hs;simp only[HV];refine⟨_,.inr (.inr ⟨hst,b,rfl,.inr ⟨d',hcut,hleft.mono fun c' h=>?_,rfl,rfl⟩⟩),hs.re [0,2] rfl⟩;rcases h with e|e
   .left;rw[e];exact hh
   .right;rw[e];exact g4
 by_cases h2:stM m (d.size/8)=2
 .exact aF h2 (j4 (.inl h2))
 .refine aU h2 ?_;by_cases h4:stM m (d.size/8)=4
  .exact aF h4 (j4 (.inr h4))
  .exact aU h4 ⟨_,.inl ⟨h2,h4,rfl,rfl⟩,hs⟩
end
theorem GQ {ps:List Pz}{i:Nat}{pz:Pz}(h:ps[i]? =some pz)(l:List UInt64):oZ (ps.take (i+1)) l=pz.ap (oZ (ps.take i) l):=by
 have hlt:=(List.getElem?_eq_some_iff.1 h).1;have hg:=(List.getElem?_eq_some_iff.1 h).2;rw[List.take_succ_eq_append_getElem hlt,Jf,hg];rfl
section
variable {p dp : Nat} {d : D} {c : Cn} {m : Mn} {aj : Int} {TT : As} (hT : ∀ H, TT H -> T64 H) (hc : Clean d c) (hh : Holds d.sec d.size m c) (hS : Small 100000 m) (ho : d.rd <= 800000 /\ d.wr <= 800000 /\ d.sy <= 800000) (hpk : aj <= m.aX) (hk14 : m.r.kk <= 14)
include hT hc hh hS ho hpk hk14
def IQ (p dp:Nat)(d:D)(m:Mn)(aj:Int)(TT:As)(v:Value)(M:List As):Prop:=
 (stM m (d.size/8)≠3/\v= .tuple #[.bool false,I 5]/\M=[En p dp (some (bA d m aj)),Dk dp d,TT])\/
 (stM m (d.size/8)=3/\∃ r w,tU m (d.size/8) r w/\
  ((∃ d' c' peak',peak'<=(m.aX:Int)/\fh d d' r w 2/\Clean d' c'/\Holds d.sec d.size (m.add (ft m (d.size/8))) c'/\v= .tuple #[.bool (stM (m.add (ft m (d.size/8))) (d.size/8)==4),I 0]/\
    M=[En p dp (some (bA d (m.add (ft m (d.size/8))) peak')),Dk dp d',TT])\/
  (∃ d',fY d d' (r+w+2)/\Left d' (fun c'=>Holds d.sec d.size m c'\/Holds d.sec d.size (m.add (ft m (d.size/8))) c')/\v= .tuple #[.bool false,I 8]/\M=[En p dp none,Dk dp d',TT])))
set_option maxHeartbeats 1000000 in
theorem B6 :Tr prog 62 #[V p] [En p dp (some (bA d m aj)),Dk dp d,TT] (IQ p dp d m aj TT):=fun H hs=>by
 have he:=hh.eg hpk;have hper:(bA d m aj).ae=D.ae d:=rfl;have hper8:d.size/8=D.ae d:=rfl;have hl:=he.lay;apply cP.ok;unfold cP;refine(qv (p:=p) (dp:=dp) (some (bA d m aj))).use hs [0] rfl rfl ?_;rintro _ _ H ⟨rfl,rfl⟩ hs;have est:yN (some (bA d m aj))=stM m (d.size/8):=uh;rw[est];simp only[HV];by_cases h3:stM m (d.size/8)=3
 .refine aF h3 ?_;have hk3:3<=m.r.kd/\m.r.ps<((dF m (d.size/8) m.r).length:Int):=by
   unfold stM at h3;by_cases e2:m.r.kd=2
   .rw[if_pos e2]at h3;omega
   .rw[if_neg e2]at h3;by_cases e3:m.r.kd<3
    .rw[if_pos e3]at h3;omega
    .rw[if_neg e3]at h3;by_cases e4:m.r.ps<((dF m (d.size/8) m.r).length:Int)
     .exact⟨by omega,e4⟩
     .rw[if_neg e4]at h3;omega
  have eL:=Mn.xz (m:=m);have hr:=hh.log.last eL;have hps:=R.DF hr.1;have hkk0:=he.KR;have hkk:0<=m.r.kk/\m.r.kk.toNat<=m.aG:=hkk0;have hkm:=(Mn.Bc hh).2.2;have hlt:m.r.ps.toNat<(dF m (d.size/8) m.r).length:=by omega
  obtain⟨pz,hpz⟩:∃ pz,(dF m (d.size/8) m.r)[m.r.ps.toNat]? =some pz:=⟨_,List.getElem?_eq_getElem hlt⟩;have hgd:=iD hh.cR;have hleast:ec m.r.kk.toNat (d.size/8)<=m.aX:=Nat.le_trans (si hkk.2) hh.least;have hzok:zR pz m.r.kk.toNat (d.size/8) m.aX:=AT (by omega) hleast pz (List.mem_of_getElem? hpz);have hends:=wt (mH m.r) m.r.kk.toNat (d.size/8) m.aX _ pz hpz;obtain⟨s1,s2,s3⟩:=Le hh hS (by omega) hk3.1 hpz;have hpow14:2^m.r.kk.toNat<=2^14:=Nat.pow_le_pow_right (by omega) (by omega);have hcap:m.aX<=16777216:=by have:=hgd.2.2.2;omega
  obtain⟨mp,ap,rp,A,mm,hs⟩:=En.whole hs
  try simp only[HS]
  refine hs.ld 0 (v:=V mp) rfl rfl ?_;simp only[HV]
  try simp only[HS]
  refine hs.nH 1 (off:=23) (n:=8) rfl (by show 23+8<=32;omega) ?_;have ea:(((ta (bA d m aj) ap rp A (cE (bA d m aj)).length mm).toList.drop 23).take 8).toArray=m.r.c:=rfl;rw[ea];refine hs.nw fun b1 H hs=>?_
  refine hs.eY 7 (y:=m.r.c) rfl rfl rfl (lF _) fun H hs=>?_;have hs:Sep [ah p (cH dp (some mp)),ah mp (bW (bA d m aj) ap rp A (cE (bA d m aj)).length mm),Ar ap m.aX aj [],ah rp (bO dp 1 8 ((8*(bA d m aj).ae:Nat):Int)),cj 221 8 A (cE (bA d m aj)).length mm (fc (cE (bA d m aj))),Dk dp d,TT,ah b1 (eX m.r)] H:=hs;have j7:∀ want:Int,want=(kX (oZ ((dF m (d.size/8) m.r).take m.r.ps.toNat) m.dJ):Int)->cP.j7 (fun v H'=>∃ M,IQ p dp d m aj TT v M/\Sep M H') (Oo p) (O b1) want H:=fun want hwant=>by
   unfold cP.j7
   try simp only[HS]
   refine hs.ld 0 (v:=V dp) rfl rfl ?_;simp only[HV];refine hs.ld 0 (v:=V mp) rfl rfl ?_;simp only[HV]
   try simp only[HS]
   refine hs.ld 1 (v:=V ap) rfl rfl ?_;simp only[HV];refine hs.ld 0 (v:=V mp) rfl rfl ?_;simp only[HV]
   try simp only[HS]
   refine hs.nH 1 (off:=4) (n:=17) rfl (by show 4+17<=32;omega) ?_;have eb:(((ta (bA d m aj) ap rp A (cE (bA d m aj)).length mm).toList.drop 4).take 17).toArray=Lay.ir m.aG (D.ae d):=rfl;rw[eb];refine hs.ld 7 (v:=I m.r.kk) rfl rfl ?_;simp only[HV];refine hs.ld 0 (v:=V mp) rfl rfl ?_;simp only[HV]
   try simp only[HS]
   refine hs.ld 1 (v:=.slice A (cE (bA d m aj)).length mm) rfl rfl ?_;simp only[HV];refine hs.ld 7 (v:=I m.r.ps) rfl rfl ?_;simp only[HV];have eps:cE (bA d m aj)=dF m (d.size/8) m.r:=AV hk3.1;refine(hs.own 4 rfl).Bd (x:=m.r.ps) (j:=m.r.ps.toNat) (by omega) (by rw[eps];exact hlt) (yF _ _ pz (by rw[eps];exact hpz)) ?_;have ekk:m.r.kk=(m.r.kk.toNat:Int):=by omega
   have hw2:want=(kX (jS c (D.ae d) (eO m.aG (D.ae d) pz.f m.r.kk.toNat).f (2^m.r.kk.toNat)):Int):=by rw[hwant];congr 2;exact s1.symm
   rw[hw2,ekk,Array.toArray_toList];refine(Lv (dp:=dp) (ap:=ap) (d:=d) (c:=c) (aG:=m.aG) (k:=m.r.kk.toNat) (pz:=pz) (cap:=m.aX) (aj:=aj) (TT:=TT) hT hc hl hkk.2 (by omega) hcap hpk hzok).use hs [5,2,6] rfl rfl ?_;rintro v M H ⟨peak',hpk',r0,w0,hcost,hq⟩ hs;have hsc:tU m (d.size/8) (nS (D.ae d) (2^m.r.kk.toNat)+r0+8) (w0+1):=⟨pz,r0,w0,hpz,hcost,rfl,rfl⟩;have hpd:=Ok.dQ hc.ok;have hcle:=hsc.le (by omega) (by omega) hleast;have target:∀ c',pW (iy (eO m.aG (D.ae d) pz.o m.r.kk.toNat)) c c'->Holds d.sec d.size m c':=fun c' hsam=>
    hh.target hkk.2 (fun r hr' _=>by have:=hends.1;omega) (fun r hr' h4 q hq'=>by
     rw[eL]at hr';cases hr';exact s3 q h4 hq') hsam
   rcases hq with⟨d1,c1,hw1,hc1,hsam,hwords,rfl,rfl⟩|⟨d1,hcut,hleft,rfl,rfl⟩
   .simp only[HV];refine aF rfl ?_;have hs:Sep [Dk dp d1,Ar ap m.aX peak' [],TT,ah p (cH dp (some mp)),ah mp (bW (bA d m aj) ap rp A (cE (bA d m aj)).length mm),ah rp (bO dp 1 8 ((8*(bA d m aj).ae:Nat):Int)),cj 221 8 A (cE (bA d m aj)).length mm (fc (cE (bA d m aj))),ah b1 (eX m.r)] H:=hs;refine hs.ld 7 (v:=I m.r.ps) rfl rfl ?_;simp only[HV];have hl5:=(o7 (mH m.r) m.r.kk.toNat (d.size/8) m.aX).2;have hl5:(dF m (d.size/8) m.r).length<=5:=hl5;rw[bg (x:=m.r.ps+1)];refine hs.st 7 rfl (by show 1<8;omega) rfl fun H hs=>?_;refine hs.st 7 rfl (by show 4<8;omega) rfl fun H hs=>?_;refine hs.st 7 rfl (by show 7<8;omega) rfl fun H hs=>?_;have hap:pz.ap (jS c (D.ae d) (eO m.aG (D.ae d) pz.f m.r.kk.toNat).f (2^m.r.kk.toNat))=oZ ((dF m (d.size/8) m.r).take (m.r.ps.toNat+1)) m.dJ:=by
     rw[GQ hpz];congr 1
    rw[hap]at hs hwords;have hh1:=target c1 hsam;have hc1':=hc1;have e12:Holds d1.sec d1.size m c1:=by rw[hw1.sec,hw1.size];exact hh1
    obtain⟨g1,g2,g3,g4⟩:=JI hh1 hS (by omega) hk3.1 hpz hwords;have hs:Sep [Dk dp d1,Ar ap m.aX peak' [],TT,ah p (cH dp (some mp)),ah mp (bW (bA d1 m peak') ap rp A (cE (bA d1 m peak')).length mm),ah rp (bO dp 1 8 ((8*(bA d1 m peak').ae:Nat):Int)),cj 221 8 A (cE (bA d1 m peak')).length mm (fc (cE (bA d1 m peak'))),ah b1 (eX { ft m (d.size/8)with s:=m.r.s})] H:=by
     rw[nF m peak' hw1.sec hw1.size];exact hs
    refine hs.ld 3 (v:=V mp) rfl rfl ?_;simp only[HV];refine hs.bJ 7 rfl rfl ?_
    try simp only[Array.toArray_toList]
    have hs:=Me.shut (mp:=mp) (dp:=dp) (e:=bA d1 m peak') (L:=[ah p (cH dp (some mp)),Dk dp d1,TT]) (hs.re [4,1,5,6,3,0,2] rfl);have hrd1:=hw1.rd;have hwr1:=hw1.wr;have hsy1:=hw1.sy;refine(qI (mp:=mp) (dp:=dp) (e:=bA d1 m peak') hc1 (e12.eg hpk') (by omega) (r:=ft m (d.size/8)) { ft m (d.size/8)with s:=m.r.s} rfl (Mn.qV hh).symm g1 g2 (by rw[e12.jh];exact g3) hkm).use hs [0,2] rfl rfl ?_;have e1:∀ d2:D,{ bA d1 m peak' with r:=ft m (d.size/8)}=bA d (m.add (ft m (d.size/8))) peak':=fun _=>by unfold bA;rw[Mn.kj,hw1.sec,hw1.size];rfl
    rintro _ _ H (⟨d2,rfl,hw2',hcl2,rfl⟩|⟨d2,rfl,hcut,hleft,rfl⟩) hs
    .simp only[HV];refine(kq (p:=p) (dp:=dp) (mp:=mp) 0).use hs [2] rfl rfl ?_;rintro _ _ H ⟨rfl,rfl⟩ hs;simp only[HV];refine aF rfl ?_;have hs:=En.shut (e:={ bA d1 m peak' with r:=ft m (d.size/8)}) (L:=[Dk dp d2,TT]) (hs.re [0,1,2,3] rfl);rw[e1 d2]at hs;refine(qv (p:=p) (dp:=dp) (some (bA d (m.add (ft m (d.size/8))) peak'))).use hs [0] rfl rfl ?_;rintro _ _ H ⟨rfl,rfl⟩ hs;have est:yN (some (bA d (m.add (ft m (d.size/8))) peak'))=stM (m.add (ft m (d.size/8))) (d.size/8):=uh;rw[est];simp only[HV];have hgo:=hw1.trans hw2';rw[hw1.size]at hcl2;refine⟨_,.inr ⟨h3,_,_,hsc,.inl ⟨d2,_,peak',hpk',?_,hcl2,g4,rfl,rfl⟩⟩,hs⟩;exact hgo
    .simp only[HV];refine(kq (p:=p) (dp:=dp) (mp:=mp) 8).use hs [2] rfl rfl ?_;rintro _ _ H ⟨rfl,rfl⟩ hs;simp only[HV];refine aU (by decide) ?_;have hgo:=hw1.cut hcut;refine⟨_,.inr ⟨h3,_,_,hsc,.inr ⟨d2,hgo.more (by omega),hleft.mono fun c' h=>?_,rfl,rfl⟩⟩,hs.re [0,2,3] rfl⟩;rcases h with e|e
     .left;rw[e];exact hh1
     .right;rw[e,hw1.size];exact g4
   .simp only[HV];refine aU (by decide) ?_;have hs:Sep [Dk dp d1,Ar ap m.aX peak' [],TT,ah p (cH dp (some mp)),ah mp (bW (bA d m aj) ap rp A (cE (bA d m aj)).length mm),ah rp (bO dp 1 8 ((8*(bA d m aj).ae:Nat):Int)),cj 221 8 A (cE (bA d m aj)).length mm (fc (cE (bA d m aj))),ah b1 (eX m.r)] H:=hs;refine(kq (p:=p) (dp:=dp) (mp:=mp) 8).use hs [3] rfl rfl ?_;rintro _ _ H ⟨rfl,rfl⟩ hs;simp only[HV];exact⟨_,.inr ⟨h3,_,_,hsc,.inr ⟨d1,hcut.more (by omega),hleft.mono fun c' h=>.inl (target c' h),rfl,rfl⟩⟩,hs.re [0,1,3] rfl⟩
  refine hs.ld 7 (v:=Oi (m.r.out:Int)) rfl rfl ?_;simp only[HV];refine hs.ld 7 (v:=I m.r.ps) rfl rfl ?_;simp only[HV];by_cases h0:m.r.ps=0
  .refine bH h0 ?_;refine hs.ld 7 (v:=Oi (m.r.dJ:Int)) rfl rfl ?_;simp only[HV];rw[if_pos h0]at s2;exact j7 _ (by rw[s2])
  .refine bT h0 ?_;rw[if_neg h0]at s2;exact j7 _ (by rw[s2])
 .exact aU h3 ⟨_,.inl ⟨h3,rfl,rfl⟩,hs⟩
end
theorem EM :ed prog 108=some (1,8,some #[U 0]):=by kernel_rfl
theorem Ef (n:Nat):cI [Value.int .u64 0] n=af (List.replicate n 0):=by
 rw[eR];unfold af;rw[List.map_replicate];rfl
def K7 (m:Mn)(ae i:Nat):Nat:=nS ae (2^m.r.kk.toNat)+(dy ae (eO m.aG ae i m.r.kk.toNat).f (2^m.r.kk.toNat) 0 (2^m.r.kk.toNat)).length
section
variable {p dp : Nat} {d : D} {c : Cn} {m : Mn} {aj : Int} (hc : Clean d c) (hh : Holds d.sec d.size m c) (ho : d.rd <= 800000 /\ d.wr <= 800000 /\ d.sy <= 800000) (hpk : aj <= m.aX)
include hc hh ho hpk
def Gg (p dp:Nat)(d:D)(c:Cn)(m:Mn)(i:Nat)(l:List UInt64)(v:Value)(M:List As):Prop:=
 (∃ d' b mm peak',peak'<=(m.aX:Int)/\fh d d' (K7 m (d.size/8) i) 0 0/\Clean d' c/\v= .tuple #[.slice (Oo b) l.length l.length,I 0]/\M=[En p dp (some (bA d m peak')),Dk dp d',ah b (.row (af l) 108 mm)])\/
 (∃ d',fY d d' (K7 m (d.size/8) i)/\Left d' (fun c'=>c'=c)/\v= .tuple #[.slice none 0 0,I 8]/\M=[En p dp none,Dk dp d'])
theorem JO {i:Nat}(hi:i<4){l:List UInt64}(hl:l.length=2^m.r.kk.toNat)(hw:jS c (d.size/8) (eO m.aG (d.size/8) i m.r.kk.toNat).f (2^m.r.kk.toNat)=l)(want:Int)(hwant:want=(kX l:Int)):
  Tr prog 136 #[V p,I (i:Int),Oi want] [En p dp (some (bA d m aj)),Dk dp d] (Gg p dp d c m i l):=fun H hs=>by
 have he:=hh.eg hpk;have hok:=hc.ok;have hpd:=Ok.dQ hok;have hlay:=he.lay;have hkk:0<=m.r.kk/\m.r.kk.toNat<=m.aG:=he.KR;have hm32:=he.aG;have hm32:m.aG<=32:=hm32;have h2k:=gO (k:=m.r.kk.toNat);have h2p:=Nat.two_pow_pos m.r.kk.toNat;have hper8:d.size/8=D.ae d:=rfl;have hcapd:D.ae d<=m.aX:=by
  have:=hh.least;unfold ec at this;rw[hper8]at this;omega
 have hcap:m.aX<=16777216:=by have:=(iD hh.cR).2.2.2;omega
 obtain⟨mp,ap,rp,A,mm,hs⟩:=En.whole hs;have hs:Sep [ah p (cH dp (some mp)),ah mp (bW (bA d m aj) ap rp A (cE (bA d m aj)).length mm),Ar ap m.aX aj [],ah rp (bO dp 1 8 ((8*(bA d m aj).ae:Nat):Int)),cj 221 8 A (cE (bA d m aj)).length mm (fc (cE (bA d m aj))),Dk dp d] H:=hs;have back:∀(H:Hp) (peak':Int) (d':D) (L:List As),Sep ([ah p (cH dp (some mp)),ah mp (bW (bA d m aj) ap rp A (cE (bA d m aj)).length mm),Ar ap m.aX peak' [],ah rp (bO dp 1 8 ((8*(bA d m aj).ae:Nat):Int)),cj 221 8 A (cE (bA d m aj)).length mm (fc (cE (bA d m aj))),Dk dp d']++L) H->Sep (En p dp (some (bA d m peak'))::Dk dp d'::L) H:=fun H peak' d' L hs=>
  En.pU (mp:=mp) (ap:=ap) (rp:=rp) (A:=A) (m:=mm) (e:=bA d m peak') (L:=Dk dp d'::L) hs
 apply il.ok;unfold il
 try simp only[HS]
 refine hs.ld 0 (v:=V dp) rfl rfl ?_;simp only[HV];refine hs.ld 0 (v:=V mp) rfl rfl ?_;simp only[HV]
 try simp only[HS]
 refine hs.ld 1 (v:=V ap) rfl rfl ?_;simp only[HV];refine hs.ld 0 (v:=V mp) rfl rfl ?_;simp only[HV]
 try simp only[HS]
 refine hs.nH 1 (off:=4) (n:=17) rfl (by show 4+17<=32;omega) ?_;have eb:(((ta (bA d m aj) ap rp A (cE (bA d m aj)).length mm).toList.drop 4).take 17).toArray=Lay.ir m.aG (D.ae d):=rfl;rw[eb];refine hs.ld 0 (v:=V mp) rfl rfl ?_;simp only[HV]
 try simp only[HS]
 refine hs.ld 1 (v:=I m.r.kk) rfl rfl ?_;simp only[HV];have ekk:m.r.kk=(m.r.kk.toNat:Int):=by omega
 rw[ekk];refine(tR (dp:=dp) (ap:=ap) hok hlay hi hkk.2).use hs [5] rfl rfl ?_;rintro _ _ H ⟨q,rfl,rfl⟩ hs;simp only[HV];refine aF rfl ?_;have hx:On d (eO m.aG (D.ae d) i m.r.kk.toNat):=hlay.on hok hi hkk.2;have hwx:(eO m.aG (D.ae d) i m.r.kk.toNat).w=2^m.r.kk.toNat:=rfl;have hs:Sep [Dk dp d,ah q (ba dp ap (eO m.aG (D.ae d) i m.r.kk.toNat)),ah p (cH dp (some mp)),ah mp (bW (bA d m aj) ap rp A (cE (bA d m aj)).length mm),Ar ap m.aX aj [],ah rp (bO dp 1 8 ((8*(bA d m aj).ae:Nat):Int)),cj 221 8 A (cE (bA d m aj)).length mm (fc (cE (bA d m aj)))] H:=hs;have hrc:K7 m (d.size/8) i=nS (D.ae d) (2^m.r.kk.toNat)+(dy (D.ae d) (eO m.aG (D.ae d) i m.r.kk.toNat).f (2^m.r.kk.toNat) 0 (2^m.r.kk.toNat)).length:=rfl;have hnl:=wm (ae:=D.ae d) (w:=2^m.r.kk.toNat) (by omega) h2p;have hpl:=iR (D.ae d) (eO m.aG (D.ae d) i m.r.kk.toNat).f (2^m.r.kk.toNat) 0 (2^m.r.kk.toNat);rw[hper8]at hw;generalize eO m.aG (D.ae d) i m.r.kk.toNat=x at*;refine(xb (p:=q) (dp:=dp) (ap:=ap) (x:=x) (cap:=m.aX) (aj:=aj) (bufs:=[]) hok hc.down hx (by omega) (by rw[fH];omega)).use hs [1,0,4] rfl rfl ?_;have hw0:=oq hc.now x (2^m.r.kk.toNat);have hpk1:mx aj (aW []+(D.ae d:Int))<=m.aX:=so hpk (by rw[fH];omega);rintro _ _ H (⟨hf,rfl,rfl⟩|⟨j,hj,hf,rfl,rfl⟩) hs
 .have hsum:((Go.Crc.sum (form (dE d x 0 x.w))).toNat:Int)=want:=by rw[hwx,hw0,hw,hwant];rfl
  rw[hsum];simp only[HV];refine aF rfl (aF rfl ?_);rw[hwx]at hs hf;have hcN:=hc.bE (nS (D.ae d) (2^m.r.kk.toNat));have hwN:=fh.bE hf;generalize hN:nS (D.ae d) (2^m.r.kk.toNat)=N at*;have hs:Sep [ah q (ba dp ap x),Dk dp (D.bE d N),Ar ap m.aX (mx aj (aW []+(D.ae d:Int))) [],ah p (cH dp (some mp)),ah mp (bW (bA d m aj) ap rp A (cE (bA d m aj)).length mm),ah rp (bO dp 1 8 ((8*(bA d m aj).ae:Nat):Int)),cj 221 8 A (cE (bA d m aj)).length mm (fc (cE (bA d m aj)))] H:=hs;refine aa.use (ov hs 0 rfl) ?_;simp only[HV];rw[hwx];refine hs.nX EM rfl (n:=2^m.r.kk.toNat) (m:=2^m.r.kk.toNat) rfl rfl (Nat.le_refl _) (by omega) (by omega) fun b H hs=>?_
  simp only[HV];rw[Ef]at hs;have hrd:(D.bE d N).rd=d.rd+N:=rfl;have hpeN:D.ae (D.bE d N)=D.ae d:=rfl;refine(uV (p:=q) (dp:=dp) (ap:=ap) (d:=D.bE d N) (x:=x) (cap:=m.aX) (aj:=mx aj (aW []+(D.ae d:Int))) (bufs:=[]) (rl:=b) (off:=0) (mm:=2^m.r.kk.toNat*1) (el:=108) (xs:=af (List.replicate (2^m.r.kk.toNat) 0)) hcN.ok hcN.down ⟨hx.w1,hx.s1,hx.fit,hx.room⟩ (by omega) 0 (2^m.r.kk.toNat) (2^m.r.kk.toNat) (by omega) (by omega) (Nat.le_refl _) (by rw[aB,List.length_replicate];omega) (by rw[fH,hpeN];omega)).use hs [0,1,2,7] rfl rfl ?_;have hpx:dE (D.bE d N) x 0 (2^m.r.kk.toNat)=l:=by rw[<- hw];exact oq hcN.now x (2^m.r.kk.toNat)
  have hall:setAt (af (List.replicate (2^m.r.kk.toNat) 0)) 0 (af l)=af l:=by rw[o8 (by rw[aB,aB,List.length_replicate];exact hl)]
  have hpk2:mx (mx aj (aW []+(D.ae d:Int))) (aW []+(D.ae d:Int))<=m.aX:=so hpk1 (by rw[fH];omega);rintro _ _ H (⟨hf2,rfl,rfl⟩|⟨j,xs',hj,hf2,hxl,rfl,rfl⟩) hs
  .simp only[HV];refine(kq (p:=p) (dp:=dp) (mp:=mp) 0).use hs [4] rfl rfl ?_;rintro _ _ H ⟨rfl,rfl⟩ hs;simp only[HV];refine aF rfl ?_;rw[hpx,hall,hpeN]at hs;have hgo:=hwN.trans (fh.bE (d:=D.bE d N) hf2);refine⟨_,.inl ⟨_,b,_,_,hpk2,by rw[hrc];exact hgo,hcN.bE _,by rw[hl],rfl⟩,back H _ _ _ (hs.re [0,5,3,6,7,2,4] rfl)⟩
  .simp only[HV];refine(kq (p:=p) (dp:=dp) (mp:=mp) 8).use hs [4] rfl rfl ?_;rintro _ _ H ⟨rfl,rfl⟩ hs;simp only[HV];refine aU (by decide) ?_;have hgo:=hwN.cut (fY.bE hcN hf2 hj);exact⟨_,.inr ⟨_,hgo.more (by rw[hrc];show N+0+0+_<=_;rw[hpeN];omega),Left.bE hcN j,rfl,rfl⟩,hs.re [0,2] rfl⟩
 .simp only[HV];refine aU (by decide) ?_;refine(kq (p:=p) (dp:=dp) (mp:=mp) 8).use hs [3] rfl rfl ?_;rintro _ _ H ⟨rfl,rfl⟩ hs;simp only[HV];rw[hwx]at hj;exact⟨_,.inr ⟨_,(fY.bE hc hf hj).more (by rw[hrc];omega),Left.bE hc j,rfl,rfl⟩,hs.re [0,2] rfl⟩
def xr (m:Mn)(ae:Nat):List UInt64:=oZ (dF m ae m.r) m.dJ
def JH (p dp:Nat)(d:D)(c:Cn)(m:Mn)(aj:Int)(v:Value)(M:List As):Prop:=
 (stM m (d.size/8)≠4/\v= .tuple #[.slice none 0 0,I 12]/\M=[En p dp (some (bA d m aj)),Dk dp d])\/(stM m (d.size/8)=4/\Gg p dp d c m 3 (xr m (d.size/8)) v M)
theorem sG :Tr prog 72 #[V p] [En p dp (some (bA d m aj)),Dk dp d] (JH p dp d c m aj):=fun H hs=>by
 apply fN.ok;unfold fN;refine(qv (p:=p) (dp:=dp) (some (bA d m aj))).use hs [0] rfl rfl ?_;rintro _ _ H ⟨rfl,rfl⟩ hs;have est:yN (some (bA d m aj))=stM m (d.size/8):=uh;rw[est];simp only[HV];by_cases h4:stM m (d.size/8)=4
 .refine aF h4 ?_;have hk:3<=m.r.kd/\¬m.r.ps<((dF m (d.size/8) m.r).length:Int):=by
   unfold stM at h4;by_cases e2:m.r.kd=2
   .rw[if_pos e2]at h4;omega
   .rw[if_neg e2]at h4;by_cases e3:m.r.kd<3
    .rw[if_pos e3]at h4;omega
    .rw[if_neg e3]at h4;by_cases e4:m.r.ps<((dF m (d.size/8) m.r).length:Int)
     .rw[if_pos e4]at h4;omega
     .exact⟨by omega,e4⟩
  have eL:=Mn.xz (m:=m);have hr:=hh.log.last eL;have hl1:=(o7 (mH m.r) m.r.kk.toNat (d.size/8) m.aX).1;have hl1:1<=(dF m (d.size/8) m.r).length:=hl1;have hkd4:m.r.kd=4:=by
   obtain⟨_,_,_,_,_,h|h|h|h⟩:=hr.1<;>omega
  have hout:=hh.out _ eL hkd4;have hpsl:=hout.ps;have hpe:m.r.ps.toNat=(dF m (d.size/8) m.r).length:=by omega
  have hlast:∃ pz,(dF m (d.size/8) m.r)[m.r.ps.toNat-1]? =some pz/\pz.o=3:=by
   have:(dF m (d.size/8) m.r)[(dF m (d.size/8) m.r).length-1]? =some ((dF m (d.size/8) m.r)[(dF m (d.size/8) m.r).length-1]'(by omega)):=List.getElem?_eq_getElem _;refine⟨_,by rw[hpe];exact this,?_⟩;unfold dF eC;split
   .rfl
   .rfl
  obtain⟨pz,hpz,ho3⟩:=hlast;have hws:=hout.ws pz hpz;have hsum:=hout.sum;rw[hpe,List.take_length]at hws hsum;rw[ho3]at hws;obtain⟨mp,ap,rp,A,mm,hs⟩:=En.whole hs
  try simp only[HS]
  refine hs.ld 0 (v:=V mp) rfl rfl ?_;simp only[HV]
  try simp only[HS]
  refine hs.ld 1 (v:=Oi (m.r.out:Int)) rfl rfl ?_;simp only[HV];have hs:=En.pU hs;have hs:Sep [En p dp (some (bA d m aj)),Dk dp d] H:=hs;have hlen:(xr m (d.size/8)).length=2^m.r.kk.toNat:=by
   have:=congrArg List.length hws;rw[Jk]at this;exact this.symm
  refine(JO (p:=p) (dp:=dp) hc hh ho hpk (i:=3) (by omega) hlen hws _ (by rw[hsum];rfl)).use hs [0,1] rfl rfl ?_;rintro v M H hq hs;rw[show rest [En p dp (some (bA d m aj)),Dk dp d] [0,1]=[]from rfl,List.append_nil]at hs;rcases hq with⟨d',b,mm,peak',h1,h2',h3,rfl,rfl⟩|⟨d',h1,h2',rfl,rfl⟩
  .simp only[HV];exact⟨_,.inr ⟨h4,.inl ⟨d',b,mm,peak',h1,h2',h3,rfl,rfl⟩⟩,hs⟩
  .simp only[HV];exact⟨_,.inr ⟨h4,.inr ⟨d',h1,h2',rfl,rfl⟩⟩,hs⟩
 .exact aU h4 ⟨_,.inl ⟨h4,rfl,rfl⟩,hs⟩
end
theorem Jm (b:Bool)(K:Value->Prop)(k:K (.bool b)):DR prog [4] (.bool b) K:=by
 show DT prog 4 (.bool b) K
 unfold DT;rw[show prog.underlying 4=some .bool by kernel_rfl];exact k
theorem kz (x:Int)(K:Value->Prop)(k:K (I x)):DR prog [63] (I x) K:=by
 show DT prog 63 (I x) K
 unfold DT;rw[show prog.underlying 63=some (.int .i64) by kernel_rfl];exact k
theorem AL {p:Prop}[Decidable p]{X Y:Prop}(h1:p->Y)(h2:¬p->X):aq (!decide p) X Y:=by
 by_cases h:p
 .rw[decide_eq_true h];exact bY rfl (h1 h)
 .rw[decide_eq_false h];exact cO rfl (h2 h)
def lP (l:List UInt64):Prop:=∀ x∈l,x.toNat<18446744069414584321
instance (l :List UInt64):Decidable (lP l):=by unfold lP;infer_instance
theorem vy (H:Hp)(A:OA)(n m:Nat)(xs:List UInt64)(hn:n=xs.length)(hl:n<=1000000000)(hc:Cells H A (af xs)):
  ∀(t j:Nat),j+t=n->(∀ k x,k<j->xs[k]? =some x->x.toNat<18446744069414584321)->
   aO.l2 (fun v H'=>(∃ i:Int,v= I i/\(i<0↔lP xs))/\H'=H) (t+1) A n m 210 #[] #[] (n:Int) (j:Int) H
 |0,j,hj,hall=>by
  unfold aO.l2;refine au (by omega) ⟨⟨-1,rfl,fun _ x hx=>?_,fun _=>by decide⟩,rfl⟩;obtain⟨k,hk,rfl⟩:=List.getElem_of_mem hx;exact hall k _ (by omega) (List.getElem?_eq_getElem hk)
 |t+1,j,hj,hall=>by
  unfold aO.l2;refine aA (by omega) ?_;have hg:xs[j]? =some (xs[j]'(by omega)):=List.getElem?_eq_getElem (by omega);have hg2:(af xs)[j]? =some (U ((xs[j]'(by omega)).toNat:Int)):=by rw[ct,hg];rfl
  refine hc.read hg2 rfl (by rw[aB];omega) ?_;simp only[HV];refine cO (by kernel_rfl) ?_;have hv:aa prog 210 #[U ((xs[j]'(by omega)).toNat:Int)] H (RetE (.bool (!(decide (((xs[j]'(by omega)).toNat:Int)<18446744069414584321)))) H):=by
   apply kL.ok;unfold kL;have hg:aa prog 211 #[U ((xs[j]'(by omega)).toNat:Int)] H (RetE (.bool (decide (((xs[j]'(by omega)).toNat:Int)<18446744069414584321))) H):=by
    apply oF.ok;unfold oF;exact RetE.mk _ _
   refine aa.use hg ?_;simp only[HV];exact RetE.mk _ _
  refine aa.use hv ?_;have hr:eM prog 210=[4]:=by kernel_rfl
  rw[hr];refine Jm _ _ ?_;simp only[HV];generalize hz:((xs[j]'(by omega)).toNat:Int)=z at*;refine AL (fun hx=>?_) (fun hx=>?_)
  .rw[bg (x:=(j:Int)+1)];refine vy H A n m xs hn hl hc t (j+1) (by omega) fun k x hk hkx=>?_
   by_cases e:k=j
   .subst e;rw[hg]at hkx;have:=Option.some.inj hkx;rw[this]at hz;omega
   .exact hall k x (by omega) hkx
  .refine⟨⟨j,rfl,fun h=>by omega,fun h=>?_⟩,by trivial⟩;have:=h _ (List.getElem_mem (show j<xs.length by omega));omega
theorem Ej (A:OA)(n m:Nat)(xs:List UInt64)(hn:n=xs.length)(hl:n<=1000000000)(H:Hp)(hc:Cells H A (af xs)):
  aa prog 146 #[.slice A n m] H fun v H'=>(∃ i:Int,v= .tuple #[I i,.bool (decide (lP xs))])/\H'=H:=by
 apply l0.ok;unfold l0;have hI:aa prog 209 #[.slice A n m,.func (.func 210) #[] #[]] H (fun v H'=>(∃ i:Int,v= I i/\(i<0↔lP xs))/\H'=H):=by
  apply aO.ok;unfold aO;exact⟨n+1,vy H A n m xs hn hl hc n 0 (by omega) fun k x hk=>absurd hk (by omega)⟩
 refine aa.mono hI ?_;rintro _ _ ⟨⟨i,rfl,hi⟩,rfl⟩;simp only[HV];by_cases h:i<0
 .rw[decide_eq_true h,decide_eq_true (hi.1 h)];exact⟨⟨_,rfl⟩,by trivial⟩
 .rw[decide_eq_false h,decide_eq_false (fun hh=>h (hi.2 hh))];exact⟨⟨_,rfl⟩,by trivial⟩
inductive qB (l:List UInt64)(aG:Int):Int→Int→Int→Prop
 |len (h:lg (l.length:Int)=none):qB l aG 0 0 4
 |kV {k:Nat} (h:lg (l.length:Int)=some k) (h2:aG<k):qB l aG 0 0 14
 |word {k:Nat} {i:Int} (h:lg (l.length:Int)=some k) (h2:(k:Int)≤aG) (h3:¬lP l):qB l aG 0 i 3
 |ok {k:Nat} (h:lg (l.length:Int)=some k) (h2:(k:Int)≤aG) (h3:lP l):qB l aG k 0 0
theorem EA (A:OA)(n m:Nat)(xs:List UInt64)(aG:Int)(hn:n=xs.length)(hl:n<=1000000000)(H:Hp)(hT:T64 H)(hc:Cells H A (af xs)):
  aa prog 131 #[.slice A n m,I aG] H fun v H'=>(∃ k i e,qB xs aG k i e/\v= .tuple #[I k,I i,I e])/\H'=H:=by
 apply nf.ok;unfold nf;refine aa.use (pM (n:Int) H hT) ?_;unfold eV;rw[hn];cases e:lg (xs.length:Int)with
 |none=>
  simp only[HV];exact⟨⟨_,_,_,.len e,rfl⟩,by trivial⟩
 |some k=>
  simp only[HV];by_cases h2:(k:Int)>aG
  .exact aA h2 ⟨⟨_,_,_,.kV e h2,rfl⟩,by trivial⟩
  .refine au h2 ?_;refine aa.mono (Ej A xs.length m xs rfl (by omega) H hc) ?_;rintro _ _ ⟨⟨i,rfl⟩,rfl⟩;simp only[HV];refine AL (fun hx=>?_) (fun hx=>?_)
   .exact⟨⟨_,_,_,.ok e (by omega) hx,rfl⟩,by trivial⟩
   .exact⟨⟨_,_,_,.word e (by omega) hx,rfl⟩,by trivial⟩
def BA (ae k:Nat):Nat:=iO ae 9 (2^k) 0 (2^k)
def yU (ae k:Nat):Nat:=(dy ae 9 (2^k) 0 (2^k)).length
theorem wR (ae k:Nat):BA ae k<=yU ae k:=List.length_filter_le _ _
theorem wS (ae k:Nat):yU ae k<=2^k:=iR ae 9 (2^k) 0 (2^k)
def BD (mp dp ap rp:Nat)(e:Eg)(A:OA)(n mm:Nat)(d:D)(c:Cn)(k:Nat)(l:List UInt64)(R:As)(v:Value)(M:List As):Prop:=
 ∃ peak':Int,peak'<=e.aX/\
 ((∃ d' c',fh d d' (BA (D.ae d) k+nS (D.ae d) (2^k)) (yU (D.ae d) k) 1/\Clean d' c'/\pW (iy (eO e.aG (D.ae d) 0 k)) c c'/\jS c' (D.ae d) 9 (2^k)=l/\v= .tuple #[Oi (kX l:Int),I 0]/\M=[ah mp (bW e ap rp A n mm),Ar ap e.aX peak' [],Dk dp d',R])\/
 (∃ d' s,fY d d' (BA (D.ae d) k+yU (D.ae d) k+1+nS (D.ae d) (2^k))/\Left d' (fun c'=>pW (iy (eO e.aG (D.ae d) 0 k)) c c')/\v= .tuple #[Oi s,I 8]/\M=[ah mp (bW e ap rp A n mm),Ar ap e.aX peak' [],Dk dp d',R]))
theorem Ig {mp dp ap rp:Nat}{e:Eg}{A:OA}{n mm:Nat}{d:D}{c:Cn}{k:Nat}{l:List UInt64}{R:As}{As:OA}{ns ms:Nat}(hc:Clean d c)(he:mW e d)(hk:k<=e.aG)(ho:d.rd<=100000000000/\d.wr<=100000000000/\d.sy<=100000000000)
  (hl:l.length=2^k) (hns:ns=l.length) (hms:ns<=ms) (hR:∀ H,R H->Cells H As (af l)):
  Tr prog 134 #[V mp,V dp,I (k:Int),.slice As ns ms] [ah mp (bW e ap rp A n mm),Ar ap e.aX e.aj [],Dk dp d,R] (BD mp dp ap rp e A n mm d c k l R):=fun H hs=>by
 subst hns;have hok:=hc.ok;have hpd:=Ok.dQ hok;have hlay:=he.lay;have hm32:=he.aG;have h2k:=gO (k:=k);have h2p:=Nat.two_pow_pos k;have hpk:=he.aj;have hcap:=he.aX;have hper:=he.ae;have hcapd:D.ae d<=e.aX:=by
  have:=he.least;unfold ec at this;rw[hper]at this;omega
 have hx0:On d (eO e.aG (D.ae d) 0 k):=hlay.on hok (by omega) hk;obtain⟨x,hX⟩:∃ x,x=eO e.aG (D.ae d) 0 k:=⟨_,rfl⟩;have hx:On d x:=by rw[hX];exact hx0
 have hxw:x.w=l.length:=by rw[hX,hl];rfl
 have hxf:x.f=9:=by rw[hX];show 9+0*_=9;omega
 have KQ:iO (D.ae d) x.f l.length 0 l.length=BA (D.ae d) k:=by rw[hxf,hl];rfl
 have hwW:(dy (D.ae d) x.f l.length 0 l.length).length=yU (D.ae d) k:=by rw[hxf,hl];rfl
 have hb1:=wR (D.ae d) k;have hb2:=wS (D.ae d) k;have hin:=Am hx;apply aV.ok;unfold aV;have j2:∀ q H,Sep [Dk dp d,ah q (ba dp ap x),ah mp (bW e ap rp A n mm),Ar ap e.aX e.aj [],R] H->aV.j2 (fun v H'=>∃ M,BD mp dp ap rp e A n mm d c k l R v M/\Sep M H') (Oo dp) As l.length ms 0 (Oo q) H:=fun q H hs=>by
  unfold aV.j2;refine bH rfl ?_;have bad:∀(peak':Int) (d':D) (s:Int) (H:Hp),peak'<=e.aX->fY d d' (BA (D.ae d) k+yU (D.ae d) k+1+nS (D.ae d) (2^k))->Left d' (fun c'=>pW (iy x) c c')->Sep [ah mp (bW e ap rp A n mm),Ar ap e.aX peak' [],Dk dp d',R] H->∃ M,BD mp dp ap rp e A n mm d c k l R (.tuple #[Oi s,I 8]) M/\Sep M H:=fun peak' d' s H h1 h2 h3 hs=>
   ⟨_,⟨peak',h1,.inr ⟨d',s,h2,by rw[<- hX];exact h3,rfl,rfl⟩⟩,hs⟩
  refine(sS (p:=q) (dp:=dp) (ap:=ap) (d:=d) (x:=x) (cap:=e.aX) (aj:=e.aj) (bufs:=[]) (src:=l) hok hc.down hx (by omega) 0 rfl (by omega) (by omega) hms (by rw[fH];omega) hR).use hs [1,0,3,4] rfl rfl ?_;have hpk1:mx e.aj (aW []+(D.ae d:Int))<=e.aX:=so hpk (by rw[fH];omega);rintro _ _ H (⟨hP,rfl,rfl⟩|⟨d',hD,hfu,rfl,rfl⟩) hs
  .simp only[HV];unfold aV.j4;refine bH rfl ?_;have h2:=hP.sy;have hrd:=hP.rd;have hwr:=hP.wr;rw[KQ,hwW]at hP;refine(pO (p:=dp) hP.ok (by rw[h2];omega)).use hs [1] rfl rfl ?_;rintro _ _ H ⟨rfl,rfl⟩ hs;have hpw:=Ke x hok l;generalize hd1:j3 d x l.length 0 l=d1 at*;have hpe1:D.ae d1=D.ae d:=hP.ae;have hsam:pW (iy x) c d1.now:=fun i hi=>(hc.prog hP i).2 hi
   have hcw:jS d1.now (D.ae d) 9 (2^k)=l:=by rw[<- hxf,<-hpe1,<-hl,<-oq (d:=d1) (c:=d1.now) (fun _=>rfl) x l.length];exact hpw
   rcases hc.sync hP hin with⟨e0,hw2,hc2⟩|⟨e0,hcut,hleft⟩
   .rw[e0];simp only[HV];unfold aV.j6;refine aF rfl ?_;have hs:Sep [Dk dp d1.fm,ah q (ba dp ap x),Ar ap e.aX (mx e.aj (aW []+(D.ae d:Int))) [],R,ah mp (bW e ap rp A n mm)] H:=hs;have hpe2:D.ae d1.fm=D.ae d:=hw2.ae;have hrd2:=hw2.rd;have hx2:On d1.fm x:=⟨hx.w1,hx.s1,by rw[hw2.sec];exact hx.fit,by rw[hpe2];exact hx.room⟩;refine(xb (p:=q) (dp:=dp) (ap:=ap) (x:=x) (cap:=e.aX) (aj:=mx e.aj (aW []+(D.ae d:Int))) (bufs:=[]) hc2.ok hc2.down hx2 (by omega) (by rw[fH,hpe2];omega)).use hs [1,0,2] rfl rfl ?_;have hw0:dE d1.fm x 0 x.w=l:=by rw[oq hc2.now,hpe2,hxf,hxw,hl];exact hcw
    have hpk2:mx (mx e.aj (aW []+(D.ae d:Int))) (aW []+(D.ae d1.fm:Int))<=e.aX:=so hpk1 (by rw[fH,hpe2];omega);rintro _ _ H (⟨hf,rfl,rfl⟩|⟨j,hj,hf,rfl,rfl⟩) hs
    .rw[hw0];simp only[HV];rw[hpe2,hxw,hl]at hf hs;have hgo:=hw2.trans (fh.bE hf);refine⟨_,⟨_,hpk2,.inl ⟨_,_,hgo,hc2.bE _,by rw[<- hX];exact hsam,hcw,rfl,rfl⟩⟩,?_⟩;rw[hpe2];exact hs.re [4,2,1,3] rfl
    .simp only[HV];rw[hpe2,hxw,hl]at hj;refine bad _ _ _ H hpk2 ((hw2.cut (fY.bE hc2 hf hj)).more (by omega)) ((Left.bE hc2 j).mono fun c' e=>by rw[e];exact hsam) (hs.re [4,2,1,3] rfl)
   .rw[e0];simp only[HV];unfold aV.j6;refine aU (by decide) ?_;refine bad _ _ _ H hpk1 (hcut.more (by omega)) (hleft.mono fun _ h=>h.2) (hs.re [4,2,0,3] rfl)
  .simp only[HV];unfold aV.j4;refine bT (by decide) ?_;unfold aV.j6;refine aU (by decide) ?_;have hf1:1<=d.aH:=by have h1:=hD.sX;have h2:=hD.rd;have h3:=hD.wr;omega
   rw[KQ,hwW]at hfu;refine bad _ _ _ H hpk1 ((hc.xk hD hin hfu hf1).more (by omega)) (hc.u4 hD) (hs.re [4,2,1,3] rfl)
 have pipe:∀ H,Sep [ah mp (bW e ap rp A n mm),Ar ap e.aX e.aj [],Dk dp d,R] H->aa prog 165 #[V dp,V ap,.agg (Lay.ir e.aG (D.ae d)),I 0,I (k:Int)] H fun v H1=>∃ q,v= .tuple #[V q,I 0]/\Sep [Dk dp d,ah q (ba dp ap x),ah mp (bW e ap rp A n mm),Ar ap e.aX e.aj [],R] H1:=fun H hs=>by
  refine(tR (dp:=dp) (ap:=ap) (i:=0) hok hlay (by omega) hk).use hs [2] rfl rfl ?_;rintro _ _ H ⟨q,rfl,rfl⟩ hs;exact⟨q,rfl,by rw[hX];exact hs⟩
 have eb:(((ta e ap rp A n mm).toList.drop 4).take 17).toArray=Lay.ir e.aG (D.ae d):=by rw[<- hper];rfl
 try simp only[HS]
 constructor
 .refine hs.ld 0 (v:=V ap) rfl rfl ?_;simp only[HV];refine hs.nH 0 (off:=4) (n:=17) rfl (by show 4+17<=32;omega) ?_;rw[eb];refine aa.mono (pipe H hs) ?_;rintro _ H ⟨q,rfl,hs⟩;simp only[HV];exact j2 q H hs
 .refine hs.nH 0 (off:=4) (n:=17) rfl (by show 4+17<=32;omega) ?_;refine hs.ld 0 (v:=V ap) rfl rfl ?_;simp only[HV];rw[eb];refine aa.mono (pipe H hs) ?_;rintro _ H ⟨q,rfl,hs⟩;simp only[HV];exact j2 q H hs
end Eng
end Go.Proofs.YtlgnlghmbcpmhaaGreatDoor
