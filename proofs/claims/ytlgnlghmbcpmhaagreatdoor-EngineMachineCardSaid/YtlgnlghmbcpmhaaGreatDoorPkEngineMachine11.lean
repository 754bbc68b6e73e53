import Derived.Test.YtlgnlghmbcpmhaaGreatDoorProg
import Derived.Test.YtlgnlghmbcpmhaaGreatDoorPkEngineMachine10
set_option maxRecDepth 100000
set_option linter.unusedVariables false
set_option linter.unusedSimpArgs false
set_option linter.unnecessarySimpa false
set_option linter.unusedSectionVars false
open Go.IntKind (i64)
namespace Go.Proofs.YtlgnlghmbcpmhaaGreatDoor
open Tryz (prog)
namespace W
open Go Go.Hw
theorem bZu :prog.follows .mixedOrders=true:=by kernel_rfl
def Zi.j29.q1 (y7:Array Value)(x18 x15 x19:Int)(K:VK)(H28:Hp)(p9:OA)(a6:Addr)(R13:OA->Nat->Nat->Int->OA->OA->Addr->Addr->Int->Hp->Prop)(A6:OA)(n6 m6:Nat)(p8:OA)(a7:Addr)(x16:Int):=
 EqV prog .neq 45 (.agg y7) (.agg #[I x18,I x15,I 32,I x19]) fun c7=>BIf c7 (K (.bool false) H28) (QcI 22 #[.pointer p9] H28 fun x20=>LeI H28 (a6.add 7) fun x21=>BIf (decide (x20>x21)) (K (.bool false) H28) (R13 A6 n6 m6 x15 p8 p9 a6 a7 (i64.wrap (x16+1)) H28))
def Zi.j29 (K:VK)(R13:OA->Nat->Nat->Int->OA->OA->Addr->Addr->Int->Hp->Prop)(A6:OA)(n6 m6:Nat)(x15:Int)(p8 p9:OA)(a6 a7:Addr)(x16:Int)(H:Hp):=
 LdA H a6 12 fun l22=>StA H a7 l22.toArray 12 fun H27=>LeI H27 ((a6.add 0).add 0) fun x17=>BIf (decide (x17>0)) ((HcA 21 #[.pointer p9] H27 fun y7 H28=>LeI H28 (a6.add 6) fun x18=>LeI H28 (a6.add 7) fun x19=>Zi.j29.q1 y7 x18 x15 x19 K H28 p9 a6 R13 A6 n6 m6 p8 a7 x16)/\(LeI H27 (a6.add 6) fun x22=>(HcA 21 #[.pointer p9] H27 fun y8 H29=>LeI H29 (a6.add 7) fun x23=>Zi.j29.q1 y8 x22 x15 x23 K H29 p9 a6 R13 A6 n6 m6 p8 a7 x16)/\(LeI H27 (a6.add 7) fun x26=>HcA 21 #[.pointer p9] H27 fun y9 H30=>Zi.j29.q1 y9 x22 x15 x26 K H30 p9 a6 R13 A6 n6 m6 p8 a7 x16))/\(LeI H27 (a6.add 7) fun x29=>(HcA 21 #[.pointer p9] H27 fun y10 H31=>LeI H31 (a6.add 6) fun x30=>Zi.j29.q1 y10 x30 x15 x29 K H31 p9 a6 R13 A6 n6 m6 p8 a7 x16)/\(LeI H27 (a6.add 6) fun x33=>HcA 21 #[.pointer p9] H27 fun y11 H32=>Zi.j29.q1 y11 x33 x15 x29 K H32 p9 a6 R13 A6 n6 m6 p8 a7 x16))) ((R13 A6 n6 m6 x15 p8 p9 a6 a7 (i64.wrap (x16+1)) H27)/\((R13 A6 n6 m6 x15 p8 p9 a6 a7 (i64.wrap (x16+1)) H27)/\(R13 A6 n6 m6 x15 p8 p9 a6 a7 (i64.wrap (x16+1)) H27))/\((R13 A6 n6 m6 x15 p8 p9 a6 a7 (i64.wrap (x16+1)) H27)/\(R13 A6 n6 m6 x15 p8 p9 a6 a7 (i64.wrap (x16+1)) H27)))
def Zi.j22 (K:VK)(R13:OA->Nat->Nat->Int->OA->OA->Addr->Addr->Int->Hp->Prop)(A4:OA)(n4 m4:Nat)(x10:Int)(p6 p7:OA)(a4 a5:Addr)(x11 x12 x13:Int)(H:Hp):=
 BIf (x12 !=x13) ((K (.bool false) H)/\(K (.bool false) H)) (BIf (x13==0) ((HcA 18 #[.pointer p7] H fun y2 H14=>LdA H14 (a5.add 0) 6 fun l7=>EqV prog .neq 30 (.agg y2) (.agg l7.toArray) fun c2=>BIf c2 (K (.bool false) H14) (LdA H14 a5 12 fun l9=>StA H14 a4 l9.toArray 12 fun H16=>R13 A4 n4 m4 x10 p6 p7 a4 a5 (i64.wrap (x11+1)) H16))/\(LdA H (a5.add 0) 6 fun l8=>HcA 18 #[.pointer p7] H fun y3 H15=>EqV prog .neq 30 (.agg y3) (.agg l8.toArray) fun c3=>BIf c3 (K (.bool false) H15) (LdA H15 a5 12 fun l10=>StA H15 a4 l10.toArray 12 fun H17=>R13 A4 n4 m4 x10 p6 p7 a4 a5 (i64.wrap (x11+1)) H17))) ((LdA H a5 12 fun l11=>StA H a4 l11.toArray 12 fun H18=>R13 A4 n4 m4 x10 p6 p7 a4 a5 (i64.wrap (x11+1)) H18)/\(LdA H a5 12 fun l12=>StA H a4 l12.toArray 12 fun H19=>R13 A4 n4 m4 x10 p6 p7 a4 a5 (i64.wrap (x11+1)) H19)))
def Zi.l13 (K:VK):Nat->OA->Nat->Nat->Int->OA->OA->Addr->Addr->Int->Hp->Prop
 |0,_,_,_,_,_,_,_,_,_,_=>False
 |k+1,A2,n2,m2,x3,p4,p5,a1,a2,x4,H=>
  let R13:=Zi.l13 K k
  BIf (decide (x4<(n2:Int))) (ixI x4 n2 (NN A2 fun a3=>LdA H (a3.add (x4.toNat*5)) 5 fun l2=>Nw H (Is #[I 0,I 0,I 0,.slice none 0 0,.slice none 0 0] 37) fun b3 H11=>StA H11 (O b3) l2.toArray 5 fun H12=>LeI H12 ((O b3).add 0) fun x5=>BIf (x5==9) (R13 A2 n2 m2 x3 p4 p5 a1 a2 (i64.wrap (x4+1)) H12) (LeI H12 ((O b3).add 0) fun x6=>BIf (x6==10) (R13 A2 n2 m2 x3 p4 p5 a1 a2 (i64.wrap (x4+1)) H12) (LdA H12 (O b3) 5 fun l3=>Hz 17 #[.pointer p4,.pointer p5,.agg l3.toArray] H12 fun v9 H13=>wZW v9 fun x7 A3 n3 m3=>(LeI H13 ((O b3).add 0) fun x8=>BIf (x8==8) (LeI H13 ((a2.add 0).add 0) fun x9=>BIf (x9==0) (Zi.j22 K R13 A2 n2 m2 x3 p4 p5 a1 a2 x4 x7 11 H13) (Zi.j22 K R13 A2 n2 m2 x3 p4 p5 a1 a2 x4 x7 0 H13)) (LdA H13 a1 12 fun l13=>LdA H13 (O b3) 5 fun l14=>Hz 19 #[.agg l13.toArray,.agg l14.toArray] H13 fun v16 H20=>uZY v16 fun y4 x14 A5 n5 m5=>(Nw H20 (Is #[I 0,I 0,I 0,I 0,I 0,I 0,I 0,I 0,I 0,I 0,I 0,.slice none 0 0] 33) fun b4 H21=>StA H21 (O b4) y4 12 fun H22=>LdA H22 (O b4) 12 fun l19=>StA H22 a1 l19.toArray 12 fun H23=>BIf (x7 !=x14) ((K (.bool false) H23)/\(K (.bool false) H23)) (HcB 20 #[.slice A3 n3 m3,.slice A5 n5 m5] H23 fun c4 H24=>BIf (!c4) ((K (.bool false) H24)/\(K (.bool false) H24)) ((HcA 18 #[.pointer p5] H24 fun y5 H25=>LdA H25 (a1.add 0) 6 fun l20=>EqV prog .neq 30 (.agg y5) (.agg l20.toArray) fun c5=>BIf c5 (K (.bool false) H25) (Zi.j29 K R13 A2 n2 m2 x3 p4 p5 a1 a2 x4 H25))/\(LdA H24 (a1.add 0) 6 fun l21=>HcA 18 #[.pointer p5] H24 fun y6 H26=>EqV prog .neq 30 (.agg y6) (.agg l21.toArray) fun c6=>BIf c6 (K (.bool false) H26) (Zi.j29 K R13 A2 n2 m2 x3 p4 p5 a1 a2 x4 H26))))))))))) (K (.bool true) H)
def Zi (x1:Int)(A1:OA)(n1 m1:Nat)(H:Hp)(K:VK):Prop:=
 HcB 12 #[] H fun c1 H1=>BIf (!c1) (K (.bool false) H1) (HcI 13 #[.slice A1 n1 m1] H1 fun x2 H2=>BIf (x2 !=0) (K (.bool true) H2) (((48:Int)≠0/\i64=i64/\HcP 14 #[I (i64.wrap (13+(Int.tmod (i64.wrap x1) 48))),I 32] H2 fun p1 H3=>HcP 15 #[.pointer p1] H3 fun p2 H4=>BIf p1.isNone (K (.bool false) H4) (BIf p2.isNone (K (.bool false) H4) (HcP 15 #[.pointer none] H4 fun p3 H5=>BIf (!p3.isNone) (K (.bool false) H5) (HcA 16 #[I (i64.wrap (13+(Int.tmod (i64.wrap x1) 48)))] H5 fun y1 H6=>Nw H6 (Is #[I 0,I 0,I 0,I 0,I 0,I 0,I 0,I 0,I 0,I 0,I 0,.slice none 0 0] 33) fun b1 H7=>StA H7 (O b1) y1 12 fun H8=>LdA H8 (O b1) 12 fun l1=>Nw H8 (Is #[I 0,I 0,I 0,I 0,I 0,I 0,I 0,I 0,I 0,I 0,I 0,.slice none 0 0] 33) fun b2 H9=>StA H9 (O b2) l1.toArray 12 fun H10=>(∃ k,Zi.l13 K k A1 n1 m1 (i64.wrap (13+(Int.tmod (i64.wrap x1) 48))) p1 p2 (O b1) (O b2) 0 H10)))))))
def Zi.l13.L (K:VK)(k:Nat):Mid:=fun E D H=>
 DG (E.get? 1) fun w1=>DSl w1 fun A2 n2 m2=>eI E 5 .i64 fun x3=>eP E 6 fun p4=>eP E 7 fun p5=>eN E 8 fun a1=>eN E 9 fun a2=>eI E 10 .i64 fun x4=>Zj D (Zi.l13 K k A2 n2 m2 x3 p4 p5 a1 a2 x4 H)
def Zi.Λ13 (K:VK)(R13:OA→Nat→Nat→Int→OA→OA→Addr→Addr→Int→Hp→Prop):Zs:=⟨fun i=>match Nat.beq i 29 with|true=>some (fun E D H=>DG (E.get? 1) fun w1=>DSl w1 fun A6 n6 m6=>eI E 5 .i64 fun x15=>eP E 6 fun p8=>eP E 7 fun p9=>eN E 8 fun a6=>eN E 9 fun a7=>eI E 10 .i64 fun x16=>Zj D (Zi.j29 K R13 A6 n6 m6 x15 p8 p9 a6 a7 x16 H))|false=>match Nat.beq i 22 with|true=>some (fun E D H=>DG (E.get? 1) fun w1=>DSl w1 fun A4 n4 m4=>eI E 5 .i64 fun x10=>eP E 6 fun p6=>eP E 7 fun p7=>eN E 8 fun a4=>eN E 9 fun a5=>eI E 10 .i64 fun x11=>eI E 12 .i64 fun x12=>eI E 14 .i64 fun x13=>Zj D (Zi.j22 K R13 A4 n4 m4 x10 p6 p7 a4 a5 x11 x12 x13 H))|false=>none,fun i=>none,(fun i=>match Nat.beq i 30 with|true=>some ([2,8,11,16,18],[0,1,3,7,15,31,63,31,159,31,31,1055,3999,8191,16383,32767,65535,32767,163839,524287,1048575,2097151],0)|false=>match Nat.beq i 27 with|true=>some ([],[0,0,3,7,15,15,63,127,255,511,1023,2047,1023,5119,16383,32767],0)|false=>match Nat.beq i 22 with|true=>some ([],[0,0,3,7,15,31,63,127,255,127,639,2047,4095,8191],0)|false=>none)⟩
def Zi.Λ (K:VK):Zs:=⟨fun i=>none,fun i=>match Nat.beq i 13 with|true=>some (fun E D H=>∃ k,Zi.l13.L K k E D H)|false=>none,(fun i=>match Nat.beq i 30 with|true=>some ([2,8,11,16,18],[0,1,3,7,15,31,63,31,159,31,31,1055,3999,8191,16383,32767,65535,32767,163839,524287,1048575,2097151],0)|false=>match Nat.beq i 27 with|true=>some ([],[0,0,3,7,15,15,63,127,255,511,1023,2047,1023,5119,16383,32767],0)|false=>match Nat.beq i 22 with|true=>some ([],[0,0,3,7,15,31,63,127,255,127,639,2047,4095,8191],0)|false=>none)⟩
theorem Zi.ok x1 A1 n1 m1 H K (h:Zi x1 A1 n1 m1 H K):Za prog 3 #[.int .u8 x1,.slice A1 n1 m1] H K:=
 okL (Λ:=(Zi.Λ K)) bZu Tryz.func3 rfl rfl h (oC (fun E D H h=>by
   refine Safe.loop' (Zi.l13.L K) (fun E D H h=>?_) (fun k E D H h=>?_) E D H h
   ·obtain⟨w1,e1,g1⟩:=DG.out h;obtain⟨A2,n2,m2,rfl,g2⟩:=DSl.out g1;obtain⟨w5,e5,g3⟩:=DG.out g2;obtain⟨x3,rfl,g4⟩:=DI.out g3;obtain⟨w6,e6,g5⟩:=DG.out g4;obtain⟨p4,rfl,g6⟩:=DP.out g5;obtain⟨w7,e7,g7⟩:=DG.out g6;obtain⟨p5,rfl,g8⟩:=DP.out g7;obtain⟨w8,e8,g9⟩:=DG.out g8;obtain⟨pw8,rfl,g10⟩:=DP.out g9;obtain⟨a1,rfl,g11⟩:=NN.out g10;obtain⟨w9,e9,g12⟩:=DG.out g11;obtain⟨pw9,rfl,g13⟩:=DP.out g12;obtain⟨a2,rfl,g14⟩:=NN.out g13;obtain⟨w10,e10,g15⟩:=DG.out g14;obtain⟨x4,rfl,g16⟩:=DI.out g15;obtain⟨rfl,h'⟩:=Zj.out g16;exact h'
   ·obtain⟨w1,e1,g1⟩:=DG.out h;obtain⟨A2,n2,m2,rfl,g2⟩:=DSl.out g1;obtain⟨x3,e5,g4⟩:=GI g2;obtain⟨p4,e6,g6⟩:=GP g4;obtain⟨p5,e7,g8⟩:=GP g6;obtain⟨a1,e8,g11⟩:=GN g8;obtain⟨a2,e9,g14⟩:=GN g11;obtain⟨x4,e10,g16⟩:=GI g14;obtain⟨rfl,h'⟩:=Zj.out g16;exact okJ (Λ:=(Zi.Λ13 K (Zi.l13 K k))) bZu [] (Zc.cons e1 (Zc.cons e5 (Zc.cons e6 (Zc.cons e7 (Zc.cons e8 (Zc.cons e9 (Zc.cons e10 (Zc.nil _)))))))) h' (oC (fun E D H h=>by
      obtain⟨w1,e1,g1⟩:=DG.out h;obtain⟨A4,n4,m4,rfl,g2⟩:=DSl.out g1;obtain⟨x10,e5,g4⟩:=GI g2;obtain⟨p6,e6,g6⟩:=GP g4;obtain⟨p7,e7,g8⟩:=GP g6;obtain⟨a4,e8,g11⟩:=GN g8;obtain⟨a5,e9,g14⟩:=GN g11;obtain⟨x11,e10,g16⟩:=GI g14;obtain⟨x12,e12,g18⟩:=GI g16;obtain⟨x13,e14,g20⟩:=GI g18;obtain⟨rfl,h'⟩:=Zj.out g20;exact okJ (Λ:=(Zi.Λ13 K (Zi.l13 K k))) bZu [] (Zc.cons e1 (Zc.cons e5 (Zc.cons e6 (Zc.cons e7 (Zc.cons e8 (Zc.cons e9 (Zc.cons e10 (Zc.cons e12 (Zc.cons e14 (Zc.nil _)))))))))) h' oN) (oC (fun E D H h=>by
      obtain⟨w1,e1,g1⟩:=DG.out h;obtain⟨A6,n6,m6,rfl,g2⟩:=DSl.out g1;obtain⟨x15,e5,g4⟩:=GI g2;obtain⟨p8,e6,g6⟩:=GP g4;obtain⟨p9,e7,g8⟩:=GP g6;obtain⟨a6,e8,g11⟩:=GN g8;obtain⟨a7,e9,g14⟩:=GN g11;obtain⟨x16,e10,g16⟩:=GI g14;obtain⟨rfl,h'⟩:=Zj.out g16;exact okJ (Λ:=(Zi.Λ13 K (Zi.l13 K k))) bZu [] (Zc.cons e1 (Zc.cons e5 (Zc.cons e6 (Zc.cons e7 (Zc.cons e8 (Zc.cons e9 (Zc.cons e10 (Zc.nil _)))))))) h' oN) oN))) oN)
def dZa (H:Hp)(K:VK):Prop:=
 HcP 14 #[I 30,I 32] H fun p1 H1=>HcP 15 #[.pointer p1] H1 fun p2 H2=>BIf p2.isNone (K (.bool false) H2) (HcI 69 #[.pointer p2,I 2,I 12] H2 fun x1 H3=>BIf (x1 !=0) (K (.bool false) H3) (Nw H3 (.row [U 1,U 0,U 0,U 0] 108 4) fun b1 H4=>Hz 70 #[.pointer p2,.slice (Io b1) 4 4] H4 fun v4 H5=>jZq v4 fun x2 x3=>(HcI 71 #[.pointer p2,I 0] H5 fun x4 H6=>Hz 62 #[.pointer p2] H6 fun v8 H7=>tZO v8 fun c1 x5=>(Hz 72 #[.pointer p2] H7 fun v11 H8=>eZe v11 fun A1 n1 m1 x6=>(BIf (x3==0) (BIf (x4==0) (BIf c1 (BIf (x5==0) (BIf (x6==0) (Nw H8 (.row [U 1,U 1,U 1,U 1] 108 4) fun b2 H9=>HcB 20 #[.slice A1 n1 m1,.slice (Io b2) 4 4] H9 fun c2 H10=>K (.bool c2) H10) (K (.bool false) H8)) (K (.bool false) H8)) (K (.bool false) H8)) (K (.bool false) H8)) (K (.bool false) H8))))))
theorem dZa.ok H K (h:dZa H K):Za prog 12 #[] H K:=
 okN bZu Tryz.func12 rfl rfl h
def aZf.l4 (K:VK):Nat->OA->Nat->Nat->Int->Hp->Prop
 |0,_,_,_,_,_=>False
 |k+1,A2,n2,m2,x1,H=>
  let R4:=aZf.l4 K k
  BIf (decide (x1<(n2:Int))) (ixI x1 n2 (NN A2 fun a1=>LeS H ((a1.add (x1.toNat*5)).add 3) fun A3 n3 m3=>BIf (decide ((n3:Int)>32)) (K (I 2) H) (ixI x1 n2 (NN A2 fun a2=>LeS H ((a2.add (x1.toNat*5)).add 4) fun A4 n4 m4=>BIf (decide ((n4:Int)>40)) (K (I 2) H) (R4 A2 n2 m2 (i64.wrap (x1+1)) H))))) (K (I 0) H)
def aZf (A1:OA)(n1 m1:Nat)(H:Hp)(K:VK):Prop:=
 BIf (decide ((n1:Int)>40)) (K (I 1) H) ((∃ k,aZf.l4 K k A1 n1 m1 0 H))
def aZf.l4.L (K:VK)(k:Nat):Mid:=fun E D H=>
 DG (E.get? 0) fun w0=>DSl w0 fun A2 n2 m2=>eI E 3 .i64 fun x1=>Zj D (aZf.l4 K k A2 n2 m2 x1 H)
def aZf.Λ4 (_:VK)(_R4:OA->Nat->Nat->Int->Hp->Prop):Zs:=Zs.none (fun _=>none)
def aZf.Λ (K:VK):Zs:=⟨fun i=>none,fun i=>match Nat.beq i 4 with|true=>some (fun E D H=>∃ k,aZf.l4.L K k E D H)|false=>none,(fun _=>none)⟩
theorem aZf.ok A1 n1 m1 H K (h:aZf A1 n1 m1 H K):Za prog 13 #[.slice A1 n1 m1] H K:=
 okL (Λ:=(aZf.Λ K)) bZu Tryz.func13 rfl rfl h (oC (fun E D H h=>by
   refine Safe.loop' (aZf.l4.L K) (fun E D H h=>?_) (fun k E D H h=>?_) E D H h
   ·obtain⟨w0,e0,g1⟩:=DG.out h;obtain⟨A2,n2,m2,rfl,g2⟩:=DSl.out g1;obtain⟨w3,e3,g3⟩:=DG.out g2;obtain⟨x1,rfl,g4⟩:=DI.out g3;obtain⟨rfl,h'⟩:=Zj.out g4;exact h'
   ·obtain⟨w0,e0,g1⟩:=DG.out h;obtain⟨A2,n2,m2,rfl,g2⟩:=DSl.out g1;obtain⟨x1,e3,g4⟩:=GI g2;obtain⟨rfl,h'⟩:=Zj.out g4;exact okJ (Λ:=(aZf.Λ4 K (aZf.l4 K k))) bZu [] (Zc.cons e0 (Zc.cons e3 (Zc.nil _))) h' oN) oN)
def dZu (x1:Int)(H:Hp)(K:VK):Prop:=
 Nw H (Is #[I 0,I 0,I 0,I 0,I 0,I 0,I 0,I 0,I 0,I 0,I 0,.slice none 0 0] 33) fun b1 H1=>StA H1 (O b1) #[I 0,I 0,I 0,I 0,I 0,I 0,I 0,I 0,I x1,I 32,I 0,.slice none 0 0] 12 fun H2=>LdA H2 (O b1) 12 fun l1=>K (.agg l1.toArray) H2
theorem dZu.ok x1 H K (h:dZu x1 H K):Za prog 16 #[I x1] H K:=
 okN bZu Tryz.func16 rfl rfl h
def ZW.q1 (x4:Int)(p2:OA)(H1:Hp)(K:VK)(p1:OA)(b1:Nat):=
 BIf (x4==8) (HcI 27 #[.pointer p2] H1 fun x24 H15=>K (.tuple #[I x24,.slice none 0 0]) H15) (BIf (x4==9) (NN p1 fun a1=>Hz 25 #[.pointer (some (a1.add 7))] H1 fun v49 H23=>LeS H23 ((O b1).add 4) fun A5 n5 m5=>HcI 26 #[.pointer p1,.slice A5 n5 m5] H23 fun x32 H31=>K (.tuple #[I x32,.slice none 0 0]) H31) (BIf (x4==10) (NN p1 fun a9=>LeI H1 ((O b1).add 1) fun x40=>Hz 23 #[.pointer (some (a9.add 7)),I x40] H1 fun v81 H39=>K (.tuple #[I 0,.slice none 0 0]) H39) (BIf (x4==11) (Hz 73 #[.pointer p2] H1 fun v89 H47=>eZe v89 fun A13 n13 m13 x48=>(K (.tuple #[I x48,.slice A13 n13 m13]) H47)) (BIf (x4==12) (Hz 72 #[.pointer p2] H1 fun v113 H55=>eZe v113 fun A21 n21 m21 x56=>(K (.tuple #[I x56,.slice A21 n21 m21]) H55)) (K (.tuple #[I 0,.slice none 0 0]) H1)))))
def ZW.q2.q1 (p2:OA)(H1:Hp)(K:VK):Prop:=
 Hz 62 #[.pointer p2] H1 fun v17 H7=>tZO v17 fun c1 x16=>(K (.tuple #[I x16,.slice none 0 0]) H7)
def ZW.q2 (x4:Int)(H1:Hp)(b1:Nat)(p2:OA)(K:VK)(p1:OA):=
 BIf (x4==3) (LeI H1 ((O b1).add 1) fun x12=>HcI 71 #[.pointer p2,I x12] H1 fun x14 H5=>K (.tuple #[I x14,.slice none 0 0]) H5) (BIf (x4==4) (BIf (x4==4) (ZW.q2.q1 p2 H1 K) (ZW.q1 x4 p2 H1 K p1 b1)) (BIf (x4==5) (BIf (x4==5) (ZW.q2.q1 p2 H1 K) (ZW.q1 x4 p2 H1 K p1 b1)) (BIf (x4==6) (BIf (x4==6) (ZW.q2.q1 p2 H1 K) (ZW.q1 x4 p2 H1 K p1 b1)) (BIf (x4==7) (ZW.q2.q1 p2 H1 K) (ZW.q1 x4 p2 H1 K p1 b1)))))
def ZW.q3 (H1:Hp)(b1:Nat)(p2:OA)(K:VK):Prop:=
 LeS H1 ((O b1).add 3) fun A3 n3 m3=>Hz 70 #[.pointer p2,.slice A3 n3 m3] H1 fun v7 H3=>jZq v7 fun x8 x9=>(K (.tuple #[I x9,.slice none 0 0]) H3)
def ZW (p1 p2:OA)(x1 x2 x3:Int)(A1:OA)(n1 m1:Nat)(A2:OA)(n2 m2:Nat)(H:Hp)(K:VK):Prop:=
 Nw H (Is #[I x1,I x2,I x3,.slice A1 n1 m1,.slice A2 n2 m2] 37) fun b1 H1=>LeI H1 ((O b1).add 0) fun x4=>BIf (x4==0) (LeI H1 ((O b1).add 1) fun x5=>LeI H1 ((O b1).add 2) fun x6=>HcI 69 #[.pointer p2,I x5,I x6] H1 fun x7 H2=>K (.tuple #[I x7,.slice none 0 0]) H2) (BIf (x4==1) (BIf (x4==1) (ZW.q3 H1 b1 p2 K) (ZW.q2 x4 H1 b1 p2 K p1)) (BIf (x4==2) (ZW.q3 H1 b1 p2 K) (ZW.q2 x4 H1 b1 p2 K p1)))
theorem ZW.ok p1 p2 x1 x2 x3 A1 n1 m1 A2 n2 m2 H K (h:ZW p1 p2 x1 x2 x3 A1 n1 m1 A2 n2 m2 H K):Za prog 17 #[.pointer p1,.pointer p2,.agg #[I x1,I x2,I x3,.slice A1 n1 m1,.slice A2 n2 m2]] H K:=
 ok0 (fun i=>match Nat.beq i 22 with|true=>some ([],[0,1,2,3,4],5)|false=>none) bZu Tryz.func17 rfl rfl h
def Zw.q1.q1 (H3:Hp)(b3:Nat)(l76:List Value)(K:VK)(A5:OA)(n5 m5:Nat):=
 StA H3 (O b3) l76.toArray 12 fun H64=>LdA H64 (O b3) 12 fun l169=>K (.tuple #[.agg l169.toArray,I 0,.slice A5 n5 m5]) H64
def Zw.q1 (x4:Int)(H3:Hp)(b1 b3:Nat)(K:VK):Prop:=
 BIf (x4==11) (LeI H3 (((O b1).add 0).add 0) fun x24=>BIf (decide (x24<2)) (LdA H3 (O b1) 12 fun l68=>StA H3 (O b3) l68.toArray 12 fun H56=>LdA H56 (O b3) 12 fun l161=>K (.tuple #[.agg l161.toArray,I 11,.slice none 0 0]) H56) ((LdA H3 (O b1) 12 fun l76=>(LeS H3 ((O b1).add 11) fun A5 n5 m5=>Zw.q1.q1 H3 b3 l76 K A5 n5 m5)/\(StA H3 (O b3) l76.toArray 12 fun H65=>LeS H65 ((O b1).add 11) fun A6 n6 m6=>LdA H65 (O b3) 12 fun l170=>K (.tuple #[.agg l170.toArray,I 0,.slice A6 n6 m6]) H65))/\(LeS H3 ((O b1).add 11) fun A7 n7 m7=>LdA H3 (O b1) 12 fun l77=>Zw.q1.q1 H3 b3 l77 K A7 n7 m7))) (BIf (x4==12) (LeI H3 (((O b1).add 0).add 0) fun x32=>BIf (x32 !=4) (LdA H3 (O b1) 12 fun l92=>StA H3 (O b3) l92.toArray 12 fun H88=>LdA H88 (O b3) 12 fun l193=>K (.tuple #[.agg l193.toArray,I 12,.slice none 0 0]) H88) ((LdA H3 (O b1) 12 fun l100=>LdA H3 (O b1) 12 fun l101=>HcS 56 #[.agg l101.toArray] H3 fun A29 n29 m29 H96=>Zw.q1.q1 H96 b3 l100 K A29 n29 m29)/\(LdA H3 (O b1) 12 fun l102=>(LdA H3 (O b1) 12 fun l103=>HcS 56 #[.agg l102.toArray] H3 fun A30 n30 m30 H98=>Zw.q1.q1 H98 b3 l103 K A30 n30 m30)/\(HcS 56 #[.agg l102.toArray] H3 fun A31 n31 m31 H100=>LdA H100 (O b1) 12 fun l104=>Zw.q1.q1 H100 b3 l104 K A31 n31 m31)))) (LdA H3 (O b1) 12 fun l140=>StA H3 (O b3) l140.toArray 12 fun H144=>LdA H144 (O b3) 12 fun l225=>K (.tuple #[.agg l225.toArray,I 0,.slice none 0 0]) H144))
def Zw.q2 (l3:List Value)(H4:Hp)(y2:Array Value)(b3:Nat)(K:VK):Prop:=
 LzI l3 fun x7=>(Nw H4 (Is #[I 0,I 0,I 0,I 0,I 0,I 0,I 0,I 0,I 0,I 0,I 0,.slice none 0 0] 33) fun b4 H5=>StA H5 (O b4) y2 12 fun H6=>LdA H6 (O b4) 12 fun l5=>StA H6 (O b3) l5.toArray 12 fun H7=>LdA H7 (O b3) 12 fun l148=>K (.tuple #[.agg l148.toArray,I x7,.slice none 0 0]) H7)
def Zw.q3.q1 (H3:Hp)(b1 b3:Nat)(K:VK):Prop:=
 LdA H3 (O b1) 12 fun l28=>Hz 76 #[.agg l28.toArray] H3 fun v25 H24=>bZo v25 fun l36=>Zl l36 fun v26 l37=>DA v26 fun y7=>Zw.q2 l37 H24 y7 b3 K
def Zw.q3 (x4:Int)(H3:Hp)(b1 b2 b3:Nat)(K:VK):Prop:=
 BIf (x4==3) (LdA H3 (O b1) 12 fun l18=>LeI H3 ((O b2).add 1) fun x12=>Hz 55 #[.agg l18.toArray,I x12] H3 fun v19 H16=>bZo v19 fun l20=>Zl l20 fun v20 l21=>DA v20 fun y5=>Zw.q2 l21 H16 y5 b3 K) (BIf (x4==4) (BIf (x4==4) (Zw.q3.q1 H3 b1 b3 K) (Zw.q1 x4 H3 b1 b3 K)) (BIf (x4==5) (BIf (x4==5) (Zw.q3.q1 H3 b1 b3 K) (Zw.q1 x4 H3 b1 b3 K)) (BIf (x4==6) (BIf (x4==6) (Zw.q3.q1 H3 b1 b3 K) (Zw.q1 x4 H3 b1 b3 K)) (BIf (x4==7) (Zw.q3.q1 H3 b1 b3 K) (Zw.q1 x4 H3 b1 b3 K)))))
def Zw.q4 (H3:Hp)(b1 b2 b3:Nat)(K:VK):Prop:=
 LdA H3 (O b1) 12 fun l6=>LeS H3 ((O b2).add 3) fun A3 n3 m3=>Hz 54 #[.agg l6.toArray,.slice A3 n3 m3] H3 fun v9 H8=>bZo v9 fun l8=>Zl l8 fun v10 l9=>DA v10 fun y3=>Zl l9 fun v11 l10=>DI .i64 v11 fun x8=>Zw.q2 l10 H8 y3 b3 K
def Zw (y1:Array Value)(x1 x2 x3:Int)(A1:OA)(n1 m1:Nat)(A2:OA)(n2 m2:Nat)(H:Hp)(K:VK):Prop:=
 Nw H (Is y1 33) fun b1 H1=>Nw H1 (Is #[I x1,I x2,I x3,.slice A1 n1 m1,.slice A2 n2 m2] 37) fun b2 H2=>Nw H2 (Is #[I 0,I 0,I 0,I 0,I 0,I 0,I 0,I 0,I 0,I 0,I 0,.slice none 0 0] 33) fun b3 H3=>LeI H3 ((O b2).add 0) fun x4=>BIf (x4==0) (LdA H3 (O b1) 12 fun l1=>LeI H3 ((O b2).add 1) fun x5=>LeI H3 ((O b2).add 2) fun x6=>Hz 75 #[.agg l1.toArray,I x5,I x6] H3 fun v4 H4=>bZo v4 fun l2=>Zl l2 fun v5 l3=>DA v5 fun y2=>Zw.q2 l3 H4 y2 b3 K) (BIf (x4==1) (BIf (x4==1) (Zw.q4 H3 b1 b2 b3 K) (Zw.q3 x4 H3 b1 b2 b3 K)) (BIf (x4==2) (Zw.q4 H3 b1 b2 b3 K) (Zw.q3 x4 H3 b1 b2 b3 K)))
theorem Zw.ok y1 x1 x2 x3 A1 n1 m1 A2 n2 m2 H K (h:Zw y1 x1 x2 x3 A1 n1 m1 A2 n2 m2 H K):Za prog 19 #[.agg y1,.agg #[I x1,I x2,I x3,.slice A1 n1 m1,.slice A2 n2 m2]] H K:=
 ok0 (fun i=>match Nat.beq i 25 with|true=>some ([],[0,0,2,7,15,31],0)|false=>match Nat.beq i 21 with|true=>some ([],[0,0,2,1,9,31],0)|false=>none) bZu Tryz.func19 rfl rfl h
end W
namespace Eng
open Go Go.Hw Go.Form W Shp Dsk Str Are Trn Pas Pln Rec Srt Rng
structure bZR where
 k:Int
 n:Int
 m:Int
 A:OA
 nA:Nat
 mA:Nat
 l:List UInt64
 G:OA
 nG:Nat
 mG:Nat
 ks:List Bool
def bZi (a:bZR):List Value:=[I a.k,I a.n,I a.m,.slice a.A a.nA a.mA,.slice a.G a.nG a.mG]
structure OkE (H:Hp)(a:bZR):Prop where
 nA:a.nA=a.l.length
 mA:a.nA<=a.mA
 l:Cells H a.A (Zb a.l)
 nG:a.nG=a.ks.length
 ks:Cells H a.G (fZP a.ks)
 n: -9223372036854775808<=a.n/\a.n<=9223372036854775807
 m: -9223372036854775808<=a.m/\a.m<=9223372036854775807
theorem OkE.le {H H':Hp}{a:bZR}(h:OkE H a)(k:H.le H'):OkE H' a:=⟨h.nA,h.mA,h.l.le k,h.nG,h.ks.le k,h.n,h.m⟩
section
open Go.RowKit Go.ChangeShapes Go.WideShapes Go.ChangeAt
variable {H : Type} {enc : TypeId × Value -> H} {W : World}
theorem eacts_of {A:OA}{n:Nat}{rows:List (List Value)}(hl:rows.length=n)
  (h:∀(i:Nat) (r:List Value),rows[i]? =some r->∃ a,A=some a/\(∀ j v,r[j]? =some v->(Full W).cell? (a.add (i*prog.cellsOf 37+j))=some v)/\r.length=prog.cellsOf 37/\
   ∃ f d' p',DataW.trod enc prog W 0 (fun _=>true) true f 37 r=some (d',p')):∃ l:List bZR,l.length=n/\cZ7 5 (Full W) A (l.map bZi)/\∀ a∈l,OkE (Full W) a:=by
 have hc:prog.cellsOf 37=5:=by kernel_rfl
 refine wZa hl fun i r hi=>?_
 obtain⟨a,ha,h1,h2,f,d',p',h3⟩:=h i r hi;rw[hc]at h1 h2;refine⟨a,ha,h1,?_⟩;obtain⟨_,f',h4⟩:=wZq Tryz.underlying37 h3;obtain⟨x,hx,wx⟩:=jZY (o:=0) Tryz.underlying3 (by kernel_rfl) (h4 0 _ rfl);obtain⟨y,hy,wy⟩:=jZY (o:=1) Tryz.underlying3 (by kernel_rfl) (h4 1 _ rfl);obtain⟨z,hz,wz⟩:=jZY (o:=2) Tryz.underlying3 (by kernel_rfl) (h4 2 _ rfl);obtain⟨B,nB,mB,_,_,hB,tB⟩:=pZn (o:=3) Tryz.underlying31 (by kernel_rfl) (h4 3 _ rfl);obtain⟨G,nG,mG,_,_,hG,tG⟩:=pZn (o:=4) Tryz.underlying35 (by kernel_rfl) (h4 4 _ rfl);obtain⟨_,_,_,e1,lB,mmB,bs,hbl,hbc⟩:=rZt Tryz.underlying31 Tryz.underlying108 (by kernel_rfl) tB;obtain⟨rfl,rfl,rfl⟩:B=_/\nB=_/\mB=_:=by simpa using e1
 obtain⟨_,_,_,e2,_,_,gs,hgl,hgc⟩:=rZs Tryz.underlying35 Tryz.underlying4 (by kernel_rfl) tG;obtain⟨rfl,rfl,rfl⟩:G=_/\nG=_/\mG=_:=by simpa using e2
 refine⟨⟨x,y,z,B,nB,mB,bs,G,nG,mG,gs⟩,?_,⟨hbl.symm,by first|exact lB|exact mmB,hbc,hgl.symm,hgc,wf_int wy,wf_int wz⟩⟩;exact lZm.out ⟨hx,hy,hz,hB,hG,trivial⟩ h2
end
def hZ5 (a:bZR):Prop:=a.nA<=32/\a.nG<=40
theorem oZk (A:OA)(n m:Nat)(l:List bZR)(hl:l.length=n)(hn:n<=1000000)(H:Hp)(hc:cZ7 5 H A (l.map bZi)):
  ∀(t j:Nat),j+t=n->(∀ q (hq:q<j) (h:q<l.length),hZ5 l[q])->aZf.l4 (fun v H'=>H'=H/\∃ x:Int,v= I x/\(x=0->∀ a∈l,hZ5 a)) (t+1) A n m (j:Int) H
 |0,j,h,hall=>by
  unfold aZf.l4;refine Zg (by omega) ⟨rfl,0,rfl,fun _ a ha=>?_⟩;obtain⟨q,hq,rfl⟩:=List.getElem_of_mem ha;exact hall q (by omega) hq
 |t+1,j,h,hall=>by
  unfold aZf.l4;refine Zm (by omega) ?_;have hg:l[j]? =some (l[j]'(by omega)):=List.getElem?_eq_getElem (by omega);have hrow:(l.map bZi)[j]? =some (bZi (l[j]'(by omega))):=by rw[List.getElem?_map,hg];rfl
  refine cZ7.rd hc hrow rfl (by rw[List.length_map];omega) (j:=3) rfl ?_;simp only[HV];by_cases h1:(((l[j]'(by omega)).nA:Nat):Int)>32
  ·exact Zm h1 ⟨by first|trivial|rfl,2,rfl,fun e=>by omega⟩
  refine Zg h1 ?_;refine cZ7.rd hc hrow rfl (by rw[List.length_map];omega) (j:=4) rfl ?_;simp only[HV];by_cases h2:(((l[j]'(by omega)).nG:Nat):Int)>40
  ·exact Zm h2 ⟨by first|trivial|rfl,2,rfl,fun e=>by omega⟩
  refine Zg h2 ?_;rw[ZM (x:=(j:Int)+1)];refine oZk A n m l hl hn H hc t (j+1) (by omega) fun q hq hql=>?_
  by_cases e:q=j
  ·subst e;exact⟨by omega,by omega⟩
  ·exact hall q (by omega) hql
theorem wZI (A:OA)(n m:Nat)(l:List bZR)(hl:l.length=n)(H:Hp)(hc:cZ7 5 H A (l.map bZi)):
  Za prog 13 #[.slice A n m] H fun v H'=>H'=H/\∃ x:Int,v= I x/\(x=0->n<=40/\∀ a∈l,hZ5 a):=by
 by_cases hn:n>40
 ·apply aZf.ok;unfold aZf;exact Zm (by omega) ⟨rfl,1,rfl,fun h=>by omega⟩
 ·have:Za prog 13 #[.slice A n m] H fun v H'=>H'=H/\∃ x:Int,v= I x/\(x=0->∀ a∈l,hZ5 a):=by
   apply aZf.ok;unfold aZf;refine Zg (by omega) ⟨n+1,?_⟩;exact oZk A n m l hl (by omega) H hc n 0 (by omega) fun q hq=>absurd hq (by omega)
  refine this.mono ?_;rintro v H' ⟨rfl,c,rfl,h⟩;exact⟨rfl,c,rfl,fun hc=>⟨by omega,h hc⟩⟩
structure tZM (m0 m:Mn):Prop where
 most:m.most=m0.most
 arena:m.arena=m0.arena
 inp:m.inp=m0.inp
 kd:2<=m.r.kd
theorem tZM.pass {m0 m:Mn}(h:tZM m0 m)(per:Nat):tZM m0 (m.add (aZV m per)):=⟨h.most,h.arena,h.inp,by rw[Mn.add_r];show(2:Int)<=4;omega⟩
theorem Liv.up {N N':Nat}{d:D}{c:Cn}{m:Mn}(h:Liv N d c m)(hN:N<=N'):Liv N' d c m:=by
 have q1:=h.len;have q2:=h.ld;have q3:=h.rd;have q4:=h.wr;have q5:=h.sy;exact⟨h.cl,h.hh,h.most,by omega,by omega,by omega,by omega,by omega⟩
theorem Liv.fused {N:Nat}{d:D}{c:Cn}{m:Mn}(h:Liv N d c m)(n:Nat)(hn:n<=9223372036854775807):Liv N { d with fuse:=n} c m:=⟨h.cl.fused n hn,h.hh,h.most,h.len,h.ld,h.rd,h.wr,h.sy⟩
theorem Clean.again {d:D}{c:Cn}(hc:Clean d c):Ok { d with down:=true,fuse:=0}/\Dom { d with down:=true,fuse:=0}/\∀ ks,KeysOf (bZv d.cache) ks->∀ keep,Clean (D.boot { d with down:=true,fuse:=0} ks keep) c:=by
 have hok:=hc.ok;have hok3:Ok { d with down:=true,fuse:=0}:=⟨hok.sec,hok.size,hok.big,hok.per,hok.safe,hok.cache,Nat.zero_le _⟩;refine⟨hok3,fun k hk=>hc.dom k hk,fun ks hks keep=>?_⟩;obtain⟨c3,ec3,hc3⟩:=(hc.crash).boot hok3 hks keep;rw[ec3]at hc3;exact hc3
theorem Liv.again {N:Nat}{d:D}{c:Cn}{m:Mn}(h:Liv N d c m){ks:List Int}(hks:KeysOf (bZv d.cache) ks)(keep:List Bool):Liv N (D.boot { d with down:=true,fuse:=0} ks keep) c m:=
 ⟨(h.cl.again).2.2 ks hks keep,h.hh,h.most,h.len,h.ld,h.rd,h.wr,h.sy⟩
structure Lo (N:Nat)(d:D)(c:Cn)(o:Option Mn):Prop where
 cl:Clean d c
 per:0<Lay.aZg (d.size:Int)
 rd:d.rd<=2000*N
 wr:d.wr<=2000*N
 sy:d.sy<=2000*N
 hh:qZK d.sec d.size o c
 liv:∀ m,o=some m->Liv N d c m
theorem Lo.of {N:Nat}{d:D}{c:Cn}{m:Mn}(h:Liv N d c m):Lo N d c (some m):=⟨h.cl,h.per,h.rd,h.wr,h.sy,h.hh,fun _ e=>by cases e;exact h⟩
theorem Lo.up {N N':Nat}{d:D}{c:Cn}{o:Option Mn}(h:Lo N d c o)(k:N<=N'):Lo N' d c o:=by
 have q3:=h.rd;have q4:=h.wr;have q5:=h.sy;exact⟨h.cl,h.per,by omega,by omega,by omega,h.hh,fun m e=>(h.liv m e).up k⟩
theorem Lo.fused {N:Nat}{d:D}{c:Cn}{o:Option Mn}(h:Lo N d c o)(n:Nat)(hn:n<=9223372036854775807):Lo N { d with fuse:=n} c o:=⟨h.cl.fused n hn,h.per,h.rd,h.wr,h.sy,h.hh,fun m e=>(h.liv m e).fused n hn⟩
theorem Lo.again {N:Nat}{d:D}{c:Cn}{o:Option Mn}(h:Lo N d c o){ks:List Int}(hks:KeysOf (bZv d.cache) ks)(keep:List Bool):Lo N (D.boot { d with down:=true,fuse:=0} ks keep) c o:=
 ⟨(h.cl.again).2.2 ks hks keep,h.per,h.rd,h.wr,h.sy,h.hh,fun m e=>(h.liv m e).again hks keep⟩
theorem Lo.went {N:Nat}{d d':D}{c:Cn}{o:Option Mn}(h:Lo N d c o){r w s:Nat}(hw:bZL d d' r w s)(hr:r<=2000/\w<=2000/\s<=2000)(hc:Clean d' c):Lo (N+2) d' c o:=by
 have h1:=hw.rd;have h2:=hw.wr;have h3:=hw.sy;have h4:=h.rd;have h5:=h.wr;have h6:=h.sy;refine⟨hc,by rw[hw.size];exact h.per,by omega,by omega,by omega,by rw[hw.sec,hw.size];exact h.hh,fun m e=>?_⟩;have hL:=h.liv m e;exact hL.went hw hr hc hL.hh rfl (by have:=hL.len;omega) (by have:=hL.ld;omega)
structure Dd (N sc sz:Nat)(d:D)(P:Option Mn->Prop):Prop where
 ok:Ok d
 dom:Dom d
 down:d.down=true
 fz:d.fuse=0
 sec:d.sec=sc
 size:d.size=sz
 left:Left d fun c'=>∃ o,P o/\(∀ m,o=some m->m.most<=6/\m.L.length<=N/\m.r.ld<=N)/\qZK sc sz o c'
 rd:d.rd<=2000*N
 wr:d.wr<=2000*N
 sy:d.sy<=2000*N
theorem Lo.cut {N:Nat}{d d':D}{c:Cn}{o:Option Mn}(h:Lo N d c o){n:Nat}(hc:Cut d d' n){P:Option Mn->Prop}(hn:n<=3000)(hl:Left d' fun c'=>∃ o,P o/\(∀ m,o=some m->m.most<=6/\m.L.length<=N+2/\m.r.ld<=N+2)/\qZK d.sec d.size o c'):Dd (N+2) d.sec d.size d' P:=by
 have h1:=hc.cnt;have h2:=hc.le;have h4:=h.rd;have h5:=h.wr;have h6:=h.sy;have h7:=hc.rd;have h8:=hc.wr;have h9:=hc.sy;exact⟨hc.ok,hc.dom,hc.down,hc.fuse,hc.sec,hc.size,hl,by omega,by omega,by omega⟩
def gO (d:D)(o:Option Mn)(pk:Int):Option Eg:=o.map fun m=>egM d m pk
theorem xZI {d d':D}(o:Option Mn)(pk:Int)(h1:d'.sec=d.sec)(h2:d'.size=d.size):gO d' o pk=gO d o pk:=by
 cases o with
 |none=>rfl
 |some m=>show some (egM d' m pk)=some (egM d m pk);rw[iZD m pk h1 h2]
def pkO (o:Option Mn)(pk:Int):Prop:=∀ m,o=some m->pk<=(m.arena:Int)
def Mx (sec size:Nat):Prop:=∀ k:Nat,Lay.bZT k (size/8)<=sec->k<=6
def okK (l:List UInt64)(most k:Nat):Prop:=lg (l.length:Int)=some k/\k<=most/\eZT l
inductive Ef (sec per:Nat):Option Mn→bZR→Int→Option Mn→List UInt64→Prop
 |fmtNo {o:Option Mn} {a:bZR} (h:a.k=0) (he:aZ3 sec per a.n a.m≠0):Ef sec per o a (aZ3 sec per a.n a.m) o []
 |fmt {o:Option Mn} {a:bZR} {kn wn:Nat} (h:a.k=0) (hn:a.n=(kn:Int)) (hm:a.m=(wn:Int)) (he:aZ3 sec per a.n a.m=0):Ef sec per o a 0 (some (bZN kn wn)) []
 |ldNone {a:bZR} (h:a.k=1∨a.k=2):Ef sec per none a 5 none []
 |ldNo {m:Mn} {a:bZR} {k i e:Int} (h:a.k=1∨a.k=2) (hc:fZx a.l m.most k i e) (he:e≠0):Ef sec per (some m) a e (some m) []
 |ld {m:Mn} {a:bZR} {k:Nat} (h:a.k=1∨a.k=2) (hk:okK a.l m.most k):Ef sec per (some m) a 0 (some (aZK m k a.l)) []
 |sbNone {a:bZR} (h:a.k=3):Ef sec per none a 5 none []
 |sbNo {m:Mn} {a:bZR} (h:a.k=3) (h2:stM m per≠2) (h4:stM m per≠4):Ef sec per (some m) a 5 (some m) []
 |sbDir {m:Mn} {a:bZR} (h:a.k=3) (h2:stM m per=2∨stM m per=4) (hn:¬(a.n=0∨a.n=1)):Ef sec per (some m) a 18 (some m) []
 |sb {m:Mn} {a:bZR} {b:Bool} (h:a.k=3) (h2:stM m per=2∨stM m per=4) (hb:a.n=if b=true then 1 else 0):Ef sec per (some m) a 0 (some (m.add (bZB m b))) []
 |stNone {a:bZR} (h:a.k=4∨a.k=5∨a.k=6∨a.k=7):Ef sec per none a 5 none []
 |stNo {m:Mn} {a:bZR} (h:a.k=4∨a.k=5∨a.k=6∨a.k=7) (h3:stM m per≠3):Ef sec per (some m) a 5 (some m) []
 |st {m:Mn} {a:bZR} (h:a.k=4∨a.k=5∨a.k=6∨a.k=7) (h3:stM m per=3):Ef sec per (some m) a 0 (some (m.add (aZV m per))) []
 |rcNone {a:bZR} (h:a.k=8):Ef sec per none a 11 none []
 |rc {m:Mn} {a:bZR} (h:a.k=8):Ef sec per (some m) a 0 (some m) []
 |riNone {a:bZR} (h:a.k=11):Ef sec per none a 11 none []
 |riNo {m:Mn} {a:bZR} (h:a.k=11) (h2:stM m per<2):Ef sec per (some m) a 11 (some m) []
 |ri {m:Mn} {a:bZR} (h:a.k=11) (h2:2≤stM m per):Ef sec per (some m) a 0 (some m) m.inp
 |roNone {a:bZR} (h:a.k=12):Ef sec per none a 12 none []
 |roNo {m:Mn} {a:bZR} (h:a.k=12) (h4:stM m per≠4):Ef sec per (some m) a 12 (some m) []
 |ro {m:Mn} {a:bZR} (h:a.k=12) (h4:stM m per=4):Ef sec per (some m) a 0 (some m) (eZC m per)
 |nop {o:Option Mn} {a:bZR} (h:a.k<0∨a.k=9∨a.k=10∨12<a.k):Ef sec per o a 0 o []
def Mid (o:Option Mn)(a:bZR)(o' x:Option Mn):Prop:=x=o∨x=o'∨(a.k=0/\x=none)∨((a.k=1∨a.k=2)/\∃ m k,o=some m/\okK a.l m.most k/\x=some (aZG m k))
def jZx (p dp N:Nat)(d:D)(a:bZR)(H0:Hp)(e:Int)(o':Option Mn)(w:List UInt64)(v:Value)(M:List As):Prop:=
 ∃(B:OA) (n mm:Nat) (d':D) (c':Cn) (pk':Int) (W:As),v= .tuple #[I e,.slice B n mm]/\n=w.length/\(∀ H,W H->Cells H B (Zb w))/\Lo (N+2) d' c' o'/\d'.sec=d.sec/\d'.size=d.size/\(a.k≠10->d.fuse=0->d'.fuse=0)/\pkO o' pk'/\M=[En p dp (gO d' o' pk'),Dk dp d',W,own H0]
def jZw (p dp N:Nat)(d:D)(a:bZR)(H0:Hp)(o:Option Mn)(e:Int)(o':Option Mn)(v:Value)(M:List As):Prop:=
 a.k≠9/\a.k≠10/\(a.k=8∨e=0)/\d.fuse≠0/\∃ d',v= .tuple #[I 8,.slice none 0 0]/\Dd (N+2) d.sec d.size d' (Mid o a o')/\M=[En p dp none,Dk dp d',(fun _=>True),own H0]
theorem Cells.nil' (H:Hp)(B:OA):Cells H B (Zb []):=fun i v hi=>by simp[Zb]at hi
set_option maxHeartbeats 8000000 in
theorem wZH {p dp N:Nat}{d:D}{c:Cn}{o:Option Mn}{pk:Int}{a:bZR}{H0:Hp}(hT:T64 H0)(hL:Lo N d c o)(hN:N<=380)(hmx:Mx d.sec d.size)(hpk:pkO o pk)(ha:OkE H0 a)(hs1:hZ5 a):
  Tr prog 17 #[V dp,V p,.agg (bZi a).toArray] [En p dp (gO d o pk),Dk dp d,own H0] fun v M=>∃ e o' w,Ef d.sec (d.size/8) o a e o' w/\(jZx p dp N d a H0 e o' w v M∨jZw p dp N d a H0 o e o' v M):=fun H hs=>by
 have hrd:=hL.rd;have hwr:=hL.wr;have hsy:=hL.sy;have hops:d.rd<=800000/\d.wr<=800000/\d.sy<=800000:=by omega
 obtain⟨x1,x2,x3,A,nA,mA,l,G,nG,mG,ks⟩:=a;have hks:Cells H0 G (fZP ks):=ha.ks;have hnG:nG=ks.length:=ha.nG;have hx2: -9223372036854775808<=x2/\x2<=9223372036854775807:=ha.n;have hnA:nA=l.length:=ha.nA;have hmA:nA<=mA:=ha.mA;have hcA:Cells H0 A (Zb l):=ha.l;have hl32:nA<=32:=hs1.1
  -- how a case ends
 have live:∀(e:Int) (o':Option Mn) (w:List UInt64) (B:OA) (n mm:Nat) (d':D) (c':Cn) (pk':Int) (W:As) (H:Hp),Ef d.sec (d.size/8) o ⟨x1,x2,x3,A,nA,mA,l,G,nG,mG,ks⟩ e o' w->n=w.length->(∀ H,W H->Cells H B (Zb w))->Lo (N+2) d' c' o'->d'.sec=d.sec->d'.size=d.size->(x1≠10->d.fuse=0->d'.fuse=0)->pkO o' pk'->Sep [En p dp (gO d o' pk'),Dk dp d',W,own H0] H->
   ∃ M,(∃ e' o' w',Ef d.sec (d.size/8) o ⟨x1,x2,x3,A,nA,mA,l,G,nG,mG,ks⟩ e' o' w'/\(jZx p dp N d ⟨x1,x2,x3,A,nA,mA,l,G,nG,mG,ks⟩ H0 e' o' w' (.tuple #[I e,.slice B n mm]) M∨jZw p dp N d ⟨x1,x2,x3,A,nA,mA,l,G,nG,mG,ks⟩ H0 o e' o' (.tuple #[I e,.slice B n mm]) M))/\Sep M H:=fun e o' w B n mm d' c' pk' W H h1 h2 h3 h4 h5 h6 h7 h8 hs=>
  ⟨_,⟨e,o',w,h1,.inl ⟨B,n,mm,d',c',pk',W,rfl,h2,h3,h4,h5,h6,h7,h8,rfl⟩⟩,by rw[xZI o' pk' h5 h6];exact hs⟩
 have dead:∀(e:Int) (o':Option Mn) (w:List UInt64) (d':D) (H:Hp),Ef d.sec (d.size/8) o ⟨x1,x2,x3,A,nA,mA,l,G,nG,mG,ks⟩ e o' w->x1≠9->x1≠10->(x1=8∨e=0)->d.fuse≠0->Dd (N+2) d.sec d.size d' (Mid o ⟨x1,x2,x3,A,nA,mA,l,G,nG,mG,ks⟩ o')->Sep [En p dp none,Dk dp d',own H0] H->
   ∃ M,(∃ e' o' w',Ef d.sec (d.size/8) o ⟨x1,x2,x3,A,nA,mA,l,G,nG,mG,ks⟩ e' o' w'/\(jZx p dp N d ⟨x1,x2,x3,A,nA,mA,l,G,nG,mG,ks⟩ H0 e' o' w' (.tuple #[I 8,.slice none 0 0]) M∨jZw p dp N d ⟨x1,x2,x3,A,nA,mA,l,G,nG,mG,ks⟩ H0 o e' o' (.tuple #[I 8,.slice none 0 0]) M))/\Sep M H:=fun e o' w d' H h1 h2 h3 h4 h5 h6 hs=>
  ⟨_,⟨e,o',w,h1,.inr ⟨h2,h3,h4,h5,d',rfl,h6,rfl⟩⟩,by
   have:=(Sep.unit (X:=fun _=>True) hs trivial);exact this.re [1,2,0,3] rfl⟩
 have same:∀(e:Int) (H:Hp),Ef d.sec (d.size/8) o ⟨x1,x2,x3,A,nA,mA,l,G,nG,mG,ks⟩ e o []->Sep [En p dp (gO d o pk),Dk dp d,own H0] H->
   ∃ M,(∃ e' o' w',Ef d.sec (d.size/8) o ⟨x1,x2,x3,A,nA,mA,l,G,nG,mG,ks⟩ e' o' w'/\(jZx p dp N d ⟨x1,x2,x3,A,nA,mA,l,G,nG,mG,ks⟩ H0 e' o' w' (.tuple #[I e,.slice none 0 0]) M∨jZw p dp N d ⟨x1,x2,x3,A,nA,mA,l,G,nG,mG,ks⟩ H0 o e' o' (.tuple #[I e,.slice none 0 0]) M))/\Sep M H:=fun e H h1 hs=>
  live e o [] none 0 0 d c pk (fun _=>True) H h1 rfl (fun H _=>Cells.nil' H _) (hL.up (by omega)) rfl rfl (fun _ h=>h) hpk (by
   have:=(Sep.unit (X:=fun _=>True) hs trivial);exact this.re [1,2,0,3] rfl)
 have unit:∀(o':Option Mn) (pk':Int) (d':D) (H:Hp),Sep [En p dp (gO d o' pk'),Dk dp d',own H0] H->Sep [En p dp (gO d o' pk'),Dk dp d',(fun _=>True),own H0] H:=fun o' pk' d' H hs=>by
  have:=(Sep.unit (X:=fun _=>True) hs trivial);exact this.re [1,2,0,3] rfl
 apply ZW.ok;unfold ZW ZW.q3 ZW.q2 ZW.q2.q1 ZW.q1;refine hs.nw fun b1 H hs=>?_
 try simp only[HS]
 refine hs.ld 3 (v:=I x1) rfl rfl ?_;simp only[HV];by_cases e0:x1=0
 ·-- Format
  subst e0
  repeat first|refine Zt rfl ?_|refine Zu (by decide) ?_
  try simp only[HS]
  refine hs.ld 3 (v:=I x2) rfl rfl ?_;simp only[HV];refine hs.ld 3 (v:=I x3) rfl rfl ?_;simp only[HV];refine(mZV (p:=p) (dp:=dp) (g:=gO d o pk) hL.cl hL.per hops x2 x3).use hs [0,1] rfl rfl ?_;rintro _ _ H (⟨h,rfl,rfl⟩|⟨kn,wn,e1,e2,h0,⟨d',c',hw,hc,hh,rfl,rfl⟩|⟨d',hcut,hleft,rfl,rfl⟩⟩) hs
  ·simp only[HV];exact same _ H (.fmtNo rfl h) (hs.re [0,1,2] rfl)
  ·have hgd:=jZA hL.per h0;have hk6:kn<=6:=by
    obtain⟨k',w',q1,q2,q3,_⟩:=hgd;obtain rfl:kn=k':=by omega
    exact hmx kn (bZ4 q3).2.2.1
   have r1:=hw.rd;have r2:=hw.wr;have r3:=hw.sy;simp only[HV];refine live 0 (some (bZN kn wn)) [] none 0 0 d' c' 0 (fun _=>True) H (.fmt rfl e1 e2 h0) rfl (fun H _=>Cells.nil' H _) (Lo.of ⟨hc,by rw[hw.sec,hw.size];exact hh,hk6,Nat.zero_le _,Nat.zero_le _,by omega,by omega,by omega⟩) hw.sec hw.size (fun _ hf=>hw.calm hf) (fun m e=>by cases e;exact Int.natCast_nonneg _) (unit _ _ _ _ (hs.re [0,1,2] rfl))
  ·have hgd:=jZA hL.per h0;have hk6:kn<=6:=by
    obtain⟨k',w',q1,q2,q3,_⟩:=hgd;obtain rfl:kn=k':=by omega
    exact hmx kn (bZ4 q3).2.2.1
   simp only[HV];refine dead 0 (some (bZN kn wn)) [] d' H (.fmt rfl e1 e2 h0) (by decide) (by decide) (.inr rfl) (by have:=hcut.pos;omega) (hL.cut hcut (by omega) (hleft.mono fun c' h=>?_)) (hs.re [0,1,2] rfl);rcases h with h|h|h
   ·refine⟨o,.inl rfl,fun m e=>?_,by rw[h];exact hL.hh⟩;have q:=hL.liv m e;have q1:=q.len;have q2:=q.ld;exact⟨q.most,by omega,by omega⟩
   ·exact⟨none,.inr (.inr (.inl ⟨rfl,rfl⟩)),fun m e=>(by cases e),h⟩
   ·exact⟨some (bZN kn wn),.inr (.inl rfl),fun m e=>by cases e;exact⟨hk6,Nat.zero_le _,Nat.zero_le _⟩,h⟩
 cases o with
 |none=>
  have hs:Sep [En p dp none,Dk dp d,own H0,pts b1 (Is (bZi ⟨x1,x2,x3,A,nA,mA,l,G,nG,mG,ks⟩).toArray 37)] H:=hs;by_cases e12:x1=1∨x1=2
  ·rcases e12 with e|e<;>subst e<;>(repeat first|refine Zt rfl ?_|refine Zu (by decide) ?_)
   all_goals
    try simp only[HS]
    refine hs.ld 3 (v:=.slice A nA mA) rfl rfl ?_;simp only[HV];refine(rZN (p:=p) (dp:=dp) (A:=A) (n:=nA) (mm:=mA)).use hs [0] rfl rfl ?_;rintro _ _ H ⟨rfl,rfl⟩ hs;simp only[HV];exact same 5 H (.ldNone (by first|exact .inl rfl|exact .inr rfl)) (hs.re [0,1,2] rfl)
  by_cases e3:x1=3
  ·subst e3
   repeat first|refine Zt rfl ?_|refine Zu (by decide) ?_
   try simp only[HS]
   refine hs.ld 3 (v:=I x2) rfl rfl ?_;simp only[HV];refine(pZC (p:=p) (dp:=dp) x2).use hs [0] rfl rfl ?_;rintro _ _ H ⟨rfl,rfl⟩ hs;simp only[HV];exact same 5 H (.sbNone rfl) (hs.re [0,1,2] rfl)
  by_cases e4:x1=4∨x1=5∨x1=6∨x1=7
  ·have h4:=e4;rcases e4 with e|e|e|e<;>subst e<;>(repeat first|refine Zt rfl ?_|refine Zu (by decide) ?_)
   all_goals
    refine(rZX (p:=p) (dp:=dp)).use hs [0] rfl rfl ?_;rintro _ _ H ⟨rfl,rfl⟩ hs;simp only[HV];exact same 5 H (.stNone h4) (hs.re [0,1,2] rfl)
  by_cases e8:x1=8
  ·subst e8
   repeat first|refine Zt rfl ?_|refine Zu (by decide) ?_
   refine(lZu (p:=p) (dp:=dp) (g:=none) hL.cl hL.per hops (o:=none) hL.hh).use hs [0,1] rfl rfl ?_;rintro _ _ H (⟨d',_,hw,hc,rfl,rfl⟩|⟨d',m4,hm4,_⟩|⟨d',hcut,_,hleft,rfl,rfl⟩) hs
   ·simp only[HV];exact live 11 none [] none 0 0 d' c 0 (fun _=>True) H (.rcNone rfl) rfl (fun H _=>Cells.nil' H _) (hL.went hw (by omega) hc) hw.sec hw.size (fun _ hf=>hw.calm hf) (fun m e=>(by cases e)) (unit none 0 _ _ (hs.re [0,1,2] rfl))
   ·cases hm4
   ·simp only[HV];refine dead 11 none [] d' H (.rcNone rfl) (by decide) (by decide) (.inl rfl) (by have:=hcut.pos;omega) (hL.cut hcut (by omega) (hleft.mono fun c' h=>⟨none,.inl rfl,fun m e=>(by cases e),by rw[h];exact hL.hh⟩)) (hs.re [0,1,2] rfl)
  by_cases e9:x1=9
  ·subst e9
   repeat first|refine Zt rfl ?_|refine Zu (by decide) ?_
   try simp only[HS]
   refine(oZj (p:=dp) (d:=d)).use hs [1] rfl rfl ?_;rintro _ _ H ⟨rfl,rfl⟩ hs
   try simp only[HV]
   try simp only[HS]
   refine hs.ld 3 (v:=.slice G nG mG) rfl rfl ?_;simp only[HV];obtain⟨hok3,hdom3,_⟩:=hL.cl.again;refine(pZO (p:=dp) hok3 hdom3 rfl G nG mG ks hnG (own H0) (fun H h=>hks.le h)).use hs [0,2] rfl rfl ?_;rintro _ _ H ⟨kk,hkk',rfl,rfl⟩ hs;simp only[HV];exact live 0 none [] none 0 0 _ c 0 (fun _=>True) H (.nop (.inr (.inl rfl))) rfl (fun H _=>Cells.nil' H _) ((hL.again hkk' ks).up (by omega)) rfl rfl (fun _ _=>rfl) (fun m e=>(by cases e)) (unit none 0 _ _ (hs.re [2,0,1] rfl))
  by_cases e10:x1=10
  ·subst e10
   repeat first|refine Zt rfl ?_|refine Zu (by decide) ?_
   try simp only[HS]
   refine hs.ld 3 (v:=I x2) rfl rfl ?_;simp only[HV];refine(pZQ (p:=dp) (d:=d) x2).use hs [1] rfl rfl ?_;rintro _ _ H ⟨rfl,rfl⟩ hs
   try simp only[HV]
   exact live 0 none [] none 0 0 _ c 0 (fun _=>True) H (.nop (.inr (.inr (.inl rfl)))) rfl (fun H _=>Cells.nil' H _) ((hL.fused x2.toNat (by omega)).up (by omega)) rfl rfl (fun h _=>absurd rfl h) (fun m e=>(by cases e)) (unit none 0 _ _ (hs.re [1,0,2] rfl))
  by_cases e11:x1=11
  ·subst e11
   repeat first|refine Zt rfl ?_|refine Zu (by decide) ?_
   refine(mZp (p:=p) (dp:=dp)).use hs [0] rfl rfl ?_;rintro _ _ H ⟨rfl,rfl⟩ hs;simp only[HV];exact same 11 H (.riNone rfl) (hs.re [0,1,2] rfl)
  by_cases e12:x1=12
  ·subst e12
   repeat first|refine Zt rfl ?_|refine Zu (by decide) ?_
   refine(lZt (p:=p) (dp:=dp)).use hs [0] rfl rfl ?_;rintro _ _ H ⟨rfl,rfl⟩ hs;simp only[HV];exact same 12 H (.roNone rfl) (hs.re [0,1,2] rfl)
  repeat refine Zu (by omega) ?_
  exact same 0 H (.nop (by show x1<0∨x1=9∨x1=10∨12<x1;omega)) (hs.re [0,1,2] rfl)
 |some m=>
  have hV:=hL.liv m rfl;have hsm:=hV.small (by omega);have hkk:m.r.kk<=14:=by have:=(Mn.r_wf hV.hh).2.2;have:=hV.most;omega
  have hlen:=hV.len;have hld:=hV.ld;have hmost:=hV.most;have hpk:pk<=(m.arena:Int):=hpk m rfl;have hs:Sep [En p dp (some (egM d m pk)),Dk dp d,own H0,pts b1 (Is (bZi ⟨x1,x2,x3,A,nA,mA,l,G,nG,mG,ks⟩).toArray 37)] H:=hs;have old:∀ m',some m=some m'->m'.most<=6/\m'.L.length<=N+2/\m'.r.ld<=N+2:=fun m' e=>by cases e;exact⟨hmost,by omega,by omega⟩
  have two:∀(d':D) (n:Nat) (m':Mn),n<=3000->Cut d d' n->m'.most=m.most->m'.L.length<=N+2->m'.r.ld<=N+2->Left d' (fun c'=>Holds d.sec d.size m c'∨Holds d.sec d.size m' c')->Dd (N+2) d.sec d.size d' (Mid (some m) ⟨x1,x2,x3,A,nA,mA,l,G,nG,mG,ks⟩ (some m')):=fun d' n m' h1 h2 h4 h5 h6 h7=>
   hL.cut h2 h1 (h7.mono fun c' h=>by
    rcases h with h|h
    ·exact⟨some m,.inl rfl,old,h⟩
    ·exact⟨some m',.inr (.inl rfl),fun m2 e=>by cases e;exact⟨by omega,h5,h6⟩,h⟩)
  have one:∀(d':D) (n:Nat),n<=3000->Cut d d' n->Left d' (fun c'=>c'=c)->Dd (N+2) d.sec d.size d' (Mid (some m) ⟨x1,x2,x3,A,nA,mA,l,G,nG,mG,ks⟩ (some m)):=fun d' n h1 h2 h7=>
   hL.cut h2 h1 (h7.mono fun c' h=>⟨some m,.inl rfl,old,by rw[h];exact hV.hh⟩)
  have hrdc:∀ i,rdC m (d.size/8) i<=128:=fun i=>by
   have h1:=xZo (m:=m) (i:=i) (show 1<=d.size/8 by have:=hV.hh.per;omega);have h2:=mZR hV.kk;omega
  by_cases e12:x1=1∨x1=2
  ·have hdec:(x1=1∨x1=2):=e12;have load:∀ H,Sep [En p dp (some (egM d m pk)),Dk dp d,own H0,pts b1 (Is (bZi ⟨x1,x2,x3,A,nA,mA,l,G,nG,mG,ks⟩).toArray 37)] H->
     Za prog 70 #[V p,.slice A nA mA] H fun v H=>bZo v fun vs=>Zl vs fun i vs=>DI .i64 i fun _=>Zl vs fun e vs=>DI .i64 e fun e=>ZV vs (∃ M,(∃ e' o' w',Ef d.sec (d.size/8) (some m) ⟨x1,x2,x3,A,nA,mA,l,G,nG,mG,ks⟩ e' o' w'/\(jZx p dp N d ⟨x1,x2,x3,A,nA,mA,l,G,nG,mG,ks⟩ H0 e' o' w' (.tuple #[I e,.slice none 0 0]) M∨jZw p dp N d ⟨x1,x2,x3,A,nA,mA,l,G,nG,mG,ks⟩ H0 (some m) e' o' (.tuple #[I e,.slice none 0 0]) M))/\Sep M H):=fun H hs=>by
    have h64:∀ k:Nat,k<=m.most->2^k<=64:=fun k hk=>mZR (by omega)
    have hs:Sep [En p dp (some (egM d m pk)),Dk dp d,own H0,(fun _=>True),pts b1 (Is (bZi ⟨x1,x2,x3,A,nA,mA,l,G,nG,mG,ks⟩).toArray 37)] H:=by
     have:=(Sep.unit (X:=fun _=>True) hs trivial);exact this.re [1,2,3,0,4] rfl
    refine(pZS (p:=p) (dp:=dp) hV.cl hV.hh hsm.1 hsm.2 hpk (l:=l) (A:=A) (n:=nA) (mm:=mA) (RR:=own H0) (TT:=fun _=>True) hnA hmA (by omega) (fun H' h=>hcA.le h) (.inr fun H' h=>hT.le h)).use hs [0,1,2,3] rfl rfl ?_;rintro _ _ H (⟨k',i,e,hchk,hne,rfl,rfl⟩|⟨k',hk',hkm,hcan,hq⟩) hs
    ·simp only[HV];exact same e H (.ldNo hdec hchk hne) (hs.re [0,1,2] rfl)
    have hper:=hV.hh.per;have h64:=h64 k' hkm;have hb1:=mZi (d.size/8) k';have hb2:=mZj (d.size/8) k';have hb3:=kZd (per:=d.size/8) (w:=2^k') (by omega) (Nat.two_pow_pos k');have h1r:(aZG m k').r=cZl m k':=Mn.add_r _ _;have h2r:(aZK m k' l).r=cZ2 (aZG m k') k' l:=Mn.add_r _ _;have hld0:(aZG m k').r.ld=m.r.ld+1:=by rw[h1r];rfl
    have hld1:(aZK m k' l).r.ld=m.r.ld+1:=by rw[h2r];exact hld0
    have hlen0:(aZG m k').L.length=m.L.length+1:=by show(m.L++[_]).length=_;simp
    have hlen1:(aZK m k' l).L.length=m.L.length+2:=by show((m.L++[_])++[_]).length=_;simp
    rcases hq with⟨d1,c1,pk1,hpk1,hw1,hc1,hh1,rfl,rfl⟩|⟨d1,hcut,hleft,rfl,rfl⟩
    ·simp only[HV];exact live 0 (some (aZK m k' l)) [] none 0 0 d1 c1 pk1 (fun _=>True) H (.ld hdec ⟨hk',hkm,hcan⟩) rfl (fun H _=>Cells.nil' H _) (Lo.of (hV.went hw1 (by unfold ldR ldW;omega) hc1 hh1 rfl (by omega) (by omega))) hw1.sec hw1.size (fun _ hf=>hw1.calm hf) (fun m e=>by cases e;exact hpk1) (hs.re [0,1,3,2] rfl)
    ·simp only[HV];refine dead 0 (some (aZK m k' l)) [] d1 H (.ld hdec ⟨hk',hkm,hcan⟩) (by omega) (by omega) (.inr rfl) (by have:=hcut.pos;omega) (hL.cut hcut (by unfold ldR ldW;omega) (hleft.mono fun c' h=>?_)) (hs.re [0,1,2] rfl);rcases h with h|h|h
     ·exact⟨some m,.inl rfl,old,h⟩
     ·exact⟨some (aZG m k'),.inr (.inr (.inr ⟨hdec,m,k',rfl,⟨hk',hkm,hcan⟩,rfl⟩)),fun m2 e=>by cases e;exact⟨hmost,by omega,by omega⟩,h⟩
     ·exact⟨some (aZK m k' l),.inr (.inl rfl),fun m2 e=>by cases e;exact⟨hmost,by omega,by omega⟩,h⟩
   rcases e12 with e|e<;>subst e<;>(repeat first|refine Zt rfl ?_|refine Zu (by decide) ?_)
   all_goals
    try simp only[HS]
    refine hs.ld 3 (v:=.slice A nA mA) rfl rfl ?_;simp only[HV];refine(load _ hs).mono fun v H h=>?_
    exact h
  by_cases e3:x1=3
  ·subst e3
   repeat first|refine Zt rfl ?_|refine Zu (by decide) ?_
   try simp only[HS]
   refine hs.ld 3 (v:=I x2) rfl rfl ?_;simp only[HV];refine(mZ0 (p:=p) (dp:=dp) hV.cl hV.hh hsm.1 hsm.2 hpk x2).use hs [0,1] rfl rfl ?_;rintro _ _ H (⟨h2,h4,rfl,rfl⟩|⟨h2,hn,rfl,rfl⟩|⟨h2,b,hb,⟨d',c',hw,hc,hh,rfl,rfl⟩|⟨d',hcut,hleft,rfl,rfl⟩⟩) hs
   ·simp only[HV];exact same 5 H (.sbNo rfl h2 h4) (hs.re [0,1,2] rfl)
   ·simp only[HV];exact same 18 H (.sbDir rfl h2 hn) (hs.re [0,1,2] rfl)
   ·simp only[HV];refine live 0 (some (m.add (bZB m b))) [] none 0 0 d' c' pk (fun _=>True) H (.sb rfl h2 hb) rfl (fun H _=>Cells.nil' H _) (Lo.of (hV.went hw (by omega) hc hh rfl ?_ ?_)) hw.sec hw.size (fun _ hf=>hw.calm hf) (fun m2 e=>by cases e;exact hpk) (unit _ _ _ _ (hs.re [0,1,2] rfl))
    ·show(m.L++[_]).length<=_;simp;omega
    ·rw[Mn.add_r];show m.r.ld<=_;omega
   ·simp only[HV];refine dead 0 (some (m.add (bZB m b))) [] d' H (.sb rfl h2 hb) (by decide) (by decide) (.inr rfl) (by have:=hcut.pos;omega) (two d' _ (m.add (bZB m b)) (by omega) hcut rfl ?_ ?_ hleft) (hs.re [0,1,2] rfl)
    ·show(m.L++[_]).length<=_;simp;omega
    ·rw[Mn.add_r];show m.r.ld<=_;omega
  by_cases e4:x1=4∨x1=5∨x1=6∨x1=7
  ·have h4:=e4;rcases e4 with e|e|e|e<;>subst e<;>(repeat first|refine Zt rfl ?_|refine Zu (by decide) ?_)
   all_goals
    refine(pZX (p:=p) (dp:=dp) (TT:=own H0) (fun H h=>hT.le h) hV.cl hV.hh hsm.1 hsm.2 hpk hkk).use hs [0,1,2] rfl rfl ?_;rintro _ _ H (⟨h3,rfl,rfl⟩|⟨h3,r,w,hC,⟨d',c',pk',hpk',hw,hc,hh,rfl,rfl⟩|⟨d',hcut,hleft,rfl,rfl⟩⟩) hs
    ·simp only[HV];exact same 5 H (.stNo h4 h3) (hs.re [0,1,2] rfl)
    ·simp only[HV];exact live 0 (some (m.add (aZV m (d.size/8)))) [] none 0 0 d' c' pk' (fun _=>True) H (.st h4 h3) rfl (fun H _=>Cells.nil' H _) (Lo.of (hV.stepped hC hw hc hh)) hw.sec hw.size (fun _ hf=>hw.calm hf) (fun m2 e=>by cases e;exact hpk') (unit _ _ _ _ (hs.re [0,1,2] rfl))
    ·simp only[HV];have hkl:r<=2000/\w<=900:=by
      have h1:=hC.le (by have:=hV.hh.per;omega) (by have:=hV.kk;omega) (Nat.le_trans (hZA (by have:=(Mn.r_wf hV.hh).2.2;omega)) hV.hh.least);have h2:=mZR hV.kk;omega
     refine dead 0 (some (m.add (aZV m (d.size/8)))) [] d' H (.st h4 h3) (by decide) (by decide) (.inr rfl) (by have:=hcut.pos;omega) (two d' _ (m.add (aZV m (d.size/8))) (by omega) hcut rfl ?_ ?_ hleft) (hs.re [0,1,2] rfl)
     ·show(m.L++[_]).length<=_;simp;omega
     ·rw[Mn.add_r];show m.r.ld<=_;omega
  by_cases e8:x1=8
  ·subst e8
   repeat first|refine Zt rfl ?_|refine Zu (by decide) ?_
   refine(lZu (p:=p) (dp:=dp) (g:=some (egM d m pk)) hV.cl hV.per hsm.2 (o:=some m) hV.hh).use hs [0,1] rfl rfl ?_;rintro _ _ H (⟨_,h,_⟩|⟨d',m4,hm4,hw,hc,rfl,rfl⟩|⟨d',hcut,_,hleft,rfl,rfl⟩) hs
   ·cases h
   ·cases hm4;simp only[HV];exact live 0 (some m) [] none 0 0 d' c 0 (fun _=>True) H (.rc rfl) rfl (fun H _=>Cells.nil' H _) (hL.went hw (by omega) hc) hw.sec hw.size (fun _ hf=>hw.calm hf) (fun m2 e=>by cases e;exact Int.natCast_nonneg _) (unit _ _ _ _ (hs.re [0,1,2] rfl))
   ·simp only[HV];exact dead 0 (some m) [] d' H (.rc rfl) (by decide) (by decide) (.inr rfl) (by have:=hcut.pos;omega) (one d' _ (by omega) hcut hleft) (hs.re [0,1,2] rfl)
  by_cases e9:x1=9
  ·subst e9
   repeat first|refine Zt rfl ?_|refine Zu (by decide) ?_
   try simp only[HS]
   refine(oZj (p:=dp) (d:=d)).use hs [1] rfl rfl ?_;rintro _ _ H ⟨rfl,rfl⟩ hs
   try simp only[HV]
   try simp only[HS]
   refine hs.ld 3 (v:=.slice G nG mG) rfl rfl ?_;simp only[HV];obtain⟨hok3,hdom3,_⟩:=hV.cl.again;refine(pZO (p:=dp) hok3 hdom3 rfl G nG mG ks hnG (own H0) (fun H h=>hks.le h)).use hs [0,2] rfl rfl ?_;rintro _ _ H ⟨kk,hkk',rfl,rfl⟩ hs;simp only[HV];exact live 0 (some m) [] none 0 0 _ c pk (fun _=>True) H (.nop (.inr (.inl rfl))) rfl (fun H _=>Cells.nil' H _) ((hL.again hkk' ks).up (by omega)) rfl rfl (fun _ _=>rfl) (fun m2 e=>by cases e;exact hpk) (unit _ _ _ _ (hs.re [2,0,1] rfl))
  by_cases e10:x1=10
  ·subst e10
   repeat first|refine Zt rfl ?_|refine Zu (by decide) ?_
   try simp only[HS]
   refine hs.ld 3 (v:=I x2) rfl rfl ?_;simp only[HV];refine(pZQ (p:=dp) (d:=d) x2).use hs [1] rfl rfl ?_;rintro _ _ H ⟨rfl,rfl⟩ hs
   try simp only[HV]
   exact live 0 (some m) [] none 0 0 _ c pk (fun _=>True) H (.nop (.inr (.inr (.inl rfl)))) rfl (fun H _=>Cells.nil' H _) ((hL.fused x2.toNat (by omega)).up (by omega)) rfl rfl (fun h _=>absurd rfl h) (fun m2 e=>by cases e;exact hpk) (unit _ _ _ _ (hs.re [1,0,2] rfl))
  have rows:∀(w:List UInt64) (b mm:Nat) (H:Hp),pts b (.row (Zb w) 108 mm) H->Cells H (Io b) (Zb w):=fun w b mm H h=>by
   have:=Cells.row h 0 (Zb w).length
   rwa [List.drop_zero,List.take_length]at this
  by_cases e11:x1=11
  ·subst e11
   repeat first|refine Zt rfl ?_|refine Zu (by decide) ?_
   refine(oZr (p:=p) (dp:=dp) hV.cl hV.hh hsm.2 hpk).use hs [0,1] rfl rfl ?_;rintro _ _ H (⟨h2,rfl,rfl⟩|⟨h2,⟨d',b,mm,pk',h1,hw,hc,rfl,rfl⟩|⟨d',hcut,hleft,rfl,rfl⟩⟩) hs
   ·simp only[HV];exact same 11 H (.riNo rfl h2) (hs.re [0,1,2] rfl)
   ·simp only[HV];exact live 0 (some m) m.inp (Io b) m.inp.length m.inp.length d' c pk' (pts b (.row (Zb m.inp) 108 mm)) H (.ri rfl h2) rfl (fun H h=>rows _ _ _ H h) (hL.went hw (by have:=hrdc 0;omega) hc) hw.sec hw.size (fun _ hf=>hw.calm hf) (fun m2 e=>by cases e;exact h1) (hs.re [0,1,2,3] rfl)
   ·simp only[HV];exact dead 0 (some m) m.inp d' H (.ri rfl h2) (by decide) (by decide) (.inr rfl) (by have:=hcut.pos;omega) (one d' _ (by have:=hrdc 0;omega) hcut hleft) (hs.re [0,1,2] rfl)
  by_cases e12':x1=12
  ·subst e12'
   repeat first|refine Zt rfl ?_|refine Zu (by decide) ?_
   refine(jZk (p:=p) (dp:=dp) hV.cl hV.hh hsm.2 hpk).use hs [0,1] rfl rfl ?_;rintro _ _ H (⟨h4,rfl,rfl⟩|⟨h4,⟨d',b,mm,pk',h1,hw,hc,rfl,rfl⟩|⟨d',hcut,hleft,rfl,rfl⟩⟩) hs
   ·simp only[HV];exact same 12 H (.roNo rfl h4) (hs.re [0,1,2] rfl)
   ·simp only[HV];exact live 0 (some m) (eZC m (d.size/8)) (Io b) (eZC m (d.size/8)).length (eZC m (d.size/8)).length d' c pk' (pts b (.row (Zb (eZC m (d.size/8))) 108 mm)) H (.ro rfl h4) rfl (fun H h=>rows _ _ _ H h) (hL.went hw (by have:=hrdc 3;omega) hc) hw.sec hw.size (fun _ hf=>hw.calm hf) (fun m2 e=>by cases e;exact h1) (hs.re [0,1,2,3] rfl)
   ·simp only[HV];exact dead 0 (some m) (eZC m (d.size/8)) d' H (.ro rfl h4) (by decide) (by decide) (.inr rfl) (by have:=hcut.pos;omega) (one d' _ (by have:=hrdc 3;omega) hcut hleft) (hs.re [0,1,2] rfl)
  repeat refine Zu (by omega) ?_
  exact same 0 H (.nop (by show x1<0∨x1=9∨x1=10∨12<x1;omega)) (hs.re [0,1,2] rfl)
theorem eZp (m:Mn)(per:Nat):stM m per=1∨stM m per=2∨stM m per=3∨stM m per=4:=by
 unfold stM;split
 ·omega
 ·split
  ·omega
  ·split<;>omega
def stO (per:Nat):Option Mn->S6
 |none=>z6
 |some m=>if stM m per=1 then(1,m.r.ld,0,0,0,0)else if stM m per=2 then(2,m.r.ld,m.r.kk,0,0,0)else(stM m per,m.r.ld,m.r.kk,m.r.dir,m.r.ps,(aZv m per m.r).length)
def moO :Option Mn->Nat|none=>0|some m=>m.most
def arO :Option Mn->Nat|none=>0|some m=>m.arena
def ldO :Option Mn->Nat|none=>0|some m=>m.r.ld
def mcO (sec:Nat)(o:Option Mn)(A:OA)(n m:Nat):Array Value:=mch (stO (32/8) o) (moO o) (arO o) sec 32 (ldO o) A n m
abbrev bZY (sec:Nat)(o:Option Mn)(A:OA)(n m:Nat):AO:=Is (mcO sec o A n m) 33
def InO (o:Option Mn)(R:As)(A:OA)(n:Nat):Prop:=∀ m,o=some m->2<=stM m (32/8)->n=m.inp.length/\∀ H,R H->Cells H A (Zb m.inp)
theorem InO.mono {o:Option Mn}{R R':As}{A:OA}{n:Nat}(h:InO o R A n)(k:∀ H,R' H->∃ H1,R H1/\H1.le H):InO o R' A n:=fun m hm hs=>⟨(h m hm hs).1,fun H hR=>by
 obtain⟨H1,h1,h2⟩:=k H hR;exact((h m hm hs).2 H1 h1).le h2⟩
theorem dZr (per:Nat)(m:Mn):stO per (some m)=if stM m per=1 then(1,(m.r.ld:Int),0,0,0,0)else if stM m per=2 then(2,(m.r.ld:Int),m.r.kk,0,0,0)else(stM m per,(m.r.ld:Int),m.r.kk,m.r.dir,m.r.ps,((aZv m per m.r).length:Int)):=rfl
theorem fZN {per:Nat}{m:Mn}:(stO per (some m)).1=stM m per:=by
 rw[dZr];by_cases h1:stM m per=1
 ·rw[if_pos h1,h1]
 ·rw[if_neg h1];by_cases h2:stM m per=2
  ·rw[if_pos h2,h2]
  ·rw[if_neg h2]
def jZ9 (sec:Nat)(e:Int)(o':Option Mn)(w:List UInt64)(RO:As)(H0:Hp)(v:Value)(M:List As):Prop:=
 ∃(X:As) (A':OA) (n' m':Nat) (B:OA) (nB mB:Nat),v= .tuple #[.agg (mcO sec o' A' n' m'),I e,.slice B nB mB]/\(InO o' X A' n'∨InO o' RO A' n')/\nB=w.length/\((∀ H,X H->Cells H B (Zb w))∨∀ H,RO H->Cells H B (Zb w))/\M=[X,RO,own H0]
theorem uZH {s:S6}{mo ar sc sz ld:Int}{A:OA}{n m:Nat}{L:List As}{H:Hp}{b3 j:Nat}{y:Array Value}{Q:List Value->Hp->Prop}(hs:Sep L H)(hj:L[j]? =some (pts b3 (Is y 33)))(hy:y.size=12)
  (k:∀ b4 H,Sep ((L.set j (pts b3 (cZ4 s mo ar sc sz ld A n m)))++[pts b4 (cZ4 s mo ar sc sz ld A n m)]) H->Q (mch s mo ar sc sz ld A n m).toList H):
  Nw H dZU fun b4 H5=>StA H5 (O b4) (mch s mo ar sc sz ld A n m) 12 fun H6=>LdA H6 (O b4) 12 fun l5=>StA H6 (O b3) l5.toArray 12 fun H7=>LdA H7 (O b3) 12 fun l6=>Q l6 H7:=by
 have hlt:=(List.getElem?_eq_some_iff.1 hj).1;refine hs.nw fun b4 H hs=>?_
 refine hs.stw L.length (y:=mch s mo ar sc sz ld A n m) (by rw[List.getElem?_append_right (Nat.le_refl _),Nat.sub_self];rfl) rfl rfl rfl fun H hs=>?_;have e1:(L++[pts b4 dZU]).set L.length (pts b4 (cZ4 s mo ar sc sz ld A n m))=L++[pts b4 (cZ4 s mo ar sc sz ld A n m)]:=by
  rw[List.set_append_right _ _ (Nat.le_refl _),Nat.sub_self];rfl
 have hs:Sep (L++[pts b4 (cZ4 s mo ar sc sz ld A n m)]) H:=e1▸hs;refine hs.ldw L.length (by rw[List.getElem?_append_right (Nat.le_refl _),Nat.sub_self];rfl) rfl ?_;refine hs.stw j (y:=mch s mo ar sc sz ld A n m) (by rw[List.getElem?_append_left hlt];exact hj) hy rfl rfl fun H hs=>?_;have e2:(L++[pts b4 (cZ4 s mo ar sc sz ld A n m)]).set j (pts b3 (cZ4 s mo ar sc sz ld A n m))=(L.set j (pts b3 (cZ4 s mo ar sc sz ld A n m)))++[pts b4 (cZ4 s mo ar sc sz ld A n m)]:=List.set_append_left _ _ hlt;rw[e2]at hs;refine hs.ldw j (by rw[List.getElem?_append_left (by rw[List.length_set];exact hlt)];exact List.getElem?_set_self hlt) rfl ?_;exact k b4 H hs
theorem xZf (sec kn wn:Nat):mch (1,0,0,0,0,0) kn wn sec 32 0 .none 0 0=mcO sec (some (bZN kn wn)) .none 0 0:=rfl
theorem vZR (sec:Nat)(m:Mn)(k:Nat)(l:List UInt64)(A:OA)(n mm:Nat):mch (2,((m.r.ld:Nat):Int)+1,k,0,0,0) m.most m.arena sec 32 (((m.r.ld:Nat):Int)+1) A n mm=mcO sec (some (aZK m k l)) A n mm:=by
 have h1r:(aZG m k).r=cZl m k:=Mn.add_r _ _;have h2r:(aZK m k l).r=cZ2 (aZG m k) k l:=Mn.add_r _ _;have e:stM (aZK m k l) (32/8)=2:=by unfold stM;rw[if_pos (by rw[h2r];rfl)]
 have hl:(aZK m k l).r.ld=m.r.ld+1:=by rw[h2r];show(aZG m k).r.ld=_;rw[h1r];rfl
 have hk:(aZK m k l).r.kk=k:=by rw[h2r];rfl
 have hl':((aZK m k l).r.ld:Int)=(m.r.ld:Int)+1:=by rw[hl];omega
 show _=mch (stO (32/8) (some (aZK m k l))) m.most m.arena sec 32 ((aZK m k l).r.ld:Int) A n mm
 rw[dZr,e,if_neg (by decide),if_pos rfl,hl',hk]
theorem vZT (sec:Nat)(m:Mn)(b:Bool)(A:OA)(n mm:Nat)(h0:0<=m.r.kk):mch (3,m.r.ld,(m.r.kk.toNat:Int),if b=true then 1 else 0,0,(aZW b m.r.kk.toNat (32/8) m.arena).length) m.most m.arena sec 32 m.r.ld A n mm=mcO sec (some (m.add (bZB m b))) A n mm:=by
 have hr:(m.add (bZB m b)).r=bZB m b:=Mn.add_r _ _;have hp:aZv (m.add (bZB m b)) (32/8) (bZB m b)=aZW b m.r.kk.toNat (32/8) m.arena:=by
  cases b<;>rfl
 have hl:=(fZZ b m.r.kk.toNat (32/8) m.arena).1;have e:stM (m.add (bZB m b)) (32/8)=3:=by
  unfold stM;rw[hr,hp,if_neg (by show(3:Int)≠2;decide),if_neg (by show ¬(3:Int)<3;decide),if_pos (by show(0:Int)<_;omega)]
 show _=mch (stO (32/8) (some (m.add (bZB m b)))) m.most m.arena sec 32 ((m.add (bZB m b)).r.ld:Int) A n mm
 rw[dZr,e,if_neg (show ¬(3:Int)=1 by decide),if_neg (show ¬(3:Int)=2 by decide),hr,hp,Int.toNat_of_nonneg h0];rfl
theorem vZS (sec:Nat)(m:Mn)(A:OA)(n mm:Nat)(h3:stM m (32/8)=3):mch (if m.r.ps+1=((aZv m (32/8) m.r).length:Int)then 4 else 3,m.r.ld,m.r.kk,m.r.dir,m.r.ps+1,(aZv m (32/8) m.r).length) m.most m.arena sec 32 m.r.ld A n mm=mcO sec (some (m.add (aZV m (32/8)))) A n mm:=by
 have hr:(m.add (aZV m (32/8))).r=aZV m (32/8):=Mn.add_r _ _;have hp:aZv (m.add (aZV m (32/8))) (32/8) (aZV m (32/8))=aZv m (32/8) m.r:=sZN m _ m.r _ rfl rfl _;have hlt:m.r.ps<((aZv m (32/8) m.r).length:Int):=by
  unfold stM at h3;split at h3
  ·omega
  ·split at h3
   ·omega
   ·split at h3
    ·assumption
    ·omega
 have e:stM (m.add (aZV m (32/8))) (32/8)=if m.r.ps+1=((aZv m (32/8) m.r).length:Int)then 4 else 3:=by
  unfold stM;rw[hr,hp,if_neg (by show(4:Int)≠2;decide),if_neg (by show ¬(4:Int)<3;decide)];show(if m.r.ps+1<_ then(3:Int)else 4)=_
  by_cases h:m.r.ps+1=((aZv m (32/8) m.r).length:Int)
  ·rw[if_neg (by omega),if_pos h]
  ·rw[if_pos (by omega),if_neg h]
 show _=mch (stO (32/8) (some (m.add (aZV m (32/8))))) m.most m.arena sec 32 ((m.add (aZV m (32/8))).r.ld:Int) A n mm
 rw[dZr,e,hr,hp];by_cases h:m.r.ps+1=((aZv m (32/8) m.r).length:Int)
 ·rw[if_pos h,if_neg (by decide),if_neg (by decide)];rfl
 ·rw[if_neg h,if_neg (by decide),if_neg (by decide)];rfl
theorem mZM {per:Nat}{m:Mn}(h:3<=stM m per:=by omega):stO per (some m)=(stM m per,(m.r.ld:Int),m.r.kk,m.r.dir,m.r.ps,((aZv m per m.r).length:Int)):=by
 rw[dZr,if_neg (by omega),if_neg (by omega)]
theorem Lo.inp {N:Nat}{d:D}{c:Cn}{m:Mn}(hL:Lo N d c (some m)){per:Nat}(hs:2<=stM m per):m.inp.length=2^m.r.kk.toNat/\eZT m.inp:=by
 have hV:=hL.liv m rfl;have hk:2<=m.r.kd:=hZO.1 hs;have hr:=Mn.r_kd (m:=m);have q:=hV.hh.inp _ hr hk;exact⟨q.len,q.can⟩
theorem kZ5 {N:Nat}{d:D}{c:Cn}{m:Mn}(hL:Lo N d c (some m)): -1000<=(stO (32/8) (some m)).2.2.2.2.1/\(stO (32/8) (some m)).2.2.2.2.1<=1000:=by
 have hV:=hL.liv m rfl;by_cases h:3<=stM m (32/8)
 ·rw[mZM h];show -1000<=m.r.ps/\m.r.ps<=1000
  rcases(Mn.r_wf hV.hh).1 with e|e
  ·rw[e];decide
  ·have h2:=e.2.2.2.2.2;omega
 ·rw[dZr];have:=eZp m (32/8);by_cases h1:stM m (32/8)=1
  ·rw[if_pos h1];show -1000<=(0:Int)/\(0:Int)<=1000;decide
  ·rw[if_neg h1,if_pos (by omega)];show -1000<=(0:Int)/\(0:Int)<=1000;decide
set_option maxHeartbeats 4000000 in
theorem vZs {N:Nat}{d:D}{c:Cn}{o:Option Mn}{a:bZR}{e:Int}{o':Option Mn}{w:List UInt64}{H0:Hp}{A:OA}{n mm:Nat}{RO:As}(hL:Lo N d c o)(hN:N<=390)(hsz:d.size=32)(hsec:d.sec<=1000000)(hE:Ef d.sec (32/8) o a e o' w)(h8:a.k≠8)(ha:OkE H0 a)(hsh:hZ5 a)(hI:InO o RO A n):
  Tr prog 19 #[.agg (mcO d.sec o A n mm),.agg (bZi a).toArray] [RO,own H0] (jZ9 d.sec e o' w RO H0):=fun H hs=>by
 obtain⟨x1,x2,x3,A1,nA,mA,l,G,nG,mG,ks⟩:=a;have hnA:nA=l.length:=ha.nA;have hcA:Cells H0 A1 (Zb l):=ha.l;have hl32:nA<=32:=hsh.1;have ldb:(ldO o:Int)<=390:=by
  cases o with
  |none=>show((0:Nat):Int)<=_;omega
  |some m=>have:=(hL.liv m rfl).ld;show((m.r.ld:Nat):Int)<=_;omega
  -- what an answer without words leaves
 have fin:∀(e':Int) (o2:Option Mn) (A':OA) (n' m':Nat) (X:As) (H:Hp),e'=e->o2=o'->w=[]->(InO o2 X A' n'∨InO o2 RO A' n')->Sep [X,RO,own H0] H->∃ M,jZ9 d.sec e o' w RO H0 (.tuple #[.agg (mcO d.sec o2 A' n' m'),I e',.slice none 0 0]) M/\Sep M H:=fun e' o2 A' n' m' X H h1 h2 h3 h4 hs=>by
  subst h1 h2 h3;exact⟨_,⟨X,A',n',m',none,0,0,rfl,h4,rfl,.inl fun H _=>Cells.nil' H _,rfl⟩,hs⟩
 have tru:∀(H:Hp),Sep [RO,own H0] H->Sep [(fun _=>True),RO,own H0] H:=fun H hs=>Sep.unit (X:=fun _=>True) hs trivial
 have noIn:∀(o2:Option Mn),(∀ m,o2=some m->stM m (32/8)<2)->InO o2 RO .none 0:=fun o2 h m hm hs=>by have:=h m hm;omega
 apply Zw.ok;unfold Zw Zw.q4 Zw.q3 Zw.q3.q1 Zw.q2 Zw.q1 Zw.q1.q1;refine hs.nw fun b1 H hs=>?_
 refine hs.nw fun b2 H hs=>?_
 refine hs.nw fun b3 H hs=>?_
 have hs:Sep [RO,own H0,pts b1 (bZY d.sec o A n mm),pts b2 (Is (bZi ⟨x1,x2,x3,A1,nA,mA,l,G,nG,mG,ks⟩).toArray 37),pts b3 dZU] H:=hs
 try simp only[HS]
 refine hs.ld 3 (v:=I x1) rfl rfl ?_;simp only[HV]
  -- the machine is handed back
 have keep:∀(e':Int) (H:Hp),e'=e->o=o'->w=[]->Sep [RO,own H0,pts b1 (bZY d.sec o A n mm),pts b2 (Is (bZi ⟨x1,x2,x3,A1,nA,mA,l,G,nG,mG,ks⟩).toArray 37),pts b3 dZU] H->
   LdA H (O b1) 12 fun l1=>StA H (O b3) l1.toArray 12 fun H3=>LdA H3 (O b3) 12 fun l6=>∃ M,jZ9 d.sec e o' w RO H0 (.tuple #[.agg l6.toArray,I e',.slice none 0 0]) M/\Sep M H3:=fun e' H h1 h2 h3 hs=>by
  refine gZ5 hs (i:=2) (j:=4) rfl rfl rfl fun H hs=>?_;exact fin e' o A n mm (fun _=>True) H h1 h2 h3 (.inr hI) (tru _ (hs.re [0,1] rfl))
 have tail:∀(e':Int) (o2:Option Mn) (A':OA) (n' m':Nat) (X:As) (H:Hp),e'=e->o2=o'->w=[]->(InO o2 X A' n'∨InO o2 RO A' n')->Sep [X,RO,own H0,pts b1 (bZY d.sec o A n mm),pts b2 (Is (bZi ⟨x1,x2,x3,A1,nA,mA,l,G,nG,mG,ks⟩).toArray 37),pts b3 dZU] H->
   Nw H dZU fun b4 H5=>StA H5 (O b4) (mcO d.sec o2 A' n' m') 12 fun H6=>LdA H6 (O b4) 12 fun l5=>StA H6 (O b3) l5.toArray 12 fun H7=>LdA H7 (O b3) 12 fun l6=>∃ M,jZ9 d.sec e o' w RO H0 (.tuple #[.agg l6.toArray,I e',.slice none 0 0]) M/\Sep M H7:=fun e' o2 A' n' m' X H h1 h2 h3 h4 hs=>by
  refine uZH hs (j:=5) rfl rfl fun b4 H hs=>?_
  exact fin e' o2 A' n' m' X H h1 h2 h3 h4 (hs.re [0,1,2] rfl)
 cases hE with
 |fmtNo h he=>
  have h:x1=0:=h;subst h
  repeat first|refine Zt rfl ?_|refine Zu (by decide) ?_
  refine hs.ldw 2 rfl rfl ?_
  try simp only[Array.toArray_toList]
  refine hs.ld 3 (v:=I x2) rfl rfl ?_;simp only[HV];refine hs.ld 3 (v:=I x3) rfl rfl ?_;simp only[HV];refine(lZ4 (s:=stO (32/8) o) (mo:=moO o) (ar:=arO o) (ld:=ldO o) (A:=A) (n:=n) (m:=mm) hsec x2 x3).use hs [] rfl rfl ?_;rintro _ _ H ⟨rfl,rfl⟩ hs;have he:aZ3 d.sec (32/8) x2 x3≠0:=he;rw[if_neg he];simp only[HV];exact tail _ o A n mm (fun _=>True) H rfl rfl rfl (.inr hI) (Sep.unit (X:=fun _=>True) (hs.re [0,1,2,3,4] rfl) trivial)
 | @fmt _ _ kn wn h hn hm he=>
  have h:x1=0:=h;have hn:x2=kn:=hn;have hm:x3=wn:=hm;subst h hn hm
  repeat first|refine Zt rfl ?_|refine Zu (by decide) ?_
  refine hs.ldw 2 rfl rfl ?_
  try simp only[Array.toArray_toList]
  refine hs.ld 3 (v:=I (kn:Int)) rfl rfl ?_;simp only[HV];refine hs.ld 3 (v:=I (wn:Int)) rfl rfl ?_;simp only[HV];refine(lZ4 (s:=stO (32/8) o) (mo:=moO o) (ar:=arO o) (ld:=ldO o) (A:=A) (n:=n) (m:=mm) hsec kn wn).use hs [] rfl rfl ?_;rintro _ _ H ⟨rfl,rfl⟩ hs;have he:aZ3 d.sec (32/8) kn wn=0:=he;rw[he,if_pos rfl,xZf];simp only[HV];exact tail _ (some (bZN kn wn)) .none 0 0 (fun _=>True) H rfl rfl rfl (.inr (noIn _ fun m e=>by cases e;show(1:Int)<2;decide)) (Sep.unit (X:=fun _=>True) (hs.re [0,1,2,3,4] rfl) trivial)
 |ldNone h=>
  have h:x1=1∨x1=2:=h;rcases h with e|e<;>subst e<;>(repeat first|refine Zt rfl ?_|refine Zu (by decide) ?_)
  all_goals
   refine hs.ldw 2 rfl rfl ?_
   try simp only[Array.toArray_toList]
   refine hs.ld 3 (v:=.slice A1 nA mA) rfl rfl ?_;simp only[HV];refine(vZ5 (s:=stO (32/8) none) (mo:=moO none) (ar:=arO none) (sc:=d.sec) (sz:=32) (ld:=ldO none) (A0:=A) (n0:=n) (m0:=mm) (A:=A1) (n:=nA) (m:=mA) rfl).use hs [] rfl rfl ?_;rintro _ _ H ⟨rfl,rfl⟩ hs;simp only[HV];exact tail _ none A n mm (fun _=>True) H rfl rfl rfl (.inr hI) (Sep.unit (X:=fun _=>True) (hs.re [0,1,2,3,4] rfl) trivial)
 | @ldNo m _ k i _ h hc he=>
  have h:x1=1∨x1=2:=h;have hc:fZx l m.most k i e:=hc;have hee:=hc.err;have hs1:(stO (32/8) (some m)).1≠0:=by rw[fZN];have:=eZp m (32/8);omega
  rcases h with e1|e1<;>subst e1<;>(repeat first|refine Zt rfl ?_|refine Zu (by decide) ?_)
  all_goals
   refine hs.ldw 2 rfl rfl ?_
   try simp only[Array.toArray_toList]
   refine hs.ld 3 (v:=.slice A1 nA mA) rfl rfl ?_;simp only[HV];refine(qZi (R0:=own H0) (A:=A1) (n:=nA) (m:=mA) (l:=l) (most:=m.most) (s:=stO (32/8) (some m)) (ar:=(m.arena:Int)) (sc:=d.sec) (sz:=32) (ld:=(m.r.ld:Int)) (A0:=A) (n0:=n) (m0:=mm) hnA (by omega) (fun H h=>hcA.le h) hs1 ⟨by omega,by have:((m.r.ld:Nat):Int)<=390:=ldb;omega⟩).use hs [1] rfl rfl ?_;rintro _ _ H (⟨i',h0,rfl,rfl⟩|⟨k',A',m',hok,rfl,rfl⟩) hs
   ·simp only[HV];exact tail _ (some m) A n mm (fun _=>True) H hee.symm rfl rfl (.inr hI) (Sep.unit (X:=fun _=>True) (hs.re [1,0,2,3,4] rfl) trivial)
   ·exfalso;apply he;rw[hee];unfold gZE;rw[hok.1];show(if(m.most:Int)<(k':Int)then(14:Int)else if eZT l then 0 else 3)=0
    have:=hok.2.1;rw[if_neg (by omega),if_pos hok.2.2]
 | @ld m _ k h hk=>
  have h:x1=1∨x1=2:=h;have hk:okK l m.most k:=hk;have hs1:(stO (32/8) (some m)).1≠0:=by rw[fZN];have:=eZp m (32/8);omega
  rcases h with e1|e1<;>subst e1<;>(repeat first|refine Zt rfl ?_|refine Zu (by decide) ?_)
  all_goals
   refine hs.ldw 2 rfl rfl ?_
   try simp only[Array.toArray_toList]
   refine hs.ld 3 (v:=.slice A1 nA mA) rfl rfl ?_;simp only[HV];refine(qZi (R0:=own H0) (A:=A1) (n:=nA) (m:=mA) (l:=l) (most:=m.most) (s:=stO (32/8) (some m)) (ar:=(m.arena:Int)) (sc:=d.sec) (sz:=32) (ld:=(m.r.ld:Int)) (A0:=A) (n0:=n) (m0:=mm) hnA (by omega) (fun H h=>hcA.le h) hs1 ⟨by omega,by have:((m.r.ld:Nat):Int)<=390:=ldb;omega⟩).use hs [1] rfl rfl ?_;rintro _ _ H (⟨i',h0,rfl,rfl⟩|⟨k',A',m',hok,rfl,rfl⟩) hs
   ·exfalso;apply h0;unfold gZE;rw[hk.1];show(if(m.most:Int)<(k:Int)then(14:Int)else if eZT l then 0 else 3)=0
    have:=hk.2.1;rw[if_neg (by omega),if_pos hk.2.2]
   ·obtain rfl:k'=k:=by have:=hok.1;rw[hk.1]at this;cases this;rfl
    rw[vZR];simp only[HV];have hs:Sep [Own 108 1 A' l.length m' (Zb l),own H0,RO,pts b1 (bZY d.sec (some m) A n mm),pts b2 (Is (bZi ⟨_,x2,x3,A1,nA,mA,l,G,nG,mG,ks⟩).toArray 37),pts b3 dZU] H:=hs;exact tail _ (some (aZK m k' l)) A' l.length m' (Own 108 1 A' l.length m' (Zb l)) H rfl rfl rfl (.inl fun m2 e2 _=>by cases e2;exact⟨rfl,fun H h=>iZ9 h⟩) (hs.re [0,2,1,3,4,5] rfl)
 |sbNone h=>
  have h:x1=3:=h;subst h
  repeat first|refine Zt rfl ?_|refine Zu (by decide) ?_
  refine hs.ldw 2 rfl rfl ?_
  try simp only[Array.toArray_toList]
  refine hs.ld 3 (v:=I x2) rfl rfl ?_;simp only[HV];refine(jZd (s0:=0) (s1:=0) (s2:=0) (s3:=0) (s4:=0) (s5:=0) (mo:=(moO none:Int)) (ar:=0) (sc:=d.sec) (ld:=ldO none) (A:=A) (n:=n) (m:=mm) (k:=0) (by omega) (by omega) (by omega) x2).use hs [] rfl rfl ?_;rintro _ _ H ⟨rfl,⟨_,_,rfl⟩|⟨h,_⟩|⟨h,_⟩⟩ hs
  ·simp only[HV];exact tail _ none A n mm (fun _=>True) H rfl rfl rfl (.inr hI) (Sep.unit (X:=fun _=>True) (hs.re [0,1,2,3,4] rfl) trivial)
  ·omega
  ·omega
 | @sbNo m _ h h2 h4=>
  have h:x1=3:=h;subst h;have hV:=hL.liv m rfl;have har:=(bZ4 hV.hh.good).2.2.2;have hs0:(stO (32/8) (some m)).1=stM m (32/8):=fZN
  repeat first|refine Zt rfl ?_|refine Zu (by decide) ?_
  refine hs.ldw 2 rfl rfl ?_
  try simp only[Array.toArray_toList]
  refine hs.ld 3 (v:=I x2) rfl rfl ?_;simp only[HV];obtain⟨s,hsS⟩:∃ s,s=stO (32/8) (some m):=⟨_,rfl⟩;rw[← hsS]at hs0;have em:mcO d.sec (some m) A n mm=mch s m.most m.arena d.sec 32 m.r.ld A n mm:=by rw[hsS];rfl
  rw[em];obtain⟨s0,s1,s2,s3,s4,s5⟩:=s;have hs0:s0=stM m (32/8):=hs0;refine(jZd (s0:=s0) (s1:=s1) (s2:=s2) (s3:=s3) (s4:=s4) (s5:=s5) (mo:=(m.most:Int)) (ar:=m.arena) (sc:=d.sec) (ld:=(m.r.ld:Int)) (A:=A) (n:=n) (m:=mm) (k:=0) (by omega) (by omega) (by omega) x2).use hs [] rfl rfl ?_;rintro _ _ H ⟨rfl,⟨_,_,rfl⟩|⟨h,_⟩|⟨h,_⟩⟩ hs
  ·rw[← em];simp only[HV];exact tail _ (some m) A n mm (fun _=>True) H rfl rfl rfl (.inr hI) (Sep.unit (X:=fun _=>True) (hs.re [0,1,2,3,4] rfl) trivial)
  ·omega
  ·omega
 | @sbDir m _ h h24 hn=>
  have h:x1=3:=h;have hn:¬(x2=0∨x2=1):=hn;subst h;have hV:=hL.liv m rfl;have har:=(bZ4 hV.hh.good).2.2.2;have hkk:=(Mn.r_wf hV.hh).2.2;have hmost:=hV.most;have hs0:(stO (32/8) (some m)).1=stM m (32/8):=fZN;have hs2:(stO (32/8) (some m)).2.2.1=m.r.kk:=by
   rw[dZr];rcases h24 with h|h<;>rw[h]<;>rfl
  have hkd:2<=m.r.kd:=(hZO (m:=m) (per:=32/8)).1 (by omega);have hg:=(hV.hh.log.last (Mn.r_kd (m:=m))).1;have h0:0<=m.r.kk:=hg.2.2.1
  repeat first|refine Zt rfl ?_|refine Zu (by decide) ?_
  refine hs.ldw 2 rfl rfl ?_
  try simp only[Array.toArray_toList]
  refine hs.ld 3 (v:=I x2) rfl rfl ?_;simp only[HV];obtain⟨s,hsS⟩:∃ s,s=stO (32/8) (some m):=⟨_,rfl⟩;rw[← hsS]at hs0 hs2;have em:mcO d.sec (some m) A n mm=mch s m.most m.arena d.sec 32 m.r.ld A n mm:=by rw[hsS];rfl
  rw[em];obtain⟨s0,s1,s2,s3,s4,s5⟩:=s;have hs0:s0=stM m (32/8):=hs0;have hs2:s2=m.r.kk:=hs2;refine(jZd (s0:=s0) (s1:=s1) (s2:=s2) (s3:=s3) (s4:=s4) (s5:=s5) (mo:=(m.most:Int)) (ar:=m.arena) (sc:=d.sec) (ld:=(m.r.ld:Int)) (A:=A) (n:=n) (m:=mm) (k:=m.r.kk.toNat) (by omega) (by omega) (by omega) x2).use hs [] rfl rfl ?_;rintro _ _ H ⟨rfl,⟨h2,h4,_⟩|⟨_,_,rfl⟩|⟨_,b,hb,_⟩⟩ hs
  ·omega
  ·rw[← em];simp only[HV];exact tail _ (some m) A n mm (fun _=>True) H rfl rfl rfl (.inr hI) (Sep.unit (X:=fun _=>True) (hs.re [0,1,2,3,4] rfl) trivial)
  ·exact absurd (by cases b<;>simp at hb<;>omega) hn
 | @sb m _ b h h24 hb=>
  have h:x1=3:=h;have hb:x2=if b=true then 1 else 0:=hb
  subst h;have hV:=hL.liv m rfl;have har:=(bZ4 hV.hh.good).2.2.2;have hkk:=(Mn.r_wf hV.hh).2.2;have hmost:=hV.most;have hs0:(stO (32/8) (some m)).1=stM m (32/8):=fZN;have hs1:(stO (32/8) (some m)).2.1=m.r.ld:=by
   rw[dZr];rcases h24 with h|h<;>rw[h]<;>rfl
  have hs2:(stO (32/8) (some m)).2.2.1=m.r.kk:=by
   rw[dZr];rcases h24 with h|h<;>rw[h]<;>rfl
  have hkd:2<=m.r.kd:=(hZO (m:=m) (per:=32/8)).1 (by omega);have hg:=(hV.hh.log.last (Mn.r_kd (m:=m))).1;have h0:0<=m.r.kk:=hg.2.2.1
  repeat first|refine Zt rfl ?_|refine Zu (by decide) ?_
  refine hs.ldw 2 rfl rfl ?_
  try simp only[Array.toArray_toList]
  refine hs.ld 3 (v:=I x2) rfl rfl ?_;simp only[HV];obtain⟨s,hsS⟩:∃ s,s=stO (32/8) (some m):=⟨_,rfl⟩;rw[← hsS]at hs0 hs1 hs2;have em:mcO d.sec (some m) A n mm=mch s m.most m.arena d.sec 32 m.r.ld A n mm:=by rw[hsS];rfl
  rw[em];obtain⟨s0,s1,s2,s3,s4,s5⟩:=s;have hs0:s0=stM m (32/8):=hs0;have hs1:s1=m.r.ld:=hs1;have hs2:s2=m.r.kk:=hs2;refine(jZd (s0:=s0) (s1:=s1) (s2:=s2) (s3:=s3) (s4:=s4) (s5:=s5) (mo:=(m.most:Int)) (ar:=m.arena) (sc:=d.sec) (ld:=(m.r.ld:Int)) (A:=A) (n:=n) (m:=mm) (k:=m.r.kk.toNat) (by omega) (by omega) (by omega) x2).use hs [] rfl rfl ?_;rintro _ _ H ⟨rfl,⟨h2,h4,_⟩|⟨_,hn,_⟩|⟨_,b',hb',rfl⟩⟩ hs
  ·omega
  ·exact absurd (by cases b<;>simp at hb<;>omega) hn
  ·obtain rfl:b'=b:=by cases b<;>cases b'<;>first|rfl|(exfalso;simp at hb hb';omega)
   rw[hs1,vZT d.sec m b' A n mm h0];simp only[HV];exact tail _ (some (m.add (bZB m b'))) A n mm (fun _=>True) H rfl rfl rfl (.inr fun m2 e2 _=>by cases e2;exact hI m rfl (by omega)) (Sep.unit (X:=fun _=>True) (hs.re [0,1,2,3,4] rfl) trivial)
 |stNone h=>
  have h:x1=4∨x1=5∨x1=6∨x1=7:=h;rcases h with e|e|e|e<;>subst e<;>(repeat first|refine Zt rfl ?_|refine Zu (by decide) ?_)
  all_goals
   refine hs.ldw 2 rfl rfl ?_
   try simp only[Array.toArray_toList]
   refine(kZ8 (s0:=0) (s1:=0) (s2:=0) (s3:=0) (s4:=0) (s5:=0) (mo:=(moO none:Int)) (ar:=arO none) (sc:=d.sec) (sz:=32) (ld:=ldO none) (A:=A) (n:=n) (m:=mm) (by omega)).use hs [] rfl rfl ?_;rintro _ _ H ⟨rfl,⟨_,rfl⟩|⟨h,_⟩⟩ hs
   ·simp only[HV];exact tail _ none A n mm (fun _=>True) H rfl rfl rfl (.inr hI) (Sep.unit (X:=fun _=>True) (hs.re [0,1,2,3,4] rfl) trivial)
   ·omega
 | @stNo m _ h h3=>
  have h:x1=4∨x1=5∨x1=6∨x1=7:=h;have hs0:(stO (32/8) (some m)).1=stM m (32/8):=fZN;have hV:=hL.liv m rfl;have hps: -1000<=(stO (32/8) (some m)).2.2.2.2.1/\(stO (32/8) (some m)).2.2.2.2.1<=1000:=kZ5 hL;obtain⟨s,hsS⟩:∃ s,s=stO (32/8) (some m):=⟨_,rfl⟩;rw[← hsS]at hs0 hps;have em:mcO d.sec (some m) A n mm=mch s m.most m.arena d.sec 32 m.r.ld A n mm:=by rw[hsS];rfl
  obtain⟨s0,s1,s2,s3,s4,s5⟩:=s;have hs0:s0=stM m (32/8):=hs0;rcases h with e|e|e|e<;>subst e<;>(repeat first|refine Zt rfl ?_|refine Zu (by decide) ?_)
  all_goals
   refine hs.ldw 2 rfl rfl ?_
   try simp only[Array.toArray_toList]
   rw[em];refine(kZ8 (s0:=s0) (s1:=s1) (s2:=s2) (s3:=s3) (s4:=s4) (s5:=s5) (mo:=(m.most:Int)) (ar:=(m.arena:Int)) (sc:=d.sec) (sz:=32) (ld:=(m.r.ld:Int)) (A:=A) (n:=n) (m:=mm) hps).use hs [] rfl rfl ?_;rintro _ _ H ⟨rfl,⟨_,rfl⟩|⟨h,_⟩⟩ hs
   ·rw[← em];simp only[HV];exact tail _ (some m) A n mm (fun _=>True) H rfl rfl rfl (.inr hI) (Sep.unit (X:=fun _=>True) (hs.re [0,1,2,3,4] rfl) trivial)
   ·omega
 | @st m _ h h3=>
  have h:x1=4∨x1=5∨x1=6∨x1=7:=h;have hps:=kZ5 hL;have ej:=mZM (per:=32/8) (m:=m);rw[ej,h3]at hps;have em:mcO d.sec (some m) A n mm=mch (3,m.r.ld,m.r.kk,m.r.dir,m.r.ps,(aZv m (32/8) m.r).length) m.most m.arena d.sec 32 m.r.ld A n mm:=by
   unfold mcO;rw[ej,h3];rfl
  rcases h with e|e|e|e<;>subst e<;>(repeat first|refine Zt rfl ?_|refine Zu (by decide) ?_)
  all_goals
   refine hs.ldw 2 rfl rfl ?_
   try simp only[Array.toArray_toList]
   rw[em];refine(kZ8 (s0:=3) (s1:=m.r.ld) (s2:=m.r.kk) (s3:=m.r.dir) (s4:=m.r.ps) (s5:=((aZv m (32/8) m.r).length:Int)) (mo:=(m.most:Int)) (ar:=(m.arena:Int)) (sc:=d.sec) (sz:=32) (ld:=(m.r.ld:Int)) (A:=A) (n:=n) (m:=mm) hps).use hs [] rfl rfl ?_;rintro _ _ H ⟨rfl,⟨h,_⟩|⟨_,rfl⟩⟩ hs
   ·exact absurd rfl h
   ·rw[vZS d.sec m A n mm h3];simp only[HV];refine tail _ (some (m.add (aZV m (32/8)))) A n mm (fun _=>True) H rfl rfl rfl (.inr fun m2 e2 _=>by cases e2;exact hI m rfl (by omega)) (Sep.unit (X:=fun _=>True) ?_ trivial);exact hs.re [0,1,2,3,4] rfl
 |rcNone h=>exact absurd h h8
 |rc h=>exact absurd h h8
 |riNone h=>
  have h:x1=11:=h;subst h
  repeat first|refine Zt rfl ?_|refine Zu (by decide) ?_
  refine hs.ld 2 (v:=I 0) rfl rfl ?_;simp only[HV];refine Zm (by decide) ?_;exact keep 11 H rfl rfl rfl hs
 | @riNo m _ h h2=>
  have h:x1=11:=h;subst h
  repeat first|refine Zt rfl ?_|refine Zu (by decide) ?_
  refine hs.ld 2 (v:=I (stM m (32/8))) rfl (by show some (Value.int .i64 (stO (32/8) (some m)).1)=_;rw[fZN]) ?_;simp only[HV];refine Zm h2 ?_;exact keep 11 H rfl rfl rfl hs
 | @ri m _ h h2=>
  have h:x1=11:=h;subst h
  repeat first|refine Zt rfl ?_|refine Zu (by decide) ?_
  refine hs.ld 2 (v:=I (stM m (32/8))) rfl (by show some (Value.int .i64 (stO (32/8) (some m)).1)=_;rw[fZN]) ?_;simp only[HV];refine Zg (by omega) ?_;obtain⟨hn,hc⟩:=hI m rfl h2;have fin2:∀ H,Sep [RO,own H0,pts b1 (bZY d.sec (some m) A n mm),pts b2 (Is (bZi ⟨11,x2,x3,A1,nA,mA,l,G,nG,mG,ks⟩).toArray 37),pts b3 (bZY d.sec (some m) A n mm)] H->∃ M,jZ9 d.sec 0 (some m) m.inp RO H0 (.tuple #[.agg (mcO d.sec (some m) A n mm),I 0,.slice A n mm]) M/\Sep M H:=fun H hs=>
   ⟨_,⟨(fun _=>True),A,n,mm,A,n,mm,rfl,.inr hI,hn,.inr hc,rfl⟩,tru _ (hs.re [0,1] rfl)⟩
  refine⟨hs.ldw 2 rfl rfl ⟨hs.ld 2 (v:=.slice A n mm) rfl rfl ?_,?_⟩,hs.ld 2 (v:=.slice A n mm) rfl rfl ?_⟩
  ·simp only[HV];refine hs.stw 4 (y:=mcO d.sec (some m) A n mm) rfl rfl rfl rfl fun H hs=>?_;refine hs.ldw 4 rfl rfl ?_;exact fin2 H hs
  ·refine hs.stw 4 (y:=mcO d.sec (some m) A n mm) rfl rfl rfl rfl fun H hs=>?_;refine hs.ld 2 (v:=.slice A n mm) rfl rfl ?_;simp only[HV];refine hs.ldw 4 rfl rfl ?_;exact fin2 H hs
  ·simp only[HV];refine hs.ldw 2 rfl rfl ?_;refine hs.stw 4 (y:=mcO d.sec (some m) A n mm) rfl rfl rfl rfl fun H hs=>?_;refine hs.ldw 4 rfl rfl ?_;exact fin2 H hs
 |roNone h=>
  have h:x1=12:=h;subst h
  repeat first|refine Zt rfl ?_|refine Zu (by decide) ?_
  refine hs.ld 2 (v:=I 0) rfl rfl ?_;simp only[HV];refine Zz (by decide) ?_;exact keep 12 H rfl rfl rfl hs
 | @roNo m _ h h4=>
  have h:x1=12:=h;subst h
  repeat first|refine Zt rfl ?_|refine Zu (by decide) ?_
  refine hs.ld 2 (v:=I (stM m (32/8))) rfl (by show some (Value.int .i64 (stO (32/8) (some m)).1)=_;rw[fZN]) ?_;simp only[HV];refine Zz h4 ?_;exact keep 12 H rfl rfl rfl hs
 | @ro m _ h h4=>
  have h:x1=12:=h;subst h;have hV:=hL.liv m rfl
  repeat first|refine Zt rfl ?_|refine Zu (by decide) ?_
  refine hs.ld 2 (v:=I (stM m (32/8))) rfl (by show some (Value.int .i64 (stO (32/8) (some m)).1)=_;rw[fZN]) ?_;simp only[HV];refine Zr h4 ?_;obtain⟨hn,hc⟩:=hI m rfl (by omega);obtain⟨hil,_⟩:=hL.inp (m:=m) (per:=32/8) (by omega);have hkk:=(Mn.r_wf hV.hh).2.2;have hmost:=hV.most;have hkd:2<=m.r.kd:=(hZO (m:=m) (per:=32/8)).1 (by omega);have hg:=(hV.hh.log.last (Mn.r_kd (m:=m))).1;have h0:0<=m.r.kk:=hg.2.2.1;have hdir:=(hV.hh.eg (peak:=0) (Int.natCast_nonneg _)).dir;have hdir:m.r.dir=if dZi m.r=true then 1 else 0:=hdir
  have ej:=mZM (per:=32/8) (m:=m);have hout:eZC m (32/8)=tfL (dZi m.r) m.r.kk.toNat m.inp:=by
   unfold eZC aZv;exact mZD _ _ _ _ (by omega) _ hil
  have call:∀(H:Hp) (K:VK),Sep [RO,own H0,pts b1 (bZY d.sec (some m) A n mm),pts b2 (Is (bZi ⟨12,x2,x3,A1,nA,mA,l,G,nG,mG,ks⟩).toArray 37),pts b3 dZU] H->
    (∀(A2:OA) (m2:Nat) (H:Hp),Sep [Own 108 1 A2 n m2 (Zb (eZC m (32/8))),RO,own H0,pts b1 (bZY d.sec (some m) A n mm),pts b2 (Is (bZi ⟨12,x2,x3,A1,nA,mA,l,G,nG,mG,ks⟩).toArray 37),pts b3 dZU] H->K (.slice A2 n m2) H)->
    Za prog 56 #[.agg (mcO d.sec (some m) A n mm)] H K:=fun H K hs hK=>by
   have em:mcO d.sec (some m) A n mm=mch (stM m (32/8),m.r.ld,(m.r.kk.toNat:Int),if dZi m.r=true then 1 else 0,m.r.ps,(aZv m (32/8) m.r).length) m.most m.arena d.sec 32 m.r.ld A n mm:=by
    unfold mcO;rw[ej,←hdir,Int.toNat_of_nonneg h0];rfl
   rw[em];refine(rZb (k:=m.r.kk.toNat) (l:=m.inp) (R0:=RO) hc hn.symm (by omega) (by omega) (dZi m.r)).use hs [0] rfl rfl ?_;rintro _ _ H ⟨A2,m2,rfl,rfl⟩ hs;rw[hout]at hK;exact hK A2 m2 H hs
  have lenO:n=(eZC m (32/8)).length:=by rw[hout];have:=mZN (dZi m.r) m.r.kk.toNat m.inp;omega
  have fin2:∀(A2:OA) (m2:Nat) (H:Hp),Sep [Own 108 1 A2 n m2 (Zb (eZC m (32/8))),RO,own H0,pts b1 (bZY d.sec (some m) A n mm),pts b2 (Is (bZi ⟨12,x2,x3,A1,nA,mA,l,G,nG,mG,ks⟩).toArray 37),pts b3 dZU] H->StA H (O b3) (mcO d.sec (some m) A n mm) 12 fun H3=>LdA H3 (O b3) 12 fun l6=>∃ M,jZ9 d.sec 0 (some m) (eZC m (32/8)) RO H0 (.tuple #[.agg l6.toArray,I 0,.slice A2 n m2]) M/\Sep M H3:=fun A2 m2 H hs=>by
   refine hs.stw 5 (y:=mcO d.sec (some m) A n mm) rfl rfl rfl rfl fun H hs=>?_;refine hs.ldw 5 rfl rfl ?_;exact⟨_,⟨Own 108 1 A2 n m2 (Zb (eZC m (32/8))),A,n,mm,A2,n,m2,rfl,.inr hI,lenO,.inl fun H h=>iZ9 h,rfl⟩,hs.re [0,1,2] rfl⟩
  refine⟨hs.ldw 2 rfl rfl (hs.ldw 2 rfl rfl ?_),hs.ldw 2 rfl rfl ⟨hs.ldw 2 rfl rfl ?_,?_⟩⟩
  ·try simp only[Array.toArray_toList]
   refine call H _ hs fun A2 m2 H hs=>?_
   simp only[HV];exact fin2 A2 m2 H hs
  ·try simp only[Array.toArray_toList]
   refine call H _ hs fun A2 m2 H hs=>?_
   simp only[HV];exact fin2 A2 m2 H hs
  ·try simp only[Array.toArray_toList]
   refine call H _ hs fun A2 m2 H hs=>?_
   simp only[HV];refine hs.ldw 3 rfl rfl ?_;exact fin2 A2 m2 H hs
 |nop h=>
  have h:x1<0∨x1=9∨x1=10∨12<x1:=h
  repeat refine Zu (by omega) ?_
  exact keep 0 H rfl rfl rfl hs
theorem wZ5 {N:Nat}{d:D}{c:Cn}{o o':Option Mn}{a:bZR}{e:Int}{w:List UInt64}{sec:Nat}(hL:Lo N d c o)(hE:Ef sec (32/8) o a e o' w):w.length<=1000000000:=by
 cases hE with
 | @ri m _ h h2=>
  obtain⟨h1,_⟩:=hL.inp (m:=m) h2;have hV:=hL.liv m rfl;have:=mZR hV.kk;omega
 | @ro m _ h h4=>
  obtain⟨h1,_⟩:=hL.inp (m:=m) (per:=32/8) (by omega);have hV:=hL.liv m rfl;have:=mZR hV.kk;have e:eZC m (32/8)=tfL (dZi m.r) m.r.kk.toNat m.inp:=by
   unfold eZC aZv;exact mZD _ _ _ _ (by have:=hV.kk;omega) _ h1
  rw[e,mZN];omega
 |_=>exact Nat.zero_le _
def w1 :List UInt64:=[1,0,0,0]
theorem xZ3 (w:Fft.Zp)(i:Nat):Fft.dft w 4 (Fft.at' w1) i=1:=by
 have h0:Fft.at' w1 0=1:=by decide
 have h1:Fft.at' w1 1=0:=by decide
 have h2:Fft.at' w1 2=0:=by decide
 have h3:Fft.at' w1 3=0:=by decide
 unfold Fft.dft;simp only[Fft.sm,h0,h1,h2,h3,Nat.zero_mul];show _+_=_
 simp only[Fft.pw];grind
theorem tf1 :tfL false 2 w1=[1,1,1,1]:=by
 rw[nZF];apply List.ext_getElem?;intro i;by_cases hi:i<4
 ·rw[hZU false 2 w1 (i:=i) (by omega)];have:(2:Nat)^2=4:=rfl;rw[this,xZ3];have hu:Fft.uw 1=1:=by decide
  rw[hu]
  match i,hi with
  |0,_=>rfl
  |1,_=>rfl
  |2,_=>rfl
  |3,_=>rfl
 ·rw[List.getElem?_eq_none (by rw[Fft.eZY];omega),List.getElem?_eq_none (by simpa using hi)]
theorem xZR :aZW false 2 4 12=[jZT false 2]:=by unfold aZW;rw[if_pos (by decide)]
theorem wZ7 :aZ3 30 (32/8) ((2:Nat):Int) ((12:Nat):Int)=0:=by decide +kernel
theorem qZP (H:Hp)(hT:T64 H):Za prog 12 #[] H (RetE (.bool true) H):=by
 apply Za.ret;apply dZa.ok;unfold dZa;have hs:=Sep.start H;refine(Dsk.dZC 30 32 (by omega) (by decide) (by omega)).use hs [] rfl rfl ?_;rintro _ _ H1 ⟨dp,rfl,rfl⟩ hs;simp only[HV];refine(mZ6 (dp:=dp)).use hs [] rfl rfl ?_;rintro _ _ H1 ⟨p,rfl,rfl⟩ hs;simp only[HV];refine aZe rfl ?_;have hs:Sep [En p dp none,Dk dp (D.fresh 30 32),own H] H1:=hs;have hcl:=Clean.fresh (sec:=30) (size:=32) (by omega) (by decide) (by omega);refine(mZV (p:=p) (dp:=dp) (g:=none) hcl (by decide) ⟨Nat.zero_le _,Nat.zero_le _,Nat.zero_le _⟩ 2 12).use hs [0,1] rfl rfl ?_;rintro _ _ H1 (⟨h,_⟩|⟨kn,wn,e1,e2,_,⟨d,c,hw',hc,hh,rfl,rfl⟩|⟨d',hcut,_⟩⟩) hs
 ·exact absurd wZ7 h
 rotate_left
 ·exact(hcut.calm rfl).elim
 obtain rfl:kn=2:=by omega
 obtain rfl:wn=12:=by omega
 have r1:=hw'.rd;have r2:=hw'.wr;have r3:=hw'.sy;have hL:Liv 2 d c (bZN 2 12):=⟨hc,by rw[hw'.sec,hw'.size];exact hh,by decide,Nat.zero_le _,Nat.zero_le _,by rw[r1];show 0+0<=_;omega,by rw[r2];show 0+10<=_;omega,by rw[r3];show 0+3<=_;omega⟩;have hf:d.fuse=0:=hw'.calm rfl;have hsz:d.size=32:=hw'.size;simp only[HV];refine Zr rfl ?_;refine hs.nw fun b1 H1 hs=>?_
 have hs:Sep [En p dp (some (egM (D.fresh 30 32) (bZN 2 12) 0)),Dk dp d,own H,pts b1 (.row (Zb w1) 108 4)] H1:=hs;rw[← iZD (bZN 2 12) 0 hw'.sec hw'.size]at hs;have hR:∀ H,pts b1 (.row (Zb w1) 108 4) H->Cells H (Io b1) (Zb w1):=fun H h=>by
  have:=Cells.row h 0 4
  rwa [List.drop_zero,List.take_of_length_le (by decide)]at this
 have hsm:=hL.small (by omega);have hlg:lg ((w1.length:Nat):Int)=some 2:=iZG (k:=2);have hcan:eZT w1:=by decide
 refine(pZS (p:=p) (dp:=dp) hL.cl hL.hh hsm.1 hsm.2 (by decide) (l:=w1) (A:=some (O b1)) (n:=4) (mm:=4) (RR:=pts b1 (.row (Zb w1) 108 4)) (TT:=own H) rfl (Nat.le_refl _) (by decide) hR (.inl fun H h=>hT.le h)).use hs [0,1,3,2] rfl rfl ?_;rintro _ _ H1 (⟨k',i,e,hchk,hne,_⟩|⟨k',hk',_,_,⟨d1,c1,pk1,hpk1,hw1,hc1,hh1,rfl,rfl⟩|⟨d1,hcut,_⟩⟩) hs
 ·cases hchk with
  |len h=>rw[h]at hlg;cases hlg
  |big h h2=>rw[h]at hlg;cases hlg;exact absurd h2 (by decide)
  |word h h2 h3=>exact absurd hcan h3
  |ok h h2 h3=>exact absurd rfl hne
 rotate_left
 ·exact(hcut.calm hf).elim
 obtain rfl:k'=2:=by rw[hlg]at hk';cases hk';rfl
 have hf1:d1.fuse=0:=hw1.calm hf;have h1r:(aZG (bZN 2 12) 2).r=cZl (bZN 2 12) 2:=Mn.add_r _ _;have h2r:(aZK (bZN 2 12) 2 w1).r=cZ2 (aZG (bZN 2 12) 2) 2 w1:=Mn.add_r _ _;have hld1:(aZK (bZN 2 12) 2 w1).r.ld=1:=by rw[h2r];show(aZG (bZN 2 12) 2).r.ld=_;rw[h1r];rfl
 have hcost:ldR (d.size/8) 2<=2000/\ldW (d.size/8) 2<=2000:=by
  have hb1:=mZi (d.size/8) 2;have hb2:=mZj (d.size/8) 2;have hb3:=kZd (per:=d.size/8) (w:=2^2) (by rw[hsz];decide) (by decide);unfold ldR ldW;omega
 have hL1:Liv 4 d1 c1 (aZK (bZN 2 12) 2 w1):=hL.went hw1 (by omega) hc1 hh1 rfl (by decide) (by omega);have hsm1:=hL1.small (by omega);simp only[HV];have hs:Sep [En p dp (some (egM d (aZK (bZN 2 12) 2 w1) pk1)),Dk dp d1,pts b1 (.row (Zb w1) 108 4),own H] H1:=hs;rw[← iZD (aZK (bZN 2 12) 2 w1) pk1 hw1.sec hw1.size]at hs;have hst:stM (aZK (bZN 2 12) 2 w1) (d1.size/8)=2:=by unfold stM;rw[if_pos (by rw[h2r];rfl)]
 refine(mZ0 (p:=p) (dp:=dp) hL1.cl hL1.hh hsm1.1 hsm1.2 hpk1 0).use hs [0,1] rfl rfl ?_;rintro _ _ H1 (⟨h,_⟩|⟨_,h,_⟩|⟨_,b',hb',⟨d2,c2,hw2,hc2,hh2,rfl,rfl⟩|⟨d2,hcut,_⟩⟩) hs
 ·exact absurd hst h
 ·exact absurd (.inl rfl) h
 rotate_left
 ·exact(hcut.calm hf1).elim
 obtain rfl:b'=false:=by cases b'<;>first|rfl|(exfalso;revert hb';decide)
 have h3r:(hZW (bZN 2 12) 2 w1 false).r=bZB (aZK (bZN 2 12) 2 w1) false:=Mn.add_r _ _;have hld2:(hZW (bZN 2 12) 2 w1 false).r.ld=1:=by rw[h3r];exact hld1
 have hL2:Liv 6 d2 c2 (hZW (bZN 2 12) 2 w1 false):=hL1.went hw2 (by omega) hc2 hh2 rfl (by decide) (by show(hZW (bZN 2 12) 2 w1 false).r.ld<=_;omega);simp only[HV];have hs:Sep [En p dp (some (egM d1 (hZW (bZN 2 12) 2 w1 false) pk1)),Dk dp d2,pts b1 (.row (Zb w1) 108 4),own H] H1:=hs;rw[← iZD (hZW (bZN 2 12) 2 w1 false) pk1 hw2.sec hw2.size]at hs;have hsz2:d2.size=32:=hw2.size.trans (hw1.size.trans hsz);have hf2:d2.fuse=0:=hw2.calm hf1;have hJ:=tZ4 (bZN 2 12) 2 w1 false;have har:(hZW (bZN 2 12) 2 w1 false).arena=12:=rfl;have hpk2:pk1<=(hZW (bZN 2 12) 2 w1 false).arena:=hpk1;generalize hZW (bZN 2 12) 2 w1 false=m at*;have e8:d2.size/8=4:=by rw[hsz2]
 have hpl:(aZW false 2 (d2.size/8) m.arena).length=1:=by rw[e8,har,xZR];rfl
 have hst3:stM m (d2.size/8)=3:=by rw[hJ.st,hpl,if_pos (by omega)]
 have hsm2:=hL2.small (by omega);refine(pZX (p:=p) (dp:=dp) (TT:=own H) (fun H h=>hT.le h) hL2.cl hL2.hh hsm2.1 hsm2.2 hpk2 (by rw[hJ.kk];decide)).use hs [0,1,3] rfl rfl ?_;rintro v M H1 (⟨h,_⟩|⟨_,r,w,hC,⟨d3,c3,pk3,hpk3,hw3,hc3,hh3,rfl,rfl⟩|⟨d3,hcut,_⟩⟩) hs
 ·exact absurd hst3 h
 rotate_left
 ·exact(hcut.calm hf2).elim
 have hL3:=hL2.stepped hC hw3 hc3 hh3;have hJ3:=hJ.next (d2.size/8);have hst4:stM (m.add (aZV m (d2.size/8))) (d2.size/8)=4:=by
  rw[hJ3.st];have:(m.add (aZV m (d2.size/8))).arena=m.arena:=rfl;rw[this,hpl,if_neg (by omega)]
 have hout:eZC (m.add (aZV m (d2.size/8))) (d3.size/8)=[1,1,1,1]:=by
  unfold eZC;rw[hJ3.plan,hJ3.inp];exact(mZD false 2 _ _ (by omega) w1 rfl).trans tf1
 rw[hst4];have hsm3:=hL3.small (by omega);have hpk3':pk3<=((m.add (aZV m (d2.size/8))).arena:Int):=hpk3;generalize m.add (aZV m (d2.size/8))=m3 at*;simp only[HV];have hs:Sep [En p dp (some (egM d2 m3 pk3)),Dk dp d3,own H,pts b1 (.row (Zb w1) 108 4)] H1:=hs;rw[← iZD m3 pk3 hw3.sec hw3.size]at hs;refine(jZk (p:=p) (dp:=dp) hL3.cl hL3.hh hsm3.2 hpk3').use hs [0,1] rfl rfl ?_;rintro v M H1 (⟨h,_⟩|⟨_,hq⟩) hs
 ·rw[hw3.size]at h;exact absurd hst4 h
 rw[hout]at hq;rcases hq with⟨d4,bo,mo,pk4,h1,h2,h3,rfl,rfl⟩|⟨d4,h1,_⟩
 ·simp only[HV];refine Zt rfl (Zt rfl (aZE rfl (Zt rfl (Zt rfl ?_))));refine hs.nw fun b2 H1 hs=>?_
  refine Za.use (oZt (Io bo) (Io b2) 4 4 4 4 [1,1,1,1] rfl rfl (by omega) H1 (Cells.row (hs.get 2 rfl) 0 4) (Cells.row (hs.get 5 (b:=b2) (o:=.row (Zb [1,1,1,1]) 108 4) rfl) 0 4)) ?_;simp only[HV];exact hs.fin 3 rfl _
 ·exact(h1.calm (hw3.calm hf2)).elim
theorem sZK :iZM prog 30 6:=⟨by kernel_rfl,by kernel_rfl,by kernel_rfl,by kernel_rfl⟩
theorem vZ0 :iZM prog 45 4:=⟨by kernel_rfl,by kernel_rfl,by kernel_rfl,by kernel_rfl⟩
def s6L (s:S6):List Int:=[s.1,s.2.1,s.2.2.1,s.2.2.2.1,s.2.2.2.2.1,s.2.2.2.2.2]
theorem wZl (d:D)(o:Option Mn)(pk:Int):mZe (gO d o pk)=s6L (stO (d.size/8) o):=by
 cases o with
 |none=>rfl
 |some m=>
  have h:=eZp m (d.size/8);have e:stE (egM d m pk)=stM m (d.size/8):=kZl;show(if stE (egM d m pk)=1 then _ else if stE (egM d m pk)=2 then _ else _:List Int)=_
  rw[dZr,e];by_cases h1:stM m (d.size/8)=1
  ·rw[if_pos h1,if_pos h1];rfl
  ·rw[if_neg h1,if_neg h1];by_cases h2:stM m (d.size/8)=2
   ·rw[if_pos h2,if_pos h2];rfl
   ·rw[if_neg h2,if_neg h2];have hk:3<=m.r.kd:=by
     have:=(hZO (m:=m) (per:=d.size/8)).1 (by omega);by_cases h3:m.r.kd=2
     ·exfalso;apply h2;unfold stM;rw[if_pos h3]
     ·omega
    show [stM m (d.size/8),(m.r.ld:Int),m.r.kk,m.r.dir,m.r.ps,((psE (egM d m pk)).length:Int)]=_
    rw[kZ4 hk];rfl
theorem xZt {N:Nat}{d:D}{c:Cn}{o:Option Mn}(hL:Lo N d c o)(hN:N<=390):∀ x∈s6L (stO (32/8) o),-9223372036854775808<=x/\x<=9223372036854775807:=by
 cases o with
 |none=>intro x hx;simp[s6L,stO,z6]at hx;omega
 |some m=>
  have hV:=hL.liv m rfl;have hld:=hV.ld;have h:=eZp m (32/8);have h44:=eZp m 4;have hpl4:(aZv m 4 m.r).length<=5:=(fZZ (dZi m.r) m.r.kk.toNat 4 m.arena).2;have hp5:=(fZZ (dZi m.r) m.r.kk.toNat (32/8) m.arena).2;have hpl:(aZv m (32/8) m.r).length<=5:=hp5;have hmost:=hV.most;have hkk:=(Mn.r_wf hV.hh).2.2;have hps:=kZ5 hL;have hk0:0<=m.r.kk/\(m.r.dir=0∨m.r.dir=1):=by
   rcases(Mn.r_wf hV.hh).1 with e|e
   ·rw[e];decide
   ·exact⟨e.2.2.1,e.2.2.2.2.1⟩
  rw[dZr]at hps⊢;intro x hx;by_cases h1:stM m (32/8)=1
  ·rw[if_pos h1]at hx;simp[s6L]at hx;omega
  ·rw[if_neg h1]at hx hps;by_cases h2:stM m (32/8)=2
   ·rw[if_pos h2]at hx;simp[s6L]at hx;omega
   ·rw[if_neg h2]at hx hps;simp[s6L]at hx;simp only at hps;omega
theorem wZO {p dp:Nat}{g:Option Eg}{L:List As}{H:Hp}(hs:Sep (En p dp g::L) H):Za prog 22 #[V p] H (RetE (I (xZQ g)) H):=by
 apply dZf.ok;unfold dZf;cases g with
 |none=>
  have hs:Sep (pts p (aZx dp none)::L) H:=hs
  try simp only[HS]
  refine hs.ld 0 (v:=.pointer none) rfl rfl ?_;simp only[HV];exact aZE rfl (RetE.mk _ _)
 |some e=>
  obtain⟨mp,ap,rp,A,m,hs⟩:=En.whole hs
  try simp only[HS]
  refine hs.ld 0 (v:=V mp) rfl rfl ?_;simp only[HV];refine aZe rfl ?_;refine hs.ld 0 (v:=V mp) rfl rfl ?_;simp only[HV]
  try simp only[HS]
  refine hs.ld 1 (v:=V ap) rfl rfl ?_;simp only[HV]
  try simp only[HS]
  refine Za.use (xZm hs 2 rfl) ?_;simp only[HV];exact RetE.mk _ _
theorem sZc (H:Hp):Za prog 15 #[.pointer none] H (RetE (.pointer none) H):=by
 apply eZf.ok;unfold eZf;exact aZE rfl (RetE.mk _ _)
theorem vZj (sec:Nat)(H:Hp):Za prog 16 #[I (sec:Int)] H (RetE (.agg (mcO sec none .none 0 0)) H):=Za.ret (by
 apply dZu.ok;unfold dZu;refine(Sep.start H).nw fun b H1 hs=>?_
 refine hs.stw 1 (y:=mcO sec none .none 0 0) rfl rfl rfl rfl fun H1 hs=>?_
 refine hs.ldw 1 rfl rfl ?_;exact hs.fin 0 rfl _)
section
variable {p dp sc b1 b2 : Nat} {o : Option Mn} {A : Option Addr} {n m N:Nat} {d : D} {c : Cn} {pk : Int} {R0 : As} {H0 : Hp}
abbrev emL (p dp sc b1 b2:Nat)(o:Option Mn)(A:OA)(n m:Nat)(d:D)(pk:Int)(R0:As)(H0:Hp)(x:AO):List As:=[En p dp (gO d o pk),Dk dp d,R0,own H0,pts b1 (bZY sc o A n m),pts b2 x]
theorem vZb {x:AO}{b j:Nat}{H:Hp}(hL:Lo N d c o)(hN:N<=390)(hsz:d.size=32)(hs:Sep (emL p dp sc b1 b2 o A n m d pk R0 H0 x) H)(hj:(emL p dp sc b1 b2 o A n m d pk R0 H0 x)[j]? =some (pts b (bZY sc o A n m))){X Y:Hp->Prop}(hY:∀ H,Sep (emL p dp sc b1 b2 o A n m d pk R0 H0 x) H->Y H):
  (Za prog 18 #[V p] H fun v H1=>DA v fun y=>LdA H1 ((O b).add 0) 6 fun l=>EqV prog .neq 30 (.agg y) (.agg l.toArray) fun c=>BIf c (X H1) (Y H1))/\
  (LdA H ((O b).add 0) 6 fun l=>Za prog 18 #[V p] H fun v H1=>DA v fun y=>EqV prog .neq 30 (.agg y) (.agg l.toArray) fun c=>BIf c (X H1) (Y H1)):=by
 have hr:=xZt hL hN;have e:=wZl d o pk;rw[hsz]at e;have hld:∀ e',gO d o pk=some e'->e'.r.ld<4294967296:=fun e' he=>by
  cases o with
  |none=>cases he
  |some m=>cases he;have:=(hL.liv m rfl).ld;show m.r.ld<_;omega
 refine⟨?_,?_⟩
 ·refine(mZZ (p:=p) (dp:=dp) (gO d o pk) hld).use hs [0] rfl rfl ?_;rintro _ _ H ⟨rfl,rfl⟩ hs;have hs:Sep (emL p dp sc b1 b2 o A n m d pk R0 H0 x) H:=hs;simp only[HV];refine hs.lda j hj (off:=0) (n:=6) (by show 0+6<=12;omega) ?_;refine mZm sZK (a:=s6L (stO (32/8) o)) (b:=s6L (stO (32/8) o)) rfl rfl hr hr (by rw[e]) rfl ?_;rw[decide_eq_true rfl];exact aZe rfl (hY H hs)
 ·refine hs.lda j hj (off:=0) (n:=6) (by show 0+6<=12;omega) ?_;refine(mZZ (p:=p) (dp:=dp) (gO d o pk) hld).use hs [0] rfl rfl ?_;rintro _ _ H ⟨rfl,rfl⟩ hs;have hs:Sep (emL p dp sc b1 b2 o A n m d pk R0 H0 x) H:=hs;simp only[HV];refine mZm sZK (a:=s6L (stO (32/8) o)) (b:=s6L (stO (32/8) o)) rfl rfl hr hr (by rw[e]) rfl ?_;rw[decide_eq_true rfl];exact aZe rfl (hY H hs)
variable {A4 : Option Addr} {n4 m4 : Nat} {x11 : Int}
theorem wZ6 {R13:OA->Nat->Nat->Int->OA->OA->Addr->Addr->Int->Hp->Prop}{K:VK}{x:AO}{y:Array Value}(hx:x= Is y 33)(hy:y.size=12){H:Hp}(hL:Lo N d c o)(hsz:d.size=32)(hsec:d.sec=sc)(hsc:sc<=100)(hpk:pkO o pk)(hs:Sep (emL p dp sc b1 b2 o A n m d pk R0 H0 x) H)
  (hR:∀ H,Sep (emL p dp sc b1 b2 o A n m d pk R0 H0 (bZY sc o A n m)) H->R13 A4 n4 m4 (sc:Int) (Io dp) (Io p) (O b1) (O b2) (i64.wrap (x11+1)) H):
  Zi.j29 K R13 A4 n4 m4 (sc:Int) (Io dp) (Io p) (O b1) (O b2) x11 H:=by
 subst hx;unfold Zi.j29 Zi.j29.q1;refine hs.ldw 4 rfl rfl ?_;refine hs.stw 5 (y:=mcO sc o A n m) rfl hy rfl rfl fun H hs=>?_;have hs:Sep (emL p dp sc b1 b2 o A n m d pk R0 H0 (bZY sc o A n m)) H:=hs
 try simp only[HS]
 refine hs.ld 4 (v:=I (stO (32/8) o).1) rfl rfl ?_;simp only[HV];cases o with
 |none=>exact Zg (by decide) ⟨hR H hs,⟨hR H hs,hR H hs⟩,hR H hs,hR H hs⟩
 |some mm=>
  have hV:=hL.liv mm rfl;have hmost:=hV.most;have har:=(bZ4 hV.hh.good).2.2.2;have hpk:pk<=(mm.arena:Int):=hpk mm rfl;have h0:(stO (32/8) (some mm)).1>0:=by rw[fZN];have:=eZp mm (32/8);omega
  refine Zm h0 ?_;have hrng:∀ x∈[(mm.most:Int),(sc:Int),32,(mm.arena:Int)],-9223372036854775808<=x/\x<=9223372036854775807:=fun x hx=>by simp at hx;omega
  have hsup:pZm (gO d (some mm) pk)=([(mm.most:Int),(sc:Int),32,(mm.arena:Int)].map (Value.int .i64)).toArray:=by
   show #[Value.int .i64 (mm.most:Int),I (d.sec:Int),I (d.size:Int),I (mm.arena:Int)]=_
   rw[hsec,hsz];rfl
  have last:∀ H,Sep (emL p dp sc b1 b2 (some mm) A n m d pk R0 H0 (bZY sc (some mm) A n m)) H->ZS prog 22 #[V p] H fun v=>DI .i64 v fun x20=>Ld H (⟨b1,7,none⟩:Addr) fun v28=>DI .i64 v28 fun x21=>BIf (decide (x20>x21)) (K (.bool false) H) (R13 A4 n4 m4 (sc:Int) (Io dp) (Io p) (O b1) (O b2) (i64.wrap (x11+1)) H):=fun H hs=>by
   refine ZS.use (wZO hs) ?_;simp only[HV]
   try simp only[HS]
   refine hs.ld 4 (v:=I (mm.arena:Int)) rfl rfl ?_;simp only[HV];exact Zg (by show ¬pk>_;omega) (hR H hs)
  have cmp:∀(y:Array Value) (H:Hp),y=pZm (gO d (some mm) pk)->Sep (emL p dp sc b1 b2 (some mm) A n m d pk R0 H0 (bZY sc (some mm) A n m)) H->EqV prog .neq 45 (.agg y) (.agg #[I (mm.most:Int),I (sc:Int),I 32,I (mm.arena:Int)]) fun c7=>BIf c7 (K (.bool false) H) (ZS prog 22 #[V p] H fun v=>DI .i64 v fun x20=>Ld H (⟨b1,7,none⟩:Addr) fun v28=>DI .i64 v28 fun x21=>BIf (decide (x20>x21)) (K (.bool false) H) (R13 A4 n4 m4 (sc:Int) (Io dp) (Io p) (O b1) (O b2) (i64.wrap (x11+1)) H)):=fun y H hy hs=>by
   refine mZm vZ0 (a:=[(mm.most:Int),(sc:Int),32,(mm.arena:Int)]) (b:=[(mm.most:Int),(sc:Int),32,(mm.arena:Int)]) rfl rfl hrng hrng (hy.trans hsup) rfl ?_;rw[decide_eq_true rfl];exact aZe rfl (last H hs)
  have ld6:∀{H:Hp} {F:Value->Prop},Sep (emL p dp sc b1 b2 (some mm) A n m d pk R0 H0 (bZY sc (some mm) A n m)) H->F (I (mm.most:Int))->Ld H (⟨b1,6,none⟩:Addr) F:=fun{H F} hs k=>hs.ld 4 (v:=I (mm.most:Int)) rfl rfl k
  have ld7:∀{H:Hp} {F:Value->Prop},Sep (emL p dp sc b1 b2 (some mm) A n m d pk R0 H0 (bZY sc (some mm) A n m)) H->F (I (mm.arena:Int))->Ld H (⟨b1,7,none⟩:Addr) F:=fun{H F} hs k=>hs.ld 4 (v:=I (mm.arena:Int)) rfl rfl k
  have sup:∀{H:Hp} {F:VK},Sep (emL p dp sc b1 b2 (some mm) A n m d pk R0 H0 (bZY sc (some mm) A n m)) H->(∀ H,Sep (emL p dp sc b1 b2 (some mm) A n m d pk R0 H0 (bZY sc (some mm) A n m)) H->F (.agg (pZm (gO d (some mm) pk))) H)->Za prog 21 #[V p] H F:=fun{H F} hs k=>by
   refine(tZN (p:=p) (dp:=dp) (gO d (some mm) pk)).use hs [0] rfl rfl ?_;rintro _ _ H ⟨rfl,rfl⟩ hs;exact k H hs
  refine⟨?_,ld6 hs ⟨?_,?_⟩,ld7 hs ⟨?_,?_⟩⟩
  ·refine sup hs fun H hs=>?_;simp only[HV];refine ld6 hs ?_;simp only[HV];refine ld7 hs ?_;simp only[HV];exact cmp _ H rfl hs
  ·refine sup hs fun H hs=>?_;simp only[HV];refine ld7 hs ?_;simp only[HV];exact cmp _ H rfl hs
  ·refine ld7 hs ?_;simp only[HV];refine sup hs fun H hs=>?_;simp only[HV];exact cmp _ H rfl hs
  ·refine sup hs fun H hs=>?_;simp only[HV];refine ld6 hs ?_;simp only[HV];exact cmp _ H rfl hs
  ·refine ld6 hs ?_;simp only[HV];refine sup hs fun H hs=>?_;simp only[HV];exact cmp _ H rfl hs
set_option maxHeartbeats 4000000 in
theorem pZ2 {ls:List bZR}(hT:T64 H0)(hls:ls.length=n4)(hn4:n4<=40)(hsc:sc<=100)(hmx:Mx sc 32)(hc4:cZ7 5 H0 A4 (ls.map bZi))(hok:∀ a∈ls,OkE H0 a)(hsh:∀ a∈ls,hZ5 a):∀(t j:Nat) (H:Hp) (d:D) (c:Cn) (o:Option Mn) (pk:Int) (A:OA) (n m:Nat) (R0:As),j+t=n4->Lo (10+2*j) d c o->d.fuse=0->d.size=32->d.sec=sc->pkO o pk->InO o R0 A n->
  Sep (emL p dp sc b1 b2 o A n m d pk R0 H0 (bZY sc o A n m)) H->Zi.l13 (Ret (.bool true) H0) (t+1) A4 n4 m4 (sc:Int) (Io dp) (Io p) (O b1) (O b2) (j:Int) H
 |0,j,H,d,c,o,pk,A,n,m,R0,hj,hL,hf,hsz,hsec,hpk,hI,hs=>by
  unfold Zi.l13;exact Zg (by omega) (hs.fin 3 rfl _)
 |t+1,j,H,d,c,o,pk,A,n,m,R0,hj,hL,hf,hsz,hsec,hpk,hI,hs=>by
  have ih:=pZ2 hT hls hn4 hsc hmx hc4 hok hsh t (j+1);have hjl:j<ls.length:=by omega
  have hOK:=hok _ (List.getElem_mem hjl);have hSh:=hsh _ (List.getElem_mem hjl);have hrow:(ls.map bZi)[j]? =some (bZi (ls[j]'hjl)):=by rw[List.getElem?_map,List.getElem?_eq_getElem hjl];rfl
  have again:∀(H:Hp) (d:D) (c:Cn) (o:Option Mn) (pk:Int) (A:OA) (n m:Nat) (R0:As),Lo (10+2*j+2) d c o->d.fuse=0->d.size=32->d.sec=sc->pkO o pk->InO o R0 A n->Sep (emL p dp sc b1 b2 o A n m d pk R0 H0 (bZY sc o A n m)) H->
    Zi.l13 (Ret (.bool true) H0) (t+1) A4 n4 m4 (sc:Int) (Io dp) (Io p) (O b1) (O b2) (i64.wrap ((j:Int)+1)) H:=fun H d c o pk A n m R0 h1 h2 h3 h4 h5 h6 h7=>by
   rw[ZM (x:=(j:Int)+1)];exact ih H d c o pk A n m R0 (by omega) (h1.up (by omega)) h2 h3 h4 h5 h6 h7
  unfold Zi.l13;refine Zm (by omega) ?_;refine cZ7.rdA (hc4.le (hs.ow 3 rfl)) hrow rfl rfl (by rw[List.length_map];omega) ?_;generalize ls[j]'hjl=a at hOK hSh;refine hs.nw fun b3 H hs=>?_
  refine hs.stw 6 (y:=(bZi a).toArray) rfl rfl rfl rfl fun H hs=>?_;have hs:Sep [En p dp (gO d o pk),Dk dp d,R0,own H0,pts b1 (bZY sc o A n m),pts b2 (bZY sc o A n m),pts b3 (Is (bZi a).toArray 37)] H:=hs
  try simp only[HS]
  refine hs.ld 6 (v:=I a.k) rfl rfl ?_;simp only[HV];by_cases h9:a.k=9
  ·refine Zt h9 ?_;exact again H d c o pk A n m R0 (hL.up (by omega)) hf hsz hsec hpk hI (hs.re [0,1,2,3,4,5] rfl)
  refine Zu h9 ?_;refine hs.ld 6 (v:=I a.k) rfl rfl ?_;simp only[HV];by_cases h10:a.k=10
  ·refine Zt h10 ?_;exact again H d c o pk A n m R0 (hL.up (by omega)) hf hsz hsec hpk hI (hs.re [0,1,2,3,4,5] rfl)
  refine Zu h10 ?_;refine hs.ldw 6 rfl rfl ?_
  try simp only[Array.toArray_toList]
  refine(wZH (p:=p) (dp:=dp) (a:=a) hT hL (by omega) (by rw[hsec,hsz];exact hmx) hpk hOK hSh).use hs [0,1,3] rfl rfl ?_;rintro _ _ H ⟨e,o',w,hE,(⟨B,nn,mm,d',c',pk',W,rfl,hnw,hW,hL',hsec',hsize',hfu,hpk',rfl⟩|⟨_,_,_,hf0,_⟩)⟩ hs
  rotate_left
  ·exact absurd hf hf0
  rw[hsz]at hE;rw[hsec]at hE;have hs:Sep [En p dp (gO d' o' pk'),Dk dp d',W,own H0,R0,pts b1 (bZY sc o A n m),pts b2 (bZY sc o A n m),pts b3 (Is (bZi a).toArray 37)] H:=hs;have hf':d'.fuse=0:=hfu h10 hf;have hsz':d'.size=32:=hsize'.trans hsz;have hsec'':d'.sec=sc:=hsec'.trans hsec;simp only[HV]
  try simp only[HS]
  refine hs.ld 7 (v:=I a.k) rfl rfl ?_;simp only[HV];by_cases h8:a.k=8
  ·-- a recovery
   refine Zt h8 ?_;refine hs.ld 6 (v:=I (stO (32/8) o).1) rfl rfl ?_;simp only[HV];have hoe:o'=o/\e=(if(stO (32/8) o).1=0 then 11 else 0):=by
    cases hE with
    |rcNone h=>exact⟨rfl,rfl⟩
    | @rc m _ h=>refine⟨rfl,?_⟩;rw[fZN,if_neg];have:=eZp m (32/8);omega
    |fmtNo h=>omega
    |fmt h=>omega
    |ldNone h=>omega
    |ldNo h=>omega
    |ld h=>omega
    |sbNone h=>omega
    |sbNo h=>omega
    |sbDir h=>omega
    |sb h=>omega
    |stNone h=>omega
    |stNo h=>omega
    |st h=>omega
    |riNone h=>omega
    |riNo h=>omega
    |ri h=>omega
    |roNone h=>omega
    |roNo h=>omega
    |ro h=>omega
    |nop h=>omega
   obtain⟨rfl,he⟩:=hoe;have j22:∀ want:Int,e=want->Zi.j22 (Ret (.bool true) H0) (Zi.l13 (Ret (.bool true) H0) (t+1)) A4 n4 m4 (sc:Int) (Io dp) (Io p) (O b1) (O b2) (j:Int) e want H:=fun want hw=>by
    have hs:Sep (emL p dp sc b1 b2 o' A n m d' pk' R0 H0 (bZY sc o' A n m)) H:=hs.re [0,1,4,3,5,6] rfl;have fin:∀ H,Sep (emL p dp sc b1 b2 o' A n m d' pk' R0 H0 (bZY sc o' A n m)) H->LdA H (O b2) 12 fun l=>StA H (O b1) l.toArray 12 fun H=>Zi.l13 (Ret (.bool true) H0) (t+1) A4 n4 m4 (sc:Int) (Io dp) (Io p) (O b1) (O b2) (i64.wrap ((j:Int)+1)) H:=fun H hs=>by
     refine hs.ldw 5 rfl rfl ?_;refine hs.stw 4 (y:=mcO sc o' A n m) rfl rfl rfl rfl fun H hs=>?_;exact again H d' c' o' pk' A n m R0 hL' hf' hsz' hsec'' hpk' hI hs
    unfold Zi.j22;refine Zr hw ?_;by_cases hw0:want=0
    ·refine Zt hw0 ?_;exact vZb (b:=b2) (j:=5) hL' (by omega) hsz' hs rfl fun H hs=>fin H hs
    ·refine Zu hw0 ⟨fin H hs,fin H hs⟩
   by_cases h0:(stO (32/8) o').1=0
   ·rw[if_pos h0]at he;exact Zt h0 (j22 11 he)
   ·rw[if_neg h0]at he;exact Zu h0 (j22 0 he)
  ·refine Zu h8 ?_;refine hs.ldw 5 rfl rfl ?_;refine hs.ldw 7 rfl rfl ?_
   try simp only[Array.toArray_toList]
   rw[← hsec]at hs hE⊢;refine(vZs (a:=a) (mm:=m) hL (by omega) hsz (by omega) hE h8 hOK hSh hI).use hs [4,3] rfl rfl ?_;rintro _ _ H ⟨X,A',n',m',B',nB,mB,rfl,hI',hnB,hB',rfl⟩ hs;rw[hsec]at hs⊢;have hs:Sep [X,R0,own H0,En p dp (gO d' o' pk'),Dk dp d',W,pts b1 (bZY sc o A n m),pts b2 (bZY sc o A n m),pts b3 (Is (bZi a).toArray 37)] H:=hs;simp only[HV];refine hs.nw fun b4 H hs=>?_
   refine hs.stw 9 (y:=mcO sc o' A' n' m') rfl rfl rfl rfl fun H hs=>?_;refine hs.ldw 9 rfl rfl ?_;refine hs.stw 6 (y:=mcO sc o' A' n' m') rfl rfl rfl rfl fun H hs=>?_;refine Zr rfl ?_;have c1:Cells H B (Zb w):=by
    obtain⟨H1,h1,hle⟩:=hs.see 5 rfl;exact(hW H1 h1).le hle
   have c2:Cells H B' (Zb w):=by
    rcases hB' with h|h
    ·obtain⟨H1,h1,hle⟩:=hs.see 0 rfl;exact(h H1 h1).le hle
    ·obtain⟨H1,h1,hle⟩:=hs.see 1 rfl;exact(h H1 h1).le hle
   have hw64:nn<=1000000000:=by
    rw[hnw];exact wZ5 hL hE
   refine Za.use (oZt B B' nn nB mm mB w hnw hnB hw64 H c1 c2) ?_;simp only[HV];have hs:Sep ([X,R0]++[En p dp (gO d' o' pk'),Dk dp d',own H0,pts b1 (bZY sc o' A' n' m'),pts b2 (bZY sc o A n m)]) H:=hs.re [0,1,3,4,2,6,7] rfl;have hs:=Dsk.Sep.fold (A:=fun H=>Sep [X,R0] H) hs fun H1 h1=>h1
   have hs:Sep (emL p dp sc b1 b2 o' A' n' m' d' pk' (fun H=>Sep [X,R0] H) H0 (bZY sc o A n m)) H:=hs.re [1,2,0,3,4,5] rfl;have hI2:InO o' (fun H=>Sep [X,R0] H) A' n':=by
    rcases hI' with h|h
    ·exact h.mono fun H hh=>by obtain⟨H1,h1,hle⟩:=Sep.see hh 0 rfl;exact⟨H1,h1,hle⟩
    ·exact h.mono fun H hh=>by obtain⟨H1,h1,hle⟩:=Sep.see hh 1 rfl;exact⟨H1,h1,hle⟩
   refine vZb (b:=b1) (j:=4) hL' (by omega) hsz' hs rfl fun H hs=>?_;refine wZ6 (x11:=(j:Int)) rfl rfl hL' hsz' hsec'' hsc hpk' hs fun H hs=>?_;exact again H d' c' o' pk' A' n' m' _ hL' hf' hsz' hsec'' hpk' hI2 hs
end
theorem xZ6 {sc:Nat}(h:sc<=60):Mx sc 32:=fun k hk=>by
 rcases Nat.lt_or_ge k 7 with h7|h7
 ·omega
 ·have h1:2^7<=2^k:=Nat.pow_le_pow_right (by omega) h7;unfold Lay.bZT Lay.ZX at hk;omega
theorem EngineMachine_ok (x:Nat)(hx:x<256)(A2:OA)(n2 m2:Nat)(ls:List bZR)(hls:ls.length=n2)(H:Hp)(hT:T64 H)(hc:cZ7 5 H A2 (ls.map bZi))(hok:∀ a∈ls,OkE H a):
  Za prog 3 #[.int .u8 (x:Int),.slice A2 n2 m2] H (RetE (.bool true) H):=by
 apply Za.ret;apply Zi.ok;unfold Zi;refine Za.use (qZP H hT) ?_;simp only[HV];refine Za.mono (wZI A2 n2 m2 ls hls H hc) ?_;rintro _ H' ⟨hH,y,rfl,hfew⟩;rw[hH];clear hH H';simp only[HV];by_cases hy:y=0
 rotate_left
 ·exact Zz hy ((Sep.start H).fin 0 rfl _)
 refine Zr hy ?_;obtain⟨h40,hsh⟩:=hfew hy;have e1:i64.wrap ((13:Int)+Int.tmod (i64.wrap (x:Int)) 48)=((13+x%48:Nat):Int):=by
  rw[bZc (n:=x),show Int.tmod (x:Int) 48=((x%48:Nat):Int)from rfl,ZM];omega
 rw[e1];obtain⟨sc,hsc⟩:∃ sc,sc=13+x%48:=⟨_,rfl⟩;rw[← hsc];refine⟨by decide,by simp,?_⟩;have hs:=Sep.start H;refine(Dsk.dZC sc 32 (by omega) (by decide) (by omega)).use hs [] rfl rfl ?_;rintro _ _ H1 ⟨dp,rfl,rfl⟩ hs;simp only[HV];refine(mZ6 (dp:=dp)).use hs [] rfl rfl ?_;rintro _ _ H1 ⟨p,rfl,rfl⟩ hs;simp only[HV];refine aZe rfl (aZe rfl ?_);refine Za.use (sZc H1) ?_;simp only[HV];refine aZe rfl ?_;refine Za.use (vZj sc H1) ?_;simp only[HV];refine hs.nw fun b1 H1 hs=>?_
 refine hs.stw 3 (y:=mcO sc none .none 0 0) rfl rfl rfl rfl fun H1 hs=>?_
 refine hs.ldw 3 rfl rfl ?_;refine hs.nw fun b2 H1 hs=>?_
 refine hs.stw 4 (y:=mcO sc none .none 0 0) rfl rfl rfl rfl fun H1 hs=>?_
 have hs:Sep [En p dp none,Dk dp (D.fresh sc 32),own H,pts b1 (bZY sc none .none 0 0),pts b2 (bZY sc none .none 0 0)] H1:=hs;have hs:Sep (emL p dp sc b1 b2 none .none 0 0 (D.fresh sc 32) 0 (fun _=>True) H (bZY sc none .none 0 0)) H1:=(Sep.unit (X:=fun _=>True) hs trivial).re [1,2,0,3,4,5] rfl;have hcl:=Clean.fresh (sec:=sc) (size:=32) (by omega) (by decide) (by omega);refine⟨n2+1,?_⟩;exact pZ2 hT hls h40 (by omega) (xZ6 (by omega)) hc hok hsh n2 0 H1 (D.fresh sc 32) _ none 0 .none 0 0 (fun _=>True) (by omega) ⟨hcl,by show 0<Lay.aZg ((32:Nat):Int);decide,Nat.zero_le _,Nat.zero_le _,Nat.zero_le _,rfl,fun m e=>(by cases e)⟩ rfl rfl rfl (fun m e=>(by cases e)) (fun m e=>(by cases e)) hs
end Eng
end Go.Proofs.YtlgnlghmbcpmhaaGreatDoor
