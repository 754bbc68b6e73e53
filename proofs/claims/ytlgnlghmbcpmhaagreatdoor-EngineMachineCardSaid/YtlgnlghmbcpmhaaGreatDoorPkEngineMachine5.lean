import Derived.Test.YtlgnlghmbcpmhaaGreatDoorProg
import Derived.Laws.Externs
import Derived.Test.YtlgnlghmbcpmhaaGreatDoorPkEngineMachine4
set_option maxRecDepth 100000
set_option linter.unusedSimpArgs false
set_option linter.unusedVariables false
set_option linter.unnecessarySimpa false
set_option linter.unusedSectionVars false
open Go.IntKind (i64 u64)
namespace Go.Proofs.YtlgnlghmbcpmhaaGreatDoor
open Tryz (prog)
namespace Rec
open Go Go.Hw Go.Form Go.Crc W
def secB (n:Int):Bool:=decide ((Lay.gZP 0 n).2=0)
theorem iZq (x:Int)(H:Hp):Za prog 222 #[I x] H (RetE (.bool (secB x)) H):=by
 apply cZ1.ok;unfold cZ1;refine Za.use (Lay.jZ4 0 x H) ?_;simp only[HV];refine⟨?_,rfl⟩;unfold secB;by_cases h:(Lay.gZP 0 x).2=0
 ·rw[decide_eq_true h,h];rfl
 ·rw[decide_eq_false h,beq_eq_false_iff_ne.2 h]
def bZl :R:=⟨0,0,0,0,0,0,0,0⟩
def w3U (bs:List UInt8):List UInt64:=[UInt64.ofNat (Zv bs 0),UInt64.ofNat (Zv bs 8),UInt64.ofNat (Zv bs 16)]
def aZ8 (bs:List UInt8):R×Int:=
 if secB (bs.length:Int)=true then
  if Zv bs 0/281474976710656=21061/\gZt bs=true then
   if Zv bs 24=bZk 0 (gZ8 (w3U bs))then
    if(iZo (Zv bs 0) (Zv bs 8) (Zv bs 16)).good then(iZo (Zv bs 0) (Zv bs 8) (Zv bs 16),0)else(bZl,1)
   else(bZl,9)
  else(bZl,10)
 else(bZl,15)
theorem cZ6 (bs:List UInt8)(o:Nat):Zv bs o<2^64:=pZ6 (by simp;omega)
set_option maxHeartbeats 1000000 in
theorem iZB (A:OA)(n m:Nat)(bs:List UInt8)(hn:n=bs.length)(hnm:n<=m)(hbig:n<=1000000)(h32:secB (n:Int)=true->32<=n)(H:Hp)(hc:Cells H A (Zn bs)):
  Za prog 157 #[.slice A n m] H (RetE (.tuple #[.agg (aZ8 bs).1.c,I (aZ8 bs).2]) H):=Za.ret (by
 apply cZy.ok;unfold cZy cZy.q1 aZ8;rw[← hn];refine(Sep.start H).nw fun b1 H1 hs=>?_
 have hs:Sep [own H,pts b1 (bZI bZl)] H1:=hs;refine Za.use (iZq n H1) ?_;simp only[HV];by_cases hsec:secB (n:Int)=true
 case neg=>
  rw[if_neg hsec,show secB (n:Int)=false by simpa using hsec];refine aZE rfl ?_;refine hs.stw 1 rfl rfl rfl rfl fun H1 hs=>?_
  refine hs.ldw 1 rfl rfl ?_;exact hs.fin 0 rfl _
 rw[if_pos hsec,hsec];refine aZe rfl ?_;refine(wZY (R:=own H) (fun H' h=>hc.le h) hn hnm (h32 hsec) hbig).use hs [0] rfl rfl ?_;rintro _ _ H1 ⟨A',m',hm',rfl,rfl⟩ hs;simp only[HV];have hA:Cells H1 A' (Gen.eZM (wds bs 4)):=by
  obtain⟨hl,h⟩:=hs.own 1 rfl;rcases h with⟨_,h0,_⟩|⟨b,mm,rfl,hb,_⟩
  ·omega
  ·have:=Cells.row hb 0 4;exact this
 have hw:wds bs 4=[Zv bs 0,Zv bs 8,Zv bs 16,Zv bs 24]:=rfl;rw[hw]at hA hs;refine Za.use (nZ8 A' 4 m' (Zv bs 0) (Zv bs 8) (Zv bs 16) [Zv bs 24] rfl (cZ6 _ _) (cZ6 _ _) (cZ6 _ _) H1 hA) ?_;simp only[HV];refine hs.nw fun b2 H1 hs=>?_
 refine hs.stw 3 rfl rfl rfl rfl fun H1 hs=>?_
 have hs:Sep [own H,Own 108 1 A' 4 m' (Gen.eZM [Zv bs 0,Zv bs 8,Zv bs 16,Zv bs 24]),pts b1 (bZI bZl),pts b2 (bZI (iZo (Zv bs 0) (Zv bs 8) (Zv bs 16)))] H1:=hs;have hA:Cells H1 A' (Gen.eZM [Zv bs 0,Zv bs 8,Zv bs 16,Zv bs 24]):=by
  obtain⟨hl,h⟩:=hs.own 1 rfl;rcases h with⟨_,h0,_⟩|⟨b,mm,rfl,hb,_⟩
  ·omega
  ·have:=Cells.row hb 0 4;exact this
 refine hA.read (i:=0) rfl rfl (by rw[Gen.gZ7];exact Nat.le_refl _) ?_;simp only[HV];refine⟨by decide,?_⟩;have s48:aZC .u64 ((Zv bs 0:Nat):Int) 48=((Zv bs 0/281474976710656:Nat):Int):=hZ6 (k:=.u64) (a:=Zv bs 0) (i:=48) (n:=48) rfl (by decide);rw[s48];by_cases hmg:Zv bs 0/281474976710656=21061
 case neg=>
  rw[if_neg (fun h=>hmg h.1)];refine Zz (by omega) ?_;refine hs.stw 2 rfl rfl rfl rfl fun H1 hs=>?_
  refine hs.ldw 2 rfl rfl ?_;exact hs.fin 0 rfl _
 refine Zr (by omega) ?_;by_cases hno:gZt bs=true
 case neg=>
  rw[if_neg (fun h=>hno h.2),show gZt bs=false by simpa using hno];refine aZE rfl ?_;refine hs.stw 2 rfl rfl rfl rfl fun H1 hs=>?_
  refine hs.ldw 2 rfl rfl ?_;exact hs.fin 0 rfl _
 rw[if_pos ⟨hmg,hno⟩,hno];refine aZe rfl ?_;refine hA.read (i:=3) rfl rfl (by rw[Gen.gZ7];exact Nat.le_refl _) ?_;simp only[HV];refine mZd (r:=3) rfl (by omega) ?_;have hU:Cells H1 (slA A' m' 0 1) (Zb (w3U bs)):=by
  have:=(hA.shift (m:=m') (l:=0) (by rw[Gen.gZ7];exact hm')).take 3;have e:Zb (w3U bs)=((Gen.eZM [Zv bs 0,Zv bs 8,Zv bs 16,Zv bs 24]).drop 0).take 3:=by
   show [Value.int .u64 ((UInt64.ofNat (Zv bs 0)).toNat:Int),Value.int .u64 ((UInt64.ofNat (Zv bs 8)).toNat:Int),Value.int .u64 ((UInt64.ofNat (Zv bs 16)).toNat:Int)]=_
   rw[UInt64.toNat_ofNat_of_lt' (cZ6 bs 0),UInt64.toNat_ofNat_of_lt' (cZ6 bs 8),UInt64.toNat_ofNat_of_lt' (cZ6 bs 16)];rfl
  rw[e];exact this
 refine ZS.use (qZq (slA A' m' 0 1) 3 (m'-0) (w3U bs) rfl (by omega) H1 hU) ?_;simp only[HV];by_cases hsl:Zv bs 24=bZk 0 (gZ8 (w3U bs))
 case neg=>
  rw[if_neg hsl];refine Zz (by omega) ?_;refine hs.stw 2 rfl rfl rfl rfl fun H1 hs=>?_
  refine hs.ldw 2 rfl rfl ?_;exact hs.fin 0 rfl _
 rw[if_pos hsl];refine Zr (by omega) ?_;refine hs.ldw 3 rfl rfl ?_;refine Za.use (bZ2 (iZo (Zv bs 0) (Zv bs 8) (Zv bs 16)) H1) ?_;simp only[HV];by_cases hg:(iZo (Zv bs 0) (Zv bs 8) (Zv bs 16)).good
 ·rw[if_pos hg,decide_eq_true hg];refine aZe rfl ?_;refine hs.ldw 3 rfl rfl ?_;refine hs.stw 2 rfl rfl rfl rfl fun H1 hs=>?_
  refine hs.ldw 2 rfl rfl ?_;exact hs.fin 0 rfl _
 ·rw[if_neg hg,decide_eq_false hg];refine aZE rfl ?_;refine hs.stw 2 rfl rfl rfl rfl fun H1 hs=>?_
  refine hs.ldw 2 rfl rfl ?_;exact hs.fin 0 rfl _)
end Rec
namespace W
open Go Go.Hw
theorem cZz :prog.follows .mixedOrders=true:=by kernel_rfl
def eZh (p1:OA)(H:Hp)(K:VK):Prop:=
 Nw H (Is #[I 0,I 0,I 0,I 0] 45) fun b1 H1=>Hz 46 #[.pointer p1,I 0] H1 fun v1 H2=>eZe v1 fun A1 n1 m1 x1=>(BIf (x1 !=0) (StA H2 (O b1) #[I 0,I 0,I 0,I 0] 4 fun H3=>LdA H3 (O b1) 4 fun l9=>K (.tuple #[.agg l9.toArray,I x1]) H3) (Hz 139 #[.slice A1 n1 m1] H2 fun v4 H4=>gZC v4 fun y1 x2=>(Nw H4 (Is #[I 0,I 0,I 0,I 0] 45) fun b2 H5=>StA H5 (O b2) y1 4 fun H6=>BIf (x2 !=0) (StA H6 (O b1) #[I 0,I 0,I 0,I 0] 4 fun H7=>LdA H7 (O b1) 4 fun l10=>K (.tuple #[.agg l10.toArray,I x2]) H7) (LdA H6 (O b2) 4 fun l7=>HcB 140 #[.pointer p1,.agg l7.toArray] H6 fun c1 H8=>BIf (!c1) (StA H8 (O b1) #[I 0,I 0,I 0,I 0] 4 fun H9=>LdA H9 (O b1) 4 fun l11=>K (.tuple #[.agg l11.toArray,I 1]) H9) (LdA H8 (O b2) 4 fun l8=>StA H8 (O b1) l8.toArray 4 fun H10=>LdA H10 (O b1) 4 fun l12=>K (.tuple #[.agg l12.toArray,I 0]) H10)))))
theorem eZh.ok p1 H K (h:eZh p1 H K):Za prog 79 #[.pointer p1] H K:=
 okN cZz Tryz.func79 rfl rfl h
def fZK (p1:OA)(x1 x2 x3 x4:Int)(H:Hp)(K:VK):Prop:=
 Nw H (Is #[I x1,I x2,I x3,I x4] 45) fun b1 H1=>LdA H1 (O b1) 4 fun l1=>Hz 184 #[.agg l1.toArray] H1 fun v1 H2=>eZe v1 fun A1 n1 m1 x5=>(BIf (x5 !=0) (K (I 1) H2) (LdA H2 (O b1) 4 fun l5=>HcB 140 #[.pointer p1,.agg l5.toArray] H2 fun c1 H3=>BIf (!c1) (K (I 1) H3) (HcI 47 #[.pointer p1,I 0,.slice A1 n1 m1] H3 fun x6 H4=>BIf (x6 !=0) (K (I x6) H4) (HcI 127 #[.pointer p1] H4 fun x7 H5=>K (I x7) H5))))
theorem fZK.ok p1 x1 x2 x3 x4 H K (h:fZK p1 x1 x2 x3 x4 H K):Za prog 130 #[.pointer p1,.agg #[I x1,I x2,I x3,I x4]] H K:=
 okN cZz Tryz.func130 rfl rfl h
def aZw.l5.q1 (H9:Hp)(a1:Addr)(K:VK):Prop:=
 StA H9 a1 #[I 0,I 0,I 0,I 0] 4 fun H13=>LdA H13 a1 4 fun l11=>K (.tuple #[.agg l11.toArray,I 1]) H13
def aZw.l5 (K:VK):Nat->OA->Nat->Nat->Addr->Addr->Int->Hp->Prop
 |0,_,_,_,_,_,_,_=>False
 |k+1,A2,n2,m2,a1,a2,x1,H=>
  let R5:=aZw.l5 K k
  BIf (decide (x1<4)) (Hz 192 #[.slice A2 n2 m2,I x1] H fun v2 H5=>hZi v2 fun x2 x3=>(ixI x1 4 (St H5 ((a2.add (x1.toNat*1)).add 0) (U x2) fun H6=>R5 A2 n2 m2 a1 a2 (i64.wrap (x1+1)) H6))) (ixI 0 4 (LeW H (a2.add ((0:Int).toNat*1)) fun x4=>(0<=(16:Int)/\ixI 0 4 (LeW H (a2.add ((0:Int).toNat*1)) fun x5=>(0<=(aZD .u64 x5 63)/\ixI 1 4 (LeW H (a2.add ((1:Int).toNat*1)) fun x6=>ixI 2 4 (LeW H (a2.add ((2:Int).toNat*1)) fun x7=>Nw H (Is #[I 0,I 0,I 0,I 0] 45) fun b3 H7=>StA H7 (O b3) #[I (i64.wrap (aZD .u64 (aZC .u64 x4 16) 65535)),I (i64.wrap x6),I (aZR .i64 1 (aZD .u64 x5 63)),I (i64.wrap x7)] 4 fun H8=>ixI 0 4 (LeW H8 (a2.add ((0:Int).toNat*1)) fun x8=>(0<=(32:Int)/\BIf ((aZC .u64 x8 32) !=1094861123) (StA H8 a1 #[I 0,I 0,I 0,I 0] 4 fun H10=>LdA H10 a1 4 fun l8=>K (.tuple #[.agg l8.toArray,I 10]) H10) (HcB 193 #[.slice A2 n2 m2] H8 fun c2 H9=>BIf (!c2) (StA H9 a1 #[I 0,I 0,I 0,I 0] 4 fun H11=>LdA H11 a1 4 fun l9=>K (.tuple #[.agg l9.toArray,I 10]) H11) (ixI 3 4 (LeW H9 (a2.add ((3:Int).toNat*1)) fun x9=>slB 4 4 none (some 3) fun n3 n4=>QcU 149 #[.slice (slA (some a2) 4 n3 1) (n4-n3) (4-n3)] H9 fun x10=>BIf (x9 !=(u64.wrap x10)) (StA H9 a1 #[I 0,I 0,I 0,I 0] 4 fun H12=>LdA H12 a1 4 fun l10=>K (.tuple #[.agg l10.toArray,I 9]) H12) (LdA H9 (O b3) 4 fun l4=>QcB 194 #[.agg l4.toArray] H9 fun c3=>BIf (!c3) (aZw.l5.q1 H9 a1 K) (LdA H9 (O b3) 4 fun l5=>QcW 195 #[.agg l5.toArray] H9 fun x11=>ixI 0 4 (LeW H9 (a2.add ((0:Int).toNat*1)) fun x12=>BIf (x11 !=x12) (aZw.l5.q1 H9 a1 K) (LeI H9 ((O b3).add 2) fun x13=>BIf (x13 !=(n2:Int)) (aZw.l5.q1 H9 a1 K) (LdA H9 (O b3) 4 fun l6=>StA H9 a1 l6.toArray 4 fun H16=>LdA H16 a1 4 fun l14=>K (.tuple #[.agg l14.toArray,I 0]) H16)))))))))))))))))
def aZw (A1:OA)(n1 m1:Nat)(H:Hp)(K:VK):Prop:=
 Nw H (Is #[I 0,I 0,I 0,I 0] 45) fun b1 H1=>HcB 191 #[.slice A1 n1 m1] H1 fun c1 H2=>BIf (!c1) (StA H2 (O b1) #[I 0,I 0,I 0,I 0] 4 fun H3=>LdA H3 (O b1) 4 fun l7=>K (.tuple #[.agg l7.toArray,I 15]) H3) (Nw H2 (Is #[U 0,U 0,U 0,U 0] 295) fun b2 H4=>(∃ k,aZw.l5 K k A1 n1 m1 (O b1) (O b2) 0 H4))
def aZw.l5.L (K:VK)(k:Nat):Mid:=fun E D H=>
 DG (E.get? 0) fun w0=>DSl w0 fun A2 n2 m2=>eN E 2 fun a1=>eN E 4 fun a2=>eI E 13 .i64 fun x1=>Zj D (aZw.l5 K k A2 n2 m2 a1 a2 x1 H)
def aZw.Λ5 (_:VK)(_R5:OA->Nat->Nat->Addr->Addr->Int->Hp->Prop):Zs:=Zs.none (fun _=>none)
def aZw.Λ (K:VK):Zs:=⟨fun i=>none,fun i=>match Nat.beq i 5 with|true=>some (fun E D H=>∃ k,aZw.l5.L K k E D H)|false=>none,(fun _=>none)⟩
theorem aZw.ok A1 n1 m1 H K (h:aZw A1 n1 m1 H K):Za prog 139 #[.slice A1 n1 m1] H K:=
 okL (Λ:=(aZw.Λ K)) cZz Tryz.func139 rfl rfl h (oC (fun E D H h=>by
   refine Safe.loop' (aZw.l5.L K) (fun E D H h=>?_) (fun k E D H h=>?_) E D H h
   ·obtain⟨w0,e0,g1⟩:=DG.out h;obtain⟨A2,n2,m2,rfl,g2⟩:=DSl.out g1;obtain⟨w2,e2,g3⟩:=DG.out g2;obtain⟨pw2,rfl,g4⟩:=DP.out g3;obtain⟨a1,rfl,g5⟩:=NN.out g4;obtain⟨w4,e4,g6⟩:=DG.out g5;obtain⟨pw4,rfl,g7⟩:=DP.out g6;obtain⟨a2,rfl,g8⟩:=NN.out g7;obtain⟨w13,e13,g9⟩:=DG.out g8;obtain⟨x1,rfl,g10⟩:=DI.out g9;obtain⟨rfl,h'⟩:=Zj.out g10;exact h'
   ·obtain⟨w0,e0,g1⟩:=DG.out h;obtain⟨A2,n2,m2,rfl,g2⟩:=DSl.out g1;obtain⟨a1,e2,g5⟩:=GN g2;obtain⟨a2,e4,g8⟩:=GN g5;obtain⟨x1,e13,g10⟩:=GI g8;obtain⟨rfl,h'⟩:=Zj.out g10;exact okJ (Λ:=(aZw.Λ5 K (aZw.l5 K k))) cZz [] (Zc.cons e0 (Zc.cons e2 (Zc.cons e4 (Zc.cons e13 (Zc.nil _))))) h' oN) oN)
def hZw (p1:OA)(x1 x2 x3 x4:Int)(H:Hp)(K:VK):Prop:=
 Nw H (Is #[I x1,I x2,I x3,I x4] 45) fun b1 H1=>LeI H1 ((O b1).add 1) fun x5=>NN p1 fun a1=>QcI 123 #[.pointer (some (a1.add 0))] H1 fun x6=>BIf (x5==x6) (LeI H1 ((O b1).add 2) fun x7=>NN p1 fun a2=>QcI 124 #[.pointer (some (a2.add 0))] H1 fun x8=>K (.bool (x7==x8)) H1) (K (.bool false) H1)
theorem hZw.ok p1 x1 x2 x3 x4 H K (h:hZw p1 x1 x2 x3 x4 H K):Za prog 140 #[.pointer p1,.agg #[I x1,I x2,I x3,I x4]] H K:=
 okN cZz Tryz.func140 rfl rfl h
def fZa (x1 x2 x3 x4:Int)(H:Hp)(K:VK):Prop:=
 Nw H (Is #[I x1,I x2,I x3,I x4] 45) fun b1 H1=>Nw H1 (Is #[I 0,I 0,I 0,I 0,I 0,I 0,I 0,I 0,I 0,I 0,I 0,I 0,I 0,I 0,I 0,I 0,I 0] 153) fun b2 H2=>LdA H2 (O b1) 4 fun l1=>HcB 194 #[.agg l1.toArray] H2 fun c1 H3=>BIf (!c1) (StA H3 (O b2) #[I 0,I 0,I 0,I 0,I 0,I 0,I 0,I 0,I 0,I 0,I 0,I 0,I 0,I 0,I 0,I 0,I 0] 17 fun H4=>LdA H4 (O b2) 17 fun l5=>K (.tuple #[.agg l5.toArray,I 1]) H4) (LeI H3 ((O b1).add 0) fun x5=>LeI H3 ((O b1).add 1) fun x6=>LeI H3 ((O b1).add 2) fun x7=>Hz 181 #[I x5,I x6,I x7] H3 fun v5 H5=>gZC v5 fun y1 x8=>(StA H5 (O b2) y1 17 fun H6=>LdA H6 (O b2) 17 fun l6=>K (.tuple #[.agg l6.toArray,I x8]) H6))
theorem fZa.ok x1 x2 x3 x4 H K (h:fZa x1 x2 x3 x4 H K):Za prog 141 #[.agg #[I x1,I x2,I x3,I x4]] H K:=
 okN cZz Tryz.func141 rfl rfl h
def eZI (x1 x2 x3 x4:Int)(H:Hp)(K:VK):Prop:=
 Nw H (Is #[I x1,I x2,I x3,I x4] 45) fun b1 H1=>LdA H1 (O b1) 4 fun l1=>HcB 194 #[.agg l1.toArray] H1 fun c1 H2=>BIf (!c1) (K (.tuple #[.slice none 0 0,I 1]) H2) (LdA H2 (O b1) 4 fun l2=>QcW 195 #[.agg l2.toArray] H2 fun x5=>LeI H2 ((O b1).add 1) fun x6=>LeI H2 ((O b1).add 3) fun x7=>Nw H2 (.row [U x5,U (u64.wrap x6),U (u64.wrap x7)] 108 3) fun b2 H3=>LeI H3 ((O b1).add 2) fun x8=>MkS prog 5 x8 x8 H3 fun v6 H4=>DSl v6 fun A1 n1 m1=>HcU 149 #[.slice (Io b2) 3 3] H4 fun x9 H5=>Nw H5 (.row [U (u64.wrap x9)] 108 1) fun b3 H6=>cZ8 prog 108 (.slice (Io b2) 3 3) (.slice (Io b3) 1 1) H6 fun v8 H7=>DSl v8 fun A2 n2 m2=>HcS 214 #[.slice A2 n2 m2] H7 fun A3 n3 m3 H8=>CpK prog 5 (.slice A1 n1 m1) (.slice A3 n3 m3) H8 fun v10 H9=>DI .i64 v10 fun x10=>K (.tuple #[.slice A1 n1 m1,I 0]) H9)
theorem eZI.ok x1 x2 x3 x4 H K (h:eZI x1 x2 x3 x4 H K):Za prog 184 #[.agg #[I x1,I x2,I x3,I x4]] H K:=
 ok0 (fun i=>match Nat.beq i 3 with|true=>some ([],[0,1,2,3,4,5,6,7],8)|false=>none) cZz Tryz.func184 rfl rfl h
def fZb (A1:OA)(n1 m1:Nat)(H:Hp)(K:VK):Prop:=
 Hz 251 #[I 0,I (n1:Int)] H fun v1 H1=>jZq v1 fun x1 x2=>(K (.bool (x2==0)) H1)
theorem fZb.ok A1 n1 m1 H K (h:fZb A1 n1 m1 H K):Za prog 191 #[.slice A1 n1 m1] H K:=
 okN cZz Tryz.func191 rfl rfl h
def aZJ.l2 (K:VK):Nat->OA->Nat->Nat->Int->Int->Hp->Prop
 |0,_,_,_,_,_,_=>False
 |k+1,A2,n4,m2,x1,x2,H=>
  let R2:=aZJ.l2 K k
  BIf (decide (x2<x1)) (ixI x2 n4 (NN A2 fun a1=>LeV H (a1.add (x2.toNat*1)) fun x3=>BIf (x3 !=0) (K (.bool false) H) (R2 A2 n4 m2 x1 (i64.wrap (x2+1)) H))) (K (.bool true) H)
def aZJ (A1:OA)(n1 m1:Nat)(H:Hp)(K:VK):Prop:=
 slB n1 m1 (some 32) none fun n2 n3=>(∃ k,aZJ.l2 K k (slA A1 m1 n2 1) (n3-n2) (m1-n2) ((n3-n2:Nat):Int) 0 H)
def aZJ.l2.L (K:VK)(k:Nat):Mid:=fun E D H=>
 DG (E.get? 6) fun w6=>DSl w6 fun A2 n4 m2=>eI E 7 .i64 fun x1=>eI E 8 .i64 fun x2=>Zj D (aZJ.l2 K k A2 n4 m2 x1 x2 H)
def aZJ.Λ2 (_:VK)(_R2:OA->Nat->Nat->Int->Int->Hp->Prop):Zs:=Zs.none (fun _=>none)
def aZJ.Λ (K:VK):Zs:=⟨fun i=>none,fun i=>match Nat.beq i 2 with|true=>some (fun E D H=>∃ k,aZJ.l2.L K k E D H)|false=>none,(fun _=>none)⟩
theorem aZJ.ok A1 n1 m1 H K (h:aZJ A1 n1 m1 H K):Za prog 193 #[.slice A1 n1 m1] H K:=
 okL (Λ:=(aZJ.Λ K)) cZz Tryz.func193 rfl rfl h (oC (fun E D H h=>by
   refine Safe.loop' (aZJ.l2.L K) (fun E D H h=>?_) (fun k E D H h=>?_) E D H h
   ·obtain⟨w6,e6,g1⟩:=DG.out h;obtain⟨A2,n4,m2,rfl,g2⟩:=DSl.out g1;obtain⟨w7,e7,g3⟩:=DG.out g2;obtain⟨x1,rfl,g4⟩:=DI.out g3;obtain⟨w8,e8,g5⟩:=DG.out g4;obtain⟨x2,rfl,g6⟩:=DI.out g5;obtain⟨rfl,h'⟩:=Zj.out g6;exact h'
   ·obtain⟨w6,e6,g1⟩:=DG.out h;obtain⟨A2,n4,m2,rfl,g2⟩:=DSl.out g1;obtain⟨x1,e7,g4⟩:=GI g2;obtain⟨x2,e8,g6⟩:=GI g4;obtain⟨rfl,h'⟩:=Zj.out g6;exact okJ (Λ:=(aZJ.Λ2 K (aZJ.l2 K k))) cZz [] (Zc.cons e6 (Zc.cons e7 (Zc.cons e8 (Zc.nil _)))) h' oN) oN)
def gZl (x1 x2 x3 x4:Int)(H:Hp)(K:VK):Prop:=
 Nw H (Is #[I x1,I x2,I x3,I x4] 45) fun b1 H1=>LeI H1 ((O b1).add 0) fun x5=>LeI H1 ((O b1).add 1) fun x6=>LeI H1 ((O b1).add 2) fun x7=>Hz 181 #[I x5,I x6,I x7] H1 fun v4 H2=>gZC v4 fun y1 x8=>(Nw H2 (Is #[I 0,I 0,I 0,I 0,I 0,I 0,I 0,I 0,I 0,I 0,I 0,I 0,I 0,I 0,I 0,I 0,I 0] 153) fun b2 H3=>StA H3 (O b2) y1 17 fun H4=>BIf (x8==0) (LeI H4 ((O b1).add 3) fun x9=>BIf (decide (x9>=1)) (LeI H4 ((O b1).add 3) fun x10=>K (.bool (decide (x10<=(16777216:Int)))) H4) (K (.bool false) H4)) (K (.bool false) H4))
theorem gZl.ok x1 x2 x3 x4 H K (h:gZl x1 x2 x3 x4 H K):Za prog 194 #[.agg #[I x1,I x2,I x3,I x4]] H K:=
 okN cZz Tryz.func194 rfl rfl h
def fZL (x1 x2 x3 x4:Int)(H:Hp)(K:VK):Prop:=
 Nw H (Is #[I x1,I x2,I x3,I x4] 45) fun b1 H1=>LeI H1 ((O b1).add 0) fun x5=>(0<=(16:Int)/\LeI H1 ((O b1).add 2) fun x6=>QcI 227 #[U (u64.wrap x6)] H1 fun x7=>K (U (bOr .u64 (bOr .u64 4702392716946833408 (aZR .u64 (u64.wrap x5) 16)) (u64.wrap (i64.wrap (x7-1))))) H1)
theorem fZL.ok x1 x2 x3 x4 H K (h:fZL x1 x2 x3 x4 H K):Za prog 195 #[.agg #[I x1,I x2,I x3,I x4]] H K:=
 okN cZz Tryz.func195 rfl rfl h
theorem hZZ :prog.follows .mixedOrders=true:=by kernel_rfl
def aZo.l3 (K:VK):Nat->Int->Int->Int->Int->Hp->Prop
 |0,_,_,_,_,_=>False
 |k+1,x3,x4,x5,x6,H=>
  let R3:=aZo.l3 K k
  BIf (decide (x6<x3)) (R3 x3 x4 (i64.wrap (2*x5)) (i64.wrap (x6+1)) H) (((8:Int)≠0/\i64=i64/\BIf (decide (x5<=(i64.wrap (Int.tdiv x4 8)))) (K (I 13) H) (((i64.wrap (Int.tdiv x4 8))≠0/\i64=i64/\K (I (i64.wrap (9+(i64.wrap (4*(i64.wrap (Int.tdiv x5 (i64.wrap (Int.tdiv x4 8))))))))) H))))
def aZo (x1 x2:Int)(H:Hp)(K:VK):Prop:=
 (∃ k,aZo.l3 K k x1 x2 1 0 H)
def aZo.l3.L (K:VK)(k:Nat):Mid:=fun E D H=>
 eI E 0 .i64 fun x3=>eI E 1 .i64 fun x4=>eI E 5 .i64 fun x5=>eI E 6 .i64 fun x6=>Zj D (aZo.l3 K k x3 x4 x5 x6 H)
def aZo.Λ3 (_:VK)(_R3:Int->Int->Int->Int->Hp->Prop):Zs:=Zs.none (fun _=>none)
def aZo.Λ (K:VK):Zs:=⟨fun i=>none,fun i=>match Nat.beq i 3 with|true=>some (fun E D H=>∃ k,aZo.l3.L K k E D H)|false=>none,(fun _=>none)⟩
theorem aZo.ok x1 x2 H K (h:aZo x1 x2 H K):Za prog 107 #[I x1,I x2] H K:=
 okL (Λ:=(aZo.Λ K)) hZZ Tryz.func107 rfl rfl h (oC (fun E D H h=>by
   refine Safe.loop' (aZo.l3.L K) (fun E D H h=>?_) (fun k E D H h=>?_) E D H h
   ·obtain⟨w0,e0,g1⟩:=DG.out h;obtain⟨x3,rfl,g2⟩:=DI.out g1;obtain⟨w1,e1,g3⟩:=DG.out g2;obtain⟨x4,rfl,g4⟩:=DI.out g3;obtain⟨w5,e5,g5⟩:=DG.out g4;obtain⟨x5,rfl,g6⟩:=DI.out g5;obtain⟨w6,e6,g7⟩:=DG.out g6;obtain⟨x6,rfl,g8⟩:=DI.out g7;obtain⟨rfl,h'⟩:=Zj.out g8;exact h'
   ·obtain⟨x3,e0,g2⟩:=GI h;obtain⟨x4,e1,g4⟩:=GI g2;obtain⟨x5,e5,g6⟩:=GI g4;obtain⟨x6,e6,g8⟩:=GI g6;obtain⟨rfl,h'⟩:=Zj.out g8;exact okJ (Λ:=(aZo.Λ3 K (aZo.l3 K k))) hZZ [] (Zc.cons e0 (Zc.cons e1 (Zc.cons e5 (Zc.cons e6 (Zc.nil _))))) h' oN) oN)
end W
namespace Sup
open Go Go.Hw Go.Form W Lay
def bZ0 (k sec s ar:Int):Array Value:=#[I k,I sec,I s,I ar]
def bZy (k sec s ar:Int):Bool:=decide (0<=k/\k<=32/\0<aZg s/\(bZT k.toNat (aZg s):Int)<=sec/\1<=ar/\ar<=16777216)
theorem kZQ (k sec s:Int):(OfV k sec s).1.size=17:=by
 unfold OfV;split
 ·split<;>rfl
 ·rfl
theorem pZU (k sec s:Int):(OfV k sec s).1.toList.all (fun v=>v.oneCell')=true:=by
 unfold OfV;split
 ·split<;>rfl
 ·rfl
theorem bZ2 (k sec s ar:Int)(H:Hp):Za prog 194 #[.agg (bZ0 k sec s ar)] H (RetE (.bool (bZy k sec s ar)) H):=by
 apply Za.ret;apply gZl.ok;unfold gZl;simp only[HS];refine(Sep.start H).nw fun b1 H hs=>?_
 first|refine hs.ld 1 rfl rfl ?_|refine hs.ld 2 rfl rfl ?_|refine hs.ld 3 rfl rfl ?_|refine hs.ld 4 rfl rfl ?_|refine hs.ld 5 rfl rfl ?_|refine hs.ld 6 rfl rfl ?_|refine hs.ld 7 rfl rfl ?_|refine hs.ld 8 rfl rfl ?_
 try simp only[HV]
 first|refine hs.ld 1 rfl rfl ?_|refine hs.ld 2 rfl rfl ?_|refine hs.ld 3 rfl rfl ?_|refine hs.ld 4 rfl rfl ?_|refine hs.ld 5 rfl rfl ?_|refine hs.ld 6 rfl rfl ?_|refine hs.ld 7 rfl rfl ?_|refine hs.ld 8 rfl rfl ?_
 try simp only[HV]
 first|refine hs.ld 1 rfl rfl ?_|refine hs.ld 2 rfl rfl ?_|refine hs.ld 3 rfl rfl ?_|refine hs.ld 4 rfl rfl ?_|refine hs.ld 5 rfl rfl ?_|refine hs.ld 6 rfl rfl ?_|refine hs.ld 7 rfl rfl ?_|refine hs.ld 8 rfl rfl ?_
 try simp only[HV]
 refine Za.use (eZO k sec s H) ?_
 try simp only[HV]
 refine hs.nw fun b2 H hs=>?_
 refine hs.stw 2 rfl rfl (kZQ _ _ _) (pZU _ _ _) fun H hs=>?_;have hr:=hs.fin 0 rfl (.bool (bZy k sec s ar));by_cases h:0<=k/\k<=32/\0<aZg s/\(bZT k.toNat (aZg s):Int)<=sec
 ·have:(OfV k sec s).2=0:=by unfold OfV;rw[if_pos (by omega),if_neg (by omega)]
  rw[this];refine aZE rfl ?_
  first|refine hs.ld 1 rfl rfl ?_|refine hs.ld 2 rfl rfl ?_|refine hs.ld 3 rfl rfl ?_|refine hs.ld 4 rfl rfl ?_|refine hs.ld 5 rfl rfl ?_|refine hs.ld 6 rfl rfl ?_|refine hs.ld 7 rfl rfl ?_|refine hs.ld 8 rfl rfl ?_
  try simp only[HV]
  by_cases h2:ar>=1
  ·refine Zm h2 ?_
   first|refine hs.ld 1 rfl rfl ?_|refine hs.ld 2 rfl rfl ?_|refine hs.ld 3 rfl rfl ?_|refine hs.ld 4 rfl rfl ?_|refine hs.ld 5 rfl rfl ?_|refine hs.ld 6 rfl rfl ?_|refine hs.ld 7 rfl rfl ?_|refine hs.ld 8 rfl rfl ?_
   try simp only[HV]
   have:decide (ar<=16777216)=bZy k sec s ar:=by unfold bZy;simp only[decide_eq_decide];omega
   rw[this];exact hr
  ·refine Zg h2 ?_;have:false=bZy k sec s ar:=by unfold bZy;symm;simp only[decide_eq_false_iff_not];omega
   rw[this];exact hr
 ·refine aZe ?_ ?_
  ·have:(OfV k sec s).2=1∨(OfV k sec s).2=7:=by
    unfold OfV;split
    ·rw[if_pos (by omega)];exact .inr rfl
    ·exact .inl rfl
   rcases this with e|e<;>rw[e]<;>rfl
  ·have:false=bZy k sec s ar:=by unfold bZy;symm;simp only[decide_eq_false_iff_not];omega
   rw[this];exact hr
def cZn (s:Int):Int:=if s=32 then 5 else if s=64 then 6 else if s=128 then 7 else if s=256 then 8 else if s=512 then 9 else if s=1024 then 10 else if s=2048 then 11 else if s=4096 then 12 else -1
theorem hZL (s:Int):(0<aZg s/\s=8*aZg s/\5<=cZn s/\cZn s<=12/\aZg s=2^(cZn s-3).toNat)∨(aZg s=0/\cZn s=-1):=by
 unfold aZg cZn
 repeat' split
 all_goals first|(subst_vars;left;decide)|(right;exact⟨rfl,rfl⟩)
theorem nZo (K:VK)(k:Nat)(hk:k<=32)(s:Int)(hs:0<aZg s)(H:Hp)(hK:K (I (bZT k (aZg s))) H):∀ d j:Nat,j+d=k->aZo.l3 K (d+1) (k:Int) s ((2^j:Nat):Int) (j:Int) H
 |0,j,hj=>by
  obtain rfl:j=k:=by omega
  unfold aZo.l3;refine Zg (by omega) ⟨by decide,rfl,?_⟩;obtain⟨_,h1,h2,h3,h4⟩:0<aZg s/\s=8*aZg s/\5<=cZn s/\cZn s<=12/\aZg s=2^(cZn s-3).toNat:=by
   rcases hZL s with h|h
   ·exact h
   ·omega
  have hle:=iZL s;have hp:=mZE (k:=j) (by omega);have e1:i64.wrap (Int.tdiv s 8)=(aZg s:Int):=by
   have:Int.tdiv s 8=(aZg s:Int):=by
    conv=>lhs;rw[h1]
    exact Int.mul_tdiv_cancel_left _ (by omega)
   rw[this];exact bZc
  rw[e1];have h2j:1<=2^j:=Nat.one_le_two_pow;by_cases hc:(2^j:Nat)<=aZg s
  ·refine Zm (Int.ofNat_le.2 hc) ?_;have:bZT j (aZg s)=13:=by
    unfold bZT ZX;rw[Nat.div_eq_of_lt (by omega)]
   rw[this]at hK;exact hK
  ·refine Zg (fun h=>hc (Int.ofNat_le.1 h)) ⟨by omega,rfl,?_⟩;have hd:aZg s∣2^j:=by
    rw[h4];refine Nat.pow_dvd_pow 2 ?_;rw[h4]at hc;have:=(Nat.pow_lt_pow_iff_right (a:=2) (by omega)).1 (Nat.lt_of_not_le hc);omega
   obtain⟨q,hq⟩:=hd;have hq1:1<=q:=by
    cases q with
    |zero=>rw[hq]at h2j;omega
    |succ q=>omega
   have hdiv:2^j/aZg s=q:=by rw[hq];exact Nat.mul_div_cancel_left q hs
   have hroom:ZX j (aZg s)=q:=by
    unfold ZX;have:2^j-1=aZg s*(q-1)+(aZg s-1):=by
     rw[hq];have:aZg s*q=aZg s*(q-1)+aZg s:=by
      rw[← Nat.mul_succ];congr 1;omega
     omega
    rw[this,Nat.mul_add_div hs,Nat.div_eq_of_lt (by omega)];omega
   have hqle:q<=2^j:=by rw[← hdiv];exact Nat.div_le_self _ _
   have hp32:2^j<=2^32:=Nat.pow_le_pow_right (by omega) hk;rw[show Int.tdiv ((2^j:Nat):Int) (aZg s:Int)=((2^j/aZg s:Nat):Int)from rfl,hdiv,bZc (n:=q),ZM (x:=4*(q:Int)),ZM (x:=9+4*(q:Int))];unfold bZT at hK;rw[hroom]at hK;rw[show((9:Int)+4*(q:Int))=((9+4*q:Nat):Int) by omega];exact hK
 |d+1,j,hj=>by
  unfold aZo.l3;have hp:2^j<=4294967296:=(Nat.pow_le_pow_right (by omega) (by omega):2^j<=2^32);have hnn:=Int.natCast_nonneg (2^j);have hp':((2^j:Nat):Int)<=4294967296:=by exact Int.ofNat_le.2 hp
  refine Zm (by omega) ?_;rw[ZM (x:=2*((2^j:Nat):Int)),ZM (x:=(j:Int)+1)];have:=nZo K k hk s hs H hK d (j+1) (by omega);rw[show(2:Int)*((2^j:Nat):Int)=((2^(j+1):Nat):Int) by rw[Nat.pow_succ];omega];exact this
theorem rZQ (k:Nat)(hk:k<=32)(s:Int)(hs:0<aZg s)(H:Hp):Za prog 107 #[I k,I s] H (RetE (I (bZT k (aZg s))) H):=by
 apply aZo.ok;exact⟨k+1,nZo _ k hk s hs H (RetE.mk _ _) k 0 (by omega)⟩
end Sup
namespace Rec
open Go Go.Hw Go.Form Go.Crc W FormP
theorem lZf (s:Int):secB s=true↔0<Lay.aZg s:=by
 unfold secB Lay.gZP;by_cases h:0<Lay.aZg s
 ·rw[if_pos ⟨by omega,by omega,h⟩];simp[h]
 ·rw[if_neg (fun g=>h g.2.2)];simp[h]
theorem wZg {s:Int}(h:secB s=true):32<=s/\s<=4096:=by
 rw[lZf]at h;refine⟨Int.not_lt.1 fun g=>?_,Int.not_lt.1 fun g=>?_⟩
 ·rw[Lay.jZb g]at h;omega
 ·rw[Lay.jZa g]at h;omega
theorem xZM {p q:Nat}(hp:p<4294967296)(hq:q<4294967296):bZk 0 [(p,32),(q,0)]=p*4294967296+q:=by
 show(0|||(p*2^32%2^64))|||(q*2^0%2^64)=_
 rw[Nat.zero_or,Nat.mod_eq_of_lt (by omega),Nat.pow_zero,Nat.mul_one,Nat.mod_eq_of_lt (by omega),Nat.mul_comm p,←Nat.two_pow_add_eq_or_of_lt (i:=32) hq p]
theorem jZI {w q:Nat}(k:Nat)(hw:2^k∣w)(hq:q<2^k):w|||q=w+q:=by
 obtain⟨t,rfl⟩:=hw;exact(Nat.two_pow_add_eq_or_of_lt hq t).symm
theorem sZJ (r:R)(hg:r.good):bZk 0 r.p1=5928144484503126016+r.s:=by
 obtain⟨g1,g2,_⟩:=hg;show(0|||(21061*2^48%2^64))|||(r.s*2^0%2^64)=_
 rw[Nat.zero_or,Nat.pow_zero,Nat.mul_one,Nat.mod_eq_of_lt (show r.s<2^64 by omega),jZI 48 ⟨21061,by decide⟩ (by omega)]
theorem xZk (r:R)(hu:r.u32):bZk 0 r.p3=r.inp*4294967296+r.out:=xZM hu.inp hu.out
theorem xZj (r:R)(hg:r.good)(hu:r.u32):bZk 0 r.p2=r.ld*4294967296+r.ps.toNat*16777216+r.kk.toNat*65536+r.dir.toNat*256+r.kd.toNat:=by
 obtain⟨g1,g2,g3,g4,g5,g6⟩:=hg;have hu:=hu.ld;have h1:r.ps.toNat<256:=by omega
 have h2:r.kk.toNat<256:=by omega
 have h3:r.dir.toNat<256:=by omega
 have h4:r.kd.toNat<256:=by omega
 show((((0|||(r.ld*2^32%2^64))|||(r.ps.toNat*2^24%2^64))|||(r.kk.toNat*2^16%2^64))|||(r.dir.toNat*2^8%2^64))|||(r.kd.toNat*2^0%2^64)=_
 generalize r.ps.toNat=a at*;generalize r.kk.toNat=b at*;generalize r.dir.toNat=c at*;generalize r.kd.toNat=d at*;generalize r.ld=l at*;rw[Nat.zero_or,Nat.mod_eq_of_lt (show l*2^32<2^64 by omega),Nat.mod_eq_of_lt (show a*2^24<2^64 by omega),Nat.mod_eq_of_lt (show b*2^16<2^64 by omega),Nat.mod_eq_of_lt (show c*2^8<2^64 by omega),Nat.pow_zero,Nat.mul_one,Nat.mod_eq_of_lt (show d<2^64 by omega)];rw[jZI 32 ⟨l,Nat.mul_comm _ _⟩ (show a*2^24<2^32 by omega),jZI 24 ⟨l*256+a,by omega⟩ (show b*2^16<2^24 by omega),jZI 16 ⟨(l*256+a)*256+b,by omega⟩ (show c*2^8<2^16 by omega),jZI 8 ⟨((l*256+a)*256+b)*256+c,by omega⟩ (show d<2^8 by omega)]
structure R.wf (r:R):Prop where
 s:r.s<2^64
 kd: -9223372036854775808<=r.kd/\r.kd<=9223372036854775807
 kk: -9223372036854775808<=r.kk/\r.kk<=9223372036854775807
 dir: -9223372036854775808<=r.dir/\r.dir<=9223372036854775807
 ps: -9223372036854775808<=r.ps/\r.ps<=9223372036854775807
 u:r.u32
def R.form (r:R)(size:Nat):List UInt8:=Form.form r.w4++List.replicate (size-32) 0
theorem kZb (r:R):(Form.form r.w4).length=32:=by rw[bZb];rfl
theorem jZL (r:R){size:Nat}(h:32<=size):(r.form size).length=size:=by
 unfold R.form;rw[List.length_append,kZb,List.length_replicate];omega
theorem pZc (r:R)(size:Nat):gZt (r.form size)=true:=by
 unfold gZt R.form;refine decide_eq_true fun x hx=>?_
 rw[List.drop_append,kZb,Nat.sub_self,List.drop_eq_nil_of_le (by rw[kZb];exact Nat.le_refl _),List.nil_append,List.drop_zero]at hx;exact(List.mem_replicate.1 hx).2
theorem vZ9 (r:R)(hg:r.good)(hu:r.u32):iZo (bZk 0 r.p1) (bZk 0 r.p2) (bZk 0 r.p3)=r:=by
 rw[sZJ r hg,xZj r hg hu,xZk r hu];obtain⟨g1,g2,g3,g4,g5,g6⟩:=hg;obtain⟨u1,u2,u3⟩:=hu;obtain⟨s,kd,kk,dir,ps,ld,inp,out⟩:=r;simp only at*;unfold iZo;congr 1<;>omega
theorem pZK (r:R)(size:Nat):Zv (r.form size) 0=bZk 0 r.p1/\Zv (r.form size) 8=bZk 0 r.p2/\Zv (r.form size) 16=bZk 0 r.p3/\Zv (r.form size) 24=bZk 0 (gZ8 r.w3):=by
 have h4:r.w4.length=4:=rfl;have w0:=fZm (l:=r.w4) (i:=0) (by omega) (List.replicate (size-32) 0);have w1:=fZm (l:=r.w4) (i:=1) (by omega) (List.replicate (size-32) 0);have w2:=fZm (l:=r.w4) (i:=2) (by omega) (List.replicate (size-32) 0);have w3:=fZm (l:=r.w4) (i:=3) (by omega) (List.replicate (size-32) 0);refine⟨w0.trans ?_,w1.trans ?_,w2.trans ?_,w3.trans ?_⟩
 ·exact UInt64.toNat_ofNat_of_lt' (eZz r.p1 0 (by decide))
 ·exact UInt64.toNat_ofNat_of_lt' (eZz r.p2 0 (by decide))
 ·exact UInt64.toNat_ofNat_of_lt' (eZz r.p3 0 (by decide))
 ·exact UInt64.toNat_ofNat_of_lt' (eZz (gZ8 r.w3) 0 (by decide))
theorem rZn (r:R)(hg:r.good)(hu:r.u32){size:Nat}(h32:32<=size)(hs:secB (size:Int)=true):aZ8 (r.form size)=(r,0):=by
 obtain⟨w0,w1,w2,w3⟩:=pZK r size;have hU:w3U (r.form size)=r.w3:=by
  unfold w3U;rw[w0,w1,w2];rfl
 have hr:=vZ9 r hg hu;have hm:bZk 0 r.p1/281474976710656=21061:=by
  have:=sZJ r hg;have:=hg.1;have:=hg.2.1;omega
 unfold aZ8;rw[jZL r h32,if_pos hs,hU,w0,w1,w2,w3,hr,if_pos ⟨hm,pZc r size⟩,if_pos rfl,if_pos hg]
end Rec
namespace Rng
open Go Go.Hw W Rec Srt Dsk
def ZZ (p:Nat)(f n w:Int):AO:=Is #[I f,I n,I w,V p] 260
def mZx (d:D)(f n:Int):Bool:=decide (2<=n/\0<=f/\f<d.sec/\n<=d.sec-f)
def mZo (p:Nat)(d:D)(f n w:Int)(v:Value)(M:List As):Prop:=
 (mZx d f n=true/\∃ b,v= .tuple #[V b,I 0]/\M=[Dk p d,pts b (ZZ p f n w)])∨(mZx d f n=false/\v= .tuple #[.pointer none,I 2]/\M=[Dk p d])
theorem mZo.yes {p:Nat}{d:D}{f n w:Int}(h:mZx d f n=true)(b:Nat):mZo p d f n w (.tuple #[V b,I 0]) [Dk p d,pts b (ZZ p f n w)]:=.inl ⟨h,b,rfl,rfl⟩
theorem mZo.no {p:Nat}{d:D}{f n w:Int}(h:mZx d f n=false):mZo p d f n w (.tuple #[.pointer none,I 2]) [Dk p d]:=.inr ⟨h,rfl,rfl⟩
theorem dZC {p:Nat}{d:D}(hok:Ok d)(f n w:Int)(hf: -9223372036854775808<=f/\f<=9223372036854775807):
  Tr prog 142 #[V p,.agg #[I f,I n,I w]] [Dk p d] (mZo p d f n w):=fun H hs=>by
 have hsec:=hok.sec;apply hZv.ok;unfold hZv;refine hs.nw fun b1 H hs=>?_
 have hs:Hw.Sep [Dk p d,pts b1 (Is #[I f,I n,I w] 150)] H:=hs;have bad:mZx d f n=false->∃ M,mZo p d f n w (.tuple #[.pointer none,I 2]) M/\Hw.Sep M H:=fun h=>⟨_,.no h,hs.re [0] rfl⟩
 refine aZe rfl ?_;refine hs.ldf 1 rfl rfl ?_;simp only[HV];by_cases h1:n<2
 ·exact Zm h1 (bad (decide_eq_false (by omega)))
 refine Zg h1 ?_;refine hs.ldf 1 rfl rfl ?_;simp only[HV];by_cases h2:f<0
 ·exact Zm h2 (bad (decide_eq_false (by omega)))
 refine Zg h2 ?_;refine hs.ldf 1 rfl rfl ?_;simp only[HV];refine ZS.use (eZU hs 0 rfl) ?_;simp only[HV];by_cases h3:f>=(d.sec:Int)
 ·exact Zm h3 (bad (decide_eq_false (by omega)))
 refine Zg h3 ?_;refine hs.ldf 1 rfl rfl ?_;simp only[HV];refine ZS.use (eZU hs 0 rfl) ?_;simp only[HV];refine hs.ldf 1 rfl rfl ?_;simp only[HV];rw[ZM (x:=(d.sec:Int)-f)];by_cases h4:n>(d.sec:Int)-f
 ·exact Zm h4 (bad (decide_eq_false (by omega)))
 refine Zg h4 ?_
 first|refine hs.ldw 1 rfl rfl ?_
 try simp only[HV]
 refine hs.nw fun b2 H hs=>?_
 exact⟨_,.yes (decide_eq_true (by omega)) b2,hs.re [0,2] rfl⟩
def aZX (f n s:Nat):Nat:=f+(s-1)%n
theorem qZt {L:List As}{H:Hp}(hs:Hw.Sep L H)(i:Nat){b p f n:Nat}{w:Int}(hi:L[i]? =some (pts b (ZZ p f n w)))(hf:f<=1048576)(hn:1<=n)(hn2:n<=1048576)(s:Nat)(h1:1<=s)(h2:s<18446744073709551616):
  Za prog 158 #[V b,U (s:Int)] H (RetE (I (aZX f n s:Int)) H):=by
 apply eZt.ok;unfold eZt;simp only[HS];refine hs.ld i hi rfl ?_;simp only[HV]
 try simp only[HS]
 refine hs.ld i hi rfl ?_;simp only[HV];have hm:(s-1)%n<n:=Nat.mod_lt _ (by omega);rw[bZ5,dZl (x:=(s:Int)-1),show(s:Int)-1=((s-1:Nat):Int) by omega,show Int.tmod ((s-1:Nat):Int) (n:Int)=(((s-1)%n:Nat):Int)from rfl,bZc,ZM];refine⟨by omega,by simp,?_⟩;unfold aZX;exact RetE.of (by rw[Int.natCast_add])
def fZl (f n:Nat)(bs:List UInt8)(i:Nat):List R:=if(aZ8 bs).2=0/\aZX f n (aZ8 bs).1.s=f+i then [(aZ8 bs).1]else []
def D.red (d:D):D:={ d.burnt with rd:=d.rd+1}
theorem Ok.red {d:D}(hok:Ok d):Ok (D.red d):=⟨hok.burnt.sec,hok.burnt.size,hok.burnt.big,hok.burnt.per,hok.burnt.safe,hok.burnt.cache,hok.burnt.fz⟩
def cZ3 (f n:Nat):Nat->Nat->D->List R->Int×D×List R
 |0,_,d,acc=>(0,d,acc)
 |k+1,i,d,acc=>if d.chk ((f+i:Nat):Int)≠0 then(d.chk ((f+i:Nat):Int),d,[])else if d.burns=true then(8,d.burnt,[])else cZ3 f n k (i+1) (D.red d) (acc++fZl f n (d.now ((f+i:Nat):Int)) i)
def lZx (b p f n:Nat)(w:Int)(r:Int×D×List R)(v:Value)(M:List As):Prop:=
 ∃ A m,v= .tuple #[.slice A r.2.2.length m,I r.1]/\M=[Dk p r.2.1,pts b (ZZ p f n w),Own 110 8 A r.2.2.length m (cZt (cZc r.2.2 (r.2.2.length-1)))]/\r.2.2.length<=m
theorem rZo {bs:List UInt8}(h:(aZ8 bs).2=0):(aZ8 bs).1.good:=by
 unfold aZ8 at h⊢;split at h
 ·rename_i h1
  rw[if_pos h1];split at h
  ·rename_i h2
   rw[if_pos h2];split at h
   ·rename_i h3
    rw[if_pos h3];split at h
    ·rename_i h4
     rw[if_pos h4];exact h4
    ·cases h
   ·cases h
  ·cases h
 ·cases h
theorem tZY :bZp prog 110=some (8,56,some #[U 0,I 0,I 0,I 0,I 0,Ii 0,Ii 0,Ii 0]):=by kernel_rfl
theorem qZ5 {L:List As}{H:Hp}(h:Hw.Sep L H):Hw.Sep (L++[Own 110 8 none 0 0 []]) H:=by
 have:Hw.Sep (Own 110 8 none 0 0 []::L) H:=⟨fun _=>none,H,fun _ _ h=>(nomatch h),Hp.le_refl _,fun _=>.inl rfl,Own.none _ _ _,h⟩;exact Hw.Sep.perm (List.perm_append_comm (l₁:=[_])) this
theorem jZo (b p f n:Nat)(w:Int)(hn:1<=n)(hfn:f+n<=1048576)(r:Int×D×List R)(hr12:r.1=0->r.2.2.length<=12):
  ∀(t i:Nat) (d:D) (acc:List R) (A:OA) (m:Nat) (H:Hp),i+t=n->Ok d->d.rd+t<=1000000->acc.length<=i->acc.length<=m->r=cZ3 f n t i d acc->
   Hw.Sep [Dk p d,pts b (ZZ p f n w),Own 110 8 A acc.length m (cZt acc)] H->
   ZN.l2 (fun v H'=>∃ M,lZx b p f n w r v M/\Hw.Sep M H') (t+1) (Io b) A acc.length m (n:Int) (i:Int) H
 |0,i,d,acc,A,m,H,hi,hok,hrd,hacc,hm,hr,hs=>by
  unfold ZN.l2;refine Zg (by omega) ?_;have hr:r=(0,d,acc):=hr;have h12:=hr12 (by rw[hr]);rw[hr]at h12;refine(pZB A acc.length m h12 acc rfl).use hs [2] rfl rfl ?_;rintro _ _ H1 ⟨rfl,rfl⟩ hs;rw[hr];exact⟨_,⟨A,m,rfl,rfl,hm⟩,hs.re [1,2,0] rfl⟩
 |t+1,i,d,acc,A,m,H,hi,hok,hrd,hacc,hm,hr,hs=>by
  unfold ZN.l2;refine Zm (by omega) ?_;have hj5:∀(H:Hp) (v:Value) (M:List As),uZ7 p d ((f+i:Nat):Int) v M->Hw.Sep (M++[pts b (ZZ p f n w),Own 110 8 A acc.length m (cZt acc)]) H->
    bZo v fun l1=>Zl l1 fun v5 l2=>DSl v5 fun A2 n2 m2=>Zl l2 fun v6 l3=>DI .i64 v6 fun x5=>ZV l3 (ZN.j5 (fun v H'=>∃ M,lZx b p f n w r v M/\Hw.Sep M H') (ZN.l2 (fun v H'=>∃ M,lZx b p f n w r v M/\Hw.Sep M H') (t+1)) (Io b) A acc.length m (i:Int) A2 n2 m2 x5 (n:Int) (i:Int) H):=by
   rintro H _ _ (⟨hc,rfl,rfl⟩|⟨hc,hb,rfl,rfl⟩|⟨hc,hb,b2,c,mm,rfl,hcc,rfl⟩) hs
   ·simp only[HV];unfold ZN.j5;refine Zz hc ?_;unfold cZ3 at hr;rw[if_pos hc]at hr;rw[hr];have hs:=qZ5 hs;exact⟨_,⟨none,0,rfl,rfl,Nat.le_refl _⟩,hs.re [0,1,3] rfl⟩
   ·simp only[HV];unfold ZN.j5;refine Zz (by decide) ?_;unfold cZ3 at hr;rw[if_neg (by omega),if_pos hb]at hr;rw[hr];have hs:=qZ5 hs;exact⟨_,⟨none,0,rfl,rfl,Nat.le_refl _⟩,hs.re [0,1,3] rfl⟩
   ·simp only[HV];unfold ZN.j5;refine Zr rfl ?_;have hs:Hw.Sep [Dk p (D.red d),pts b2 (.row (Zn (d.now ((f+i:Nat):Int))) 5 mm),pts b (ZZ p f n w),Own 110 8 A acc.length m (cZt acc)] H:=hs;unfold cZ3 at hr;rw[if_neg (by omega),if_neg (by simp[hb])]at hr;have hnow:=hok.now ((f+i:Nat):Int);have hsz:=hok.size;generalize d.now ((f+i:Nat):Int)=bs at*;have hcell:Cells H (Io b2) (Zn bs):=by
     have:=Cells.row (hs.get 1 (b:=b2) (o:=.row (Zn bs) 5 mm) rfl) 0 d.size;rw[List.drop_zero,List.take_of_length_le (by rw[ZO];omega)]at this;exact this
    refine Za.use (iZB (Io b2) d.size c bs hnow.symm hcc (by omega) (fun _=>hsz.1) H hcell) ?_;simp only[HV];have hg:=rZo (bs:=bs);have hst:fZl f n bs i=if(aZ8 bs).2=0/\aZX f n (aZ8 bs).1.s=f+i then [(aZ8 bs).1]else []:=rfl
    generalize aZ8 bs=tv at*;obtain⟨q,e⟩:=tv;simp only at hg hst;refine hs.nw fun b3 H hs=>?_
    refine hs.stw 4 (y:=q.c) rfl rfl rfl (fZj q) fun H hs=>?_;have hs:Hw.Sep [Dk p (D.red d),pts b2 (.row (Zn bs) 5 mm),pts b (ZZ p f n w),Own 110 8 A acc.length m (cZt acc),pts b3 (Is q.c 110)] H:=hs;have hred:(D.red d).rd=d.rd+1:=rfl;have next:∀ H,fZl f n bs i=[]->Hw.Sep [Dk p (D.red d),pts b (ZZ p f n w),Own 110 8 A acc.length m (cZt acc)] H->
      ZN.l2 (fun v H'=>∃ M,lZx b p f n w r v M/\Hw.Sep M H') (t+1) (Io b) A acc.length m (n:Int) (i64.wrap ((i:Int)+1)) H:=fun H h0 hs=>by
     rw[ZM (x:=(i:Int)+1)];rw[h0,List.append_nil]at hr;exact jZo b p f n w hn hfn r hr12 t (i+1) (D.red d) acc A m H (by omega) (Ok.red hok) (by rw[hred];omega) (by omega) hm hr hs
    by_cases he:e=0
    ·have hgood:=hg he;obtain⟨s1,s2,_⟩:=hgood;refine Zt he ?_;refine hs.ldf 4 rfl rfl ?_;simp only[HV];refine ZS.use (qZt hs 2 rfl (by omega) hn (by omega) q.s s1 (by omega)) ?_;simp only[HV]
     try simp only[HS]
     refine hs.ld 2 rfl rfl ?_;simp only[HV];rw[ZM (x:=(f:Int)+(i:Int))];by_cases hsl:aZX f n q.s=f+i
     ·refine Zt (by omega) ?_;rw[if_pos ⟨he,hsl⟩]at hst;refine hs.ldw 4 rfl rfl ?_;unfold R.c;simp only[HV];refine rZR (x:=fun b=>.slice (Io b) 1 1) ?_;refine hs.appS 3 rfl tZY rfl (by omega) (by omega) rfl rfl (by omega) (by omega) fun A' m' H hs hcap=>?_
      have hm':=hcap _ _ _ rfl;simp only[HV];rw[ZM (x:=(i:Int)+1)];rw[hst]at hr;have hlen:(acc++[q]).length=acc.length+1:=by simp
      have ih:=jZo b p f n w hn hfn r hr12 t (i+1) (D.red d) (acc++[q]) A' m' H (by omega) (Ok.red hok) (by rw[hred];omega) (by omega) (by rw[hlen];exact hm') hr;rw[hlen]at ih;refine ih ?_;have e1:cZt (acc++[q])=cZt acc++q.c.toList:=by simp[cZt]
      rw[e1];exact hs.re [0,2,3] rfl
     ·refine Zu (by omega) ?_;rw[if_neg (fun h=>hsl h.2)]at hst;exact next H hst (hs.re [0,2,3] rfl)
    ·refine Zu he ?_;rw[if_neg (fun h=>he h.1)]at hst;exact next H hst (hs.re [0,2,3] rfl)
  try simp only[HS]
  have hw:i64.wrap ((f:Int)+(i:Int))=((f+i:Nat):Int):=by rw[ZM];omega
  have hR:=jZ6 (p:=p) (d:=d) hok (by omega) ((f+i:Nat):Int);refine⟨?_,?_⟩
  ·refine hs.ld 1 rfl rfl ?_;simp only[HV]
   try simp only[HS]
   refine hs.ld 1 rfl rfl ?_;simp only[HV];rw[hw];refine hR.use hs [0] rfl rfl ?_;intro v M H1 hq hs;exact hj5 H1 v M hq hs
  ·refine hs.ld 1 rfl rfl ?_;simp only[HV]
   try simp only[HS]
   refine hs.ld 1 rfl rfl ?_;simp only[HV];rw[hw];refine hR.use hs [0] rfl rfl ?_;intro v M H1 hq hs;exact hj5 H1 v M hq hs
theorem tZd (f n:Nat)(bs:List UInt8)(i:Nat):(fZl f n bs i).length<=1:=by unfold fZl;split<;>simp
theorem jZO (f n:Nat):∀(k i:Nat) (d:D) (acc:List R),(cZ3 f n k i d acc).2.2.length<=acc.length+k
 |0,_,_,_=>Nat.le_refl _
 |k+1,i,d,acc=>by
  unfold cZ3;split
  ·exact Nat.zero_le _
  ·split
   ·exact Nat.zero_le _
   ·have h1:=jZO f n k (i+1) (D.red d) (acc++fZl f n (d.now ((f+i:Nat):Int)) i);have h2:=tZd f n (d.now ((f+i:Nat):Int)) i;rw[List.length_append]at h1;omega
theorem nZC (f n:Nat):∀(k i:Nat) (d:D) (acc:List R),(cZ3 f n k i d acc).1≠0->(cZ3 f n k i d acc).2.2=[]
 |0,_,_,_,h=>absurd rfl h
 |k+1,i,d,acc,h=>by
  unfold cZ3 at h⊢;by_cases h1:d.chk ((f+i:Nat):Int)≠0
  ·rw[if_pos h1]
  ·rw[if_neg h1]at h⊢;by_cases h2:d.burns=true
   ·rw[if_pos h2]
   ·rw[if_neg h2]at h⊢;exact nZC f n k (i+1) _ _ h
def aZY (f n:Nat)(d:D):Int×D×List R:=cZ3 f n n 0 d []
theorem vZr {b p f n:Nat}{w:Int}{d:D}(hn:1<=n)(hfn:f+n<=1048576)(hok:Ok d)(hrd:d.rd+n<=1000000)(h12:(aZY f n d).1=0->(aZY f n d).2.2.length<=12):
  Tr prog 98 #[V b] [Dk p d,pts b (ZZ p f n w)] (lZx b p f n w (aZY f n d)):=fun H hs=>by
 apply ZN.ok;unfold ZN
 try simp only[HS]
 refine hs.ld 1 rfl rfl ?_;simp only[HV];exact⟨n+1,jZo b p f n w hn hfn _ h12 n 0 d [] none 0 H (by omega) hok hrd (Nat.le_refl _) (Nat.le_refl _) rfl (qZ5 hs)⟩
def eZA (r:Int×D×List R):Option R:=(cZc r.2.2 (r.2.2.length-1)).getLast?
def uZV (b p f n:Nat)(w:Int)(r:Int×D×List R)(v:Value)(M:List As):Prop:=
 v= .tuple #[.agg ((eZA r).getD bZl).c,.bool (eZA r).isSome,I r.1]/\M=[Dk p r.2.1,pts b (ZZ p f n w)]
theorem pZR {b p f n:Nat}{w:Int}{d:D}(hn:1<=n)(hfn:f+n<=1048576)(hok:Ok d)(hrd:d.rd+n<=1000000)(h12:(aZY f n d).1=0->(aZY f n d).2.2.length<=12):
  Tr prog 82 #[V b] [Dk p d,pts b (ZZ p f n w)] (uZV b p f n w (aZY f n d)):=fun H hs=>by
 apply bZW.ok;unfold bZW bZW.q1;refine hs.nw fun b1 H hs=>?_
 have herr:=nZC f n n 0 d [];have hlen:=eZZ ((aZY f n d).2.2.length-1) (aZY f n d).2.2;refine(vZr (b:=b) (p:=p) (w:=w) hn hfn hok hrd h12).use hs [0,1] rfl rfl ?_;rintro _ _ H1 ⟨A,m,rfl,rfl,_⟩ hs;change (aZY f n d).1≠0->(aZY f n d).2.2=[]at herr;unfold uZV eZA;generalize aZY f n d=r at*;obtain⟨e,d',l⟩:=r;simp only at hlen herr h12 hs⊢;simp only[HV];have hs:Hw.Sep [Dk p d',pts b (ZZ p f n w),Own 110 8 A l.length m (cZt (cZc l (l.length-1))),pts b1 (Is #[U 0,I 0,I 0,I 0,I 0,Ii 0,Ii 0,Ii 0] 110)] H1:=hs;have zero:l=[]->∀ H,Hw.Sep [Dk p d',pts b (ZZ p f n w),Own 110 8 A l.length m (cZt (cZc l (l.length-1))),pts b1 (Is #[U 0,I 0,I 0,I 0,I 0,Ii 0,Ii 0,Ii 0] 110)] H->
   StA H (O b1) #[U 0,I 0,I 0,I 0,I 0,Ii 0,Ii 0,Ii 0] 8 fun H3=>LdA H3 (O b1) 8 fun l5=>∃ M,((Value.tuple #[.agg l5.toArray,.bool false,I e])= .tuple #[.agg (((cZc l (l.length-1)).getLast?).getD bZl).c,.bool ((cZc l (l.length-1)).getLast?).isSome,I e]/\M=[Dk p d',pts b (ZZ p f n w)])/\Hw.Sep M H3:=fun h0 H hs=>by
  subst h0;refine hs.stw 3 rfl rfl rfl rfl fun H hs=>hs.ldw 3 rfl rfl ?_
  exact⟨_,⟨rfl,rfl⟩,hs.re [0,1] rfl⟩
 by_cases he:e≠0
 ·refine Zz he ?_;exact zero (herr he) _ hs
 ·have he0:e=0:=by omega
  refine Zr he0 ?_;by_cases hl:l=[]
  ·refine Zt (by rw[hl];rfl) ?_;exact zero hl _ hs
  ·have hp:0<l.length:=List.length_pos_iff.2 hl;refine Zu (by omega) ?_;have ei:i64.wrap ((l.length:Int)-1)=((l.length-1:Nat):Int):=by
    have h12':=h12 he0;rw[ZM];omega
   rw[ei];have hlt:l.length-1<(cZc l (l.length-1)).length:=by omega
   refine(hs.own 2 rfl).rdA rfl (by omega) (hZ2 _ (l.length-1) hlt) ?_;rw[Array.toArray_toList];refine hs.stw 3 rfl rfl rfl (fZj _) fun H hs=>hs.ldw 3 rfl rfl ?_
   rw[Array.toArray_toList];have hgl:(cZc l (l.length-1)).getLast? =some (cZc l (l.length-1))[l.length-1]:=by
    rw[List.getLast?_eq_getElem?,hlen,List.getElem?_eq_getElem hlt]
   rw[hgl,he0];exact⟨_,⟨rfl,rfl⟩,hs.re [0,1] rfl⟩
end Rng
namespace Rec
open Go Go.Hw Go.Form Go.Crc W FormP
theorem oZp (r:R)(x:Int)(h:¬(r.good/\secB x=true))(H:Hp):Za prog 241 #[.agg r.c,I x] H (RetE (.tuple #[.slice none 0 0,I 1]) H):=Za.ret (by
 apply eZg.ok;unfold eZg;refine(Sep.start H).nw fun b1 H1 hs=>?_
 have hs:Sep [own H,pts b1 (bZI r)] H1:=hs;refine hs.ldw 1 rfl rfl ?_;refine Za.use (bZ2 r H1) ?_;simp only[HV];by_cases hg:r.good
 ·rw[decide_eq_true hg];refine aZe rfl ?_;refine Za.use (iZq x H1) ?_;rw[show secB x=false by simpa using fun g=>h ⟨hg,g⟩];simp only[HV];exact hs.fin 0 rfl _
 ·rw[decide_eq_false hg];exact aZE rfl (hs.fin 0 rfl _))
theorem kZg (r:R){size:Nat}(h32:32<=size):setAt (aZH [Value.int .u8 0] size) 0 (Zn (Form.form r.w4))=Zn (r.form size):=by
 rw[bZC];unfold setAt R.form;rw[List.take_zero,List.nil_append,Nat.zero_add,ZO,kZb,List.drop_replicate];unfold Zn;rw[List.map_append,List.map_replicate];rfl
end Rec
namespace Rng
open Go Go.Hw W Rec Srt Dsk
theorem pZe (f n:Nat):∀(k i:Nat) (d:D) (acc:List R),Ok d->Ok (cZ3 f n k i d acc).2.1/\(cZ3 f n k i d acc).2.1.wr=d.wr/\(cZ3 f n k i d acc).2.1.sy=d.sy/\(cZ3 f n k i d acc).2.1.size=d.size/\(cZ3 f n k i d acc).2.1.sec=d.sec
 |0,_,d,_,h=>⟨h,rfl,rfl,rfl,rfl⟩
 |k+1,i,d,acc,h=>by
  have hb:=cZf d;unfold cZ3;split
  ·exact⟨h,rfl,rfl,rfl,rfl⟩
  ·split
   ·exact⟨h.burnt,hb.2.1,hb.2.2.1,hb.2.2.2.1,hb.2.2.2.2.1⟩
   ·obtain⟨h1,h2,h3,h4,h5⟩:=pZe f n k (i+1) (D.red d) (acc++fZl f n (d.now ((f+i:Nat):Int)) i) (Ok.red h);exact⟨h1,h2.trans hb.2.1,h3.trans hb.2.2.1,h4.trans hb.2.2.2.1,h5.trans hb.2.2.2.2.1⟩
def mZF (f n:Nat)(d:D)(r:R):Int×D:=
 if d.writeE (aZX f n r.s) d.size≠0 then(d.writeE (aZX f n r.s) d.size,d.writeD (aZX f n r.s) (r.form d.size))
 else((d.writeD (aZX f n r.s) (r.form d.size)).syncE,(d.writeD (aZX f n r.s) (r.form d.size)).syncD)
def cZQ (q:Option R)(r:R):Bool:=match q with|some q=>decide (after q r)|none=>decide (r.s=1∧r.kd=1)
def fZo (f n:Nat)(d:D)(r:R):Int×D:=
 if ¬r.good then(10,d)else if(aZY f n d).1≠0 then((aZY f n d).1,(aZY f n d).2.1)
 else if cZQ (eZA (aZY f n d)) r=false then(5,(aZY f n d).2.1)else mZF f n (aZY f n d).2.1 r
def iZW (b p f n:Nat)(w:Int)(r:Int×D)(v:Value)(M:List As):Prop:=v= I r.1/\M=[Dk p r.2,pts b (ZZ p f n w)]
theorem xZL {b p f n:Nat}{w:Int}(hn:1<=n)(hfn:f+n<=1048576){d:D}(hok:Ok d)(hw:d.wr<=1000000/\d.sy<=1000000)(r:R)(hg:r.good)(b1 b2 mm:Nat)(H:Hp)
  (hs:Hw.Sep [Dk p d,pts b (ZZ p f n w),pts b1 (bZI r),pts b2 (.row (Zn (r.form d.size)) 5 mm)] H):
  ZK.j9 (fun v H'=>∃ M,iZW b p f n w (mZF f n d r) v M/\Hw.Sep M H') (Io b) (O b1) (Io b2) d.size d.size H:=by
 unfold ZK.j9;obtain⟨s1,s2,_⟩:=hg;have hsz:=hok.size
 try simp only[HS]
 refine hs.ld 1 rfl rfl ?_;simp only[HV];refine hs.ld 2 rfl rfl ?_;simp only[HV];refine ZS.use (qZt hs 1 rfl (by omega) hn (by omega) r.s s1 (by omega)) ?_;simp only[HV];have hl:=jZL r hsz.1;refine(eZu (p:=p) (d:=d) hok (by omega) (aZX f n r.s:Int) (Io b2) d.size d.size (r.form d.size) hl.symm (pts b2 (.row (Zn (r.form d.size)) 5 mm)) (fun H h=>?_)).use hs [0,3] rfl rfl ?_
 ·have:=Cells.row h 0 d.size;rw[List.drop_zero,List.take_of_length_le (by rw[ZO];omega)]at this;exact this
 rintro _ _ H1 ⟨rfl,rfl⟩ hs;have hs:Hw.Sep [Dk p (d.writeD (aZX f n r.s) (r.form d.size)),pts b2 (.row (Zn (r.form d.size)) 5 mm),pts b (ZZ p f n w),pts b1 (bZI r)] H1:=hs;unfold iZW mZF;by_cases he:d.writeE (aZX f n r.s) d.size≠0
 ·rw[if_pos he];simp only[HV];refine Zz he ?_;exact⟨_,⟨by first|trivial|rfl,rfl⟩,hs.re [0,2] rfl⟩
 ·rw[if_neg he];simp only[HV];refine Zr (by omega) ?_
  try simp only[HS]
  refine hs.ld 2 rfl rfl ?_;simp only[HV];have hsy:(d.writeD (aZX f n r.s) (r.form d.size)).sy=d.sy:=by
   have hbr:=cZf d;unfold D.writeD;split
   ·rfl
   ·split
    ·rfl
    ·split
     ·exact hbr.2.2.1
     ·exact hbr.2.2.1
  refine(hZK (p:=p) (d:=d.writeD (aZX f n r.s) (r.form d.size)) (Ok.writeD hok _ _) (by rw[hsy];omega)).use hs [0] rfl rfl ?_;rintro _ _ H2 ⟨rfl,rfl⟩ hs;simp only[HV];exact⟨_,⟨by first|trivial|rfl,rfl⟩,hs.re [0,2] rfl⟩
theorem xZJ {K:VK}{p4:OA}{a4:Addr}{A:OA}{n m:Nat}{x:Int}{H:Hp}(hx:x≠0)(k:K (I 10) H):ZK.j2 K p4 a4 A n m x H:=by
 unfold ZK.j2;exact Zz hx k
theorem xZK {b p f n:Nat}{w:Int}(hn:1<=n)(hfn:f+n<=1048576){d:D}(hok:Ok d)(hw:d.wr<=1000000/\d.sy<=1000000)(hrd:d.rd+n<=1000000)(h12:(aZY f n d).1=0->(aZY f n d).2.2.length<=12)(r:R)(hg:r.good)(b1 b2 mm:Nat)(H:Hp)
  (hs:Hw.Sep [Dk p d,pts b (ZZ p f n w),pts b1 (bZI r),pts b2 (.row (Zn (r.form d.size)) 5 mm)] H):
  ZK.j2 (fun v H'=>∃ M,iZW b p f n w (fZo f n d r) v M/\Hw.Sep M H') (Io b) (O b1) (Io b2) d.size d.size 0 H:=by
 unfold ZK.j2;refine Zr rfl ?_;refine(pZR (b:=b) (p:=p) (w:=w) hn hfn hok hrd h12).use hs [0,1] rfl rfl ?_;rintro _ _ H1 ⟨rfl,rfl⟩ hs;obtain⟨hok',hwr',hsy',hsz',_⟩:=pZe f n n 0 d [] hok;have hok':Ok (aZY f n d).2.1:=hok';have hwr':(aZY f n d).2.1.wr=d.wr:=hwr';have hsy':(aZY f n d).2.1.sy=d.sy:=hsy';have hsz':(aZY f n d).2.1.size=d.size:=hsz';have hj9:=fun(b1 b2 mm:Nat) (H:Hp) hs=>xZL (b:=b) (p:=p) (w:=w) hn hfn hok' (by rw[hwr',hsy'];exact hw) r hg b1 b2 mm H hs
 have hap:fZo f n d r=if(aZY f n d).1≠0 then((aZY f n d).1,(aZY f n d).2.1)else if cZQ (eZA (aZY f n d)) r=false then(5,(aZY f n d).2.1)else mZF f n (aZY f n d).2.1 r:=by
  unfold fZo;rw[if_neg (fun h=>h hg)]
 rw[hap];rw[hsz']at hj9;generalize eZA (aZY f n d)=lq at*;generalize aZY f n d=sc at*;obtain⟨e,d',l⟩:=sc;simp only at hj9 hs hok' hwr' hsy' hsz' h12⊢;simp only[HV];refine hs.nw fun b3 H hs=>?_
 refine hs.stw 4 (y:=(lq.getD bZl).c) rfl rfl rfl (fZj _) fun H hs=>?_;have hs:Hw.Sep [Dk p d',pts b (ZZ p f n w),pts b1 (bZI r),pts b2 (.row (Zn (r.form d.size)) 5 mm),pts b3 (Is (lq.getD bZl).c 110)] H:=hs;by_cases he:e≠0
 ·refine Zz he ?_;rw[if_pos he];exact⟨_,⟨rfl,rfl⟩,hs.re [0,1] rfl⟩
 refine Zr (by omega) ?_;rw[if_neg he];cases lq with
 |some q=>
  refine aZE rfl ?_;refine hs.ldw 4 rfl rfl ?_;refine hs.ldw 2 rfl rfl ?_;rw[Array.toArray_toList,Array.toArray_toList];refine Za.use (tZt q r H) ?_;simp only[HV];by_cases ha:after q r
  ·rw[decide_eq_true ha];refine aZe rfl (aZe rfl ?_);rw[if_neg (show ¬cZQ (some q) r=false by show ¬(decide (after q r)=false);rw[decide_eq_true ha];decide)];exact hj9 b1 b2 mm H (hs.re [0,1,2,3] rfl)
  ·rw[decide_eq_false ha];refine aZE rfl ?_;rw[if_pos (show cZQ (some q) r=false from decide_eq_false ha)];exact⟨_,⟨rfl,rfl⟩,hs.re [0,1] rfl⟩
 |none=>
  refine aZe rfl (aZE rfl ?_);refine hs.ldf 2 rfl rfl ?_;simp only[HV];by_cases h1:r.s=1
  ·refine Zr (by omega) ?_;refine hs.ldf 2 rfl rfl ?_;simp only[HV];by_cases h2:r.kd=1
   ·refine Zr h2 ?_;rw[if_neg (show ¬cZQ none r=false by show ¬(decide (r.s=1/\r.kd=1)=false);rw[decide_eq_true ⟨h1,h2⟩];decide)];exact hj9 b1 b2 mm H (hs.re [0,1,2,3] rfl)
   ·refine Zz h2 ?_;rw[if_pos (show cZQ none r=false from decide_eq_false fun h=>h2 h.2)];exact⟨_,⟨rfl,rfl⟩,hs.re [0,1] rfl⟩
  ·refine Zz (by omega) ?_;rw[if_pos (show cZQ none r=false from decide_eq_false fun h=>h1 h.1)];exact⟨_,⟨rfl,rfl⟩,hs.re [0,1] rfl⟩
theorem rZC {b p f n:Nat}{w:Int}(hn:1<=n)(hfn:f+n<=1048576){d:D}(hok:Ok d)(hw:d.wr<=1000000/\d.sy<=1000000)(hrd:d.rd+n<=1000000)(h12:(aZY f n d).1=0->(aZY f n d).2.2.length<=12)(hsec:secB (d.size:Int)=true)(r:R)(hu:r.u32):
  Tr prog 170 #[V b,.agg r.c] [Dk p d,pts b (ZZ p f n w)] (iZW b p f n w (fZo f n d r)):=fun H hs=>by
 apply ZK.ok;unfold ZK ZK.q1;have hsz:=hok.size;refine hs.nw fun b1 H hs=>?_
 have hs:Hw.Sep [Dk p d,pts b (ZZ p f n w),pts b1 (bZI r)] H:=hs;have put:Za prog 241 #[.agg r.c,I (d.size:Int)] H fun v3 H3=>bZo v3 fun l2=>Zl l2 fun v4 l3=>DSl v4 fun A1 n1 m1=>Zl l3 fun v5 l4=>DI .i64 v5 fun x2=>ZV l4 (ZK.j2 (fun v H'=>∃ M,iZW b p f n w (fZo f n d r) v M/\Hw.Sep M H') (Io b) (O b1) A1 n1 m1 x2 H3):=by
  by_cases hg:r.good
  ·have hneed:(Lay.gZP 0 (d.size:Int)).2=0:=of_decide_eq_true hsec;refine(wZP r hg hu d.size hsz.1 hsz.2 hneed).use hs [] rfl rfl ?_;rintro _ _ H1 ⟨b2,rfl,rfl⟩ hs;rw[kZg r hsz.1]at hs;simp only[HV];have hs:Hw.Sep [pts b2 (.row (Zn (r.form d.size)) 5 (d.size*1)),Dk p d,pts b (ZZ p f n w),pts b1 (bZI r)] H1:=hs;exact xZK hn hfn hok hw hrd h12 r hg b1 b2 _ H1 (hs.re [1,2,3,0] rfl)
  ·refine Za.use (oZp r (d.size:Int) (fun h=>hg h.1) H) ?_;simp only[HV];refine xZJ (by decide) ?_;have:fZo f n d r=(10,d):=by unfold fZo;rw[if_pos hg]
   rw[this];exact⟨_,⟨rfl,rfl⟩,hs.re [0,1] rfl⟩
 have lda:∀{K:List Value->Prop},K r.c.toList->LdA H (O b1) 8 K:=fun k=>hs.ldw 2 rfl rfl k
 have ldd:∀{K:Value->Prop},K (V p)->Ld H ((O b).add 3) K:=fun k=>hs.ldf 1 rfl rfl k
 have hS:=hZP hs 0 rfl;rw[aZ0];refine⟨lda (ldd ?_),ldd ?_⟩
 ·simp only[HV];refine Za.use hS ?_;simp only[HV];exact put
 ·simp only[HV];refine⟨lda ?_,?_⟩
  ·refine Za.use hS ?_;simp only[HV];exact put
  ·refine Za.use hS ?_;simp only[HV];refine lda ?_;rw[Array.toArray_toList];exact put
def iZ2 (f:Nat):Nat->Nat->D->Int×D
 |0,_,d=>(d.syncE,d.syncD)
 |k+1,i,d=>if d.writeE ((f+i:Nat):Int) d.size≠0 then(d.writeE ((f+i:Nat):Int) d.size,d.writeD ((f+i:Nat):Int) (List.replicate d.size 0))else iZ2 f k (i+1) (d.writeD ((f+i:Nat):Int) (List.replicate d.size 0))
theorem nZM (d:D)(i:Int)(bs:List UInt8):(d.writeD i bs).sy=d.sy/\(d.writeD i bs).wr<=d.wr+1/\(d.writeD i bs).size=d.size:=by
 have hbr:=cZf d;unfold D.writeD;split
 ·exact⟨rfl,by omega,rfl⟩
 ·split
  ·exact⟨rfl,by omega,rfl⟩
  ·split
   ·exact⟨hbr.2.2.1,by omega,hbr.2.2.2.1⟩
   ·exact⟨hbr.2.2.1,Nat.le_refl _,hbr.2.2.2.1⟩
theorem fZn (n:Nat):aZH [Value.int .u8 0] n=Zn (List.replicate n 0):=by
 rw[bZC];simp[Zn]
theorem lZk {b p f n:Nat}{w:Int}(hfn:f+n<=1048576)(r:Int×D):∀(t i:Nat) (d:D) (H:Hp),i+t=n->Ok d->d.wr+t<=1000000->d.sy<=1000000->r=iZ2 f t i d->Hw.Sep [Dk p d,pts b (ZZ p f n w)] H->
  ZP.l2 (fun v H'=>∃ M,iZW b p f n w r v M/\Hw.Sep M H') (t+1) (Io b) (n:Int) (i:Int) H
 |0,i,d,H,hi,hok,hwr,hsy,hr,hs=>by
  unfold ZP.l2 ZP.l2.q1;refine Zg (by omega) ?_
  try simp only[HS]
  refine hs.ld 1 rfl rfl ?_;simp only[HV]
  try simp only[HS]
  refine(hZK (p:=p) (d:=d) hok (by omega)).use hs [0] rfl rfl ?_;rintro _ _ H1 ⟨rfl,rfl⟩ hs;have hr:r=(d.syncE,d.syncD):=hr;rw[hr];simp only[HV];exact⟨_,⟨rfl,rfl⟩,hs⟩
 |t+1,i,d,H,hi,hok,hwr,hsy,hr,hs=>by
  unfold ZP.l2 ZP.l2.q1;refine Zm (by omega) ?_;have hsz:=hok.size;have hw:=nZM d ((f+i:Nat):Int) (List.replicate d.size 0);have hadd:i64.wrap ((f:Int)+(i:Int))=((f+i:Nat):Int):=by rw[ZM];omega
  have rest:∀ H1,Hw.Sep [Dk p (d.writeD ((f+i:Nat):Int) (List.replicate d.size 0)),pts b (ZZ p f n w)] H1->
    BIf (d.writeE ((f+i:Nat):Int) d.size !=0) (∃ M,iZW b p f n w r (I (d.writeE ((f+i:Nat):Int) d.size)) M/\Hw.Sep M H1) (ZP.l2 (fun v H'=>∃ M,iZW b p f n w r v M/\Hw.Sep M H') (t+1) (Io b) (n:Int) (i64.wrap ((i:Int)+1)) H1):=fun H1 hs=>by
   unfold iZ2 at hr;by_cases he:d.writeE ((f+i:Nat):Int) d.size≠0
   ·rw[if_pos he]at hr;refine Zz he ?_;rw[hr];exact⟨_,⟨rfl,rfl⟩,hs⟩
   ·rw[if_neg he]at hr;refine Zr (by omega) ?_;rw[ZM (x:=(i:Int)+1)];exact lZk hfn r t (i+1) _ H1 (by omega) (Ok.writeD hok _ _) (by omega) (by omega) hr hs
  try simp only[HS]
  refine hs.ld 1 rfl rfl ?_;simp only[HV]
  try simp only[HS]
  refine ZS.use (hZP hs 0 rfl) ?_;simp only[HV]
  try simp only[HS]
  refine⟨?_,?_,?_⟩
  ·refine hs.ld 1 rfl rfl ?_;simp only[HV]
   try simp only[HS]
   refine⟨?_,?_⟩
   ·refine hs.ld 1 rfl rfl ?_;simp only[HV]
    try simp only[HS]
    rw[hadd];refine hs.mks eZK rfl (n:=d.size) (m:=d.size) rfl rfl (Nat.le_refl _) (by omega) (by omega) fun b2 H hs=>?_
    simp only[HV];rw[fZn]at hs;have hs:Hw.Sep [Dk p d,pts b (ZZ p f n w),pts b2 (.row (Zn (List.replicate d.size 0)) 5 (d.size*1))] H:=hs;refine(eZu (p:=p) (d:=d) hok (by omega) ((f+i:Nat):Int) (Io b2) d.size d.size (List.replicate d.size 0) (by rw[List.length_replicate]) (pts b2 (.row (Zn (List.replicate d.size 0)) 5 (d.size*1))) (fun H h=>?_)).use hs [0,2] rfl rfl ?_
    ·have:=Cells.row h 0 d.size;rw[List.drop_zero,List.take_of_length_le (by rw[ZO,List.length_replicate];omega)]at this;exact this
    rintro _ _ H1 ⟨rfl,rfl⟩ hs;simp only[HV];exact rest _ (hs.re [0,2] rfl)
   ·refine hs.mks eZK rfl (n:=d.size) (m:=d.size) rfl rfl (Nat.le_refl _) (by omega) (by omega) fun b2 H hs=>?_
    simp only[HV];rw[fZn]at hs;have hs:Hw.Sep [Dk p d,pts b (ZZ p f n w),pts b2 (.row (Zn (List.replicate d.size 0)) 5 (d.size*1))] H:=hs;refine hs.ld 1 rfl rfl ?_;simp only[HV]
    try simp only[HS]
    rw[hadd];refine(eZu (p:=p) (d:=d) hok (by omega) ((f+i:Nat):Int) (Io b2) d.size d.size (List.replicate d.size 0) (by rw[List.length_replicate]) (pts b2 (.row (Zn (List.replicate d.size 0)) 5 (d.size*1))) (fun H h=>?_)).use hs [0,2] rfl rfl ?_
    ·have:=Cells.row h 0 d.size;rw[List.drop_zero,List.take_of_length_le (by rw[ZO,List.length_replicate];omega)]at this;exact this
    rintro _ _ H1 ⟨rfl,rfl⟩ hs;simp only[HV];exact rest _ (hs.re [0,2] rfl)
  ·refine hs.ld 1 rfl rfl ?_;simp only[HV]
   try simp only[HS]
   rw[hadd];refine⟨?_,?_⟩
   ·refine hs.ld 1 rfl rfl ?_;simp only[HV]
    try simp only[HS]
    refine hs.mks eZK rfl (n:=d.size) (m:=d.size) rfl rfl (Nat.le_refl _) (by omega) (by omega) fun b2 H hs=>?_
    simp only[HV];rw[fZn]at hs;have hs:Hw.Sep [Dk p d,pts b (ZZ p f n w),pts b2 (.row (Zn (List.replicate d.size 0)) 5 (d.size*1))] H:=hs;refine(eZu (p:=p) (d:=d) hok (by omega) ((f+i:Nat):Int) (Io b2) d.size d.size (List.replicate d.size 0) (by rw[List.length_replicate]) (pts b2 (.row (Zn (List.replicate d.size 0)) 5 (d.size*1))) (fun H h=>?_)).use hs [0,2] rfl rfl ?_
    ·have:=Cells.row h 0 d.size;rw[List.drop_zero,List.take_of_length_le (by rw[ZO,List.length_replicate];omega)]at this;exact this
    rintro _ _ H1 ⟨rfl,rfl⟩ hs;simp only[HV];exact rest _ (hs.re [0,2] rfl)
   ·refine hs.mks eZK rfl (n:=d.size) (m:=d.size) rfl rfl (Nat.le_refl _) (by omega) (by omega) fun b2 H hs=>?_
    simp only[HV];rw[fZn]at hs;have hs:Hw.Sep [Dk p d,pts b (ZZ p f n w),pts b2 (.row (Zn (List.replicate d.size 0)) 5 (d.size*1))] H:=hs;refine hs.ld 1 rfl rfl ?_;simp only[HV]
    try simp only[HS]
    refine(eZu (p:=p) (d:=d) hok (by omega) ((f+i:Nat):Int) (Io b2) d.size d.size (List.replicate d.size 0) (by rw[List.length_replicate]) (pts b2 (.row (Zn (List.replicate d.size 0)) 5 (d.size*1))) (fun H h=>?_)).use hs [0,2] rfl rfl ?_
    ·have:=Cells.row h 0 d.size;rw[List.drop_zero,List.take_of_length_le (by rw[ZO,List.length_replicate];omega)]at this;exact this
    rintro _ _ H1 ⟨rfl,rfl⟩ hs;simp only[HV];exact rest _ (hs.re [0,2] rfl)
  ·refine hs.mks eZK rfl (n:=d.size) (m:=d.size) rfl rfl (Nat.le_refl _) (by omega) (by omega) fun b2 H hs=>?_
   simp only[HV];rw[fZn]at hs;have hs:Hw.Sep [Dk p d,pts b (ZZ p f n w),pts b2 (.row (Zn (List.replicate d.size 0)) 5 (d.size*1))] H:=hs;refine hs.ld 1 rfl rfl ?_;simp only[HV]
   try simp only[HS]
   refine hs.ld 1 rfl rfl ?_;simp only[HV]
   try simp only[HS]
   rw[hadd];refine(eZu (p:=p) (d:=d) hok (by omega) ((f+i:Nat):Int) (Io b2) d.size d.size (List.replicate d.size 0) (by rw[List.length_replicate]) (pts b2 (.row (Zn (List.replicate d.size 0)) 5 (d.size*1))) (fun H h=>?_)).use hs [0,2] rfl rfl ?_
   ·have:=Cells.row h 0 d.size;rw[List.drop_zero,List.take_of_length_le (by rw[ZO,List.length_replicate];omega)]at this;exact this
   rintro _ _ H1 ⟨rfl,rfl⟩ hs;simp only[HV];exact rest _ (hs.re [0,2] rfl)
theorem tZA {b p f n:Nat}{w:Int}(hfn:f+n<=1048576){d:D}(hok:Ok d)(hwr:d.wr+n<=1000000)(hsy:d.sy<=1000000):
  Tr prog 128 #[V b] [Dk p d,pts b (ZZ p f n w)] (iZW b p f n w (iZ2 f n 0 d)):=fun H hs=>by
 apply ZP.ok;unfold ZP
 try simp only[HS]
 refine hs.ld 1 rfl rfl ?_;simp only[HV];exact⟨n+1,lZk hfn _ n 0 d H (by omega) hok hwr hsy rfl hs⟩
structure Act where
 k:Int
 i:Int
 r:R
 A:OA
 n:Nat
 m:Nat
 ks:List Bool
 A':OA
 n':Nat
 m':Nat
 b:List UInt8
structure OkA (H:Hp)(a:Act):Prop where
 n:a.n=a.ks.length
 ks:Cells H a.A (fZP a.ks)
 n':a.n'=a.b.length
 b:Cells H a.A' (Zn a.b)
 i: -9223372036854775808<=a.i/\a.i<=9223372036854775807
 wf:a.r.wf
theorem OkA.le {H H':Hp}{a:Act}(h:OkA H a)(k:H.le H'):OkA H' a:=⟨h.n,h.ks.le k,h.n',h.b.le k,h.i,h.wf⟩
def short (a:Act):Prop:=a.n<=20/\a.n'<=100
end Rng
namespace Rng
open Go Go.Hw Rec Srt Dsk
theorem jZC (r:Int×D×List R):eZA r=none↔r.2.2=[]:=by
 unfold eZA;rw[List.getLast?_eq_none_iff];constructor
 ·intro h;have:=eZZ (r.2.2.length-1) r.2.2;rw[h]at this;exact List.length_eq_zero_iff.1 this.symm
 ·intro h;rw[h];rfl
theorem nZj {r:Int×D×List R}{q:R}(h:eZA r=some q):q∈r.2.2/\∀ x∈r.2.2,x.s<=q.s:=by
 unfold eZA at h;have hp:=sZr r.2.2;have hs:=oZL r.2.2;generalize cZc r.2.2 (r.2.2.length-1)=l at*;obtain⟨p,rfl⟩:=List.getLast?_eq_some_iff.1 h;refine⟨hp.mem_iff.1 (by simp),fun x hx=>?_⟩;have hx2:=hp.mem_iff.2 hx;rw[List.pairwise_append]at hs;rcases List.mem_append.1 hx2 with h1|h1
 ·exact hs.2.2 x h1 q (by simp)
 ·have:x=q:=by simpa using h1
  rw[this];exact Nat.le_refl _
theorem tZ5 {r:Int×D×List R}{q:R}(hq:q∈r.2.2)(hm:∀ x∈r.2.2,x.s<=q.s)(hd:∀ x∈r.2.2,x.s=q.s->x=q):eZA r=some q:=by
 cases h:eZA r with
 |none=>rw[(jZC r).1 h]at hq;simp at hq
 |some y=>
  obtain⟨h1,h2⟩:=nZj h;have:=h2 q hq;have:=hm y h1;rw[hd y h1 (by omega)]
end Rng
namespace Eng
open Go Go.Hw Go.Form Dsk Str Rec Srt Rng
def stC (c:Cn)(f n:Nat):Nat->Nat->List R
 |0,_=>[]
 |k+1,i=>fZl f n (c ((f+i:Nat):Int)) i++stC c f n k (i+1)
def bZD (c:Cn)(k:Nat)(b:List UInt8):Cn:=fun i=>if i=(k:Int)then b else c i
def lastC (c:Cn)(f n:Nat):Option R:=eZA (0,(D.fresh 1 32),stC c f n n 0)
theorem oZN {d:D}{e:Int}{c:Cn}{f n:Nat}:eZA (e,d,stC c f n n 0)=lastC c f n:=rfl
theorem hZM (c:Cn)(f n:Nat)(x:R):∀ k i,x∈stC c f n k i↔∃ j,i<=j/\j<i+k/\x∈fZl f n (c ((f+j:Nat):Int)) j
 |0,i=>by
  constructor
  ·intro h;cases h
  ·rintro⟨j,h1,h2,_⟩;omega
 |k+1,i=>by
  show x∈_++_↔_
  rw[List.mem_append,hZM c f n x k (i+1)];constructor
  ·rintro(h|⟨j,h1,h2,h3⟩)
   ·exact⟨i,Nat.le_refl _,by omega,h⟩
   ·exact⟨j,by omega,by omega,h3⟩
  ·rintro⟨j,h1,h2,h3⟩;by_cases e:j=i
   ·subst e;exact .inl h3
   ·exact .inr ⟨j,by omega,by omega,h3⟩
theorem jZV {f n:Nat}{bs:List UInt8}{i:Nat}{x:R}:x∈fZl f n bs i↔(aZ8 bs).2=0/\aZX f n x.s=f+i/\x=(aZ8 bs).1:=by
 unfold fZl;split
 ·rename_i h
  rw[List.mem_singleton];constructor
  ·rintro rfl;exact⟨h.1,h.2,rfl⟩
  ·rintro⟨_,_,h3⟩;exact h3
 ·rename_i h
  constructor
  ·intro h';cases h'
  ·rintro⟨h1,h2,rfl⟩;exact absurd ⟨h1,h2⟩ h
theorem mZa {d:D}{c:Cn}(h:Clean d c)(f n:Nat):∀(k i t:Nat) (acc:List R),f+i+k<=d.sec->d.fuse=0∨t<d.fuse->
  ((d.fuse=0∨t+k<d.fuse)/\cZ3 f n k i (D.rdG d t) acc=(0,D.rdG d (t+k),acc++stC c f n k i))∨(∃ j,j<t+k/\d.fuse=j+1/\cZ3 f n k i (D.rdG d t) acc=(8,D.dead (D.rdG d j),[]))
 |0,i,t,acc,hf,hl=>.inl ⟨hl,by show(0,D.rdG d t,acc)=_;rw[Nat.add_zero];show _=(0,D.rdG d t,acc++[]);rw[List.append_nil]⟩
 |k+1,i,t,acc,hf,hl=>by
  have hc:=h.rdG t;have hchk:(D.rdG d t).chk ((f+i:Nat):Int)=0:=gZG hc.down (Int.natCast_nonneg _) (by show _<(d.sec:Int);omega);unfold cZ3;rw[if_neg (by rw[hchk];simp)];have hfu:(D.rdG d t).fuse=d.fuse-t:=rfl;by_cases hb:d.fuse-t=1
  ·rw[if_pos (by unfold D.burns;simp[hfu,hb]),eZW (by rw[hfu];exact hb)];exact .inr ⟨t,by omega,by omega,rfl⟩
  ·rw[if_neg (by unfold D.burns;simp[hfu,hb])];have e:D.red (D.rdG d t)=D.rdG d (t+1):=by
    unfold D.red;rw[eZw hc.down (by rw[hfu];exact hb)];exact pZa d t
   rw[e,hc.now];rcases mZa h f n k (i+1) (t+1) (acc++fZl f n (c ((f+i:Nat):Int)) i) (by omega) (by omega)with⟨h1,h2⟩|⟨j,h1,h2,h3⟩
   ·refine .inl ⟨by omega,?_⟩;rw[h2,List.append_assoc,show t+1+k=t+(k+1) by omega];rfl
   ·exact .inr ⟨j,by omega,h2,h3⟩
theorem kZL {d:D}{c:Cn}(h:Clean d c)(f n:Nat)(hf:f+n<=d.sec):
  ((d.fuse=0∨n<d.fuse)/\aZY f n d=(0,D.rdG d n,stC c f n n 0))∨(∃ j,j<n/\d.fuse=j+1/\aZY f n d=(8,D.dead (D.rdG d j),[])):=by
 rcases mZa h f n n 0 0 [] (by omega) (by omega)with⟨h1,h2⟩|⟨j,h1,h2,h3⟩
 ·rw[Nat.zero_add]at h1 h2;exact .inl ⟨h1,h2⟩
 ·rw[Nat.zero_add]at h1;exact .inr ⟨j,h1,h2,h3⟩
theorem Prog.wrote {S:Int->Prop}{d:D}(h:Ok d)(hl:d.down=false)(hf:d.fuse≠1){i:Int}(hi:S i){bs:List UInt8}(hb:bs.length=d.size):Prog S d (d.wrote i bs) 0 1:=by
 have hbt:=eZw hl hf;have hbr:=cZf d;unfold D.wrote;refine⟨⟨h.burnt.sec,h.burnt.size,h.burnt.big,h.burnt.per,h.burnt.safe,fun k b hk=>?_,h.burnt.fz⟩,?_,?_,by omega,hbr.2.2.2.2.1,hbr.2.2.2.1,hbr.2.2.2.2.2.1,hbr.2.2.1,fun k hk=>?_,fun k hk=>?_,hbr.1,rfl⟩
 ·have hk':cZJ d.cache i bs k=some b:=hk;show b.length=d.burnt.size
  rw[hbr.2.2.2.1];unfold cZJ at hk';split at hk'
  ·cases hk';exact hb
  ·exact h.cache k b hk'
 ·show d.burnt.down=false;rw[hbt];exact hl
 ·show d.burnt.fuse=_;rw[hbt]
 ·have hne:k≠i:=fun e=>hk (e▸hi)
  show cZJ d.cache i bs k=_
  unfold cZJ;rw[if_neg hne]
 ·have hne:k≠i:=fun e=>hk (e▸hi)
  show iZb d.tch i k=_
  unfold iZb;rw[if_neg hne]
def hZk (d:D)(k:Nat)(b:List UInt8):Int×D:=
 if d.writeE k d.size≠0 then(d.writeE k d.size,d.writeD k b)else((d.writeD k b).syncE,(d.writeD k b).syncD)
theorem jZJ {d:D}{c:Cn}(h:Clean d c)(k:Nat)(hk:k<d.sec)(b:List UInt8)(hb:b.length=d.size):
  ∃ d',(hZk d k b=(0,d')/\bZL d d' 0 1 1/\Clean d' (bZD c k b))∨(hZk d k b=(8,d')/\Cut d d' 2/\Left d' fun c'=>c'=c∨c'=bZD c k b):=by
 have hchk:d.chk (k:Int)=0:=gZG h.down (Int.natCast_nonneg _) (by omega);unfold hZk;by_cases hf:d.fuse=1
 ·have hbn:d.burns=true:=by unfold D.burns;simp[hf]
  have e1:d.writeE k d.size=8:=by unfold D.writeE;rw[if_neg (by rw[hchk];simp),if_neg (by simp),hbn];rfl
  have e2:d.writeD k b=D.dead d:=by unfold D.writeD;rw[if_neg (by rw[hchk];simp),if_neg (by simp[hb]),hbn,eZW hf];rfl
  rw[e1,e2,if_pos (by decide)];refine⟨_,.inr ⟨rfl,⟨Ok.dead h.ok,h.dom,rfl,rfl,rfl,rfl,?_,Nat.le_refl _,Nat.le_refl _,Nat.le_refl _,by omega,by omega⟩,fun c' hc=>.inl (funext fun i=>?_)⟩⟩
  ·show d.rd+d.wr+d.sy+1=_;omega
  ·rcases hc i with e|e
   ·exact e.trans (h.sat i)
   ·exact e.trans (h.now i)
 ·have hbn:d.burns=false:=by unfold D.burns;exact decide_eq_false hf
  have e1:d.writeE k d.size=0:=by unfold D.writeE;rw[if_neg (by rw[hchk];simp),if_neg (by simp),hbn];rfl
  have e2:d.writeD k b=d.wrote k b:=by unfold D.writeD;rw[if_neg (by rw[hchk];simp),if_neg (by simp[hb]),hbn];rfl
  rw[e1,e2,if_neg (by simp)];have p:=Prog.wrote (S:=fun i=>i=(k:Int)) h.ok h.down hf rfl hb;have hnow:(d.wrote k b).now=bZD c k b:=funext fun i=>by
   unfold bZD;by_cases hi:i=(k:Int)
   ·rw[if_pos hi];show((cZJ d.cache k b i)).getD _=b
    unfold cZJ;rw[if_pos hi];rfl
   ·rw[if_neg hi];exact(h.prog p i).2 hi
  rcases h.sync p (fun i hi=>⟨by omega,by omega⟩)with⟨s1,s2,s3⟩|⟨s1,s2,s3⟩
  ·rw[hnow]at s3;exact⟨_,.inl ⟨by rw[s1],s2,s3⟩⟩
  ·refine⟨_,.inr ⟨by rw[s1],s2,s3.mono fun c' hc=>?_⟩⟩;rw[hnow]at hc;by_cases hk':c' (k:Int)=c k
   ·left
    funext i
    by_cases hi:i=(k:Int)
    ·rw[hi];exact hk'
    ·exact hc.2 i hi
   ·right
    funext i
    by_cases hi:i=(k:Int)
    ·rw[hi];exact(hc.1 _).resolve_left hk'
    ·rw[hc.2 i hi];unfold bZD;rw[if_neg hi]
theorem hZ8 {f n s:Nat}(hn:1<=n:=by omega):f<=aZX f n s/\aZX f n s<f+n:=by
 have:=Nat.mod_lt (s-1) (show n>0 by omega);unfold aZX;omega
theorem rZ0 {d:D}{c:Cn}(h:Clean d c){f n:Nat}(hn:1<=n)(hf:f+n<=d.sec)(r:R):
  (¬r.good/\fZo f n d r=(10,d))∨
  (r.good/\∃ d',fZo f n d r=(8,d')/\Cut d d' n/\Left d' fun c'=>c'=c)∨
  (r.good/\cZQ (lastC c f n) r=false/\∃ d',fZo f n d r=(5,d')/\bZL d d' n 0 0/\Clean d' c)∨
  (r.good/\cZQ (lastC c f n) r=true/\∃ d',fZo f n d r=(8,d')/\Cut d d' (n+2)/\Left d' fun c'=>c'=c∨c'=bZD c (aZX f n r.s) (r.form d.size))∨
  (r.good/\cZQ (lastC c f n) r=true/\∃ d',fZo f n d r=(0,d')/\bZL d d' n 1 1/\Clean d' (bZD c (aZX f n r.s) (r.form d.size))):=by
 by_cases hg:r.good
 ·right;have e0:fZo f n d r=if(aZY f n d).1≠0 then((aZY f n d).1,(aZY f n d).2.1)else if cZQ (eZA (aZY f n d)) r=false then(5,(aZY f n d).2.1)else mZF f n (aZY f n d).2.1 r:=by
   unfold fZo;rw[if_neg (fun h=>h hg)]
  rcases kZL h f n hf with⟨h1,h2⟩|⟨j,h1,h2,h3⟩
  ·right;rw[h2,oZN,if_neg (by simp)]at e0;have hw:=bZL.rdG h1;have hc:=h.rdG n;cases hm:cZQ (lastC c f n) r with
   |false=>
    left;rw[if_pos hm]at e0;exact⟨hg,rfl,_,e0,hw,hc⟩
   |true=>
    right;rw[if_neg (by rw[hm];simp)]at e0;have hsl:=hZ8 (f:=f) (s:=r.s) hn;have hp:=jZJ hc (aZX f n r.s) (by show _<d.sec;omega) (r.form d.size) (jZL r h.ok.size.1);have e1:mZF f n (D.rdG d n) r=hZk (D.rdG d n) (aZX f n r.s) (r.form d.size):=rfl;rw[e1]at e0;obtain⟨d',⟨e2,h4,h5⟩|⟨e2,h4,h5⟩⟩:=hp
    ·exact .inr ⟨hg,rfl,d',e0.trans e2,by have:=hw.trans h4;simpa using this,h5⟩
    ·exact .inl ⟨hg,rfl,d',e0.trans e2,by have:=hw.cut h4;simpa using this,h5⟩
  ·left;rw[h3,if_pos (by show(8:Int)≠0;decide)]at e0;exact⟨hg,_,e0,Cut.rdG h h2 h1,Left.rdG h j⟩
 ·left;exact⟨hg,by unfold fZo;rw[if_pos hg]⟩
theorem tZ7 {c:Cn}{f n size:Nat}(hn:1<=n)(hsz:32<=size)(hsec:secB (size:Int)=true){r:R}(hg:r.good)(hu:r.u32)(hm:cZQ (lastC c f n) r=true):
  lastC (bZD c (aZX f n r.s) (r.form size)) f n=some r:=by
 have hsl:=hZ8 (f:=f) (s:=r.s) hn;have ht:=rZn r hg hu hsz hsec;have hstand:∀ j,j<n->∀ x,x∈fZl f n (bZD c (aZX f n r.s) (r.form size) ((f+j:Nat):Int)) j->x=r∨x∈stC c f n n 0:=fun j hj x hx=>by
  unfold bZD at hx;by_cases e:((f+j:Nat):Int)=(aZX f n r.s:Nat)
  ·rw[if_pos e,jZV,ht]at hx;exact .inl hx.2.2
  ·rw[if_neg e]at hx;exact .inr ((hZM c f n x n 0).2 ⟨j,Nat.zero_le _,by omega,hx⟩)
 have hless:∀ x∈stC c f n n 0,x.s<r.s:=fun x hx=>by
  unfold cZQ at hm;cases hq:lastC c f n with
  |none=>
   have e:stC c f n n 0=[]:=(jZC _).1 hq;rw[e]at hx;cases hx
  |some q=>
   rw[hq]at hm;have ha:after q r:=of_decide_eq_true hm;have:=(nZj hq).2 x hx;have:=ha.2.2.1;omega
 refine tZ5 (q:=r) ?_ (fun x hx=>?_) fun x hx e=>?_
 ·refine(hZM _ f n r n 0).2 ⟨aZX f n r.s-f,Nat.zero_le _,by omega,?_⟩;rw[show f+(aZX f n r.s-f)=aZX f n r.s by omega,jZV];unfold bZD;rw[if_pos rfl,ht];exact⟨rfl,by omega,rfl⟩
 ·obtain⟨j,_,h2,h3⟩:=(hZM _ f n x n 0).1 hx;rcases hstand j (by omega) x h3 with e|e
  ·rw[e];exact Nat.le_refl _
  ·exact Nat.le_of_lt (hless x e)
 ·obtain⟨j,_,h2,h3⟩:=(hZM _ f n x n 0).1 hx;rcases hstand j (by omega) x h3 with e'|e'
  ·exact e'
  ·have:=hless x e';omega
end Eng
namespace Fft
abbrev Zp :=Fin 18446744069414584321
def pw (x:Zp):Nat->Zp
 |0=>1
 |n+1=>pw x n*x
theorem eZ2 (x:Zp)(a:Nat):∀ b,pw x (a+b)=pw x a*pw x b
 |0=>by show pw x a=pw x a*1;grind
 |b+1=>by
  have ih:=eZ2 x a b;show pw x (a+b)*x=pw x a*(pw x b*x)
  grind
theorem gZv :∀ n,pw 1 n=1
 |0=>rfl
 |n+1=>by show pw 1 n*1=1;rw[gZv n];grind
theorem xZ8 (x:Zp):pw x 1=x:=by show 1*x=x;grind
theorem bZO (x:Zp)(a:Nat):∀ b,pw x (a*b)=pw (pw x a) b
 |0=>rfl
 |b+1=>by
  rw[Nat.mul_succ,eZ2,bZO x a b];rfl
theorem lZW (x y:Zp):∀ n,pw (x*y) n=pw x n*pw y n
 |0=>by show(1:Zp)=1*1;grind
 |n+1=>by
  have ih:=lZW x y n;show pw (x*y) n*(x*y)=pw x n*x*(pw y n*y)
  grind
def sm (f:Nat->Zp):Nat->Zp
 |0=>0
 |n+1=>sm f n+f n
theorem fZT {f g:Nat->Zp}:∀(n:Nat),(∀ i,i<n->f i=g i)->sm f n=sm g n
 |0,_=>rfl
 |n+1,h=>by
  show sm f n+f n=sm g n+g n
  rw[fZT n fun i hi=>h i (by omega),h n (by omega)]
theorem pZj (a:Zp)(f:Nat->Zp):∀ n,sm (fun i=>a*f i) n=a*sm f n
 |0=>by show(0:Zp)=a*0;grind
 |n+1=>by
  have ih:=pZj a f n;show sm (fun i=>a*f i) n+a*f n=a*(sm f n+f n)
  grind
theorem qZu (f g:Nat->Zp):∀ n,sm (fun i=>f i+g i) n=sm f n+sm g n
 |0=>by show(0:Zp)=0+0;grind
 |n+1=>by
  have ih:=qZu f g n;show sm (fun i=>f i+g i) n+(f n+g n)=(sm f n+f n)+(sm g n+g n)
  grind
theorem qZy :∀ n,sm (fun _=>0) n=0
 |0=>rfl
 |n+1=>by show sm (fun _=>0) n+0=0;rw[qZy n];grind
theorem sZ9 (f:Nat->Zp)(a:Nat):∀ b,sm f (a+b)=sm f a+sm (fun i=>f (a+i)) b
 |0=>by show sm f a=sm f a+0;grind
 |b+1=>by
  have ih:=sZ9 f a b;show sm f (a+b)+f (a+b)=sm f a+(sm (fun i=>f (a+i)) b+f (a+b))
  grind
theorem qZw (f:Nat->Zp)(c:Nat):∀ r,sm f (r*c)=sm (fun i=>sm (fun j=>f (i*c+j)) c) r
 |0=>by rw[Nat.zero_mul];rfl
 |r+1=>by
  rw[Nat.succ_mul,sZ9,qZw f c r];rfl
theorem qZx (f:Nat->Nat->Zp)(m:Nat):∀ n,sm (fun i=>sm (fun j=>f i j) m) n=sm (fun j=>sm (fun i=>f i j) n) m
 |0=>by
  show(0:Zp)=sm (fun j=>0) m
  rw[qZy]
 |n+1=>by
  show sm (fun i=>sm (fun j=>f i j) m) n+sm (fun j=>f n j) m=sm (fun j=>sm (fun i=>f i j) n+f n j) m
  rw[qZu,qZx f m n]
theorem qZv (f:Nat->Zp):∀ n,sm f (2*n)=sm (fun i=>f (2*i)) n+sm (fun i=>f (2*i+1)) n
 |0=>by show(0:Zp)=0+0;grind
 |n+1=>by
  have ih:=qZv f n;show sm f (2*n)+f (2*n)+f (2*n+1)=(sm (fun i=>f (2*i)) n+f (2*n))+(sm (fun i=>f (2*i+1)) n+f (2*n+1))
  grind
def dft (w:Zp)(n:Nat)(l:Nat->Zp)(j:Nat):Zp:=sm (fun i=>l i*pw w (i*j)) n
theorem iZi {w:Zp}{n:Nat}{l l':Nat->Zp}(h:∀ i,i<n->l i=l' i)(j:Nat):dft w n l j=dft w n l' j:=
 fZT n fun i hi=>by rw[h i hi]
theorem mZ5 (w:Zp)(m:Nat)(l:Nat->Zp)(j:Nat):dft w (2*m) l j=dft (w*w) m (fun i=>l (2*i)) j+pw w j*dft (w*w) m (fun i=>l (2*i+1)) j:=by
 have hww:w*w=pw w 2:=by show w*w=1*w*w;grind
 have hp:∀ i,pw w (2*i*j)=pw (w*w) (i*j):=fun i=>by rw[hww,←bZO,Nat.mul_assoc]
 unfold dft;rw[qZv,←pZj];congr 1
 ·exact fZT m fun i _=>by rw[hp]
 ·refine fZT m fun i _=>?_
  rw[show(2*i+1)*j=2*i*j+j by rw[Nat.succ_mul],eZ2,hp];grind
theorem lZE {w:Zp}{m:Nat}(h:pw w m=1)(n:Nat)(l:Nat->Zp)(j:Nat):dft w n l (j+m)=dft w n l j:=
 fZT n fun i _=>by
  have e:pw w (i*m)=1:=by rw[Nat.mul_comm,bZO,h,gZv]
  rw[Nat.mul_add,eZ2,e];grind
theorem wZ4 (w:Zp)(m:Nat)(l:Nat->Zp)(j:Nat):dft w (2*m) l j=dft (w*w) m (fun i=>l (2*i)) j+dft (w*w) m (fun i=>l (2*i+1)) j*pw w j:=by
 rw[mZ5];grind
theorem wZ3 {w:Zp}{m:Nat}(h:pw w m=-1)(l:Nat->Zp)(j:Nat):dft w (2*m) l (j+m)=dft (w*w) m (fun i=>l (2*i)) j-dft (w*w) m (fun i=>l (2*i+1)) j*pw w j:=by
 have h2:pw (w*w) m=1:=by rw[lZW,h];grind
 rw[mZ5,lZE h2,lZE h2,eZ2,h];grind
def rv :Nat->Nat->Nat
 |0,_=>0
 |k+1,x=>x%2*2^k+rv k (x/2)
theorem kZk :∀ k x,rv k x<2^k
 |0,_=>Nat.one_pos
 |k+1,x=>by
  have h1:=kZk k (x/2);have h2:x%2<2:=Nat.mod_lt _ (by omega);show x%2*2^k+rv k (x/2)<2^(k+1)
  rw[Nat.pow_succ];rcases(by omega:x%2=0∨x%2=1)with e|e<;>rw[e]<;>omega
def stg (w:Zp)(k:Nat)(l:Nat->Zp)(s p:Nat):Zp:=
 dft (pw w (2^(k-s))) (2^s) (fun t=>l (rv (k-s) (p/2^s)+t*2^(k-s))) (p%2^s)
theorem uZB (w:Zp)(k:Nat)(l:Nat->Zp)(p:Nat):stg w k l 0 p=l (rv k p):=by
 unfold stg dft;rw[Nat.pow_zero,Nat.div_one,Nat.mod_one,Nat.sub_zero];show 0+l (rv k p+0*2^k)*pw _ (0*0)=_
 rw[Nat.zero_mul,Nat.add_zero,Nat.mul_zero];show 0+l (rv k p)*1=_
 grind
theorem wZm (w:Zp)(k:Nat)(l:Nat->Zp){p:Nat}(h:p<2^k):stg w k l k p=dft w (2^k) l p:=by
 unfold stg;rw[Nat.sub_self,Nat.pow_zero,xZ8,Nat.mod_eq_of_lt h];refine iZi (fun i _=>?_) p;show l (0+i*1)=l i
 rw[Nat.zero_add,Nat.mul_one]
theorem uZA (w:Zp)(k:Nat)(l:Nat->Zp){s:Nat}(hs:s<k)(hw:pw w (2^(k-1))=-1)(b i:Nat)(hi:i<2^s):
  stg w k l (s+1) (b*(2*2^s)+i)=stg w k l s (b*(2*2^s)+i)+stg w k l s (b*(2*2^s)+i+2^s)*pw w (i*2^(k-s-1))/\
  stg w k l (s+1) (b*(2*2^s)+i+2^s)=stg w k l s (b*(2*2^s)+i)-stg w k l s (b*(2*2^s)+i+2^s)*pw w (i*2^(k-s-1)):=by
 have hp:0<2^s:=Nat.pos_of_ne_zero (by have:=Nat.two_pow_pos s;omega);obtain⟨m,hm⟩:∃ m,k=s+1+m:=⟨k-s-1,by omega⟩;have e1:k-(s+1)=m:=by omega
 have e2:k-s=m+1:=by omega
 have e3:k-s-1=m:=by omega
  -- the words of both classes
 have a1:(b*(2*2^s)+i)/2^(s+1)=b:=by
  rw[Nat.pow_succ,Nat.mul_comm (2^s) 2,Nat.add_comm,Nat.add_mul_div_right _ _ (by omega),Nat.div_eq_of_lt (by omega),Nat.zero_add]
 have a2:(b*(2*2^s)+i)%2^(s+1)=i:=by
  rw[Nat.pow_succ,Nat.mul_comm (2^s) 2,Nat.add_comm,Nat.add_mul_mod_self_right,Nat.mod_eq_of_lt (by omega)]
 have a3:(b*(2*2^s)+i+2^s)/2^(s+1)=b:=by
  rw[Nat.pow_succ,Nat.mul_comm (2^s) 2,Nat.add_assoc,Nat.add_comm,Nat.add_mul_div_right _ _ (by omega),Nat.div_eq_of_lt (by omega),Nat.zero_add]
 have a4:(b*(2*2^s)+i+2^s)%2^(s+1)=i+2^s:=by
  rw[Nat.pow_succ,Nat.mul_comm (2^s) 2,Nat.add_assoc,Nat.add_comm,Nat.add_mul_mod_self_right,Nat.mod_eq_of_lt (by omega)]
 have hb:b*(2*2^s)=(2*b)*2^s:=by rw[Nat.mul_comm 2 b,Nat.mul_assoc]
 have b1:(b*(2*2^s)+i)/2^s=2*b:=by
  rw[hb,Nat.add_comm,Nat.add_mul_div_right _ _ hp,Nat.div_eq_of_lt hi,Nat.zero_add]
 have b2:(b*(2*2^s)+i)%2^s=i:=by
  rw[hb,Nat.add_comm,Nat.add_mul_mod_self_right,Nat.mod_eq_of_lt hi]
 have hb':b*(2*2^s)+i+2^s=i+(2*b+1)*2^s:=by rw[hb,Nat.add_mul (2*b) 1,Nat.one_mul];omega
 have b3:(b*(2*2^s)+i+2^s)/2^s=2*b+1:=by
  rw[hb',Nat.add_mul_div_right _ _ hp,Nat.div_eq_of_lt hi,Nat.zero_add]
 have b4:(b*(2*2^s)+i+2^s)%2^s=i:=by
  rw[hb',Nat.add_mul_mod_self_right,Nat.mod_eq_of_lt hi]
 have r1:rv (m+1) (2*b)=rv m b:=by
  show(2*b)%2*2^m+rv m ((2*b)/2)=_
  rw[show(2*b)%2=0 by omega,show(2*b)/2=b by omega];omega
 have r2:rv (m+1) (2*b+1)=rv m b+2^m:=by
  show(2*b+1)%2*2^m+rv m ((2*b+1)/2)=_
  rw[show(2*b+1)%2=1 by omega,show(2*b+1)/2=b by omega];omega
 have hww:pw w (2^m)*pw w (2^m)=pw w (2^(m+1)):=by
  rw[← eZ2];congr 1;rw[Nat.pow_succ];omega
 have hneg:pw (pw w (2^m)) (2^s)=-1:=by
  rw[← bZO,←Nat.pow_add,show m+s=k-1 by omega,hw]
 have hpow:pw (pw w (2^m)) i=pw w (i*2^m):=by rw[← bZO,Nat.mul_comm]
 have c1:∀ t,rv m b+2*t*2^m=rv m b+t*2^(m+1):=fun t=>by rw[Nat.pow_succ,Nat.mul_comm (2^m) 2,←Nat.mul_assoc,Nat.mul_comm t 2]
 have c2:∀ t,rv m b+(2*t+1)*2^m=rv m b+2^m+t*2^(m+1):=fun t=>by rw[Nat.succ_mul,Nat.pow_succ,Nat.mul_comm (2^m) 2,←Nat.mul_assoc,Nat.mul_comm t 2];omega
 unfold stg;rw[a1,a2,a3,a4,b1,b2,b3,b4,e1,e3,e2,r1,r2,←hww];rw[show 2^(s+1)=2*2^s by rw[Nat.pow_succ];omega];constructor
 ·rw[wZ4,hpow];simp only[c1,c2]
 ·rw[wZ3 hneg,hpow];simp only[c1,c2]
theorem sZP :∀ n,pw (-1) (2*n)=1/\pw (-1) (2*n+1)=-1
 |0=>⟨rfl,by show(1:Zp)* -1=-1;grind⟩
 |n+1=>by
  obtain⟨h1,h2⟩:=sZP n;have e:pw (-1) (2*(n+1))=1:=by
   show pw (-1) (2*n+1)* -1=1
   rw[h2];grind
  exact⟨e,by show pw (-1) (2*(n+1))* -1=-1;rw[e];grind⟩
theorem tZ1 {w:Zp}{R C:Nat}(hw:pw w (R*C)=1)(l:Nat->Zp)(m j:Nat):
  dft w (R*C) l (m*R+j)=dft (pw w R) C (fun c=>dft (pw w C) R (fun r=>l (r*C+c)) j*pw w (c*j)) m:=by
 have e1:∀ r c,pw w ((r*C+c)*(m*R+j))=pw (pw w C) (r*j)*pw w (c*j)*pw (pw w R) (c*m):=fun r c=>by
  rw[← bZO,←bZO,show(r*C+c)*(m*R+j)=(R*C)*(r*m)+(C*(r*j)+c*j+R*(c*m)) by grind,eZ2,bZO w (R*C),hw,gZv,eZ2,eZ2];grind
 unfold dft;rw[qZw,qZx];refine fZT C fun c _=>?_
 have e2:∀ r,l (r*C+c)*pw w ((r*C+c)*(m*R+j))=(pw w (c*j)*pw (pw w R) (c*m))*(l (r*C+c)*pw (pw w C) (r*j)):=fun r=>by rw[e1];grind
 simp only[e2];rw[pZj];grind
def pwB :Nat->Zp->Nat->Zp
 |0,_,_=>1
 |f+1,x,n=>if n=0 then 1 else if n%2=1 then pwB f (x*x) (n/2)*x else pwB f (x*x) (n/2)
theorem oZ8 :∀(f:Nat) (x:Zp) (n:Nat),n<2^f->pwB f x n=pw x n
 |0,x,n,h=>by
  obtain rfl:n=0:=by simpa using h
  rfl
 |f+1,x,n,h=>by
  have hx:x*x=pw x 2:=by show x*x=1*x*x;grind
  unfold pwB;by_cases h0:n=0
  ·rw[if_pos h0,h0];rfl
  ·rw[if_neg h0,oZ8 f (x*x) (n/2) (by rw[Nat.pow_succ]at h;omega),hx,←bZO];by_cases h1:n%2=1
   ·rw[if_pos h1];have e:n=2*(n/2)+1:=by omega
    show pw x (2*(n/2)+1)=pw x n
    rw[← e]
   ·rw[if_neg h1];have e:n=2*(n/2):=by omega
    rw[← e]
theorem oZH :pw 7 9223372034707292160=-1:=by
 rw[← oZ8 64 7 9223372034707292160 (by decide)];decide +kernel
def rt (k:Nat):Zp:=pw 7 (18446744069414584320/2^k)
theorem iZK {k:Nat}(h:k<=32):18446744069414584320/2^k*2^k=18446744069414584320:=by
 refine Nat.div_mul_cancel ?_;refine Nat.dvd_trans (Nat.pow_dvd_pow 2 h) ?_;decide
theorem jZN {k:Nat}(h:k<=32):pw (rt k) (2^k)=1:=by
 unfold rt;rw[← bZO,iZK h];refine(congrArg (pw 7) (by decide:18446744069414584320=9223372034707292160*2)).trans ?_;rw[bZO,oZH];show(1:Zp)* -1* -1=1
 grind
theorem sZ2 {k:Nat}(h:k<=32)(h0:0<k):pw (rt k) (2^(k-1))=-1:=by
 unfold rt;have e:=iZK h;obtain⟨m,rfl⟩:∃ m,k=m+1:=⟨k-1,by omega⟩;rw[Nat.add_sub_cancel,←bZO];have:18446744069414584320/2^(m+1)*2^m=9223372034707292160:=by
  rw[Nat.pow_succ,←Nat.mul_assoc]at e;rw[Nat.pow_succ];omega
 rw[this,oZH]
theorem sZ3 {k a:Nat}(h:k<=32)(ha:a<=k):pw (rt k) (2^(k-a))=rt a:=by
 unfold rt;rw[← bZO];congr 1;have e1:=iZK h;have e2:=iZK (k:=a) (by omega);have e3:2^k=2^(k-a)*2^a:=by rw[← Nat.pow_add];congr 1;omega
 rw[e3,←Nat.mul_assoc]at e1;have hp:=Nat.two_pow_pos a;rw[← e3]at e1;exact Nat.eq_of_mul_eq_mul_right hp (e1.trans e2.symm)
def rtd (d:Bool)(k:Nat):Zp:=match d with|false=>rt k|true=>pw (rt k) (2^k-1)
theorem xZr {k:Nat}(h:k<=32):rt k*pw (rt k) (2^k-1)=1:=by
 have e:pw (rt k) (2^k-1+1)=pw (rt k) (2^k-1)*rt k:=rfl;have hp:=Nat.two_pow_pos k;rw[show 2^k-1+1=2^k by omega,jZN h]at e;grind
theorem wZc (d:Bool){k:Nat}(h:k<=32):pw (rtd d k) (2^k)=1:=by
 cases d
 ·exact jZN h
 ·show pw (pw (rt k) (2^k-1)) (2^k)=1
  rw[← bZO,Nat.mul_comm,bZO,jZN h,gZv]
theorem wZb (d:Bool){k:Nat}(h:k<=32)(h0:0<k):pw (rtd d k) (2^(k-1))=-1:=by
 cases d
 ·exact sZ2 h h0
 ·show pw (pw (rt k) (2^k-1)) (2^(k-1))=-1
  rw[← bZO,Nat.mul_comm,bZO,sZ2 h h0];obtain⟨m,rfl⟩:∃ m,k=m+1:=⟨k-1,by omega⟩;have hp:=Nat.two_pow_pos m;rw[show 2^(m+1)-1=2*(2^m-1)+1 by rw[Nat.pow_succ];omega,(sZP _).2]
theorem qZo (d:Bool){k a:Nat}(h:k<=32)(ha:a<=k):pw (rtd d k) (2^(k-a))=rtd d a:=by
 cases d
 ·exact sZ3 h ha
 ·show pw (pw (rt k) (2^k-1)) (2^(k-a))=pw (rt a) (2^a-1)
  rw[← bZO,Nat.mul_comm,bZO,sZ3 h ha];have e:2^k-1=(2^a)*(2^(k-a)-1)+(2^a-1):=by
   have hp:=Nat.two_pow_pos a;have hq:=Nat.two_pow_pos (k-a);have e3:2^k=2^a*2^(k-a):=by rw[← Nat.pow_add];congr 1;omega
   rw[e3,Nat.mul_sub_one];have:2^a*1<=2^a*2^(k-a):=Nat.mul_le_mul_left _ hq;omega
  rw[e,eZ2,bZO,jZN (by omega),gZv];grind
def zp (a:Nat):Zp:=Fin.ofNat _ a
theorem pZx (a:Nat):(zp a).val=a%18446744069414584321:=rfl
theorem fZ3 (z:Zp):zp z.val=z:=Fin.ext (Nat.mod_eq_of_lt z.isLt)
theorem xZF (a b:Nat):zp (a*b)=zp a*zp b:=Fin.ext (by
 rw[Fin.val_mul,pZx,pZx,pZx,←Nat.mul_mod])
theorem pZw (a:Nat):∀ n,zp (a^n)=pw (zp a) n
 |0=>rfl
 |n+1=>by rw[Nat.pow_succ,xZF,pZw a n];rfl
def zw (w:UInt64):Zp:=zp w.toNat
def uw (z:Zp):UInt64:=UInt64.ofNat z.val
theorem mZg (z:Zp):(uw z).toNat=z.val:=UInt64.toNat_ofNat_of_lt' (by have:=z.isLt;show z.val<18446744073709551616;omega)
theorem kZp (z:Zp):zw (uw z)=z:=by unfold zw;rw[mZg,fZ3]
theorem iZc (z:Zp):((uw z).toNat:Int)=(z.val:Int):=by rw[mZg]
def at' (l:List UInt64)(i:Nat):Zp:=zw (l.getD i 0)
theorem rZ1 {l:List UInt64}{i:Nat}(h:i<l.length):at' l i=zw l[i]:=by unfold at';rw[List.getD_eq_getElem?_getD,List.getElem?_eq_getElem h];rfl
end Fft
namespace Fft
def swp (m:BitVec 64)(d:Nat)(x:BitVec 64):BitVec 64:=((x>>>d)&&&m)|||((x&&&m)<<<d)
def eZ4 (m:BitVec 64)(d i:Nat):Nat:=if m.getLsbD i then i+d else i-d
def xZW (m:BitVec 64)(d:Nat):Bool:=(List.range 64).all fun i=>if m.getLsbD i then decide (i+d<64)&&(decide (i<d)|| !m.getLsbD (i-d))else decide (d<=i)&&m.getLsbD (i-d)
theorem swp_get {m:BitVec 64}{d:Nat}(h:xZW m d=true)(x:BitVec 64){i:Nat}(hi:i<64):(swp m d x).getLsbD i=x.getLsbD (eZ4 m d i):=by
 have h1:=List.all_eq_true.1 h i (List.mem_range.2 hi);unfold swp eZ4;simp only[BitVec.getLsbD_or,BitVec.getLsbD_and,BitVec.getLsbD_ushiftRight,BitVec.getLsbD_shiftLeft];by_cases hm:m.getLsbD i=true
 ·simp only[hm,if_true]at h1⊢;simp only[Bool.and_eq_true,decide_eq_true_eq,Bool.or_eq_true,Bool.not_eq_true']at h1;rcases h1.2 with h2|h2
  ·rw[Nat.add_comm d i];simp[h2]
  ·rw[Nat.add_comm d i,h2];simp
 ·have hm':m.getLsbD i=false:=by simpa using hm
  simp only[hm',Bool.false_eq_true,if_false]at h1⊢;simp only[Bool.and_eq_true,decide_eq_true_eq]at h1;rw[h1.2];have:¬i<d:=by omega
  simp[hi,this]
def oZc (x:BitVec 64):BitVec 64:=
 let x:=swp 0x5555555555555555#64 1 x
 let x:=swp 0x3333333333333333#64 2 x
 let x:=swp 0x0f0f0f0f0f0f0f0f#64 4 x
 let x:=swp 0x00ff00ff00ff00ff#64 8 x
 let x:=swp 0x0000ffff0000ffff#64 16 x
 (x>>>32)|||(x<<<32)
theorem sZY (x:BitVec 64){i:Nat}(hi:i<64):(oZc x).getLsbD i=x.getLsbD (63-i):=by
 unfold oZc;simp only[BitVec.getLsbD_or,BitVec.getLsbD_ushiftRight,BitVec.getLsbD_shiftLeft];have hb:(List.range 64).all (fun i=>decide (eZ4 0x0000ffff0000ffff#64 16 i<64)&&decide (eZ4 0x00ff00ff00ff00ff#64 8 (eZ4 0x0000ffff0000ffff#64 16 i)<64)&&decide (eZ4 0x0f0f0f0f0f0f0f0f#64 4 (eZ4 0x00ff00ff00ff00ff#64 8 (eZ4 0x0000ffff0000ffff#64 16 i))<64)&&decide (eZ4 0x3333333333333333#64 2 (eZ4 0x0f0f0f0f0f0f0f0f#64 4 (eZ4 0x00ff00ff00ff00ff#64 8 (eZ4 0x0000ffff0000ffff#64 16 i)))<64)&&
   decide (eZ4 0x5555555555555555#64 1 (eZ4 0x3333333333333333#64 2 (eZ4 0x0f0f0f0f0f0f0f0f#64 4 (eZ4 0x00ff00ff00ff00ff#64 8 (eZ4 0x0000ffff0000ffff#64 16 i))))=(if i<32 then 31-i else 95-i)))=true:=by decide +kernel
 have key:∀ j,j<64->(swp 0x0000ffff0000ffff#64 16 (swp 0x00ff00ff00ff00ff#64 8 (swp 0x0f0f0f0f0f0f0f0f#64 4 (swp 0x3333333333333333#64 2 (swp 0x5555555555555555#64 1 x))))).getLsbD j=x.getLsbD (if j<32 then 31-j else 95-j):=fun j hj=>by
  have:=List.all_eq_true.1 hb j (List.mem_range.2 hj);simp only[Bool.and_eq_true,decide_eq_true_eq]at this;obtain⟨⟨⟨⟨h1,h2⟩,h3⟩,h4⟩,h5⟩:=this;rw[swp_get (by decide +kernel) _ hj,swp_get (by decide +kernel) _ h1,swp_get (by decide +kernel) _ h2,swp_get (by decide +kernel) _ h3,swp_get (by decide +kernel) _ h4,h5]
 by_cases h:i<32
 ·rw[key (32+i) (by omega),if_neg (by omega),show 95-(32+i)=63-i by omega];simp[h]
 ·have hge:¬32+i<64:=by omega
  rw[BitVec.getLsbD_of_ge _ (32+i) (by omega),key (i-32) (by omega),if_pos (by omega),show 31-(i-32)=63-i by omega];simp[h,hi]
theorem lZ9 :∀(k x j:Nat),(rv k x).testBit j=(decide (j<k)&&x.testBit (k-1-j))
 |0,x,j=>by simp[rv]
 |k+1,x,j=>by
  show(x%2*2^k+rv k (x/2)).testBit j=_
  have hlt:=kZk k (x/2);rw[Nat.mul_comm,Nat.testBit_two_pow_mul_add _ hlt];by_cases h:j<k
  ·rw[if_pos h,lZ9 k (x/2) j,Nat.testBit_div_two];have:k-1-j+1=k+1-1-j:=by omega
   rw[this];have h2:j<k+1:=by omega
   simp[h,h2]
  ·rw[if_neg h];by_cases e:j=k
   ·subst e;rw[Nat.sub_self,Nat.testBit_zero,Nat.mod_mod];have:x.testBit (j+1-1-j)=x.testBit 0:=by rw[show j+1-1-j=0 by omega]
    rw[this,Nat.testBit_zero];simp
   ·have:¬j<k+1:=by omega
    simp[this];have h3:j-k=(j-k-1)+1:=by omega
    rw[h3,Nat.testBit_succ];have:x%2/2=0:=by omega
    rw[this];simp
theorem xZq {k x:Nat}(hk:k<=32)(hx:x<2^k):(oZc (BitVec.ofNat 64 x)).toNat>>>(64-k)=rv k x:=by
 apply Nat.eq_of_testBit_eq;intro j;rw[Nat.testBit_shiftRight,BitVec.testBit_toNat,lZ9];by_cases h:j<k
 ·rw[sZY _ (by omega),BitVec.getLsbD_ofNat];have h1:63-(64-k+j)<64:=by omega
  have h2:63-(64-k+j)=k-1-j:=by omega
  simp[h,h2];intro _;omega
 ·rw[BitVec.getLsbD_of_ge _ _ (by omega)];simp[h]
theorem uZ8 (k x:Nat)(hx:x<2^k):rv k (rv k x)=x:=by
 apply Nat.eq_of_testBit_eq;intro j;rw[lZ9,lZ9];by_cases h:j<k
 ·have h1:k-1-j<k:=by omega
  have h2:k-1-(k-1-j)=j:=by omega
  simp[h,h1,h2]
 ·simp[h];exact Nat.testBit_lt_two_pow (Nat.lt_of_lt_of_le hx (Nat.pow_le_pow_right (by omega) (by omega)))
def dn (h b i p:Nat):Bool:=decide (p<b*(2*h)+i∨(b*(2*h)+h<=p/\p<b*(2*h)+h+i))
def stL (w:Zp)(k:Nat)(l:Nat->Zp)(s:Nat)(f:Nat->Bool):List UInt64:=(List.range (2^k)).map fun p=>uw (if f p=true then stg w k l (s+1) p else stg w k l s p)
theorem kZm (w:Zp)(k:Nat)(l:Nat->Zp)(s:Nat)(f:Nat->Bool):(stL w k l s f).length=2^k:=by simp[stL]
theorem hZN (w:Zp)(k:Nat)(l:Nat->Zp)(s:Nat)(f:Nat->Bool){p:Nat}(hp:p<2^k:=by omega):(stL w k l s f)[p]? =some (uw (if f p=true then stg w k l (s+1) p else stg w k l s p)):=by
 unfold stL;rw[List.getElem?_map,List.getElem?_range hp];rfl
theorem tZc {w:Zp}{k:Nat}{l:Nat->Zp}{s:Nat}{f g:Nat->Bool}(h:∀ p,p<2^k->f p=g p):stL w k l s f=stL w k l s g:=by
 unfold stL;apply List.map_congr_left;intro p hp;rw[h p (List.mem_range.1 hp)]
theorem vZC (h b i:Nat)(hi:i<h):dn h b i (b*(2*h)+i)=false/\dn h b i (b*(2*h)+i+h)=false:=by
 unfold dn;exact⟨decide_eq_false (by omega),decide_eq_false (by omega)⟩
theorem uZx {w:Zp}{k:Nat}{l:Nat->Zp}{s b i:Nat}(h:Nat)(hi:i<h)(hp:b*(2*h)+i+h<2^k):
  ((stL w k l s (dn h b i)).set (b*(2*h)+i) (uw (stg w k l (s+1) (b*(2*h)+i)))).set (b*(2*h)+i+h) (uw (stg w k l (s+1) (b*(2*h)+i+h)))=stL w k l s (dn h b (i+1)):=by
 apply List.ext_getElem?;intro p;rw[List.getElem?_set,List.getElem?_set];simp only[List.length_set,kZm];by_cases hlt:p<2^k
 ·by_cases e1:b*(2*h)+i+h=p
  ·subst e1;rw[if_pos rfl,if_pos hp,hZN _ _ _ _ _ hlt,if_pos (show dn h b (i+1) _=true from decide_eq_true (by omega))]
  ·rw[if_neg e1];by_cases e2:b*(2*h)+i=p
   ·subst e2;rw[if_pos rfl,if_pos hlt,hZN _ _ _ _ _ hlt,if_pos (show dn h b (i+1) _=true from decide_eq_true (by omega))]
   ·rw[if_neg e2,hZN _ _ _ _ _ hlt,hZN _ _ _ _ _ hlt];have:dn h b i p=dn h b (i+1) p:=by
     unfold dn;rw[decide_eq_decide];omega
    rw[this]
 ·rw[if_neg (by omega),if_neg (by omega),List.getElem?_eq_none (by rw[kZm];omega),List.getElem?_eq_none (by rw[kZm];omega)]
theorem uZw {w:Zp}{k:Nat}{l:Nat->Zp}{s b:Nat}(h:Nat):stL w k l s (dn h b h)=stL w k l s (dn h (b+1) 0):=
 tZc fun p _=>by
  unfold dn;rw[decide_eq_decide,Nat.add_mul b 1,Nat.one_mul];omega
theorem wZk {w:Zp}{k:Nat}{l:Nat->Zp}{s b:Nat}(h h':Nat)(hb:2^k<=b*(2*h)):stL w k l s (dn h b 0)=stL w k l (s+1) (dn h' 0 0):=by
 unfold stL;apply List.map_congr_left;intro p hp;have:=List.mem_range.1 hp;rw[if_pos (show dn h b 0 p=true from decide_eq_true (by omega)),if_neg (show ¬dn h' 0 0 p=true by unfold dn;simp)]
def cZP (d:Bool)(k:Nat)(l:List UInt64):List UInt64:=(List.range (2^k)).map fun j=>uw (dft (rtd d k) (2^k) (at' l) j)
theorem eZY (d:Bool)(k:Nat)(l:List UInt64):(cZP d k l).length=2^k:=by simp[cZP]
theorem wZj (d:Bool)(k:Nat)(l:List UInt64)(h:Nat):stL (rtd d k) k (at' l) k (dn h 0 0)=cZP d k l:=by
 unfold stL cZP;apply List.map_congr_left;intro p hp;have:=List.mem_range.1 hp;rw[if_neg (show ¬dn h 0 0 p=true by unfold dn;simp),wZm _ _ _ this]
def eZE (k:Nat)(l:List UInt64):List UInt64:=(List.range (2^k)).map fun p=>l.getD (rv k p) 0
theorem uZy (w:Zp)(k:Nat)(l:List UInt64)(h:Nat):(eZE k l).map (fun x=>uw (zw x))=stL w k (at' l) 0 (dn h 0 0):=by
 unfold eZE stL;rw[List.map_map];apply List.map_congr_left;intro p hp;have:=List.mem_range.1 hp;rw[if_neg (show ¬dn h 0 0 p=true by unfold dn;simp),uZB];rfl
end Fft
namespace W
open Go Go.Hw
theorem fZS :prog.follows .mixedOrders=true:=by kernel_rfl
def gZ0 (x1:Int)(H:Hp)(K:VK):Prop:=
 BIf (decide (x1<1)) (K (.tuple #[I 0,.bool false]) H) (BIf (decide (x1>4294967296)) (K (.tuple #[I 0,.bool false]) H) (BIf ((aZD .i64 x1 (i64.wrap (x1-1))) !=0) (K (.tuple #[I 0,.bool false]) H) (HcI 212 #[U (u64.wrap x1)] H fun x2 H1=>K (.tuple #[I x2,.bool true]) H1)))
theorem gZ0.ok x1 H K (h:gZ0 x1 H K):Za prog 147 #[I x1] H K:=
 okN fZS Tryz.func147 rfl rfl h
def aZN.l6 (K:VK):Nat->Int->OA->Nat->Nat->Int->Int->Int->Hp->Prop
 |0,_,_,_,_,_,_,_,_=>False
 |k+1,x3,A2,n2,m2,x4,x5,x6,H=>
  let R6:=aZN.l6 K k
  BIf (decide (x6<x5)) (ixI x6 n2 (NN A2 fun a1=>St H ((a1.add (x6.toNat*1)).add 0) (U x4) fun H2=>HcW 120 #[U x4,U x3] H2 fun x7 H3=>R6 x3 A2 n2 m2 x7 x5 (i64.wrap (x6+1)) H3)) (K (.tuple #[.slice A2 n2 m2,I 0]) H)
def aZN (x1 x2:Int)(H:Hp)(K:VK):Prop:=
 BIf (decide (x2<0)) (K (.tuple #[.slice none 0 0,I 1]) H) (BIf (decide (x2>1048576)) (K (.tuple #[.slice none 0 0,I 1]) H) (MkS prog 108 x2 x2 H fun v1 H1=>DSl v1 fun A1 n1 m1=>(∃ k,aZN.l6 K k x1 A1 n1 m1 1 (n1:Int) 0 H1)))
def aZN.l6.L (K:VK)(k:Nat):Mid:=fun E D H=>
 eI E 0 .u64 fun x3=>DG (E.get? 6) fun w6=>DSl w6 fun A2 n2 m2=>eI E 7 .u64 fun x4=>eI E 18 .i64 fun x5=>eI E 19 .i64 fun x6=>Zj D (aZN.l6 K k x3 A2 n2 m2 x4 x5 x6 H)
def aZN.Λ6 (_:VK)(_R6:Int->OA->Nat->Nat->Int->Int->Int->Hp->Prop):Zs:=Zs.none (fun _=>none)
def aZN.Λ (K:VK):Zs:=⟨fun i=>none,fun i=>match Nat.beq i 6 with|true=>some (fun E D H=>∃ k,aZN.l6.L K k E D H)|false=>none,(fun _=>none)⟩
theorem aZN.ok x1 x2 H K (h:aZN x1 x2 H K):Za prog 248 #[U x1,I x2] H K:=
 okL (Λ:=(aZN.Λ K)) fZS Tryz.func248 rfl rfl h (oC (fun E D H h=>by
   refine Safe.loop' (aZN.l6.L K) (fun E D H h=>?_) (fun k E D H h=>?_) E D H h
   ·obtain⟨w0,e0,g1⟩:=DG.out h;obtain⟨x3,rfl,g2⟩:=DI.out g1;obtain⟨w6,e6,g3⟩:=DG.out g2;obtain⟨A2,n2,m2,rfl,g4⟩:=DSl.out g3;obtain⟨w7,e7,g5⟩:=DG.out g4;obtain⟨x4,rfl,g6⟩:=DI.out g5;obtain⟨w18,e18,g7⟩:=DG.out g6;obtain⟨x5,rfl,g8⟩:=DI.out g7;obtain⟨w19,e19,g9⟩:=DG.out g8;obtain⟨x6,rfl,g10⟩:=DI.out g9;obtain⟨rfl,h'⟩:=Zj.out g10;exact h'
   ·obtain⟨x3,e0,g2⟩:=GI h;obtain⟨w6,e6,g3⟩:=DG.out g2;obtain⟨A2,n2,m2,rfl,g4⟩:=DSl.out g3;obtain⟨x4,e7,g6⟩:=GI g4;obtain⟨x5,e18,g8⟩:=GI g6;obtain⟨x6,e19,g10⟩:=GI g8;obtain⟨rfl,h'⟩:=Zj.out g10;exact okJ (Λ:=(aZN.Λ6 K (aZN.l6 K k))) fZS [] (Zc.cons e0 (Zc.cons e6 (Zc.cons e7 (Zc.cons e18 (Zc.cons e19 (Zc.nil _)))))) h' oN) oN)
def gZ1 (x1:Int)(H:Hp)(K:VK):Prop:=
 HcB 348 #[I x1] H fun c1 H1=>BIf (!c1) (K (.tuple #[U 0,I 1]) H1) (HcW 349 #[I x1] H1 fun x2 H2=>K (.tuple #[U x2,I 0]) H2)
theorem gZ1.ok x1 H K (h:gZ1 x1 H K):Za prog 310 #[I x1] H K:=
 okN fZS Tryz.func310 rfl rfl h
def gZZ (x1:Int)(H:Hp)(K:VK):Prop:=
 HcB 348 #[I x1] H fun c1 H1=>BIf (!c1) (K (.tuple #[U 0,I 1]) H1) (HcW 349 #[I x1] H1 fun x2 H2=>Hz 178 #[U x2] H2 fun v3 H3=>hZi v3 fun x3 x4=>(K (.tuple #[U x3,I x4]) H3))
theorem gZZ.ok x1 H K (h:gZZ x1 H K):Za prog 311 #[I x1] H K:=
 okN fZS Tryz.func311 rfl rfl h
def gZ2 (x1:Int)(H:Hp)(K:VK):Prop:=
 BIf (decide (x1>=0)) (K (.bool (decide (x1<=(32:Int)))) H) (K (.bool false) H)
theorem gZ2.ok x1 H K (h:gZ2 x1 H K):Za prog 348 #[I x1] H K:=
 okN fZS Tryz.func348 rfl rfl h
def gZ3 (x1:Int)(H:Hp)(K:VK):Prop:=
 (0<=(u64.wrap x1)/\HcW 246 #[U 7,U (aZC .u64 18446744069414584320 (u64.wrap x1))] H fun x2 H1=>K (U x2) H1)
theorem gZ3.ok x1 H K (h:gZ3 x1 H K):Za prog 349 #[I x1] H K:=
 okN fZS Tryz.func349 rfl rfl h
theorem fZW :prog.follows .mixedOrders=true:=by kernel_rfl
def gZg (x1:Int)(H:Hp)(K:VK):Prop:=
 Nw H (Is #[I 0,I 0] 217) fun b1 H1=>HcB 327 #[I x1] H1 fun c1 H2=>BIf (!c1) (StA H2 (O b1) #[I 0,I 0] 2 fun H3=>LdA H3 (O b1) 2 fun l1=>K (.tuple #[.agg l1.toArray,I 1]) H3) (((2:Int)≠0/\i64=i64/\HcA 328 #[I x1,I (i64.wrap (Int.tdiv x1 2))] H2 fun y1 H4=>StA H4 (O b1) y1 2 fun H5=>LdA H5 (O b1) 2 fun l2=>K (.tuple #[.agg l2.toArray,I 0]) H5))
theorem gZg.ok x1 H K (h:gZg x1 H K):Za prog 263 #[I x1] H K:=
 okN fZW Tryz.func263 rfl rfl h
def eZ9 (x1 x2:Int)(H:Hp)(K:VK):Prop:=
 Nw H (Is #[I x1,I x2] 217) fun b1 H1=>Nw H1 (Is #[I 0,I 0] 217) fun b2 H2=>LeI H2 ((O b1).add 1) fun x3=>LeI H2 ((O b1).add 0) fun x4=>StA H2 (O b2) #[I x3,I x4] 2 fun H3=>LdA H3 (O b2) 2 fun l1=>K (.agg l1.toArray) H3
theorem eZ9.ok x1 x2 H K (h:eZ9 x1 x2 H K):Za prog 264 #[.agg #[I x1,I x2]] H K:=
 okN fZW Tryz.func264 rfl rfl h
def gZh (x1 x2:Int)(H:Hp)(K:VK):Prop:=
 Nw H (Is #[I x1,I x2] 217) fun b1 H1=>LeI H1 ((O b1).add 0) fun x3=>Hz 147 #[I x3] H1 fun v2 H2=>iZt v2 fun x4 c1=>(LeI H2 ((O b1).add 1) fun x5=>Hz 147 #[I x5] H2 fun v6 H3=>iZt v6 fun x6 c2=>(BIf c1 (BIf c2 (K (.bool (decide ((i64.wrap (x4+x6))<=32))) H3) (K (.bool false) H3)) (K (.bool false) H3)))
theorem gZh.ok x1 x2 H K (h:gZh x1 x2 H K):Za prog 297 #[.agg #[I x1,I x2]] H K:=
 okN fZW Tryz.func297 rfl rfl h
def gZi (x1 x2:Int)(H:Hp)(K:VK):Prop:=
 Nw H (Is #[I x1,I x2] 217) fun b1 H1=>LdA H1 (O b1) 2 fun l1=>HcB 297 #[.agg l1.toArray] H1 fun c1 H2=>BIf (!c1) (K (I 0) H2) (LeI H2 ((O b1).add 0) fun x3=>LeI H2 ((O b1).add 1) fun x4=>K (I (i64.wrap (x3*x4))) H2)
theorem gZi.ok x1 x2 H K (h:gZi x1 x2 H K):Za prog 298 #[.agg #[I x1,I x2]] H K:=
 okN fZW Tryz.func298 rfl rfl h
def gZj (x1:Int)(H:Hp)(K:VK):Prop:=
 BIf (decide (x1>=0)) (K (.bool (decide (x1<=(32:Int)))) H) (K (.bool false) H)
theorem gZj.ok x1 H K (h:gZj x1 H K):Za prog 327 #[I x1] H K:=
 okN fZW Tryz.func327 rfl rfl h
def fZJ (x1 x2:Int)(H:Hp)(K:VK):Prop:=
 Nw H (Is #[I 0,I 0] 217) fun b1 H1=>(0<=(u64.wrap x2)/\(0<=(u64.wrap (i64.wrap (x1-x2)))/\StA H1 (O b1) #[I (aZR .i64 1 (u64.wrap x2)),I (aZR .i64 1 (u64.wrap (i64.wrap (x1-x2))))] 2 fun H2=>LdA H2 (O b1) 2 fun l1=>K (.agg l1.toArray) H2))
theorem fZJ.ok x1 x2 H K (h:fZJ x1 x2 H K):Za prog 328 #[I x1,I x2] H K:=
 okN fZW Tryz.func328 rfl rfl h
theorem eZB :prog.follows .mixedOrders=true:=by kernel_rfl
def aZi.l3 (K:VK):Nat->Int->Int->Int->Hp->Prop
 |0,_,_,_,_=>False
 |k+1,x2,x3,x4,H=>
  let R3:=aZi.l3 K k
  BIf (decide (x4<=(32:Int))) (BIf (x2==x3) (K (I x4) H) (R3 x2 (i64.wrap (2*x3)) (i64.wrap (x4+1)) H)) (K (I (-1)) H)
def aZi (x1:Int)(H:Hp)(K:VK):Prop:=
 (∃ k,aZi.l3 K k x1 1 0 H)
def aZi.l3.L (K:VK)(k:Nat):Mid:=fun E D H=>
 eI E 0 .i64 fun x2=>eI E 3 .i64 fun x3=>eI E 4 .i64 fun x4=>Zj D (aZi.l3 K k x2 x3 x4 H)
def aZi.Λ3 (_:VK)(_R3:Int->Int->Int->Hp->Prop):Zs:=Zs.none (fun _=>none)
def aZi.Λ (K:VK):Zs:=⟨fun i=>none,fun i=>match Nat.beq i 3 with|true=>some (fun E D H=>∃ k,aZi.l3.L K k E D H)|false=>none,(fun _=>none)⟩
theorem aZi.ok x1 H K (h:aZi x1 H K):Za prog 86 #[I x1] H K:=
 okL (Λ:=(aZi.Λ K)) eZB Tryz.func86 rfl rfl h (oC (fun E D H h=>by
   refine Safe.loop' (aZi.l3.L K) (fun E D H h=>?_) (fun k E D H h=>?_) E D H h
   ·obtain⟨w0,e0,g1⟩:=DG.out h;obtain⟨x2,rfl,g2⟩:=DI.out g1;obtain⟨w3,e3,g3⟩:=DG.out g2;obtain⟨x3,rfl,g4⟩:=DI.out g3;obtain⟨w4,e4,g5⟩:=DG.out g4;obtain⟨x4,rfl,g6⟩:=DI.out g5;obtain⟨rfl,h'⟩:=Zj.out g6;exact h'
   ·obtain⟨x2,e0,g2⟩:=GI h;obtain⟨x3,e3,g4⟩:=GI g2;obtain⟨x4,e4,g6⟩:=GI g4;obtain⟨rfl,h'⟩:=Zj.out g6;exact okJ (Λ:=(aZi.Λ3 K (aZi.l3 K k))) eZB [] (Zc.cons e0 (Zc.cons e3 (Zc.cons e4 (Zc.nil _)))) h' oN) oN)
def aZj.l3 (K:VK):Nat->Int->Int->Int->Hp->Prop
 |0,_,_,_,_=>False
 |k+1,x2,x3,x4,H=>
  let R3:=aZj.l3 K k
  BIf (decide (x4<x2)) (((2:Int)≠0/\u64=u64/\R3 x2 (u64.wrap (Int.tdiv x3 2)) (i64.wrap (x4+1)) H)) (HcW 173 #[U 7,U x3] H fun x5 H1=>K (U x5) H1)
def aZj (x1:Int)(H:Hp)(K:VK):Prop:=
 (∃ k,aZj.l3 K k x1 18446744069414584320 0 H)
def aZj.l3.L (K:VK)(k:Nat):Mid:=fun E D H=>
 eI E 0 .i64 fun x2=>eI E 3 .u64 fun x3=>eI E 4 .i64 fun x4=>Zj D (aZj.l3 K k x2 x3 x4 H)
def aZj.Λ3 (_:VK)(_R3:Int->Int->Int->Hp->Prop):Zs:=Zs.none (fun _=>none)
def aZj.Λ (K:VK):Zs:=⟨fun i=>none,fun i=>match Nat.beq i 3 with|true=>some (fun E D H=>∃ k,aZj.l3.L K k E D H)|false=>none,(fun _=>none)⟩
theorem aZj.ok x1 H K (h:aZj x1 H K):Za prog 242 #[I x1] H K:=
 okL (Λ:=(aZj.Λ K)) eZB Tryz.func242 rfl rfl h (oC (fun E D H h=>by
   refine Safe.loop' (aZj.l3.L K) (fun E D H h=>?_) (fun k E D H h=>?_) E D H h
   ·obtain⟨w0,e0,g1⟩:=DG.out h;obtain⟨x2,rfl,g2⟩:=DI.out g1;obtain⟨w3,e3,g3⟩:=DG.out g2;obtain⟨x3,rfl,g4⟩:=DI.out g3;obtain⟨w4,e4,g5⟩:=DG.out g4;obtain⟨x4,rfl,g6⟩:=DI.out g5;obtain⟨rfl,h'⟩:=Zj.out g6;exact h'
   ·obtain⟨x2,e0,g2⟩:=GI h;obtain⟨x3,e3,g4⟩:=GI g2;obtain⟨x4,e4,g6⟩:=GI g4;obtain⟨rfl,h'⟩:=Zj.out g6;exact okJ (Λ:=(aZj.Λ3 K (aZj.l3 K k))) eZB [] (Zc.cons e0 (Zc.cons e3 (Zc.cons e4 (Zc.nil _)))) h' oN) oN)
end W
namespace Shp
open Go Go.Hw W
def db (i:Nat):Nat:=285870213051353865*2^i%18446744073709551616/288230376151711744
def vZf :List Nat:=(List.range 64).map fun j=>((List.range 64).find? fun i=>db i==j).getD 0
def uZF :List Value:=vZf.map fun(n:Nat)=>Value.int .u8 (n:Int)
def T64 (H:Hp):Prop:=Cells H (Io 2) uZF
theorem T64.le {H H':Hp}(h:T64 H)(k:H.le H'):T64 H':=Cells.le h k
theorem tZ0 :(List.range 64).all (fun k=>aZC .u64 (u64.wrap ((aZD .u64 ((2^k:Nat):Int) (u64.wrap (0-((2^k:Nat):Int))))*(285870213051353865:Int))) (58:Int)==(db k:Int)&&(decide (db k<64)&&(vZf[db k]? ==some k)))=true:=by decide +kernel
theorem uZX (k:Nat)(hk:k<64)(H:Hp)(hT:T64 H):Za prog 212 #[U ((2^k:Nat):Int)] H (RetE (I (k:Int)) H):=by
 apply cZa.ok;unfold cZa;have hp:(2:Nat)^k≠0:=Nat.ne_of_gt (Nat.pow_pos (by omega));refine Zu (by omega) ⟨by decide,?_⟩;have ht:=List.all_eq_true.1 tZ0 k (by simp;omega);simp only[Bool.and_eq_true,beq_iff_eq,decide_eq_true_eq]at ht;obtain⟨h1,h2,h3⟩:=ht;rw[h1];have hv:uZF[db k]? =some (.int .u8 (k:Int)):=by
  unfold uZF;rw[List.getElem?_map,h3];rfl
 refine Cells.read hT hv rfl (by decide) ?_;simp only[HV];rw[bZc];exact RetE.mk _ _
def lg (n:Int):Option Nat:=(List.range 33).find? fun k=>n==((2^k:Nat):Int)
theorem eZj {n:Int}{k:Nat}(h:lg n=some k):k<=32/\n=((2^k:Nat):Int):=by
 have h1:=List.mem_of_find?_eq_some h;have h2:=List.find?_some h;simp only[beq_iff_eq]at h2;exact⟨by have:=List.mem_range.1 h1;omega,h2⟩
theorem uZa :(List.range 33).all (fun k=>lg ((2^k:Nat):Int)==some k)=true:=by decide +kernel
theorem iZG {k:Nat}(hk:k<=32:=by omega):lg ((2^k:Nat):Int)=some k:=by
 have:=List.all_eq_true.1 uZa k (List.mem_range.2 (by omega));simpa using this
theorem pow_pos (k:Nat):1<=2^k:=Nat.pow_pos (by omega)
theorem aZP {k m:Nat}(h:k<=m):2^k<=2^m:=Nat.pow_le_pow_right (by omega) h
theorem xZO {n:Int}(h:n<1):lg n=none:=by
 cases e:lg n with
 |none=>rfl
 |some k=>have:=(eZj e).2;have:=pow_pos k;omega
theorem xZN {n:Int}(h:n>4294967296):lg n=none:=by
 cases e:lg n with
 |none=>rfl
 |some k=>
  obtain⟨h1,h2⟩:=eZj e;have:=aZP h1;rw[show 2^32=4294967296 by decide]at this;omega
theorem xZd {m:Nat}(h1:1<=m)(h2:m<=4294967296):m&&&(m-1)=0↔lg (m:Int)≠none:=by
 rw[Nat.and_sub_one_eq_zero_iff_isPowerOfTwo (by omega)];constructor
 ·rintro⟨k,rfl⟩;have hk:k<=32:=by
   apply Nat.le_of_not_lt;intro h;have:=aZP (show 33<=k from h);rw[show 2^33=8589934592 by decide]at this;omega
  rw[iZG hk];simp
 ·intro h;cases e:lg (m:Int)with
  |none=>exact absurd e h
  |some k=>exact⟨k,Int.ofNat_inj.1 (eZj e).2⟩
def aZ3 (n:Int):Value:=match lg n with|some k=>.tuple #[.int .i64 (k:Int),.bool true]|none=>.tuple #[.int .i64 0,.bool false]
theorem iZA (n:Int)(H:Hp)(hT:T64 H):Za prog 147 #[I n] H (RetE (aZ3 n) H):=by
 apply gZ0.ok;unfold gZ0;by_cases h1:n<1
 ·refine Zm h1 ?_;unfold aZ3;rw[xZO h1];exact RetE.mk _ _
 refine Zg h1 ?_;by_cases h2:n>4294967296
 ·refine Zm h2 ?_;unfold aZ3;rw[xZN h2];exact RetE.mk _ _
 refine Zg h2 ?_;obtain⟨m,rfl⟩:=Int.eq_ofNat_of_zero_le (show 0<=n by omega);rw[show((m:Int)-1)=((m-1:Nat):Int) by omega,ZM,Lay.iZ1 (by omega) (by omega)];have hl:=xZd (m:=m) (by omega) (by omega);unfold aZ3;cases e:lg (m:Int)with
 |none=>
  refine Zz (fun h=>?_) (RetE.mk _ _);exact(hl.1 (Int.ofNat_inj.1 h)) e
 |some k=>
  refine Zr (Int.ofNat_inj.2 (hl.2 (by rw[e];simp))) ?_;obtain⟨h3,h4⟩:=eZj e;rw[bZ5,h4];refine Za.use (uZX k (by omega) H hT) ?_
  try simp only[HV]
  exact RetE.mk _ _
def hZ3 (n:Int):Int:=match lg n with|some k=>(k:Int)|none=>-1
theorem lZ3 (n:Int)(H:Hp):∀(t k:Nat),k+t=33->(∀ j,j<k->n≠((2^j:Nat):Int))->aZi.l3 (RetE (I (hZ3 n)) H) (t+1) n ((2^k:Nat):Int) (k:Int) H
 |0,k,h,hk=>by
  unfold aZi.l3;refine Zg (by omega) ?_;unfold hZ3;cases e:lg n with
  |none=>exact RetE.mk _ _
  |some j=>exact absurd (eZj e).2 (hk j (by have:=(eZj e).1;omega))
 |t+1,k,h,hk=>by
  unfold aZi.l3;refine Zm (by omega) ?_;by_cases e:n=((2^k:Nat):Int)
  ·refine Zt e ?_;unfold hZ3;rw[e,iZG];exact RetE.mk _ _
  ·refine Zu e ?_;have hp:=aZP (show k<=32 by omega);rw[show 2^32=4294967296 by decide]at hp;rw[show(2:Int)*((2^k:Nat):Int)=((2^(k+1):Nat):Int) by rw[Nat.pow_succ];omega,bZc (by rw[Nat.pow_succ];omega),ZM (x:=(k:Int)+1)];exact lZ3 n H t (k+1) (by omega) fun j hj=>by
    by_cases ej:j=k
    ·rw[ej];exact e
    ·exact hk j (by omega)
theorem uZk (n:Int)(H:Hp):Za prog 86 #[I n] H (RetE (I (hZ3 n)) H):=by
 apply aZi.ok;unfold aZi;exact⟨34,lZ3 n H 33 0 rfl fun j hj=>absurd hj (by omega)⟩
def dZQ (r c:Int):Bool:=match lg r,lg c with|some a,some b=>decide (a+b≤32)|_,_=>false
theorem hZz {r c:Int}(h:dZQ r c=true):∃ a b:Nat,r=((2^a:Nat):Int)/\c=((2^b:Nat):Int)/\a+b<=32/\lg r=some a/\lg c=some b:=by
 unfold dZQ at h;split at h
 ·rename_i a b ha hb
  exact⟨a,b,(eZj ha).2,(eZj hb).2,by simpa using h,ha,hb⟩
 ·cases h
theorem iZk {a b:Nat}(h:a+b<=32):dZQ ((2^a:Nat):Int) ((2^b:Nat):Int)=true:=by
 unfold dZQ;rw[iZG,iZG];simpa using h
theorem bZ2 (r c:Int)(H:Hp)(hT:T64 H):Za prog 297 #[.agg #[I r,I c]] H (RetE (.bool (dZQ r c)) H):=by
 apply Za.ret;apply gZh.ok;unfold gZh;refine(Sep.start H).nw fun b1 H1 hs=>?_
 first|refine hs.ldf 1 rfl rfl ?_|refine hs.ldg 1 rfl rfl ?_
 try simp only[HV]
 refine Za.use (iZA r H1 (hT.le (hs.ow 0 rfl))) ?_;unfold dZQ aZ3;cases ea:lg r with
 |none=>
  simp only[HV]
  first|refine hs.ldf 1 rfl rfl ?_|refine hs.ldg 1 rfl rfl ?_
  try simp only[HV]
  refine Za.use (iZA c H1 (hT.le (hs.ow 0 rfl))) ?_;unfold aZ3;cases eb:lg c<;>simp only[HV]<;>exact hs.fin 0 rfl _
 |some a=>
  simp only[HV]
  first|refine hs.ldf 1 rfl rfl ?_|refine hs.ldg 1 rfl rfl ?_
  try simp only[HV]
  refine Za.use (iZA c H1 (hT.le (hs.ow 0 rfl))) ?_;unfold aZ3;cases eb:lg c with
  |none=>simp only[HV];exact hs.fin 0 rfl _
  |some b=>
   simp only[HV];have h1:=(eZj ea).1;have h2:=(eZj eb).1;rw[ZM];have:decide ((a:Int)+(b:Int)<=32)=decide (a+b<=32):=by
    by_cases h:a+b<=32
    ·rw[decide_eq_true h,decide_eq_true (by omega)]
    ·rw[decide_eq_false h,decide_eq_false (by omega)]
   rw[this];exact hs.fin 0 rfl _
theorem size_le {a b:Nat}(h:a+b<=32):2^a*2^b<=4294967296:=by
 rw[← Nat.pow_add,show 4294967296=2^32 by decide];exact aZP h
def iZr (r c:Int):Int:=if dZQ r c=true then r*c else 0
theorem jZ7 (r c:Int)(H:Hp)(hT:T64 H):Za prog 298 #[.agg #[I r,I c]] H (RetE (I (iZr r c)) H):=by
 apply Za.ret;apply gZi.ok;unfold gZi;refine(Sep.start H).nw fun b1 H1 hs=>?_
 refine hs.ldw 1 rfl rfl ?_;refine Za.use (bZ2 r c H1 (hT.le (hs.ow 0 rfl))) ?_;simp only[HV];unfold iZr;cases e:dZQ r c with
 |false=>exact aZE rfl (hs.fin 0 rfl _)
 |true=>
  refine aZe rfl ?_
  first|refine hs.ldf 1 rfl rfl ?_|refine hs.ldg 1 rfl rfl ?_
  try simp only[HV]
  first|refine hs.ldf 1 rfl rfl ?_|refine hs.ldg 1 rfl rfl ?_
  try simp only[HV]
  obtain⟨a,b,rfl,rfl,h,_,_⟩:=hZz e;have:=size_le h;rw[← Int.natCast_mul,bZc,if_pos trivial];exact hs.fin 0 rfl _
end Shp
namespace W
open Go Go.Hw
theorem dZq :prog.follows .mixedOrders=true:=by kernel_rfl
def hZr (x1 x2:Int)(H:Hp)(K:VK):Prop:=
 HcA 180 #[U x1,U x2] H fun y1 H1=>HcW 179 #[.agg y1] H1 fun x3 H2=>K (U x3) H2
theorem hZr.ok x1 x2 H K (h:hZr x1 x2 H K):Za prog 120 #[U x1,U x2] H K:=
 okN dZq Tryz.func120 rfl rfl h
def iZf (x1:Int)(H:Hp)(K:VK):Prop:=
 BIf (decide (x1>=18446744069414584321)) (K (U (u64.wrap (x1-18446744069414584321))) H) (K (U x1) H)
theorem iZf.ok x1 H K (h:iZf x1 H K):Za prog 121 #[U x1] H K:=
 okN dZq Tryz.func121 rfl rfl h
def hZp (x1 x2:Int)(H:Hp)(K:VK):Prop:=
 HcW 121 #[U x1] H fun x3 H1=>HcW 121 #[U x2] H1 fun x4 H2=>Hz 249 #[.agg #[U 0,U x3],.agg #[U 0,U x4]] H2 fun v3 H3=>wZV v3 fun y1 x5=>(Nw H3 (Is #[U 0,U 0] 284) fun b1 H4=>StA H4 (O b1) y1 2 fun H5=>LdA H5 (O b1) 2 fun l4=>HcW 179 #[.agg l4.toArray] H5 fun x6 H6=>K (U x6) H6)
theorem hZp.ok x1 x2 H K (h:hZp x1 x2 H K):Za prog 177 #[U x1,U x2] H K:=
 okN dZq Tryz.func177 rfl rfl h
def hZq (x1:Int)(H:Hp)(K:VK):Prop:=
 HcW 121 #[U x1] H fun x2 H1=>BIf (x2==0) (K (.tuple #[U 0,I 13]) H1) (HcW 246 #[U x1,U 18446744069414584319] H1 fun x3 H2=>K (.tuple #[U x3,I 0]) H2)
theorem hZq.ok x1 H K (h:hZq x1 H K):Za prog 178 #[U x1] H K:=
 okN dZq Tryz.func178 rfl rfl h
def bZr.j5 (K:VK)(x7 x8:Int)(H:Hp):=
 BIf (decide ((u64.wrap (x8+(u64.wrap (x7*4294967295))))<(u64.wrap (x7*4294967295)))) (HcW 121 #[U (u64.wrap ((u64.wrap (x8+(u64.wrap (x7*4294967295))))+4294967295))] H fun x9 H2=>K (U x9) H2) (HcW 121 #[U (u64.wrap (x8+(u64.wrap (x7*4294967295))))] H fun x10 H3=>K (U x10) H3)
def bZr (x1 x2:Int)(H:Hp)(K:VK):Prop:=
 Nw H (Is #[U x1,U x2] 284) fun b1 H1=>LeW H1 ((O b1).add 0) fun x3=>(0<=(32:Int)/\LeW H1 ((O b1).add 0) fun x4=>LeW H1 ((O b1).add 1) fun x5=>LeW H1 ((O b1).add 1) fun x6=>BIf (decide (x6<(aZC .u64 x3 32))) (bZr.j5 K (aZD .u64 x4 4294967295) (u64.wrap ((u64.wrap (x5-(aZC .u64 x3 32)))-4294967295)) H1) (bZr.j5 K (aZD .u64 x4 4294967295) (u64.wrap (x5-(aZC .u64 x3 32))) H1))
def bZr.Λ (K:VK):Zs:=⟨fun i=>match Nat.beq i 5 with|true=>some (fun E D H=>eI E 4 .u64 fun x7=>eI E 5 .u64 fun x8=>Zj D (bZr.j5 K x7 x8 H))|false=>none,fun i=>none,(fun _=>none)⟩
theorem bZr.ok x1 x2 H K (h:bZr x1 x2 H K):Za prog 179 #[.agg #[U x1,U x2]] H K:=
 okL (Λ:=(bZr.Λ K)) dZq Tryz.func179 rfl rfl h (oC (fun E D H h=>by
   obtain⟨x7,e4,g2⟩:=GI h;obtain⟨x8,e5,g4⟩:=GI g2;obtain⟨rfl,h'⟩:=Zj.out g4;exact okJ (Λ:=(bZr.Λ K)) dZq [] (Zc.cons e4 (Zc.cons e5 (Zc.nil _))) h' oN) oN)
def gZT (x1:Int)(H:Hp)(K:VK):Prop:=
 K (.bool (decide (x1<18446744069414584321))) H
theorem gZT.ok x1 H K (h:gZT x1 H K):Za prog 211 #[U x1] H K:=
 okN dZq Tryz.func211 rfl rfl h
def hZt (x1 x2:Int)(H:Hp)(K:VK):Prop:=
 HcW 309 #[U x2] H fun x3 H1=>HcW 177 #[U x1,U x3] H1 fun x4 H2=>K (U x4) H2
theorem hZt.ok x1 x2 H K (h:hZt x1 x2 H K):Za prog 243 #[U x1,U x2] H K:=
 okN dZq Tryz.func243 rfl rfl h
def bZe.l2 (K:VK):Nat->Int->Int->Int->Hp->Prop
 |0,_,_,_,_=>False
 |k+1,x4,x5,x6,H=>
  let R2:=bZe.l2 K k
  BIf (decide (x4>0)) (BIf ((aZD .u64 x4 1)==1) (HcW 120 #[U x5,U x6] H fun x7 H2=>HcW 120 #[U x6,U x6] H2 fun x8 H3=>(0<=(1:Int)/\R2 (aZC .u64 x4 1) x7 x8 H3)) (HcW 120 #[U x6,U x6] H fun x9 H4=>(0<=(1:Int)/\R2 (aZC .u64 x4 1) x5 x9 H4))) (K (U x5) H)
def bZe (x1 x2:Int)(H:Hp)(K:VK):Prop:=
 HcW 121 #[U x1] H fun x3 H1=>(∃ k,bZe.l2 K k x2 1 x3 H1)
def bZe.l2.L (K:VK)(k:Nat):Mid:=fun E D H=>
 eI E 1 .u64 fun x4=>eI E 5 .u64 fun x5=>eI E 6 .u64 fun x6=>Zj D (bZe.l2 K k x4 x5 x6 H)
def bZe.Λ2 (_:VK)(_R2:Int->Int->Int->Hp->Prop):Zs:=Zs.none (fun _=>none)
def bZe.Λ (K:VK):Zs:=⟨fun i=>none,fun i=>match Nat.beq i 2 with|true=>some (fun E D H=>∃ k,bZe.l2.L K k E D H)|false=>none,(fun _=>none)⟩
theorem bZe.ok x1 x2 H K (h:bZe x1 x2 H K):Za prog 246 #[U x1,U x2] H K:=
 okL (Λ:=(bZe.Λ K)) dZq Tryz.func246 rfl rfl h (oC (fun E D H h=>by
   refine Safe.loop' (bZe.l2.L K) (fun E D H h=>?_) (fun k E D H h=>?_) E D H h
   ·obtain⟨w1,e1,g1⟩:=DG.out h;obtain⟨x4,rfl,g2⟩:=DI.out g1;obtain⟨w5,e5,g3⟩:=DG.out g2;obtain⟨x5,rfl,g4⟩:=DI.out g3;obtain⟨w6,e6,g5⟩:=DG.out g4;obtain⟨x6,rfl,g6⟩:=DI.out g5;obtain⟨rfl,h'⟩:=Zj.out g6;exact h'
   ·obtain⟨x4,e1,g2⟩:=GI h;obtain⟨x5,e5,g4⟩:=GI g2;obtain⟨x6,e6,g6⟩:=GI g4;obtain⟨rfl,h'⟩:=Zj.out g6;exact okJ (Λ:=(bZe.Λ2 K (bZe.l2 K k))) dZq [] (Zc.cons e1 (Zc.cons e5 (Zc.cons e6 (Zc.nil _)))) h' oN) oN)
def hZs (x1:Int)(H:Hp)(K:VK):Prop:=
 HcW 121 #[U x1] H fun x2 H1=>BIf (x2==0) (K (U 0) H1) (K (U (u64.wrap (18446744069414584321-x2))) H1)
theorem hZs.ok x1 H K (h:hZs x1 H K):Za prog 309 #[U x1] H K:=
 okN dZq Tryz.func309 rfl rfl h
theorem oZW :prog.follows .mixedOrders=true:=by kernel_rfl
def hZy (x1 x2:Int)(H:Hp)(K:VK):Prop:=
 Nw H (Is #[U 0,U 0] 284) fun b1 H1=>Hz 250 #[U x1,U x2] H1 fun v1 H2=>oZy v1 fun x3 x4=>(StA H2 (O b1) #[U x3,U x4] 2 fun H3=>LdA H3 (O b1) 2 fun l4=>K (.agg l4.toArray) H3)
theorem hZy.ok x1 x2 H K (h:hZy x1 x2 H K):Za prog 180 #[U x1,U x2] H K:=
 okN oZW Tryz.func180 rfl rfl h
def hZx (x1 x2 x3 x4:Int)(H:Hp)(K:VK):Prop:=
 Nw H (Is #[U x1,U x2] 284) fun b1 H1=>Nw H1 (Is #[U x3,U x4] 284) fun b2 H2=>Nw H2 (Is #[U 0,U 0] 284) fun b3 H3=>LeW H3 ((O b1).add 1) fun x5=>LeW H3 ((O b2).add 1) fun x6=>ExC prog 312 #[U x5,U x6,U 0] H3 fun v3 H4=>oZy v3 fun x7 x8=>(St H4 (((O b3).add 1).add 0) (U x7) fun H5=>LeW H5 ((O b1).add 0) fun x9=>LeW H5 ((O b2).add 0) fun x10=>ExC prog 312 #[U x9,U x10,U x8] H5 fun v8 H6=>oZy v8 fun x11 x12=>(St H6 (((O b3).add 0).add 0) (U x11) fun H7=>LdA H7 (O b3) 2 fun l7=>StA H7 (O b3) l7.toArray 2 fun H8=>LdA H8 (O b3) 2 fun l8=>K (.tuple #[.agg l8.toArray,U x12]) H8))
theorem hZx.ok x1 x2 x3 x4 H K (h:hZx x1 x2 x3 x4 H K):Za prog 249 #[.agg #[U x1,U x2],.agg #[U x3,U x4]] H K:=
 okN oZW Tryz.func249 rfl rfl h
theorem cZH :prog.follows .mixedOrders=true:=by kernel_rfl
def dZ2 (x1:Int)(H:Hp)(K:VK):Prop:=
 ((18446744069414584321:Int)≠0/\u64=u64/\K (U (Int.tmod x1 18446744069414584321)) H)
theorem dZ2.ok x1 H K (h:dZ2 x1 H K):Za prog 67 #[U x1] H K:=
 okN cZH Tryz.func67 rfl rfl h
def dZD (x1 x2:Int)(H:Hp)(K:VK):Prop:=
 HcW 67 #[U x1] H fun x3 H1=>HcW 67 #[U x2] H1 fun x4 H2=>BIf (decide (x3>=(u64.wrap (18446744069414584321-x4)))) (K (U (u64.wrap (x3-(u64.wrap (18446744069414584321-x4))))) H2) (K (U (u64.wrap (x3+x4))) H2)
theorem dZD.ok x1 x2 H K (h:dZD x1 x2 H K):Za prog 68 #[U x1,U x2] H K:=
 okN cZH Tryz.func68 rfl rfl h
def aZp.l3 (K:VK):Nat->Int->Int->Int->Hp->Prop
 |0,_,_,_,_=>False
 |k+1,x4,x5,x6,H=>
  let R3:=aZp.l3 K k
  BIf (decide (x5>0)) (((2:Int)≠0/\u64=u64/\BIf ((Int.tmod x5 2)==1) (HcW 68 #[U x6,U x4] H fun x7 H2=>HcW 68 #[U x4,U x4] H2 fun x8 H3=>((2:Int)≠0/\u64=u64/\R3 x8 (u64.wrap (Int.tdiv x5 2)) x7 H3)) (HcW 68 #[U x4,U x4] H fun x9 H4=>((2:Int)≠0/\u64=u64/\R3 x9 (u64.wrap (Int.tdiv x5 2)) x6 H4)))) (K (U x6) H)
def aZp (x1 x2:Int)(H:Hp)(K:VK):Prop:=
 HcW 67 #[U x1] H fun x3 H1=>(∃ k,aZp.l3 K k x3 x2 0 H1)
def aZp.l3.L (K:VK)(k:Nat):Mid:=fun E D H=>
 eI E 0 .u64 fun x4=>eI E 1 .u64 fun x5=>eI E 5 .u64 fun x6=>Zj D (aZp.l3 K k x4 x5 x6 H)
def aZp.Λ3 (_:VK)(_R3:Int->Int->Int->Hp->Prop):Zs:=Zs.none (fun _=>none)
def aZp.Λ (K:VK):Zs:=⟨fun i=>none,fun i=>match Nat.beq i 3 with|true=>some (fun E D H=>∃ k,aZp.l3.L K k E D H)|false=>none,(fun _=>none)⟩
theorem aZp.ok x1 x2 H K (h:aZp x1 x2 H K):Za prog 172 #[U x1,U x2] H K:=
 okL (Λ:=(aZp.Λ K)) cZH Tryz.func172 rfl rfl h (oC (fun E D H h=>by
   refine Safe.loop' (aZp.l3.L K) (fun E D H h=>?_) (fun k E D H h=>?_) E D H h
   ·obtain⟨w0,e0,g1⟩:=DG.out h;obtain⟨x4,rfl,g2⟩:=DI.out g1;obtain⟨w1,e1,g3⟩:=DG.out g2;obtain⟨x5,rfl,g4⟩:=DI.out g3;obtain⟨w5,e5,g5⟩:=DG.out g4;obtain⟨x6,rfl,g6⟩:=DI.out g5;obtain⟨rfl,h'⟩:=Zj.out g6;exact h'
   ·obtain⟨x4,e0,g2⟩:=GI h;obtain⟨x5,e1,g4⟩:=GI g2;obtain⟨x6,e5,g6⟩:=GI g4;obtain⟨rfl,h'⟩:=Zj.out g6;exact okJ (Λ:=(aZp.Λ3 K (aZp.l3 K k))) cZH [] (Zc.cons e0 (Zc.cons e1 (Zc.cons e5 (Zc.nil _)))) h' oN) oN)
def aZq.l3 (K:VK):Nat->Int->Int->Int->Hp->Prop
 |0,_,_,_,_=>False
 |k+1,x4,x5,x6,H=>
  let R3:=aZq.l3 K k
  BIf (decide (x5>0)) (((2:Int)≠0/\u64=u64/\BIf ((Int.tmod x5 2)==1) (HcW 172 #[U x6,U x4] H fun x7 H2=>HcW 172 #[U x4,U x4] H2 fun x8 H3=>((2:Int)≠0/\u64=u64/\R3 x8 (u64.wrap (Int.tdiv x5 2)) x7 H3)) (HcW 172 #[U x4,U x4] H fun x9 H4=>((2:Int)≠0/\u64=u64/\R3 x9 (u64.wrap (Int.tdiv x5 2)) x6 H4)))) (K (U x6) H)
def aZq (x1 x2:Int)(H:Hp)(K:VK):Prop:=
 HcW 67 #[U x1] H fun x3 H1=>(∃ k,aZq.l3 K k x3 x2 1 H1)
def aZq.l3.L (K:VK)(k:Nat):Mid:=fun E D H=>
 eI E 0 .u64 fun x4=>eI E 1 .u64 fun x5=>eI E 5 .u64 fun x6=>Zj D (aZq.l3 K k x4 x5 x6 H)
def aZq.Λ3 (_:VK)(_R3:Int->Int->Int->Hp->Prop):Zs:=Zs.none (fun _=>none)
def aZq.Λ (K:VK):Zs:=⟨fun i=>none,fun i=>match Nat.beq i 3 with|true=>some (fun E D H=>∃ k,aZq.l3.L K k E D H)|false=>none,(fun _=>none)⟩
theorem aZq.ok x1 x2 H K (h:aZq x1 x2 H K):Za prog 173 #[U x1,U x2] H K:=
 okL (Λ:=(aZq.Λ K)) cZH Tryz.func173 rfl rfl h (oC (fun E D H h=>by
   refine Safe.loop' (aZq.l3.L K) (fun E D H h=>?_) (fun k E D H h=>?_) E D H h
   ·obtain⟨w0,e0,g1⟩:=DG.out h;obtain⟨x4,rfl,g2⟩:=DI.out g1;obtain⟨w1,e1,g3⟩:=DG.out g2;obtain⟨x5,rfl,g4⟩:=DI.out g3;obtain⟨w5,e5,g5⟩:=DG.out g4;obtain⟨x6,rfl,g6⟩:=DI.out g5;obtain⟨rfl,h'⟩:=Zj.out g6;exact h'
   ·obtain⟨x4,e0,g2⟩:=GI h;obtain⟨x5,e1,g4⟩:=GI g2;obtain⟨x6,e5,g6⟩:=GI g4;obtain⟨rfl,h'⟩:=Zj.out g6;exact okJ (Λ:=(aZq.Λ3 K (aZq.l3 K k))) cZH [] (Zc.cons e0 (Zc.cons e1 (Zc.cons e5 (Zc.nil _)))) h' oN) oN)
end W
namespace Gol
open Go Go.Hw W
theorem mZU (x y c:Nat)(hc:c<=1){H:Hp}{K:VK}(k:K (.tuple #[U (((x+y+c)%18446744073709551616:Nat):Int),U (((x+y+c)/18446744073709551616:Nat):Int)]) H):
  ExC prog 312 #[U (x:Int),U (y:Int),U (c:Int)] H K:=fun H0 w0 w hA=>by
 refine⟨.value _,H,w,?_,k,hA⟩;rw[run_callFunc_extern Tryz.func312 (by kernel_rfl) (by kernel_rfl) (by kernel_rfl) (e:=add64Entry) (by kernel_rfl),run_add64 (x:Int) (y:Int) (c:Int) (by omega) (by omega) (by omega) (by omega)];simp only[Result.andThen];congr 5<;>omega
theorem nZ7 {x:Nat}(hx:x<2^64):aZD .u64 (x:Int) 4294967295=((x%4294967296:Nat):Int):=by
 rw[show(4294967295:Int)=((4294967295:Nat):Int)from rfl,mZt hx,show 4294967295=2^32-1 from rfl,Nat.and_two_pow_sub_one_eq_mod]
theorem hZa {x:Nat}:aZC .u64 (x:Int) 32=((x/4294967296:Nat):Int):=by
 rw[hZ6 (k:=.u64) (a:=x) (i:=32) (n:=32) rfl (by decide)]
theorem qZ2 {x y:Nat}(hx:x<4294967296)(hy:y<4294967296):u64.wrap ((x:Int)*(y:Int))=((x*y:Nat):Int):=by
 have:x*y<=4294967295*4294967295:=Nat.mul_le_mul (by omega) (by omega);rw[xZz,Nat.mod_eq_of_lt (by omega)]
theorem mZs {x y:Nat}(h:x+y<18446744073709551616:=by omega):u64.wrap ((x:Int)+(y:Int))=((x+y:Nat):Int):=by
 rw[xZy,Nat.mod_eq_of_lt (by omega)]
theorem tZH {a b:Nat}(ha:a<2^64)(hb:b<2^64)(H:Hp):Za prog 250 #[U (a:Int),U (b:Int)] H (RetE (.tuple #[U ((a*b/18446744073709551616:Nat):Int),U ((a*b%18446744073709551616:Nat):Int)]) H):=by
 apply eZa.ok;unfold eZa;refine⟨by decide,by decide,by decide,by decide,by decide,?_⟩;rw[xZz a b,hZa (x:=a),hZa (x:=b),nZ7 ha,nZ7 hb];have ea:a=4294967296*(a/4294967296)+a%4294967296:=by omega
 have eb:b=4294967296*(b/4294967296)+b%4294967296:=by omega
 have h1:a/4294967296<4294967296:=by omega
 have h2:b/4294967296<4294967296:=by omega
 have h3:a%4294967296<4294967296:=by omega
 have h4:b%4294967296<4294967296:=by omega
 have hab:a*b=18446744073709551616*((a/4294967296)*(b/4294967296))+4294967296*((a/4294967296)*(b%4294967296))+4294967296*((a%4294967296)*(b/4294967296))+(a%4294967296)*(b%4294967296):=by
  conv=>lhs;rw[ea,eb]
  rw[Nat.add_mul,Nat.mul_add,Nat.mul_add];rw[show 4294967296*(a/4294967296)*(4294967296*(b/4294967296))=18446744073709551616*((a/4294967296)*(b/4294967296)) by rw[Nat.mul_mul_mul_comm],
   show 4294967296*(a/4294967296)*(b%4294967296)=4294967296*((a/4294967296)*(b%4294967296)) by rw[Nat.mul_assoc],
   show a%4294967296*(4294967296*(b/4294967296))=4294967296*((a%4294967296)*(b/4294967296)) by rw[Nat.mul_left_comm]]
  omega
 rw[qZ2 h1 h2,qZ2 h1 h4,qZ2 h3 h4,qZ2 h3 h2];have k1:(a/4294967296)*(b/4294967296)<=4294967295*4294967295:=Nat.mul_le_mul (by omega) (by omega);have k2:(a/4294967296)*(b%4294967296)<=4294967295*4294967295:=Nat.mul_le_mul (by omega) (by omega);have k3:(a%4294967296)*(b/4294967296)<=4294967295*4294967295:=Nat.mul_le_mul (by omega) (by omega);have k4:(a%4294967296)*(b%4294967296)<=4294967295*4294967295:=Nat.mul_le_mul (by omega) (by omega);clear ea eb;generalize(a/4294967296)*(b/4294967296)=p11 at*;generalize(a/4294967296)*(b%4294967296)=p10 at*;generalize(a%4294967296)*(b/4294967296)=p01 at*;generalize(a%4294967296)*(b%4294967296)=p00 at*;rw[hZa (x:=p00),mZs (x:=p10) (y:=p00/4294967296),nZ7 (by omega),mZs,hZa,hZa,mZs,mZs];refine⟨?_,rfl⟩;rw[hab];have:p11+(p10+p00/4294967296)/4294967296+((p10+p00/4294967296)%4294967296+p01)/4294967296=(18446744073709551616*p11+4294967296*p10+4294967296*p01+p00)/18446744073709551616:=by omega
 rw[this]
theorem eZO {a:Nat}(ha:a<2^64)(H:Hp):Za prog 121 #[U (a:Int)] H (RetE (U ((a%18446744069414584321:Nat):Int)) H):=by
 apply iZf.ok;unfold iZf;by_cases h:a>=18446744069414584321
 ·refine Zm (by omega) ?_;rw[dZl];refine⟨?_,rfl⟩;have:(a:Int)-18446744069414584321=((a%18446744069414584321:Nat):Int):=by omega
  rw[this]
 ·refine Zg (by omega) ⟨?_,rfl⟩;rw[Nat.mod_eq_of_lt (by omega)]
theorem mZX {mid t:Nat}(hm:mid<4294967296)(ht:t<18446744073709551616){H:Hp}{K:VK}(k:K (U (((t+mid*4294967295)%18446744069414584321:Nat):Int)) H):bZr.j5 K (mid:Int) (t:Int) H:=by
 unfold bZr.j5;have em:u64.wrap ((mid:Int)*4294967295)=((mid*4294967295:Nat):Int):=by
  rw[dZl];omega
 rw[em];by_cases h:t+mid*4294967295<18446744073709551616
 ·rw[mZs h];refine Zg (by omega) ?_;refine Za.use (eZO (by omega) H) ?_;simp only[HV];exact k
 ·have e1:u64.wrap ((t:Int)+((mid*4294967295:Nat):Int))=((t+mid*4294967295-18446744073709551616:Nat):Int):=by
   rw[xZy];omega
  rw[e1];refine Zm (by omega) ?_;rw[show(4294967295:Int)=((4294967295:Nat):Int)from rfl,mZs];refine Za.use (eZO (by omega) H) ?_;simp only[HV];have:(t+mid*4294967295-18446744073709551616+4294967295)%18446744069414584321=(t+mid*4294967295)%18446744069414584321:=by omega
  rw[this];exact k
theorem mZY {hi lo:Nat}(hh:hi<2^64)(hl:lo<2^64)(H:Hp):Za prog 179 #[.agg #[U (hi:Int),U (lo:Int)]] H (RetE (U (((hi*18446744073709551616+lo)%18446744069414584321:Nat):Int)) H):=Za.ret (by
 apply bZr.ok;unfold bZr;refine(Sep.start H).nw fun b1 H1 hs=>?_
 first|refine hs.ldf 1 rfl rfl ?_|refine hs.ldg 1 rfl rfl ?_
 try simp only[HV]
 refine⟨by decide,?_⟩
 first|refine hs.ldf 1 rfl rfl ?_|refine hs.ldg 1 rfl rfl ?_
 try simp only[HV]
 first|refine hs.ldf 1 rfl rfl ?_|refine hs.ldg 1 rfl rfl ?_
 try simp only[HV]
 first|refine hs.ldf 1 rfl rfl ?_|refine hs.ldg 1 rfl rfl ?_
 try simp only[HV]
 rw[hZa,nZ7 hh];by_cases h:lo<hi/4294967296
 ·refine Zm (by omega) ?_;have e1:u64.wrap (u64.wrap ((lo:Int)-((hi/4294967296:Nat):Int))-4294967295)=((lo+18446744069414584321-hi/4294967296:Nat):Int):=by
   rw[iZa,iZa];omega
  rw[e1];refine mZX (by omega) (by omega) ?_;have:(lo+18446744069414584321-hi/4294967296+hi%4294967296*4294967295)%18446744069414584321=(hi*18446744073709551616+lo)%18446744069414584321:=by omega
  rw[this];exact hs.fin 0 rfl _
 ·refine Zg (by omega) ?_;have e1:u64.wrap ((lo:Int)-((hi/4294967296:Nat):Int))=((lo-hi/4294967296:Nat):Int):=by
   rw[iZa];omega
  rw[e1];refine mZX (by omega) (by omega) ?_;have:(lo-hi/4294967296+hi%4294967296*4294967295)%18446744069414584321=(hi*18446744073709551616+lo)%18446744069414584321:=by omega
  rw[this];exact hs.fin 0 rfl _)
theorem wZv {a b:Nat}(ha:a<2^64)(hb:b<2^64)(H:Hp):Za prog 180 #[U (a:Int),U (b:Int)] H (RetE (.agg #[U ((a*b/18446744073709551616:Nat):Int),U ((a*b%18446744073709551616:Nat):Int)]) H):=Za.ret (by
 apply hZy.ok;unfold hZy;refine(Sep.start H).nw fun b1 H1 hs=>?_
 refine Za.use (tZH ha hb H1) ?_;simp only[HV];refine hs.stw 1 rfl rfl rfl rfl fun H1 hs=>?_
 refine hs.ldw 1 rfl rfl ?_;exact hs.fin 0 rfl _)
theorem hZc {a b:Nat}(ha:a<2^64)(hb:b<2^64)(H:Hp):Za prog 120 #[U (a:Int),U (b:Int)] H (RetE (U ((a*b%18446744069414584321:Nat):Int)) H):=by
 apply hZr.ok;unfold hZr;refine Za.use (wZv ha hb H) ?_;simp only[HV];have hab:a*b<=18446744073709551615*18446744073709551615:=Nat.mul_le_mul (by omega) (by omega);generalize a*b=n at*;refine Za.use (mZY (hi:=n/18446744073709551616) (lo:=n%18446744073709551616) (by omega) (by omega) H) ?_;simp only[HV];have:n/18446744073709551616*18446744073709551616+n%18446744073709551616=n:=by omega
 rw[this];exact RetE.mk _ _
theorem wZu {a b:Nat}(ha:a<2^64)(hb:b<2^64)(H:Hp):Za prog 249 #[.agg #[U 0,U (a:Int)],.agg #[U 0,U (b:Int)]] H (RetE (.tuple #[.agg #[U (((a+b)/18446744073709551616:Nat):Int),U (((a+b)%18446744073709551616:Nat):Int)],U 0]) H):=Za.ret (by
 apply hZx.ok;unfold hZx;refine(Sep.start H).nw fun b1 H1 hs=>?_
 refine hs.nw fun b2 H1 hs=>?_
 refine hs.nw fun b3 H1 hs=>?_
 first|refine hs.ldf 1 rfl rfl ?_|refine hs.ldg 1 rfl rfl ?_
 try simp only[HV]
 first|refine hs.ldf 2 rfl rfl ?_|refine hs.ldg 2 rfl rfl ?_
 try simp only[HV]
 refine mZU a b 0 (by omega) ?_;simp only[HV];refine hs.stf 3 rfl (Nat.lt_of_sub_eq_succ rfl) rfl fun H1 hs=>?_
 first|refine hs.ldf 1 rfl rfl ?_|refine hs.ldg 1 rfl rfl ?_
 try simp only[HV]
 first|refine hs.ldf 2 rfl rfl ?_|refine hs.ldg 2 rfl rfl ?_
 try simp only[HV]
 refine mZU 0 0 ((a+b+0)/18446744073709551616) (by omega) ?_;simp only[HV];refine hs.stf 3 rfl (Nat.lt_of_sub_eq_succ rfl) rfl fun H1 hs=>?_
 refine hs.ldw 3 rfl rfl ?_;refine hs.stw 3 rfl rfl rfl rfl fun H1 hs=>?_
 refine hs.ldw 3 rfl rfl ?_;have e1:(0+0+(a+b+0)/18446744073709551616)%18446744073709551616=(a+b)/18446744073709551616:=by omega
 have e2:(0+0+(a+b+0)/18446744073709551616)/18446744073709551616=0:=by omega
 rw[e2];have hv:Ret (.tuple #[.agg #[U (((0+0+(a+b+0)/18446744073709551616)%18446744073709551616:Nat):Int),U (((a+b+0)%18446744073709551616:Nat):Int)],U ((0:Nat):Int)]) H (.tuple #[.agg #[U (((0+0+(a+b+0)/18446744073709551616)%18446744073709551616:Nat):Int),U (((a+b+0)%18446744073709551616:Nat):Int)],U ((0:Nat):Int)]) H1:=hs.fin 0 rfl _;rw[e1]at hv;rw[e1];exact hv)
theorem lZj {a b:Nat}(ha:a<2^64)(hb:b<2^64)(H:Hp):Za prog 177 #[U (a:Int),U (b:Int)] H (RetE (U (((a+b)%18446744069414584321:Nat):Int)) H):=Za.ret (by
 apply hZp.ok;unfold hZp;have hs:=Sep.start H;refine Za.use (eZO ha H) ?_;simp only[HV];refine Za.use (eZO hb H) ?_;simp only[HV];refine Za.use (wZu (a:=a%18446744069414584321) (b:=b%18446744069414584321) (by omega) (by omega) H) ?_;simp only[HV];refine hs.nw fun b1 H1 hs=>?_
 refine hs.stw 1 rfl rfl rfl rfl fun H1 hs=>?_
 refine hs.ldw 1 rfl rfl ?_;refine Za.use (mZY (hi:=(a%18446744069414584321+b%18446744069414584321)/18446744073709551616) (lo:=(a%18446744069414584321+b%18446744069414584321)%18446744073709551616) (by omega) (by omega) H1) ?_;simp only[HV];have:((a%18446744069414584321+b%18446744069414584321)/18446744073709551616*18446744073709551616+(a%18446744069414584321+b%18446744069414584321)%18446744073709551616)%18446744069414584321=(a+b)%18446744069414584321:=by omega
 rw[this];exact hs.fin 0 rfl _)
theorem kZA (p x y q:Nat):(x%p+y%p*q)%p=(x+y*q)%p:=by
 rw[Nat.add_mod,Nat.mod_mod,Nat.mul_mod,Nat.mod_mod,←Nat.mul_mod,←Nat.add_mod]
theorem kZB (p x y q:Nat):x%p*(y%p)^q%p=x*y^q%p:=by
 rw[Nat.mul_mod,Nat.mod_mod,←Nat.pow_mod,←Nat.mul_mod]
theorem jZE (p x y q:Nat):x*(y%p)^q%p=x*y^q%p:=by
 rw[Nat.mul_mod,←Nat.pow_mod,←Nat.mul_mod]
theorem nZm (p x y:Nat):x%p*y%p=x*y%p:=by rw[Nat.mul_mod,Nat.mod_mod,←Nat.mul_mod]
theorem tZJ (H:Hp):∀(f n out base:Nat),n<2^f->f<=64->out<18446744069414584321->base<18446744069414584321->bZe.l2 (RetE (U ((out*base^n%18446744069414584321:Nat):Int)) H) (f+1) (n:Int) (out:Int) (base:Int) H:=fun f=>by
 generalize hp:18446744069414584321=p
 induction f with
 |zero=>
  intro n out base hn hf ho hb;obtain rfl:n=0:=by omega
  unfold bZe.l2;refine Zg (by omega) ?_;rw[Nat.pow_zero,Nat.mul_one,Nat.mod_eq_of_lt ho];exact RetE.mk _ _
 |succ f ih=>
  intro n out base hn hf ho hb;have hp0:0<p:=by omega
  have h64:2^(f+1)<=2^64:=Nat.pow_le_pow_right (by omega) hf;have hs:2^(f+1)=2*2^f:=by rw[Nat.pow_succ];omega
  have hn2:n/2<2^f:=by omega
  unfold bZe.l2;by_cases h0:n=0
  ·subst h0;refine Zg (by omega) ?_;rw[Nat.pow_zero,Nat.mul_one,Nat.mod_eq_of_lt ho];exact RetE.mk _ _
  refine Zm (by omega) ?_;have hand:aZD .u64 (n:Int) 1=((n%2:Nat):Int):=by
   rw[show(1:Int)=((1:Nat):Int)from rfl,mZt,Nat.and_one_is_mod]
  have hshr:aZC .u64 (n:Int) 1=((n/2:Nat):Int):=by
   rw[hZ6 (k:=.u64) (a:=n) (i:=1) (n:=1) rfl (by decide)]
  rw[hand,hshr];have hq:=Nat.mod_lt (base*base) hp0;have hq2:=Nat.mod_lt (out*base) hp0;by_cases h1:n%2=1
  ·refine Zt (by omega) ?_;refine Za.use (hZc (a:=out) (b:=base) (by omega) (by omega) H) ?_;rw[hp];simp only[HV];refine Za.use (hZc (a:=base) (b:=base) (by omega) (by omega) H) ?_;rw[hp];simp only[HV];refine⟨by decide,?_⟩;have:=ih (n/2) (out*base%p) (base*base%p) hn2 (by omega) hq2 hq;rw[kZB,show out*base*(base*base)^(n/2)=out*base^n by
    rw[← Nat.pow_two,←Nat.pow_mul,Nat.mul_assoc,←Nat.pow_succ',Nat.succ_eq_add_one,show 2*(n/2)+1=n by omega]]at this
   exact this
  ·refine Zu (by omega) ?_;refine Za.use (hZc (a:=base) (b:=base) (by omega) (by omega) H) ?_;rw[hp];simp only[HV];refine⟨by decide,?_⟩;have:=ih (n/2) out (base*base%p) hn2 (by omega) ho hq;rw[jZE,show out*(base*base)^(n/2)=out*base^n by
    rw[← Nat.pow_two,←Nat.pow_mul,show 2*(n/2)=n by omega]]at this
   exact this
theorem lZs {a n:Nat}(ha:a<2^64)(hn:n<2^64)(H:Hp):Za prog 246 #[U (a:Int),U (n:Int)] H (RetE (U ((a^n%18446744069414584321:Nat):Int)) H):=by
 apply bZe.ok;unfold bZe;refine Za.use (eZO ha H) ?_;simp only[HV];refine⟨65,?_⟩;have:=tZJ H 64 n 1 (a%18446744069414584321) hn (by omega) (by omega) (by omega);rw[Nat.one_mul,←Nat.pow_mod]at this;exact this
def neg (a:Nat):Nat:=(18446744069414584321-a%18446744069414584321)%18446744069414584321
theorem wZM {a:Nat}(ha:a<2^64)(H:Hp):Za prog 309 #[U (a:Int)] H (RetE (U ((neg a:Nat):Int)) H):=by
 apply hZs.ok;unfold hZs neg;refine Za.use (eZO ha H) ?_;simp only[HV];by_cases h:a%18446744069414584321=0
 ·rw[h];exact Zt rfl (RetE.mk _ _)
 ·refine Zu (by omega) ?_;rw[dZl];have:(18446744069414584321:Int)-((a%18446744069414584321:Nat):Int)=(((18446744069414584321-a%18446744069414584321)%18446744069414584321:Nat):Int):=by omega
  rw[this];exact RetE.mk _ _
def sub (a b:Nat):Nat:=(a+neg b)%18446744069414584321
theorem wZS {a b:Nat}(ha:a<2^64)(hb:b<2^64)(H:Hp):Za prog 243 #[U (a:Int),U (b:Int)] H (RetE (U ((sub a b:Nat):Int)) H):=by
 apply hZt.ok;unfold hZt;refine Za.use (wZM hb H) ?_;simp only[HV];refine Za.use (lZj (a:=a) (b:=neg b) ha (by unfold neg;omega) H) ?_;simp only[HV];exact RetE.mk _ _
def hZj :Nat:=18446744069414584319
def kZ0 (a:Nat):Nat:=a^hZj%18446744069414584321
theorem vZL {a:Nat}(ha:a<2^64)(e:Nat)(he:e=18446744069414584319)(H:Hp):Za prog 246 #[U (a:Int),U (e:Int)] H (RetE (U ((a^e%18446744069414584321:Nat):Int)) H):=lZs ha (by omega) H
theorem rZL {a:Nat}(ha:a<2^64)(h0:a%18446744069414584321≠0)(H:Hp):Za prog 178 #[U (a:Int)] H (RetE (.tuple #[U ((kZ0 a:Nat):Int),I 0]) H):=by
 apply hZq.ok;unfold hZq;refine Za.use (eZO ha H) ?_;simp only[HV];refine Zu (by omega) ?_;have hP:Za prog 246 #[U (a:Int),U 18446744069414584319] H (RetE (U ((kZ0 a:Nat):Int)) H):=by
  have h:=vZL ha hZj rfl H;unfold kZ0;rw[show(18446744069414584319:Int)=((hZj:Nat):Int)from rfl];exact h
 refine Za.use hP ?_;simp only[HV];exact RetE.mk _ _
theorem lZ5 {a:Nat}(H:Hp):Za prog 67 #[U (a:Int)] H (RetE (U ((a%18446744069414584321:Nat):Int)) H):=by
 apply dZ2.ok;unfold dZ2;exact⟨by decide,by simp,RetE.mk _ _⟩
theorem kZi {a b:Nat}(H:Hp):Za prog 68 #[U (a:Int),U (b:Int)] H (RetE (U (((a+b)%18446744069414584321:Nat):Int)) H):=by
 apply dZD.ok;unfold dZD;refine Za.use (lZ5 (a:=a) H) ?_;simp only[HV];refine Za.use (lZ5 (a:=b) H) ?_;simp only[HV];rw[dZl (x:=18446744069414584321-((b%18446744069414584321:Nat):Int))];by_cases h:((a%18446744069414584321:Nat):Int)>=18446744069414584321-((b%18446744069414584321:Nat):Int)
 ·refine Zm h ?_;rw[dZl];have:((a%18446744069414584321:Nat):Int)-(18446744069414584321-((b%18446744069414584321:Nat):Int))=(((a+b)%18446744069414584321:Nat):Int):=by omega
  rw[this];exact RetE.mk _ _
 ·refine Zg h ?_;rw[dZl];have:((a%18446744069414584321:Nat):Int)+((b%18446744069414584321:Nat):Int)=(((a+b)%18446744069414584321:Nat):Int):=by omega
  rw[this];exact RetE.mk _ _
theorem sZR (H:Hp):∀(f n out base:Nat),n<2^f->f<=64->out<18446744069414584321->aZp.l3 (RetE (U (((out+base*n)%18446744069414584321:Nat):Int)) H) (f+1) (base:Int) (n:Int) (out:Int) H:=fun f=>by
 generalize hp:18446744069414584321=p
 induction f with
 |zero=>
  intro n out base hn hf ho;obtain rfl:n=0:=by omega
  unfold aZp.l3;refine Zg (by omega) ?_;rw[Nat.mul_zero,Nat.add_zero,Nat.mod_eq_of_lt ho];exact RetE.mk _ _
 |succ f ih=>
  intro n out base hn hf ho;have hp0:0<p:=by omega
  have h64:2^(f+1)<=2^64:=Nat.pow_le_pow_right (by omega) hf;have hs:2^(f+1)=2*2^f:=by rw[Nat.pow_succ];omega
  have hn2:n/2<2^f:=by omega
  unfold aZp.l3;by_cases h0:n=0
  ·subst h0;refine Zg (by omega) ?_;rw[Nat.mul_zero,Nat.add_zero,Nat.mod_eq_of_lt ho];exact RetE.mk _ _
  refine Zm (by omega) ⟨by decide,by simp,?_⟩;have hm:Int.tmod (n:Int) 2=((n%2:Nat):Int):=rfl;have hd:u64.wrap (Int.tdiv (n:Int) 2)=((n/2:Nat):Int):=by
   rw[show Int.tdiv (n:Int) 2=((n/2:Nat):Int)from rfl,bZ5]
  rw[hm,hd];have hq2:=Nat.mod_lt (out+base) hp0;by_cases h1:n%2=1
  ·refine Zt (by omega) ?_;refine Za.use (kZi (a:=out) (b:=base) H) ?_;rw[hp];simp only[HV];refine Za.use (kZi (a:=base) (b:=base) H) ?_;rw[hp];simp only[HV];refine⟨by decide,by simp,?_⟩;have:=ih (n/2) ((out+base)%p) ((base+base)%p) hn2 (by omega) hq2;rw[kZA,show out+base+(base+base)*(n/2)=out+base*n by
    rw[← Nat.two_mul,Nat.mul_comm 2,Nat.mul_assoc,Nat.add_assoc,Nat.add_comm base,←Nat.mul_succ,Nat.succ_eq_add_one,show 2*(n/2)+1=n by omega]]at this
   exact this
  ·refine Zu (by omega) ?_;refine Za.use (kZi (a:=base) (b:=base) H) ?_;rw[hp];simp only[HV];refine⟨by decide,by simp,?_⟩;have:=ih (n/2) out ((base+base)%p) hn2 (by omega) ho;have e:=kZA p out (base+base) (n/2);rw[Nat.mod_eq_of_lt ho]at e;rw[e,show out+(base+base)*(n/2)=out+base*n by
    rw[← Nat.two_mul,Nat.mul_comm 2,Nat.mul_assoc,show 2*(n/2)=n by omega]]at this
   exact this
theorem gZK {a b:Nat}(hb:b<2^64)(H:Hp):Za prog 172 #[U (a:Int),U (b:Int)] H (RetE (U ((a*b%18446744069414584321:Nat):Int)) H):=by
 apply aZp.ok;unfold aZp;refine Za.use (lZ5 (a:=a) H) ?_;simp only[HV];refine⟨65,?_⟩;have:=sZR H 64 b 0 (a%18446744069414584321) hb (by omega) (by omega);rw[Nat.zero_add,nZm]at this;exact this
theorem sZS (H:Hp):∀(f n out base:Nat),n<2^f->f<=64->out<18446744069414584321->base<18446744069414584321->aZq.l3 (RetE (U ((out*base^n%18446744069414584321:Nat):Int)) H) (f+1) (base:Int) (n:Int) (out:Int) H:=fun f=>by
 generalize hp:18446744069414584321=p
 induction f with
 |zero=>
  intro n out base hn hf ho hb;obtain rfl:n=0:=by omega
  unfold aZq.l3;refine Zg (by omega) ?_;rw[Nat.pow_zero,Nat.mul_one,Nat.mod_eq_of_lt ho];exact RetE.mk _ _
 |succ f ih=>
  intro n out base hn hf ho hb;have hp0:0<p:=by omega
  have h64:2^(f+1)<=2^64:=Nat.pow_le_pow_right (by omega) hf;have hs:2^(f+1)=2*2^f:=by rw[Nat.pow_succ];omega
  have hn2:n/2<2^f:=by omega
  unfold aZq.l3;by_cases h0:n=0
  ·subst h0;refine Zg (by omega) ?_;rw[Nat.pow_zero,Nat.mul_one,Nat.mod_eq_of_lt ho];exact RetE.mk _ _
  refine Zm (by omega) ⟨by decide,by simp,?_⟩;have hm:Int.tmod (n:Int) 2=((n%2:Nat):Int):=rfl;have hd:u64.wrap (Int.tdiv (n:Int) 2)=((n/2:Nat):Int):=by
   rw[show Int.tdiv (n:Int) 2=((n/2:Nat):Int)from rfl,bZ5]
  rw[hm,hd];have hq:=Nat.mod_lt (base*base) hp0;have hq2:=Nat.mod_lt (out*base) hp0;by_cases h1:n%2=1
  ·refine Zt (by omega) ?_;refine Za.use (gZK (a:=out) (b:=base) (by omega) H) ?_;rw[hp];simp only[HV];refine Za.use (gZK (a:=base) (b:=base) (by omega) H) ?_;rw[hp];simp only[HV];refine⟨by decide,by simp,?_⟩;have:=ih (n/2) (out*base%p) (base*base%p) hn2 (by omega) hq2 hq;rw[kZB,show out*base*(base*base)^(n/2)=out*base^n by
    rw[← Nat.pow_two,←Nat.pow_mul,Nat.mul_assoc,←Nat.pow_succ',Nat.succ_eq_add_one,show 2*(n/2)+1=n by omega]]at this
   exact this
  ·refine Zu (by omega) ?_;refine Za.use (gZK (a:=base) (b:=base) (by omega) H) ?_;rw[hp];simp only[HV];refine⟨by decide,by simp,?_⟩;have:=ih (n/2) out (base*base%p) hn2 (by omega) ho hq;rw[jZE,show out*(base*base)^(n/2)=out*base^n by
    rw[← Nat.pow_two,←Nat.pow_mul,show 2*(n/2)=n by omega]]at this
   exact this
theorem mZI {a n:Nat}(hn:n<2^64)(H:Hp):Za prog 173 #[U (a:Int),U (n:Int)] H (RetE (U ((a^n%18446744069414584321:Nat):Int)) H):=by
 apply aZq.ok;unfold aZq;refine Za.use (lZ5 (a:=a) H) ?_;simp only[HV];refine⟨65,?_⟩;have:=sZS H 64 n 1 (a%18446744069414584321) hn (by omega) (by omega) (by omega);rw[Nat.one_mul,←Nat.pow_mod]at this;exact this
end Gol
end Go.Proofs.YtlgnlghmbcpmhaaGreatDoor
