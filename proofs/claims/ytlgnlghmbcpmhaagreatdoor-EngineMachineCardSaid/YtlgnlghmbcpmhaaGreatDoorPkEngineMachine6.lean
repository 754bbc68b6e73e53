import Derived.Test.YtlgnlghmbcpmhaaGreatDoorProg
import Derived.Test.YtlgnlghmbcpmhaaGreatDoorPkEngineMachine5
set_option maxRecDepth 100000
set_option linter.unusedVariables false
set_option linter.unusedSimpArgs false
set_option linter.unnecessarySimpa false
set_option linter.unusedSectionVars false
open Go.IntKind (i64 u64)
namespace Go.Proofs.YtlgnlghmbcpmhaaGreatDoor
open Tryz (prog)
namespace W
open Go Go.Hw
theorem iZI :prog.follows .mixedOrders=true:=by kernel_rfl
def hZu (A1:OA)(n1 m1:Nat)(H:Hp)(K:VK):Prop:=
 Hz 147 #[I (n1:Int)] H fun v1 H1=>iZt v1 fun x1 c1=>(Nw H1 (Is #[I 0] 3) fun b1 H2=>St H2 ((O b1).add 0) (I x1) fun H3=>BIf (!c1) (K (.tuple #[.slice none 0 0,I 4]) H3) (HcS 370 #[.slice A1 n1 m1,.func (.func 371) #[] #[V b1]] H3 fun A2 n2 m2 H4=>K (.tuple #[.slice A2 n2 m2,I 0]) H4))
theorem hZu.ok A1 n1 m1 H K (h:hZu A1 n1 m1 H K):Za prog 366 #[.slice A1 n1 m1] H K:=
 okN iZI Tryz.func366 rfl rfl h
def bZf.l3 (K:VK):Nat->FuncId->Array Value->Array Value->OA->Nat->Nat->OA->Nat->Nat->Int->Int->Hp->Prop
 |0,_,_,_,_,_,_,_,_,_,_,_,_=>False
 |k+1,fd2,F2,C2,A3,n3,m3,A4,n4,m4,x1,x2,H=>
  let R3:=bZf.l3 K k
  BIf (decide (x2<x1)) (ixI x2 n4 (NN A4 fun a1=>LeW H (a1.add (x2.toNat*1)) fun x3=>dZ1 prog fd2 ((F2++ #[I x2])++C2) H fun v3 H2=>DR prog (bZA prog fd2) v3 fun v4=>DI .i64 v4 fun x4=>ixI x4 n3 (NN A3 fun a2=>St H2 ((a2.add (x4.toNat*1)).add 0) (U x3) fun H3=>R3 fd2 F2 C2 A3 n3 m3 A4 n4 m4 x1 (i64.wrap (x2+1)) H3))) (K (.slice A3 n3 m3) H)
def bZf (A1:OA)(n1 m1:Nat)(fd1:FuncId)(F1 C1:Array Value)(H:Hp)(K:VK):Prop:=
 MkS prog 108 (n1:Int) (n1:Int) H fun v1 H1=>DSl v1 fun A2 n2 m2=>(∃ k,bZf.l3 K k fd1 F1 C1 A2 n2 m2 A1 n1 m1 (n1:Int) 0 H1)
def bZf.l3.L (K:VK)(k:Nat):Mid:=fun E D H=>
 DG (E.get? 1) fun w1=>DFn w1 fun fd2 F2 C2=>DG (E.get? 5) fun w5=>DSl w5 fun A3 n3 m3=>DG (E.get? 11) fun w11=>DSl w11 fun A4 n4 m4=>eI E 12 .i64 fun x1=>eI E 13 .i64 fun x2=>Zj D (bZf.l3 K k fd2 F2 C2 A3 n3 m3 A4 n4 m4 x1 x2 H)
def bZf.Λ3 (_:VK)(_R3:FuncId->Array Value->Array Value->OA->Nat->Nat->OA->Nat->Nat->Int->Int->Hp->Prop):Zs:=Zs.none (fun _=>none)
def bZf.Λ (K:VK):Zs:=⟨fun i=>none,fun i=>match Nat.beq i 3 with|true=>some (fun E D H=>∃ k,bZf.l3.L K k E D H)|false=>none,(fun _=>none)⟩
theorem bZf.ok A1 n1 m1 fd1 F1 C1 H K (h:bZf A1 n1 m1 fd1 F1 C1 H K):Za prog 370 #[.slice A1 n1 m1,.func (.func fd1) F1 C1] H K:=
 okL (Λ:=(bZf.Λ K)) iZI Tryz.func370 rfl rfl h (oC (fun E D H h=>by
   refine Safe.loop' (bZf.l3.L K) (fun E D H h=>?_) (fun k E D H h=>?_) E D H h
   ·obtain⟨w1,e1,g1⟩:=DG.out h;obtain⟨fd2,F2,C2,rfl,g2⟩:=DFn.out g1;obtain⟨w5,e5,g3⟩:=DG.out g2;obtain⟨A3,n3,m3,rfl,g4⟩:=DSl.out g3;obtain⟨w11,e11,g5⟩:=DG.out g4;obtain⟨A4,n4,m4,rfl,g6⟩:=DSl.out g5;obtain⟨w12,e12,g7⟩:=DG.out g6;obtain⟨x1,rfl,g8⟩:=DI.out g7;obtain⟨w13,e13,g9⟩:=DG.out g8;obtain⟨x2,rfl,g10⟩:=DI.out g9;obtain⟨rfl,h'⟩:=Zj.out g10;exact h'
   ·obtain⟨w1,e1,g1⟩:=DG.out h;obtain⟨fd2,F2,C2,rfl,g2⟩:=DFn.out g1;obtain⟨w5,e5,g3⟩:=DG.out g2;obtain⟨A3,n3,m3,rfl,g4⟩:=DSl.out g3;obtain⟨w11,e11,g5⟩:=DG.out g4;obtain⟨A4,n4,m4,rfl,g6⟩:=DSl.out g5;obtain⟨x1,e12,g8⟩:=GI g6;obtain⟨x2,e13,g10⟩:=GI g8;obtain⟨rfl,h'⟩:=Zj.out g10;exact okJ (Λ:=(bZf.Λ3 K (bZf.l3 K k))) iZI [] (Zc.cons e1 (Zc.cons e5 (Zc.cons e11 (Zc.cons e12 (Zc.cons e13 (Zc.nil _)))))) h' oN) oN)
def gZe (x1:Int)(p1:OA)(H:Hp)(K:VK):Prop:=
 NN p1 fun a1=>LeI H a1 fun x2=>HcI 372 #[I x1,I x2] H fun x3 H1=>K (I x3) H1
theorem gZe.ok x1 p1 H K (h:gZe x1 p1 H K):Za prog 371 #[I x1,.pointer p1] H K:=
 okN iZI Tryz.func371 rfl rfl h
def gZf (x1 x2:Int)(H:Hp)(K:VK):Prop:=
 HcW 375 #[U (u64.wrap x1)] H fun x3 H1=>(0<=(1:Int)/\(0<=(u64.wrap (i64.wrap (63-x2)))/\K (I (i64.wrap (aZC .u64 (aZC .u64 x3 1) (u64.wrap (i64.wrap (63-x2)))))) H1))
theorem gZf.ok x1 x2 H K (h:gZf x1 x2 H K):Za prog 372 #[I x1,I x2] H K:=
 okN iZI Tryz.func372 rfl rfl h
end W
namespace Ker
open Go Go.Hw W Shp Gol Fft
theorem bZS :bZp prog 108=some (1,8,some #[.int .u64 0]):=by kernel_rfl
theorem lZi (ws:List UInt64)(i:Nat)(w:UInt64):(Zb ws).set i (U (w.toNat:Int))=Zb (ws.set i w):=by
 unfold Zb;rw[List.map_set]
theorem jZ1 (n:Nat):aZH [Value.int .u64 0] n=Zb (List.replicate n 0):=by
 rw[bZC];unfold Zb;rw[List.map_replicate];rfl
theorem iZQ (m:BitVec 64)(d:Nat)(hd:d<=64)(x:BitVec 64){mi di:Int}(hm:mi=(m.toNat:Int))(hdi:di=(d:Nat)):
  bOr .u64 (aZD .u64 (aZC .u64 (x.toNat:Int) di) mi) (aZR .u64 (aZD .u64 (x.toNat:Int) mi) di)=((swp m d x).toNat:Int):=by
 subst hm;rw[oZd x hdi hd,uZ2,uZ2,uZ9 _ hdi hd,xZi];rfl
def xZ9 (x:BitVec 64):BitVec 64:=
 let x:=swp 0x00ff00ff00ff00ff#64 8 x
 let x:=swp 0x0000ffff0000ffff#64 16 x
 (x>>>32)|||(x<<<32)
theorem pZA (x:BitVec 64)(H:Hp):Za prog 376 #[U (x.toNat:Int)] H (RetE (U ((xZ9 x).toNat:Int)) H):=by
 apply cZe.ok;unfold cZe;refine⟨by decide,by decide,by decide,by decide,by decide,by decide,?_⟩;rw[iZQ 0x00ff00ff00ff00ff#64 8 (by decide) x (mi:=71777214294589695) (di:=8) (by decide) rfl,iZQ 0x0000ffff0000ffff#64 16 (by decide) _ (mi:=281470681808895) (di:=16) (by decide) rfl,Hw.oZd _ (i:=32) (n:=32) rfl (by decide),Hw.uZ9 _ (i:=32) (n:=32) rfl (by decide),xZi];exact RetE.mk _ _
theorem qZN (x:BitVec 64)(H:Hp):Za prog 375 #[U (x.toNat:Int)] H (RetE (U ((oZc x).toNat:Int)) H):=by
 apply cZ0.ok;unfold cZ0;refine⟨by decide,by decide,by decide,by decide,by decide,by decide,?_⟩;rw[iZQ 0x5555555555555555#64 1 (by decide) x (mi:=6148914691236517205) (di:=1) (by decide) rfl,iZQ 0x3333333333333333#64 2 (by decide) _ (mi:=3689348814741910323) (di:=2) (by decide) rfl,iZQ 0x0f0f0f0f0f0f0f0f#64 4 (by decide) _ (mi:=1085102592571150095) (di:=4) (by decide) rfl];refine Za.use (pZA _ H) ?_;simp only[HV];exact RetE.mk _ _
theorem tZj {k i:Nat}(hk:k<=32)(hi:i<2^k)(H:Hp):Za prog 372 #[I (i:Int),I (k:Int)] H (RetE (I ((rv k i:Nat):Int)) H):=by
 have h32:=aZP hk;have hr:=kZk k i;apply gZf.ok;unfold gZf;rw[bZ5];have e:((i:Nat):Int)=((BitVec.ofNat 64 i).toNat:Int):=by rw[BitVec.toNat_ofNat,Nat.mod_eq_of_lt (by omega)]
 rw[e];refine Za.use (qZN _ H) ?_;simp only[HV];have e2:u64.wrap (i64.wrap (63-(k:Int)))=((63-k:Nat):Int):=by rw[ZM,dZl];omega
 rw[e2,Hw.oZd _ (i:=1) (n:=1) rfl (by decide),Hw.oZd _ (n:=63-k) rfl (by omega),BitVec.toNat_ushiftRight,BitVec.toNat_ushiftRight,←Nat.shiftRight_add,show 1+(63-k)=64-k by omega,xZq hk hi,bZc];exact⟨by decide,by omega,RetE.mk _ _⟩
def gZx (k:Nat)(l:List UInt64)(i:Nat):List UInt64:=(List.range (2^k)).map fun p=>if rv k p<i then l.getD (rv k p) 0 else 0
theorem nZH (k:Nat)(l:List UInt64)(i:Nat):(gZx k l i).length=2^k:=by simp[gZx]
theorem rZv (k:Nat)(l:List UInt64):List.replicate (2^k) 0=gZx k l 0:=by
 unfold gZx;apply List.ext_getElem?;intro j;rw[List.getElem?_map];by_cases h:j<2^k
 ·rw[List.getElem?_range h,List.getElem?_eq_getElem (by simpa using h)];simp
 ·rw[List.getElem?_eq_none (by simp;omega),List.getElem?_eq_none (by simp;omega)];rfl
theorem tZi (k:Nat)(l:List UInt64):gZx k l (2^k)=eZE k l:=by
 unfold gZx eZE;apply List.map_congr_left;intro p _;rw[if_pos (kZk k p)]
theorem rZu (k:Nat)(l:List UInt64){i:Nat}(hi:i<2^k):(gZx k l i).set (rv k i) (l.getD i 0)=gZx k l (i+1):=by
 apply List.ext_getElem?;intro p;rw[List.getElem?_set,nZH];unfold gZx;rw[List.getElem?_map,List.getElem?_map];by_cases hp:p<2^k
 ·rw[List.getElem?_range hp];by_cases e:rv k i=p
  ·rw[if_pos e,if_pos (by omega),←e];show some _=some (if rv k (rv k i)<i+1 then l.getD (rv k (rv k i)) 0 else 0)
   rw[uZ8 k i hi,if_pos (by omega)]
  ·rw[if_neg e];show some (if rv k p<i then _ else _)=some (if rv k p<i+1 then _ else _)
   have:rv k p≠i:=fun h=>e (by rw[← h,uZ8 k p hp])
   by_cases h:rv k p<i
   ·rw[if_pos h,if_pos (by omega)]
   ·rw[if_neg h,if_neg (by omega)]
 ·rw[List.getElem?_eq_none (by simp;omega)];have:=kZk k i;rw[if_neg (by omega)];rfl
theorem lZl {t:TypeId}(ht:prog.underlying t=some (.int .i64))(n:Int)(K:Value->Prop)(k:K (I n)):DR prog [t] (I n) K:=by
 show DT prog t (I n) K
 unfold DT;rw[ht];exact k
section
variable {R : As} {A : Option Addr} {n m k : Nat} {l : List UInt64}
theorem nZn (K:VK)(hR:∀ H,R H->Cells H A (Zb l))(hn:n=2^k)(hl:l.length=n)(hk:k<=32){b1 r mr:Nat}
  (hK:∀ H,Sep [pts r (.row (Zb (eZE k l)) 108 mr),pts b1 (Is #[I (k:Int)] 3),R] H->K (.slice (Io r) n n) H):
  ∀(t i:Nat) (H:Hp),i+t=n->Sep [pts r (.row (Zb (gZx k l i)) 108 mr),pts b1 (Is #[I (k:Int)] 3),R] H->
   bZf.l3 K (t+1) 371 #[] #[V b1] (Io r) n n A n m (n:Int) (i:Int) H
 |0,i,H,hi,hs=>by
  unfold bZf.l3;refine Zg (by omega) (hK H ?_);rw[← tZi,←hn,show n=i by omega];exact hs
 |t+1,i,H,hi,hs=>by
  have h32:=aZP hk;have hr:=kZk k i;have hc:Cells H A (Zb l):=by
   obtain⟨H1,h1,hle⟩:=hs.see 2 rfl;exact(hR H1 h1).le hle
  unfold bZf.l3;refine Zm (by omega) ?_;have hg:(Zb l)[i]? =some (U ((l.getD i 0).toNat:Int)):=by
   rw[aZ5,List.getD_eq_getElem?_getD,List.getElem?_eq_getElem (by omega)];rfl
  refine hc.read hg rfl (by rw[Zq];omega) ?_;simp only[HV];refine aZE (by kernel_rfl) ?_;have hf:Za prog 371 #[I (i:Int),V b1] H (RetE (I ((rv k i:Nat):Int)) H):=by
   apply gZe.ok;unfold gZe;simp only[aZ0];refine hs.ld 1 rfl rfl ?_;simp only[HV];refine Za.use (tZj hk (by omega) H) ?_;simp only[HV];exact RetE.mk _ _
  refine Za.use hf ?_;have hrt:bZA prog 371=[3]:=by kernel_rfl
  rw[hrt];refine lZl (by kernel_rfl) _ _ ?_;simp only[HV];refine⟨by omega,by omega,?_⟩;show St H _ _ _
  rw[Int.toNat_natCast,Nat.mul_one,Addr.add_lit',Addr.add_lit',Nat.zero_add,Nat.add_zero];refine hs.str 0 rfl (by rw[Zq,nZH];omega) rfl fun H hs=>?_;rw[lZi,rZu k l (by omega)]at hs;rw[ZM (x:=(i:Int)+1),show(i:Int)+1=((i+1:Nat):Int) by omega];exact nZn K hR hn hl hk hK t (i+1) H (by omega) hs
theorem vZv {TT:As}(hT:∀ H,TT H->T64 H)(hR:∀ H,R H->Cells H A (Zb l))(hn:n=2^k)(hl:l.length=n)(hk:k<=20):
  Tr prog 366 #[.slice A n m] [R,TT] fun v M=>∃ r,v= .tuple #[.slice (Io r) n n,I 0]/\M=[pts r (.row (Zb (eZE k l)) 108 (n*1)),R,TT]:=fun H hs=>by
 have h20:=aZP hk;apply hZu.ok;unfold hZu;have hT0:T64 H:=by
  obtain⟨H1,h1,hle⟩:=hs.see 1 rfl;exact(hT H1 h1).le hle
 refine Za.use (iZA (n:Int) H hT0) ?_;rw[show aZ3 (n:Int)= .tuple #[I (k:Int),.bool true] by unfold aZ3;rw[hn,iZG]];simp only[HV];refine hs.nw fun b1 H hs=>?_
 simp only[Addr.add_zero];refine hs.st 2 rfl (Nat.lt_of_sub_eq_succ rfl) rfl fun H hs=>?_;have hs:Sep [R,TT,pts b1 (Is #[I (k:Int)] 3)] H:=hs;have hm:Tr prog 370 #[.slice A n m,.func (.func 371) #[] #[V b1]] [pts b1 (Is #[I (k:Int)] 3),R] fun v M=>
   ∃ r,v= .slice (Io r) n n/\M=[pts r (.row (Zb (eZE k l)) 108 (n*1)),R]:=fun H hs=>by
  apply bZf.ok;unfold bZf;refine hs.mks bZS rfl (n:=n) (m:=n) rfl rfl (Nat.le_refl _) (by omega) (by omega) fun r H hs=>?_
  simp only[HV];refine⟨n+1,?_⟩;have hs:Sep [pts b1 (Is #[I (k:Int)] 3),R,pts r (.row (Zb (gZx k l 0)) 108 (n*1))] H:=by
   rw[← rZv,←hn,←jZ1];exact hs
  exact nZn _ hR hn hl (by omega) (fun H hs=>⟨_,⟨r,rfl,rfl⟩,hs.re [0,2] rfl⟩) n 0 H (by omega) (hs.re [2,0,1] rfl)
 refine hm.use hs [2,0] rfl rfl ?_;rintro _ _ H ⟨r,rfl,rfl⟩ hs;simp only[HV];exact⟨_,⟨r,rfl,rfl⟩,hs.re [0,1,2] rfl⟩
end
end Ker
namespace W
open Go Go.Hw
theorem dZX :prog.follows .mixedOrders=true:=by kernel_rfl
def gZm (x1:Int)(H:Hp)(K:VK):Prop:=
 BIf (decide (x1<0)) (K (.tuple #[U 0,I 1]) H) (BIf (decide (x1>32)) (K (.tuple #[U 0,I 1]) H) ((0<=(u64.wrap x1)/\Hz 178 #[U (aZR .u64 1 (u64.wrap x1))] H fun v1 H1=>hZi v1 fun x2 x3=>(K (.tuple #[U x2,I x3]) H1))))
theorem gZm.ok x1 H K (h:gZm x1 H K):Za prog 118 #[I x1] H K:=
 okN dZX Tryz.func118 rfl rfl h
def gZ4 (x1 x2:Int)(H:Hp)(K:VK):Prop:=
 BIf (decide (x1<0)) (K (.tuple #[U 0,I 1]) H) (BIf (decide (x1>32)) (K (.tuple #[U 0,I 1]) H) (BIf (x2==0) (Hz 310 #[I x1] H fun v1 H1=>hZi v1 fun x3 x4=>(K (.tuple #[U x3,I x4]) H1)) (BIf (x2==1) (Hz 311 #[I x1] H fun v4 H2=>hZi v4 fun x5 x6=>(K (.tuple #[U x5,I x6]) H2)) (K (.tuple #[U 0,I 18]) H))))
theorem gZ4.ok x1 x2 H K (h:gZ4 x1 x2 H K):Za prog 247 #[I x1,I x2] H K:=
 okN dZX Tryz.func247 rfl rfl h
def gZn (x1 x2:Int)(H:Hp)(K:VK):Prop:=
 Hz 247 #[I x1,I x2] H fun v1 H1=>hZi v1 fun x3 x4=>(BIf (x4 !=0) (K (.tuple #[.slice none 0 0,I x4]) H1) (BIf (decide (x1>20)) (K (.tuple #[.slice none 0 0,I 14]) H1) ((0<=(u64.wrap x1)/\(0<=(1:Int)/\Hz 248 #[U x3,I (if 1>(aZC .i64 (aZR .i64 1 (u64.wrap x1)) 1)then 1 else(aZC .i64 (aZR .i64 1 (u64.wrap x1)) 1))] H1 fun v4 H2=>eZe v4 fun A1 n1 m1 x5=>(K (.tuple #[.slice A1 n1 m1,I x5]) H2))))))
theorem gZn.ok x1 x2 H K (h:gZn x1 x2 H K):Za prog 345 #[I x1,I x2] H K:=
 okN dZX Tryz.func345 rfl rfl h
def aZh.l15 (K:VK)(R10:OA->Nat->Nat->Addr->Int->OA->Nat->Nat->Int->Int->Hp->Prop):Nat->OA->Nat->Nat->Addr->Int->OA->Nat->Nat->Int->Int->Int->Int->OA->Nat->Nat->Int->Int->Hp->Prop
 |0,_,_,_,_,_,_,_,_,_,_,_,_,_,_,_,_,_,_=>False
 |k+1,A5,n7,m5,a2,x21,A6,n8,m6,x22,x23,x24,x25,A7,n9,m7,x26,x27,H=>
  let R15:=aZh.l15 K R10 k
  BIf (decide (x27<x26)) (ixI x27 n9 (NN A7 fun a3=>LeW H (a3.add (x27.toNat*1)) fun x28=>HcW 120 #[U x28,U x23] H fun x29 H8=>Nw H8 (.row [U x29] 108 1) fun b2 H9=>cZ8 prog 108 (.slice A6 n8 m6) (.slice (Io b2) 1 1) H9 fun v18 H10=>DSl v18 fun A8 n10 m8=>HcW 120 #[U x23,U x22] H10 fun x30 H11=>R15 A5 n7 m5 a2 x21 A8 n10 m8 x22 x30 x24 x25 A7 n9 m7 x26 (i64.wrap (x27+1)) H11)) (R10 A5 n7 m5 a2 x21 A6 n8 m6 x24 (i64.wrap (x25+1)) H)
def aZh.l10 (K:VK):Nat->OA->Nat->Nat->Addr->Int->OA->Nat->Nat->Int->Int->Hp->Prop
 |0,_,_,_,_,_,_,_,_,_,_,_=>False
 |k+1,A3,n3,m3,a1,x12,A4,n4,m4,x13,x14,H=>
  let R10:=aZh.l10 K k
  BIf (decide (x14<x13)) (LeI H (a1.add 2) fun x15=>HcW 246 #[U x12,U (u64.wrap (i64.wrap (x15+x14)))] H fun x16 H6=>LeI H6 (a1.add 3) fun x17=>HcW 246 #[U x16,U (u64.wrap x17)] H6 fun x18 H7=>LeI H7 ((a1.add 0).add 1) fun x19=>LeI H7 ((a1.add 0).add 1) fun x20=>slB n3 m3 (some (i64.wrap (x14*x19))) (some (i64.wrap ((i64.wrap (x14+1))*x20))) fun n5 n6=>(∃ k,aZh.l15 K R10 k A3 n3 m3 a1 x12 A4 n4 m4 x16 x18 x13 x14 (slA A3 m3 n5 1) (n6-n5) (m3-n5) ((n6-n5:Nat):Int) 0 H7)) (K (.tuple #[.slice A4 n4 m4,I 0]) H)
def aZh (A1:OA)(n1 m1:Nat)(x1 x2 x3 x4 x5 x6:Int)(H:Hp)(K:VK):Prop:=
 Nw H (Is #[I x1,I x2,I x3,I x4] 464) fun b1 H1=>Hz 247 #[I x5,I x6] H1 fun v1 H2=>hZi v1 fun x7 x8=>(BIf (x8 !=0) (K (.tuple #[.slice none 0 0,I x8]) H2) (LdA H2 ((O b1).add 0) 2 fun l4=>HcB 297 #[.agg l4.toArray] H2 fun c1 H3=>BIf (!c1) (K (.tuple #[.slice none 0 0,I 19]) H3) (LeI H3 (((O b1).add 0).add 0) fun x9=>LeI H3 (((O b1).add 0).add 1) fun x10=>BIf ((n1:Int) !=(i64.wrap (x9*x10))) (K (.tuple #[.slice none 0 0,I 19]) H3) (LdA H3 (O b1) 4 fun l5=>HcB 368 #[.agg l5.toArray] H3 fun c2 H4=>BIf (!c2) (K (.tuple #[.slice none 0 0,I 2]) H4) (MkS prog 108 0 (n1:Int) H4 fun v8 H5=>DSl v8 fun A2 n2 m2=>LeI H5 (((O b1).add 0).add 0) fun x11=>(∃ k,aZh.l10 K k A1 n1 m1 (O b1) x7 A2 n2 m2 x11 0 H5))))))
def aZh.l10.L (K:VK)(k:Nat):Mid:=fun E D H=>
 DG (E.get? 0) fun w0=>DSl w0 fun A3 n3 m3=>eN E 5 fun a1=>eI E 10 .u64 fun x12=>DG (E.get? 12) fun w12=>DSl w12 fun A4 n4 m4=>eI E 54 .i64 fun x13=>eI E 55 .i64 fun x14=>Zj D (aZh.l10 K k A3 n3 m3 a1 x12 A4 n4 m4 x13 x14 H)
def aZh.l15.L (K:VK)(R10:OA->Nat->Nat->Addr->Int->OA->Nat->Nat->Int->Int->Hp->Prop)(k:Nat):Mid:=fun E D H=>
 DG (E.get? 0) fun w0=>DSl w0 fun A5 n7 m5=>eN E 5 fun a2=>eI E 10 .u64 fun x21=>DG (E.get? 12) fun w12=>DSl w12 fun A6 n8 m6=>eI E 14 .u64 fun x22=>eI E 15 .u64 fun x23=>eI E 54 .i64 fun x24=>eI E 55 .i64 fun x25=>DG (E.get? 82) fun w82=>DSl w82 fun A7 n9 m7=>eI E 83 .i64 fun x26=>eI E 84 .i64 fun x27=>Zj D (aZh.l15 K R10 k A5 n7 m5 a2 x21 A6 n8 m6 x22 x23 x24 x25 A7 n9 m7 x26 x27 H)
def aZh.Λ15 (_:VK)(_R10:OA->Nat->Nat->Addr->Int->OA->Nat->Nat->Int->Int->Hp->Prop)(_R15:OA->Nat->Nat->Addr->Int->OA->Nat->Nat->Int->Int->Int->Int->OA->Nat->Nat->Int->Int->Hp->Prop):Zs:=Zs.none (fun _=>none)
def aZh.Λ10 (K:VK)(R10:OA→Nat→Nat→Addr→Int→OA→Nat→Nat→Int→Int→Hp→Prop):Zs:=⟨fun i=>none,fun i=>match Nat.beq i 15 with|true=>some (fun E D H=>∃ k,aZh.l15.L K R10 k E D H)|false=>none,(fun _=>none)⟩
def aZh.Λ (K:VK):Zs:=⟨fun i=>none,fun i=>match Nat.beq i 10 with|true=>some (fun E D H=>∃ k,aZh.l10.L K k E D H)|false=>none,(fun _=>none)⟩
theorem aZh.ok A1 n1 m1 x1 x2 x3 x4 x5 x6 H K (h:aZh A1 n1 m1 x1 x2 x3 x4 x5 x6 H K):Za prog 361 #[.slice A1 n1 m1,.agg #[I x1,I x2,I x3,I x4],I x5,I x6] H K:=
 okL (Λ:=(aZh.Λ K)) dZX Tryz.func361 rfl rfl h (oC (fun E D H h=>by
   refine Safe.loop' (aZh.l10.L K) (fun E D H h=>?_) (fun k E D H h=>?_) E D H h
   ·obtain⟨w0,e0,g1⟩:=DG.out h;obtain⟨A3,n3,m3,rfl,g2⟩:=DSl.out g1;obtain⟨w5,e5,g3⟩:=DG.out g2;obtain⟨pw5,rfl,g4⟩:=DP.out g3;obtain⟨a1,rfl,g5⟩:=NN.out g4;obtain⟨w10,e10,g6⟩:=DG.out g5;obtain⟨x12,rfl,g7⟩:=DI.out g6;obtain⟨w12,e12,g8⟩:=DG.out g7;obtain⟨A4,n4,m4,rfl,g9⟩:=DSl.out g8;obtain⟨w54,e54,g10⟩:=DG.out g9;obtain⟨x13,rfl,g11⟩:=DI.out g10;obtain⟨w55,e55,g12⟩:=DG.out g11;obtain⟨x14,rfl,g13⟩:=DI.out g12;obtain⟨rfl,h'⟩:=Zj.out g13;exact h'
   ·obtain⟨w0,e0,g1⟩:=DG.out h;obtain⟨A3,n3,m3,rfl,g2⟩:=DSl.out g1;obtain⟨a1,e5,g5⟩:=GN g2;obtain⟨x12,e10,g7⟩:=GI g5;obtain⟨w12,e12,g8⟩:=DG.out g7;obtain⟨A4,n4,m4,rfl,g9⟩:=DSl.out g8;obtain⟨x13,e54,g11⟩:=GI g9;obtain⟨x14,e55,g13⟩:=GI g11;obtain⟨rfl,h'⟩:=Zj.out g13;exact okJ (Λ:=(aZh.Λ10 K (aZh.l10 K k))) dZX [] (Zc.cons e0 (Zc.cons e5 (Zc.cons e10 (Zc.cons e12 (Zc.cons e54 (Zc.cons e55 (Zc.nil _))))))) h' (oC (fun E D H h=>by
      refine Safe.loop' (aZh.l15.L K (aZh.l10 K k)) (fun E D H h=>?_) (fun k E D H h=>?_) E D H h
      ·obtain⟨w0,e0,g1⟩:=DG.out h;obtain⟨A5,n7,m5,rfl,g2⟩:=DSl.out g1;obtain⟨w5,e5,g3⟩:=DG.out g2;obtain⟨pw5,rfl,g4⟩:=DP.out g3;obtain⟨a2,rfl,g5⟩:=NN.out g4;obtain⟨w10,e10,g6⟩:=DG.out g5;obtain⟨x21,rfl,g7⟩:=DI.out g6;obtain⟨w12,e12,g8⟩:=DG.out g7;obtain⟨A6,n8,m6,rfl,g9⟩:=DSl.out g8;obtain⟨w14,e14,g10⟩:=DG.out g9;obtain⟨x22,rfl,g11⟩:=DI.out g10;obtain⟨w15,e15,g12⟩:=DG.out g11;obtain⟨x23,rfl,g13⟩:=DI.out g12;obtain⟨w54,e54,g14⟩:=DG.out g13;obtain⟨x24,rfl,g15⟩:=DI.out g14;obtain⟨w55,e55,g16⟩:=DG.out g15;obtain⟨x25,rfl,g17⟩:=DI.out g16;obtain⟨w82,e82,g18⟩:=DG.out g17;obtain⟨A7,n9,m7,rfl,g19⟩:=DSl.out g18;obtain⟨w83,e83,g20⟩:=DG.out g19;obtain⟨x26,rfl,g21⟩:=DI.out g20;obtain⟨w84,e84,g22⟩:=DG.out g21;obtain⟨x27,rfl,g23⟩:=DI.out g22;obtain⟨rfl,h'⟩:=Zj.out g23;exact h'
      ·obtain⟨w0,e0,g1⟩:=DG.out h;obtain⟨A5,n7,m5,rfl,g2⟩:=DSl.out g1;obtain⟨a2,e5,g5⟩:=GN g2;obtain⟨x21,e10,g7⟩:=GI g5;obtain⟨w12,e12,g8⟩:=DG.out g7;obtain⟨A6,n8,m6,rfl,g9⟩:=DSl.out g8;obtain⟨x22,e14,g11⟩:=GI g9;obtain⟨x23,e15,g13⟩:=GI g11;obtain⟨x24,e54,g15⟩:=GI g13;obtain⟨x25,e55,g17⟩:=GI g15;obtain⟨w82,e82,g18⟩:=DG.out g17;obtain⟨A7,n9,m7,rfl,g19⟩:=DSl.out g18;obtain⟨x26,e83,g21⟩:=GI g19;obtain⟨x27,e84,g23⟩:=GI g21;obtain⟨rfl,h'⟩:=Zj.out g23;exact okJ (Λ:=(aZh.Λ15 K (aZh.l10 K k) (aZh.l15 K (aZh.l10 K k) k))) dZX [] (Zc.cons e0 (Zc.cons e5 (Zc.cons e10 (Zc.cons e12 (Zc.cons e14 (Zc.cons e15 (Zc.cons e54 (Zc.cons e55 (Zc.cons e82 (Zc.cons e83 (Zc.cons e84 (Zc.nil _)))))))))))) h' oN) oN)) oN)
def aZU.l3 (K:VK):Nat->Int->OA->Nat->Nat->OA->Nat->Nat->Int->Int->Hp->Prop
 |0,_,_,_,_,_,_,_,_,_,_=>False
 |k+1,x2,A3,n3,m3,A4,n4,m4,x3,x4,H=>
  let R3:=aZU.l3 K k
  BIf (decide (x4<x3)) (ixI x4 n4 (NN A4 fun a1=>LeW H (a1.add (x4.toNat*1)) fun x5=>HcW 120 #[U x5,U x2] H fun x6 H2=>ixI x4 n3 (NN A3 fun a2=>St H2 ((a2.add (x4.toNat*1)).add 0) (U x6) fun H3=>R3 x2 A3 n3 m3 A4 n4 m4 x3 (i64.wrap (x4+1)) H3))) (K (.slice A3 n3 m3) H)
def aZU (A1:OA)(n1 m1:Nat)(x1:Int)(H:Hp)(K:VK):Prop:=
 MkS prog 108 (n1:Int) (n1:Int) H fun v1 H1=>DSl v1 fun A2 n2 m2=>(∃ k,aZU.l3 K k x1 A2 n2 m2 A1 n1 m1 (n1:Int) 0 H1)
def aZU.l3.L (K:VK)(k:Nat):Mid:=fun E D H=>
 eI E 1 .u64 fun x2=>DG (E.get? 5) fun w5=>DSl w5 fun A3 n3 m3=>DG (E.get? 11) fun w11=>DSl w11 fun A4 n4 m4=>eI E 12 .i64 fun x3=>eI E 13 .i64 fun x4=>Zj D (aZU.l3 K k x2 A3 n3 m3 A4 n4 m4 x3 x4 H)
def aZU.Λ3 (_:VK)(_R3:Int->OA->Nat->Nat->OA->Nat->Nat->Int->Int->Hp->Prop):Zs:=Zs.none (fun _=>none)
def aZU.Λ (K:VK):Zs:=⟨fun i=>none,fun i=>match Nat.beq i 3 with|true=>some (fun E D H=>∃ k,aZU.l3.L K k E D H)|false=>none,(fun _=>none)⟩
theorem aZU.ok A1 n1 m1 x1 H K (h:aZU A1 n1 m1 x1 H K):Za prog 362 #[.slice A1 n1 m1,U x1] H K:=
 okL (Λ:=(aZU.Λ K)) dZX Tryz.func362 rfl rfl h (oC (fun E D H h=>by
   refine Safe.loop' (aZU.l3.L K) (fun E D H h=>?_) (fun k E D H h=>?_) E D H h
   ·obtain⟨w1,e1,g1⟩:=DG.out h;obtain⟨x2,rfl,g2⟩:=DI.out g1;obtain⟨w5,e5,g3⟩:=DG.out g2;obtain⟨A3,n3,m3,rfl,g4⟩:=DSl.out g3;obtain⟨w11,e11,g5⟩:=DG.out g4;obtain⟨A4,n4,m4,rfl,g6⟩:=DSl.out g5;obtain⟨w12,e12,g7⟩:=DG.out g6;obtain⟨x3,rfl,g8⟩:=DI.out g7;obtain⟨w13,e13,g9⟩:=DG.out g8;obtain⟨x4,rfl,g10⟩:=DI.out g9;obtain⟨rfl,h'⟩:=Zj.out g10;exact h'
   ·obtain⟨x2,e1,g2⟩:=GI h;obtain⟨w5,e5,g3⟩:=DG.out g2;obtain⟨A3,n3,m3,rfl,g4⟩:=DSl.out g3;obtain⟨w11,e11,g5⟩:=DG.out g4;obtain⟨A4,n4,m4,rfl,g6⟩:=DSl.out g5;obtain⟨x3,e12,g8⟩:=GI g6;obtain⟨x4,e13,g10⟩:=GI g8;obtain⟨rfl,h'⟩:=Zj.out g10;exact okJ (Λ:=(aZU.Λ3 K (aZU.l3 K k))) dZX [] (Zc.cons e1 (Zc.cons e5 (Zc.cons e11 (Zc.cons e12 (Zc.cons e13 (Zc.nil _)))))) h' oN) oN)
def fZd (x1 x2 x3 x4:Int)(H:Hp)(K:VK):Prop:=
 Nw H (Is #[I x1,I x2,I x3,I x4] 464) fun b1 H1=>LeI H1 ((O b1).add 2) fun x5=>HcB 374 #[I x5] H1 fun c1 H2=>BIf c1 (LeI H2 ((O b1).add 3) fun x6=>HcB 374 #[I x6] H2 fun c2 H3=>BIf c2 (LeI H3 (((O b1).add 0).add 0) fun x7=>LeI H3 ((O b1).add 2) fun x8=>BIf (decide ((i64.wrap (x7-1))<=(i64.wrap (4294967295-x8)))) (LeI H3 (((O b1).add 0).add 1) fun x9=>LeI H3 ((O b1).add 3) fun x10=>K (.bool (decide ((i64.wrap (x9-1))<=(i64.wrap (4294967295-x10))))) H3) (K (.bool false) H3)) (K (.bool false) H3)) (K (.bool false) H2)
theorem fZd.ok x1 x2 x3 x4 H K (h:fZd x1 x2 x3 x4 H K):Za prog 368 #[.agg #[I x1,I x2,I x3,I x4]] H K:=
 okN dZX Tryz.func368 rfl rfl h
def fZM (x1:Int)(H:Hp)(K:VK):Prop:=
 BIf (decide (x1>=0)) (K (.bool (decide (x1<=(4294967295:Int)))) H) (K (.bool false) H)
theorem fZM.ok x1 H K (h:fZM x1 H K):Za prog 374 #[I x1] H K:=
 okN dZX Tryz.func374 rfl rfl h
end W
namespace Ker
open Go Go.Hw W Shp Gol Fft
theorem fZ0 (a n:Nat):a^n%18446744069414584321=(pw (zp a) n).val:=congrArg Fin.val (pZw a n)
theorem fZX (x y:Zp):x.val*y.val%18446744069414584321=(x*y).val:=(Fin.val_mul x y).symm
theorem cZT (x:Zp):x.val<2^64:=by have:=x.isLt;omega
theorem oZX (x:UInt64)(y:Zp):x.toNat*y.val%18446744069414584321=(zw x*y).val:=by
 rw[← fZX];show _=x.toNat%18446744069414584321*y.val%18446744069414584321
 rw[nZm]
theorem qZn {k:Nat}(hk:k<=32)(H:Hp):Za prog 349 #[I (k:Int)] H (RetE (U ((rt k).val:Int)) H):=by
 apply gZ3.ok;unfold gZ3;rw[bZ5];refine⟨by omega,?_⟩;rw[show(18446744069414584320:Int)=((18446744069414584320:Nat):Int)from rfl,hZ6 (k:=.u64) rfl (by show k<=64;omega)];have hlt:18446744069414584320/2^k<2^64:=Nat.lt_of_le_of_lt (Nat.div_le_self _ _) (by decide);refine Za.use (lZs (a:=7) (by decide) hlt H) ?_;rw[fZ0];simp only[HV];exact RetE.mk _ _
theorem fZf {k:Nat}(hk:k<=32)(H:Hp):Za prog 348 #[I (k:Int)] H (RetE (.bool true) H):=by
 apply gZ2.ok;unfold gZ2;refine Zm (by omega) ?_;rw[decide_eq_true (by omega)];exact RetE.mk _ _
theorem sZb {k:Nat}(hk:k<=32):pw (rt k) hZj=pw (rt k) (2^k-1):=by
 have e:=iZK hk;have hp:=pow_pos k;generalize hq:18446744069414584320/2^k=q at e;have hq1:1<=q:=by
  rcases Nat.eq_zero_or_pos q with h|h
  ·rw[h,Nat.zero_mul]at e;omega
  ·exact h
 have e2:hZj=2^k*(q-1)+(2^k-1):=by
  unfold hZj;rw[Nat.mul_sub_one,Nat.mul_comm];have:1*2^k<=q*2^k:=Nat.mul_le_mul_right _ hq1;omega
 rw[e2,eZ2,bZO,jZN hk,gZv];grind
theorem xZT {k:Nat}(hk:k<=32):(rt k).val%18446744069414584321≠0:=fun h=>by
 have h1:rt k=0:=Fin.ext (by rw[Nat.mod_eq_of_lt (rt k).isLt]at h;exact h);have h2:=xZr hk;rw[h1]at h2;have h3:(0:Zp)*pw 0 (2^k-1)=0:=by grind
 rw[h3]at h2;exact absurd h2 (by decide)
theorem pZV {k:Nat}(hk:k<=32)(d:Bool)(H:Hp):Za prog 247 #[I (k:Int),I (if d=true then 1 else 0)] H (RetE (.tuple #[U ((rtd d k).val:Int),I 0]) H):=by
 apply gZ4.ok;unfold gZ4;refine Zg (by omega) (Zg (by omega) ?_);cases d with
 |false=>
  refine Zt rfl ?_;have h1:Za prog 310 #[I (k:Int)] H (RetE (.tuple #[U ((rt k).val:Int),I 0]) H):=by
   apply gZ1.ok;unfold gZ1;refine Za.use (fZf hk H) ?_;simp only[HV];refine Za.use (qZn hk H) ?_;simp only[HV];exact RetE.mk _ _
  refine Za.use h1 ?_;simp only[HV];exact RetE.mk _ _
 |true=>
  refine Zu (by decide) (Zt rfl ?_);have h1:Za prog 311 #[I (k:Int)] H (RetE (.tuple #[U ((rtd true k).val:Int),I 0]) H):=by
   apply gZZ.ok;unfold gZZ;refine Za.use (fZf hk H) ?_;simp only[HV];refine Za.use (qZn hk H) ?_;simp only[HV];refine Za.use (rZL (cZT _) (xZT hk) H) ?_;have e:kZ0 (rt k).val=(rtd true k).val:=by
    unfold kZ0;rw[fZ0,fZ3,sZb hk];rfl
   rw[e];simp only[HV];exact RetE.mk _ _
  refine Za.use h1 ?_;simp only[HV];exact RetE.mk _ _
def dZB (z:Zp)(n:Nat):List UInt64:=(List.range n).map fun i=>uw (pw z i)
theorem jZc (z:Zp)(n:Nat):(dZB z n).length=n:=by simp[dZB]
theorem uZj (z:Zp){n i:Nat}(h:i<n):(dZB z n)[i]? =some (uw (pw z i)):=by
 unfold dZB;rw[List.getElem?_map,List.getElem?_range h];rfl
theorem kZs (K:VK)(z:Zp){n r mr:Nat}(hn:n<=1048576){L:List As}
  (hK:∀ H,Sep (pts r (.row (Zb (dZB z n)) 108 mr)::L) H->K (.tuple #[.slice (Io r) n n,I 0]) H):
  ∀(t i:Nat) (ys:List UInt64) (H:Hp),i+t=n->ys.length=t->Sep (pts r (.row (Zb (dZB z i++ys)) 108 mr)::L) H->
   aZN.l6 K (t+1) (z.val:Int) (Io r) n n ((pw z i).val:Int) (n:Int) (i:Int) H
 |0,i,ys,H,hi,hy,hs=>by
  unfold aZN.l6;refine Zg (by omega) (hK H ?_);obtain rfl:ys=[]:=List.length_eq_zero_iff.1 hy;rw[List.append_nil,show i=n by omega]at hs;exact hs
 |t+1,i,ys,H,hi,hy,hs=>by
  unfold aZN.l6;refine Zm (by omega) ⟨by omega,by omega,?_⟩;show St H _ _ _
  rw[Int.toNat_natCast,Nat.mul_one,Addr.add_lit',Addr.add_lit',Nat.zero_add,Nat.add_zero];refine hs.str 0 rfl (by rw[Zq,List.length_append,jZc];omega) rfl fun H hs=>?_;have e:(Zb (dZB z i++ys)).set i (U ((pw z i).val:Int))=Zb (dZB z (i+1)++ys.drop 1):=by
   rw[← iZc,lZi];congr 1;rw[List.set_append_right _ _ (by rw[jZc];exact Nat.le_refl _),jZc,Nat.sub_self];unfold dZB;rw[List.range_succ,List.map_append,List.append_assoc];congr 1;cases ys with
   |nil=>simp at hy
   |cons y ys=>rfl
  rw[e]at hs;refine Za.use (hZc (cZT _) (cZT _) H) ?_;rw[fZX];simp only[HV];rw[ZM (x:=(i:Int)+1),show(i:Int)+1=((i+1:Nat):Int) by omega];exact kZs K z hn hK t (i+1) (ys.drop 1) H (by omega) (by rw[List.length_drop];omega) hs
theorem rZU (z:Zp)(n:Nat)(hn:n<=1048576):Tr prog 248 #[U (z.val:Int),I (n:Int)] [] fun v M=>
  ∃ r,v= .tuple #[.slice (Io r) n n,I 0]/\M=[pts r (.row (Zb (dZB z n)) 108 (n*1))]:=fun H hs=>by
 apply aZN.ok;unfold aZN;refine Zg (by omega) (Zg (by omega) ?_);refine hs.mks bZS rfl (n:=n) (m:=n) rfl rfl (Nat.le_refl _) (by omega) (by omega) fun r H hs=>?_
 simp only[HV];refine⟨n+1,?_⟩;refine kZs (L:=[]) _ z hn (fun H hs=>⟨_,⟨r,rfl,rfl⟩,hs⟩) n 0 (List.replicate n 0) H (by omega) (by simp) ?_;rw[jZ1]at hs;exact hs
theorem oZw (k:Nat)(hk:k<=20)(d:Bool):Tr prog 345 #[I (k:Int),I (if d=true then 1 else 0)] [] fun v M=>
  ∃ r,v= .tuple #[.slice (Io r) (2^(k-1)) (2^(k-1)),I 0]/\M=[pts r (.row (Zb (dZB (rtd d k) (2^(k-1)))) 108 (2^(k-1)*1))]:=fun H hs=>by
 have h20:=aZP hk;have h19:=aZP (show k-1<=19 by omega);apply gZn.ok;unfold gZn;refine Za.use (pZV (by omega) d H) ?_;simp only[HV];refine Zr rfl (Zg (by omega) ?_);rw[bZ5];refine⟨by omega,by decide,?_⟩;have e:(if(1:Int)>aZC .i64 (aZR .i64 1 (k:Int)) 1 then(1:Int)else aZC .i64 (aZR .i64 1 (k:Int)) 1)=((2^(k-1):Nat):Int):=by
  have:∀ k:Nat,k<21->(if(1:Int)>aZC .i64 (aZR .i64 1 (k:Int)) 1 then(1:Int)else aZC .i64 (aZR .i64 1 (k:Int)) 1)=((2^(k-1):Nat):Int):=by decide +kernel
  exact this k (by omega)
 rw[e];refine(rZU (rtd d k) (2^(k-1)) (by omega)).use hs [] rfl rfl ?_;rintro _ _ H ⟨r,rfl,rfl⟩ hs;simp only[HV];exact⟨_,⟨r,rfl,rfl⟩,hs⟩
def half :Zp:=9223372034707292161
theorem sZm :half*2=1:=by decide
theorem wZs :pw 2 (hZj+1)=1:=by
 unfold hZj;rw[← oZ8 64 2 (18446744069414584319+1) (by decide)];decide +kernel
theorem uZs (k:Nat):pw (pw 2 k) hZj=pw half k:=by
 have h1:pw (pw 2 k) hZj*pw 2 k=1:=by
  have:pw (pw 2 k) (hZj+1)=pw (pw 2 k) hZj*pw 2 k:=rfl;rw[← this,←bZO,Nat.mul_comm,bZO,wZs,gZv]
 have h2:pw half k*pw 2 k=1:=by rw[← lZW,sZm,gZv]
 grind
theorem tZs (k:Nat):zp (2^k)=pw 2 k:=pZw 2 k
theorem xZw (k:Nat):2^k%18446744069414584321≠0:=fun h=>by
 have h1:zp (2^k)=0:=Fin.ext h;have h2:pw half k*pw 2 k=1:=by rw[← lZW,sZm,gZv]
 rw[← tZs,h1]at h2;have h3:pw half k*0=0:=by grind
 rw[h3]at h2;exact absurd h2 (by decide)
theorem oZu {k:Nat}(hk:k<=32)(H:Hp):Za prog 118 #[I (k:Int)] H (RetE (.tuple #[U ((pw half k).val:Int),I 0]) H):=by
 have h32:=aZP hk;apply gZm.ok;unfold gZm;refine Zg (by omega) (Zg (by omega) ?_);rw[bZ5];refine⟨by omega,?_⟩;rw[show(1:Int)=((1:Nat):Int)from rfl,rZl (x:=1) rfl,Nat.one_mul,Nat.mod_eq_of_lt (by omega)];refine Za.use (rZL (by omega) (xZw k) H) ?_;have e:kZ0 (2^k)=(pw half k).val:=by
  unfold kZ0;rw[fZ0,tZs,uZs]
 rw[e];simp only[HV];exact RetE.mk _ _
def cZu (z:Zp)(l:List UInt64):List UInt64:=l.map fun x=>uw (zw x*z)
theorem gZL (z:Zp)(l:List UInt64):(cZu z l).length=l.length:=by simp[cZu]
theorem uZc (x w:UInt64):x.toNat*w.toNat%18446744069414584321=(zw x*zw w).val:=by
 rw[← fZX];show _=x.toNat%18446744069414584321*(w.toNat%18446744069414584321)%18446744069414584321
 rw[← Nat.mul_mod]
theorem lZw (K:VK)(w:UInt64){R:As}{A:OA}{n m r mr:Nat}{l:List UInt64}(hR:∀ H,R H->Cells H A (Zb l))(hl:l.length=n)(hn:n<=4294967296)
  (hK:∀ H,Sep [pts r (.row (Zb (cZu (zw w) l)) 108 mr),R] H->K (.slice (Io r) n n) H):
  ∀(t i:Nat) (ys:List UInt64) (H:Hp),i+t=n->ys.length=t->Sep [pts r (.row (Zb (cZu (zw w) (l.take i)++ys)) 108 mr),R] H->
   aZU.l3 K (t+1) (w.toNat:Int) (Io r) n n A n m (n:Int) (i:Int) H
 |0,i,ys,H,hi,hy,hs=>by
  unfold aZU.l3;refine Zg (by omega) (hK H ?_);obtain rfl:ys=[]:=List.length_eq_zero_iff.1 hy;rw[List.append_nil,List.take_of_length_le (by omega)]at hs;exact hs
 |t+1,i,ys,H,hi,hy,hs=>by
  have hc:Cells H A (Zb l):=by
   obtain⟨H1,h1,hle⟩:=hs.see 1 rfl;exact(hR H1 h1).le hle
  unfold aZU.l3;refine Zm (by omega) ?_;have hil:i<l.length:=by omega
  have hg:(Zb l)[i]? =some (U ((l[i]).toNat:Int)):=by
   rw[aZ5,List.getElem?_eq_getElem hil];rfl
  refine hc.read hg rfl (by rw[Zq];omega) ?_;simp only[HV];refine Za.use (hZc (l[i]).toNat_lt w.toNat_lt H) ?_;rw[uZc];simp only[HV];refine⟨by omega,by omega,?_⟩;show St H _ _ _
  rw[Int.toNat_natCast,Nat.mul_one,Addr.add_lit',Addr.add_lit',Nat.zero_add,Nat.add_zero];have hlt:(cZu (zw w) (l.take i)).length=i:=by rw[gZL,List.length_take];omega
  refine hs.str 0 rfl (by rw[Zq,List.length_append,hlt];omega) rfl fun H hs=>?_;have e:(Zb (cZu (zw w) (l.take i)++ys)).set i (U ((zw l[i]*zw w).val:Int))=Zb (cZu (zw w) (l.take (i+1))++ys.drop 1):=by
   rw[← iZc,lZi];congr 1;rw[List.set_append_right _ _ (by omega),hlt,Nat.sub_self];unfold cZu;rw[List.take_add_one,List.getElem?_eq_getElem hil];simp only[Option.toList,List.map_append,List.append_assoc];congr 1;cases ys with
   |nil=>simp at hy
   |cons y ys=>rfl
  rw[e]at hs;rw[ZM (x:=(i:Int)+1),show(i:Int)+1=((i+1:Nat):Int) by omega];exact lZw K w hR hl hn hK t (i+1) (ys.drop 1) H (by omega) (by rw[List.length_drop];omega) hs
theorem tZK (w:UInt64){R:As}{A:OA}{n m:Nat}{l:List UInt64}(hR:∀ H,R H->Cells H A (Zb l))(hl:l.length=n)(hn:n<=4294967296):
  Tr prog 362 #[.slice A n m,U (w.toNat:Int)] [R] fun v M=>
  ∃ r,v= .slice (Io r) n n/\M=[pts r (.row (Zb (cZu (zw w) l)) 108 (n*1)),R]:=fun H hs=>by
 apply aZU.ok;unfold aZU;refine hs.mks bZS rfl (n:=n) (m:=n) rfl rfl (Nat.le_refl _) (by omega) (by omega) fun r H hs=>?_
 simp only[HV];refine⟨n+1,?_⟩;refine lZw _ w hR hl hn (fun H hs=>⟨_,⟨r,rfl,rfl⟩,hs⟩) n 0 (List.replicate n 0) H (by omega) (by simp) ?_;rw[jZ1]at hs;exact hs.re [1,0] rfl
end Ker
namespace W
open Go Go.Hw
theorem dZo :prog.follows .mixedOrders=true:=by kernel_rfl
def aZ7.l5 (K:VK):Nat->Int->Addr->Int->Hp->Prop
 |0,_,_,_,_=>False
 |k+1,x2,a1,x3,H=>
  let R5:=aZ7.l5 K k
  BIf (decide (x3<2)) (Hz 345 #[I x2,I x3] H fun v1 H2=>eZe v1 fun A1 n1 m1 x4=>(ixI x3 2 (St H2 ((((a1.add 0).add 0).add (x3.toNat*1)).add 0) (.slice A1 n1 m1) fun H3=>R5 x2 a1 (i64.wrap (x3+1)) H3))) (Hz 118 #[I x2] H fun v4 H4=>hZi v4 fun x5 x6=>(St H4 (((a1.add 0).add 2).add 0) (U x5) fun H5=>K (.pointer (some a1)) H5))
def aZ7 (x1:Int)(H:Hp)(K:VK):Prop:=
 BIf (decide (x1<0)) (K (.pointer none) H) (BIf (decide (x1>20)) (K (.pointer none) H) (Nw H (Is #[.slice none 0 0,.slice none 0 0,U 0,I x1] 445) fun b1 H1=>(∃ k,aZ7.l5 K k x1 (O b1) 0 H1)))
def aZ7.l5.L (K:VK)(k:Nat):Mid:=fun E D H=>
 eI E 0 .i64 fun x2=>eN E 3 fun a1=>eI E 14 .i64 fun x3=>Zj D (aZ7.l5 K k x2 a1 x3 H)
def aZ7.Λ5 (_:VK)(_R5:Int→Addr→Int→Hp→Prop):Zs:=Zs.none (fun i=>match Nat.beq i 7 with|true=>some ([],[0,0,0,0,12,28,60,60,1,257,769,1919,3967],0)|false=>none)
def aZ7.Λ (K:VK):Zs:=⟨fun i=>none,fun i=>match Nat.beq i 5 with|true=>some (fun E D H=>∃ k,aZ7.l5.L K k E D H)|false=>none,(fun i=>match Nat.beq i 7 with|true=>some ([],[0,0,0,0,12,28,60,60,1,257,769,1919,3967],0)|false=>none)⟩
theorem aZ7.ok x1 H K (h:aZ7 x1 H K):Za prog 305 #[I x1] H K:=
 okL (Λ:=(aZ7.Λ K)) dZo Tryz.func305 rfl rfl h (oC (fun E D H h=>by
   refine Safe.loop' (aZ7.l5.L K) (fun E D H h=>?_) (fun k E D H h=>?_) E D H h
   ·obtain⟨w0,e0,g1⟩:=DG.out h;obtain⟨x2,rfl,g2⟩:=DI.out g1;obtain⟨w3,e3,g3⟩:=DG.out g2;obtain⟨pw3,rfl,g4⟩:=DP.out g3;obtain⟨a1,rfl,g5⟩:=NN.out g4;obtain⟨w14,e14,g6⟩:=DG.out g5;obtain⟨x3,rfl,g7⟩:=DI.out g6;obtain⟨rfl,h'⟩:=Zj.out g7;exact h'
   ·obtain⟨x2,e0,g2⟩:=GI h;obtain⟨a1,e3,g5⟩:=GN g2;obtain⟨x3,e14,g7⟩:=GI g5;obtain⟨rfl,h'⟩:=Zj.out g7;exact okJ (Λ:=(aZ7.Λ5 K (aZ7.l5 K k))) dZo [] (Zc.cons e0 (Zc.cons e3 (Zc.cons e14 (Zc.nil _)))) h' oN) oN)
def Zy.l13 (K:VK):Nat->OA->Nat->Nat->OA->Nat->Nat->Int->Hp->Prop
 |0,_,_,_,_,_,_,_,_=>False
 |k+1,A7,n7,m7,A8,n8,m8,x8,H=>
  let R13:=Zy.l13 K k
  BIf (decide (x8<(n7:Int))) (Hz 367 #[.slice A7 n7 m7,.slice A8 n8 m8,I x8] H fun v10 H5=>R13 A7 n7 m7 A8 n8 m8 (i64.wrap (x8*2)) H5) (K (I 0) H)
def Zy.l8 (K:VK):Nat->OA->Nat->Nat->OA->Nat->Nat->OA->Nat->Nat->Int->Int->Hp->Prop
 |0,_,_,_,_,_,_,_,_,_,_,_,_=>False
 |k+1,A4,n4,m4,A5,n5,m5,A6,n6,m6,x4,x5,H=>
  let R8:=Zy.l8 K k
  BIf (decide (x5<x4)) (ixI x5 n6 (NN A6 fun a3=>LeW H (a3.add (x5.toNat*1)) fun x6=>HcW 121 #[U x6] H fun x7 H3=>ixI x5 n4 (NN A4 fun a4=>St H3 ((a4.add (x5.toNat*1)).add 0) (U x7) fun H4=>R8 A4 n4 m4 A5 n5 m5 A6 n6 m6 x4 (i64.wrap (x5+1)) H4))) ((∃ k,Zy.l13 K k A4 n4 m4 A5 n5 m5 1 H))
def Zy (p1 A1:OA)(n1 m1:Nat)(x1:Int)(H:Hp)(K:VK):Prop:=
 NN p1 fun a1=>LeI H (a1.add 3) fun x2=>(0<=(u64.wrap x2)/\BIf ((n1:Int) !=(aZR .i64 1 (u64.wrap x2))) (K (I 4) H) (NN p1 fun a2=>Hz 365 #[.pointer (some (a2.add 0)),I x1] H fun v2 H1=>tZP v2 fun A2 n2 m2 c1=>(BIf (!c1) (K (I 18) H1) (Hz 366 #[.slice A1 n1 m1] H1 fun v5 H2=>eZe v5 fun A3 n3 m3 x3=>((∃ k,Zy.l8 K k A1 n1 m1 A2 n2 m2 A3 n3 m3 (n3:Int) 0 H2))))))
def Zy.l8.L (K:VK)(k:Nat):Mid:=fun E D H=>
 DG (E.get? 1) fun w1=>DSl w1 fun A4 n4 m4=>DG (E.get? 7) fun w7=>DSl w7 fun A5 n5 m5=>DG (E.get? 38) fun w38=>DSl w38 fun A6 n6 m6=>eI E 39 .i64 fun x4=>eI E 40 .i64 fun x5=>Zj D (Zy.l8 K k A4 n4 m4 A5 n5 m5 A6 n6 m6 x4 x5 H)
def Zy.l13.L (K:VK)(k:Nat):Mid:=fun E D H=>
 DG (E.get? 1) fun w1=>DSl w1 fun A7 n7 m7=>DG (E.get? 7) fun w7=>DSl w7 fun A8 n8 m8=>eI E 13 .i64 fun x8=>Zj D (Zy.l13 K k A7 n7 m7 A8 n8 m8 x8 H)
def Zy.Λ8 (_:VK)(_R8:OA->Nat->Nat->OA->Nat->Nat->OA->Nat->Nat->Int->Int->Hp->Prop):Zs:=Zs.none (fun _=>none)
def Zy.Λ13 (_:VK)(_R13:OA->Nat->Nat->OA->Nat->Nat->Int->Hp->Prop):Zs:=Zs.none (fun _=>none)
def Zy.Λ (K:VK):Zs:=⟨fun i=>none,fun i=>match Nat.beq i 13 with|true=>some (fun E D H=>∃ k,Zy.l13.L K k E D H)|false=>match Nat.beq i 8 with|true=>some (fun E D H=>∃ k,Zy.l8.L K k E D H)|false=>none,(fun _=>none)⟩
theorem Zy.ok p1 A1 n1 m1 x1 H K (h:Zy p1 A1 n1 m1 x1 H K):Za prog 360 #[.pointer p1,.slice A1 n1 m1,I x1] H K:=
 okL (Λ:=(Zy.Λ K)) dZo Tryz.func360 rfl rfl h (oC (fun E D H h=>by
   refine Safe.loop' (Zy.l8.L K) (fun E D H h=>?_) (fun k E D H h=>?_) E D H h
   ·obtain⟨w1,e1,g1⟩:=DG.out h;obtain⟨A4,n4,m4,rfl,g2⟩:=DSl.out g1;obtain⟨w7,e7,g3⟩:=DG.out g2;obtain⟨A5,n5,m5,rfl,g4⟩:=DSl.out g3;obtain⟨w38,e38,g5⟩:=DG.out g4;obtain⟨A6,n6,m6,rfl,g6⟩:=DSl.out g5;obtain⟨w39,e39,g7⟩:=DG.out g6;obtain⟨x4,rfl,g8⟩:=DI.out g7;obtain⟨w40,e40,g9⟩:=DG.out g8;obtain⟨x5,rfl,g10⟩:=DI.out g9;obtain⟨rfl,h'⟩:=Zj.out g10;exact h'
   ·obtain⟨w1,e1,g1⟩:=DG.out h;obtain⟨A4,n4,m4,rfl,g2⟩:=DSl.out g1;obtain⟨w7,e7,g3⟩:=DG.out g2;obtain⟨A5,n5,m5,rfl,g4⟩:=DSl.out g3;obtain⟨w38,e38,g5⟩:=DG.out g4;obtain⟨A6,n6,m6,rfl,g6⟩:=DSl.out g5;obtain⟨x4,e39,g8⟩:=GI g6;obtain⟨x5,e40,g10⟩:=GI g8;obtain⟨rfl,h'⟩:=Zj.out g10;exact okJ (Λ:=(Zy.Λ8 K (Zy.l8 K k))) dZo [] (Zc.cons e1 (Zc.cons e7 (Zc.cons e38 (Zc.cons e39 (Zc.cons e40 (Zc.nil _)))))) h' oN) (oC (fun E D H h=>by
   refine Safe.loop' (Zy.l13.L K) (fun E D H h=>?_) (fun k E D H h=>?_) E D H h
   ·obtain⟨w1,e1,g1⟩:=DG.out h;obtain⟨A7,n7,m7,rfl,g2⟩:=DSl.out g1;obtain⟨w7,e7,g3⟩:=DG.out g2;obtain⟨A8,n8,m8,rfl,g4⟩:=DSl.out g3;obtain⟨w13,e13,g5⟩:=DG.out g4;obtain⟨x8,rfl,g6⟩:=DI.out g5;obtain⟨rfl,h'⟩:=Zj.out g6;exact h'
   ·obtain⟨w1,e1,g1⟩:=DG.out h;obtain⟨A7,n7,m7,rfl,g2⟩:=DSl.out g1;obtain⟨w7,e7,g3⟩:=DG.out g2;obtain⟨A8,n8,m8,rfl,g4⟩:=DSl.out g3;obtain⟨x8,e13,g6⟩:=GI g4;obtain⟨rfl,h'⟩:=Zj.out g6;exact okJ (Λ:=(Zy.Λ13 K (Zy.l13 K k))) dZo [] (Zc.cons e1 (Zc.cons e7 (Zc.cons e13 (Zc.nil _)))) h' oN) oN))
def bZ3 (p1:OA)(x1:Int)(H:Hp)(K:VK):Prop:=
 BIf (decide (x1<0)) (K (.tuple #[.slice none 0 0,.bool false]) H) (BIf (decide (x1>1)) (K (.tuple #[.slice none 0 0,.bool false]) H) (NN p1 fun a1=>ixI x1 2 (LeS H ((a1.add 0).add (x1.toNat*1)) fun A1 n1 m1=>K (.tuple #[.slice A1 n1 m1,.bool true]) H)))
theorem bZ3.ok p1 x1 H K (h:bZ3 p1 x1 H K):Za prog 365 #[.pointer p1,I x1] H K:=
 okN dZo Tryz.func365 rfl rfl h
def ZF.l5.q1 (x10 x11 x12:Int)(H:Hp)(x7 x9:Int)(n5:Nat)(A5:OA)(x5:Int)(R5:OA->Nat->Nat->OA->Nat->Nat->Int->Int->Int->Int->Int->Hp->Prop)(m5:Nat)(A6:OA)(n6 m6:Nat)(x6 x8:Int):Prop:=
 Hz 373 #[U x10,U x11,U x12] H fun v4 H1=>oZy v4 fun x13 x14=>(ixI (i64.wrap (x7+x9)) n5 (NN A5 fun a4=>St H1 ((a4.add ((i64.wrap (x7+x9)).toNat*1)).add 0) (U x13) fun H2=>ixI (i64.wrap ((i64.wrap (x7+x9))+x5)) n5 (NN A5 fun a5=>St H2 ((a5.add ((i64.wrap ((i64.wrap (x7+x9))+x5)).toNat*1)).add 0) (U x14) fun H3=>R5 A5 n5 m5 A6 n6 m6 x5 x6 x7 x8 (i64.wrap (x9+1)) H3)))
def ZF.l5 (K:VK)(R2:OA->Nat->Nat->OA->Nat->Nat->Int->Int->Int->Hp->Prop):Nat->OA->Nat->Nat->OA->Nat->Nat->Int->Int->Int->Int->Int->Hp->Prop
 |0,_,_,_,_,_,_,_,_,_,_,_,_=>False
 |k+1,A5,n5,m5,A6,n6,m6,x5,x6,x7,x8,x9,H=>
  let R5:=ZF.l5 K R2 k
  BIf (decide (x9<x8)) (ixI (i64.wrap (x7+x9)) n5 (NN A5 fun a1=>ixI (i64.wrap ((i64.wrap (x7+x9))+x5)) n5 (NN A5 fun a2=>ixI (i64.wrap (x9*x6)) n6 (NN A6 fun a3=>(LeW H (a1.add ((i64.wrap (x7+x9)).toNat*1)) fun x10=>(LeW H (a2.add ((i64.wrap ((i64.wrap (x7+x9))+x5)).toNat*1)) fun x11=>LeW H (a3.add ((i64.wrap (x9*x6)).toNat*1)) fun x12=>ZF.l5.q1 x10 x11 x12 H x7 x9 n5 A5 x5 R5 m5 A6 n6 m6 x6 x8)/\(LeW H (a3.add ((i64.wrap (x9*x6)).toNat*1)) fun x15=>LeW H (a2.add ((i64.wrap ((i64.wrap (x7+x9))+x5)).toNat*1)) fun x16=>ZF.l5.q1 x10 x16 x15 H x7 x9 n5 A5 x5 R5 m5 A6 n6 m6 x6 x8))/\(LeW H (a2.add ((i64.wrap ((i64.wrap (x7+x9))+x5)).toNat*1)) fun x19=>(LeW H (a1.add ((i64.wrap (x7+x9)).toNat*1)) fun x20=>LeW H (a3.add ((i64.wrap (x9*x6)).toNat*1)) fun x21=>ZF.l5.q1 x20 x19 x21 H x7 x9 n5 A5 x5 R5 m5 A6 n6 m6 x6 x8)/\(LeW H (a3.add ((i64.wrap (x9*x6)).toNat*1)) fun x24=>LeW H (a1.add ((i64.wrap (x7+x9)).toNat*1)) fun x25=>ZF.l5.q1 x25 x19 x24 H x7 x9 n5 A5 x5 R5 m5 A6 n6 m6 x6 x8))/\(LeW H (a3.add ((i64.wrap (x9*x6)).toNat*1)) fun x28=>(LeW H (a1.add ((i64.wrap (x7+x9)).toNat*1)) fun x29=>LeW H (a2.add ((i64.wrap ((i64.wrap (x7+x9))+x5)).toNat*1)) fun x30=>ZF.l5.q1 x29 x30 x28 H x7 x9 n5 A5 x5 R5 m5 A6 n6 m6 x6 x8)/\(LeW H (a2.add ((i64.wrap ((i64.wrap (x7+x9))+x5)).toNat*1)) fun x33=>LeW H (a1.add ((i64.wrap (x7+x9)).toNat*1)) fun x34=>ZF.l5.q1 x34 x33 x28 H x7 x9 n5 A5 x5 R5 m5 A6 n6 m6 x6 x8)))))) (R2 A5 n5 m5 A6 n6 m6 x5 x6 (i64.wrap (x7+(i64.wrap (2*x5)))) H)
def ZF.l2 (K:VK):Nat->OA->Nat->Nat->OA->Nat->Nat->Int->Int->Int->Hp->Prop
 |0,_,_,_,_,_,_,_,_,_,_=>False
 |k+1,A3,n3,m3,A4,n4,m4,x2,x3,x4,H=>
  let R2:=ZF.l2 K k
  BIf (decide (x4<(n3:Int))) ((∃ k,ZF.l5 K R2 k A3 n3 m3 A4 n4 m4 x2 x3 x4 x2 0 H)) (K (.tuple #[]) H)
def ZF (A1:OA)(n1 m1:Nat)(A2:OA)(n2 m2:Nat)(x1:Int)(H:Hp)(K:VK):Prop:=
 ((i64.wrap (2*x1))≠0/\i64=i64/\(∃ k,ZF.l2 K k A1 n1 m1 A2 n2 m2 x1 (i64.wrap (Int.tdiv (n1:Int) (i64.wrap (2*x1)))) 0 H))
def ZF.l2.L (K:VK)(k:Nat):Mid:=fun E D H=>
 DG (E.get? 0) fun w0=>DSl w0 fun A3 n3 m3=>DG (E.get? 1) fun w1=>DSl w1 fun A4 n4 m4=>eI E 2 .i64 fun x2=>eI E 6 .i64 fun x3=>eI E 7 .i64 fun x4=>Zj D (ZF.l2 K k A3 n3 m3 A4 n4 m4 x2 x3 x4 H)
def ZF.l5.L (K:VK)(R2:OA->Nat->Nat->OA->Nat->Nat->Int->Int->Int->Hp->Prop)(k:Nat):Mid:=fun E D H=>
 DG (E.get? 0) fun w0=>DSl w0 fun A5 n5 m5=>DG (E.get? 1) fun w1=>DSl w1 fun A6 n6 m6=>eI E 2 .i64 fun x5=>eI E 6 .i64 fun x6=>eI E 7 .i64 fun x7=>eI E 24 .i64 fun x8=>eI E 25 .i64 fun x9=>Zj D (ZF.l5 K R2 k A5 n5 m5 A6 n6 m6 x5 x6 x7 x8 x9 H)
def ZF.Λ5 (_:VK)(_R2:OA→Nat→Nat→OA→Nat→Nat→Int→Int→Int→Hp→Prop)(_R5:OA→Nat→Nat→OA→Nat→Nat→Int→Int→Int→Int→Int→Hp→Prop):Zs:=Zs.none (fun i=>match Nat.beq i 8 with|true=>some ([],[0,0,0,0,0,0,48,112,0,0,768,1792,0,0,0,24576,61440,126976,262128,524272,1048560,1048560,2097139,6291443,16777215,33554431],0)|false=>none)
def ZF.Λ2 (K:VK)(R2:OA→Nat→Nat→OA→Nat→Nat→Int→Int→Int→Hp→Prop):Zs:=⟨fun i=>none,fun i=>match Nat.beq i 5 with|true=>some (fun E D H=>∃ k,ZF.l5.L K R2 k E D H)|false=>none,(fun i=>match Nat.beq i 8 with|true=>some ([],[0,0,0,0,0,0,48,112,0,0,768,1792,0,0,0,24576,61440,126976,262128,524272,1048560,1048560,2097139,6291443,16777215,33554431],0)|false=>none)⟩
def ZF.Λ (K:VK):Zs:=⟨fun i=>none,fun i=>match Nat.beq i 2 with|true=>some (fun E D H=>∃ k,ZF.l2.L K k E D H)|false=>none,(fun i=>match Nat.beq i 8 with|true=>some ([],[0,0,0,0,0,0,48,112,0,0,768,1792,0,0,0,24576,61440,126976,262128,524272,1048560,1048560,2097139,6291443,16777215,33554431],0)|false=>none)⟩
theorem ZF.ok A1 n1 m1 A2 n2 m2 x1 H K (h:ZF A1 n1 m1 A2 n2 m2 x1 H K):Za prog 367 #[.slice A1 n1 m1,.slice A2 n2 m2,I x1] H K:=
 okL (Λ:=(ZF.Λ K)) dZo Tryz.func367 rfl rfl h (oC (fun E D H h=>by
   refine Safe.loop' (ZF.l2.L K) (fun E D H h=>?_) (fun k E D H h=>?_) E D H h
   ·obtain⟨w0,e0,g1⟩:=DG.out h;obtain⟨A3,n3,m3,rfl,g2⟩:=DSl.out g1;obtain⟨w1,e1,g3⟩:=DG.out g2;obtain⟨A4,n4,m4,rfl,g4⟩:=DSl.out g3;obtain⟨w2,e2,g5⟩:=DG.out g4;obtain⟨x2,rfl,g6⟩:=DI.out g5;obtain⟨w6,e6,g7⟩:=DG.out g6;obtain⟨x3,rfl,g8⟩:=DI.out g7;obtain⟨w7,e7,g9⟩:=DG.out g8;obtain⟨x4,rfl,g10⟩:=DI.out g9;obtain⟨rfl,h'⟩:=Zj.out g10;exact h'
   ·obtain⟨w0,e0,g1⟩:=DG.out h;obtain⟨A3,n3,m3,rfl,g2⟩:=DSl.out g1;obtain⟨w1,e1,g3⟩:=DG.out g2;obtain⟨A4,n4,m4,rfl,g4⟩:=DSl.out g3;obtain⟨x2,e2,g6⟩:=GI g4;obtain⟨x3,e6,g8⟩:=GI g6;obtain⟨x4,e7,g10⟩:=GI g8;obtain⟨rfl,h'⟩:=Zj.out g10;exact okJ (Λ:=(ZF.Λ2 K (ZF.l2 K k))) dZo [] (Zc.cons e0 (Zc.cons e1 (Zc.cons e2 (Zc.cons e6 (Zc.cons e7 (Zc.nil _)))))) h' (oC (fun E D H h=>by
      refine Safe.loop' (ZF.l5.L K (ZF.l2 K k)) (fun E D H h=>?_) (fun k E D H h=>?_) E D H h
      ·obtain⟨w0,e0,g1⟩:=DG.out h;obtain⟨A5,n5,m5,rfl,g2⟩:=DSl.out g1;obtain⟨w1,e1,g3⟩:=DG.out g2;obtain⟨A6,n6,m6,rfl,g4⟩:=DSl.out g3;obtain⟨w2,e2,g5⟩:=DG.out g4;obtain⟨x5,rfl,g6⟩:=DI.out g5;obtain⟨w6,e6,g7⟩:=DG.out g6;obtain⟨x6,rfl,g8⟩:=DI.out g7;obtain⟨w7,e7,g9⟩:=DG.out g8;obtain⟨x7,rfl,g10⟩:=DI.out g9;obtain⟨w24,e24,g11⟩:=DG.out g10;obtain⟨x8,rfl,g12⟩:=DI.out g11;obtain⟨w25,e25,g13⟩:=DG.out g12;obtain⟨x9,rfl,g14⟩:=DI.out g13;obtain⟨rfl,h'⟩:=Zj.out g14;exact h'
      ·obtain⟨w0,e0,g1⟩:=DG.out h;obtain⟨A5,n5,m5,rfl,g2⟩:=DSl.out g1;obtain⟨w1,e1,g3⟩:=DG.out g2;obtain⟨A6,n6,m6,rfl,g4⟩:=DSl.out g3;obtain⟨x5,e2,g6⟩:=GI g4;obtain⟨x6,e6,g8⟩:=GI g6;obtain⟨x7,e7,g10⟩:=GI g8;obtain⟨x8,e24,g12⟩:=GI g10;obtain⟨x9,e25,g14⟩:=GI g12;obtain⟨rfl,h'⟩:=Zj.out g14;exact okJ (Λ:=(ZF.Λ5 K (ZF.l2 K k) (ZF.l5 K (ZF.l2 K k) k))) dZo [] (Zc.cons e0 (Zc.cons e1 (Zc.cons e2 (Zc.cons e6 (Zc.cons e7 (Zc.cons e24 (Zc.cons e25 (Zc.nil _)))))))) h' oN) oN)) oN)
def dZ9 (x1 x2 x3:Int)(H:Hp)(K:VK):Prop:=
 HcW 120 #[U x2,U x3] H fun x4 H1=>HcW 177 #[U x1,U x4] H1 fun x5 H2=>HcW 243 #[U x1,U x4] H2 fun x6 H3=>K (.tuple #[U x5,U x6]) H3
theorem dZ9.ok x1 x2 x3 H K (h:dZ9 x1 x2 x3 H K):Za prog 373 #[U x1,U x2,U x3] H K:=
 okN dZo Tryz.func373 rfl rfl h
end W
namespace Ker
open Go Go.Hw W Shp Gol Fft
def fZO (z:Zp)(l:List UInt64)(n:Nat):List UInt64:=(List.range n).map fun c=>uw (at' l c*pw z c)
def kZn (z:Zp)(l:List UInt64):List UInt64:=fZO z l l.length
theorem tZe (z:Zp)(l:List UInt64)(n:Nat):(fZO z l n).length=n:=by simp[fZO]
theorem jZX (z:Zp)(l:List UInt64):(kZn z l).length=l.length:=tZe _ _ _
theorem rZr (z:Zp)(l:List UInt64)(n:Nat):fZO z l (n+1)=fZO z l n++[uw (at' l n*pw z n)]:=by
 unfold fZO;rw[List.range_succ,List.map_append];rfl
theorem rZf {n r:Nat}(hn:1<=n/\n<=1048576)(hr:r<=4294967295)(H:Hp):Za prog 368 #[.agg #[I 1,I (n:Int),I (r:Int),I 0]] H (RetE (.bool true) H):=Za.ret (by
 have hin:∀{x:Nat} (H:Hp),x<=4294967295->Za prog 374 #[I (x:Int)] H (RetE (.bool true) H):=fun{x} H hx=>by
  apply fZM.ok;unfold fZM;refine Zm (by omega) ?_;rw[decide_eq_true (by omega)];exact RetE.mk _ _
 apply fZd.ok;unfold fZd;refine(Sep.start H).nw fun b1 H1 hs=>?_
 refine hs.ldf 1 rfl rfl ?_;simp only[HV];refine Za.use (hin H1 hr) ?_;simp only[HV];refine hs.ldf 1 rfl rfl ?_;simp only[HV];refine Za.use (hin (x:=0) H1 (by omega)) ?_;simp only[HV];refine hs.ldg 1 rfl rfl ?_;simp only[HV];refine hs.ldf 1 rfl rfl ?_;simp only[HV];rw[ZM (x:=1-1) (by decide) (by decide),ZM (x:=4294967295-(r:Int))];refine Zm (by omega) ?_;refine hs.ldg 1 rfl rfl ?_;simp only[HV];refine hs.ldf 1 rfl rfl ?_;simp only[HV];rw[ZM (x:=(n:Int)-1),ZM (x:=4294967295-0) (by decide) (by decide),decide_eq_true (by omega)];exact hs.fin 0 rfl _)
section
variable {R TT : As} {A : Option Addr} {n m k r : Nat} {l : List UInt64}
theorem mZ1 (K:VK)(R10:OA->Nat->Nat->Addr->Int->OA->Nat->Nat->Int->Int->Hp->Prop)(z:Zp){A5:OA}{n7 m5:Nat}{a2:Addr}{x21 x24 x25:Int}{A7:OA}{m7:Nat}{L:List As}
  (hR:∀ H,R H->Cells H A7 (Zb l)) (hl:l.length=n) (hn:n<=1048576)
  (hK:∀ A' m' H,Sep (Own 108 1 A' n m' (Zb (kZn z l))::R::L) H->R10 A5 n7 m5 a2 x21 A' n m' x24 (i64.wrap (x25+1)) H):
  ∀(t i:Nat) (A':OA) (m':Nat) (H:Hp),i+t=n->Sep (Own 108 1 A' i m' (Zb (fZO z l i))::R::L) H->
   aZh.l15 K R10 (t+1) A5 n7 m5 a2 x21 A' i m' (z.val:Int) ((pw z i).val:Int) x24 x25 A7 n m7 (n:Int) (i:Int) H
 |0,i,A',m',H,hi,hs=>by
  unfold aZh.l15;obtain rfl:i=n:=by omega
  refine Zg (by omega) (hK A' m' H ?_);unfold kZn;rw[hl];exact hs
 |t+1,i,A',m',H,hi,hs=>by
  have hc:Cells H A7 (Zb l):=by
   obtain⟨H1,h1,hle⟩:=hs.see 1 rfl;exact(hR H1 h1).le hle
  unfold aZh.l15;refine Zm (by omega) ?_;have hil:i<l.length:=by omega
  have hg:(Zb l)[i]? =some (U ((l[i]).toNat:Int)):=by
   rw[aZ5,List.getElem?_eq_getElem hil];rfl
  refine hc.read hg rfl (by rw[Zq];omega) ?_;simp only[HV];refine Za.use (hZc (l[i]).toNat_lt (cZT _) H) ?_;rw[oZX];simp only[HV];refine hs.app1 0 rfl bZS (by omega) rfl (by omega) (by omega) fun A2 m2 H hs=>?_
  simp only[HV];refine Za.use (hZc (cZT _) (cZT _) H) ?_;rw[fZX];simp only[HV];rw[ZM (x:=(i:Int)+1),show(i:Int)+1=((i+1:Nat):Int) by omega];refine mZ1 K R10 z hR hl hn hK t (i+1) A2 m2 H (by omega) ?_;rw[rZr,show Zb (fZO z l i++[uw (at' l i*pw z i)])=Zb (fZO z l i)++[U ((zw l[i]*pw z i).val:Int)] by
   unfold Zb;rw[List.map_append,List.map_cons,iZc,rZ1 hil];rfl]
  exact hs
theorem vZt (hT:∀ H,TT H->T64 H)(hR:∀ H,R H->Cells H A (Zb l)){b:Nat}(hn:n=2^b)(hb:b<=20)(hl:l.length=n)(hm:n<=m)(hk:k<=32)(hr:r<=4294967295)(d:Bool):
  Tr prog 361 #[.slice A n m,.agg #[I 1,I (n:Int),I (r:Int),I 0],I (k:Int),I (if d=true then 1 else 0)] [R,TT] fun v M=>
   ∃ A' m',v= .tuple #[.slice A' n m',I 0]/\M=[Own 108 1 A' n m' (Zb (kZn (pw (rtd d k) r) l)),R,TT]:=fun H hs=>by
 have h20:=aZP hb;have h1:=pow_pos b;apply aZh.ok;unfold aZh;refine hs.nw fun b1 H hs=>?_
 have hs:Sep [R,TT,pts b1 (Is #[I 1,I (n:Int),I (r:Int),I 0] 464)] H:=hs;refine Za.use (pZV hk d H) ?_;simp only[HV];refine Zr rfl ?_;simp only[Addr.add_zero];refine hs.lda 2 rfl (show 0+2<=4 by omega) ?_;have hT0:T64 H:=by
  obtain⟨H1,h1,hle⟩:=hs.see 1 rfl;exact(hT H1 h1).le hle
 have hg:dZQ 1 (n:Int)=true:=by
  have:=iZk (a:=0) (b:=b) (by omega);rw[hn];exact this
 refine Za.use (bZ2 1 (n:Int) H hT0) ?_;rw[hg];simp only[HV];refine hs.ld 2 rfl rfl ?_;simp only[HV];refine hs.ldf 2 rfl rfl ?_;simp only[HV];refine Zr (by rw[ZM];omega) ?_;refine hs.lda 2 rfl (show 0+4<=4 by omega) ?_;refine Za.use (rZf (n:=n) (r:=r) ⟨by omega,by omega⟩ hr H) ?_;simp only[HV];refine hs.mks bZS rfl (n:=0) (m:=n) rfl rfl (by omega) (by omega) (by omega) fun bo H hs=>?_
 simp only[HV];refine hs.ld 2 rfl rfl ?_;simp only[HV];have hs:Sep [R,TT,pts b1 (Is #[I 1,I (n:Int),I (r:Int),I 0] 464),Own 108 1 (Io bo) 0 n (Zb (fZO (pw (rtd d k) r) l 0))] H:=
  hs.turn 3 rfl (B:=Own 108 1 (Io bo) 0 n (Zb (fZO (pw (rtd d k) r) l 0))) (fun H1 h=>⟨rfl,.inr ⟨bo,n*1,rfl,h,Nat.le_refl _⟩⟩)
 refine⟨2,?_⟩;unfold aZh.l10;refine Zm (by decide) ?_;refine hs.ldf 2 rfl rfl ?_;simp only[HV];rw[show u64.wrap (i64.wrap ((r:Int)+0))=(r:Int) by rw[ZM,dZl];omega];refine Za.use (lZs (cZT _) (n:=r) (by omega) H) ?_;rw[fZ0,fZ3];simp only[HV];refine hs.ldf 2 rfl rfl ?_;simp only[HV];refine Za.use (lZs (cZT _) (n:=0) (by decide) H) ?_;rw[fZ0,fZ3];simp only[HV];refine hs.ldf 2 rfl rfl ?_;simp only[HV];refine hs.ldf 2 rfl rfl ?_;simp only[HV];rw[show i64.wrap (0*(n:Int))=((0:Nat):Int) by rw[Int.zero_mul];rfl,show i64.wrap (i64.wrap (0+1)*(n:Int))=(n:Int) by
  rw[show i64.wrap (0+1)=1 by decide,ZM];omega]
 refine⟨by omega,by omega,by omega,by omega,?_⟩;rw[Int.toNat_natCast,Int.toNat_natCast];simp only[Nat.sub_zero];refine⟨n+1,?_⟩;have hR':∀ H,R H->Cells H (slA A m 0 1) (Zb l):=fun H h=>(hR H h).shift (by rw[Zq];omega)
 refine mZ1 (L:=[TT]) _ _ (pw (rtd d k) r) hR' hl (by omega) (fun A' m' H hs=>?_) n 0 (Io bo) n H (by omega) (hs.re [3,0,1] rfl);unfold aZh.l10;refine Zg (by decide) ?_;exact⟨_,⟨A',m',rfl,rfl⟩,hs⟩
end
theorem oZi (x y p:Zp)(H:Hp):Za prog 373 #[U ((uw x).toNat:Int),U ((uw y).toNat:Int),U ((uw p).toNat:Int)] H (RetE (.tuple #[U ((uw (x+y*p)).toNat:Int),U ((uw (x-y*p)).toNat:Int)]) H):=by
 apply dZ9.ok;unfold dZ9;simp only[iZc];refine Za.use (hZc (cZT _) (cZT _) H) ?_;rw[fZX];simp only[HV];refine Za.use (lZj (cZT _) (cZT _) H) ?_;simp only[HV];refine Za.use (wZS (cZT _) (cZT _) H) ?_;simp only[HV];have e1:(x.val+(y*p).val)%18446744069414584321=(x+y*p).val:=(Fin.val_add x (y*p)).symm;have e2:sub x.val (y*p).val=(x-y*p).val:=by
  have h1:=x.isLt;have h2:=(y*p).isLt;rw[Fin.sub_def];show(x.val+(18446744069414584321-(y*p).val%18446744069414584321)%18446744069414584321)%18446744069414584321=(18446744069414584321-(y*p).val+x.val)%18446744069414584321
  omega
 rw[e1,e2];exact RetE.mk _ _
theorem mZJ {xs:List Value}{ws:List UInt64}{off p:Nat}(h:off+ws.length<=xs.length)(hp:p<ws.length):(setAt xs off (Zb ws))[off+p]? =some (U ((ws[p]).toNat:Int)):=by
 rw[bZZ (by rw[Zq];exact h),if_neg (by omega),Zq,if_pos (by omega),Nat.add_sub_cancel_left,aZ5,List.getElem?_eq_getElem hp];rfl
theorem iZO {xs:List Value}{ws:List UInt64}{off:Nat}(h:off+ws.length<=xs.length:=by omega):(setAt xs off (Zb ws)).length=xs.length:=cZS (by rw[Zq];exact h)
theorem mZK {xs:List Value}{ws:List UInt64}{off p:Nat}(h:off+ws.length<=xs.length)(hp:p<ws.length)(w:UInt64):(setAt xs off (Zb ws)).set (off+p) (U (w.toNat:Int))=setAt xs off (Zb (ws.set p w)):=by
 apply List.ext_getElem?;intro j;rw[List.getElem?_set,iZO h,bZZ (by rw[Zq];exact h),bZZ (by rw[Zq,List.length_set];exact h),Zq,Zq,List.length_set];by_cases e:off+p=j
 ·subst e;rw[if_pos rfl,if_pos (by omega),if_neg (by omega),if_pos (by omega),Nat.add_sub_cancel_left,aZ5,List.getElem?_set,if_pos rfl,if_pos hp];rfl
 ·rw[if_neg e];by_cases h1:j<off
  ·rw[if_pos h1,if_pos h1]
  ·rw[if_neg h1,if_neg h1];by_cases h2:j<off+ws.length
   ·rw[if_pos h2,if_pos h2,aZ5,aZ5,List.getElem?_set,if_neg (by omega)]
   ·rw[if_neg h2,if_neg h2]
section
variable {w : Zp} {k : Nat} {l : Nat -> Zp} {s b off mm n m n2 m2:Nat} {xs : List Value} {e : TypeId} {R : As} {A : Option Addr}
theorem pZk (K:VK)(R2:OA->Nat->Nat->OA->Nat->Nat->Int->Int->Int->Hp->Prop)(hn:n=2^k)(hk:k<=20)(hsk:s<k)(hw:pw w (2^(k-1))=-1)(hx:off+n<=xs.length)(hR:∀ H,R H->Cells H A (Zb (dZB w (2^(k-1)))))(hn2:n2=2^(k-1))(bl:Nat)(hbl:bl*(2*2^s)+2*2^s<=n)
  (hK:∀ H,Sep [pts b (.row (setAt xs off (Zb (stL w k l s (dn (2^s) (bl+1) 0)))) e mm),R] H->R2 (some ⟨b,off,none⟩) n m A n2 m2 ((2^s:Nat):Int) ((2^(k-s-1):Nat):Int) (i64.wrap (((bl*(2*2^s):Nat):Int)+i64.wrap ((2:Int)*((2^s:Nat):Int)))) H):
  ∀(t i:Nat) (H:Hp),i+t=2^s->Sep [pts b (.row (setAt xs off (Zb (stL w k l s (dn (2^s) bl i)))) e mm),R] H->
   ZF.l5 K R2 (t+1) (some ⟨b,off,none⟩) n m A n2 m2 ((2^s:Nat):Int) ((2^(k-s-1):Nat):Int) ((bl*(2*2^s):Nat):Int) ((2^s:Nat):Int) (i:Int) H
 |0,i,H,hi,hs=>by
  unfold ZF.l5 ZF.l5.q1;refine Zg (by omega) (hK H ?_);rw[← uZw,←show i=2^s by omega];rw[show dn i bl i=dn (2^s) bl i by rw[show i=2^s by omega]];exact hs
 |t+1,i,H,hi,hs=>by
  have h20:=aZP hk;have hst:i*2^(k-s-1)<2^(k-1):=by
   have h1:2^(k-1)=2^s*2^(k-s-1):=by rw[← Nat.pow_add];congr 1;omega
   rw[h1];exact Nat.mul_lt_mul_of_pos_right (by omega) (pow_pos _)
  have h19:=aZP (show k-1<=19 by omega);have e3:i64.wrap ((i:Int)*((2^(k-s-1):Nat):Int))=((i*2^(k-s-1):Nat):Int):=by
   rw[← Int.natCast_mul,bZc]
  have ih:=fun H=>pZk K R2 hn hk hsk hw hx hR hn2 bl hbl hK t (i+1) H (by omega)
  obtain⟨g1,g2⟩:=uZA w k l hsk hw bl i (by omega);have hset:=uZx (w:=w) (k:=k) (l:=l) (s:=s) (b:=bl) (i:=i) (2^s) (by omega) (by omega);rw[g1,g2]at hset;have hlen:=kZm w k l s (dn (2^s) bl i);obtain⟨d1,d2⟩:=vZC (2^s) bl i (by omega);have ga0:=hZN w k l s (dn (2^s) bl i) (p:=bl*(2*2^s)+i);have gb0:=hZN w k l s (dn (2^s) bl i) (p:=bl*(2*2^s)+i+2^s);rw[d1,if_neg (by decide)]at ga0;rw[d2,if_neg (by decide)]at gb0;generalize stg w k l s (bl*(2*2^s)+i)=va at*;generalize stg w k l s (bl*(2*2^s)+i+2^s)=vb at*;generalize stL w k l s (dn (2^s) bl i)=ws at*;generalize hf:bl*(2*2^s)=f at*;generalize hh:2^s=h at*;have hpg:=uZj w hst;generalize i*2^(k-s-1)=q at*;have e1:i64.wrap ((f:Int)+(i:Int))=((f+i:Nat):Int):=by rw[← Int.natCast_add,bZc]
  have e2:i64.wrap (((f+i:Nat):Int)+(h:Int))=((f+i+h:Nat):Int):=by rw[← Int.natCast_add,bZc]
  have hc:Cells H A (Zb (dZB w (2^(k-1)))):=by
   obtain⟨H1,h1,hle⟩:=hs.see 1 rfl;exact(hR H1 h1).le hle
  have hpv:(Zb (dZB w (2^(k-1))))[q]? =some (U ((uw (pw w q)).toNat:Int)):=by rw[aZ5,hpg];rfl
  obtain⟨a3,rfl,hcell⟩:=hc q _ hpv;unfold ZF.l5 ZF.l5.q1;refine Zm (by omega) ?_;simp only[e1,e2,e3,aZ0,Int.toNat_natCast,Nat.mul_one,Addr.add_lit',Addr.add_zero];refine⟨by omega,by omega,by omega,by omega,by omega,by omega,?_⟩;have hla:f+i<ws.length:=by omega
  have hlb:f+i+h<ws.length:=by omega
  have ga:(setAt xs off (Zb ws))[off+(f+i)]? =some (U ((uw va).toNat:Int)):=by
   rw[mZJ (by omega) hla];rw[List.getElem?_eq_getElem hla]at ga0;rw[Option.some.inj ga0]
  have gb:(setAt xs off (Zb ws))[off+(f+i+h)]? =some (U ((uw vb).toNat:Int)):=by
   rw[mZJ (by omega) hlb];rw[List.getElem?_eq_getElem hlb]at gb0;rw[Option.some.inj gb0]
  repeat' first
   |refine⟨?_,?_⟩
   |(refine hs.ldr 0 rfl ga ?_;simp only[HV])
   |(refine hs.ldr 0 rfl gb ?_;simp only[HV])
   |(refine gZO hcell ?_;simp only[HV])
  all_goals
   refine Za.use (oZi va vb (pw w q) H) ?_;simp only[HV];refine⟨by omega,by omega,?_⟩;refine hs.str 0 (j:=off+(f+i)) rfl (by rw[iZO];omega) rfl fun H hs=>?_;rw[mZK (by omega) hla]at hs;refine⟨by omega,by omega,?_⟩;refine hs.str 0 (j:=off+(f+i+h)) rfl (by rw[iZO (by rw[List.length_set];omega)];omega) rfl fun H hs=>?_;rw[mZK (by rw[List.length_set];omega) (by rw[List.length_set];exact hlb),hset]at hs;rw[ZM (x:=(i:Int)+1),show(i:Int)+1=((i+1:Nat):Int) by omega];exact ih H hs
theorem uZz (hn:n=2^k)(hk:k<=20)(hsk:s<k)(hw:pw w (2^(k-1))=-1)(hx:off+n<=xs.length)(hR:∀ H,R H->Cells H A (Zb (dZB w (2^(k-1)))))(hn2:n2=2^(k-1))(h':Nat):
  Tr prog 367 #[.slice (some ⟨b,off,none⟩) n m,.slice A n2 m2,I ((2^s:Nat):Int)] [pts b (.row (setAt xs off (Zb (stL w k l s (dn (2^s) 0 0)))) e mm),R] fun v M=>
   v= .tuple #[]/\M=[pts b (.row (setAt xs off (Zb (stL w k l (s+1) (dn h' 0 0)))) e mm),R]:=fun H hs=>by
 have h20:=aZP hk;have hp:=pow_pos s;have hsk2:=aZP (show s+1<=k by omega);rw[Nat.pow_succ]at hsk2;have hdv:2^k=2^(k-s-1)*(2*2^s):=by
  rw[show 2*2^s=2^(s+1) by rw[Nat.pow_succ];omega,←Nat.pow_add];congr 1;omega
 apply ZF.ok;unfold ZF;have e0:i64.wrap ((2:Int)*((2^s:Nat):Int))=((2*2^s:Nat):Int):=by rw[ZM];omega
 have e1:i64.wrap (Int.tdiv (n:Int) ((2*2^s:Nat):Int))=((2^(k-s-1):Nat):Int):=by
  rw[show Int.tdiv (n:Int) ((2*2^s:Nat):Int)=((n/(2*2^s):Nat):Int)from rfl,hn,hdv,Nat.mul_div_cancel _ (by omega),bZc (by have:=aZP (show k-s-1<=19 by omega);omega)]
 rw[e0,e1];refine⟨by omega,by simp,⟨2^(k-s-1)+1,?_⟩⟩;have key:∀(t bl:Nat) (H:Hp),bl+t=2^(k-s-1)->Sep [pts b (.row (setAt xs off (Zb (stL w k l s (dn (2^s) bl 0)))) e mm),R] H->
   ZF.l2 (fun v H'=>∃ M,(v= .tuple #[]/\M=[pts b (.row (setAt xs off (Zb (stL w k l (s+1) (dn h' 0 0)))) e mm),R])/\Sep M H') (t+1) (some ⟨b,off,none⟩) n m A n2 m2 ((2^s:Nat):Int) ((2^(k-s-1):Nat):Int) ((bl*(2*2^s):Nat):Int) H:=fun t=>by
  induction t with
  |zero=>
   intro bl H hb hs;unfold ZF.l2;refine Zg (by rw[hn,hdv,show bl=2^(k-s-1) by omega];omega) ⟨_,⟨rfl,rfl⟩,?_⟩;rw[← wZk (2^s) h' (b:=bl) (by rw[hdv,show bl=2^(k-s-1) by omega];exact Nat.le_refl _)];exact hs
  |succ t ih=>
   intro bl H hb hs;have hfit:bl*(2*2^s)+2*2^s<=n:=by
    rw[hn,hdv,←Nat.succ_mul];exact Nat.mul_le_mul_right _ (by omega)
   unfold ZF.l2;refine Zm (by omega) ⟨2^s+1,?_⟩;refine pZk _ _ hn hk hsk hw hx hR hn2 bl hfit (fun H hs=>?_) (2^s) 0 H (by omega) hs;rw[e0,←Int.natCast_add,bZc,←show(bl+1)*(2*2^s)=bl*(2*2^s)+2*2^s by rw[Nat.add_mul bl 1,Nat.one_mul]];exact ih (bl+1) H (by omega) hs
 have:=key (2^(k-s-1)) 0 H (by omega) hs;rw[Nat.zero_mul]at this;exact this
end
theorem Sep.ex {α:Type}{L:List As}{H:Hp}(h:Sep L H)(i:Nat){F:α->As}(hi:L[i]? =some fun H=>∃ x,F x H):∃ x,Sep (L.set i (F x)) H:=by
 induction L generalizing i H with
 |nil=>simp at hi
 |cons C L ih=>
  obtain⟨H1,H2,h1,h2,h3,h4,h5⟩:=h;cases i with
  |zero=>
   simp only[List.getElem?_cons_zero,Option.some.injEq]at hi;subst hi;obtain⟨x,hx⟩:=h4;exact⟨x,H1,H2,h1,h2,h3,hx,h5⟩
  |succ i=>
   obtain⟨x,hx⟩:=ih h5 i hi;exact⟨x,H1,H2,h1,h2,h3,h4,hx⟩
def knC (A0 A1:OA)(h:Nat)(sh:Int)(k:Nat):Array Value:=#[.slice A0 h h,.slice A1 h h,U sh,I (k:Int)]
def KnT (kp k:Nat)(x:OA×OA×Int):As:=fun H=>H kp=some (Is (knC x.1 x.2.1 (2^(k-1)) x.2.2 k) 445)/\Cells H x.1 (Zb (dZB (rtd false k) (2^(k-1))))/\Cells H x.2.1 (Zb (dZB (rtd true k) (2^(k-1))))
def Kn (kp k:Nat):As:=fun H=>∃ x,KnT kp k x H
theorem KnT.up {kp k:Nat}{x:OA×OA×Int}{H H':Hp}(h:KnT kp k x H)(l:H.le H'):KnT kp k x H':=by
 obtain⟨h1,h2,h3⟩:=h;exact⟨l _ _ h1,h2.le l,h3.le l⟩
theorem Sep.knT {L:List As}{H:Hp}(h:Sep L H)(i:Nat){kp k:Nat}{x:OA×OA×Int}(hi:L[i]? =some (KnT kp k x)):KnT kp k x H:=by
 obtain⟨H1,h1,h2⟩:=h.see i hi;exact h1.up h2
def pick (x:OA×OA×Int)(d:Bool):OA:=if d=true then x.2.1 else x.1
theorem KnT.cells {kp k:Nat}{x:OA×OA×Int}{H:Hp}(h:KnT kp k x H)(d:Bool):Cells H (pick x d) (Zb (dZB (rtd d k) (2^(k-1)))):=by
 cases d
 ·exact h.2.1
 ·exact h.2.2
theorem dZC (k:Nat)(hk:k<=20):Tr prog 305 #[I (k:Int)] [] fun v M=>∃ kp,v= V kp/\M=[Kn kp k]:=fun H hs=>by
 apply aZ7.ok;unfold aZ7;refine Zg (by omega) (Zg (by omega) ?_);refine hs.nw fun kp H hs=>?_
 have hs:Sep [pts kp (Is #[.slice none 0 0,.slice none 0 0,U 0,I (k:Int)] 445)] H:=hs;refine⟨3,?_⟩;unfold aZ7.l5;refine Zm (by decide) ?_;refine(oZw k hk false).use hs [] rfl rfl ?_;rintro _ _ H ⟨r0,rfl,rfl⟩ hs;simp only[HV];refine⟨by decide,by decide,?_⟩;simp only[Addr.add_lit'];refine hs.st 1 rfl (Nat.lt_of_sub_eq_succ rfl) rfl fun H hs=>?_;rw[show i64.wrap (0+1)=1 by decide];unfold aZ7.l5;refine Zm (by decide) ?_;refine(oZw k hk true).use hs [] rfl rfl ?_;rintro _ _ H ⟨r1,rfl,rfl⟩ hs;simp only[HV];refine⟨by decide,by decide,?_⟩;simp only[Addr.add_lit'];refine hs.st 2 rfl (Nat.lt_of_sub_eq_succ rfl) rfl fun H hs=>?_;rw[show i64.wrap (1+1)=2 by decide];unfold aZ7.l5;refine Zg (by decide) ?_;refine Za.use (oZu (k:=k) (by omega) H) ?_;simp only[HV];simp only[Addr.add_lit'];refine hs.st 2 rfl (Nat.lt_of_sub_eq_succ rfl) rfl fun H hs=>?_;have hs:Sep [pts r1 (.row (Zb (dZB (rtd true k) (2^(k-1)))) 108 (2^(k-1)*1)),pts r0 (.row (Zb (dZB (rtd false k) (2^(k-1)))) 108 (2^(k-1)*1)),
  pts kp (Is (knC (Io r0) (Io r1) (2^(k-1)) ((pw half k).val:Int) k) 445)] H:=hs
 have hcell:∀{r:Nat} {d:Bool},H r=some (.row (Zb (dZB (rtd d k) (2^(k-1)))) 108 (2^(k-1)*1))->Cells H (Io r) (Zb (dZB (rtd d k) (2^(k-1)))):=fun{r d} h=>by
  have:=Cells.row h 0 (2^(k-1));rw[List.drop_zero,List.take_of_length_le (by rw[Zq,jZc];exact Nat.le_refl _)]at this;exact this
 exact⟨[Kn kp k],⟨kp,rfl,rfl⟩,H,fun _=>none,Hp.le_refl _,fun _ _ h=>(nomatch h),fun _=>.inr rfl,⟨(some (O r0),some (O r1),((pw half k).val:Int)),hs.get 2 rfl,hcell (hs.get 1 rfl),hcell (hs.get 0 rfl)⟩,trivial⟩
theorem uZG {kp k:Nat}{x:OA×OA×Int}{H:Hp}(h:KnT kp k x H)(d:Bool):Za prog 365 #[V kp,I (if d=true then 1 else 0)] H (RetE (.tuple #[.slice (pick x d) (2^(k-1)) (2^(k-1)),.bool true]) H):=by
 obtain⟨h1,h2,h3⟩:=h;cases d
 ·apply bZ3.ok;unfold bZ3;refine Zg (by decide) (Zg (by decide) ?_);simp only[aZ0];refine⟨by decide,by decide,?_⟩;simp only[Addr.add_lit'];refine gZO (v:=.slice x.1 (2^(k-1)) (2^(k-1))) ?_ ?_
  ·show H.cell? (O kp)=_
   rw[fZR h1];rfl
  ·simp only[HV];exact RetE.mk _ _
 ·apply bZ3.ok;unfold bZ3;refine Zg (by decide) (Zg (by decide) ?_);simp only[aZ0];refine⟨by decide,by decide,?_⟩;simp only[Addr.add_lit'];refine gZO (v:=.slice x.2.1 (2^(k-1)) (2^(k-1))) ?_ ?_
  ·show H.cell? ⟨kp,1,none⟩=_
   rw[fZR h1];rfl
  ·simp only[HV];exact RetE.mk _ _
theorem jZP {H:Hp}{b off mm:Nat}{xs:List Value}{ws:List UInt64}{e:TypeId}(h:H b=some (.row (setAt xs off (Zb ws)) e mm):=by omega)(hx:off+ws.length<=xs.length:=by omega):Cells H (some ⟨b,off,none⟩) (Zb ws):=by
 have h1:=Cells.row h off ws.length;have e1:((setAt xs off (Zb ws)).drop off).take ws.length=Zb ws:=by
  apply List.ext_getElem?;intro j;rw[List.getElem?_take];by_cases hj:j<ws.length
  ·rw[if_pos hj,List.getElem?_drop,mZJ hx hj,aZ5,List.getElem?_eq_getElem hj];rfl
  ·rw[if_neg hj,List.getElem?_eq_none (by rw[Zq];omega)]
 rw[e1]at h1;exact h1
section
variable {TT : As} {kp k b off mm n m : Nat} {l : List UInt64} {xs : List Value} {e : TypeId} {d : Bool}
theorem pZ8 (K:VK)(hn:n=l.length)(hn20:n<=1048576)(hx:off+n<=xs.length){A5:OA}{n5 m5 r mr:Nat}{tl:List UInt64}(htl:tl.length=n){L:List As}
  (hK:∀ H,Sep (pts b (.row (setAt xs off (Zb (tl.map fun x=>uw (zw x)))) e mm)::L) H->∃ f,Zy.l13 K f (some ⟨b,off,none⟩) n m A5 n5 m5 1 H):
  ∀(t i:Nat) (H:Hp),i+t=n->Sep (pts b (.row (setAt xs off (Zb ((tl.take i).map (fun x=>uw (zw x))++l.drop i))) e mm)::pts r (.row (Zb tl) 108 mr)::L) H->
   Zy.l8 K (t+1) (some ⟨b,off,none⟩) n m A5 n5 m5 (Io r) n n (n:Int) (i:Int) H
 |0,i,H,hi,hs=>by
  unfold Zy.l8;refine Zg (by omega) (hK H ?_);rw[List.take_of_length_le (by omega),List.drop_eq_nil_of_le (by omega),List.append_nil]at hs;obtain⟨H1,H2,h1,h2,h3,h4,h5⟩:=hs;exact⟨H1,H2,h1,h2,h3,h4,h5.tail⟩
 |t+1,i,H,hi,hs=>by
  unfold Zy.l8;refine Zm (by omega) ?_;have hil:i<tl.length:=by omega
  refine⟨by omega,by omega,?_⟩;show Ld H _ _
  rw[Int.toNat_natCast,Nat.mul_one,Addr.add_lit',Nat.zero_add];refine hs.ldr 1 (v:=U ((tl[i]).toNat:Int)) rfl (by rw[aZ5,List.getElem?_eq_getElem hil];rfl) ?_;simp only[HV];refine Za.use (eZO (tl[i]).toNat_lt H) ?_;simp only[HV];have hlen:((tl.take i).map (fun x=>uw (zw x))++l.drop i).length=n:=by rw[List.length_append,List.length_map,List.length_take,List.length_drop];omega
  refine⟨by omega,by omega,?_⟩;rw[Addr.add_lit',Addr.add_zero];refine hs.str 0 rfl (by rw[iZO];omega) rfl fun H hs=>?_;have e1:(setAt xs off (Zb ((tl.take i).map (fun x=>uw (zw x))++l.drop i))).set (off+i) (U (((tl[i]).toNat%18446744069414584321:Nat):Int))=setAt xs off (Zb ((tl.take (i+1)).map (fun x=>uw (zw x))++l.drop (i+1))):=by
   have:(((tl[i]).toNat%18446744069414584321:Nat):Int)=((uw (zw tl[i])).toNat:Int):=by rw[iZc];rfl
   rw[this,mZK (by omega) (by omega)];congr 2;have hlt:((tl.take i).map (fun x=>uw (zw x))).length=i:=by rw[List.length_map,List.length_take];omega
   rw[List.set_append_right _ _ (by omega),hlt,Nat.sub_self,List.take_add_one,List.getElem?_eq_getElem hil];simp only[Option.toList,List.map_append,List.append_assoc];congr 1;rw[List.drop_eq_getElem_cons (show i<l.length by omega)];rfl
  rw[e1]at hs;rw[ZM (x:=(i:Int)+1),show(i:Int)+1=((i+1:Nat):Int) by omega];exact pZ8 K hn hn20 hx htl hK t (i+1) H (by omega) hs
theorem tZI (hT:∀ H,TT H->T64 H)(hk:k<=20)(hn:n=2^k)(hl:l.length=n)(hx:off+n<=xs.length)(hseg:setAt xs off (Zb l)=xs)(d:Bool):
  Tr prog 360 #[V kp,.slice (some ⟨b,off,none⟩) n m,I (if d=true then 1 else 0)] [pts b (.row xs e mm),Kn kp k,TT] fun v M=>
   v= I 0/\M=[pts b (.row (setAt xs off (Zb (cZP d k l))) e mm),Kn kp k,TT]:=fun H hs=>by
 have h20:=aZP hk;have h1:=pow_pos k;apply Zy.ok;unfold Zy;simp only[aZ0];obtain⟨x,hs⟩:=Sep.ex hs 1 rfl;have hs:Sep [pts b (.row xs e mm),KnT kp k x,TT] H:=hs;have hkn:=(Sep.knT hs 1 rfl).1;refine gZO (v:=I (k:Int)) ?_ ?_
 ·show H.cell? ((O kp).add 3)=_
  rw[Addr.add_lit',fZR hkn];rfl
 simp only[HV];rw[bZ5];refine⟨by omega,?_⟩;have e1:aZR .i64 1 (k:Int)=(n:Int):=by
  have:∀ k:Nat,k<21->aZR .i64 1 (k:Int)=((2^k:Nat):Int):=by decide +kernel
  rw[this k (by omega),hn]
 rw[e1];refine Zr rfl ?_;simp only[Addr.add_zero];refine Za.use (uZG (Sep.knT hs 1 rfl) d) ?_;simp only[HV];have hc:∀ H,pts b (.row xs e mm) H->Cells H (some ⟨b,off,none⟩) (Zb l):=fun H h=>by
  have h:H b=some (.row xs e mm):=h;rw[← hseg]at h;exact jZP h
 refine(vZv (n:=n) (m:=m) (k:=k) (l:=l) hT hc hn hl hk).use hs [0,2] rfl rfl ?_;rintro _ _ H ⟨r,rfl,rfl⟩ hs;simp only[HV];have hs:Sep [pts r (.row (Zb (eZE k l)) 108 (n*1)),pts b (.row xs e mm),TT,KnT kp k x] H:=hs;refine⟨n+1,?_⟩;have htl:(eZE k l).length=n:=by rw[hn];simp[eZE]
 refine pZ8 (L:=[TT,KnT kp k x]) (mr:=n*1) (e:=e) (mm:=mm) _ hl.symm (by omega) hx htl (fun H hs=>?_) n 0 H (by omega) ?_
 ·rw[uZy (rtd d k) k l 1]at hs;refine⟨k+1,?_⟩;have key:∀(t s:Nat) (H:Hp),s+t=k->Sep [pts b (.row (setAt xs off (Zb (stL (rtd d k) k (at' l) s (dn (2^s) 0 0)))) e mm),TT,KnT kp k x] H->
    Zy.l13 (fun v H'=>∃ M,(v= I 0/\M=[pts b (.row (setAt xs off (Zb (cZP d k l))) e mm),Kn kp k,TT])/\Sep M H') (t+1) (some ⟨b,off,none⟩) n m (pick x d) (2^(k-1)) (2^(k-1)) ((2^s:Nat):Int) H:=fun t=>by
   induction t with
   |zero=>
    intro s H hst hs;obtain rfl:s=k:=by omega
    unfold Zy.l13;refine Zg (by omega) ⟨_,⟨rfl,rfl⟩,?_⟩;rw[wZj]at hs;have hs:=hs.re [0,2,1] rfl;exact hs.turn 1 rfl (B:=Kn kp s) fun H1 h=>⟨x,h⟩
   |succ t ih=>
    intro s H hst hs;have hsk:2^s<2^k:=Nat.pow_lt_pow_right (by omega) (by omega);have hsp:=pow_pos s;unfold Zy.l13;refine Zm (by omega) ?_;have hw:pw (rtd d k) (2^(k-1))=-1:=wZb d (by omega) (by omega);refine(uZz (m:=m) (m2:=2^(k-1)) (A:=pick x d) (R:=KnT kp k x) (l:=at' l) (s:=s) (mm:=mm) hn hk (by omega) hw hx (fun H h=>h.cells d) rfl (2^(s+1))).use hs [0,2] rfl rfl ?_;rintro _ _ H ⟨rfl,rfl⟩ hs;rw[ZM,show((2^s:Nat):Int)*2=((2^(s+1):Nat):Int) by rw[Nat.pow_succ];omega];exact ih (s+1) H (by omega) (hs.re [0,2,1] rfl)
  exact key k 0 H (by omega) hs
 ·rw[List.take_zero,List.map_nil,List.nil_append,List.drop_zero,hseg];exact hs.re [1,0,2,3] rfl
end
end Ker
namespace W
open Go Go.Hw
theorem eZ0 :prog.follows .mixedOrders=true:=by kernel_rfl
def bZg.l14 (K:VK):Nat->Addr->Int->Addr->Int->OA->OA->Nat->Nat->Hp->Prop
 |0,_,_,_,_,_,_,_,_,_=>False
 |k+1,a2,x14,a3,x15,p5,A1,n1,m1,H=>
  let R14:=bZg.l14 K k
  LeI H (a2.add 1) fun x16=>BIf (decide (x15<x16)) (HcI 301 #[.pointer (some a3),I x15,I x14] H fun x17 H5=>BIf (x17 !=0) (aZZ prog 257 #[.pointer p5,.slice A1 n1 m1] H5 fun _ H8=>K (.tuple #[Ii 0,I x17]) H8) (HcI 302 #[.pointer (some a3),I x15] H5 fun x18 H6=>BIf (x18 !=0) (aZZ prog 257 #[.pointer p5,.slice A1 n1 m1] H6 fun _ H9=>K (.tuple #[Ii 0,I x18]) H9) (R14 a2 x14 a3 (i64.wrap (x15+x14)) p5 A1 n1 m1 H6))) (HcU 238 #[.pointer (some (a3.add 0))] H fun x19 H7=>aZZ prog 257 #[.pointer p5,.slice A1 n1 m1] H7 fun _ H10=>K (.tuple #[Ii x19,I 0]) H10)
def bZg (p1 p2:OA)(x1 x2:Int)(p3:OA)(x3:Int)(H:Hp)(K:VK):Prop:=
 Nw H (Is #[I x1,I x2] 217) fun b1 H1=>BIf p1.isNone (K (.tuple #[Ii 0,I 1]) H1) (BIf p2.isNone (K (.tuple #[Ii 0,I 1]) H1) (BIf p3.isNone (K (.tuple #[Ii 0,I 1]) H1) (LdA H1 (O b1) 2 fun l1=>QcB 297 #[.agg l1.toArray] H1 fun c1=>BIf (!c1) (K (.tuple #[Ii 0,I 19]) H1) (QcI 186 #[.pointer p1] H1 fun x4=>LdA H1 (O b1) 2 fun l2=>QcI 298 #[.agg l2.toArray] H1 fun x5=>BIf (x4 !=x5) (K (.tuple #[Ii 0,I 19]) H1) (QcI 186 #[.pointer p2] H1 fun x6=>LdA H1 (O b1) 2 fun l3=>QcI 298 #[.agg l3.toArray] H1 fun x7=>BIf (x6 !=x7) (K (.tuple #[Ii 0,I 19]) H1) (LdA H1 (O b1) 2 fun l4=>NN p3 fun a1=>QcI 300 #[.pointer (some (a1.add 0))] H1 fun x8=>Qz 299 #[.agg l4.toArray,I x3,I x8] H1 fun v7=>iZt v7 fun x9 c2=>(BIf (!c2) (K (.tuple #[Ii 0,I 6]) H1) (LeI H1 ((O b1).add 0) fun x10=>Hz 255 #[.pointer p3,I (i64.wrap (x9*x10))] H1 fun v11 H2=>eZd v11 fun p4 x11=>(BIf (x11 !=0) (K (.tuple #[Ii 0,I x11]) H2) (Nw H2 (.row [.pointer p4] 331 1) fun b2 H3=>LdA H3 (O b1) 2 fun l11=>iZX l11.toArray.toList fun x12 x13=>(Nw H3 (Is #[Ii 0,I 0,.pointer p1,.pointer p2,I x12,I x13,.pointer p4] 409) fun b3 H4=>(∃ k,bZg.l14 K k (O b1) x9 (O b3) 0 p3 (Io b2) 1 1 H4))))))))))))
def bZg.l14.L (K:VK)(k:Nat):Mid:=fun E D H=>
 eN E 7 fun a2=>eI E 12 .i64 fun x14=>eN E 15 fun a3=>eI E 16 .i64 fun x15=>cZE 257 D fun dc0 da0 D1=>ZV dc0 (Zl da0 fun u0da0 r0da0=>DP u0da0 fun p5=>Zl r0da0 fun u1da0 r1da0=>DSl u1da0 fun A1 n1 m1=>ZV r1da0 (Zj D1 (bZg.l14 K k a2 x14 a3 x15 p5 A1 n1 m1 H)))
def bZg.Λ14 (_:VK)(_R14:Addr->Int->Addr->Int->OA->OA->Nat->Nat->Hp->Prop):Zs:=Zs.none (fun _=>none)
def bZg.Λ (K:VK):Zs:=⟨fun i=>none,fun i=>match Nat.beq i 14 with|true=>some (fun E D H=>∃ k,bZg.l14.L K k E D H)|false=>none,(fun _=>none)⟩
theorem bZg.ok p1 p2 x1 x2 p3 x3 H K (h:bZg p1 p2 x1 x2 p3 x3 H K):Za prog 239 #[.pointer p1,.pointer p2,.agg #[I x1,I x2],.pointer p3,I x3] H K:=
 okL (Λ:=(bZg.Λ K)) eZ0 Tryz.func239 rfl rfl h (oC (fun E D H h=>by
   refine Safe.loop' (bZg.l14.L K) (fun E D H h=>?_) (fun k E D H h=>?_) E D H h
   ·obtain⟨w7,e7,g1⟩:=DG.out h;obtain⟨pw7,rfl,g2⟩:=DP.out g1;obtain⟨a2,rfl,g3⟩:=NN.out g2;obtain⟨w12,e12,g4⟩:=DG.out g3;obtain⟨x14,rfl,g5⟩:=DI.out g4;obtain⟨w15,e15,g6⟩:=DG.out g5;obtain⟨pw15,rfl,g7⟩:=DP.out g6;obtain⟨a3,rfl,g8⟩:=NN.out g7;obtain⟨w16,e16,g9⟩:=DG.out g8;obtain⟨x15,rfl,g10⟩:=DI.out g9;obtain⟨dc0,da0,D1,rfl,g11⟩:=cZE.out g10;obtain⟨rfl,g12⟩:=ZV.out g11;obtain⟨u0da0,r0da0,rfl,g13⟩:=Zl.out g12;obtain⟨p5,rfl,g14⟩:=DP.out g13;obtain⟨u1da0,r1da0,rfl,g15⟩:=Zl.out g14;obtain⟨A1,n1,m1,rfl,g16⟩:=DSl.out g15;obtain⟨rfl,g17⟩:=ZV.out g16;obtain⟨rfl,h'⟩:=Zj.out g17;exact h'
   ·obtain⟨a2,e7,g3⟩:=GN h;obtain⟨x14,e12,g5⟩:=GI g3;obtain⟨a3,e15,g8⟩:=GN g5;obtain⟨x15,e16,g10⟩:=GI g8;obtain⟨dc0,da0,D1,rfl,g11⟩:=cZE.out g10;obtain⟨rfl,g12⟩:=ZV.out g11;obtain⟨u0da0,r0da0,rfl,g13⟩:=Zl.out g12;obtain⟨p5,rfl,g14⟩:=DP.out g13;obtain⟨u1da0,r1da0,rfl,g15⟩:=Zl.out g14;obtain⟨A1,n1,m1,rfl,g16⟩:=DSl.out g15;obtain⟨rfl,g17⟩:=ZV.out g16;obtain⟨rfl,h'⟩:=Zj.out g17;exact okJ (Λ:=(bZg.Λ14 K (bZg.l14 K k))) eZ0 [{ target:=.fn (.func 257) #[],args:=#[.pointer p5,.slice A1 n1 m1]}] (Zc.cons e7 (Zc.cons e12 (Zc.cons e15 (Zc.cons e16 (Zc.nil _))))) h' oN) oN)
def aZ2.l4 (K:VK):Nat->Int->Int->Addr->Int->Hp->Prop
 |0,_,_,_,_,_=>False
 |k+1,x6,x7,a1,x8,H=>
  let R4:=aZ2.l4 K k
  LeI H (a1.add 1) fun x9=>BIf (decide ((i64.wrap (2*x8))<=x9)) (LeI H (a1.add 0) fun x10=>(x10≠0/\i64=i64/\BIf (decide ((i64.wrap (2*x8))<=(i64.wrap (Int.tdiv (i64.wrap (x7-x6)) x10)))) (R4 x6 x7 a1 (i64.wrap (x8*2)) H) (K (.tuple #[I x8,.bool true]) H))) (K (.tuple #[I x8,.bool true]) H)
def aZ2 (x1 x2 x3 x4:Int)(H:Hp)(K:VK):Prop:=
 Nw H (Is #[I x1,I x2] 217) fun b1 H1=>LdA H1 (O b1) 2 fun l1=>HcB 297 #[.agg l1.toArray] H1 fun c1 H2=>BIf (!c1) (K (.tuple #[I 0,.bool false]) H2) (BIf (decide (x3<4)) (K (.tuple #[I 0,.bool false]) H2) (BIf (decide (x3>512)) (K (.tuple #[I 0,.bool false]) H2) (BIf ((aZD .i64 x3 (i64.wrap (x3-1))) !=0) (K (.tuple #[I 0,.bool false]) H2) (BIf (decide (x4<x3)) (K (.tuple #[I 0,.bool false]) H2) (LeI H2 ((O b1).add 0) fun x5=>BIf (decide ((i64.wrap (x4-x3))<x5)) (K (.tuple #[I 0,.bool false]) H2) ((∃ k,aZ2.l4 K k x3 x4 (O b1) 1 H2)))))))
def aZ2.l4.L (K:VK)(k:Nat):Mid:=fun E D H=>
 eI E 1 .i64 fun x6=>eI E 2 .i64 fun x7=>eN E 3 fun a1=>eI E 6 .i64 fun x8=>Zj D (aZ2.l4 K k x6 x7 a1 x8 H)
def aZ2.Λ4 (_:VK)(_R4:Int->Int->Addr->Int->Hp->Prop):Zs:=Zs.none (fun _=>none)
def aZ2.Λ (K:VK):Zs:=⟨fun i=>none,fun i=>match Nat.beq i 4 with|true=>some (fun E D H=>∃ k,aZ2.l4.L K k E D H)|false=>none,(fun _=>none)⟩
theorem aZ2.ok x1 x2 x3 x4 H K (h:aZ2 x1 x2 x3 x4 H K):Za prog 299 #[.agg #[I x1,I x2],I x3,I x4] H K:=
 okL (Λ:=(aZ2.Λ K)) eZ0 Tryz.func299 rfl rfl h (oC (fun E D H h=>by
   refine Safe.loop' (aZ2.l4.L K) (fun E D H h=>?_) (fun k E D H h=>?_) E D H h
   ·obtain⟨w1,e1,g1⟩:=DG.out h;obtain⟨x6,rfl,g2⟩:=DI.out g1;obtain⟨w2,e2,g3⟩:=DG.out g2;obtain⟨x7,rfl,g4⟩:=DI.out g3;obtain⟨w3,e3,g5⟩:=DG.out g4;obtain⟨pw3,rfl,g6⟩:=DP.out g5;obtain⟨a1,rfl,g7⟩:=NN.out g6;obtain⟨w6,e6,g8⟩:=DG.out g7;obtain⟨x8,rfl,g9⟩:=DI.out g8;obtain⟨rfl,h'⟩:=Zj.out g9;exact h'
   ·obtain⟨x6,e1,g2⟩:=GI h;obtain⟨x7,e2,g4⟩:=GI g2;obtain⟨a1,e3,g7⟩:=GN g4;obtain⟨x8,e6,g9⟩:=GI g7;obtain⟨rfl,h'⟩:=Zj.out g9;exact okJ (Λ:=(aZ2.Λ4 K (aZ2.l4 K k))) eZ0 [] (Zc.cons e1 (Zc.cons e2 (Zc.cons e3 (Zc.cons e6 (Zc.nil _))))) h' oN) oN)
def ZE.l10 (K:VK)(R4:OA->Int->OA->Nat->Nat->OA->Nat->Nat->Int->Int->Hp->Prop):Nat->OA->Int->OA->Nat->Nat->OA->Nat->Nat->Int->Int->Int->OA->Nat->Nat->Int->Int->Hp->Prop
 |0,_,_,_,_,_,_,_,_,_,_,_,_,_,_,_,_,_=>False
 |k+1,p5,x9,A5,n5,m5,A6,n6,m6,x10,x11,x12,A7,n7,m7,x13,x14,H=>
  let R10:=ZE.l10 K R4 k
  BIf (decide (x14<x13)) (ixI x14 n7 (NN A7 fun a5=>LeW H (a5.add (x14.toNat*1)) fun x15=>NN p5 fun a6=>LeI H ((a6.add 4).add 0) fun x16=>ixI (i64.wrap ((i64.wrap (x14*x16))+x10)) n5 (NN A5 fun a7=>St H ((a7.add ((i64.wrap ((i64.wrap (x14*x16))+x10)).toNat*1)).add 0) (U x15) fun H4=>R10 p5 x9 A5 n5 m5 A6 n6 m6 x10 x11 x12 A7 n7 m7 x13 (i64.wrap (x14+1)) H4))) (R4 p5 x9 A5 n5 m5 A6 n6 m6 x11 (i64.wrap (x12+1)) H)
def ZE.l4 (K:VK):Nat->OA->Int->OA->Nat->Nat->OA->Nat->Nat->Int->Int->Hp->Prop
 |0,_,_,_,_,_,_,_,_,_,_,_=>False
 |k+1,p3,x4,A3,n3,m3,A4,n4,m4,x5,x6,H=>
  let R4:=ZE.l4 K k
  BIf (decide (x6<x5)) (NN p3 fun a3=>LeP H (a3.add 2) fun p4=>NN p3 fun a4=>LeI H ((a4.add 4).add 1) fun x7=>HcI 187 #[.pointer p4,I (i64.wrap ((i64.wrap (x6*x7))+x4)),.slice A4 n4 m4] H fun x8 H3=>BIf (x8 !=0) (K (I x8) H3) ((∃ k,ZE.l10 K R4 k p3 x4 A3 n3 m3 A4 n4 m4 x6 x5 x6 A4 n4 m4 (n4:Int) 0 H3))) (K (I 0) H)
def ZE (p1:OA)(x1 x2:Int)(H:Hp)(K:VK):Prop:=
 NN p1 fun a1=>LeP H (a1.add 6) fun p2=>HcS 237 #[.pointer p2] H fun A1 n1 m1 H1=>MkS prog 108 x2 x2 H1 fun v3 H2=>DSl v3 fun A2 n2 m2=>NN p1 fun a2=>LeI H2 ((a2.add 4).add 0) fun x3=>(∃ k,ZE.l4 K k p1 x1 A1 n1 m1 A2 n2 m2 x3 0 H2)
def ZE.l4.L (K:VK)(k:Nat):Mid:=fun E D H=>
 eP E 0 fun p3=>eI E 1 .i64 fun x4=>DG (E.get? 7) fun w7=>DSl w7 fun A3 n3 m3=>DG (E.get? 8) fun w8=>DSl w8 fun A4 n4 m4=>eI E 24 .i64 fun x5=>eI E 25 .i64 fun x6=>Zj D (ZE.l4 K k p3 x4 A3 n3 m3 A4 n4 m4 x5 x6 H)
def ZE.l10.L (K:VK)(R4:OA->Int->OA->Nat->Nat->OA->Nat->Nat->Int->Int->Hp->Prop)(k:Nat):Mid:=fun E D H=>
 eP E 0 fun p5=>eI E 1 .i64 fun x9=>DG (E.get? 7) fun w7=>DSl w7 fun A5 n5 m5=>DG (E.get? 8) fun w8=>DSl w8 fun A6 n6 m6=>eI E 9 .i64 fun x10=>eI E 24 .i64 fun x11=>eI E 25 .i64 fun x12=>DG (E.get? 46) fun w46=>DSl w46 fun A7 n7 m7=>eI E 47 .i64 fun x13=>eI E 48 .i64 fun x14=>Zj D (ZE.l10 K R4 k p5 x9 A5 n5 m5 A6 n6 m6 x10 x11 x12 A7 n7 m7 x13 x14 H)
def ZE.Λ10 (_:VK)(_R4:OA→Int→OA→Nat→Nat→OA→Nat→Nat→Int→Int→Hp→Prop)(_R10:OA→Int→OA→Nat→Nat→OA→Nat→Nat→Int→Int→Int→OA→Nat→Nat→Int→Int→Hp→Prop):Zs:=Zs.none (fun i=>match Nat.beq i 6 with|true=>some ([],[0,1,2,3,4,5,6,7,8,9,10,11,12,13],14)|false=>none)
def ZE.Λ4 (K:VK)(R4:OA→Int→OA→Nat→Nat→OA→Nat→Nat→Int→Int→Hp→Prop):Zs:=⟨fun i=>none,fun i=>match Nat.beq i 10 with|true=>some (fun E D H=>∃ k,ZE.l10.L K R4 k E D H)|false=>none,(fun i=>match Nat.beq i 6 with|true=>some ([],[0,1,2,3,4,5,6,7,8,9,10,11,12,13],14)|false=>none)⟩
def ZE.Λ (K:VK):Zs:=⟨fun i=>none,fun i=>match Nat.beq i 4 with|true=>some (fun E D H=>∃ k,ZE.l4.L K k E D H)|false=>none,(fun i=>match Nat.beq i 6 with|true=>some ([],[0,1,2,3,4,5,6,7,8,9,10,11,12,13],14)|false=>none)⟩
theorem ZE.ok p1 x1 x2 H K (h:ZE p1 x1 x2 H K):Za prog 301 #[.pointer p1,I x1,I x2] H K:=
 okL (Λ:=(ZE.Λ K)) eZ0 Tryz.func301 rfl rfl h (oC (fun E D H h=>by
   refine Safe.loop' (ZE.l4.L K) (fun E D H h=>?_) (fun k E D H h=>?_) E D H h
   ·obtain⟨w0,e0,g1⟩:=DG.out h;obtain⟨p3,rfl,g2⟩:=DP.out g1;obtain⟨w1,e1,g3⟩:=DG.out g2;obtain⟨x4,rfl,g4⟩:=DI.out g3;obtain⟨w7,e7,g5⟩:=DG.out g4;obtain⟨A3,n3,m3,rfl,g6⟩:=DSl.out g5;obtain⟨w8,e8,g7⟩:=DG.out g6;obtain⟨A4,n4,m4,rfl,g8⟩:=DSl.out g7;obtain⟨w24,e24,g9⟩:=DG.out g8;obtain⟨x5,rfl,g10⟩:=DI.out g9;obtain⟨w25,e25,g11⟩:=DG.out g10;obtain⟨x6,rfl,g12⟩:=DI.out g11;obtain⟨rfl,h'⟩:=Zj.out g12;exact h'
   ·obtain⟨p3,e0,g2⟩:=GP h;obtain⟨x4,e1,g4⟩:=GI g2;obtain⟨w7,e7,g5⟩:=DG.out g4;obtain⟨A3,n3,m3,rfl,g6⟩:=DSl.out g5;obtain⟨w8,e8,g7⟩:=DG.out g6;obtain⟨A4,n4,m4,rfl,g8⟩:=DSl.out g7;obtain⟨x5,e24,g10⟩:=GI g8;obtain⟨x6,e25,g12⟩:=GI g10;obtain⟨rfl,h'⟩:=Zj.out g12;exact okJ (Λ:=(ZE.Λ4 K (ZE.l4 K k))) eZ0 [] (Zc.cons e0 (Zc.cons e1 (Zc.cons e7 (Zc.cons e8 (Zc.cons e24 (Zc.cons e25 (Zc.nil _))))))) h' (oC (fun E D H h=>by
      refine Safe.loop' (ZE.l10.L K (ZE.l4 K k)) (fun E D H h=>?_) (fun k E D H h=>?_) E D H h
      ·obtain⟨w0,e0,g1⟩:=DG.out h;obtain⟨p5,rfl,g2⟩:=DP.out g1;obtain⟨w1,e1,g3⟩:=DG.out g2;obtain⟨x9,rfl,g4⟩:=DI.out g3;obtain⟨w7,e7,g5⟩:=DG.out g4;obtain⟨A5,n5,m5,rfl,g6⟩:=DSl.out g5;obtain⟨w8,e8,g7⟩:=DG.out g6;obtain⟨A6,n6,m6,rfl,g8⟩:=DSl.out g7;obtain⟨w9,e9,g9⟩:=DG.out g8;obtain⟨x10,rfl,g10⟩:=DI.out g9;obtain⟨w24,e24,g11⟩:=DG.out g10;obtain⟨x11,rfl,g12⟩:=DI.out g11;obtain⟨w25,e25,g13⟩:=DG.out g12;obtain⟨x12,rfl,g14⟩:=DI.out g13;obtain⟨w46,e46,g15⟩:=DG.out g14;obtain⟨A7,n7,m7,rfl,g16⟩:=DSl.out g15;obtain⟨w47,e47,g17⟩:=DG.out g16;obtain⟨x13,rfl,g18⟩:=DI.out g17;obtain⟨w48,e48,g19⟩:=DG.out g18;obtain⟨x14,rfl,g20⟩:=DI.out g19;obtain⟨rfl,h'⟩:=Zj.out g20;exact h'
      ·obtain⟨p5,e0,g2⟩:=GP h;obtain⟨x9,e1,g4⟩:=GI g2;obtain⟨w7,e7,g5⟩:=DG.out g4;obtain⟨A5,n5,m5,rfl,g6⟩:=DSl.out g5;obtain⟨w8,e8,g7⟩:=DG.out g6;obtain⟨A6,n6,m6,rfl,g8⟩:=DSl.out g7;obtain⟨x10,e9,g10⟩:=GI g8;obtain⟨x11,e24,g12⟩:=GI g10;obtain⟨x12,e25,g14⟩:=GI g12;obtain⟨w46,e46,g15⟩:=DG.out g14;obtain⟨A7,n7,m7,rfl,g16⟩:=DSl.out g15;obtain⟨x13,e47,g18⟩:=GI g16;obtain⟨x14,e48,g20⟩:=GI g18;obtain⟨rfl,h'⟩:=Zj.out g20;exact okJ (Λ:=(ZE.Λ10 K (ZE.l4 K k) (ZE.l10 K (ZE.l4 K k) k))) eZ0 [] (Zc.cons e0 (Zc.cons e1 (Zc.cons e7 (Zc.cons e8 (Zc.cons e9 (Zc.cons e24 (Zc.cons e25 (Zc.cons e46 (Zc.cons e47 (Zc.cons e48 (Zc.nil _))))))))))) h' oN) oN)) oN)
def fZc (p1:OA)(x1:Int)(H:Hp)(K:VK):Prop:=
 NN p1 fun a1=>NN p1 fun a2=>LeP H (a2.add 6) fun p2=>QcS 237 #[.pointer p2] H fun A1 n1 m1=>Hz 236 #[.pointer (some (a1.add 0)),.slice A1 n1 m1] H fun v3 H1=>NN p1 fun a3=>LeP H1 (a3.add 3) fun p3=>NN p1 fun a4=>LeI H1 ((a4.add 4).add 0) fun x2=>NN p1 fun a5=>LeP H1 (a5.add 6) fun p4=>QcS 237 #[.pointer p4] H1 fun A2 n2 m2=>HcI 185 #[.pointer p3,I (i64.wrap (x1*x2)),.slice A2 n2 m2] H1 fun x3 H2=>K (I x3) H2
theorem fZc.ok p1 x1 H K (h:fZc p1 x1 H K):Za prog 302 #[.pointer p1,I x1] H K:=
 ok0 (fun i=>match Nat.beq i 2 with|true=>some ([],[0,1,2,3,4,5,6,7,8,9,10,11,12,13,14,15],16)|false=>match Nat.beq i 1 with|true=>some ([],[0,1,2,3,4,5,6,7],8)|false=>none) eZ0 Tryz.func302 rfl rfl h
end W
namespace Trn
open Go Go.Hw W Shp
def cZR (p:Int):Bool:=p==4||p==8||p==16||p==32||p==64||p==128||p==256||p==512
theorem sZL :(List.range 513).all (fun n=>decide (n<4)||((n&&&(n-1)==0)==cZR (n:Int)))=true:=by decide +kernel
theorem mZC {p:Int}(h4:4<=p:=by omega)(h5:p<=512:=by omega):(aZD .i64 p (i64.wrap (p-1))=0)↔cZR p=true:=by
 obtain⟨n,rfl⟩:=Int.eq_ofNat_of_zero_le (show 0<=p by omega);rw[show((n:Int)-1)=((n-1:Nat):Int) by omega,ZM,Lay.iZ1 (by omega) (by omega)];have ht:=List.all_eq_true.1 sZL n (by simp;omega);simp only[Bool.or_eq_true,decide_eq_true_eq,beq_iff_eq]at ht;have ht:=ht.resolve_left (by omega);rw[← ht];simp only[beq_iff_eq];omega
theorem fZh {p:Int}(h:cZR p=true):4<=p/\p<=512:=by
 simp only[cZR,Bool.or_eq_true,beq_iff_eq]at h;omega
structure cZD (r c:Int)(per free:Int)(j:Nat):Prop where
 le:((2^j:Nat):Int)<=c
 fit:((2^j:Nat):Int)*r<=free-per
 most:((2^j:Nat):Int)=c∨free-per<2*((2^j:Nat):Int)*r
def nZY (r c per free:Int)(v:Value):Prop:=
 (¬ (dZQ r c=true/\cZR per=true/\per<=free/\r<=free-per)/\v= .tuple #[I 0,.bool false])∨
 ((dZQ r c=true/\cZR per=true/\per<=free/\r<=free-per)/\∃ j:Nat,cZD r c per free j/\v= .tuple #[I ((2^j:Nat):Int),.bool true])
theorem rZ2 {r c per free:Int}{ea eb:Nat}(hr:r=((2^ea:Nat):Int))(hc:c=((2^eb:Nat):Int))(hab:ea+eb<=32)(hp:cZR per=true)(hf:per<=free/\free<=9223372036854775807)(K:VK)(b1:Nat){L:List As}(i:Nat)
  (hi:L[i]? =some (pts b1 (Is #[I r,I c] 217))) {H:Hp} (hs:Sep L H) (hK:∀ j,cZD r c per free j->K (.tuple #[I ((2^j:Nat):Int),.bool true]) H):
  ∀(t j:Nat),j+t=eb->((2^j:Nat):Int)*r<=free-per->aZ2.l4 K (t+1) per free (O b1) ((2^j:Nat):Int) H:=by
 have hpr:=fZh hp;have hra:=pow_pos ea;have hca:=aZP (show ea<=32 by omega);rw[show 2^32=4294967296 by decide]at hca;have key:∀(j:Nat),j<eb->aZ2.l4 K 0 per free (O b1) ((2^j:Nat):Int) H=False:=fun _ _=>rfl
 intro t
 induction t with
 |zero=>
  intro j hj hfit;have hje:j=eb:=by omega
  have hp2:=aZP (show j<=32 by omega);rw[show 2^32=4294967296 by decide]at hp2;have hz:=Int.natCast_nonneg (2^j);have hq:((2^j:Nat):Int)<=4294967296:=Int.ofNat_le.2 hp2;unfold aZ2.l4;refine hs.ldf i hi rfl ?_;simp only[HV];rw[ZM];refine Zg ?_ (hK j ⟨by rw[hc,hje];exact Int.le_refl _,hfit,.inl (by rw[hc,hje])⟩);rw[hc,←hje];have:=pow_pos j;omega
 |succ t ih=>
  intro j hj hfit;have hp2:=aZP (show j+1<=32 by omega);rw[show 2^32=4294967296 by decide,Nat.pow_succ]at hp2;have h2:i64.wrap ((2:Int)*((2^j:Nat):Int))=((2^(j+1):Nat):Int):=by
   rw[ZM,Nat.pow_succ];omega
  have hle:((2^(j+1):Nat):Int)<=c:=by
   rw[hc];have:=aZP (show j+1<=eb by omega);omega
  unfold aZ2.l4;refine hs.ldf i hi rfl ?_;simp only[HV];rw[h2];refine Zm hle ?_;refine hs.ldf i hi rfl ?_;simp only[HV];refine⟨by omega,trivial,?_⟩;obtain⟨f,hfe⟩:=Int.eq_ofNat_of_zero_le (show 0<=free-per by omega);rw[ZM (x:=free-per)];rw[show Int.tdiv (free-per) r=((f/2^ea:Nat):Int) by rw[hfe,hr];rfl];have hdl:f/2^ea<=f:=Nat.div_le_self _ _;rw[bZc];have hiff:(((2^(j+1):Nat):Int)<=((f/2^ea:Nat):Int))↔((2^(j+1):Nat):Int)*r<=free-per:=by
   rw[Int.ofNat_le,Nat.le_div_iff_mul_le (by omega),hfe,hr,←Int.natCast_mul,Int.ofNat_le]
  by_cases hc2:((2^(j+1):Nat):Int)*r<=free-per
  ·refine Zm (hiff.2 hc2) ?_;have h3:i64.wrap (((2^j:Nat):Int)*(2:Int))=((2^(j+1):Nat):Int):=by rw[Int.mul_comm];exact h2
   rw[h3];exact ih (j+1) (by omega) hc2
  ·refine Zg (fun h=>hc2 (hiff.1 h)) (hK j ⟨?_,hfit,.inr ?_⟩)
   ·rw[hc];have:=aZP (show j<=eb by omega);omega
   ·have e:(2:Int)*((2^j:Nat):Int)=((2^(j+1):Nat):Int):=by rw[Nat.pow_succ];omega
    rw[e];omega
theorem vZi (r c per free:Int)(hper: -9223372036854775808<=per/\per<=9223372036854775807)(hf:free<=9223372036854775807)(H:Hp)(hT:T64 H):
  Za prog 299 #[.agg #[I r,I c],I per,I free] H fun v H'=>nZY r c per free v/\H'=H:=by
 refine Za.forget ?_;apply aZ2.ok;unfold aZ2;refine(Sep.start H).nw fun b1 H1 hs=>?_
 have out:∀{v:Value},nZY r c per free v->∃ H'',H''.le H1/\nZY r c per free v/\H''=H:=fun h=>⟨H,hs.ow 0 rfl,h,rfl⟩
 first|refine hs.ldw 1 rfl rfl ?_
 try simp only[HV]
 refine Za.use (bZ2 r c H1 (hT.le (hs.ow 0 rfl))) ?_;simp only[HV];cases hg:dZQ r c with
 |false=>exact aZE rfl (out (.inl ⟨fun h=>(by rw[hg]at h;cases h.1),rfl⟩))
 |true=>
  refine aZe rfl ?_;by_cases h1:per<4
  ·exact Zm h1 (out (.inl ⟨fun h=>(by have:=fZh h.2.1;omega),rfl⟩))
  refine Zg h1 ?_;by_cases h2:per>512
  ·exact Zm h2 (out (.inl ⟨fun h=>(by have:=fZh h.2.1;omega),rfl⟩))
  refine Zg h2 ?_;have hpb:=mZC (p:=per);cases hp:cZR per with
  |false=>exact Zz (fun h=>by rw[hpb.1 h]at hp;cases hp) (out (.inl ⟨fun h=>(by rw[hp]at h;cases h.2.1),rfl⟩))
  |true=>
   refine Zr (hpb.2 hp) ?_;by_cases h3:free<per
   ·exact Zm h3 (out (.inl ⟨fun h=>(by omega),rfl⟩))
   refine Zg h3 ?_
   first|refine hs.ldf 1 rfl rfl ?_|refine hs.ldg 1 rfl rfl ?_
   try simp only[HV]
   rw[ZM (x:=free-per)];by_cases h4:free-per<r
   ·exact Zm h4 (out (.inl ⟨fun h=>(by omega),rfl⟩))
   refine Zg h4 ?_;obtain⟨ea,eb,hr,hc,hab,_,_⟩:=hZz hg;refine⟨eb+1,?_⟩;have:=rZ2 hr hc hab hp ⟨by omega,hf⟩ (fun v H'=>∃ H'',H''.le H'/\nZY r c per free v/\H''=H) b1 1 rfl hs (fun j hj=>out (.inr ⟨⟨hg,hp,by omega,by omega⟩,j,hj,rfl⟩)) eb 0 (by omega) (by rw[Nat.pow_zero];omega);exact this
end Trn
namespace CrcP
open Go Go.Hw Go.Crc Go.Form W
def wZ0 (i:Nat):W32:=if i=0 then uZh else 1#32<<<(i-1)
def Rep (m:Nat->W32)(f:W32->W32):Prop:=Lin f/\∀ i,i<32->m i=f (1#32<<<i)
theorem Rep.bit :Rep wZ0 eZv:=⟨oZS,by
 have:(List.range 32).all (fun i=>wZ0 i==eZv (1#32<<<i))=true:=by decide +kernel
 intro i hi;have:=List.all_eq_true.1 this i (by simpa using hi);simpa using this⟩
def counter (s:W32)(n:Nat):AO:=Is #[Ii (s.toNat:Int),I (n:Int)] 329
theorem lZj (c:Nat)(s:W32)(k:Nat)(A:OA)(n m:Nat)(bs:List UInt8)(hn:n=bs.length)(H:Hp)(hc:H c=some (counter s k))(hb:Cells H A (Zn bs))(hk:k+n<=9223372036854775807):
  Za prog 296 #[V c,.slice A n m] H (RetE (.tuple #[]) (H.set c (counter (more s bs) (k+n)))):=by
 apply cZv.ok;unfold cZv;simp only[aZ0,Addr.add_lit',Nat.add_zero,Nat.zero_add];refine bZt hc (v:=Ii (s.toNat:Int)) rfl ?_;simp only[HV];refine Za.use (mZn s A n m bs hn (by omega) H hb) ?_
 try simp only[HV]
 refine hZQ hc (by simp) rfl ?_;refine bZt (Hp.set_same _ _ _) (v:=I (k:Int)) rfl ?_;simp only[HV];refine hZQ (Hp.set_same _ _ _) (by simp) rfl ?_;rw[Hp.set_set,show((k:Int)+(n:Int))=((k+n:Nat):Int) by omega,bZc hk];exact RetE.mk _ _
theorem pZy (c:Nat)(s:W32)(k:Nat)(A:OA)(n m:Nat)(l:List UInt64)(hn:n=l.length)(H:Hp)(hc:H c=some (counter s k))(hl:Cells H A (Zb l))(hn2:n<=10000000000)(hk:k<=1000000000000):
  Za prog 236 #[V c,.slice A n m] H (RetE (.tuple #[]) (H.set c (counter (more s (form l)) (k+8*n)))):=by
 apply Za.ret;apply bZP.ok;unfold bZP;refine(FormP.Put_ok A n m l hn (by omega) H hl).mono ?_;rintro v H' ⟨b,hb,rfl,rfl⟩;simp only[HV];have hf:(form l).length=8*n:=by rw[bZb,hn]
 have hle:=Hp.le_set (o:=.row (Zn (form l)) 5 (8*n)) hb;refine Za.use (lZj c s k (Io b) (8*n) (8*n) (form l) hf.symm _ (hle _ _ hc) (by have:=Cells.row (Hp.set_same H b (.row (Zn (form l)) 5 (8*n))) 0 (8*n);rwa [List.drop_zero,List.take_of_length_le (by rw[ZO,hf];omega)]at this) (by omega)) ?_
 try simp only[HV]
 exact⟨rfl,Hp.set_le hle _ _⟩
theorem vZk (c:Nat)(s:W32)(k:Nat)(H:Hp)(hc:H c=some (counter s k)):Za prog 238 #[V c] H (RetE (Ii (s.toNat:Int)) H):=by
 apply cZw.ok;unfold cZw;simp only[aZ0,Addr.add_lit',Nat.add_zero,Nat.zero_add];refine bZt hc (v:=Ii (s.toNat:Int)) rfl ?_;simp only[HV];exact RetE.mk _ _
section
variable (A1 A2 : Option Addr) (n1 m1 n2 m2 : Nat) (ps : List (OA × Nat × Nat × List UInt8)) (ws : List (OA × Nat × Nat × List UInt64)) (H0 : Hp) (c : Nat)
end
def iZ3 (s:W32)(k:Nat)(r:List Value):Array Value:=(Value.int .u32 (s.toNat:Int)::Value.int .i64 (k:Int)::r).toArray
section
variable {L : List As} {H : Hp}
theorem wZD (h:Sep L H)(i:Nat){c:Nat}{s:W32}{k:Nat}{r:List Value}{t:TypeId}(hi:L[i]? =some (pts c (Is (iZ3 s k r) t)))(A:OA)(n m:Nat)(bs:List UInt8)(hn:n=bs.length)(hb:∀ H',H.le H'->Cells H' A (Zn bs))(hk:k+n<=9223372036854775807){K:VK}
  (kk:∀ H',Sep (L.set i (pts c (Is (iZ3 (more s bs) (k+n) r) t))) H'->K (.tuple #[]) H'):Za prog 296 #[V c,.slice A n m] H K:=by
 apply cZv.ok;unfold cZv;simp only[aZ0];refine h.ldf i hi rfl ?_;simp only[HV];refine Za.use (mZn s A n m bs hn (by omega) H (hb H (Hp.le_refl _))) ?_
 try simp only[HV]
 refine h.stf i hi (by show 0<(_::_::r:List Value).toArray.size;simp) rfl fun H1 hs1=>?_
 have hi1:(L.set i (pts c (Is ((iZ3 s k r).setIfInBounds 0 (Ii ((more s bs).toNat:Int))) t)))[i]? =some (pts c (Is (iZ3 (more s bs) k r) t)):=by
  rw[List.getElem?_set];simp only[(List.getElem?_eq_some_iff.1 hi).1,if_true];rfl
 refine hs1.ldf i hi1 rfl ?_;simp only[HV];refine hs1.stf i hi1 (by show 1<(_::_::r:List Value).toArray.size;simp) rfl fun H2 hs2=>?_
 rw[show((k:Int)+(n:Int))=((k+n:Nat):Int) by omega,bZc hk,List.set_set]at hs2;exact kk H2 hs2
theorem kZr (h:Sep L H)(i:Nat){c:Nat}{s:W32}{k:Nat}{r:List Value}{t:TypeId}(hi:L[i]? =some (pts c (Is (iZ3 s k r) t)))(A:OA)(n m:Nat)(l:List UInt64)(hn:n=l.length)(hl:Cells H A (Zb l))(hn2:n<=10000000000)(hk:k<=1000000000000){K:VK}
  (kk:∀ H',Sep (L.set i (pts c (Is (iZ3 (more s (form l)) (k+8*n) r) t))) H'->K (.tuple #[]) H'):Za prog 236 #[V c,.slice A n m] H K:=by
 apply bZP.ok;unfold bZP;refine(FormP.Put_ok A n m l hn (by omega) H hl).mono ?_;rintro v H' ⟨b,hb,rfl,rfl⟩;simp only[HV];have hf:(form l).length=8*n:=by rw[bZb,hn]
 have hs:=h.new hb (.row (Zn (form l)) 5 (8*n));have hlt:=(List.getElem?_eq_some_iff.1 hi).1;refine wZD hs i (by rw[List.getElem?_append_left hlt];exact hi) (Io b) (8*n) (8*n) (form l) hf.symm (fun H' hle=>?_) (by omega) fun H' hs'=>?_
 ·have:=Cells.row (hle _ _ (Hp.set_same H b (.row (Zn (form l)) 5 (8*n)))) 0 (8*n)
  rwa [List.drop_zero,List.take_of_length_le (by rw[ZO,hf];omega)]at this
 ·rw[List.set_append_left _ _ hlt]at hs';exact kk H' (Sep.take hs')
theorem pZP (h:Sep L H)(i:Nat){c:Nat}{s:W32}{k:Nat}{r:List Value}{t:TypeId}(hi:L[i]? =some (pts c (Is (iZ3 s k r) t))):Za prog 238 #[V c] H (RetE (Ii (s.toNat:Int)) H):=by
 apply cZw.ok;unfold cZw;simp only[aZ0];refine h.ldf i hi rfl ?_;simp only[HV];exact RetE.mk _ _
end
end CrcP
namespace Trn
open Go Go.Hw Go.Crc Go.Form W Shp Str Dsk Are
theorem vZK {r a i a' i':Nat}(hi:i<r)(hi':i'<r)(h:a*r+i=a'*r+i'):a=a'/\i=i':=by
 have h1:(a*r+i)/r=a:=by rw[Nat.add_comm,Nat.add_mul_div_right _ _ (by omega),Nat.div_eq_of_lt hi,Nat.zero_add]
 have h2:(a'*r+i')/r=a':=by rw[Nat.add_comm,Nat.add_mul_div_right _ _ (by omega),Nat.div_eq_of_lt hi',Nat.zero_add]
 have:a=a':=by rw[← h1,←h2,h]
 subst this;exact⟨rfl,by omega⟩
def uZn (p q r c bn:Nat):List Value:=[V p,V q,I (r:Int),I (c:Int),V bn]
def cZh (s:W32)(k p q r c bn:Nat):AO:=Is (CrcP.iZ3 s k (uZn p q r c bn)) 409
structure Fil (F:Nat->Nat->UInt64)(rows b i k:Nat)(ws:List UInt64):Prop where
 len:ws.length=b*rows
 got:∀ k' i',k'<b->i'<rows->(i'<i∨(i'=i/\k'<k))->ws[k'*rows+i']? =some (F i' k')
theorem sZD {k b rows i:Nat}(hk:k<b)(hi:i<rows):k*rows+i<b*rows:=by
 have:(k+1)*rows<=b*rows:=Nat.mul_le_mul_right rows hk;rw[Nat.succ_mul]at this;omega
theorem Fil.step {F:Nat->Nat->UInt64}{rows b i k:Nat}{ws:List UInt64}(h:Fil F rows b i k ws)(hk:k<b)(hi:i<rows):Fil F rows b i (k+1) (ws.set (k*rows+i) (F i k)):=by
 have hlt:=sZD hk hi;refine⟨by rw[List.length_set];exact h.len,fun k' i' hk' hi' hc=>?_⟩;rw[List.getElem?_set];by_cases e:k*rows+i=k'*rows+i'
 ·obtain⟨rfl,rfl⟩:=vZK hi hi' e;rw[if_pos rfl,if_pos (by rw[h.len];exact hlt)]
 ·rw[if_neg e];refine h.got k' i' hk' hi' ?_;rcases hc with hc|⟨rfl,hc⟩
  ·exact .inl hc
  ·refine .inr ⟨rfl,?_⟩;by_cases e2:k'=k
   ·subst e2;exact absurd rfl e
   ·omega
theorem Fil.next {F:Nat->Nat->UInt64}{rows b i:Nat}{ws:List UInt64}(h:Fil F rows b i b ws):Fil F rows b (i+1) 0 ws:=⟨h.len,fun k' i' hk' hi' hc=>h.got k' i' hk' hi' (by omega)⟩
theorem Fil.all {F:Nat->Nat->UInt64}{rows b:Nat}{ws:List UInt64}(hr:0<rows)(h:Fil F rows b rows 0 ws):ws=(List.range (b*rows)).map fun j=>F (j%rows) (j/rows):=by
 apply List.ext_getElem?;intro j;by_cases hj:j<b*rows
 ·have hd:j/rows<b:=by rw[Nat.div_lt_iff_lt_mul hr];exact hj
  have hm:=Nat.mod_lt j hr;have:=h.got (j/rows) (j%rows) hd hm (.inl hm);rw[Nat.mul_comm,Nat.div_add_mod]at this;rw[this,List.getElem?_map,List.getElem?_range hj];rfl
 ·rw[List.getElem?_eq_none (by rw[h.len];omega),List.getElem?_eq_none (by simp;omega)]
theorem pZs (ws:List UInt64)(i:Nat)(w:UInt64):(Zb ws).set i (U (w.toNat:Int))=Zb (ws.set i w):=by
 unfold Zb;rw[List.map_set]
section
variable {rn p q dp ap bn bb rl : Nat} {s : W32} {sk : Nat} {x : X} {ea eb j : Nat} {cap peak : Int} {bufs : List (Nat × Nat × Option Addr)} {mb mr : Nat}
theorem sZi (K:VK)(R4:OA->Int->OA->Nat->Nat->OA->Nat->Nat->Int->Int->Hp->Prop)(F:Nat->Nat->UInt64){rows cols b i:Nat}(hr:rows*b<=4294967296)(hb1:1<=b)(hi:i<rows)(c:Int)(row:List UInt64)(hrow:row.length=b)(hF:∀ k,k<b->row[k]? =some (F i k)){L:List As}
  (hK:∀ ws H,Fil F rows b (i+1) 0 ws->Sep (pts rn (cZh s sk p q rows cols bn)::pts bb (.row (Zb ws) 108 mb)::pts rl (.row (Zb row) 108 mr)::L) H->R4 (Io rn) c (Io bb) (b*rows) (b*rows) (Io rl) b b (rows:Int) ((i+1:Nat):Int) H):
  ∀(t k:Nat) (ws:List UInt64) (H:Hp),k+t=b->Fil F rows b i k ws->Sep (pts rn (cZh s sk p q rows cols bn)::pts bb (.row (Zb ws) 108 mb)::pts rl (.row (Zb row) 108 mr)::L) H->
   ZE.l10 K R4 (t+1) (Io rn) c (Io bb) (b*rows) (b*rows) (Io rl) b b (i:Int) (rows:Int) (i:Int) (Io rl) b b (b:Int) (k:Int) H:=fun t=>by
 induction t with
 |zero=>
  intro k ws H hk hf hs;have hkb:k=b:=by omega
  subst hkb;unfold ZE.l10;refine Zg (by omega) ?_;have hr1:rows*1<=rows*k:=Nat.mul_le_mul_left rows (by omega);rw[show((i:Int)+1)=((i+1:Nat):Int) by omega,bZc];exact hK ws H hf.next hs
 |succ t ih=>
  intro k ws H hk hf hs;have hkb:k<b:=by omega
  have hlt:=sZD hkb hi;have hcm:=Nat.mul_comm b rows;unfold ZE.l10;refine Zm (by omega) ?_;have hg:(Zb row)[k]? =some (U ((F i k).toNat:Int)):=by rw[aZ5,hF k hkb];rfl
  refine⟨by omega,by omega,?_⟩;show Ld H _ _
  rw[Int.toNat_natCast,Nat.mul_one,Addr.add_lit',Nat.zero_add];refine hs.ldr 2 rfl hg ?_;simp only[HV];refine hs.ldg 0 rfl rfl ?_;simp only[HV];have e:i64.wrap (i64.wrap ((k:Int)*(rows:Int))+(i:Int))=((k*rows+i:Nat):Int):=by
   rw[← Int.natCast_mul,bZc,show(((k*rows:Nat):Int)+(i:Int))=((k*rows+i:Nat):Int) by omega,bZc]
  rw[e];refine⟨by omega,by omega,?_⟩;show St H _ _ _
  rw[Int.toNat_natCast,Nat.mul_one,Addr.add_lit',Addr.add_lit',Nat.zero_add,Nat.add_zero];refine hs.str 1 (b:=bb) (xs:=Zb ws) (e:=108) (m:=mb) rfl (by rw[Zq,hf.len];exact hlt) rfl fun H hs=>?_;rw[pZs]at hs;rw[ZM (x:=(k:Int)+1) (by omega) (by have:b*1<=b*rows:=Nat.mul_le_mul_left b (by omega);omega)];exact ih (k+1) _ H (by omega) (hf.step hkb hi) hs
def gR (per f cols c b i:Nat):Nat:=((List.range i).map fun i'=>(pcs per f b (i'*cols+c) b).length).sum
theorem iZF (per f cols c b i:Nat):gR per f cols c b (i+1)=gR per f cols c b i+(pcs per f b (i*cols+c) b).length:=by
 unfold gR;rw[List.range_succ,List.map_append,List.sum_append];simp
theorem vZH (per f cols c b:Nat):∀{i j:Nat},i<=j->gR per f cols c b i<=gR per f cols c b j:=fun{i j} h=>by
 induction h with
 |refl=>exact Nat.le_refl _
 |step h ih=>rw[iZF];omega
theorem nZ1 (per f cols c b:Nat):∀ i,gR per f cols c b i<=i*b
 |0=>by simp[gR]
 |i+1=>by
  rw[iZF,Nat.succ_mul];have:=nZ1 per f cols c b i;have:=dZp per f b (i*cols+c) b;omega
theorem vZ8 (d:D)(a b:Nat):D.rdG (D.rdG d a) b=D.rdG d (a+b):=by
 unfold D.rdG;simp only[D.mk.injEq,true_and,and_true];omega
theorem lZX (a b:Int):mx (mx a b) b=mx a b:=by
 unfold mx;by_cases h:b>a
 ·rw[if_pos h,if_neg (by omega)]
 ·rw[if_neg h,if_neg h]
theorem kZh {d:D}{x:X}{fr n k:Nat}(h:k<n):(pws d x fr n)[k]? =some (pw d x (fr+k)):=by
 unfold pws;rw[List.getElem?_map,List.getElem?_range h];rfl
def pZ5 (rn p q dp ap bn bb:Nat)(s:W32)(sk:Nat)(d:D)(x:X)(rows cols b c:Nat)(cap peak:Int)(bufs:List (Nat×Nat×OA))(mb:Nat)(v:Value)(M:List As):Prop:=
 ((d.fuse=0∨gR (D.per d) x.f cols c b rows<d.fuse)/\v= I 0/\
  M=[pts rn (cZh s sk p q rows cols bn),pts bb (.row (Zb ((List.range (b*rows)).map fun j=>pw d x (j%rows*cols+c+j/rows))) 108 mb),pts p (ZJ dp ap x),Dk dp (D.rdG d (gR (D.per d) x.f cols c b rows)),Ar ap cap (mx peak (ZH bufs+D.per d)) bufs])∨
 (∃ d',cZB (fun _=>False) d d'/\d.fuse<=gR (D.per d) x.f cols c b rows/\v= I 8/\M=[pts rn (cZh s sk p q rows cols bn),pts p (ZJ dp ap x),Dk dp d',Ar ap cap (mx peak (ZH bufs+D.per d)) bufs])
theorem pZG (K:VK){d:D}{rows cols b c:Nat}(hok:Ok d)(hl:d.down=false)(hx:On d x)(ho:d.rd<=4000000000000000000)(hw:x.w=rows*cols)(hb1:1<=b)(hcb:c+b<=cols)(hsz:rows*cols<=4294967296)(hr1:1<=rows)(hcap:(D.per d:Int)<=cap-ZH bufs)
  (hK:∀ v M H,pZ5 rn p q dp ap bn bb s sk d x rows cols b c cap peak bufs mb v M->Sep M H->K v H):
  ∀(t i:Nat) (ws row:List UInt64) (pk:Int) (H:Hp),i+t=rows->(d.fuse=0∨gR (D.per d) x.f cols c b i<d.fuse)->Fil (fun i k=>pw d x (i*cols+c+k)) rows b i 0 ws->row.length=b->mx pk (ZH bufs+D.per d)=mx peak (ZH bufs+D.per d)->(i=0∨pk=mx peak (ZH bufs+D.per d))->
   Sep [pts rn (cZh s sk p q rows cols bn),pts bb (.row (Zb ws) 108 mb),pts rl (.row (Zb row) 108 mr),pts p (ZJ dp ap x),Dk dp (D.rdG d (gR (D.per d) x.f cols c b i)),Ar ap cap pk bufs] H->
   ZE.l4 K (t+1) (Io rn) (c:Int) (Io bb) (b*rows) (b*rows) (Io rl) b b (rows:Int) (i:Int) H:=fun t=>by
 have hrb:rows*b<=4294967296:=Nat.le_trans (Nat.mul_le_mul_left rows (show b<=cols by omega)) hsz;have hr32:rows*1<=rows*cols:=Nat.mul_le_mul_left rows (by omega)
 induction t with
 |zero=>
  intro i ws row pk H hi hgo hf hrow hpk hip hs;have hir:i=rows:=by omega
  subst hir;unfold ZE.l4;refine Zg (by omega) (hK _ _ H (.inl ⟨hgo,rfl,?_⟩) (hs.re [0,1,3,4,5] rfl));rw[← hf.all (by omega),hip.resolve_left (by omega)];rfl
 |succ t ih=>
  intro i ws row pk H hi hgo hf hrow hpk hip hs;have hir:i<rows:=by omega
  have hfr:i*cols+c+b<=rows*cols:=by
   have:(i+1)*cols<=rows*cols:=Nat.mul_le_mul_right cols hir;rw[Nat.succ_mul]at this;omega
  unfold ZE.l4;refine Zm (by omega) ?_;simp only[aZ0];refine hs.ldf 0 rfl rfl ?_;simp only[HV];refine hs.ldg 0 rfl rfl ?_;simp only[HV];have e:i64.wrap (i64.wrap ((i:Int)*(cols:Int))+(c:Int))=((i*cols+c:Nat):Int):=by
   rw[← Int.natCast_mul,bZc,show(((i*cols:Nat):Int)+(c:Int))=((i*cols+c:Nat):Int) by omega,bZc]
  rw[e];have hgl:=nZ1 (D.per d) x.f cols c b i;have hib:i*b<=rows*b:=Nat.mul_le_mul_right b (by omega);have hper:D.per (D.rdG d (gR (D.per d) x.f cols c b i))=D.per d:=rfl;have hpg:=Prog.rdG (fun _=>False) hok hl hgo;refine(kZR (p:=p) (dp:=dp) (ap:=ap) (d:=D.rdG d (gR (D.per d) x.f cols c b i)) (x:=x) (cap:=cap) (peak:=pk) (bufs:=bufs) (rl:=rl) (off:=0) (mm:=mr) (el:=108) (xs:=Zb row) (Ok.rdG hok _) hl ⟨hx.w1,hx.s1,hx.fit,hx.room⟩ (by show d.rd+_<=_;omega) (i*cols+c) b b hb1 (by omega) (Nat.le_refl _) (by rw[Zq,hrow];omega) hcap).use hs [3,4,5,2] rfl rfl ?_;rintro v M H (⟨hgo2,rfl,rfl⟩|⟨j,xs',hj,hfj,hx',rfl,rfl⟩) hs
  ·simp only[HV];refine Zr rfl ⟨b+1,?_⟩;rw[vZ8,hper,←iZF]at hs;have hset:setAt (Zb row) 0 (Zb (pws (D.rdG d (gR (D.per d) x.f cols c b i)) x (i*cols+c) b))=Zb (pws d x (i*cols+c) b):=by
    rw[hZg (by rw[Zq,Zq,eZk,hrow])];rfl
   rw[hset,hpk]at hs;have hgo3:d.fuse=0∨gR (D.per d) x.f cols c b (i+1)<d.fuse:=by
    rw[iZF];have h1:(D.rdG d (gR (D.per d) x.f cols c b i)).fuse=d.fuse-gR (D.per d) x.f cols c b i:=rfl;rw[h1,hper]at hgo2;omega
   have hs:=hs.re [4,5,3,0,1,2] rfl;refine sZi K _ (fun i k=>pw d x (i*cols+c+k)) hrb hb1 hir (c:Int) (pws d x (i*cols+c) b) (eZk _ _ _ _) (fun k hk=>kZh hk) (fun ws' H hf' hs=>?_) b 0 ws H (by omega) hf hs;exact ih (i+1) ws' _ (mx peak (ZH bufs+D.per d)) H (by omega) hgo3 hf' (eZk _ _ _ _) (lZX _ _) (.inr rfl) hs
  ·simp only[HV];refine Zz (by decide) (hK _ _ H (.inr ⟨_,hpg.dead (cZB.rdG _ hpg.ok hpg.down hfj),?_,rfl,?_⟩) (hs.re [4,0,1,2] rfl))
   ·have h1:(D.rdG d (gR (D.per d) x.f cols c b i)).fuse=d.fuse-gR (D.per d) x.f cols c b i:=rfl;rw[h1]at hfj;have h2:=vZH (D.per d) x.f cols c b (show i+1<=rows by omega);rw[iZF]at h2;rw[hper]at hj;omega
   ·rw[hper,hpk];rfl
theorem sZj {d:D}{rows cols b c:Nat}(hok:Ok d)(hl:d.down=false)(hx:On d x)(ho:d.rd<=4000000000000000000)(hw:x.w=rows*cols)(hb1:1<=b)(hcb:c+b<=cols)(hsz:rows*cols<=4294967296)(hr1:1<=rows)(hcap:(D.per d:Int)<=cap-ZH bufs)(hbn:(bn,b*rows,some (O bb))∈bufs)(ws:List UInt64)(hws:ws.length=b*rows):
  Tr prog 301 #[V rn,I (c:Int),I (b:Int)] [pts rn (cZh s sk p q rows cols bn),pts bb (.row (Zb ws) 108 mb),pts p (ZJ dp ap x),Dk dp d,Ar ap cap peak bufs] (pZ5 rn p q dp ap bn bb s sk d x rows cols b c cap peak bufs mb):=fun H hs=>by
 have hrb:rows*b<=4294967296:=Nat.le_trans (Nat.mul_le_mul_left rows (show b<=cols by omega)) hsz;have hb32:1*b<=rows*b:=Nat.mul_le_mul_right b hr1;apply ZE.ok;unfold ZE;simp only[aZ0];refine hs.ldf 0 rfl rfl ?_;simp only[HV];refine Za.use (eZJ hs 4 rfl hbn) ?_
 try simp only[HV]
 refine hs.mks bZS rfl (n:=b) (m:=b) rfl rfl (Nat.le_refl _) (by omega) (by omega) fun rl H hs=>?_
 simp only[HV];refine hs.ldg 0 rfl rfl ?_;simp only[HV];refine⟨rows+1,?_⟩;have hz:aZH (#[Value.int .u64 0]:Array Value).toList b=Zb (List.replicate b 0):=by
  show aZH [Value.int .u64 0] b=_
  rw[bZC];unfold Zb;rw[List.map_replicate];rfl
 rw[hz]at hs;refine pZG (rl:=rl) (mr:=b*1) (peak:=peak) _ hok hl hx ho hw hb1 hcb hsz hr1 hcap (fun v M H h hs=>⟨M,h,hs⟩) rows 0 ws (List.replicate b 0) peak H (by omega) (by simp[gR];omega) ⟨hws,fun k' i' _ _ h=>by omega⟩ (by simp) rfl (.inl rfl) ?_;exact hs.re [0,1,5,2,3,4] rfl
end
end Trn
namespace Str
open Go Go.Hw Go.Form W Dsk Are
theorem uZq {ws src:List UInt64}{a:Nat}(ha:a<=ws.length)(i:Nat):(eZm ws a src)[i]? =if i<a then ws[i]? else if i<a+src.length then src[i-a]? else ws[i]? :=by
 unfold eZm;have hl:(ws.take a).length=a:=by rw[List.length_take];omega
 rw[List.append_assoc];by_cases h1:i<a
 ·rw[if_pos h1,List.getElem?_append_left (by omega),List.getElem?_take_of_lt h1]
 ·rw[if_neg h1,List.getElem?_append_right (by omega),hl];by_cases h2:i<a+src.length
  ·rw[if_pos h2,List.getElem?_append_left (by omega)]
  ·rw[if_neg h2,List.getElem?_append_right (by omega),List.getElem?_drop];congr 1;omega
theorem xZE {d:D}(hok:Ok d)(x:X)(fr:Nat)(src:List UInt64)(hl:fr%D.per d+src.length<=D.per d)(j:Nat):
  pw (wpc d (x.f+fr/D.per d) (fr%D.per d) src) x j=if fr<=j/\j<fr+src.length then(src[j-fr]?).getD 0 else pw d x j:=by
 have hp:=Ok.per_le hok;have hwl:(aZL (d.now ((x.f+fr/D.per d:Nat):Int))).length=D.per d:=by rw[dZm,hok.now];rfl
 unfold pw;rw[qZE,qZD];have ej:=Nat.div_add_mod j (D.per d);have ef:=Nat.div_add_mod fr (D.per d);have mj:=Nat.mod_lt j (show 0<D.per d by omega);have mf:=Nat.mod_lt fr (show 0<D.per d by omega);by_cases hs:j/D.per d=fr/D.per d
 ·rw[hs]at ej⊢;rw[if_pos rfl,pZN,uZq (by omega)];generalize D.per d*(fr/D.per d)=q at*;by_cases h1:j%D.per d<fr%D.per d
  ·rw[if_pos h1,if_neg (by omega)]
  ·rw[if_neg h1];by_cases h2:j%D.per d<fr%D.per d+src.length
   ·rw[if_pos h2,if_pos (by omega),show j%D.per d-fr%D.per d=j-fr by omega]
   ·rw[if_neg h2,if_neg (by omega)]
 ·rw[if_neg (by omega),if_neg];intro hc;apply hs;apply Nat.div_eq_of_lt_le
  ·rw[Nat.mul_comm];omega
  ·rw[Nat.succ_mul,Nat.mul_comm];omega
structure xZH (d d':D)(x:X)(fr:Nat)(src:List UInt64)(ps:List (Nat×Nat×Nat)):Prop where
 ok:Ok d'
 calm:Calm d->Calm d'
 size:d'.size=d.size
 sec:d'.sec=d.sec
 wr:d'.wr=d.wr+ps.length
 rd:d'.rd=d.rd+(ps.filter fun p=>decide (p.2.2<D.per d)).length
 sy:d'.sy=d.sy
 safe:d'.safe=d.safe
 tch:∀ i,d'.tch i=true->d.tch i=true∨∃ j,j<src.length/\i=((x.f+(fr+j)/D.per d:Nat):Int)
 now:∀ i,(∀ j,j<src.length->i≠((x.f+(fr+j)/D.per d:Nat):Int))->d'.now i=d.now i
 pw:∀ j,pw d' x j=if fr<=j/\j<fr+src.length then(src[j-fr]?).getD 0 else pw d x j
theorem uZR (d:D)(s at':Nat)(src:List UInt64):(wpc d s at' src).safe=d.safe/\(wpc d s at' src).tch=iZb d.tch s:=by
 unfold wpc;split<;>exact⟨rfl,rfl⟩
theorem nZN (x:X):∀(k fr:Nat) (d:D) (src:List UInt64),Ok d->src.length<=k->xZH d (wrs d x k fr src) x fr src (pcs (D.per d) x.f k fr src.length)
 |k,fr,d,[],hok,hk=>by
  have e1:wrs d x k fr []=d:=by cases k<;>simp[wrs]
  have e2:pcs (D.per d) x.f k fr ([]:List UInt64).length=[]:=by cases k<;>simp[pcs]
  rw[e1,e2];exact⟨hok,id,rfl,rfl,rfl,rfl,rfl,rfl,fun i h=>.inl h,fun _ _=>rfl,fun j=>by rw[if_neg (by simp only[List.length_nil];omega)]⟩
 |0,fr,d,w0::s0,hok,hk=>by simp at hk
 |k+1,fr,d,w0::s0,hok,hk=>by
  generalize hsrc:w0::s0=src at*;have hne:src≠ []:=by rw[← hsrc];simp
  have hpos:0<src.length:=by rw[← hsrc];simp
  have hp:=Ok.per_le hok;have hcle:=lZB (D.per d) fr src.length;have hcpos:=jZt (per:=D.per d) (fr:=fr) (n:=src.length) (by omega) hpos;have hcper:=oZB (per:=D.per d) (fr:=fr) (n:=src.length);have e:pcs (D.per d) x.f (k+1) fr src.length=(x.f+fr/D.per d,fr%D.per d,cN (D.per d) fr src.length)::pcs (D.per d) x.f k (fr+cN (D.per d) fr src.length) (src.length-cN (D.per d) fr src.length):=by
   show(if src.length=0 then []else _)=_
   rw[if_neg (by omega)]
  have ew:wrs d x (k+1) fr src=wrs (wpc d (x.f+fr/D.per d) (fr%D.per d) (src.take (cN (D.per d) fr src.length))) x k (fr+cN (D.per d) fr src.length) (src.drop (cN (D.per d) fr src.length)):=by
   show(if src=[]then d else _)=_
   rw[if_neg hne]
  rw[e,ew];generalize hcv:cN (D.per d) fr src.length=c at*;have htk:(src.take c).length=c:=by rw[List.length_take];omega
  have hdl:(src.drop c).length=src.length-c:=by simp
  have hok1:Ok (wpc d (x.f+fr/D.per d) (fr%D.per d) (src.take c)):=xZD hok _ _ (by omega);have hsz:=pZu d (x.f+fr/D.per d) (fr%D.per d) (src.take c);have hper:=qZE d (x.f+fr/D.per d) (fr%D.per d) (src.take c);have hcnt:=wZB d (x.f+fr/D.per d) (fr%D.per d) (src.take c);have hsf:=uZR d (x.f+fr/D.per d) (fr%D.per d) (src.take c);have hnow:=qZD d (x.f+fr/D.per d) (fr%D.per d) (src.take c);have hpw:=xZE hok x fr (src.take c) (by omega);have ih:=nZN x k (fr+c) _ (src.drop c) hok1 (by omega);rw[hper,hdl]at ih;generalize wrs (wpc d (x.f+fr/D.per d) (fr%D.per d) (src.take c)) x k (fr+c) (src.drop c)=d2 at*;generalize pcs (D.per d) x.f k (fr+c) (src.length-c)=ps at*;refine⟨ih.ok,fun hc=>ih.calm (uZO hc _ _ _),ih.size.trans hsz.1,ih.sec.trans hsz.2,?_,?_,ih.sy.trans hcnt.2.2,ih.safe.trans hsf.1,fun i hi=>?_,fun i hi=>?_,fun j=>?_⟩
  ·rw[ih.wr,hcnt.1,List.length_cons];omega
  ·rw[ih.rd,hcnt.2.1,htk,hper];by_cases hlt:c<D.per d
   ·rw[if_pos hlt,List.filter_cons_of_pos (by simpa using hlt),List.length_cons];omega
   ·rw[if_neg hlt,List.filter_cons_of_neg (by simpa using hlt)];omega
  ·rcases ih.tch i hi with h|⟨j,hj,h⟩
   ·rw[hsf.2]at h;unfold iZb at h;by_cases he:i=((x.f+fr/D.per d:Nat):Int)
    ·exact .inr ⟨0,hpos,by rw[Nat.add_zero];exact he⟩
    ·rw[if_neg he]at h;exact .inl h
   ·refine .inr ⟨c+j,by omega,?_⟩;rw[h,hper,Nat.add_assoc]
  ·rw[ih.now i (fun j hj=>?_),hnow,if_neg]
   ·have:=hi 0 hpos;rw[Nat.add_zero]at this;exact this
   ·have:=hi (c+j) (by omega);rw[hper,Nat.add_assoc];exact this
  ·rw[ih.pw j,hpw j,htk,hdl];by_cases h1:fr+c<=j/\j<fr+c+(src.length-c)
   ·rw[if_pos h1,if_pos (by omega),List.getElem?_drop,show c+(j-(fr+c))=j-fr by omega]
   ·rw[if_neg h1];by_cases h2:fr<=j/\j<fr+c
    ·rw[if_pos h2,if_pos (by omega),List.getElem?_take_of_lt (by omega)]
    ·rw[if_neg h2,if_neg (by omega)]
def D.fz (d:D)(q:Nat):D:={ d with fuse:=q}
theorem xZC (d:D)(q s at':Nat)(src:List UInt64):D.fz (gZA d s at' src) q=wpc (D.fz d q) s at' src:=by
 unfold gZA wpc;have e:D.per (D.fz d q)=D.per d:=rfl;rw[e];split<;>rfl
theorem tZr (x:X):∀(k fr:Nat) (d:D) (src:List UInt64) (q:Nat),D.fz (eZn d x k fr src) q=wrs (D.fz d q) x k fr src
 |0,_,_,_,_=>rfl
 |k+1,fr,d,src,q=>by
  unfold eZn wrs;have e:D.per (D.fz d q)=D.per d:=rfl;rw[e];split
  ·rfl
  ·rw[tZr x k,xZC]
theorem Prog.now {S:Int->Prop}{d d':D}{r w:Nat}(h:Prog S d d' r w){i:Int}(hi:¬S i):d'.now i=d.now i:=by
 unfold D.now D.sat;rw[h.cache i hi,h.safe,h.size]
theorem Prog.pw {S:Int->Prop}{d d':D}{r w:Nat}(h:Prog S d d' r w){x:X}(hok:Ok d)(hx:On d x)(hS:∀ i,S i->i<(x.f:Int)∨((x.f+x.s:Nat):Int)<=i){j:Nat}(hj:j<x.w):pw d' x j=pw d x j:=by
 have hp:=Ok.per_le hok;have h4:=hx.room;unfold Str.pw;rw[h.per,h.now];intro hs;have hdiv:j/D.per d<x.s:=by rw[Nat.div_lt_iff_lt_mul (by omega)];omega
 have:=hS _ hs;generalize j/D.per d=u at*;omega
theorem mZT (x:X){d:D}(hok:Ok d)(fr:Nat)(src:List UInt64)(j:Nat):pw (eZn d x src.length fr src) x j=if fr<=j/\j<fr+src.length then(src[j-fr]?).getD 0 else pw d x j:=by
 have hW:=(nZN x src.length fr (D.fz d 0) src ⟨hok.sec,hok.size,hok.big,hok.per,hok.safe,hok.cache,Nat.zero_le _⟩ (Nat.le_refl _)).pw j;rw[← tZr]at hW;exact hW
theorem On.prog {S:Int->Prop}{d d':D}{r w:Nat}{x:X}(hx:On d x)(h:Prog S d d' r w):On d' x:=⟨hx.w1,hx.s1,by rw[h.sec];exact hx.fit,by rw[h.per];exact hx.room⟩
end Str
namespace Trn
open Go Go.Hw Go.Crc Go.Form W Shp Str Dsk Are
def inX (x:X)(i:Int):Prop:=(x.f:Int)<=i/\i<((x.f+x.s:Nat):Int)
section
variable {rn p q dp ap bn bb rl : Nat} {s : W32} {sk : Nat} {x y : X} {ea eb j : Nat} {cap peak : Int} {bufs : List (Nat × Nat × Option Addr)} {mb mr : Nat}
def xZa (rn p q dp ap bn bb:Nat)(s:W32)(sk:Nat)(d:D)(y:X)(rows cols c:Nat)(ws:List UInt64)(cap peak:Int)(bufs:List (Nat×Nat×OA))(mb:Nat)(v:Value)(M:List As):Prop:=
 (Prog (inX y) d (eZn d y ws.length (c*rows) ws) (dZA (D.per d) y.f ws.length (c*rows) ws.length) (pcs (D.per d) y.f ws.length (c*rows) ws.length).length/\v= I 0/\
  M=[pts rn (cZh (more s (form ws)) (sk+8*ws.length) p q rows cols bn),pts bb (.row (Zb ws) 108 mb),pts q (ZJ dp ap y),Dk dp (eZn d y ws.length (c*rows) ws),Ar ap cap (mx peak (ZH bufs+D.per d)) bufs])∨
 (∃ d',cZB (inX y) d d'/\d.fuse<=dZA (D.per d) y.f ws.length (c*rows) ws.length+(pcs (D.per d) y.f ws.length (c*rows) ws.length).length/\v= I 8/\
  M=[pts q (ZJ dp ap y),Dk dp d',Ar ap cap (mx peak (ZH bufs+D.per d)) bufs])
theorem xZb {d:D}{rows cols c:Nat}{ws:List UInt64}(hok:Ok d)(hl:d.down=false)(hy:On d y)(ho:d.rd<=4000000000000000000/\d.wr<=4000000000000000000)(hw1:1<=ws.length)(hf:c*rows+ws.length<=y.w)(hyw:y.w<=4294967296)(hsk:sk<=1000000000000)(hcap:(D.per d:Int)<=cap-ZH bufs)(hbn:(bn,ws.length,some (O bb))∈bufs):
  Tr prog 302 #[V rn,I (c:Int)] [pts rn (cZh s sk p q rows cols bn),pts bb (.row (Zb ws) 108 mb),pts q (ZJ dp ap y),Dk dp d,Ar ap cap peak bufs] (xZa rn p q dp ap bn bb s sk d y rows cols c ws cap peak bufs mb):=fun H hs=>by
 have hcell:∀ H,pts bb (.row (Zb ws) 108 mb) H->Cells H (Io bb) (Zb ws):=fun H h=>by
  have:=Cells.row h 0 ws.length
  rwa [List.drop_zero,List.take_of_length_le (by rw[Zq];exact Nat.le_refl _)]at this
 apply fZc.ok;unfold fZc;simp only[aZ0];refine hs.ldf 0 rfl rfl ?_;simp only[HV];refine ZS.use (eZJ hs 4 rfl hbn) ?_
 try simp only[HV]
 rw[Addr.add_zero];refine CrcP.kZr hs 0 rfl (Io bb) ws.length ws.length ws rfl ?_ (by omega) (by omega) fun H hs=>?_
 ·obtain⟨H1,h1,hle⟩:=hs.see 1 rfl;exact(hcell H1 h1).le hle
 have hs:Sep [pts rn (cZh (more s (form ws)) (sk+8*ws.length) p q rows cols bn),pts bb (.row (Zb ws) 108 mb),pts q (ZJ dp ap y),Dk dp d,Ar ap cap peak bufs] H:=hs;refine hs.ldf 0 rfl rfl ?_;simp only[HV];refine hs.ldg 0 rfl rfl ?_;simp only[HV];refine hs.ldf 0 rfl rfl ?_;simp only[HV];refine ZS.use (eZJ hs 4 rfl hbn) ?_
 try simp only[HV]
 rw[← Int.natCast_mul,bZc];refine(jZr (p:=q) (dp:=dp) (ap:=ap) (d:=d) (x:=y) (cap:=cap) (peak:=peak) (bufs:=bufs) (R:=pts bb (.row (Zb ws) 108 mb)) (A:=some (O bb)) (n:=ws.length) (m:=ws.length) (src:=ws) hok hl hy (by omega) (c*rows) rfl hw1 hf (Nat.le_refl _) hcap hcell).use hs [2,3,4,1] rfl rfl ?_;rintro v M H (⟨hpg,rfl,rfl⟩|⟨d',hd,hfu,rfl,rfl⟩) hs
 ·simp only[HV];exact⟨_,.inl ⟨hpg,rfl,rfl⟩,hs.re [4,3,0,1,2] rfl⟩
 ·simp only[HV];exact⟨_,.inr ⟨d',hd,hfu,rfl,rfl⟩,hs.re [0,1,2] rfl⟩
def trK (d:D)(x:X)(rows cols k:Nat):UInt64:=pw d x (k%rows*cols+k/rows)
def trW (d:D)(x:X)(rows cols:Nat):List UInt64:=(List.range (rows*cols)).map (trK d x rows cols)
theorem mZP (d:D)(x:X)(rows cols:Nat):(trW d x rows cols).length=rows*cols:=by simp[trW]
theorem qZQ (d d1:D)(x:X){rows cols b c:Nat}(hr:0<rows)(hcb:c+b<=cols)(hsame:∀ k,k<rows*cols->pw d1 x k=pw d x k):
  ((List.range (b*rows)).map fun j=>pw d1 x (j%rows*cols+c+j/rows))=((trW d x rows cols).drop (c*rows)).take (b*rows):=by
 apply List.ext_getElem?;intro j;have hle:(c+b)*rows<=cols*rows:=Nat.mul_le_mul_right rows hcb;rw[Nat.add_mul,Nat.mul_comm cols rows]at hle;rw[List.getElem?_map,List.getElem?_take];by_cases hj:j<b*rows
 ·rw[List.getElem?_range hj,if_pos hj,List.getElem?_drop];unfold trW;rw[List.getElem?_map,List.getElem?_range (by omega)];simp only[Option.map_some,Option.some.injEq];unfold trK;have hm:=Nat.mod_lt j hr;have hd:j/rows<b:=by rw[Nat.div_lt_iff_lt_mul hr];exact hj
  rw[show c*rows+j=j+c*rows by omega,Nat.add_mul_mod_self_right,Nat.add_mul_div_right _ _ hr,hsame]
  ·congr 1;omega
  ·have:(j%rows+1)*cols<=rows*cols:=Nat.mul_le_mul_right cols hm;rw[Nat.succ_mul]at this;omega
 ·rw[if_neg hj,List.getElem?_eq_none (by simp;omega)];rfl
def rT (per f f' rows cols b m:Nat):Nat:=((List.range m).map fun m'=>gR per f cols (m'*b) b rows+dZA per f' (b*rows) (m'*b*rows) (b*rows)).sum
def wT (per f' rows b m:Nat):Nat:=((List.range m).map fun m'=>(pcs per f' (b*rows) (m'*b*rows) (b*rows)).length).sum
theorem iZN (per f f' rows cols b m:Nat):rT per f f' rows cols b (m+1)=rT per f f' rows cols b m+(gR per f cols (m*b) b rows+dZA per f' (b*rows) (m*b*rows) (b*rows)):=by
 unfold rT;rw[List.range_succ,List.map_append,List.sum_append];simp
theorem iZT (per f' rows b m:Nat):wT per f' rows b (m+1)=wT per f' rows b m+(pcs per f' (b*rows) (m*b*rows) (b*rows)).length:=by
 unfold wT;rw[List.range_succ,List.map_append,List.sum_append];simp
theorem qZk (per f f' rows cols b:Nat){i j:Nat}(h:i<=j):rT per f f' rows cols b i<=rT per f f' rows cols b j:=by
 induction h with
 |refl=>exact Nat.le_refl _
 |step h ih=>rw[iZN];omega
theorem qZC (per f' rows b:Nat){i j:Nat}(h:i<=j):wT per f' rows b i<=wT per f' rows b j:=by
 induction h with
 |refl=>exact Nat.le_refl _
 |step h ih=>rw[iZT];omega
theorem rZe (per f f' rows cols b:Nat):∀ m,rT per f f' rows cols b m<=m*(2*(b*rows))
 |0=>by simp[rT]
 |m+1=>by
  rw[iZN,Nat.succ_mul];have h1:=rZe per f f' rows cols b m;have h2:=nZ1 per f cols (m*b) b rows;have h3:=dZp per f' (b*rows) (m*b*rows) (b*rows);have h4:dZA per f' (b*rows) (m*b*rows) (b*rows)<=(pcs per f' (b*rows) (m*b*rows) (b*rows)).length:=List.length_filter_le _ _;have h5:=Nat.mul_comm rows b;omega
theorem rZy (per f' rows b:Nat):∀ m,wT per f' rows b m<=m*(b*rows)
 |0=>by simp[wT]
 |m+1=>by
  rw[iZT,Nat.succ_mul];have h1:=rZy per f' rows b m;have h3:=dZp per f' (b*rows) (m*b*rows) (b*rows);omega
structure nZV (d d':D)(x y:X)(rows cols b m:Nat):Prop where
 pg:Prog (inX y) d d' (rT (D.per d) x.f y.f rows cols b m) (wT (D.per d) y.f rows b m)
 src:∀ k,k<x.w->pw d' x k=pw d x k
 dst:∀ k,k<m*b*rows->pw d' y k=trK d x rows cols k
def rZh (p q dp ap:Nat)(d:D)(x y:X)(rows cols b:Nat)(cap peak:Int)(bufs:List (Nat×Nat×OA))(v:Value)(M:List As):Prop:=
 (∃ d',nZV d d' x y rows cols b (cols/b)/\v= .tuple #[Ii ((sum (form (trW d x rows cols))).toNat:Int),I 0]/\
  M=[pts p (ZJ dp ap x),pts q (ZJ dp ap y),Dk dp d',Ar ap cap (mx peak (ZH bufs+(b*rows:Nat)+D.per d)) bufs])∨
 (∃ d',cZB (inX y) d d'/\d.fuse<=rT (D.per d) x.f y.f rows cols b (cols/b)+wT (D.per d) y.f rows b (cols/b)/\v= .tuple #[Ii 0,I 8]/\
  M=[pts p (ZJ dp ap x),pts q (ZJ dp ap y),Dk dp d',Ar ap cap (mx peak (ZH bufs+(b*rows:Nat)+D.per d)) bufs])
theorem vZA (T:List UInt64)(a n:Nat):more (sum (form (T.take a))) (form ((T.drop a).take n))=sum (form (T.take (a+n))):=by
 unfold sum;rw[← more_append,←iZw];congr 2;rw[List.take_add]
def eZE (rn p q dp ap bn bb sb vb:Nat)(d0 d':D)(x y:X)(rows cols b m:Nat)(cap pk:Int)(bufs:List (Nat×Nat×OA))(ws:List UInt64)(mb:Nat)(TT:As):List As:=
 [pts sb (Is #[I (rows:Int),I (cols:Int)] 217),pts rn (cZh (sum (form ((trW d0 x rows cols).take (m*b*rows)))) (8*(m*b*rows)) p q rows cols bn),pts bb (.row (Zb ws) 108 mb),
  pts p (ZJ dp ap x),pts q (ZJ dp ap y),Dk dp d',Ar ap cap pk (bufs++[(bn,b*rows,some (O bb))]),pts vb (.row [V bn] 331 1),TT]
theorem lZc (K:VK){TT:As}{sb vb:Nat}{d:D}{rows cols b:Nat}(hok:Ok d)(hx:On d x)(hy:On d y)(ho:d.rd<=2000000000000000000/\d.wr<=2000000000000000000)(hxw:x.w=rows*cols)(hyw:y.w=rows*cols)(hdis:x.f+x.s<=y.f∨y.f+y.s<=x.f)(hb1:1<=b)(hbd:cols=cols/b*b)(hsz:rows*cols<=4294967296)(hr1:1<=rows)(hc1:1<=cols)
  (hcap:(D.per d:Int)<=cap-ZH (bufs++[(bn,b*rows,some (O bb))])) (hbm:∀ z∈bufs,z.1≠bn)
  {P1:Int} (hP1:P1=mx peak (ZH (bufs++[(bn,b*rows,some (O bb))])+D.per d))
  (hK:∀ d' H,nZV d d' x y rows cols b (cols/b)->Sep [pts p (ZJ dp ap x),pts q (ZJ dp ap y),Dk dp d',Ar ap cap P1 bufs,TT] H->K (.tuple #[Ii ((sum (form (trW d x rows cols))).toNat:Int),I 0]) H)
  (hK8:∀ d' H,cZB (inX y) d d'->d.fuse<=rT (D.per d) x.f y.f rows cols b (cols/b)+wT (D.per d) y.f rows b (cols/b)->Sep [pts p (ZJ dp ap x),pts q (ZJ dp ap y),Dk dp d',Ar ap cap P1 bufs,TT] H->K (.tuple #[Ii 0,I 8]) H):
  ∀(t m:Nat) (d':D) (pk:Int) (ws:List UInt64) (H:Hp),m+t=cols/b->nZV d d' x y rows cols b m->ws.length=b*rows->mx pk (ZH (bufs++[(bn,b*rows,some (O bb))])+D.per d)=P1->(m=0∨pk=P1)->Sep (eZE rn p q dp ap bn bb sb vb d d' x y rows cols b m cap pk bufs ws mb TT) H->
   bZg.l14 K (t+1) (O sb) (b:Int) (O rn) ((m*b:Nat):Int) (Io ap) (Io vb) 1 1 H:=fun t=>by
 have hp:=Ok.per_le hok;have hcc:cols/b*b*rows=rows*cols:=by rw[← hbd,Nat.mul_comm]
 have hnb:cols/b<=cols:=Nat.div_le_self _ _;have hn1:1<=cols/b:=by
  have:cols/b≠0:=fun h0=>by rw[h0,Nat.zero_mul]at hbd;omega
  exact Nat.pos_of_ne_zero this
 have hbr:b*rows<=rows*cols:=by
  rw[← hcc,Nat.mul_assoc];exact Nat.le_mul_of_pos_left _ hn1
 have hcr:cols*1<=cols*rows:=Nat.mul_le_mul_left cols hr1;rw[Nat.mul_comm cols rows]at hcr;have hbr1:1*rows<=b*rows:=Nat.mul_le_mul_right rows hb1;have hbr2:b*1<=b*rows:=Nat.mul_le_mul_left b hr1;have cnt:∀ m,m<=cols/b->m*(2*(b*rows))<=2*(rows*cols)/\m*(b*rows)<=rows*cols:=fun m hm=>by
  have:m*(b*rows)<=rows*cols:=by
   rw[← hcc,Nat.mul_assoc];exact Nat.mul_le_mul_right _ hm
  refine⟨?_,this⟩;rw[Nat.mul_left_comm];omega
 induction t with
 |zero=>
  intro m d' pk ws H hm hI hws hpk hip hs;have hme:m=cols/b:=by omega
  subst hme;unfold eZE at hs;unfold bZg.l14;refine hs.ldf 0 rfl rfl ?_;simp only[HV];rw[← hbd];refine Zg (Int.lt_irrefl _) ?_;rw[Addr.add_zero];refine Za.use (CrcP.pZP hs 1 rfl) ?_
  try simp only[HV]
  refine(cZx vb bn (b*rows) (Io bb) hbm).use hs [6,7] rfl rfl ?_;rintro _ _ H ⟨rfl,rfl⟩ hs;rw[hcc,List.take_of_length_le (by rw[mZP];exact Nat.le_refl _)];rw[hip.resolve_left (by omega)]at hs;exact hK d' H hI (hs.re [4,5,6,0,7] rfl)
 |succ t ih=>
  intro m d' pk ws H hm hI hws hpk hip hs;have hmlt:m<cols/b:=by omega
  have hmb:(m+1)*b<=cols:=by
   have h1:(m+1)*b<=cols/b*b:=Nat.mul_le_mul_right b hmlt;omega
  have hmb':=hmb;rw[Nat.succ_mul]at hmb';have hper:D.per d'=D.per d:=hI.pg.per;have hxd:=hx.prog hI.pg;have hyd:=hy.prog hI.pg;have hrt:=rZe (D.per d) x.f y.f rows cols b m;have hwt:=rZy (D.per d) y.f rows b m;have hcnt:=cnt m (by omega);have hrd:=hI.pg.rd;have hwr:=hI.pg.wr;unfold eZE at hs;unfold bZg.l14;refine hs.ldf 0 rfl rfl ?_;simp only[HV];refine Zm (by omega) ?_;refine(sZj (rn:=rn) (p:=p) (q:=q) (dp:=dp) (ap:=ap) (bn:=bn) (bb:=bb) (s:=sum (form ((trW d x rows cols).take (m*b*rows)))) (sk:=8*(m*b*rows)) (x:=x) (cap:=cap) (peak:=pk) (bufs:=bufs++[(bn,b*rows,some (O bb))]) (mb:=mb) (c:=m*b) hI.pg.ok hI.pg.down hxd (by omega) hxw hb1 hmb' hsz hr1 (by rw[hper];exact hcap) (List.mem_append_right _ (List.mem_singleton.2 rfl)) ws hws).use hs [1,2,3,5,6] rfl rfl ?_;rintro v M H (⟨hgo,rfl,rfl⟩|⟨d2,hdd,hfu,rfl,rfl⟩) hs
  case inr=>
   simp only[HV];refine Zz (by decide) ?_;refine(cZx vb bn (b*rows) (Io bb) hbm).use hs [3,6] rfl rfl ?_;rintro _ _ H ⟨rfl,rfl⟩ hs;rw[hper,hpk]at hs;refine hK8 d2 H (hI.pg.dead (hdd.mono fun _ h=>h.elim)) ?_ (hs.re [2,5,3,0,6] rfl);have z1:=hI.pg.fuse;have z2:=hI.pg.go;have z3:=qZk (D.per d) x.f y.f rows cols b (show m+1<=cols/b by omega);have z4:=qZC (D.per d) y.f rows b (show m+1<=cols/b by omega);rw[iZN]at z3;rw[iZT]at z4;rw[hper]at hfu;omega
  simp only[HV];refine Zr rfl ?_;rw[hper,hpk,qZQ d d' x (by omega) hmb' (fun k hk=>hI.src k (by rw[hxw];exact hk))]at hs;have hg:=Prog.rdG (inX y) hI.pg.ok hI.pg.down hgo;rw[hper]at hg hgo;have hpg1:=hI.pg.trans hg;have hper1:D.per (D.rdG d' (gR (D.per d) x.f cols (m*b) b rows))=D.per d:=hper;generalize hbw:((trW d x rows cols).drop (m*b*rows)).take (b*rows)=bw at*;have hmr:m*b*rows+b*rows<=rows*cols:=by
   have h1:(m*b+b)*rows<=cols*rows:=Nat.mul_le_mul_right rows hmb';rw[Nat.add_mul,Nat.mul_comm cols rows]at h1;exact h1
  have hbl:bw.length=b*rows:=by
   rw[← hbw,List.length_take,List.length_drop,mZP];omega
  have hgl:=nZ1 (D.per d) x.f cols (m*b) b rows;have hcomm:=Nat.mul_comm rows b;refine(xZb (rn:=rn) (p:=p) (q:=q) (dp:=dp) (ap:=ap) (bn:=bn) (bb:=bb) (s:=sum (form ((trW d x rows cols).take (m*b*rows)))) (sk:=8*(m*b*rows)) (y:=y) (rows:=rows) (cols:=cols) (c:=m*b) (cap:=cap) (peak:=P1) (bufs:=bufs++[(bn,b*rows,some (O bb))]) (mb:=mb) (ws:=bw) (d:=D.rdG d' (gR (D.per d) x.f cols (m*b) b rows)) hpg1.ok hpg1.down (hy.prog hpg1) ⟨by show d'.rd+_<=_;omega,by show d'.wr<=_;omega⟩ (by omega) (by rw[hbl,hyw];exact hmr) (by omega) (by omega) (by rw[hper1];exact hcap) (by rw[hbl];exact List.mem_append_right _ (List.mem_singleton.2 rfl))).use hs [0,1,6,3,4] rfl rfl ?_;have hPP:mx P1 (ZH (bufs++[(bn,b*rows,some (O bb))])+D.per d)=P1:=by rw[hP1,lZX]
  rintro v M H hQ hs;unfold xZa at hQ;rw[hper1,hbl]at hQ;rcases hQ with(⟨hpg2,rfl,rfl⟩|⟨d2,hdd,hfu,rfl,rfl⟩)
  case inr=>
   simp only[HV];refine Zz (by decide) ?_;refine(cZx vb bn (b*rows) (Io bb) hbm).use hs [2,5] rfl rfl ?_;rintro _ _ H ⟨rfl,rfl⟩ hs;rw[hPP]at hs;refine hK8 d2 H (hpg1.dead hdd) ?_ (hs.re [3,1,2,0,5] rfl);have z1:=hpg1.fuse;have z2:=hpg1.go;have z3:=qZk (D.per d) x.f y.f rows cols b (show m+1<=cols/b by omega);have z4:=qZC (D.per d) y.f rows b (show m+1<=cols/b by omega);rw[iZN]at z3;rw[iZT]at z4;omega
  simp only[HV];refine Zr rfl ?_;have hpg3:=hpg1.trans hpg2;have hrT:rT (D.per d) x.f y.f rows cols b m+gR (D.per d) x.f cols (m*b) b rows+dZA (D.per d) y.f (b*rows) (m*b*rows) (b*rows)=rT (D.per d) x.f y.f rows cols b (m+1):=by rw[iZN];omega
  have hwT:wT (D.per d) y.f rows b m+0+(pcs (D.per d) y.f (b*rows) (m*b*rows) (b*rows)).length=wT (D.per d) y.f rows b (m+1):=by rw[iZT];omega
  rw[hrT,hwT]at hpg3;have hok1:Ok (D.rdG d' (gR (D.per d) x.f cols (m*b) b rows)):=hpg1.ok;have hpw:=fun k=>mZT y hok1 (m*b*rows) bw k
  rw[hbl]at hpw;have hI2:nZV d (eZn (D.rdG d' (gR (D.per d) x.f cols (m*b) b rows)) y (b*rows) (m*b*rows) bw) x y rows cols b (m+1):=by
   refine⟨hpg3,fun k hk=>hpg3.pw hok hx (fun i hi=>?_) hk,fun k hk=>?_⟩
   ·unfold inX at hi;omega
   ·rw[hpw k];have hk2:k<m*b*rows+b*rows:=by
     rw[Nat.succ_mul,Nat.add_mul]at hk;exact hk
    by_cases h1:m*b*rows<=k
    ·rw[if_pos ⟨h1,hk2⟩,←hbw,List.getElem?_take_of_lt (by omega),List.getElem?_drop,show m*b*rows+(k-m*b*rows)=k by omega];unfold trW;rw[List.getElem?_map,List.getElem?_range (by omega)];rfl
    ·rw[if_neg (by omega)];have:=hI.dst k (by omega);exact this
  have hcs:=vZA (trW d x rows cols) (m*b*rows) (b*rows);rw[hbw]at hcs;have htk:m*b*rows+b*rows=(m+1)*b*rows:=by rw[Nat.succ_mul,Nat.add_mul]
  have hsk:8*(m*b*rows)+8*(b*rows)=8*((m+1)*b*rows):=by rw[← htk];omega
  rw[hcs,hsk,htk,hPP]at hs;rw[show i64.wrap (((m*b:Nat):Int)+(b:Int))=(((m+1)*b:Nat):Int) by rw[show(((m*b:Nat):Int)+(b:Int))=(((m+1)*b:Nat):Int) by rw[Nat.succ_mul];omega,bZc]];refine ih (m+1) _ P1 bw H (by omega) hI2 hbl hPP (.inr rfl) ?_;exact hs.re [6,0,1,5,2,3,4,7,8] rfl
end
end Trn
end Go.Proofs.YtlgnlghmbcpmhaaGreatDoor
