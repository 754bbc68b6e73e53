import Derived.Test.YtlgnlghmbcpmhaaGreatDoorProg
import Derived.Test.YtlgnlghmbcpmhaaGreatDoorPkEngineCrashes5
set_option maxRecDepth 100000
set_option linter.unusedVariables false
set_option linter.unusedSimpArgs false
set_option linter.unnecessarySimpa false
set_option linter.unusedSectionVars false
open Go.IntKind (i64 u64)
namespace Go.Proofs.YtlgnlghmbcpmhaaGreatDoor
open Tryz (prog)
namespace W
open Go Go.Hw
theorem sK :prog.follows .mixedOrders=true:=by kernel_rfl
def qp (A1:OA)(n1 m1:Nat)(H:Hp)(K:VK):Prop:=
 Hz 147 #[I (n1:Int)] H fun v1 H1=>sf v1 fun x1 c1=>(Nw H1 (Oq #[I 0] 3) fun b1 H2=>St H2 ((O b1).add 0) (I x1) fun H3=>ao (!c1) (K (.tuple #[.slice none 0 0,I 4]) H3) (jF 370 #[.slice A1 n1 m1,.func (.func 371) #[] #[V b1]] H3 fun A2 n2 m2 H4=>K (.tuple #[.slice A2 n2 m2,I 0]) H4))
theorem qp.ok A1 n1 m1 H K (h:qp A1 n1 m1 H K):ae prog 366 #[.slice A1 n1 m1] H K:=
 cg sK Tryz.func366 rfl rfl h
def eu.l3 (K:VK):Nat->FuncId->Array Value->Array Value->OA->Nat->Nat->OA->Nat->Nat->Int->Int->Hp->Prop
 |0,_,_,_,_,_,_,_,_,_,_,_,_=>False
 |k+1,fd2,F2,C2,A3,n3,m3,A4,n4,m4,x1,x2,H=>
  let R3:=eu.l3 K k
  ao (decide (x2<x1)) (cX x2 n4 (NN A4 fun a1=>eo H (a1.add (x2.toNat*1)) fun x3=>kf prog fd2 ((F2++ #[I x2])++C2) H fun v3 H2=>DR prog (fj prog fd2) v3 fun v4=>DI .i64 v4 fun x4=>cX x4 n3 (NN A3 fun a2=>St H2 ((a2.add (x4.toNat*1)).add 0) (U x3) fun H3=>R3 fd2 F2 C2 A3 n3 m3 A4 n4 m4 x1 (i64.wrap (x2+1)) H3))) (K (.slice A3 n3 m3) H)
def eu (A1:OA)(n1 m1:Nat)(fd1:FuncId)(F1 C1:Array Value)(H:Hp)(K:VK):Prop:=
 lj prog 108 (n1:Int) (n1:Int) H fun v1 H1=>aF v1 fun A2 n2 m2=>(∃ k,eu.l3 K k fd1 F1 C1 A2 n2 m2 A1 n1 m1 (n1:Int) 0 H1)
def eu.l3.L (K:VK)(k:Nat):dm:=fun E D H=>
 DG (E.get? 1) fun w1=>jc w1 fun fd2 F2 C2=>DG (E.get? 5) fun w5=>aF w5 fun A3 n3 m3=>DG (E.get? 11) fun w11=>aF w11 fun A4 n4 m4=>eI E 12 .i64 fun x1=>eI E 13 .i64 fun x2=>az D (eu.l3 K k fd2 F2 C2 A3 n3 m3 A4 n4 m4 x1 x2 H)
def eu.Λ3 (_:VK)(_R3:FuncId->Array Value->Array Value->OA->Nat->Nat->OA->Nat->Nat->Int->Int->Hp->Prop):aN:=aN.none (fun _=>none)
def eu.Λ (K:VK):aN:=⟨fun i=>none,fun i=>match Nat.beq i 3 with|true=>some (fun E D H=>∃ k,eu.l3.L K k E D H)|false=>none,(fun _=>none)⟩
theorem eu.ok A1 n1 m1 fd1 F1 C1 H K (h:eu A1 n1 m1 fd1 F1 C1 H K):ae prog 370 #[.slice A1 n1 m1,.func (.func fd1) F1 C1] H K:=
 dX (Λ:=(eu.Λ K)) sK Tryz.func370 rfl rfl h (oC (fun E D H h=>by
   refine Safe.c0 (eu.l3.L K) (fun E D H h=>?_) (fun k E D H h=>?_) E D H h
   .obtain⟨w1,e1,g1⟩:=DG.out h;obtain⟨fd2,F2,C2,rfl,g2⟩:=jc.out g1;obtain⟨w5,e5,g3⟩:=DG.out g2;obtain⟨A3,n3,m3,rfl,g4⟩:=aF.out g3;obtain⟨w11,e11,g5⟩:=DG.out g4;obtain⟨A4,n4,m4,rfl,g6⟩:=aF.out g5;obtain⟨w12,e12,g7⟩:=DG.out g6;obtain⟨x1,rfl,g8⟩:=DI.out g7;obtain⟨w13,e13,g9⟩:=DG.out g8;obtain⟨x2,rfl,g10⟩:=DI.out g9;obtain⟨rfl,h'⟩:=az.out g10;exact h'
   .obtain⟨w1,e1,g1⟩:=DG.out h;obtain⟨fd2,F2,C2,rfl,g2⟩:=jc.out g1;obtain⟨w5,e5,g3⟩:=DG.out g2;obtain⟨A3,n3,m3,rfl,g4⟩:=aF.out g3;obtain⟨w11,e11,g5⟩:=DG.out g4;obtain⟨A4,n4,m4,rfl,g6⟩:=aF.out g5;obtain⟨x1,e12,g8⟩:=GI g6;obtain⟨x2,e13,g10⟩:=GI g8;obtain⟨rfl,h'⟩:=az.out g10;exact cY (Λ:=(eu.Λ3 K (eu.l3 K k))) sK [] (ag.cons e1 (ag.cons e5 (ag.cons e11 (ag.cons e12 (ag.cons e13 (ag.nil _)))))) h' oN) oN)
def oz (x1:Int)(p1:OA)(H:Hp)(K:VK):Prop:=
 NN p1 fun a1=>aM H a1 fun x2=>cF 372 #[I x1,I x2] H fun x3 H1=>K (I x3) H1
theorem oz.ok x1 p1 H K (h:oz x1 p1 H K):ae prog 371 #[I x1,.pointer p1] H K:=
 cg sK Tryz.func371 rfl rfl h
def oA (x1 x2:Int)(H:Hp)(K:VK):Prop:=
 fe 375 #[U (u64.wrap x1)] H fun x3 H1=>(0<=(1:Int)/\(0<=(u64.wrap (i64.wrap (63-x2)))/\K (I (i64.wrap (cT .u64 (cT .u64 x3 1) (u64.wrap (i64.wrap (63-x2)))))) H1))
theorem oA.ok x1 x2 H K (h:oA x1 x2 H K):ae prog 372 #[I x1,I x2] H K:=
 cg sK Tryz.func372 rfl rfl h
end W
namespace Ker
open Go Go.Hw W Shp Gol Fft
theorem fH :eJ prog 108=some (1,8,some #[.int .u64 0]):=by kernel_rfl
theorem xd (ws:List UInt64)(i:Nat)(w:UInt64):(ah ws).set i (U (w.toNat:Int))=ah (ws.set i w):=by
 unfold ah;rw[List.map_set]
theorem u7 (n:Nat):cZ [Value.int .u64 0] n=ah (List.replicate n 0):=by
 rw[fm];unfold ah;rw[List.map_replicate];rfl
theorem sV (m:BitVec 64)(d:Nat)(hd:d<=64)(x:BitVec 64){mi di:Int}(hm:mi=(m.toNat:Int))(hdi:di=(d:Nat)):
  lP .u64 (cU .u64 (cT .u64 (x.toNat:Int) di) mi) (dA .u64 (cU .u64 (x.toNat:Int) mi) di)=((swp m d x).toNat:Int):=by
 subst hm;rw[Bl x hdi hd,J6,J6,Ki _ hdi hd,MU];rfl
def N0 (x:BitVec 64):BitVec 64:=
 let x:=swp 0x00ff00ff00ff00ff#64 8 x
 let x:=swp 0x0000ffff0000ffff#64 16 x
 (x>>>32)|||(x<<<32)
theorem CX (x:BitVec 64)(H:Hp):ae prog 376 #[U (x.toNat:Int)] H (RetE (U ((N0 x).toNat:Int)) H):=by
 apply gn.ok;unfold gn;refine⟨by decide,by decide,by decide,by decide,by decide,by decide,?_⟩;rw[sV 0x00ff00ff00ff00ff#64 8 (by decide) x (mi:=71777214294589695) (di:=8) (by decide) rfl,sV 0x0000ffff0000ffff#64 16 (by decide) _ (mi:=281470681808895) (di:=16) (by decide) rfl,Hw.Bl _ (i:=32) (n:=32) rfl (by decide),Hw.Ki _ (i:=32) (n:=32) rfl (by decide),MU];exact RetE.mk _ _
theorem ES (x:BitVec 64)(H:Hp):ae prog 375 #[U (x.toNat:Int)] H (RetE (U ((Bj x).toNat:Int)) H):=by
 apply iH.ok;unfold iH;refine⟨by decide,by decide,by decide,by decide,by decide,by decide,?_⟩;rw[sV 0x5555555555555555#64 1 (by decide) x (mi:=6148914691236517205) (di:=1) (by decide) rfl,sV 0x3333333333333333#64 2 (by decide) _ (mi:=3689348814741910323) (di:=2) (by decide) rfl,sV 0x0f0f0f0f0f0f0f0f#64 4 (by decide) _ (mi:=1085102592571150095) (di:=4) (by decide) rfl];refine ae.use (CX _ H) ?_;simp only[HV];exact RetE.mk _ _
theorem Ib {k i:Nat}(hk:k<=32)(hi:i<2^k)(H:Hp):ae prog 372 #[I (i:Int),I (k:Int)] H (RetE (I ((rv k i:Nat):Int)) H):=by
 have h32:=dw hk;have hr:=vx k i;apply oA.ok;unfold oA;rw[fW];have e:((i:Nat):Int)=((BitVec.ofNat 64 i).toNat:Int):=by rw[BitVec.toNat_ofNat,Nat.mod_eq_of_lt (by omega)]
 rw[e];refine ae.use (ES _ H) ?_;simp only[HV];have e2:u64.wrap (i64.wrap (63-(k:Int)))=((63-k:Nat):Int):=by rw[bu,i7];omega
 rw[e2,Hw.Bl _ (i:=1) (n:=1) rfl (by decide),Hw.Bl _ (n:=63-k) rfl (by omega),BitVec.toNat_ushiftRight,BitVec.toNat_ushiftRight,<-Nat.shiftRight_add,show 1+(63-k)=64-k by omega,M6 hk hi,ed];exact⟨by decide,by omega,RetE.mk _ _⟩
def oX (k:Nat)(l:List UInt64)(i:Nat):List UInt64:=(List.range (2^k)).map fun p=>if rv k p<i then l.getD (rv k p) 0 else 0
theorem Az (k:Nat)(l:List UInt64)(i:Nat):(oX k l i).length=2^k:=by simp[oX]
theorem FM (k:Nat)(l:List UInt64):List.replicate (2^k) 0=oX k l 0:=by
 unfold oX;apply List.ext_getElem?;intro j;rw[List.getElem?_map];by_cases h:j<2^k
 .rw[List.getElem?_range h,List.getElem?_eq_getElem (by simpa using h)];simp
 .rw[List.getElem?_eq_none (by simp;omega),List.getElem?_eq_none (by simp;omega)];rfl
theorem Ia (k:Nat)(l:List UInt64):oX k l (2^k)=lh k l:=by
 unfold oX lh;apply List.map_congr_left;intro p _;rw[if_pos (vx k p)]
theorem FL (k:Nat)(l:List UInt64){i:Nat}(hi:i<2^k):(oX k l i).set (rv k i) (l.getD i 0)=oX k l (i+1):=by
 apply List.ext_getElem?;intro p;rw[List.getElem?_set,Az];unfold oX;rw[List.getElem?_map,List.getElem?_map];by_cases hp:p<2^k
 .rw[List.getElem?_range hp];by_cases e:rv k i=p
  .rw[if_pos e,if_pos (by omega),<-e];show some _=some (if rv k (rv k i)<i+1 then l.getD (rv k (rv k i)) 0 else 0)
   rw[Kh k i hi,if_pos (by omega)]
  .rw[if_neg e];show some (if rv k p<i then _ else _)=some (if rv k p<i+1 then _ else _)
   have:rv k p≠i:=fun h=>e (by rw[<- h,Kh k p hp])
   by_cases h:rv k p<i
   .rw[if_pos h,if_pos (by omega)]
   .rw[if_neg h,if_neg (by omega)]
 .rw[List.getElem?_eq_none (by simp;omega)];have:=vx k i;rw[if_neg (by omega)];rfl
theorem xh {t:TypeId}(ht:prog.underlying t=some (.int .i64))(n:Int)(K:Value->Prop)(k:K (I n)):DR prog [t] (I n) K:=by
 show DT prog t (I n) K
 unfold DT;rw[ht];exact k
section
variable {R : As} {A : Option Addr} {n m k : Nat} {l : List UInt64}
theorem z' (K:VK)(hR:∀ H,R H->Cells H A (ah l))(hn:n=2^k)(hl:l.length=n)(hk:k<=32){b1 r mr:Nat}
  (hK:∀ H,Sep [af r (.row (ah (lh k l)) 108 mr),af b1 (Oq #[I (k:Int)] 3),R] H->K (.slice (Oo r) n n) H):
  ∀(t i:Nat) (H:Hp),i+t=n->Sep [af r (.row (ah (oX k l i)) 108 mr),af b1 (Oq #[I (k:Int)] 3),R] H->
   eu.l3 K (t+1) 371 #[] #[V b1] (Oo r) n n A n m (n:Int) (i:Int) H
 |0,i,H,hi,hs=>by
  unfold eu.l3;refine aw (by omega) (hK H ?_);rw[<- Ia,<-hn,show n=i by omega];exact hs
 |t+1,i,H,hi,hs=>by
  have h32:=dw hk;have hr:=vx k i;have hc:Cells H A (ah l):=by
   obtain⟨H1,h1,hle⟩:=hs.fE 2 rfl;exact(hR H1 h1).le hle
  unfold eu.l3;refine aC (by omega) ?_;have hg:(ah l)[i]? =some (U ((l.getD i 0).toNat:Int)):=by
   rw[dO,List.getD_eq_getElem?_getD,List.getElem?_eq_getElem (by omega)];rfl
  refine hc.read hg rfl (by rw[aG];omega) ?_;simp only[HV];refine cV (by kernel_rfl) ?_;have hf:ae prog 371 #[I (i:Int),V b1] H (RetE (I ((rv k i:Nat):Int)) H):=by
   apply oz.ok;unfold oz;simp only[dQ];refine hs.ld 1 rfl rfl ?_;simp only[HV];refine ae.use (Ib hk (by omega) H) ?_;simp only[HV];exact RetE.mk _ _
  refine ae.use hf ?_;have hrt:fj prog 371=[3]:=by kernel_rfl
  rw[hrt];refine xh (by kernel_rfl) _ _ ?_;simp only[HV];refine⟨by omega,by omega,?_⟩;show St H _ _ _
  rw[Int.toNat_natCast,Nat.mul_one,Addr.bm,Addr.bm,Nat.zero_add,Nat.add_zero];refine hs.str 0 rfl (by rw[aG,Az];omega) rfl fun H hs=>?_;rw[xd,FL k l (by omega)]at hs;rw[bu (x:=(i:Int)+1),show(i:Int)+1=((i+1:Nat):Int) by omega];exact z' K hR hn hl hk hK t (i+1) H (by omega) hs
theorem KH {TT:As}(hT:∀ H,TT H->T64 H)(hR:∀ H,R H->Cells H A (ah l))(hn:n=2^k)(hl:l.length=n)(hk:k<=20):
  Tr prog 366 #[.slice A n m] [R,TT] fun v M=>∃ r,v= .tuple #[.slice (Oo r) n n,I 0]/\M=[af r (.row (ah (lh k l)) 108 (n*1)),R,TT]:=fun H hs=>by
 have h20:=dw hk;apply qp.ok;unfold qp;have hT0:T64 H:=by
  obtain⟨H1,h1,hle⟩:=hs.fE 1 rfl;exact(hT H1 h1).le hle
 refine ae.use (sx (n:Int) H hT0) ?_;rw[show dM (n:Int)= .tuple #[I (k:Int),.bool true] by unfold dM;rw[hn,sI]];simp only[HV];refine hs.nw fun b1 H hs=>?_
 simp only[Addr.add_zero];refine hs.st 2 rfl (Nat.lt_of_sub_eq_succ rfl) rfl fun H hs=>?_;have hs:Sep [R,TT,af b1 (Oq #[I (k:Int)] 3)] H:=hs;have hm:Tr prog 370 #[.slice A n m,.func (.func 371) #[] #[V b1]] [af b1 (Oq #[I (k:Int)] 3),R] fun v M=>
   ∃ r,v= .slice (Oo r) n n/\M=[af r (.row (ah (lh k l)) 108 (n*1)),R]:=fun H hs=>by
  apply eu.ok;unfold eu;refine hs.q8 fH rfl (n:=n) (m:=n) rfl rfl (Nat.le_refl _) (by omega) (by omega) fun r H hs=>?_
  simp only[HV];refine⟨n+1,?_⟩;have hs:Sep [af b1 (Oq #[I (k:Int)] 3),R,af r (.row (ah (oX k l 0)) 108 (n*1))] H:=by
   rw[<- FM,<-hn,<-u7];exact hs
  exact z' _ hR hn hl (by omega) (fun H hs=>⟨_,⟨r,rfl,rfl⟩,hs.re [0,2] rfl⟩) n 0 H (by omega) (hs.re [2,0,1] rfl)
 refine hm.use hs [2,0] rfl rfl ?_;rintro _ _ H ⟨r,rfl,rfl⟩ hs;simp only[HV];exact⟨_,⟨r,rfl,rfl⟩,hs.re [0,1,2] rfl⟩
end
end Ker
namespace W
open Go Go.Hw
theorem j1 :prog.follows .mixedOrders=true:=by kernel_rfl
def oI (x1:Int)(H:Hp)(K:VK):Prop:=
 ao (decide (x1<0)) (K (.tuple #[U 0,I 1]) H) (ao (decide (x1>32)) (K (.tuple #[U 0,I 1]) H) ((0<=(u64.wrap x1)/\Hz 178 #[U (dA .u64 1 (u64.wrap x1))] H fun v1 H1=>pZ v1 fun x2 x3=>(K (.tuple #[U x2,I x3]) H1))))
theorem oI.ok x1 H K (h:oI x1 H K):ae prog 118 #[I x1] H K:=
 cg j1 Tryz.func118 rfl rfl h
def pI (x1 x2:Int)(H:Hp)(K:VK):Prop:=
 ao (decide (x1<0)) (K (.tuple #[U 0,I 1]) H) (ao (decide (x1>32)) (K (.tuple #[U 0,I 1]) H) (ao (x2==0) (Hz 310 #[I x1] H fun v1 H1=>pZ v1 fun x3 x4=>(K (.tuple #[U x3,I x4]) H1)) (ao (x2==1) (Hz 311 #[I x1] H fun v4 H2=>pZ v4 fun x5 x6=>(K (.tuple #[U x5,I x6]) H2)) (K (.tuple #[U 0,I 18]) H))))
theorem pI.ok x1 x2 H K (h:pI x1 x2 H K):ae prog 247 #[I x1,I x2] H K:=
 cg j1 Tryz.func247 rfl rfl h
def oJ (x1 x2:Int)(H:Hp)(K:VK):Prop:=
 Hz 247 #[I x1,I x2] H fun v1 H1=>pZ v1 fun x3 x4=>(ao (x4 !=0) (K (.tuple #[.slice none 0 0,I x4]) H1) (ao (decide (x1>20)) (K (.tuple #[.slice none 0 0,I 14]) H1) ((0<=(u64.wrap x1)/\(0<=(1:Int)/\Hz 248 #[U x3,I (if 1>(cT .i64 (dA .i64 1 (u64.wrap x1)) 1)then 1 else(cT .i64 (dA .i64 1 (u64.wrap x1)) 1))] H1 fun v4 H2=>kB v4 fun A1 n1 m1 x5=>(K (.tuple #[.slice A1 n1 m1,I x5]) H2))))))
theorem oJ.ok x1 x2 H K (h:oJ x1 x2 H K):ae prog 345 #[I x1,I x2] H K:=
 cg j1 Tryz.func345 rfl rfl h
def cf.l15 (K:VK)(R10:OA->Nat->Nat->Addr->Int->OA->Nat->Nat->Int->Int->Hp->Prop):Nat->OA->Nat->Nat->Addr->Int->OA->Nat->Nat->Int->Int->Int->Int->OA->Nat->Nat->Int->Int->Hp->Prop
 |0,_,_,_,_,_,_,_,_,_,_,_,_,_,_,_,_,_,_=>False
 |k+1,A5,n7,m5,a2,x21,A6,n8,m6,x22,x23,x24,x25,A7,n9,m7,x26,x27,H=>
  let R15:=cf.l15 K R10 k
  ao (decide (x27<x26)) (cX x27 n9 (NN A7 fun a3=>eo H (a3.add (x27.toNat*1)) fun x28=>fe 120 #[U x28,U x23] H fun x29 H8=>Nw H8 (.row [U x29] 108 1) fun b2 H9=>gC prog 108 (.slice A6 n8 m6) (.slice (Oo b2) 1 1) H9 fun v18 H10=>aF v18 fun A8 n10 m8=>fe 120 #[U x23,U x22] H10 fun x30 H11=>R15 A5 n7 m5 a2 x21 A8 n10 m8 x22 x30 x24 x25 A7 n9 m7 x26 (i64.wrap (x27+1)) H11)) (R10 A5 n7 m5 a2 x21 A6 n8 m6 x24 (i64.wrap (x25+1)) H)
def cf.l10 (K:VK):Nat->OA->Nat->Nat->Addr->Int->OA->Nat->Nat->Int->Int->Hp->Prop
 |0,_,_,_,_,_,_,_,_,_,_,_=>False
 |k+1,A3,n3,m3,a1,x12,A4,n4,m4,x13,x14,H=>
  let R10:=cf.l10 K k
  ao (decide (x14<x13)) (aM H (a1.add 2) fun x15=>fe 246 #[U x12,U (u64.wrap (i64.wrap (x15+x14)))] H fun x16 H6=>aM H6 (a1.add 3) fun x17=>fe 246 #[U x16,U (u64.wrap x17)] H6 fun x18 H7=>aM H7 ((a1.add 0).add 1) fun x19=>aM H7 ((a1.add 0).add 1) fun x20=>mP n3 m3 (some (i64.wrap (x14*x19))) (some (i64.wrap ((i64.wrap (x14+1))*x20))) fun n5 n6=>(∃ k,cf.l15 K R10 k A3 n3 m3 a1 x12 A4 n4 m4 x16 x18 x13 x14 (jk A3 m3 n5 1) (n6-n5) (m3-n5) ((n6-n5:Nat):Int) 0 H7)) (K (.tuple #[.slice A4 n4 m4,I 0]) H)
def cf (A1:OA)(n1 m1:Nat)(x1 x2 x3 x4 x5 x6:Int)(H:Hp)(K:VK):Prop:=
 Nw H (Oq #[I x1,I x2,I x3,I x4] 464) fun b1 H1=>Hz 247 #[I x5,I x6] H1 fun v1 H2=>pZ v1 fun x7 x8=>(ao (x8 !=0) (K (.tuple #[.slice none 0 0,I x8]) H2) (aJ H2 ((O b1).add 0) 2 fun l4=>fS 297 #[.agg l4.toArray] H2 fun c1 H3=>ao (!c1) (K (.tuple #[.slice none 0 0,I 19]) H3) (aM H3 (((O b1).add 0).add 0) fun x9=>aM H3 (((O b1).add 0).add 1) fun x10=>ao ((n1:Int) !=(i64.wrap (x9*x10))) (K (.tuple #[.slice none 0 0,I 19]) H3) (aJ H3 (O b1) 4 fun l5=>fS 368 #[.agg l5.toArray] H3 fun c2 H4=>ao (!c2) (K (.tuple #[.slice none 0 0,I 2]) H4) (lj prog 108 0 (n1:Int) H4 fun v8 H5=>aF v8 fun A2 n2 m2=>aM H5 (((O b1).add 0).add 0) fun x11=>(∃ k,cf.l10 K k A1 n1 m1 (O b1) x7 A2 n2 m2 x11 0 H5))))))
def cf.l10.L (K:VK)(k:Nat):dm:=fun E D H=>
 DG (E.get? 0) fun w0=>aF w0 fun A3 n3 m3=>eN E 5 fun a1=>eI E 10 .u64 fun x12=>DG (E.get? 12) fun w12=>aF w12 fun A4 n4 m4=>eI E 54 .i64 fun x13=>eI E 55 .i64 fun x14=>az D (cf.l10 K k A3 n3 m3 a1 x12 A4 n4 m4 x13 x14 H)
def cf.l15.L (K:VK)(R10:OA->Nat->Nat->Addr->Int->OA->Nat->Nat->Int->Int->Hp->Prop)(k:Nat):dm:=fun E D H=>
 DG (E.get? 0) fun w0=>aF w0 fun A5 n7 m5=>eN E 5 fun a2=>eI E 10 .u64 fun x21=>DG (E.get? 12) fun w12=>aF w12 fun A6 n8 m6=>eI E 14 .u64 fun x22=>eI E 15 .u64 fun x23=>eI E 54 .i64 fun x24=>eI E 55 .i64 fun x25=>DG (E.get? 82) fun w82=>aF w82 fun A7 n9 m7=>eI E 83 .i64 fun x26=>eI E 84 .i64 fun x27=>az D (cf.l15 K R10 k A5 n7 m5 a2 x21 A6 n8 m6 x22 x23 x24 x25 A7 n9 m7 x26 x27 H)
def cf.Λ15 (_:VK)(_R10:OA->Nat->Nat->Addr->Int->OA->Nat->Nat->Int->Int->Hp->Prop)(_R15:OA->Nat->Nat->Addr->Int->OA->Nat->Nat->Int->Int->Int->Int->OA->Nat->Nat->Int->Int->Hp->Prop):aN:=aN.none (fun _=>none)
def cf.Λ10 (K:VK)(R10:OA→Nat→Nat→Addr→Int→OA→Nat→Nat→Int→Int→Hp→Prop):aN:=⟨fun i=>none,fun i=>match Nat.beq i 15 with|true=>some (fun E D H=>∃ k,cf.l15.L K R10 k E D H)|false=>none,(fun _=>none)⟩
def cf.Λ (K:VK):aN:=⟨fun i=>none,fun i=>match Nat.beq i 10 with|true=>some (fun E D H=>∃ k,cf.l10.L K k E D H)|false=>none,(fun _=>none)⟩
theorem cf.ok A1 n1 m1 x1 x2 x3 x4 x5 x6 H K (h:cf A1 n1 m1 x1 x2 x3 x4 x5 x6 H K):ae prog 361 #[.slice A1 n1 m1,.agg #[I x1,I x2,I x3,I x4],I x5,I x6] H K:=
 dX (Λ:=(cf.Λ K)) j1 Tryz.func361 rfl rfl h (oC (fun E D H h=>by
   refine Safe.c0 (cf.l10.L K) (fun E D H h=>?_) (fun k E D H h=>?_) E D H h
   .obtain⟨w0,e0,g1⟩:=DG.out h;obtain⟨A3,n3,m3,rfl,g2⟩:=aF.out g1;obtain⟨w5,e5,g3⟩:=DG.out g2;obtain⟨pw5,rfl,g4⟩:=DP.out g3;obtain⟨a1,rfl,g5⟩:=NN.out g4;obtain⟨w10,e10,g6⟩:=DG.out g5;obtain⟨x12,rfl,g7⟩:=DI.out g6;obtain⟨w12,e12,g8⟩:=DG.out g7;obtain⟨A4,n4,m4,rfl,g9⟩:=aF.out g8;obtain⟨w54,e54,g10⟩:=DG.out g9;obtain⟨x13,rfl,g11⟩:=DI.out g10;obtain⟨w55,e55,g12⟩:=DG.out g11;obtain⟨x14,rfl,g13⟩:=DI.out g12;obtain⟨rfl,h'⟩:=az.out g13;exact h'
   .obtain⟨w0,e0,g1⟩:=DG.out h;obtain⟨A3,n3,m3,rfl,g2⟩:=aF.out g1;obtain⟨a1,e5,g5⟩:=GN g2;obtain⟨x12,e10,g7⟩:=GI g5;obtain⟨w12,e12,g8⟩:=DG.out g7;obtain⟨A4,n4,m4,rfl,g9⟩:=aF.out g8;obtain⟨x13,e54,g11⟩:=GI g9;obtain⟨x14,e55,g13⟩:=GI g11;obtain⟨rfl,h'⟩:=az.out g13;exact cY (Λ:=(cf.Λ10 K (cf.l10 K k))) j1 [] (ag.cons e0 (ag.cons e5 (ag.cons e10 (ag.cons e12 (ag.cons e54 (ag.cons e55 (ag.nil _))))))) h' (oC (fun E D H h=>by
      refine Safe.c0 (cf.l15.L K (cf.l10 K k)) (fun E D H h=>?_) (fun k E D H h=>?_) E D H h
      .obtain⟨w0,e0,g1⟩:=DG.out h;obtain⟨A5,n7,m5,rfl,g2⟩:=aF.out g1;obtain⟨w5,e5,g3⟩:=DG.out g2;obtain⟨pw5,rfl,g4⟩:=DP.out g3;obtain⟨a2,rfl,g5⟩:=NN.out g4;obtain⟨w10,e10,g6⟩:=DG.out g5;obtain⟨x21,rfl,g7⟩:=DI.out g6;obtain⟨w12,e12,g8⟩:=DG.out g7;obtain⟨A6,n8,m6,rfl,g9⟩:=aF.out g8;obtain⟨w14,e14,g10⟩:=DG.out g9;obtain⟨x22,rfl,g11⟩:=DI.out g10;obtain⟨w15,e15,g12⟩:=DG.out g11;obtain⟨x23,rfl,g13⟩:=DI.out g12;obtain⟨w54,e54,g14⟩:=DG.out g13;obtain⟨x24,rfl,g15⟩:=DI.out g14;obtain⟨w55,e55,g16⟩:=DG.out g15;obtain⟨x25,rfl,g17⟩:=DI.out g16;obtain⟨w82,e82,g18⟩:=DG.out g17;obtain⟨A7,n9,m7,rfl,g19⟩:=aF.out g18;obtain⟨w83,e83,g20⟩:=DG.out g19;obtain⟨x26,rfl,g21⟩:=DI.out g20;obtain⟨w84,e84,g22⟩:=DG.out g21;obtain⟨x27,rfl,g23⟩:=DI.out g22;obtain⟨rfl,h'⟩:=az.out g23;exact h'
      .obtain⟨w0,e0,g1⟩:=DG.out h;obtain⟨A5,n7,m5,rfl,g2⟩:=aF.out g1;obtain⟨a2,e5,g5⟩:=GN g2;obtain⟨x21,e10,g7⟩:=GI g5;obtain⟨w12,e12,g8⟩:=DG.out g7;obtain⟨A6,n8,m6,rfl,g9⟩:=aF.out g8;obtain⟨x22,e14,g11⟩:=GI g9;obtain⟨x23,e15,g13⟩:=GI g11;obtain⟨x24,e54,g15⟩:=GI g13;obtain⟨x25,e55,g17⟩:=GI g15;obtain⟨w82,e82,g18⟩:=DG.out g17;obtain⟨A7,n9,m7,rfl,g19⟩:=aF.out g18;obtain⟨x26,e83,g21⟩:=GI g19;obtain⟨x27,e84,g23⟩:=GI g21;obtain⟨rfl,h'⟩:=az.out g23;exact cY (Λ:=(cf.Λ15 K (cf.l10 K k) (cf.l15 K (cf.l10 K k) k))) j1 [] (ag.cons e0 (ag.cons e5 (ag.cons e10 (ag.cons e12 (ag.cons e14 (ag.cons e15 (ag.cons e54 (ag.cons e55 (ag.cons e82 (ag.cons e83 (ag.cons e84 (ag.nil _)))))))))))) h' oN) oN)) oN)
def dD.l3 (K:VK):Nat->Int->OA->Nat->Nat->OA->Nat->Nat->Int->Int->Hp->Prop
 |0,_,_,_,_,_,_,_,_,_,_=>False
 |k+1,x2,A3,n3,m3,A4,n4,m4,x3,x4,H=>
  let R3:=dD.l3 K k
  ao (decide (x4<x3)) (cX x4 n4 (NN A4 fun a1=>eo H (a1.add (x4.toNat*1)) fun x5=>fe 120 #[U x5,U x2] H fun x6 H2=>cX x4 n3 (NN A3 fun a2=>St H2 ((a2.add (x4.toNat*1)).add 0) (U x6) fun H3=>R3 x2 A3 n3 m3 A4 n4 m4 x3 (i64.wrap (x4+1)) H3))) (K (.slice A3 n3 m3) H)
def dD (A1:OA)(n1 m1:Nat)(x1:Int)(H:Hp)(K:VK):Prop:=
 lj prog 108 (n1:Int) (n1:Int) H fun v1 H1=>aF v1 fun A2 n2 m2=>(∃ k,dD.l3 K k x1 A2 n2 m2 A1 n1 m1 (n1:Int) 0 H1)
def dD.l3.L (K:VK)(k:Nat):dm:=fun E D H=>
 eI E 1 .u64 fun x2=>DG (E.get? 5) fun w5=>aF w5 fun A3 n3 m3=>DG (E.get? 11) fun w11=>aF w11 fun A4 n4 m4=>eI E 12 .i64 fun x3=>eI E 13 .i64 fun x4=>az D (dD.l3 K k x2 A3 n3 m3 A4 n4 m4 x3 x4 H)
def dD.Λ3 (_:VK)(_R3:Int->OA->Nat->Nat->OA->Nat->Nat->Int->Int->Hp->Prop):aN:=aN.none (fun _=>none)
def dD.Λ (K:VK):aN:=⟨fun i=>none,fun i=>match Nat.beq i 3 with|true=>some (fun E D H=>∃ k,dD.l3.L K k E D H)|false=>none,(fun _=>none)⟩
theorem dD.ok A1 n1 m1 x1 H K (h:dD A1 n1 m1 x1 H K):ae prog 362 #[.slice A1 n1 m1,U x1] H K:=
 dX (Λ:=(dD.Λ K)) j1 Tryz.func362 rfl rfl h (oC (fun E D H h=>by
   refine Safe.c0 (dD.l3.L K) (fun E D H h=>?_) (fun k E D H h=>?_) E D H h
   .obtain⟨w1,e1,g1⟩:=DG.out h;obtain⟨x2,rfl,g2⟩:=DI.out g1;obtain⟨w5,e5,g3⟩:=DG.out g2;obtain⟨A3,n3,m3,rfl,g4⟩:=aF.out g3;obtain⟨w11,e11,g5⟩:=DG.out g4;obtain⟨A4,n4,m4,rfl,g6⟩:=aF.out g5;obtain⟨w12,e12,g7⟩:=DG.out g6;obtain⟨x3,rfl,g8⟩:=DI.out g7;obtain⟨w13,e13,g9⟩:=DG.out g8;obtain⟨x4,rfl,g10⟩:=DI.out g9;obtain⟨rfl,h'⟩:=az.out g10;exact h'
   .obtain⟨x2,e1,g2⟩:=GI h;obtain⟨w5,e5,g3⟩:=DG.out g2;obtain⟨A3,n3,m3,rfl,g4⟩:=aF.out g3;obtain⟨w11,e11,g5⟩:=DG.out g4;obtain⟨A4,n4,m4,rfl,g6⟩:=aF.out g5;obtain⟨x3,e12,g8⟩:=GI g6;obtain⟨x4,e13,g10⟩:=GI g8;obtain⟨rfl,h'⟩:=az.out g10;exact cY (Λ:=(dD.Λ3 K (dD.l3 K k))) j1 [] (ag.cons e1 (ag.cons e5 (ag.cons e11 (ag.cons e12 (ag.cons e13 (ag.nil _)))))) h' oN) oN)
def mz (x1 x2 x3 x4:Int)(H:Hp)(K:VK):Prop:=
 Nw H (Oq #[I x1,I x2,I x3,I x4] 464) fun b1 H1=>aM H1 ((O b1).add 2) fun x5=>fS 374 #[I x5] H1 fun c1 H2=>ao c1 (aM H2 ((O b1).add 3) fun x6=>fS 374 #[I x6] H2 fun c2 H3=>ao c2 (aM H3 (((O b1).add 0).add 0) fun x7=>aM H3 ((O b1).add 2) fun x8=>ao (decide ((i64.wrap (x7-1))<=(i64.wrap (4294967295-x8)))) (aM H3 (((O b1).add 0).add 1) fun x9=>aM H3 ((O b1).add 3) fun x10=>K (.bool (decide ((i64.wrap (x9-1))<=(i64.wrap (4294967295-x10))))) H3) (K (.bool false) H3)) (K (.bool false) H3)) (K (.bool false) H2)
theorem mz.ok x1 x2 x3 x4 H K (h:mz x1 x2 x3 x4 H K):ae prog 368 #[.agg #[I x1,I x2,I x3,I x4]] H K:=
 cg j1 Tryz.func368 rfl rfl h
def nD (x1:Int)(H:Hp)(K:VK):Prop:=
 ao (decide (x1>=0)) (K (.bool (decide (x1<=(4294967295:Int)))) H) (K (.bool false) H)
theorem nD.ok x1 H K (h:nD x1 H K):ae prog 374 #[I x1] H K:=
 cg j1 Tryz.func374 rfl rfl h
end W
namespace Ker
open Go Go.Hw W Shp Gol Fft
theorem nV (a n:Nat):a^n%18446744069414584321=(pw (zp a) n).val:=congrArg Fin.val (CT a n)
theorem nT (x y:Zp):x.val*y.val%18446744069414584321=(x*y).val:=(Fin.val_mul x y).symm
theorem iA (x:Zp):x.val<2^64:=by have:=x.isLt;omega
theorem Cd (x:UInt64)(y:Zp):x.toNat*y.val%18446744069414584321=(zw x*y).val:=by
 rw[<- nT];show _=x.toNat%18446744069414584321*y.val%18446744069414584321
 rw[z8]
theorem Ek {k:Nat}(hk:k<=32)(H:Hp):ae prog 349 #[I (k:Int)] H (RetE (U ((rt k).val:Int)) H):=by
 apply pH.ok;unfold pH;rw[fW];refine⟨by omega,?_⟩;rw[show(18446744069414584320:Int)=((18446744069414584320:Nat):Int)from rfl,rz (k:=.u64) rfl (by show k<=64;omega)];have hlt:18446744069414584320/2^k<2^64:=Nat.lt_of_le_of_lt (Nat.div_le_self _ _) (by decide);refine ae.use (xq (a:=7) (by decide) hlt H) ?_;rw[nV];simp only[HV];exact RetE.mk _ _
theorem mD {k:Nat}(hk:k<=32)(H:Hp):ae prog 348 #[I (k:Int)] H (RetE (.bool true) H):=by
 apply pG.ok;unfold pG;refine aC (by omega) ?_;rw[decide_eq_true (by omega)];exact RetE.mk _ _
theorem GD {k:Nat}(hk:k<=32):pw (rt k) qa=pw (rt k) (2^k-1):=by
 have e:=sO hk;have hp:=pow_pos k;generalize hq:18446744069414584320/2^k=q at e;have hq1:1<=q:=by
  rcases Nat.eq_zero_or_pos q with h|h
  .rw[h,Nat.zero_mul]at e;omega
  .exact h
 have e2:qa=2^k*(q-1)+(2^k-1):=by
  unfold qa;rw[Nat.mul_sub_one,Nat.mul_comm];have:1*2^k<=q*2^k:=Nat.mul_le_mul_right _ hq1;omega
 rw[e2,lZ,fD,uM hk,oT];grind
theorem Nz {k:Nat}(hk:k<=32):(rt k).val%18446744069414584321≠0:=fun h=>by
 have h1:rt k=0:=Fin.ext (by rw[Nat.mod_eq_of_lt (rt k).isLt]at h;exact h);have h2:=M7 hk;rw[h1]at h2;have h3:(0:Zp)*pw 0 (2^k-1)=0:=by grind
 rw[h3]at h2;exact absurd h2 (by decide)
theorem Du {k:Nat}(hk:k<=32)(d:Bool)(H:Hp):ae prog 247 #[I (k:Int),I (if d=true then 1 else 0)] H (RetE (.tuple #[U ((fk d k).val:Int),I 0]) H):=by
 apply pI.ok;unfold pI;refine aw (by omega) (aw (by omega) ?_);cases d with
 |false=>
  refine aL rfl ?_;have h1:ae prog 310 #[I (k:Int)] H (RetE (.tuple #[U ((rt k).val:Int),I 0]) H):=by
   apply pF.ok;unfold pF;refine ae.use (mD hk H) ?_;simp only[HV];refine ae.use (Ek hk H) ?_;simp only[HV];exact RetE.mk _ _
  refine ae.use h1 ?_;simp only[HV];exact RetE.mk _ _
 |true=>
  refine aK (by decide) (aL rfl ?_);have h1:ae prog 311 #[I (k:Int)] H (RetE (.tuple #[U ((fk true k).val:Int),I 0]) H):=by
   apply pD.ok;unfold pD;refine ae.use (mD hk H) ?_;simp only[HV];refine ae.use (Ek hk H) ?_;simp only[HV];refine ae.use (F9 (iA _) (Nz hk) H) ?_;have e:wH (rt k).val=(fk true k).val:=by
    unfold wH;rw[nV,nZ,GD hk];rfl
   rw[e];simp only[HV];exact RetE.mk _ _
  refine ae.use h1 ?_;simp only[HV];exact RetE.mk _ _
def jD (z:Zp)(n:Nat):List UInt64:=(List.range n).map fun i=>uw (pw z i)
theorem tD (z:Zp)(n:Nat):(jD z n).length=n:=by simp[jD]
theorem Je (z:Zp){n i:Nat}(h:i<n):(jD z n)[i]? =some (uw (pw z i)):=by
 unfold jD;rw[List.getElem?_map,List.getElem?_range h];rfl
theorem vF (K:VK)(z:Zp){n r mr:Nat}(hn:n<=1048576){L:List As}
  (hK:∀ H,Sep (af r (.row (ah (jD z n)) 108 mr)::L) H->K (.tuple #[.slice (Oo r) n n,I 0]) H):
  ∀(t i:Nat) (ys:List UInt64) (H:Hp),i+t=n->ys.length=t->Sep (af r (.row (ah (jD z i++ys)) 108 mr)::L) H->
   du.l6 K (t+1) (z.val:Int) (Oo r) n n ((pw z i).val:Int) (n:Int) (i:Int) H
 |0,i,ys,H,hi,hy,hs=>by
  unfold du.l6;refine aw (by omega) (hK H ?_);obtain rfl:ys=[]:=List.length_eq_zero_iff.1 hy;rw[List.append_nil,show i=n by omega]at hs;exact hs
 |t+1,i,ys,H,hi,hy,hs=>by
  unfold du.l6;refine aC (by omega) ⟨by omega,by omega,?_⟩;show St H _ _ _
  rw[Int.toNat_natCast,Nat.mul_one,Addr.bm,Addr.bm,Nat.zero_add,Nat.add_zero];refine hs.str 0 rfl (by rw[aG,List.length_append,tD];omega) rfl fun H hs=>?_;have e:(ah (jD z i++ys)).set i (U ((pw z i).val:Int))=ah (jD z (i+1)++ys.drop 1):=by
   rw[<- rG,xd];congr 1;rw[List.set_append_right _ _ (by rw[tD];exact Nat.le_refl _),tD,Nat.sub_self];unfold jD;rw[List.range_succ,List.map_append,List.append_assoc];congr 1;cases ys with
   |nil=>simp at hy
   |cons y ys=>rfl
  rw[e]at hs;refine ae.use (pQ (iA _) (iA _) H) ?_;rw[nT];simp only[HV];rw[bu (x:=(i:Int)+1),show(i:Int)+1=((i+1:Nat):Int) by omega];exact vF K z hn hK t (i+1) (ys.drop 1) H (by omega) (by rw[List.length_drop];omega) hs
theorem Gj (z:Zp)(n:Nat)(hn:n<=1048576):Tr prog 248 #[U (z.val:Int),I (n:Int)] [] fun v M=>
  ∃ r,v= .tuple #[.slice (Oo r) n n,I 0]/\M=[af r (.row (ah (jD z n)) 108 (n*1))]:=fun H hs=>by
 apply du.ok;unfold du;refine aw (by omega) (aw (by omega) ?_);refine hs.q8 fH rfl (n:=n) (m:=n) rfl rfl (Nat.le_refl _) (by omega) (by omega) fun r H hs=>?_
 simp only[HV];refine⟨n+1,?_⟩;refine vF (L:=[]) _ z hn (fun H hs=>⟨_,⟨r,rfl,rfl⟩,hs⟩) n 0 (List.replicate n 0) H (by omega) (by simp) ?_;rw[u7]at hs;exact hs
theorem BI (k:Nat)(hk:k<=20)(d:Bool):Tr prog 345 #[I (k:Int),I (if d=true then 1 else 0)] [] fun v M=>
  ∃ r,v= .tuple #[.slice (Oo r) (2^(k-1)) (2^(k-1)),I 0]/\M=[af r (.row (ah (jD (fk d k) (2^(k-1)))) 108 (2^(k-1)*1))]:=fun H hs=>by
 have h20:=dw hk;have h19:=dw (show k-1<=19 by omega);apply oJ.ok;unfold oJ;refine ae.use (Du (by omega) d H) ?_;simp only[HV];refine aH rfl (aw (by omega) ?_);rw[fW];refine⟨by omega,by decide,?_⟩;have e:(if(1:Int)>cT .i64 (dA .i64 1 (k:Int)) 1 then(1:Int)else cT .i64 (dA .i64 1 (k:Int)) 1)=((2^(k-1):Nat):Int):=by
  have:∀ k:Nat,k<21->(if(1:Int)>cT .i64 (dA .i64 1 (k:Int)) 1 then(1:Int)else cT .i64 (dA .i64 1 (k:Int)) 1)=((2^(k-1):Nat):Int):=by decide +kernel
  exact this k (by omega)
 rw[e];refine(Gj (fk d k) (2^(k-1)) (by omega)).use hs [] rfl rfl ?_;rintro _ _ H ⟨r,rfl,rfl⟩ hs;simp only[HV];exact⟨_,⟨r,rfl,rfl⟩,hs⟩
def half :Zp:=9223372034707292161
theorem GS :half*2=1:=by decide
theorem LL :pw 2 (qa+1)=1:=by
 unfold qa;rw[<- Cq 64 2 (18446744069414584319+1) (by decide)];decide +kernel
theorem Jo (k:Nat):pw (pw 2 k) qa=pw half k:=by
 have h1:pw (pw 2 k) qa*pw 2 k=1:=by
  have:pw (pw 2 k) (qa+1)=pw (pw 2 k) qa*pw 2 k:=rfl;rw[<- this,<-fD,Nat.mul_comm,fD,LL,oT]
 have h2:pw half k*pw 2 k=1:=by rw[<- xZ,GS,oT]
 grind
theorem Il (k:Nat):zp (2^k)=pw 2 k:=CT 2 k
theorem Na (k:Nat):2^k%18446744069414584321≠0:=fun h=>by
 have h1:zp (2^k)=0:=Fin.ext h;have h2:pw half k*pw 2 k=1:=by rw[<- xZ,GS,oT]
 rw[<- Il,h1]at h2;have h3:pw half k*0=0:=by grind
 rw[h3]at h2;exact absurd h2 (by decide)
theorem BF {k:Nat}(hk:k<=32)(H:Hp):ae prog 118 #[I (k:Int)] H (RetE (.tuple #[U ((pw half k).val:Int),I 0]) H):=by
 have h32:=dw hk;apply oI.ok;unfold oI;refine aw (by omega) (aw (by omega) ?_);rw[fW];refine⟨by omega,?_⟩;rw[show(1:Int)=((1:Nat):Int)from rfl,FC (x:=1) rfl,Nat.one_mul,Nat.mod_eq_of_lt (by omega)];refine ae.use (F9 (by omega) (Na k) H) ?_;have e:wH (2^k)=(pw half k).val:=by
  unfold wH;rw[nV,Il,Jo]
 rw[e];simp only[HV];exact RetE.mk _ _
def gK (z:Zp)(l:List UInt64):List UInt64:=l.map fun x=>uw (zw x*z)
theorem pe (z:Zp)(l:List UInt64):(gK z l).length=l.length:=by simp[gK]
theorem I8 (x w:UInt64):x.toNat*w.toNat%18446744069414584321=(zw x*zw w).val:=by
 rw[<- nT];show _=x.toNat%18446744069414584321*(w.toNat%18446744069414584321)%18446744069414584321
 rw[<- Nat.mul_mod]
theorem xu (K:VK)(w:UInt64){R:As}{A:OA}{n m r mr:Nat}{l:List UInt64}(hR:∀ H,R H->Cells H A (ah l))(hl:l.length=n)(hn:n<=4294967296)
  (hK:∀ H,Sep [af r (.row (ah (gK (zw w) l)) 108 mr),R] H->K (.slice (Oo r) n n) H):
  ∀(t i:Nat) (ys:List UInt64) (H:Hp),i+t=n->ys.length=t->Sep [af r (.row (ah (gK (zw w) (l.take i)++ys)) 108 mr),R] H->
   dD.l3 K (t+1) (w.toNat:Int) (Oo r) n n A n m (n:Int) (i:Int) H
 |0,i,ys,H,hi,hy,hs=>by
  unfold dD.l3;refine aw (by omega) (hK H ?_);obtain rfl:ys=[]:=List.length_eq_zero_iff.1 hy;rw[List.append_nil,List.take_of_length_le (by omega)]at hs;exact hs
 |t+1,i,ys,H,hi,hy,hs=>by
  have hc:Cells H A (ah l):=by
   obtain⟨H1,h1,hle⟩:=hs.fE 1 rfl;exact(hR H1 h1).le hle
  unfold dD.l3;refine aC (by omega) ?_;have hil:i<l.length:=by omega
  have hg:(ah l)[i]? =some (U ((l[i]).toNat:Int)):=by
   rw[dO,List.getElem?_eq_getElem hil];rfl
  refine hc.read hg rfl (by rw[aG];omega) ?_;simp only[HV];refine ae.use (pQ (l[i]).toNat_lt w.toNat_lt H) ?_;rw[I8];simp only[HV];refine⟨by omega,by omega,?_⟩;show St H _ _ _
  rw[Int.toNat_natCast,Nat.mul_one,Addr.bm,Addr.bm,Nat.zero_add,Nat.add_zero];have hlt:(gK (zw w) (l.take i)).length=i:=by rw[pe,List.length_take];omega
  refine hs.str 0 rfl (by rw[aG,List.length_append,hlt];omega) rfl fun H hs=>?_;have e:(ah (gK (zw w) (l.take i)++ys)).set i (U ((zw l[i]*zw w).val:Int))=ah (gK (zw w) (l.take (i+1))++ys.drop 1):=by
   rw[<- rG,xd];congr 1;rw[List.set_append_right _ _ (by omega),hlt,Nat.sub_self];unfold gK;rw[List.take_add_one,List.getElem?_eq_getElem hil];simp only[Option.toList,List.map_append,List.append_assoc];congr 1;cases ys with
   |nil=>simp at hy
   |cons y ys=>rfl
  rw[e]at hs;rw[bu (x:=(i:Int)+1),show(i:Int)+1=((i+1:Nat):Int) by omega];exact xu K w hR hl hn hK t (i+1) (ys.drop 1) H (by omega) (by rw[List.length_drop];omega) hs
theorem IE (w:UInt64){R:As}{A:OA}{n m:Nat}{l:List UInt64}(hR:∀ H,R H->Cells H A (ah l))(hl:l.length=n)(hn:n<=4294967296):
  Tr prog 362 #[.slice A n m,U (w.toNat:Int)] [R] fun v M=>
  ∃ r,v= .slice (Oo r) n n/\M=[af r (.row (ah (gK (zw w) l)) 108 (n*1)),R]:=fun H hs=>by
 apply dD.ok;unfold dD;refine hs.q8 fH rfl (n:=n) (m:=n) rfl rfl (Nat.le_refl _) (by omega) (by omega) fun r H hs=>?_
 simp only[HV];refine⟨n+1,?_⟩;refine xu _ w hR hl hn (fun H hs=>⟨_,⟨r,rfl,rfl⟩,hs⟩) n 0 (List.replicate n 0) H (by omega) (by simp) ?_;rw[u7]at hs;exact hs.re [1,0] rfl
end Ker
namespace W
open Go Go.Hw
theorem jf :prog.follows .mixedOrders=true:=by kernel_rfl
def dT.l5 (K:VK):Nat->Int->Addr->Int->Hp->Prop
 |0,_,_,_,_=>False
 |k+1,x2,a1,x3,H=>
  let R5:=dT.l5 K k
  ao (decide (x3<2)) (Hz 345 #[I x2,I x3] H fun v1 H2=>kB v1 fun A1 n1 m1 x4=>(cX x3 2 (St H2 ((((a1.add 0).add 0).add (x3.toNat*1)).add 0) (.slice A1 n1 m1) fun H3=>R5 x2 a1 (i64.wrap (x3+1)) H3))) (Hz 118 #[I x2] H fun v4 H4=>pZ v4 fun x5 x6=>(St H4 (((a1.add 0).add 2).add 0) (U x5) fun H5=>K (.pointer (some a1)) H5))
def dT (x1:Int)(H:Hp)(K:VK):Prop:=
 ao (decide (x1<0)) (K (.pointer none) H) (ao (decide (x1>20)) (K (.pointer none) H) (Nw H (Oq #[.slice none 0 0,.slice none 0 0,U 0,I x1] 445) fun b1 H1=>(∃ k,dT.l5 K k x1 (O b1) 0 H1)))
def dT.l5.L (K:VK)(k:Nat):dm:=fun E D H=>
 eI E 0 .i64 fun x2=>eN E 3 fun a1=>eI E 14 .i64 fun x3=>az D (dT.l5 K k x2 a1 x3 H)
def dT.Λ5 (_:VK)(_R5:Int→Addr→Int→Hp→Prop):aN:=aN.none (fun i=>match Nat.beq i 7 with|true=>some ([],[0,0,0,0,12,28,60,60,1,257,769,1919,3967],0)|false=>none)
def dT.Λ (K:VK):aN:=⟨fun i=>none,fun i=>match Nat.beq i 5 with|true=>some (fun E D H=>∃ k,dT.l5.L K k E D H)|false=>none,(fun i=>match Nat.beq i 7 with|true=>some ([],[0,0,0,0,12,28,60,60,1,257,769,1919,3967],0)|false=>none)⟩
theorem dT.ok x1 H K (h:dT x1 H K):ae prog 305 #[I x1] H K:=
 dX (Λ:=(dT.Λ K)) jf Tryz.func305 rfl rfl h (oC (fun E D H h=>by
   refine Safe.c0 (dT.l5.L K) (fun E D H h=>?_) (fun k E D H h=>?_) E D H h
   .obtain⟨w0,e0,g1⟩:=DG.out h;obtain⟨x2,rfl,g2⟩:=DI.out g1;obtain⟨w3,e3,g3⟩:=DG.out g2;obtain⟨pw3,rfl,g4⟩:=DP.out g3;obtain⟨a1,rfl,g5⟩:=NN.out g4;obtain⟨w14,e14,g6⟩:=DG.out g5;obtain⟨x3,rfl,g7⟩:=DI.out g6;obtain⟨rfl,h'⟩:=az.out g7;exact h'
   .obtain⟨x2,e0,g2⟩:=GI h;obtain⟨a1,e3,g5⟩:=GN g2;obtain⟨x3,e14,g7⟩:=GI g5;obtain⟨rfl,h'⟩:=az.out g7;exact cY (Λ:=(dT.Λ5 K (dT.l5 K k))) jf [] (ag.cons e0 (ag.cons e3 (ag.cons e14 (ag.nil _)))) h' oN) oN)
def aS.l13 (K:VK):Nat->OA->Nat->Nat->OA->Nat->Nat->Int->Hp->Prop
 |0,_,_,_,_,_,_,_,_=>False
 |k+1,A7,n7,m7,A8,n8,m8,x8,H=>
  let R13:=aS.l13 K k
  ao (decide (x8<(n7:Int))) (Hz 367 #[.slice A7 n7 m7,.slice A8 n8 m8,I x8] H fun v10 H5=>R13 A7 n7 m7 A8 n8 m8 (i64.wrap (x8*2)) H5) (K (I 0) H)
def aS.l8 (K:VK):Nat->OA->Nat->Nat->OA->Nat->Nat->OA->Nat->Nat->Int->Int->Hp->Prop
 |0,_,_,_,_,_,_,_,_,_,_,_,_=>False
 |k+1,A4,n4,m4,A5,n5,m5,A6,n6,m6,x4,x5,H=>
  let R8:=aS.l8 K k
  ao (decide (x5<x4)) (cX x5 n6 (NN A6 fun a3=>eo H (a3.add (x5.toNat*1)) fun x6=>fe 121 #[U x6] H fun x7 H3=>cX x5 n4 (NN A4 fun a4=>St H3 ((a4.add (x5.toNat*1)).add 0) (U x7) fun H4=>R8 A4 n4 m4 A5 n5 m5 A6 n6 m6 x4 (i64.wrap (x5+1)) H4))) ((∃ k,aS.l13 K k A4 n4 m4 A5 n5 m5 1 H))
def aS (p1 A1:OA)(n1 m1:Nat)(x1:Int)(H:Hp)(K:VK):Prop:=
 NN p1 fun a1=>aM H (a1.add 3) fun x2=>(0<=(u64.wrap x2)/\ao ((n1:Int) !=(dA .i64 1 (u64.wrap x2))) (K (I 4) H) (NN p1 fun a2=>Hz 365 #[.pointer (some (a2.add 0)),I x1] H fun v2 H1=>IJ v2 fun A2 n2 m2 c1=>(ao (!c1) (K (I 18) H1) (Hz 366 #[.slice A1 n1 m1] H1 fun v5 H2=>kB v5 fun A3 n3 m3 x3=>((∃ k,aS.l8 K k A1 n1 m1 A2 n2 m2 A3 n3 m3 (n3:Int) 0 H2))))))
def aS.l8.L (K:VK)(k:Nat):dm:=fun E D H=>
 DG (E.get? 1) fun w1=>aF w1 fun A4 n4 m4=>DG (E.get? 7) fun w7=>aF w7 fun A5 n5 m5=>DG (E.get? 38) fun w38=>aF w38 fun A6 n6 m6=>eI E 39 .i64 fun x4=>eI E 40 .i64 fun x5=>az D (aS.l8 K k A4 n4 m4 A5 n5 m5 A6 n6 m6 x4 x5 H)
def aS.l13.L (K:VK)(k:Nat):dm:=fun E D H=>
 DG (E.get? 1) fun w1=>aF w1 fun A7 n7 m7=>DG (E.get? 7) fun w7=>aF w7 fun A8 n8 m8=>eI E 13 .i64 fun x8=>az D (aS.l13 K k A7 n7 m7 A8 n8 m8 x8 H)
def aS.Λ8 (_:VK)(_R8:OA->Nat->Nat->OA->Nat->Nat->OA->Nat->Nat->Int->Int->Hp->Prop):aN:=aN.none (fun _=>none)
def aS.Λ13 (_:VK)(_R13:OA->Nat->Nat->OA->Nat->Nat->Int->Hp->Prop):aN:=aN.none (fun _=>none)
def aS.Λ (K:VK):aN:=⟨fun i=>none,fun i=>match Nat.beq i 13 with|true=>some (fun E D H=>∃ k,aS.l13.L K k E D H)|false=>match Nat.beq i 8 with|true=>some (fun E D H=>∃ k,aS.l8.L K k E D H)|false=>none,(fun _=>none)⟩
theorem aS.ok p1 A1 n1 m1 x1 H K (h:aS p1 A1 n1 m1 x1 H K):ae prog 360 #[.pointer p1,.slice A1 n1 m1,I x1] H K:=
 dX (Λ:=(aS.Λ K)) jf Tryz.func360 rfl rfl h (oC (fun E D H h=>by
   refine Safe.c0 (aS.l8.L K) (fun E D H h=>?_) (fun k E D H h=>?_) E D H h
   .obtain⟨w1,e1,g1⟩:=DG.out h;obtain⟨A4,n4,m4,rfl,g2⟩:=aF.out g1;obtain⟨w7,e7,g3⟩:=DG.out g2;obtain⟨A5,n5,m5,rfl,g4⟩:=aF.out g3;obtain⟨w38,e38,g5⟩:=DG.out g4;obtain⟨A6,n6,m6,rfl,g6⟩:=aF.out g5;obtain⟨w39,e39,g7⟩:=DG.out g6;obtain⟨x4,rfl,g8⟩:=DI.out g7;obtain⟨w40,e40,g9⟩:=DG.out g8;obtain⟨x5,rfl,g10⟩:=DI.out g9;obtain⟨rfl,h'⟩:=az.out g10;exact h'
   .obtain⟨w1,e1,g1⟩:=DG.out h;obtain⟨A4,n4,m4,rfl,g2⟩:=aF.out g1;obtain⟨w7,e7,g3⟩:=DG.out g2;obtain⟨A5,n5,m5,rfl,g4⟩:=aF.out g3;obtain⟨w38,e38,g5⟩:=DG.out g4;obtain⟨A6,n6,m6,rfl,g6⟩:=aF.out g5;obtain⟨x4,e39,g8⟩:=GI g6;obtain⟨x5,e40,g10⟩:=GI g8;obtain⟨rfl,h'⟩:=az.out g10;exact cY (Λ:=(aS.Λ8 K (aS.l8 K k))) jf [] (ag.cons e1 (ag.cons e7 (ag.cons e38 (ag.cons e39 (ag.cons e40 (ag.nil _)))))) h' oN) (oC (fun E D H h=>by
   refine Safe.c0 (aS.l13.L K) (fun E D H h=>?_) (fun k E D H h=>?_) E D H h
   .obtain⟨w1,e1,g1⟩:=DG.out h;obtain⟨A7,n7,m7,rfl,g2⟩:=aF.out g1;obtain⟨w7,e7,g3⟩:=DG.out g2;obtain⟨A8,n8,m8,rfl,g4⟩:=aF.out g3;obtain⟨w13,e13,g5⟩:=DG.out g4;obtain⟨x8,rfl,g6⟩:=DI.out g5;obtain⟨rfl,h'⟩:=az.out g6;exact h'
   .obtain⟨w1,e1,g1⟩:=DG.out h;obtain⟨A7,n7,m7,rfl,g2⟩:=aF.out g1;obtain⟨w7,e7,g3⟩:=DG.out g2;obtain⟨A8,n8,m8,rfl,g4⟩:=aF.out g3;obtain⟨x8,e13,g6⟩:=GI g4;obtain⟨rfl,h'⟩:=az.out g6;exact cY (Λ:=(aS.Λ13 K (aS.l13 K k))) jf [] (ag.cons e1 (ag.cons e7 (ag.cons e13 (ag.nil _)))) h' oN) oN))
def fV (p1:OA)(x1:Int)(H:Hp)(K:VK):Prop:=
 ao (decide (x1<0)) (K (.tuple #[.slice none 0 0,.bool false]) H) (ao (decide (x1>1)) (K (.tuple #[.slice none 0 0,.bool false]) H) (NN p1 fun a1=>cX x1 2 (jy H ((a1.add 0).add (x1.toNat*1)) fun A1 n1 m1=>K (.tuple #[.slice A1 n1 m1,.bool true]) H)))
theorem fV.ok p1 x1 H K (h:fV p1 x1 H K):ae prog 365 #[.pointer p1,I x1] H K:=
 cg jf Tryz.func365 rfl rfl h
def aZ.l5.q1 (x10 x11 x12:Int)(H:Hp)(x7 x9:Int)(n5:Nat)(A5:OA)(x5:Int)(R5:OA->Nat->Nat->OA->Nat->Nat->Int->Int->Int->Int->Int->Hp->Prop)(m5:Nat)(A6:OA)(n6 m6:Nat)(x6 x8:Int):Prop:=
 Hz 373 #[U x10,U x11,U x12] H fun v4 H1=>BK v4 fun x13 x14=>(cX (i64.wrap (x7+x9)) n5 (NN A5 fun a4=>St H1 ((a4.add ((i64.wrap (x7+x9)).toNat*1)).add 0) (U x13) fun H2=>cX (i64.wrap ((i64.wrap (x7+x9))+x5)) n5 (NN A5 fun a5=>St H2 ((a5.add ((i64.wrap ((i64.wrap (x7+x9))+x5)).toNat*1)).add 0) (U x14) fun H3=>R5 A5 n5 m5 A6 n6 m6 x5 x6 x7 x8 (i64.wrap (x9+1)) H3)))
def aZ.l5 (K:VK)(R2:OA->Nat->Nat->OA->Nat->Nat->Int->Int->Int->Hp->Prop):Nat->OA->Nat->Nat->OA->Nat->Nat->Int->Int->Int->Int->Int->Hp->Prop
 |0,_,_,_,_,_,_,_,_,_,_,_,_=>False
 |k+1,A5,n5,m5,A6,n6,m6,x5,x6,x7,x8,x9,H=>
  let R5:=aZ.l5 K R2 k
  ao (decide (x9<x8)) (cX (i64.wrap (x7+x9)) n5 (NN A5 fun a1=>cX (i64.wrap ((i64.wrap (x7+x9))+x5)) n5 (NN A5 fun a2=>cX (i64.wrap (x9*x6)) n6 (NN A6 fun a3=>(eo H (a1.add ((i64.wrap (x7+x9)).toNat*1)) fun x10=>(eo H (a2.add ((i64.wrap ((i64.wrap (x7+x9))+x5)).toNat*1)) fun x11=>eo H (a3.add ((i64.wrap (x9*x6)).toNat*1)) fun x12=>aZ.l5.q1 x10 x11 x12 H x7 x9 n5 A5 x5 R5 m5 A6 n6 m6 x6 x8)/\(eo H (a3.add ((i64.wrap (x9*x6)).toNat*1)) fun x15=>eo H (a2.add ((i64.wrap ((i64.wrap (x7+x9))+x5)).toNat*1)) fun x16=>aZ.l5.q1 x10 x16 x15 H x7 x9 n5 A5 x5 R5 m5 A6 n6 m6 x6 x8))/\(eo H (a2.add ((i64.wrap ((i64.wrap (x7+x9))+x5)).toNat*1)) fun x19=>(eo H (a1.add ((i64.wrap (x7+x9)).toNat*1)) fun x20=>eo H (a3.add ((i64.wrap (x9*x6)).toNat*1)) fun x21=>aZ.l5.q1 x20 x19 x21 H x7 x9 n5 A5 x5 R5 m5 A6 n6 m6 x6 x8)/\(eo H (a3.add ((i64.wrap (x9*x6)).toNat*1)) fun x24=>eo H (a1.add ((i64.wrap (x7+x9)).toNat*1)) fun x25=>aZ.l5.q1 x25 x19 x24 H x7 x9 n5 A5 x5 R5 m5 A6 n6 m6 x6 x8))/\(eo H (a3.add ((i64.wrap (x9*x6)).toNat*1)) fun x28=>(eo H (a1.add ((i64.wrap (x7+x9)).toNat*1)) fun x29=>eo H (a2.add ((i64.wrap ((i64.wrap (x7+x9))+x5)).toNat*1)) fun x30=>aZ.l5.q1 x29 x30 x28 H x7 x9 n5 A5 x5 R5 m5 A6 n6 m6 x6 x8)/\(eo H (a2.add ((i64.wrap ((i64.wrap (x7+x9))+x5)).toNat*1)) fun x33=>eo H (a1.add ((i64.wrap (x7+x9)).toNat*1)) fun x34=>aZ.l5.q1 x34 x33 x28 H x7 x9 n5 A5 x5 R5 m5 A6 n6 m6 x6 x8)))))) (R2 A5 n5 m5 A6 n6 m6 x5 x6 (i64.wrap (x7+(i64.wrap (2*x5)))) H)
def aZ.l2 (K:VK):Nat->OA->Nat->Nat->OA->Nat->Nat->Int->Int->Int->Hp->Prop
 |0,_,_,_,_,_,_,_,_,_,_=>False
 |k+1,A3,n3,m3,A4,n4,m4,x2,x3,x4,H=>
  let R2:=aZ.l2 K k
  ao (decide (x4<(n3:Int))) ((∃ k,aZ.l5 K R2 k A3 n3 m3 A4 n4 m4 x2 x3 x4 x2 0 H)) (K (.tuple #[]) H)
def aZ (A1:OA)(n1 m1:Nat)(A2:OA)(n2 m2:Nat)(x1:Int)(H:Hp)(K:VK):Prop:=
 ((i64.wrap (2*x1))≠0/\i64=i64/\(∃ k,aZ.l2 K k A1 n1 m1 A2 n2 m2 x1 (i64.wrap (Int.tdiv (n1:Int) (i64.wrap (2*x1)))) 0 H))
def aZ.l2.L (K:VK)(k:Nat):dm:=fun E D H=>
 DG (E.get? 0) fun w0=>aF w0 fun A3 n3 m3=>DG (E.get? 1) fun w1=>aF w1 fun A4 n4 m4=>eI E 2 .i64 fun x2=>eI E 6 .i64 fun x3=>eI E 7 .i64 fun x4=>az D (aZ.l2 K k A3 n3 m3 A4 n4 m4 x2 x3 x4 H)
def aZ.l5.L (K:VK)(R2:OA->Nat->Nat->OA->Nat->Nat->Int->Int->Int->Hp->Prop)(k:Nat):dm:=fun E D H=>
 DG (E.get? 0) fun w0=>aF w0 fun A5 n5 m5=>DG (E.get? 1) fun w1=>aF w1 fun A6 n6 m6=>eI E 2 .i64 fun x5=>eI E 6 .i64 fun x6=>eI E 7 .i64 fun x7=>eI E 24 .i64 fun x8=>eI E 25 .i64 fun x9=>az D (aZ.l5 K R2 k A5 n5 m5 A6 n6 m6 x5 x6 x7 x8 x9 H)
def aZ.Λ5 (_:VK)(_R2:OA→Nat→Nat→OA→Nat→Nat→Int→Int→Int→Hp→Prop)(_R5:OA→Nat→Nat→OA→Nat→Nat→Int→Int→Int→Int→Int→Hp→Prop):aN:=aN.none (fun i=>match Nat.beq i 8 with|true=>some ([],[0,0,0,0,0,0,48,112,0,0,768,1792,0,0,0,24576,61440,126976,262128,524272,1048560,1048560,2097139,6291443,16777215,33554431],0)|false=>none)
def aZ.Λ2 (K:VK)(R2:OA→Nat→Nat→OA→Nat→Nat→Int→Int→Int→Hp→Prop):aN:=⟨fun i=>none,fun i=>match Nat.beq i 5 with|true=>some (fun E D H=>∃ k,aZ.l5.L K R2 k E D H)|false=>none,(fun i=>match Nat.beq i 8 with|true=>some ([],[0,0,0,0,0,0,48,112,0,0,768,1792,0,0,0,24576,61440,126976,262128,524272,1048560,1048560,2097139,6291443,16777215,33554431],0)|false=>none)⟩
def aZ.Λ (K:VK):aN:=⟨fun i=>none,fun i=>match Nat.beq i 2 with|true=>some (fun E D H=>∃ k,aZ.l2.L K k E D H)|false=>none,(fun i=>match Nat.beq i 8 with|true=>some ([],[0,0,0,0,0,0,48,112,0,0,768,1792,0,0,0,24576,61440,126976,262128,524272,1048560,1048560,2097139,6291443,16777215,33554431],0)|false=>none)⟩
theorem aZ.ok A1 n1 m1 A2 n2 m2 x1 H K (h:aZ A1 n1 m1 A2 n2 m2 x1 H K):ae prog 367 #[.slice A1 n1 m1,.slice A2 n2 m2,I x1] H K:=
 dX (Λ:=(aZ.Λ K)) jf Tryz.func367 rfl rfl h (oC (fun E D H h=>by
   refine Safe.c0 (aZ.l2.L K) (fun E D H h=>?_) (fun k E D H h=>?_) E D H h
   .obtain⟨w0,e0,g1⟩:=DG.out h;obtain⟨A3,n3,m3,rfl,g2⟩:=aF.out g1;obtain⟨w1,e1,g3⟩:=DG.out g2;obtain⟨A4,n4,m4,rfl,g4⟩:=aF.out g3;obtain⟨w2,e2,g5⟩:=DG.out g4;obtain⟨x2,rfl,g6⟩:=DI.out g5;obtain⟨w6,e6,g7⟩:=DG.out g6;obtain⟨x3,rfl,g8⟩:=DI.out g7;obtain⟨w7,e7,g9⟩:=DG.out g8;obtain⟨x4,rfl,g10⟩:=DI.out g9;obtain⟨rfl,h'⟩:=az.out g10;exact h'
   .obtain⟨w0,e0,g1⟩:=DG.out h;obtain⟨A3,n3,m3,rfl,g2⟩:=aF.out g1;obtain⟨w1,e1,g3⟩:=DG.out g2;obtain⟨A4,n4,m4,rfl,g4⟩:=aF.out g3;obtain⟨x2,e2,g6⟩:=GI g4;obtain⟨x3,e6,g8⟩:=GI g6;obtain⟨x4,e7,g10⟩:=GI g8;obtain⟨rfl,h'⟩:=az.out g10;exact cY (Λ:=(aZ.Λ2 K (aZ.l2 K k))) jf [] (ag.cons e0 (ag.cons e1 (ag.cons e2 (ag.cons e6 (ag.cons e7 (ag.nil _)))))) h' (oC (fun E D H h=>by
      refine Safe.c0 (aZ.l5.L K (aZ.l2 K k)) (fun E D H h=>?_) (fun k E D H h=>?_) E D H h
      .obtain⟨w0,e0,g1⟩:=DG.out h;obtain⟨A5,n5,m5,rfl,g2⟩:=aF.out g1;obtain⟨w1,e1,g3⟩:=DG.out g2;obtain⟨A6,n6,m6,rfl,g4⟩:=aF.out g3;obtain⟨w2,e2,g5⟩:=DG.out g4;obtain⟨x5,rfl,g6⟩:=DI.out g5;obtain⟨w6,e6,g7⟩:=DG.out g6;obtain⟨x6,rfl,g8⟩:=DI.out g7;obtain⟨w7,e7,g9⟩:=DG.out g8;obtain⟨x7,rfl,g10⟩:=DI.out g9;obtain⟨w24,e24,g11⟩:=DG.out g10;obtain⟨x8,rfl,g12⟩:=DI.out g11;obtain⟨w25,e25,g13⟩:=DG.out g12;obtain⟨x9,rfl,g14⟩:=DI.out g13;obtain⟨rfl,h'⟩:=az.out g14;exact h'
      .obtain⟨w0,e0,g1⟩:=DG.out h;obtain⟨A5,n5,m5,rfl,g2⟩:=aF.out g1;obtain⟨w1,e1,g3⟩:=DG.out g2;obtain⟨A6,n6,m6,rfl,g4⟩:=aF.out g3;obtain⟨x5,e2,g6⟩:=GI g4;obtain⟨x6,e6,g8⟩:=GI g6;obtain⟨x7,e7,g10⟩:=GI g8;obtain⟨x8,e24,g12⟩:=GI g10;obtain⟨x9,e25,g14⟩:=GI g12;obtain⟨rfl,h'⟩:=az.out g14;exact cY (Λ:=(aZ.Λ5 K (aZ.l2 K k) (aZ.l5 K (aZ.l2 K k) k))) jf [] (ag.cons e0 (ag.cons e1 (ag.cons e2 (ag.cons e6 (ag.cons e7 (ag.cons e24 (ag.cons e25 (ag.nil _)))))))) h' oN) oN)) oN)
def ku (x1 x2 x3:Int)(H:Hp)(K:VK):Prop:=
 fe 120 #[U x2,U x3] H fun x4 H1=>fe 177 #[U x1,U x4] H1 fun x5 H2=>fe 243 #[U x1,U x4] H2 fun x6 H3=>K (.tuple #[U x5,U x6]) H3
theorem ku.ok x1 x2 x3 H K (h:ku x1 x2 x3 H K):ae prog 373 #[U x1,U x2,U x3] H K:=
 cg jf Tryz.func373 rfl rfl h
end W
namespace Ker
open Go Go.Hw W Shp Gol Fft
def nE (z:Zp)(l:List UInt64)(n:Nat):List UInt64:=(List.range n).map fun c=>uw (dq l c*pw z c)
def vA (z:Zp)(l:List UInt64):List UInt64:=nE z l l.length
theorem HW (z:Zp)(l:List UInt64)(n:Nat):(nE z l n).length=n:=by simp[nE]
theorem uZ (z:Zp)(l:List UInt64):(vA z l).length=l.length:=HW _ _ _
theorem FI (z:Zp)(l:List UInt64)(n:Nat):nE z l (n+1)=nE z l n++[uw (dq l n*pw z n)]:=by
 unfold nE;rw[List.range_succ,List.map_append];rfl
theorem Fv {n r:Nat}(hn:1<=n/\n<=1048576)(hr:r<=4294967295)(H:Hp):ae prog 368 #[.agg #[I 1,I (n:Int),I (r:Int),I 0]] H (RetE (.bool true) H):=ae.ret (by
 have hin:∀{x:Nat} (H:Hp),x<=4294967295->ae prog 374 #[I (x:Int)] H (RetE (.bool true) H):=fun{x} H hx=>by
  apply nD.ok;unfold nD;refine aC (by omega) ?_;rw[decide_eq_true (by omega)];exact RetE.mk _ _
 apply mz.ok;unfold mz;refine(Sep.start H).nw fun b1 H1 hs=>?_
 refine hs.cC 1 rfl rfl ?_;simp only[HV];refine ae.use (hin H1 hr) ?_;simp only[HV];refine hs.cC 1 rfl rfl ?_;simp only[HV];refine ae.use (hin (x:=0) H1 (by omega)) ?_;simp only[HV];refine hs.kH 1 rfl rfl ?_;simp only[HV];refine hs.cC 1 rfl rfl ?_;simp only[HV];rw[bu (x:=1-1) (by decide) (by decide),bu (x:=4294967295-(r:Int))];refine aC (by omega) ?_;refine hs.kH 1 rfl rfl ?_;simp only[HV];refine hs.cC 1 rfl rfl ?_;simp only[HV];rw[bu (x:=(n:Int)-1),bu (x:=4294967295-0) (by decide) (by decide),decide_eq_true (by omega)];exact hs.fin 0 rfl _)
section
variable {R TT : As} {A : Option Addr} {n m k r : Nat} {l : List UInt64}
theorem zE (K:VK)(R10:OA->Nat->Nat->Addr->Int->OA->Nat->Nat->Int->Int->Hp->Prop)(z:Zp){A5:OA}{n7 m5:Nat}{a2:Addr}{x21 x24 x25:Int}{A7:OA}{m7:Nat}{L:List As}
  (hR:∀ H,R H->Cells H A7 (ah l)) (hl:l.length=n) (hn:n<=1048576)
  (hK:∀ A' m' H,Sep (bH 108 1 A' n m' (ah (vA z l))::R::L) H->R10 A5 n7 m5 a2 x21 A' n m' x24 (i64.wrap (x25+1)) H):
  ∀(t i:Nat) (A':OA) (m':Nat) (H:Hp),i+t=n->Sep (bH 108 1 A' i m' (ah (nE z l i))::R::L) H->
   cf.l15 K R10 (t+1) A5 n7 m5 a2 x21 A' i m' (z.val:Int) ((pw z i).val:Int) x24 x25 A7 n m7 (n:Int) (i:Int) H
 |0,i,A',m',H,hi,hs=>by
  unfold cf.l15;obtain rfl:i=n:=by omega
  refine aw (by omega) (hK A' m' H ?_);unfold vA;rw[hl];exact hs
 |t+1,i,A',m',H,hi,hs=>by
  have hc:Cells H A7 (ah l):=by
   obtain⟨H1,h1,hle⟩:=hs.fE 1 rfl;exact(hR H1 h1).le hle
  unfold cf.l15;refine aC (by omega) ?_;have hil:i<l.length:=by omega
  have hg:(ah l)[i]? =some (U ((l[i]).toNat:Int)):=by
   rw[dO,List.getElem?_eq_getElem hil];rfl
  refine hc.read hg rfl (by rw[aG];omega) ?_;simp only[HV];refine ae.use (pQ (l[i]).toNat_lt (iA _) H) ?_;rw[Cd];simp only[HV];refine hs.yU 0 rfl fH (by omega) rfl (by omega) (by omega) fun A2 m2 H hs=>?_
  simp only[HV];refine ae.use (pQ (iA _) (iA _) H) ?_;rw[nT];simp only[HV];rw[bu (x:=(i:Int)+1),show(i:Int)+1=((i+1:Nat):Int) by omega];refine zE K R10 z hR hl hn hK t (i+1) A2 m2 H (by omega) ?_;rw[FI,show ah (nE z l i++[uw (dq l i*pw z i)])=ah (nE z l i)++[U ((zw l[i]*pw z i).val:Int)] by
   unfold ah;rw[List.map_append,List.map_cons,rG,Gr hil];rfl]
  exact hs
theorem KF (hT:∀ H,TT H->T64 H)(hR:∀ H,R H->Cells H A (ah l)){b:Nat}(hn:n=2^b)(hb:b<=20)(hl:l.length=n)(hm:n<=m)(hk:k<=32)(hr:r<=4294967295)(d:Bool):
  Tr prog 361 #[.slice A n m,.agg #[I 1,I (n:Int),I (r:Int),I 0],I (k:Int),I (if d=true then 1 else 0)] [R,TT] fun v M=>
   ∃ A' m',v= .tuple #[.slice A' n m',I 0]/\M=[bH 108 1 A' n m' (ah (vA (pw (fk d k) r) l)),R,TT]:=fun H hs=>by
 have h20:=dw hb;have h1:=pow_pos b;apply cf.ok;unfold cf;refine hs.nw fun b1 H hs=>?_
 have hs:Sep [R,TT,af b1 (Oq #[I 1,I (n:Int),I (r:Int),I 0] 464)] H:=hs;refine ae.use (Du hk d H) ?_;simp only[HV];refine aH rfl ?_;simp only[Addr.add_zero];refine hs.mO 2 rfl (show 0+2<=4 by omega) ?_;have hT0:T64 H:=by
  obtain⟨H1,h1,hle⟩:=hs.fE 1 rfl;exact(hT H1 h1).le hle
 have hg:jU 1 (n:Int)=true:=by
  have:=rX (a:=0) (b:=b) (by omega);rw[hn];exact this
 refine ae.use (fT 1 (n:Int) H hT0) ?_;rw[hg];simp only[HV];refine hs.ld 2 rfl rfl ?_;simp only[HV];refine hs.cC 2 rfl rfl ?_;simp only[HV];refine aH (by rw[bu];omega) ?_;refine hs.mO 2 rfl (show 0+4<=4 by omega) ?_;refine ae.use (Fv (n:=n) (r:=r) ⟨by omega,by omega⟩ hr H) ?_;simp only[HV];refine hs.q8 fH rfl (n:=0) (m:=n) rfl rfl (by omega) (by omega) (by omega) fun bo H hs=>?_
 simp only[HV];refine hs.ld 2 rfl rfl ?_;simp only[HV];have hs:Sep [R,TT,af b1 (Oq #[I 1,I (n:Int),I (r:Int),I 0] 464),bH 108 1 (Oo bo) 0 n (ah (nE (pw (fk d k) r) l 0))] H:=
  hs.jE 3 rfl (B:=bH 108 1 (Oo bo) 0 n (ah (nE (pw (fk d k) r) l 0))) (fun H1 h=>⟨rfl,.inr ⟨bo,n*1,rfl,h,Nat.le_refl _⟩⟩)
 refine⟨2,?_⟩;unfold cf.l10;refine aC (by decide) ?_;refine hs.cC 2 rfl rfl ?_;simp only[HV];rw[show u64.wrap (i64.wrap ((r:Int)+0))=(r:Int) by rw[bu,i7];omega];refine ae.use (xq (iA _) (n:=r) (by omega) H) ?_;rw[nV,nZ];simp only[HV];refine hs.cC 2 rfl rfl ?_;simp only[HV];refine ae.use (xq (iA _) (n:=0) (by decide) H) ?_;rw[nV,nZ];simp only[HV];refine hs.cC 2 rfl rfl ?_;simp only[HV];refine hs.cC 2 rfl rfl ?_;simp only[HV];rw[show i64.wrap (0*(n:Int))=((0:Nat):Int) by rw[Int.zero_mul];rfl,show i64.wrap (i64.wrap (0+1)*(n:Int))=(n:Int) by
  rw[show i64.wrap (0+1)=1 by decide,bu];omega]
 refine⟨by omega,by omega,by omega,by omega,?_⟩;rw[Int.toNat_natCast,Int.toNat_natCast];simp only[Nat.sub_zero];refine⟨n+1,?_⟩;have hR':∀ H,R H->Cells H (jk A m 0 1) (ah l):=fun H h=>(hR H h).shift (by rw[aG];omega)
 refine zE (L:=[TT]) _ _ (pw (fk d k) r) hR' hl (by omega) (fun A' m' H hs=>?_) n 0 (Oo bo) n H (by omega) (hs.re [3,0,1] rfl);unfold cf.l10;refine aw (by decide) ?_;exact⟨_,⟨A',m',rfl,rfl⟩,hs⟩
end
theorem Br (x y p:Zp)(H:Hp):ae prog 373 #[U ((uw x).toNat:Int),U ((uw y).toNat:Int),U ((uw p).toNat:Int)] H (RetE (.tuple #[U ((uw (x+y*p)).toNat:Int),U ((uw (x-y*p)).toNat:Int)]) H):=by
 apply ku.ok;unfold ku;simp only[rG];refine ae.use (pQ (iA _) (iA _) H) ?_;rw[nT];simp only[HV];refine ae.use (xe (iA _) (iA _) H) ?_;simp only[HV];refine ae.use (Mg (iA _) (iA _) H) ?_;simp only[HV];have e1:(x.val+(y*p).val)%18446744069414584321=(x+y*p).val:=(Fin.val_add x (y*p)).symm;have e2:sub x.val (y*p).val=(x-y*p).val:=by
  have h1:=x.isLt;have h2:=(y*p).isLt;rw[Fin.sub_def];show(x.val+(18446744069414584321-(y*p).val%18446744069414584321)%18446744069414584321)%18446744069414584321=(18446744069414584321-(y*p).val+x.val)%18446744069414584321
  omega
 rw[e1,e2];exact RetE.mk _ _
theorem zj {xs:List Value}{ws:List UInt64}{off p:Nat}(h:off+ws.length<=xs.length)(hp:p<ws.length):(setAt xs off (ah ws))[off+p]? =some (U ((ws[p]).toNat:Int)):=by
 rw[fP (by rw[aG];exact h),if_neg (by omega),aG,if_pos (by omega),Nat.add_sub_cancel_left,dO,List.getElem?_eq_getElem hp];rfl
theorem sS {xs:List Value}{ws:List UInt64}{off:Nat}(h:off+ws.length<=xs.length:=by omega):(setAt xs off (ah ws)).length=xs.length:=iy (by rw[aG];exact h)
theorem zk {xs:List Value}{ws:List UInt64}{off p:Nat}(h:off+ws.length<=xs.length)(hp:p<ws.length)(w:UInt64):(setAt xs off (ah ws)).set (off+p) (U (w.toNat:Int))=setAt xs off (ah (ws.set p w)):=by
 apply List.ext_getElem?;intro j;rw[List.getElem?_set,sS h,fP (by rw[aG];exact h),fP (by rw[aG,List.length_set];exact h),aG,aG,List.length_set];by_cases e:off+p=j
 .subst e;rw[if_pos rfl,if_pos (by omega),if_neg (by omega),if_pos (by omega),Nat.add_sub_cancel_left,dO,List.getElem?_set,if_pos rfl,if_pos hp];rfl
 .rw[if_neg e];by_cases h1:j<off
  .rw[if_pos h1,if_pos h1]
  .rw[if_neg h1,if_neg h1];by_cases h2:j<off+ws.length
   .rw[if_pos h2,if_pos h2,dO,dO,List.getElem?_set,if_neg (by omega)]
   .rw[if_neg h2,if_neg h2]
section
variable {w : Zp} {k : Nat} {l : Nat -> Zp} {s b off mm n m n2 m2:Nat} {xs : List Value} {e : TypeId} {R : As} {A : Option Addr}
theorem CG (K:VK)(R2:OA->Nat->Nat->OA->Nat->Nat->Int->Int->Int->Hp->Prop)(hn:n=2^k)(hk:k<=20)(hsk:s<k)(hw:pw w (2^(k-1))=-1)(hx:off+n<=xs.length)(hR:∀ H,R H->Cells H A (ah (jD w (2^(k-1)))))(hn2:n2=2^(k-1))(bl:Nat)(hbl:bl*(2*2^s)+2*2^s<=n)
  (hK:∀ H,Sep [af b (.row (setAt xs off (ah (kQ w k l s (dn (2^s) (bl+1) 0)))) e mm),R] H->R2 (some ⟨b,off,none⟩) n m A n2 m2 ((2^s:Nat):Int) ((2^(k-s-1):Nat):Int) (i64.wrap (((bl*(2*2^s):Nat):Int)+i64.wrap ((2:Int)*((2^s:Nat):Int)))) H):
  ∀(t i:Nat) (H:Hp),i+t=2^s->Sep [af b (.row (setAt xs off (ah (kQ w k l s (dn (2^s) bl i)))) e mm),R] H->
   aZ.l5 K R2 (t+1) (some ⟨b,off,none⟩) n m A n2 m2 ((2^s:Nat):Int) ((2^(k-s-1):Nat):Int) ((bl*(2*2^s):Nat):Int) ((2^s:Nat):Int) (i:Int) H
 |0,i,H,hi,hs=>by
  unfold aZ.l5 aZ.l5.q1;refine aw (by omega) (hK H ?_);rw[<- Js,<-show i=2^s by omega];rw[show dn i bl i=dn (2^s) bl i by rw[show i=2^s by omega]];exact hs
 |t+1,i,H,hi,hs=>by
  have h20:=dw hk;have hst:i*2^(k-s-1)<2^(k-1):=by
   have h1:2^(k-1)=2^s*2^(k-s-1):=by rw[<- Nat.pow_add];congr 1;omega
   rw[h1];exact Nat.mul_lt_mul_of_pos_right (by omega) (pow_pos _)
  have h19:=dw (show k-1<=19 by omega);have e3:i64.wrap ((i:Int)*((2^(k-s-1):Nat):Int))=((i*2^(k-s-1):Nat):Int):=by
   rw[<- Int.natCast_mul,ed]
  have ih:=fun H=>CG K R2 hn hk hsk hw hx hR hn2 bl hbl hK t (i+1) H (by omega)
  obtain⟨g1,g2⟩:=Jw w k l hsk hw bl i (by omega);have hset:=Jt (w:=w) (k:=k) (l:=l) (s:=s) (b:=bl) (i:=i) (2^s) (by omega) (by omega);rw[g1,g2]at hset;have hlen:=vz w k l s (dn (2^s) bl i);obtain⟨d1,d2⟩:=KP (2^s) bl i (by omega);have ga0:=qL w k l s (dn (2^s) bl i) (p:=bl*(2*2^s)+i);have gb0:=qL w k l s (dn (2^s) bl i) (p:=bl*(2*2^s)+i+2^s);rw[d1,if_neg (by decide)]at ga0;rw[d2,if_neg (by decide)]at gb0;generalize oV w k l s (bl*(2*2^s)+i)=va at*;generalize oV w k l s (bl*(2*2^s)+i+2^s)=vb at*;generalize kQ w k l s (dn (2^s) bl i)=ws at*;generalize hf:bl*(2*2^s)=f at*;generalize hh:2^s=h at*;have hpg:=Je w hst;generalize i*2^(k-s-1)=q at*;have e1:i64.wrap ((f:Int)+(i:Int))=((f+i:Nat):Int):=by rw[<- Int.natCast_add,ed]
  have e2:i64.wrap (((f+i:Nat):Int)+(h:Int))=((f+i+h:Nat):Int):=by rw[<- Int.natCast_add,ed]
  have hc:Cells H A (ah (jD w (2^(k-1)))):=by
   obtain⟨H1,h1,hle⟩:=hs.fE 1 rfl;exact(hR H1 h1).le hle
  have hpv:(ah (jD w (2^(k-1))))[q]? =some (U ((uw (pw w q)).toNat:Int)):=by rw[dO,hpg];rfl
  obtain⟨a3,rfl,hcell⟩:=hc q _ hpv;unfold aZ.l5 aZ.l5.q1;refine aC (by omega) ?_;simp only[e1,e2,e3,dQ,Int.toNat_natCast,Nat.mul_one,Addr.bm,Addr.add_zero];refine⟨by omega,by omega,by omega,by omega,by omega,by omega,?_⟩;have hla:f+i<ws.length:=by omega
  have hlb:f+i+h<ws.length:=by omega
  have ga:(setAt xs off (ah ws))[off+(f+i)]? =some (U ((uw va).toNat:Int)):=by
   rw[zj (by omega) hla];rw[List.getElem?_eq_getElem hla]at ga0;rw[Option.some.inj ga0]
  have gb:(setAt xs off (ah ws))[off+(f+i+h)]? =some (U ((uw vb).toNat:Int)):=by
   rw[zj (by omega) hlb];rw[List.getElem?_eq_getElem hlb]at gb0;rw[Option.some.inj gb0]
  repeat' first
   |refine⟨?_,?_⟩
   |(refine hs.uv 0 rfl ga ?_;simp only[HV])
   |(refine hs.uv 0 rfl gb ?_;simp only[HV])
   |(refine pj hcell ?_;simp only[HV])
  all_goals
   refine ae.use (Br va vb (pw w q) H) ?_;simp only[HV];refine⟨by omega,by omega,?_⟩;refine hs.str 0 (j:=off+(f+i)) rfl (by rw[sS];omega) rfl fun H hs=>?_;rw[zk (by omega) hla]at hs;refine⟨by omega,by omega,?_⟩;refine hs.str 0 (j:=off+(f+i+h)) rfl (by rw[sS (by rw[List.length_set];omega)];omega) rfl fun H hs=>?_;rw[zk (by rw[List.length_set];omega) (by rw[List.length_set];exact hlb),hset]at hs;rw[bu (x:=(i:Int)+1),show(i:Int)+1=((i+1:Nat):Int) by omega];exact ih H hs
theorem Jv (hn:n=2^k)(hk:k<=20)(hsk:s<k)(hw:pw w (2^(k-1))=-1)(hx:off+n<=xs.length)(hR:∀ H,R H->Cells H A (ah (jD w (2^(k-1)))))(hn2:n2=2^(k-1))(h':Nat):
  Tr prog 367 #[.slice (some ⟨b,off,none⟩) n m,.slice A n2 m2,I ((2^s:Nat):Int)] [af b (.row (setAt xs off (ah (kQ w k l s (dn (2^s) 0 0)))) e mm),R] fun v M=>
   v= .tuple #[]/\M=[af b (.row (setAt xs off (ah (kQ w k l (s+1) (dn h' 0 0)))) e mm),R]:=fun H hs=>by
 have h20:=dw hk;have hp:=pow_pos s;have hsk2:=dw (show s+1<=k by omega);rw[Nat.pow_succ]at hsk2;have hdv:2^k=2^(k-s-1)*(2*2^s):=by
  rw[show 2*2^s=2^(s+1) by rw[Nat.pow_succ];omega,<-Nat.pow_add];congr 1;omega
 apply aZ.ok;unfold aZ;have e0:i64.wrap ((2:Int)*((2^s:Nat):Int))=((2*2^s:Nat):Int):=by rw[bu];omega
 have e1:i64.wrap (Int.tdiv (n:Int) ((2*2^s:Nat):Int))=((2^(k-s-1):Nat):Int):=by
  rw[show Int.tdiv (n:Int) ((2*2^s:Nat):Int)=((n/(2*2^s):Nat):Int)from rfl,hn,hdv,Nat.mul_div_cancel _ (by omega),ed (by have:=dw (show k-s-1<=19 by omega);omega)]
 rw[e0,e1];refine⟨by omega,by simp,⟨2^(k-s-1)+1,?_⟩⟩;have key:∀(t bl:Nat) (H:Hp),bl+t=2^(k-s-1)->Sep [af b (.row (setAt xs off (ah (kQ w k l s (dn (2^s) bl 0)))) e mm),R] H->
   aZ.l2 (fun v H'=>∃ M,(v= .tuple #[]/\M=[af b (.row (setAt xs off (ah (kQ w k l (s+1) (dn h' 0 0)))) e mm),R])/\Sep M H') (t+1) (some ⟨b,off,none⟩) n m A n2 m2 ((2^s:Nat):Int) ((2^(k-s-1):Nat):Int) ((bl*(2*2^s):Nat):Int) H:=fun t=>by
  induction t with
  |zero=>
   intro bl H hb hs;unfold aZ.l2;refine aw (by rw[hn,hdv,show bl=2^(k-s-1) by omega];omega) ⟨_,⟨rfl,rfl⟩,?_⟩;rw[<- LD (2^s) h' (b:=bl) (by rw[hdv,show bl=2^(k-s-1) by omega];exact Nat.le_refl _)];exact hs
  |succ t ih=>
   intro bl H hb hs;have hfit:bl*(2*2^s)+2*2^s<=n:=by
    rw[hn,hdv,<-Nat.succ_mul];exact Nat.mul_le_mul_right _ (by omega)
   unfold aZ.l2;refine aC (by omega) ⟨2^s+1,?_⟩;refine CG _ _ hn hk hsk hw hx hR hn2 bl hfit (fun H hs=>?_) (2^s) 0 H (by omega) hs;rw[e0,<-Int.natCast_add,ed,<-show(bl+1)*(2*2^s)=bl*(2*2^s)+2*2^s by rw[Nat.add_mul bl 1,Nat.one_mul]];exact ih (bl+1) H (by omega) hs
 have:=key (2^(k-s-1)) 0 H (by omega) hs;rw[Nat.zero_mul]at this;exact this
end
theorem Sep.ex {α:Type}{L:List As}{H:Hp}(h:Sep L H)(i:Nat){F:α->As}(hi:L[i]? =some fun H=>∃ x,F x H):∃ x,Sep (L.set i (F x)) H:=by
 induction L generalizing i H with
 |nil=>simp at hi
 |cons C L ih=>
  obtain⟨H1,H2,h1,h2,h3,h4,h5⟩:=h;cases i with
  |zero=>
   simp only[List.getElem?_cons_zero,Option.some.injEq]at hi;subst hi;obtain⟨x,hx⟩:=h4;exact⟨x,H1,H2,h1,h2,h3,hx,h5⟩
  |succ i=>
   obtain⟨x,hx⟩:=ih h5 i hi;exact⟨x,H1,H2,h1,h2,h3,h4,hx⟩
def NL (A0 A1:OA)(h:Nat)(sh:Int)(k:Nat):Array Value:=#[.slice A0 h h,.slice A1 h h,U sh,I (k:Int)]
def rJ (kp k:Nat)(x:OA×OA×Int):As:=fun H=>H kp=some (Oq (NL x.1 x.2.1 (2^(k-1)) x.2.2 k) 445)/\Cells H x.1 (ah (jD (fk false k) (2^(k-1))))/\Cells H x.2.1 (ah (jD (fk true k) (2^(k-1))))
def Kn (kp k:Nat):As:=fun H=>∃ x,rJ kp k x H
theorem rJ.up {kp k:Nat}{x:OA×OA×Int}{H H':Hp}(h:rJ kp k x H)(l:H.le H'):rJ kp k x H':=by
 obtain⟨h1,h2,h3⟩:=h;exact⟨l _ _ h1,h2.le l,h3.le l⟩
theorem Sep.NM {L:List As}{H:Hp}(h:Sep L H)(i:Nat){kp k:Nat}{x:OA×OA×Int}(hi:L[i]? =some (rJ kp k x)):rJ kp k x H:=by
 obtain⟨H1,h1,h2⟩:=h.fE i hi;exact h1.up h2
def pick (x:OA×OA×Int)(d:Bool):OA:=if d=true then x.2.1 else x.1
theorem rJ.cells {kp k:Nat}{x:OA×OA×Int}{H:Hp}(h:rJ kp k x H)(d:Bool):Cells H (pick x d) (ah (jD (fk d k) (2^(k-1)))):=by
 cases d
 .exact h.2.1
 .exact h.2.2
theorem jH (k:Nat)(hk:k<=20):Tr prog 305 #[I (k:Int)] [] fun v M=>∃ kp,v= V kp/\M=[Kn kp k]:=fun H hs=>by
 apply dT.ok;unfold dT;refine aw (by omega) (aw (by omega) ?_);refine hs.nw fun kp H hs=>?_
 have hs:Sep [af kp (Oq #[.slice none 0 0,.slice none 0 0,U 0,I (k:Int)] 445)] H:=hs;refine⟨3,?_⟩;unfold dT.l5;refine aC (by decide) ?_;refine(BI k hk false).use hs [] rfl rfl ?_;rintro _ _ H ⟨r0,rfl,rfl⟩ hs;simp only[HV];refine⟨by decide,by decide,?_⟩;simp only[Addr.bm];refine hs.st 1 rfl (Nat.lt_of_sub_eq_succ rfl) rfl fun H hs=>?_;rw[show i64.wrap (0+1)=1 by decide];unfold dT.l5;refine aC (by decide) ?_;refine(BI k hk true).use hs [] rfl rfl ?_;rintro _ _ H ⟨r1,rfl,rfl⟩ hs;simp only[HV];refine⟨by decide,by decide,?_⟩;simp only[Addr.bm];refine hs.st 2 rfl (Nat.lt_of_sub_eq_succ rfl) rfl fun H hs=>?_;rw[show i64.wrap (1+1)=2 by decide];unfold dT.l5;refine aw (by decide) ?_;refine ae.use (BF (k:=k) (by omega) H) ?_;simp only[HV];simp only[Addr.bm];refine hs.st 2 rfl (Nat.lt_of_sub_eq_succ rfl) rfl fun H hs=>?_;have hs:Sep [af r1 (.row (ah (jD (fk true k) (2^(k-1)))) 108 (2^(k-1)*1)),af r0 (.row (ah (jD (fk false k) (2^(k-1)))) 108 (2^(k-1)*1)),
  af kp (Oq (NL (Oo r0) (Oo r1) (2^(k-1)) ((pw half k).val:Int) k) 445)] H:=hs
 have hcell:∀{r:Nat} {d:Bool},H r=some (.row (ah (jD (fk d k) (2^(k-1)))) 108 (2^(k-1)*1))->Cells H (Oo r) (ah (jD (fk d k) (2^(k-1)))):=fun{r d} h=>by
  have:=Cells.row h 0 (2^(k-1));rw[List.drop_zero,List.take_of_length_le (by rw[aG,tD];exact Nat.le_refl _)]at this;exact this
 exact⟨[Kn kp k],⟨kp,rfl,rfl⟩,H,fun _=>none,Hp.le_refl _,fun _ _ h=>(nomatch h),fun _=>.inr rfl,⟨(some (O r0),some (O r1),((pw half k).val:Int)),hs.get 2 rfl,hcell (hs.get 1 rfl),hcell (hs.get 0 rfl)⟩,trivial⟩
theorem JD {kp k:Nat}{x:OA×OA×Int}{H:Hp}(h:rJ kp k x H)(d:Bool):ae prog 365 #[V kp,I (if d=true then 1 else 0)] H (RetE (.tuple #[.slice (pick x d) (2^(k-1)) (2^(k-1)),.bool true]) H):=by
 obtain⟨h1,h2,h3⟩:=h;cases d
 .apply fV.ok;unfold fV;refine aw (by decide) (aw (by decide) ?_);simp only[dQ];refine⟨by decide,by decide,?_⟩;simp only[Addr.bm];refine pj (v:=.slice x.1 (2^(k-1)) (2^(k-1))) ?_ ?_
  .show H.cell? (O kp)=_
   rw[nH h1];rfl
  .simp only[HV];exact RetE.mk _ _
 .apply fV.ok;unfold fV;refine aw (by decide) (aw (by decide) ?_);simp only[dQ];refine⟨by decide,by decide,?_⟩;simp only[Addr.bm];refine pj (v:=.slice x.2.1 (2^(k-1)) (2^(k-1))) ?_ ?_
  .show H.cell? ⟨kp,1,none⟩=_
   rw[nH h1];rfl
  .simp only[HV];exact RetE.mk _ _
theorem uP {H:Hp}{b off mm:Nat}{xs:List Value}{ws:List UInt64}{e:TypeId}(h:H b=some (.row (setAt xs off (ah ws)) e mm):=by omega)(hx:off+ws.length<=xs.length:=by omega):Cells H (some ⟨b,off,none⟩) (ah ws):=by
 have h1:=Cells.row h off ws.length;have e1:((setAt xs off (ah ws)).drop off).take ws.length=ah ws:=by
  apply List.ext_getElem?;intro j;rw[List.getElem?_take];by_cases hj:j<ws.length
  .rw[if_pos hj,List.getElem?_drop,zj hx hj,dO,List.getElem?_eq_getElem hj];rfl
  .rw[if_neg hj,List.getElem?_eq_none (by rw[aG];omega)]
 rw[e1]at h1;exact h1
section
variable {TT : As} {kp k b off mm n m : Nat} {l : List UInt64} {xs : List Value} {e : TypeId} {d : Bool}
theorem DX (K:VK)(hn:n=l.length)(hn20:n<=1048576)(hx:off+n<=xs.length){A5:OA}{n5 m5 r mr:Nat}{tl:List UInt64}(htl:tl.length=n){L:List As}
  (hK:∀ H,Sep (af b (.row (setAt xs off (ah (tl.map fun x=>uw (zw x)))) e mm)::L) H->∃ f,aS.l13 K f (some ⟨b,off,none⟩) n m A5 n5 m5 1 H):
  ∀(t i:Nat) (H:Hp),i+t=n->Sep (af b (.row (setAt xs off (ah ((tl.take i).map (fun x=>uw (zw x))++l.drop i))) e mm)::af r (.row (ah tl) 108 mr)::L) H->
   aS.l8 K (t+1) (some ⟨b,off,none⟩) n m A5 n5 m5 (Oo r) n n (n:Int) (i:Int) H
 |0,i,H,hi,hs=>by
  unfold aS.l8;refine aw (by omega) (hK H ?_);rw[List.take_of_length_le (by omega),List.drop_eq_nil_of_le (by omega),List.append_nil]at hs;obtain⟨H1,H2,h1,h2,h3,h4,h5⟩:=hs;exact⟨H1,H2,h1,h2,h3,h4,h5.tail⟩
 |t+1,i,H,hi,hs=>by
  unfold aS.l8;refine aC (by omega) ?_;have hil:i<tl.length:=by omega
  refine⟨by omega,by omega,?_⟩;show Ld H _ _
  rw[Int.toNat_natCast,Nat.mul_one,Addr.bm,Nat.zero_add];refine hs.uv 1 (v:=U ((tl[i]).toNat:Int)) rfl (by rw[dO,List.getElem?_eq_getElem hil];rfl) ?_;simp only[HV];refine ae.use (lF (tl[i]).toNat_lt H) ?_;simp only[HV];have hlen:((tl.take i).map (fun x=>uw (zw x))++l.drop i).length=n:=by rw[List.length_append,List.length_map,List.length_take,List.length_drop];omega
  refine⟨by omega,by omega,?_⟩;rw[Addr.bm,Addr.add_zero];refine hs.str 0 rfl (by rw[sS];omega) rfl fun H hs=>?_;have e1:(setAt xs off (ah ((tl.take i).map (fun x=>uw (zw x))++l.drop i))).set (off+i) (U (((tl[i]).toNat%18446744069414584321:Nat):Int))=setAt xs off (ah ((tl.take (i+1)).map (fun x=>uw (zw x))++l.drop (i+1))):=by
   have:(((tl[i]).toNat%18446744069414584321:Nat):Int)=((uw (zw tl[i])).toNat:Int):=by rw[rG];rfl
   rw[this,zk (by omega) (by omega)];congr 2;have hlt:((tl.take i).map (fun x=>uw (zw x))).length=i:=by rw[List.length_map,List.length_take];omega
   rw[List.set_append_right _ _ (by omega),hlt,Nat.sub_self,List.take_add_one,List.getElem?_eq_getElem hil];simp only[Option.toList,List.map_append,List.append_assoc];congr 1;rw[List.drop_eq_getElem_cons (show i<l.length by omega)];rfl
  rw[e1]at hs;rw[bu (x:=(i:Int)+1),show(i:Int)+1=((i+1:Nat):Int) by omega];exact DX K hn hn20 hx htl hK t (i+1) H (by omega) hs
theorem IC (hT:∀ H,TT H->T64 H)(hk:k<=20)(hn:n=2^k)(hl:l.length=n)(hx:off+n<=xs.length)(hseg:setAt xs off (ah l)=xs)(d:Bool):
  Tr prog 360 #[V kp,.slice (some ⟨b,off,none⟩) n m,I (if d=true then 1 else 0)] [af b (.row xs e mm),Kn kp k,TT] fun v M=>
   v= I 0/\M=[af b (.row (setAt xs off (ah (iu d k l))) e mm),Kn kp k,TT]:=fun H hs=>by
 have h20:=dw hk;have h1:=pow_pos k;apply aS.ok;unfold aS;simp only[dQ];obtain⟨x,hs⟩:=Sep.ex hs 1 rfl;have hs:Sep [af b (.row xs e mm),rJ kp k x,TT] H:=hs;have hkn:=(Sep.NM hs 1 rfl).1;refine pj (v:=I (k:Int)) ?_ ?_
 .show H.cell? ((O kp).add 3)=_
  rw[Addr.bm,nH hkn];rfl
 simp only[HV];rw[fW];refine⟨by omega,?_⟩;have e1:dA .i64 1 (k:Int)=(n:Int):=by
  have:∀ k:Nat,k<21->dA .i64 1 (k:Int)=((2^k:Nat):Int):=by decide +kernel
  rw[this k (by omega),hn]
 rw[e1];refine aH rfl ?_;simp only[Addr.add_zero];refine ae.use (JD (Sep.NM hs 1 rfl) d) ?_;simp only[HV];have hc:∀ H,af b (.row xs e mm) H->Cells H (some ⟨b,off,none⟩) (ah l):=fun H h=>by
  have h:H b=some (.row xs e mm):=h;rw[<- hseg]at h;exact uP h
 refine(KH (n:=n) (m:=m) (k:=k) (l:=l) hT hc hn hl hk).use hs [0,2] rfl rfl ?_;rintro _ _ H ⟨r,rfl,rfl⟩ hs;simp only[HV];have hs:Sep [af r (.row (ah (lh k l)) 108 (n*1)),af b (.row xs e mm),TT,rJ kp k x] H:=hs;refine⟨n+1,?_⟩;have htl:(lh k l).length=n:=by rw[hn];simp[lh]
 refine DX (L:=[TT,rJ kp k x]) (mr:=n*1) (e:=e) (mm:=mm) _ hl.symm (by omega) hx htl (fun H hs=>?_) n 0 H (by omega) ?_
 .rw[Ju (fk d k) k l 1]at hs;refine⟨k+1,?_⟩;have key:∀(t s:Nat) (H:Hp),s+t=k->Sep [af b (.row (setAt xs off (ah (kQ (fk d k) k (dq l) s (dn (2^s) 0 0)))) e mm),TT,rJ kp k x] H->
    aS.l13 (fun v H'=>∃ M,(v= I 0/\M=[af b (.row (setAt xs off (ah (iu d k l))) e mm),Kn kp k,TT])/\Sep M H') (t+1) (some ⟨b,off,none⟩) n m (pick x d) (2^(k-1)) (2^(k-1)) ((2^s:Nat):Int) H:=fun t=>by
   induction t with
   |zero=>
    intro s H hst hs;obtain rfl:s=k:=by omega
    unfold aS.l13;refine aw (by omega) ⟨_,⟨rfl,rfl⟩,?_⟩;rw[LC]at hs;have hs:=hs.re [0,2,1] rfl;exact hs.jE 1 rfl (B:=Kn kp s) fun H1 h=>⟨x,h⟩
   |succ t ih=>
    intro s H hst hs;have hsk:2^s<2^k:=Nat.pow_lt_pow_right (by omega) (by omega);have hsp:=pow_pos s;unfold aS.l13;refine aC (by omega) ?_;have hw:pw (fk d k) (2^(k-1))=-1:=Lu d (by omega) (by omega);refine(Jv (m:=m) (m2:=2^(k-1)) (A:=pick x d) (R:=rJ kp k x) (l:=dq l) (s:=s) (mm:=mm) hn hk (by omega) hw hx (fun H h=>h.cells d) rfl (2^(s+1))).use hs [0,2] rfl rfl ?_;rintro _ _ H ⟨rfl,rfl⟩ hs;rw[bu,show((2^s:Nat):Int)*2=((2^(s+1):Nat):Int) by rw[Nat.pow_succ];omega];exact ih (s+1) H (by omega) (hs.re [0,2,1] rfl)
  exact key k 0 H (by omega) hs
 .rw[List.take_zero,List.map_nil,List.nil_append,List.drop_zero,hseg];exact hs.re [1,0,2,3] rfl
end
end Ker
namespace W
open Go Go.Hw
theorem lX :prog.follows .mixedOrders=true:=by kernel_rfl
def ez.l14 (K:VK):Nat->Addr->Int->Addr->Int->OA->OA->Nat->Nat->Hp->Prop
 |0,_,_,_,_,_,_,_,_,_=>False
 |k+1,a2,x14,a3,x15,p5,A1,n1,m1,H=>
  let R14:=ez.l14 K k
  aM H (a2.add 1) fun x16=>ao (decide (x15<x16)) (cF 301 #[.pointer (some a3),I x15,I x14] H fun x17 H5=>ao (x17 !=0) (dJ prog 257 #[.pointer p5,.slice A1 n1 m1] H5 fun _ H8=>K (.tuple #[Ot 0,I x17]) H8) (cF 302 #[.pointer (some a3),I x15] H5 fun x18 H6=>ao (x18 !=0) (dJ prog 257 #[.pointer p5,.slice A1 n1 m1] H6 fun _ H9=>K (.tuple #[Ot 0,I x18]) H9) (R14 a2 x14 a3 (i64.wrap (x15+x14)) p5 A1 n1 m1 H6))) (zx 238 #[.pointer (some (a3.add 0))] H fun x19 H7=>dJ prog 257 #[.pointer p5,.slice A1 n1 m1] H7 fun _ H10=>K (.tuple #[Ot x19,I 0]) H10)
def ez (p1 p2:OA)(x1 x2:Int)(p3:OA)(x3:Int)(H:Hp)(K:VK):Prop:=
 Nw H (Oq #[I x1,I x2] 217) fun b1 H1=>ao p1.isNone (K (.tuple #[Ot 0,I 1]) H1) (ao p2.isNone (K (.tuple #[Ot 0,I 1]) H1) (ao p3.isNone (K (.tuple #[Ot 0,I 1]) H1) (aJ H1 (O b1) 2 fun l1=>JY 297 #[.agg l1.toArray] H1 fun c1=>ao (!c1) (K (.tuple #[Ot 0,I 19]) H1) (fc 186 #[.pointer p1] H1 fun x4=>aJ H1 (O b1) 2 fun l2=>fc 298 #[.agg l2.toArray] H1 fun x5=>ao (x4 !=x5) (K (.tuple #[Ot 0,I 19]) H1) (fc 186 #[.pointer p2] H1 fun x6=>aJ H1 (O b1) 2 fun l3=>fc 298 #[.agg l3.toArray] H1 fun x7=>ao (x6 !=x7) (K (.tuple #[Ot 0,I 19]) H1) (aJ H1 (O b1) 2 fun l4=>NN p3 fun a1=>fc 300 #[.pointer (some (a1.add 0))] H1 fun x8=>Qz 299 #[.agg l4.toArray,I x3,I x8] H1 fun v7=>sf v7 fun x9 c2=>(ao (!c2) (K (.tuple #[Ot 0,I 6]) H1) (aM H1 ((O b1).add 0) fun x10=>Hz 255 #[.pointer p3,I (i64.wrap (x9*x10))] H1 fun v11 H2=>kA v11 fun p4 x11=>(ao (x11 !=0) (K (.tuple #[Ot 0,I x11]) H2) (Nw H2 (.row [.pointer p4] 331 1) fun b2 H3=>aJ H3 (O b1) 2 fun l11=>tc l11.toArray.toList fun x12 x13=>(Nw H3 (Oq #[Ot 0,I 0,.pointer p1,.pointer p2,I x12,I x13,.pointer p4] 409) fun b3 H4=>(∃ k,ez.l14 K k (O b1) x9 (O b3) 0 p3 (Oo b2) 1 1 H4))))))))))))
def ez.l14.L (K:VK)(k:Nat):dm:=fun E D H=>
 eN E 7 fun a2=>eI E 12 .i64 fun x14=>eN E 15 fun a3=>eI E 16 .i64 fun x15=>hZ 257 D fun dc0 da0 D1=>bK dc0 (ay da0 fun u0da0 r0da0=>DP u0da0 fun p5=>ay r0da0 fun u1da0 r1da0=>aF u1da0 fun A1 n1 m1=>bK r1da0 (az D1 (ez.l14 K k a2 x14 a3 x15 p5 A1 n1 m1 H)))
def ez.Λ14 (_:VK)(_R14:Addr->Int->Addr->Int->OA->OA->Nat->Nat->Hp->Prop):aN:=aN.none (fun _=>none)
def ez.Λ (K:VK):aN:=⟨fun i=>none,fun i=>match Nat.beq i 14 with|true=>some (fun E D H=>∃ k,ez.l14.L K k E D H)|false=>none,(fun _=>none)⟩
theorem ez.ok p1 p2 x1 x2 p3 x3 H K (h:ez p1 p2 x1 x2 p3 x3 H K):ae prog 239 #[.pointer p1,.pointer p2,.agg #[I x1,I x2],.pointer p3,I x3] H K:=
 dX (Λ:=(ez.Λ K)) lX Tryz.func239 rfl rfl h (oC (fun E D H h=>by
   refine Safe.c0 (ez.l14.L K) (fun E D H h=>?_) (fun k E D H h=>?_) E D H h
   .obtain⟨w7,e7,g1⟩:=DG.out h;obtain⟨pw7,rfl,g2⟩:=DP.out g1;obtain⟨a2,rfl,g3⟩:=NN.out g2;obtain⟨w12,e12,g4⟩:=DG.out g3;obtain⟨x14,rfl,g5⟩:=DI.out g4;obtain⟨w15,e15,g6⟩:=DG.out g5;obtain⟨pw15,rfl,g7⟩:=DP.out g6;obtain⟨a3,rfl,g8⟩:=NN.out g7;obtain⟨w16,e16,g9⟩:=DG.out g8;obtain⟨x15,rfl,g10⟩:=DI.out g9;obtain⟨dc0,da0,D1,rfl,g11⟩:=hZ.out g10;obtain⟨rfl,g12⟩:=bK.out g11;obtain⟨u0da0,r0da0,rfl,g13⟩:=ay.out g12;obtain⟨p5,rfl,g14⟩:=DP.out g13;obtain⟨u1da0,r1da0,rfl,g15⟩:=ay.out g14;obtain⟨A1,n1,m1,rfl,g16⟩:=aF.out g15;obtain⟨rfl,g17⟩:=bK.out g16;obtain⟨rfl,h'⟩:=az.out g17;exact h'
   .obtain⟨a2,e7,g3⟩:=GN h;obtain⟨x14,e12,g5⟩:=GI g3;obtain⟨a3,e15,g8⟩:=GN g5;obtain⟨x15,e16,g10⟩:=GI g8;obtain⟨dc0,da0,D1,rfl,g11⟩:=hZ.out g10;obtain⟨rfl,g12⟩:=bK.out g11;obtain⟨u0da0,r0da0,rfl,g13⟩:=ay.out g12;obtain⟨p5,rfl,g14⟩:=DP.out g13;obtain⟨u1da0,r1da0,rfl,g15⟩:=ay.out g14;obtain⟨A1,n1,m1,rfl,g16⟩:=aF.out g15;obtain⟨rfl,g17⟩:=bK.out g16;obtain⟨rfl,h'⟩:=az.out g17;exact cY (Λ:=(ez.Λ14 K (ez.l14 K k))) lX [{ target:=.fn (.func 257) #[],args:=#[.pointer p5,.slice A1 n1 m1]}] (ag.cons e7 (ag.cons e12 (ag.cons e15 (ag.cons e16 (ag.nil _))))) h' oN) oN)
def dL.l4 (K:VK):Nat->Int->Int->Addr->Int->Hp->Prop
 |0,_,_,_,_,_=>False
 |k+1,x6,x7,a1,x8,H=>
  let R4:=dL.l4 K k
  aM H (a1.add 1) fun x9=>ao (decide ((i64.wrap (2*x8))<=x9)) (aM H (a1.add 0) fun x10=>(x10≠0/\i64=i64/\ao (decide ((i64.wrap (2*x8))<=(i64.wrap (Int.tdiv (i64.wrap (x7-x6)) x10)))) (R4 x6 x7 a1 (i64.wrap (x8*2)) H) (K (.tuple #[I x8,.bool true]) H))) (K (.tuple #[I x8,.bool true]) H)
def dL (x1 x2 x3 x4:Int)(H:Hp)(K:VK):Prop:=
 Nw H (Oq #[I x1,I x2] 217) fun b1 H1=>aJ H1 (O b1) 2 fun l1=>fS 297 #[.agg l1.toArray] H1 fun c1 H2=>ao (!c1) (K (.tuple #[I 0,.bool false]) H2) (ao (decide (x3<4)) (K (.tuple #[I 0,.bool false]) H2) (ao (decide (x3>512)) (K (.tuple #[I 0,.bool false]) H2) (ao ((cU .i64 x3 (i64.wrap (x3-1))) !=0) (K (.tuple #[I 0,.bool false]) H2) (ao (decide (x4<x3)) (K (.tuple #[I 0,.bool false]) H2) (aM H2 ((O b1).add 0) fun x5=>ao (decide ((i64.wrap (x4-x3))<x5)) (K (.tuple #[I 0,.bool false]) H2) ((∃ k,dL.l4 K k x3 x4 (O b1) 1 H2)))))))
def dL.l4.L (K:VK)(k:Nat):dm:=fun E D H=>
 eI E 1 .i64 fun x6=>eI E 2 .i64 fun x7=>eN E 3 fun a1=>eI E 6 .i64 fun x8=>az D (dL.l4 K k x6 x7 a1 x8 H)
def dL.Λ4 (_:VK)(_R4:Int->Int->Addr->Int->Hp->Prop):aN:=aN.none (fun _=>none)
def dL.Λ (K:VK):aN:=⟨fun i=>none,fun i=>match Nat.beq i 4 with|true=>some (fun E D H=>∃ k,dL.l4.L K k E D H)|false=>none,(fun _=>none)⟩
theorem dL.ok x1 x2 x3 x4 H K (h:dL x1 x2 x3 x4 H K):ae prog 299 #[.agg #[I x1,I x2],I x3,I x4] H K:=
 dX (Λ:=(dL.Λ K)) lX Tryz.func299 rfl rfl h (oC (fun E D H h=>by
   refine Safe.c0 (dL.l4.L K) (fun E D H h=>?_) (fun k E D H h=>?_) E D H h
   .obtain⟨w1,e1,g1⟩:=DG.out h;obtain⟨x6,rfl,g2⟩:=DI.out g1;obtain⟨w2,e2,g3⟩:=DG.out g2;obtain⟨x7,rfl,g4⟩:=DI.out g3;obtain⟨w3,e3,g5⟩:=DG.out g4;obtain⟨pw3,rfl,g6⟩:=DP.out g5;obtain⟨a1,rfl,g7⟩:=NN.out g6;obtain⟨w6,e6,g8⟩:=DG.out g7;obtain⟨x8,rfl,g9⟩:=DI.out g8;obtain⟨rfl,h'⟩:=az.out g9;exact h'
   .obtain⟨x6,e1,g2⟩:=GI h;obtain⟨x7,e2,g4⟩:=GI g2;obtain⟨a1,e3,g7⟩:=GN g4;obtain⟨x8,e6,g9⟩:=GI g7;obtain⟨rfl,h'⟩:=az.out g9;exact cY (Λ:=(dL.Λ4 K (dL.l4 K k))) lX [] (ag.cons e1 (ag.cons e2 (ag.cons e3 (ag.cons e6 (ag.nil _))))) h' oN) oN)
def aY.l10 (K:VK)(R4:OA->Int->OA->Nat->Nat->OA->Nat->Nat->Int->Int->Hp->Prop):Nat->OA->Int->OA->Nat->Nat->OA->Nat->Nat->Int->Int->Int->OA->Nat->Nat->Int->Int->Hp->Prop
 |0,_,_,_,_,_,_,_,_,_,_,_,_,_,_,_,_,_=>False
 |k+1,p5,x9,A5,n5,m5,A6,n6,m6,x10,x11,x12,A7,n7,m7,x13,x14,H=>
  let R10:=aY.l10 K R4 k
  ao (decide (x14<x13)) (cX x14 n7 (NN A7 fun a5=>eo H (a5.add (x14.toNat*1)) fun x15=>NN p5 fun a6=>aM H ((a6.add 4).add 0) fun x16=>cX (i64.wrap ((i64.wrap (x14*x16))+x10)) n5 (NN A5 fun a7=>St H ((a7.add ((i64.wrap ((i64.wrap (x14*x16))+x10)).toNat*1)).add 0) (U x15) fun H4=>R10 p5 x9 A5 n5 m5 A6 n6 m6 x10 x11 x12 A7 n7 m7 x13 (i64.wrap (x14+1)) H4))) (R4 p5 x9 A5 n5 m5 A6 n6 m6 x11 (i64.wrap (x12+1)) H)
def aY.l4 (K:VK):Nat->OA->Int->OA->Nat->Nat->OA->Nat->Nat->Int->Int->Hp->Prop
 |0,_,_,_,_,_,_,_,_,_,_,_=>False
 |k+1,p3,x4,A3,n3,m3,A4,n4,m4,x5,x6,H=>
  let R4:=aY.l4 K k
  ao (decide (x6<x5)) (NN p3 fun a3=>bA H (a3.add 2) fun p4=>NN p3 fun a4=>aM H ((a4.add 4).add 1) fun x7=>cF 187 #[.pointer p4,I (i64.wrap ((i64.wrap (x6*x7))+x4)),.slice A4 n4 m4] H fun x8 H3=>ao (x8 !=0) (K (I x8) H3) ((∃ k,aY.l10 K R4 k p3 x4 A3 n3 m3 A4 n4 m4 x6 x5 x6 A4 n4 m4 (n4:Int) 0 H3))) (K (I 0) H)
def aY (p1:OA)(x1 x2:Int)(H:Hp)(K:VK):Prop:=
 NN p1 fun a1=>bA H (a1.add 6) fun p2=>jF 237 #[.pointer p2] H fun A1 n1 m1 H1=>lj prog 108 x2 x2 H1 fun v3 H2=>aF v3 fun A2 n2 m2=>NN p1 fun a2=>aM H2 ((a2.add 4).add 0) fun x3=>(∃ k,aY.l4 K k p1 x1 A1 n1 m1 A2 n2 m2 x3 0 H2)
def aY.l4.L (K:VK)(k:Nat):dm:=fun E D H=>
 eP E 0 fun p3=>eI E 1 .i64 fun x4=>DG (E.get? 7) fun w7=>aF w7 fun A3 n3 m3=>DG (E.get? 8) fun w8=>aF w8 fun A4 n4 m4=>eI E 24 .i64 fun x5=>eI E 25 .i64 fun x6=>az D (aY.l4 K k p3 x4 A3 n3 m3 A4 n4 m4 x5 x6 H)
def aY.l10.L (K:VK)(R4:OA->Int->OA->Nat->Nat->OA->Nat->Nat->Int->Int->Hp->Prop)(k:Nat):dm:=fun E D H=>
 eP E 0 fun p5=>eI E 1 .i64 fun x9=>DG (E.get? 7) fun w7=>aF w7 fun A5 n5 m5=>DG (E.get? 8) fun w8=>aF w8 fun A6 n6 m6=>eI E 9 .i64 fun x10=>eI E 24 .i64 fun x11=>eI E 25 .i64 fun x12=>DG (E.get? 46) fun w46=>aF w46 fun A7 n7 m7=>eI E 47 .i64 fun x13=>eI E 48 .i64 fun x14=>az D (aY.l10 K R4 k p5 x9 A5 n5 m5 A6 n6 m6 x10 x11 x12 A7 n7 m7 x13 x14 H)
def aY.Λ10 (_:VK)(_R4:OA→Int→OA→Nat→Nat→OA→Nat→Nat→Int→Int→Hp→Prop)(_R10:OA→Int→OA→Nat→Nat→OA→Nat→Nat→Int→Int→Int→OA→Nat→Nat→Int→Int→Hp→Prop):aN:=aN.none (fun i=>match Nat.beq i 6 with|true=>some ([],[0,1,2,3,4,5,6,7,8,9,10,11,12,13],14)|false=>none)
def aY.Λ4 (K:VK)(R4:OA→Int→OA→Nat→Nat→OA→Nat→Nat→Int→Int→Hp→Prop):aN:=⟨fun i=>none,fun i=>match Nat.beq i 10 with|true=>some (fun E D H=>∃ k,aY.l10.L K R4 k E D H)|false=>none,(fun i=>match Nat.beq i 6 with|true=>some ([],[0,1,2,3,4,5,6,7,8,9,10,11,12,13],14)|false=>none)⟩
def aY.Λ (K:VK):aN:=⟨fun i=>none,fun i=>match Nat.beq i 4 with|true=>some (fun E D H=>∃ k,aY.l4.L K k E D H)|false=>none,(fun i=>match Nat.beq i 6 with|true=>some ([],[0,1,2,3,4,5,6,7,8,9,10,11,12,13],14)|false=>none)⟩
theorem aY.ok p1 x1 x2 H K (h:aY p1 x1 x2 H K):ae prog 301 #[.pointer p1,I x1,I x2] H K:=
 dX (Λ:=(aY.Λ K)) lX Tryz.func301 rfl rfl h (oC (fun E D H h=>by
   refine Safe.c0 (aY.l4.L K) (fun E D H h=>?_) (fun k E D H h=>?_) E D H h
   .obtain⟨w0,e0,g1⟩:=DG.out h;obtain⟨p3,rfl,g2⟩:=DP.out g1;obtain⟨w1,e1,g3⟩:=DG.out g2;obtain⟨x4,rfl,g4⟩:=DI.out g3;obtain⟨w7,e7,g5⟩:=DG.out g4;obtain⟨A3,n3,m3,rfl,g6⟩:=aF.out g5;obtain⟨w8,e8,g7⟩:=DG.out g6;obtain⟨A4,n4,m4,rfl,g8⟩:=aF.out g7;obtain⟨w24,e24,g9⟩:=DG.out g8;obtain⟨x5,rfl,g10⟩:=DI.out g9;obtain⟨w25,e25,g11⟩:=DG.out g10;obtain⟨x6,rfl,g12⟩:=DI.out g11;obtain⟨rfl,h'⟩:=az.out g12;exact h'
   .obtain⟨p3,e0,g2⟩:=GP h;obtain⟨x4,e1,g4⟩:=GI g2;obtain⟨w7,e7,g5⟩:=DG.out g4;obtain⟨A3,n3,m3,rfl,g6⟩:=aF.out g5;obtain⟨w8,e8,g7⟩:=DG.out g6;obtain⟨A4,n4,m4,rfl,g8⟩:=aF.out g7;obtain⟨x5,e24,g10⟩:=GI g8;obtain⟨x6,e25,g12⟩:=GI g10;obtain⟨rfl,h'⟩:=az.out g12;exact cY (Λ:=(aY.Λ4 K (aY.l4 K k))) lX [] (ag.cons e0 (ag.cons e1 (ag.cons e7 (ag.cons e8 (ag.cons e24 (ag.cons e25 (ag.nil _))))))) h' (oC (fun E D H h=>by
      refine Safe.c0 (aY.l10.L K (aY.l4 K k)) (fun E D H h=>?_) (fun k E D H h=>?_) E D H h
      .obtain⟨w0,e0,g1⟩:=DG.out h;obtain⟨p5,rfl,g2⟩:=DP.out g1;obtain⟨w1,e1,g3⟩:=DG.out g2;obtain⟨x9,rfl,g4⟩:=DI.out g3;obtain⟨w7,e7,g5⟩:=DG.out g4;obtain⟨A5,n5,m5,rfl,g6⟩:=aF.out g5;obtain⟨w8,e8,g7⟩:=DG.out g6;obtain⟨A6,n6,m6,rfl,g8⟩:=aF.out g7;obtain⟨w9,e9,g9⟩:=DG.out g8;obtain⟨x10,rfl,g10⟩:=DI.out g9;obtain⟨w24,e24,g11⟩:=DG.out g10;obtain⟨x11,rfl,g12⟩:=DI.out g11;obtain⟨w25,e25,g13⟩:=DG.out g12;obtain⟨x12,rfl,g14⟩:=DI.out g13;obtain⟨w46,e46,g15⟩:=DG.out g14;obtain⟨A7,n7,m7,rfl,g16⟩:=aF.out g15;obtain⟨w47,e47,g17⟩:=DG.out g16;obtain⟨x13,rfl,g18⟩:=DI.out g17;obtain⟨w48,e48,g19⟩:=DG.out g18;obtain⟨x14,rfl,g20⟩:=DI.out g19;obtain⟨rfl,h'⟩:=az.out g20;exact h'
      .obtain⟨p5,e0,g2⟩:=GP h;obtain⟨x9,e1,g4⟩:=GI g2;obtain⟨w7,e7,g5⟩:=DG.out g4;obtain⟨A5,n5,m5,rfl,g6⟩:=aF.out g5;obtain⟨w8,e8,g7⟩:=DG.out g6;obtain⟨A6,n6,m6,rfl,g8⟩:=aF.out g7;obtain⟨x10,e9,g10⟩:=GI g8;obtain⟨x11,e24,g12⟩:=GI g10;obtain⟨x12,e25,g14⟩:=GI g12;obtain⟨w46,e46,g15⟩:=DG.out g14;obtain⟨A7,n7,m7,rfl,g16⟩:=aF.out g15;obtain⟨x13,e47,g18⟩:=GI g16;obtain⟨x14,e48,g20⟩:=GI g18;obtain⟨rfl,h'⟩:=az.out g20;exact cY (Λ:=(aY.Λ10 K (aY.l4 K k) (aY.l10 K (aY.l4 K k) k))) lX [] (ag.cons e0 (ag.cons e1 (ag.cons e7 (ag.cons e8 (ag.cons e9 (ag.cons e24 (ag.cons e25 (ag.cons e46 (ag.cons e47 (ag.cons e48 (ag.nil _))))))))))) h' oN) oN)) oN)
def my (p1:OA)(x1:Int)(H:Hp)(K:VK):Prop:=
 NN p1 fun a1=>NN p1 fun a2=>bA H (a2.add 6) fun p2=>JZ 237 #[.pointer p2] H fun A1 n1 m1=>Hz 236 #[.pointer (some (a1.add 0)),.slice A1 n1 m1] H fun v3 H1=>NN p1 fun a3=>bA H1 (a3.add 3) fun p3=>NN p1 fun a4=>aM H1 ((a4.add 4).add 0) fun x2=>NN p1 fun a5=>bA H1 (a5.add 6) fun p4=>JZ 237 #[.pointer p4] H1 fun A2 n2 m2=>cF 185 #[.pointer p3,I (i64.wrap (x1*x2)),.slice A2 n2 m2] H1 fun x3 H2=>K (I x3) H2
theorem my.ok p1 x1 H K (h:my p1 x1 H K):ae prog 302 #[.pointer p1,I x1] H K:=
 mY (fun i=>match Nat.beq i 2 with|true=>some ([],[0,1,2,3,4,5,6,7,8,9,10,11,12,13,14,15],16)|false=>match Nat.beq i 1 with|true=>some ([],[0,1,2,3,4,5,6,7],8)|false=>none) lX Tryz.func302 rfl rfl h
end W
namespace Trn
open Go Go.Hw W Shp
def iw (p:Int):Bool:=p==4||p==8||p==16||p==32||p==64||p==128||p==256||p==512
theorem Hj :(List.range 513).all (fun n=>decide (n<4)||((n&&&(n-1)==0)==iw (n:Int)))=true:=by decide +kernel
theorem zc {p:Int}(h4:4<=p:=by omega)(h5:p<=512:=by omega):(cU .i64 p (i64.wrap (p-1))=0)↔iw p=true:=by
 obtain⟨n,rfl⟩:=Int.eq_ofNat_of_zero_le (show 0<=p by omega);rw[show((n:Int)-1)=((n-1:Nat):Int) by omega,bu,Lay.th (by omega) (by omega)];have ht:=List.all_eq_true.1 Hj n (by simp;omega);simp only[Bool.or_eq_true,decide_eq_true_eq,beq_iff_eq]at ht;have ht:=ht.resolve_left (by omega);rw[<- ht];simp only[beq_iff_eq];omega
theorem mF {p:Int}(h:iw p=true):4<=p/\p<=512:=by
 simp only[iw,Bool.or_eq_true,beq_iff_eq]at h;omega
structure gZ (r c:Int)(aa free:Int)(j:Nat):Prop where
 le:((2^j:Nat):Int)<=c
 fit:((2^j:Nat):Int)*r<=free-aa
 aA:((2^j:Nat):Int)=c\/free-aa<2*((2^j:Nat):Int)*r
def AU (r c aa free:Int)(v:Value):Prop:=
 (¬ (jU r c=true/\iw aa=true/\aa<=free/\r<=free-aa)/\v= .tuple #[I 0,.bool false])\/
 ((jU r c=true/\iw aa=true/\aa<=free/\r<=free-aa)/\∃ j:Nat,gZ r c aa free j/\v= .tuple #[I ((2^j:Nat):Int),.bool true])
theorem Gs {r c aa free:Int}{ea eb:Nat}(hr:r=((2^ea:Nat):Int))(hc:c=((2^eb:Nat):Int))(hab:ea+eb<=32)(hp:iw aa=true)(hf:aa<=free/\free<=9223372036854775807)(K:VK)(b1:Nat){L:List As}(i:Nat)
  (hi:L[i]? =some (af b1 (Oq #[I r,I c] 217))) {H:Hp} (hs:Sep L H) (hK:∀ j,gZ r c aa free j->K (.tuple #[I ((2^j:Nat):Int),.bool true]) H):
  ∀(t j:Nat),j+t=eb->((2^j:Nat):Int)*r<=free-aa->dL.l4 K (t+1) aa free (O b1) ((2^j:Nat):Int) H:=by
 have hpr:=mF hp;have hra:=pow_pos ea;have hca:=dw (show ea<=32 by omega);rw[show 2^32=4294967296 by decide]at hca;have key:∀(j:Nat),j<eb->dL.l4 K 0 aa free (O b1) ((2^j:Nat):Int) H=False:=fun _ _=>rfl
 intro t
 induction t with
 |zero=>
  intro j hj hfit;have hje:j=eb:=by omega
  have hp2:=dw (show j<=32 by omega);rw[show 2^32=4294967296 by decide]at hp2;have hz:=Int.natCast_nonneg (2^j);have hq:((2^j:Nat):Int)<=4294967296:=Int.ofNat_le.2 hp2;unfold dL.l4;refine hs.cC i hi rfl ?_;simp only[HV];rw[bu];refine aw ?_ (hK j ⟨by rw[hc,hje];exact Int.le_refl _,hfit,.inl (by rw[hc,hje])⟩);rw[hc,<-hje];have:=pow_pos j;omega
 |succ t ih=>
  intro j hj hfit;have hp2:=dw (show j+1<=32 by omega);rw[show 2^32=4294967296 by decide,Nat.pow_succ]at hp2;have h2:i64.wrap ((2:Int)*((2^j:Nat):Int))=((2^(j+1):Nat):Int):=by
   rw[bu,Nat.pow_succ];omega
  have hle:((2^(j+1):Nat):Int)<=c:=by
   rw[hc];have:=dw (show j+1<=eb by omega);omega
  unfold dL.l4;refine hs.cC i hi rfl ?_;simp only[HV];rw[h2];refine aC hle ?_;refine hs.cC i hi rfl ?_;simp only[HV];refine⟨by omega,trivial,?_⟩;obtain⟨f,hfe⟩:=Int.eq_ofNat_of_zero_le (show 0<=free-aa by omega);rw[bu (x:=free-aa)];rw[show Int.tdiv (free-aa) r=((f/2^ea:Nat):Int) by rw[hfe,hr];rfl];have hdl:f/2^ea<=f:=Nat.div_le_self _ _;rw[ed];have hiff:(((2^(j+1):Nat):Int)<=((f/2^ea:Nat):Int))↔((2^(j+1):Nat):Int)*r<=free-aa:=by
   rw[Int.ofNat_le,Nat.le_div_iff_mul_le (by omega),hfe,hr,<-Int.natCast_mul,Int.ofNat_le]
  by_cases hc2:((2^(j+1):Nat):Int)*r<=free-aa
  .refine aC (hiff.2 hc2) ?_;have h3:i64.wrap (((2^j:Nat):Int)*(2:Int))=((2^(j+1):Nat):Int):=by rw[Int.mul_comm];exact h2
   rw[h3];exact ih (j+1) (by omega) hc2
  .refine aw (fun h=>hc2 (hiff.1 h)) (hK j ⟨?_,hfit,.inr ?_⟩)
   .rw[hc];have:=dw (show j<=eb by omega);omega
   .have e:(2:Int)*((2^j:Nat):Int)=((2^(j+1):Nat):Int):=by rw[Nat.pow_succ];omega
    rw[e];omega
theorem Kx (r c aa free:Int)(hper: -9223372036854775808<=aa/\aa<=9223372036854775807)(hf:free<=9223372036854775807)(H:Hp)(hT:T64 H):
  ae prog 299 #[.agg #[I r,I c],I aa,I free] H fun v H'=>AU r c aa free v/\H'=H:=by
 refine ae.forget ?_;apply dL.ok;unfold dL;refine(Sep.start H).nw fun b1 H1 hs=>?_
 have out:∀{v:Value},AU r c aa free v->∃ H'',H''.le H1/\AU r c aa free v/\H''=H:=fun h=>⟨H,hs.ow 0 rfl,h,rfl⟩
 first|refine hs.bd 1 rfl rfl ?_
 try simp only[HV]
 refine ae.use (fT r c H1 (hT.le (hs.ow 0 rfl))) ?_;simp only[HV];cases hg:jU r c with
 |false=>exact cV rfl (out (.inl ⟨fun h=>(by rw[hg]at h;cases h.1),rfl⟩))
 |true=>
  refine bQ rfl ?_;by_cases h1:aa<4
  .exact aC h1 (out (.inl ⟨fun h=>(by have:=mF h.2.1;omega),rfl⟩))
  refine aw h1 ?_;by_cases h2:aa>512
  .exact aC h2 (out (.inl ⟨fun h=>(by have:=mF h.2.1;omega),rfl⟩))
  refine aw h2 ?_;have hpb:=zc (p:=aa);cases hp:iw aa with
  |false=>exact aT (fun h=>by rw[hpb.1 h]at hp;cases hp) (out (.inl ⟨fun h=>(by rw[hp]at h;cases h.2.1),rfl⟩))
  |true=>
   refine aH (hpb.2 hp) ?_;by_cases h3:free<aa
   .exact aC h3 (out (.inl ⟨fun h=>(by omega),rfl⟩))
   refine aw h3 ?_
   first|refine hs.cC 1 rfl rfl ?_|refine hs.kH 1 rfl rfl ?_
   try simp only[HV]
   rw[bu (x:=free-aa)];by_cases h4:free-aa<r
   .exact aC h4 (out (.inl ⟨fun h=>(by omega),rfl⟩))
   refine aw h4 ?_;obtain⟨ea,eb,hr,hc,hab,_,_⟩:=qw hg;refine⟨eb+1,?_⟩;have:=Gs hr hc hab hp ⟨by omega,hf⟩ (fun v H'=>∃ H'',H''.le H'/\AU r c aa free v/\H''=H) b1 1 rfl hs (fun j hj=>out (.inr ⟨⟨hg,hp,by omega,by omega⟩,j,hj,rfl⟩)) eb 0 (by omega) (by rw[Nat.pow_zero];omega);exact this
end Trn
namespace CrcP
open Go Go.Hw Go.Crc Go.Form W
def Mu (i:Nat):eX:=if i=0 then Jc else 1#32<<<(i-1)
def eh (m:Nat->eX)(f:eX->eX):Prop:=Bw f/\∀ i,i<32->m i=f (1#32<<<i)
theorem eh.bit :eh Mu kW:=⟨B8,by
 have:(List.range 32).all (fun i=>Mu i==kW (1#32<<<i))=true:=by decide +kernel
 intro i hi;have:=List.all_eq_true.1 this i (by simpa using hi);simpa using this⟩
def counter (s:eX)(n:Nat):AO:=Oq #[Ot (s.toNat:Int),I (n:Int)] 329
theorem xe (c:Nat)(s:eX)(k:Nat)(A:OA)(n m:Nat)(bs:List UInt8)(hn:n=bs.length)(H:Hp)(hc:H c=some (counter s k))(hb:Cells H A (aD bs))(hk:k+n<=9223372036854775807):
  ae prog 296 #[V c,.slice A n m] H (RetE (.tuple #[]) (H.set c (counter (more s bs) (k+n)))):=by
 apply gM.ok;unfold gM;simp only[dQ,Addr.bm,Nat.add_zero,Nat.zero_add];refine eV hc (v:=Ot (s.toNat:Int)) rfl ?_;simp only[HV];refine ae.use (yM s A n m bs hn (by omega) H hb) ?_
 try simp only[HV]
 refine qQ hc (by simp) rfl ?_;refine eV (Hp.bI _ _ _) (v:=I (k:Int)) rfl ?_;simp only[HV];refine qQ (Hp.bI _ _ _) (by simp) rfl ?_;rw[Hp.set_set,show((k:Int)+(n:Int))=((k+n:Nat):Int) by omega,ed hk];exact RetE.mk _ _
theorem CV (c:Nat)(s:eX)(k:Nat)(A:OA)(n m:Nat)(l:List UInt64)(hn:n=l.length)(H:Hp)(hc:H c=some (counter s k))(hl:Cells H A (ah l))(hn2:n<=10000000000)(hk:k<=1000000000000):
  ae prog 236 #[V c,.slice A n m] H (RetE (.tuple #[]) (H.set c (counter (more s (form l)) (k+8*n)))):=by
 apply ae.ret;apply fF.ok;unfold fF;refine(FormP.pR A n m l hn (by omega) H hl).mono ?_;rintro v H' ⟨b,hb,rfl,rfl⟩;simp only[HV];have hf:(form l).length=8*n:=by rw[ec,hn]
 have hle:=Hp.kI (o:=.row (aD (form l)) 5 (8*n)) hb;refine ae.use (xe c s k (Oo b) (8*n) (8*n) (form l) hf.symm _ (hle _ _ hc) (by have:=Cells.row (Hp.bI H b (.row (aD (form l)) 5 (8*n))) 0 (8*n);rwa [List.drop_zero,List.take_of_length_le (by rw[bz,hf];omega)]at this) (by omega)) ?_
 try simp only[HV]
 exact⟨rfl,Hp.oU hle _ _⟩
theorem Ky (c:Nat)(s:eX)(k:Nat)(H:Hp)(hc:H c=some (counter s k)):ae prog 238 #[V c] H (RetE (Ot (s.toNat:Int)) H):=by
 apply gN.ok;unfold gN;simp only[dQ,Addr.bm,Nat.add_zero,Nat.zero_add];refine eV hc (v:=Ot (s.toNat:Int)) rfl ?_;simp only[HV];exact RetE.mk _ _
section
variable (A1 A2 : Option Addr) (n1 m1 n2 m2 : Nat) (ps : List (OA × Nat × Nat × List UInt8)) (ws : List (OA × Nat × Nat × List UInt64)) (H0 : Hp) (c : Nat)
end
def tj (s:eX)(k:Nat)(r:List Value):Array Value:=(Value.int .u32 (s.toNat:Int)::Value.int .i64 (k:Int)::r).toArray
section
variable {L : List As} {H : Hp}
theorem LX (h:Sep L H)(i:Nat){c:Nat}{s:eX}{k:Nat}{r:List Value}{t:TypeId}(hi:L[i]? =some (af c (Oq (tj s k r) t)))(A:OA)(n m:Nat)(bs:List UInt8)(hn:n=bs.length)(hb:∀ H',H.le H'->Cells H' A (aD bs))(hk:k+n<=9223372036854775807){K:VK}
  (kk:∀ H',Sep (L.set i (af c (Oq (tj (more s bs) (k+n) r) t))) H'->K (.tuple #[]) H'):ae prog 296 #[V c,.slice A n m] H K:=by
 apply gM.ok;unfold gM;simp only[dQ];refine h.cC i hi rfl ?_;simp only[HV];refine ae.use (yM s A n m bs hn (by omega) H (hb H (Hp.le_refl _))) ?_
 try simp only[HV]
 refine h.Ko i hi (by show 0<(_::_::r:List Value).toArray.size;simp) rfl fun H1 hs1=>?_
 have hi1:(L.set i (af c (Oq ((tj s k r).setIfInBounds 0 (Ot ((more s bs).toNat:Int))) t)))[i]? =some (af c (Oq (tj (more s bs) k r) t)):=by
  rw[List.getElem?_set];simp only[(List.getElem?_eq_some_iff.1 hi).1,if_true];rfl
 refine hs1.cC i hi1 rfl ?_;simp only[HV];refine hs1.Ko i hi1 (by show 1<(_::_::r:List Value).toArray.size;simp) rfl fun H2 hs2=>?_
 rw[show((k:Int)+(n:Int))=((k+n:Nat):Int) by omega,ed hk,List.set_set]at hs2;exact kk H2 hs2
theorem vE (h:Sep L H)(i:Nat){c:Nat}{s:eX}{k:Nat}{r:List Value}{t:TypeId}(hi:L[i]? =some (af c (Oq (tj s k r) t)))(A:OA)(n m:Nat)(l:List UInt64)(hn:n=l.length)(hl:Cells H A (ah l))(hn2:n<=10000000000)(hk:k<=1000000000000){K:VK}
  (kk:∀ H',Sep (L.set i (af c (Oq (tj (more s (form l)) (k+8*n) r) t))) H'->K (.tuple #[]) H'):ae prog 236 #[V c,.slice A n m] H K:=by
 apply fF.ok;unfold fF;refine(FormP.pR A n m l hn (by omega) H hl).mono ?_;rintro v H' ⟨b,hb,rfl,rfl⟩;simp only[HV];have hf:(form l).length=8*n:=by rw[ec,hn]
 have hs:=h.new hb (.row (aD (form l)) 5 (8*n));have hlt:=(List.getElem?_eq_some_iff.1 hi).1;refine LX hs i (by rw[List.getElem?_append_left hlt];exact hi) (Oo b) (8*n) (8*n) (form l) hf.symm (fun H' hle=>?_) (by omega) fun H' hs'=>?_
 .have:=Cells.row (hle _ _ (Hp.bI H b (.row (aD (form l)) 5 (8*n)))) 0 (8*n)
  rwa [List.drop_zero,List.take_of_length_le (by rw[bz,hf];omega)]at this
 .rw[List.set_append_left _ _ hlt]at hs';exact kk H' (Sep.take hs')
theorem Di (h:Sep L H)(i:Nat){c:Nat}{s:eX}{k:Nat}{r:List Value}{t:TypeId}(hi:L[i]? =some (af c (Oq (tj s k r) t))):ae prog 238 #[V c] H (RetE (Ot (s.toNat:Int)) H):=by
 apply gN.ok;unfold gN;simp only[dQ];refine h.cC i hi rfl ?_;simp only[HV];exact RetE.mk _ _
end
end CrcP
namespace Trn
open Go Go.Hw Go.Crc Go.Form W Shp Str Dsk Are
theorem KY {r a i a' i':Nat}(hi:i<r)(hi':i'<r)(h:a*r+i=a'*r+i'):a=a'/\i=i':=by
 have h1:(a*r+i)/r=a:=by rw[Nat.add_comm,Nat.add_mul_div_right _ _ (by omega),Nat.div_eq_of_lt hi,Nat.zero_add]
 have h2:(a'*r+i')/r=a':=by rw[Nat.add_comm,Nat.add_mul_div_right _ _ (by omega),Nat.div_eq_of_lt hi',Nat.zero_add]
 have:a=a':=by rw[<- h1,<-h2,h]
 subst this;exact⟨rfl,by omega⟩
def Ji (p q r c bn:Nat):List Value:=[V p,V q,I (r:Int),I (c:Int),V bn]
def gw (s:eX)(k p q r c bn:Nat):AO:=Oq (CrcP.tj s k (Ji p q r c bn)) 409
structure tX (F:Nat->Nat->UInt64)(rows b i k:Nat)(ws:List UInt64):Prop where
 len:ws.length=b*rows
 MF:∀ k' i',k'<b->i'<rows->(i'<i\/(i'=i/\k'<k))->ws[k'*rows+i']? =some (F i' k')
theorem Ha {k b rows i:Nat}(hk:k<b)(hi:i<rows):k*rows+i<b*rows:=by
 have:(k+1)*rows<=b*rows:=Nat.mul_le_mul_right rows hk;rw[Nat.succ_mul]at this;omega
theorem tX.step {F:Nat->Nat->UInt64}{rows b i k:Nat}{ws:List UInt64}(h:tX F rows b i k ws)(hk:k<b)(hi:i<rows):tX F rows b i (k+1) (ws.set (k*rows+i) (F i k)):=by
 have hlt:=Ha hk hi;refine⟨by rw[List.length_set];exact h.len,fun k' i' hk' hi' hc=>?_⟩;rw[List.getElem?_set];by_cases e:k*rows+i=k'*rows+i'
 .obtain⟨rfl,rfl⟩:=KY hi hi' e;rw[if_pos rfl,if_pos (by rw[h.len];exact hlt)]
 .rw[if_neg e];refine h.MF k' i' hk' hi' ?_;rcases hc with hc|⟨rfl,hc⟩
  .exact .inl hc
  .refine .inr ⟨rfl,?_⟩;by_cases e2:k'=k
   .subst e2;exact absurd rfl e
   .omega
theorem tX.next {F:Nat->Nat->UInt64}{rows b i:Nat}{ws:List UInt64}(h:tX F rows b i b ws):tX F rows b (i+1) 0 ws:=⟨h.len,fun k' i' hk' hi' hc=>h.MF k' i' hk' hi' (by omega)⟩
theorem tX.all {F:Nat->Nat->UInt64}{rows b:Nat}{ws:List UInt64}(hr:0<rows)(h:tX F rows b rows 0 ws):ws=(List.range (b*rows)).map fun j=>F (j%rows) (j/rows):=by
 apply List.ext_getElem?;intro j;by_cases hj:j<b*rows
 .have hd:j/rows<b:=by rw[Nat.div_lt_iff_lt_mul hr];exact hj
  have hm:=Nat.mod_lt j hr;have:=h.MF (j/rows) (j%rows) hd hm (.inl hm);rw[Nat.mul_comm,Nat.div_add_mod]at this;rw[this,List.getElem?_map,List.getElem?_range hj];rfl
 .rw[List.getElem?_eq_none (by rw[h.len];omega),List.getElem?_eq_none (by simp;omega)]
theorem CP (ws:List UInt64)(i:Nat)(w:UInt64):(ah ws).set i (U (w.toNat:Int))=ah (ws.set i w):=by
 unfold ah;rw[List.map_set]
section
variable {rn p q dp ap bn bb rl : Nat} {s : eX} {sk : Nat} {x : X} {ea eb j : Nat} {cap aj : Int} {bufs : List (Nat × Nat × Option Addr)} {mb mr : Nat}
theorem GM (K:VK)(R4:OA->Int->OA->Nat->Nat->OA->Nat->Nat->Int->Int->Hp->Prop)(F:Nat->Nat->UInt64){rows cols b i:Nat}(hr:rows*b<=4294967296)(hb1:1<=b)(hi:i<rows)(c:Int)(row:List UInt64)(hrow:row.length=b)(hF:∀ k,k<b->row[k]? =some (F i k)){L:List As}
  (hK:∀ ws H,tX F rows b (i+1) 0 ws->Sep (af rn (gw s sk p q rows cols bn)::af bb (.row (ah ws) 108 mb)::af rl (.row (ah row) 108 mr)::L) H->R4 (Oo rn) c (Oo bb) (b*rows) (b*rows) (Oo rl) b b (rows:Int) ((i+1:Nat):Int) H):
  ∀(t k:Nat) (ws:List UInt64) (H:Hp),k+t=b->tX F rows b i k ws->Sep (af rn (gw s sk p q rows cols bn)::af bb (.row (ah ws) 108 mb)::af rl (.row (ah row) 108 mr)::L) H->
   aY.l10 K R4 (t+1) (Oo rn) c (Oo bb) (b*rows) (b*rows) (Oo rl) b b (i:Int) (rows:Int) (i:Int) (Oo rl) b b (b:Int) (k:Int) H:=fun t=>by
 induction t with
 |zero=>
  intro k ws H hk hf hs;have hkb:k=b:=by omega
  subst hkb;unfold aY.l10;refine aw (by omega) ?_;have hr1:rows*1<=rows*k:=Nat.mul_le_mul_left rows (by omega);rw[show((i:Int)+1)=((i+1:Nat):Int) by omega,ed];exact hK ws H hf.next hs
 |succ t ih=>
  intro k ws H hk hf hs;have hkb:k<b:=by omega
  have hlt:=Ha hkb hi;have hcm:=Nat.mul_comm b rows;unfold aY.l10;refine aC (by omega) ?_;have hg:(ah row)[k]? =some (U ((F i k).toNat:Int)):=by rw[dO,hF k hkb];rfl
  refine⟨by omega,by omega,?_⟩;show Ld H _ _
  rw[Int.toNat_natCast,Nat.mul_one,Addr.bm,Nat.zero_add];refine hs.uv 2 rfl hg ?_;simp only[HV];refine hs.kH 0 rfl rfl ?_;simp only[HV];have e:i64.wrap (i64.wrap ((k:Int)*(rows:Int))+(i:Int))=((k*rows+i:Nat):Int):=by
   rw[<- Int.natCast_mul,ed,show(((k*rows:Nat):Int)+(i:Int))=((k*rows+i:Nat):Int) by omega,ed]
  rw[e];refine⟨by omega,by omega,?_⟩;show St H _ _ _
  rw[Int.toNat_natCast,Nat.mul_one,Addr.bm,Addr.bm,Nat.zero_add,Nat.add_zero];refine hs.str 1 (b:=bb) (xs:=ah ws) (e:=108) (m:=mb) rfl (by rw[aG,hf.len];exact hlt) rfl fun H hs=>?_;rw[CP]at hs;rw[bu (x:=(k:Int)+1) (by omega) (by have:b*1<=b*rows:=Nat.mul_le_mul_left b (by omega);omega)];exact ih (k+1) _ H (by omega) (hf.step hkb hi) hs
def gR (aa f cols c b i:Nat):Nat:=((List.range i).map fun i'=>(dP aa f b (i'*cols+c) b).length).sum
theorem sH (aa f cols c b i:Nat):gR aa f cols c b (i+1)=gR aa f cols c b i+(dP aa f b (i*cols+c) b).length:=by
 unfold gR;rw[List.range_succ,List.map_append,List.sum_append];simp
theorem KV (aa f cols c b:Nat):∀{i j:Nat},i<=j->gR aa f cols c b i<=gR aa f cols c b j:=fun{i j} h=>by
 induction h with
 |refl=>exact Nat.le_refl _
 |step h ih=>rw[sH];omega
theorem AX (aa f cols c b:Nat):∀ i,gR aa f cols c b i<=i*b
 |0=>by simp[gR]
 |i+1=>by
  rw[sH,Nat.succ_mul];have:=AX aa f cols c b i;have:=jg aa f b (i*cols+c) b;omega
theorem Lr (d:D)(a b:Nat):D.bO (D.bO d a) b=D.bO d (a+b):=by
 unfold D.bO;simp only[D.mk.injEq,true_and,and_true];omega
theorem ya (a b:Int):mx (mx a b) b=mx a b:=by
 unfold mx;by_cases h:b>a
 .rw[if_pos h,if_neg (by omega)]
 .rw[if_neg h,if_neg h]
theorem vu {d:D}{x:X}{fr n k:Nat}(h:k<n):(dV d x fr n)[k]? =some (pw d x (fr+k)):=by
 unfold dV;rw[List.getElem?_map,List.getElem?_range h];rfl
def DO (rn p q dp ap bn bb:Nat)(s:eX)(sk:Nat)(d:D)(x:X)(rows cols b c:Nat)(cap aj:Int)(bufs:List (Nat×Nat×OA))(mb:Nat)(v:Value)(M:List As):Prop:=
 ((d.aI=0\/gR (D.aa d) x.f cols c b rows<d.aI)/\v= I 0/\
  M=[af rn (gw s sk p q rows cols bn),af bb (.row (ah ((List.range (b*rows)).map fun j=>pw d x (j%rows*cols+c+j/rows))) 108 mb),af p (bh dp ap x),Dk dp (D.bO d (gR (D.aa d) x.f cols c b rows)),Ar ap cap (mx aj (bf bufs+D.aa d)) bufs])\/
 (∃ d',gW (fun _=>False) d d'/\d.aI<=gR (D.aa d) x.f cols c b rows/\v= I 8/\M=[af rn (gw s sk p q rows cols bn),af p (bh dp ap x),Dk dp d',Ar ap cap (mx aj (bf bufs+D.aa d)) bufs])
theorem C9 (K:VK){d:D}{rows cols b c:Nat}(hok:Ok d)(hl:d.down=false)(hx:On d x)(ho:d.rd<=4000000000000000000)(hw:x.w=rows*cols)(hb1:1<=b)(hcb:c+b<=cols)(hsz:rows*cols<=4294967296)(hr1:1<=rows)(hcap:(D.aa d:Int)<=cap-bf bufs)
  (hK:∀ v M H,DO rn p q dp ap bn bb s sk d x rows cols b c cap aj bufs mb v M->Sep M H->K v H):
  ∀(t i:Nat) (ws row:List UInt64) (pk:Int) (H:Hp),i+t=rows->(d.aI=0\/gR (D.aa d) x.f cols c b i<d.aI)->tX (fun i k=>pw d x (i*cols+c+k)) rows b i 0 ws->row.length=b->mx pk (bf bufs+D.aa d)=mx aj (bf bufs+D.aa d)->(i=0\/pk=mx aj (bf bufs+D.aa d))->
   Sep [af rn (gw s sk p q rows cols bn),af bb (.row (ah ws) 108 mb),af rl (.row (ah row) 108 mr),af p (bh dp ap x),Dk dp (D.bO d (gR (D.aa d) x.f cols c b i)),Ar ap cap pk bufs] H->
   aY.l4 K (t+1) (Oo rn) (c:Int) (Oo bb) (b*rows) (b*rows) (Oo rl) b b (rows:Int) (i:Int) H:=fun t=>by
 have hrb:rows*b<=4294967296:=Nat.le_trans (Nat.mul_le_mul_left rows (show b<=cols by omega)) hsz;have hr32:rows*1<=rows*cols:=Nat.mul_le_mul_left rows (by omega)
 induction t with
 |zero=>
  intro i ws row pk H hi hgo hf hrow hpk hip hs;have hir:i=rows:=by omega
  subst hir;unfold aY.l4;refine aw (by omega) (hK _ _ H (.inl ⟨hgo,rfl,?_⟩) (hs.re [0,1,3,4,5] rfl));rw[<- hf.all (by omega),hip.resolve_left (by omega)];rfl
 |succ t ih=>
  intro i ws row pk H hi hgo hf hrow hpk hip hs;have hir:i<rows:=by omega
  have hfr:i*cols+c+b<=rows*cols:=by
   have:(i+1)*cols<=rows*cols:=Nat.mul_le_mul_right cols hir;rw[Nat.succ_mul]at this;omega
  unfold aY.l4;refine aC (by omega) ?_;simp only[dQ];refine hs.cC 0 rfl rfl ?_;simp only[HV];refine hs.kH 0 rfl rfl ?_;simp only[HV];have e:i64.wrap (i64.wrap ((i:Int)*(cols:Int))+(c:Int))=((i*cols+c:Nat):Int):=by
   rw[<- Int.natCast_mul,ed,show(((i*cols:Nat):Int)+(c:Int))=((i*cols+c:Nat):Int) by omega,ed]
  rw[e];have hgl:=AX (D.aa d) x.f cols c b i;have hib:i*b<=rows*b:=Nat.mul_le_mul_right b (by omega);have hper:D.aa (D.bO d (gR (D.aa d) x.f cols c b i))=D.aa d:=rfl;have hpg:=Prog.bO (fun _=>False) hok hl hgo;refine(wo (p:=p) (dp:=dp) (ap:=ap) (d:=D.bO d (gR (D.aa d) x.f cols c b i)) (x:=x) (cap:=cap) (aj:=pk) (bufs:=bufs) (rl:=rl) (off:=0) (mm:=mr) (el:=108) (xs:=ah row) (Ok.bO hok _) hl ⟨hx.w1,hx.s1,hx.fit,hx.room⟩ (by show d.rd+_<=_;omega) (i*cols+c) b b hb1 (by omega) (Nat.le_refl _) (by rw[aG,hrow];omega) hcap).use hs [3,4,5,2] rfl rfl ?_;rintro v M H (⟨hgo2,rfl,rfl⟩|⟨j,xs',hj,hfj,hx',rfl,rfl⟩) hs
  .simp only[HV];refine aH rfl ⟨b+1,?_⟩;rw[Lr,hper,<-sH]at hs;have hset:setAt (ah row) 0 (ah (dV (D.bO d (gR (D.aa d) x.f cols c b i)) x (i*cols+c) b))=ah (dV d x (i*cols+c) b):=by
    rw[pX (by rw[aG,aG,kK,hrow])];rfl
   rw[hset,hpk]at hs;have hgo3:d.aI=0\/gR (D.aa d) x.f cols c b (i+1)<d.aI:=by
    rw[sH];have h1:(D.bO d (gR (D.aa d) x.f cols c b i)).aI=d.aI-gR (D.aa d) x.f cols c b i:=rfl;rw[h1,hper]at hgo2;omega
   have hs:=hs.re [4,5,3,0,1,2] rfl;refine GM K _ (fun i k=>pw d x (i*cols+c+k)) hrb hb1 hir (c:Int) (dV d x (i*cols+c) b) (kK _ _ _ _) (fun k hk=>vu hk) (fun ws' H hf' hs=>?_) b 0 ws H (by omega) hf hs;exact ih (i+1) ws' _ (mx aj (bf bufs+D.aa d)) H (by omega) hgo3 hf' (kK _ _ _ _) (ya _ _) (.inr rfl) hs
  .simp only[HV];refine aT (by decide) (hK _ _ H (.inr ⟨_,hpg.dead (gW.bO _ hpg.ok hpg.down hfj),?_,rfl,?_⟩) (hs.re [4,0,1,2] rfl))
   .have h1:(D.bO d (gR (D.aa d) x.f cols c b i)).aI=d.aI-gR (D.aa d) x.f cols c b i:=rfl;rw[h1]at hfj;have h2:=KV (D.aa d) x.f cols c b (show i+1<=rows by omega);rw[sH]at h2;rw[hper]at hj;omega
   .rw[hper,hpk];rfl
theorem GO {d:D}{rows cols b c:Nat}(hok:Ok d)(hl:d.down=false)(hx:On d x)(ho:d.rd<=4000000000000000000)(hw:x.w=rows*cols)(hb1:1<=b)(hcb:c+b<=cols)(hsz:rows*cols<=4294967296)(hr1:1<=rows)(hcap:(D.aa d:Int)<=cap-bf bufs)(hbn:(bn,b*rows,some (O bb))∈bufs)(ws:List UInt64)(hws:ws.length=b*rows):
  Tr prog 301 #[V rn,I (c:Int),I (b:Int)] [af rn (gw s sk p q rows cols bn),af bb (.row (ah ws) 108 mb),af p (bh dp ap x),Dk dp d,Ar ap cap aj bufs] (DO rn p q dp ap bn bb s sk d x rows cols b c cap aj bufs mb):=fun H hs=>by
 have hrb:rows*b<=4294967296:=Nat.le_trans (Nat.mul_le_mul_left rows (show b<=cols by omega)) hsz;have hb32:1*b<=rows*b:=Nat.mul_le_mul_right b hr1;apply aY.ok;unfold aY;simp only[dQ];refine hs.cC 0 rfl rfl ?_;simp only[HV];refine ae.use (lz hs 4 rfl hbn) ?_
 try simp only[HV]
 refine hs.q8 fH rfl (n:=b) (m:=b) rfl rfl (Nat.le_refl _) (by omega) (by omega) fun rl H hs=>?_
 simp only[HV];refine hs.kH 0 rfl rfl ?_;simp only[HV];refine⟨rows+1,?_⟩;have hz:cZ (#[Value.int .u64 0]:Array Value).toList b=ah (List.replicate b 0):=by
  show cZ [Value.int .u64 0] b=_
  rw[fm];unfold ah;rw[List.map_replicate];rfl
 rw[hz]at hs;refine C9 (rl:=rl) (mr:=b*1) (aj:=aj) _ hok hl hx ho hw hb1 hcb hsz hr1 hcap (fun v M H h hs=>⟨M,h,hs⟩) rows 0 ws (List.replicate b 0) aj H (by omega) (by simp[gR];omega) ⟨hws,fun k' i' _ _ h=>by omega⟩ (by simp) rfl (.inl rfl) ?_;exact hs.re [0,1,5,2,3,4] rfl
end
end Trn
namespace Str
open Go Go.Hw Go.Form W Dsk Are
theorem Jm {ws src:List UInt64}{a:Nat}(ha:a<=ws.length)(i:Nat):(kN ws a src)[i]? =if i<a then ws[i]? else if i<a+src.length then src[i-a]? else ws[i]? :=by
 unfold kN;have hl:(ws.take a).length=a:=by rw[List.length_take];omega
 rw[List.append_assoc];by_cases h1:i<a
 .rw[if_pos h1,List.getElem?_append_left (by omega),List.getElem?_take_of_lt h1]
 .rw[if_neg h1,List.getElem?_append_right (by omega),hl];by_cases h2:i<a+src.length
  .rw[if_pos h2,List.getElem?_append_left (by omega)]
  .rw[if_neg h2,List.getElem?_append_right (by omega),List.getElem?_drop];congr 1;omega
theorem Nj {d:D}(hok:Ok d)(x:X)(fr:Nat)(src:List UInt64)(hl:fr%D.aa d+src.length<=D.aa d)(j:Nat):
  pw (lL d (x.f+fr/D.aa d) (fr%D.aa d) src) x j=if fr<=j/\j<fr+src.length then(src[j-fr]?).getD 0 else pw d x j:=by
 have hp:=Ok.eB hok;have hwl:(dr (d.now ((x.f+fr/D.aa d:Nat):Int))).length=D.aa d:=by rw[ja,hok.now];rfl
 unfold pw;rw[EI,EH];have ej:=Nat.div_add_mod j (D.aa d);have ef:=Nat.div_add_mod fr (D.aa d);have mj:=Nat.mod_lt j (show 0<D.aa d by omega);have mf:=Nat.mod_lt fr (show 0<D.aa d by omega);by_cases hs:j/D.aa d=fr/D.aa d
 .rw[hs]at ej⊢;rw[if_pos rfl,Dg,Jm (by omega)];generalize D.aa d*(fr/D.aa d)=q at*;by_cases h1:j%D.aa d<fr%D.aa d
  .rw[if_pos h1,if_neg (by omega)]
  .rw[if_neg h1];by_cases h2:j%D.aa d<fr%D.aa d+src.length
   .rw[if_pos h2,if_pos (by omega),show j%D.aa d-fr%D.aa d=j-fr by omega]
   .rw[if_neg h2,if_neg (by omega)]
 .rw[if_neg (by omega),if_neg];intro hc;apply hs;apply Nat.div_eq_of_lt_le
  .rw[Nat.mul_comm];omega
  .rw[Nat.succ_mul,Nat.mul_comm];omega
structure Nm (d d':D)(x:X)(fr:Nat)(src:List UInt64)(ps:List (Nat×Nat×Nat)):Prop where
 ok:Ok d'
 calm:Calm d->Calm d'
 size:d'.size=d.size
 sec:d'.sec=d.sec
 wr:d'.wr=d.wr+ps.length
 rd:d'.rd=d.rd+(ps.filter fun p=>decide (p.2.2<D.aa d)).length
 sy:d'.sy=d.sy
 safe:d'.safe=d.safe
 ij:∀ i,d'.ij i=true->d.ij i=true\/∃ j,j<src.length/\i=((x.f+(fr+j)/D.aa d:Nat):Int)
 now:∀ i,(∀ j,j<src.length->i≠((x.f+(fr+j)/D.aa d:Nat):Int))->d'.now i=d.now i
 pw:∀ j,pw d' x j=if fr<=j/\j<fr+src.length then(src[j-fr]?).getD 0 else pw d x j
theorem JO (d:D)(s dq:Nat)(src:List UInt64):(lL d s dq src).safe=d.safe/\(lL d s dq src).ij=rF d.ij s:=by
 unfold lL;split<;>exact⟨rfl,rfl⟩
theorem AH (x:X):∀(k fr:Nat) (d:D) (src:List UInt64),Ok d->src.length<=k->Nm d (yI d x k fr src) x fr src (dP (D.aa d) x.f k fr src.length)
 |k,fr,d,[],hok,hk=>by
  have e1:yI d x k fr []=d:=by cases k<;>simp[yI]
  have e2:dP (D.aa d) x.f k fr ([]:List UInt64).length=[]:=by cases k<;>simp[dP]
  rw[e1,e2];exact⟨hok,id,rfl,rfl,rfl,rfl,rfl,rfl,fun i h=>.inl h,fun _ _=>rfl,fun j=>by rw[if_neg (by simp only[List.length_nil];omega)]⟩
 |0,fr,d,w0::s0,hok,hk=>by simp at hk
 |k+1,fr,d,w0::s0,hok,hk=>by
  generalize hsrc:w0::s0=src at*;have hne:src≠ []:=by rw[<- hsrc];simp
  have hpos:0<src.length:=by rw[<- hsrc];simp
  have hp:=Ok.eB hok;have hcle:=xA (D.aa d) fr src.length;have hcpos:=ud (aa:=D.aa d) (fr:=fr) (n:=src.length) (by omega) hpos;have hcper:=BP (aa:=D.aa d) (fr:=fr) (n:=src.length);have e:dP (D.aa d) x.f (k+1) fr src.length=(x.f+fr/D.aa d,fr%D.aa d,cN (D.aa d) fr src.length)::dP (D.aa d) x.f k (fr+cN (D.aa d) fr src.length) (src.length-cN (D.aa d) fr src.length):=by
   show(if src.length=0 then []else _)=_
   rw[if_neg (by omega)]
  have ew:yI d x (k+1) fr src=yI (lL d (x.f+fr/D.aa d) (fr%D.aa d) (src.take (cN (D.aa d) fr src.length))) x k (fr+cN (D.aa d) fr src.length) (src.drop (cN (D.aa d) fr src.length)):=by
   show(if src=[]then d else _)=_
   rw[if_neg hne]
  rw[e,ew];generalize hcv:cN (D.aa d) fr src.length=c at*;have htk:(src.take c).length=c:=by rw[List.length_take];omega
  have hdl:(src.drop c).length=src.length-c:=by simp
  have hok1:Ok (lL d (x.f+fr/D.aa d) (fr%D.aa d) (src.take c)):=Ni hok _ _ (by omega);have hsz:=CR d (x.f+fr/D.aa d) (fr%D.aa d) (src.take c);have hper:=EI d (x.f+fr/D.aa d) (fr%D.aa d) (src.take c);have hcnt:=LV d (x.f+fr/D.aa d) (fr%D.aa d) (src.take c);have hsf:=JO d (x.f+fr/D.aa d) (fr%D.aa d) (src.take c);have hnow:=EH d (x.f+fr/D.aa d) (fr%D.aa d) (src.take c);have hpw:=Nj hok x fr (src.take c) (by omega);have ih:=AH x k (fr+c) _ (src.drop c) hok1 (by omega);rw[hper,hdl]at ih;generalize yI (lL d (x.f+fr/D.aa d) (fr%D.aa d) (src.take c)) x k (fr+c) (src.drop c)=d2 at*;generalize dP (D.aa d) x.f k (fr+c) (src.length-c)=ps at*;refine⟨ih.ok,fun hc=>ih.calm (JL hc _ _ _),ih.size.trans hsz.1,ih.sec.trans hsz.2,?_,?_,ih.sy.trans hcnt.2.2,ih.safe.trans hsf.1,fun i hi=>?_,fun i hi=>?_,fun j=>?_⟩
  .rw[ih.wr,hcnt.1,List.length_cons];omega
  .rw[ih.rd,hcnt.2.1,htk,hper];by_cases hlt:c<D.aa d
   .rw[if_pos hlt,List.filter_cons_of_pos (by simpa using hlt),List.length_cons];omega
   .rw[if_neg hlt,List.filter_cons_of_neg (by simpa using hlt)];omega
  .rcases ih.ij i hi with h|⟨j,hj,h⟩
   .rw[hsf.2]at h;unfold rF at h;by_cases he:i=((x.f+fr/D.aa d:Nat):Int)
    .exact .inr ⟨0,hpos,by rw[Nat.add_zero];exact he⟩
    .rw[if_neg he]at h;exact .inl h
   .refine .inr ⟨c+j,by omega,?_⟩;rw[h,hper,Nat.add_assoc]
  .rw[ih.now i (fun j hj=>?_),hnow,if_neg]
   .have:=hi 0 hpos;rw[Nat.add_zero]at this;exact this
   .have:=hi (c+j) (by omega);rw[hper,Nat.add_assoc];exact this
  .rw[ih.pw j,hpw j,htk,hdl];by_cases h1:fr+c<=j/\j<fr+c+(src.length-c)
   .rw[if_pos h1,if_pos (by omega),List.getElem?_drop,show c+(j-(fr+c))=j-fr by omega]
   .rw[if_neg h1];by_cases h2:fr<=j/\j<fr+c
    .rw[if_pos h2,if_pos (by omega),List.getElem?_take_of_lt (by omega)]
    .rw[if_neg h2,if_neg (by omega)]
def D.fz (d:D)(q:Nat):D:={ d with aI:=q}
theorem Nh (d:D)(q s dq:Nat)(src:List UInt64):D.fz (o0 d s dq src) q=lL (D.fz d q) s dq src:=by
 unfold o0 lL;have e:D.aa (D.fz d q)=D.aa d:=rfl;rw[e];split<;>rfl
theorem Ik (x:X):∀(k fr:Nat) (d:D) (src:List UInt64) (q:Nat),D.fz (kO d x k fr src) q=yI (D.fz d q) x k fr src
 |0,_,_,_,_=>rfl
 |k+1,fr,d,src,q=>by
  unfold kO yI;have e:D.aa (D.fz d q)=D.aa d:=rfl;rw[e];split
  .rfl
  .rw[Ik x k,Nh]
theorem Prog.now {S:Int->Prop}{d d':D}{r w:Nat}(h:Prog S d d' r w){i:Int}(hi:¬S i):d'.now i=d.now i:=by
 unfold D.now D.sat;rw[h.cache i hi,h.safe,h.size]
theorem Prog.pw {S:Int->Prop}{d d':D}{r w:Nat}(h:Prog S d d' r w){x:X}(hok:Ok d)(hx:On d x)(hS:∀ i,S i->i<(x.f:Int)\/((x.f+x.s:Nat):Int)<=i){j:Nat}(hj:j<x.w):pw d' x j=pw d x j:=by
 have hp:=Ok.eB hok;have h4:=hx.room;unfold Str.pw;rw[h.aa,h.now];intro hs;have hdiv:j/D.aa d<x.s:=by rw[Nat.div_lt_iff_lt_mul (by omega)];omega
 have:=hS _ hs;generalize j/D.aa d=u at*;omega
theorem zt (x:X){d:D}(hok:Ok d)(fr:Nat)(src:List UInt64)(j:Nat):pw (kO d x src.length fr src) x j=if fr<=j/\j<fr+src.length then(src[j-fr]?).getD 0 else pw d x j:=by
 have hW:=(AH x src.length fr (D.fz d 0) src ⟨hok.sec,hok.size,hok.lk,hok.aa,hok.safe,hok.cache,Nat.zero_le _⟩ (Nat.le_refl _)).pw j;rw[<- Ik]at hW;exact hW
theorem On.prog {S:Int->Prop}{d d':D}{r w:Nat}{x:X}(hx:On d x)(h:Prog S d d' r w):On d' x:=⟨hx.w1,hx.s1,by rw[h.sec];exact hx.fit,by rw[h.aa];exact hx.room⟩
end Str
namespace Trn
open Go Go.Hw Go.Crc Go.Form W Shp Str Dsk Are
def jd (x:X)(i:Int):Prop:=(x.f:Int)<=i/\i<((x.f+x.s:Nat):Int)
section
variable {rn p q dp ap bn bb rl : Nat} {s : eX} {sk : Nat} {x y : X} {ea eb j : Nat} {cap aj : Int} {bufs : List (Nat × Nat × Option Addr)} {mb mr : Nat}
def MJ (rn p q dp ap bn bb:Nat)(s:eX)(sk:Nat)(d:D)(y:X)(rows cols c:Nat)(ws:List UInt64)(cap aj:Int)(bufs:List (Nat×Nat×OA))(mb:Nat)(v:Value)(M:List As):Prop:=
 (Prog (jd y) d (kO d y ws.length (c*rows) ws) (jC (D.aa d) y.f ws.length (c*rows) ws.length) (dP (D.aa d) y.f ws.length (c*rows) ws.length).length/\v= I 0/\
  M=[af rn (gw (more s (form ws)) (sk+8*ws.length) p q rows cols bn),af bb (.row (ah ws) 108 mb),af q (bh dp ap y),Dk dp (kO d y ws.length (c*rows) ws),Ar ap cap (mx aj (bf bufs+D.aa d)) bufs])\/
 (∃ d',gW (jd y) d d'/\d.aI<=jC (D.aa d) y.f ws.length (c*rows) ws.length+(dP (D.aa d) y.f ws.length (c*rows) ws.length).length/\v= I 8/\
  M=[af q (bh dp ap y),Dk dp d',Ar ap cap (mx aj (bf bufs+D.aa d)) bufs])
theorem MK {d:D}{rows cols c:Nat}{ws:List UInt64}(hok:Ok d)(hl:d.down=false)(hy:On d y)(ho:d.rd<=4000000000000000000/\d.wr<=4000000000000000000)(hw1:1<=ws.length)(hf:c*rows+ws.length<=y.w)(hyw:y.w<=4294967296)(hsk:sk<=1000000000000)(hcap:(D.aa d:Int)<=cap-bf bufs)(hbn:(bn,ws.length,some (O bb))∈bufs):
  Tr prog 302 #[V rn,I (c:Int)] [af rn (gw s sk p q rows cols bn),af bb (.row (ah ws) 108 mb),af q (bh dp ap y),Dk dp d,Ar ap cap aj bufs] (MJ rn p q dp ap bn bb s sk d y rows cols c ws cap aj bufs mb):=fun H hs=>by
 have hcell:∀ H,af bb (.row (ah ws) 108 mb) H->Cells H (Oo bb) (ah ws):=fun H h=>by
  have:=Cells.row h 0 ws.length
  rwa [List.drop_zero,List.take_of_length_le (by rw[aG];exact Nat.le_refl _)]at this
 apply my.ok;unfold my;simp only[dQ];refine hs.cC 0 rfl rfl ?_;simp only[HV];refine bN.use (lz hs 4 rfl hbn) ?_
 try simp only[HV]
 rw[Addr.add_zero];refine CrcP.vE hs 0 rfl (Oo bb) ws.length ws.length ws rfl ?_ (by omega) (by omega) fun H hs=>?_
 .obtain⟨H1,h1,hle⟩:=hs.fE 1 rfl;exact(hcell H1 h1).le hle
 have hs:Sep [af rn (gw (more s (form ws)) (sk+8*ws.length) p q rows cols bn),af bb (.row (ah ws) 108 mb),af q (bh dp ap y),Dk dp d,Ar ap cap aj bufs] H:=hs;refine hs.cC 0 rfl rfl ?_;simp only[HV];refine hs.kH 0 rfl rfl ?_;simp only[HV];refine hs.cC 0 rfl rfl ?_;simp only[HV];refine bN.use (lz hs 4 rfl hbn) ?_
 try simp only[HV]
 rw[<- Int.natCast_mul,ed];refine(ub (p:=q) (dp:=dp) (ap:=ap) (d:=d) (x:=y) (cap:=cap) (aj:=aj) (bufs:=bufs) (R:=af bb (.row (ah ws) 108 mb)) (A:=some (O bb)) (n:=ws.length) (m:=ws.length) (src:=ws) hok hl hy (by omega) (c*rows) rfl hw1 hf (Nat.le_refl _) hcap hcell).use hs [2,3,4,1] rfl rfl ?_;rintro v M H (⟨hpg,rfl,rfl⟩|⟨d',hd,hfu,rfl,rfl⟩) hs
 .simp only[HV];exact⟨_,.inl ⟨hpg,rfl,rfl⟩,hs.re [4,3,0,1,2] rfl⟩
 .simp only[HV];exact⟨_,.inr ⟨d',hd,hfu,rfl,rfl⟩,hs.re [0,1,2] rfl⟩
def Kt (d:D)(x:X)(rows cols k:Nat):UInt64:=pw d x (k%rows*cols+k/rows)
def rD (d:D)(x:X)(rows cols:Nat):List UInt64:=(List.range (rows*cols)).map (Kt d x rows cols)
theorem zo (d:D)(x:X)(rows cols:Nat):(rD d x rows cols).length=rows*cols:=by simp[rD]
theorem EW (d d1:D)(x:X){rows cols b c:Nat}(hr:0<rows)(hcb:c+b<=cols)(hsame:∀ k,k<rows*cols->pw d1 x k=pw d x k):
  ((List.range (b*rows)).map fun j=>pw d1 x (j%rows*cols+c+j/rows))=((rD d x rows cols).drop (c*rows)).take (b*rows):=by
 apply List.ext_getElem?;intro j;have hle:(c+b)*rows<=cols*rows:=Nat.mul_le_mul_right rows hcb;rw[Nat.add_mul,Nat.mul_comm cols rows]at hle;rw[List.getElem?_map,List.getElem?_take];by_cases hj:j<b*rows
 .rw[List.getElem?_range hj,if_pos hj,List.getElem?_drop];unfold rD;rw[List.getElem?_map,List.getElem?_range (by omega)];simp only[Option.map_some,Option.some.injEq];unfold Kt;have hm:=Nat.mod_lt j hr;have hd:j/rows<b:=by rw[Nat.div_lt_iff_lt_mul hr];exact hj
  rw[show c*rows+j=j+c*rows by omega,Nat.add_mul_mod_self_right,Nat.add_mul_div_right _ _ hr,hsame]
  .congr 1;omega
  .have:(j%rows+1)*cols<=rows*cols:=Nat.mul_le_mul_right cols hm;rw[Nat.succ_mul]at this;omega
 .rw[if_neg hj,List.getElem?_eq_none (by simp;omega)];rfl
def rT (aa f f' rows cols b m:Nat):Nat:=((List.range m).map fun m'=>gR aa f cols (m'*b) b rows+jC aa f' (b*rows) (m'*b*rows) (b*rows)).sum
def wT (aa f' rows b m:Nat):Nat:=((List.range m).map fun m'=>(dP aa f' (b*rows) (m'*b*rows) (b*rows)).length).sum
theorem sQ (aa f f' rows cols b m:Nat):rT aa f f' rows cols b (m+1)=rT aa f f' rows cols b m+(gR aa f cols (m*b) b rows+jC aa f' (b*rows) (m*b*rows) (b*rows)):=by
 unfold rT;rw[List.range_succ,List.map_append,List.sum_append];simp
theorem sZ (aa f' rows b m:Nat):wT aa f' rows b (m+1)=wT aa f' rows b m+(dP aa f' (b*rows) (m*b*rows) (b*rows)).length:=by
 unfold wT;rw[List.range_succ,List.map_append,List.sum_append];simp
theorem Ed (aa f f' rows cols b:Nat){i j:Nat}(h:i<=j):rT aa f f' rows cols b i<=rT aa f f' rows cols b j:=by
 induction h with
 |refl=>exact Nat.le_refl _
 |step h ih=>rw[sQ];omega
theorem EG (aa f' rows b:Nat){i j:Nat}(h:i<=j):wT aa f' rows b i<=wT aa f' rows b j:=by
 induction h with
 |refl=>exact Nat.le_refl _
 |step h ih=>rw[sZ];omega
theorem Ft (aa f f' rows cols b:Nat):∀ m,rT aa f f' rows cols b m<=m*(2*(b*rows))
 |0=>by simp[rT]
 |m+1=>by
  rw[sQ,Nat.succ_mul];have h1:=Ft aa f f' rows cols b m;have h2:=AX aa f cols (m*b) b rows;have h3:=jg aa f' (b*rows) (m*b*rows) (b*rows);have h4:jC aa f' (b*rows) (m*b*rows) (b*rows)<=(dP aa f' (b*rows) (m*b*rows) (b*rows)).length:=List.length_filter_le _ _;have h5:=Nat.mul_comm rows b;omega
theorem FP (aa f' rows b:Nat):∀ m,wT aa f' rows b m<=m*(b*rows)
 |0=>by simp[wT]
 |m+1=>by
  rw[sZ,Nat.succ_mul];have h1:=FP aa f' rows b m;have h3:=jg aa f' (b*rows) (m*b*rows) (b*rows);omega
structure AR (d d':D)(x y:X)(rows cols b m:Nat):Prop where
 pg:Prog (jd y) d d' (rT (D.aa d) x.f y.f rows cols b m) (wT (D.aa d) y.f rows b m)
 src:∀ k,k<x.w->pw d' x k=pw d x k
 dst:∀ k,k<m*b*rows->pw d' y k=Kt d x rows cols k
def Fx (p q dp ap:Nat)(d:D)(x y:X)(rows cols b:Nat)(cap aj:Int)(bufs:List (Nat×Nat×OA))(v:Value)(M:List As):Prop:=
 (∃ d',AR d d' x y rows cols b (cols/b)/\v= .tuple #[Ot ((sum (form (rD d x rows cols))).toNat:Int),I 0]/\
  M=[af p (bh dp ap x),af q (bh dp ap y),Dk dp d',Ar ap cap (mx aj (bf bufs+(b*rows:Nat)+D.aa d)) bufs])\/
 (∃ d',gW (jd y) d d'/\d.aI<=rT (D.aa d) x.f y.f rows cols b (cols/b)+wT (D.aa d) y.f rows b (cols/b)/\v= .tuple #[Ot 0,I 8]/\
  M=[af p (bh dp ap x),af q (bh dp ap y),Dk dp d',Ar ap cap (mx aj (bf bufs+(b*rows:Nat)+D.aa d)) bufs])
theorem KM (T:List UInt64)(a n:Nat):more (sum (form (T.take a))) (form ((T.drop a).take n))=sum (form (T.take (a+n))):=by
 unfold sum;rw[<- sq,<-sn];congr 2;rw[List.take_add]
def lh (rn p q dp ap bn bb sb vb:Nat)(d0 d':D)(x y:X)(rows cols b m:Nat)(cap pk:Int)(bufs:List (Nat×Nat×OA))(ws:List UInt64)(mb:Nat)(TT:As):List As:=
 [af sb (Oq #[I (rows:Int),I (cols:Int)] 217),af rn (gw (sum (form ((rD d0 x rows cols).take (m*b*rows)))) (8*(m*b*rows)) p q rows cols bn),af bb (.row (ah ws) 108 mb),
  af p (bh dp ap x),af q (bh dp ap y),Dk dp d',Ar ap cap pk (bufs++[(bn,b*rows,some (O bb))]),af vb (.row [V bn] 331 1),TT]
theorem wW (K:VK){TT:As}{sb vb:Nat}{d:D}{rows cols b:Nat}(hok:Ok d)(hx:On d x)(hy:On d y)(ho:d.rd<=2000000000000000000/\d.wr<=2000000000000000000)(hxw:x.w=rows*cols)(hyw:y.w=rows*cols)(hdis:x.f+x.s<=y.f\/y.f+y.s<=x.f)(hb1:1<=b)(hbd:cols=cols/b*b)(hsz:rows*cols<=4294967296)(hr1:1<=rows)(hc1:1<=cols)
  (hcap:(D.aa d:Int)<=cap-bf (bufs++[(bn,b*rows,some (O bb))])) (hbm:∀ z∈bufs,z.1≠bn)
  {P1:Int} (hP1:P1=mx aj (bf (bufs++[(bn,b*rows,some (O bb))])+D.aa d))
  (hK:∀ d' H,AR d d' x y rows cols b (cols/b)->Sep [af p (bh dp ap x),af q (bh dp ap y),Dk dp d',Ar ap cap P1 bufs,TT] H->K (.tuple #[Ot ((sum (form (rD d x rows cols))).toNat:Int),I 0]) H)
  (hK8:∀ d' H,gW (jd y) d d'->d.aI<=rT (D.aa d) x.f y.f rows cols b (cols/b)+wT (D.aa d) y.f rows b (cols/b)->Sep [af p (bh dp ap x),af q (bh dp ap y),Dk dp d',Ar ap cap P1 bufs,TT] H->K (.tuple #[Ot 0,I 8]) H):
  ∀(t m:Nat) (d':D) (pk:Int) (ws:List UInt64) (H:Hp),m+t=cols/b->AR d d' x y rows cols b m->ws.length=b*rows->mx pk (bf (bufs++[(bn,b*rows,some (O bb))])+D.aa d)=P1->(m=0\/pk=P1)->Sep (lh rn p q dp ap bn bb sb vb d d' x y rows cols b m cap pk bufs ws mb TT) H->
   ez.l14 K (t+1) (O sb) (b:Int) (O rn) ((m*b:Nat):Int) (Oo ap) (Oo vb) 1 1 H:=fun t=>by
 have hp:=Ok.eB hok;have hcc:cols/b*b*rows=rows*cols:=by rw[<- hbd,Nat.mul_comm]
 have hnb:cols/b<=cols:=Nat.div_le_self _ _;have hn1:1<=cols/b:=by
  have:cols/b≠0:=fun h0=>by rw[h0,Nat.zero_mul]at hbd;omega
  exact Nat.pos_of_ne_zero this
 have hbr:b*rows<=rows*cols:=by
  rw[<- hcc,Nat.mul_assoc];exact Nat.le_mul_of_pos_left _ hn1
 have hcr:cols*1<=cols*rows:=Nat.mul_le_mul_left cols hr1;rw[Nat.mul_comm cols rows]at hcr;have hbr1:1*rows<=b*rows:=Nat.mul_le_mul_right rows hb1;have hbr2:b*1<=b*rows:=Nat.mul_le_mul_left b hr1;have tP:∀ m,m<=cols/b->m*(2*(b*rows))<=2*(rows*cols)/\m*(b*rows)<=rows*cols:=fun m hm=>by
  have:m*(b*rows)<=rows*cols:=by
   rw[<- hcc,Nat.mul_assoc];exact Nat.mul_le_mul_right _ hm
  refine⟨?_,this⟩;rw[Nat.mul_left_comm];omega
 induction t with
 |zero=>
  intro m d' pk ws H hm hI hws hpk hip hs;have hme:m=cols/b:=by omega
  subst hme;unfold lh at hs;unfold ez.l14;refine hs.cC 0 rfl rfl ?_;simp only[HV];rw[<- hbd];refine aw (Int.lt_irrefl _) ?_;rw[Addr.add_zero];refine ae.use (CrcP.Di hs 1 rfl) ?_
  try simp only[HV]
  refine(gP vb bn (b*rows) (Oo bb) hbm).use hs [6,7] rfl rfl ?_;rintro _ _ H ⟨rfl,rfl⟩ hs;rw[hcc,List.take_of_length_le (by rw[zo];exact Nat.le_refl _)];rw[hip.resolve_left (by omega)]at hs;exact hK d' H hI (hs.re [4,5,6,0,7] rfl)
 |succ t ih=>
  intro m d' pk ws H hm hI hws hpk hip hs;have hmlt:m<cols/b:=by omega
  have hmb:(m+1)*b<=cols:=by
   have h1:(m+1)*b<=cols/b*b:=Nat.mul_le_mul_right b hmlt;omega
  have hmb':=hmb;rw[Nat.succ_mul]at hmb';have hper:D.aa d'=D.aa d:=hI.pg.aa;have hxd:=hx.prog hI.pg;have hyd:=hy.prog hI.pg;have hrt:=Ft (D.aa d) x.f y.f rows cols b m;have hwt:=FP (D.aa d) y.f rows b m;have hcnt:=tP m (by omega);have hrd:=hI.pg.rd;have hwr:=hI.pg.wr;unfold lh at hs;unfold ez.l14;refine hs.cC 0 rfl rfl ?_;simp only[HV];refine aC (by omega) ?_;refine(GO (rn:=rn) (p:=p) (q:=q) (dp:=dp) (ap:=ap) (bn:=bn) (bb:=bb) (s:=sum (form ((rD d x rows cols).take (m*b*rows)))) (sk:=8*(m*b*rows)) (x:=x) (cap:=cap) (aj:=pk) (bufs:=bufs++[(bn,b*rows,some (O bb))]) (mb:=mb) (c:=m*b) hI.pg.ok hI.pg.down hxd (by omega) hxw hb1 hmb' hsz hr1 (by rw[hper];exact hcap) (List.mem_append_right _ (List.mem_singleton.2 rfl)) ws hws).use hs [1,2,3,5,6] rfl rfl ?_;rintro v M H (⟨hgo,rfl,rfl⟩|⟨d2,hdd,hfu,rfl,rfl⟩) hs
  case inr=>
   simp only[HV];refine aT (by decide) ?_;refine(gP vb bn (b*rows) (Oo bb) hbm).use hs [3,6] rfl rfl ?_;rintro _ _ H ⟨rfl,rfl⟩ hs;rw[hper,hpk]at hs;refine hK8 d2 H (hI.pg.dead (hdd.mono fun _ h=>h.elim)) ?_ (hs.re [2,5,3,0,6] rfl);have z1:=hI.pg.aI;have z2:=hI.pg.go;have z3:=Ed (D.aa d) x.f y.f rows cols b (show m+1<=cols/b by omega);have z4:=EG (D.aa d) y.f rows b (show m+1<=cols/b by omega);rw[sQ]at z3;rw[sZ]at z4;rw[hper]at hfu;omega
  simp only[HV];refine aH rfl ?_;rw[hper,hpk,EW d d' x (by omega) hmb' (fun k hk=>hI.src k (by rw[hxw];exact hk))]at hs;have hg:=Prog.bO (jd y) hI.pg.ok hI.pg.down hgo;rw[hper]at hg hgo;have hpg1:=hI.pg.trans hg;have hper1:D.aa (D.bO d' (gR (D.aa d) x.f cols (m*b) b rows))=D.aa d:=hper;generalize hbw:((rD d x rows cols).drop (m*b*rows)).take (b*rows)=bw at*;have hmr:m*b*rows+b*rows<=rows*cols:=by
   have h1:(m*b+b)*rows<=cols*rows:=Nat.mul_le_mul_right rows hmb';rw[Nat.add_mul,Nat.mul_comm cols rows]at h1;exact h1
  have hbl:bw.length=b*rows:=by
   rw[<- hbw,List.length_take,List.length_drop,zo];omega
  have hgl:=AX (D.aa d) x.f cols (m*b) b rows;have hcomm:=Nat.mul_comm rows b;refine(MK (rn:=rn) (p:=p) (q:=q) (dp:=dp) (ap:=ap) (bn:=bn) (bb:=bb) (s:=sum (form ((rD d x rows cols).take (m*b*rows)))) (sk:=8*(m*b*rows)) (y:=y) (rows:=rows) (cols:=cols) (c:=m*b) (cap:=cap) (aj:=P1) (bufs:=bufs++[(bn,b*rows,some (O bb))]) (mb:=mb) (ws:=bw) (d:=D.bO d' (gR (D.aa d) x.f cols (m*b) b rows)) hpg1.ok hpg1.down (hy.prog hpg1) ⟨by show d'.rd+_<=_;omega,by show d'.wr<=_;omega⟩ (by omega) (by rw[hbl,hyw];exact hmr) (by omega) (by omega) (by rw[hper1];exact hcap) (by rw[hbl];exact List.mem_append_right _ (List.mem_singleton.2 rfl))).use hs [0,1,6,3,4] rfl rfl ?_;have hPP:mx P1 (bf (bufs++[(bn,b*rows,some (O bb))])+D.aa d)=P1:=by rw[hP1,ya]
  rintro v M H hQ hs;unfold MJ at hQ;rw[hper1,hbl]at hQ;rcases hQ with(⟨hpg2,rfl,rfl⟩|⟨d2,hdd,hfu,rfl,rfl⟩)
  case inr=>
   simp only[HV];refine aT (by decide) ?_;refine(gP vb bn (b*rows) (Oo bb) hbm).use hs [2,5] rfl rfl ?_;rintro _ _ H ⟨rfl,rfl⟩ hs;rw[hPP]at hs;refine hK8 d2 H (hpg1.dead hdd) ?_ (hs.re [3,1,2,0,5] rfl);have z1:=hpg1.aI;have z2:=hpg1.go;have z3:=Ed (D.aa d) x.f y.f rows cols b (show m+1<=cols/b by omega);have z4:=EG (D.aa d) y.f rows b (show m+1<=cols/b by omega);rw[sQ]at z3;rw[sZ]at z4;omega
  simp only[HV];refine aH rfl ?_;have hpg3:=hpg1.trans hpg2;have hrT:rT (D.aa d) x.f y.f rows cols b m+gR (D.aa d) x.f cols (m*b) b rows+jC (D.aa d) y.f (b*rows) (m*b*rows) (b*rows)=rT (D.aa d) x.f y.f rows cols b (m+1):=by rw[sQ];omega
  have hwT:wT (D.aa d) y.f rows b m+0+(dP (D.aa d) y.f (b*rows) (m*b*rows) (b*rows)).length=wT (D.aa d) y.f rows b (m+1):=by rw[sZ];omega
  rw[hrT,hwT]at hpg3;have hok1:Ok (D.bO d' (gR (D.aa d) x.f cols (m*b) b rows)):=hpg1.ok;have hpw:=fun k=>zt y hok1 (m*b*rows) bw k
  rw[hbl]at hpw;have hI2:AR d (kO (D.bO d' (gR (D.aa d) x.f cols (m*b) b rows)) y (b*rows) (m*b*rows) bw) x y rows cols b (m+1):=by
   refine⟨hpg3,fun k hk=>hpg3.pw hok hx (fun i hi=>?_) hk,fun k hk=>?_⟩
   .unfold jd at hi;omega
   .rw[hpw k];have hk2:k<m*b*rows+b*rows:=by
     rw[Nat.succ_mul,Nat.add_mul]at hk;exact hk
    by_cases h1:m*b*rows<=k
    .rw[if_pos ⟨h1,hk2⟩,<-hbw,List.getElem?_take_of_lt (by omega),List.getElem?_drop,show m*b*rows+(k-m*b*rows)=k by omega];unfold rD;rw[List.getElem?_map,List.getElem?_range (by omega)];rfl
    .rw[if_neg (by omega)];have:=hI.dst k (by omega);exact this
  have hcs:=KM (rD d x rows cols) (m*b*rows) (b*rows);rw[hbw]at hcs;have htk:m*b*rows+b*rows=(m+1)*b*rows:=by rw[Nat.succ_mul,Nat.add_mul]
  have hsk:8*(m*b*rows)+8*(b*rows)=8*((m+1)*b*rows):=by rw[<- htk];omega
  rw[hcs,hsk,htk,hPP]at hs;rw[show i64.wrap (((m*b:Nat):Int)+(b:Int))=(((m+1)*b:Nat):Int) by rw[show(((m*b:Nat):Int)+(b:Int))=(((m+1)*b:Nat):Int) by rw[Nat.succ_mul];omega,ed]];refine ih (m+1) _ P1 bw H (by omega) hI2 hbl hPP (.inr rfl) ?_;exact hs.re [6,0,1,5,2,3,4,7,8] rfl
end
end Trn
end Go.Proofs.YtlgnlghmbcpmhaaGreatDoor
