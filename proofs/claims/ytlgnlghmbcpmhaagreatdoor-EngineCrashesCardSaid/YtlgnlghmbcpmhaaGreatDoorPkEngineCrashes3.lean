import Derived.Test.YtlgnlghmbcpmhaaGreatDoorProg
import Derived.DeepKeys
import Derived.Shelf.SlIterI.Nil
import Derived.Shelf.SortM.Plain
import Derived.Shelf.SortM.SortNone
import Derived.Ground.GgzProg
import Derived.Ground.SlgmProg
import Derived.Test.YtlgnlghmbcpmhaaGreatDoorPkEngineCrashes2
set_option maxRecDepth 100000
set_option linter.unusedSimpArgs false
set_option linter.unusedVariables false
set_option linter.unnecessarySimpa false
set_option linter.unusedSectionVars false
open Go.IntKind (i64 u64 u8)
namespace Go.Proofs.YtlgnlghmbcpmhaaGreatDoor
open Tryz (prog)
namespace Lay
open Go Go.Hw W
def wC (f s w:Int):Array Value:=#[I f,I s,I w]
def i6 (k p:Nat):Array Value:=
 let r:Int:=bS k p
 let w:Int:=(2^k:Nat)
 #[I k,I p,I 1,I 8,I ((8*p:Nat):Int),I 9,I r,I w,I (9+r),I r,I w,I (9+2*r),I r,I w,I (9+3*r),I r,I w]
def B2 :Array Value:=#[I 0,I 0,I 0,I 0,I 0,I 0,I 0,I 0,I 0,I 0,I 0,I 0,I 0,I 0,I 0,I 0,I 0]
theorem rZ (K:VK)(d b1 b2:Nat)(e:TypeId)(k:Nat)(hk:k<=32)(H:Hp)(c:Array Value)(hc:c.size=17)(x r:Int)(hx:0<=x/\x<=100000000000)(hr:0<=r/\r<=100000000000)(i:Nat)(hi:i<4)
  (h:dy.l4 K d (k:Int) (O b1) (O b2) (x+r) r ((i+1:Nat):Int) (H.set b2 (Oq (setAt c.toList (5+i*3) (wC x r ((2^k:Nat):Int)).toList).toArray e))):
  dy.l4 K (d+1) (k:Int) (O b1) (O b2) x r (i:Int) (H.set b2 (Oq c e)):=by
 conv=>unfold dy.l4
 refine aC (by omega) ⟨by rw[fW];omega,by omega,by omega,?_⟩;simp only[Addr.bm,Int.toNat_natCast,Nat.zero_add];rw[fW,pf (by omega)];refine Dv (Hp.bI _ _ _) (by omega) (by rfl) (by rfl) ?_;rw[Hp.set_set,bu (x:=x+r),bu (x:=(i:Int)+1)];exact h
theorem G5 {k p:Nat}(hk:k<=32)(hp:0<p)(hp2:p<=512)(H:Hp):ae prog 252 #[I k,I p] H (RetE (.agg (i6 k p)) H):=by
 apply ae.ret;apply dy.ok;unfold dy;intro b1 hb1;intro b2 hb2';obtain⟨hne,hb2⟩:=Hp.xc hb2';refine qH (Hp.bI _ _ _) (by rfl) (by rfl) (by rfl) ?_;rw[Hp.set_set];refine ae.use (Ej (k:=k) (p:=p) (by omega) hp (by omega) _) ?_
 try simp only[HV]
 have hr:=Cx (k:=k) (p:=p);have w8:i64.wrap (8*(p:Int))=((8*p:Nat):Int):=by rw[bu];omega
 rw[w8];refine⟨5,?_⟩;refine rZ _ 4 b1 b2 _ k hk _ _ (by rfl) 9 _ (by omega) (by omega) 0 (by omega) ?_;refine rZ _ 3 b1 b2 _ k hk _ _ (by rfl) _ _ (by omega) (by omega) 1 (by omega) ?_;refine rZ _ 2 b1 b2 _ k hk _ _ (by rfl) _ _ (by omega) (by omega) 2 (by omega) ?_;refine rZ _ 1 b1 b2 _ k hk _ _ (by rfl) _ _ (by omega) (by omega) 3 (by omega) ?_;unfold dy.l4;refine aw (by decide) ?_;have hv:(setAt (setAt (setAt (setAt (#[I (k:Int),I (p:Int),I 1,I 8,I ((8*p:Nat):Int),I 0,I 0,I 0,I 0,I 0,I 0,I 0,I 0,I 0,I 0,I 0,I 0]:Array Value).toList
   (5+0*3) (wC 9 (bS k p) ((2^k:Nat):Int)).toList).toArray.toList (5+1*3) (wC (9+bS k p) (bS k p) ((2^k:Nat):Int)).toList).toArray.toList (5+2*3) (wC (9+bS k p+bS k p) (bS k p) ((2^k:Nat):Int)).toList).toArray.toList (5+3*3) (wC (9+bS k p+bS k p+bS k p) (bS k p) ((2^k:Nat):Int)).toList).toArray=i6 k p:=by
  have e2:(9+(bS k p:Int)+bS k p)=9+2*bS k p:=by omega
  have e3:(9+2*(bS k p:Int)+bS k p)=9+3*bS k p:=by omega
  rw[e2,e3];rfl
 rw[hv];refine nO (Hp.bI _ _ _) (by rfl) ?_;refine qH (c:=B2) (y:=(i6 k p)) (by rw[Hp.bV _ _ (Ne.symm hne)];exact Hp.bI _ _ _) (by rfl) (by rfl) (by rfl) ?_;refine nO (Hp.bI _ _ _) (by rfl) ?_;exact⟨rfl,fun b q hq=>by
  have h1:b≠b1:=fun e=>by rw[e,hb1]at hq;cases hq
  have h2:b≠b2:=fun e=>by rw[e,hb2]at hq;cases hq
  rw[Hp.bV _ _ h1,Hp.bV _ _ h2,Hp.bV _ _ h1];exact hq⟩
def nP (k sec s:Int):Array Value×Int:=
 if 0<=k/\k<=32/\0<cc s then(if sec<fI k.toNat (cc s)then(B2,7)else(i6 k.toNat (cc s),0))else(B2,1)
theorem lF (k sec s:Int)(H:Hp):ae prog 181 #[I k,I sec,I s] H (RetE (.tuple #[.agg (nP k sec s).1,I (nP k sec s).2]) H):=by
 apply ae.ret;apply px.ok;unfold px;intro b hb;have hle:=fun o=>Hp.kI (o:=o) hb
 refine ae.use (vf k s _) ?_
 try simp only[HV]
 unfold nP pn;by_cases h:0<=k/\k<=32/\0<cc s
 .rw[if_pos h,if_pos h];refine bQ (by rfl) ?_;by_cases h2:sec<(fI k.toNat (cc s):Int)
  .rw[if_pos h2];refine aC h2 ?_;refine qH (Hp.bI _ _ _) (by rfl) (by rfl) (by rfl) (nO (Hp.bI _ _ _) (by rfl) ?_);rw[Hp.set_set];exact⟨rfl,hle _⟩
  .rw[if_neg h2];refine aw h2 ?_;refine ae.use (yb s _) ?_
   try simp only[HV]
   obtain⟨n,rfl⟩:=Int.eq_ofNat_of_zero_le h.1;have:=sP s;refine ae.use (G5 (k:=n) (p:=cc s) (by omega) h.2.2 this _) ?_
   try simp only[HV]
   refine qH (Hp.bI _ _ _) (by rfl) (by rfl) (by rfl) (nO (Hp.bI _ _ _) (by rfl) ?_);rw[Hp.set_set];exact⟨rfl,hle _⟩
 .rw[if_neg h,if_neg h];refine cV (by rfl) ?_;refine qH (Hp.bI _ _ _) (by rfl) (by rfl) (by rfl) (nO (Hp.bI _ _ _) (by rfl) ?_);rw[Hp.set_set];exact⟨rfl,hle _⟩
def lu (f s w p i:Int):Int×Int×Int:=if p<1\/i<0\/i>=w\/Int.tdiv i p>=s then(0,0,2)else(f+Int.tdiv i p,Int.tmod i p,0)
theorem Gk (f s w p i:Int)(hf:0<=f/\f<=1000000000000)(hw:w<=1000000000000)(H:Hp):
  ae prog 316 #[.agg (wC f s w),I p,I i] H (RetE (.tuple #[I (lu f s w p i).1,I (lu f s w p i).2.1,I (lu f s w p i).2.2]) H):=by
 apply ae.ret;apply lI.ok;unfold lI;intro b hb;have hle:=Hp.kI (o:=Oq #[I f,I s,I w] 150) hb;simp only[Addr.bm,Nat.zero_add];have no:(p<1\/i<0\/i>=w\/Int.tdiv i p>=s)->lG (.tuple #[I (lu f s w p i).1,I (lu f s w p i).2.1,I (lu f s w p i).2.2]) H (.tuple #[I 0,I 0,I 2]) (H.set b (Oq #[I f,I s,I w] 150)):=fun h=>by
  unfold lu;rw[if_pos h];exact⟨rfl,hle⟩
 rw[iR,iR];split
 .exact no (by omega)
 split
 .exact no (by omega)
 refine eV (Hp.bI _ _ _) (v:=I w) rfl ?_;simp only[HV];rw[iR];split
 .exact no (by omega)
 refine⟨by omega,by simp,?_⟩;refine eV (Hp.bI _ _ _) (v:=I s) rfl ?_;simp only[HV];have h1:0<=Int.tdiv i p:=Int.tdiv_nonneg (by omega) (by omega);have h2:Int.tdiv i p<=i:=by
  obtain⟨a,rfl⟩:=Int.eq_ofNat_of_zero_le (show 0<=i by omega);obtain⟨c,rfl⟩:=Int.eq_ofNat_of_zero_le (show 0<=p by omega);exact Int.ofNat_le.2 (Nat.div_le_self a c)
 rw[bu (x:=Int.tdiv i p),iR];split
 .rename_i h3;exact no (by omega)
 refine eV (Hp.bI _ _ _) (v:=I f) rfl ?_;simp only[HV];refine⟨by omega,by simp,by omega,by simp,?_⟩;rw[bu (x:=f+Int.tdiv i p)];unfold lu;rw[if_neg (by omega)];exact⟨rfl,hle⟩
def DK (r:Int)(i:Nat):Int:=9+i*r
theorem G4 (k p i:Nat)(hi:i<4):(i6 k p)[5+i*3]? =some (I (DK (bS k p) i)):=by
 unfold DK;rcases(by omega:i=0\/i=1\/i=2\/i=3)with rfl|rfl|rfl|rfl<;>simp[i6]
section
variable (K : Value -> Hp -> Prop) (k p e : Nat) (hk : k <= 10) (b1 b2 : Nat) (H0 H : Hp) (hle : H0.le H) (h1 : H b1 = some (Oq (i6 k p) 153)) (h2 : H b2 = some (Oq (wC (DK (bS k p) e) (bS k p) ((2 ^ k : Nat) : Int)) 150))
include hk hle h1 h2
end
end Lay
namespace W
open Go Go.Hw
theorem je :prog.follows .mixedOrders=true:=by kernel_rfl
def nh (A1:OA)(n1 m1:Nat)(H:Hp)(K:VK):Prop:=
 cF 209 #[.slice A1 n1 m1,.func (.func 210) #[] #[]] H fun x1 H1=>K (.tuple #[I (if 0>x1 then 0 else x1),.bool (decide (x1<0))]) H1
theorem nh.ok A1 n1 m1 H K (h:nh A1 n1 m1 H K):ae prog 146 #[.slice A1 n1 m1] H K:=
 cg je Tryz.func146 rfl rfl h
def od (A1:OA)(n1 m1:Nat)(x1:Int)(H:Hp)(K:VK):Prop:=
 fS 261 #[.slice A1 n1 m1,I x1] H fun c1 H1=>ao (!c1) (K (.tuple #[U 0,I 2]) H1) (mP n1 m1 (some (i64.wrap (8*x1))) none fun n2 n3=>fe 262 #[.slice (jk A1 m1 n2 1) (n3-n2) (m1-n2)] H1 fun x2 H2=>K (.tuple #[U x2,I 0]) H2)
theorem od.ok A1 n1 m1 x1 H K (h:od A1 n1 m1 x1 H K):ae prog 192 #[.slice A1 n1 m1,I x1] H K:=
 cg je Tryz.func192 rfl rfl h
def lH (x1:Int)(H:Hp)(K:VK):Prop:=
 fS 211 #[U x1] H fun c1 H1=>K (.bool (!c1)) H1
theorem lH.ok x1 H K (h:lH x1 H K):ae prog 210 #[U x1] H K:=
 cg je Tryz.func210 rfl rfl h
def dS.l3 (K:VK):Nat->OA->Nat->Nat->OA->Nat->Nat->Int->Int->Hp->Prop
 |0,_,_,_,_,_,_,_,_,_=>False
 |k+1,A3,n3,m3,A4,n4,m4,x1,x2,H=>
  let R3:=dS.l3 K k
  ao (decide (x2<x1)) (cX x2 n4 (NN A4 fun a1=>eo H (a1.add (x2.toNat*1)) fun x3=>mP n3 m3 (some (i64.wrap (8*x2))) none fun n5 n6=>Hz 271 #[.slice (jk A3 m3 n5 1) (n6-n5) (m3-n5),U x3] H fun v3 H2=>R3 A3 n3 m3 A4 n4 m4 x1 (i64.wrap (x2+1)) H2)) (K (.slice A3 n3 m3) H)
def dS (A1:OA)(n1 m1:Nat)(H:Hp)(K:VK):Prop:=
 lj prog 5 (i64.wrap (8*(n1:Int))) (i64.wrap (8*(n1:Int))) H fun v1 H1=>aF v1 fun A2 n2 m2=>(∃ k,dS.l3 K k A2 n2 m2 A1 n1 m1 (n1:Int) 0 H1)
def dS.l3.L (K:VK)(k:Nat):dm:=fun E D H=>
 DG (E.get? 3) fun w3=>aF w3 fun A3 n3 m3=>DG (E.get? 10) fun w10=>aF w10 fun A4 n4 m4=>eI E 11 .i64 fun x1=>eI E 12 .i64 fun x2=>az D (dS.l3 K k A3 n3 m3 A4 n4 m4 x1 x2 H)
def dS.Λ3 (_:VK)(_R3:OA->Nat->Nat->OA->Nat->Nat->Int->Int->Hp->Prop):aN:=aN.none (fun _=>none)
def dS.Λ (K:VK):aN:=⟨fun i=>none,fun i=>match Nat.beq i 3 with|true=>some (fun E D H=>∃ k,dS.l3.L K k E D H)|false=>none,(fun _=>none)⟩
theorem dS.ok A1 n1 m1 H K (h:dS A1 n1 m1 H K):ae prog 214 #[.slice A1 n1 m1] H K:=
 dX (Λ:=(dS.Λ K)) je Tryz.func214 rfl rfl h (oC (fun E D H h=>by
   refine Safe.c0 (dS.l3.L K) (fun E D H h=>?_) (fun k E D H h=>?_) E D H h
   .obtain⟨w3,e3,g1⟩:=DG.out h;obtain⟨A3,n3,m3,rfl,g2⟩:=aF.out g1;obtain⟨w10,e10,g3⟩:=DG.out g2;obtain⟨A4,n4,m4,rfl,g4⟩:=aF.out g3;obtain⟨w11,e11,g5⟩:=DG.out g4;obtain⟨x1,rfl,g6⟩:=DI.out g5;obtain⟨w12,e12,g7⟩:=DG.out g6;obtain⟨x2,rfl,g8⟩:=DI.out g7;obtain⟨rfl,h'⟩:=az.out g8;exact h'
   .obtain⟨w3,e3,g1⟩:=DG.out h;obtain⟨A3,n3,m3,rfl,g2⟩:=aF.out g1;obtain⟨w10,e10,g3⟩:=DG.out g2;obtain⟨A4,n4,m4,rfl,g4⟩:=aF.out g3;obtain⟨x1,e11,g6⟩:=GI g4;obtain⟨x2,e12,g8⟩:=GI g6;obtain⟨rfl,h'⟩:=az.out g8;exact cY (Λ:=(dS.Λ3 K (dS.l3 K k))) je [] (ag.cons e3 (ag.cons e10 (ag.cons e11 (ag.cons e12 (ag.nil _))))) h' oN) oN)
def mn (A1:OA)(n1 m1:Nat)(x1:Int)(H:Hp)(K:VK):Prop:=
 ao (decide (x1>=0)) (((8:Int)≠0/\i64=i64/\K (.bool (decide (x1<(i64.wrap (Int.tdiv (n1:Int) 8))))) H)) (K (.bool false) H)
theorem mn.ok A1 n1 m1 x1 H K (h:mn A1 n1 m1 x1 H K):ae prog 261 #[.slice A1 n1 m1,I x1] H K:=
 cg je Tryz.func261 rfl rfl h
def dN.l3 (K:VK):Nat->OA->Nat->Nat->Int->Int->Hp->Prop
 |0,_,_,_,_,_,_=>False
 |k+1,A2,n2,m2,x1,x2,H=>
  let R3:=dN.l3 K k
  ao (decide (x2>=0)) ((0<=(8:Int)/\cX x2 n2 (NN A2 fun a1=>JX H (a1.add (x2.toNat*1)) fun x3=>R3 A2 n2 m2 (lP .u64 (dA .u64 x1 8) (u64.wrap x3)) (i64.wrap (x2-1)) H))) (K (U x1) H)
def dN (A1:OA)(n1 m1:Nat)(H:Hp)(K:VK):Prop:=
 (∃ k,dN.l3 K k A1 n1 m1 0 7 H)
def dN.l3.L (K:VK)(k:Nat):dm:=fun E D H=>
 DG (E.get? 0) fun w0=>aF w0 fun A2 n2 m2=>eI E 3 .u64 fun x1=>eI E 4 .i64 fun x2=>az D (dN.l3 K k A2 n2 m2 x1 x2 H)
def dN.Λ3 (_:VK)(_R3:OA->Nat->Nat->Int->Int->Hp->Prop):aN:=aN.none (fun _=>none)
def dN.Λ (K:VK):aN:=⟨fun i=>none,fun i=>match Nat.beq i 3 with|true=>some (fun E D H=>∃ k,dN.l3.L K k E D H)|false=>none,(fun _=>none)⟩
theorem dN.ok A1 n1 m1 H K (h:dN A1 n1 m1 H K):ae prog 262 #[.slice A1 n1 m1] H K:=
 dX (Λ:=(dN.Λ K)) je Tryz.func262 rfl rfl h (oC (fun E D H h=>by
   refine Safe.c0 (dN.l3.L K) (fun E D H h=>?_) (fun k E D H h=>?_) E D H h
   .obtain⟨w0,e0,g1⟩:=DG.out h;obtain⟨A2,n2,m2,rfl,g2⟩:=aF.out g1;obtain⟨w3,e3,g3⟩:=DG.out g2;obtain⟨x1,rfl,g4⟩:=DI.out g3;obtain⟨w4,e4,g5⟩:=DG.out g4;obtain⟨x2,rfl,g6⟩:=DI.out g5;obtain⟨rfl,h'⟩:=az.out g6;exact h'
   .obtain⟨w0,e0,g1⟩:=DG.out h;obtain⟨A2,n2,m2,rfl,g2⟩:=aF.out g1;obtain⟨x1,e3,g4⟩:=GI g2;obtain⟨x2,e4,g6⟩:=GI g4;obtain⟨rfl,h'⟩:=az.out g6;exact cY (Λ:=(dN.Λ3 K (dN.l3 K k))) je [] (ag.cons e0 (ag.cons e3 (ag.cons e4 (ag.nil _)))) h' oN) oN)
def dZ.l1 (K:VK):Nat->OA->Nat->Nat->Int->Int->Hp->Prop
 |0,_,_,_,_,_,_=>False
 |k+1,A2,n2,m2,x2,x3,H=>
  let R1:=dZ.l1 K k
  ao (decide (x3<8)) ((0<=(u64.wrap (i64.wrap (8*x3)))/\cX x3 n2 (NN A2 fun a1=>St H ((a1.add (x3.toNat*1)).add 0) (.int .u8 (u8.wrap (cT .u64 x2 (u64.wrap (i64.wrap (8*x3)))))) fun H1=>R1 A2 n2 m2 x2 (i64.wrap (x3+1)) H1))) (K (.tuple #[]) H)
def dZ (A1:OA)(n1 m1:Nat)(x1:Int)(H:Hp)(K:VK):Prop:=
 (∃ k,dZ.l1 K k A1 n1 m1 x1 0 H)
def dZ.l1.L (K:VK)(k:Nat):dm:=fun E D H=>
 DG (E.get? 0) fun w0=>aF w0 fun A2 n2 m2=>eI E 1 .u64 fun x2=>eI E 5 .i64 fun x3=>az D (dZ.l1 K k A2 n2 m2 x2 x3 H)
def dZ.Λ1 (_:VK)(_R1:OA->Nat->Nat->Int->Int->Hp->Prop):aN:=aN.none (fun _=>none)
def dZ.Λ (K:VK):aN:=⟨fun i=>none,fun i=>match Nat.beq i 1 with|true=>some (fun E D H=>∃ k,dZ.l1.L K k E D H)|false=>none,(fun _=>none)⟩
theorem dZ.ok A1 n1 m1 x1 H K (h:dZ A1 n1 m1 x1 H K):ae prog 271 #[.slice A1 n1 m1,U x1] H K:=
 dX (Λ:=(dZ.Λ K)) je Tryz.func271 rfl rfl h (oC (fun E D H h=>by
   refine Safe.c0 (dZ.l1.L K) (fun E D H h=>?_) (fun k E D H h=>?_) E D H h
   .obtain⟨w0,e0,g1⟩:=DG.out h;obtain⟨A2,n2,m2,rfl,g2⟩:=aF.out g1;obtain⟨w1,e1,g3⟩:=DG.out g2;obtain⟨x2,rfl,g4⟩:=DI.out g3;obtain⟨w5,e5,g5⟩:=DG.out g4;obtain⟨x3,rfl,g6⟩:=DI.out g5;obtain⟨rfl,h'⟩:=az.out g6;exact h'
   .obtain⟨w0,e0,g1⟩:=DG.out h;obtain⟨A2,n2,m2,rfl,g2⟩:=aF.out g1;obtain⟨x2,e1,g4⟩:=GI g2;obtain⟨x3,e5,g6⟩:=GI g4;obtain⟨rfl,h'⟩:=az.out g6;exact cY (Λ:=(dZ.Λ1 K (dZ.l1 K k))) je [] (ag.cons e0 (ag.cons e1 (ag.cons e5 (ag.nil _)))) h' oN) oN)
theorem qZ :prog.follows .mixedOrders=true:=by kernel_rfl
def cn.l4 (K:VK):Nat->OA->Nat->Nat->OA->Nat->Nat->Int->Hp->Prop
 |0,_,_,_,_,_,_,_,_=>False
 |k+1,A3,n3,m3,A4,n4,m4,x1,H=>
  let R4:=cn.l4 K k
  ao (decide (x1<(n3:Int))) (cX x1 n3 (NN A3 fun a1=>eo H (a1.add (x1.toNat*1)) fun x2=>cX x1 n4 (NN A4 fun a2=>eo H (a2.add (x1.toNat*1)) fun x3=>ao (x2 !=x3) (K (.bool false) H) (R4 A3 n3 m3 A4 n4 m4 (i64.wrap (x1+1)) H)))) (K (.bool true) H)
def cn (A1:OA)(n1 m1:Nat)(A2:OA)(n2 m2:Nat)(H:Hp)(K:VK):Prop:=
 ao ((n1:Int) !=(n2:Int)) (K (.bool false) H) ((∃ k,cn.l4 K k A1 n1 m1 A2 n2 m2 0 H))
def cn.l4.L (K:VK)(k:Nat):dm:=fun E D H=>
 DG (E.get? 0) fun w0=>aF w0 fun A3 n3 m3=>DG (E.get? 1) fun w1=>aF w1 fun A4 n4 m4=>eI E 5 .i64 fun x1=>az D (cn.l4 K k A3 n3 m3 A4 n4 m4 x1 H)
def cn.Λ4 (_:VK)(_R4:OA->Nat->Nat->OA->Nat->Nat->Int->Hp->Prop):aN:=aN.none (fun _=>none)
def cn.Λ (K:VK):aN:=⟨fun i=>none,fun i=>match Nat.beq i 4 with|true=>some (fun E D H=>∃ k,cn.l4.L K k E D H)|false=>none,(fun _=>none)⟩
theorem cn.ok A1 n1 m1 A2 n2 m2 H K (h:cn A1 n1 m1 A2 n2 m2 H K):ae prog 20 #[.slice A1 n1 m1,.slice A2 n2 m2] H K:=
 dX (Λ:=(cn.Λ K)) qZ Tryz.func20 rfl rfl h (oC (fun E D H h=>by
   refine Safe.c0 (cn.l4.L K) (fun E D H h=>?_) (fun k E D H h=>?_) E D H h
   .obtain⟨w0,e0,g1⟩:=DG.out h;obtain⟨A3,n3,m3,rfl,g2⟩:=aF.out g1;obtain⟨w1,e1,g3⟩:=DG.out g2;obtain⟨A4,n4,m4,rfl,g4⟩:=aF.out g3;obtain⟨w5,e5,g5⟩:=DG.out g4;obtain⟨x1,rfl,g6⟩:=DI.out g5;obtain⟨rfl,h'⟩:=az.out g6;exact h'
   .obtain⟨w0,e0,g1⟩:=DG.out h;obtain⟨A3,n3,m3,rfl,g2⟩:=aF.out g1;obtain⟨w1,e1,g3⟩:=DG.out g2;obtain⟨A4,n4,m4,rfl,g4⟩:=aF.out g3;obtain⟨x1,e5,g6⟩:=GI g4;obtain⟨rfl,h'⟩:=az.out g6;exact cY (Λ:=(cn.Λ4 K (cn.l4 K k))) qZ [] (ag.cons e0 (ag.cons e1 (ag.cons e5 (ag.nil _)))) h' oN) oN)
end W
end Go.Proofs.YtlgnlghmbcpmhaaGreatDoor
namespace Go.Form
open Go Go.Hw
def jw (w:UInt64):List UInt8:=(List.range 8).map fun k=>UInt8.ofNat (w.toNat/256^k)
def form (l:List UInt64):List UInt8:=l.flatMap jw
theorem kG (w:UInt64):(jw w).length=8:=by simp[jw]
theorem ec (l:List UInt64):(form l).length=8*l.length:=by
 induction l with
 |nil=>rfl
 |cons w l ih=>simp only[form,List.flatMap_cons,List.length_append,kG,List.length_cons];rw[show(List.flatMap jw l).length=(form l).length from rfl,ih];omega
theorem sn (a b:List UInt64):form (a++b)=form a++form b:=by simp[form]
theorem GK (l:List UInt64){i:Nat}(h:i<l.length):form (l.take (i+1))=form (l.take i)++jw l[i]:=by
 rw[List.take_succ_eq_append_getElem h,sn];simp[form]
theorem Jq (w:UInt64)(k:Nat):u8.wrap ((w.toNat>>>(8*k):Nat):Int)=((UInt8.ofNat (w.toNat/256^k)).toNat:Int):=by
 rw[NI,Nat.shiftRight_eq_div_pow,show(2:Nat)^(8*k)=256^k from by rw[Nat.pow_mul]];simp
end Go.Form
namespace Go.Proofs.YtlgnlghmbcpmhaaGreatDoor
namespace FormP
open Go Go.Hw Go.Form W
theorem CB (K:VK)(b off n m mm:Nat)(xs:List Value)(e:TypeId)(w:UInt64)(H0:Hp)(ho:off+8<=xs.length)(hn:8<=n)
  (k:K (.tuple #[]) (H0.set b (.row (setAt xs off (aD (jw w))) e mm))):∀(d j:Nat) (H:Hp),j+d=8->H=H0.set b (.row (setAt xs off ((aD (jw w)).take j)) e mm)->
   dZ.l1 K (d+1) (some ⟨b,off,none⟩) n m (w.toNat:Int) (j:Int) H
 |0,j,H,hj,hH=>by
  obtain rfl:j=8:=by omega
  unfold dZ.l1;refine aw (by omega) ?_;rw[List.take_of_length_le (by rw[bz,kG];omega)]at hH;rw[hH];exact k
 |d+1,j,H,hj,hH=>by
  unfold dZ.l1;refine aC (by omega) ?_;rw[bu (x:=8*(j:Int)),i7];refine⟨by omega,by omega,by omega,?_⟩;simp only[dQ,Addr.bm,Int.toNat_natCast,Nat.mul_one,Nat.add_zero];rw[HN w.toNat (i:=8*(j:Int)) (n:=8*j) (by omega) (by show 8*j<=64;omega),Jq,bu];have hlen:(aD (jw w)).length=8:=by rw[bz,kG]
  have hb:H b=some (.row (setAt xs off ((aD (jw w)).take j)) e mm):=by rw[hH];exact Hp.bI _ _ _
  refine BH hb (by rw[iy (by rw[List.length_take,hlen];omega)];omega) rfl ?_;refine CB K b off n m mm xs e w H0 ho hn k d (j+1) _ (by omega) ?_;rw[hH,Hp.set_set];congr 2;have:=FB (xs:=xs) (vs:=aD (jw w)) (off:=off) (k:=j) (by rw[hlen];exact ho) (by rw[hlen];omega);rw[<- this];congr 1;simp[aD,jw]
theorem M9 (b off n m mm:Nat)(xs:List Value)(e:TypeId)(w:UInt64)(H:Hp)(hb:H b=some (.row xs e mm))(ho:off+8<=xs.length)(hn:8<=n):
  ae Tryz.prog 271 #[.slice (some ⟨b,off,none⟩) n m,U (w.toNat:Int)] H (RetE (.tuple #[]) (H.set b (.row (setAt xs off (aD (jw w))) e mm))):=by
 apply dZ.ok;refine⟨9,CB _ b off n m mm xs e w H ho hn (RetE.mk _ _) 8 0 H rfl ?_⟩;rw[List.take_zero,nX,Hp.yr hb]
theorem LA (b m l:Nat):jk (Oo b) m l 1=if m=l then some (O b)else some ⟨b,l,none⟩:=by
 unfold jk;split
 .rfl
 .simp
theorem Bz (K:VK)(b:Nat)(e:TypeId)(A:OA)(n m:Nat)(l:List UInt64)(hn:n=l.length)(hm:n<=17592186044416)(H0:Hp)(hb0:H0 b=none)(hl:Cells H0 A (ah l))(z:List Value)(hz:z.length=8*n)
  (k:∀ H,H=H0.set b (.row (aD (form l)) e (8*n))->K (.slice (Oo b) (8*n) (8*n)) H):∀(d j:Nat) (H:Hp),j+d=n->H=H0.set b (.row (setAt z 0 (aD (form (l.take j)))) e (8*n))->
   dS.l3 K (d+1) (Oo b) (8*n) (8*n) A n m (n:Int) (j:Int) H
 |0,j,H,hj,hH=>by
  unfold dS.l3;refine aw (by omega) (k _ ?_);rw[hH,List.take_of_length_le (by omega),pX (by rw[bz,ec,hz,hn])]
 |d+1,j,H,hj,hH=>by
  unfold dS.l3;refine aC (by omega) ?_;have hlt:j<l.length:=by omega
  have hle:H0.le H:=by rw[hH];exact Hp.kI hb0
  refine(hl.le hle).read (i:=j) (v:=U (l[j].toNat:Int)) (by rw[dO,List.getElem?_eq_getElem hlt];rfl) rfl (by rw[aG];omega) ?_;simp only[HV];rw[bu (x:=8*(j:Int))];refine⟨by omega,by omega,?_⟩
  dsimp only
  rw[show(8*(j:Int)).toNat=8*j by omega,LA,if_neg (by omega)];have hlen:(aD (form (l.take j))).length=8*j:=by rw[bz,ec,List.length_take,Nat.min_eq_left (by omega)]
  have hb:H b=some (.row (setAt z 0 (aD (form (l.take j)))) e (8*n)):=by rw[hH];exact Hp.bI _ _ _
  have hsl:(setAt z 0 (aD (form (l.take j)))).length=8*n:=by rw[iy,hz]
  refine ae.use (M9 b (8*j) _ _ _ _ e l[j] H hb (by omega) (by omega)) ?_;rw[bu];refine Bz K b e A n m l hn hm H0 hb0 hl z hz k d (j+1) _ (by omega) ?_;rw[hH,Hp.set_set];congr 2;rw[GK l hlt,rQ];have h8:(aD (jw l[j])).length=8:=by rw[bz,kG]
  rw[<- Df (by rw[hlen,h8];omega),hlen]
theorem lA :eJ Tryz.prog 5=some (1,1,some #[.int .u8 0]):=by kernel_rfl
theorem pR (A:OA)(n m:Nat)(l:List UInt64)(hn:n=l.length)(hm:n<=17592186044416)(H:Hp)(hl:Cells H A (ah l)):
  ae Tryz.prog 214 #[.slice A n m] H (fun v H'=>∃ b,H b=none/\v= .slice (Oo b) (8*n) (8*n)/\H'=H.set b (.row (aD (form l)) 5 (8*n))):=by
 apply dS.ok;unfold dS;rw[bu (x:=8*(n:Int))];refine Bx lA rfl (n:=8*n) (m:=8*n) (by omega) (by omega) (Nat.le_refl _) (by omega) (by omega) ?_;intro b hb;rw[Nat.mul_one];simp only[HV];refine⟨n+1,?_⟩;refine Bz _ b 5 A n m l hn hm H hb hl (cZ [.int .u8 0] (8*n)) (by rw[fG];simp) ?_ n 0 _ (by omega) ?_
 .intro H' hH;exact⟨b,hb,rfl,hH⟩
 .rw[List.take_zero];simp[form,aD,nX]
end FormP
end Go.Proofs.YtlgnlghmbcpmhaaGreatDoor
namespace Go.Form
open Go Go.Hw
theorem C8 (w:UInt64):jw w=qU 8 w.toNat:=Db 8 w.toNat
theorem G6 (w:UInt64):ln (jw w)=w.toNat:=by
 rw[C8,xW];exact Nat.mod_eq_of_lt w.toNat_lt
def aP (bs:List UInt8)(o:Nat):Nat:=ln ((bs.drop o).take 8)
theorem iQ (bs:List UInt8)(o:Nat):aP bs o<2^64:=DV (by simp;omega)
theorem GJ (l:List UInt64)(i:Nat):(form l).drop (8*i)=form (l.drop i):=by
 induction i generalizing l with
 |zero=>simp
 |succ i ih=>
  cases l with
  |nil=>simp[form]
  |cons w l=>
   rw[List.drop_succ_cons,<-ih];show List.drop (8*(i+1)) (jw w++form l)=_
   rw[show 8*(i+1)=(jw w).length+8*i by rw[kG];omega,List.drop_append];simp
theorem mL {l:List UInt64}{i:Nat}(h:i<l.length)(r:List UInt8):aP (form l++r) (8*i)=l[i].toNat:=by
 unfold aP;rw[List.drop_append_of_le_length (by rw[ec];omega),GJ,List.drop_eq_getElem_cons h];show ln (((jw l[i]++form (l.drop (i+1)))++r).take 8)=_
 rw[List.append_assoc,List.take_left' (kG _),G6]
end Go.Form
namespace Go.Proofs.YtlgnlghmbcpmhaaGreatDoor
namespace FormP
open Go Go.Hw Go.Form W
theorem AD (K:VK)(A:OA)(n m:Nat)(bs:List UInt8)(hl:bs.length=8)(hn:8<=n)(H:Hp)(hb:Cells H A (aD bs))(k:K (U (ln bs:Nat)) H):∀ j:Nat,j<=8->
  dN.l3 K (j+1) A n m ((ln (bs.drop j):Nat):Int) ((j:Int)-1) H
 |0,_=>by
  unfold dN.l3;refine aw (by omega) ?_;exact k
 |j+1,hj=>by
  unfold dN.l3;refine aC (by omega) ⟨by omega,?_⟩;rw[show(((j+1:Nat):Int)-1)=(j:Int) by omega];have hlt:j<bs.length:=by omega
  refine⟨by omega,by omega,?_⟩;obtain⟨a,rfl,hc⟩:=hb j (.int .u8 (bs[j].toNat:Int)) (by rw[qT,List.getElem?_eq_getElem hlt];rfl);show Ld H _ _
  refine pj (v:=.int .u8 (bs[j].toNat:Int)) (by rw[Int.toNat_natCast,Nat.mul_one];exact hc) ?_;simp only[HV];have h1:ln (bs.drop (j+1))<256^7:=by
   have h1:=B5 (bs.drop (j+1));have h2:256^(bs.drop (j+1)).length<=256^7:=Nat.pow_le_pow_right (by omega) (by simp;omega);omega
  have h2:bs[j].toNat<256:=bs[j].toNat_lt;have h3:ln (bs.drop (j+1))*2^8<2^64:=by
   rw[show(256:Nat)^7=2^56 by decide]at h1;omega
  rw[FC (i:=(8:Int)) (n:=8) rfl,Nat.mod_eq_of_lt h3,fW,Ka h3 (by omega),bu];rw[<- Nat.shiftLeft_eq,<-Nat.shiftLeft_add_eq_or_of_lt (by omega:bs[j].toNat<2^8),Nat.shiftLeft_eq];have e:=I3 hlt;rw[show ln (bs.drop (j+1))*2^8+bs[j].toNat=ln (bs.drop j) by rw[e];omega];exact AD K _ n m bs hl hn H hb k j (by omega)
theorem LR (A:OA)(n m:Nat)(bs:List UInt8)(hl:bs.length=8)(hn:8<=n)(H:Hp)(hb:Cells H A (aD bs)):ae Tryz.prog 262 #[.slice A n m] H (RetE (U (ln bs:Nat)) H):=by
 apply dN.ok;refine⟨9,?_⟩;have:=AD (RetE (U (ln bs:Nat)) H) A n m bs hl hn H hb (RetE.mk _ _) 8 (Nat.le_refl _);rw[List.drop_eq_nil_of_le (by omega)]at this;exact this
theorem GU (A:OA)(n m:Nat)(hn:n<=9000000000000000000)(i:Int)(H:Hp):ae Tryz.prog 261 #[.slice A n m,I i] H (RetE (.bool (decide (0<=i/\i<(n/8:Nat)))) H):=by
 apply mn.ok;unfold mn;rw[iR];split
 .refine⟨by omega,rfl,RetE.of ?_⟩;rw[show Int.tdiv ((n:Nat):Int) 8=((n/8:Nat):Int)from rfl,ed];congr 1;simp only[decide_eq_decide];omega
 .refine RetE.of ?_;congr 1;exact(decide_eq_false (by omega)).symm
theorem yR (A:OA)(n m:Nat)(hnm:n<=m)(hm:n<=9000000000000000000)(bs:List UInt8)(hl:n=bs.length)(i:Nat)(hi:8*i+8<=n)(H:Hp)(hb:Cells H A (aD bs)):
  ae Tryz.prog 192 #[.slice A n m,I i] H (RetE (.tuple #[U (aP bs (8*i):Nat),I 0]) H):=by
 apply od.ok;unfold od;refine ae.use (GU A n m (by omega) i H) ?_
 try simp only[HV]
 refine bQ (by simp;omega) ?_;rw[bu (x:=8*(i:Int))];refine⟨by omega,by omega,?_⟩;rw[show(8*(i:Int)).toNat=8*i by omega];have h1:=(hb.shift (m:=m) (l:=8*i) (by rw[bz];omega)).take 8;rw[show((aD bs).drop (8*i)).take 8=aD ((bs.drop (8*i)).take 8) by unfold aD;rw[List.map_take,List.map_drop]]at h1;refine ae.use (LR _ (n-8*i) (m-8*i) ((bs.drop (8*i)).take 8) (by simp;omega) (by omega) H h1) ?_
 try simp only[HV]
 exact RetE.mk _ _
end FormP
end Go.Proofs.YtlgnlghmbcpmhaaGreatDoor
namespace Go.Hw
open Go
def xX :Lf->Lit->Bool
 | .int k,.int k' n=>decide (k'=k)&&(Lit.int k n).wf
 | .bool,.bool _=>true
 | .str,.string l=>decide (l.length<=maxLen)
 |_,_=>false
def gz :List Lf->List Lit->Bool
 | [],[]=>true
 |f::fs,l::ls=>xX f l&&gz fs ls
 |_,_=>false
def xP (P:Program)(g:TypeId->Option (List Lf)):List Field->Nat->Option (List Lf)
 | [],_=>some []
 | f :: r, off => match f.name != "_" && Nat.beq f.offset off with
  |true=>match g f.type with
   |some l=>match Nat.beq l.length (P.cellsOf f.type)with
    |true=>match xP P g r (off+l.length)with
     |some k=>some (l++k)
     |none=>none
    |false=>none
   |none=>none
  |false=>none
def flat (P:Program):Nat->TypeId->Option (List Lf)
 |0,_=>none
 |d+1,t=>match P.underlying t with
  |some .bool=>some [.bool]
  |some (.int q)=>some [.int q]
  |some .string=>some [.str]
  |some (.array n e)=>match flat P d e with
   |some l=>match Nat.beq l.length (P.cellsOf e)&&Nat.beq (n*l.length) (P.cellsOf t)with
    |true=>some (List.replicate n l).flatten
    |false=>none
   |none=>none
  |some (.struct fs)=>match xP P (flat P d) fs.toList 0 with
   |some l=>match Nat.beq l.length (P.cellsOf t)with
    |true=>some l
    |false=>none
   |none=>none
  |_=>none
theorem jX :∀{fs:List Lf} {ls:List Lit},gz fs ls=true->ls.length=fs.length
 | [],[],_=>rfl
 |_::fs,_::ls,h=>by
  simp only[gz,Bool.and_eq_true]at h;simp[jX h.2]
 | [],_::_,h=>by cases h
 |_::_,[],h=>by cases h
theorem sr :∀{a b:List Lf} {ls:List Lit},gz (a++b) ls=true->∃ x y,ls=x++y/\gz a x=true/\gz b y=true
 | [],b,ls,h=>⟨[],ls,rfl,rfl,h⟩
 |f::a,b,[],h=>by cases h
 |f::a,b,l::ls,h=>by
  simp only[List.cons_append,gz,Bool.and_eq_true]at h;obtain⟨x,y,rfl,h1,h2⟩:=sr h.2;exact⟨l::x,y,rfl,by simp[gz,h.1,h1],h2⟩
theorem uA {f:Lf}{ls:List Lit}(h:gz [f] ls=true):∃ x,ls=[x]:=by
 have:=jX h
 match ls,this with
 | [x],_=>exact⟨x,rfl⟩
theorem oP {P:Program}:∀(d:Nat) (t:TypeId) (ks:List Lf) (ls:List Lit),flat P d t=some ks->gz ks ls=true->P.keyLits d t (ls.map Lit.value)=some ls
 |0,_,_,_,h,_=>by cases h
 |d+1,t,ks,ls,h,ho=>by
  unfold flat at h;unfold Program.keyLits;split at h
  .rename_i hu
   cases h;obtain⟨x,rfl⟩:=uA ho;cases x<;>simp only[gz,xX,Bool.and_true,Bool.false_eq_true,Bool.false_and]at ho;simp[hu,Lit.value]
  .rename_i q hu
   cases h;obtain⟨x,rfl⟩:=uA ho;cases x<;>simp only[gz,xX,Bool.and_eq_true,decide_eq_true_eq,Bool.and_true,Bool.false_eq_true,Bool.false_and]at ho;obtain⟨rfl,hw⟩:=ho;simp[hu,Lit.value,hw]
  .rename_i hu
   cases h;obtain⟨x,rfl⟩:=uA ho;cases x<;>simp only[gz,xX,decide_eq_true_eq,Bool.and_true,Bool.false_eq_true,Bool.false_and]at ho;simp[hu,Lit.value,ByteArray.size,ho]
  .rename_i n e hu
   split at h
   .rename_i l hl
    split at h
    .rename_i hb
     cases h;simp only[Bool.and_eq_true]at hb;have h1:=Nat.eq_of_beq_eq_true hb.1;have h2:=Nat.eq_of_beq_eq_true hb.2;simp only[hu];have hlen:=jX ho;rw[if_pos (by rw[List.length_map,hlen,List.length_flatten];simp[h2,<-h1])];have key:∀(m i:Nat) (pre ls:List Lit),pre.length=i*l.length->gz (List.replicate m l).flatten ls=true->
       ∃ out,(List.range' i m).mapM (fun i=>P.keyLits d e ((((pre++ls).map Lit.value).drop (i*P.cellsOf e)).take (P.cellsOf e)))=some out/\out.flatten=ls:=by
      intro m
      induction m with
      |zero=>
       intro i pre ls _ ho;have:ls=[]:=by have:=jX ho;simpa using this
       subst this;exact⟨[],by simp,rfl⟩
      |succ m ih=>
       intro i pre ls hp ho;rw[List.replicate_succ,List.flatten_cons]at ho;obtain⟨x,y,rfl,hx,hy⟩:=sr ho;have lx:=jX hx;obtain⟨out,ho1,ho2⟩:=ih (i+1) (pre++x) y (by rw[List.length_append,hp,lx,Nat.succ_mul]) hy;refine⟨x::out,?_,by rw[List.flatten_cons,ho2]⟩;rw[List.range'_succ,List.mapM_cons];have e1:((((pre++(x++y)).map Lit.value).drop (i*P.cellsOf e)).take (P.cellsOf e))=x.map Lit.value:=by
        rw[<- h1,<-hp,List.map_append,List.drop_left' (by simp),List.map_append,List.take_left' (by simp[lx])]
       rw[e1,oP d e l x hl hx];rw[List.append_assoc]at ho1;rw[ho1];rfl
     obtain⟨out,h3,h4⟩:=key n 0 [] ls (by simp) ho;rw[List.range_eq_range'];simp only[List.nil_append]at h3;rw[h3];simp[h4]
    .cases h
   .cases h
  .rename_i fs hu
   split at h
   .rename_i l hl
    split at h
    .rename_i hb
     cases h;have h1:=Nat.eq_of_beq_eq_true hb;have hlen:=jX ho;have key:∀(fl:List Field) (off:Nat) (k:List Lf) (pre ls:List Lit),xP P (flat P d) fl off=some k->pre.length=off->gz k ls=true->
       (fl.all (·.name != "_") = true) ∧ ∃ out, fl.mapM (fun f => P.keyLits d f.type ((((pre ++ ls).map Lit.value).drop f.offset).take (P.cellsOf f.type))) = some out ∧ out.flatten = ls := by
      intro fl
      induction fl with
      |nil=>
       intro off k pre ls hk _ ho;cases hk;have:ls=[]:=by have:=jX ho;simpa using this
       subst this;exact⟨rfl,[],by simp,rfl⟩
      |cons f fl ih=>
       intro off k pre ls hk hp ho;unfold xP at hk;split at hk
       .rename_i hn
        simp only[Bool.and_eq_true]at hn;have hoff:=Nat.eq_of_beq_eq_true hn.2;split at hk
        .rename_i kl hkl
         split at hk
         .rename_i hb2
          have h2:=Nat.eq_of_beq_eq_true hb2;split at hk
          .rename_i kr hkr
           cases hk;obtain⟨x,y,rfl,hx,hy⟩:=sr ho;have lx:=jX hx;obtain⟨hn2,out,ho1,ho2⟩:=ih (off+kl.length) kr (pre++x) y hkr (by rw[List.length_append,hp,lx]) hy;refine⟨by rw[List.all_cons,hn.1,hn2];rfl,x::out,?_,by rw[List.flatten_cons,ho2]⟩;rw[List.mapM_cons];have e1:((((pre++(x++y)).map Lit.value).drop f.offset).take (P.cellsOf f.type))=x.map Lit.value:=by
            rw[hoff,<-h2,<-hp,List.map_append,List.drop_left' (by simp),List.map_append,List.take_left' (by simp[lx])]
           rw[e1,oP d f.type kl x hkl hx];rw[List.append_assoc]at ho1;rw[ho1];rfl
          .cases hk
         .cases hk
        .cases hk
       .cases hk
     obtain⟨hn,out,h3,h4⟩:=key fs.toList 0 ks [] ls hl rfl ho;simp only[hu];rw[if_pos ⟨by rw[List.length_map,hlen,h1],by rw[<- Array.all_toList];exact hn⟩];simp only[List.nil_append]at h3;rw[h3];simp[h4]
    .cases h
   .cases h
  .cases h
theorem IY {P:Program}{d:Nat}{t:TypeId}{ks:List Lf}(ha:tr P t=true)(h:flat P d t=some ks):ks.length=P.cellsOf t:=by
 cases d with
 |zero=>cases h
 |succ d=>
  unfold flat at h;unfold tr at ha;split at h
  .rename_i hu;rw[hu]at ha;cases ha
  .rename_i hu;rw[hu]at ha;cases ha
  .rename_i hu;rw[hu]at ha;cases ha
  .split at h
   .rename_i l hl
    split at h
    .rename_i hb
     cases h;simp only[Bool.and_eq_true]at hb;rw[<- Nat.eq_of_beq_eq_true hb.2];simp[List.length_flatten]
    .cases h
   .cases h
  .split at h
   .split at h
    .rename_i hb;cases h;exact Nat.eq_of_beq_eq_true hb
    .cases h
   .cases h
  .cases h
theorem xJ {P:Program}{d m:Nat}{t:TypeId}{ks:List Lf}(ha:tr P t=true)(hf:flat P d t=some ks)(hk:P.keyTypeAt m t=true)(hm:m<=10000){lx ly:List Lit}(ox:gz ks lx=true)(oy:gz ks ly=true){c:Bool}(hc:c=true↔lx=ly)(w:World):
  (Op.equal t (.agg (lx.map Lit.value).toArray) (.agg (ly.map Lit.value).toArray)).run P w= .ok c w:=by
 have hform:∀ l:List Lit,gz ks l=true->(Value.agg (l.map Lit.value).toArray).formed P t=true:=fun l hl=>by
  have:=jX hl;have h2:=IY ha hf;unfold Value.formed;unfold tr at ha;split at ha
  .rename_i hu;rw[hu];simp[this,h2]
  .rename_i hu;rw[hu];simp[this,h2]
  .cases ha
 obtain⟨r,hr,hiff⟩:=run_equalIn_deep (P:=P) (10000-m) m t hk w d d _ _ lx ly (hform lx ox) (hform ly oy) (by simpa [Value.cells]using oP d t ks lx hf ox) (by simpa [Value.cells]using oP d t ks ly hf oy);rw[show 10000-m+m=10000 by omega]at hr;have:r=c:=by
  cases r<;>cases c<;>simp_all
 rw[<- this];exact hr
theorem N6 {n:Int}(h0: -9223372036854775808<=n)(h1:n<=9223372036854775807):(Lit.int .i64 n).wf=true:=by
 simp only[Lit.wf,Bool.and_eq_true,decide_eq_true_eq];exact⟨h0,h1⟩
theorem Oh {n:Int}(h: -9223372036854775808<=n/\n<=9223372036854775807):(Lit.int .i64 n).wf=true:=N6 h.1 h.2
theorem Cg :∀(n:Nat) (l:List Int),l.length=n->(∀ x∈l,-9223372036854775808<=x/\x<=9223372036854775807)->gz (List.replicate n (.int .i64)) (l.map (Lit.int .i64))=true
 |0,[],_,_=>rfl
 |n+1,x::l,h,hr=>by
  have h1:=Oh (hr x (by simp));have h2:=Cg n l (by simpa using h) (fun y hy=>hr y (by simp[hy]));rw[List.replicate_succ,List.map_cons];simp only[gz,xX,decide_true,Bool.true_and,Bool.and_eq_true];exact⟨h1,h2⟩
section
variable {P : Program} {d m : Nat} {t : TypeId} {ks : List Lf} (ha : tr P t = true) (hf : flat P d t = some ks) (hk : P.keyTypeAt m t = true) (hm : m <= 10000) (hg : P.eqGuardType P.depth t = false)
include ha hf hk hm hg
theorem KA {lx ly:List Lit}(ox:gz ks lx=true)(oy:gz ks ly=true){cx cy:Array Value}(ex:cx=(lx.map Lit.value).toArray)(ey:cy=(ly.map Lit.value).toArray){K:Bool->Prop}(c:Bool)(hc:c=true↔lx=ly)(k:K c):qf P .eql t (.agg cx) (.agg cy) K:=by
 subst ex;subst ey;refine⟨_,k,fun xo yo w=>?_⟩;have h:=xJ ha hf hk hm ox oy hc w;simp[eqGuard,binOp,h,hg]
theorem KB {lx ly:List Lit}(ox:gz ks lx=true)(oy:gz ks ly=true){cx cy:Array Value}(ex:cx=(lx.map Lit.value).toArray)(ey:cy=(ly.map Lit.value).toArray){K:Bool->Prop}(c:Bool)(hc:c=true↔lx=ly)(k:K (!c)):qf P .neq t (.agg cx) (.agg cy) K:=by
 subst ex;subst ey;refine⟨_,k,fun xo yo w=>?_⟩;have h:=xJ ha hf hk hm ox oy hc w;simp[eqGuard,binOp,h,hg]
end
def vr (P:Program)(t:TypeId)(n:Nat):Prop:=tr P t=true/\flat P 9 t=some (List.replicate n (.int .i64))/\P.keyTypeAt 9 t=true/\P.eqGuardType P.depth t=false
theorem Bb (l:List Int):(l.map (Lit.int .i64)).map Lit.value=l.map (Value.int .i64):=by rw[List.map_map];rfl
theorem J7 {a b:List Int}:a.map (Lit.int .i64)=b.map (Lit.int .i64)↔a=b:=by
 constructor
 .intro h;have:∀{a b:List Int},a.map (Lit.int .i64)=b.map (Lit.int .i64)->a=b:=by
   intro a
   induction a with
   |nil=>intro b h;cases b with
    |nil=>rfl
    |cons _ _=>simp at h
   |cons x a ih=>intro b h;cases b with
    |nil=>simp at h
    |cons y b=>simp at h;rw[h.1,ih (by simpa using h.2)]
  exact this h
 .intro h;rw[h]
theorem Dl {P:Program}{t:TypeId}{n:Nat}(hp:vr P t n){a b:List Int}(la:a.length=n)(lb:b.length=n)(ra:∀ x∈a,-9223372036854775808<=x/\x<=9223372036854775807)(rb:∀ x∈b,-9223372036854775808<=x/\x<=9223372036854775807)
  {cx cy:Array Value} (ex:cx=(a.map (Value.int .i64)).toArray) (ey:cy=(b.map (Value.int .i64)).toArray) {K:Bool->Prop} (k:K (decide (a=b))):qf P .eql t (.agg cx) (.agg cy) K:=
 KA hp.1 hp.2.1 hp.2.2.1 (by omega) hp.2.2.2 (Cg n a la ra) (Cg n b lb rb) (by rw[Bb];exact ex) (by rw[Bb];exact ey) _ (by rw[J7];simp) k
theorem vd {P:Program}{t:TypeId}{n:Nat}(hp:vr P t n){a b:List Int}(la:a.length=n)(lb:b.length=n)(ra:∀ x∈a,-9223372036854775808<=x/\x<=9223372036854775807)(rb:∀ x∈b,-9223372036854775808<=x/\x<=9223372036854775807)
  {cx cy:Array Value} (ex:cx=(a.map (Value.int .i64)).toArray) (ey:cy=(b.map (Value.int .i64)).toArray) {K:Bool->Prop} (k:K (!decide (a=b))):qf P .neq t (.agg cx) (.agg cy) K:=
 KB hp.1 hp.2.1 hp.2.2.1 (by omega) hp.2.2.2 (Cg n a la ra) (Cg n b lb rb) (by rw[Bb];exact ex) (by rw[Bb];exact ey) _ (by rw[J7];simp) k
end Go.Hw
namespace Go.Proofs.YtlgnlghmbcpmhaaGreatDoor
open Tryz (prog)
namespace W
open Go Go.Hw
theorem dY :prog.follows .mixedOrders=true:=by kernel_rfl
def kx (p1:OA)(H:Hp)(K:VK):Prop:=
 Nw H (Oq #[.pointer p1] 270) fun b1 H1=>Nw H1 (Oq #[Ot 0,I 0] 329) fun b2 H2=>bA H2 (O b1) fun p2=>cF 233 #[.pointer p2,.func (.func 234) #[] #[V b1,V b2]] H2 fun x1 H3=>ao (x1 !=0) (K (.tuple #[Ot 0,I x1]) H3) (zx 238 #[V b2] H3 fun x2 H4=>K (.tuple #[Ot x2,I 0]) H4)
theorem kx.ok p1 H K (h:kx p1 H K):ae prog 166 #[.pointer p1] H K:=
 cg dY Tryz.func166 rfl rfl h
def aR.j15 (K:VK)(R9:OA->OA->Nat->Nat->OA->OA->Nat->Nat->Int->Int->OA->OA->Nat->Nat->Hp->Prop)(p12 A8:OA)(n8 m8:Nat)(p13:OA)(a7:Addr)(A9:OA)(n9 m9:Nat)(x14 x15:Int)(p14 A10:OA)(n10 m10:Nat)(H:Hp):=
 JZ 237 #[.pointer p13] H fun A11 n11 m11=>aM H (a7.add 1) fun x16=>mP n11 m11 (some x16) none fun n12 n13=>aM H (a7.add 2) fun x17=>mP n8 m8 none (some x17) fun n14 n15=>rI prog 108 (.slice (jk A11 m11 n12 1) (n13-n12) (m11-n12)) (.slice (jk A8 m8 n14 1) (n15-n14) (m8-n14)) H fun v22 H10=>DI .i64 v22 fun x18=>NN p12 fun a8=>aM H10 (a7.add 0) fun x19=>cF 258 #[.pointer (some (a8.add 0)),I x19,.pointer p13] H10 fun x20 H11=>ao (x20 !=0) (dJ prog 257 #[.pointer p14,.slice A10 n10 m10] H11 fun _ H13=>K (I x20) H13) (aM H11 (a7.add 2) fun x21=>mP n8 m8 (some x21) none fun n16 n17=>R9 p12 (jk A8 m8 n16 1) (n17-n16) (m8-n16) p13 A9 n9 m9 x14 (i64.wrap (x15+1)) p14 A10 n10 m10 H11)
def aR.l9 (K:VK):Nat->OA->OA->Nat->Nat->OA->OA->Nat->Nat->Int->Int->OA->OA->Nat->Nat->Hp->Prop
 |0,_,_,_,_,_,_,_,_,_,_,_,_,_,_,_=>False
 |k+1,p9,A5,n5,m5,p10,A6,n6,m6,x8,x9,p11,A7,n7,m7,H=>
  let R9:=aR.l9 K k
  ao (decide (x9<x8)) (cX x9 n6 (NN A6 fun a4=>aJ H (a4.add (x9.toNat*3)) 3 fun l10=>Nw H (Oq #[I 0,I 0,I 0] 360) fun b2 H7=>bR H7 (O b2) l10.toArray 3 fun H8=>aM H8 ((O b2).add 2) fun x10=>NN p9 fun a5=>fc 256 #[.pointer (some (a5.add 0))] H8 fun x11=>ao (decide (x10<x11)) (NN p9 fun a6=>aM H8 ((O b2).add 0) fun x12=>cF 235 #[.pointer (some (a6.add 0)),I x12,.pointer p10] H8 fun x13 H9=>ao (x13 !=0) (dJ prog 257 #[.pointer p11,.slice A7 n7 m7] H9 fun _ H12=>K (I x13) H12) (aR.j15 K R9 p9 A5 n5 m5 p10 (O b2) A6 n6 m6 x8 x9 p11 A7 n7 m7 H9)) (aR.j15 K R9 p9 A5 n5 m5 p10 (O b2) A6 n6 m6 x8 x9 p11 A7 n7 m7 H8))) (dJ prog 257 #[.pointer p11,.slice A7 n7 m7] H fun _ H14=>K (I 0) H14)
def aR.j5 (K:VK)(p6 A3:OA)(n3 m3:Nat)(A4:OA)(n4 m4:Nat)(x7:Int)(p7:OA)(H:Hp):=
 ao (x7 !=0) (K (I x7) H) (NN p6 fun a3=>bA H ((a3.add 0).add 1) fun p8=>Nw H (.row [.pointer p7] 331 1) fun b1 H6=>(∃ k,aR.l9 K k p6 A3 n3 m3 p7 A4 n4 m4 (n4:Int) 0 p8 (Oo b1) 1 1 H6))
def aR (p1:OA)(x1:Int)(A1:OA)(n1 m1:Nat)(H:Hp)(K:VK):Prop:=
 Hz 254 #[.pointer p1,I x1,I (n1:Int)] H fun v1 H1=>kB v1 fun A2 n2 m2 x2=>(ao (x2 !=0) (K (I x2) H1) (ao ((n1:Int)==0) (K (I x2) H1) (NN p1 fun a1=>NN p1 fun a2=>(bA H1 ((a1.add 0).add 1) fun p2=>cF 256 #[.pointer (some (a2.add 0))] H1 fun x3 H2=>Hz 255 #[.pointer p2,I x3] H2 fun v6 H3=>kA v6 fun p3 x4=>(aR.j5 K p1 A1 n1 m1 A2 n2 m2 x4 p3 H3))/\(cF 256 #[.pointer (some (a2.add 0))] H1 fun x5 H4=>bA H4 ((a1.add 0).add 1) fun p4=>Hz 255 #[.pointer p4,I x5] H4 fun v11 H5=>kA v11 fun p5 x6=>(aR.j5 K p1 A1 n1 m1 A2 n2 m2 x6 p5 H5)))))
def aR.l9.L (K:VK)(k:Nat):dm:=fun E D H=>
 eP E 0 fun p9=>DG (E.get? 2) fun w2=>aF w2 fun A5 n5 m5=>eP E 9 fun p10=>DG (E.get? 53) fun w53=>aF w53 fun A6 n6 m6=>eI E 54 .i64 fun x8=>eI E 55 .i64 fun x9=>hZ 257 D fun dc0 da0 D1=>bK dc0 (ay da0 fun u0da0 r0da0=>DP u0da0 fun p11=>ay r0da0 fun u1da0 r1da0=>aF u1da0 fun A7 n7 m7=>bK r1da0 (az D1 (aR.l9 K k p9 A5 n5 m5 p10 A6 n6 m6 x8 x9 p11 A7 n7 m7 H)))
def aR.Λ9 (K:VK)(R9:OA→OA→Nat→Nat→OA→OA→Nat→Nat→Int→Int→OA→OA→Nat→Nat→Hp→Prop):aN:=⟨fun i=>match Nat.beq i 15 with|true=>some (fun E D H=>eP E 0 fun p12=>DG (E.get? 2) fun w2=>aF w2 fun A8 n8 m8=>eP E 9 fun p13=>eN E 11 fun a7=>DG (E.get? 53) fun w53=>aF w53 fun A9 n9 m9=>eI E 54 .i64 fun x14=>eI E 55 .i64 fun x15=>hZ 257 D fun dc0 da0 D1=>bK dc0 (ay da0 fun u0da0 r0da0=>DP u0da0 fun p14=>ay r0da0 fun u1da0 r1da0=>aF u1da0 fun A10 n10 m10=>bK r1da0 (az D1 (aR.j15 K R9 p12 A8 n8 m8 p13 a7 A9 n9 m9 x14 x15 p14 A10 n10 m10 H))))|false=>none,fun i=>none,(fun i=>match Nat.beq i 16 with|true=>some ([],[0,1,2,3,4,5],6)|false=>match Nat.beq i 15 with|true=>some ([],[0,1,2,3,4,5,6,7,8],9)|false=>match Nat.beq i 12 with|true=>some ([],[0,1,2,3,4,5],6)|false=>match Nat.beq i 4 with|true=>some ([],[0,1,3,7,15,0,32,96,224,511,1023,2047,2047,4095,16383],0)|false=>none)⟩
def aR.Λ (K:VK):aN:=⟨fun i=>match Nat.beq i 5 with|true=>some (fun E D H=>eP E 0 fun p6=>DG (E.get? 2) fun w2=>aF w2 fun A3 n3 m3=>DG (E.get? 7) fun w7=>aF w7 fun A4 n4 m4=>eI E 8 .i64 fun x7=>eP E 9 fun p7=>az D (aR.j5 K p6 A3 n3 m3 A4 n4 m4 x7 p7 H))|false=>none,fun i=>match Nat.beq i 9 with|true=>some (fun E D H=>∃ k,aR.l9.L K k E D H)|false=>none,(fun i=>match Nat.beq i 16 with|true=>some ([],[0,1,2,3,4,5],6)|false=>match Nat.beq i 15 with|true=>some ([],[0,1,2,3,4,5,6,7,8],9)|false=>match Nat.beq i 12 with|true=>some ([],[0,1,2,3,4,5],6)|false=>match Nat.beq i 4 with|true=>some ([],[0,1,3,7,15,0,32,96,224,511,1023,2047,2047,4095,16383],0)|false=>none)⟩
theorem aR.ok p1 x1 A1 n1 m1 H K (h:aR p1 x1 A1 n1 m1 H K):ae prog 185 #[.pointer p1,I x1,.slice A1 n1 m1] H K:=
 dX (Λ:=(aR.Λ K)) dY Tryz.func185 rfl rfl h (oC (fun E D H h=>by
   obtain⟨p6,e0,g2⟩:=GP h;obtain⟨w2,e2,g3⟩:=DG.out g2;obtain⟨A3,n3,m3,rfl,g4⟩:=aF.out g3;obtain⟨w7,e7,g5⟩:=DG.out g4;obtain⟨A4,n4,m4,rfl,g6⟩:=aF.out g5;obtain⟨x7,e8,g8⟩:=GI g6;obtain⟨p7,e9,g10⟩:=GP g8;obtain⟨rfl,h'⟩:=az.out g10;exact cY (Λ:=(aR.Λ K)) dY [] (ag.cons e0 (ag.cons e2 (ag.cons e7 (ag.cons e8 (ag.cons e9 (ag.nil _)))))) h' (oC (fun E D H h=>by
     refine Safe.c0 (aR.l9.L K) (fun E D H h=>?_) (fun k E D H h=>?_) E D H h
     .obtain⟨w0,e0,g1⟩:=DG.out h;obtain⟨p9,rfl,g2⟩:=DP.out g1;obtain⟨w2,e2,g3⟩:=DG.out g2;obtain⟨A5,n5,m5,rfl,g4⟩:=aF.out g3;obtain⟨w9,e9,g5⟩:=DG.out g4;obtain⟨p10,rfl,g6⟩:=DP.out g5;obtain⟨w53,e53,g7⟩:=DG.out g6;obtain⟨A6,n6,m6,rfl,g8⟩:=aF.out g7;obtain⟨w54,e54,g9⟩:=DG.out g8;obtain⟨x8,rfl,g10⟩:=DI.out g9;obtain⟨w55,e55,g11⟩:=DG.out g10;obtain⟨x9,rfl,g12⟩:=DI.out g11;obtain⟨dc0,da0,D1,rfl,g13⟩:=hZ.out g12;obtain⟨rfl,g14⟩:=bK.out g13;obtain⟨u0da0,r0da0,rfl,g15⟩:=ay.out g14;obtain⟨p11,rfl,g16⟩:=DP.out g15;obtain⟨u1da0,r1da0,rfl,g17⟩:=ay.out g16;obtain⟨A7,n7,m7,rfl,g18⟩:=aF.out g17;obtain⟨rfl,g19⟩:=bK.out g18;obtain⟨rfl,h'⟩:=az.out g19;exact h'
     .obtain⟨p9,e0,g2⟩:=GP h;obtain⟨w2,e2,g3⟩:=DG.out g2;obtain⟨A5,n5,m5,rfl,g4⟩:=aF.out g3;obtain⟨p10,e9,g6⟩:=GP g4;obtain⟨w53,e53,g7⟩:=DG.out g6;obtain⟨A6,n6,m6,rfl,g8⟩:=aF.out g7;obtain⟨x8,e54,g10⟩:=GI g8;obtain⟨x9,e55,g12⟩:=GI g10;obtain⟨dc0,da0,D1,rfl,g13⟩:=hZ.out g12;obtain⟨rfl,g14⟩:=bK.out g13;obtain⟨u0da0,r0da0,rfl,g15⟩:=ay.out g14;obtain⟨p11,rfl,g16⟩:=DP.out g15;obtain⟨u1da0,r1da0,rfl,g17⟩:=ay.out g16;obtain⟨A7,n7,m7,rfl,g18⟩:=aF.out g17;obtain⟨rfl,g19⟩:=bK.out g18;obtain⟨rfl,h'⟩:=az.out g19;exact cY (Λ:=(aR.Λ9 K (aR.l9 K k))) dY [{ target:=.fn (.func 257) #[],args:=#[.pointer p11,.slice A7 n7 m7]}] (ag.cons e0 (ag.cons e2 (ag.cons e9 (ag.cons e53 (ag.cons e54 (ag.cons e55 (ag.nil _))))))) h' (oC (fun E D H h=>by
        obtain⟨p12,e0,g2⟩:=GP h;obtain⟨w2,e2,g3⟩:=DG.out g2;obtain⟨A8,n8,m8,rfl,g4⟩:=aF.out g3;obtain⟨p13,e9,g6⟩:=GP g4;obtain⟨a7,e11,g9⟩:=GN g6;obtain⟨w53,e53,g10⟩:=DG.out g9;obtain⟨A9,n9,m9,rfl,g11⟩:=aF.out g10;obtain⟨x14,e54,g13⟩:=GI g11;obtain⟨x15,e55,g15⟩:=GI g13;obtain⟨dc0,da0,D1,rfl,g16⟩:=hZ.out g15;obtain⟨rfl,g17⟩:=bK.out g16;obtain⟨u0da0,r0da0,rfl,g18⟩:=ay.out g17;obtain⟨p14,rfl,g19⟩:=DP.out g18;obtain⟨u1da0,r1da0,rfl,g20⟩:=ay.out g19;obtain⟨A10,n10,m10,rfl,g21⟩:=aF.out g20;obtain⟨rfl,g22⟩:=bK.out g21;obtain⟨rfl,h'⟩:=az.out g22;exact cY (Λ:=(aR.Λ9 K (aR.l9 K k))) dY [{ target:=.fn (.func 257) #[],args:=#[.pointer p14,.slice A10 n10 m10]}] (ag.cons e0 (ag.cons e2 (ag.cons e9 (ag.cons e11 (ag.cons e53 (ag.cons e54 (ag.cons e55 (ag.nil _)))))))) h' oN) oN)) oN)) oN)
def js (p1:OA)(H:Hp)(K:VK):Prop:=
 NN p1 fun a1=>aM H ((a1.add 2).add 2) fun x1=>K (I x1) H
theorem js.ok p1 H K (h:js p1 H K):ae prog 186 #[.pointer p1] H K:=
 cg dY Tryz.func186 rfl rfl h
def bD.l9 (K:VK):Nat->OA->OA->Nat->Nat->OA->OA->Nat->Nat->Int->Int->OA->OA->Nat->Nat->Hp->Prop
 |0,_,_,_,_,_,_,_,_,_,_,_,_,_,_,_=>False
 |k+1,p9,A5,n5,m5,p10,A6,n6,m6,x8,x9,p11,A7,n7,m7,H=>
  let R9:=bD.l9 K k
  ao (decide (x9<x8)) (cX x9 n6 (NN A6 fun a4=>aJ H (a4.add (x9.toNat*3)) 3 fun l10=>Nw H (Oq #[I 0,I 0,I 0] 360) fun b2 H7=>bR H7 (O b2) l10.toArray 3 fun H8=>NN p9 fun a5=>aM H8 ((O b2).add 0) fun x10=>cF 235 #[.pointer (some (a5.add 0)),I x10,.pointer p10] H8 fun x11 H9=>ao (x11 !=0) (dJ prog 257 #[.pointer p11,.slice A7 n7 m7] H9 fun _ H11=>K (I x11) H11) (aM H9 ((O b2).add 2) fun x12=>mP n5 m5 none (some x12) fun n8 n9=>JZ 237 #[.pointer p10] H9 fun A8 n10 m8=>aM H9 ((O b2).add 1) fun x13=>mP n10 m8 (some x13) none fun n11 n12=>rI prog 108 (.slice (jk A5 m5 n8 1) (n9-n8) (m5-n8)) (.slice (jk A8 m8 n11 1) (n12-n11) (m8-n11)) H9 fun v20 H10=>DI .i64 v20 fun x14=>aM H10 ((O b2).add 2) fun x15=>mP n5 m5 (some x15) none fun n13 n14=>R9 p9 (jk A5 m5 n13 1) (n14-n13) (m5-n13) p10 A6 n6 m6 x8 (i64.wrap (x9+1)) p11 A7 n7 m7 H10))) (dJ prog 257 #[.pointer p11,.slice A7 n7 m7] H fun _ H12=>K (I 0) H12)
def bD.j5 (K:VK)(p6 A3:OA)(n3 m3:Nat)(A4:OA)(n4 m4:Nat)(x7:Int)(p7:OA)(H:Hp):=
 ao (x7 !=0) (K (I x7) H) (NN p6 fun a3=>bA H ((a3.add 0).add 1) fun p8=>Nw H (.row [.pointer p7] 331 1) fun b1 H6=>(∃ k,bD.l9 K k p6 A3 n3 m3 p7 A4 n4 m4 (n4:Int) 0 p8 (Oo b1) 1 1 H6))
def bD (p1:OA)(x1:Int)(A1:OA)(n1 m1:Nat)(H:Hp)(K:VK):Prop:=
 Hz 254 #[.pointer p1,I x1,I (n1:Int)] H fun v1 H1=>kB v1 fun A2 n2 m2 x2=>(ao (x2 !=0) (K (I x2) H1) (ao ((n1:Int)==0) (K (I x2) H1) (NN p1 fun a1=>NN p1 fun a2=>(bA H1 ((a1.add 0).add 1) fun p2=>cF 256 #[.pointer (some (a2.add 0))] H1 fun x3 H2=>Hz 255 #[.pointer p2,I x3] H2 fun v6 H3=>kA v6 fun p3 x4=>(bD.j5 K p1 A1 n1 m1 A2 n2 m2 x4 p3 H3))/\(cF 256 #[.pointer (some (a2.add 0))] H1 fun x5 H4=>bA H4 ((a1.add 0).add 1) fun p4=>Hz 255 #[.pointer p4,I x5] H4 fun v11 H5=>kA v11 fun p5 x6=>(bD.j5 K p1 A1 n1 m1 A2 n2 m2 x6 p5 H5)))))
def bD.l9.L (K:VK)(k:Nat):dm:=fun E D H=>
 eP E 0 fun p9=>DG (E.get? 2) fun w2=>aF w2 fun A5 n5 m5=>eP E 9 fun p10=>DG (E.get? 52) fun w52=>aF w52 fun A6 n6 m6=>eI E 53 .i64 fun x8=>eI E 54 .i64 fun x9=>hZ 257 D fun dc0 da0 D1=>bK dc0 (ay da0 fun u0da0 r0da0=>DP u0da0 fun p11=>ay r0da0 fun u1da0 r1da0=>aF u1da0 fun A7 n7 m7=>bK r1da0 (az D1 (bD.l9 K k p9 A5 n5 m5 p10 A6 n6 m6 x8 x9 p11 A7 n7 m7 H)))
def bD.Λ9 (_:VK)(_R9:OA→OA→Nat→Nat→OA→OA→Nat→Nat→Int→Int→OA→OA→Nat→Nat→Hp→Prop):aN:=aN.none (fun i=>match Nat.beq i 14 with|true=>some ([],[0,1,2,3,4,5,6,7,8],9)|false=>match Nat.beq i 11 with|true=>some ([],[0,1,2,3,4,5],6)|false=>match Nat.beq i 4 with|true=>some ([],[0,1,3,7,15,0,32,96,224,511,1023,2047,2047,4095,16383],0)|false=>none)
def bD.Λ (K:VK):aN:=⟨fun i=>match Nat.beq i 5 with|true=>some (fun E D H=>eP E 0 fun p6=>DG (E.get? 2) fun w2=>aF w2 fun A3 n3 m3=>DG (E.get? 7) fun w7=>aF w7 fun A4 n4 m4=>eI E 8 .i64 fun x7=>eP E 9 fun p7=>az D (bD.j5 K p6 A3 n3 m3 A4 n4 m4 x7 p7 H))|false=>none,fun i=>match Nat.beq i 9 with|true=>some (fun E D H=>∃ k,bD.l9.L K k E D H)|false=>none,(fun i=>match Nat.beq i 14 with|true=>some ([],[0,1,2,3,4,5,6,7,8],9)|false=>match Nat.beq i 11 with|true=>some ([],[0,1,2,3,4,5],6)|false=>match Nat.beq i 4 with|true=>some ([],[0,1,3,7,15,0,32,96,224,511,1023,2047,2047,4095,16383],0)|false=>none)⟩
theorem bD.ok p1 x1 A1 n1 m1 H K (h:bD p1 x1 A1 n1 m1 H K):ae prog 187 #[.pointer p1,I x1,.slice A1 n1 m1] H K:=
 dX (Λ:=(bD.Λ K)) dY Tryz.func187 rfl rfl h (oC (fun E D H h=>by
   obtain⟨p6,e0,g2⟩:=GP h;obtain⟨w2,e2,g3⟩:=DG.out g2;obtain⟨A3,n3,m3,rfl,g4⟩:=aF.out g3;obtain⟨w7,e7,g5⟩:=DG.out g4;obtain⟨A4,n4,m4,rfl,g6⟩:=aF.out g5;obtain⟨x7,e8,g8⟩:=GI g6;obtain⟨p7,e9,g10⟩:=GP g8;obtain⟨rfl,h'⟩:=az.out g10;exact cY (Λ:=(bD.Λ K)) dY [] (ag.cons e0 (ag.cons e2 (ag.cons e7 (ag.cons e8 (ag.cons e9 (ag.nil _)))))) h' (oC (fun E D H h=>by
     refine Safe.c0 (bD.l9.L K) (fun E D H h=>?_) (fun k E D H h=>?_) E D H h
     .obtain⟨w0,e0,g1⟩:=DG.out h;obtain⟨p9,rfl,g2⟩:=DP.out g1;obtain⟨w2,e2,g3⟩:=DG.out g2;obtain⟨A5,n5,m5,rfl,g4⟩:=aF.out g3;obtain⟨w9,e9,g5⟩:=DG.out g4;obtain⟨p10,rfl,g6⟩:=DP.out g5;obtain⟨w52,e52,g7⟩:=DG.out g6;obtain⟨A6,n6,m6,rfl,g8⟩:=aF.out g7;obtain⟨w53,e53,g9⟩:=DG.out g8;obtain⟨x8,rfl,g10⟩:=DI.out g9;obtain⟨w54,e54,g11⟩:=DG.out g10;obtain⟨x9,rfl,g12⟩:=DI.out g11;obtain⟨dc0,da0,D1,rfl,g13⟩:=hZ.out g12;obtain⟨rfl,g14⟩:=bK.out g13;obtain⟨u0da0,r0da0,rfl,g15⟩:=ay.out g14;obtain⟨p11,rfl,g16⟩:=DP.out g15;obtain⟨u1da0,r1da0,rfl,g17⟩:=ay.out g16;obtain⟨A7,n7,m7,rfl,g18⟩:=aF.out g17;obtain⟨rfl,g19⟩:=bK.out g18;obtain⟨rfl,h'⟩:=az.out g19;exact h'
     .obtain⟨p9,e0,g2⟩:=GP h;obtain⟨w2,e2,g3⟩:=DG.out g2;obtain⟨A5,n5,m5,rfl,g4⟩:=aF.out g3;obtain⟨p10,e9,g6⟩:=GP g4;obtain⟨w52,e52,g7⟩:=DG.out g6;obtain⟨A6,n6,m6,rfl,g8⟩:=aF.out g7;obtain⟨x8,e53,g10⟩:=GI g8;obtain⟨x9,e54,g12⟩:=GI g10;obtain⟨dc0,da0,D1,rfl,g13⟩:=hZ.out g12;obtain⟨rfl,g14⟩:=bK.out g13;obtain⟨u0da0,r0da0,rfl,g15⟩:=ay.out g14;obtain⟨p11,rfl,g16⟩:=DP.out g15;obtain⟨u1da0,r1da0,rfl,g17⟩:=ay.out g16;obtain⟨A7,n7,m7,rfl,g18⟩:=aF.out g17;obtain⟨rfl,g19⟩:=bK.out g18;obtain⟨rfl,h'⟩:=az.out g19;exact cY (Λ:=(bD.Λ9 K (bD.l9 K k))) dY [{ target:=.fn (.func 257) #[],args:=#[.pointer p11,.slice A7 n7 m7]}] (ag.cons e0 (ag.cons e2 (ag.cons e9 (ag.cons e52 (ag.cons e53 (ag.cons e54 (ag.nil _))))))) h' oN) oN)) oN)
def oG (p1 p2:OA)(x1 x2 x3:Int)(H:Hp)(K:VK):Prop:=
 Nw H (Oq #[I x1,I x2,I x3] 150) fun b1 H1=>ao p1.isNone (K (.tuple #[.pointer none,I 1]) H1) (ao p2.isNone (K (.tuple #[.pointer none,I 1]) H1) (aJ H1 (O b1) 3 fun l1=>EP l1.toArray.toList fun x4 x5 x6=>(Nw H1 (Oq #[.pointer p1,.pointer p2,I x4,I x5,I x6] 336) fun b2 H2=>aM H2 ((O b1).add 2) fun x7=>ao (decide (x7<1)) (K (.tuple #[.pointer none,I 2]) H2) (aM H2 ((O b1).add 0) fun x8=>ao (decide (x8<0)) (K (.tuple #[.pointer none,I 2]) H2) (aM H2 ((O b1).add 1) fun x9=>ao (decide (x9<1)) (K (.tuple #[.pointer none,I 2]) H2) (aM H2 ((O b1).add 0) fun x10=>NN p1 fun a1=>fc 123 #[.pointer (some (a1.add 0))] H2 fun x11=>ao (decide (x10>=x11)) (K (.tuple #[.pointer none,I 2]) H2) (aM H2 ((O b1).add 1) fun x12=>NN p1 fun a2=>fc 123 #[.pointer (some (a2.add 0))] H2 fun x13=>aM H2 ((O b1).add 0) fun x14=>ao (decide (x12>(i64.wrap (x13-x14)))) (K (.tuple #[.pointer none,I 2]) H2) (aM H2 ((O b1).add 2) fun x15=>aM H2 ((O b1).add 1) fun x16=>fc 256 #[.pointer (some ((O b2).add 0))] H2 fun x17=>ao (decide (x15>(i64.wrap (x16*x17)))) (K (.tuple #[.pointer none,I 2]) H2) (K (.tuple #[V b2,I 0]) H2)))))))))
theorem oG.ok p1 p2 x1 x2 x3 H K (h:oG p1 p2 x1 x2 x3 H K):ae prog 232 #[.pointer p1,.pointer p2,.agg #[I x1,I x2,I x3]] H K:=
 cg dY Tryz.func232 rfl rfl h
def bk.l6 (K:VK):Nat->OA->FuncId->Array Value->Array Value->OA->Int->Int->Int->OA->OA->Nat->Nat->Hp->Prop
 |0,_,_,_,_,_,_,_,_,_,_,_,_,_=>False
 |k+1,p9,fd3,F3,C3,p10,x8,x9,x10,p11,A1,n1,m1,H=>
  let R6:=bk.l6 K k
  ao (decide (x9>0)) (ao (x8==0) (NN p9 fun a5=>cF 256 #[.pointer (some (a5.add 0))] H fun x11 H6=>kf prog fd3 ((F3++ #[I x10,I (if x11<x9 then x11 else x9),.pointer p10])++C3) H6 fun v15 H7=>DR prog (fj prog fd3) v15 fun v16=>DI .i64 v16 fun x12=>NN p9 fun a6=>cF 256 #[.pointer (some (a6.add 0))] H7 fun x13 H8=>R6 p9 fd3 F3 C3 p10 x12 (i64.wrap (x9-x13)) (i64.wrap (x10+1)) p11 A1 n1 m1 H8) (dJ prog 257 #[.pointer p11,.slice A1 n1 m1] H fun _ H9=>K (I x8) H9)) (dJ prog 257 #[.pointer p11,.slice A1 n1 m1] H fun _ H10=>K (I x8) H10)
def bk.j2 (K:VK)(p6:OA)(fd2:FuncId)(F2 C2:Array Value)(p7:OA)(x5:Int)(H:Hp):=
 ao (x5 !=0) (K (I x5) H) (NN p6 fun a3=>bA H ((a3.add 0).add 1) fun p8=>Nw H (.row [.pointer p7] 331 1) fun b1 H5=>fc 186 #[.pointer p6] H5 fun x6=>NN p6 fun a4=>aM H5 ((a4.add 2).add 0) fun x7=>(∃ k,bk.l6 K k p6 fd2 F2 C2 p7 x5 x6 x7 p8 (Oo b1) 1 1 H5))
def bk (p1:OA)(fd1:FuncId)(F1 C1:Array Value)(H:Hp)(K:VK):Prop:=
 NN p1 fun a1=>NN p1 fun a2=>(bA H ((a1.add 0).add 1) fun p2=>cF 256 #[.pointer (some (a2.add 0))] H fun x1 H1=>Hz 255 #[.pointer p2,I x1] H1 fun v3 H2=>kA v3 fun p3 x2=>(bk.j2 K p1 fd1 F1 C1 p3 x2 H2))/\(cF 256 #[.pointer (some (a2.add 0))] H fun x3 H3=>bA H3 ((a1.add 0).add 1) fun p4=>Hz 255 #[.pointer p4,I x3] H3 fun v8 H4=>kA v8 fun p5 x4=>(bk.j2 K p1 fd1 F1 C1 p5 x4 H4))
def bk.l6.L (K:VK)(k:Nat):dm:=fun E D H=>
 eP E 0 fun p9=>DG (E.get? 1) fun w1=>jc w1 fun fd3 F3 C3=>eP E 5 fun p10=>eI E 6 .i64 fun x8=>eI E 7 .i64 fun x9=>eI E 8 .i64 fun x10=>hZ 257 D fun dc0 da0 D1=>bK dc0 (ay da0 fun u0da0 r0da0=>DP u0da0 fun p11=>ay r0da0 fun u1da0 r1da0=>aF u1da0 fun A1 n1 m1=>bK r1da0 (az D1 (bk.l6 K k p9 fd3 F3 C3 p10 x8 x9 x10 p11 A1 n1 m1 H)))
def bk.Λ6 (_:VK)(_R6:OA→FuncId→Array Value→Array Value→OA→Int→Int→Int→OA→OA→Nat→Nat→Hp→Prop):aN:=aN.none (fun i=>match Nat.beq i 1 with|true=>some ([],[0,1,3,7,15,0,32,96,224,511,1023,2047,2047,4095,16383],0)|false=>none)
def bk.Λ (K:VK):aN:=⟨fun i=>match Nat.beq i 2 with|true=>some (fun E D H=>eP E 0 fun p6=>DG (E.get? 1) fun w1=>jc w1 fun fd2 F2 C2=>eP E 5 fun p7=>eI E 6 .i64 fun x5=>az D (bk.j2 K p6 fd2 F2 C2 p7 x5 H))|false=>none,fun i=>match Nat.beq i 6 with|true=>some (fun E D H=>∃ k,bk.l6.L K k E D H)|false=>none,(fun i=>match Nat.beq i 1 with|true=>some ([],[0,1,3,7,15,0,32,96,224,511,1023,2047,2047,4095,16383],0)|false=>none)⟩
theorem bk.ok p1 fd1 F1 C1 H K (h:bk p1 fd1 F1 C1 H K):ae prog 233 #[.pointer p1,.func (.func fd1) F1 C1] H K:=
 dX (Λ:=(bk.Λ K)) dY Tryz.func233 rfl rfl h (oC (fun E D H h=>by
   obtain⟨p6,e0,g2⟩:=GP h;obtain⟨w1,e1,g3⟩:=DG.out g2;obtain⟨fd2,F2,C2,rfl,g4⟩:=jc.out g3;obtain⟨p7,e5,g6⟩:=GP g4;obtain⟨x5,e6,g8⟩:=GI g6;obtain⟨rfl,h'⟩:=az.out g8;exact cY (Λ:=(bk.Λ K)) dY [] (ag.cons e0 (ag.cons e1 (ag.cons e5 (ag.cons e6 (ag.nil _))))) h' (oC (fun E D H h=>by
     refine Safe.c0 (bk.l6.L K) (fun E D H h=>?_) (fun k E D H h=>?_) E D H h
     .obtain⟨w0,e0,g1⟩:=DG.out h;obtain⟨p9,rfl,g2⟩:=DP.out g1;obtain⟨w1,e1,g3⟩:=DG.out g2;obtain⟨fd3,F3,C3,rfl,g4⟩:=jc.out g3;obtain⟨w5,e5,g5⟩:=DG.out g4;obtain⟨p10,rfl,g6⟩:=DP.out g5;obtain⟨w6,e6,g7⟩:=DG.out g6;obtain⟨x8,rfl,g8⟩:=DI.out g7;obtain⟨w7,e7,g9⟩:=DG.out g8;obtain⟨x9,rfl,g10⟩:=DI.out g9;obtain⟨w8,e8,g11⟩:=DG.out g10;obtain⟨x10,rfl,g12⟩:=DI.out g11;obtain⟨dc0,da0,D1,rfl,g13⟩:=hZ.out g12;obtain⟨rfl,g14⟩:=bK.out g13;obtain⟨u0da0,r0da0,rfl,g15⟩:=ay.out g14;obtain⟨p11,rfl,g16⟩:=DP.out g15;obtain⟨u1da0,r1da0,rfl,g17⟩:=ay.out g16;obtain⟨A1,n1,m1,rfl,g18⟩:=aF.out g17;obtain⟨rfl,g19⟩:=bK.out g18;obtain⟨rfl,h'⟩:=az.out g19;exact h'
     .obtain⟨p9,e0,g2⟩:=GP h;obtain⟨w1,e1,g3⟩:=DG.out g2;obtain⟨fd3,F3,C3,rfl,g4⟩:=jc.out g3;obtain⟨p10,e5,g6⟩:=GP g4;obtain⟨x8,e6,g8⟩:=GI g6;obtain⟨x9,e7,g10⟩:=GI g8;obtain⟨x10,e8,g12⟩:=GI g10;obtain⟨dc0,da0,D1,rfl,g13⟩:=hZ.out g12;obtain⟨rfl,g14⟩:=bK.out g13;obtain⟨u0da0,r0da0,rfl,g15⟩:=ay.out g14;obtain⟨p11,rfl,g16⟩:=DP.out g15;obtain⟨u1da0,r1da0,rfl,g17⟩:=ay.out g16;obtain⟨A1,n1,m1,rfl,g18⟩:=aF.out g17;obtain⟨rfl,g19⟩:=bK.out g18;obtain⟨rfl,h'⟩:=az.out g19;exact cY (Λ:=(bk.Λ6 K (bk.l6 K k))) dY [{ target:=.fn (.func 257) #[],args:=#[.pointer p11,.slice A1 n1 m1]}] (ag.cons e0 (ag.cons e1 (ag.cons e5 (ag.cons e6 (ag.cons e7 (ag.cons e8 (ag.nil _))))))) h' oN) oN)) oN)
def jr (x1 x2:Int)(p1 p2 p3:OA)(H:Hp)(K:VK):Prop:=
 NN p2 fun a1=>bA H a1 fun p4=>NN p4 fun a2=>cF 235 #[.pointer (some (a2.add 0)),I x1,.pointer p1] H fun x3 H1=>ao (x3==0) (jF 237 #[.pointer p1] H1 fun A1 n1 m1 H2=>mP n1 m1 none (some x2) fun n2 n3=>Hz 236 #[.pointer p3,.slice (jk A1 m1 n2 1) (n3-n2) (m1-n2)] H2 fun v4 H3=>K (I x3) H3) (K (I x3) H1)
theorem jr.ok x1 x2 p1 p2 p3 H K (h:jr x1 x2 p1 p2 p3 H K):ae prog 234 #[I x1,I x2,.pointer p1,.pointer p2,.pointer p3] H K:=
 cg dY Tryz.func234 rfl rfl h
def cr.l6 (K:VK):Nat->OA->Nat->Nat->OA->Nat->Nat->Int->Int->Hp->Prop
 |0,_,_,_,_,_,_,_,_,_=>False
 |k+1,A3,n3,m3,A4,n4,m4,x3,x4,H=>
  let R6:=cr.l6 K k
  ao (decide (x4<x3)) (Hz 192 #[.slice A3 n3 m3,I x4] H fun v6 H3=>pZ v6 fun x5 x6=>(cX x4 n4 (NN A4 fun a2=>St H3 ((a2.add (x4.toNat*1)).add 0) (U x5) fun H4=>R6 A3 n3 m3 A4 n4 m4 x3 (i64.wrap (x4+1)) H4))) (K (I 0) H)
def cr (p1:OA)(x1:Int)(p2:OA)(H:Hp)(K:VK):Prop:=
 NN p1 fun a1=>bA H (a1.add 0) fun p3=>Hz 46 #[.pointer p3,I x1] H fun v2 H1=>kB v2 fun A1 n1 m1 x2=>(ao (x2 !=0) (K (I x2) H1) (jF 237 #[.pointer p2] H1 fun A2 n2 m2 H2=>(∃ k,cr.l6 K k A1 n1 m1 A2 n2 m2 (n2:Int) 0 H2)))
def cr.l6.L (K:VK)(k:Nat):dm:=fun E D H=>
 DG (E.get? 7) fun w7=>aF w7 fun A3 n3 m3=>DG (E.get? 9) fun w9=>aF w9 fun A4 n4 m4=>eI E 28 .i64 fun x3=>eI E 29 .i64 fun x4=>az D (cr.l6 K k A3 n3 m3 A4 n4 m4 x3 x4 H)
def cr.Λ6 (_:VK)(_R6:OA->Nat->Nat->OA->Nat->Nat->Int->Int->Hp->Prop):aN:=aN.none (fun _=>none)
def cr.Λ (K:VK):aN:=⟨fun i=>none,fun i=>match Nat.beq i 6 with|true=>some (fun E D H=>∃ k,cr.l6.L K k E D H)|false=>none,(fun _=>none)⟩
theorem cr.ok p1 x1 p2 H K (h:cr p1 x1 p2 H K):ae prog 235 #[.pointer p1,I x1,.pointer p2] H K:=
 dX (Λ:=(cr.Λ K)) dY Tryz.func235 rfl rfl h (oC (fun E D H h=>by
   refine Safe.c0 (cr.l6.L K) (fun E D H h=>?_) (fun k E D H h=>?_) E D H h
   .obtain⟨w7,e7,g1⟩:=DG.out h;obtain⟨A3,n3,m3,rfl,g2⟩:=aF.out g1;obtain⟨w9,e9,g3⟩:=DG.out g2;obtain⟨A4,n4,m4,rfl,g4⟩:=aF.out g3;obtain⟨w28,e28,g5⟩:=DG.out g4;obtain⟨x3,rfl,g6⟩:=DI.out g5;obtain⟨w29,e29,g7⟩:=DG.out g6;obtain⟨x4,rfl,g8⟩:=DI.out g7;obtain⟨rfl,h'⟩:=az.out g8;exact h'
   .obtain⟨w7,e7,g1⟩:=DG.out h;obtain⟨A3,n3,m3,rfl,g2⟩:=aF.out g1;obtain⟨w9,e9,g3⟩:=DG.out g2;obtain⟨A4,n4,m4,rfl,g4⟩:=aF.out g3;obtain⟨x3,e28,g6⟩:=GI g4;obtain⟨x4,e29,g8⟩:=GI g6;obtain⟨rfl,h'⟩:=az.out g8;exact cY (Λ:=(cr.Λ6 K (cr.l6 K k))) dY [] (ag.cons e7 (ag.cons e9 (ag.cons e28 (ag.cons e29 (ag.nil _))))) h' oN) oN)
def bY.l4 (K:VK):Nat->OA->Int->Int->OA->Nat->Nat->Hp->Prop
 |0,_,_,_,_,_,_,_=>False
 |k+1,p2,x5,x6,A1,n1,m1,H=>
  let R4:=bY.l4 K k
  ao (decide (x6>0)) (NN p2 fun a1=>aJ H (a1.add 2) 3 fun l1=>NN p2 fun a2=>fc 256 #[.pointer (some (a2.add 0))] H fun x7=>Qz 316 #[.agg l1.toArray,I x7,I x5] H fun v4=>AS v4 fun x8 x9 x10=>(ao (x10 !=0) (K (.tuple #[.slice none 0 0,I x10]) H) (NN p2 fun a3=>cF 256 #[.pointer (some (a3.add 0))] H fun x11 H3=>Nw H3 (.row [I x8,I x9,I (if(i64.wrap (x11-x9))<x6 then(i64.wrap (x11-x9))else x6)] 360 3) fun b1 H4=>gC prog 360 (.slice A1 n1 m1) (.slice (Oo b1) 1 1) H4 fun v9 H5=>aF v9 fun A2 n2 m2=>R4 p2 (i64.wrap (x5+(if(i64.wrap (x11-x9))<x6 then(i64.wrap (x11-x9))else x6))) (i64.wrap (x6-(if(i64.wrap (x11-x9))<x6 then(i64.wrap (x11-x9))else x6))) A2 n2 m2 H5))) (K (.tuple #[.slice A1 n1 m1,I 0]) H)
def bY (p1:OA)(x1 x2:Int)(H:Hp)(K:VK):Prop:=
 ao (decide (x1<0)) (K (.tuple #[.slice none 0 0,I 2]) H) (cF 186 #[.pointer p1] H fun x3 H1=>ao (decide (x1>x3)) (K (.tuple #[.slice none 0 0,I 2]) H1) (cF 186 #[.pointer p1] H1 fun x4 H2=>ao (decide (x2>(i64.wrap (x4-x1)))) (K (.tuple #[.slice none 0 0,I 2]) H2) ((∃ k,bY.l4 K k p1 x1 x2 none 0 0 H2))))
def bY.l4.L (K:VK)(k:Nat):dm:=fun E D H=>
 eP E 0 fun p2=>eI E 1 .i64 fun x5=>eI E 2 .i64 fun x6=>DG (E.get? 8) fun w8=>aF w8 fun A1 n1 m1=>az D (bY.l4 K k p2 x5 x6 A1 n1 m1 H)
def bY.Λ4 (_:VK)(_R4:OA->Int->Int->OA->Nat->Nat->Hp->Prop):aN:=aN.none (fun _=>none)
def bY.Λ (K:VK):aN:=⟨fun i=>none,fun i=>match Nat.beq i 4 with|true=>some (fun E D H=>∃ k,bY.l4.L K k E D H)|false=>none,(fun _=>none)⟩
theorem bY.ok p1 x1 x2 H K (h:bY p1 x1 x2 H K):ae prog 254 #[.pointer p1,I x1,I x2] H K:=
 dX (Λ:=(bY.Λ K)) dY Tryz.func254 rfl rfl h (oC (fun E D H h=>by
   refine Safe.c0 (bY.l4.L K) (fun E D H h=>?_) (fun k E D H h=>?_) E D H h
   .obtain⟨w0,e0,g1⟩:=DG.out h;obtain⟨p2,rfl,g2⟩:=DP.out g1;obtain⟨w1,e1,g3⟩:=DG.out g2;obtain⟨x5,rfl,g4⟩:=DI.out g3;obtain⟨w2,e2,g5⟩:=DG.out g4;obtain⟨x6,rfl,g6⟩:=DI.out g5;obtain⟨w8,e8,g7⟩:=DG.out g6;obtain⟨A1,n1,m1,rfl,g8⟩:=aF.out g7;obtain⟨rfl,h'⟩:=az.out g8;exact h'
   .obtain⟨p2,e0,g2⟩:=GP h;obtain⟨x5,e1,g4⟩:=GI g2;obtain⟨x6,e2,g6⟩:=GI g4;obtain⟨w8,e8,g7⟩:=DG.out g6;obtain⟨A1,n1,m1,rfl,g8⟩:=aF.out g7;obtain⟨rfl,h'⟩:=az.out g8;exact cY (Λ:=(bY.Λ4 K (bY.l4 K k))) dY [] (ag.cons e0 (ag.cons e1 (ag.cons e2 (ag.cons e8 (ag.nil _))))) h' oN) oN)
def jT (p1:OA)(H:Hp)(K:VK):Prop:=
 NN p1 fun a1=>bA H (a1.add 0) fun p2=>NN p2 fun a2=>cF 124 #[.pointer (some (a2.add 0))] H fun x1 H1=>((8:Int)≠0/\i64=i64/\K (I (i64.wrap (Int.tdiv x1 8))) H1)
theorem jT.ok p1 H K (h:jT p1 H K):ae prog 256 #[.pointer p1] H K:=
 cg dY Tryz.func256 rfl rfl h
def iZ (p1:OA)(x1:Int)(p2:OA)(H:Hp)(K:VK):Prop:=
 NN p1 fun a1=>(bA H (a1.add 0) fun p3=>jF 237 #[.pointer p2] H fun A1 n1 m1 H1=>jF 214 #[.slice A1 n1 m1] H1 fun A2 n2 m2 H2=>cF 47 #[.pointer p3,I x1,.slice A2 n2 m2] H2 fun x2 H3=>K (I x2) H3)/\(jF 237 #[.pointer p2] H fun A3 n3 m3 H4=>(bA H4 (a1.add 0) fun p4=>jF 214 #[.slice A3 n3 m3] H4 fun A4 n4 m4 H5=>cF 47 #[.pointer p4,I x1,.slice A4 n4 m4] H5 fun x3 H6=>K (I x3) H6)/\(jF 214 #[.slice A3 n3 m3] H4 fun A5 n5 m5 H7=>bA H7 (a1.add 0) fun p5=>cF 47 #[.pointer p5,I x1,.slice A5 n5 m5] H7 fun x4 H8=>K (I x4) H8))
theorem iZ.ok p1 x1 p2 H K (h:iZ p1 x1 p2 H K):ae prog 258 #[.pointer p1,I x1,.pointer p2] H K:=
 mY (fun i=>match Nat.beq i 1 with|true=>some ([],[0,1,3,7,0,0,32,96,255,511],0)|false=>none) dY Tryz.func258 rfl rfl h
end W
namespace Str
open Go Go.Hw Go.Form W Dsk Are
structure X where
 f:Nat
 s:Nat
 w:Nat
def bh (dp ap:Nat)(x:X):AO:=Oq #[V dp,V ap,I x.f,I x.s,I x.w] 336
def D.aa (d:D):Nat:=d.size/8
structure On (d:D)(x:X):Prop where
 w1:1<=x.w
 s1:1<=x.s
 fit:x.f+x.s<=d.sec
 room:x.w<=x.s*D.aa d
theorem Ok.eB {d:D}(h:Ok d):4<=D.aa d/\D.aa d<=512/\8*D.aa d=d.size:=by
 have h1:=h.size;have h2:=h.aa;unfold D.aa;omega
section
variable {L : List As} {H : Hp} {p dp ap : Nat} {d : D} {x : X}
theorem mH (h:Sep L H)(i j:Nat)(hi:L[i]? =some (af p (bh dp ap x)))(hj:L[j]? =some (Dk dp d))(hok:Ok d):ae prog 256 #[V p] H (RetE (I (D.aa d:Int)) H):=by
 have hsz:=hok.size;apply jT.ok;unfold jT;simp only[HS];refine eV (h.get i hi) (v:=V dp) rfl ?_;simp only[HV]
 try simp only[HS]
 refine ae.use (qP h j hj) ?_
 try simp only[HV]
 refine⟨by decide,by simp,RetE.of ?_⟩;rw[show Int.tdiv (d.size:Int) 8=((d.size/8:Nat):Int)from rfl,ed];rfl
theorem ph (h:Sep L H)(i:Nat)(hi:L[i]? =some (af p (bh dp ap x))):ae prog 186 #[V p] H (RetE (I (x.w:Int)) H):=by
 apply js.ok;unfold js;simp only[HS];refine eV (h.get i hi) (v:=I x.w) rfl ?_;simp only[HV];exact RetE.mk _ _
end
def dr (bs:List UInt8):List UInt64:=(List.range (bs.length/8)).map fun i=>UInt64.ofNat (aP bs (8*i))
theorem ja (bs:List UInt8):(dr bs).length=bs.length/8:=by simp[dr]
theorem yH (bs:List UInt8)(i:Nat)(h:i<bs.length/8):(dr bs)[i]? =some (UInt64.ofNat (aP bs (8*i))):=by
 unfold dr;rw[List.getElem?_map,List.getElem?_range h];rfl
theorem Dg (l:List UInt64):dr (form l)=l:=by
 apply List.ext_getElem?;intro i;by_cases h:i<l.length
 .rw[yH _ _ (by rw[ec];omega)];have:=mL h [];rw[List.append_nil]at this;rw[this,List.getElem?_eq_getElem h];simp
 .rw[List.getElem?_eq_none (by rw[ja,ec];omega),List.getElem?_eq_none (by omega)]
structure Calm (d:D):Prop where
 down:d.down=false
 aI:d.aI=0
def D.more (d:D):D:={ d with rd:=d.rd+1}
theorem zZ (K:VK)(A:OA)(n c:Nat)(bs:List UInt8)(hn:n=bs.length)(hnc:n<=c)(hn2:n<=4096)(rb aa m:Nat)(hper:8*aa=n){L:List As}(i:Nat)
  (hK:∀ H,Sep (L.set i (af rb (.row (ah (dr bs)) 108 m))) H->K (I 0) H) (hb:∀ xs H,Sep (L.set i (af rb (.row xs 108 m))) H->Cells H A (aD bs)) (hi:i<L.length):∀(d j:Nat) (xs:List Value) (H:Hp),j+d=aa->xs.length=aa->xs.take j=(ah (dr bs)).take j->
   Sep (L.set i (af rb (.row xs 108 m))) H->cr.l6 K (d+1) A n c (Oo rb) aa aa (aa:Int) (j:Int) H
 |0,j,xs,H,hj,hl,hx,hs=>by
  unfold cr.l6;refine aw (by omega) (hK H ?_);rw[List.take_of_length_le (by omega),List.take_of_length_le (by rw[aG,ja];omega)]at hx;rw[<- hx];exact hs
 |d+1,j,xs,H,hj,hl,hx,hs=>by
  unfold cr.l6;refine aC (by omega) ?_;refine ae.use (FormP.yR A n c hnc (by omega) bs hn j (by omega) H (hb xs H hs)) ?_
  try simp only[HV]
  refine⟨by omega,by omega,?_⟩;rw[Int.toNat_natCast,Nat.mul_one];show St H _ _ _
  rw[Addr.bm,Nat.zero_add,Addr.add_zero];refine hs.str i (b:=rb) (xs:=xs) (e:=108) (m:=m) (by rw[List.getElem?_set];simp[hi]) (by omega) rfl fun H hs=>?_;rw[List.set_set]at hs;rw[bu (x:=(j:Int)+1)];refine zZ K A n c bs hn hnc hn2 rb aa m hper i hK hb hi d (j+1) _ H (by omega) (by rw[List.length_set];exact hl) ?_ hs;have hw:(ah (dr bs))[j]? =some (U (aP bs (8*j):Nat)):=by
   rw[dO,yH _ _ (by omega)];simp only[Option.map_some];rw[UInt64.toNat_ofNat_of_lt' (iQ bs (8*j))]
  obtain⟨hlt,hg⟩:=List.getElem?_eq_some_iff.1 hw;rw[List.take_succ_eq_append_getElem hlt,hg,<-hx,List.take_succ_eq_append_getElem (by rw[List.length_set];omega),List.take_set_of_le (by omega),List.getElem_set_self]
def D.put (d:D)(i:Int)(ws:List UInt64):D:={ d with wr:=d.wr+1,ij:=rF d.ij i,cache:=ig d.cache i (form ws)}
def right (d:D)(f s w:Int):Prop:=1<=w/\0<=f/\1<=s/\f<d.sec/\s<=d.sec-f/\w<=s*D.aa d
theorem jH {dp ap:Nat}{d:D}(hok:Ok d)(x:X)(hx:On d x):Tr prog 232 #[V dp,V ap,.agg #[I x.f,I x.s,I x.w]] [Dk dp d] fun v M=>
  ∃ p,v= .tuple #[V p,I 0]/\M=[Dk dp d,af p (bh dp ap x)]:=fun H hs=>by
 have hp:=Ok.eB hok;have hsec:=hok.sec;obtain⟨h1,h2,h3,h4⟩:=hx;have hroom:x.s*D.aa d<=1048576*512:=Nat.mul_le_mul (by omega) (by omega);apply oG.ok;unfold oG;simp only[HS];refine hs.nw fun b1 H hs=>bQ rfl (bQ rfl ?_)
 refine hs.bd 1 rfl rfl ?_;simp only[HV];refine hs.nw fun b2 H hs=>?_
 refine hs.ld 1 rfl rfl ?_;simp only[HV];refine aw (by omega) ?_;refine hs.ld 1 rfl rfl ?_;simp only[HV];refine aw (by omega) ?_;refine hs.ld 1 rfl rfl ?_;simp only[HV];refine aw (by omega) ?_;refine hs.ld 1 rfl rfl ?_;simp only[HV];refine bN.use (lO hs 0 rfl) ?_
 try simp only[HV]
 refine aw (by omega) ?_;refine hs.ld 1 rfl rfl ?_;simp only[HV];refine bN.use (lO hs 0 rfl) ?_
 try simp only[HV]
 refine hs.ld 1 rfl rfl ?_;simp only[HV];rw[bu (x:=(d.sec:Int)-x.f)];refine aw (by omega) ?_;refine hs.ld 1 rfl rfl ?_;simp only[HV];refine hs.ld 1 rfl rfl ?_;simp only[HV];refine bN.use (mH (p:=b2) (dp:=dp) (ap:=ap) (x:=x) hs 2 0 rfl rfl hok) ?_;simp only[HV];rw[<- Int.natCast_mul,ed];refine aw (by omega) ?_;exact⟨_,⟨b2,rfl,rfl⟩,hs.re [0,2] rfl⟩
def cN (aa fr n:Nat):Nat:=if aa-fr%aa<n then aa-fr%aa else n
def dP (aa f:Nat):Nat->Nat->Nat->List (Nat×Nat×Nat)
 |0,_,_=>[]
 |k+1,fr,n=>if n=0 then []else(f+fr/aa,fr%aa,cN aa fr n)::dP aa f k (fr+cN aa fr n) (n-cN aa fr n)
def lK (y:Nat×Nat×Nat):List Value:=[I (y.1:Int),I (y.2.1:Int),I (y.2.2:Int)]
theorem xA (aa fr n:Nat):cN aa fr n<=n:=by unfold cN;split<;>omega
theorem ud {aa fr n:Nat}(hp:0<aa:=by omega)(hn:0<n:=by omega):0<cN aa fr n:=by
 have:=Nat.mod_lt fr hp;unfold cN;split<;>omega
theorem BP {aa fr n:Nat}(hp:0<aa:=by omega):fr%aa+cN aa fr n<=aa:=by
 have:=Nat.mod_lt fr hp;unfold cN;split<;>omega
theorem KK :eJ prog 360=some (3,24,some #[I 0,I 0,I 0]):=by kernel_rfl
theorem vV (K:VK){p dp ap:Nat}{d:D}{x:X}(hok:Ok d)(hx:On d x):
  ∀(k fr n:Nat) (A:OA) (c m:Nat) (acc:List (Nat×Nat×Nat)) (H:Hp),n<=k->fr+n<=x.w->acc.length=c->c+n<=1000000000->
   (∀ A' m' H',Sep [af p (bh dp ap x),Dk dp d,bH 360 3 A' (acc++dP (D.aa d) x.f k fr n).length m' ((acc++dP (D.aa d) x.f k fr n).flatMap lK)] H'->K (.tuple #[.slice A' (acc++dP (D.aa d) x.f k fr n).length m',I 0]) H')->
   Sep [af p (bh dp ap x),Dk dp d,bH 360 3 A c m (acc.flatMap lK)] H->bY.l4 K (k+1) (Oo p) (fr:Int) (n:Int) A c m H
 |k,fr,0,A,c,m,acc,H,hn,hf,hc,hcn,hk,hs=>by
  unfold bY.l4;refine aw (by omega) ?_;have e:dP (D.aa d) x.f k fr 0=[]:=by cases k<;>simp[dP]
  rw[e,List.append_nil,hc]at hk;exact hk A m H hs
 |0,fr,n+1,A,c,m,acc,H,hn,hf,hc,hcn,hk,hs=>by omega
 |k+1,fr,n+1,A,c,m,acc,H,hn,hf,hc,hcn,hk,hs=>by
  have hp:=Ok.eB hok;have hsec:=hok.sec;have hroom:x.s*D.aa d<=1048576*512:=Nat.mul_le_mul (by have:=hx.fit;omega) (by omega);have h4:=hx.room;have hfit:=hx.fit;unfold bY.l4;refine aC (by omega) ?_;simp only[HS];refine hs.mO 0 rfl (Nat.le_refl _) ?_;refine bN.use (mH hs 0 1 rfl rfl hok) ?_;simp only[HV];refine bN.use (Lay.Gk x.f x.s x.w (D.aa d) fr ⟨by omega,by omega⟩ (by omega) H) ?_;have hdiv:fr/D.aa d<x.s:=by
   rw[Nat.div_lt_iff_lt_mul (by omega)];omega
  have hS:Lay.lu x.f x.s x.w (D.aa d) fr=(((x.f+fr/D.aa d:Nat):Int),((fr%D.aa d:Nat):Int),(0:Int)):=by
   unfold Lay.lu;have e:Int.tdiv (fr:Int) (D.aa d:Int)=((fr/D.aa d:Nat):Int):=rfl;have e2:Int.tmod (fr:Int) (D.aa d:Int)=((fr%D.aa d:Nat):Int):=rfl;rw[e,e2,if_neg (by omega)];simp
  rw[hS];simp only[HV];refine aH rfl ?_;refine ae.use (mH hs 0 1 rfl rfl hok) ?_
  try simp only[HV]
  have hmod:=Nat.mod_lt fr (show 0<D.aa d by omega);rw[bu (x:=(D.aa d:Int)-((fr%D.aa d:Nat):Int))];have hcN:(if(D.aa d:Int)-((fr%D.aa d:Nat):Int)<((n+1:Nat):Int)then(D.aa d:Int)-((fr%D.aa d:Nat):Int)else((n+1:Nat):Int))=((cN (D.aa d) fr (n+1):Nat):Int):=by
   unfold cN;by_cases h:D.aa d-fr%D.aa d<n+1
   .rw[if_pos h,if_pos (by omega)];omega
   .rw[if_neg h,if_neg (by omega)]
  rw[hcN];have hcle:=xA (D.aa d) fr (n+1);have hcpos:=ud (aa:=D.aa d) (fr:=fr) (n:=n+1);refine hs.Mr 2 (by rfl) KK rfl (by omega) (by omega) rfl (by rfl) (by omega) (by omega) fun A' m' H hs=>?_
  simp only[HV];rw[bu (x:=(fr:Int)+((cN (D.aa d) fr (n+1):Nat):Int)),bu (x:=((n+1:Nat):Int)-((cN (D.aa d) fr (n+1):Nat):Int))];rw[show(fr:Int)+((cN (D.aa d) fr (n+1):Nat):Int)=((fr+cN (D.aa d) fr (n+1):Nat):Int) by omega,show((n+1:Nat):Int)-((cN (D.aa d) fr (n+1):Nat):Int)=((n+1-cN (D.aa d) fr (n+1):Nat):Int) by omega];have e:dP (D.aa d) x.f (k+1) fr (n+1)=(x.f+fr/D.aa d,fr%D.aa d,cN (D.aa d) fr (n+1))::dP (D.aa d) x.f k (fr+cN (D.aa d) fr (n+1)) (n+1-cN (D.aa d) fr (n+1)):=by
   show(if n+1=0 then []else _)=_
   rw[if_neg (by omega)]
  refine vV K (dp:=dp) (ap:=ap) hok hx k _ _ A' (c+1) m' (acc++[(x.f+fr/D.aa d,fr%D.aa d,cN (D.aa d) fr (n+1))]) H (by omega) (by omega) (by rw[List.length_append];simp;exact hc) (by omega) (fun A' m' H' hs=>?_) ?_
  .rw[List.append_assoc]at hs⊢;rw[show [(x.f+fr/D.aa d,fr%D.aa d,cN (D.aa d) fr (n+1))]++dP (D.aa d) x.f k (fr+cN (D.aa d) fr (n+1)) (n+1-cN (D.aa d) fr (n+1))=dP (D.aa d) x.f (k+1) fr (n+1) by rw[e];rfl]at hs⊢;exact hk A' m' H' hs
  .rw[List.flatMap_append];exact hs
theorem Al {p dp ap:Nat}{d:D}{x:X}(hok:Ok d)(hx:On d x)(fr n:Nat)(hf:fr+n<=x.w):Tr prog 254 #[V p,I fr,I n] [af p (bh dp ap x),Dk dp d] fun v M=>
  ∃ A m,v= .tuple #[.slice A (dP (D.aa d) x.f n fr n).length m,I 0]/\M=[af p (bh dp ap x),Dk dp d,bH 360 3 A (dP (D.aa d) x.f n fr n).length m ((dP (D.aa d) x.f n fr n).flatMap lK)]:=fun H hs=>by
 have hp:=Ok.eB hok;have hsec:=hok.sec;have hroom:x.s*D.aa d<=1048576*512:=Nat.mul_le_mul (by have:=hx.fit;omega) (by omega);have h4:=hx.room;apply bY.ok;unfold bY;refine aw (by omega) ?_;refine ae.use (ph hs 0 rfl) ?_
 try simp only[HV]
 refine aw (by omega) ?_;refine ae.use (ph hs 0 rfl) ?_
 try simp only[HV]
 rw[bu (x:=(x.w:Int)-fr)];refine aw (by omega) ⟨n+1,?_⟩;have e0:Sep [af p (bh dp ap x),Dk dp d,bH 360 3 none 0 0 (([]:List (Nat×Nat×Nat)).flatMap lK)] H:=by
  have:Sep (bH 360 3 none 0 0 []::[af p (bh dp ap x),Dk dp d]) H:=⟨fun _=>none,H,fun _ _ h=>(nomatch h),Hp.le_refl _,fun _=>.inl rfl,bH.none _ _ _,hs⟩;exact this.re [1,2,0] rfl
 refine vV _ (dp:=dp) (ap:=ap) hok hx n fr n none 0 0 [] H (Nat.le_refl _) hf rfl (by omega) (fun A' m' H' hs=>?_) e0;exact⟨_,⟨A',m',rfl,rfl⟩,hs⟩
def pw (d:D)(x:X)(i:Nat):UInt64:=((dr (d.now ((x.f+i/D.aa d:Nat):Int)))[i%D.aa d]?).getD 0
def dV (d:D)(x:X)(fr n:Nat):List UInt64:=(List.range n).map fun i=>pw d x (fr+i)
theorem kK (d:D)(x:X)(fr n:Nat):(dV d x fr n).length=n:=by simp[dV]
theorem D8 (d:D)(x:X)(fr a b:Nat):dV d x fr (a+b)=dV d x fr a++dV d x (fr+a) b:=by
 unfold dV;rw[List.range_add,List.map_append,List.map_map];congr 1;apply List.map_congr_left;intro i _;simp only[Function.comp];congr 1;omega
theorem vU {d:D}(hok:Ok d)(x:X){fr k:Nat}(h:fr%D.aa d+k<=D.aa d):((dr (d.now ((x.f+fr/D.aa d:Nat):Int))).drop (fr%D.aa d)).take k=dV d x fr k:=by
 have hp:=Ok.eB hok;apply List.ext_getElem?;intro i;unfold dV;rw[List.getElem?_take,List.getElem?_map];by_cases hi:i<k
 .rw[if_pos hi,List.getElem?_drop,List.getElem?_range hi];simp only[Option.map_some];have hlen:(dr (d.now ((x.f+fr/D.aa d:Nat):Int))).length=D.aa d:=by
   rw[ja,hok.now];rfl
  unfold pw;have e:=Nat.div_add_mod fr (D.aa d);have h1:(fr+i)/D.aa d=fr/D.aa d:=by
   rw[Nat.div_eq_of_lt_le]
   .rw[Nat.mul_comm];omega
   .rw[Nat.succ_mul,Nat.mul_comm];omega
  have h2:(fr+i)%D.aa d=fr%D.aa d+i:=by
   have:=Nat.div_add_mod (fr+i) (D.aa d);rw[h1]at this;omega
  rw[h1,h2,List.getElem?_eq_getElem (by rw[hlen];omega)];rfl
 .rw[if_neg hi,List.getElem?_eq_none (by simp;omega)];rfl
def D.M4 (d:D)(t:Nat):D:={ d with rd:=d.rd+t}
theorem Ok.M4 {d:D}(h:Ok d)(t:Nat):Ok (D.M4 d t):=⟨h.sec,h.size,h.lk,h.aa,h.safe,h.cache,h.fz⟩
theorem D5 (aa f:Nat)(hp:0<aa):∀(k fr n:Nat),n<=k->((dP aa f k fr n).map (·.2.2)).sum=n
 |k,fr,0,_=>by cases k<;>simp[dP]
 |0,fr,n+1,h=>by omega
 |k+1,fr,n+1,h=>by
  have hcle:=xA aa fr (n+1);have hcpos:=ud (aa:=aa) (fr:=fr) (n:=n+1) hp;unfold dP;rw[if_neg (by omega),List.map_cons,List.sum_cons,D5 aa f hp k _ _ (by omega)];show cN aa fr (n+1)+_=_
  omega
theorem jg (aa f:Nat):∀(k fr n:Nat),(dP aa f k fr n).length<=k
 |0,_,_=>by simp[dP]
 |k+1,fr,n=>by
  unfold dP;split
  .simp
  .have:=jg aa f k (fr+cN aa fr n) (n-cN aa fr n);simp only[List.length_cons];omega
def mx (a b:Int):Int:=if b>a then b else a
def kN (ws:List UInt64)(dq:Nat)(src:List UInt64):List UInt64:=ws.take dq++src++ws.drop (dq+src.length)
theorem xb {ws src:List UInt64}{i:Nat}(h:i+src.length<=ws.length:=by omega):(kN ws i src).length=ws.length:=by
 unfold kN;simp;omega
theorem uR (ws src:List UInt64)(i:Nat):setAt (ah ws) i (ah src)=ah (kN ws i src):=by
 unfold setAt kN ah;simp
def lL (d:D)(s dq:Nat)(src:List UInt64):D:=D.put (if src.length<D.aa d then D.more d else d) s (kN (dr (d.now s)) dq src)
def yI (d:D)(x:X):Nat->Nat->List UInt64->D
 |0,_,_=>d
 |k+1,fr,src=>if src=[]then d else yI (lL d (x.f+fr/D.aa d) (fr%D.aa d) (src.take (cN (D.aa d) fr src.length))) x k (fr+cN (D.aa d) fr src.length) (src.drop (cN (D.aa d) fr src.length))
theorem Lk (d:D)(s:Int)(ws:List UInt64)(i:Int):(D.put d s ws).now i=if i=s then form ws else d.now i:=by
 unfold D.put D.now ig;by_cases h:i=s
 .simp[h]
 .simp only[h,if_false];rfl
theorem Ok.put {d:D}(h:Ok d)(i:Int){ws:List UInt64}(hw:ws.length=D.aa d):Ok (D.put d i ws):=by
 have hp:=Ok.eB h;refine⟨h.sec,h.size,h.lk,h.aa,h.safe,fun k b hb=>?_,h.fz⟩;have hb':(if k=i then some (form ws)else d.cache k)=some b:=hb;split at hb'
 .cases hb';rw[ec];show 8*ws.length=d.size;omega
 .exact h.cache k b hb'
theorem Ok.more {d:D}(h:Ok d):Ok (D.more d):=Ok.M4 h 1
theorem Calm.put {d:D}(h:Calm d)(i:Int)(ws:List UInt64):Calm (D.put d i ws):=⟨h.down,h.aI⟩
theorem Calm.more {d:D}(h:Calm d):Calm (D.more d):=⟨h.down,h.aI⟩
theorem Ni {d:D}(h:Ok d)(s dq:Nat){src:List UInt64}(hl:dq+src.length<=D.aa d):Ok (lL d s dq src):=by
 have hwl:(dr (d.now (s:Int))).length=D.aa d:=by rw[ja,h.now];rfl
 unfold lL;split
 .exact Ok.put (Ok.more h) _ (by rw[xb];exact hwl)
 .exact Ok.put h _ (by rw[xb];exact hwl)
theorem JL {d:D}(h:Calm d)(s dq:Nat)(src:List UInt64):Calm (lL d s dq src):=by
 unfold lL;split
 .exact Calm.put (Calm.more h) _ _
 .exact Calm.put h _ _
theorem CR (d:D)(s dq:Nat)(src:List UInt64):(lL d s dq src).size=d.size/\(lL d s dq src).sec=d.sec:=by
 unfold lL;split<;>exact⟨rfl,rfl⟩
theorem EI (d:D)(s dq:Nat)(src:List UInt64):D.aa (lL d s dq src)=D.aa d:=by unfold D.aa;rw[(CR d s dq src).1]
theorem LV (d:D)(s dq:Nat)(src:List UInt64):(lL d s dq src).wr=d.wr+1/\(lL d s dq src).rd=d.rd+(if src.length<D.aa d then 1 else 0)/\(lL d s dq src).sy=d.sy:=by
 unfold lL;split
 .exact⟨rfl,rfl,rfl⟩
 .exact⟨rfl,rfl,rfl⟩
theorem EH (d:D)(s dq:Nat)(src:List UInt64)(i:Int):(lL d s dq src).now i=if i=s then form (kN (dr (d.now s)) dq src)else d.now i:=by
 unfold lL;rw[Lk];split
 .rfl
 .split<;>rfl
def D.mr (d:D):D:={ d with rd:=d.rd+1,aI:=d.aI-1}
def D.pt (d:D)(i:Int)(ws:List UInt64):D:={ d with wr:=d.wr+1,ij:=rF d.ij i,cache:=ig d.cache i (form ws),aI:=d.aI-1}
def D.dead (d:D):D:={ d with aI:=0,down:=true}
theorem lS {d:D}(h:d.aI=1):d.bC=D.dead d:=by
 unfold D.bC D.dead;rw[if_neg (by omega),h];rfl
theorem kX {d:D}(hl:d.down=false)(h:d.aI≠1):d.bC={ d with aI:=d.aI-1}:=by
 unfold D.bC;by_cases h0:d.aI=0
 .rw[if_pos h0];cases d;simp_all
 .rw[if_neg h0];have:decide (d.aI=1)=d.down:=by rw[hl];exact decide_eq_false h
  rw[this]
theorem o9 {d:D}(hl:d.down=false){i:Int}(h0:0<=i)(h1:i<d.sec):d.kE i=0:=by
 unfold D.kE;rw[hl,if_neg (by simp),if_neg (by omega)]
theorem Ok.dead {d:D}(h:Ok d):Ok (D.dead d):=⟨h.sec,h.size,h.lk,h.aa,h.safe,h.cache,Nat.zero_le _⟩
theorem Ok.mr {d:D}(h:Ok d):Ok (D.mr d):=⟨h.sec,h.size,h.lk,h.aa,h.safe,h.cache,Nat.le_trans (Nat.sub_le _ _) h.fz⟩
theorem Ok.pt {d:D}(h:Ok d)(i:Int){ws:List UInt64}(hw:ws.length=D.aa d):Ok (D.pt d i ws):=by
 have:=Ok.put h i hw;exact⟨this.sec,this.size,this.lk,this.aa,this.safe,this.cache,Nat.le_trans (Nat.sub_le _ _) h.fz⟩
structure Prog (S:Int->Prop)(d d':D)(r w:Nat):Prop where
 ok:Ok d'
 down:d'.down=false
 aI:d'.aI=d.aI-(r+w)
 go:d.aI=0\/r+w<d.aI
 sec:d'.sec=d.sec
 size:d'.size=d.size
 safe:d'.safe=d.safe
 sy:d'.sy=d.sy
 cache:∀ k,¬S k->d'.cache k=d.cache k
 ij:∀ k,¬S k->d'.ij k=d.ij k
 rd:d'.rd=d.rd+r
 wr:d'.wr=d.wr+w
structure gW (S:Int->Prop)(d d':D):Prop where
 ok:Ok d'
 down:d'.down=true
 aI:d'.aI=0
 sec:d'.sec=d.sec
 size:d'.size=d.size
 safe:d'.safe=d.safe
 sy:d'.sy=d.sy
 cache:∀ k,¬S k->d'.cache k=d.cache k
 ij:∀ k,¬S k->d'.ij k=d.ij k
 tP:d'.rd+d'.wr+1=d.rd+d.wr+d.aI
 rd:d.rd<=d'.rd
 wr:d.wr<=d'.wr
section
variable {S : Int -> Prop} {d d1 d2 : D}
theorem Prog.refl (S:Int->Prop)(h:Ok d)(hl:d.down=false):Prog S d d 0 0:=⟨h,hl,by omega,by omega,rfl,rfl,rfl,rfl,fun _ _=>rfl,fun _ _=>rfl,rfl,rfl⟩
theorem Prog.aa {r w:Nat}(h:Prog S d d1 r w):D.aa d1=D.aa d:=by unfold D.aa;rw[h.size]
theorem Prog.trans {r w r' w':Nat}(h:Prog S d d1 r w)(k:Prog S d1 d2 r' w'):Prog S d d2 (r+r') (w+w'):=by
 have a1:=h.aI;have a2:=h.go;have b1:=k.aI;have b2:=k.go;have c1:=h.rd;have c2:=h.wr;have c3:=k.rd;have c4:=k.wr;exact⟨k.ok,k.down,by omega,by omega,k.sec.trans h.sec,k.size.trans h.size,k.safe.trans h.safe,k.sy.trans h.sy,fun i hi=>(k.cache i hi).trans (h.cache i hi),fun i hi=>(k.ij i hi).trans (h.ij i hi),by omega,by omega⟩
theorem gW.mono {S':Int->Prop}(h:gW S d d1)(k:∀ i,S i->S' i):gW S' d d1:={ h with cache:=fun i hi=>h.cache i fun hs=>hi (k i hs),ij:=fun i hi=>h.ij i fun hs=>hi (k i hs)}
theorem Prog.dead {r w:Nat}(h:Prog S d d1 r w)(k:gW S d1 d2):gW S d d2:=by
 have a1:=h.aI;have a2:=h.go;have c1:=h.rd;have c2:=h.wr;have c3:=k.rd;have c4:=k.wr;have c5:=k.tP;exact⟨k.ok,k.down,k.aI,k.sec.trans h.sec,k.size.trans h.size,k.safe.trans h.safe,k.sy.trans h.sy,fun i hi=>(k.cache i hi).trans (h.cache i hi),fun i hi=>(k.ij i hi).trans (h.ij i hi),by omega,by omega,by omega⟩
theorem Prog.mr (S:Int->Prop)(h:Ok d)(hl:d.down=false)(hf:d.aI≠1):Prog S d (D.mr d) 1 0:=
 ⟨Ok.mr h,hl,rfl,by omega,rfl,rfl,rfl,rfl,fun _ _=>rfl,fun _ _=>rfl,rfl,rfl⟩
theorem Prog.pt (S:Int->Prop)(h:Ok d)(hl:d.down=false)(hf:d.aI≠1){i:Int}(hi:S i){ws:List UInt64}(hw:ws.length=D.aa d):Prog S d (D.pt d i ws) 0 1:=
 ⟨Ok.pt h i hw,hl,rfl,by omega,rfl,rfl,rfl,rfl,fun k hk=>by
  show ig d.cache i (form ws) k=_
  unfold ig;exact if_neg fun(e:k=i)=>hk (by rw[e];exact hi),fun k hk=>by
  show rF d.ij i k=_
  unfold rF;exact if_neg fun(e:k=i)=>hk (by rw[e];exact hi),rfl,rfl⟩
theorem gW.one (S:Int->Prop)(h:Ok d)(hf:d.aI=1):gW S d (D.dead d):=
 ⟨Ok.dead h,rfl,rfl,rfl,rfl,rfl,rfl,fun _ _=>rfl,fun _ _=>rfl,by show d.rd+d.wr+1=_;rw[hf],Nat.le_refl _,Nat.le_refl _⟩
end
theorem Jg {p:Nat}{d:D}(hok:Ok d)(hl:d.down=false)(ho:d.rd<=4611686018427387904)(i:Int)(h0:0<=i)(h1:i<d.sec):Tr prog 46 #[V p,I i] [Dk p d] fun v M=>
  (d.aI≠1/\∃ b c m,v= .tuple #[.slice (Oo b) d.size c,I 0]/\d.size<=c/\M=[Dk p (D.mr d),af b (.row (aD (d.now i)) 5 m)])\/
  (d.aI=1/\v= .tuple #[.slice none 0 0,I 8]/\M=[Dk p (D.dead d)]):=fun H hs=>
 (Dsk.vh hok ho i H hs).mono fun v H' ⟨M,hq,hM⟩=>by
  rcases hq with⟨h,_⟩|⟨_,h,h2,h3⟩|⟨_,hb,b,c,m,h2,h3,h4⟩
  .exact absurd (o9 hl h0 h1) h
  .have hf:d.aI=1:=by simpa [D.dG]using h
   rw[lS hf]at h3;exact⟨M,.inr ⟨hf,h2,h3⟩,hM⟩
  .have hf:d.aI≠1:=by simpa [D.dG]using hb
   rw[kX hl hf]at h4;exact⟨M,.inl ⟨hf,b,c,m,h2,h3,h4⟩,hM⟩
theorem B9 {p dp ap:Nat}{d:D}{x:X}{cap aj:Int}{bufs:List (Nat×Nat×OA)}{b rb m:Nat}{xs:List Value}(hok:Ok d)(hl:d.down=false)(ho:d.rd<=4611686018427387904)(i:Int)(h0:0<=i)(h1:i<d.sec)
  (hbm:(b,D.aa d,some (O rb))∈bufs) (hxs:xs.length=D.aa d):
  Tr prog 235 #[V p,I i,V b] [af p (bh dp ap x),Dk dp d,Ar ap cap aj bufs,af rb (.row xs 108 m)] fun v M=>
   (d.aI≠1/\v= I 0/\M=[af p (bh dp ap x),Dk dp (D.mr d),Ar ap cap aj bufs,af rb (.row (ah (dr (d.now i))) 108 m)])\/
   (d.aI=1/\v= I 8/\M=[af p (bh dp ap x),Dk dp (D.dead d),Ar ap cap aj bufs,af rb (.row xs 108 m)]):=fun H hs=>by
 have hp:=Ok.eB hok;have hnow:=hok.now i;have hsz:=hok.size;apply cr.ok;unfold cr;simp only[HS];refine hs.ld 0 rfl rfl ?_;simp only[HV];refine(Jg hok hl ho i h0 h1).use hs [1] rfl rfl ?_;rintro _ _ H (⟨hf,br,c,mr,rfl,hcc,rfl⟩|⟨hf,rfl,rfl⟩) hs
 .simp only[HV];refine aH rfl ?_;refine ae.use (lz hs 3 rfl hbm) ?_
  try simp only[HV]
  refine⟨D.aa d+1,?_⟩;refine zZ _ (Oo br) d.size c (d.now i) hnow.symm hcc (by omega) rb (D.aa d) m (by omega) (L:=[Dk dp (D.mr d),af br (.row (aD (d.now i)) 5 mr),af p (bh dp ap x),Ar ap cap aj bufs,af rb (.row xs 108 m)]) 4 (fun H hs=>?_) (fun ys H hs=>?_) (by simp) (D.aa d) 0 xs H (by omega) hxs (by simp) hs
  .exact⟨_,.inl ⟨hf,rfl,rfl⟩,hs.re [2,0,3,4] rfl⟩
  .have:=Cells.row (hs.get 1 (b:=br) (o:=.row (aD (d.now i)) 5 mr) rfl) 0 d.size;rw[List.drop_zero,List.take_of_length_le (by rw[bz];omega)]at this;exact this
 .simp only[HV];exact aT (by decide) ⟨_,.inr ⟨hf,by trivial,rfl⟩,hs.re [1,0,2,3] rfl⟩
theorem Ih {p:Nat}{d:D}(hok:Ok d)(hl:d.down=false)(ho:d.wr<=4611686018427387904)(i:Int)(h0:0<=i)(h1:i<d.sec)(ws:List UInt64)(hw:ws.length=D.aa d)(b m:Nat):
  Tr prog 47 #[V p,I i,.slice (Oo b) (8*ws.length) (8*ws.length)] [Dk p d,af b (.row (aD (form ws)) 5 m)] fun v M=>
   (d.aI≠1/\v= I 0/\M=[Dk p (D.pt d i ws),af b (.row (aD (form ws)) 5 m)])\/
   (d.aI=1/\v= I 8/\M=[Dk p (D.dead d),af b (.row (aD (form ws)) 5 m)]):=fun H hs=>by
 have hp:=Ok.eB hok;refine(Dsk.kV hok ho i (Oo b) (8*ws.length) (8*ws.length) (form ws) (ec ws).symm (af b (.row (aD (form ws)) 5 m)) (fun H h=>?_) H hs).mono ?_
 .have:=Cells.row h 0 (8*ws.length);rw[List.drop_zero,List.take_of_length_le (by rw[bz,ec];omega)]at this;exact this
 .rintro v H' ⟨M,⟨rfl,rfl⟩,hM⟩;have hc:=o9 hl h0 h1;by_cases hf:d.aI=1
  .have hb:d.dG=true:=by unfold D.dG;exact decide_eq_true hf
   have e1:d.dx i (8*ws.length)=8:=by
    unfold D.dx;rw[if_neg (by rw[hc];simp),if_neg (by omega),hb];rfl
   have e2:d.bJ i (form ws)=D.dead d:=by
    unfold D.bJ;rw[if_neg (by rw[hc];simp),if_neg (by rw[ec];omega),hb,if_pos rfl,lS hf]
   rw[e1];rw[e2]at hM;exact⟨_,.inr ⟨hf,rfl,rfl⟩,hM⟩
  .have hb:d.dG=false:=by unfold D.dG;exact decide_eq_false hf
   have e1:d.dx i (8*ws.length)=0:=by
    unfold D.dx;rw[if_neg (by rw[hc];simp),if_neg (by omega),hb];rfl
   have e2:d.bJ i (form ws)=D.pt d i ws:=by
    unfold D.bJ;rw[if_neg (by rw[hc];simp),if_neg (by rw[ec];omega),hb];unfold D.wrote D.pt;rw[kX hl hf];rfl
   rw[e1];rw[e2]at hM;exact⟨_,.inl ⟨hf,rfl,rfl⟩,hM⟩
theorem LG {p dp ap:Nat}{d:D}{x:X}{cap aj:Int}{bufs:List (Nat×Nat×OA)}{b rb m:Nat}{ws:List UInt64}(hok:Ok d)(hl:d.down=false)(ho:d.wr<=4611686018427387904)(i:Int)(h0:0<=i)(h1:i<d.sec)
  (hbm:(b,D.aa d,some (O rb))∈bufs) (hw:ws.length=D.aa d):
  Tr prog 258 #[V p,I i,V b] [af p (bh dp ap x),Dk dp d,Ar ap cap aj bufs,af rb (.row (ah ws) 108 m)] fun v M=>
   (d.aI≠1/\v= I 0/\M=[af p (bh dp ap x),Dk dp (D.pt d i ws),Ar ap cap aj bufs,af rb (.row (ah ws) 108 m)])\/
   (d.aI=1/\v= I 8/\M=[af p (bh dp ap x),Dk dp (D.dead d),Ar ap cap aj bufs,af rb (.row (ah ws) 108 m)]):=fun H hs=>by
 have hp:=Ok.eB hok;have hcell:∀{L:List As} {H:Hp} (j:Nat),Sep L H->L[j]? =some (af rb (.row (ah ws) 108 m))->Cells H (Oo rb) (ah ws):=fun j hs hj=>by
  have:=Cells.row (hs.get j hj) 0 ws.length;rw[List.drop_zero,List.take_of_length_le (by rw[aG];exact Nat.le_refl _)]at this;exact this
 apply iZ.ok;unfold iZ;simp only[HS];have put:∀(H:Hp) (K:VK),Sep [af p (bh dp ap x),Dk dp d,Ar ap cap aj bufs,af rb (.row (ah ws) 108 m)] H->
   (∀ b' H',Sep [af p (bh dp ap x),Dk dp d,Ar ap cap aj bufs,af rb (.row (ah ws) 108 m),af b' (.row (aD (form ws)) 5 (8*ws.length))] H'->K (.slice (Oo b') (8*ws.length) (8*ws.length)) H')->
   ae prog 214 #[.slice (Oo rb) (D.aa d) (D.aa d)] H K:=fun H K hs k=>by
  rw[<- hw];refine(FormP.pR (Oo rb) ws.length ws.length ws rfl (by omega) H (hcell 3 hs rfl)).mono ?_;rintro v H' ⟨b',hb',rfl,rfl⟩;exact k b' _ (hs.new hb' _)
 have wr:∀(b':Nat) (H:Hp),Sep [af p (bh dp ap x),Dk dp d,Ar ap cap aj bufs,af rb (.row (ah ws) 108 m),af b' (.row (aD (form ws)) 5 (8*ws.length))] H->
   ae prog 47 #[V dp,I i,.slice (Oo b') (8*ws.length) (8*ws.length)] H fun v4 H3=>DI .i64 v4 fun x2=>∃ M,((d.aI≠1/\(I x2:Value)= I 0/\M=[af p (bh dp ap x),Dk dp (D.pt d i ws),Ar ap cap aj bufs,af rb (.row (ah ws) 108 m)])\/
    (d.aI=1/\(I x2:Value)= I 8/\M=[af p (bh dp ap x),Dk dp (D.dead d),Ar ap cap aj bufs,af rb (.row (ah ws) 108 m)]))/\Sep M H3:=fun b' H hs=>by
  refine(Ih hok hl ho i h0 h1 ws hw b' (8*ws.length)).use hs [1,4] rfl rfl ?_;rintro _ _ H (⟨hf,rfl,rfl⟩|⟨hf,rfl,rfl⟩) hs
  .exact⟨_,.inl ⟨hf,rfl,rfl⟩,hs.re [2,0,3,4] rfl⟩
  .exact⟨_,.inr ⟨hf,rfl,rfl⟩,hs.re [2,0,3,4] rfl⟩
 refine⟨?_,?_⟩
 .refine hs.ld 0 rfl rfl ?_;simp only[HV];refine ae.use (lz hs 2 rfl hbm) ?_
  try simp only[HV]
  refine put H _ hs fun b' H hs=>?_
  simp only[HV];exact wr b' H hs
 .refine ae.use (lz hs 2 rfl hbm) ?_
  try simp only[HV]
  refine⟨?_,?_⟩
  .refine hs.ld 0 rfl rfl ?_;simp only[HV];refine put H _ hs fun b' H hs=>?_
   simp only[HV];exact wr b' H hs
  .refine put H _ hs fun b' H hs=>?_
   simp only[HV];refine hs.ld 0 rfl rfl ?_;simp only[HV];exact wr b' H hs
def D.bO (d:D)(t:Nat):D:={ d with rd:=d.rd+t,aI:=d.aI-t}
theorem Ok.bO {d:D}(h:Ok d)(t:Nat):Ok (D.bO d t):=⟨h.sec,h.size,h.lk,h.aa,h.safe,h.cache,Nat.le_trans (Nat.sub_le _ _) h.fz⟩
theorem Ct (d:D):D.bO d 0=d:=rfl
theorem Cs (d:D)(t:Nat):D.mr (D.bO d t)=D.bO d (t+1):=by
 unfold D.mr D.bO;simp only[D.mk.injEq,true_and,and_true];omega
theorem Prog.bO (S:Int->Prop){d:D}(h:Ok d)(hl:d.down=false){t:Nat}(hf:d.aI=0\/t<d.aI):Prog S d (D.bO d t) t 0:=
 ⟨Ok.bO h t,hl,rfl,by omega,rfl,rfl,rfl,rfl,fun _ _=>rfl,fun _ _=>rfl,rfl,rfl⟩
theorem gW.bO (S:Int->Prop){d:D}(h:Ok d)(hl:d.down=false){j:Nat}(hf:d.aI=j+1):gW S d (D.dead (D.bO d j)):=
 (Prog.bO S h hl (t:=j) (by omega)).dead (gW.one S (Ok.bO h j) (by show d.aI-j=1;omega))
theorem wa (K:VK){p dp ap:Nat}{d:D}{x:X}(hok:Ok d)(hl:d.down=false)(hx:On d x){cap aj:Int}{bufs:List (Nat×Nat×OA)}{b rb mb:Nat}(hbm:∀ y∈bufs,y.1≠b){rl off0 fr0 mm vb:Nat}{el:TypeId}{xs:List Value}{A4:OA}{n4 m4:Nat}{all:List (Nat×Nat×Nat)}(hn4:n4=all.length)(hn40:n4<=1000000000)(ho:d.rd<=4611686010000000000)
  (hK:∀ H,Sep [af p (bh dp ap x),Dk dp (D.bO d n4),Ar ap cap aj bufs,af rl (.row (setAt xs off0 (ah (dV d x fr0 (all.map (·.2.2)).sum))) el mm)] H->d.aI=0\/n4<d.aI->K (I 0) H)
  (hK8:∀ j xs' H,j<n4->d.aI=j+1->xs'.length=xs.length->Sep [af p (bh dp ap x),Dk dp (D.dead (D.bO d j)),Ar ap cap aj bufs,af rl (.row xs' el mm)] H->K (I 8) H):
  ∀(k fr n j off:Nat) (A:OA) (m:Nat) (ws:List UInt64) (H:Hp),d.aI=0\/j<d.aI->n<=k->fr+n<=x.w->n<=m->all.drop j=dP (D.aa d) x.f k fr n->j<=n4->fr0+off=fr->((all.take j).map (·.2.2)).sum=off->off0+off+n<=xs.length->(0<n->A=some ⟨rl,off0+off,none⟩)->ws.length=D.aa d->
   Sep [af p (bh dp ap x),Dk dp (D.bO d j),Ar ap cap aj (bufs++[(b,D.aa d,some (O rb))]),af rb (.row (ah ws) 108 mb),bH 360 3 A4 n4 m4 (all.flatMap lK),af rl (.row (setAt xs off0 (ah (dV d x fr0 off))) el mm),af vb (.row [V b] 331 1)] H->
   bD.l9 K (k+1) (Oo p) A n m (Oo b) A4 n4 m4 (n4:Int) (j:Int) (Oo ap) (Oo vb) 1 1 H
 |k,fr,0,j,off,A,m,ws,H,hgo,hn,hf,hm,hall,hj,hoff,hsum,hlen,hA,hws,hs=>by
  unfold bD.l9;have e:dP (D.aa d) x.f k fr 0=[]:=by cases k<;>simp[dP]
  rw[e]at hall;have hjn:j=n4:=by
   have:=congrArg List.length hall;simp at this;omega
  subst hjn;refine aw (by omega) ?_;have htake:all.take j=all:=List.take_of_length_le (by omega);rw[htake]at hsum;refine(gP vb b (D.aa d) (Oo rb) hbm).use hs [2,6] rfl rfl ?_;rintro _ _ H ⟨rfl,rfl⟩ hs;refine hK H ?_ hgo;rw[hsum];exact hs.re [1,2,0,5] rfl
 |0,fr,n+1,j,off,A,m,ws,H,hgo,hn,hf,hm,hall,hj,hoff,hsum,hlen,hA,hws,hs=>by omega
 |k+1,fr,n+1,j,off,A,m,ws,H,hgo,hn,hf,hm,hall,hj,hoff,hsum,hlen,hA,hws,hs=>by
  have hp:=Ok.eB hok;have hsec:=hok.sec;have hroom:x.s*D.aa d<=1048576*512:=Nat.mul_le_mul (by have:=hx.fit;omega) (by omega);have h4:=hx.room;have hfit:=hx.fit;obtain rfl:=hA (by omega);have e:dP (D.aa d) x.f (k+1) fr (n+1)=(x.f+fr/D.aa d,fr%D.aa d,cN (D.aa d) fr (n+1))::dP (D.aa d) x.f k (fr+cN (D.aa d) fr (n+1)) (n+1-cN (D.aa d) fr (n+1)):=by
   show(if n+1=0 then []else _)=_
   rw[if_neg (by omega)]
  rw[e]at hall;have hjlt:j<all.length:=by
   have:=congrArg List.length hall;simp at this;omega
  have hcle:=xA (D.aa d) fr (n+1);have hcpos:=ud (aa:=D.aa d) (fr:=fr) (n:=n+1);have hcper:=BP (aa:=D.aa d) (fr:=fr) (n:=n+1);have hmod:=Nat.mod_lt fr (show 0<D.aa d by omega);have hdiv:fr/D.aa d<x.s:=by
   rw[Nat.div_lt_iff_lt_mul (by omega)];omega
  have hget:all[j]=(x.f+fr/D.aa d,fr%D.aa d,cN (D.aa d) fr (n+1)):=by
   have:=List.drop_eq_getElem_cons hjlt;rw[this]at hall;exact(List.cons.inj hall).1
  have hrest:all.drop (j+1)=dP (D.aa d) x.f k (fr+cN (D.aa d) fr (n+1)) (n+1-cN (D.aa d) fr (n+1)):=by
   have:=List.drop_eq_getElem_cons hjlt;rw[this]at hall;exact(List.cons.inj hall).2
  generalize hcv:cN (D.aa d) fr (n+1)=c at*;have hflat:∀(l:List (Nat×Nat×Nat)) (i:Nat) (hi:i<l.length),((l.flatMap lK).drop (i*3)).take 3=lK l[i]:=by
   intro l
   induction l with
   |nil=>intro i hi;simp at hi
   |cons y l ih=>
    intro i hi;rw[List.flatMap_cons];cases i with
    |zero=>simp[lK]
    |succ i=>
     rw[show(i+1)*3=(lK y).length+i*3 by simp[lK];omega,List.drop_append];simp only[Nat.add_sub_cancel_left,List.getElem_cons_succ];rw[List.drop_eq_nil_of_le (by omega),List.nil_append];exact ih i (by simpa using hi)
  unfold bD.l9;refine aC (by omega) ?_;refine(hs.own 4 rfl).uG (ys:=lK all[j]) rfl (by omega) (hflat all j hjlt) ?_;rw[hget];refine hs.nw fun b2 H hs=>?_
  refine hs.dW 7 rfl rfl rfl rfl fun H hs=>?_;have hs:Sep [af p (bh dp ap x),Dk dp (D.bO d j),Ar ap cap aj (bufs++[(b,D.aa d,some (O rb))]),af rb (.row (ah ws) 108 mb),bH 360 3 A4 n4 m4 (all.flatMap lK),af rl (.row (setAt xs off0 (ah (dV d x fr0 off))) el mm),af vb (.row [V b] 331 1),
   af b2 (Oq #[I ((x.f+fr/D.aa d:Nat):Int),I ((fr%D.aa d:Nat):Int),I (c:Int)] 360)] H:=hs
  simp only[HS];refine hs.ld 7 rfl rfl ?_;simp only[HV];have hokj:=Ok.bO hok j;refine(B9 (p:=p) (ap:=ap) (x:=x) (cap:=cap) (aj:=aj) (b:=b) (rb:=rb) (m:=mb) hokj hl (by show d.rd+j<=_;omega) ((x.f+fr/D.aa d:Nat):Int) (Int.natCast_nonneg _) (Int.ofNat_lt.2 (by show _<d.sec;omega)) (bufs:=bufs++[(b,D.aa d,some (O rb))]) (List.mem_append_right _ (List.mem_singleton.2 rfl)) (xs:=ah ws) (by rw[aG];exact hws)).use hs [0,1,2,3] rfl rfl ?_;have hset:(setAt xs off0 (ah (dV d x fr0 off))).length=xs.length:=iy (by rw[aG,kK];omega);have hfz:(D.bO d j).aI=d.aI-j:=rfl;rintro _ _ H (⟨hf1,rfl,rfl⟩|⟨hf1,rfl,rfl⟩) hs
  case inr=>
   simp only[HV];refine aT (by decide) ?_;refine(gP vb b (D.aa d) (Oo rb) hbm).use hs [2,6] rfl rfl ?_;rintro _ _ H ⟨rfl,rfl⟩ hs;exact hK8 j _ H (by omega) (by omega) hset (hs.re [1,2,0,5] rfl)
  rw[Cs]at hs;have hnow:D.now (D.bO d j) ((x.f+fr/D.aa d:Nat):Int)=d.now ((x.f+fr/D.aa d:Nat):Int):=rfl;rw[hnow]at hs;have hwl:(dr (d.now ((x.f+fr/D.aa d:Nat):Int))).length=D.aa d:=by rw[ja,hok.now];rfl
  simp only[HV];refine aH rfl ?_;refine hs.ld 7 rfl rfl ?_;simp only[HV];refine yy rfl (by omega) ?_;refine bN.use (lz hs 2 rfl (List.mem_append_right _ (List.mem_singleton.2 rfl))) ?_;simp only[HV];refine hs.ld 7 rfl rfl ?_;simp only[HV];refine rA rfl (by omega) ?_;rw[CD,yx,Nat.zero_add];refine hs.cp 5 (k:=D.aa d-fr%D.aa d) (n:=c-0) (off:=off0+off) (ys:=ah (dV d x fr c)) (by rfl) fH rfl ?_ ?_ (fun y hy=>?_) fun H hs=>?_
  .have hmin:Nat.min (D.aa d-fr%D.aa d) (c-0)=c:=Nat.min_eq_right (by omega);rw[hmin];show H.cells? ⟨rb,fr%D.aa d,none⟩ 0 (c*1)=_
   rw[Nat.mul_one,nQ (hs.get 3 (b:=rb) (o:=.row (ah (dr (d.now ((x.f+fr/D.aa d:Nat):Int)))) 108 mb) rfl) (fr%D.aa d) c 0 (by rw[aG,hwl];omega)];rw[<- vU hok x (fr:=fr) (k:=c) (by omega)];unfold ah;rw[List.map_take,List.map_drop,Nat.add_zero]
  .rw[aG,kK,hset];omega
  .obtain⟨z,_,rfl⟩:=List.mem_map.1 hy;rfl
  simp only[HV];refine hs.ld 7 rfl rfl ?_;simp only[HV];refine rA rfl (by omega) ?_;rw[bu (x:=(j:Int)+1)];have happ:setAt (setAt xs off0 (ah (dV d x fr0 off))) (off0+off) (ah (dV d x fr c))=setAt xs off0 (ah (dV d x fr0 (off+c))):=by
   have hl:(ah (dV d x fr0 off)).length=off:=by rw[aG,kK]
   have:=CA (xs:=xs) (us:=ah (dV d x fr0 off)) (bs:=ah (dV d x fr c)) (off:=off0) (by rw[hl,aG,kK];omega);rw[hl]at this;rw[this,D8,hoff];unfold ah;rw[List.map_append]
  have hsum':((all.take (j+1)).map (·.2.2)).sum=off+c:=by
   rw[List.take_succ_eq_append_getElem hjlt,List.map_append,List.sum_append,hsum,hget];simp
  refine wa K (rb:=rb) (mb:=mb) hok hl hx hbm hn4 hn40 ho hK hK8 k (fr+c) (n+1-c) (j+1) (off+c) _ (m-c) (dr (d.now ((x.f+fr/D.aa d:Nat):Int))) H (by omega) (by omega) (by omega) (by omega) hrest (by omega) (by omega) hsum' (by omega) (fun h0=>?_) hwl ?_
  .rw[yx,Nat.add_assoc]
  .rw[<- happ];exact hs.re [0,1,2,3,4,5,6] rfl
def Ke (p dp ap:Nat)(d:D)(x:X)(cap aj:Int)(bufs:List (Nat×Nat×OA))(fr n:Nat)(xs:List Value)(off rl:Nat)(el:TypeId)(mm:Nat)(v:Value)(M:List As):Prop:=
 ((d.aI=0\/(dP (D.aa d) x.f n fr n).length<d.aI)/\v= I 0/\M=[af p (bh dp ap x),Dk dp (D.bO d (dP (D.aa d) x.f n fr n).length),Ar ap cap (mx aj (bf bufs+D.aa d)) bufs,af rl (.row (setAt xs off (ah (dV d x fr n))) el mm)])\/
 (∃ j xs',j<(dP (D.aa d) x.f n fr n).length/\d.aI=j+1/\xs'.length=xs.length/\v= I 8/\M=[af p (bh dp ap x),Dk dp (D.dead (D.bO d j)),Ar ap cap (mx aj (bf bufs+D.aa d)) bufs,af rl (.row xs' el mm)])
theorem wo {p dp ap:Nat}{d:D}{x:X}{cap aj:Int}{bufs:List (Nat×Nat×OA)}{rl off mm:Nat}{el:TypeId}{xs:List Value}(hok:Ok d)(hl:d.down=false)(hx:On d x)(ho:d.rd<=4611686010000000000)(fr n m:Nat)(hn:1<=n)(hf:fr+n<=x.w)(hm:n<=m)(hxl:off+n<=xs.length)(hcap:(D.aa d:Int)<=cap-bf bufs):
  Tr prog 187 #[V p,I fr,.slice (some ⟨rl,off,none⟩) n m] [af p (bh dp ap x),Dk dp d,Ar ap cap aj bufs,af rl (.row xs el mm)] fun v M=>
   Ke p dp ap d x cap aj bufs fr n xs off rl el mm v M:=fun H hs=>by
 have hp:=Ok.eB hok;have hsec:=hok.sec;have hroom:x.s*D.aa d<=1048576*512:=Nat.mul_le_mul (by have:=hx.fit;omega) (by omega);have h4:=hx.room;have hpl:=jg (D.aa d) x.f n fr n;apply bD.ok;unfold bD;refine(Al (dp:=dp) (ap:=ap) hok hx fr n hf).use hs [0,1] rfl rfl ?_;rintro _ _ H ⟨A4,m4,rfl,rfl⟩ hs;simp only[HV];refine aH rfl (aK (by omega) ?_);simp only[HS];have rest:∀(b rb:Nat) (H:Hp),(∀ y∈bufs,y.1≠b)->Sep [Ar ap cap (if bf bufs+D.aa d>aj then bf bufs+D.aa d else aj) (bufs++[(b,D.aa d,some (O rb))]),af rb (.row (eK (D.aa d)) 108 (D.aa d)),af p (bh dp ap x),Dk dp d,bH 360 3 A4 (dP (D.aa d) x.f n fr n).length m4 ((dP (D.aa d) x.f n fr n).flatMap lK),af rl (.row xs el mm)] H->
   bD.j5 (fun v H'=>∃ M,Ke p dp ap d x cap aj bufs fr n xs off rl el mm v M/\Sep M H') (Oo p) (some ⟨rl,off,none⟩) n m A4 (dP (D.aa d) x.f n fr n).length m4 (0:Int) (Oo b) H:=fun b rb H hbm hs=>by
  unfold bD.j5;refine aH rfl ?_;simp only[HS];refine hs.ld 2 rfl rfl ?_;simp only[HV];refine hs.nw fun vb H hs=>?_
  refine⟨n+1,?_⟩;have hz:eK (D.aa d)=ah (List.replicate (D.aa d) 0):=by
   unfold eK;rw[fm];unfold ah;rw[List.map_replicate];rfl
  refine wa _ (p:=p) (dp:=dp) (ap:=ap) (d:=d) (x:=x) (cap:=cap) (aj:=mx aj (bf bufs+D.aa d)) (bufs:=bufs) (b:=b) (rb:=rb) (mb:=D.aa d) (rl:=rl) (off0:=off) (fr0:=fr) (mm:=mm) (vb:=vb) (el:=el) (xs:=xs) hok hl hx hbm rfl (by omega) ho (fun H hs hgo=>?_) (fun j xs' H hj hfj hx' hs=>⟨_,.inr ⟨j,xs',hj,hfj,hx',rfl,rfl⟩,hs⟩) n fr n 0 0 _ m (List.replicate (D.aa d) 0) H (by omega) (Nat.le_refl _) hf hm rfl (Nat.zero_le _) (by omega) rfl (by omega) (fun _=>rfl) (by simp) ?_
  .rw[D5 _ _ (by omega) n fr n (Nat.le_refl _)]at hs;exact⟨_,.inl ⟨hgo,rfl,rfl⟩,hs⟩
  .rw[<- hz,show setAt xs off (ah (dV d x fr 0))=xs from nX xs off,Ct];exact hs.re [2,3,0,1,4,5,6] rfl
 have fresh:∀{L:List As} {H:Hp} (b rb:Nat) (pk:Int),Sep L H->L[0]? =some (Ar ap cap pk (bufs++[(b,D.aa d,some (O rb))]))->∀ y∈bufs,y.1≠b:=fun b rb pk hs h0 y hy e=>by
  obtain⟨mp,cl,tk,hA⟩:=Sep.ar hs 0 h0;have:=hA.bn;rw[List.map_append,List.nodup_append]at this;exact this.2.2 y.1 (List.mem_map_of_mem hy) b (by simp) e
 refine⟨?_,?_⟩
 .refine hs.ld 0 rfl rfl ?_;simp only[HV];refine ae.use (mH hs 0 1 rfl rfl hok) ?_
  try simp only[HV]
  refine(ml (a:=ap) (cap:=cap) (aj:=aj) (bufs:=bufs) (n:=D.aa d) (by omega) hcap).use hs [3] rfl rfl ?_;rintro _ _ H ⟨b,rb,rfl,rfl⟩ hs;simp only[HV];exact rest b rb H (fresh b rb _ hs rfl) (hs.re [0,1,2,3,4,5] rfl)
 .refine ae.use (mH hs 0 1 rfl rfl hok) ?_
  try simp only[HV]
  refine hs.ld 0 rfl rfl ?_;simp only[HV];refine(ml (a:=ap) (cap:=cap) (aj:=aj) (bufs:=bufs) (n:=D.aa d) (by omega) hcap).use hs [3] rfl rfl ?_;rintro _ _ H ⟨b,rb,rfl,rfl⟩ hs;simp only[HV];exact rest b rb H (fresh b rb _ hs rfl) (hs.re [0,1,2,3,4,5] rfl)
def jC (aa f k fr n:Nat):Nat:=((dP aa f k fr n).filter fun p=>decide (p.2.2<aa)).length
def o0 (d:D)(s dq:Nat)(src:List UInt64):D:=D.pt (if src.length<D.aa d then D.mr d else d) s (kN (dr (d.now s)) dq src)
def kO (d:D)(x:X):Nat->Nat->List UInt64->D
 |0,_,_=>d
 |k+1,fr,src=>if src=[]then d else kO (o0 d (x.f+fr/D.aa d) (fr%D.aa d) (src.take (cN (D.aa d) fr src.length))) x k (fr+cN (D.aa d) fr src.length) (src.drop (cN (D.aa d) fr src.length))
theorem AF (d:D)(s dq:Nat)(src:List UInt64):(o0 d s dq src).size=d.size/\(o0 d s dq src).sec=d.sec:=by
 unfold o0;split<;>exact⟨rfl,rfl⟩
theorem JN (d:D)(s dq:Nat)(src:List UInt64):D.aa (o0 d s dq src)=D.aa d:=by unfold D.aa;rw[(AF d s dq src).1]
theorem JM (d:D)(s dq:Nat)(src:List UInt64):(o0 d s dq src).wr=d.wr+1/\(o0 d s dq src).rd=d.rd+(if src.length<D.aa d then 1 else 0)/\(o0 d s dq src).sy=d.sy:=by
 unfold o0;split
 .exact⟨rfl,rfl,rfl⟩
 .exact⟨rfl,rfl,rfl⟩
theorem u5 (K:VK){p dp ap:Nat}{x:X}{cap aj:Int}{bufs:List (Nat×Nat×OA)}{b rb mb:Nat}(hbm:∀ y∈bufs,y.1≠b){vb:Nat}{R:As}{A4:OA}{n4 m4:Nat}{all:List (Nat×Nat×Nat)}(hn4:n4=all.length)(hn40:n4<=1000000000){S:Int->Prop}(hS:∀ j:Nat,j<x.s->S ((x.f+j:Nat):Int)){d0:D}{R0 W0:Nat}
  (hK8:∀ d' H,gW S d0 d'->d0.aI<=R0+W0->Sep [af p (bh dp ap x),Dk dp d',Ar ap cap aj bufs,R] H->K (I 8) H):
  ∀(k fr j:Nat) (d:D) (A:OA) (m:Nat) (src ws:List UInt64) (H:Hp) (r w:Nat),Prog S d0 d r w->r+(jC (D.aa d) x.f k fr src.length)=R0->w+(dP (D.aa d) x.f k fr src.length).length=W0->Ok d->On d x->d.rd+k<=4611686010000000000->d.wr+k<=4611686010000000000->src.length<=k->fr+src.length<=x.w->src.length<=m->all.drop j=dP (D.aa d) x.f k fr src.length->j<=n4->(∀ H,R H->Cells H A (ah src))->ws.length=D.aa d->
   (∀ H,Prog S d0 (kO d x k fr src) R0 W0->Sep [af p (bh dp ap x),Dk dp (kO d x k fr src),Ar ap cap aj bufs,R] H->K (I 0) H)->
   Sep [af p (bh dp ap x),Dk dp d,Ar ap cap aj (bufs++[(b,D.aa d,some (O rb))]),af rb (.row (ah ws) 108 mb),bH 360 3 A4 n4 m4 (all.flatMap lK),R,af vb (.row [V b] 331 1)] H->
   aR.l9 K (k+1) (Oo p) A src.length m (Oo b) A4 n4 m4 (n4:Int) (j:Int) (Oo ap) (Oo vb) 1 1 H
 |k,fr,j,d,A,m,[],ws,H,r,w,hpg,hR0,hW0,hok,hx,hrd,hwr,hn,hf,hm,hall,hj,hR,hws,hK,hs=>by
  unfold aR.l9;have e:dP (D.aa d) x.f k fr ([]:List UInt64).length=[]:=by cases k<;>simp[dP]
  have e2:kO d x k fr []=d:=by cases k<;>simp[kO]
  have e3:jC (D.aa d) x.f k fr ([]:List UInt64).length=0:=by unfold jC;rw[e];rfl
  rw[e3]at hR0;rw[e]at hW0;rw[e]at hall;have hjn:j=n4:=by
   have:=congrArg List.length hall;simp at this;omega
  subst hjn;refine aw (by omega) ?_;refine(gP vb b (D.aa d) (Oo rb) hbm).use hs [2,6] rfl rfl ?_;rintro _ _ H ⟨rfl,rfl⟩ hs;refine hK H ?_ ?_
  .rw[e2,<-hR0,<-hW0];exact hpg
  .rw[e2];exact hs.re [1,2,0,5] rfl
 |0,fr,j,d,A,m,w0::src0,ws,H,r,w,hpg,hR0,hW0,hok,hx,hrd,hwr,hn,hf,hm,hall,hj,hR,hws,hK,hs=>by simp at hn
 |k+1,fr,j,d,A,m,w0::src0,ws,H,r,w,hpg,hR0,hW0,hok,hx,hrd,hwr,hn,hf,hm,hall,hj,hR,hws,hK,hs=>by
  generalize hsrc:w0::src0=src at*;have hne:src≠ []:=by rw[<- hsrc];simp
  have hpos:0<src.length:=by rw[<- hsrc];simp
  have hp:=Ok.eB hok;have hsec:=hok.sec;have hroom:x.s*D.aa d<=1048576*512:=Nat.mul_le_mul (by have:=hx.fit;omega) (by omega);have h4:=hx.room;have hfit:=hx.fit;have e:dP (D.aa d) x.f (k+1) fr src.length=(x.f+fr/D.aa d,fr%D.aa d,cN (D.aa d) fr src.length)::dP (D.aa d) x.f k (fr+cN (D.aa d) fr src.length) (src.length-cN (D.aa d) fr src.length):=by
   show(if src.length=0 then []else _)=_
   rw[if_neg (by omega)]
  have ew:kO d x (k+1) fr src=kO (o0 d (x.f+fr/D.aa d) (fr%D.aa d) (src.take (cN (D.aa d) fr src.length))) x k (fr+cN (D.aa d) fr src.length) (src.drop (cN (D.aa d) fr src.length)):=by
   show(if src=[]then d else _)=_
   rw[if_neg hne]
  have hdn:=hpg.down;rw[e]at hall;have hRs:jC (D.aa d) x.f (k+1) fr src.length=(if cN (D.aa d) fr src.length<D.aa d then 1 else 0)+jC (D.aa d) x.f k (fr+cN (D.aa d) fr src.length) (src.length-cN (D.aa d) fr src.length):=by
   unfold jC;rw[e,List.filter_cons];by_cases hq:cN (D.aa d) fr src.length<D.aa d
   .simp only[hq,decide_true,if_true,List.length_cons];omega
   .simp only[hq,decide_false,Bool.false_eq_true,if_false];omega
  rw[hRs]at hR0;rw[e,List.length_cons]at hW0;rw[ew]at hK;have hjlt:j<all.length:=by
   have:=congrArg List.length hall;simp at this;omega
  have hcle:=xA (D.aa d) fr src.length;have hcpos:=ud (aa:=D.aa d) (fr:=fr) (n:=src.length) (by omega) hpos;have hcper:=BP (aa:=D.aa d) (fr:=fr) (n:=src.length);have hmod:=Nat.mod_lt fr (show 0<D.aa d by omega);have hdiv:fr/D.aa d<x.s:=by
   rw[Nat.div_lt_iff_lt_mul (by omega)];omega
  have hget:all[j]=(x.f+fr/D.aa d,fr%D.aa d,cN (D.aa d) fr src.length):=by
   have:=List.drop_eq_getElem_cons hjlt;rw[this]at hall;exact(List.cons.inj hall).1
  have hrest:all.drop (j+1)=dP (D.aa d) x.f k (fr+cN (D.aa d) fr src.length) (src.length-cN (D.aa d) fr src.length):=by
   have:=List.drop_eq_getElem_cons hjlt;rw[this]at hall;exact(List.cons.inj hall).2
  generalize hcv:cN (D.aa d) fr src.length=c at*;have hflat:∀(l:List (Nat×Nat×Nat)) (i:Nat) (hi:i<l.length),((l.flatMap lK).drop (i*3)).take 3=lK l[i]:=by
   intro l
   induction l with
   |nil=>intro i hi;simp at hi
   |cons y l ih=>
    intro i hi;rw[List.flatMap_cons];cases i with
    |zero=>simp[lK]
    |succ i=>
     rw[show(i+1)*3=(lK y).length+i*3 by simp[lK];omega,List.drop_append];simp only[Nat.add_sub_cancel_left,List.getElem_cons_succ];rw[List.drop_eq_nil_of_le (by omega),List.nil_append];exact ih i (by simpa using hi)
  have hsec1:((x.f+fr/D.aa d:Nat):Int)<(d.sec:Int):=Int.ofNat_lt.2 (by omega);have htk:(src.take c).length=c:=by simp;omega
  have hwl:(dr (d.now ((x.f+fr/D.aa d:Nat):Int))).length=D.aa d:=by rw[ja,hok.now];rfl
  unfold aR.l9;refine aC (by omega) ?_;refine(hs.own 4 rfl).uG (ys:=lK all[j]) rfl (by omega) (hflat all j hjlt) ?_;rw[hget];refine hs.nw fun b2 H hs=>?_
  refine hs.dW 7 rfl rfl rfl rfl fun H hs=>?_;have hs:Sep [af p (bh dp ap x),Dk dp d,Ar ap cap aj (bufs++[(b,D.aa d,some (O rb))]),af rb (.row (ah ws) 108 mb),bH 360 3 A4 n4 m4 (all.flatMap lK),R,af vb (.row [V b] 331 1),
   af b2 (Oq #[I ((x.f+fr/D.aa d:Nat):Int),I ((fr%D.aa d:Nat):Int),I (c:Int)] 360)] H:=hs
    -- behind the load, if there was one
  have join:∀(d1:D) (ws1:List UInt64) (H:Hp),(d1=if c<D.aa d then D.mr d else d)->(c<D.aa d->d.aI≠1)->ws1.length=D.aa d->(c<D.aa d->ws1=dr (d.now ((x.f+fr/D.aa d:Nat):Int)))->
    Sep [af p (bh dp ap x),Dk dp d1,Ar ap cap aj (bufs++[(b,D.aa d,some (O rb))]),af rb (.row (ah ws1) 108 mb),bH 360 3 A4 n4 m4 (all.flatMap lK),R,af vb (.row [V b] 331 1),
     af b2 (Oq #[I ((x.f+fr/D.aa d:Nat):Int),I ((fr%D.aa d:Nat):Int),I (c:Int)] 360)] H->
    aR.j15 K (aR.l9 K (k+1)) (Oo p) A src.length m (Oo b) (O b2) A4 n4 m4 (n4:Int) (j:Int) (Oo ap) (Oo vb) 1 1 H:=fun d1 ws1 H hd1 hnf hw1 hwe hs=>by
   have hd1p:D.aa d1=D.aa d/\Ok d1/\d1.down=false/\d1.wr=d.wr/\d1.sec=d.sec/\Prog S d0 d1 (r+if c<D.aa d then 1 else 0) w:=by
    rw[hd1];by_cases hlt:c<D.aa d
    .simp only[hlt,if_true];exact⟨by trivial,Ok.mr hok,hdn,by trivial,by trivial,hpg.trans (Prog.mr S hok hdn (hnf hlt))⟩
    .simp only[hlt,if_false];exact⟨by trivial,hok,hdn,by trivial,by trivial,hpg⟩
   obtain⟨q1,q2,q3,q4,q5,q6⟩:=hd1p;have hwset:kN ws1 (fr%D.aa d) (src.take c)=kN (dr (d.now ((x.f+fr/D.aa d:Nat):Int))) (fr%D.aa d) (src.take c):=by
    by_cases hlt:c<D.aa d
    .rw[hwe hlt]
    .have h0:fr%D.aa d=0:=by omega
     unfold kN;rw[h0,htk,List.drop_eq_nil_of_le (by omega),List.drop_eq_nil_of_le (by omega)];simp
   have hdisk:D.pt d1 ((x.f+fr/D.aa d:Nat):Int) (kN ws1 (fr%D.aa d) (src.take c))=o0 d (x.f+fr/D.aa d) (fr%D.aa d) (src.take c):=by
    unfold o0;rw[hwset,hd1,htk]
   unfold aR.j15;simp only[HS];refine bN.use (lz hs 2 rfl (List.mem_append_right _ (List.mem_singleton.2 rfl))) ?_;simp only[HV];refine hs.ld 7 rfl rfl ?_;simp only[HV];refine rA rfl (by omega) ?_;refine hs.ld 7 rfl rfl ?_;simp only[HV];refine yy rfl (by omega) ?_;rw[yx,Nat.zero_add];have hcell:∀{L:List As} {H:Hp},Sep L H->L[5]? =some R->Cells H A (ah src):=fun hs h5=>by
    obtain⟨H1,hR1,hle⟩:=hs.fE 5 h5;exact(hR H1 hR1).le hle
   refine hs.cp 3 (b:=rb) (off:=fr%D.aa d) (n:=D.aa d-fr%D.aa d) (k:=c-0) (xs:=ah ws1) (e':=108) (m:=mb) (ys:=ah (src.take c)) (by rfl) fH rfl ?_ ?_ (fun y hy=>?_) fun H hs=>?_
   .have hmin:Nat.min (c-0) (D.aa d-fr%D.aa d)=c-0:=Nat.min_eq_left (by omega);rw[hmin];have h1:=((hcell hs rfl).shift (m:=m) (l:=0) (by rw[aG];omega)).take c;rw[List.drop_zero,show(ah src).take c=ah (src.take c) by unfold ah;rw[List.map_take]]at h1;exact sT h1 (by rw[aG,htk];omega)
   .rw[aG,aG,htk,hw1];omega
   .obtain⟨z,_,rfl⟩:=List.mem_map.1 hy;rfl
   simp only[HV];rw[uR]at hs;refine hs.ld 7 rfl rfl ?_;simp only[HV];have hs:Sep [af p (bh dp ap x),Dk dp d1,Ar ap cap aj (bufs++[(b,D.aa d,some (O rb))]),af rb (.row (ah (kN ws1 (fr%D.aa d) (src.take c))) 108 mb),bH 360 3 A4 n4 m4 (all.flatMap lK),R,af vb (.row [V b] 331 1),
     af b2 (Oq #[I ((x.f+fr/D.aa d:Nat):Int),I ((fr%D.aa d:Nat):Int),I (c:Int)] 360)] H:=hs
   have hsl:(kN ws1 (fr%D.aa d) (src.take c)).length=D.aa d:=by rw[xb];exact hw1
   refine(LG (p:=p) (ap:=ap) (x:=x) (cap:=cap) (aj:=aj) (b:=b) (rb:=rb) (m:=mb) (d:=d1) (ws:=kN ws1 (fr%D.aa d) (src.take c)) q2 q3 (by omega) ((x.f+fr/D.aa d:Nat):Int) (Int.natCast_nonneg _) (by rw[q5];exact hsec1) (bufs:=bufs++[(b,D.aa d,some (O rb))]) (by rw[q1];exact List.mem_append_right _ (List.mem_singleton.2 rfl)) (by rw[q1];exact hsl)).use hs [0,1,2,3] rfl rfl ?_;rintro _ _ H (⟨hf1,rfl,rfl⟩|⟨hf1,rfl,rfl⟩) hs
   case inr=>
    simp only[HV];refine aT (by decide) ?_;refine(gP vb b (D.aa d) (Oo rb) hbm).use hs [2,6] rfl rfl ?_;rintro _ _ H ⟨rfl,rfl⟩ hs;refine hK8 _ H (q6.dead (gW.one S q2 hf1)) ?_ (hs.re [1,2,0,5] rfl);have z1:=q6.aI;have z2:=q6.go;omega
   have hpg2:=q6.trans (Prog.pt S q2 q3 hf1 (i:=((x.f+fr/D.aa d:Nat):Int)) (hS _ hdiv) (ws:=kN ws1 (fr%D.aa d) (src.take c)) (by rw[q1];exact hsl));rw[hdisk]at hpg2;rw[hdisk]at hs;simp only[HV];refine aH rfl ?_;refine hs.ld 7 rfl rfl ?_;simp only[HV];refine rA rfl (by omega) ?_;rw[bu (x:=(j:Int)+1)];have hcnt:=JM d (x.f+fr/D.aa d) (fr%D.aa d) (src.take c);have hsz:=AF d (x.f+fr/D.aa d) (fr%D.aa d) (src.take c);have hper:=JN d (x.f+fr/D.aa d) (fr%D.aa d) (src.take c);have hdl:(src.drop c).length=src.length-c:=by simp
   rw[<- hdl];refine u5 K (rb:=rb) (mb:=mb) hbm hn4 hn40 hS hK8 k (fr+c) (j+1) _ _ (m-c) (src.drop c) (kN ws1 (fr%D.aa d) (src.take c)) H _ _ hpg2 (by rw[hper,hdl];omega) (by rw[hper,hdl];omega) hpg2.ok ⟨hx.w1,hx.s1,by rw[hsz.2];exact hfit,by rw[hper];exact h4⟩ (by rw[hcnt.2.1];split<;>omega) (by rw[hcnt.1];omega) (by omega) (by omega) (by omega) (by rw[hper,hdl];exact hrest) (by omega) (fun H hRH=>?_) (by rw[hper];exact hsl) hK ?_
   .have:=(hR H hRH).shift (m:=m) (l:=c) (by rw[aG];omega);rw[show(ah src).drop c=ah (src.drop c) by unfold ah;rw[List.map_drop]]at this;exact this
   .rw[hper];exact hs.re [0,1,2,3,4,5,6] rfl
  simp only[HS];refine hs.ld 7 rfl rfl ?_;simp only[HV];refine bN.use (mH hs 0 1 rfl rfl hok) ?_;simp only[HV];by_cases hlt:c<D.aa d
  .refine aC (by omega) ?_;refine hs.ld 7 rfl rfl ?_;simp only[HV];refine(B9 (p:=p) (ap:=ap) (x:=x) (cap:=cap) (aj:=aj) (b:=b) (rb:=rb) (m:=mb) hok hdn (by omega) ((x.f+fr/D.aa d:Nat):Int) (Int.natCast_nonneg _) hsec1 (bufs:=bufs++[(b,D.aa d,some (O rb))]) (List.mem_append_right _ (List.mem_singleton.2 rfl)) (xs:=ah ws) (by rw[aG];exact hws)).use hs [0,1,2,3] rfl rfl ?_;rintro _ _ H (⟨hf1,rfl,rfl⟩|⟨hf1,rfl,rfl⟩) hs
   case inr=>
    simp only[HV];refine aT (by decide) ?_;refine(gP vb b (D.aa d) (Oo rb) hbm).use hs [2,6] rfl rfl ?_;rintro _ _ H ⟨rfl,rfl⟩ hs;refine hK8 _ H (hpg.dead (gW.one S hok hf1)) ?_ (hs.re [1,2,0,5] rfl);have z1:=hpg.aI;have z2:=hpg.go;rw[if_pos hlt]at hR0;omega
   simp only[HV];refine aH rfl ?_;exact join (D.mr d) _ H (by rw[if_pos hlt]) (fun _=>hf1) hwl (fun _=>rfl) (hs.re [0,1,2,3,4,5,6,7] rfl)
  .refine aw (by omega) ?_;exact join d ws H (by rw[if_neg hlt]) (fun h=>absurd h hlt) hws (fun h=>absurd h hlt) hs
def Ii (p dp ap:Nat)(d:D)(x:X)(cap aj:Int)(bufs:List (Nat×Nat×OA))(fr:Nat)(src:List UInt64)(R:As)(v:Value)(M:List As):Prop:=
 (Prog (fun i=>(x.f:Int)<=i/\i<((x.f+x.s:Nat):Int)) d (kO d x src.length fr src) (jC (D.aa d) x.f src.length fr src.length) (dP (D.aa d) x.f src.length fr src.length).length/\
  v= I 0/\M=[af p (bh dp ap x),Dk dp (kO d x src.length fr src),Ar ap cap (mx aj (bf bufs+D.aa d)) bufs,R])\/
 (∃ d',gW (fun i=>(x.f:Int)<=i/\i<((x.f+x.s:Nat):Int)) d d'/\d.aI<=jC (D.aa d) x.f src.length fr src.length+(dP (D.aa d) x.f src.length fr src.length).length/\
  v= I 8/\M=[af p (bh dp ap x),Dk dp d',Ar ap cap (mx aj (bf bufs+D.aa d)) bufs,R])
theorem ub {p dp ap:Nat}{d:D}{x:X}{cap aj:Int}{bufs:List (Nat×Nat×OA)}{R:As}{A:OA}{n m:Nat}{src:List UInt64}(hok:Ok d)(hl:d.down=false)(hx:On d x)(ho:d.rd<=4611686000000000000/\d.wr<=4611686000000000000)(fr:Nat)(hn:n=src.length)(hn1:1<=n)(hf:fr+n<=x.w)(hm:n<=m)(hcap:(D.aa d:Int)<=cap-bf bufs)(hR:∀ H,R H->Cells H A (ah src)):
  Tr prog 185 #[V p,I fr,.slice A n m] [af p (bh dp ap x),Dk dp d,Ar ap cap aj bufs,R] fun v M=>
   Ii p dp ap d x cap aj bufs fr src R v M:=fun H hs=>by
 subst hn;have hp:=Ok.eB hok;have hsec:=hok.sec;have hroom:x.s*D.aa d<=1048576*512:=Nat.mul_le_mul (by have:=hx.fit;omega) (by omega);have h4:=hx.room;have hpl:=jg (D.aa d) x.f src.length fr src.length;apply aR.ok;unfold aR;refine(Al (dp:=dp) (ap:=ap) hok hx fr src.length hf).use hs [0,1] rfl rfl ?_;rintro _ _ H ⟨A4,m4,rfl,rfl⟩ hs;simp only[HV];refine aH rfl (aK (by omega) ?_);simp only[HS];have rest:∀(b rb:Nat) (H:Hp),(∀ y∈bufs,y.1≠b)->Sep [Ar ap cap (if bf bufs+D.aa d>aj then bf bufs+D.aa d else aj) (bufs++[(b,D.aa d,some (O rb))]),af rb (.row (eK (D.aa d)) 108 (D.aa d)),af p (bh dp ap x),Dk dp d,bH 360 3 A4 (dP (D.aa d) x.f src.length fr src.length).length m4 ((dP (D.aa d) x.f src.length fr src.length).flatMap lK),R] H->
   aR.j5 (fun v H'=>∃ M,Ii p dp ap d x cap aj bufs fr src R v M/\Sep M H') (Oo p) A src.length m A4 (dP (D.aa d) x.f src.length fr src.length).length m4 (0:Int) (Oo b) H:=fun b rb H hbm hs=>by
  unfold aR.j5;refine aH rfl ?_;simp only[HS];refine hs.ld 2 rfl rfl ?_;simp only[HV];refine hs.nw fun vb H hs=>?_
  refine⟨src.length+1,?_⟩;have hz:eK (D.aa d)=ah (List.replicate (D.aa d) 0):=by
   unfold eK;rw[fm];unfold ah;rw[List.map_replicate];rfl
  refine u5 _ (p:=p) (dp:=dp) (ap:=ap) (x:=x) (cap:=cap) (aj:=mx aj (bf bufs+D.aa d)) (bufs:=bufs) (b:=b) (rb:=rb) (mb:=D.aa d) (vb:=vb) (R:=R) (all:=dP (D.aa d) x.f src.length fr src.length) hbm rfl (by omega) (S:=fun i=>(x.f:Int)<=i/\i<((x.f+x.s:Nat):Int)) (fun j hj=>⟨by omega,by omega⟩) (d0:=d) (R0:=jC (D.aa d) x.f src.length fr src.length) (W0:=(dP (D.aa d) x.f src.length fr src.length).length) (fun d' H hd hfu hs=>⟨_,.inr ⟨d',hd,hfu,rfl,rfl⟩,hs⟩) src.length fr 0 d A m src (List.replicate (D.aa d) 0) H 0 0 (Prog.refl _ hok hl) (Nat.zero_add _) (Nat.zero_add _) hok hx (by omega) (by omega) (Nat.le_refl _) hf hm rfl (Nat.zero_le _) hR (by simp) (fun H hpg hs=>⟨_,.inl ⟨hpg,rfl,rfl⟩,hs⟩) ?_;rw[<- hz];exact hs.re [2,3,0,1,4,5,6] rfl
 have fresh:∀{L:List As} {H:Hp} (b rb:Nat) (pk:Int),Sep L H->L[0]? =some (Ar ap cap pk (bufs++[(b,D.aa d,some (O rb))]))->∀ y∈bufs,y.1≠b:=fun b rb pk hs h0 y hy e=>by
  obtain⟨mp,cl,tk,hA⟩:=Sep.ar hs 0 h0;have:=hA.bn;rw[List.map_append,List.nodup_append]at this;exact this.2.2 y.1 (List.mem_map_of_mem hy) b (by simp) e
 refine⟨?_,?_⟩
 .refine hs.ld 0 rfl rfl ?_;simp only[HV];refine ae.use (mH hs 0 1 rfl rfl hok) ?_
  try simp only[HV]
  refine(ml (a:=ap) (cap:=cap) (aj:=aj) (bufs:=bufs) (n:=D.aa d) (by omega) hcap).use hs [3] rfl rfl ?_;rintro _ _ H ⟨b,rb,rfl,rfl⟩ hs;simp only[HV];exact rest b rb H (fresh b rb _ hs rfl) (hs.re [0,1,2,3,4,5] rfl)
 .refine ae.use (mH hs 0 1 rfl rfl hok) ?_
  try simp only[HV]
  refine hs.ld 0 rfl rfl ?_;simp only[HV];refine(ml (a:=ap) (cap:=cap) (aj:=aj) (bufs:=bufs) (n:=D.aa d) (by omega) hcap).use hs [3] rfl rfl ?_;rintro _ _ H ⟨b,rb,rfl,rfl⟩ hs;simp only[HV];exact rest b rb H (fresh b rb _ hs rfl) (hs.re [0,1,2,3,4,5] rfl)
end Str
namespace Lib
open Go Go.Proofs Go.Shelf Go.RowKit Go.Maps Go.Sort
def wg :Go.Shelf.Ren:=⟨fun|6=>137|8=>188|9=>189|11=>259|13=>227|12=>260|23=>293|24=>294|14=>318|15=>319|16=>320|17=>321|18=>322|19=>323|20=>324|21=>325|22=>326|25=>350|26=>341|27=>342|28=>351|29=>352|30=>353|31=>363|n=>n,fun|26=>3|28=>241|24=>167|0=>0|3=>3|37=>213|48=>84|50=>108|4=>4|40=>390|39=>389|45=>253|5=>5|9=>9|51=>435|55=>439|57=>457|58=>458|33=>293|n=>n,fun|n=>n⟩
theorem LB :Go.Proofs.SlLaysZI.n6 prog wg where
 mixed:=by kernel_rfl
 f6 := ⟨ "slices.Sorted[int]", by decide, Tryz.func137.trans (congrArg some (by kernel_rfl))⟩
 f8 := ⟨ "slices.Collect[int]", by decide, Tryz.func188.trans (congrArg some (by kernel_rfl))⟩
 f11 := ⟨ "slices.AppendSeq[[]int,int]", by decide, Tryz.func259.trans (congrArg some (by kernel_rfl))⟩
 t0:=Tryz.underlying0
 a0:=Tryz.isAgg0
 z0:=Tryz.sizeOf0
 v0:=Tryz.zeroValue0
 t24:=Tryz.underlying167
 a24:=Tryz.isAgg167
 z24:=Tryz.sizeOf167
 v24:=Tryz.zeroValue167
 t26:=Tryz.underlying3
 a26:=Tryz.isAgg3
 z26:=Tryz.sizeOf3
 v26:=Tryz.zeroValue3
 t28:=Tryz.underlying241
 a28:=Tryz.isAgg241
 z28:=Tryz.sizeOf241
 v28:=Tryz.zeroValue241
 i26:=by kernel_rfl
def HP :Go.Shelf.Ren:=⟨fun|5=>189|8=>227|7=>260|19=>293|20=>294|10=>318|11=>319|12=>320|13=>321|14=>322|15=>323|16=>324|17=>325|18=>326|30=>350|31=>341|32=>342|33=>351|34=>352|35=>353|40=>363|n=>n,fun|23=>167|25=>3|3=>3|32=>213|22=>167|0=>0|44=>84|46=>108|4=>4|36=>390|35=>389|41=>253|5=>5|9=>9|53=>435|57=>439|63=>457|64=>458|n=>n,fun|n=>n⟩
theorem Kj :Go.Proofs.SlLaysM.n5 prog HP where
 mixed:=by kernel_rfl
 f5 := ⟨ "slices.Sort[[]int,int]", by decide, Tryz.func189.trans (congrArg some (by kernel_rfl))⟩
 f7 := ⟨ "slices.pdqsortOrdered[int]", by decide, Tryz.func260.trans (congrArg some (by kernel_rfl))⟩
 f8:=Tryz.func227.trans (congrArg some (by kernel_rfl))
 f10 := ⟨ "slices.insertionSortOrdered[int]", by decide, Tryz.func318.trans (congrArg some (by kernel_rfl))⟩
 f11 := ⟨ "slices.heapSortOrdered[int]", by decide, Tryz.func319.trans (congrArg some (by kernel_rfl))⟩
 f12 := ⟨ "slices.breakPatternsOrdered[int]", by decide, Tryz.func320.trans (congrArg some (by kernel_rfl))⟩
 f13 := ⟨ "slices.choosePivotOrdered[int]", by decide, Tryz.func321.trans (congrArg some (by kernel_rfl))⟩
 f14 := ⟨ "slices.reverseRangeOrdered[int]", by decide, Tryz.func322.trans (congrArg some (by kernel_rfl))⟩
 f15 := ⟨ "slices.partialInsertionSortOrdered[int]", by decide, Tryz.func323.trans (congrArg some (by kernel_rfl))⟩
 f16 := ⟨ "cmp.Less[int]", by decide, Tryz.func324.trans (congrArg some (by kernel_rfl))⟩
 f17 := ⟨ "slices.partitionEqualOrdered[int]", by decide, Tryz.func325.trans (congrArg some (by kernel_rfl))⟩
 f18 := ⟨ "slices.partitionOrdered[int]", by decide, Tryz.func326.trans (congrArg some (by kernel_rfl))⟩
 f19:=Tryz.func293.trans (congrArg some (by kernel_rfl))
 f20:=Tryz.func294.trans (congrArg some (by kernel_rfl))
 f30 := ⟨ "slices.siftDownOrdered[int]", by decide, Tryz.func350.trans (congrArg some (by kernel_rfl))⟩
 f31:=Tryz.func341.trans (congrArg some (by kernel_rfl))
 f32:=Tryz.func342.trans (congrArg some (by kernel_rfl))
 f33 := ⟨ "slices.medianAdjacentOrdered[int]", by decide, Tryz.func351.trans (congrArg some (by kernel_rfl))⟩
 f34 := ⟨ "slices.medianOrdered[int]", by decide, Tryz.func352.trans (congrArg some (by kernel_rfl))⟩
 f35 := ⟨ "cmp.isNaN[int]", by decide, Tryz.func353.trans (congrArg some (by kernel_rfl))⟩
 f40 := ⟨ "slices.order2Ordered[int]", by decide, Tryz.func363.trans (congrArg some (by kernel_rfl))⟩
 t0:=Tryz.underlying0
 a0:=Tryz.isAgg0
 z0:=Tryz.sizeOf0
 v0:=Tryz.zeroValue0
 t3:=Tryz.underlying3
 a3:=Tryz.isAgg3
 z3:=Tryz.sizeOf3
 v3:=Tryz.zeroValue3
 t4:=Tryz.underlying4
 a4:=Tryz.isAgg4
 z4:=Tryz.sizeOf4
 v4:=Tryz.zeroValue4
 t5:=Tryz.underlying5
 a5:=Tryz.isAgg5
 z5:=Tryz.sizeOf5
 v5:=Tryz.zeroValue5
 t9:=Tryz.underlying9
 a9:=Tryz.isAgg9
 z9:=Tryz.sizeOf9
 v9:=Tryz.zeroValue9
 t22:=Tryz.underlying167
 a22:=Tryz.isAgg167
 z22:=Tryz.sizeOf167
 v22:=Tryz.zeroValue167
 t23:=Tryz.underlying167
 a23:=Tryz.isAgg167
 z23:=Tryz.sizeOf167
 v23:=Tryz.zeroValue167
 t25:=Tryz.underlying3
 a25:=Tryz.isAgg3
 z25:=Tryz.sizeOf3
 v25:=Tryz.zeroValue3
 t32:=Tryz.underlying213
 a32:=Tryz.isAgg213
 z32:=Tryz.sizeOf213
 v32:=Tryz.zeroValue213
 t35:=Tryz.underlying389
 a35:=Tryz.isAgg389
 z35:=Tryz.sizeOf389
 v35:=Tryz.zeroValue389
 t36:=Tryz.underlying390
 a36:=Tryz.isAgg390
 z36:=Tryz.sizeOf390
 v36:=Tryz.zeroValue390
 t41:=Tryz.underlying253
 a41:=Tryz.isAgg253
 z41:=Tryz.sizeOf253
 v41:=Tryz.zeroValue253
 t44:=Tryz.underlying84
 a44:=Tryz.isAgg84
 z44:=Tryz.sizeOf84
 v44:=Tryz.zeroValue84
 t46:=Tryz.underlying108
 a46:=Tryz.isAgg108
 z46:=Tryz.sizeOf108
 v46:=Tryz.zeroValue108
 t53:=Tryz.underlying435
 a53:=Tryz.isAgg435
 z53:=Tryz.sizeOf435
 v53:=Tryz.zeroValue435
 t57:=Tryz.underlying439
 a57:=Tryz.isAgg439
 z57:=Tryz.sizeOf439
 v57:=Tryz.zeroValue439
 t63:=Tryz.underlying457
 a63:=Tryz.isAgg457
 z63:=Tryz.sizeOf457
 v63:=Tryz.zeroValue457
 t64:=Tryz.underlying458
 a64:=Tryz.isAgg458
 z64:=Tryz.sizeOf458
 v64:=Tryz.zeroValue458
def rY :Go.Shelf.Ren:=⟨fun|7=>138|10=>190|n=>n,fun|23=>51|26=>3|3=>9|28=>241|0=>0|27=>240|33=>293|4=>4|n=>n,fun|n=>n⟩
theorem vO :Go.Proofs.SlLaysZI.n7 prog rY where
 mixed:=by kernel_rfl
 f7 := ⟨ "maps.Keys[map[int]string,int,string]", by decide, Tryz.func138.trans (congrArg some (by kernel_rfl))⟩
 f10 := ⟨ "maps.Keys[map[int]string,int,string]$1", by decide, Tryz.func190.trans (congrArg some (by kernel_rfl))⟩
 t0:=Tryz.underlying0
 a0:=Tryz.isAgg0
 z0:=Tryz.sizeOf0
 v0:=Tryz.zeroValue0
 t4:=Tryz.underlying4
 a4:=Tryz.isAgg4
 z4:=Tryz.sizeOf4
 v4:=Tryz.zeroValue4
 t23:=Tryz.underlying51
 a23:=Tryz.isAgg51
 z23:=Tryz.sizeOf51
 v23:=Tryz.zeroValue51
 t26:=Tryz.underlying3
 a26:=Tryz.isAgg3
 z26:=Tryz.sizeOf3
 v26:=Tryz.zeroValue3
 t27:=Tryz.underlying240
 a27:=Tryz.isAgg240
 z27:=Tryz.sizeOf240
 v27:=Tryz.zeroValue240
 t28:=Tryz.underlying241
 a28:=Tryz.isAgg241
 z28:=Tryz.sizeOf241
 v28:=Tryz.zeroValue241
 t33:=Tryz.underlying293
 a33:=Tryz.isAgg293
 z33:=Tryz.sizeOf293
 v33:=Tryz.zeroValue293
end Lib
end Go.Proofs.YtlgnlghmbcpmhaaGreatDoor
namespace Go.Hw
open Go Go.Proofs Go.Proofs.YtlgnlghmbcpmhaaGreatDoor.Lib Go.RowKit Go.Maps Go.Sort Go.Shelf
open Go.WideElems (Fit rd rg)
theorem Af :∀(N:Nat) (l:List Nat),l.Nodup->(∀ x∈l,x<N)->l.length<=N
 |0,[],_,_=>by simp
 |0,x::_,_,h=>absurd (h x (by simp)) (by omega)
 |N+1,l,hn,h=>by
  have:=Af N (l.erase N) (hn.erase N) fun x hx=>by
   rw[hn.mem_erase_iff]at hx;have:=h x hx.2;have:=hx.1;omega
  rw[List.length_erase]at this;split at this<;>omega
structure KeysOf (m:Int->Option Value)(ks:List Int):Prop where
 up:ks.Pairwise (fun a b=>a<b)
 mem:∀ k,k∈ks↔(m k).isSome=true
theorem DY {l:List (Int×Value×Nat)}{clock:Nat}{m:Int->Option Value}(h:Gg l clock m){N:Nat}(hd:∀ k,(m k).isSome=true->0<=k/\k<N):l.length<=N/\∀ x∈l,0<=x.1/\x.1<N:=by
 have hmem:∀ x∈l,0<=x.1/\x.1<N:=fun x hx=>by
  apply hd;rw[<- h.get,wG h.nd hx];rfl
 refine⟨?_,hmem⟩;have hn:((l.map (·.1)).map Int.toNat).Nodup:=by
  rw[List.nodup_iff_pairwise_ne,List.pairwise_map];have:=h.nd;rw[List.nodup_iff_pairwise_ne]at this;refine this.imp_of_mem ?_;intro a b ha hb hne e;obtain⟨x,hx,rfl⟩:=List.mem_map.1 ha;obtain⟨y,hy,rfl⟩:=List.mem_map.1 hb;have:=hmem x hx;have:=hmem y hy;omega
 have:=Af N _ hn fun x hx=>by
  obtain⟨y,hy,rfl⟩:=List.mem_map.1 hx;obtain⟨z,hz,rfl⟩:=List.mem_map.1 hy;have:=hmem z hz;omega
 simpa using this
def Hq :Value->Option (DataW Unit×List MemPlace):=fun _=>some (.lit (.bool true),[])
theorem Lg {P:Program}{k:TypeId}(hk:P.underlying k=some (.int .i64)){l:List (Int×Value×Nat)}{clock:Nat}{m:Int->Option Value}(h:Gg l clock m){N:Nat}(hN:N<=1048576)(hd:∀ k,(m k).isSome=true->0<=k/\k<N):
  Fit P k Hq (l.map fi).toArray clock/\(l.map fi).map (rg P k Hq)=l.map fun x=>(Lit.int .i64 x.1,DataW.lit (.bool true)):=by
 obtain⟨h1,h2⟩:=DY h hd;have hrd:∀ x∈l,rd P k Hq (fi x)=some (Lit.int .i64 x.1,DataW.lit (.bool true)):=fun x hx=>by
  have:=h2 x hx;have hw:(Lit.int .i64 x.1).wf=true:=by
   have e:(Lit.int .i64 x.1).wf=decide (-9223372036854775808<=x.1/\x.1<=9223372036854775807):=by
    simp[Lit.wf,IntKind.min,IntKind.max,IntKind.bits,IntKind.signed]
   rw[e,decide_eq_true_eq];omega
  refine Go.WideElems.rd_mk (yv:=(DataW.lit (.bool true),[])) (kl:=Lit.int .i64 x.1) ?_ rfl;simp[keyOf,mapKey,hk,hw]
 refine⟨⟨?_,⟨fun x hx=>?_,?_,?_⟩,fun x hx=>?_⟩,?_⟩
 .simp only[List.size_toArray,List.length_map];exact Nat.le_trans h1 (Nat.le_trans hN (by decide))
 .obtain⟨y,hy,rfl⟩:=List.mem_map.1 hx;exact h.bl y hy
 .have:=h.bn;simpa [List.map_map,Function.comp_def,fi]using this
 .rw[List.map_map];have:=h.nd;rw[List.nodup_iff_pairwise_ne,List.pairwise_map]at this⊢;exact this.imp fun hne e=>hne (by simpa [fi]using e)
 .obtain⟨y,hy,rfl⟩:=List.mem_map.1 hx;exact⟨_,hrd y hy⟩
 .rw[List.map_map];exact List.map_congr_left fun x hx=>Go.WideElems.rg_of (hrd x hx)
theorem NA (m:Nat):AnyZI.SortsIn Tryz.prog wg Fence.wide m:=
 ⟨fun DC off cap ss W hH hblk hsz=>callsIn_wide.2 (AnyM.slices_Sort_int Kj DC off cap ss W hH hblk hsz),fun p cap W=>callsIn_wide.2 (AnyM.slices_Sort_int_none Kj p cap W)⟩
theorem CW (r:Nat)(H:Hp):ae Tryz.prog 138 #[.map (some r)] H fun v H'=>
  ∃ b,H b=none/\v= .func (.func 190) #[] #[V b]/\H'=H.set b (Oq #[.map (some r)] 51):=fun w hw=>by
 have c:CallsIn Fence.wide 5 Tryz.prog 138 #[.map (some r)] w fun e w'=>e= .returned (.func (.func 190) #[] #[.pointer (some ⟨w.heap.size,0,none⟩)])/\w'=w.alloc (.cells #[.map (some r)] 51):=
  AnyZI.keys_in vO Fence.wide 5 trivial rfl (some r) w
 refine(callsIn_wide.1 c).mono ?_;rintro e w' ⟨rfl,rfl⟩;obtain⟨hn,hA⟩:=(At.refl hw).new (o:=Oq #[.map (some r)] 51) (x:=.cells #[.map (some r)] 51) rfl;exact⟨_,_,rfl,⟨w.heap.size,hn,rfl,rfl⟩,hA⟩
theorem AJ {r b clock:Nat}{l:List (Int×Value×Nat)}{m:Int->Option Value}(hok:Gg l clock m){N:Nat}(hN:N<=1048576)(hd:∀ k,(m k).isSome=true->0<=k/\k<N)(H:Hp)(hr:H r=some (i1 l clock))(hb:H b=some (Oq #[.map (some r)] 51)):
  ae Tryz.prog 137 #[.func (.func 190) #[] #[V b]] H fun v H'=>
   ∃ ks,KeysOf m ks/\ks.length<=N/\((ks=[]/\v= .slice none 0 0/\H'=H)\/∃ b' cap,v= .slice (Oo b') ks.length cap/\ks.length<=cap/\H b'=none/\H'=H.set b' (.row (ks.map (Value.int .i64)) 3 cap)):=fun w hw=>by
 have hu:Tryz.prog.underlying 3=some (.int .i64):=by kernel_rfl
 obtain⟨hfit,hrg⟩:=Lg (P:=Tryz.prog) (k:=3) hu hok hN hd;obtain⟨hlen,hmem⟩:=DY hok hd;have hheap:=i1.heap hr hw;have hbh:w.heap[b]? =some (.cells #[.map (some r)] 51 (0,0)):=by
  obtain⟨o,ho,hh⟩:=hw _ _ hb;cases hh;exact ho
 have hown:w.ownsMap Tryz.prog 3 Hq r l.length (.map ((((l.map fi).toArray.toList).map (rg Tryz.prog 3 Hq)).foldr DataW.insert [])):=⟨_,clock,hheap,hfit,by simp,rfl⟩;rw[List.toList_toArray,hrg]at hown;have hperm:=Go.WideShapes.sorted_perm (l.map fun x=>(Lit.int .i64 x.1,(DataW.lit (.bool true):DataW Unit)));have hik:(intKeys (.map ((l.map fun x=>(Lit.int .i64 x.1,(DataW.lit (.bool true):DataW Unit))).foldr DataW.insert []))).Perm (l.map (·.1)):=by
  have:=hperm.map fun p=>intOf p.1
  rw[List.map_map]at this;exact this
 have hsize:Maps.size (DataW.map ((l.map fun x=>(Lit.int .i64 x.1,(DataW.lit (.bool true):DataW Unit))).foldr DataW.insert []))=l.length:=by
  have:=hperm.length_eq;rw[List.length_map]at this;exact this
 have hseq:SeqGives Fence.wide 2 Tryz.prog 190 #[V b] encZ (fun ss=>ss.Perm (intKeys _)) (Maps.size _) w:=
  AnyZI.keys_gives (ρ:=rY) { vO with} Fence.wide _ trivial rfl (by omega) b r l.length _ w (Array.getElem?_eq_some_iff.1 hbh).1 (by simp[World.cell?,hbh]) hown
 have cS:=AnyZI.sorted_in LB Fence.wide 5 trivial trivial trivial trivial rfl (by omega) (NA _) (enters_of Tryz.func189 (by kernel_rfl) rfl) 190 #[V b] trivial (enters_of Tryz.func190 (by kernel_rfl) rfl) _ _ (by rw[hsize];exact Nat.le_trans hlen (Nat.le_trans hN (by decide))) (by rw[hsize];omega) w hseq;change CallsIn _ _ Tryz.prog 137 _ _ _ at cS;refine(callsIn_wide.1 cS).mono ?_;rintro e w' ⟨v,ss,rfl,hS,hrow,hnil,hbel⟩;have hp:(ss.mergeSort fun x y=>decide (x<=y)).Perm (l.map (·.1)):=(List.mergeSort_perm _ _).trans (hS.trans hik);have hks:KeysOf m (ss.mergeSort fun x y=>decide (x<=y)):=by
  refine⟨?_,fun k=>?_⟩
  .have h1:=List.pairwise_mergeSort (le:=fun x y:Int=>decide (x<=y)) (fun a b c h1 h2=>by simp only[decide_eq_true_eq]at *;omega) (fun a b=>by simp only[Bool.or_eq_true,decide_eq_true_eq];omega) ss;have h2:(ss.mergeSort fun x y=>decide (x<=y)).Nodup:=hp.nodup_iff.2 hok.nd;rw[List.nodup_iff_pairwise_ne]at h2;refine(h1.and h2).imp ?_;rintro a b ⟨h3,h4⟩;simp only[decide_eq_true_eq]at h3;omega
  .rw[hp.mem_iff,<-hok.get];constructor
   .intro hk;obtain⟨x,hx,rfl⟩:=List.mem_map.1 hk;rw[wG hok.nd hx];rfl
   .intro hk;cases hg:ib l k with
    |none=>rw[hg]at hk;cases hk
    |some v=>
     obtain⟨b,hb⟩:=GQ hg;exact List.mem_map.2 ⟨_,hb,rfl⟩
 have hkl:(ss.mergeSort fun x y=>decide (x<=y)).length=ss.length:=List.length_mergeSort _;have hsl:ss.length<=N:=by
  rw[<- hkl,hp.length_eq,List.length_map];exact hlen
 obtain⟨hxl,hcase⟩:=hrow;rcases hcase with⟨rfl,h0⟩|⟨g,cap,cur,rfl,hg,hgh,hnc,hcm,hcs,htk⟩
 .have hss:ss=[]:=hnil.1 rfl;refine⟨_,H,rfl,⟨_,hks,by omega,.inl ⟨List.length_eq_zero_iff.1 (by rw[hkl,hss];rfl),rfl,rfl⟩⟩,?_⟩;exact⟨fun i o hi=>by
   obtain⟨o',h1,h2⟩:=hw i o hi;exact⟨o',(hbel.block i (Array.getElem?_eq_some_iff.1 h1).1).trans h1,h2⟩,hbel.size,hbel.os,hbel.tape,hbel.output,fun i hi h0=>⟨h0,hbel.block i hi⟩⟩
 .have hgn:H g=none:=by
   cases hx:H g with
   |none=>rfl
   |some o=>
    obtain⟨o',h1,_⟩:=hw g o hx;have:=(Array.getElem?_eq_some_iff.1 h1).1;omega
  rw[Nat.mul_one]at hcs htk;refine⟨_,H.set g (.row ((ss.mergeSort fun x y=>decide (x<=y)).map (Value.int .i64)) 3 cap),rfl,⟨_,hks,by omega,.inr ⟨g,cap,by rw[hkl],by omega,hgn,rfl⟩⟩,?_⟩;refine⟨fun i o hi=>?_,hbel.size,hbel.os,hbel.tape,hbel.output,fun i hi h0=>⟨?_,hbel.block i hi⟩⟩
  .by_cases hig:i=g
   .subst hig;rw[Hp.bI]at hi;cases hi;refine⟨_,hgh,cur.toList.drop ss.length,0,0,?_,?_,.inl rfl⟩
    .rw[<- htk,List.take_append_drop,Array.toArray_toList];rfl
    .rw[<- htk,List.take_append_drop,Array.length_toList];exact hcs
   .rw[Hp.bV _ _ hig]at hi;obtain⟨o',h1,h2⟩:=hw i o hi;exact⟨o',(hbel.block i (Array.getElem?_eq_some_iff.1 h1).1).trans h1,h2⟩
  .rw[Hp.bV _ _ (by omega)];exact h0
end Go.Hw
namespace Go.Proofs.YtlgnlghmbcpmhaaGreatDoor
open Tryz (prog)
namespace Dsk
open Go Go.Hw Go.Form W
def sw (d:D):Prop:=∀ k,(d.cache k).isSome=true->0<=k/\k<d.sec
theorem se (m:Int->Option (List UInt8))(k:Int):(eW m k).isSome=(m k).isSome:=by unfold eW;cases m k<;>rfl
theorem Ix {p:Nat}{d:D}(hok:Ok d)(hd:sw d):Tr prog 78 #[V p] [Dk p d] fun v M=>
  ∃ ks A cap,KeysOf (eW d.cache) ks/\ks.length<=d.sec/\v= .slice A ks.length cap/\M=[Dk p d,bH 3 1 A ks.length cap (ks.map (Value.int .i64))]:=fun H hs=>by
 have hsec:=hok.sec;obtain⟨r1,r2,r3,hs⟩:=Dk.open hs;apply ki.ok;unfold ki;simp only[HS];refine hs.ld 0 rfl rfl ?_;simp only[HV];refine(CW r3 H).mono ?_;rintro _ _ ⟨b,hb,rfl,rfl⟩;have hs:=hs.new hb (Oq #[.map (some r3)] 51);obtain⟨H1,⟨l,clock,hr1,hgk⟩,hle⟩:=hs.fE 3 rfl;refine(AJ hgk (N:=d.sec) (by omega) (fun k hk=>hd k (by rw[se]at hk;exact hk)) _ (hle _ _ hr1) (hs.get 4 rfl)).mono ?_;rintro _ _ ⟨ks,hks,hkl,⟨h0,rfl,rfl⟩|⟨b',cap,rfl,hcap,hn,rfl⟩⟩
 .simp only[HV];subst h0;refine⟨_,⟨[],.none,0,hks,hkl,rfl,rfl⟩,?_⟩;have hs2:Sep (bH 3 1 .none 0 0 []::[af p (sg d r1 r2 r3),Mp r1 (eW d.safe),Mp r2 (rC d.ij),Mp r3 (eW d.cache)]) _:=⟨fun _=>none,_,fun _ _ h=>(nomatch h),Hp.le_refl _,fun _=>.inl rfl,bH.none _ _ _,hs.re [0,1,2,3] rfl⟩;exact Dk.shut (hs2.re [1,2,3,4,0] rfl)
 .simp only[HV];have hs2:=hs.new hn (.row (ks.map (Value.int .i64)) 3 cap);have hs3:=hs2.jE 5 (B:=bH 3 1 (Oo b') ks.length cap (ks.map (Value.int .i64))) rfl fun H1 hH=>⟨by simp,.inr ⟨b',cap,rfl,hH,by omega⟩⟩
  exact⟨_,⟨ks,some (O b'),cap,hks,hkl,rfl,rfl⟩,Dk.shut (hs3.re [0,1,2,3,5] rfl)⟩
theorem ta {p:Nat}{d:D}:Tr prog 25 #[.pointer (some ⟨p,7,none⟩)] [Dk p d] fun v M=>v= .tuple #[]/\M=[Dk p { d with down:=true,aI:=0}]:=fun H hs=>by
 obtain⟨r1,r2,r3,hs⟩:=Dk.open hs;apply jO.ok;unfold jO;simp only[HS];refine hs.st 0 rfl (by show 7<10;omega) rfl fun H hs=>?_;refine hs.st 0 rfl (by show 8<10;omega) rfl fun H hs=>?_;exact⟨_,⟨trivial,rfl⟩,Dk.shut (d:={ d with down:=true,aI:=0}) hs⟩
theorem ve {p:Nat}{d:D}(n:Int):Tr prog 23 #[.pointer (some ⟨p,7,none⟩),I n] [Dk p d] fun v M=>v= .tuple #[]/\M=[Dk p { d with aI:=n.toNat}]:=fun H hs=>by
 obtain⟨r1,r2,r3,hs⟩:=Dk.open hs;apply kt.ok;unfold kt;simp only[HS];rw[show(if(0:Int)>n then(0:Int)else n)=((n.toNat:Nat):Int) by split<;>omega];refine hs.st 0 rfl (by show 8<10;omega) rfl fun H hs=>?_;exact⟨_,⟨trivial,rfl⟩,Dk.shut (d:={ d with aI:=n.toNat}) hs⟩
def mC (c:Int->Option (List UInt8)):(Int->Option (List UInt8))->List Int->List Bool->(Int->Option (List UInt8))
 |s,k::ks,b::bs=>mC c (if b then ig s k ((c k).getD [])else s) ks bs
 |s,_,_=>s
def D.jB (d:D)(ks:List Int)(dI:List Bool):D:={ d with safe:=mC d.cache d.safe ks dI,cache:=fun _=>none,down:=false}
def lR (l:List Bool):List Value:=l.map Value.bool
theorem zF (c s:Int->Option (List UInt8))(ks:List Int):mC c s ks []=s:=by cases ks<;>rfl
theorem rH (K:VK){p r1 r2 r3:Nat}{d:D}{A A4:OA}{n4 m n m4:Nat}{all:List Int}{keepAll:List Bool}{R:As}(hR:∀ H,R H->Cells H A (lR keepAll))(hn:n=keepAll.length)(hn4:n4=all.length)(hn40:n4<=1048576)(hall:∀ k∈all,(d.cache k).isSome=true)(sF:Int->Option (List UInt8))
  (hK:∀ H,Sep [af p (sg { d with down:=false} r1 r2 r3),Mp r1 (eW sF),Mp r2 (rC d.ij),Mp r3 (eW fun _=>none),bH 3 1 A4 n4 m4 (all.map (Value.int .i64)),R] H->K (I 0) H):
  ∀(ks:List Int) (j:Nat) (s:Int->Option (List UInt8)) (H:Hp),all.drop j=ks->j<=n4->mC d.cache s ks (keepAll.drop j)=sF->
   Sep [af p (sg d r1 r2 r3),Mp r1 (eW s),Mp r2 (rC d.ij),Mp r3 (eW d.cache),bH 3 1 A4 n4 m4 (all.map (Value.int .i64)),R] H->
   cP.l4 K (ks.length+1) (Oo p) A n m A4 n4 m4 (n4:Int) (j:Int) H
 | [],j,s,H,hd,hj,hb,hs=>by
  have hjn:j=n4:=by
   have:=congrArg List.length hd;simp at this;omega
  subst hjn;unfold cP.l4;refine aw (by omega) ?_;simp only[HS];refine hs.ld 0 rfl rfl ?_;simp only[HV];refine hs.Gz qF oY 3 rfl fun H hs=>?_;refine hs.st 0 rfl (by show 7<10;omega) rfl fun H hs=>?_;have hb':s=sF:=hb;rw[hb']at hs;exact hK H hs
 |k::ks,j,s,H,hd,hj,hb,hs=>by
  have hjl:j<all.length:=by
   have:=congrArg List.length hd;simp at this;omega
  have hget:all[j]=k:=by
   have:=List.drop_eq_getElem_cons hjl;rw[this]at hd;exact(List.cons.inj hd).1
  have hrest:all.drop (j+1)=ks:=by
   have:=List.drop_eq_getElem_cons hjl;rw[this]at hd;exact(List.cons.inj hd).2
  have hkc:=hall k (by rw[<- hget];exact List.getElem_mem _);unfold cP.l4;refine aC (by omega) ?_;refine(hs.own 4 rfl).Od (v:=I k) rfl (by rw[List.getElem?_map,List.getElem?_eq_getElem hjl,hget];rfl) ?_;simp only[HV];by_cases hjk:j<n
  .refine aC (by omega) ?_;have hkl:j<keepAll.length:=by omega
   have hkd:keepAll.drop j=keepAll[j]::keepAll.drop (j+1):=List.drop_eq_getElem_cons hkl;rw[hkd]at hb;obtain⟨H1,hR1,hle⟩:=hs.fE 5 (A:=R) rfl;refine((hR H1 hR1).le hle).read (v:=.bool keepAll[j]) (by unfold lR;rw[List.getElem?_map,List.getElem?_eq_getElem hkl];rfl) rfl (by unfold lR;rw[List.length_map];omega) ?_;simp only[HV];cases hbv:keepAll[j]with
   |true=>
    rw[hbv]at hb
    try simp only[HV]
    try simp only[HS]
    refine hs.ld 0 rfl rfl ?_;simp only[HV];refine hs.ld 0 rfl rfl ?_;simp only[HV];obtain⟨jz,hz1,hz2⟩:=FR;obtain⟨H1,⟨l,clock,hr1,hgk⟩,hle⟩:=hs.fE 3 rfl;refine y9 qF oY hz1 hz2 (hle _ _ hr1) false ?_;rw[hgk.get];cases hck:d.cache k with
    |none=>rw[hck]at hkc;cases hkc
    |some bs=>
     rw[show eW d.cache k=some (uY bs) by unfold eW;rw[hck];rfl];show DS (.string ⟨bs.toArray⟩) _
     simp only[HV];refine hs.wi qF oY 1 rfl fun H hs=>?_;rw[show(Value.string ⟨bs.toArray⟩)=uY bs from rfl,CL]at hs;rw[bu (x:=(j:Int)+1)];refine rH K hR hn hn4 hn40 hall sF hK ks (j+1) (ig s k bs) H hrest (by omega) ?_ hs;rw[<- hb];show _=mC d.cache (if true then ig s k ((d.cache k).getD [])else s) ks _
     rw[hck];rfl
   |false=>
    rw[hbv]at hb
    try simp only[HV]
    rw[bu (x:=(j:Int)+1)];exact rH K hR hn hn4 hn40 hall sF hK ks (j+1) s H hrest (by omega) hb hs
  .refine aw (by omega) ?_;rw[bu (x:=(j:Int)+1)];rw[List.drop_eq_nil_of_le (by omega),zF]at hb;refine rH K hR hn hn4 hn40 hall sF hK ks (j+1) s H hrest (by omega) ?_ hs;rw[List.drop_eq_nil_of_le (by omega),zF];exact hb
theorem yL {p:Nat}{d:D}(hok:Ok d)(hd:sw d)(hdn:d.down=true)(A:OA)(n m:Nat)(dI:List Bool)(hn:n=dI.length)(R:As)(hR:∀ H,R H->Cells H A (lR dI)):
  Tr prog 26 #[V p,.slice A n m] [Dk p d,R] fun v M=>∃ ks,KeysOf (eW d.cache) ks/\v= I 0/\M=[Dk p (D.jB d ks dI),R]:=fun H hs=>by
 have hsec:=hok.sec;obtain⟨r1,r2,r3,hp⟩:=Dk.fE hs 0 rfl;apply cP.ok;unfold cP;simp only[HS];refine eV hp (v:=.bool d.down) rfl ?_;rw[hdn];simp only[HV];refine(Ix hok hd).use hs [0] rfl rfl ?_;rintro _ _ H ⟨ks,A4,cap,hks,hkl,rfl,rfl⟩ hs;simp only[HV];obtain⟨r1,r2,r3,hs⟩:=Dk.open hs;refine⟨ks.length+1,?_⟩;refine rH _ (d:=d) (A4:=A4) (m4:=cap) (all:=ks) (keepAll:=dI) (R:=R) hR hn rfl (by omega) (fun k hk=>by have:=(hks.mem k).1 hk;rw[se]at this;exact this) (mC d.cache d.safe ks dI) (fun H hs=>⟨_,⟨ks,hks,rfl,rfl⟩,?_⟩) ks 0 d.safe H rfl (Nat.zero_le _) rfl hs;exact Dk.shut (d:=D.jB d ks dI) (hs.re [0,1,2,3,5] rfl)
theorem wt {c:Int->Option (List UInt8)}:∀(ks:List Int) (bs:List Bool) (s:Int->Option (List UInt8)),(∀ k∈ks,(c k).isSome=true)->∀ i,mC c s ks bs i=s i\/((c i).isSome=true/\mC c s ks bs i=c i)
 | [],bs,s,_,i=>.inl rfl
 |k::ks,[],s,_,i=>.inl rfl
 |k::ks,b::bs,s,hk,i=>by
  have ih:=wt ks bs (if b then ig s k ((c k).getD [])else s) (fun k hm=>hk k (by simp[hm])) i;show mC c (if b then ig s k ((c k).getD [])else s) ks bs i=s i\/_/\mC c (if b then ig s k ((c k).getD [])else s) ks bs i=c i
  rcases ih with h|h
  .rw[h];cases b with
   |false=>exact .inl rfl
   |true=>
    by_cases e:i=k
    .subst e;refine .inr ⟨hk i (by simp),?_⟩;have:=hk i (by simp);cases hc:c i with
     |none=>rw[hc]at this;cases this
     |some x=>simp[ig]
    .exact .inl (by simp[ig,e])
  .exact .inr h
theorem Ok.bJ {d:D}(h:Ok d)(i:Int)(bs:List UInt8):Ok (d.bJ i bs):=by
 unfold D.bJ;split
 .exact h
 .split
  .exact h
  .rename_i hl
   have hb:=Ok.bC h;split
   .exact hb
   .unfold D.wrote;refine⟨hb.sec,hb.size,hb.lk,hb.aa,hb.safe,fun k b hk=>?_,hb.fz⟩;have hk':(if k=i then some bs else d.cache k)=some b:=hk;have hsz:d.bC.size=d.size:=(gr d).2.2.2.1;split at hk'
    .cases hk';show bs.length=d.bC.size;rw[hsz];omega
    .show b.length=d.bC.size;rw[hsz];exact h.cache k b hk'
theorem sw.bJ {d:D}(h:sw d)(i:Int)(bs:List UInt8):sw (d.bJ i bs):=by
 have hbr:=gr d;unfold D.bJ;split
 .exact h
 .rename_i hc
  split
  .exact h
  .split
   .intro k hk;rw[hbr.2.2.2.2.2.2.1]at hk;rw[hbr.2.2.2.2.1];exact h k hk
   .intro k hk;have hk':(if k=i then some bs else d.cache k).isSome=true:=hk;show 0<=k/\k<(d.bC.sec:Int)
    rw[hbr.2.2.2.2.1];split at hk'
    .rename_i e;subst e
     have:=Gy (d:=d) (i:=k) (by simpa using hc);omega
    .exact h k hk'
theorem Ok.rS {d:D}(h:Ok d):Ok { d with down:=true,aI:=0}:=⟨h.sec,h.size,h.lk,h.aa,h.safe,h.cache,Nat.zero_le _⟩
theorem Ok.pJ {d:D}(h:Ok d)(n:Nat)(hn:n<=9223372036854775807):Ok { d with aI:=n}:=⟨h.sec,h.size,h.lk,h.aa,h.safe,h.cache,hn⟩
theorem Ok.jB {d:D}(h:Ok d){ks:List Int}(hk:KeysOf (eW d.cache) ks)(dI:List Bool):Ok (D.jB d ks dI):=by
 refine⟨h.sec,h.size,h.lk,h.aa,fun k b hb=>?_,fun k b hb=>(by cases hb),h.fz⟩;have hb':mC d.cache d.safe ks dI k=some b:=hb;rcases wt ks dI d.safe (fun k hm=>by have:=(hk.mem k).1 hm;rw[se]at this;exact this) k with e|⟨_,e⟩
 .rw[e]at hb';exact h.safe k b hb'
 .rw[e]at hb';exact h.cache k b hb'
def lr (s c:Int→Option (List UInt8)):Int→Option (List UInt8):=fun i=>match c i with|some b=>some b|none=>s i
theorem born_inj {l:List (Int×Value×Nat)}(h:(l.map (·.2.2)).Nodup){x y:Int×Value×Nat}(hx:x∈l)(hy:y∈l)(e:x.2.2=y.2.2):x=y:=by
 induction l with
 |nil=>simp at hx
 |cons z l ih=>
  simp only[List.map_cons,List.nodup_cons]at h;rcases List.mem_cons.1 hx with ex|hx'
  .rcases List.mem_cons.1 hy with ey|hy'
   .rw[ex,ey]
   .exact absurd (by rw[<- ex,e];exact List.mem_map_of_mem hy') h.1
  .rcases List.mem_cons.1 hy with ey|hy'
   .exact absurd (by rw[<- ey,<-e];exact List.mem_map_of_mem hx') h.1
   .exact ih h.2 hx' hy'
theorem Fb (K:VK){r1 r2 it cl:Nat}{c s:Int->Option (List UInt8)}{l:List (Int×Value×Nat)}(hok:Gg l cl (eW c))
  (hK:∀ H,Sep [Mp r1 (eW (lr s c)),af r2 (i1 l cl)] H->K (.tuple #[]) H):
  ∀(t:Nat) (sj:Int->Option (List UInt8)) (seen:Array Nat) (last:Nat) (H:Hp),(fM l seen).length<=t->(∀ x∈l,x.2.2<last)->(∀ i,(∀ x∈fM l seen,x.1≠i)->sj i=lr s c i)->
   Sep [Mp r1 (eW sj),af r2 (i1 l cl),af it (kZ r2 cl seen last)] H->aE.l1 K (t+1) (some r1) (V it) H:=fun t=>by
 induction t with
 |zero=>
  intro sj seen last H ht hlast hsj hs;unfold aE.l1;have h0:fM l seen=[]:=List.length_eq_zero_iff.1 (by omega);refine Hb (hs.get 2 rfl) (hs.get 1 rfl) hok.bl hlast (fun x hx=>by rw[h0]at hx;simp at hx) (fun _=>?_);simp only[Ex,List.getElem?_toArray,List.getElem?_cons_zero,vc,tW];refine hK H ?_;have:sj=lr s c:=funext fun i=>hsj i (fun x hx=>by rw[h0]at hx;simp at hx)
  rw[<- this];exact hs.re [0,1] rfl
 |succ t ih=>
  intro sj seen last H ht hlast hsj hs;unfold aE.l1;refine Hb (hs.get 2 rfl) (hs.get 1 rfl) hok.bl hlast (fun x hx=>?_) (fun h0=>?_)
  .simp only[Ex,List.getElem?_toArray,List.getElem?_cons_zero,vc,Bq];have hxl:x∈l:=(List.mem_filter.1 hx).1;have hs:=hs.put 2 (kZ r2 cl (seen.push x.2.2) cl) rfl;refine KS (hs.get 2 rfl) (hs.get 1 rfl) hxl (by simp) hok.bn ?_;simp only[Ex,List.getElem?_toArray,List.getElem?_cons_zero,List.getElem?_cons_succ];have hg:eW c x.1=some x.2.1:=by rw[<- hok.get,wG hok.nd hxl]
   obtain⟨b,hcb,hxb⟩:∃ b,c x.1=some b/\x.2.1=uY b:=by
    unfold eW at hg;cases hc:c x.1 with
    |none=>rw[hc]at hg;cases hg
    |some b=>rw[hc]at hg;exact⟨b,rfl,(Option.some.inj hg).symm⟩
   rw[hxb];show DI .i64 (I x.1) fun x1=>DS (.string ⟨b.toArray⟩) _
   simp only[HV];refine hs.wi qF oY 0 rfl fun H hs=>?_;rw[show(Value.string ⟨b.toArray⟩)=uY b from rfl,CL]at hs;have hlt:=FN hx;refine ih (ig sj x.1 b) (seen.push x.2.2) cl H (by omega) hok.bl (fun i hi=>?_) hs;by_cases e:i=x.1
   .subst e;unfold lr ig;rw[hcb];simp
   .unfold ig;rw[if_neg e];refine hsj i fun y hy ey=>?_
    obtain⟨hyl,hys⟩:=List.mem_filter.1 hy;have hne:y.2.2≠x.2.2:=fun e2=>e (by rw[<- ey,born_inj hok.bn hyl hxl e2])
    refine hi y (List.mem_filter.2 ⟨hyl,?_⟩) ey;rw[Array.contains_push];simp only[Bool.not_eq_true',Bool.or_eq_false_iff]at hys⊢;exact⟨hys,by simpa using hne⟩
  .simp only[Ex,List.getElem?_toArray,List.getElem?_cons_zero,vc,tW];refine hK H ?_;have:sj=lr s c:=funext fun i=>hsj i (fun x hx=>by rw[h0]at hx;simp at hx)
   rw[<- this];exact hs.re [0,1] rfl
theorem I7 (r1 r2:Nat)(s c:Int->Option (List UInt8)):Tr prog 183 #[.map (some r1),.map (some r2)] [Mp r1 (eW s),Mp r2 (eW c)] fun v M=>
  v= .tuple #[]/\M=[Mp r1 (eW (lr s c)),Mp r2 (eW c)]:=fun H hs=>by
 have hs0:=hs;obtain⟨H1,⟨l,clock,hr1,hok⟩,hle⟩:=hs.fE 1 rfl;apply aE.ok;unfold aE;refine Lp oY (hle _ _ hr1) fun it hit=>?_
 have hs1:Sep [Mp r1 (eW s),af r2 (i1 l clock)] H:=hs.Ku 1 rfl fun H2 hle2 hA=>by
  obtain⟨l2,clock2,h2,_⟩:=hA;have e1:=hle2 _ _ h2;have e2:=hle _ _ hr1;rw[e1]at e2;show H2 r2=some (i1 l clock)
  rw[h2,e2]
 have hs2:=hs1.new hit (kZ r2 clock #[] clock);refine⟨l.length+1,?_⟩;refine Fb _ (s:=s) hok (fun H hs=>⟨_,⟨rfl,rfl⟩,hs.jE 1 rfl fun H2 hA=>⟨l,clock,hA,hok⟩⟩) l.length s #[] clock _ ?_ hok.bl (fun i hi=>?_) hs2
 .unfold fM;exact List.length_filter_le _ _
 .unfold lr;have hn:c i=none:=by
   have:ib l i=none:=zR.2 fun x hx=>hi x (by unfold fM;simp[hx])
   rw[hok.get]at this;unfold eW at this;cases hc:c i with
   |none=>rfl
   |some b=>rw[hc]at this;cases this
  rw[hn]
def D.synced (d:D):D:={ d.bC with sy:=d.sy+1,safe:=lr d.safe d.cache,cache:=fun _=>none}
def D.iM (d:D):Int:=if d.down then 8 else if d.dG then 8 else 0
def D.fK (d:D):D:=if d.down then d else if d.dG then d.bC else d.synced
theorem qI {p:Nat}{d:D}(hok:Ok d)(ho:d.sy<=4611686018427387904):Tr prog 127 #[V p] [Dk p d] fun v M=>v= I d.iM/\M=[Dk p d.fK]:=fun H hs=>by
 have hf:=hok.fz;obtain⟨r1,r2,r3,hp⟩:=Dk.fE hs 0 rfl;apply kT.ok;unfold kT;simp only[HS];refine eV hp (v:=.bool d.down) rfl ?_;simp only[HV];cases hdn:d.down with
 |true=>exact cV rfl ⟨_,⟨by simp[D.iM,hdn],by simp[D.fK,hdn]⟩,hs⟩
 |false=>
  refine bQ rfl ?_;refine(wu hf).use hs [0] rfl rfl ?_;rintro _ _ H ⟨rfl,rfl⟩ hs;simp only[HV];cases hb:d.dG with
  |true=>exact cV rfl ⟨_,⟨by simp[D.iM,hdn,hb],by simp[D.fK,hdn,hb];rfl⟩,hs⟩
  |false=>
   refine bQ rfl ?_;have hbr:=gr d;obtain⟨r1,r2,r3,hs⟩:=Dk.open hs
   try simp only[HS]
   refine hs.ld 0 rfl rfl ?_;simp only[HV];refine hs.st 0 rfl (by show 5<10;omega) rfl fun H hs=>?_;rw[hbr.2.2.1]at hs;rw[bu (x:=(d.sy:Int)+1)]at hs;refine hs.ld 0 rfl rfl ?_;simp only[HV];refine hs.ld 0 rfl rfl ?_;simp only[HV];rw[hbr.2.2.2.2.2.1,hbr.2.2.2.2.2.2.1]at hs;refine(I7 r1 r3 d.safe d.cache).use hs [1,3] rfl rfl ?_;rintro _ _ H ⟨rfl,rfl⟩ hs
   try simp only[HV]
   refine hs.ld 2 rfl rfl ?_;simp only[HV];refine hs.Gz qF oY 1 rfl fun H hs=>?_;refine⟨_,⟨by simp[D.iM,hdn,hb],by simp[D.fK,hdn,hb];rfl⟩,?_⟩;exact Dk.shut (d:=d.synced) (r1:=r1) (r2:=r2) (r3:=r3) (hs.re [2,0,3,1] rfl)
theorem eU.uG {s:Nat}{H:Hp}{A:OA}{rows:List (List Value)}(h:eU s H A rows){i:Nat}{r:List Value}(hi:rows[i]? =some r)(hr:r.length=s){x:Int}(hx:x=i){n:Nat}(hn:rows.length<=n){K:List Value->Prop}(k:K r):
  cX x n (NN A fun a=>aJ H (a.add (x.toNat*s)) s K):=by
 obtain⟨a,rfl,hc⟩:=h i r hi;subst hx;have:=(List.getElem?_eq_some_iff.1 hi).1;refine⟨by omega,by omega,?_⟩;rw[Int.toNat_natCast];have hcells:Cells H (some (a.add (i*s))) r:=fun j v hj=>⟨_,rfl,by rw[add_add];exact hc j v hj⟩
 have:=hcells.cells?;rw[hr]at this;show aJ H (a.add (i*s)) s K
 unfold aJ;rw[this];exact k
structure Act where
 k:Int
 i:Int
 A:OA
 n:Nat
 m:Nat
 b:List UInt8
 A':OA
 n':Nat
 m':Nat
 ks:List Bool
def laidB (bs:List UInt8):List UInt8:=bs.take 32++List.replicate (32-bs.length) 0
theorem G1 (bs:List UInt8):(laidB bs).length=32:=by
 unfold laidB;rw[List.length_append,List.length_take,List.length_replicate];omega
end Dsk
end Go.Proofs.YtlgnlghmbcpmhaaGreatDoor
