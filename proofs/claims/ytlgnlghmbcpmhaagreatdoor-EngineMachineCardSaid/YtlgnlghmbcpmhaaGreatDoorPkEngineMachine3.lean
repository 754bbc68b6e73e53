import Derived.Test.YtlgnlghmbcpmhaaGreatDoorProg
import Derived.DeepKeys
import Derived.Shelf.SlIterI.Nil
import Derived.Shelf.SortM.Plain
import Derived.Shelf.SortM.SortNone
import Derived.Ground.GgzProg
import Derived.Ground.SlgmProg
import Derived.Test.YtlgnlghmbcpmhaaGreatDoorPkEngineMachine2
set_option maxRecDepth 100000
set_option linter.unusedSimpArgs false
set_option linter.unusedVariables false
set_option linter.unnecessarySimpa false
set_option linter.unusedSectionVars false
open Go.IntKind (i64 u64 u8)
namespace Go.Proofs.YtlgnlghmbcpmhaaGreatDoor.Lay
open Go Go.Hw W
def kZX (f s w:Int):Array Value:=#[I f,I s,I w]
def dZk (k p:Nat):Array Value:=
 let r:Int:=ZX k p
 let w:Int:=(2^k:Nat)
 #[I k,I p,I 1,I 8,I ((8*p:Nat):Int),I 9,I r,I w,I (9+r),I r,I w,I (9+2*r),I r,I w,I (9+3*r),I r,I w]
def oZO :Array Value:=#[I 0,I 0,I 0,I 0,I 0,I 0,I 0,I 0,I 0,I 0,I 0,I 0,I 0,I 0,I 0,I 0,I 0]
theorem iZm (K:VK)(d b1 b2:Nat)(e:TypeId)(k:Nat)(hk:k<=32)(H:Hp)(c:Array Value)(hc:c.size=17)(x r:Int)(hx:0<=x/\x<=100000000000)(hr:0<=r/\r<=100000000000)(i:Nat)(hi:i<4)
  (h:aZQ.l4 K d (k:Int) (O b1) (O b2) (x+r) r ((i+1:Nat):Int) (H.set b2 (Is (setAt c.toList (5+i*3) (kZX x r ((2^k:Nat):Int)).toList).toArray e))):
  aZQ.l4 K (d+1) (k:Int) (O b1) (O b2) x r (i:Int) (H.set b2 (Is c e)):=by
 conv=>unfold aZQ.l4
 refine Zm (by omega) ⟨by rw[bZ5];omega,by omega,by omega,?_⟩;simp only[Addr.add_lit',Int.toNat_natCast,Nat.zero_add];rw[bZ5,gZM (by omega)];refine pZW (Hp.set_same _ _ _) (by omega) (by rfl) (by rfl) ?_;rw[Hp.set_set,ZM (x:=x+r),ZM (x:=(i:Int)+1)];exact h
theorem sZz {k p:Nat}(hk:k<=32)(hp:0<p)(hp2:p<=512)(H:Hp):Za Tryz.prog 252 #[I k,I p] H (RetE (.agg (dZk k p)) H):=by
 apply Za.ret;apply aZQ.ok;unfold aZQ;intro b1 hb1;intro b2 hb2';obtain⟨hne,hb2⟩:=Hp.set_none hb2';refine hZJ (Hp.set_same _ _ _) (by rfl) (by rfl) (by rfl) ?_;rw[Hp.set_set];refine Za.use (qZm (k:=k) (p:=p) (by omega) hp (by omega) _) ?_
 try simp only[HV]
 have hr:=pZd (k:=k) (p:=p);have w8:i64.wrap (8*(p:Int))=((8*p:Nat):Int):=by rw[ZM];omega
 rw[w8];refine⟨5,?_⟩;refine iZm _ 4 b1 b2 _ k hk _ _ (by rfl) 9 _ (by omega) (by omega) 0 (by omega) ?_;refine iZm _ 3 b1 b2 _ k hk _ _ (by rfl) _ _ (by omega) (by omega) 1 (by omega) ?_;refine iZm _ 2 b1 b2 _ k hk _ _ (by rfl) _ _ (by omega) (by omega) 2 (by omega) ?_;refine iZm _ 1 b1 b2 _ k hk _ _ (by rfl) _ _ (by omega) (by omega) 3 (by omega) ?_;unfold aZQ.l4;refine Zg (by decide) ?_;have hv:(setAt (setAt (setAt (setAt (#[I (k:Int),I (p:Int),I 1,I 8,I ((8*p:Nat):Int),I 0,I 0,I 0,I 0,I 0,I 0,I 0,I 0,I 0,I 0,I 0,I 0]:Array Value).toList
   (5+0*3) (kZX 9 (ZX k p) ((2^k:Nat):Int)).toList).toArray.toList (5+1*3) (kZX (9+ZX k p) (ZX k p) ((2^k:Nat):Int)).toList).toArray.toList (5+2*3) (kZX (9+ZX k p+ZX k p) (ZX k p) ((2^k:Nat):Int)).toList).toArray.toList (5+3*3) (kZX (9+ZX k p+ZX k p+ZX k p) (ZX k p) ((2^k:Nat):Int)).toList).toArray=dZk k p:=by
  have e2:(9+(ZX k p:Int)+ZX k p)=9+2*ZX k p:=by omega
  have e3:(9+2*(ZX k p:Int)+ZX k p)=9+3*ZX k p:=by omega
  rw[e2,e3];rfl
 rw[hv];refine fZV (Hp.set_same _ _ _) (by rfl) ?_;refine hZJ (c:=oZO) (y:=(dZk k p)) (by rw[Hp.set_other _ _ (Ne.symm hne)];exact Hp.set_same _ _ _) (by rfl) (by rfl) (by rfl) ?_;refine fZV (Hp.set_same _ _ _) (by rfl) ?_;exact⟨rfl,fun b q hq=>by
  have h1:b≠b1:=fun e=>by rw[e,hb1]at hq;cases hq
  have h2:b≠b2:=fun e=>by rw[e,hb2]at hq;cases hq
  rw[Hp.set_other _ _ h1,Hp.set_other _ _ h2,Hp.set_other _ _ h1];exact hq⟩
def OfV (k sec s:Int):Array Value×Int:=
 if 0<=k/\k<=32/\0<aZg s then(if sec<bZT k.toNat (aZg s)then(oZO,7)else(dZk k.toNat (aZg s),0))else(oZO,1)
theorem eZO (k sec s:Int)(H:Hp):Za Tryz.prog 181 #[I k,I sec,I s] H (RetE (.tuple #[.agg (OfV k sec s).1,I (OfV k sec s).2]) H):=by
 apply Za.ret;apply gZU.ok;unfold gZU;intro b hb;have hle:=fun o=>Hp.le_set (o:=o) hb
 refine Za.use (jZ4 k s _) ?_
 try simp only[HV]
 unfold OfV gZP;by_cases h:0<=k/\k<=32/\0<aZg s
 ·rw[if_pos h,if_pos h];refine aZe (by rfl) ?_;by_cases h2:sec<(bZT k.toNat (aZg s):Int)
  ·rw[if_pos h2];refine Zm h2 ?_;refine hZJ (Hp.set_same _ _ _) (by rfl) (by rfl) (by rfl) (fZV (Hp.set_same _ _ _) (by rfl) ?_);rw[Hp.set_set];exact⟨rfl,hle _⟩
  ·rw[if_neg h2];refine Zg h2 ?_;refine Za.use (lZY s _) ?_
   try simp only[HV]
   obtain⟨n,rfl⟩:=Int.eq_ofNat_of_zero_le h.1;have:=iZL s;refine Za.use (sZz (k:=n) (p:=aZg s) (by omega) h.2.2 this _) ?_
   try simp only[HV]
   refine hZJ (Hp.set_same _ _ _) (by rfl) (by rfl) (by rfl) (fZV (Hp.set_same _ _ _) (by rfl) ?_);rw[Hp.set_set];exact⟨rfl,hle _⟩
 ·rw[if_neg h,if_neg h];refine aZE (by rfl) ?_;refine hZJ (Hp.set_same _ _ _) (by rfl) (by rfl) (by rfl) (fZV (Hp.set_same _ _ _) (by rfl) ?_);rw[Hp.set_set];exact⟨rfl,hle _⟩
def eZH (f s w p i:Int):Int×Int×Int:=if p<1∨i<0∨i>=w∨Int.tdiv i p>=s then(0,0,2)else(f+Int.tdiv i p,Int.tmod i p,0)
theorem rZV (f s w p i:Int)(hf:0<=f/\f<=1000000000000)(hw:w<=1000000000000)(H:Hp):
  Za Tryz.prog 316 #[.agg (kZX f s w),I p,I i] H (RetE (.tuple #[I (eZH f s w p i).1,I (eZH f s w p i).2.1,I (eZH f s w p i).2.2]) H):=by
 apply Za.ret;apply eZQ.ok;unfold eZQ;intro b hb;have hle:=Hp.le_set (o:=Is #[I f,I s,I w] 150) hb;simp only[Addr.add_lit',Nat.zero_add];have no:(p<1∨i<0∨i>=w∨Int.tdiv i p>=s)->Ret (.tuple #[I (eZH f s w p i).1,I (eZH f s w p i).2.1,I (eZH f s w p i).2.2]) H (.tuple #[I 0,I 0,I 2]) (H.set b (Is #[I f,I s,I w] 150)):=fun h=>by
  unfold eZH;rw[if_pos h];exact⟨rfl,hle⟩
 rw[cZ9,cZ9];split
 ·exact no (by omega)
 split
 ·exact no (by omega)
 refine bZt (Hp.set_same _ _ _) (v:=I w) rfl ?_;simp only[HV];rw[cZ9];split
 ·exact no (by omega)
 refine⟨by omega,by simp,?_⟩;refine bZt (Hp.set_same _ _ _) (v:=I s) rfl ?_;simp only[HV];have h1:0<=Int.tdiv i p:=Int.tdiv_nonneg (by omega) (by omega);have h2:Int.tdiv i p<=i:=by
  obtain⟨a,rfl⟩:=Int.eq_ofNat_of_zero_le (show 0<=i by omega);obtain⟨c,rfl⟩:=Int.eq_ofNat_of_zero_le (show 0<=p by omega);exact Int.ofNat_le.2 (Nat.div_le_self a c)
 rw[ZM (x:=Int.tdiv i p),cZ9];split
 ·rename_i h3;exact no (by omega)
 refine bZt (Hp.set_same _ _ _) (v:=I f) rfl ?_;simp only[HV];refine⟨by omega,by simp,by omega,by simp,?_⟩;rw[ZM (x:=f+Int.tdiv i p)];unfold eZH;rw[if_neg (by omega)];exact⟨rfl,hle⟩
def exF (r:Int)(i:Nat):Int:=9+i*r
theorem sZy (k p i:Nat)(hi:i<4):(dZk k p)[5+i*3]? =some (I (exF (ZX k p) i)):=by
 unfold exF;rcases(by omega:i=0∨i=1∨i=2∨i=3)with rfl|rfl|rfl|rfl<;>simp[dZk]
section
variable (K : Value -> Hp -> Prop) (k p e : Nat) (hk : k <= 10) (b1 b2 : Nat) (H0 H : Hp) (hle : H0.le H) (h1 : H b1 = some (Is (dZk k p) 153)) (h2 : H b2 = some (Is (kZX (exF (ZX k p) e) (ZX k p) ((2 ^ k : Nat) : Int)) 150))
include hk hle h1 h2
end
end Go.Proofs.YtlgnlghmbcpmhaaGreatDoor.Lay
namespace Go.Proofs.YtlgnlghmbcpmhaaGreatDoor.W
open Go Go.Hw
theorem dZn :Tryz.prog.follows .mixedOrders=true:=by kernel_rfl
def fZy (A1:OA)(n1 m1:Nat)(H:Hp)(K:VK):Prop:=
 HcI 209 #[.slice A1 n1 m1,.func (.func 210) #[] #[]] H fun x1 H1=>K (.tuple #[I (if 0>x1 then 0 else x1),.bool (decide (x1<0))]) H1
theorem fZy.ok A1 n1 m1 H K (h:fZy A1 n1 m1 H K):Za Tryz.prog 146 #[.slice A1 n1 m1] H K:=
 okN dZn Tryz.func146 rfl rfl h
def fZ6 (A1:OA)(n1 m1:Nat)(x1:Int)(H:Hp)(K:VK):Prop:=
 HcB 261 #[.slice A1 n1 m1,I x1] H fun c1 H1=>BIf (!c1) (K (.tuple #[U 0,I 2]) H1) (slB n1 m1 (some (i64.wrap (8*x1))) none fun n2 n3=>HcW 262 #[.slice (slA A1 m1 n2 1) (n3-n2) (m1-n2)] H1 fun x2 H2=>K (.tuple #[U x2,I 0]) H2)
theorem fZ6.ok A1 n1 m1 x1 H K (h:fZ6 A1 n1 m1 x1 H K):Za Tryz.prog 192 #[.slice A1 n1 m1,I x1] H K:=
 okN dZn Tryz.func192 rfl rfl h
def eZP (x1:Int)(H:Hp)(K:VK):Prop:=
 HcB 211 #[U x1] H fun c1 H1=>K (.bool (!c1)) H1
theorem eZP.ok x1 H K (h:eZP x1 H K):Za Tryz.prog 210 #[U x1] H K:=
 okN dZn Tryz.func210 rfl rfl h
def aZ6.l3 (K:VK):Nat->OA->Nat->Nat->OA->Nat->Nat->Int->Int->Hp->Prop
 |0,_,_,_,_,_,_,_,_,_=>False
 |k+1,A3,n3,m3,A4,n4,m4,x1,x2,H=>
  let R3:=aZ6.l3 K k
  BIf (decide (x2<x1)) (ixI x2 n4 (NN A4 fun a1=>LeW H (a1.add (x2.toNat*1)) fun x3=>slB n3 m3 (some (i64.wrap (8*x2))) none fun n5 n6=>Hz 271 #[.slice (slA A3 m3 n5 1) (n6-n5) (m3-n5),U x3] H fun v3 H2=>R3 A3 n3 m3 A4 n4 m4 x1 (i64.wrap (x2+1)) H2)) (K (.slice A3 n3 m3) H)
def aZ6 (A1:OA)(n1 m1:Nat)(H:Hp)(K:VK):Prop:=
 MkS Tryz.prog 5 (i64.wrap (8*(n1:Int))) (i64.wrap (8*(n1:Int))) H fun v1 H1=>DSl v1 fun A2 n2 m2=>(∃ k,aZ6.l3 K k A2 n2 m2 A1 n1 m1 (n1:Int) 0 H1)
def aZ6.l3.L (K:VK)(k:Nat):Mid:=fun E D H=>
 DG (E.get? 3) fun w3=>DSl w3 fun A3 n3 m3=>DG (E.get? 10) fun w10=>DSl w10 fun A4 n4 m4=>eI E 11 .i64 fun x1=>eI E 12 .i64 fun x2=>Zj D (aZ6.l3 K k A3 n3 m3 A4 n4 m4 x1 x2 H)
def aZ6.Λ3 (_:VK)(_R3:OA->Nat->Nat->OA->Nat->Nat->Int->Int->Hp->Prop):Zs:=Zs.none (fun _=>none)
def aZ6.Λ (K:VK):Zs:=⟨fun i=>none,fun i=>match Nat.beq i 3 with|true=>some (fun E D H=>∃ k,aZ6.l3.L K k E D H)|false=>none,(fun _=>none)⟩
theorem aZ6.ok A1 n1 m1 H K (h:aZ6 A1 n1 m1 H K):Za Tryz.prog 214 #[.slice A1 n1 m1] H K:=
 okL (Λ:=(aZ6.Λ K)) dZn Tryz.func214 rfl rfl h (oC (fun E D H h=>by
   refine Safe.loop' (aZ6.l3.L K) (fun E D H h=>?_) (fun k E D H h=>?_) E D H h
   ·obtain⟨w3,e3,g1⟩:=DG.out h;obtain⟨A3,n3,m3,rfl,g2⟩:=DSl.out g1;obtain⟨w10,e10,g3⟩:=DG.out g2;obtain⟨A4,n4,m4,rfl,g4⟩:=DSl.out g3;obtain⟨w11,e11,g5⟩:=DG.out g4;obtain⟨x1,rfl,g6⟩:=DI.out g5;obtain⟨w12,e12,g7⟩:=DG.out g6;obtain⟨x2,rfl,g8⟩:=DI.out g7;obtain⟨rfl,h'⟩:=Zj.out g8;exact h'
   ·obtain⟨w3,e3,g1⟩:=DG.out h;obtain⟨A3,n3,m3,rfl,g2⟩:=DSl.out g1;obtain⟨w10,e10,g3⟩:=DG.out g2;obtain⟨A4,n4,m4,rfl,g4⟩:=DSl.out g3;obtain⟨x1,e11,g6⟩:=GI g4;obtain⟨x2,e12,g8⟩:=GI g6;obtain⟨rfl,h'⟩:=Zj.out g8;exact okJ (Λ:=(aZ6.Λ3 K (aZ6.l3 K k))) dZn [] (Zc.cons e3 (Zc.cons e10 (Zc.cons e11 (Zc.cons e12 (Zc.nil _))))) h' oN) oN)
def eZ7 (A1:OA)(n1 m1:Nat)(x1:Int)(H:Hp)(K:VK):Prop:=
 BIf (decide (x1>=0)) (((8:Int)≠0/\i64=i64/\K (.bool (decide (x1<(i64.wrap (Int.tdiv (n1:Int) 8))))) H)) (K (.bool false) H)
theorem eZ7.ok A1 n1 m1 x1 H K (h:eZ7 A1 n1 m1 x1 H K):Za Tryz.prog 261 #[.slice A1 n1 m1,I x1] H K:=
 okN dZn Tryz.func261 rfl rfl h
def aZ4.l3 (K:VK):Nat->OA->Nat->Nat->Int->Int->Hp->Prop
 |0,_,_,_,_,_,_=>False
 |k+1,A2,n2,m2,x1,x2,H=>
  let R3:=aZ4.l3 K k
  BIf (decide (x2>=0)) ((0<=(8:Int)/\ixI x2 n2 (NN A2 fun a1=>LeV H (a1.add (x2.toNat*1)) fun x3=>R3 A2 n2 m2 (bOr .u64 (aZR .u64 x1 8) (u64.wrap x3)) (i64.wrap (x2-1)) H))) (K (U x1) H)
def aZ4 (A1:OA)(n1 m1:Nat)(H:Hp)(K:VK):Prop:=
 (∃ k,aZ4.l3 K k A1 n1 m1 0 7 H)
def aZ4.l3.L (K:VK)(k:Nat):Mid:=fun E D H=>
 DG (E.get? 0) fun w0=>DSl w0 fun A2 n2 m2=>eI E 3 .u64 fun x1=>eI E 4 .i64 fun x2=>Zj D (aZ4.l3 K k A2 n2 m2 x1 x2 H)
def aZ4.Λ3 (_:VK)(_R3:OA->Nat->Nat->Int->Int->Hp->Prop):Zs:=Zs.none (fun _=>none)
def aZ4.Λ (K:VK):Zs:=⟨fun i=>none,fun i=>match Nat.beq i 3 with|true=>some (fun E D H=>∃ k,aZ4.l3.L K k E D H)|false=>none,(fun _=>none)⟩
theorem aZ4.ok A1 n1 m1 H K (h:aZ4 A1 n1 m1 H K):Za Tryz.prog 262 #[.slice A1 n1 m1] H K:=
 okL (Λ:=(aZ4.Λ K)) dZn Tryz.func262 rfl rfl h (oC (fun E D H h=>by
   refine Safe.loop' (aZ4.l3.L K) (fun E D H h=>?_) (fun k E D H h=>?_) E D H h
   ·obtain⟨w0,e0,g1⟩:=DG.out h;obtain⟨A2,n2,m2,rfl,g2⟩:=DSl.out g1;obtain⟨w3,e3,g3⟩:=DG.out g2;obtain⟨x1,rfl,g4⟩:=DI.out g3;obtain⟨w4,e4,g5⟩:=DG.out g4;obtain⟨x2,rfl,g6⟩:=DI.out g5;obtain⟨rfl,h'⟩:=Zj.out g6;exact h'
   ·obtain⟨w0,e0,g1⟩:=DG.out h;obtain⟨A2,n2,m2,rfl,g2⟩:=DSl.out g1;obtain⟨x1,e3,g4⟩:=GI g2;obtain⟨x2,e4,g6⟩:=GI g4;obtain⟨rfl,h'⟩:=Zj.out g6;exact okJ (Λ:=(aZ4.Λ3 K (aZ4.l3 K k))) dZn [] (Zc.cons e0 (Zc.cons e3 (Zc.cons e4 (Zc.nil _)))) h' oN) oN)
def bZa.l1 (K:VK):Nat->OA->Nat->Nat->Int->Int->Hp->Prop
 |0,_,_,_,_,_,_=>False
 |k+1,A2,n2,m2,x2,x3,H=>
  let R1:=bZa.l1 K k
  BIf (decide (x3<8)) ((0<=(u64.wrap (i64.wrap (8*x3)))/\ixI x3 n2 (NN A2 fun a1=>St H ((a1.add (x3.toNat*1)).add 0) (.int .u8 (u8.wrap (aZC .u64 x2 (u64.wrap (i64.wrap (8*x3)))))) fun H1=>R1 A2 n2 m2 x2 (i64.wrap (x3+1)) H1))) (K (.tuple #[]) H)
def bZa (A1:OA)(n1 m1:Nat)(x1:Int)(H:Hp)(K:VK):Prop:=
 (∃ k,bZa.l1 K k A1 n1 m1 x1 0 H)
def bZa.l1.L (K:VK)(k:Nat):Mid:=fun E D H=>
 DG (E.get? 0) fun w0=>DSl w0 fun A2 n2 m2=>eI E 1 .u64 fun x2=>eI E 5 .i64 fun x3=>Zj D (bZa.l1 K k A2 n2 m2 x2 x3 H)
def bZa.Λ1 (_:VK)(_R1:OA->Nat->Nat->Int->Int->Hp->Prop):Zs:=Zs.none (fun _=>none)
def bZa.Λ (K:VK):Zs:=⟨fun i=>none,fun i=>match Nat.beq i 1 with|true=>some (fun E D H=>∃ k,bZa.l1.L K k E D H)|false=>none,(fun _=>none)⟩
theorem bZa.ok A1 n1 m1 x1 H K (h:bZa A1 n1 m1 x1 H K):Za Tryz.prog 271 #[.slice A1 n1 m1,U x1] H K:=
 okL (Λ:=(bZa.Λ K)) dZn Tryz.func271 rfl rfl h (oC (fun E D H h=>by
   refine Safe.loop' (bZa.l1.L K) (fun E D H h=>?_) (fun k E D H h=>?_) E D H h
   ·obtain⟨w0,e0,g1⟩:=DG.out h;obtain⟨A2,n2,m2,rfl,g2⟩:=DSl.out g1;obtain⟨w1,e1,g3⟩:=DG.out g2;obtain⟨x2,rfl,g4⟩:=DI.out g3;obtain⟨w5,e5,g5⟩:=DG.out g4;obtain⟨x3,rfl,g6⟩:=DI.out g5;obtain⟨rfl,h'⟩:=Zj.out g6;exact h'
   ·obtain⟨w0,e0,g1⟩:=DG.out h;obtain⟨A2,n2,m2,rfl,g2⟩:=DSl.out g1;obtain⟨x2,e1,g4⟩:=GI g2;obtain⟨x3,e5,g6⟩:=GI g4;obtain⟨rfl,h'⟩:=Zj.out g6;exact okJ (Λ:=(bZa.Λ1 K (bZa.l1 K k))) dZn [] (Zc.cons e0 (Zc.cons e1 (Zc.cons e5 (Zc.nil _)))) h' oN) oN)
end Go.Proofs.YtlgnlghmbcpmhaaGreatDoor.W
namespace Go.Proofs.YtlgnlghmbcpmhaaGreatDoor.W
open Go Go.Hw
theorem hZY :Tryz.prog.follows .mixedOrders=true:=by kernel_rfl
def aZk.l4 (K:VK):Nat->OA->Nat->Nat->OA->Nat->Nat->Int->Hp->Prop
 |0,_,_,_,_,_,_,_,_=>False
 |k+1,A3,n3,m3,A4,n4,m4,x1,H=>
  let R4:=aZk.l4 K k
  BIf (decide (x1<(n3:Int))) (ixI x1 n3 (NN A3 fun a1=>LeW H (a1.add (x1.toNat*1)) fun x2=>ixI x1 n4 (NN A4 fun a2=>LeW H (a2.add (x1.toNat*1)) fun x3=>BIf (x2 !=x3) (K (.bool false) H) (R4 A3 n3 m3 A4 n4 m4 (i64.wrap (x1+1)) H)))) (K (.bool true) H)
def aZk (A1:OA)(n1 m1:Nat)(A2:OA)(n2 m2:Nat)(H:Hp)(K:VK):Prop:=
 BIf ((n1:Int) !=(n2:Int)) (K (.bool false) H) ((∃ k,aZk.l4 K k A1 n1 m1 A2 n2 m2 0 H))
def aZk.l4.L (K:VK)(k:Nat):Mid:=fun E D H=>
 DG (E.get? 0) fun w0=>DSl w0 fun A3 n3 m3=>DG (E.get? 1) fun w1=>DSl w1 fun A4 n4 m4=>eI E 5 .i64 fun x1=>Zj D (aZk.l4 K k A3 n3 m3 A4 n4 m4 x1 H)
def aZk.Λ4 (_:VK)(_R4:OA->Nat->Nat->OA->Nat->Nat->Int->Hp->Prop):Zs:=Zs.none (fun _=>none)
def aZk.Λ (K:VK):Zs:=⟨fun i=>none,fun i=>match Nat.beq i 4 with|true=>some (fun E D H=>∃ k,aZk.l4.L K k E D H)|false=>none,(fun _=>none)⟩
theorem aZk.ok A1 n1 m1 A2 n2 m2 H K (h:aZk A1 n1 m1 A2 n2 m2 H K):Za Tryz.prog 20 #[.slice A1 n1 m1,.slice A2 n2 m2] H K:=
 okL (Λ:=(aZk.Λ K)) hZY Tryz.func20 rfl rfl h (oC (fun E D H h=>by
   refine Safe.loop' (aZk.l4.L K) (fun E D H h=>?_) (fun k E D H h=>?_) E D H h
   ·obtain⟨w0,e0,g1⟩:=DG.out h;obtain⟨A3,n3,m3,rfl,g2⟩:=DSl.out g1;obtain⟨w1,e1,g3⟩:=DG.out g2;obtain⟨A4,n4,m4,rfl,g4⟩:=DSl.out g3;obtain⟨w5,e5,g5⟩:=DG.out g4;obtain⟨x1,rfl,g6⟩:=DI.out g5;obtain⟨rfl,h'⟩:=Zj.out g6;exact h'
   ·obtain⟨w0,e0,g1⟩:=DG.out h;obtain⟨A3,n3,m3,rfl,g2⟩:=DSl.out g1;obtain⟨w1,e1,g3⟩:=DG.out g2;obtain⟨A4,n4,m4,rfl,g4⟩:=DSl.out g3;obtain⟨x1,e5,g6⟩:=GI g4;obtain⟨rfl,h'⟩:=Zj.out g6;exact okJ (Λ:=(aZk.Λ4 K (aZk.l4 K k))) hZY [] (Zc.cons e0 (Zc.cons e1 (Zc.cons e5 (Zc.nil _)))) h' oN) oN)
end Go.Proofs.YtlgnlghmbcpmhaaGreatDoor.W
namespace Go.Form
open Go Go.Hw
def dZy (w:UInt64):List UInt8:=(List.range 8).map fun k=>UInt8.ofNat (w.toNat/256^k)
def form (l:List UInt64):List UInt8:=l.flatMap dZy
theorem eZi (w:UInt64):(dZy w).length=8:=by simp[dZy]
theorem bZb (l:List UInt64):(form l).length=8*l.length:=by
 induction l with
 |nil=>rfl
 |cons w l ih=>simp only[form,List.flatMap_cons,List.length_append,eZi,List.length_cons];rw[show(List.flatMap dZy l).length=(form l).length from rfl,ih];omega
theorem iZw (a b:List UInt64):form (a++b)=form a++form b:=by simp[form]
theorem sZg (l:List UInt64){i:Nat}(h:i<l.length):form (l.take (i+1))=form (l.take i)++dZy l[i]:=by
 rw[List.take_succ_eq_append_getElem h,iZw];simp[form]
theorem uZu (w:UInt64)(k:Nat):u8.wrap ((w.toNat>>>(8*k):Nat):Int)=((UInt8.ofNat (w.toNat/256^k)).toNat:Int):=by
 rw[xZ0,Nat.shiftRight_eq_div_pow,show(2:Nat)^(8*k)=256^k from by rw[Nat.pow_mul]];simp
end Go.Form
namespace Go.Proofs.YtlgnlghmbcpmhaaGreatDoor.FormP
open Go Go.Hw Go.Form W
theorem pZg (K:VK)(b off n m mm:Nat)(xs:List Value)(e:TypeId)(w:UInt64)(H0:Hp)(ho:off+8<=xs.length)(hn:8<=n)
  (k:K (.tuple #[]) (H0.set b (.row (setAt xs off (Zn (dZy w))) e mm))):∀(d j:Nat) (H:Hp),j+d=8->H=H0.set b (.row (setAt xs off ((Zn (dZy w)).take j)) e mm)->
   bZa.l1 K (d+1) (some ⟨b,off,none⟩) n m (w.toNat:Int) (j:Int) H
 |0,j,H,hj,hH=>by
  obtain rfl:j=8:=by omega
  unfold bZa.l1;refine Zg (by omega) ?_;rw[List.take_of_length_le (by rw[ZO,eZi];omega)]at hH;rw[hH];exact k
 |d+1,j,H,hj,hH=>by
  unfold bZa.l1;refine Zm (by omega) ?_;rw[ZM (x:=8*(j:Int)),dZl];refine⟨by omega,by omega,by omega,?_⟩;simp only[aZ0,Addr.add_lit',Int.toNat_natCast,Nat.mul_one,Nat.add_zero];rw[sZ8 w.toNat (i:=8*(j:Int)) (n:=8*j) (by omega) (by show 8*j<=64;omega),uZu,ZM];have hlen:(Zn (dZy w)).length=8:=by rw[ZO,eZi]
  have hb:H b=some (.row (setAt xs off ((Zn (dZy w)).take j)) e mm):=by rw[hH];exact Hp.set_same _ _ _
  refine oZv hb (by rw[cZS (by rw[List.length_take,hlen];omega)];omega) rfl ?_;refine pZg K b off n m mm xs e w H0 ho hn k d (j+1) _ (by omega) ?_;rw[hH,Hp.set_set];congr 2;have:=rZk (xs:=xs) (vs:=Zn (dZy w)) (off:=off) (k:=j) (by rw[hlen];exact ho) (by rw[hlen];omega);rw[← this];congr 1;simp[Zn,dZy]
theorem xZu (b off n m mm:Nat)(xs:List Value)(e:TypeId)(w:UInt64)(H:Hp)(hb:H b=some (.row xs e mm))(ho:off+8<=xs.length)(hn:8<=n):
  Za Tryz.prog 271 #[.slice (some ⟨b,off,none⟩) n m,U (w.toNat:Int)] H (RetE (.tuple #[]) (H.set b (.row (setAt xs off (Zn (dZy w))) e mm))):=by
 apply bZa.ok;refine⟨9,pZg _ b off n m mm xs e w H ho hn (RetE.mk _ _) 8 0 H rfl ?_⟩;rw[List.take_zero,fZ2,Hp.set_id hb]
theorem wZh (b m l:Nat):slA (Io b) m l 1=if m=l then some (O b)else some ⟨b,l,none⟩:=by
 unfold slA;split
 ·rfl
 ·simp
theorem oZo (K:VK)(b:Nat)(e:TypeId)(A:OA)(n m:Nat)(l:List UInt64)(hn:n=l.length)(hm:n<=17592186044416)(H0:Hp)(hb0:H0 b=none)(hl:Cells H0 A (Zb l))(z:List Value)(hz:z.length=8*n)
  (k:∀ H,H=H0.set b (.row (Zn (form l)) e (8*n))->K (.slice (Io b) (8*n) (8*n)) H):∀(d j:Nat) (H:Hp),j+d=n->H=H0.set b (.row (setAt z 0 (Zn (form (l.take j)))) e (8*n))->
   aZ6.l3 K (d+1) (Io b) (8*n) (8*n) A n m (n:Int) (j:Int) H
 |0,j,H,hj,hH=>by
  unfold aZ6.l3;refine Zg (by omega) (k _ ?_);rw[hH,List.take_of_length_le (by omega),hZg (by rw[ZO,bZb,hz,hn])]
 |d+1,j,H,hj,hH=>by
  unfold aZ6.l3;refine Zm (by omega) ?_;have hlt:j<l.length:=by omega
  have hle:H0.le H:=by rw[hH];exact Hp.le_set hb0
  refine(hl.le hle).read (i:=j) (v:=U (l[j].toNat:Int)) (by rw[aZ5,List.getElem?_eq_getElem hlt];rfl) rfl (by rw[Zq];omega) ?_;simp only[HV];rw[ZM (x:=8*(j:Int))];refine⟨by omega,by omega,?_⟩
  dsimp only
  rw[show(8*(j:Int)).toNat=8*j by omega,wZh,if_neg (by omega)];have hlen:(Zn (form (l.take j))).length=8*j:=by rw[ZO,bZb,List.length_take,Nat.min_eq_left (by omega)]
  have hb:H b=some (.row (setAt z 0 (Zn (form (l.take j)))) e (8*n)):=by rw[hH];exact Hp.set_same _ _ _
  have hsl:(setAt z 0 (Zn (form (l.take j)))).length=8*n:=by rw[cZS,hz]
  refine Za.use (xZu b (8*j) _ _ _ _ e l[j] H hb (by omega) (by omega)) ?_;rw[ZM];refine oZo K b e A n m l hn hm H0 hb0 hl z hz k d (j+1) _ (by omega) ?_;rw[hH,Hp.set_set];congr 2;rw[sZg l hlt,iZh];have h8:(Zn (dZy l[j])).length=8:=by rw[ZO,eZi]
  rw[← pZM (by rw[hlen,h8];omega),hlen]
theorem eZK :bZp Tryz.prog 5=some (1,1,some #[.int .u8 0]):=by kernel_rfl
theorem Put_ok (A:OA)(n m:Nat)(l:List UInt64)(hn:n=l.length)(hm:n<=17592186044416)(H:Hp)(hl:Cells H A (Zb l)):
  Za Tryz.prog 214 #[.slice A n m] H (fun v H'=>∃ b,H b=none/\v= .slice (Io b) (8*n) (8*n)/\H'=H.set b (.row (Zn (form l)) 5 (8*n))):=by
 apply aZ6.ok;unfold aZ6;rw[ZM (x:=8*(n:Int))];refine oZn eZK rfl (n:=8*n) (m:=8*n) (by omega) (by omega) (Nat.le_refl _) (by omega) (by omega) ?_;intro b hb;rw[Nat.mul_one];simp only[HV];refine⟨n+1,?_⟩;refine oZo _ b 5 A n m l hn hm H hb hl (aZH [.int .u8 0] (8*n)) (by rw[bZQ];simp) ?_ n 0 _ (by omega) ?_
 ·intro H' hH;exact⟨b,hb,rfl,hH⟩
 ·rw[List.take_zero];simp[form,Zn,fZ2]
end Go.Proofs.YtlgnlghmbcpmhaaGreatDoor.FormP
namespace Go.Form
open Go Go.Hw
theorem pZF (w:UInt64):dZy w=hZT 8 w.toNat:=pZJ 8 w.toNat
theorem sZA (w:UInt64):leN (dZy w)=w.toNat:=by
 rw[pZF,lZT];exact Nat.mod_eq_of_lt w.toNat_lt
def Zv (bs:List UInt8)(o:Nat):Nat:=leN ((bs.drop o).take 8)
theorem cZ6 (bs:List UInt8)(o:Nat):Zv bs o<2^64:=pZ6 (by simp;omega)
theorem sZf (l:List UInt64)(i:Nat):(form l).drop (8*i)=form (l.drop i):=by
 induction i generalizing l with
 |zero=>simp
 |succ i ih=>
  cases l with
  |nil=>simp[form]
  |cons w l=>
   rw[List.drop_succ_cons,←ih];show List.drop (8*(i+1)) (dZy w++form l)=_
   rw[show 8*(i+1)=(dZy w).length+8*i by rw[eZi];omega,List.drop_append];simp
theorem fZm {l:List UInt64}{i:Nat}(h:i<l.length)(r:List UInt8):Zv (form l++r) (8*i)=l[i].toNat:=by
 unfold Zv;rw[List.drop_append_of_le_length (by rw[bZb];omega),sZf,List.drop_eq_getElem_cons h];show leN (((dZy l[i]++form (l.drop (i+1)))++r).take 8)=_
 rw[List.append_assoc,List.take_left' (eZi _),sZA]
end Go.Form
namespace Go.Proofs.YtlgnlghmbcpmhaaGreatDoor.FormP
open Go Go.Hw Go.Form W
theorem nZJ (K:VK)(A:OA)(n m:Nat)(bs:List UInt8)(hl:bs.length=8)(hn:8<=n)(H:Hp)(hb:Cells H A (Zn bs))(k:K (U (leN bs:Nat)) H):∀ j:Nat,j<=8->
  aZ4.l3 K (j+1) A n m ((leN (bs.drop j):Nat):Int) ((j:Int)-1) H
 |0,_=>by
  unfold aZ4.l3;refine Zg (by omega) ?_;exact k
 |j+1,hj=>by
  unfold aZ4.l3;refine Zm (by omega) ⟨by omega,?_⟩;rw[show(((j+1:Nat):Int)-1)=(j:Int) by omega];have hlt:j<bs.length:=by omega
  refine⟨by omega,by omega,?_⟩;obtain⟨a,rfl,hc⟩:=hb j (.int .u8 (bs[j].toNat:Int)) (by rw[hZS,List.getElem?_eq_getElem hlt];rfl);show Ld H _ _
  refine gZO (v:=.int .u8 (bs[j].toNat:Int)) (by rw[Int.toNat_natCast,Nat.mul_one];exact hc) ?_;simp only[HV];have h1:leN (bs.drop (j+1))<256^7:=by
   have h1:=oZP (bs.drop (j+1));have h2:256^(bs.drop (j+1)).length<=256^7:=Nat.pow_le_pow_right (by omega) (by simp;omega);omega
  have h2:bs[j].toNat<256:=bs[j].toNat_lt;have h3:leN (bs.drop (j+1))*2^8<2^64:=by
   rw[show(256:Nat)^7=2^56 by decide]at h1;omega
  rw[rZl (i:=(8:Int)) (n:=8) rfl,Nat.mod_eq_of_lt h3,bZ5,orN h3 (by omega),ZM];rw[← Nat.shiftLeft_eq,←Nat.shiftLeft_add_eq_or_of_lt (by omega:bs[j].toNat<2^8),Nat.shiftLeft_eq];have e:=tZ8 hlt;rw[show leN (bs.drop (j+1))*2^8+bs[j].toNat=leN (bs.drop j) by rw[e];omega];exact nZJ K _ n m bs hl hn H hb k j (by omega)
theorem wZy (A:OA)(n m:Nat)(bs:List UInt8)(hl:bs.length=8)(hn:8<=n)(H:Hp)(hb:Cells H A (Zn bs)):Za Tryz.prog 262 #[.slice A n m] H (RetE (U (leN bs:Nat)) H):=by
 apply aZ4.ok;refine⟨9,?_⟩;have:=nZJ (RetE (U (leN bs:Nat)) H) A n m bs hl hn H hb (RetE.mk _ _) 8 (Nat.le_refl _);rw[List.drop_eq_nil_of_le (by omega)]at this;exact this
theorem sZo (A:OA)(n m:Nat)(hn:n<=9000000000000000000)(i:Int)(H:Hp):Za Tryz.prog 261 #[.slice A n m,I i] H (RetE (.bool (decide (0<=i/\i<(n/8:Nat)))) H):=by
 apply eZ7.ok;unfold eZ7;rw[cZ9];split
 ·refine⟨by omega,rfl,RetE.of ?_⟩;rw[show Int.tdiv ((n:Nat):Int) 8=((n/8:Nat):Int)from rfl,bZc];congr 1;simp only[decide_eq_decide];omega
 ·refine RetE.of ?_;congr 1;exact(decide_eq_false (by omega)).symm
theorem Word_ok (A:OA)(n m:Nat)(hnm:n<=m)(hm:n<=9000000000000000000)(bs:List UInt8)(hl:n=bs.length)(i:Nat)(hi:8*i+8<=n)(H:Hp)(hb:Cells H A (Zn bs)):
  Za Tryz.prog 192 #[.slice A n m,I i] H (RetE (.tuple #[U (Zv bs (8*i):Nat),I 0]) H):=by
 apply fZ6.ok;unfold fZ6;refine Za.use (sZo A n m (by omega) i H) ?_
 try simp only[HV]
 refine aZe (by simp;omega) ?_;rw[ZM (x:=8*(i:Int))];refine⟨by omega,by omega,?_⟩;rw[show(8*(i:Int)).toNat=8*i by omega];have h1:=(hb.shift (m:=m) (l:=8*i) (by rw[ZO];omega)).take 8;rw[show((Zn bs).drop (8*i)).take 8=Zn ((bs.drop (8*i)).take 8) by unfold Zn;rw[List.map_take,List.map_drop]]at h1;refine Za.use (wZy _ (n-8*i) (m-8*i) ((bs.drop (8*i)).take 8) (by simp;omega) (by omega) H h1) ?_
 try simp only[HV]
 exact RetE.mk _ _
end Go.Proofs.YtlgnlghmbcpmhaaGreatDoor.FormP
namespace Go.Hw
open Go
def lZU :Lf->Lit->Bool
 | .int k,.int k' n=>decide (k'=k)&&(Lit.int k n).wf
 | .bool,.bool _=>true
 | .str,.string l=>decide (l.length<=maxLen)
 |_,_=>false
def cZk :List Lf->List Lit->Bool
 | [],[]=>true
 |f::fs,l::ls=>lZU f l&&cZk fs ls
 |_,_=>false
def lZO (P:Program)(g:TypeId->Option (List Lf)):List Field->Nat->Option (List Lf)
 | [],_=>some []
 | f :: r, off => match f.name != "_" && Nat.beq f.offset off with
  |true=>match g f.type with
   |some l=>match Nat.beq l.length (P.cellsOf f.type)with
    |true=>match lZO P g r (off+l.length)with
     |some k=>some (l++k)
     |none=>none
    |false=>none
   |none=>none
  |false=>none
def flat (P:Program):Nat->TypeId->Option (List Lf)
 |0,_=>none
 |d+1,t=>match P.underlying t with
  |some .bool=>some [.bool]
  |some (.int q)=>some [.int q]
  |some .string=>some [.str]
  |some (.array n e)=>match flat P d e with
   |some l=>match Nat.beq l.length (P.cellsOf e)&&Nat.beq (n*l.length) (P.cellsOf t)with
    |true=>some (List.replicate n l).flatten
    |false=>none
   |none=>none
  |some (.struct fs)=>match lZO P (flat P d) fs.toList 0 with
   |some l=>match Nat.beq l.length (P.cellsOf t)with
    |true=>some l
    |false=>none
   |none=>none
  |_=>none
theorem dZS :∀{fs:List Lf} {ls:List Lit},cZk fs ls=true->ls.length=fs.length
 | [],[],_=>rfl
 |_::fs,_::ls,h=>by
  simp only[cZk,Bool.and_eq_true]at h;simp[dZS h.2]
 | [],_::_,h=>by cases h
 |_::_,[],h=>by cases h
theorem iZx :∀{a b:List Lf} {ls:List Lit},cZk (a++b) ls=true->∃ x y,ls=x++y/\cZk a x=true/\cZk b y=true
 | [],b,ls,h=>⟨[],ls,rfl,rfl,h⟩
 |f::a,b,[],h=>by cases h
 |f::a,b,l::ls,h=>by
  simp only[List.cons_append,cZk,Bool.and_eq_true]at h;obtain⟨x,y,rfl,h1,h2⟩:=iZx h.2;exact⟨l::x,y,rfl,by simp[cZk,h.1,h1],h2⟩
theorem jZG {f:Lf}{ls:List Lit}(h:cZk [f] ls=true):∃ x,ls=[x]:=by
 have:=dZS h
 match ls,this with
 | [x],_=>exact⟨x,rfl⟩
theorem gZr {P:Program}:∀(d:Nat) (t:TypeId) (ks:List Lf) (ls:List Lit),flat P d t=some ks->cZk ks ls=true->P.keyLits d t (ls.map Lit.value)=some ls
 |0,_,_,_,h,_=>by cases h
 |d+1,t,ks,ls,h,ho=>by
  unfold flat at h;unfold Program.keyLits;split at h
  ·rename_i hu
   cases h;obtain⟨x,rfl⟩:=jZG ho;cases x<;>simp only[cZk,lZU,Bool.and_true,Bool.false_eq_true,Bool.false_and]at ho;simp[hu,Lit.value]
  ·rename_i q hu
   cases h;obtain⟨x,rfl⟩:=jZG ho;cases x<;>simp only[cZk,lZU,Bool.and_eq_true,decide_eq_true_eq,Bool.and_true,Bool.false_eq_true,Bool.false_and]at ho;obtain⟨rfl,hw⟩:=ho;simp[hu,Lit.value,hw]
  ·rename_i hu
   cases h;obtain⟨x,rfl⟩:=jZG ho;cases x<;>simp only[cZk,lZU,decide_eq_true_eq,Bool.and_true,Bool.false_eq_true,Bool.false_and]at ho;simp[hu,Lit.value,ByteArray.size,ho]
  ·rename_i n e hu
   split at h
   ·rename_i l hl
    split at h
    ·rename_i hb
     cases h;simp only[Bool.and_eq_true]at hb;have h1:=Nat.eq_of_beq_eq_true hb.1;have h2:=Nat.eq_of_beq_eq_true hb.2;simp only[hu];have hlen:=dZS ho;rw[if_pos (by rw[List.length_map,hlen,List.length_flatten];simp[h2,←h1])];have key:∀(m i:Nat) (pre ls:List Lit),pre.length=i*l.length->cZk (List.replicate m l).flatten ls=true->
       ∃ out,(List.range' i m).mapM (fun i=>P.keyLits d e ((((pre++ls).map Lit.value).drop (i*P.cellsOf e)).take (P.cellsOf e)))=some out/\out.flatten=ls:=by
      intro m
      induction m with
      |zero=>
       intro i pre ls _ ho;have:ls=[]:=by have:=dZS ho;simpa using this
       subst this;exact⟨[],by simp,rfl⟩
      |succ m ih=>
       intro i pre ls hp ho;rw[List.replicate_succ,List.flatten_cons]at ho;obtain⟨x,y,rfl,hx,hy⟩:=iZx ho;have lx:=dZS hx;obtain⟨out,ho1,ho2⟩:=ih (i+1) (pre++x) y (by rw[List.length_append,hp,lx,Nat.succ_mul]) hy;refine⟨x::out,?_,by rw[List.flatten_cons,ho2]⟩;rw[List.range'_succ,List.mapM_cons];have e1:((((pre++(x++y)).map Lit.value).drop (i*P.cellsOf e)).take (P.cellsOf e))=x.map Lit.value:=by
        rw[← h1,←hp,List.map_append,List.drop_left' (by simp),List.map_append,List.take_left' (by simp[lx])]
       rw[e1,gZr d e l x hl hx];rw[List.append_assoc]at ho1;rw[ho1];rfl
     obtain⟨out,h3,h4⟩:=key n 0 [] ls (by simp) ho;rw[List.range_eq_range'];simp only[List.nil_append]at h3;rw[h3];simp[h4]
    ·cases h
   ·cases h
  ·rename_i fs hu
   split at h
   ·rename_i l hl
    split at h
    ·rename_i hb
     cases h;have h1:=Nat.eq_of_beq_eq_true hb;have hlen:=dZS ho;have key:∀(fl:List Field) (off:Nat) (k:List Lf) (pre ls:List Lit),lZO P (flat P d) fl off=some k->pre.length=off->cZk k ls=true->
       (fl.all (·.name != "_") = true) ∧ ∃ out, fl.mapM (fun f => P.keyLits d f.type ((((pre ++ ls).map Lit.value).drop f.offset).take (P.cellsOf f.type))) = some out ∧ out.flatten = ls := by
      intro fl
      induction fl with
      |nil=>
       intro off k pre ls hk _ ho;cases hk;have:ls=[]:=by have:=dZS ho;simpa using this
       subst this;exact⟨rfl,[],by simp,rfl⟩
      |cons f fl ih=>
       intro off k pre ls hk hp ho;unfold lZO at hk;split at hk
       ·rename_i hn
        simp only[Bool.and_eq_true]at hn;have hoff:=Nat.eq_of_beq_eq_true hn.2;split at hk
        ·rename_i kl hkl
         split at hk
         ·rename_i hb2
          have h2:=Nat.eq_of_beq_eq_true hb2;split at hk
          ·rename_i kr hkr
           cases hk;obtain⟨x,y,rfl,hx,hy⟩:=iZx ho;have lx:=dZS hx;obtain⟨hn2,out,ho1,ho2⟩:=ih (off+kl.length) kr (pre++x) y hkr (by rw[List.length_append,hp,lx]) hy;refine⟨by rw[List.all_cons,hn.1,hn2];rfl,x::out,?_,by rw[List.flatten_cons,ho2]⟩;rw[List.mapM_cons];have e1:((((pre++(x++y)).map Lit.value).drop f.offset).take (P.cellsOf f.type))=x.map Lit.value:=by
            rw[hoff,←h2,←hp,List.map_append,List.drop_left' (by simp),List.map_append,List.take_left' (by simp[lx])]
           rw[e1,gZr d f.type kl x hkl hx];rw[List.append_assoc]at ho1;rw[ho1];rfl
          ·cases hk
         ·cases hk
        ·cases hk
       ·cases hk
     obtain⟨hn,out,h3,h4⟩:=key fs.toList 0 ks [] ls hl rfl ho;simp only[hu];rw[if_pos ⟨by rw[List.length_map,hlen,h1],by rw[← Array.all_toList];exact hn⟩];simp only[List.nil_append]at h3;rw[h3];simp[h4]
    ·cases h
   ·cases h
  ·cases h
theorem tZ3 {P:Program}{d:Nat}{t:TypeId}{ks:List Lf}(ha:iZ6 P t=true)(h:flat P d t=some ks):ks.length=P.cellsOf t:=by
 cases d with
 |zero=>cases h
 |succ d=>
  unfold flat at h;unfold iZ6 at ha;split at h
  ·rename_i hu;rw[hu]at ha;cases ha
  ·rename_i hu;rw[hu]at ha;cases ha
  ·rename_i hu;rw[hu]at ha;cases ha
  ·split at h
   ·rename_i l hl
    split at h
    ·rename_i hb
     cases h;simp only[Bool.and_eq_true]at hb;rw[← Nat.eq_of_beq_eq_true hb.2];simp[List.length_flatten]
    ·cases h
   ·cases h
  ·split at h
   ·split at h
    ·rename_i hb;cases h;exact Nat.eq_of_beq_eq_true hb
    ·cases h
   ·cases h
  ·cases h
theorem lZI {P:Program}{d m:Nat}{t:TypeId}{ks:List Lf}(ha:iZ6 P t=true)(hf:flat P d t=some ks)(hk:P.keyTypeAt m t=true)(hm:m<=10000){lx ly:List Lit}(ox:cZk ks lx=true)(oy:cZk ks ly=true){c:Bool}(hc:c=true↔lx=ly)(w:World):
  (Op.equal t (.agg (lx.map Lit.value).toArray) (.agg (ly.map Lit.value).toArray)).run P w= .ok c w:=by
 have hform:∀ l:List Lit,cZk ks l=true->(Value.agg (l.map Lit.value).toArray).formed P t=true:=fun l hl=>by
  have:=dZS hl;have h2:=tZ3 ha hf;unfold Value.formed;unfold iZ6 at ha;split at ha
  ·rename_i hu;rw[hu];simp[this,h2]
  ·rename_i hu;rw[hu];simp[this,h2]
  ·cases ha
 obtain⟨r,hr,hiff⟩:=run_equalIn_deep (P:=P) (10000-m) m t hk w d d _ _ lx ly (hform lx ox) (hform ly oy) (by simpa [Value.cells]using gZr d t ks lx hf ox) (by simpa [Value.cells]using gZr d t ks ly hf oy);rw[show 10000-m+m=10000 by omega]at hr;have:r=c:=by
  cases r<;>cases c<;>simp_all
 rw[← this];exact hr
theorem yZe {n:Int}(h0: -9223372036854775808<=n)(h1:n<=9223372036854775807):(Lit.int .i64 n).wf=true:=by
 simp only[Lit.wf,Bool.and_eq_true,decide_eq_true_eq];exact⟨h0,h1⟩
theorem wfI {n:Int}(h: -9223372036854775808<=n/\n<=9223372036854775807):(Lit.int .i64 n).wf=true:=yZe h.1 h.2
theorem oZ0 :∀(n:Nat) (l:List Int),l.length=n->(∀ x∈l,-9223372036854775808<=x/\x<=9223372036854775807)->cZk (List.replicate n (.int .i64)) (l.map (Lit.int .i64))=true
 |0,[],_,_=>rfl
 |n+1,x::l,h,hr=>by
  have h1:=wfI (hr x (by simp));have h2:=oZ0 n l (by simpa using h) (fun y hy=>hr y (by simp[hy]));rw[List.replicate_succ,List.map_cons];simp only[cZk,lZU,decide_true,Bool.true_and,Bool.and_eq_true];exact⟨h1,h2⟩
section
variable {P : Program} {d m : Nat} {t : TypeId} {ks : List Lf} (ha : iZ6 P t = true) (hf : flat P d t = some ks) (hk : P.keyTypeAt m t = true) (hm : m <= 10000) (hg : P.eqGuardType P.depth t = false)
include ha hf hk hm hg
theorem vZn {lx ly:List Lit}(ox:cZk ks lx=true)(oy:cZk ks ly=true){cx cy:Array Value}(ex:cx=(lx.map Lit.value).toArray)(ey:cy=(ly.map Lit.value).toArray){K:Bool->Prop}(c:Bool)(hc:c=true↔lx=ly)(k:K c):EqV P .eql t (.agg cx) (.agg cy) K:=by
 subst ex;subst ey;refine⟨_,k,fun xo yo w=>?_⟩;have h:=lZI ha hf hk hm ox oy hc w;simp[eqGuard,binOp,h,hg]
theorem vZo {lx ly:List Lit}(ox:cZk ks lx=true)(oy:cZk ks ly=true){cx cy:Array Value}(ex:cx=(lx.map Lit.value).toArray)(ey:cy=(ly.map Lit.value).toArray){K:Bool->Prop}(c:Bool)(hc:c=true↔lx=ly)(k:K (!c)):EqV P .neq t (.agg cx) (.agg cy) K:=by
 subst ex;subst ey;refine⟨_,k,fun xo yo w=>?_⟩;have h:=lZI ha hf hk hm ox oy hc w;simp[eqGuard,binOp,h,hg]
end
def iZM (P:Program)(t:TypeId)(n:Nat):Prop:=iZ6 P t=true/\flat P 9 t=some (List.replicate n (.int .i64))/\P.keyTypeAt 9 t=true/\P.eqGuardType P.depth t=false
theorem nZ5 (l:List Int):(l.map (Lit.int .i64)).map Lit.value=l.map (Value.int .i64):=by rw[List.map_map];rfl
theorem uZ3 {a b:List Int}:a.map (Lit.int .i64)=b.map (Lit.int .i64)↔a=b:=by
 constructor
 ·intro h;have:∀{a b:List Int},a.map (Lit.int .i64)=b.map (Lit.int .i64)->a=b:=by
   intro a
   induction a with
   |nil=>intro b h;cases b with
    |nil=>rfl
    |cons _ _=>simp at h
   |cons x a ih=>intro b h;cases b with
    |nil=>simp at h
    |cons y b=>simp at h;rw[h.1,ih (by simpa using h.2)]
  exact this h
 ·intro h;rw[h]
theorem vZm {P:Program}{t:TypeId}{n:Nat}(hp:iZM P t n){a b:List Int}(la:a.length=n)(lb:b.length=n)(ra:∀ x∈a,-9223372036854775808<=x/\x<=9223372036854775807)(rb:∀ x∈b,-9223372036854775808<=x/\x<=9223372036854775807)
  {cx cy:Array Value} (ex:cx=(a.map (Value.int .i64)).toArray) (ey:cy=(b.map (Value.int .i64)).toArray) {K:Bool->Prop} (k:K (decide (a=b))):EqV P .eql t (.agg cx) (.agg cy) K:=
 vZn hp.1 hp.2.1 hp.2.2.1 (by omega) hp.2.2.2 (oZ0 n a la ra) (oZ0 n b lb rb) (by rw[nZ5];exact ex) (by rw[nZ5];exact ey) _ (by rw[uZ3];simp) k
theorem mZm {P:Program}{t:TypeId}{n:Nat}(hp:iZM P t n){a b:List Int}(la:a.length=n)(lb:b.length=n)(ra:∀ x∈a,-9223372036854775808<=x/\x<=9223372036854775807)(rb:∀ x∈b,-9223372036854775808<=x/\x<=9223372036854775807)
  {cx cy:Array Value} (ex:cx=(a.map (Value.int .i64)).toArray) (ey:cy=(b.map (Value.int .i64)).toArray) {K:Bool->Prop} (k:K (!decide (a=b))):EqV P .neq t (.agg cx) (.agg cy) K:=
 vZo hp.1 hp.2.1 hp.2.2.1 (by omega) hp.2.2.2 (oZ0 n a la ra) (oZ0 n b lb rb) (by rw[nZ5];exact ex) (by rw[nZ5];exact ey) _ (by rw[uZ3];simp) k
end Go.Hw
namespace Go.Proofs.YtlgnlghmbcpmhaaGreatDoor.W
open Go Go.Hw
theorem aZ9 :Tryz.prog.follows .mixedOrders=true:=by kernel_rfl
def eZb (p1:OA)(H:Hp)(K:VK):Prop:=
 Nw H (Is #[.pointer p1] 270) fun b1 H1=>Nw H1 (Is #[Ii 0,I 0] 329) fun b2 H2=>LeP H2 (O b1) fun p2=>HcI 233 #[.pointer p2,.func (.func 234) #[] #[V b1,V b2]] H2 fun x1 H3=>BIf (x1 !=0) (K (.tuple #[Ii 0,I x1]) H3) (HcU 238 #[V b2] H3 fun x2 H4=>K (.tuple #[Ii x2,I 0]) H4)
theorem eZb.ok p1 H K (h:eZb p1 H K):Za Tryz.prog 166 #[.pointer p1] H K:=
 okN aZ9 Tryz.func166 rfl rfl h
def Zx.j15 (K:VK)(R9:OA->OA->Nat->Nat->OA->OA->Nat->Nat->Int->Int->OA->OA->Nat->Nat->Hp->Prop)(p12 A8:OA)(n8 m8:Nat)(p13:OA)(a7:Addr)(A9:OA)(n9 m9:Nat)(x14 x15:Int)(p14 A10:OA)(n10 m10:Nat)(H:Hp):=
 QcS 237 #[.pointer p13] H fun A11 n11 m11=>LeI H (a7.add 1) fun x16=>slB n11 m11 (some x16) none fun n12 n13=>LeI H (a7.add 2) fun x17=>slB n8 m8 none (some x17) fun n14 n15=>CpK Tryz.prog 108 (.slice (slA A11 m11 n12 1) (n13-n12) (m11-n12)) (.slice (slA A8 m8 n14 1) (n15-n14) (m8-n14)) H fun v22 H10=>DI .i64 v22 fun x18=>NN p12 fun a8=>LeI H10 (a7.add 0) fun x19=>HcI 258 #[.pointer (some (a8.add 0)),I x19,.pointer p13] H10 fun x20 H11=>BIf (x20 !=0) (aZZ Tryz.prog 257 #[.pointer p14,.slice A10 n10 m10] H11 fun _ H13=>K (I x20) H13) (LeI H11 (a7.add 2) fun x21=>slB n8 m8 (some x21) none fun n16 n17=>R9 p12 (slA A8 m8 n16 1) (n17-n16) (m8-n16) p13 A9 n9 m9 x14 (i64.wrap (x15+1)) p14 A10 n10 m10 H11)
def Zx.l9 (K:VK):Nat->OA->OA->Nat->Nat->OA->OA->Nat->Nat->Int->Int->OA->OA->Nat->Nat->Hp->Prop
 |0,_,_,_,_,_,_,_,_,_,_,_,_,_,_,_=>False
 |k+1,p9,A5,n5,m5,p10,A6,n6,m6,x8,x9,p11,A7,n7,m7,H=>
  let R9:=Zx.l9 K k
  BIf (decide (x9<x8)) (ixI x9 n6 (NN A6 fun a4=>LdA H (a4.add (x9.toNat*3)) 3 fun l10=>Nw H (Is #[I 0,I 0,I 0] 360) fun b2 H7=>StA H7 (O b2) l10.toArray 3 fun H8=>LeI H8 ((O b2).add 2) fun x10=>NN p9 fun a5=>QcI 256 #[.pointer (some (a5.add 0))] H8 fun x11=>BIf (decide (x10<x11)) (NN p9 fun a6=>LeI H8 ((O b2).add 0) fun x12=>HcI 235 #[.pointer (some (a6.add 0)),I x12,.pointer p10] H8 fun x13 H9=>BIf (x13 !=0) (aZZ Tryz.prog 257 #[.pointer p11,.slice A7 n7 m7] H9 fun _ H12=>K (I x13) H12) (Zx.j15 K R9 p9 A5 n5 m5 p10 (O b2) A6 n6 m6 x8 x9 p11 A7 n7 m7 H9)) (Zx.j15 K R9 p9 A5 n5 m5 p10 (O b2) A6 n6 m6 x8 x9 p11 A7 n7 m7 H8))) (aZZ Tryz.prog 257 #[.pointer p11,.slice A7 n7 m7] H fun _ H14=>K (I 0) H14)
def Zx.j5 (K:VK)(p6 A3:OA)(n3 m3:Nat)(A4:OA)(n4 m4:Nat)(x7:Int)(p7:OA)(H:Hp):=
 BIf (x7 !=0) (K (I x7) H) (NN p6 fun a3=>LeP H ((a3.add 0).add 1) fun p8=>Nw H (.row [.pointer p7] 331 1) fun b1 H6=>(∃ k,Zx.l9 K k p6 A3 n3 m3 p7 A4 n4 m4 (n4:Int) 0 p8 (Io b1) 1 1 H6))
def Zx (p1:OA)(x1:Int)(A1:OA)(n1 m1:Nat)(H:Hp)(K:VK):Prop:=
 Hz 254 #[.pointer p1,I x1,I (n1:Int)] H fun v1 H1=>eZe v1 fun A2 n2 m2 x2=>(BIf (x2 !=0) (K (I x2) H1) (BIf ((n1:Int)==0) (K (I x2) H1) (NN p1 fun a1=>NN p1 fun a2=>(LeP H1 ((a1.add 0).add 1) fun p2=>HcI 256 #[.pointer (some (a2.add 0))] H1 fun x3 H2=>Hz 255 #[.pointer p2,I x3] H2 fun v6 H3=>eZd v6 fun p3 x4=>(Zx.j5 K p1 A1 n1 m1 A2 n2 m2 x4 p3 H3))/\(HcI 256 #[.pointer (some (a2.add 0))] H1 fun x5 H4=>LeP H4 ((a1.add 0).add 1) fun p4=>Hz 255 #[.pointer p4,I x5] H4 fun v11 H5=>eZd v11 fun p5 x6=>(Zx.j5 K p1 A1 n1 m1 A2 n2 m2 x6 p5 H5)))))
def Zx.l9.L (K:VK)(k:Nat):Mid:=fun E D H=>
 eP E 0 fun p9=>DG (E.get? 2) fun w2=>DSl w2 fun A5 n5 m5=>eP E 9 fun p10=>DG (E.get? 53) fun w53=>DSl w53 fun A6 n6 m6=>eI E 54 .i64 fun x8=>eI E 55 .i64 fun x9=>cZE 257 D fun dc0 da0 D1=>ZV dc0 (Zl da0 fun u0da0 r0da0=>DP u0da0 fun p11=>Zl r0da0 fun u1da0 r1da0=>DSl u1da0 fun A7 n7 m7=>ZV r1da0 (Zj D1 (Zx.l9 K k p9 A5 n5 m5 p10 A6 n6 m6 x8 x9 p11 A7 n7 m7 H)))
def Zx.Λ9 (K:VK)(R9:OA→OA→Nat→Nat→OA→OA→Nat→Nat→Int→Int→OA→OA→Nat→Nat→Hp→Prop):Zs:=⟨fun i=>match Nat.beq i 15 with|true=>some (fun E D H=>eP E 0 fun p12=>DG (E.get? 2) fun w2=>DSl w2 fun A8 n8 m8=>eP E 9 fun p13=>eN E 11 fun a7=>DG (E.get? 53) fun w53=>DSl w53 fun A9 n9 m9=>eI E 54 .i64 fun x14=>eI E 55 .i64 fun x15=>cZE 257 D fun dc0 da0 D1=>ZV dc0 (Zl da0 fun u0da0 r0da0=>DP u0da0 fun p14=>Zl r0da0 fun u1da0 r1da0=>DSl u1da0 fun A10 n10 m10=>ZV r1da0 (Zj D1 (Zx.j15 K R9 p12 A8 n8 m8 p13 a7 A9 n9 m9 x14 x15 p14 A10 n10 m10 H))))|false=>none,fun i=>none,(fun i=>match Nat.beq i 16 with|true=>some ([],[0,1,2,3,4,5],6)|false=>match Nat.beq i 15 with|true=>some ([],[0,1,2,3,4,5,6,7,8],9)|false=>match Nat.beq i 12 with|true=>some ([],[0,1,2,3,4,5],6)|false=>match Nat.beq i 4 with|true=>some ([],[0,1,3,7,15,0,32,96,224,511,1023,2047,2047,4095,16383],0)|false=>none)⟩
def Zx.Λ (K:VK):Zs:=⟨fun i=>match Nat.beq i 5 with|true=>some (fun E D H=>eP E 0 fun p6=>DG (E.get? 2) fun w2=>DSl w2 fun A3 n3 m3=>DG (E.get? 7) fun w7=>DSl w7 fun A4 n4 m4=>eI E 8 .i64 fun x7=>eP E 9 fun p7=>Zj D (Zx.j5 K p6 A3 n3 m3 A4 n4 m4 x7 p7 H))|false=>none,fun i=>match Nat.beq i 9 with|true=>some (fun E D H=>∃ k,Zx.l9.L K k E D H)|false=>none,(fun i=>match Nat.beq i 16 with|true=>some ([],[0,1,2,3,4,5],6)|false=>match Nat.beq i 15 with|true=>some ([],[0,1,2,3,4,5,6,7,8],9)|false=>match Nat.beq i 12 with|true=>some ([],[0,1,2,3,4,5],6)|false=>match Nat.beq i 4 with|true=>some ([],[0,1,3,7,15,0,32,96,224,511,1023,2047,2047,4095,16383],0)|false=>none)⟩
theorem Zx.ok p1 x1 A1 n1 m1 H K (h:Zx p1 x1 A1 n1 m1 H K):Za Tryz.prog 185 #[.pointer p1,I x1,.slice A1 n1 m1] H K:=
 okL (Λ:=(Zx.Λ K)) aZ9 Tryz.func185 rfl rfl h (oC (fun E D H h=>by
   obtain⟨p6,e0,g2⟩:=GP h;obtain⟨w2,e2,g3⟩:=DG.out g2;obtain⟨A3,n3,m3,rfl,g4⟩:=DSl.out g3;obtain⟨w7,e7,g5⟩:=DG.out g4;obtain⟨A4,n4,m4,rfl,g6⟩:=DSl.out g5;obtain⟨x7,e8,g8⟩:=GI g6;obtain⟨p7,e9,g10⟩:=GP g8;obtain⟨rfl,h'⟩:=Zj.out g10;exact okJ (Λ:=(Zx.Λ K)) aZ9 [] (Zc.cons e0 (Zc.cons e2 (Zc.cons e7 (Zc.cons e8 (Zc.cons e9 (Zc.nil _)))))) h' (oC (fun E D H h=>by
     refine Safe.loop' (Zx.l9.L K) (fun E D H h=>?_) (fun k E D H h=>?_) E D H h
     ·obtain⟨w0,e0,g1⟩:=DG.out h;obtain⟨p9,rfl,g2⟩:=DP.out g1;obtain⟨w2,e2,g3⟩:=DG.out g2;obtain⟨A5,n5,m5,rfl,g4⟩:=DSl.out g3;obtain⟨w9,e9,g5⟩:=DG.out g4;obtain⟨p10,rfl,g6⟩:=DP.out g5;obtain⟨w53,e53,g7⟩:=DG.out g6;obtain⟨A6,n6,m6,rfl,g8⟩:=DSl.out g7;obtain⟨w54,e54,g9⟩:=DG.out g8;obtain⟨x8,rfl,g10⟩:=DI.out g9;obtain⟨w55,e55,g11⟩:=DG.out g10;obtain⟨x9,rfl,g12⟩:=DI.out g11;obtain⟨dc0,da0,D1,rfl,g13⟩:=cZE.out g12;obtain⟨rfl,g14⟩:=ZV.out g13;obtain⟨u0da0,r0da0,rfl,g15⟩:=Zl.out g14;obtain⟨p11,rfl,g16⟩:=DP.out g15;obtain⟨u1da0,r1da0,rfl,g17⟩:=Zl.out g16;obtain⟨A7,n7,m7,rfl,g18⟩:=DSl.out g17;obtain⟨rfl,g19⟩:=ZV.out g18;obtain⟨rfl,h'⟩:=Zj.out g19;exact h'
     ·obtain⟨p9,e0,g2⟩:=GP h;obtain⟨w2,e2,g3⟩:=DG.out g2;obtain⟨A5,n5,m5,rfl,g4⟩:=DSl.out g3;obtain⟨p10,e9,g6⟩:=GP g4;obtain⟨w53,e53,g7⟩:=DG.out g6;obtain⟨A6,n6,m6,rfl,g8⟩:=DSl.out g7;obtain⟨x8,e54,g10⟩:=GI g8;obtain⟨x9,e55,g12⟩:=GI g10;obtain⟨dc0,da0,D1,rfl,g13⟩:=cZE.out g12;obtain⟨rfl,g14⟩:=ZV.out g13;obtain⟨u0da0,r0da0,rfl,g15⟩:=Zl.out g14;obtain⟨p11,rfl,g16⟩:=DP.out g15;obtain⟨u1da0,r1da0,rfl,g17⟩:=Zl.out g16;obtain⟨A7,n7,m7,rfl,g18⟩:=DSl.out g17;obtain⟨rfl,g19⟩:=ZV.out g18;obtain⟨rfl,h'⟩:=Zj.out g19;exact okJ (Λ:=(Zx.Λ9 K (Zx.l9 K k))) aZ9 [{ target:=.fn (.func 257) #[],args:=#[.pointer p11,.slice A7 n7 m7]}] (Zc.cons e0 (Zc.cons e2 (Zc.cons e9 (Zc.cons e53 (Zc.cons e54 (Zc.cons e55 (Zc.nil _))))))) h' (oC (fun E D H h=>by
        obtain⟨p12,e0,g2⟩:=GP h;obtain⟨w2,e2,g3⟩:=DG.out g2;obtain⟨A8,n8,m8,rfl,g4⟩:=DSl.out g3;obtain⟨p13,e9,g6⟩:=GP g4;obtain⟨a7,e11,g9⟩:=GN g6;obtain⟨w53,e53,g10⟩:=DG.out g9;obtain⟨A9,n9,m9,rfl,g11⟩:=DSl.out g10;obtain⟨x14,e54,g13⟩:=GI g11;obtain⟨x15,e55,g15⟩:=GI g13;obtain⟨dc0,da0,D1,rfl,g16⟩:=cZE.out g15;obtain⟨rfl,g17⟩:=ZV.out g16;obtain⟨u0da0,r0da0,rfl,g18⟩:=Zl.out g17;obtain⟨p14,rfl,g19⟩:=DP.out g18;obtain⟨u1da0,r1da0,rfl,g20⟩:=Zl.out g19;obtain⟨A10,n10,m10,rfl,g21⟩:=DSl.out g20;obtain⟨rfl,g22⟩:=ZV.out g21;obtain⟨rfl,h'⟩:=Zj.out g22;exact okJ (Λ:=(Zx.Λ9 K (Zx.l9 K k))) aZ9 [{ target:=.fn (.func 257) #[],args:=#[.pointer p14,.slice A10 n10 m10]}] (Zc.cons e0 (Zc.cons e2 (Zc.cons e9 (Zc.cons e11 (Zc.cons e53 (Zc.cons e54 (Zc.cons e55 (Zc.nil _)))))))) h' oN) oN)) oN)) oN)
def dZx (p1:OA)(H:Hp)(K:VK):Prop:=
 NN p1 fun a1=>LeI H ((a1.add 2).add 2) fun x1=>K (I x1) H
theorem dZx.ok p1 H K (h:dZx p1 H K):Za Tryz.prog 186 #[.pointer p1] H K:=
 okN aZ9 Tryz.func186 rfl rfl h
def ZQ.l9 (K:VK):Nat->OA->OA->Nat->Nat->OA->OA->Nat->Nat->Int->Int->OA->OA->Nat->Nat->Hp->Prop
 |0,_,_,_,_,_,_,_,_,_,_,_,_,_,_,_=>False
 |k+1,p9,A5,n5,m5,p10,A6,n6,m6,x8,x9,p11,A7,n7,m7,H=>
  let R9:=ZQ.l9 K k
  BIf (decide (x9<x8)) (ixI x9 n6 (NN A6 fun a4=>LdA H (a4.add (x9.toNat*3)) 3 fun l10=>Nw H (Is #[I 0,I 0,I 0] 360) fun b2 H7=>StA H7 (O b2) l10.toArray 3 fun H8=>NN p9 fun a5=>LeI H8 ((O b2).add 0) fun x10=>HcI 235 #[.pointer (some (a5.add 0)),I x10,.pointer p10] H8 fun x11 H9=>BIf (x11 !=0) (aZZ Tryz.prog 257 #[.pointer p11,.slice A7 n7 m7] H9 fun _ H11=>K (I x11) H11) (LeI H9 ((O b2).add 2) fun x12=>slB n5 m5 none (some x12) fun n8 n9=>QcS 237 #[.pointer p10] H9 fun A8 n10 m8=>LeI H9 ((O b2).add 1) fun x13=>slB n10 m8 (some x13) none fun n11 n12=>CpK Tryz.prog 108 (.slice (slA A5 m5 n8 1) (n9-n8) (m5-n8)) (.slice (slA A8 m8 n11 1) (n12-n11) (m8-n11)) H9 fun v20 H10=>DI .i64 v20 fun x14=>LeI H10 ((O b2).add 2) fun x15=>slB n5 m5 (some x15) none fun n13 n14=>R9 p9 (slA A5 m5 n13 1) (n14-n13) (m5-n13) p10 A6 n6 m6 x8 (i64.wrap (x9+1)) p11 A7 n7 m7 H10))) (aZZ Tryz.prog 257 #[.pointer p11,.slice A7 n7 m7] H fun _ H12=>K (I 0) H12)
def ZQ.j5 (K:VK)(p6 A3:OA)(n3 m3:Nat)(A4:OA)(n4 m4:Nat)(x7:Int)(p7:OA)(H:Hp):=
 BIf (x7 !=0) (K (I x7) H) (NN p6 fun a3=>LeP H ((a3.add 0).add 1) fun p8=>Nw H (.row [.pointer p7] 331 1) fun b1 H6=>(∃ k,ZQ.l9 K k p6 A3 n3 m3 p7 A4 n4 m4 (n4:Int) 0 p8 (Io b1) 1 1 H6))
def ZQ (p1:OA)(x1:Int)(A1:OA)(n1 m1:Nat)(H:Hp)(K:VK):Prop:=
 Hz 254 #[.pointer p1,I x1,I (n1:Int)] H fun v1 H1=>eZe v1 fun A2 n2 m2 x2=>(BIf (x2 !=0) (K (I x2) H1) (BIf ((n1:Int)==0) (K (I x2) H1) (NN p1 fun a1=>NN p1 fun a2=>(LeP H1 ((a1.add 0).add 1) fun p2=>HcI 256 #[.pointer (some (a2.add 0))] H1 fun x3 H2=>Hz 255 #[.pointer p2,I x3] H2 fun v6 H3=>eZd v6 fun p3 x4=>(ZQ.j5 K p1 A1 n1 m1 A2 n2 m2 x4 p3 H3))/\(HcI 256 #[.pointer (some (a2.add 0))] H1 fun x5 H4=>LeP H4 ((a1.add 0).add 1) fun p4=>Hz 255 #[.pointer p4,I x5] H4 fun v11 H5=>eZd v11 fun p5 x6=>(ZQ.j5 K p1 A1 n1 m1 A2 n2 m2 x6 p5 H5)))))
def ZQ.l9.L (K:VK)(k:Nat):Mid:=fun E D H=>
 eP E 0 fun p9=>DG (E.get? 2) fun w2=>DSl w2 fun A5 n5 m5=>eP E 9 fun p10=>DG (E.get? 52) fun w52=>DSl w52 fun A6 n6 m6=>eI E 53 .i64 fun x8=>eI E 54 .i64 fun x9=>cZE 257 D fun dc0 da0 D1=>ZV dc0 (Zl da0 fun u0da0 r0da0=>DP u0da0 fun p11=>Zl r0da0 fun u1da0 r1da0=>DSl u1da0 fun A7 n7 m7=>ZV r1da0 (Zj D1 (ZQ.l9 K k p9 A5 n5 m5 p10 A6 n6 m6 x8 x9 p11 A7 n7 m7 H)))
def ZQ.Λ9 (_:VK)(_R9:OA→OA→Nat→Nat→OA→OA→Nat→Nat→Int→Int→OA→OA→Nat→Nat→Hp→Prop):Zs:=Zs.none (fun i=>match Nat.beq i 14 with|true=>some ([],[0,1,2,3,4,5,6,7,8],9)|false=>match Nat.beq i 11 with|true=>some ([],[0,1,2,3,4,5],6)|false=>match Nat.beq i 4 with|true=>some ([],[0,1,3,7,15,0,32,96,224,511,1023,2047,2047,4095,16383],0)|false=>none)
def ZQ.Λ (K:VK):Zs:=⟨fun i=>match Nat.beq i 5 with|true=>some (fun E D H=>eP E 0 fun p6=>DG (E.get? 2) fun w2=>DSl w2 fun A3 n3 m3=>DG (E.get? 7) fun w7=>DSl w7 fun A4 n4 m4=>eI E 8 .i64 fun x7=>eP E 9 fun p7=>Zj D (ZQ.j5 K p6 A3 n3 m3 A4 n4 m4 x7 p7 H))|false=>none,fun i=>match Nat.beq i 9 with|true=>some (fun E D H=>∃ k,ZQ.l9.L K k E D H)|false=>none,(fun i=>match Nat.beq i 14 with|true=>some ([],[0,1,2,3,4,5,6,7,8],9)|false=>match Nat.beq i 11 with|true=>some ([],[0,1,2,3,4,5],6)|false=>match Nat.beq i 4 with|true=>some ([],[0,1,3,7,15,0,32,96,224,511,1023,2047,2047,4095,16383],0)|false=>none)⟩
theorem ZQ.ok p1 x1 A1 n1 m1 H K (h:ZQ p1 x1 A1 n1 m1 H K):Za Tryz.prog 187 #[.pointer p1,I x1,.slice A1 n1 m1] H K:=
 okL (Λ:=(ZQ.Λ K)) aZ9 Tryz.func187 rfl rfl h (oC (fun E D H h=>by
   obtain⟨p6,e0,g2⟩:=GP h;obtain⟨w2,e2,g3⟩:=DG.out g2;obtain⟨A3,n3,m3,rfl,g4⟩:=DSl.out g3;obtain⟨w7,e7,g5⟩:=DG.out g4;obtain⟨A4,n4,m4,rfl,g6⟩:=DSl.out g5;obtain⟨x7,e8,g8⟩:=GI g6;obtain⟨p7,e9,g10⟩:=GP g8;obtain⟨rfl,h'⟩:=Zj.out g10;exact okJ (Λ:=(ZQ.Λ K)) aZ9 [] (Zc.cons e0 (Zc.cons e2 (Zc.cons e7 (Zc.cons e8 (Zc.cons e9 (Zc.nil _)))))) h' (oC (fun E D H h=>by
     refine Safe.loop' (ZQ.l9.L K) (fun E D H h=>?_) (fun k E D H h=>?_) E D H h
     ·obtain⟨w0,e0,g1⟩:=DG.out h;obtain⟨p9,rfl,g2⟩:=DP.out g1;obtain⟨w2,e2,g3⟩:=DG.out g2;obtain⟨A5,n5,m5,rfl,g4⟩:=DSl.out g3;obtain⟨w9,e9,g5⟩:=DG.out g4;obtain⟨p10,rfl,g6⟩:=DP.out g5;obtain⟨w52,e52,g7⟩:=DG.out g6;obtain⟨A6,n6,m6,rfl,g8⟩:=DSl.out g7;obtain⟨w53,e53,g9⟩:=DG.out g8;obtain⟨x8,rfl,g10⟩:=DI.out g9;obtain⟨w54,e54,g11⟩:=DG.out g10;obtain⟨x9,rfl,g12⟩:=DI.out g11;obtain⟨dc0,da0,D1,rfl,g13⟩:=cZE.out g12;obtain⟨rfl,g14⟩:=ZV.out g13;obtain⟨u0da0,r0da0,rfl,g15⟩:=Zl.out g14;obtain⟨p11,rfl,g16⟩:=DP.out g15;obtain⟨u1da0,r1da0,rfl,g17⟩:=Zl.out g16;obtain⟨A7,n7,m7,rfl,g18⟩:=DSl.out g17;obtain⟨rfl,g19⟩:=ZV.out g18;obtain⟨rfl,h'⟩:=Zj.out g19;exact h'
     ·obtain⟨p9,e0,g2⟩:=GP h;obtain⟨w2,e2,g3⟩:=DG.out g2;obtain⟨A5,n5,m5,rfl,g4⟩:=DSl.out g3;obtain⟨p10,e9,g6⟩:=GP g4;obtain⟨w52,e52,g7⟩:=DG.out g6;obtain⟨A6,n6,m6,rfl,g8⟩:=DSl.out g7;obtain⟨x8,e53,g10⟩:=GI g8;obtain⟨x9,e54,g12⟩:=GI g10;obtain⟨dc0,da0,D1,rfl,g13⟩:=cZE.out g12;obtain⟨rfl,g14⟩:=ZV.out g13;obtain⟨u0da0,r0da0,rfl,g15⟩:=Zl.out g14;obtain⟨p11,rfl,g16⟩:=DP.out g15;obtain⟨u1da0,r1da0,rfl,g17⟩:=Zl.out g16;obtain⟨A7,n7,m7,rfl,g18⟩:=DSl.out g17;obtain⟨rfl,g19⟩:=ZV.out g18;obtain⟨rfl,h'⟩:=Zj.out g19;exact okJ (Λ:=(ZQ.Λ9 K (ZQ.l9 K k))) aZ9 [{ target:=.fn (.func 257) #[],args:=#[.pointer p11,.slice A7 n7 m7]}] (Zc.cons e0 (Zc.cons e2 (Zc.cons e9 (Zc.cons e52 (Zc.cons e53 (Zc.cons e54 (Zc.nil _))))))) h' oN) oN)) oN)
def gZk (p1 p2:OA)(x1 x2 x3:Int)(H:Hp)(K:VK):Prop:=
 Nw H (Is #[I x1,I x2,I x3] 150) fun b1 H1=>BIf p1.isNone (K (.tuple #[.pointer none,I 1]) H1) (BIf p2.isNone (K (.tuple #[.pointer none,I 1]) H1) (LdA H1 (O b1) 3 fun l1=>qZL l1.toArray.toList fun x4 x5 x6=>(Nw H1 (Is #[.pointer p1,.pointer p2,I x4,I x5,I x6] 336) fun b2 H2=>LeI H2 ((O b1).add 2) fun x7=>BIf (decide (x7<1)) (K (.tuple #[.pointer none,I 2]) H2) (LeI H2 ((O b1).add 0) fun x8=>BIf (decide (x8<0)) (K (.tuple #[.pointer none,I 2]) H2) (LeI H2 ((O b1).add 1) fun x9=>BIf (decide (x9<1)) (K (.tuple #[.pointer none,I 2]) H2) (LeI H2 ((O b1).add 0) fun x10=>NN p1 fun a1=>QcI 123 #[.pointer (some (a1.add 0))] H2 fun x11=>BIf (decide (x10>=x11)) (K (.tuple #[.pointer none,I 2]) H2) (LeI H2 ((O b1).add 1) fun x12=>NN p1 fun a2=>QcI 123 #[.pointer (some (a2.add 0))] H2 fun x13=>LeI H2 ((O b1).add 0) fun x14=>BIf (decide (x12>(i64.wrap (x13-x14)))) (K (.tuple #[.pointer none,I 2]) H2) (LeI H2 ((O b1).add 2) fun x15=>LeI H2 ((O b1).add 1) fun x16=>QcI 256 #[.pointer (some ((O b2).add 0))] H2 fun x17=>BIf (decide (x15>(i64.wrap (x16*x17)))) (K (.tuple #[.pointer none,I 2]) H2) (K (.tuple #[V b2,I 0]) H2)))))))))
theorem gZk.ok p1 p2 x1 x2 x3 H K (h:gZk p1 p2 x1 x2 x3 H K):Za Tryz.prog 232 #[.pointer p1,.pointer p2,.agg #[I x1,I x2,I x3]] H K:=
 okN aZ9 Tryz.func232 rfl rfl h
def ZL.l6 (K:VK):Nat->OA->FuncId->Array Value->Array Value->OA->Int->Int->Int->OA->OA->Nat->Nat->Hp->Prop
 |0,_,_,_,_,_,_,_,_,_,_,_,_,_=>False
 |k+1,p9,fd3,F3,C3,p10,x8,x9,x10,p11,A1,n1,m1,H=>
  let R6:=ZL.l6 K k
  BIf (decide (x9>0)) (BIf (x8==0) (NN p9 fun a5=>HcI 256 #[.pointer (some (a5.add 0))] H fun x11 H6=>dZ1 Tryz.prog fd3 ((F3++ #[I x10,I (if x11<x9 then x11 else x9),.pointer p10])++C3) H6 fun v15 H7=>DR Tryz.prog (bZA Tryz.prog fd3) v15 fun v16=>DI .i64 v16 fun x12=>NN p9 fun a6=>HcI 256 #[.pointer (some (a6.add 0))] H7 fun x13 H8=>R6 p9 fd3 F3 C3 p10 x12 (i64.wrap (x9-x13)) (i64.wrap (x10+1)) p11 A1 n1 m1 H8) (aZZ Tryz.prog 257 #[.pointer p11,.slice A1 n1 m1] H fun _ H9=>K (I x8) H9)) (aZZ Tryz.prog 257 #[.pointer p11,.slice A1 n1 m1] H fun _ H10=>K (I x8) H10)
def ZL.j2 (K:VK)(p6:OA)(fd2:FuncId)(F2 C2:Array Value)(p7:OA)(x5:Int)(H:Hp):=
 BIf (x5 !=0) (K (I x5) H) (NN p6 fun a3=>LeP H ((a3.add 0).add 1) fun p8=>Nw H (.row [.pointer p7] 331 1) fun b1 H5=>QcI 186 #[.pointer p6] H5 fun x6=>NN p6 fun a4=>LeI H5 ((a4.add 2).add 0) fun x7=>(∃ k,ZL.l6 K k p6 fd2 F2 C2 p7 x5 x6 x7 p8 (Io b1) 1 1 H5))
def ZL (p1:OA)(fd1:FuncId)(F1 C1:Array Value)(H:Hp)(K:VK):Prop:=
 NN p1 fun a1=>NN p1 fun a2=>(LeP H ((a1.add 0).add 1) fun p2=>HcI 256 #[.pointer (some (a2.add 0))] H fun x1 H1=>Hz 255 #[.pointer p2,I x1] H1 fun v3 H2=>eZd v3 fun p3 x2=>(ZL.j2 K p1 fd1 F1 C1 p3 x2 H2))/\(HcI 256 #[.pointer (some (a2.add 0))] H fun x3 H3=>LeP H3 ((a1.add 0).add 1) fun p4=>Hz 255 #[.pointer p4,I x3] H3 fun v8 H4=>eZd v8 fun p5 x4=>(ZL.j2 K p1 fd1 F1 C1 p5 x4 H4))
def ZL.l6.L (K:VK)(k:Nat):Mid:=fun E D H=>
 eP E 0 fun p9=>DG (E.get? 1) fun w1=>DFn w1 fun fd3 F3 C3=>eP E 5 fun p10=>eI E 6 .i64 fun x8=>eI E 7 .i64 fun x9=>eI E 8 .i64 fun x10=>cZE 257 D fun dc0 da0 D1=>ZV dc0 (Zl da0 fun u0da0 r0da0=>DP u0da0 fun p11=>Zl r0da0 fun u1da0 r1da0=>DSl u1da0 fun A1 n1 m1=>ZV r1da0 (Zj D1 (ZL.l6 K k p9 fd3 F3 C3 p10 x8 x9 x10 p11 A1 n1 m1 H)))
def ZL.Λ6 (_:VK)(_R6:OA→FuncId→Array Value→Array Value→OA→Int→Int→Int→OA→OA→Nat→Nat→Hp→Prop):Zs:=Zs.none (fun i=>match Nat.beq i 1 with|true=>some ([],[0,1,3,7,15,0,32,96,224,511,1023,2047,2047,4095,16383],0)|false=>none)
def ZL.Λ (K:VK):Zs:=⟨fun i=>match Nat.beq i 2 with|true=>some (fun E D H=>eP E 0 fun p6=>DG (E.get? 1) fun w1=>DFn w1 fun fd2 F2 C2=>eP E 5 fun p7=>eI E 6 .i64 fun x5=>Zj D (ZL.j2 K p6 fd2 F2 C2 p7 x5 H))|false=>none,fun i=>match Nat.beq i 6 with|true=>some (fun E D H=>∃ k,ZL.l6.L K k E D H)|false=>none,(fun i=>match Nat.beq i 1 with|true=>some ([],[0,1,3,7,15,0,32,96,224,511,1023,2047,2047,4095,16383],0)|false=>none)⟩
theorem ZL.ok p1 fd1 F1 C1 H K (h:ZL p1 fd1 F1 C1 H K):Za Tryz.prog 233 #[.pointer p1,.func (.func fd1) F1 C1] H K:=
 okL (Λ:=(ZL.Λ K)) aZ9 Tryz.func233 rfl rfl h (oC (fun E D H h=>by
   obtain⟨p6,e0,g2⟩:=GP h;obtain⟨w1,e1,g3⟩:=DG.out g2;obtain⟨fd2,F2,C2,rfl,g4⟩:=DFn.out g3;obtain⟨p7,e5,g6⟩:=GP g4;obtain⟨x5,e6,g8⟩:=GI g6;obtain⟨rfl,h'⟩:=Zj.out g8;exact okJ (Λ:=(ZL.Λ K)) aZ9 [] (Zc.cons e0 (Zc.cons e1 (Zc.cons e5 (Zc.cons e6 (Zc.nil _))))) h' (oC (fun E D H h=>by
     refine Safe.loop' (ZL.l6.L K) (fun E D H h=>?_) (fun k E D H h=>?_) E D H h
     ·obtain⟨w0,e0,g1⟩:=DG.out h;obtain⟨p9,rfl,g2⟩:=DP.out g1;obtain⟨w1,e1,g3⟩:=DG.out g2;obtain⟨fd3,F3,C3,rfl,g4⟩:=DFn.out g3;obtain⟨w5,e5,g5⟩:=DG.out g4;obtain⟨p10,rfl,g6⟩:=DP.out g5;obtain⟨w6,e6,g7⟩:=DG.out g6;obtain⟨x8,rfl,g8⟩:=DI.out g7;obtain⟨w7,e7,g9⟩:=DG.out g8;obtain⟨x9,rfl,g10⟩:=DI.out g9;obtain⟨w8,e8,g11⟩:=DG.out g10;obtain⟨x10,rfl,g12⟩:=DI.out g11;obtain⟨dc0,da0,D1,rfl,g13⟩:=cZE.out g12;obtain⟨rfl,g14⟩:=ZV.out g13;obtain⟨u0da0,r0da0,rfl,g15⟩:=Zl.out g14;obtain⟨p11,rfl,g16⟩:=DP.out g15;obtain⟨u1da0,r1da0,rfl,g17⟩:=Zl.out g16;obtain⟨A1,n1,m1,rfl,g18⟩:=DSl.out g17;obtain⟨rfl,g19⟩:=ZV.out g18;obtain⟨rfl,h'⟩:=Zj.out g19;exact h'
     ·obtain⟨p9,e0,g2⟩:=GP h;obtain⟨w1,e1,g3⟩:=DG.out g2;obtain⟨fd3,F3,C3,rfl,g4⟩:=DFn.out g3;obtain⟨p10,e5,g6⟩:=GP g4;obtain⟨x8,e6,g8⟩:=GI g6;obtain⟨x9,e7,g10⟩:=GI g8;obtain⟨x10,e8,g12⟩:=GI g10;obtain⟨dc0,da0,D1,rfl,g13⟩:=cZE.out g12;obtain⟨rfl,g14⟩:=ZV.out g13;obtain⟨u0da0,r0da0,rfl,g15⟩:=Zl.out g14;obtain⟨p11,rfl,g16⟩:=DP.out g15;obtain⟨u1da0,r1da0,rfl,g17⟩:=Zl.out g16;obtain⟨A1,n1,m1,rfl,g18⟩:=DSl.out g17;obtain⟨rfl,g19⟩:=ZV.out g18;obtain⟨rfl,h'⟩:=Zj.out g19;exact okJ (Λ:=(ZL.Λ6 K (ZL.l6 K k))) aZ9 [{ target:=.fn (.func 257) #[],args:=#[.pointer p11,.slice A1 n1 m1]}] (Zc.cons e0 (Zc.cons e1 (Zc.cons e5 (Zc.cons e6 (Zc.cons e7 (Zc.cons e8 (Zc.nil _))))))) h' oN) oN)) oN)
def dZw (x1 x2:Int)(p1 p2 p3:OA)(H:Hp)(K:VK):Prop:=
 NN p2 fun a1=>LeP H a1 fun p4=>NN p4 fun a2=>HcI 235 #[.pointer (some (a2.add 0)),I x1,.pointer p1] H fun x3 H1=>BIf (x3==0) (HcS 237 #[.pointer p1] H1 fun A1 n1 m1 H2=>slB n1 m1 none (some x2) fun n2 n3=>Hz 236 #[.pointer p3,.slice (slA A1 m1 n2 1) (n3-n2) (m1-n2)] H2 fun v4 H3=>K (I x3) H3) (K (I x3) H1)
theorem dZw.ok x1 x2 p1 p2 p3 H K (h:dZw x1 x2 p1 p2 p3 H K):Za Tryz.prog 234 #[I x1,I x2,.pointer p1,.pointer p2,.pointer p3] H K:=
 okN aZ9 Tryz.func234 rfl rfl h
def aZm.l6 (K:VK):Nat->OA->Nat->Nat->OA->Nat->Nat->Int->Int->Hp->Prop
 |0,_,_,_,_,_,_,_,_,_=>False
 |k+1,A3,n3,m3,A4,n4,m4,x3,x4,H=>
  let R6:=aZm.l6 K k
  BIf (decide (x4<x3)) (Hz 192 #[.slice A3 n3 m3,I x4] H fun v6 H3=>hZi v6 fun x5 x6=>(ixI x4 n4 (NN A4 fun a2=>St H3 ((a2.add (x4.toNat*1)).add 0) (U x5) fun H4=>R6 A3 n3 m3 A4 n4 m4 x3 (i64.wrap (x4+1)) H4))) (K (I 0) H)
def aZm (p1:OA)(x1:Int)(p2:OA)(H:Hp)(K:VK):Prop:=
 NN p1 fun a1=>LeP H (a1.add 0) fun p3=>Hz 46 #[.pointer p3,I x1] H fun v2 H1=>eZe v2 fun A1 n1 m1 x2=>(BIf (x2 !=0) (K (I x2) H1) (HcS 237 #[.pointer p2] H1 fun A2 n2 m2 H2=>(∃ k,aZm.l6 K k A1 n1 m1 A2 n2 m2 (n2:Int) 0 H2)))
def aZm.l6.L (K:VK)(k:Nat):Mid:=fun E D H=>
 DG (E.get? 7) fun w7=>DSl w7 fun A3 n3 m3=>DG (E.get? 9) fun w9=>DSl w9 fun A4 n4 m4=>eI E 28 .i64 fun x3=>eI E 29 .i64 fun x4=>Zj D (aZm.l6 K k A3 n3 m3 A4 n4 m4 x3 x4 H)
def aZm.Λ6 (_:VK)(_R6:OA->Nat->Nat->OA->Nat->Nat->Int->Int->Hp->Prop):Zs:=Zs.none (fun _=>none)
def aZm.Λ (K:VK):Zs:=⟨fun i=>none,fun i=>match Nat.beq i 6 with|true=>some (fun E D H=>∃ k,aZm.l6.L K k E D H)|false=>none,(fun _=>none)⟩
theorem aZm.ok p1 x1 p2 H K (h:aZm p1 x1 p2 H K):Za Tryz.prog 235 #[.pointer p1,I x1,.pointer p2] H K:=
 okL (Λ:=(aZm.Λ K)) aZ9 Tryz.func235 rfl rfl h (oC (fun E D H h=>by
   refine Safe.loop' (aZm.l6.L K) (fun E D H h=>?_) (fun k E D H h=>?_) E D H h
   ·obtain⟨w7,e7,g1⟩:=DG.out h;obtain⟨A3,n3,m3,rfl,g2⟩:=DSl.out g1;obtain⟨w9,e9,g3⟩:=DG.out g2;obtain⟨A4,n4,m4,rfl,g4⟩:=DSl.out g3;obtain⟨w28,e28,g5⟩:=DG.out g4;obtain⟨x3,rfl,g6⟩:=DI.out g5;obtain⟨w29,e29,g7⟩:=DG.out g6;obtain⟨x4,rfl,g8⟩:=DI.out g7;obtain⟨rfl,h'⟩:=Zj.out g8;exact h'
   ·obtain⟨w7,e7,g1⟩:=DG.out h;obtain⟨A3,n3,m3,rfl,g2⟩:=DSl.out g1;obtain⟨w9,e9,g3⟩:=DG.out g2;obtain⟨A4,n4,m4,rfl,g4⟩:=DSl.out g3;obtain⟨x3,e28,g6⟩:=GI g4;obtain⟨x4,e29,g8⟩:=GI g6;obtain⟨rfl,h'⟩:=Zj.out g8;exact okJ (Λ:=(aZm.Λ6 K (aZm.l6 K k))) aZ9 [] (Zc.cons e7 (Zc.cons e9 (Zc.cons e28 (Zc.cons e29 (Zc.nil _))))) h' oN) oN)
def aZc.l4 (K:VK):Nat->OA->Int->Int->OA->Nat->Nat->Hp->Prop
 |0,_,_,_,_,_,_,_=>False
 |k+1,p2,x5,x6,A1,n1,m1,H=>
  let R4:=aZc.l4 K k
  BIf (decide (x6>0)) (NN p2 fun a1=>LdA H (a1.add 2) 3 fun l1=>NN p2 fun a2=>QcI 256 #[.pointer (some (a2.add 0))] H fun x7=>Qz 316 #[.agg l1.toArray,I x7,I x5] H fun v4=>nZW v4 fun x8 x9 x10=>(BIf (x10 !=0) (K (.tuple #[.slice none 0 0,I x10]) H) (NN p2 fun a3=>HcI 256 #[.pointer (some (a3.add 0))] H fun x11 H3=>Nw H3 (.row [I x8,I x9,I (if(i64.wrap (x11-x9))<x6 then(i64.wrap (x11-x9))else x6)] 360 3) fun b1 H4=>cZ8 Tryz.prog 360 (.slice A1 n1 m1) (.slice (Io b1) 1 1) H4 fun v9 H5=>DSl v9 fun A2 n2 m2=>R4 p2 (i64.wrap (x5+(if(i64.wrap (x11-x9))<x6 then(i64.wrap (x11-x9))else x6))) (i64.wrap (x6-(if(i64.wrap (x11-x9))<x6 then(i64.wrap (x11-x9))else x6))) A2 n2 m2 H5))) (K (.tuple #[.slice A1 n1 m1,I 0]) H)
def aZc (p1:OA)(x1 x2:Int)(H:Hp)(K:VK):Prop:=
 BIf (decide (x1<0)) (K (.tuple #[.slice none 0 0,I 2]) H) (HcI 186 #[.pointer p1] H fun x3 H1=>BIf (decide (x1>x3)) (K (.tuple #[.slice none 0 0,I 2]) H1) (HcI 186 #[.pointer p1] H1 fun x4 H2=>BIf (decide (x2>(i64.wrap (x4-x1)))) (K (.tuple #[.slice none 0 0,I 2]) H2) ((∃ k,aZc.l4 K k p1 x1 x2 none 0 0 H2))))
def aZc.l4.L (K:VK)(k:Nat):Mid:=fun E D H=>
 eP E 0 fun p2=>eI E 1 .i64 fun x5=>eI E 2 .i64 fun x6=>DG (E.get? 8) fun w8=>DSl w8 fun A1 n1 m1=>Zj D (aZc.l4 K k p2 x5 x6 A1 n1 m1 H)
def aZc.Λ4 (_:VK)(_R4:OA->Int->Int->OA->Nat->Nat->Hp->Prop):Zs:=Zs.none (fun _=>none)
def aZc.Λ (K:VK):Zs:=⟨fun i=>none,fun i=>match Nat.beq i 4 with|true=>some (fun E D H=>∃ k,aZc.l4.L K k E D H)|false=>none,(fun _=>none)⟩
theorem aZc.ok p1 x1 x2 H K (h:aZc p1 x1 x2 H K):Za Tryz.prog 254 #[.pointer p1,I x1,I x2] H K:=
 okL (Λ:=(aZc.Λ K)) aZ9 Tryz.func254 rfl rfl h (oC (fun E D H h=>by
   refine Safe.loop' (aZc.l4.L K) (fun E D H h=>?_) (fun k E D H h=>?_) E D H h
   ·obtain⟨w0,e0,g1⟩:=DG.out h;obtain⟨p2,rfl,g2⟩:=DP.out g1;obtain⟨w1,e1,g3⟩:=DG.out g2;obtain⟨x5,rfl,g4⟩:=DI.out g3;obtain⟨w2,e2,g5⟩:=DG.out g4;obtain⟨x6,rfl,g6⟩:=DI.out g5;obtain⟨w8,e8,g7⟩:=DG.out g6;obtain⟨A1,n1,m1,rfl,g8⟩:=DSl.out g7;obtain⟨rfl,h'⟩:=Zj.out g8;exact h'
   ·obtain⟨p2,e0,g2⟩:=GP h;obtain⟨x5,e1,g4⟩:=GI g2;obtain⟨x6,e2,g6⟩:=GI g4;obtain⟨w8,e8,g7⟩:=DG.out g6;obtain⟨A1,n1,m1,rfl,g8⟩:=DSl.out g7;obtain⟨rfl,h'⟩:=Zj.out g8;exact okJ (Λ:=(aZc.Λ4 K (aZc.l4 K k))) aZ9 [] (Zc.cons e0 (Zc.cons e1 (Zc.cons e2 (Zc.cons e8 (Zc.nil _))))) h' oN) oN)
def dZP (p1:OA)(H:Hp)(K:VK):Prop:=
 NN p1 fun a1=>LeP H (a1.add 0) fun p2=>NN p2 fun a2=>HcI 124 #[.pointer (some (a2.add 0))] H fun x1 H1=>((8:Int)≠0/\i64=i64/\K (I (i64.wrap (Int.tdiv x1 8))) H1)
theorem dZP.ok p1 H K (h:dZP p1 H K):Za Tryz.prog 256 #[.pointer p1] H K:=
 okN aZ9 Tryz.func256 rfl rfl h
def dZh (p1:OA)(x1:Int)(p2:OA)(H:Hp)(K:VK):Prop:=
 NN p1 fun a1=>(LeP H (a1.add 0) fun p3=>HcS 237 #[.pointer p2] H fun A1 n1 m1 H1=>HcS 214 #[.slice A1 n1 m1] H1 fun A2 n2 m2 H2=>HcI 47 #[.pointer p3,I x1,.slice A2 n2 m2] H2 fun x2 H3=>K (I x2) H3)/\(HcS 237 #[.pointer p2] H fun A3 n3 m3 H4=>(LeP H4 (a1.add 0) fun p4=>HcS 214 #[.slice A3 n3 m3] H4 fun A4 n4 m4 H5=>HcI 47 #[.pointer p4,I x1,.slice A4 n4 m4] H5 fun x3 H6=>K (I x3) H6)/\(HcS 214 #[.slice A3 n3 m3] H4 fun A5 n5 m5 H7=>LeP H7 (a1.add 0) fun p5=>HcI 47 #[.pointer p5,I x1,.slice A5 n5 m5] H7 fun x4 H8=>K (I x4) H8))
theorem dZh.ok p1 x1 p2 H K (h:dZh p1 x1 p2 H K):Za Tryz.prog 258 #[.pointer p1,I x1,.pointer p2] H K:=
 ok0 (fun i=>match Nat.beq i 1 with|true=>some ([],[0,1,3,7,0,0,32,96,255,511],0)|false=>none) aZ9 Tryz.func258 rfl rfl h
end Go.Proofs.YtlgnlghmbcpmhaaGreatDoor.W
namespace Go.Proofs.YtlgnlghmbcpmhaaGreatDoor.Str
open Go Go.Hw Go.Form W Dsk Are
structure X where
 f:Nat
 s:Nat
 w:Nat
def ZJ (dp ap:Nat)(x:X):AO:=Is #[V dp,V ap,I x.f,I x.s,I x.w] 336
def D.per (d:D):Nat:=d.size/8
structure On (d:D)(x:X):Prop where
 w1:1<=x.w
 s1:1<=x.s
 fit:x.f+x.s<=d.sec
 room:x.w<=x.s*D.per d
theorem Ok.per_le {d:D}(h:Ok d):4<=D.per d/\D.per d<=512/\8*D.per d=d.size:=by
 have h1:=h.size;have h2:=h.per;unfold D.per;omega
section
variable {L : List As} {H : Hp} {p dp ap : Nat} {d : D} {x : X}
theorem fZi (h:Sep L H)(i j:Nat)(hi:L[i]? =some (pts p (ZJ dp ap x)))(hj:L[j]? =some (Dk dp d))(hok:Ok d):Za Tryz.prog 256 #[V p] H (RetE (I (D.per d:Int)) H):=by
 have hsz:=hok.size;apply dZP.ok;unfold dZP;simp only[HS];refine bZt (h.get i hi) (v:=V dp) rfl ?_;simp only[HV]
 try simp only[HS]
 refine Za.use (hZP h j hj) ?_
 try simp only[HV]
 refine⟨by decide,by simp,RetE.of ?_⟩;rw[show Int.tdiv (d.size:Int) 8=((d.size/8:Nat):Int)from rfl,bZc];rfl
theorem gZN (h:Sep L H)(i:Nat)(hi:L[i]? =some (pts p (ZJ dp ap x))):Za Tryz.prog 186 #[V p] H (RetE (I (x.w:Int)) H):=by
 apply dZx.ok;unfold dZx;simp only[HS];refine bZt (h.get i hi) (v:=I x.w) rfl ?_;simp only[HV];exact RetE.mk _ _
end
def aZL (bs:List UInt8):List UInt64:=(List.range (bs.length/8)).map fun i=>UInt64.ofNat (Zv bs (8*i))
theorem dZm (bs:List UInt8):(aZL bs).length=bs.length/8:=by simp[aZL]
theorem mZk (bs:List UInt8)(i:Nat)(h:i<bs.length/8):(aZL bs)[i]? =some (UInt64.ofNat (Zv bs (8*i))):=by
 unfold aZL;rw[List.getElem?_map,List.getElem?_range h];rfl
theorem pZN (l:List UInt64):aZL (form l)=l:=by
 apply List.ext_getElem?;intro i;by_cases h:i<l.length
 ·rw[mZk _ _ (by rw[bZb];omega)];have:=fZm h [];rw[List.append_nil]at this;rw[this,List.getElem?_eq_getElem h];simp
 ·rw[List.getElem?_eq_none (by rw[dZm,bZb];omega),List.getElem?_eq_none (by omega)]
structure Calm (d:D):Prop where
 down:d.down=false
 fuse:d.fuse=0
def D.more (d:D):D:={ d with rd:=d.rd+1}
theorem nZk (K:VK)(A:OA)(n c:Nat)(bs:List UInt8)(hn:n=bs.length)(hnc:n<=c)(hn2:n<=4096)(rb per m:Nat)(hper:8*per=n){L:List As}(i:Nat)
  (hK:∀ H,Sep (L.set i (pts rb (.row (Zb (aZL bs)) 108 m))) H->K (I 0) H) (hb:∀ xs H,Sep (L.set i (pts rb (.row xs 108 m))) H->Cells H A (Zn bs)) (hi:i<L.length):∀(d j:Nat) (xs:List Value) (H:Hp),j+d=per->xs.length=per->xs.take j=(Zb (aZL bs)).take j->
   Sep (L.set i (pts rb (.row xs 108 m))) H->aZm.l6 K (d+1) A n c (Io rb) per per (per:Int) (j:Int) H
 |0,j,xs,H,hj,hl,hx,hs=>by
  unfold aZm.l6;refine Zg (by omega) (hK H ?_);rw[List.take_of_length_le (by omega),List.take_of_length_le (by rw[Zq,dZm];omega)]at hx;rw[← hx];exact hs
 |d+1,j,xs,H,hj,hl,hx,hs=>by
  unfold aZm.l6;refine Zm (by omega) ?_;refine Za.use (FormP.Word_ok A n c hnc (by omega) bs hn j (by omega) H (hb xs H hs)) ?_
  try simp only[HV]
  refine⟨by omega,by omega,?_⟩;rw[Int.toNat_natCast,Nat.mul_one];show St H _ _ _
  rw[Addr.add_lit',Nat.zero_add,Addr.add_zero];refine hs.str i (b:=rb) (xs:=xs) (e:=108) (m:=m) (by rw[List.getElem?_set];simp[hi]) (by omega) rfl fun H hs=>?_;rw[List.set_set]at hs;rw[ZM (x:=(j:Int)+1)];refine nZk K A n c bs hn hnc hn2 rb per m hper i hK hb hi d (j+1) _ H (by omega) (by rw[List.length_set];exact hl) ?_ hs;have hw:(Zb (aZL bs))[j]? =some (U (Zv bs (8*j):Nat)):=by
   rw[aZ5,mZk _ _ (by omega)];simp only[Option.map_some];rw[UInt64.toNat_ofNat_of_lt' (cZ6 bs (8*j))]
  obtain⟨hlt,hg⟩:=List.getElem?_eq_some_iff.1 hw;rw[List.take_succ_eq_append_getElem hlt,hg,←hx,List.take_succ_eq_append_getElem (by rw[List.length_set];omega),List.take_set_of_le (by omega),List.getElem_set_self]
end Go.Proofs.YtlgnlghmbcpmhaaGreatDoor.Str
namespace Go.Proofs.YtlgnlghmbcpmhaaGreatDoor.Str
open Go Go.Hw Go.Form W Dsk Are
def D.put (d:D)(i:Int)(ws:List UInt64):D:={ d with wr:=d.wr+1,tch:=iZb d.tch i,cache:=cZJ d.cache i (form ws)}
def right (d:D)(f s w:Int):Prop:=1<=w/\0<=f/\1<=s/\f<d.sec/\s<=d.sec-f/\w<=s*D.per d
theorem dZC {dp ap:Nat}{d:D}(hok:Ok d)(x:X)(hx:On d x):Tr Tryz.prog 232 #[V dp,V ap,.agg #[I x.f,I x.s,I x.w]] [Dk dp d] fun v M=>
  ∃ p,v= .tuple #[V p,I 0]/\M=[Dk dp d,pts p (ZJ dp ap x)]:=fun H hs=>by
 have hp:=Ok.per_le hok;have hsec:=hok.sec;obtain⟨h1,h2,h3,h4⟩:=hx;have hroom:x.s*D.per d<=1048576*512:=Nat.mul_le_mul (by omega) (by omega);apply gZk.ok;unfold gZk;simp only[HS];refine hs.nw fun b1 H hs=>aZe rfl (aZe rfl ?_)
 refine hs.ldw 1 rfl rfl ?_;simp only[HV];refine hs.nw fun b2 H hs=>?_
 refine hs.ld 1 rfl rfl ?_;simp only[HV];refine Zg (by omega) ?_;refine hs.ld 1 rfl rfl ?_;simp only[HV];refine Zg (by omega) ?_;refine hs.ld 1 rfl rfl ?_;simp only[HV];refine Zg (by omega) ?_;refine hs.ld 1 rfl rfl ?_;simp only[HV];refine ZS.use (eZU hs 0 rfl) ?_
 try simp only[HV]
 refine Zg (by omega) ?_;refine hs.ld 1 rfl rfl ?_;simp only[HV];refine ZS.use (eZU hs 0 rfl) ?_
 try simp only[HV]
 refine hs.ld 1 rfl rfl ?_;simp only[HV];rw[ZM (x:=(d.sec:Int)-x.f)];refine Zg (by omega) ?_;refine hs.ld 1 rfl rfl ?_;simp only[HV];refine hs.ld 1 rfl rfl ?_;simp only[HV];refine ZS.use (fZi (p:=b2) (dp:=dp) (ap:=ap) (x:=x) hs 2 0 rfl rfl hok) ?_;simp only[HV];rw[← Int.natCast_mul,bZc];refine Zg (by omega) ?_;exact⟨_,⟨b2,rfl,rfl⟩,hs.re [0,2] rfl⟩
end Go.Proofs.YtlgnlghmbcpmhaaGreatDoor.Str
namespace Go.Proofs.YtlgnlghmbcpmhaaGreatDoor.Str
open Go Go.Hw Go.Form W Dsk Are
def cN (per fr n:Nat):Nat:=if per-fr%per<n then per-fr%per else n
def pcs (per f:Nat):Nat->Nat->Nat->List (Nat×Nat×Nat)
 |0,_,_=>[]
 |k+1,fr,n=>if n=0 then []else(f+fr/per,fr%per,cN per fr n)::pcs per f k (fr+cN per fr n) (n-cN per fr n)
def pcV (y:Nat×Nat×Nat):List Value:=[I (y.1:Int),I (y.2.1:Int),I (y.2.2:Int)]
theorem lZB (per fr n:Nat):cN per fr n<=n:=by unfold cN;split<;>omega
theorem jZt {per fr n:Nat}(hp:0<per:=by omega)(hn:0<n:=by omega):0<cN per fr n:=by
 have:=Nat.mod_lt fr hp;unfold cN;split<;>omega
theorem oZB {per fr n:Nat}(hp:0<per:=by omega):fr%per+cN per fr n<=per:=by
 have:=Nat.mod_lt fr hp;unfold cN;split<;>omega
theorem vZy :bZp Tryz.prog 360=some (3,24,some #[I 0,I 0,I 0]):=by kernel_rfl
theorem kZE (K:VK){p dp ap:Nat}{d:D}{x:X}(hok:Ok d)(hx:On d x):
  ∀(k fr n:Nat) (A:OA) (c m:Nat) (acc:List (Nat×Nat×Nat)) (H:Hp),n<=k->fr+n<=x.w->acc.length=c->c+n<=1000000000->
   (∀ A' m' H',Sep [pts p (ZJ dp ap x),Dk dp d,Own 360 3 A' (acc++pcs (D.per d) x.f k fr n).length m' ((acc++pcs (D.per d) x.f k fr n).flatMap pcV)] H'->K (.tuple #[.slice A' (acc++pcs (D.per d) x.f k fr n).length m',I 0]) H')->
   Sep [pts p (ZJ dp ap x),Dk dp d,Own 360 3 A c m (acc.flatMap pcV)] H->aZc.l4 K (k+1) (Io p) (fr:Int) (n:Int) A c m H
 |k,fr,0,A,c,m,acc,H,hn,hf,hc,hcn,hk,hs=>by
  unfold aZc.l4;refine Zg (by omega) ?_;have e:pcs (D.per d) x.f k fr 0=[]:=by cases k<;>simp[pcs]
  rw[e,List.append_nil,hc]at hk;exact hk A m H hs
 |0,fr,n+1,A,c,m,acc,H,hn,hf,hc,hcn,hk,hs=>by omega
 |k+1,fr,n+1,A,c,m,acc,H,hn,hf,hc,hcn,hk,hs=>by
  have hp:=Ok.per_le hok;have hsec:=hok.sec;have hroom:x.s*D.per d<=1048576*512:=Nat.mul_le_mul (by have:=hx.fit;omega) (by omega);have h4:=hx.room;have hfit:=hx.fit;unfold aZc.l4;refine Zm (by omega) ?_;simp only[HS];refine hs.lda 0 rfl (Nat.le_refl _) ?_;refine ZS.use (fZi hs 0 1 rfl rfl hok) ?_;simp only[HV];refine ZS.use (Lay.rZV x.f x.s x.w (D.per d) fr ⟨by omega,by omega⟩ (by omega) H) ?_;have hdiv:fr/D.per d<x.s:=by
   rw[Nat.div_lt_iff_lt_mul (by omega)];omega
  have hS:Lay.eZH x.f x.s x.w (D.per d) fr=(((x.f+fr/D.per d:Nat):Int),((fr%D.per d:Nat):Int),(0:Int)):=by
   unfold Lay.eZH;have e:Int.tdiv (fr:Int) (D.per d:Int)=((fr/D.per d:Nat):Int):=rfl;have e2:Int.tmod (fr:Int) (D.per d:Int)=((fr%D.per d:Nat):Int):=rfl;rw[e,e2,if_neg (by omega)];simp
  rw[hS];simp only[HV];refine Zr rfl ?_;refine Za.use (fZi hs 0 1 rfl rfl hok) ?_
  try simp only[HV]
  have hmod:=Nat.mod_lt fr (show 0<D.per d by omega);rw[ZM (x:=(D.per d:Int)-((fr%D.per d:Nat):Int))];have hcN:(if(D.per d:Int)-((fr%D.per d:Nat):Int)<((n+1:Nat):Int)then(D.per d:Int)-((fr%D.per d:Nat):Int)else((n+1:Nat):Int))=((cN (D.per d) fr (n+1):Nat):Int):=by
   unfold cN;by_cases h:D.per d-fr%D.per d<n+1
   ·rw[if_pos h,if_pos (by omega)];omega
   ·rw[if_neg h,if_neg (by omega)]
  rw[hcN];have hcle:=lZB (D.per d) fr (n+1);have hcpos:=jZt (per:=D.per d) (fr:=fr) (n:=n+1);refine hs.appS 2 (by rfl) vZy rfl (by omega) (by omega) rfl (by rfl) (by omega) (by omega) fun A' m' H hs=>?_
  simp only[HV];rw[ZM (x:=(fr:Int)+((cN (D.per d) fr (n+1):Nat):Int)),ZM (x:=((n+1:Nat):Int)-((cN (D.per d) fr (n+1):Nat):Int))];rw[show(fr:Int)+((cN (D.per d) fr (n+1):Nat):Int)=((fr+cN (D.per d) fr (n+1):Nat):Int) by omega,show((n+1:Nat):Int)-((cN (D.per d) fr (n+1):Nat):Int)=((n+1-cN (D.per d) fr (n+1):Nat):Int) by omega];have e:pcs (D.per d) x.f (k+1) fr (n+1)=(x.f+fr/D.per d,fr%D.per d,cN (D.per d) fr (n+1))::pcs (D.per d) x.f k (fr+cN (D.per d) fr (n+1)) (n+1-cN (D.per d) fr (n+1)):=by
   show(if n+1=0 then []else _)=_
   rw[if_neg (by omega)]
  refine kZE K (dp:=dp) (ap:=ap) hok hx k _ _ A' (c+1) m' (acc++[(x.f+fr/D.per d,fr%D.per d,cN (D.per d) fr (n+1))]) H (by omega) (by omega) (by rw[List.length_append];simp;exact hc) (by omega) (fun A' m' H' hs=>?_) ?_
  ·rw[List.append_assoc]at hs⊢;rw[show [(x.f+fr/D.per d,fr%D.per d,cN (D.per d) fr (n+1))]++pcs (D.per d) x.f k (fr+cN (D.per d) fr (n+1)) (n+1-cN (D.per d) fr (n+1))=pcs (D.per d) x.f (k+1) fr (n+1) by rw[e];rfl]at hs⊢;exact hk A' m' H' hs
  ·rw[List.flatMap_append];exact hs
theorem nZx {p dp ap:Nat}{d:D}{x:X}(hok:Ok d)(hx:On d x)(fr n:Nat)(hf:fr+n<=x.w):Tr Tryz.prog 254 #[V p,I fr,I n] [pts p (ZJ dp ap x),Dk dp d] fun v M=>
  ∃ A m,v= .tuple #[.slice A (pcs (D.per d) x.f n fr n).length m,I 0]/\M=[pts p (ZJ dp ap x),Dk dp d,Own 360 3 A (pcs (D.per d) x.f n fr n).length m ((pcs (D.per d) x.f n fr n).flatMap pcV)]:=fun H hs=>by
 have hp:=Ok.per_le hok;have hsec:=hok.sec;have hroom:x.s*D.per d<=1048576*512:=Nat.mul_le_mul (by have:=hx.fit;omega) (by omega);have h4:=hx.room;apply aZc.ok;unfold aZc;refine Zg (by omega) ?_;refine Za.use (gZN hs 0 rfl) ?_
 try simp only[HV]
 refine Zg (by omega) ?_;refine Za.use (gZN hs 0 rfl) ?_
 try simp only[HV]
 rw[ZM (x:=(x.w:Int)-fr)];refine Zg (by omega) ⟨n+1,?_⟩;have e0:Sep [pts p (ZJ dp ap x),Dk dp d,Own 360 3 none 0 0 (([]:List (Nat×Nat×Nat)).flatMap pcV)] H:=by
  have:Sep (Own 360 3 none 0 0 []::[pts p (ZJ dp ap x),Dk dp d]) H:=⟨fun _=>none,H,fun _ _ h=>(nomatch h),Hp.le_refl _,fun _=>.inl rfl,Own.none _ _ _,hs⟩;exact this.re [1,2,0] rfl
 refine kZE _ (dp:=dp) (ap:=ap) hok hx n fr n none 0 0 [] H (Nat.le_refl _) hf rfl (by omega) (fun A' m' H' hs=>?_) e0;exact⟨_,⟨A',m',rfl,rfl⟩,hs⟩
def pw (d:D)(x:X)(i:Nat):UInt64:=((aZL (d.now ((x.f+i/D.per d:Nat):Int)))[i%D.per d]?).getD 0
def pws (d:D)(x:X)(fr n:Nat):List UInt64:=(List.range n).map fun i=>pw d x (fr+i)
theorem eZk (d:D)(x:X)(fr n:Nat):(pws d x fr n).length=n:=by simp[pws]
theorem qZf (d:D)(x:X)(fr a b:Nat):pws d x fr (a+b)=pws d x fr a++pws d x (fr+a) b:=by
 unfold pws;rw[List.range_add,List.map_append,List.map_map];congr 1;apply List.map_congr_left;intro i _;simp only[Function.comp];congr 1;omega
theorem kZD {d:D}(hok:Ok d)(x:X){fr k:Nat}(h:fr%D.per d+k<=D.per d):((aZL (d.now ((x.f+fr/D.per d:Nat):Int))).drop (fr%D.per d)).take k=pws d x fr k:=by
 have hp:=Ok.per_le hok;apply List.ext_getElem?;intro i;unfold pws;rw[List.getElem?_take,List.getElem?_map];by_cases hi:i<k
 ·rw[if_pos hi,List.getElem?_drop,List.getElem?_range hi];simp only[Option.map_some];have hlen:(aZL (d.now ((x.f+fr/D.per d:Nat):Int))).length=D.per d:=by
   rw[dZm,hok.now];rfl
  unfold pw;have e:=Nat.div_add_mod fr (D.per d);have h1:(fr+i)/D.per d=fr/D.per d:=by
   rw[Nat.div_eq_of_lt_le]
   ·rw[Nat.mul_comm];omega
   ·rw[Nat.succ_mul,Nat.mul_comm];omega
  have h2:(fr+i)%D.per d=fr%D.per d+i:=by
   have:=Nat.div_add_mod (fr+i) (D.per d);rw[h1]at this;omega
  rw[h1,h2,List.getElem?_eq_getElem (by rw[hlen];omega)];rfl
 ·rw[if_neg hi,List.getElem?_eq_none (by simp;omega)];rfl
def D.rdN (d:D)(t:Nat):D:={ d with rd:=d.rd+t}
theorem Ok.rdN {d:D}(h:Ok d)(t:Nat):Ok (D.rdN d t):=⟨h.sec,h.size,h.big,h.per,h.safe,h.cache,h.fz⟩
theorem qZc (per f:Nat)(hp:0<per):∀(k fr n:Nat),n<=k->((pcs per f k fr n).map (·.2.2)).sum=n
 |k,fr,0,_=>by cases k<;>simp[pcs]
 |0,fr,n+1,h=>by omega
 |k+1,fr,n+1,h=>by
  have hcle:=lZB per fr (n+1);have hcpos:=jZt (per:=per) (fr:=fr) (n:=n+1) hp;unfold pcs;rw[if_neg (by omega),List.map_cons,List.sum_cons,qZc per f hp k _ _ (by omega)];show cN per fr (n+1)+_=_
  omega
theorem dZp (per f:Nat):∀(k fr n:Nat),(pcs per f k fr n).length<=k
 |0,_,_=>by simp[pcs]
 |k+1,fr,n=>by
  unfold pcs;split
  ·simp
  ·have:=dZp per f k (fr+cN per fr n) (n-cN per fr n);simp only[List.length_cons];omega
def mx (a b:Int):Int:=if b>a then b else a
end Go.Proofs.YtlgnlghmbcpmhaaGreatDoor.Str
namespace Go.Proofs.YtlgnlghmbcpmhaaGreatDoor.Str
open Go Go.Hw Go.Form W Dsk Are
def eZm (ws:List UInt64)(at':Nat)(src:List UInt64):List UInt64:=ws.take at'++src++ws.drop (at'+src.length)
theorem lZh {ws src:List UInt64}{i:Nat}(h:i+src.length<=ws.length:=by omega):(eZm ws i src).length=ws.length:=by
 unfold eZm;simp;omega
theorem jZR (ws src:List UInt64)(i:Nat):setAt (Zb ws) i (Zb src)=Zb (eZm ws i src):=by
 unfold setAt eZm Zb;simp
def wpc (d:D)(s at':Nat)(src:List UInt64):D:=D.put (if src.length<D.per d then D.more d else d) s (eZm (aZL (d.now s)) at' src)
def wrs (d:D)(x:X):Nat->Nat->List UInt64->D
 |0,_,_=>d
 |k+1,fr,src=>if src=[]then d else wrs (wpc d (x.f+fr/D.per d) (fr%D.per d) (src.take (cN (D.per d) fr src.length))) x k (fr+cN (D.per d) fr src.length) (src.drop (cN (D.per d) fr src.length))
theorem vZ3 (d:D)(s:Int)(ws:List UInt64)(i:Int):(D.put d s ws).now i=if i=s then form ws else d.now i:=by
 unfold D.put D.now cZJ;by_cases h:i=s
 ·simp[h]
 ·simp only[h,if_false];rfl
theorem Ok.put {d:D}(h:Ok d)(i:Int){ws:List UInt64}(hw:ws.length=D.per d):Ok (D.put d i ws):=by
 have hp:=Ok.per_le h;refine⟨h.sec,h.size,h.big,h.per,h.safe,fun k b hb=>?_,h.fz⟩;have hb':(if k=i then some (form ws)else d.cache k)=some b:=hb;split at hb'
 ·cases hb';rw[bZb];show 8*ws.length=d.size;omega
 ·exact h.cache k b hb'
theorem Ok.more {d:D}(h:Ok d):Ok (D.more d):=Ok.rdN h 1
theorem Calm.put {d:D}(h:Calm d)(i:Int)(ws:List UInt64):Calm (D.put d i ws):=⟨h.down,h.fuse⟩
theorem Calm.more {d:D}(h:Calm d):Calm (D.more d):=⟨h.down,h.fuse⟩
theorem xZD {d:D}(h:Ok d)(s at':Nat){src:List UInt64}(hl:at'+src.length<=D.per d):Ok (wpc d s at' src):=by
 have hwl:(aZL (d.now (s:Int))).length=D.per d:=by rw[dZm,h.now];rfl
 unfold wpc;split
 ·exact Ok.put (Ok.more h) _ (by rw[lZh];exact hwl)
 ·exact Ok.put h _ (by rw[lZh];exact hwl)
theorem uZO {d:D}(h:Calm d)(s at':Nat)(src:List UInt64):Calm (wpc d s at' src):=by
 unfold wpc;split
 ·exact Calm.put (Calm.more h) _ _
 ·exact Calm.put h _ _
theorem pZu (d:D)(s at':Nat)(src:List UInt64):(wpc d s at' src).size=d.size/\(wpc d s at' src).sec=d.sec:=by
 unfold wpc;split<;>exact⟨rfl,rfl⟩
theorem qZE (d:D)(s at':Nat)(src:List UInt64):D.per (wpc d s at' src)=D.per d:=by unfold D.per;rw[(pZu d s at' src).1]
theorem wZB (d:D)(s at':Nat)(src:List UInt64):(wpc d s at' src).wr=d.wr+1/\(wpc d s at' src).rd=d.rd+(if src.length<D.per d then 1 else 0)/\(wpc d s at' src).sy=d.sy:=by
 unfold wpc;split
 ·exact⟨rfl,rfl,rfl⟩
 ·exact⟨rfl,rfl,rfl⟩
theorem qZD (d:D)(s at':Nat)(src:List UInt64)(i:Int):(wpc d s at' src).now i=if i=s then form (eZm (aZL (d.now s)) at' src)else d.now i:=by
 unfold wpc;rw[vZ3];split
 ·rfl
 ·split<;>rfl
end Go.Proofs.YtlgnlghmbcpmhaaGreatDoor.Str
namespace Go.Proofs.YtlgnlghmbcpmhaaGreatDoor.Str
open Go Go.Hw Go.Form W Dsk Are
def D.mr (d:D):D:={ d with rd:=d.rd+1,fuse:=d.fuse-1}
def D.pt (d:D)(i:Int)(ws:List UInt64):D:={ d with wr:=d.wr+1,tch:=iZb d.tch i,cache:=cZJ d.cache i (form ws),fuse:=d.fuse-1}
def D.dead (d:D):D:={ d with fuse:=0,down:=true}
theorem eZW {d:D}(h:d.fuse=1):d.burnt=D.dead d:=by
 unfold D.burnt D.dead;rw[if_neg (by omega),h];rfl
theorem eZw {d:D}(hl:d.down=false)(h:d.fuse≠1):d.burnt={ d with fuse:=d.fuse-1}:=by
 unfold D.burnt;by_cases h0:d.fuse=0
 ·rw[if_pos h0];cases d;simp_all
 ·rw[if_neg h0];have:decide (d.fuse=1)=d.down:=by rw[hl];exact decide_eq_false h
  rw[this]
theorem gZG {d:D}(hl:d.down=false){i:Int}(h0:0<=i)(h1:i<d.sec):d.chk i=0:=by
 unfold D.chk;rw[hl,if_neg (by simp),if_neg (by omega)]
theorem Ok.dead {d:D}(h:Ok d):Ok (D.dead d):=⟨h.sec,h.size,h.big,h.per,h.safe,h.cache,Nat.zero_le _⟩
theorem Ok.mr {d:D}(h:Ok d):Ok (D.mr d):=⟨h.sec,h.size,h.big,h.per,h.safe,h.cache,Nat.le_trans (Nat.sub_le _ _) h.fz⟩
theorem Ok.pt {d:D}(h:Ok d)(i:Int){ws:List UInt64}(hw:ws.length=D.per d):Ok (D.pt d i ws):=by
 have:=Ok.put h i hw;exact⟨this.sec,this.size,this.big,this.per,this.safe,this.cache,Nat.le_trans (Nat.sub_le _ _) h.fz⟩
structure Prog (S:Int->Prop)(d d':D)(r w:Nat):Prop where
 ok:Ok d'
 down:d'.down=false
 fuse:d'.fuse=d.fuse-(r+w)
 go:d.fuse=0∨r+w<d.fuse
 sec:d'.sec=d.sec
 size:d'.size=d.size
 safe:d'.safe=d.safe
 sy:d'.sy=d.sy
 cache:∀ k,¬S k->d'.cache k=d.cache k
 tch:∀ k,¬S k->d'.tch k=d.tch k
 rd:d'.rd=d.rd+r
 wr:d'.wr=d.wr+w
structure cZB (S:Int->Prop)(d d':D):Prop where
 ok:Ok d'
 down:d'.down=true
 fuse:d'.fuse=0
 sec:d'.sec=d.sec
 size:d'.size=d.size
 safe:d'.safe=d.safe
 sy:d'.sy=d.sy
 cache:∀ k,¬S k->d'.cache k=d.cache k
 tch:∀ k,¬S k->d'.tch k=d.tch k
 cnt:d'.rd+d'.wr+1=d.rd+d.wr+d.fuse
 rd:d.rd<=d'.rd
 wr:d.wr<=d'.wr
section
variable {S : Int -> Prop} {d d1 d2 : D}
theorem Prog.refl (S:Int->Prop)(h:Ok d)(hl:d.down=false):Prog S d d 0 0:=⟨h,hl,by omega,by omega,rfl,rfl,rfl,rfl,fun _ _=>rfl,fun _ _=>rfl,rfl,rfl⟩
theorem Prog.per {r w:Nat}(h:Prog S d d1 r w):D.per d1=D.per d:=by unfold D.per;rw[h.size]
theorem Prog.trans {r w r' w':Nat}(h:Prog S d d1 r w)(k:Prog S d1 d2 r' w'):Prog S d d2 (r+r') (w+w'):=by
 have a1:=h.fuse;have a2:=h.go;have b1:=k.fuse;have b2:=k.go;have c1:=h.rd;have c2:=h.wr;have c3:=k.rd;have c4:=k.wr;exact⟨k.ok,k.down,by omega,by omega,k.sec.trans h.sec,k.size.trans h.size,k.safe.trans h.safe,k.sy.trans h.sy,fun i hi=>(k.cache i hi).trans (h.cache i hi),fun i hi=>(k.tch i hi).trans (h.tch i hi),by omega,by omega⟩
theorem cZB.mono {S':Int->Prop}(h:cZB S d d1)(k:∀ i,S i->S' i):cZB S' d d1:={ h with cache:=fun i hi=>h.cache i fun hs=>hi (k i hs),tch:=fun i hi=>h.tch i fun hs=>hi (k i hs)}
theorem Prog.dead {r w:Nat}(h:Prog S d d1 r w)(k:cZB S d1 d2):cZB S d d2:=by
 have a1:=h.fuse;have a2:=h.go;have c1:=h.rd;have c2:=h.wr;have c3:=k.rd;have c4:=k.wr;have c5:=k.cnt;exact⟨k.ok,k.down,k.fuse,k.sec.trans h.sec,k.size.trans h.size,k.safe.trans h.safe,k.sy.trans h.sy,fun i hi=>(k.cache i hi).trans (h.cache i hi),fun i hi=>(k.tch i hi).trans (h.tch i hi),by omega,by omega,by omega⟩
theorem Prog.mr (S:Int->Prop)(h:Ok d)(hl:d.down=false)(hf:d.fuse≠1):Prog S d (D.mr d) 1 0:=
 ⟨Ok.mr h,hl,rfl,by omega,rfl,rfl,rfl,rfl,fun _ _=>rfl,fun _ _=>rfl,rfl,rfl⟩
theorem Prog.pt (S:Int->Prop)(h:Ok d)(hl:d.down=false)(hf:d.fuse≠1){i:Int}(hi:S i){ws:List UInt64}(hw:ws.length=D.per d):Prog S d (D.pt d i ws) 0 1:=
 ⟨Ok.pt h i hw,hl,rfl,by omega,rfl,rfl,rfl,rfl,fun k hk=>by
  show cZJ d.cache i (form ws) k=_
  unfold cZJ;exact if_neg fun(e:k=i)=>hk (by rw[e];exact hi),fun k hk=>by
  show iZb d.tch i k=_
  unfold iZb;exact if_neg fun(e:k=i)=>hk (by rw[e];exact hi),rfl,rfl⟩
theorem cZB.one (S:Int->Prop)(h:Ok d)(hf:d.fuse=1):cZB S d (D.dead d):=
 ⟨Ok.dead h,rfl,rfl,rfl,rfl,rfl,rfl,fun _ _=>rfl,fun _ _=>rfl,by show d.rd+d.wr+1=_;rw[hf],Nat.le_refl _,Nat.le_refl _⟩
end
theorem uZl {p:Nat}{d:D}(hok:Ok d)(hl:d.down=false)(ho:d.rd<=4611686018427387904)(i:Int)(h0:0<=i)(h1:i<d.sec):Tr Tryz.prog 46 #[V p,I i] [Dk p d] fun v M=>
  (d.fuse≠1/\∃ b c m,v= .tuple #[.slice (Io b) d.size c,I 0]/\d.size<=c/\M=[Dk p (D.mr d),pts b (.row (Zn (d.now i)) 5 m)])∨
  (d.fuse=1/\v= .tuple #[.slice none 0 0,I 8]/\M=[Dk p (D.dead d)]):=fun H hs=>
 (Dsk.jZ6 hok ho i H hs).mono fun v H' ⟨M,hq,hM⟩=>by
  rcases hq with⟨h,_⟩|⟨_,h,h2,h3⟩|⟨_,hb,b,c,m,h2,h3,h4⟩
  ·exact absurd (gZG hl h0 h1) h
  ·have hf:d.fuse=1:=by simpa [D.burns]using h
   rw[eZW hf]at h3;exact⟨M,.inr ⟨hf,h2,h3⟩,hM⟩
  ·have hf:d.fuse≠1:=by simpa [D.burns]using hb
   rw[eZw hl hf]at h4;exact⟨M,.inl ⟨hf,b,c,m,h2,h3,h4⟩,hM⟩
theorem oZT {p dp ap:Nat}{d:D}{x:X}{cap peak:Int}{bufs:List (Nat×Nat×OA)}{b rb m:Nat}{xs:List Value}(hok:Ok d)(hl:d.down=false)(ho:d.rd<=4611686018427387904)(i:Int)(h0:0<=i)(h1:i<d.sec)
  (hbm:(b,D.per d,some (O rb))∈bufs) (hxs:xs.length=D.per d):
  Tr Tryz.prog 235 #[V p,I i,V b] [pts p (ZJ dp ap x),Dk dp d,Ar ap cap peak bufs,pts rb (.row xs 108 m)] fun v M=>
   (d.fuse≠1/\v= I 0/\M=[pts p (ZJ dp ap x),Dk dp (D.mr d),Ar ap cap peak bufs,pts rb (.row (Zb (aZL (d.now i))) 108 m)])∨
   (d.fuse=1/\v= I 8/\M=[pts p (ZJ dp ap x),Dk dp (D.dead d),Ar ap cap peak bufs,pts rb (.row xs 108 m)]):=fun H hs=>by
 have hp:=Ok.per_le hok;have hnow:=hok.now i;have hsz:=hok.size;apply aZm.ok;unfold aZm;simp only[HS];refine hs.ld 0 rfl rfl ?_;simp only[HV];refine(uZl hok hl ho i h0 h1).use hs [1] rfl rfl ?_;rintro _ _ H (⟨hf,br,c,mr,rfl,hcc,rfl⟩|⟨hf,rfl,rfl⟩) hs
 ·simp only[HV];refine Zr rfl ?_;refine Za.use (eZJ hs 3 rfl hbm) ?_
  try simp only[HV]
  refine⟨D.per d+1,?_⟩;refine nZk _ (Io br) d.size c (d.now i) hnow.symm hcc (by omega) rb (D.per d) m (by omega) (L:=[Dk dp (D.mr d),pts br (.row (Zn (d.now i)) 5 mr),pts p (ZJ dp ap x),Ar ap cap peak bufs,pts rb (.row xs 108 m)]) 4 (fun H hs=>?_) (fun ys H hs=>?_) (by simp) (D.per d) 0 xs H (by omega) hxs (by simp) hs
  ·exact⟨_,.inl ⟨hf,rfl,rfl⟩,hs.re [2,0,3,4] rfl⟩
  ·have:=Cells.row (hs.get 1 (b:=br) (o:=.row (Zn (d.now i)) 5 mr) rfl) 0 d.size;rw[List.drop_zero,List.take_of_length_le (by rw[ZO];omega)]at this;exact this
 ·simp only[HV];exact Zz (by decide) ⟨_,.inr ⟨hf,by trivial,rfl⟩,hs.re [1,0,2,3] rfl⟩
theorem tZo {p:Nat}{d:D}(hok:Ok d)(hl:d.down=false)(ho:d.wr<=4611686018427387904)(i:Int)(h0:0<=i)(h1:i<d.sec)(ws:List UInt64)(hw:ws.length=D.per d)(b m:Nat):
  Tr Tryz.prog 47 #[V p,I i,.slice (Io b) (8*ws.length) (8*ws.length)] [Dk p d,pts b (.row (Zn (form ws)) 5 m)] fun v M=>
   (d.fuse≠1/\v= I 0/\M=[Dk p (D.pt d i ws),pts b (.row (Zn (form ws)) 5 m)])∨
   (d.fuse=1/\v= I 8/\M=[Dk p (D.dead d),pts b (.row (Zn (form ws)) 5 m)]):=fun H hs=>by
 have hp:=Ok.per_le hok;refine(Dsk.eZu hok ho i (Io b) (8*ws.length) (8*ws.length) (form ws) (bZb ws).symm (pts b (.row (Zn (form ws)) 5 m)) (fun H h=>?_) H hs).mono ?_
 ·have:=Cells.row h 0 (8*ws.length);rw[List.drop_zero,List.take_of_length_le (by rw[ZO,bZb];omega)]at this;exact this
 ·rintro v H' ⟨M,⟨rfl,rfl⟩,hM⟩;have hc:=gZG hl h0 h1;by_cases hf:d.fuse=1
  ·have hb:d.burns=true:=by unfold D.burns;exact decide_eq_true hf
   have e1:d.writeE i (8*ws.length)=8:=by
    unfold D.writeE;rw[if_neg (by rw[hc];simp),if_neg (by omega),hb];rfl
   have e2:d.writeD i (form ws)=D.dead d:=by
    unfold D.writeD;rw[if_neg (by rw[hc];simp),if_neg (by rw[bZb];omega),hb,if_pos rfl,eZW hf]
   rw[e1];rw[e2]at hM;exact⟨_,.inr ⟨hf,rfl,rfl⟩,hM⟩
  ·have hb:d.burns=false:=by unfold D.burns;exact decide_eq_false hf
   have e1:d.writeE i (8*ws.length)=0:=by
    unfold D.writeE;rw[if_neg (by rw[hc];simp),if_neg (by omega),hb];rfl
   have e2:d.writeD i (form ws)=D.pt d i ws:=by
    unfold D.writeD;rw[if_neg (by rw[hc];simp),if_neg (by rw[bZb];omega),hb];unfold D.wrote D.pt;rw[eZw hl hf];rfl
   rw[e1];rw[e2]at hM;exact⟨_,.inl ⟨hf,rfl,rfl⟩,hM⟩
theorem wZn {p dp ap:Nat}{d:D}{x:X}{cap peak:Int}{bufs:List (Nat×Nat×OA)}{b rb m:Nat}{ws:List UInt64}(hok:Ok d)(hl:d.down=false)(ho:d.wr<=4611686018427387904)(i:Int)(h0:0<=i)(h1:i<d.sec)
  (hbm:(b,D.per d,some (O rb))∈bufs) (hw:ws.length=D.per d):
  Tr Tryz.prog 258 #[V p,I i,V b] [pts p (ZJ dp ap x),Dk dp d,Ar ap cap peak bufs,pts rb (.row (Zb ws) 108 m)] fun v M=>
   (d.fuse≠1/\v= I 0/\M=[pts p (ZJ dp ap x),Dk dp (D.pt d i ws),Ar ap cap peak bufs,pts rb (.row (Zb ws) 108 m)])∨
   (d.fuse=1/\v= I 8/\M=[pts p (ZJ dp ap x),Dk dp (D.dead d),Ar ap cap peak bufs,pts rb (.row (Zb ws) 108 m)]):=fun H hs=>by
 have hp:=Ok.per_le hok;have hcell:∀{L:List As} {H:Hp} (j:Nat),Sep L H->L[j]? =some (pts rb (.row (Zb ws) 108 m))->Cells H (Io rb) (Zb ws):=fun j hs hj=>by
  have:=Cells.row (hs.get j hj) 0 ws.length;rw[List.drop_zero,List.take_of_length_le (by rw[Zq];exact Nat.le_refl _)]at this;exact this
 apply dZh.ok;unfold dZh;simp only[HS];have put:∀(H:Hp) (K:VK),Sep [pts p (ZJ dp ap x),Dk dp d,Ar ap cap peak bufs,pts rb (.row (Zb ws) 108 m)] H->
   (∀ b' H',Sep [pts p (ZJ dp ap x),Dk dp d,Ar ap cap peak bufs,pts rb (.row (Zb ws) 108 m),pts b' (.row (Zn (form ws)) 5 (8*ws.length))] H'->K (.slice (Io b') (8*ws.length) (8*ws.length)) H')->
   Za Tryz.prog 214 #[.slice (Io rb) (D.per d) (D.per d)] H K:=fun H K hs k=>by
  rw[← hw];refine(FormP.Put_ok (Io rb) ws.length ws.length ws rfl (by omega) H (hcell 3 hs rfl)).mono ?_;rintro v H' ⟨b',hb',rfl,rfl⟩;exact k b' _ (hs.new hb' _)
 have wr:∀(b':Nat) (H:Hp),Sep [pts p (ZJ dp ap x),Dk dp d,Ar ap cap peak bufs,pts rb (.row (Zb ws) 108 m),pts b' (.row (Zn (form ws)) 5 (8*ws.length))] H->
   Za Tryz.prog 47 #[V dp,I i,.slice (Io b') (8*ws.length) (8*ws.length)] H fun v4 H3=>DI .i64 v4 fun x2=>∃ M,((d.fuse≠1/\(I x2:Value)= I 0/\M=[pts p (ZJ dp ap x),Dk dp (D.pt d i ws),Ar ap cap peak bufs,pts rb (.row (Zb ws) 108 m)])∨
    (d.fuse=1/\(I x2:Value)= I 8/\M=[pts p (ZJ dp ap x),Dk dp (D.dead d),Ar ap cap peak bufs,pts rb (.row (Zb ws) 108 m)]))/\Sep M H3:=fun b' H hs=>by
  refine(tZo hok hl ho i h0 h1 ws hw b' (8*ws.length)).use hs [1,4] rfl rfl ?_;rintro _ _ H (⟨hf,rfl,rfl⟩|⟨hf,rfl,rfl⟩) hs
  ·exact⟨_,.inl ⟨hf,rfl,rfl⟩,hs.re [2,0,3,4] rfl⟩
  ·exact⟨_,.inr ⟨hf,rfl,rfl⟩,hs.re [2,0,3,4] rfl⟩
 refine⟨?_,?_⟩
 ·refine hs.ld 0 rfl rfl ?_;simp only[HV];refine Za.use (eZJ hs 2 rfl hbm) ?_
  try simp only[HV]
  refine put H _ hs fun b' H hs=>?_
  simp only[HV];exact wr b' H hs
 ·refine Za.use (eZJ hs 2 rfl hbm) ?_
  try simp only[HV]
  refine⟨?_,?_⟩
  ·refine hs.ld 0 rfl rfl ?_;simp only[HV];refine put H _ hs fun b' H hs=>?_
   simp only[HV];exact wr b' H hs
  ·refine put H _ hs fun b' H hs=>?_
   simp only[HV];refine hs.ld 0 rfl rfl ?_;simp only[HV];exact wr b' H hs
end Go.Proofs.YtlgnlghmbcpmhaaGreatDoor.Str
namespace Go.Proofs.YtlgnlghmbcpmhaaGreatDoor.Str
open Go Go.Hw Go.Form W Dsk Are
def D.rdG (d:D)(t:Nat):D:={ d with rd:=d.rd+t,fuse:=d.fuse-t}
theorem Ok.rdG {d:D}(h:Ok d)(t:Nat):Ok (D.rdG d t):=⟨h.sec,h.size,h.big,h.per,h.safe,h.cache,Nat.le_trans (Nat.sub_le _ _) h.fz⟩
theorem pZb (d:D):D.rdG d 0=d:=rfl
theorem pZa (d:D)(t:Nat):D.mr (D.rdG d t)=D.rdG d (t+1):=by
 unfold D.mr D.rdG;simp only[D.mk.injEq,true_and,and_true];omega
theorem Prog.rdG (S:Int->Prop){d:D}(h:Ok d)(hl:d.down=false){t:Nat}(hf:d.fuse=0∨t<d.fuse):Prog S d (D.rdG d t) t 0:=
 ⟨Ok.rdG h t,hl,rfl,by omega,rfl,rfl,rfl,rfl,fun _ _=>rfl,fun _ _=>rfl,rfl,rfl⟩
theorem cZB.rdG (S:Int->Prop){d:D}(h:Ok d)(hl:d.down=false){j:Nat}(hf:d.fuse=j+1):cZB S d (D.dead (D.rdG d j)):=
 (Prog.rdG S h hl (t:=j) (by omega)).dead (cZB.one S (Ok.rdG h j) (by show d.fuse-j=1;omega))
theorem kZJ (K:VK){p dp ap:Nat}{d:D}{x:X}(hok:Ok d)(hl:d.down=false)(hx:On d x){cap peak:Int}{bufs:List (Nat×Nat×OA)}{b rb mb:Nat}(hbm:∀ y∈bufs,y.1≠b){rl off0 fr0 mm vb:Nat}{el:TypeId}{xs:List Value}{A4:OA}{n4 m4:Nat}{all:List (Nat×Nat×Nat)}(hn4:n4=all.length)(hn40:n4<=1000000000)(ho:d.rd<=4611686010000000000)
  (hK:∀ H,Sep [pts p (ZJ dp ap x),Dk dp (D.rdG d n4),Ar ap cap peak bufs,pts rl (.row (setAt xs off0 (Zb (pws d x fr0 (all.map (·.2.2)).sum))) el mm)] H->d.fuse=0∨n4<d.fuse->K (I 0) H)
  (hK8:∀ j xs' H,j<n4->d.fuse=j+1->xs'.length=xs.length->Sep [pts p (ZJ dp ap x),Dk dp (D.dead (D.rdG d j)),Ar ap cap peak bufs,pts rl (.row xs' el mm)] H->K (I 8) H):
  ∀(k fr n j off:Nat) (A:OA) (m:Nat) (ws:List UInt64) (H:Hp),d.fuse=0∨j<d.fuse->n<=k->fr+n<=x.w->n<=m->all.drop j=pcs (D.per d) x.f k fr n->j<=n4->fr0+off=fr->((all.take j).map (·.2.2)).sum=off->off0+off+n<=xs.length->(0<n->A=some ⟨rl,off0+off,none⟩)->ws.length=D.per d->
   Sep [pts p (ZJ dp ap x),Dk dp (D.rdG d j),Ar ap cap peak (bufs++[(b,D.per d,some (O rb))]),pts rb (.row (Zb ws) 108 mb),Own 360 3 A4 n4 m4 (all.flatMap pcV),pts rl (.row (setAt xs off0 (Zb (pws d x fr0 off))) el mm),pts vb (.row [V b] 331 1)] H->
   ZQ.l9 K (k+1) (Io p) A n m (Io b) A4 n4 m4 (n4:Int) (j:Int) (Io ap) (Io vb) 1 1 H
 |k,fr,0,j,off,A,m,ws,H,hgo,hn,hf,hm,hall,hj,hoff,hsum,hlen,hA,hws,hs=>by
  unfold ZQ.l9;have e:pcs (D.per d) x.f k fr 0=[]:=by cases k<;>simp[pcs]
  rw[e]at hall;have hjn:j=n4:=by
   have:=congrArg List.length hall;simp at this;omega
  subst hjn;refine Zg (by omega) ?_;have htake:all.take j=all:=List.take_of_length_le (by omega);rw[htake]at hsum;refine(cZx vb b (D.per d) (Io rb) hbm).use hs [2,6] rfl rfl ?_;rintro _ _ H ⟨rfl,rfl⟩ hs;refine hK H ?_ hgo;rw[hsum];exact hs.re [1,2,0,5] rfl
 |0,fr,n+1,j,off,A,m,ws,H,hgo,hn,hf,hm,hall,hj,hoff,hsum,hlen,hA,hws,hs=>by omega
 |k+1,fr,n+1,j,off,A,m,ws,H,hgo,hn,hf,hm,hall,hj,hoff,hsum,hlen,hA,hws,hs=>by
  have hp:=Ok.per_le hok;have hsec:=hok.sec;have hroom:x.s*D.per d<=1048576*512:=Nat.mul_le_mul (by have:=hx.fit;omega) (by omega);have h4:=hx.room;have hfit:=hx.fit;obtain rfl:=hA (by omega);have e:pcs (D.per d) x.f (k+1) fr (n+1)=(x.f+fr/D.per d,fr%D.per d,cN (D.per d) fr (n+1))::pcs (D.per d) x.f k (fr+cN (D.per d) fr (n+1)) (n+1-cN (D.per d) fr (n+1)):=by
   show(if n+1=0 then []else _)=_
   rw[if_neg (by omega)]
  rw[e]at hall;have hjlt:j<all.length:=by
   have:=congrArg List.length hall;simp at this;omega
  have hcle:=lZB (D.per d) fr (n+1);have hcpos:=jZt (per:=D.per d) (fr:=fr) (n:=n+1);have hcper:=oZB (per:=D.per d) (fr:=fr) (n:=n+1);have hmod:=Nat.mod_lt fr (show 0<D.per d by omega);have hdiv:fr/D.per d<x.s:=by
   rw[Nat.div_lt_iff_lt_mul (by omega)];omega
  have hget:all[j]=(x.f+fr/D.per d,fr%D.per d,cN (D.per d) fr (n+1)):=by
   have:=List.drop_eq_getElem_cons hjlt;rw[this]at hall;exact(List.cons.inj hall).1
  have hrest:all.drop (j+1)=pcs (D.per d) x.f k (fr+cN (D.per d) fr (n+1)) (n+1-cN (D.per d) fr (n+1)):=by
   have:=List.drop_eq_getElem_cons hjlt;rw[this]at hall;exact(List.cons.inj hall).2
  generalize hcv:cN (D.per d) fr (n+1)=c at*;have hflat:∀(l:List (Nat×Nat×Nat)) (i:Nat) (hi:i<l.length),((l.flatMap pcV).drop (i*3)).take 3=pcV l[i]:=by
   intro l
   induction l with
   |nil=>intro i hi;simp at hi
   |cons y l ih=>
    intro i hi;rw[List.flatMap_cons];cases i with
    |zero=>simp[pcV]
    |succ i=>
     rw[show(i+1)*3=(pcV y).length+i*3 by simp[pcV];omega,List.drop_append];simp only[Nat.add_sub_cancel_left,List.getElem_cons_succ];rw[List.drop_eq_nil_of_le (by omega),List.nil_append];exact ih i (by simpa using hi)
  unfold ZQ.l9;refine Zm (by omega) ?_;refine(hs.own 4 rfl).rdA (ys:=pcV all[j]) rfl (by omega) (hflat all j hjlt) ?_;rw[hget];refine hs.nw fun b2 H hs=>?_
  refine hs.stw 7 rfl rfl rfl rfl fun H hs=>?_;have hs:Sep [pts p (ZJ dp ap x),Dk dp (D.rdG d j),Ar ap cap peak (bufs++[(b,D.per d,some (O rb))]),pts rb (.row (Zb ws) 108 mb),Own 360 3 A4 n4 m4 (all.flatMap pcV),pts rl (.row (setAt xs off0 (Zb (pws d x fr0 off))) el mm),pts vb (.row [V b] 331 1),
   pts b2 (Is #[I ((x.f+fr/D.per d:Nat):Int),I ((fr%D.per d:Nat):Int),I (c:Int)] 360)] H:=hs
  simp only[HS];refine hs.ld 7 rfl rfl ?_;simp only[HV];have hokj:=Ok.rdG hok j;refine(oZT (p:=p) (ap:=ap) (x:=x) (cap:=cap) (peak:=peak) (b:=b) (rb:=rb) (m:=mb) hokj hl (by show d.rd+j<=_;omega) ((x.f+fr/D.per d:Nat):Int) (Int.natCast_nonneg _) (Int.ofNat_lt.2 (by show _<d.sec;omega)) (bufs:=bufs++[(b,D.per d,some (O rb))]) (List.mem_append_right _ (List.mem_singleton.2 rfl)) (xs:=Zb ws) (by rw[Zq];exact hws)).use hs [0,1,2,3] rfl rfl ?_;have hset:(setAt xs off0 (Zb (pws d x fr0 off))).length=xs.length:=cZS (by rw[Zq,eZk];omega);have hfz:(D.rdG d j).fuse=d.fuse-j:=rfl;rintro _ _ H (⟨hf1,rfl,rfl⟩|⟨hf1,rfl,rfl⟩) hs
  case inr=>
   simp only[HV];refine Zz (by decide) ?_;refine(cZx vb b (D.per d) (Io rb) hbm).use hs [2,6] rfl rfl ?_;rintro _ _ H ⟨rfl,rfl⟩ hs;exact hK8 j _ H (by omega) (by omega) hset (hs.re [1,2,0,5] rfl)
  rw[pZa]at hs;have hnow:D.now (D.rdG d j) ((x.f+fr/D.per d:Nat):Int)=d.now ((x.f+fr/D.per d:Nat):Int):=rfl;rw[hnow]at hs;have hwl:(aZL (d.now ((x.f+fr/D.per d:Nat):Int))).length=D.per d:=by rw[dZm,hok.now];rfl
  simp only[HV];refine Zr rfl ?_;refine hs.ld 7 rfl rfl ?_;simp only[HV];refine mZd rfl (by omega) ?_;refine ZS.use (eZJ hs 2 rfl (List.mem_append_right _ (List.mem_singleton.2 rfl))) ?_;simp only[HV];refine hs.ld 7 rfl rfl ?_;simp only[HV];refine hZ7 rfl (by omega) ?_;rw[pZi,mZc,Nat.zero_add];refine hs.cp 5 (k:=D.per d-fr%D.per d) (n:=c-0) (off:=off0+off) (ys:=Zb (pws d x fr c)) (by rfl) bZS rfl ?_ ?_ (fun y hy=>?_) fun H hs=>?_
  ·have hmin:Nat.min (D.per d-fr%D.per d) (c-0)=c:=Nat.min_eq_right (by omega);rw[hmin];show H.cells? ⟨rb,fr%D.per d,none⟩ 0 (c*1)=_
   rw[Nat.mul_one,hZd (hs.get 3 (b:=rb) (o:=.row (Zb (aZL (d.now ((x.f+fr/D.per d:Nat):Int)))) 108 mb) rfl) (fr%D.per d) c 0 (by rw[Zq,hwl];omega)];rw[← kZD hok x (fr:=fr) (k:=c) (by omega)];unfold Zb;rw[List.map_take,List.map_drop,Nat.add_zero]
  ·rw[Zq,eZk,hset];omega
  ·obtain⟨z,_,rfl⟩:=List.mem_map.1 hy;rfl
  simp only[HV];refine hs.ld 7 rfl rfl ?_;simp only[HV];refine hZ7 rfl (by omega) ?_;rw[ZM (x:=(j:Int)+1)];have happ:setAt (setAt xs off0 (Zb (pws d x fr0 off))) (off0+off) (Zb (pws d x fr c))=setAt xs off0 (Zb (pws d x fr0 (off+c))):=by
   have hl:(Zb (pws d x fr0 off)).length=off:=by rw[Zq,eZk]
   have:=pZf (xs:=xs) (us:=Zb (pws d x fr0 off)) (bs:=Zb (pws d x fr c)) (off:=off0) (by rw[hl,Zq,eZk];omega);rw[hl]at this;rw[this,qZf,hoff];unfold Zb;rw[List.map_append]
  have hsum':((all.take (j+1)).map (·.2.2)).sum=off+c:=by
   rw[List.take_succ_eq_append_getElem hjlt,List.map_append,List.sum_append,hsum,hget];simp
  refine kZJ K (rb:=rb) (mb:=mb) hok hl hx hbm hn4 hn40 ho hK hK8 k (fr+c) (n+1-c) (j+1) (off+c) _ (m-c) (aZL (d.now ((x.f+fr/D.per d:Nat):Int))) H (by omega) (by omega) (by omega) (by omega) hrest (by omega) (by omega) hsum' (by omega) (fun h0=>?_) hwl ?_
  ·rw[mZc,Nat.add_assoc]
  ·rw[← happ];exact hs.re [0,1,2,3,4,5,6] rfl
def uZ6 (p dp ap:Nat)(d:D)(x:X)(cap peak:Int)(bufs:List (Nat×Nat×OA))(fr n:Nat)(xs:List Value)(off rl:Nat)(el:TypeId)(mm:Nat)(v:Value)(M:List As):Prop:=
 ((d.fuse=0∨(pcs (D.per d) x.f n fr n).length<d.fuse)/\v= I 0/\M=[pts p (ZJ dp ap x),Dk dp (D.rdG d (pcs (D.per d) x.f n fr n).length),Ar ap cap (mx peak (ZH bufs+D.per d)) bufs,pts rl (.row (setAt xs off (Zb (pws d x fr n))) el mm)])∨
 (∃ j xs',j<(pcs (D.per d) x.f n fr n).length/\d.fuse=j+1/\xs'.length=xs.length/\v= I 8/\M=[pts p (ZJ dp ap x),Dk dp (D.dead (D.rdG d j)),Ar ap cap (mx peak (ZH bufs+D.per d)) bufs,pts rl (.row xs' el mm)])
theorem kZR {p dp ap:Nat}{d:D}{x:X}{cap peak:Int}{bufs:List (Nat×Nat×OA)}{rl off mm:Nat}{el:TypeId}{xs:List Value}(hok:Ok d)(hl:d.down=false)(hx:On d x)(ho:d.rd<=4611686010000000000)(fr n m:Nat)(hn:1<=n)(hf:fr+n<=x.w)(hm:n<=m)(hxl:off+n<=xs.length)(hcap:(D.per d:Int)<=cap-ZH bufs):
  Tr Tryz.prog 187 #[V p,I fr,.slice (some ⟨rl,off,none⟩) n m] [pts p (ZJ dp ap x),Dk dp d,Ar ap cap peak bufs,pts rl (.row xs el mm)] fun v M=>
   uZ6 p dp ap d x cap peak bufs fr n xs off rl el mm v M:=fun H hs=>by
 have hp:=Ok.per_le hok;have hsec:=hok.sec;have hroom:x.s*D.per d<=1048576*512:=Nat.mul_le_mul (by have:=hx.fit;omega) (by omega);have h4:=hx.room;have hpl:=dZp (D.per d) x.f n fr n;apply ZQ.ok;unfold ZQ;refine(nZx (dp:=dp) (ap:=ap) hok hx fr n hf).use hs [0,1] rfl rfl ?_;rintro _ _ H ⟨A4,m4,rfl,rfl⟩ hs;simp only[HV];refine Zr rfl (Zu (by omega) ?_);simp only[HS];have rest:∀(b rb:Nat) (H:Hp),(∀ y∈bufs,y.1≠b)->Sep [Ar ap cap (if ZH bufs+D.per d>peak then ZH bufs+D.per d else peak) (bufs++[(b,D.per d,some (O rb))]),pts rb (.row (bZm (D.per d)) 108 (D.per d)),pts p (ZJ dp ap x),Dk dp d,Own 360 3 A4 (pcs (D.per d) x.f n fr n).length m4 ((pcs (D.per d) x.f n fr n).flatMap pcV),pts rl (.row xs el mm)] H->
   ZQ.j5 (fun v H'=>∃ M,uZ6 p dp ap d x cap peak bufs fr n xs off rl el mm v M/\Sep M H') (Io p) (some ⟨rl,off,none⟩) n m A4 (pcs (D.per d) x.f n fr n).length m4 (0:Int) (Io b) H:=fun b rb H hbm hs=>by
  unfold ZQ.j5;refine Zr rfl ?_;simp only[HS];refine hs.ld 2 rfl rfl ?_;simp only[HV];refine hs.nw fun vb H hs=>?_
  refine⟨n+1,?_⟩;have hz:bZm (D.per d)=Zb (List.replicate (D.per d) 0):=by
   unfold bZm;rw[bZC];unfold Zb;rw[List.map_replicate];rfl
  refine kZJ _ (p:=p) (dp:=dp) (ap:=ap) (d:=d) (x:=x) (cap:=cap) (peak:=mx peak (ZH bufs+D.per d)) (bufs:=bufs) (b:=b) (rb:=rb) (mb:=D.per d) (rl:=rl) (off0:=off) (fr0:=fr) (mm:=mm) (vb:=vb) (el:=el) (xs:=xs) hok hl hx hbm rfl (by omega) ho (fun H hs hgo=>?_) (fun j xs' H hj hfj hx' hs=>⟨_,.inr ⟨j,xs',hj,hfj,hx',rfl,rfl⟩,hs⟩) n fr n 0 0 _ m (List.replicate (D.per d) 0) H (by omega) (Nat.le_refl _) hf hm rfl (Nat.zero_le _) (by omega) rfl (by omega) (fun _=>rfl) (by simp) ?_
  ·rw[qZc _ _ (by omega) n fr n (Nat.le_refl _)]at hs;exact⟨_,.inl ⟨hgo,rfl,rfl⟩,hs⟩
  ·rw[← hz,show setAt xs off (Zb (pws d x fr 0))=xs from fZ2 xs off,pZb];exact hs.re [2,3,0,1,4,5,6] rfl
 have fresh:∀{L:List As} {H:Hp} (b rb:Nat) (pk:Int),Sep L H->L[0]? =some (Ar ap cap pk (bufs++[(b,D.per d,some (O rb))]))->∀ y∈bufs,y.1≠b:=fun b rb pk hs h0 y hy e=>by
  obtain⟨mp,cl,tk,hA⟩:=Sep.ar hs 0 h0;have:=hA.bn;rw[List.map_append,List.nodup_append]at this;exact this.2.2 y.1 (List.mem_map_of_mem hy) b (by simp) e
 refine⟨?_,?_⟩
 ·refine hs.ld 0 rfl rfl ?_;simp only[HV];refine Za.use (fZi hs 0 1 rfl rfl hok) ?_
  try simp only[HV]
  refine(eZ6 (a:=ap) (cap:=cap) (peak:=peak) (bufs:=bufs) (n:=D.per d) (by omega) hcap).use hs [3] rfl rfl ?_;rintro _ _ H ⟨b,rb,rfl,rfl⟩ hs;simp only[HV];exact rest b rb H (fresh b rb _ hs rfl) (hs.re [0,1,2,3,4,5] rfl)
 ·refine Za.use (fZi hs 0 1 rfl rfl hok) ?_
  try simp only[HV]
  refine hs.ld 0 rfl rfl ?_;simp only[HV];refine(eZ6 (a:=ap) (cap:=cap) (peak:=peak) (bufs:=bufs) (n:=D.per d) (by omega) hcap).use hs [3] rfl rfl ?_;rintro _ _ H ⟨b,rb,rfl,rfl⟩ hs;simp only[HV];exact rest b rb H (fresh b rb _ hs rfl) (hs.re [0,1,2,3,4,5] rfl)
end Go.Proofs.YtlgnlghmbcpmhaaGreatDoor.Str
namespace Go.Proofs.YtlgnlghmbcpmhaaGreatDoor.Str
open Go Go.Hw Go.Form W Dsk Are
def dZA (per f k fr n:Nat):Nat:=((pcs per f k fr n).filter fun p=>decide (p.2.2<per)).length
def gZA (d:D)(s at':Nat)(src:List UInt64):D:=D.pt (if src.length<D.per d then D.mr d else d) s (eZm (aZL (d.now s)) at' src)
def eZn (d:D)(x:X):Nat->Nat->List UInt64->D
 |0,_,_=>d
 |k+1,fr,src=>if src=[]then d else eZn (gZA d (x.f+fr/D.per d) (fr%D.per d) (src.take (cN (D.per d) fr src.length))) x k (fr+cN (D.per d) fr src.length) (src.drop (cN (D.per d) fr src.length))
theorem nZL (d:D)(s at':Nat)(src:List UInt64):(gZA d s at' src).size=d.size/\(gZA d s at' src).sec=d.sec:=by
 unfold gZA;split<;>exact⟨rfl,rfl⟩
theorem uZQ (d:D)(s at':Nat)(src:List UInt64):D.per (gZA d s at' src)=D.per d:=by unfold D.per;rw[(nZL d s at' src).1]
theorem uZP (d:D)(s at':Nat)(src:List UInt64):(gZA d s at' src).wr=d.wr+1/\(gZA d s at' src).rd=d.rd+(if src.length<D.per d then 1 else 0)/\(gZA d s at' src).sy=d.sy:=by
 unfold gZA;split
 ·exact⟨rfl,rfl,rfl⟩
 ·exact⟨rfl,rfl,rfl⟩
theorem jZZ (K:VK){p dp ap:Nat}{x:X}{cap peak:Int}{bufs:List (Nat×Nat×OA)}{b rb mb:Nat}(hbm:∀ y∈bufs,y.1≠b){vb:Nat}{R:As}{A4:OA}{n4 m4:Nat}{all:List (Nat×Nat×Nat)}(hn4:n4=all.length)(hn40:n4<=1000000000){S:Int->Prop}(hS:∀ j:Nat,j<x.s->S ((x.f+j:Nat):Int)){d0:D}{R0 W0:Nat}
  (hK8:∀ d' H,cZB S d0 d'->d0.fuse<=R0+W0->Sep [pts p (ZJ dp ap x),Dk dp d',Ar ap cap peak bufs,R] H->K (I 8) H):
  ∀(k fr j:Nat) (d:D) (A:OA) (m:Nat) (src ws:List UInt64) (H:Hp) (r w:Nat),Prog S d0 d r w->r+(dZA (D.per d) x.f k fr src.length)=R0->w+(pcs (D.per d) x.f k fr src.length).length=W0->Ok d->On d x->d.rd+k<=4611686010000000000->d.wr+k<=4611686010000000000->src.length<=k->fr+src.length<=x.w->src.length<=m->all.drop j=pcs (D.per d) x.f k fr src.length->j<=n4->(∀ H,R H->Cells H A (Zb src))->ws.length=D.per d->
   (∀ H,Prog S d0 (eZn d x k fr src) R0 W0->Sep [pts p (ZJ dp ap x),Dk dp (eZn d x k fr src),Ar ap cap peak bufs,R] H->K (I 0) H)->
   Sep [pts p (ZJ dp ap x),Dk dp d,Ar ap cap peak (bufs++[(b,D.per d,some (O rb))]),pts rb (.row (Zb ws) 108 mb),Own 360 3 A4 n4 m4 (all.flatMap pcV),R,pts vb (.row [V b] 331 1)] H->
   Zx.l9 K (k+1) (Io p) A src.length m (Io b) A4 n4 m4 (n4:Int) (j:Int) (Io ap) (Io vb) 1 1 H
 |k,fr,j,d,A,m,[],ws,H,r,w,hpg,hR0,hW0,hok,hx,hrd,hwr,hn,hf,hm,hall,hj,hR,hws,hK,hs=>by
  unfold Zx.l9;have e:pcs (D.per d) x.f k fr ([]:List UInt64).length=[]:=by cases k<;>simp[pcs]
  have e2:eZn d x k fr []=d:=by cases k<;>simp[eZn]
  have e3:dZA (D.per d) x.f k fr ([]:List UInt64).length=0:=by unfold dZA;rw[e];rfl
  rw[e3]at hR0;rw[e]at hW0;rw[e]at hall;have hjn:j=n4:=by
   have:=congrArg List.length hall;simp at this;omega
  subst hjn;refine Zg (by omega) ?_;refine(cZx vb b (D.per d) (Io rb) hbm).use hs [2,6] rfl rfl ?_;rintro _ _ H ⟨rfl,rfl⟩ hs;refine hK H ?_ ?_
  ·rw[e2,←hR0,←hW0];exact hpg
  ·rw[e2];exact hs.re [1,2,0,5] rfl
 |0,fr,j,d,A,m,w0::src0,ws,H,r,w,hpg,hR0,hW0,hok,hx,hrd,hwr,hn,hf,hm,hall,hj,hR,hws,hK,hs=>by simp at hn
 |k+1,fr,j,d,A,m,w0::src0,ws,H,r,w,hpg,hR0,hW0,hok,hx,hrd,hwr,hn,hf,hm,hall,hj,hR,hws,hK,hs=>by
  generalize hsrc:w0::src0=src at*;have hne:src≠ []:=by rw[← hsrc];simp
  have hpos:0<src.length:=by rw[← hsrc];simp
  have hp:=Ok.per_le hok;have hsec:=hok.sec;have hroom:x.s*D.per d<=1048576*512:=Nat.mul_le_mul (by have:=hx.fit;omega) (by omega);have h4:=hx.room;have hfit:=hx.fit;have e:pcs (D.per d) x.f (k+1) fr src.length=(x.f+fr/D.per d,fr%D.per d,cN (D.per d) fr src.length)::pcs (D.per d) x.f k (fr+cN (D.per d) fr src.length) (src.length-cN (D.per d) fr src.length):=by
   show(if src.length=0 then []else _)=_
   rw[if_neg (by omega)]
  have ew:eZn d x (k+1) fr src=eZn (gZA d (x.f+fr/D.per d) (fr%D.per d) (src.take (cN (D.per d) fr src.length))) x k (fr+cN (D.per d) fr src.length) (src.drop (cN (D.per d) fr src.length)):=by
   show(if src=[]then d else _)=_
   rw[if_neg hne]
  have hdn:=hpg.down;rw[e]at hall;have hRs:dZA (D.per d) x.f (k+1) fr src.length=(if cN (D.per d) fr src.length<D.per d then 1 else 0)+dZA (D.per d) x.f k (fr+cN (D.per d) fr src.length) (src.length-cN (D.per d) fr src.length):=by
   unfold dZA;rw[e,List.filter_cons];by_cases hq:cN (D.per d) fr src.length<D.per d
   ·simp only[hq,decide_true,if_true,List.length_cons];omega
   ·simp only[hq,decide_false,Bool.false_eq_true,if_false];omega
  rw[hRs]at hR0;rw[e,List.length_cons]at hW0;rw[ew]at hK;have hjlt:j<all.length:=by
   have:=congrArg List.length hall;simp at this;omega
  have hcle:=lZB (D.per d) fr src.length;have hcpos:=jZt (per:=D.per d) (fr:=fr) (n:=src.length) (by omega) hpos;have hcper:=oZB (per:=D.per d) (fr:=fr) (n:=src.length);have hmod:=Nat.mod_lt fr (show 0<D.per d by omega);have hdiv:fr/D.per d<x.s:=by
   rw[Nat.div_lt_iff_lt_mul (by omega)];omega
  have hget:all[j]=(x.f+fr/D.per d,fr%D.per d,cN (D.per d) fr src.length):=by
   have:=List.drop_eq_getElem_cons hjlt;rw[this]at hall;exact(List.cons.inj hall).1
  have hrest:all.drop (j+1)=pcs (D.per d) x.f k (fr+cN (D.per d) fr src.length) (src.length-cN (D.per d) fr src.length):=by
   have:=List.drop_eq_getElem_cons hjlt;rw[this]at hall;exact(List.cons.inj hall).2
  generalize hcv:cN (D.per d) fr src.length=c at*;have hflat:∀(l:List (Nat×Nat×Nat)) (i:Nat) (hi:i<l.length),((l.flatMap pcV).drop (i*3)).take 3=pcV l[i]:=by
   intro l
   induction l with
   |nil=>intro i hi;simp at hi
   |cons y l ih=>
    intro i hi;rw[List.flatMap_cons];cases i with
    |zero=>simp[pcV]
    |succ i=>
     rw[show(i+1)*3=(pcV y).length+i*3 by simp[pcV];omega,List.drop_append];simp only[Nat.add_sub_cancel_left,List.getElem_cons_succ];rw[List.drop_eq_nil_of_le (by omega),List.nil_append];exact ih i (by simpa using hi)
  have hsec1:((x.f+fr/D.per d:Nat):Int)<(d.sec:Int):=Int.ofNat_lt.2 (by omega);have htk:(src.take c).length=c:=by simp;omega
  have hwl:(aZL (d.now ((x.f+fr/D.per d:Nat):Int))).length=D.per d:=by rw[dZm,hok.now];rfl
  unfold Zx.l9;refine Zm (by omega) ?_;refine(hs.own 4 rfl).rdA (ys:=pcV all[j]) rfl (by omega) (hflat all j hjlt) ?_;rw[hget];refine hs.nw fun b2 H hs=>?_
  refine hs.stw 7 rfl rfl rfl rfl fun H hs=>?_;have hs:Sep [pts p (ZJ dp ap x),Dk dp d,Ar ap cap peak (bufs++[(b,D.per d,some (O rb))]),pts rb (.row (Zb ws) 108 mb),Own 360 3 A4 n4 m4 (all.flatMap pcV),R,pts vb (.row [V b] 331 1),
   pts b2 (Is #[I ((x.f+fr/D.per d:Nat):Int),I ((fr%D.per d:Nat):Int),I (c:Int)] 360)] H:=hs
    -- behind the load, if there was one
  have join:∀(d1:D) (ws1:List UInt64) (H:Hp),(d1=if c<D.per d then D.mr d else d)->(c<D.per d->d.fuse≠1)->ws1.length=D.per d->(c<D.per d->ws1=aZL (d.now ((x.f+fr/D.per d:Nat):Int)))->
    Sep [pts p (ZJ dp ap x),Dk dp d1,Ar ap cap peak (bufs++[(b,D.per d,some (O rb))]),pts rb (.row (Zb ws1) 108 mb),Own 360 3 A4 n4 m4 (all.flatMap pcV),R,pts vb (.row [V b] 331 1),
     pts b2 (Is #[I ((x.f+fr/D.per d:Nat):Int),I ((fr%D.per d:Nat):Int),I (c:Int)] 360)] H->
    Zx.j15 K (Zx.l9 K (k+1)) (Io p) A src.length m (Io b) (O b2) A4 n4 m4 (n4:Int) (j:Int) (Io ap) (Io vb) 1 1 H:=fun d1 ws1 H hd1 hnf hw1 hwe hs=>by
   have hd1p:D.per d1=D.per d/\Ok d1/\d1.down=false/\d1.wr=d.wr/\d1.sec=d.sec/\Prog S d0 d1 (r+if c<D.per d then 1 else 0) w:=by
    rw[hd1];by_cases hlt:c<D.per d
    ·simp only[hlt,if_true];exact⟨by trivial,Ok.mr hok,hdn,by trivial,by trivial,hpg.trans (Prog.mr S hok hdn (hnf hlt))⟩
    ·simp only[hlt,if_false];exact⟨by trivial,hok,hdn,by trivial,by trivial,hpg⟩
   obtain⟨q1,q2,q3,q4,q5,q6⟩:=hd1p;have hwset:eZm ws1 (fr%D.per d) (src.take c)=eZm (aZL (d.now ((x.f+fr/D.per d:Nat):Int))) (fr%D.per d) (src.take c):=by
    by_cases hlt:c<D.per d
    ·rw[hwe hlt]
    ·have h0:fr%D.per d=0:=by omega
     unfold eZm;rw[h0,htk,List.drop_eq_nil_of_le (by omega),List.drop_eq_nil_of_le (by omega)];simp
   have hdisk:D.pt d1 ((x.f+fr/D.per d:Nat):Int) (eZm ws1 (fr%D.per d) (src.take c))=gZA d (x.f+fr/D.per d) (fr%D.per d) (src.take c):=by
    unfold gZA;rw[hwset,hd1,htk]
   unfold Zx.j15;simp only[HS];refine ZS.use (eZJ hs 2 rfl (List.mem_append_right _ (List.mem_singleton.2 rfl))) ?_;simp only[HV];refine hs.ld 7 rfl rfl ?_;simp only[HV];refine hZ7 rfl (by omega) ?_;refine hs.ld 7 rfl rfl ?_;simp only[HV];refine mZd rfl (by omega) ?_;rw[mZc,Nat.zero_add];have hcell:∀{L:List As} {H:Hp},Sep L H->L[5]? =some R->Cells H A (Zb src):=fun hs h5=>by
    obtain⟨H1,hR1,hle⟩:=hs.see 5 h5;exact(hR H1 hR1).le hle
   refine hs.cp 3 (b:=rb) (off:=fr%D.per d) (n:=D.per d-fr%D.per d) (k:=c-0) (xs:=Zb ws1) (e':=108) (m:=mb) (ys:=Zb (src.take c)) (by rfl) bZS rfl ?_ ?_ (fun y hy=>?_) fun H hs=>?_
   ·have hmin:Nat.min (c-0) (D.per d-fr%D.per d)=c-0:=Nat.min_eq_left (by omega);rw[hmin];have h1:=((hcell hs rfl).shift (m:=m) (l:=0) (by rw[Zq];omega)).take c;rw[List.drop_zero,show(Zb src).take c=Zb (src.take c) by unfold Zb;rw[List.map_take]]at h1;exact iZP h1 (by rw[Zq,htk];omega)
   ·rw[Zq,Zq,htk,hw1];omega
   ·obtain⟨z,_,rfl⟩:=List.mem_map.1 hy;rfl
   simp only[HV];rw[jZR]at hs;refine hs.ld 7 rfl rfl ?_;simp only[HV];have hs:Sep [pts p (ZJ dp ap x),Dk dp d1,Ar ap cap peak (bufs++[(b,D.per d,some (O rb))]),pts rb (.row (Zb (eZm ws1 (fr%D.per d) (src.take c))) 108 mb),Own 360 3 A4 n4 m4 (all.flatMap pcV),R,pts vb (.row [V b] 331 1),
     pts b2 (Is #[I ((x.f+fr/D.per d:Nat):Int),I ((fr%D.per d:Nat):Int),I (c:Int)] 360)] H:=hs
   have hsl:(eZm ws1 (fr%D.per d) (src.take c)).length=D.per d:=by rw[lZh];exact hw1
   refine(wZn (p:=p) (ap:=ap) (x:=x) (cap:=cap) (peak:=peak) (b:=b) (rb:=rb) (m:=mb) (d:=d1) (ws:=eZm ws1 (fr%D.per d) (src.take c)) q2 q3 (by omega) ((x.f+fr/D.per d:Nat):Int) (Int.natCast_nonneg _) (by rw[q5];exact hsec1) (bufs:=bufs++[(b,D.per d,some (O rb))]) (by rw[q1];exact List.mem_append_right _ (List.mem_singleton.2 rfl)) (by rw[q1];exact hsl)).use hs [0,1,2,3] rfl rfl ?_;rintro _ _ H (⟨hf1,rfl,rfl⟩|⟨hf1,rfl,rfl⟩) hs
   case inr=>
    simp only[HV];refine Zz (by decide) ?_;refine(cZx vb b (D.per d) (Io rb) hbm).use hs [2,6] rfl rfl ?_;rintro _ _ H ⟨rfl,rfl⟩ hs;refine hK8 _ H (q6.dead (cZB.one S q2 hf1)) ?_ (hs.re [1,2,0,5] rfl);have z1:=q6.fuse;have z2:=q6.go;omega
   have hpg2:=q6.trans (Prog.pt S q2 q3 hf1 (i:=((x.f+fr/D.per d:Nat):Int)) (hS _ hdiv) (ws:=eZm ws1 (fr%D.per d) (src.take c)) (by rw[q1];exact hsl));rw[hdisk]at hpg2;rw[hdisk]at hs;simp only[HV];refine Zr rfl ?_;refine hs.ld 7 rfl rfl ?_;simp only[HV];refine hZ7 rfl (by omega) ?_;rw[ZM (x:=(j:Int)+1)];have hcnt:=uZP d (x.f+fr/D.per d) (fr%D.per d) (src.take c);have hsz:=nZL d (x.f+fr/D.per d) (fr%D.per d) (src.take c);have hper:=uZQ d (x.f+fr/D.per d) (fr%D.per d) (src.take c);have hdl:(src.drop c).length=src.length-c:=by simp
   rw[← hdl];refine jZZ K (rb:=rb) (mb:=mb) hbm hn4 hn40 hS hK8 k (fr+c) (j+1) _ _ (m-c) (src.drop c) (eZm ws1 (fr%D.per d) (src.take c)) H _ _ hpg2 (by rw[hper,hdl];omega) (by rw[hper,hdl];omega) hpg2.ok ⟨hx.w1,hx.s1,by rw[hsz.2];exact hfit,by rw[hper];exact h4⟩ (by rw[hcnt.2.1];split<;>omega) (by rw[hcnt.1];omega) (by omega) (by omega) (by omega) (by rw[hper,hdl];exact hrest) (by omega) (fun H hRH=>?_) (by rw[hper];exact hsl) hK ?_
   ·have:=(hR H hRH).shift (m:=m) (l:=c) (by rw[Zq];omega);rw[show(Zb src).drop c=Zb (src.drop c) by unfold Zb;rw[List.map_drop]]at this;exact this
   ·rw[hper];exact hs.re [0,1,2,3,4,5,6] rfl
  simp only[HS];refine hs.ld 7 rfl rfl ?_;simp only[HV];refine ZS.use (fZi hs 0 1 rfl rfl hok) ?_;simp only[HV];by_cases hlt:c<D.per d
  ·refine Zm (by omega) ?_;refine hs.ld 7 rfl rfl ?_;simp only[HV];refine(oZT (p:=p) (ap:=ap) (x:=x) (cap:=cap) (peak:=peak) (b:=b) (rb:=rb) (m:=mb) hok hdn (by omega) ((x.f+fr/D.per d:Nat):Int) (Int.natCast_nonneg _) hsec1 (bufs:=bufs++[(b,D.per d,some (O rb))]) (List.mem_append_right _ (List.mem_singleton.2 rfl)) (xs:=Zb ws) (by rw[Zq];exact hws)).use hs [0,1,2,3] rfl rfl ?_;rintro _ _ H (⟨hf1,rfl,rfl⟩|⟨hf1,rfl,rfl⟩) hs
   case inr=>
    simp only[HV];refine Zz (by decide) ?_;refine(cZx vb b (D.per d) (Io rb) hbm).use hs [2,6] rfl rfl ?_;rintro _ _ H ⟨rfl,rfl⟩ hs;refine hK8 _ H (hpg.dead (cZB.one S hok hf1)) ?_ (hs.re [1,2,0,5] rfl);have z1:=hpg.fuse;have z2:=hpg.go;rw[if_pos hlt]at hR0;omega
   simp only[HV];refine Zr rfl ?_;exact join (D.mr d) _ H (by rw[if_pos hlt]) (fun _=>hf1) hwl (fun _=>rfl) (hs.re [0,1,2,3,4,5,6,7] rfl)
  ·refine Zg (by omega) ?_;exact join d ws H (by rw[if_neg hlt]) (fun h=>absurd h hlt) hws (fun h=>absurd h hlt) hs
def tZp (p dp ap:Nat)(d:D)(x:X)(cap peak:Int)(bufs:List (Nat×Nat×OA))(fr:Nat)(src:List UInt64)(R:As)(v:Value)(M:List As):Prop:=
 (Prog (fun i=>(x.f:Int)<=i/\i<((x.f+x.s:Nat):Int)) d (eZn d x src.length fr src) (dZA (D.per d) x.f src.length fr src.length) (pcs (D.per d) x.f src.length fr src.length).length/\
  v= I 0/\M=[pts p (ZJ dp ap x),Dk dp (eZn d x src.length fr src),Ar ap cap (mx peak (ZH bufs+D.per d)) bufs,R])∨
 (∃ d',cZB (fun i=>(x.f:Int)<=i/\i<((x.f+x.s:Nat):Int)) d d'/\d.fuse<=dZA (D.per d) x.f src.length fr src.length+(pcs (D.per d) x.f src.length fr src.length).length/\
  v= I 8/\M=[pts p (ZJ dp ap x),Dk dp d',Ar ap cap (mx peak (ZH bufs+D.per d)) bufs,R])
theorem jZr {p dp ap:Nat}{d:D}{x:X}{cap peak:Int}{bufs:List (Nat×Nat×OA)}{R:As}{A:OA}{n m:Nat}{src:List UInt64}(hok:Ok d)(hl:d.down=false)(hx:On d x)(ho:d.rd<=4611686000000000000/\d.wr<=4611686000000000000)(fr:Nat)(hn:n=src.length)(hn1:1<=n)(hf:fr+n<=x.w)(hm:n<=m)(hcap:(D.per d:Int)<=cap-ZH bufs)(hR:∀ H,R H->Cells H A (Zb src)):
  Tr Tryz.prog 185 #[V p,I fr,.slice A n m] [pts p (ZJ dp ap x),Dk dp d,Ar ap cap peak bufs,R] fun v M=>
   tZp p dp ap d x cap peak bufs fr src R v M:=fun H hs=>by
 subst hn;have hp:=Ok.per_le hok;have hsec:=hok.sec;have hroom:x.s*D.per d<=1048576*512:=Nat.mul_le_mul (by have:=hx.fit;omega) (by omega);have h4:=hx.room;have hpl:=dZp (D.per d) x.f src.length fr src.length;apply Zx.ok;unfold Zx;refine(nZx (dp:=dp) (ap:=ap) hok hx fr src.length hf).use hs [0,1] rfl rfl ?_;rintro _ _ H ⟨A4,m4,rfl,rfl⟩ hs;simp only[HV];refine Zr rfl (Zu (by omega) ?_);simp only[HS];have rest:∀(b rb:Nat) (H:Hp),(∀ y∈bufs,y.1≠b)->Sep [Ar ap cap (if ZH bufs+D.per d>peak then ZH bufs+D.per d else peak) (bufs++[(b,D.per d,some (O rb))]),pts rb (.row (bZm (D.per d)) 108 (D.per d)),pts p (ZJ dp ap x),Dk dp d,Own 360 3 A4 (pcs (D.per d) x.f src.length fr src.length).length m4 ((pcs (D.per d) x.f src.length fr src.length).flatMap pcV),R] H->
   Zx.j5 (fun v H'=>∃ M,tZp p dp ap d x cap peak bufs fr src R v M/\Sep M H') (Io p) A src.length m A4 (pcs (D.per d) x.f src.length fr src.length).length m4 (0:Int) (Io b) H:=fun b rb H hbm hs=>by
  unfold Zx.j5;refine Zr rfl ?_;simp only[HS];refine hs.ld 2 rfl rfl ?_;simp only[HV];refine hs.nw fun vb H hs=>?_
  refine⟨src.length+1,?_⟩;have hz:bZm (D.per d)=Zb (List.replicate (D.per d) 0):=by
   unfold bZm;rw[bZC];unfold Zb;rw[List.map_replicate];rfl
  refine jZZ _ (p:=p) (dp:=dp) (ap:=ap) (x:=x) (cap:=cap) (peak:=mx peak (ZH bufs+D.per d)) (bufs:=bufs) (b:=b) (rb:=rb) (mb:=D.per d) (vb:=vb) (R:=R) (all:=pcs (D.per d) x.f src.length fr src.length) hbm rfl (by omega) (S:=fun i=>(x.f:Int)<=i/\i<((x.f+x.s:Nat):Int)) (fun j hj=>⟨by omega,by omega⟩) (d0:=d) (R0:=dZA (D.per d) x.f src.length fr src.length) (W0:=(pcs (D.per d) x.f src.length fr src.length).length) (fun d' H hd hfu hs=>⟨_,.inr ⟨d',hd,hfu,rfl,rfl⟩,hs⟩) src.length fr 0 d A m src (List.replicate (D.per d) 0) H 0 0 (Prog.refl _ hok hl) (Nat.zero_add _) (Nat.zero_add _) hok hx (by omega) (by omega) (Nat.le_refl _) hf hm rfl (Nat.zero_le _) hR (by simp) (fun H hpg hs=>⟨_,.inl ⟨hpg,rfl,rfl⟩,hs⟩) ?_;rw[← hz];exact hs.re [2,3,0,1,4,5,6] rfl
 have fresh:∀{L:List As} {H:Hp} (b rb:Nat) (pk:Int),Sep L H->L[0]? =some (Ar ap cap pk (bufs++[(b,D.per d,some (O rb))]))->∀ y∈bufs,y.1≠b:=fun b rb pk hs h0 y hy e=>by
  obtain⟨mp,cl,tk,hA⟩:=Sep.ar hs 0 h0;have:=hA.bn;rw[List.map_append,List.nodup_append]at this;exact this.2.2 y.1 (List.mem_map_of_mem hy) b (by simp) e
 refine⟨?_,?_⟩
 ·refine hs.ld 0 rfl rfl ?_;simp only[HV];refine Za.use (fZi hs 0 1 rfl rfl hok) ?_
  try simp only[HV]
  refine(eZ6 (a:=ap) (cap:=cap) (peak:=peak) (bufs:=bufs) (n:=D.per d) (by omega) hcap).use hs [3] rfl rfl ?_;rintro _ _ H ⟨b,rb,rfl,rfl⟩ hs;simp only[HV];exact rest b rb H (fresh b rb _ hs rfl) (hs.re [0,1,2,3,4,5] rfl)
 ·refine Za.use (fZi hs 0 1 rfl rfl hok) ?_
  try simp only[HV]
  refine hs.ld 0 rfl rfl ?_;simp only[HV];refine(eZ6 (a:=ap) (cap:=cap) (peak:=peak) (bufs:=bufs) (n:=D.per d) (by omega) hcap).use hs [3] rfl rfl ?_;rintro _ _ H ⟨b,rb,rfl,rfl⟩ hs;simp only[HV];exact rest b rb H (fresh b rb _ hs rfl) (hs.re [0,1,2,3,4,5] rfl)
end Go.Proofs.YtlgnlghmbcpmhaaGreatDoor.Str
namespace Go.Proofs.YtlgnlghmbcpmhaaGreatDoor.Lib
open Go Go.Proofs Go.Shelf Go.RowKit Go.Maps Go.Sort
def kZM :Go.Shelf.Ren:=⟨fun|6=>137|8=>188|9=>189|11=>259|13=>227|12=>260|23=>293|24=>294|14=>318|15=>319|16=>320|17=>321|18=>322|19=>323|20=>324|21=>325|22=>326|25=>350|26=>341|27=>342|28=>351|29=>352|30=>353|31=>363|n=>n,fun|26=>3|28=>241|24=>167|0=>0|3=>3|37=>213|48=>84|50=>108|4=>4|40=>390|39=>389|45=>253|5=>5|9=>9|51=>435|55=>439|57=>457|58=>458|33=>293|n=>n,fun|n=>n⟩
theorem wZi :Go.Proofs.SlLaysZI.n6 Tryz.prog kZM where
 mixed:=by kernel_rfl
 f6 := ⟨ "slices.Sorted[int]", by decide, Tryz.func137.trans (congrArg some (by kernel_rfl))⟩
 f8 := ⟨ "slices.Collect[int]", by decide, Tryz.func188.trans (congrArg some (by kernel_rfl))⟩
 f11 := ⟨ "slices.AppendSeq[[]int,int]", by decide, Tryz.func259.trans (congrArg some (by kernel_rfl))⟩
 t0:=Tryz.underlying0
 a0:=Tryz.isAgg0
 z0:=Tryz.sizeOf0
 v0:=Tryz.zeroValue0
 t24:=Tryz.underlying167
 a24:=Tryz.isAgg167
 z24:=Tryz.sizeOf167
 v24:=Tryz.zeroValue167
 t26:=Tryz.underlying3
 a26:=Tryz.isAgg3
 z26:=Tryz.sizeOf3
 v26:=Tryz.zeroValue3
 t28:=Tryz.underlying241
 a28:=Tryz.isAgg241
 z28:=Tryz.sizeOf241
 v28:=Tryz.zeroValue241
 i26:=by kernel_rfl
def tZa :Go.Shelf.Ren:=⟨fun|5=>189|8=>227|7=>260|19=>293|20=>294|10=>318|11=>319|12=>320|13=>321|14=>322|15=>323|16=>324|17=>325|18=>326|30=>350|31=>341|32=>342|33=>351|34=>352|35=>353|40=>363|n=>n,fun|23=>167|25=>3|3=>3|32=>213|22=>167|0=>0|44=>84|46=>108|4=>4|36=>390|35=>389|41=>253|5=>5|9=>9|53=>435|57=>439|63=>457|64=>458|n=>n,fun|n=>n⟩
theorem vZa :Go.Proofs.SlLaysM.n5 Tryz.prog tZa where
 mixed:=by kernel_rfl
 f5 := ⟨ "slices.Sort[[]int,int]", by decide, Tryz.func189.trans (congrArg some (by kernel_rfl))⟩
 f7 := ⟨ "slices.pdqsortOrdered[int]", by decide, Tryz.func260.trans (congrArg some (by kernel_rfl))⟩
 f8:=Tryz.func227.trans (congrArg some (by kernel_rfl))
 f10 := ⟨ "slices.insertionSortOrdered[int]", by decide, Tryz.func318.trans (congrArg some (by kernel_rfl))⟩
 f11 := ⟨ "slices.heapSortOrdered[int]", by decide, Tryz.func319.trans (congrArg some (by kernel_rfl))⟩
 f12 := ⟨ "slices.breakPatternsOrdered[int]", by decide, Tryz.func320.trans (congrArg some (by kernel_rfl))⟩
 f13 := ⟨ "slices.choosePivotOrdered[int]", by decide, Tryz.func321.trans (congrArg some (by kernel_rfl))⟩
 f14 := ⟨ "slices.reverseRangeOrdered[int]", by decide, Tryz.func322.trans (congrArg some (by kernel_rfl))⟩
 f15 := ⟨ "slices.partialInsertionSortOrdered[int]", by decide, Tryz.func323.trans (congrArg some (by kernel_rfl))⟩
 f16 := ⟨ "cmp.Less[int]", by decide, Tryz.func324.trans (congrArg some (by kernel_rfl))⟩
 f17 := ⟨ "slices.partitionEqualOrdered[int]", by decide, Tryz.func325.trans (congrArg some (by kernel_rfl))⟩
 f18 := ⟨ "slices.partitionOrdered[int]", by decide, Tryz.func326.trans (congrArg some (by kernel_rfl))⟩
 f19:=Tryz.func293.trans (congrArg some (by kernel_rfl))
 f20:=Tryz.func294.trans (congrArg some (by kernel_rfl))
 f30 := ⟨ "slices.siftDownOrdered[int]", by decide, Tryz.func350.trans (congrArg some (by kernel_rfl))⟩
 f31:=Tryz.func341.trans (congrArg some (by kernel_rfl))
 f32:=Tryz.func342.trans (congrArg some (by kernel_rfl))
 f33 := ⟨ "slices.medianAdjacentOrdered[int]", by decide, Tryz.func351.trans (congrArg some (by kernel_rfl))⟩
 f34 := ⟨ "slices.medianOrdered[int]", by decide, Tryz.func352.trans (congrArg some (by kernel_rfl))⟩
 f35 := ⟨ "cmp.isNaN[int]", by decide, Tryz.func353.trans (congrArg some (by kernel_rfl))⟩
 f40 := ⟨ "slices.order2Ordered[int]", by decide, Tryz.func363.trans (congrArg some (by kernel_rfl))⟩
 t0:=Tryz.underlying0
 a0:=Tryz.isAgg0
 z0:=Tryz.sizeOf0
 v0:=Tryz.zeroValue0
 t3:=Tryz.underlying3
 a3:=Tryz.isAgg3
 z3:=Tryz.sizeOf3
 v3:=Tryz.zeroValue3
 t4:=Tryz.underlying4
 a4:=Tryz.isAgg4
 z4:=Tryz.sizeOf4
 v4:=Tryz.zeroValue4
 t5:=Tryz.underlying5
 a5:=Tryz.isAgg5
 z5:=Tryz.sizeOf5
 v5:=Tryz.zeroValue5
 t9:=Tryz.underlying9
 a9:=Tryz.isAgg9
 z9:=Tryz.sizeOf9
 v9:=Tryz.zeroValue9
 t22:=Tryz.underlying167
 a22:=Tryz.isAgg167
 z22:=Tryz.sizeOf167
 v22:=Tryz.zeroValue167
 t23:=Tryz.underlying167
 a23:=Tryz.isAgg167
 z23:=Tryz.sizeOf167
 v23:=Tryz.zeroValue167
 t25:=Tryz.underlying3
 a25:=Tryz.isAgg3
 z25:=Tryz.sizeOf3
 v25:=Tryz.zeroValue3
 t32:=Tryz.underlying213
 a32:=Tryz.isAgg213
 z32:=Tryz.sizeOf213
 v32:=Tryz.zeroValue213
 t35:=Tryz.underlying389
 a35:=Tryz.isAgg389
 z35:=Tryz.sizeOf389
 v35:=Tryz.zeroValue389
 t36:=Tryz.underlying390
 a36:=Tryz.isAgg390
 z36:=Tryz.sizeOf390
 v36:=Tryz.zeroValue390
 t41:=Tryz.underlying253
 a41:=Tryz.isAgg253
 z41:=Tryz.sizeOf253
 v41:=Tryz.zeroValue253
 t44:=Tryz.underlying84
 a44:=Tryz.isAgg84
 z44:=Tryz.sizeOf84
 v44:=Tryz.zeroValue84
 t46:=Tryz.underlying108
 a46:=Tryz.isAgg108
 z46:=Tryz.sizeOf108
 v46:=Tryz.zeroValue108
 t53:=Tryz.underlying435
 a53:=Tryz.isAgg435
 z53:=Tryz.sizeOf435
 v53:=Tryz.zeroValue435
 t57:=Tryz.underlying439
 a57:=Tryz.isAgg439
 z57:=Tryz.sizeOf439
 v57:=Tryz.zeroValue439
 t63:=Tryz.underlying457
 a63:=Tryz.isAgg457
 z63:=Tryz.sizeOf457
 v63:=Tryz.zeroValue457
 t64:=Tryz.underlying458
 a64:=Tryz.isAgg458
 z64:=Tryz.sizeOf458
 v64:=Tryz.zeroValue458
def iZl :Go.Shelf.Ren:=⟨fun|7=>138|10=>190|n=>n,fun|23=>51|26=>3|3=>9|28=>241|0=>0|27=>240|33=>293|4=>4|n=>n,fun|n=>n⟩
theorem kZy :Go.Proofs.SlLaysZI.n7 Tryz.prog iZl where
 mixed:=by kernel_rfl
 f7 := ⟨ "maps.Keys[map[int]string,int,string]", by decide, Tryz.func138.trans (congrArg some (by kernel_rfl))⟩
 f10 := ⟨ "maps.Keys[map[int]string,int,string]$1", by decide, Tryz.func190.trans (congrArg some (by kernel_rfl))⟩
 t0:=Tryz.underlying0
 a0:=Tryz.isAgg0
 z0:=Tryz.sizeOf0
 v0:=Tryz.zeroValue0
 t4:=Tryz.underlying4
 a4:=Tryz.isAgg4
 z4:=Tryz.sizeOf4
 v4:=Tryz.zeroValue4
 t23:=Tryz.underlying51
 a23:=Tryz.isAgg51
 z23:=Tryz.sizeOf51
 v23:=Tryz.zeroValue51
 t26:=Tryz.underlying3
 a26:=Tryz.isAgg3
 z26:=Tryz.sizeOf3
 v26:=Tryz.zeroValue3
 t27:=Tryz.underlying240
 a27:=Tryz.isAgg240
 z27:=Tryz.sizeOf240
 v27:=Tryz.zeroValue240
 t28:=Tryz.underlying241
 a28:=Tryz.isAgg241
 z28:=Tryz.sizeOf241
 v28:=Tryz.zeroValue241
 t33:=Tryz.underlying293
 a33:=Tryz.isAgg293
 z33:=Tryz.sizeOf293
 v33:=Tryz.zeroValue293
end Go.Proofs.YtlgnlghmbcpmhaaGreatDoor.Lib
namespace Go.Hw
open Go Go.Proofs Go.Proofs.YtlgnlghmbcpmhaaGreatDoor.Lib Go.RowKit Go.Maps Go.Sort Go.Shelf
open Go.WideElems (Fit rd rg)
theorem nZr :∀(N:Nat) (l:List Nat),l.Nodup->(∀ x∈l,x<N)->l.length<=N
 |0,[],_,_=>by simp
 |0,x::_,_,h=>absurd (h x (by simp)) (by omega)
 |N+1,l,hn,h=>by
  have:=nZr N (l.erase N) (hn.erase N) fun x hx=>by
   rw[hn.mem_erase_iff]at hx;have:=h x hx.2;have:=hx.1;omega
  rw[List.length_erase]at this;split at this<;>omega
structure KeysOf (m:Int->Option Value)(ks:List Int):Prop where
 up:ks.Pairwise (fun a b=>a<b)
 mem:∀ k,k∈ks↔(m k).isSome=true
theorem pZ9 {l:List (Int×Value×Nat)}{clock:Nat}{m:Int->Option Value}(h:OkK l clock m){N:Nat}(hd:∀ k,(m k).isSome=true->0<=k/\k<N):l.length<=N/\∀ x∈l,0<=x.1/\x.1<N:=by
 have hmem:∀ x∈l,0<=x.1/\x.1<N:=fun x hx=>by
  apply hd;rw[← h.get,kZZ h.nd hx];rfl
 refine⟨?_,hmem⟩;have hn:((l.map (·.1)).map Int.toNat).Nodup:=by
  rw[List.nodup_iff_pairwise_ne,List.pairwise_map];have:=h.nd;rw[List.nodup_iff_pairwise_ne]at this;refine this.imp_of_mem ?_;intro a b ha hb hne e;obtain⟨x,hx,rfl⟩:=List.mem_map.1 ha;obtain⟨y,hy,rfl⟩:=List.mem_map.1 hb;have:=hmem x hx;have:=hmem y hy;omega
 have:=nZr N _ hn fun x hx=>by
  obtain⟨y,hy,rfl⟩:=List.mem_map.1 hx;obtain⟨z,hz,rfl⟩:=List.mem_map.1 hy;have:=hmem z hz;omega
 simpa using this
def rNo :Value->Option (DataW Unit×List MemPlace):=fun _=>some (.lit (.bool true),[])
theorem vZX {P:Program}{k:TypeId}(hk:P.underlying k=some (.int .i64)){l:List (Int×Value×Nat)}{clock:Nat}{m:Int->Option Value}(h:OkK l clock m){N:Nat}(hN:N<=1048576)(hd:∀ k,(m k).isSome=true->0<=k/\k<N):
  Fit P k rNo (l.map bZz).toArray clock/\(l.map bZz).map (rg P k rNo)=l.map fun x=>(Lit.int .i64 x.1,DataW.lit (.bool true)):=by
 obtain⟨h1,h2⟩:=pZ9 h hd;have hrd:∀ x∈l,rd P k rNo (bZz x)=some (Lit.int .i64 x.1,DataW.lit (.bool true)):=fun x hx=>by
  have:=h2 x hx;have hw:(Lit.int .i64 x.1).wf=true:=by
   have e:(Lit.int .i64 x.1).wf=decide (-9223372036854775808<=x.1/\x.1<=9223372036854775807):=by
    simp[Lit.wf,IntKind.min,IntKind.max,IntKind.bits,IntKind.signed]
   rw[e,decide_eq_true_eq];omega
  refine Go.WideElems.rd_mk (yv:=(DataW.lit (.bool true),[])) (kl:=Lit.int .i64 x.1) ?_ rfl;simp[keyOf,mapKey,hk,hw]
 refine⟨⟨?_,⟨fun x hx=>?_,?_,?_⟩,fun x hx=>?_⟩,?_⟩
 ·simp only[List.size_toArray,List.length_map];exact Nat.le_trans h1 (Nat.le_trans hN (by decide))
 ·obtain⟨y,hy,rfl⟩:=List.mem_map.1 hx;exact h.bl y hy
 ·have:=h.bn;simpa [List.map_map,Function.comp_def,bZz]using this
 ·rw[List.map_map];have:=h.nd;rw[List.nodup_iff_pairwise_ne,List.pairwise_map]at this⊢;exact this.imp fun hne e=>hne (by simpa [bZz]using e)
 ·obtain⟨y,hy,rfl⟩:=List.mem_map.1 hx;exact⟨_,hrd y hy⟩
 ·rw[List.map_map];exact List.map_congr_left fun x hx=>Go.WideElems.rg_of (hrd x hx)
theorem xZU (m:Nat):AnyZI.SortsIn Tryz.prog kZM Fence.wide m:=
 ⟨fun blk off cap ss W hH hblk hsz=>callsIn_wide.2 (AnyM.slices_Sort_int vZa blk off cap ss W hH hblk hsz),fun p cap W=>callsIn_wide.2 (AnyM.slices_Sort_int_none vZa p cap W)⟩
theorem pZz (r:Nat)(H:Hp):Za Tryz.prog 138 #[.map (some r)] H fun v H'=>
  ∃ b,H b=none/\v= .func (.func 190) #[] #[V b]/\H'=H.set b (Is #[.map (some r)] 51):=fun w hw=>by
 have c:CallsIn Fence.wide 5 Tryz.prog 138 #[.map (some r)] w fun e w'=>e= .returned (.func (.func 190) #[] #[.pointer (some ⟨w.heap.size,0,none⟩)])/\w'=w.alloc (.cells #[.map (some r)] 51):=
  AnyZI.keys_in kZy Fence.wide 5 trivial rfl (some r) w
 refine(callsIn_wide.1 c).mono ?_;rintro e w' ⟨rfl,rfl⟩;obtain⟨hn,hA⟩:=(At.refl hw).new (o:=Is #[.map (some r)] 51) (x:=.cells #[.map (some r)] 51) rfl;exact⟨_,_,rfl,⟨w.heap.size,hn,rfl,rfl⟩,hA⟩
theorem nZO {r b clock:Nat}{l:List (Int×Value×Nat)}{m:Int->Option Value}(hok:OkK l clock m){N:Nat}(hN:N<=1048576)(hd:∀ k,(m k).isSome=true->0<=k/\k<N)(H:Hp)(hr:H r=some (dZj l clock))(hb:H b=some (Is #[.map (some r)] 51)):
  Za Tryz.prog 137 #[.func (.func 190) #[] #[V b]] H fun v H'=>
   ∃ ks,KeysOf m ks/\ks.length<=N/\((ks=[]/\v= .slice none 0 0/\H'=H)∨∃ b' cap,v= .slice (Io b') ks.length cap/\ks.length<=cap/\H b'=none/\H'=H.set b' (.row (ks.map (Value.int .i64)) 3 cap)):=fun w hw=>by
 have hu:Tryz.prog.underlying 3=some (.int .i64):=by kernel_rfl
 obtain⟨hfit,hrg⟩:=vZX (P:=Tryz.prog) (k:=3) hu hok hN hd;obtain⟨hlen,hmem⟩:=pZ9 hok hd;have hheap:=dZj.heap hr hw;have hbh:w.heap[b]? =some (.cells #[.map (some r)] 51 (0,0)):=by
  obtain⟨o,ho,hh⟩:=hw _ _ hb;cases hh;exact ho
 have hown:w.ownsMap Tryz.prog 3 rNo r l.length (.map ((((l.map bZz).toArray.toList).map (rg Tryz.prog 3 rNo)).foldr DataW.insert [])):=⟨_,clock,hheap,hfit,by simp,rfl⟩;rw[List.toList_toArray,hrg]at hown;have hperm:=Go.WideShapes.sorted_perm (l.map fun x=>(Lit.int .i64 x.1,(DataW.lit (.bool true):DataW Unit)));have hik:(intKeys (.map ((l.map fun x=>(Lit.int .i64 x.1,(DataW.lit (.bool true):DataW Unit))).foldr DataW.insert []))).Perm (l.map (·.1)):=by
  have:=hperm.map fun p=>intOf p.1
  rw[List.map_map]at this;exact this
 have hsize:Maps.size (DataW.map ((l.map fun x=>(Lit.int .i64 x.1,(DataW.lit (.bool true):DataW Unit))).foldr DataW.insert []))=l.length:=by
  have:=hperm.length_eq;rw[List.length_map]at this;exact this
 have hseq:SeqGives Fence.wide 2 Tryz.prog 190 #[V b] encZ (fun ss=>ss.Perm (intKeys _)) (Maps.size _) w:=
  AnyZI.keys_gives (ρ:=iZl) { kZy with} Fence.wide _ trivial rfl (by omega) b r l.length _ w (Array.getElem?_eq_some_iff.1 hbh).1 (by simp[World.cell?,hbh]) hown
 have cS:=AnyZI.sorted_in wZi Fence.wide 5 trivial trivial trivial trivial rfl (by omega) (xZU _) (enters_of Tryz.func189 (by kernel_rfl) rfl) 190 #[V b] trivial (enters_of Tryz.func190 (by kernel_rfl) rfl) _ _ (by rw[hsize];exact Nat.le_trans hlen (Nat.le_trans hN (by decide))) (by rw[hsize];omega) w hseq;change CallsIn _ _ Tryz.prog 137 _ _ _ at cS;refine(callsIn_wide.1 cS).mono ?_;rintro e w' ⟨v,ss,rfl,hS,hrow,hnil,hbel⟩;have hp:(ss.mergeSort fun x y=>decide (x<=y)).Perm (l.map (·.1)):=(List.mergeSort_perm _ _).trans (hS.trans hik);have hks:KeysOf m (ss.mergeSort fun x y=>decide (x<=y)):=by
  refine⟨?_,fun k=>?_⟩
  ·have h1:=List.pairwise_mergeSort (le:=fun x y:Int=>decide (x<=y)) (fun a b c h1 h2=>by simp only[decide_eq_true_eq]at *;omega) (fun a b=>by simp only[Bool.or_eq_true,decide_eq_true_eq];omega) ss;have h2:(ss.mergeSort fun x y=>decide (x<=y)).Nodup:=hp.nodup_iff.2 hok.nd;rw[List.nodup_iff_pairwise_ne]at h2;refine(h1.and h2).imp ?_;rintro a b ⟨h3,h4⟩;simp only[decide_eq_true_eq]at h3;omega
  ·rw[hp.mem_iff,←hok.get];constructor
   ·intro hk;obtain⟨x,hx,rfl⟩:=List.mem_map.1 hk;rw[kZZ hok.nd hx];rfl
   ·intro hk;cases hg:cZG l k with
    |none=>rw[hg]at hk;cases hk
    |some v=>
     obtain⟨b,hb⟩:=sZk hg;exact List.mem_map.2 ⟨_,hb,rfl⟩
 have hkl:(ss.mergeSort fun x y=>decide (x<=y)).length=ss.length:=List.length_mergeSort _;have hsl:ss.length<=N:=by
  rw[← hkl,hp.length_eq,List.length_map];exact hlen
 obtain⟨hxl,hcase⟩:=hrow;rcases hcase with⟨rfl,h0⟩|⟨g,cap,cur,rfl,hg,hgh,hnc,hcm,hcs,htk⟩
 ·have hss:ss=[]:=hnil.1 rfl;refine⟨_,H,rfl,⟨_,hks,by omega,.inl ⟨List.length_eq_zero_iff.1 (by rw[hkl,hss];rfl),rfl,rfl⟩⟩,?_⟩;exact⟨fun i o hi=>by
   obtain⟨o',h1,h2⟩:=hw i o hi;exact⟨o',(hbel.block i (Array.getElem?_eq_some_iff.1 h1).1).trans h1,h2⟩,hbel.size,hbel.os,hbel.tape,hbel.output,fun i hi h0=>⟨h0,hbel.block i hi⟩⟩
 ·have hgn:H g=none:=by
   cases hx:H g with
   |none=>rfl
   |some o=>
    obtain⟨o',h1,_⟩:=hw g o hx;have:=(Array.getElem?_eq_some_iff.1 h1).1;omega
  rw[Nat.mul_one]at hcs htk;refine⟨_,H.set g (.row ((ss.mergeSort fun x y=>decide (x<=y)).map (Value.int .i64)) 3 cap),rfl,⟨_,hks,by omega,.inr ⟨g,cap,by rw[hkl],by omega,hgn,rfl⟩⟩,?_⟩;refine⟨fun i o hi=>?_,hbel.size,hbel.os,hbel.tape,hbel.output,fun i hi h0=>⟨?_,hbel.block i hi⟩⟩
  ·by_cases hig:i=g
   ·subst hig;rw[Hp.set_same]at hi;cases hi;refine⟨_,hgh,cur.toList.drop ss.length,0,0,?_,?_,.inl rfl⟩
    ·rw[← htk,List.take_append_drop,Array.toArray_toList];rfl
    ·rw[← htk,List.take_append_drop,Array.length_toList];exact hcs
   ·rw[Hp.set_other _ _ hig]at hi;obtain⟨o',h1,h2⟩:=hw i o hi;exact⟨o',(hbel.block i (Array.getElem?_eq_some_iff.1 h1).1).trans h1,h2⟩
  ·rw[Hp.set_other _ _ (by omega)];exact h0
end Go.Hw
namespace Go.Proofs.YtlgnlghmbcpmhaaGreatDoor.Dsk
open Go Go.Hw Go.Form W
def Dom (d:D):Prop:=∀ k,(d.cache k).isSome=true->0<=k/\k<d.sec
theorem iZs (m:Int->Option (List UInt8))(k:Int):(bZv m k).isSome=(m k).isSome:=by unfold bZv;cases m k<;>rfl
theorem tZD {p:Nat}{d:D}(hok:Ok d)(hd:Dom d):Tr Tryz.prog 78 #[V p] [Dk p d] fun v M=>
  ∃ ks A cap,KeysOf (bZv d.cache) ks/\ks.length<=d.sec/\v= .slice A ks.length cap/\M=[Dk p d,Own 3 1 A ks.length cap (ks.map (Value.int .i64))]:=fun H hs=>by
 have hsec:=hok.sec;obtain⟨r1,r2,r3,hs⟩:=Dk.open hs;apply dZ4.ok;unfold dZ4;simp only[HS];refine hs.ld 0 rfl rfl ?_;simp only[HV];refine(pZz r3 H).mono ?_;rintro _ _ ⟨b,hb,rfl,rfl⟩;have hs:=hs.new hb (Is #[.map (some r3)] 51);obtain⟨H1,⟨l,clock,hr1,hgk⟩,hle⟩:=hs.see 3 rfl;refine(nZO hgk (N:=d.sec) (by omega) (fun k hk=>hd k (by rw[iZs]at hk;exact hk)) _ (hle _ _ hr1) (hs.get 4 rfl)).mono ?_;rintro _ _ ⟨ks,hks,hkl,⟨h0,rfl,rfl⟩|⟨b',cap,rfl,hcap,hn,rfl⟩⟩
 ·simp only[HV];subst h0;refine⟨_,⟨[],.none,0,hks,hkl,rfl,rfl⟩,?_⟩;have hs2:Sep (Own 3 1 .none 0 0 []::[pts p (iZu d r1 r2 r3),Mp r1 (bZv d.safe),Mp r2 (hZ9 d.tch),Mp r3 (bZv d.cache)]) _:=⟨fun _=>none,_,fun _ _ h=>(nomatch h),Hp.le_refl _,fun _=>.inl rfl,Own.none _ _ _,hs.re [0,1,2,3] rfl⟩;exact Dk.shut (hs2.re [1,2,3,4,0] rfl)
 ·simp only[HV];have hs2:=hs.new hn (.row (ks.map (Value.int .i64)) 3 cap);have hs3:=hs2.turn 5 (B:=Own 3 1 (Io b') ks.length cap (ks.map (Value.int .i64))) rfl fun H1 hH=>⟨by simp,.inr ⟨b',cap,rfl,hH,by omega⟩⟩
  exact⟨_,⟨ks,some (O b'),cap,hks,hkl,rfl,rfl⟩,Dk.shut (hs3.re [0,1,2,3,5] rfl)⟩
theorem oZj {p:Nat}{d:D}:Tr Tryz.prog 25 #[.pointer (some ⟨p,7,none⟩)] [Dk p d] fun v M=>v= .tuple #[]/\M=[Dk p { d with down:=true,fuse:=0}]:=fun H hs=>by
 obtain⟨r1,r2,r3,hs⟩:=Dk.open hs;apply dZK.ok;unfold dZK;simp only[HS];refine hs.st 0 rfl (by show 7<10;omega) rfl fun H hs=>?_;refine hs.st 0 rfl (by show 8<10;omega) rfl fun H hs=>?_;exact⟨_,⟨trivial,rfl⟩,Dk.shut (d:={ d with down:=true,fuse:=0}) hs⟩
theorem pZQ {p:Nat}{d:D}(n:Int):Tr Tryz.prog 23 #[.pointer (some ⟨p,7,none⟩),I n] [Dk p d] fun v M=>v= .tuple #[]/\M=[Dk p { d with fuse:=n.toNat}]:=fun H hs=>by
 obtain⟨r1,r2,r3,hs⟩:=Dk.open hs;apply dZ8.ok;unfold dZ8;simp only[HS];rw[show(if(0:Int)>n then(0:Int)else n)=((n.toNat:Nat):Int) by split<;>omega];refine hs.st 0 rfl (by show 8<10;omega) rfl fun H hs=>?_;exact⟨_,⟨trivial,rfl⟩,Dk.shut (d:={ d with fuse:=n.toNat}) hs⟩
def fZe (c:Int->Option (List UInt8)):(Int->Option (List UInt8))->List Int->List Bool->(Int->Option (List UInt8))
 |s,k::ks,b::bs=>fZe c (if b then cZJ s k ((c k).getD [])else s) ks bs
 |s,_,_=>s
def D.boot (d:D)(ks:List Int)(keep:List Bool):D:={ d with safe:=fZe d.cache d.safe ks keep,cache:=fun _=>none,down:=false}
def fZP (l:List Bool):List Value:=l.map Value.bool
theorem mZ2 (c s:Int->Option (List UInt8))(ks:List Int):fZe c s ks []=s:=by cases ks<;>rfl
theorem iZd (K:VK){p r1 r2 r3:Nat}{d:D}{A A4:OA}{n4 m n m4:Nat}{all:List Int}{keepAll:List Bool}{R:As}(hR:∀ H,R H->Cells H A (fZP keepAll))(hn:n=keepAll.length)(hn4:n4=all.length)(hn40:n4<=1048576)(hall:∀ k∈all,(d.cache k).isSome=true)(sF:Int->Option (List UInt8))
  (hK:∀ H,Sep [pts p (iZu { d with down:=false} r1 r2 r3),Mp r1 (bZv sF),Mp r2 (hZ9 d.tch),Mp r3 (bZv fun _=>none),Own 3 1 A4 n4 m4 (all.map (Value.int .i64)),R] H->K (I 0) H):
  ∀(ks:List Int) (j:Nat) (s:Int->Option (List UInt8)) (H:Hp),all.drop j=ks->j<=n4->fZe d.cache s ks (keepAll.drop j)=sF->
   Sep [pts p (iZu d r1 r2 r3),Mp r1 (bZv s),Mp r2 (hZ9 d.tch),Mp r3 (bZv d.cache),Own 3 1 A4 n4 m4 (all.map (Value.int .i64)),R] H->
   aZA.l4 K (ks.length+1) (Io p) A n m A4 n4 m4 (n4:Int) (j:Int) H
 | [],j,s,H,hd,hj,hb,hs=>by
  have hjn:j=n4:=by
   have:=congrArg List.length hd;simp at this;omega
  subst hjn;unfold aZA.l4;refine Zg (by omega) ?_;simp only[HS];refine hs.ld 0 rfl rfl ?_;simp only[HV];refine hs.clearK hZH gZy 3 rfl fun H hs=>?_;refine hs.st 0 rfl (by show 7<10;omega) rfl fun H hs=>?_;have hb':s=sF:=hb;rw[hb']at hs;exact hK H hs
 |k::ks,j,s,H,hd,hj,hb,hs=>by
  have hjl:j<all.length:=by
   have:=congrArg List.length hd;simp at this;omega
  have hget:all[j]=k:=by
   have:=List.drop_eq_getElem_cons hjl;rw[this]at hd;exact(List.cons.inj hd).1
  have hrest:all.drop (j+1)=ks:=by
   have:=List.drop_eq_getElem_cons hjl;rw[this]at hd;exact(List.cons.inj hd).2
  have hkc:=hall k (by rw[← hget];exact List.getElem_mem _);unfold aZA.l4;refine Zm (by omega) ?_;refine(hs.own 4 rfl).rd1 (v:=I k) rfl (by rw[List.getElem?_map,List.getElem?_eq_getElem hjl,hget];rfl) ?_;simp only[HV];by_cases hjk:j<n
  ·refine Zm (by omega) ?_;have hkl:j<keepAll.length:=by omega
   have hkd:keepAll.drop j=keepAll[j]::keepAll.drop (j+1):=List.drop_eq_getElem_cons hkl;rw[hkd]at hb;obtain⟨H1,hR1,hle⟩:=hs.see 5 (A:=R) rfl;refine((hR H1 hR1).le hle).read (v:=.bool keepAll[j]) (by unfold fZP;rw[List.getElem?_map,List.getElem?_eq_getElem hkl];rfl) rfl (by unfold fZP;rw[List.length_map];omega) ?_;simp only[HV];cases hbv:keepAll[j]with
   |true=>
    rw[hbv]at hb
    try simp only[HV]
    try simp only[HS]
    refine hs.ld 0 rfl rfl ?_;simp only[HV];refine hs.ld 0 rfl rfl ?_;simp only[HV];obtain⟨jz,hz1,hz2⟩:=rZA;obtain⟨H1,⟨l,clock,hr1,hgk⟩,hle⟩:=hs.see 3 rfl;refine mZz hZH gZy hz1 hz2 (hle _ _ hr1) false ?_;rw[hgk.get];cases hck:d.cache k with
    |none=>rw[hck]at hkc;cases hkc
    |some bs=>
     rw[show bZv d.cache k=some (jZW bs) by unfold bZv;rw[hck];rfl];show DS (.string ⟨bs.toArray⟩) _
     simp only[HV];refine hs.upd hZH gZy 1 rfl fun H hs=>?_;rw[show(Value.string ⟨bs.toArray⟩)=jZW bs from rfl,pZq]at hs;rw[ZM (x:=(j:Int)+1)];refine iZd K hR hn hn4 hn40 hall sF hK ks (j+1) (cZJ s k bs) H hrest (by omega) ?_ hs;rw[← hb];show _=fZe d.cache (if true then cZJ s k ((d.cache k).getD [])else s) ks _
     rw[hck];rfl
   |false=>
    rw[hbv]at hb
    try simp only[HV]
    rw[ZM (x:=(j:Int)+1)];exact iZd K hR hn hn4 hn40 hall sF hK ks (j+1) s H hrest (by omega) hb hs
  ·refine Zg (by omega) ?_;rw[ZM (x:=(j:Int)+1)];rw[List.drop_eq_nil_of_le (by omega),mZ2]at hb;refine iZd K hR hn hn4 hn40 hall sF hK ks (j+1) s H hrest (by omega) ?_ hs;rw[List.drop_eq_nil_of_le (by omega),mZ2];exact hb
theorem pZO {p:Nat}{d:D}(hok:Ok d)(hd:Dom d)(hdn:d.down=true)(A:OA)(n m:Nat)(keep:List Bool)(hn:n=keep.length)(R:As)(hR:∀ H,R H->Cells H A (fZP keep)):
  Tr Tryz.prog 26 #[V p,.slice A n m] [Dk p d,R] fun v M=>∃ ks,KeysOf (bZv d.cache) ks/\v= I 0/\M=[Dk p (D.boot d ks keep),R]:=fun H hs=>by
 have hsec:=hok.sec;obtain⟨r1,r2,r3,hp⟩:=Dk.see hs 0 rfl;apply aZA.ok;unfold aZA;simp only[HS];refine bZt hp (v:=.bool d.down) rfl ?_;rw[hdn];simp only[HV];refine(tZD hok hd).use hs [0] rfl rfl ?_;rintro _ _ H ⟨ks,A4,cap,hks,hkl,rfl,rfl⟩ hs;simp only[HV];obtain⟨r1,r2,r3,hs⟩:=Dk.open hs;refine⟨ks.length+1,?_⟩;refine iZd _ (d:=d) (A4:=A4) (m4:=cap) (all:=ks) (keepAll:=keep) (R:=R) hR hn rfl (by omega) (fun k hk=>by have:=(hks.mem k).1 hk;rw[iZs]at this;exact this) (fZe d.cache d.safe ks keep) (fun H hs=>⟨_,⟨ks,hks,rfl,rfl⟩,?_⟩) ks 0 d.safe H rfl (Nat.zero_le _) rfl hs;exact Dk.shut (d:=D.boot d ks keep) (hs.re [0,1,2,3,5] rfl)
end Go.Proofs.YtlgnlghmbcpmhaaGreatDoor.Dsk
namespace Go.Proofs.YtlgnlghmbcpmhaaGreatDoor.Dsk
open Go Go.Hw Go.Form W
theorem kZT {c:Int->Option (List UInt8)}:∀(ks:List Int) (bs:List Bool) (s:Int->Option (List UInt8)),(∀ k∈ks,(c k).isSome=true)->∀ i,fZe c s ks bs i=s i∨((c i).isSome=true/\fZe c s ks bs i=c i)
 | [],bs,s,_,i=>.inl rfl
 |k::ks,[],s,_,i=>.inl rfl
 |k::ks,b::bs,s,hk,i=>by
  have ih:=kZT ks bs (if b then cZJ s k ((c k).getD [])else s) (fun k hm=>hk k (by simp[hm])) i;show fZe c (if b then cZJ s k ((c k).getD [])else s) ks bs i=s i∨_/\fZe c (if b then cZJ s k ((c k).getD [])else s) ks bs i=c i
  rcases ih with h|h
  ·rw[h];cases b with
   |false=>exact .inl rfl
   |true=>
    by_cases e:i=k
    ·subst e;refine .inr ⟨hk i (by simp),?_⟩;have:=hk i (by simp);cases hc:c i with
     |none=>rw[hc]at this;cases this
     |some x=>simp[cZJ]
    ·exact .inl (by simp[cZJ,e])
  ·exact .inr h
theorem Ok.writeD {d:D}(h:Ok d)(i:Int)(bs:List UInt8):Ok (d.writeD i bs):=by
 unfold D.writeD;split
 ·exact h
 ·split
  ·exact h
  ·rename_i hl
   have hb:=Ok.burnt h;split
   ·exact hb
   ·unfold D.wrote;refine⟨hb.sec,hb.size,hb.big,hb.per,hb.safe,fun k b hk=>?_,hb.fz⟩;have hk':(if k=i then some bs else d.cache k)=some b:=hk;have hsz:d.burnt.size=d.size:=(cZf d).2.2.2.1;split at hk'
    ·cases hk';show bs.length=d.burnt.size;rw[hsz];omega
    ·show b.length=d.burnt.size;rw[hsz];exact h.cache k b hk'
theorem Dom.writeD {d:D}(h:Dom d)(i:Int)(bs:List UInt8):Dom (d.writeD i bs):=by
 have hbr:=cZf d;unfold D.writeD;split
 ·exact h
 ·rename_i hc
  split
  ·exact h
  ·split
   ·intro k hk;rw[hbr.2.2.2.2.2.2.1]at hk;rw[hbr.2.2.2.2.1];exact h k hk
   ·intro k hk;have hk':(if k=i then some bs else d.cache k).isSome=true:=hk;show 0<=k/\k<(d.burnt.sec:Int)
    rw[hbr.2.2.2.2.1];split at hk'
    ·rename_i e;subst e
     have:=rZ7 (d:=d) (i:=k) (by simpa using hc);omega
    ·exact h k hk'
theorem Ok.fused {d:D}(h:Ok d)(n:Nat)(hn:n<=9223372036854775807):Ok { d with fuse:=n}:=⟨h.sec,h.size,h.big,h.per,h.safe,h.cache,hn⟩
theorem Ok.boot {d:D}(h:Ok d){ks:List Int}(hk:KeysOf (bZv d.cache) ks)(keep:List Bool):Ok (D.boot d ks keep):=by
 refine⟨h.sec,h.size,h.big,h.per,fun k b hb=>?_,fun k b hb=>(by cases hb),h.fz⟩;have hb':fZe d.cache d.safe ks keep k=some b:=hb;rcases kZT ks keep d.safe (fun k hm=>by have:=(hk.mem k).1 hm;rw[iZs]at this;exact this) k with e|⟨_,e⟩
 ·rw[e]at hb';exact h.safe k b hb'
 ·rw[e]at hb';exact h.cache k b hb'
end Go.Proofs.YtlgnlghmbcpmhaaGreatDoor.Dsk
namespace Go.Proofs.YtlgnlghmbcpmhaaGreatDoor.Dsk
open Go Go.Hw Go.Form W
def eZG (s c:Int→Option (List UInt8)):Int→Option (List UInt8):=fun i=>match c i with|some b=>some b|none=>s i
theorem born_inj {l:List (Int×Value×Nat)}(h:(l.map (·.2.2)).Nodup){x y:Int×Value×Nat}(hx:x∈l)(hy:y∈l)(e:x.2.2=y.2.2):x=y:=by
 induction l with
 |nil=>simp at hx
 |cons z l ih=>
  simp only[List.map_cons,List.nodup_cons]at h;rcases List.mem_cons.1 hx with ex|hx'
  ·rcases List.mem_cons.1 hy with ey|hy'
   ·rw[ex,ey]
   ·exact absurd (by rw[← ex,e];exact List.mem_map_of_mem hy') h.1
  ·rcases List.mem_cons.1 hy with ey|hy'
   ·exact absurd (by rw[← ey,←e];exact List.mem_map_of_mem hx') h.1
   ·exact ih h.2 hx' hy'
theorem qZ1 (K:VK){r1 r2 it cl:Nat}{c s:Int->Option (List UInt8)}{l:List (Int×Value×Nat)}(hok:OkK l cl (bZv c))
  (hK:∀ H,Sep [Mp r1 (bZv (eZG s c)),pts r2 (dZj l cl)] H->K (.tuple #[]) H):
  ∀(t:Nat) (sj:Int->Option (List UInt8)) (seen:Array Nat) (last:Nat) (H:Hp),(bZV l seen).length<=t->(∀ x∈l,x.2.2<last)->(∀ i,(∀ x∈bZV l seen,x.1≠i)->sj i=eZG s c i)->
   Sep [Mp r1 (bZv sj),pts r2 (dZj l cl),pts it (eZy r2 cl seen last)] H->Zo.l1 K (t+1) (some r1) (V it) H:=fun t=>by
 induction t with
 |zero=>
  intro sj seen last H ht hlast hsj hs;unfold Zo.l1;have h0:bZV l seen=[]:=List.length_eq_zero_iff.1 (by omega);refine sZE (hs.get 2 rfl) (hs.get 1 rfl) hok.bl hlast (fun x hx=>by rw[h0]at hx;simp at hx) (fun _=>?_);simp only[Ex,List.getElem?_toArray,List.getElem?_cons_zero,jZ3,jZn];refine hK H ?_;have:sj=eZG s c:=funext fun i=>hsj i (fun x hx=>by rw[h0]at hx;simp at hx)
  rw[← this];exact hs.re [0,1] rfl
 |succ t ih=>
  intro sj seen last H ht hlast hsj hs;unfold Zo.l1;refine sZE (hs.get 2 rfl) (hs.get 1 rfl) hok.bl hlast (fun x hx=>?_) (fun h0=>?_)
  ·simp only[Ex,List.getElem?_toArray,List.getElem?_cons_zero,jZ3,oZh];have hxl:x∈l:=(List.mem_filter.1 hx).1;have hs:=hs.put 2 (eZy r2 cl (seen.push x.2.2) cl) rfl;refine vZF (hs.get 2 rfl) (hs.get 1 rfl) hxl (by simp) hok.bn ?_;simp only[Ex,List.getElem?_toArray,List.getElem?_cons_zero,List.getElem?_cons_succ];have hg:bZv c x.1=some x.2.1:=by rw[← hok.get,kZZ hok.nd hxl]
   obtain⟨b,hcb,hxb⟩:∃ b,c x.1=some b/\x.2.1=jZW b:=by
    unfold bZv at hg;cases hc:c x.1 with
    |none=>rw[hc]at hg;cases hg
    |some b=>rw[hc]at hg;exact⟨b,rfl,(Option.some.inj hg).symm⟩
   rw[hxb];show DI .i64 (I x.1) fun x1=>DS (.string ⟨b.toArray⟩) _
   simp only[HV];refine hs.upd hZH gZy 0 rfl fun H hs=>?_;rw[show(Value.string ⟨b.toArray⟩)=jZW b from rfl,pZq]at hs;have hlt:=rZw hx;refine ih (cZJ sj x.1 b) (seen.push x.2.2) cl H (by omega) hok.bl (fun i hi=>?_) hs;by_cases e:i=x.1
   ·subst e;unfold eZG cZJ;rw[hcb];simp
   ·unfold cZJ;rw[if_neg e];refine hsj i fun y hy ey=>?_
    obtain⟨hyl,hys⟩:=List.mem_filter.1 hy;have hne:y.2.2≠x.2.2:=fun e2=>e (by rw[← ey,born_inj hok.bn hyl hxl e2])
    refine hi y (List.mem_filter.2 ⟨hyl,?_⟩) ey;rw[Array.contains_push];simp only[Bool.not_eq_true',Bool.or_eq_false_iff]at hys⊢;exact⟨hys,by simpa using hne⟩
  ·simp only[Ex,List.getElem?_toArray,List.getElem?_cons_zero,jZ3,jZn];refine hK H ?_;have:sj=eZG s c:=funext fun i=>hsj i (fun x hx=>by rw[h0]at hx;simp at hx)
   rw[← this];exact hs.re [0,1] rfl
theorem uZb (r1 r2:Nat)(s c:Int->Option (List UInt8)):Tr Tryz.prog 183 #[.map (some r1),.map (some r2)] [Mp r1 (bZv s),Mp r2 (bZv c)] fun v M=>
  v= .tuple #[]/\M=[Mp r1 (bZv (eZG s c)),Mp r2 (bZv c)]:=fun H hs=>by
 have hs0:=hs;obtain⟨H1,⟨l,clock,hr1,hok⟩,hle⟩:=hs.see 1 rfl;apply Zo.ok;unfold Zo;refine vZ7 gZy (hle _ _ hr1) fun it hit=>?_
 have hs1:Sep [Mp r1 (bZv s),pts r2 (dZj l clock)] H:=hs.turn' 1 rfl fun H2 hle2 hA=>by
  obtain⟨l2,clock2,h2,_⟩:=hA;have e1:=hle2 _ _ h2;have e2:=hle _ _ hr1;rw[e1]at e2;show H2 r2=some (dZj l clock)
  rw[h2,e2]
 have hs2:=hs1.new hit (eZy r2 clock #[] clock);refine⟨l.length+1,?_⟩;refine qZ1 _ (s:=s) hok (fun H hs=>⟨_,⟨rfl,rfl⟩,hs.turn 1 rfl fun H2 hA=>⟨l,clock,hA,hok⟩⟩) l.length s #[] clock _ ?_ hok.bl (fun i hi=>?_) hs2
 ·unfold bZV;exact List.length_filter_le _ _
 ·unfold eZG;have hn:c i=none:=by
   have:cZG l i=none:=nZc.2 fun x hx=>hi x (by unfold bZV;simp[hx])
   rw[hok.get]at this;unfold bZv at this;cases hc:c i with
   |none=>rfl
   |some b=>rw[hc]at this;cases this
  rw[hn]
def D.synced (d:D):D:={ d.burnt with sy:=d.sy+1,safe:=eZG d.safe d.cache,cache:=fun _=>none}
def D.syncE (d:D):Int:=if d.down then 8 else if d.burns then 8 else 0
def D.syncD (d:D):D:=if d.down then d else if d.burns then d.burnt else d.synced
theorem hZK {p:Nat}{d:D}(hok:Ok d)(ho:d.sy<=4611686018427387904):Tr Tryz.prog 127 #[V p] [Dk p d] fun v M=>v= I d.syncE/\M=[Dk p d.syncD]:=fun H hs=>by
 have hf:=hok.fz;obtain⟨r1,r2,r3,hp⟩:=Dk.see hs 0 rfl;apply eZs.ok;unfold eZs;simp only[HS];refine bZt hp (v:=.bool d.down) rfl ?_;simp only[HV];cases hdn:d.down with
 |true=>exact aZE rfl ⟨_,⟨by simp[D.syncE,hdn],by simp[D.syncD,hdn]⟩,hs⟩
 |false=>
  refine aZe rfl ?_;refine(kZU hf).use hs [0] rfl rfl ?_;rintro _ _ H ⟨rfl,rfl⟩ hs;simp only[HV];cases hb:d.burns with
  |true=>exact aZE rfl ⟨_,⟨by simp[D.syncE,hdn,hb],by simp[D.syncD,hdn,hb];rfl⟩,hs⟩
  |false=>
   refine aZe rfl ?_;have hbr:=cZf d;obtain⟨r1,r2,r3,hs⟩:=Dk.open hs
   try simp only[HS]
   refine hs.ld 0 rfl rfl ?_;simp only[HV];refine hs.st 0 rfl (by show 5<10;omega) rfl fun H hs=>?_;rw[hbr.2.2.1]at hs;rw[ZM (x:=(d.sy:Int)+1)]at hs;refine hs.ld 0 rfl rfl ?_;simp only[HV];refine hs.ld 0 rfl rfl ?_;simp only[HV];rw[hbr.2.2.2.2.2.1,hbr.2.2.2.2.2.2.1]at hs;refine(uZb r1 r3 d.safe d.cache).use hs [1,3] rfl rfl ?_;rintro _ _ H ⟨rfl,rfl⟩ hs
   try simp only[HV]
   refine hs.ld 2 rfl rfl ?_;simp only[HV];refine hs.clearK hZH gZy 1 rfl fun H hs=>?_;refine⟨_,⟨by simp[D.syncE,hdn,hb],by simp[D.syncD,hdn,hb];rfl⟩,?_⟩;exact Dk.shut (d:=d.synced) (r1:=r1) (r2:=r2) (r3:=r3) (hs.re [2,0,3,1] rfl)
end Go.Proofs.YtlgnlghmbcpmhaaGreatDoor.Dsk
namespace Go.Proofs.YtlgnlghmbcpmhaaGreatDoor.Dsk
open Go Go.Hw Go.Form W
theorem cZ7.rdA {s:Nat}{H:Hp}{A:OA}{rows:List (List Value)}(h:cZ7 s H A rows){i:Nat}{r:List Value}(hi:rows[i]? =some r)(hr:r.length=s){x:Int}(hx:x=i){n:Nat}(hn:rows.length<=n){K:List Value->Prop}(k:K r):
  ixI x n (NN A fun a=>LdA H (a.add (x.toNat*s)) s K):=by
 obtain⟨a,rfl,hc⟩:=h i r hi;subst hx;have:=(List.getElem?_eq_some_iff.1 hi).1;refine⟨by omega,by omega,?_⟩;rw[Int.toNat_natCast];have hcells:Cells H (some (a.add (i*s))) r:=fun j v hj=>⟨_,rfl,by rw[add_add];exact hc j v hj⟩
 have:=hcells.cells?;rw[hr]at this;show LdA H (a.add (i*s)) s K
 unfold LdA;rw[this];exact k
structure Act where
 k:Int
 i:Int
 A:OA
 n:Nat
 m:Nat
 b:List UInt8
 A':OA
 n':Nat
 m':Nat
 ks:List Bool
def laidB (bs:List UInt8):List UInt8:=bs.take 32++List.replicate (32-bs.length) 0
theorem sZv (bs:List UInt8):(laidB bs).length=32:=by
 unfold laidB;rw[List.length_append,List.length_take,List.length_replicate];omega
end Go.Proofs.YtlgnlghmbcpmhaaGreatDoor.Dsk
