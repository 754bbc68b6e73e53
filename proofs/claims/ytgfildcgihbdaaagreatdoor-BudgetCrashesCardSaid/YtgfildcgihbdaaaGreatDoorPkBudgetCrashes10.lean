import Derived.Test.YtgfildcgihbdaaaGreatDoorProg
import Derived.Test.YtgfildcgihbdaaaGreatDoorPkBudgetCrashes9
set_option maxRecDepth 100000
set_option linter.unusedSimpArgs false
set_option linter.unusedVariables false
set_option linter.unnecessarySimpa false
set_option linter.unusedSectionVars false
open Go.IntKind (i64 u32)
namespace Go.Proofs.YtgfildcgihbdaaaGreatDoor
open Tryz (prog)
namespace Eng
open Go Go.Hw Go.Form W Shp Dsk Str Are Trn Pas Pln Rec Srt Rng
theorem dZA.go {g:FuncId}{args:Array Value}{H:Hp}{K:VK}(h:fZm prog g=true)(k:Za prog g args H K):dZA prog g args H K:=aZt h k
def aZG (m:Mn)(k:Nat):Mn:=m.add (cZl m k)
def bZp (m:Mn)(k:Nat)(l:List UInt64):Mn:={ aZG m k with inp:=l}.add (dZc (aZG m k) k l)
def ldR (per k:Nat):Nat:=16+wiR per k+nS per (2^k)
def ldW (per k:Nat):Nat:=2+wiW per k
section
variable {p dp : Nat} {d : D} {c : Cn} {m : Mn} {peak : Int} (hc : Clean d c) (hh : Holds d.sec d.size m c) (hS : Small 100000 m) (ho : d.rd ≤ 800000 ∧ d.wr ≤ 800000 ∧ d.sy ≤ 800000) (hpk : peak ≤ m.arena)
def iZw (p dp:Nat)(d:D)(m:Mn)(peak:Int)(l:List UInt64)(RR TT:As)(v:Value)(M:List As):Prop:=
 (∃ k i e,hZH l m.most k i e∧e≠0∧v= .tuple #[.int .i64 i,.int .i64 e]∧M=[En p dp (some (egM d m peak)),Dk dp d,RR,TT])∨
 (∃ k:Nat,lg (l.length:Int)=some k∧k≤m.most∧hZW l∧
  ((∃ d' c' peak',peak'≤(m.arena:Int)∧bZE d d' (ldR (d.size/8) k) (ldW (d.size/8) k) 3∧Clean d' c'∧Holds d.sec d.size (bZp m k l) c'∧v= .tuple #[.int .i64 0,.int .i64 0]∧M=[En p dp (some (egM d (bZp m k l) peak')),Dk dp d',RR,TT])∨
  (∃ d',Cut d d' (ldR (d.size/8) k+ldW (d.size/8) k+3)∧Left d' (fun c'=>Holds d.sec d.size m c'∨Holds d.sec d.size (aZG m k) c'∨Holds d.sec d.size (bZp m k l) c')∧v= .tuple #[.int .i64 0,.int .i64 8]∧M=[En p dp none,Dk dp d',RR,TT])))
set_option maxHeartbeats 8000000 in
include hc hh hS ho hpk in
theorem uZk {l:List UInt64}{A:OA}{n mm:Nat}{RR TT:As}(hn:n=l.length)(hnm:n≤mm)(hl20:l.length≤40000)(hR:∀ H,RR H→Cells H A (Zc l))(hT:(∀ H,TT H→T64 H)∨∀ H,RR H→T64 H):
  Tr prog 17 #[.pointer (some ⟨p,0,none⟩),.slice A n mm] [En p dp (some (egM d m peak)),Dk dp d,RR,TT] (iZw p dp d m peak l RR TT):=fun H hs=>by
 subst hn;have he:=hh.eg hpk;obtain⟨mp,ap,rp,A',m',hs⟩:=En.whole hs;apply Zi.ok;unfold Zi Zi.q3 Zi.q2 Zi.q1;refine hs.nw fun b1 H hs=>?_
 refine hs.nw fun b2 H hs=>?_
 have chk:∀(L:List As) (H:Hp) (K:VK),Sep L H→L[6]? =some RR→L[7]? =some TT→(∀ k i e,hZH l m.most k i e→K (.tuple #[.int .i64 k,.int .i64 i,.int .i64 e]) H)→
   Za prog 52 #[.slice A l.length mm,.int .i64 (m.most:Int)] H K:=fun L H K hs h6 h7 hk=>by
  obtain⟨H1,hr,hr'⟩:=hs.see 6 h6;obtain⟨H2,ht,ht'⟩:=hs.see 7 h7;refine Za.mono (qZS A l.length mm l m.most rfl (by omega) H (hT.elim (fun f=>(f _ ht).le ht') fun f=>(f _ hr).le hr') ((hR _ hr).le hr')) ?_;rintro _ _ ⟨⟨k,i,e,h,rfl⟩,rfl⟩;exact hk k i e h
 have hk0:∀{k:Nat},lg (l.length:Int)=some k→l.length=2^k:=fun h=>by have:=(dZf h).2;omega
 have hld:=hS.ld;have hpe:(egM d m peak).per=D.per d:=rfl;have j4:∀ k i e b3 H,hZH l m.most k i e→Sep [pts p (aZr dp (some mp)),pts mp (aZe (egM d m peak) ap rp A' (psE (egM d m peak)).length m'),Ar ap m.arena peak [],pts rp (ZZ dp 1 8 ((8*(egM d m peak).per:Nat):Int)),Own 126 8 A' (psE (egM d m peak)).length m' (bZx (psE (egM d m peak))),Dk dp d,RR,TT,
   pts b1 (.obj (.cells #[.pointer (some ⟨p,0,none⟩)] 36)),pts b2 (.obj (.cells #[.slice A l.length mm] 22)),pts b3 (.obj (.cells #[.int .i64 k] 3))] H→
   Zi.j4 (fun v H'=>∃ M,iZw p dp d m peak l RR TT v M∧Sep M H') ⟨b1,0,none⟩ ⟨b2,0,none⟩ i e ⟨b3,0,none⟩ H:=fun k i e b3 H hv hs=>by
  unfold Zi.j4 Zi.j4.q4 Zi.j4.q3 Zi.j4.q2 Zi.j4.q1;have bad:∀(h:e≠0),∃ M,iZw p dp d m peak l RR TT (.tuple #[.int .i64 i,.int .i64 e]) M∧Sep M H:=fun h=>
   ⟨_,.inl ⟨k,i,e,hv,h,rfl,rfl⟩,En.unwhole (L:=[Dk dp d,RR,TT]) (hs.re [0,1,2,3,4,5,6,7] rfl)⟩
  cases hv with
  |len h=>exact ZB (by decide) (bad (by decide))
  |big h h2=>exact ZB (by decide) (bad (by decide))
  |word h h2 h3=>exact ZB (by decide) (bad (by decide))
  |ok hlg hkm hcan=>
  rename_i k
  clear bad;refine Zq rfl ?_;have hkm:k≤m.most:=by omega
  have hl:=hk0 hlg;have hfin:∀ v M,((∃ d' c' peak',peak'≤(m.arena:Int)∧bZE d d' (ldR (d.size/8) k) (ldW (d.size/8) k) 3∧Clean d' c'∧Holds d.sec d.size (bZp m k l) c'∧v= .tuple #[.int .i64 0,.int .i64 0]∧M=[En p dp (some (egM d (bZp m k l) peak')),Dk dp d',RR,TT])∨
  (∃ d',Cut d d' (ldR (d.size/8) k+ldW (d.size/8) k+3)∧Left d' (fun c'=>Holds d.sec d.size m c'∨Holds d.sec d.size (aZG m k) c'∨Holds d.sec d.size (bZp m k l) c')∧v= .tuple #[.int .i64 0,.int .i64 8]∧M=[En p dp none,Dk dp d',RR,TT]))→iZw p dp d m peak l RR TT v M:=fun v M h=>.inr ⟨k,hlg,hkm,hcan,h⟩
  have j7:∀ b4 H,Sep [pts p (aZr dp (some mp)),pts mp (aZe (egM d m peak) ap rp A' (psE (egM d m peak)).length m'),Ar ap m.arena peak [],pts rp (ZZ dp 1 8 ((8*(egM d m peak).per:Nat):Int)),Own 126 8 A' (psE (egM d m peak)).length m' (bZx (psE (egM d m peak))),Dk dp d,RR,TT,
    pts b1 (.obj (.cells #[.pointer (some ⟨p,0,none⟩)] 36)),pts b2 (.obj (.cells #[.slice A l.length mm] 22)),pts b3 (.obj (.cells #[.int .i64 (k:Int)] 3)),pts b4 (bZu { cZl m k with s:=0})] H→
    Zi.j7 (fun v H'=>∃ M,iZw p dp d m peak l RR TT v M∧Sep M H') ⟨b1,0,none⟩ ⟨b2,0,none⟩ ⟨b3,0,none⟩ ⟨b4,0,none⟩ H:=fun b4 H hs=>by
   unfold Zi.j7;refine hs.nw fun b5 H hs=>?_
   refine hs.ld 8 (v:=.pointer (some ⟨p,0,none⟩)) rfl rfl ?_;simp only[HV]
   try simp only[HS]
   refine hs.ld 0 (v:=.pointer (some ⟨mp,0,none⟩)) rfl rfl ?_;simp only[HV];refine hs.nw fun b6 H hs=>?_
   try simp only[HS]
   refine hs.st 13 rfl (by show 0<1;omega) rfl fun H hs=>?_;refine hs.ld 8 (v:=.pointer (some ⟨p,0,none⟩)) rfl rfl ?_;simp only[HV];refine hs.nw fun b7 H hs=>?_
   have hs:=Me.shut (mp:=mp) (dp:=dp) (e:=egM d m peak) (ap:=ap) (rp:=rp) (A:=A') (m:=m') (L:=[pts p (aZr dp (some mp)),Dk dp d,RR,TT,pts b1 (.obj (.cells #[.pointer (some ⟨p,0,none⟩)] 36)),pts b2 (.obj (.cells #[.slice A l.length mm] 22)),pts b3 (.obj (.cells #[.int .i64 (k:Int)] 3)),pts b4 (bZu { cZl m k with s:=0}),pts b5 _,pts b6 _,pts b7 _]) (hs.re [1,2,3,4,0,5,6,7,8,9,10,11,12,13,14] rfl);apply ZE.ok;unfold ZE;refine⟨4,?_⟩;obtain⟨g1,g2,g3,g4⟩:=vZj hh hS (by omega) hkm;have hres1:bZl prog 53=[40]:=by kernel_rfl
   have hres2:bZl prog 55=[40]:=by kernel_rfl
   have hres3:bZl prog 57=[40]:=by kernel_rfl
   have bad:∀(X:As) (L':List As) (H:Hp) (d':D),Sep (X::Dk dp d'::pts p (aZr dp (some mp))::RR::TT::L') H→Cut d d' (ldR (d.size/8) k+ldW (d.size/8) k+3)→Left d' (fun c'=>Holds d.sec d.size m c'∨Holds d.sec d.size (aZG m k) c'∨Holds d.sec d.size (bZp m k l) c')→
     Za prog 59 #[.pointer (some ⟨p,0,none⟩),.int .i64 8] H fun v H'=>v= .int .i64 8∧∃ M,iZw p dp d m peak l RR TT (.tuple #[.int .i64 0,.int .i64 8]) M∧Sep M H':=fun X L' H d' hs h1 h2=>by
    have hs:Sep [X,Dk dp d',pts p (aZr dp (some mp)),RR,TT] H:=Sep.take (L:=L') hs;refine(gZc (p:=p) (dp:=dp) (mp:=mp) 8).use hs [2] rfl rfl ?_;rintro _ _ H ⟨rfl,rfl⟩ hs;exact⟨rfl,_,hfin _ _ (.inr ⟨d',h1,h2,rfl,rfl⟩),hs.re [0,2,3,4] rfl⟩
   unfold ZE.l2;refine Zn (by decide) ⟨by decide,by decide,?_⟩;simp only[HV];refine hs.ldr 11 (v:=.func (.func 53) #[] #[.pointer (some ⟨b6,0,none⟩),.pointer (some ⟨b4,0,none⟩)]) rfl rfl ?_;refine dZA.go (by kernel_rfl) ?_;rw[hres1];apply cZs.ok;unfold cZs;simp only[HV];refine hs.ld 10 (v:=.pointer (some ⟨mp,0,none⟩)) rfl rfl ?_;simp only[HV];refine hs.ldw 8 rfl rfl ?_
   try simp only[Array.toArray_toList]
   have hseq:=Mn.seq_r hh;have hR1:ldR (d.size/8) k=8+(wiR (d.size/8) k+nS (d.size/8) (2^k))+8:=by unfold ldR;omega
   have hW1:ldW (d.size/8) k=1+wiW (d.size/8) k+1:=by unfold ldW;omega
   refine(hZK (mp:=mp) (dp:=dp) (e:=egM d m peak) hc he (by omega) (r:=cZl m k) { cZl m k with s:=0} rfl hseq.symm g1 g2 (by rw[hh.lastC];exact g3) (by show(k:Int)≤m.most;omega)).use hs [0,2] rfl rfl ?_;rintro _ _ H (⟨d1,rfl,hw1,hc1,rfl⟩|⟨d',rfl,hcut,hleft,rfl⟩) hs
   rotate_left
   ·simp only[HV];refine eZd _ _ ?_;simp only[HV];refine ZB (by decide) ?_;refine Za.mono (bad _ _ H d' hs (hcut.more (by omega)) (hleft.mono fun c' h=>?_)) ?_
    ·rcases h with e|e
     ·left;rw[e];exact hh
     ·right;left;rw[e];exact g4
    ·rintro _ H ⟨rfl,M,h,hs⟩;simp only[HV];exact⟨M,h,hs⟩
   simp only[HV];refine eZd _ _ ?_;simp only[HV];refine Zq rfl ?_;rw[show i64.wrap ((0:Int)+1)=1 by kernel_rfl];unfold ZE.l2;refine Zn (by decide) ⟨by decide,by decide,?_⟩;simp only[HV];refine hs.ldr 11 (v:=.func (.func 55) #[] #[.pointer (some ⟨b6,0,none⟩),.pointer (some ⟨b1,0,none⟩),.pointer (some ⟨b3,0,none⟩),.pointer (some ⟨b2,0,none⟩),.pointer (some ⟨b5,0,none⟩)]) rfl rfl ?_;refine dZA.go (by kernel_rfl) ?_;rw[hres2];apply cZt.ok;unfold cZt;simp only[HV];refine hs.ld 10 (v:=.pointer (some ⟨mp,0,none⟩)) rfl rfl ?_;simp only[HV];refine hs.ld 5 (v:=.pointer (some ⟨p,0,none⟩)) rfl rfl ?_;simp only[HV]
   try simp only[HS]
   refine hs.ld 2 (v:=.pointer (some ⟨dp,0,none⟩)) rfl rfl ?_;simp only[HV];refine hs.ld 7 (v:=.int .i64 (k:Int)) rfl rfl ?_;simp only[HV];refine hs.ld 6 (v:=.slice A l.length mm) rfl rfl ?_;simp only[HV];have h1r:(aZG m k).r=cZl m k:=Mn.add_r _ _;have hh1:Holds d1.sec d1.size (aZG m k) (bZn c (aZN 1 8 (cZl m k).s) ((cZl m k).form d.size)):=by rw[hw1.sec,hw1.size];exact g4
   have ee:{ egM d m peak with r:=cZl m k}=egM d1 (aZG m k) peak:=by unfold egM;rw[h1r,hw1.sec,hw1.size];rfl
   rw[ee]at hs;have he1:=hh1.eg (peak:=peak) hpk;generalize hc1e:bZn c (aZN 1 8 (cZl m k).s) ((cZl m k).form d.size)=c1 at*;obtain⟨ap2,rp2,A2,m2,hs⟩:=Me.open hs;have hs:Sep [pts mp (aZe (egM d1 (aZG m k) peak) ap2 rp2 A2 (psE (egM d1 (aZG m k) peak)).length m2),Ar ap2 m.arena peak [],pts rp2 (ZZ dp 1 8 ((8*(egM d1 (aZG m k) peak).per:Nat):Int)),Own 126 8 A2 (psE (egM d1 (aZG m k) peak)).length m2 (bZx (psE (egM d1 (aZG m k) peak))),Dk dp d1,pts p (aZr dp (some mp)),RR,TT,
    pts b1 (.obj (.cells #[.pointer (some ⟨p,0,none⟩)] 36)),pts b2 (.obj (.cells #[.slice A l.length mm] 22)),pts b3 (.obj (.cells #[.int .i64 (k:Int)] 3)),pts b4 (bZu { cZl m k with s:=0}),pts b5 _,pts b6 _,pts b7 _] H:=hs
   have hkk:=dZu (k:=k) (by have:=he.most;have:m.most≤32:=this;omega);have hrd1:=hw1.rd;have hwr1:=hw1.wr;have hsy1:=hw1.sy;refine(tZK (mp:=mp) (dp:=dp) (ap:=ap2) (rp:=rp2) (e:=egM d1 (aZG m k) peak) (A:=A2) (n:=(psE (egM d1 (aZG m k) peak)).length) (mm:=m2) (d:=d1) (c:=c1) (k:=k) (l:=l) (R:=RR) hc1 he1 hkm (by omega) hl rfl hnm hR).use hs [0,1,4,6] rfl rfl ?_;have hp1:D.per d1=d.size/8:=hw1.per;have htgt:∀ c',Sam (inX (exX m.most (D.per d1) 0 k)) c1 c'→Holds d1.sec d1.size (aZG m k) c':=fun c' h=>
    hh1.target (t:=0) (k:=k) hkm (fun r hr h2=>by rw[aZG,Mn.add_last]at hr;cases hr;exact absurd h2 (show ¬(2:Int)≤1 by omega)) (fun r hr h4=>by rw[aZG,Mn.add_last]at hr;cases hr;exact absurd h4 (show ¬(1:Int)=4 by omega)) h
   rintro _ _ H ⟨pk2,hpk2,(⟨d2,c2,hw2,hc2,hsam,hcw,rfl,rfl⟩|⟨d',x,hcut,hleft,rfl,rfl⟩)⟩ hs
   rotate_left
   ·simp only[HV]
    try simp only[HS]
    refine hs.st 12 rfl (by show 0<1;omega) rfl fun H hs=>?_;refine eZd _ _ ?_;simp only[HV];refine ZB (by decide) ?_;rw[hp1]at hcut;refine Za.mono (bad _ _ H d' (hs.re [0,2,6,3,7] rfl) ((hw1.cut hcut).more (by omega)) (hleft.mono fun c' h=>?_)) ?_
    ·right;left;have:=htgt c' h;rw[hw1.sec,hw1.size]at this;exact this
    ·rintro _ H ⟨rfl,M,h,hs⟩;simp only[HV];exact⟨M,h,hs⟩
   simp only[HV]
   try simp only[HS]
   refine hs.st 12 rfl (by show 0<1;omega) rfl fun H hs=>?_;refine eZd _ _ ?_;simp only[HV];refine Zq rfl ?_;rw[show i64.wrap ((1:Int)+1)=2 by kernel_rfl];unfold ZE.l2;refine Zn (by decide) ⟨by decide,by decide,?_⟩;simp only[HV];have ee2:{ egM d1 (aZG m k) peak with peak:=pk2}=egM d2 (aZG m k) pk2:=by unfold egM;rw[hw2.sec,hw2.size]
   have hs:Sep (gZD mp dp ap2 rp2 { egM d1 (aZG m k) peak with peak:=pk2} A2 (psE { egM d1 (aZG m k) peak with peak:=pk2}).length m2++[Dk dp d2,pts p (aZr dp (some mp)),RR,TT,
    pts b1 (.obj (.cells #[.pointer (some ⟨p,0,none⟩)] 36)),pts b2 (.obj (.cells #[.slice A l.length mm] 22)),pts b3 (.obj (.cells #[.int .i64 (k:Int)] 3)),pts b4 (bZu { cZl m k with s:=0}),pts b5 _,pts b6 _,pts b7 _]) H:=hs.re [0,1,4,5,2,6,3,7,8,9,10,11,12,13,14] rfl
   have hs:=Me.shut hs;rw[ee2]at hs;have hh2:Holds d2.sec d2.size (aZG m k) c2:=by rw[hw2.sec,hw2.size];exact htgt c2 hsam
   have hS1:Small 100001 (aZG m k):=hS.add (by show m.r.ld+1≤_;omega);have h1kd:(aZG m k).r.kd=1:=by rw[h1r];rfl
   have h1kk:(aZG m k).r.kk=k:=by rw[h1r];rfl
   have hsz2:d2.size/8=D.per d1:=by rw[hw2.size];rfl
   obtain⟨q1,q2,q3,q4⟩:=uZK hh2 hS1 (by omega) h1kd h1kk hl hcan (by rw[hsz2];exact hcw);have hrd2:=hw2.rd;have hwr2:=hw2.wr;have hsy2:=hw2.sy;have hb1:=oZB (D.per d1) k;have hb2:=oZC (D.per d1) k;have hpd1:=Ok.per_le hc1.ok;have hb3:=qZa (per:=D.per d1) (w:=2^k) (by omega) (Nat.two_pow_pos k);have elr:dZc (aZG m k) k l=⟨(aZG m k).seq,2,k,0,0,m.r.ld+1,eZX l,0⟩:=by unfold dZc;rw[h1r];rfl
   have hseq2:=Mn.seq_r hh2;refine hs.ldr 11 (v:=.func (.func 57) #[] #[.pointer (some ⟨b5,0,none⟩),.pointer (some ⟨b4,0,none⟩),.pointer (some ⟨b6,0,none⟩)]) rfl rfl ?_;refine dZA.go (by kernel_rfl) ?_;rw[hres3];apply aZ6.ok;unfold aZ6 aZ6.q1;have fin3:∀ H,Sep [Me mp dp (egM d2 (aZG m k) pk2),Dk dp d2,pts p (aZr dp (some mp)),RR,TT,
    pts b1 (.obj (.cells #[.pointer (some ⟨p,0,none⟩)] 36)),pts b2 (.obj (.cells #[.slice A l.length mm] 22)),pts b3 (.obj (.cells #[.int .i64 (k:Int)] 3)),pts b4 (bZu { dZc (aZG m k) k l with s:=0})] H→
     Za prog 54 #[.pointer (some ⟨mp,0,none⟩),.agg (R.c { dZc (aZG m k) k l with s:=0})] H fun v H'=>∃ x:Int,v= .int .i64 x∧((x=0∧∃ M,iZw p dp d m peak l RR TT (.tuple #[.int .i64 0,.int .i64 0]) M∧Sep M H')∨(x=8∧∃(X:As) (L':List As) (d':D),Sep (X::Dk dp d'::pts p (aZr dp (some mp))::RR::TT::L') H'∧Cut d d' (ldR (d.size/8) k+ldW (d.size/8) k+3)∧Left d' (fun c'=>Holds d.sec d.size m c'∨Holds d.sec d.size (aZG m k) c'∨Holds d.sec d.size (bZp m k l) c'))):=fun H hs=>by
    refine(hZK (mp:=mp) (dp:=dp) (e:=egM d2 (aZG m k) pk2) hc2 (hh2.eg hpk2) (by omega) (r:=dZc (aZG m k) k l) { dZc (aZG m k) k l with s:=0} rfl hseq2.symm q1 q2 (by rw[hh2.lastC];exact q3) (by show(k:Int)≤m.most;omega)).use hs [0,1] rfl rfl ?_;rintro _ _ H (⟨d3,rfl,hw3,hc3,rfl⟩|⟨d',rfl,hcut,hleft,rfl⟩) hs
    ·refine⟨0,rfl,.inl ⟨rfl,_,hfin _ _ (.inl ⟨d3,_,pk2,hpk2,?_,hc3,?_,rfl,rfl⟩),?_⟩⟩
     ·have:=(hw1.trans hw2).trans hw3;rw[hp1]at this;rw[hR1,hW1];exact this
     ·have:=q4;rw[hw2.sec,hw2.size,hw1.sec,hw1.size]at this;rw[hw2.size,hw1.size];exact this
     ·have e3:egM d (bZp m k l) pk2={ egM d2 (aZG m k) pk2 with r:=dZc (aZG m k) k l}:=by
       unfold bZp egM;rw[Mn.add_r,hw2.sec,hw2.size,hw1.sec,hw1.size];rfl
      rw[e3];exact En.shut (L:=[Dk dp d3,RR,TT]) (hs.re [2,0,1,3,4] rfl)
    ·refine⟨8,rfl,.inr ⟨rfl,_,_,d',hs,?_,hleft.mono fun c' h=>?_⟩⟩
     ·have:=(hw1.trans hw2).cut hcut;rw[hp1]at this;exact this.more (by omega)
     ·rw[hw2.sec,hw2.size,hw1.sec,hw1.size]at q4 hh2;rw[hw2.size,hw1.size]at h;rcases h with e|e
      ·right;left;rw[e];exact hh2
      ·right;right;rw[e];exact q4
   constructor
   ·refine hs.ld 9 (v:=.int .u32 (eZX l:Int)) rfl rfl ?_;simp only[HV]
    try simp only[HS]
    refine hs.st 8 rfl (by show 1<8;omega) rfl fun H hs=>?_
    try simp only[HS]
    refine hs.st 8 rfl (by show 6<8;omega) rfl fun H hs=>?_;refine hs.ld 10 (v:=.pointer (some ⟨mp,0,none⟩)) rfl rfl ?_;simp only[HV];refine hs.ldw 8 rfl rfl ?_
    try simp only[Array.toArray_toList]
    have hs:=hs.re [0,1,2,3,4,5,6,7,8] rfl;have ff:=fin3 H;rw[elr]at ff;refine Za.mono (ff hs) ?_;rintro _ H ⟨x,rfl,(⟨rfl,M,h,hs⟩|⟨rfl,X,L',d',hs,h1,h2⟩)⟩
    ·simp only[HV];refine eZd _ _ ?_;simp only[HV];refine Zq rfl ?_;rw[show i64.wrap ((2:Int)+1)=3 by kernel_rfl];unfold ZE.l2;refine Zh (by decide) ?_;simp only[HV];exact⟨M,h,hs⟩
    ·simp only[HV];refine eZd _ _ ?_;simp only[HV];refine ZB (by decide) ?_;refine Za.mono (bad X L' H d' hs h1 h2) ?_;rintro _ H ⟨rfl,M,h,hs⟩;simp only[HV];exact⟨M,h,hs⟩
   ·try simp only[HS]
    refine hs.st 8 rfl (by show 1<8;omega) rfl fun H hs=>?_;refine hs.ld 9 (v:=.int .u32 (eZX l:Int)) rfl rfl ?_;simp only[HV]
    try simp only[HS]
    refine hs.st 8 rfl (by show 6<8;omega) rfl fun H hs=>?_;refine hs.ld 10 (v:=.pointer (some ⟨mp,0,none⟩)) rfl rfl ?_;simp only[HV];refine hs.ldw 8 rfl rfl ?_
    try simp only[Array.toArray_toList]
    have hs:=hs.re [0,1,2,3,4,5,6,7,8] rfl;have ff:=fin3 H;rw[elr]at ff;refine Za.mono (ff hs) ?_;rintro _ H ⟨x,rfl,(⟨rfl,M,h,hs⟩|⟨rfl,X,L',d',hs,h1,h2⟩)⟩
    ·simp only[HV];refine eZd _ _ ?_;simp only[HV];refine Zq rfl ?_;rw[show i64.wrap ((2:Int)+1)=3 by kernel_rfl];unfold ZE.l2;refine Zh (by decide) ?_;simp only[HV];exact⟨M,h,hs⟩
    ·simp only[HV];refine eZd _ _ ?_;simp only[HV];refine ZB (by decide) ?_;refine Za.mono (bad X L' H d' hs h1 h2) ?_;rintro _ H ⟨rfl,M,h,hs⟩;simp only[HV];exact⟨M,h,hs⟩
  have ewp:u32.wrap ((m.r.ld:Int)+1)=((m.r.ld+1:Nat):Int):=by rw[wZf (by omega) (by omega)];rfl
  repeat' first
   |(rw[ewp]at hs;exact j7 _ _ hs)
   |refine hs.ld 8 (v:=.pointer (some ⟨p,0,none⟩)) rfl rfl ?_
   |refine hs.ld 10 (v:=.int .i64 (k:Int)) rfl rfl ?_
   |refine hs.ld 0 (v:=.pointer (some ⟨mp,0,none⟩)) rfl rfl ?_
   |refine hs.ld 1 (v:=.int .u32 (m.r.ld:Int)) rfl rfl ?_
   |refine hs.nw fun b H hs=>?_
   |refine hs.stw 11 rfl rfl rfl rfl fun H hs=>?_
   |(simp only[HV];try simp only[HS])
   |refine⟨?_,?_⟩
 refine hs.ld 8 (v:=.pointer (some ⟨p,0,none⟩)) rfl rfl ?_;simp only[HV]
 try simp only[HS]
 refine hs.ld 0 (v:=.pointer (some ⟨mp,0,none⟩)) rfl rfl ?_;simp only[HV];refine aZb rfl ?_
 repeat' first
  |exact j4 _ _ _ _ _ hv hs
  |refine hs.ld 9 (v:=.slice A l.length mm) rfl rfl ?_
  |refine hs.ld 8 (v:=.pointer (some ⟨p,0,none⟩)) rfl rfl ?_
  |refine hs.ld 0 (v:=.pointer (some ⟨mp,0,none⟩)) rfl rfl ?_
  |refine hs.ld 1 (v:=.int .i64 (m.most:Int)) rfl rfl ?_
  |refine chk _ _ _ hs rfl rfl fun k i e hv=>?_
  |refine hs.nw fun b H hs=>?_
  |refine hs.st 10 rfl Nat.zero_lt_one rfl fun H hs=>?_
  |(simp only[HV];try simp only[HS])
  |refine⟨?_,?_⟩
end
end Eng
namespace Sup
open Go Go.Hw Go.Form W Lay
theorem qZu (k sec s ar:Int)(h:aZX k sec s ar=true)(hsec:sec≤9223372036854775807):aZW (bZQ k sec s ar)=((k,sec,s,ar),0):=by
 have hg:=h;unfold aZX at hg;simp only[decide_eq_true_eq]at hg;obtain⟨h1,h2,h3,h4,h5,h6⟩:=hg;obtain⟨kn,rfl⟩:=Int.eq_ofNat_of_zero_le h1;have hlen:=iZG kn sec s ar h3;have hlog:=hZ8 s;have hll:=rZD s;have hw:∀(i:Nat) (hi:i<4),Zs (bZQ kn sec s ar) (8*i)=((gZT kn sec s ar)[i]'(by rw[iZH];exact hi)).toNat:=fun i hi=>eZS (by rw[iZH];exact hi) _
 have hf64:bZo kn s<2^64:=by unfold bZo;omega
 have w0:Zs (bZQ kn sec s ar) 0=bZo kn s:=(hw 0 (by omega)).trans (eZA hf64);have w1:Zs (bZQ kn sec s ar) 8=sec.toNat:=(hw 1 (by omega)).trans (eZA (by omega));have w2:Zs (bZQ kn sec s ar) 16=ar.toNat:=(hw 2 (by omega)).trans (eZA (by omega));have hcr:lZP (bZo kn s) sec.toNat ar.toNat=(Go.Crc.sum (form (fZ4 kn sec s ar))).toNat:=rfl;have hsum:=(Go.Crc.sum (form (fZ4 kn sec s ar))).isLt;have w3:Zs (bZQ kn sec s ar) 24=lZP (bZo kn s) sec.toNat ar.toNat:=(hw 3 (by omega)).trans (by rw[hcr];exact eZA (by omega));have hz:iZb (bZQ kn sec s ar)=true:=by
  unfold iZb bZQ;rw[List.drop_left' (by rw[aZ0,iZH])];simp
 have hf1:bZo kn s/4294967296=1094861123:=by unfold bZo;omega
 have hf2:bZo kn s/65536%65536=kn:=by unfold bZo;omega
 have hf3:((bZo kn s%65536:Nat):Int)=cZq s:=by unfold bZo;omega
 have hsb:eZl (bZQ kn sec s ar)=((kn:Int),sec,s,ar):=by
  unfold eZl;rw[w0,w1,w2,hf2,hlen,ZL (by omega) (by omega),ZL (by omega) (by omega),show((sec.toNat:Nat):Int)=sec by omega,show((ar.toNat:Nat):Int)=ar by omega]
 unfold aZW;rw[hlen,hsb,w0,w1,w2,w3,if_neg (by omega),if_neg (by simp[hf1,hz]),if_neg (by simp),if_pos ⟨h,hf3⟩]
end Sup
namespace Eng
open Go Go.Hw Go.Form W Shp Dsk Str Are Trn Pas Pln Rec Srt Rng
def inF (n:Nat)(i:Int):Prop:=1≤i∧i<((1+n:Nat):Int)
theorem sZo {d:D}(hl:d.down=false)(hf:d.fuse≠1)(k:Int)(b:List UInt8)(i:Int):(d.wrote k b).now i=if i=k then b else d.now i:=by
 unfold D.wrote;rw[dZ4 hl hf];unfold D.now cZr;by_cases h:i=k
 ·simp only[if_pos h];rfl
 ·simp only[if_neg h];rfl
theorem mZl {d0:D}{c:Cn}(h:Clean d0 c){n:Nat}(hn:1+n≤d0.sec):∀(k i:Nat) (d:D),i+k=n→Prog (inF n) d0 d 0 i→(∀ j:Nat,j<i→d.now ((1+j:Nat):Int)=List.replicate d0.size 0)→
  (∃ d' c',iZr 1 k i d=(0,d')∧bZE d0 d' 0 n 1∧Clean d' c'∧Sam (inF n) c c'∧∀ j:Nat,j<n→c' ((1+j:Nat):Int)=List.replicate d0.size 0)∨
  (∃ d',iZr 1 k i d=(8,d')∧Cut d0 d' (n+1)∧Left d' (Sam (inF n) c))
 |0,i,d,hi,hP,hz=>by
  have hS:∀ i,inF n i→0≤i∧i<d0.sec:=fun i hi=>⟨by have:=hi.1;omega,by have:=hi.2;omega⟩
  have e:i=n:=by omega
  subst e;have hsam:Sam (inF i) c d.now:=fun j hj=>(h.prog hP j).2 hj
  rcases h.sync hP hS with⟨s1,s2,s3⟩|⟨s1,s2,s3⟩
  ·exact .inl ⟨_,_,by show(d.syncE,d.syncD)=_;rw[s1],s2,s3,hsam,hz⟩
  ·exact .inr ⟨_,by show(d.syncE,d.syncD)=_;rw[s1],s2.more (by omega),s3.mono fun _ h=>h.2⟩
 |k+1,i,d,hi,hP,hz=>by
  have hS:∀ i,inF n i→0≤i∧i<d0.sec:=fun i hi=>⟨by have:=hi.1;omega,by have:=hi.2;omega⟩
  have hsec:=hP.sec;have hsize:=hP.size;have hchk:d.chk ((1+i:Nat):Int)=0:=gZe hP.down (Int.natCast_nonneg _) (by rw[hsec];omega);have hin:inF n ((1+i:Nat):Int):=⟨by omega,by omega⟩;have hlen:(List.replicate d.size (0:UInt8)).length=d.size:=List.length_replicate;unfold iZr;by_cases hf:d.fuse=1
  ·have hbn:d.burns=true:=by unfold D.burns;simp[hf]
   have e1:d.writeE ((1+i:Nat):Int) d.size=8:=by unfold D.writeE;rw[if_neg (by rw[hchk];simp),if_neg (by simp),hbn];rfl
   have e2:d.writeD ((1+i:Nat):Int) (List.replicate d.size 0)=D.dead d:=by unfold D.writeD;rw[if_neg (by rw[hchk];simp),if_neg (by simp[hlen]),hbn,eZv hf];rfl
   rw[e1,e2,if_pos (by decide)];have hD:=hP.dead (cZi.one (inF n) hP.ok hf);have h1:=hP.fuse;have h2:=hP.go;exact .inr ⟨_,rfl,h.deadCut hD hS (by omega) (by omega),h.deadLeft hD⟩
  ·have hbn:d.burns=false:=by unfold D.burns;exact decide_eq_false hf
   have e1:d.writeE ((1+i:Nat):Int) d.size=0:=by unfold D.writeE;rw[if_neg (by rw[hchk];simp),if_neg (by simp),hbn];rfl
   have e2:d.writeD ((1+i:Nat):Int) (List.replicate d.size 0)=d.wrote ((1+i:Nat):Int) (List.replicate d.size 0):=by unfold D.writeD;rw[if_neg (by rw[hchk];simp),if_neg (by simp[hlen]),hbn];rfl
   rw[e1,e2,if_neg (by simp)];have hW:=Prog.wrote (S:=inF n) hP.ok hP.down hf hin hlen;have hT:=hP.trans hW;refine mZl h hn k (i+1) _ (by omega) hT fun j hj=>?_
   rw[sZo hP.down hf];by_cases e:j=i
   ·rw[e,if_pos rfl,hsize]
   ·rw[if_neg (by omega)];exact hz j (by omega)
def cZb (k words:Nat):Mn:=⟨k,words,[],[]⟩
theorem qZb {sec size k words:Nat}{c:Cn}(hg:Sup.aZX k sec size words=true)(hl:aZ1 k (size/8)≤words)(h0:c 0=Sup.bZQ k sec size words)(hz:∀ j:Nat,j<8→c ((1+j:Nat):Int)=List.replicate size 0):Holds sec size (cZb k words) c:=
 ⟨h0,hg,hl,Log.nil,fun i hi=>hz i hi,fun r hr=>(by cases hr),fun r hr=>(by cases hr),fun r hr=>(by cases hr)⟩
def bZC (sec per:Nat)(k words:Int):Int:=if words<1∨words>16777216∨k<0∨k>32 then 1 else if(sec:Int)<Lay.cZa k.toNat per then 7 else if words<aZ1 k.toNat per then 6 else 0
theorem uZD {p dp:Nat}{mo:Option Nat}{d:D}(hok:Ok d)(hpn:0<Lay.ZP (d.size:Int))(k words:Int):Tr prog 40 #[.pointer (some ⟨p,0,none⟩),.int .i64 k,.int .i64 words] [pts p (aZr dp mo),Dk dp d] fun v M=>v= .int .i64 (bZC d.sec (d.size/8) k words)∧M=[pts p (aZr dp mo),Dk dp d]:=fun H hs=>by
 have hper:=dZU hpn;apply Zy.ok;unfold Zy Zy.q3 Zy.q2 Zy.q1;have fin:∀(x:Int) (H:Hp) (T:List As),x=bZC d.sec (d.size/8) k words→Sep ([pts p (aZr dp mo),Dk dp d]++T) H→∃ M,(Value.int .i64 x= .int .i64 (bZC d.sec (d.size/8) k words)∧M=[pts p (aZr dp mo),Dk dp d])∧Sep M H:=fun x H T hx hs=>⟨_,⟨by rw[hx],rfl⟩,Sep.take hs⟩
 by_cases h1:words<1
 ·exact Zn h1 (fin 1 H [] (by unfold bZC;rw[if_pos (.inl h1)]) hs)
 refine Zh h1 ?_;by_cases h2:words>16777216
 ·exact Zn h2 (fin 1 H [] (by unfold bZC;rw[if_pos (.inr (.inl h2))]) hs)
 refine Zh h2 ?_;have j4:∀ b H,Sep [pts p (aZr dp mo),Dk dp d,pts b (.obj (.cells (Lay.OfV k d.sec d.size).1 90))] H→Zy.j4 (fun v H'=>∃ M,(v= .int .i64 (bZC d.sec (d.size/8) k words)∧M=[pts p (aZr dp mo),Dk dp d])∧Sep M H') k words ⟨b,0,none⟩ (Lay.OfV k d.sec d.size).2 H:=fun b H hs=>by
  unfold Zy.j4;unfold Lay.OfV at hs⊢;by_cases h3:0≤k∧k≤32
  ·have h3':0≤k∧k≤32∧0<Lay.ZP d.size:=⟨h3.1,h3.2,hpn⟩;rw[if_pos h3']at hs⊢;by_cases h4:(d.sec:Int)<Lay.cZa k.toNat (Lay.ZP d.size)
   ·rw[if_pos h4]at hs⊢;refine ZB (by decide) (fin 7 H _ ?_ hs);unfold bZC;rw[if_neg (by omega),if_pos (by rw[← hper.1];exact h4)]
   ·rw[if_neg h4]at hs⊢;refine Zq rfl ?_
    try simp only[HS]
    refine hs.ld 2 (v:=.int .i64 ((Lay.ZP d.size:Nat):Int)) rfl rfl ?_;simp only[HV];obtain⟨kn,rfl⟩:=Int.eq_ofNat_of_zero_le h3.1;have hpB:bZZ ((Lay.ZP d.size:Nat):Int)=true:=by rw[hper.1];exact jZg hpn
    refine Za.use (sZD (k:=kn) (per:=Lay.ZP d.size) (by omega) hpB H) ?_;simp only[HV];refine Zq rfl ?_;rw[hper.1]at h4;have h4':¬(d.sec:Int)<Lay.cZa (kn:Int).toNat (d.size/8):=h4;by_cases h5:words<(aZ1 kn (Lay.ZP d.size):Int)
    ·refine Zn h5 (fin 6 H _ ?_ hs);unfold bZC;rw[if_neg (by omega),if_neg h4',if_pos (by rw[← hper.1];exact h5)]
    ·refine Zh h5 (fin 0 H _ ?_ hs);unfold bZC;rw[if_neg (by omega),if_neg h4',if_neg (by rw[← hper.1];exact h5)]
  ·rw[if_neg (fun h=>h3 ⟨h.1,h.2.1⟩)]at hs⊢;refine ZB (by decide) (fin 1 H _ ?_ hs);unfold bZC;rw[if_pos (by omega)]
 try simp only[HS]
 have hsz:∀(H:Hp) (T:List As) (K:Value→Prop),Sep ([pts p (aZr dp mo),Dk dp d]++T) H→K (.int .i64 (d.sec:Int))→ZM prog 41 #[.pointer (some ⟨dp,0,none⟩)] H K:=fun H T K hs h=>ZM.use (eZs hs 1 rfl) h
 have hsy:∀(H:Hp) (T:List As) (K:Value→Prop),Sep ([pts p (aZr dp mo),Dk dp d]++T) H→K (.int .i64 (d.size:Int))→ZM prog 42 #[.pointer (some ⟨dp,0,none⟩)] H K:=fun H T K hs h=>ZM.use (hZn hs 1 rfl) h
 have hof:∀(H:Hp) (K:Value→Prop),K (.tuple #[.agg (Lay.OfV k d.sec d.size).1,.int .i64 (Lay.OfV k d.sec d.size).2])→ZM prog 70 #[.int .i64 k,.int .i64 (d.sec:Int),.int .i64 (d.size:Int)] H K:=fun H K h=>ZM.use (Lay.eZn k d.sec d.size H) h
 have hS1:(Lay.OfV k d.sec d.size).1.size=17:=Sup.kZh k d.sec d.size
 repeat' first
  |exact j4 _ _ hs
  |refine hs.ld 0 (v:=.pointer (some ⟨dp,0,none⟩)) rfl rfl ?_
  |refine hsz _ [] _ hs ?_
  |refine hsy _ [] _ hs ?_
  |refine hsz _ [_] _ hs ?_
  |refine hsy _ [_] _ hs ?_
  |refine hof _ _ ?_
  |refine hs.nw fun b H hs=>?_
  |refine hs.stw 2 rfl rfl (Sup.kZh _ _ _) (Sup.oZ5 _ _ _) fun H hs=>?_
  |(simp only[HV];try simp only[HS])
  |refine⟨?_,?_⟩
theorem rZz (k p:Nat):Lay.bZF k p=#[.int .i64 (k:Int),.int .i64 (p:Int),.int .i64 1,.int .i64 8,.int .i64 ((8*p:Nat):Int),.int .i64 9,.int .i64 (Lay.ZI k p:Int),.int .i64 ((2^k:Nat):Int),.int .i64 (9+(Lay.ZI k p:Int)),.int .i64 (Lay.ZI k p:Int),.int .i64 ((2^k:Nat):Int),.int .i64 (9+2*(Lay.ZI k p:Int)),.int .i64 (Lay.ZI k p:Int),.int .i64 ((2^k:Nat):Int),.int .i64 (9+3*(Lay.ZI k p:Int)),.int .i64 (Lay.ZI k p:Int),.int .i64 ((2^k:Nat):Int)]:=rfl
theorem pZn {dp:Nat}{d:D}{k ar:Nat}(hok:Ok d)(hg:Sup.aZX (k:Int) d.sec d.size (ar:Int)=true):
  Tr prog 43 #[.pointer (some ⟨dp,0,none⟩),.agg (Sup.bZi k d.sec d.size ar)] [Dk dp d] fun v M=>∃ mp ap rp,v= .tuple #[.pointer (some ⟨mp,0,none⟩),.int .i64 0]∧M=[pts mp (aZe ⟨k,d.sec,d.size,ar,aZ9,0⟩ ap rp .none 0 0),Ar ap ar 0 [],pts rp (ZZ dp 1 8 ((8*(d.size/8):Nat):Int)),Dk dp d]:=fun H hs=>by
 have hgo:=dZe hg;have hper:=dZU hgo.2.1;have hlay:Sup.aZX (k:Int) d.sec d.size (ar:Int)=true→(if Sup.aZX (k:Int) d.sec d.size (ar:Int)=true then Value.tuple #[.agg (Lay.bZF (k:Int).toNat (Lay.ZP d.size)),.int .i64 0]else .tuple #[.agg Lay.lZT,.int .i64 1])= .tuple #[.agg (Lay.bZF k (d.size/8)),.int .i64 0]:=fun h=>by rw[if_pos h,Int.toNat_natCast,hper.1]
 have hext:lZR d 1 8=true:=decide_eq_true (by have:=hgo.2.2.1;unfold Lay.cZa at this;omega);have hL:=Sup.mZb (k:Int) d.sec d.size (ar:Int);rw[hlay hg]at hL;apply bZv.ok;unfold bZv bZv.q1;refine hs.nw fun b1 H hs=>?_
 refine hs.ldw 1 rfl rfl ?_;refine Za.use (hL H) ?_;simp only[HV];refine hs.nw fun b2 H hs=>?_
 refine hs.stw 2 rfl rfl rfl rfl fun H hs=>?_;refine Zq rfl ?_
 try simp only[HS]
 refine hs.lda 2 (off:=2) (n:=3) rfl (by show 2+3≤17;omega) ?_;refine(Rng.dZM (p:=dp) (d:=d) hok 1 8 ((8*(d.size/8):Nat):Int) (by omega)).use hs [0] rfl rfl ?_;rintro _ _ H (⟨_,rp,rfl,rfl⟩|⟨h,_⟩) hs
 rotate_left
 ·rw[hext]at h;cases h
 simp only[HV];refine Zq rfl ?_;have hs:Sep [Dk dp d,pts rp (ZZ dp 1 8 ((8*(d.size/8):Nat):Int)),pts b1 (.obj (.cells #[.int .i64 k,.int .i64 d.sec,.int .i64 d.size,.int .i64 ar] 27)),pts b2 (.obj (.cells (Lay.bZF k (d.size/8)) 90))] H:=hs;rw[rZz]at hs
 try simp only[HS]
 refine hs.ld 2 (v:=.int .i64 (ar:Int)) rfl rfl ?_;simp only[HV];have fin:∀(mp ap:Nat) (T:List As) (H:Hp),Sep ([Ar ap ar 0 [],Dk dp d,pts rp (ZZ dp 1 8 ((8*(d.size/8):Nat):Int))]++T++[pts mp (aZe ⟨k,d.sec,d.size,ar,aZ9,0⟩ ap rp .none 0 0)]) H→
   ∃ M,(∃ mp' ap' rp',(Value.tuple #[.pointer (some ⟨mp,0,none⟩),.int .i64 0])= .tuple #[.pointer (some ⟨mp',0,none⟩),.int .i64 0]∧M=[pts mp' (aZe ⟨k,d.sec,d.size,ar,aZ9,0⟩ ap' rp' .none 0 0),Ar ap' ar 0 [],pts rp' (ZZ dp 1 8 ((8*(d.size/8):Nat):Int)),Dk dp d])∧Sep M H:=fun mp ap T H hs=>by
  have h1:Sep ([pts mp (aZe ⟨k,d.sec,d.size,ar,aZ9,0⟩ ap rp .none 0 0)]++([Ar ap ar 0 [],Dk dp d,pts rp (ZZ dp 1 8 ((8*(d.size/8):Nat):Int))]++T)) H:=Sep.perm List.perm_append_comm hs;have h2:Sep [pts mp (aZe ⟨k,d.sec,d.size,ar,aZ9,0⟩ ap rp .none 0 0),Ar ap ar 0 [],Dk dp d,pts rp (ZZ dp 1 8 ((8*(d.size/8):Nat):Int))] H:=Sep.take (L:=T) h1;exact⟨_,⟨mp,ap,rp,rfl,rfl⟩,h2.re [0,1,3,2] rfl⟩
 have har:(1:Int)≤(ar:Int)∧(ar:Int)≤16777216:=hgo.2.2.2
 repeat' first
  |exact fin _ _ [_,_] _ hs
  |refine hs.ldw 2 rfl rfl ?_
  |refine hs.ldw 3 rfl rfl ?_
  |refine hs.ldw 4 rfl rfl ?_
  |(refine(Are.dZM (ar:Int) har).use hs [] rfl rfl ?_;rintro _ _ H ⟨ap,rfl,rfl⟩ hs)
  |refine hs.nw fun b H hs=>?_
  |(simp only[HV];try simp only[HS])
  |refine⟨?_,?_⟩
theorem Sep.unit {L:List As}{H:Hp}{X:As}(hs:Hw.Sep L H)(hX:X fun _=>none):Hw.Sep (X::L) H:=⟨fun _=>none,H,fun _ _ h=>(nomatch h),Hp.le_refl _,fun _=>.inl rfl,hX,hs⟩
theorem En.ptr {p dp:Nat}{g:Option Eg}{L:List As}{H:Hp}(h:Sep (En p dp g::L) H):∃ mo X,Sep (pts p (aZr dp mo)::X::L) H∧∀ L' H',Sep (pts p (aZr dp mo)::X::L') H'→Sep (En p dp g::L') H':=by
 cases g with
 |none=>exact⟨none,fun _=>True,(Sep.unit (X:=fun _=>True) h trivial).swap,fun L' H' h=>h.swap.tail⟩
 |some e=>
  obtain⟨mp,h⟩:=En.open h;exact⟨some mp,Me mp dp e,h,fun L' H' h=>En.shut h⟩
theorem Me.bare {mp dp ap rp:Nat}{e:Eg}{L:List As}{H:Hp}(h:Sep ([pts mp (aZe e ap rp .none 0 0),Ar ap e.arena e.peak [],pts rp (ZZ dp 1 8 ((8*e.per:Nat):Int))]++L) H)(hp:psE e=[]):Sep (Me mp dp e::L) H:=by
 have h1:Sep (Own 126 8 .none 0 0 []::([pts mp (aZe e ap rp .none 0 0),Ar ap e.arena e.peak [],pts rp (ZZ dp 1 8 ((8*e.per:Nat):Int))]++L)) H:=Sep.unit h (Own.none _ _ _);have h2:Sep ([pts mp (aZe e ap rp .none 0 0),Ar ap e.arena e.peak [],pts rp (ZZ dp 1 8 ((8*e.per:Nat):Int))]++(Own 126 8 .none 0 0 []::L)) H:=Sep.perm List.perm_middle.symm h1;refine Me.shut (ap:=ap) (rp:=rp) (A:=.none) (m:=0) ?_;unfold gZD;rw[hp];exact h2
theorem tZf {e:Eg}(h:e.r=aZ9):psE e=[]:=by unfold psE;rw[if_neg (by rw[h];decide)]
theorem rZf {d:D}(hpn:0<Lay.ZP (d.size:Int)){k words:Int}(h:bZC d.sec (d.size/8) k words=0):∃ kn wn:Nat,k=kn∧words=wn∧Sup.aZX kn d.sec d.size wn=true∧aZ1 kn (d.size/8)≤wn:=by
 have hper:=dZU hpn;unfold bZC at h;split at h
 ·cases h
 rename_i h1
 split at h
 ·cases h
 rename_i h2
 split at h
 ·cases h
 rename_i h3
 obtain⟨kn,rfl⟩:=Int.eq_ofNat_of_zero_le (show 0≤k by omega);obtain⟨wn,rfl⟩:=Int.eq_ofNat_of_zero_le (show 0≤words by omega);refine⟨kn,wn,rfl,rfl,decide_eq_true ?_,?_⟩
 ·rw[hper.1];have h2':¬(d.sec:Int)<Lay.cZa kn (d.size/8):=h2;refine⟨by omega,by omega,by omega,?_,by omega,by omega⟩;show(Lay.cZa kn (d.size/8):Int)≤d.sec
  omega
 ·have h3':¬(wn:Int)<aZ1 kn (d.size/8):=h3;omega
def nZb (p dp:Nat)(g:Option Eg)(d:D)(c:Cn)(k words:Int)(v:Value)(M:List As):Prop:=
 (bZC d.sec (d.size/8) k words≠0∧v= .int .i64 (bZC d.sec (d.size/8) k words)∧M=[En p dp g,Dk dp d])∨
 (∃ kn wn:Nat,k=kn∧words=wn∧bZC d.sec (d.size/8) k words=0∧
  ((∃ d' c',bZE d d' 0 10 3∧Clean d' c'∧Holds d.sec d.size (cZb kn wn) c'∧v= .int .i64 0∧M=[En p dp (some (egM d (cZb kn wn) 0)),Dk dp d'])∨
  (∃ d',Cut d d' 13∧Left d' (fun c'=>c'=c∨lZI d.size c'∨Holds d.sec d.size (cZb kn wn) c')∧v= .int .i64 8∧M=[En p dp none,Dk dp d'])))
set_option maxHeartbeats 8000000 in
theorem qZM {p dp:Nat}{g:Option Eg}{d:D}{c:Cn}(hc:Clean d c)(hpn:0<Lay.ZP (d.size:Int))(ho:d.rd≤800000∧d.wr≤800000∧d.sy≤800000)(k words:Int):
  Tr prog 14 #[.pointer (some ⟨p,0,none⟩),.int .i64 k,.int .i64 words] [En p dp g,Dk dp d] (nZb p dp g d c k words):=fun H hs=>by
 have hok:=hc.ok;have hper:=dZU hpn;obtain⟨mo,X,hs,hback⟩:=En.ptr hs;apply Ze.ok;unfold Ze Ze.q5 Ze.q4 Ze.q3 Ze.q2 Ze.q2.q1 Ze.q1 Ze.q1.q2 Ze.q1.q1;refine hs.nw fun b1 H hs=>?_
 have hs:Sep [pts p (aZr dp mo),X,Dk dp d,pts b1 (.obj (.cells #[.pointer (some ⟨p,0,none⟩)] 36))] H:=hs;refine hs.ld 3 (v:=.pointer (some ⟨p,0,none⟩)) rfl rfl ?_;simp only[HV];refine(uZD (p:=p) (dp:=dp) (mo:=mo) hok hpn k words).use hs [0,2] rfl rfl ?_;rintro _ _ H ⟨rfl,rfl⟩ hs;simp only[HV];by_cases hfit:bZC d.sec (d.size/8) k words=0
 rotate_left
 ·exact ZB hfit ⟨_,.inl ⟨hfit,rfl,rfl⟩,hback [Dk dp d] _ (hs.re [0,2,1] rfl)⟩
 rw[hfit];refine Zq rfl ?_;obtain⟨kn,wn,rfl,rfl,hg,hlw⟩:=rZf hpn hfit;have hgo:=dZe hg;have hneed:9≤d.sec:=by have:=hgo.2.2.1;unfold Lay.cZa at this;omega
 have hs:Sep [pts p (aZr dp mo),Dk dp d,X,pts b1 (.obj (.cells #[.pointer (some ⟨p,0,none⟩)] 36))] H:=hs;have hzl:(List.replicate d.size (0:UInt8)).length=d.size:=List.length_replicate;have bad:∀(H:Hp) (d':D),Sep [Dk dp d',pts p (aZr dp mo)] H→Cut d d' 13→Left d' (fun c'=>c'=c∨lZI d.size c'∨Holds d.sec d.size (cZb kn wn) c')→
   Za prog 59 #[.pointer (some ⟨p,0,none⟩),.int .i64 8] H fun v H'=>v= .int .i64 8∧∃ M,nZb p dp g d c kn wn (.int .i64 8) M∧Sep M H':=fun H d' hs h1 h2=>by
  have hk:Za prog 59 #[.pointer (some ⟨p,0,none⟩),.int .i64 8] H fun v H'=>∃ M,(v= .int .i64 8∧M=[pts p (aZr dp none),Dk dp d'])∧Sep M H':=by
   apply bZd.ok;unfold bZd;refine ZV rfl ?_
   try simp only[HS]
   refine hs.st 1 rfl (by show 1<2;omega) rfl fun H hs=>?_;exact⟨_,⟨by first|rfl|trivial,rfl⟩,hs.re [1,0] rfl⟩
  refine Za.mono hk ?_;rintro _ H ⟨_,⟨rfl,rfl⟩,hs⟩;exact⟨rfl,_,.inr ⟨kn,wn,rfl,rfl,hfit,.inr ⟨d',h1,h2,rfl,rfl⟩⟩,hs⟩
 have j6:∀ mp ap rp b2 H,Sep [pts mp (aZe ⟨kn,d.sec,d.size,wn,aZ9,0⟩ ap rp .none 0 0),Ar ap wn 0 [],pts rp (ZZ dp 1 8 ((8*(d.size/8):Nat):Int)),Dk dp d,pts p (aZr dp mo),X,pts b1 (.obj (.cells #[.pointer (some ⟨p,0,none⟩)] 36)),pts b2 (.obj (.cells (Sup.bZi kn d.sec d.size wn) 27))] H→
   Ze.j6 (fun v H'=>∃ M,nZb p dp g d c kn wn v M∧Sep M H') ⟨b1,0,none⟩ ⟨b2,0,none⟩ (some ⟨mp,0,none⟩) 0 H:=fun mp ap rp b2 H hs=>by
  unfold Ze.j6;refine Zq rfl ?_;refine hs.ld 6 (v:=.pointer (some ⟨p,0,none⟩)) rfl rfl ?_;simp only[HV];refine hs.ld 6 (v:=.pointer (some ⟨p,0,none⟩)) rfl rfl ?_;simp only[HV]
  try simp only[HS]
  refine hs.ld 4 (v:=.pointer (some ⟨dp,0,none⟩)) rfl rfl ?_;simp only[HV]
  try simp only[HS]
  refine hs.ld 0 (v:=.pointer (some ⟨rp,0,none⟩)) rfl rfl ?_;simp only[HV];refine hs.nw fun b3 H hs=>?_
  have hres1:bZl prog 44=[40]:=by kernel_rfl
  have hres2:bZl prog 47=[40]:=by kernel_rfl
  have hres3:bZl prog 48=[40]:=by kernel_rfl
  have hres4:bZl prog 49=[40]:=by kernel_rfl
  apply ZE.ok;unfold ZE;refine⟨5,?_⟩;unfold ZE.l2;refine Zn (by decide) ⟨by decide,by decide,?_⟩;simp only[HV];refine hs.ldr 8 (v:=.func (.func 44) #[] #[.pointer (some ⟨b1,0,none⟩)]) rfl rfl ?_;refine dZA.go (by kernel_rfl) ?_;rw[hres1];have hsz32:=hok.size;have f1:∀(A3:As) (H:Hp),Sep [pts mp (aZe ⟨kn,d.sec,d.size,wn,aZ9,0⟩ ap rp .none 0 0),Ar ap wn 0 [],pts rp (ZZ dp 1 8 ((8*(d.size/8):Nat):Int)),Dk dp d,pts p (aZr dp mo),X,pts b1 (.obj (.cells #[.pointer (some ⟨p,0,none⟩)] 36)),pts b2 (.obj (.cells (Sup.bZi kn d.sec d.size wn) 27)),A3] H→Za prog 44 #[.pointer (some ⟨b1,0,none⟩)] H fun v H=>v= .int .i64 (d.writeE 0 d.size)∧Sep [Dk dp (d.writeD 0 (List.replicate d.size 0)),pts mp (aZe ⟨kn,d.sec,d.size,wn,aZ9,0⟩ ap rp .none 0 0),Ar ap wn 0 [],pts rp (ZZ dp 1 8 ((8*(d.size/8):Nat):Int)),pts p (aZr dp mo),X,pts b1 (.obj (.cells #[.pointer (some ⟨p,0,none⟩)] 36)),pts b2 (.obj (.cells (Sup.bZi kn d.sec d.size wn) 27)),A3] H:=fun A3 H hs=>by
   apply bZ7.ok;unfold bZ7;simp only[HV];refine hs.ld 6 (v:=.pointer (some ⟨p,0,none⟩)) rfl rfl ?_;simp only[HV]
   try simp only[HS]
   refine hs.ld 4 (v:=.pointer (some ⟨dp,0,none⟩)) rfl rfl ?_;simp only[HV]
   try simp only[HS]
   refine ZM.use (hZn hs 3 rfl) ?_;simp only[HV];have wr1:∀(b4:Nat) (H:Hp),Sep [pts mp (aZe ⟨kn,d.sec,d.size,wn,aZ9,0⟩ ap rp .none 0 0),Ar ap wn 0 [],pts rp (ZZ dp 1 8 ((8*(d.size/8):Nat):Int)),Dk dp d,pts p (aZr dp mo),X,pts b1 (.obj (.cells #[.pointer (some ⟨p,0,none⟩)] 36)),pts b2 (.obj (.cells (Sup.bZi kn d.sec d.size wn) 27)),A3,pts b4 (.row (aZq [Value.int .u8 0] d.size) 5 (d.size*1))] H→
     Za prog 45 #[.pointer (some ⟨dp,0,none⟩),.int .i64 0,.slice (some ⟨b4,0,none⟩) d.size d.size] H fun v H=>v= .int .i64 (d.writeE 0 d.size)∧Sep [Dk dp (d.writeD 0 (List.replicate d.size 0)),pts mp (aZe ⟨kn,d.sec,d.size,wn,aZ9,0⟩ ap rp .none 0 0),Ar ap wn 0 [],pts rp (ZZ dp 1 8 ((8*(d.size/8):Nat):Int)),pts p (aZr dp mo),X,pts b1 (.obj (.cells #[.pointer (some ⟨p,0,none⟩)] 36)),pts b2 (.obj (.cells (Sup.bZi kn d.sec d.size wn) 27)),A3] H:=fun b4 H hs=>by
    rw[eZT]at hs;refine(dZ2 (p:=dp) (d:=d) hok (by omega) 0 (some ⟨b4,0,none⟩) d.size d.size (List.replicate d.size 0) hzl.symm (pts b4 (.row (Zm (List.replicate d.size 0)) 5 (d.size*1))) (fun H h=>?_)).use hs [3,9] rfl rfl ?_
    ·have:=Cells.row h 0 d.size;rw[List.drop_zero,List.take_of_length_le (by rw[ZJ,hzl];exact Nat.le_refl _)]at this;exact this
    rintro _ _ H ⟨rfl,rfl⟩ hs;exact⟨rfl,hs.re [0,2,3,4,5,6,7,8,9] rfl⟩
   have done:∀(v:Value) (H:Hp),(v= .int .i64 (d.writeE 0 d.size)∧Sep [Dk dp (d.writeD 0 (List.replicate d.size 0)),pts mp (aZe ⟨kn,d.sec,d.size,wn,aZ9,0⟩ ap rp .none 0 0),Ar ap wn 0 [],pts rp (ZZ dp 1 8 ((8*(d.size/8):Nat):Int)),pts p (aZr dp mo),X,pts b1 (.obj (.cells #[.pointer (some ⟨p,0,none⟩)] 36)),pts b2 (.obj (.cells (Sup.bZi kn d.sec d.size wn) 27)),A3] H)→DI .i64 v fun x1=>(Value.int .i64 x1= .int .i64 (d.writeE 0 d.size)∧Sep [Dk dp (d.writeD 0 (List.replicate d.size 0)),pts mp (aZe ⟨kn,d.sec,d.size,wn,aZ9,0⟩ ap rp .none 0 0),Ar ap wn 0 [],pts rp (ZZ dp 1 8 ((8*(d.size/8):Nat):Int)),pts p (aZr dp mo),X,pts b1 (.obj (.cells #[.pointer (some ⟨p,0,none⟩)] 36)),pts b2 (.obj (.cells (Sup.bZi kn d.sec d.size wn) 27)),A3] H):=fun v H ⟨h1,h2⟩=>by
    subst h1;simp only[HV];exact⟨by trivial,h2⟩
   repeat' first
    |exact Za.mono (wr1 _ _ hs) done
    |refine hs.ld 6 (v:=.pointer (some ⟨p,0,none⟩)) rfl rfl ?_
    |refine hs.ld 4 (v:=.pointer (some ⟨dp,0,none⟩)) rfl rfl ?_
    |refine hs.mks eZi rfl (n:=d.size) (m:=d.size) rfl rfl (Nat.le_refl _) (by omega) (by omega) fun b4 H hs=>?_
    |(simp only[HV];try simp only[HS])
    |refine⟨?_,?_⟩
  have hp1:=jZh hc 0 (by omega) (List.replicate d.size 0) hzl;have bare0:∀ c:Cn,lZI d.size (bZn c (0:Nat) (List.replicate d.size 0)):=fun c=>jZT c 0 _
  refine Za.mono (f1 _ H hs) ?_;rintro _ H ⟨rfl,hs⟩;refine eZd _ _ ?_;simp only[HV];by_cases hw1:d.writeE 0 d.size=0
  rotate_left
  ·have e1:gZR d (0:Nat) (List.replicate d.size 0)=(d.writeE 0 d.size,d.writeD 0 (List.replicate d.size 0)):=by unfold gZR;exact if_pos hw1
   rw[e1]at hp1;rcases hp1 with⟨d',⟨h,_⟩|⟨h,hcut,hleft⟩⟩
   ·exact absurd (congrArg Prod.fst h) hw1
   ·have h8:=congrArg Prod.fst h;have hd:=congrArg Prod.snd h;simp only at h8 hd;rw[h8];rw[hd]at hs;refine ZB (by decide) ?_;refine Za.mono (bad H d' (hs.re [0,4] rfl) (hcut.more (by omega)) (hleft.mono fun c' h=>?_)) ?_
    ·rcases h with e|e
     ·exact .inl e
     ·right;left;rw[e];exact bare0 c
    ·rintro _ H ⟨rfl,M,h,hs⟩;simp only[HV];exact⟨M,h,hs⟩
  refine Zq hw1 ?_;rw[show i64.wrap ((0:Int)+1)=1 by kernel_rfl];unfold ZE.l2;refine Zn (by decide) ⟨by decide,by decide,?_⟩;simp only[HV];refine hs.ldr 8 (v:=.func (.func 47) #[.pointer (some ⟨dp,0,none⟩)] #[]) rfl rfl ?_;refine dZA.go (by kernel_rfl) ?_;rw[hres2];have hwd:(d.writeD 0 (List.replicate d.size 0)).sy=d.sy:=(mZX d 0 _).1;have hwok:Ok (d.writeD 0 (List.replicate d.size 0)):=Ok.writeD hok 0 _;have e1:gZR d (0:Nat) (List.replicate d.size 0)=((d.writeD 0 (List.replicate d.size 0)).syncE,(d.writeD 0 (List.replicate d.size 0)).syncD):=by unfold gZR;exact if_neg (fun h=>h hw1)
  rw[e1]at hp1;have sy1:∀(A3:As) (H:Hp),Sep [Dk dp (d.writeD 0 (List.replicate d.size 0)),pts mp (aZe ⟨kn,d.sec,d.size,wn,aZ9,0⟩ ap rp .none 0 0),Ar ap wn 0 [],pts rp (ZZ dp 1 8 ((8*(d.size/8):Nat):Int)),pts p (aZr dp mo),X,pts b1 (.obj (.cells #[.pointer (some ⟨p,0,none⟩)] 36)),pts b2 (.obj (.cells (Sup.bZi kn d.sec d.size wn) 27)),A3] H→Za prog 47 #[.pointer (some ⟨dp,0,none⟩)] H fun v H=>v= .int .i64 (d.writeD 0 (List.replicate d.size 0)).syncE∧Sep [Dk dp (d.writeD 0 (List.replicate d.size 0)).syncD,pts mp (aZe ⟨kn,d.sec,d.size,wn,aZ9,0⟩ ap rp .none 0 0),Ar ap wn 0 [],pts rp (ZZ dp 1 8 ((8*(d.size/8):Nat):Int)),pts p (aZr dp mo),X,pts b1 (.obj (.cells #[.pointer (some ⟨p,0,none⟩)] 36)),pts b2 (.obj (.cells (Sup.bZi kn d.sec d.size wn) 27)),A3] H:=fun A3 H hs=>by
   refine(hZf (p:=dp) (d:=d.writeD 0 (List.replicate d.size 0)) hwok (by rw[hwd];omega)).use hs [0] rfl rfl ?_;rintro _ _ H ⟨rfl,rfl⟩ hs;exact⟨rfl,hs⟩
  refine Za.mono (sy1 _ H hs) ?_;rintro _ H ⟨rfl,hs⟩;refine eZd _ _ ?_;simp only[HV];rcases hp1 with⟨d1,⟨h,hw1',hc1⟩|⟨h,hcut,hleft⟩⟩
  rotate_left
  ·have h8:=congrArg Prod.fst h;have hd:=congrArg Prod.snd h;simp only at h8 hd;rw[h8];rw[hd]at hs;refine ZB (by decide) ?_;refine Za.mono (bad H d1 (hs.re [0,4] rfl) (hcut.more (by omega)) (hleft.mono fun c' h=>?_)) ?_
   ·rcases h with e|e
    ·exact .inl e
    ·right;left;rw[e];exact bare0 c
   ·rintro _ H ⟨rfl,M,h,hs⟩;simp only[HV];exact⟨M,h,hs⟩
  have h8:=congrArg Prod.fst h;have hd:=congrArg Prod.snd h;simp only at h8 hd;rw[h8];rw[hd]at hs;clear h8 hd h e1;refine Zq rfl ?_;rw[show i64.wrap ((1:Int)+1)=2 by kernel_rfl];unfold ZE.l2;refine Zn (by decide) ⟨by decide,by decide,?_⟩;simp only[HV];refine hs.ldr 8 (v:=.func (.func 48) #[.pointer (some ⟨rp,0,none⟩)] #[]) rfl rfl ?_;refine dZA.go (by kernel_rfl) ?_;rw[hres3];have hrd1:=hw1'.rd;have hwr1:=hw1'.wr;have hsy1:=hw1'.sy;have hsec1:=hw1'.sec;have hsize1:=hw1'.size;generalize hcc1:bZn c (0:Nat) (List.replicate d.size 0)=c1 at*;have hb1:lZI d.size c1:=by rw[← hcc1];exact bare0 c
  have cl1:∀(A3:As) (H:Hp),Sep [Dk dp d1,pts mp (aZe ⟨kn,d.sec,d.size,wn,aZ9,0⟩ ap rp .none 0 0),Ar ap wn 0 [],pts rp (ZZ dp 1 8 ((8*(d.size/8):Nat):Int)),pts p (aZr dp mo),X,pts b1 (.obj (.cells #[.pointer (some ⟨p,0,none⟩)] 36)),pts b2 (.obj (.cells (Sup.bZi kn d.sec d.size wn) 27)),A3] H→Za prog 48 #[.pointer (some ⟨rp,0,none⟩)] H fun v H=>v= .int .i64 (iZr 1 8 0 d1).1∧Sep [Dk dp (iZr 1 8 0 d1).2,pts mp (aZe ⟨kn,d.sec,d.size,wn,aZ9,0⟩ ap rp .none 0 0),Ar ap wn 0 [],pts rp (ZZ dp 1 8 ((8*(d.size/8):Nat):Int)),pts p (aZr dp mo),X,pts b1 (.obj (.cells #[.pointer (some ⟨p,0,none⟩)] 36)),pts b2 (.obj (.cells (Sup.bZi kn d.sec d.size wn) 27)),A3] H:=fun A3 H hs=>by
   refine(sZx (b:=rp) (p:=dp) (f:=1) (n:=8) (w:=((8*(d.size/8):Nat):Int)) (by omega) hc1.ok (by omega) (by omega)).use hs [0,3] rfl rfl ?_;rintro _ _ H ⟨rfl,rfl⟩ hs;exact⟨rfl,hs.re [0,2,3,1,4,5,6,7,8] rfl⟩
  refine Za.mono (cl1 _ H hs) ?_;rintro _ H ⟨rfl,hs⟩;refine eZd _ _ ?_;simp only[HV];have hnot0:¬inF 8 0:=fun h=>by have:=h.1;omega
  rcases mZl hc1 (n:=8) (by rw[hsec1];omega) 8 0 d1 rfl (Prog.refl _ hc1.ok hc1.down) (fun j hj=>absurd hj (by omega))with⟨d2,c2,h,hw2,hc2,hsam2,hz2⟩|⟨d2,h,hcut,hleft⟩
  rotate_left
  ·rw[h]at hs⊢;refine ZB (show(8:Int)≠0 by decide) ?_;refine Za.mono (bad H d2 (hs.re [0,4] rfl) ((hw1'.cut hcut).more (by omega)) (hleft.mono fun c' h=>?_)) ?_
   ·right;left;show c' 0=_
    rw[h 0 hnot0];exact hb1
   ·rintro _ H ⟨rfl,M,h,hs⟩;simp only[HV];exact⟨M,h,hs⟩
  rw[h]at hs⊢;refine Zq rfl ?_;rw[show i64.wrap ((2:Int)+1)=3 by kernel_rfl];unfold ZE.l2;refine Zn (by decide) ⟨by decide,by decide,?_⟩;simp only[HV];refine hs.ldr 8 (v:=.func (.func 49) #[] #[.pointer (some ⟨b1,0,none⟩),.pointer (some ⟨b2,0,none⟩)]) rfl rfl ?_;refine dZA.go (by kernel_rfl) ?_;rw[hres4];have hrd2:=hw2.rd;have hwr2:=hw2.wr;have hsy2:=hw2.sy;have hsec2:=hw2.sec;have hsize2:=hw2.size;have hs2:d2.size=d.size:=hsize2.trans hsize1;have hc20:lZI d.size c2:=by show c2 0=_;rw[hsam2 0 hnot0];exact hb1
  have hfl:(Sup.bZQ kn d.sec d.size wn).length=d2.size:=by have:=Sup.iZG kn d.sec d.size wn hpn;omega
  have hwv:Sup.wrV d2 kn d.sec d.size wn=gZR d2 (0:Nat) (Sup.bZQ kn d.sec d.size wn):=by
   have e0:Sup.ofB d2 d.sec d.size=true:=decide_eq_true ⟨by rw[hsec2,hsec1],by rw[hs2]⟩;unfold Sup.wrV gZR;rw[if_neg (by rw[hg,e0];simp),Int.toNat_natCast,←hs2];rfl
  have hnew:Holds d.sec d.size (cZb kn wn) (bZn c2 (0:Nat) (Sup.bZQ kn d.sec d.size wn)):=by
   refine qZb hg hlw (jZT c2 0 _) fun j hj=>?_
   rw[iZj _ _ (by omega),hz2 j hj,hsize1]
  have f2:∀(A3:As) (H:Hp),Sep [Dk dp d2,pts mp (aZe ⟨kn,d.sec,d.size,wn,aZ9,0⟩ ap rp .none 0 0),Ar ap wn 0 [],pts rp (ZZ dp 1 8 ((8*(d.size/8):Nat):Int)),pts p (aZr dp mo),X,pts b1 (.obj (.cells #[.pointer (some ⟨p,0,none⟩)] 36)),pts b2 (.obj (.cells (Sup.bZi kn d.sec d.size wn) 27)),A3] H→Za prog 49 #[.pointer (some ⟨b1,0,none⟩),.pointer (some ⟨b2,0,none⟩)] H fun v H=>v= .int .i64 (gZR d2 (0:Nat) (Sup.bZQ kn d.sec d.size wn)).1∧Sep [Dk dp (gZR d2 (0:Nat) (Sup.bZQ kn d.sec d.size wn)).2,pts mp (aZe ⟨kn,d.sec,d.size,wn,aZ9,0⟩ ap rp .none 0 0),Ar ap wn 0 [],pts rp (ZZ dp 1 8 ((8*(d.size/8):Nat):Int)),pts p (aZr dp mo),X,pts b1 (.obj (.cells #[.pointer (some ⟨p,0,none⟩)] 36)),pts b2 (.obj (.cells (Sup.bZi kn d.sec d.size wn) 27)),A3] H:=fun A3 H hs=>by
   apply bZ8.ok;unfold bZ8;simp only[HV];refine hs.ld 6 (v:=.pointer (some ⟨p,0,none⟩)) rfl rfl ?_;simp only[HV]
   try simp only[HS]
   refine hs.ld 4 (v:=.pointer (some ⟨dp,0,none⟩)) rfl rfl ?_;simp only[HV];refine hs.ldw 7 rfl rfl ?_
   try simp only[Array.toArray_toList]
   refine(Sup.rZ2 (p:=dp) (d:=d2) hc2.ok (by omega) kn d.sec d.size wn (by have:=hok.sec;omega)).use hs [0] rfl rfl ?_;rintro _ _ H ⟨rfl,rfl⟩ hs;rw[hwv]at hs⊢;simp only[HV];exact⟨by trivial,hs⟩
  refine Za.mono (f2 _ H hs) ?_;rintro _ H ⟨rfl,hs⟩;refine eZd _ _ ?_;simp only[HV];rcases jZh hc2 0 (by rw[hsec2,hsec1];omega) (Sup.bZQ kn d.sec d.size wn) hfl with⟨d3,⟨h,hw3,hc3⟩|⟨h,hcut,hleft⟩⟩
  rotate_left
  ·rw[h]at hs⊢;refine ZB (show(8:Int)≠0 by decide) ?_;refine Za.mono (bad H d3 (hs.re [0,4] rfl) (((hw1'.trans hw2).cut hcut).more (by omega)) (hleft.mono fun c' h=>?_)) ?_
   ·rcases h with e|e
    ·right;left;rw[e];exact hc20
    ·right;right;rw[e];exact hnew
   ·rintro _ H ⟨rfl,M,h,hs⟩;simp only[HV];exact⟨M,h,hs⟩
  rw[h]at hs⊢;refine Zq rfl ?_;rw[show i64.wrap ((3:Int)+1)=4 by kernel_rfl];unfold ZE.l2;refine Zh (by decide) ?_;simp only[HV];refine ZV rfl ?_;refine hs.ld 6 (v:=.pointer (some ⟨p,0,none⟩)) rfl rfl ?_;simp only[HV]
  try simp only[HS]
  refine hs.st 4 rfl (by show 1<2;omega) rfl fun H hs=>?_;refine⟨_,.inr ⟨kn,wn,rfl,rfl,hfit,.inl ⟨d3,_,(hw1'.trans hw2).trans hw3,hc3,hnew,rfl,rfl⟩⟩,?_⟩;refine En.shut (mp:=mp) (e:=egM d (cZb kn wn) 0) (L:=[Dk dp d3]) ?_;exact(Me.bare (ap:=ap) (rp:=rp) (e:=egM d (cZb kn wn) 0) (L:=[pts p (aZr dp (some mp)),Dk dp d3]) (hs.re [1,2,3,4,0] rfl) (tZf rfl)).swap
 have fo:∀(H:Hp) (b2:Nat),Sep [pts p (aZr dp mo),Dk dp d,X,pts b1 (.obj (.cells #[.pointer (some ⟨p,0,none⟩)] 36)),pts b2 (.obj (.cells (Sup.bZi kn d.sec d.size wn) 27))] H→Za prog 43 #[.pointer (some ⟨dp,0,none⟩),.agg (Sup.bZi kn d.sec d.size wn)] H fun v H=>∃ mp ap rp,v= .tuple #[.pointer (some ⟨mp,0,none⟩),.int .i64 0]∧Sep [pts mp (aZe ⟨kn,d.sec,d.size,wn,aZ9,0⟩ ap rp .none 0 0),Ar ap wn 0 [],pts rp (ZZ dp 1 8 ((8*(d.size/8):Nat):Int)),Dk dp d,pts p (aZr dp mo),X,pts b1 (.obj (.cells #[.pointer (some ⟨p,0,none⟩)] 36)),pts b2 (.obj (.cells (Sup.bZi kn d.sec d.size wn) 27))] H:=fun H b2 hs=>by
  refine(pZn (dp:=dp) hok hg).use hs [1] rfl rfl ?_;rintro _ _ H ⟨mp,ap,rp,rfl,rfl⟩ hs;exact⟨mp,ap,rp,rfl,hs⟩
 have j5:∀ b2 H,Sep [pts p (aZr dp mo),Dk dp d,X,pts b1 (.obj (.cells #[.pointer (some ⟨p,0,none⟩)] 36)),pts b2 (.obj (.cells (Sup.bZi kn d.sec d.size wn) 27))] H→
   Ze.j5 (fun v H'=>∃ M,nZb p dp g d c kn wn v M∧Sep M H') ⟨b1,0,none⟩ ⟨b2,0,none⟩ H:=fun b2 H hs=>by
  unfold Ze.j5 Ze.j5.q1
  repeat' first
   |(refine Za.mono (fo _ _ hs) ?_;rintro _ H ⟨mp,ap,rp,rfl,hs⟩;simp only[HV];exact j6 mp ap rp _ H hs)
   |refine hs.ld 3 (v:=.pointer (some ⟨p,0,none⟩)) rfl rfl ?_
   |refine hs.ld 0 (v:=.pointer (some ⟨dp,0,none⟩)) rfl rfl ?_
   |refine hs.ldw 4 rfl rfl ?_
   |(simp only[HV];try simp only[aZT,Addr.add_lit',Addr.add_zero,Nat.zero_add,Nat.add_zero,Array.toArray_toList])
   |refine⟨?_,?_⟩
 have hsz:∀(H:Hp) (T:List As) (K:Value→Prop),Sep ([pts p (aZr dp mo),Dk dp d,X,pts b1 (.obj (.cells #[.pointer (some ⟨p,0,none⟩)] 36))]++T) H→K (.int .i64 (d.sec:Int))→ZM prog 41 #[.pointer (some ⟨dp,0,none⟩)] H K:=fun H T K hs h=>ZM.use (eZs hs 1 rfl) h
 have hsy:∀(H:Hp) (T:List As) (K:Value→Prop),Sep ([pts p (aZr dp mo),Dk dp d,X,pts b1 (.obj (.cells #[.pointer (some ⟨p,0,none⟩)] 36))]++T) H→K (.int .i64 (d.size:Int))→ZM prog 42 #[.pointer (some ⟨dp,0,none⟩)] H K:=fun H T K hs h=>ZM.use (hZn hs 1 rfl) h
 repeat' first
  |exact j5 _ _ hs
  |refine hs.ld 3 (v:=.pointer (some ⟨p,0,none⟩)) rfl rfl ?_
  |refine hs.ld 0 (v:=.pointer (some ⟨dp,0,none⟩)) rfl rfl ?_
  |refine hsz _ [] _ hs ?_
  |refine hsy _ [] _ hs ?_
  |refine hsz _ [_] _ hs ?_
  |refine hsy _ [_] _ hs ?_
  |refine hs.nw fun b H hs=>?_
  |refine hs.stw 4 rfl rfl rfl rfl fun H hs=>?_
  |(simp only[HV];try simp only[HS])
  |refine⟨?_,?_⟩
theorem oZV {p:Nat}{d:D}{c:Cn}(hc:Clean d c)(ho:d.rd≤1000000):
  Tr prog 64 #[.pointer (some ⟨p,0,none⟩)] [Dk p d] fun v M=>(d.fuse≠1∧v= .tuple #[.agg (Sup.sbV (Sup.rdV d (c 0)).1),.int .i64 (Sup.rdV d (c 0)).2]∧M=[Dk p (D.rdG d 1)])∨(d.fuse=1∧v= .tuple #[.agg (Sup.bZi 0 0 0 0),.int .i64 8]∧M=[Dk p (D.dead d)]):=fun H hs=>by
 have hok:=hc.ok;have hsec:=hok.sec;have hchk:d.chk 0=0:=gZe hc.down (Int.le_refl _) (by omega);by_cases hf:d.fuse=1
 ·have hbn:d.burns=true:=by unfold D.burns;simp[hf]
  apply dZO.ok;unfold dZO;refine hs.nw fun b1 H hs=>?_
  refine(jZC (p:=p) (d:=d) hok (by omega) 0).use hs [0] rfl rfl ?_;rintro _ _ H (⟨h,_,_⟩|⟨_,_,rfl,rfl⟩|⟨_,h,_⟩) hs
  ·exact absurd hchk h
  ·simp only[HV];refine ZB (by decide) ?_;refine hs.stw 1 rfl rfl rfl rfl fun H hs=>?_;refine hs.ldw 1 rfl rfl ?_;rw[eZv hf]at hs;exact⟨_,.inr ⟨hf,rfl,rfl⟩,hs.re [0] rfl⟩
  ·rw[hbn]at h;cases h
 ·have hbn:d.burns=false:=by unfold D.burns;exact decide_eq_false hf
  have e:({ d.burnt with rd:=d.rd+1}:D)=D.rdG d 1:=by rw[dZ4 hc.down hf];rfl
  refine Za.mono (Sup.tZl hok ho hchk hbn H hs) ?_;rintro v H ⟨M,⟨rfl,rfl⟩,hs⟩;rw[e]at hs;rw[hc.now];exact⟨_,.inl ⟨hf,rfl,rfl⟩,hs⟩
def vZ8 (p dp:Nat)(d:D)(c:Cn)(o:Option Mn)(v:Value)(M:List As):Prop:=
 (∃ d',o=none∧bZE d d' 1 0 0∧Clean d' c∧v= .int .i64 11∧M=[En p dp none,Dk dp d'])∨
 (∃ d' m,o=some m∧bZE d d' 9 0 0∧Clean d' c∧v= .int .i64 0∧M=[En p dp (some (egM d m 0)),Dk dp d'])∨
 (∃ d',Cut d d' 9∧(o=none→d.fuse=1)∧Left d' (fun c'=>c'=c)∧v= .int .i64 8∧M=[En p dp none,Dk dp d'])
theorem Cut.dead {d:D}{c:Cn}(hc:Clean d c)(hf:d.fuse=1):Cut d (D.dead d) 1∧Left (D.dead d) (fun c'=>c'=c):=by
 have h1:=Cut.rdG hc (j:=0) (n:=1) hf (by omega);have h2:=Left.rdG hc 0;rw[oZn]at h1 h2;exact⟨h1,h2⟩
set_option maxHeartbeats 4000000 in
theorem pZR {p dp:Nat}{g:Option Eg}{d:D}{c:Cn}(hc:Clean d c)(hpn:0<Lay.ZP (d.size:Int))(ho:d.rd≤800000∧d.wr≤800000∧d.sy≤800000){o:Option Mn}(hh:wZG d.sec d.size o c):
  Tr prog 30 #[.pointer (some ⟨p,0,none⟩)] [En p dp g,Dk dp d] (vZ8 p dp d c o):=fun H hs=>by
 have hok:=hc.ok;have hper:=dZU hpn;obtain⟨mo,X,hs,hback⟩:=En.ptr hs;have chk8:∀(T:List As) (H:Hp) (K:VK),Sep ([pts p (aZr dp mo)]++T) H→(∀ H,Sep ([pts p (aZr dp none)]++T) H→K (.int .i64 8) H)→Za prog 59 #[.pointer (some ⟨p,0,none⟩),.int .i64 8] H K:=fun T H K hs hk=>by
  apply bZd.ok;unfold bZd;refine ZV rfl ?_
  try simp only[HS]
  refine hs.st 0 rfl (by show 1<2;omega) rfl fun H hs=>?_;exact hk H hs
 apply aZk.ok;unfold aZk
 try simp only[HS]
 refine hs.ld 0 (v:=.pointer (some ⟨dp,0,none⟩)) rfl rfl ?_;simp only[HV];refine(oZV (p:=dp) hc (by omega)).use hs [2] rfl rfl ?_;rintro _ _ H (⟨hf,rfl,rfl⟩|⟨hf,rfl,rfl⟩) hs
 rotate_left
 ·simp only[HV];refine hs.nw fun b1 H hs=>?_
  refine hs.stw 3 rfl rfl rfl rfl fun H hs=>?_;refine ZV rfl ?_;obtain⟨h1,h2⟩:=Cut.dead hc hf;refine chk8 [Dk dp (D.dead d)] H _ (hs.re [1,0] rfl) fun H hs=>?_;simp only[HV];exact⟨_,.inr (.inr ⟨_,h1.more (by omega),fun _=>hf,h2,rfl,rfl⟩),hs⟩
 have hgo1:d.fuse=0∨1<d.fuse:=by omega
 have hw1:=bZE.rdG hgo1;have hc1:=hc.rdG 1;cases o with
 |none=>
  have h0:c 0=List.replicate d.size 0:=hh;have e:Sup.rdV d (c 0)=((0,0,0,0),10):=by
   unfold Sup.rdV;rw[h0,Sup.qZv d.size hpn];rfl
  rw[e];simp only[HV];refine hs.nw fun b1 H hs=>?_
  refine hs.stw 3 rfl rfl rfl rfl fun H hs=>?_;refine aZd (by decide) (ZB (by decide) ?_)
  try simp only[HS]
  refine hs.st 1 rfl (by show 1<2;omega) rfl fun H hs=>?_;exact⟨_,.inl ⟨_,rfl,hw1,hc1,rfl,rfl⟩,hs.re [1,0] rfl⟩
 |some m=>
  have hh:Holds d.sec d.size m c:=hh;have hgo:=dZe hh.good;have hneed:9≤d.sec:=by have:=hgo.2.2.1;unfold Lay.cZa at this;omega
  have hsec:=hok.sec;have e:Sup.rdV d (c 0)=(((m.most:Int),(d.sec:Int),(d.size:Int),(m.arena:Int)),0):=by
   unfold Sup.rdV;rw[hh.sup,Sup.qZu _ _ _ _ hh.good (by omega),if_neg (by simp)];exact if_pos (show Sup.ofB d d.sec d.size=true from decide_eq_true ⟨rfl,rfl⟩)
  rw[e];simp only[HV];refine hs.nw fun b1 H hs=>?_
  refine hs.stw 3 rfl rfl rfl rfl fun H hs=>?_;refine aZd (by decide) (Zq rfl ?_);generalize hd1:D.rdG d 1=d1 at*;have hsec1:d1.sec=d.sec:=hw1.sec;have hsize1:d1.size=d.size:=hw1.size;have hh1:Holds d1.sec d1.size m c:=by rw[hsec1,hsize1];exact hh
  have hs:Sep [Dk dp d1,pts p (aZr dp mo),X,pts b1 (.obj (.cells (Sup.bZi m.most d.sec d.size m.arena) 27))] H:=hs;have fo:∀(H:Hp),Sep [Dk dp d1,pts p (aZr dp mo),X,pts b1 (.obj (.cells (Sup.bZi m.most d.sec d.size m.arena) 27))] H→Za prog 43 #[.pointer (some ⟨dp,0,none⟩),.agg (Sup.bZi m.most d.sec d.size m.arena)] H fun v H=>∃ mp ap rp,v= .tuple #[.pointer (some ⟨mp,0,none⟩),.int .i64 0]∧Sep [pts mp (aZe ⟨m.most,d.sec,d.size,m.arena,aZ9,0⟩ ap rp .none 0 0),Ar ap m.arena 0 [],pts rp (ZZ dp 1 8 ((8*(d.size/8):Nat):Int)),Dk dp d1,pts p (aZr dp mo),X] H:=fun H hs=>by
   rw[← hsec1,←hsize1]at hs⊢;refine(pZn (dp:=dp) hc1.ok hh1.good).use hs [0] rfl rfl ?_;rintro _ _ H ⟨mp,ap,rp,rfl,rfl⟩ hs;exact⟨mp,ap,rp,rfl,hs.re [0,1,2,3,4,5] rfl⟩
  have j8:∀ mp ap rp H,Sep [pts mp (aZe ⟨m.most,d.sec,d.size,m.arena,aZ9,0⟩ ap rp .none 0 0),Ar ap m.arena 0 [],pts rp (ZZ dp 1 8 ((8*(d.size/8):Nat):Int)),Dk dp d1,pts p (aZr dp mo),X] H→
    aZk.j8 (fun v H'=>∃ M,vZ8 p dp d c (some m) v M∧Sep M H') (some ⟨p,0,none⟩) 0 (some ⟨mp,0,none⟩) H:=fun mp ap rp H hs=>by
   unfold aZk.j8;refine Zq rfl ?_
   try simp only[HS]
   refine hs.ld 0 (v:=.pointer (some ⟨rp,0,none⟩)) rfl rfl ?_;simp only[HV];have hrd1:=hw1.rd;refine(oZ3 (b:=rp) (p:=dp) (f:=1) (n:=8) (w:=((8*(d.size/8):Nat):Int)) (d:=d1) (by omega) (by omega) hc1.ok (by omega) (fun _=>by
    have:=jZl 1 8 8 0 d1 [];have h9:(aZO 1 8 d1).2.2.length≤0+8:=this;omega)).use hs [3,2] rfl rfl ?_
   rintro _ _ H ⟨rfl,rfl⟩ hs;have hs:Sep [Dk dp (aZO 1 8 d1).2.1,pts rp (ZZ dp 1 8 ((8*(d.size/8):Nat):Int)),pts mp (aZe ⟨m.most,d.sec,d.size,m.arena,aZ9,0⟩ ap rp .none 0 0),Ar ap m.arena 0 [],pts p (aZr dp mo),X] H:=hs;simp only[HV];refine hs.nw fun b2 H hs=>?_
   refine hs.stw 6 rfl rfl (y:=R.c _) rfl (eZP _) fun H hs=>?_;rcases kZc hc1 1 8 (by rw[hsec1];omega)with⟨hf2,hsc⟩|⟨j,hj,hf2,hsc⟩
   ·rw[hsc]at hs⊢;rw[nZZ,hh1.lastC]at hs;refine Zq rfl ?_;refine hs.ldw 6 rfl rfl ?_
    try simp only[Array.toArray_toList]
    try simp only[HS]
    refine hs.sta 2 (off:=23) (n:=8) (y:=R.c m.r) rfl (by show 23+8≤32;omega) rfl (eZP _) fun H hs=>?_;have hs:Sep [Dk dp (D.rdG d1 8),pts rp (ZZ dp 1 8 ((8*(d.size/8):Nat):Int)),pts mp (aZe (egM d m 0) ap rp .none 0 0),Ar ap m.arena 0 [],pts p (aZr dp mo),X,pts b2 (.obj (.cells (R.c m.r) 102))] H:=hs;have he:=hh.eg (peak:=0) (by omega);have hkk:=he.kk0;refine(rZw (mp:=mp) (ap:=ap) (rp:=rp) (e:=egM d m 0) (A:=.none) (n:=0) (m:=0) he.most he.p ⟨he.least,he.arena⟩ (fun _=>⟨hkk.1,he.kk,he.dir⟩)).use hs [2] rfl rfl ?_;rintro _ _ H ⟨A',m',rfl,rfl⟩ hs
    try simp only[HV]
    try simp only[HS]
    refine hs.st 5 rfl (by show 1<2;omega) rfl fun H hs=>?_;refine⟨_,.inr (.inl ⟨_,m,rfl,hw1.trans (bZE.rdG hf2),hc1.rdG 8,rfl,rfl⟩),?_⟩;exact En.unwhole (mp:=mp) (ap:=ap) (rp:=rp) (A:=A') (m:=m') (e:=egM d m 0) (L:=[Dk dp (D.rdG d1 8)]) (hs.re [5,0,4,3,1,2] rfl)
   ·rw[hsc]at hs⊢;refine ZB (show(8:Int)≠0 by decide) ?_;refine chk8 [Dk dp (D.dead (D.rdG d1 j))] H _ (hs.re [4,0] rfl) fun H hs=>?_;simp only[HV];have hcut:=hw1.cut (Cut.rdG hc1 hf2 hj);exact⟨_,.inr (.inr ⟨_,hcut.more (by omega),fun h=>(by cases h),Left.rdG hc1 j,rfl,rfl⟩),hs⟩
  try simp only[HS]
  repeat' first
   |(refine Za.mono (fo _ hs) ?_;rintro _ H ⟨mp,ap,rp,rfl,hs⟩;simp only[HV];exact j8 mp ap rp H hs)
   |refine hs.ld 1 (v:=.pointer (some ⟨dp,0,none⟩)) rfl rfl ?_
   |refine hs.ldw 3 rfl rfl ?_
   |(simp only[HV];try simp only[aZT,Addr.add_lit',Addr.add_zero,Nat.zero_add,Nat.add_zero,Array.toArray_toList])
   |refine⟨?_,?_⟩
end Eng
namespace W
open Go Go.Hw
end W
namespace Eng
open Go Go.Hw Go.Form W Shp Dsk Str Are Trn Pas Pln Rec Srt Rng
theorem mZo {dp:Nat}:Tr prog 12 #[.pointer (some ⟨dp,0,none⟩)] [] fun v M=>∃ p,v= .pointer (some ⟨p,0,none⟩)∧M=[En p dp none]:=fun H hs=>by
 apply fZC.ok;unfold fZC;refine aZb rfl ?_;refine hs.nw fun p H hs=>?_
 exact⟨_,⟨p,rfl,rfl⟩,hs⟩
section
variable {p dp : Nat}
end
structure Liv (N:Nat)(d:D)(c:Cn)(m:Mn):Prop where
 cl:Clean d c
 hh:Holds d.sec d.size m c
 most:m.most≤6
 len:m.L.length≤N
 ld:m.r.ld≤N
 rd:d.rd≤2000*N
 wr:d.wr≤2000*N
 sy:d.sy≤2000*N
theorem Liv.went {N:Nat}{d d':D}{c c':Cn}{m m':Mn}(h:Liv N d c m){r w s:Nat}(hw:bZE d d' r w s)(hr:r≤2000∧w≤2000∧s≤2000)(hc:Clean d' c')(hh:Holds d.sec d.size m' c')(hm:m'.most=m.most)(hl:m'.L.length≤N+2)(hld:m'.r.ld≤N+2):Liv (N+2) d' c' m':=by
 have h1:=hw.rd;have h2:=hw.wr;have h3:=hw.sy;have h4:=h.rd;have h5:=h.wr;have h6:=h.sy;have h7:=h.most;exact⟨hc,by rw[hw.sec,hw.size];exact hh,by omega,hl,hld,by omega,by omega,by omega⟩
theorem Liv.small {N:Nat}{d:D}{c:Cn}{m:Mn}(h:Liv N d c m)(hN:N≤400):Small 100000 m∧(d.rd≤800000∧d.wr≤800000∧d.sy≤800000):=by
 have h2:=h.len;have h3:=h.ld;have h4:=h.rd;have h5:=h.wr;have h6:=h.sy;exact⟨⟨by omega,by omega⟩,by omega,by omega,by omega⟩
theorem Liv.per {N:Nat}{d:D}{c:Cn}{m:Mn}(h:Liv N d c m):0<Lay.ZP (d.size:Int):=(dZe h.hh.good).2.1
theorem Liv.kk {N:Nat}{d:D}{c:Cn}{m:Mn}(h:Liv N d c m):m.r.kk.toNat≤6:=by
 have:=(Mn.r_wf h.hh).2.2;have:=h.most;omega
structure Dea (N:Nat)(sc sz:Nat)(d:D)(P:Mn→Prop):Prop where
 ok:Ok d
 dom:Dom d
 down:d.down=true
 sec:d.sec=sc
 size:d.size=sz
 left:Left d fun c'=>∃ m,P m∧m.most≤6∧m.L.length≤N∧m.r.ld≤N∧Holds sc sz m c'
 rd:d.rd≤2000*N
 wr:d.wr≤2000*N
 sy:d.sy≤2000*N
theorem Liv.cut {N:Nat}{d d':D}{c:Cn}{m:Mn}(h:Liv N d c m){n:Nat}(hc:Cut d d' n)(hn:n≤3000){P:Mn→Prop}(hl:Left d' fun c'=>∃ m,P m∧m.most≤6∧m.L.length≤N+2∧m.r.ld≤N+2∧Holds d.sec d.size m c'):Dea (N+2) d.sec d.size d' P:=by
 have h1:=hc.cnt;have h2:=hc.le;have h4:=h.rd;have h5:=h.wr;have h6:=h.sy;have h7:=hc.rd;have h8:=hc.wr;have h9:=hc.sy;exact⟨hc.ok,hc.dom,hc.down,hc.sec,hc.size,hl,by omega,by omega,by omega⟩
def iZ5 (m:Mn)(k:Nat)(l:List UInt64)(b:Bool):Mn:=(bZp m k l).add (cZW (bZp m k l) b)
structure Job (m:Mn)(k:Nat)(b:Bool)(l:List UInt64)(j:Nat):Prop where
 inp:m.inp=l
 kk:m.r.kk=k
 dir:m.r.dir=if b=true then 1 else 0
 kd:3≤m.r.kd
 ps:m.r.ps=j
theorem Job.plan {m:Mn}{k:Nat}{b:Bool}{l:List UInt64}{j:Nat}(h:Job m k b l j)(per:Nat):bZt m per m.r=aZD b k per m.arena:=by
 unfold bZt fZX;rw[h.dir,h.kk,Int.toNat_natCast];cases b<;>rfl
theorem Job.st {m:Mn}{k:Nat}{b:Bool}{l:List UInt64}{j:Nat}(h:Job m k b l j)(per:Nat):stM m per=if j<(aZD b k per m.arena).length then 3 else 4:=by
 have:=h.kd;unfold stM;rw[if_neg (by omega),if_neg (by omega),h.plan,h.ps];by_cases e:j<(aZD b k per m.arena).length
 ·rw[if_pos e,if_pos (by omega)]
 ·rw[if_neg e,if_neg (by omega)]
theorem Job.next {m:Mn}{k:Nat}{b:Bool}{l:List UInt64}{j:Nat}(h:Job m k b l j)(per:Nat):Job (m.add (bZm m per)) k b l (j+1):=by
 have e:(m.add (bZm m per)).r=bZm m per:=Mn.add_r _ _;refine⟨h.inp,?_,?_,?_,?_⟩
 ·rw[e];exact h.kk
 ·rw[e];exact h.dir
 ·rw[e];show(3:Int)≤4;omega
 ·rw[e];show m.r.ps+1=_;rw[h.ps];omega
theorem sZZ (m:Mn)(k:Nat)(l:List UInt64)(b:Bool):Job (iZ5 m k l b) k b l 0:=by
 have h2r:(bZp m k l).r=dZc (aZG m k) k l:=Mn.add_r _ _;have e:(iZ5 m k l b).r=cZW (bZp m k l) b:=Mn.add_r _ _;refine⟨rfl,?_,?_,?_,?_⟩
 ·rw[e];show(bZp m k l).r.kk=_;rw[h2r];rfl
 ·rw[e];rfl
 ·rw[e];show(3:Int)≤3;omega
 ·rw[e];rfl
theorem Liv.step {N:Nat}{d d':D}{c c':Cn}{m:Mn}(h:Liv N d c m){r w:Nat}(hs:iZo m (d.size/8) r w):r≤2000∧w≤2000:=by
 have hp:=h.hh.per;have hk:=h.kk;have hm:=h.most;have hkm:=(Mn.r_wf h.hh).2.2;have h1:=hs.le (by omega) (by omega) (Nat.le_trans (fZZ (by omega)) h.hh.least);have:=iZI hk;omega
theorem Liv.stepped {N:Nat}{d d':D}{c c':Cn}{m:Mn}(h:Liv N d c m){r w:Nat}(hs:iZo m (d.size/8) r w)(hw:bZE d d' r w 2)(hc:Clean d' c')(hh:Holds d.sec d.size (m.add (bZm m (d.size/8))) c'):Liv (N+2) d' c' (m.add (bZm m (d.size/8))):=by
 have:=Liv.step (d':=d') (c':=c') h hs;have h1:=h.len;have h2:=h.ld;refine h.went hw (by omega) hc hh rfl ?_ ?_
 ·show(m.L++[_]).length≤_;simp;omega
 ·rw[Mn.add_r];show m.r.ld≤_;omega
def w4 :List UInt64:=[1,2,3,4]
structure vZu where
 k:Int
 n:Int
 m:Int
 A:OA
 nA:Nat
 mA:Nat
 l:List UInt64
 G:OA
 nG:Nat
 mG:Nat
 ks:List Bool
structure OkE (H:Hp)(a:vZu):Prop where
 nA:a.nA=a.l.length
 mA:a.nA≤a.mA
 l:Cells H a.A (Zc a.l)
 nG:a.nG=a.ks.length
 ks:Cells H a.G (cZJ a.ks)
 n: -9223372036854775808≤a.n∧a.n≤9223372036854775807
 m: -9223372036854775808≤a.m∧a.m≤9223372036854775807
theorem OkE.le {H H':Hp}{a:vZu}(h:OkE H a)(k:H.le H'):OkE H' a:=⟨h.nA,h.mA,h.l.le k,h.nG,h.ks.le k,h.n,h.m⟩
section
open Go.RowKit Go.ChangeShapes Go.WideShapes Go.ChangeAt
variable {H : Type} {enc : TypeId × Value → H} {W : World}
end
structure sZK (m0 m:Mn):Prop where
 most:m.most=m0.most
 arena:m.arena=m0.arena
 inp:m.inp=m0.inp
 kd:2≤m.r.kd
theorem sZK.pass {m0 m:Mn}(h:sZK m0 m)(per:Nat):sZK m0 (m.add (bZm m per)):=⟨h.most,h.arena,h.inp,by rw[Mn.add_r];show(2:Int)≤4;omega⟩
theorem Liv.up {N N':Nat}{d:D}{c:Cn}{m:Mn}(h:Liv N d c m)(hN:N≤N'):Liv N' d c m:=by
 have q1:=h.len;have q2:=h.ld;have q3:=h.rd;have q4:=h.wr;have q5:=h.sy;exact⟨h.cl,h.hh,h.most,by omega,by omega,by omega,by omega,by omega⟩
theorem Liv.fused {N:Nat}{d:D}{c:Cn}{m:Mn}(h:Liv N d c m)(n:Nat)(hn:n≤9223372036854775807):Liv N { d with fuse:=n} c m:=⟨h.cl.fused n hn,h.hh,h.most,h.len,h.ld,h.rd,h.wr,h.sy⟩
theorem Clean.again {d:D}{c:Cn}(hc:Clean d c):Ok { d with down:=true,fuse:=0}∧Dom { d with down:=true,fuse:=0}∧∀ ks,KeysOf (bZj d.cache) ks→∀ keep,Clean (D.boot { d with down:=true,fuse:=0} ks keep) c:=by
 have hok:=hc.ok;have hok3:Ok { d with down:=true,fuse:=0}:=⟨hok.sec,hok.size,hok.big,hok.per,hok.safe,hok.cache,Nat.zero_le _⟩;refine⟨hok3,fun k hk=>hc.dom k hk,fun ks hks keep=>?_⟩;obtain⟨c3,ec3,hc3⟩:=(hc.crash).boot hok3 hks keep;rw[ec3]at hc3;exact hc3
theorem Liv.again {N:Nat}{d:D}{c:Cn}{m:Mn}(h:Liv N d c m){ks:List Int}(hks:KeysOf (bZj d.cache) ks)(keep:List Bool):Liv N (D.boot { d with down:=true,fuse:=0} ks keep) c m:=
 ⟨(h.cl.again).2.2 ks hks keep,h.hh,h.most,h.len,h.ld,h.rd,h.wr,h.sy⟩
theorem Dea.boot {N sc sz:Nat}{d:D}{P:Mn→Prop}(h:Dea N sc sz d P){ks:List Int}(hks:KeysOf (bZj d.cache) ks)(keep:List Bool):∃ c m,P m∧Liv N (D.boot d ks keep) c m∧(D.boot d ks keep).sec=sc∧(D.boot d ks keep).size=sz:=by
 obtain⟨c,⟨m,hP,h1,h2,h3,h4⟩,hc⟩:=h.left.boot h.ok hks keep;refine⟨c,m,hP,⟨hc,?_,h1,h2,h3,h.rd,h.wr,h.sy⟩,h.sec,h.size⟩;have e1:(D.boot d ks keep).sec=sc:=h.sec;have e2:(D.boot d ks keep).size=sz:=h.size;rw[e1,e2];exact h4
end Eng
namespace Eng
open Go Go.Hw Go.Form W Shp Dsk Str Are Trn Ker Fft Pas Pln
end Eng
namespace Eng
open Go Go.Hw Go.Form W Shp Dsk Str Are Trn Pas Pln Rec Srt Rng
theorem jZr (e:Eg):(((lZC (some e)).map (Value.int .i64)).toArray)[0]? =some (.int .i64 (stE e)):=by
 have h:=mZM e;show(((if stE e=1 then _ else if stE e=2 then _ else _:List Int).map (Value.int .i64)).toArray)[0]? =_
 rcases h with h|h|h|h<;>rw[h]<;>rfl
theorem pZd {dp:Nat}{d:D}{L:List As}{H:Hp}(h:Sep L H)(i:Nat)(hi:L[i]? =some (Dk dp d)):Za prog 32 #[.pointer (some ⟨dp,7,none⟩)] H (RetE (.bool d.down) H):=vZt h i hi
structure Jb (N sc sz ar:Nat)(k:Nat)(b:Bool)(l:List UInt64)(d:D)(c:Cn)(m:Mn)(i:Nat):Prop where
 lv:Liv N d c m
 sec:d.sec=sc
 size:d.size=sz
 har:m.arena=ar
 jb:Job m k b l i
 le:i≤(aZD b k (sz/8) ar).length
section
variable {K : Value → Hp → Prop} {R12 : Option Addr → Nat → Nat → Int → Option Addr → Nat → Nat → Option Addr → Nat → Nat → Option Addr → Nat → Nat → Int → Addr → Int → Int → Int → Hp → Prop} {H0 : Hp}
variable {A9 A10 A11 A12 : Option Addr} {n9 m9 n10 m10 n11 m11 n12 m12 : Nat} {x9 : Int} {p dp b1 k x w sc sz ar : Nat} {b : Bool} {l : List UInt64} {keep more : List Bool}
variable (hT : T64 H0) (hk6 : k ≤ 6) (hn11 : n11 = keep.length) (hc11 : Cells H0 A11 (cZJ keep)) (hn12 : n12 = more.length) (hc12 : Cells H0 A12 (cZJ more))
include hn11 hc11 hn12 hc12 in
include hT hk6 hn11 hc11 hn12 hc12 in
end
section
variable {H0 : Hp} {A9 A10 A11 A12 : Option Addr} {n9 m9 n10 m10 n11 m11 n12 m12 p dp b1 k x w sc sz ar:Nat} {b : Bool} {l : List UInt64} {keep more : List Bool} {fs : List UInt8}
variable (hT : T64 H0) (hk6 : k ≤ 6) (hl : Cells H0 A9 (Zc l)) (hn9 : n9 = l.length) (hl2 : l.length = 2 ^ k) (hn11 : n11 = keep.length) (hc11 : Cells H0 A11 (cZJ keep)) (hn12 : n12 = more.length) (hc12 : Cells H0 A12 (cZJ more)) (hn10 : n10 = fs.length) (hn16 : n10 ≤ 16) (hc10 : Cells H0 A10 (Zm fs))
include hk6 hl hn9 hl2 in
include hT hk6 hl hn9 hl2 hn11 hc11 hn12 hc12 hn10 hn16 hc10 in
end
end Eng
namespace W
open Go Go.Hw
theorem hZv :prog.follows .mixedOrders=true:=by kernel_rfl
def ZX.l9 (K:VK):Nat→OA→Nat→Nat→Addr→Addr→Int→Int→Hp→Prop
 |0,_,_,_,_,_,_,_,_=>False
 |k+1,A2,n2,m2,a1,a2,x4,x5,H=>
  let R9:=ZX.l9 K k
  BIf (decide (x5<(n2:Int))) (ixI x5 n2 (NN A2 fun a3=>LeW H (a3.add (x5.toNat*1)) fun x6=>BIf (decide (x6≥18446744069414584321)) (LdA H a1 12 fun l4=>StA H a2 l4.toArray 12 fun H7=>LdA H7 a2 12 fun l9=>K (.tuple #[.agg l9.toArray,.int .i64 x5,.int .i64 3]) H7) (R9 A2 n2 m2 a1 a2 x4 (i64.wrap (x5+1)) H))) (LeI H (a1.add 10) fun x7=>St H ((a1.add 10).add 0) (.int .i64 (i64.wrap (x7+1))) fun H8=>LeI H8 (a1.add 10) fun x8=>StA H8 (a1.add 0) #[.int .i64 2,.int .i64 x8,.int .i64 x4,.int .i64 0,.int .i64 0,.int .i64 0] 6 fun H9=>Nw H9 (.row [] 82 0) fun b3 H10=>cZO prog 82 (.slice (some ⟨b3,0,none⟩) 0 0) (.slice A2 n2 m2) H10 fun v7 H11=>DSl v7 fun A3 n3 m3=>St H11 ((a1.add 11).add 0) (.slice A3 n3 m3) fun H12=>LdA H12 a1 12 fun l5=>StA H12 a2 l5.toArray 12 fun H13=>LdA H13 a2 12 fun l10=>K (.tuple #[.agg l10.toArray,.int .i64 0,.int .i64 0]) H13)
def ZX (y1:Array Value)(A1:OA)(n1 m1:Nat)(H:Hp)(K:VK):Prop:=
 Nw H (.obj (.cells y1 31)) fun b1 H1=>Nw H1 (.obj (.cells #[.int .i64 0,.int .i64 0,.int .i64 0,.int .i64 0,.int .i64 0,.int .i64 0,.int .i64 0,.int .i64 0,.int .i64 0,.int .i64 0,.int .i64 0,.slice none 0 0] 31)) fun b2 H2=>LeI H2 (((⟨b1,0,none⟩:Addr).add 0).add 0) fun x1=>BIf (x1==0) (LdA H2 ⟨b1,0,none⟩ 12 fun l1=>StA H2 ⟨b2,0,none⟩ l1.toArray 12 fun H3=>LdA H3 ⟨b2,0,none⟩ 12 fun l6=>K (.tuple #[.agg l6.toArray,.int .i64 0,.int .i64 5]) H3) (HcI 7 #[.int .i64 (n1:Int)] H2 fun x2 H4=>BIf (decide (x2<0)) (LdA H4 ⟨b1,0,none⟩ 12 fun l2=>StA H4 ⟨b2,0,none⟩ l2.toArray 12 fun H5=>LdA H5 ⟨b2,0,none⟩ 12 fun l7=>K (.tuple #[.agg l7.toArray,.int .i64 0,.int .i64 4]) H5) (LeI H4 ((⟨b1,0,none⟩:Addr).add 6) fun x3=>BIf (decide (x2>x3)) (LdA H4 ⟨b1,0,none⟩ 12 fun l3=>StA H4 ⟨b2,0,none⟩ l3.toArray 12 fun H6=>LdA H6 ⟨b2,0,none⟩ 12 fun l8=>K (.tuple #[.agg l8.toArray,.int .i64 0,.int .i64 14]) H6) ((∃ k,ZX.l9 K k A1 n1 m1 ⟨b1,0,none⟩ ⟨b2,0,none⟩ x2 0 H4))))
def ZX.l9.L (K:VK)(k:Nat):Mid:=fun E D H=>
 DG (E.get? 1) fun w1=>DSl w1 fun A2 n2 m2=>eN E 2 fun a1=>eN E 4 fun a2=>eI E 7 .i64 fun x4=>eI E 8 .i64 fun x5=>Zk D (ZX.l9 K k A2 n2 m2 a1 a2 x4 x5 H)
def ZX.Λ9 (_:VK)(_R9:OA→Nat→Nat→Addr→Addr→Int→Int→Hp→Prop):Zt:=Zt.none (fun _=>none)
def ZX.Λ (K:VK):Zt:=⟨fun i=>none,fun i=>match Nat.beq i 9 with|true=>some (fun E D H=>∃ k,ZX.l9.L K k E D H)|false=>none,(fun _=>none)⟩
theorem ZX.ok y1 A1 n1 m1 H K (h:ZX y1 A1 n1 m1 H K):Za prog 10 #[.agg y1,.slice A1 n1 m1] H K:=
 okL (Λ:=(ZX.Λ K)) hZv Tryz.func10 rfl rfl h (oC (fun E D H h=>by
   refine Safe.loop' (ZX.l9.L K) (fun E D H h=>?_) (fun k E D H h=>?_) E D H h
   ·obtain⟨w1,e1,g1⟩:=DG.out h;obtain⟨A2,n2,m2,rfl,g2⟩:=DSl.out g1;obtain⟨w2,e2,g3⟩:=DG.out g2;obtain⟨pw2,rfl,g4⟩:=DP.out g3;obtain⟨a1,rfl,g5⟩:=NN.out g4;obtain⟨w4,e4,g6⟩:=DG.out g5;obtain⟨pw4,rfl,g7⟩:=DP.out g6;obtain⟨a2,rfl,g8⟩:=NN.out g7;obtain⟨w7,e7,g9⟩:=DG.out g8;obtain⟨x4,rfl,g10⟩:=DI.out g9;obtain⟨w8,e8,g11⟩:=DG.out g10;obtain⟨x5,rfl,g12⟩:=DI.out g11;obtain⟨rfl,h'⟩:=Zk.out g12;exact h'
   ·obtain⟨w1,e1,g1⟩:=DG.out h;obtain⟨A2,n2,m2,rfl,g2⟩:=DSl.out g1;obtain⟨a1,e2,g5⟩:=GN g2;obtain⟨a2,e4,g8⟩:=GN g5;obtain⟨x4,e7,g10⟩:=GI g8;obtain⟨x5,e8,g12⟩:=GI g10;obtain⟨rfl,h'⟩:=Zk.out g12;exact okJ (Λ:=(ZX.Λ9 K (ZX.l9 K k))) hZv [] (Zb.cons e1 (Zb.cons e2 (Zb.cons e4 (Zb.cons e7 (Zb.cons e8 (Zb.nil _)))))) h' oN) oN)
end W
namespace Eng
open Go Go.Hw Go.Form W Shp Dsk Str Are Trn Pas Pln
def mch (s:Int×Int×Int×Int×Int×Int)(mo ar sc sz ld:Int)(A:OA)(n m:Nat):Array Value:=#[.int .i64 s.1,.int .i64 s.2.1,.int .i64 s.2.2.1,.int .i64 s.2.2.2.1,.int .i64 s.2.2.2.2.1,.int .i64 s.2.2.2.2.2,.int .i64 mo,.int .i64 ar,.int .i64 sc,.int .i64 sz,.int .i64 ld,.slice A n m]
abbrev iZ9 (s:Int×Int×Int×Int×Int×Int)(mo ar sc sz ld:Int)(A:OA)(n m:Nat):AO:=.obj (.cells (mch s mo ar sc sz ld A n m) 31)
def okL (l:List UInt64)(most k:Nat):Prop:=lg (l.length:Int)=some k∧k≤most∧hZW l
section
variable {R0 : As} {A : Option Addr} {n m : Nat} {l : List UInt64} (hn : n = l.length) (hl : n ≤ 1000000) (hR : ∀ H, R0 H → Cells H A (Zc l))
include hn hl hR
def ldQ (R0:As)(l:List UInt64)(most:Nat)(ar sc sz ld:Int)(v:Value)(M:List As):Prop:=
 (∃(y:Array Value) (i e:Int),e≠0∧(∀ k,¬okL l most k)∧y.size=12∧y.toList.all (fun v=>v.oneCell')=true∧v= .tuple #[.agg y,.int .i64 i,.int .i64 e]∧M=[R0])∨
 (∃ k A' m',okL l most k∧v= .tuple #[.agg (mch (2,ld+1,k,0,0,0) most ar sc sz (ld+1) A' l.length m'),.int .i64 0,.int .i64 0]∧M=[Own 82 1 A' l.length m' (Zc l),R0])
theorem lZt {b1 b2 most k:Nat}{st ar sc sz ld:Int}(hk:lg (n:Int)=some k)(hkm:k≤most)(hld:0≤ld∧ld≤1000000){s1 s2 s3 s4 s5:Int}:
  ∀(t i:Nat) (H:Hp),i+t=n→(∀ j (hj:j<l.length),j<i→(l[j]).toNat<18446744069414584321)→Sep [R0,pts b1 (iZ9 (st,s1,s2,s3,s4,s5) most ar sc sz ld .none 0 0),pts b2 (iZ9 (0,0,0,0,0,0) 0 0 0 0 0 .none 0 0)] H→
   ZX.l9 (fun v H'=>∃ M,ldQ R0 l most ar sc sz ld v M∧Sep M H') (t+1) A n m ⟨b1,0,none⟩ ⟨b2,0,none⟩ (k:Int) (i:Int) H
 |0,i,H,hi,hc,hs=>by
  unfold ZX.l9;refine Zh (by omega) ?_
  try simp only[HS]
  refine hs.ld 1 (v:=.int .i64 ld) rfl rfl ?_;simp only[HV];rw[ZL (x:=ld+1) (by omega) (by omega)];refine hs.st 1 rfl (by show 10<12;omega) rfl fun H hs=>?_;refine hs.ld 1 (v:=.int .i64 (ld+1)) rfl rfl ?_;simp only[HV];refine hs.sta 1 (off:=0) (n:=6) rfl (by show 0+6≤12;omega) rfl rfl fun H hs=>?_;refine hs.nw fun b3 H hs=>?_
  have hs:Sep [R0,pts b1 (iZ9 (2,ld+1,k,0,0,0) most ar sc sz (ld+1) .none 0 0),pts b2 (iZ9 (0,0,0,0,0,0) 0 0 0 0 0 .none 0 0),pts b3 (.row [] 82 0)] H:=hs;have hs:=uZR hs 3 (n:=0) (s:=1) rfl rfl rfl;have hcell:Cells H A (Zc l):=by
   obtain⟨H1,h1,hle⟩:=hs.see 0 rfl;exact(hR H1 h1).le hle
  refine Sep.app hs 3 (k:=n) (ys:=Zc l) rfl Ker.bZO rfl (by omega) (by omega) rfl (iZg hcell (by rw[Zr];exact hn)) (by rw[Zr];omega) (by simp[Zc,Value.oneCell']) (by omega) (by omega) fun A' m' H hs=>?_
  rw[Nat.zero_add]at hs⊢;rw[List.nil_append]at hs;simp only[HV];refine hs.st 1 rfl (by show 11<12;omega) rfl fun H hs=>?_;refine hs.ldw 1 rfl rfl ?_;refine hs.stw 2 (y:=mch (2,ld+1,k,0,0,0) most ar sc sz (ld+1) A' n m') rfl rfl rfl rfl fun H hs=>?_;refine hs.ldw 2 rfl rfl ?_;refine⟨_,.inr ⟨k,A',m',⟨by rw[← hn];exact hk,hkm,fun x hx=>?_⟩,?_,rfl⟩,?_⟩
  ·obtain⟨j,hj,rfl⟩:=List.getElem_of_mem hx;exact hc j hj (by omega)
  ·rw[← hn]
  ·rw[← hn];exact hs.re [3,0] rfl
 |t+1,i,H,hi,hc,hs=>by
  have hil:i<l.length:=by omega
  unfold ZX.l9;refine Zn (by omega) ?_;have hcell:Cells H A (Zc l):=by
   obtain⟨H1,h1,hle⟩:=hs.see 0 rfl;exact(hR H1 h1).le hle
  have hg:(Zc l)[i]? =some (.int .u64 ((l[i]'hil).toNat:Int)):=by rw[bZb,List.getElem?_eq_getElem hil];rfl
  refine hcell.read hg rfl (by rw[Zr];omega) ?_;simp only[HV];by_cases hx:(l[i]'hil).toNat<18446744069414584321
  ·refine Zh (by omega) ?_;rw[ZL (x:=(i:Int)+1) (by omega) (by omega)];refine lZt hk hkm hld t (i+1) H (by omega) (fun j hj hji=>?_) hs;by_cases e:j=i
   ·subst e;exact hx
   ·exact hc j hj (by omega)
  ·refine Zn (by omega) ?_;refine hs.ldw 1 rfl rfl ?_;refine hs.stw 2 (y:=mch (st,s1,s2,s3,s4,s5) most ar sc sz ld .none 0 0) rfl rfl rfl rfl fun H hs=>?_;refine hs.ldw 2 rfl rfl ?_;exact⟨_,.inl ⟨mch (st,s1,s2,s3,s4,s5) most ar sc sz ld .none 0 0,_,3,by decide,fun k' hk'=>hx (hk'.2.2 _ (List.getElem_mem hil)),rfl,rfl,rfl,rfl⟩,hs.re [0] rfl⟩
theorem tZh {most:Nat}{st ar sc sz ld:Int}(hst:st≠0)(hld:0≤ld∧ld≤1000000){s1 s2 s3 s4 s5:Int}:
  Tr prog 10 #[.agg (mch (st,s1,s2,s3,s4,s5) most ar sc sz ld .none 0 0),.slice A n m] [R0] (ldQ R0 l most ar sc sz ld):=fun H hs=>by
 apply ZX.ok;unfold ZX;refine hs.nw fun b1 H hs=>?_
 refine hs.nw fun b2 H hs=>?_
 have hs:Sep [R0,pts b1 (iZ9 (st,s1,s2,s3,s4,s5) most ar sc sz ld .none 0 0),pts b2 (iZ9 (0,0,0,0,0,0) 0 0 0 0 0 .none 0 0)] H:=hs
 try simp only[HS]
 refine hs.ld 1 (v:=.int .i64 st) rfl rfl ?_;simp only[HV];refine aZd hst ?_;refine Za.use (oZl (n:Int) H) ?_;simp only[HV];have bad:∀(e:Int) (H:Hp),e≠0→(∀ k,¬okL l most k)→Sep [R0,pts b1 (iZ9 (st,s1,s2,s3,s4,s5) most ar sc sz ld .none 0 0),pts b2 (iZ9 (0,0,0,0,0,0) 0 0 0 0 0 .none 0 0)] H→
   LdA H (⟨b1,0,none⟩:Addr) 12 fun l2=>StA H (⟨b2,0,none⟩:Addr) l2.toArray 12 fun H5=>LdA H5 (⟨b2,0,none⟩:Addr) 12 fun l7=>∃ M,ldQ R0 l most ar sc sz ld (.tuple #[.agg l7.toArray,.int .i64 0,.int .i64 e]) M∧Sep M H5:=fun e H he hno hs=>by
  refine hs.ldw 1 rfl rfl ?_;refine hs.stw 2 (y:=mch (st,s1,s2,s3,s4,s5) most ar sc sz ld .none 0 0) rfl rfl rfl rfl fun H hs=>?_;refine hs.ldw 2 rfl rfl ?_;exact⟨_,.inl ⟨mch (st,s1,s2,s3,s4,s5) most ar sc sz ld .none 0 0,0,e,he,hno,rfl,rfl,rfl,rfl⟩,hs.re [0] rfl⟩
 cases hlg:lg (n:Int)with
 |none=>
  refine Zn (by unfold eZ2;rw[hlg];decide) ?_;exact bad 4 H (by decide) (fun k hk=>by have:=hk.1;rw[← hn,hlg]at this;cases this) hs
 |some k=>
  have hfit:eZ2 (n:Int)=(k:Int):=by unfold eZ2;rw[hlg]
  rw[hfit];refine Zh (by omega) ?_;refine hs.ld 1 (v:=.int .i64 (most:Int)) rfl rfl ?_;simp only[HV];by_cases hkm:k≤most
  ·refine Zh (by omega) ⟨n+1,?_⟩;exact lZt hn hl hR hlg hkm hld n 0 H (by omega) (fun j hj h=>by omega) hs
  ·refine Zn (by omega) ?_;exact bad 14 H (by decide) (fun k' hk'=>by have:=hk'.1;rw[← hn,hlg]at this;cases this;exact hkm hk'.2.1) hs
end
end Eng
namespace W
open Go Go.Hw
theorem bZr :prog.follows .mixedOrders=true:=by kernel_rfl
def Zd.j30 (K:VK)(R22:Int→OA→Nat→Nat→OA→Nat→Nat→Int→Addr→OA→OA→Addr→Int→Int→Hp→Prop)(x27:Int)(A11:OA)(n11 m11:Nat)(A12:OA)(n12 m12:Nat)(x28:Int)(a9:Addr)(p7 p8:OA)(a10:Addr)(x29 x30:Int)(H:Hp):=
 NN p7 fun a11=>HcB 32 #[.pointer (some (a11.add 7))] H fun c3 H20=>BIf c3 (HcI 33 #[.pointer p7,.slice A12 n12 m12] H20 fun x31 H21=>BIf (x31 !=0) (K (.bool false) H21) (HcP 12 #[.pointer p7] H21 fun p9 H22=>HcI 30 #[.pointer p9] H22 fun x32 H23=>BIf (x32 !=0) (K (.bool false) H23) (R22 x27 A11 n11 m11 A12 n12 m12 x28 a9 p7 p9 a10 (i64.wrap (x29+1)) (i64.wrap (x30+1)) H23))) (R22 x27 A11 n11 m11 A12 n12 m12 x28 a9 p7 p8 a10 x29 (i64.wrap (x30+1)) H20)
def Zd.j27 (K:VK)(R22:Int→OA→Nat→Nat→OA→Nat→Nat→Int→Addr→OA→OA→Addr→Int→Int→Hp→Prop)(x22:Int)(A9:OA)(n9 m9:Nat)(A10:OA)(n10 m10:Nat)(x23:Int)(a7:Addr)(p5 p6:OA)(a8:Addr)(x24 x25:Int)(H:Hp):=
 Hz 23 #[.pointer p6] H fun v23 H19=>vZG v23 fun c2 x26=>(BIf (x26 !=0) (BIf (x26 !=8) (K (.bool false) H19) (Zd.j30 K R22 x22 A9 n9 m9 A10 n10 m10 x23 a7 p5 p6 a8 x24 x25 H19)) (Zd.j30 K R22 x22 A9 n9 m9 A10 n10 m10 x23 a7 p5 p6 a8 x24 x25 H19))
def Zd.j39 (K:VK)(p12:OA)(a15:Addr)(x37:Int)(a16:Addr)(H:Hp):=
 BIf (x37==0) (HcA 21 #[.pointer p12] H fun y18 H47=>ixV y18 0 fun v47=>DI .i64 v47 fun x38=>BIf (x38==4) (LeI H47 (a16.add 0) fun x39=>LeI H47 (a16.add 1) fun x40=>LeI H47 (a16.add 2) fun x41=>LdA H47 a15 3 fun l20=>QcI 34 #[.agg l20.toArray] H47 fun x42=>K (.bool (decide ((i64.wrap ((i64.wrap (x39+x40))+x41))≤x42))) H47) (K (.bool false) H47)) (K (.bool false) H)
def Zd.j37.q1 (y5:Array Value)(l15:List Value)(H30:Hp)(b6:Nat)(K:VK)(p11:OA)(b4:Nat)(x36:Int):=
 QcA 18 #[.agg y5,.agg l15.toArray] H30 fun y7=>StA H30 ⟨b6,0,none⟩ y7 3 fun H31=>Zd.j39 K p11 ⟨b4,0,none⟩ x36 ⟨b6,0,none⟩ H31
def Zd.j37.q2 (y5:Array Value)(l15:List Value)(H27:Hp)(K:VK)(p11:OA)(b4:Nat)(x36:Int):=
 (QcA 18 #[.agg y5,.agg l15.toArray] H27 fun y6=>Nw H27 (.obj (.cells #[.int .i64 0,.int .i64 0,.int .i64 0] 39)) fun b5 H28=>StA H28 ⟨b5,0,none⟩ y6 3 fun H29=>Zd.j39 K p11 ⟨b4,0,none⟩ x36 ⟨b5,0,none⟩ H29)∧(Nw H27 (.obj (.cells #[.int .i64 0,.int .i64 0,.int .i64 0] 39)) fun b6 H30=>Zd.j37.q1 y5 l15 H30 b6 K p11 b4 x36)
def Zd.j37 (K:VK)(x33 x34:Int)(a12:Addr)(p10 p11:OA)(a13:Addr)(x35:Int)(H:Hp):=
 LdA H a12 4 fun l11=>Hz 29 #[.agg l11.toArray,.int .i64 x34,.int .i64 x33,.int .i64 x35] H fun v30 H24=>cZQ v30 fun y4 x36=>(Nw H24 (.obj (.cells #[.int .i64 0,.int .i64 0,.int .i64 0] 39)) fun b4 H25=>StA H25 ⟨b4,0,none⟩ y4 3 fun H26=>NN p10 fun a14=>(HcA 15 #[.pointer (some (a14.add 3))] H26 fun y5 H27=>(LdA H27 a13 3 fun l15=>Zd.j37.q2 y5 l15 H27 K p11 b4 x36)∧(Nw H27 (.obj (.cells #[.int .i64 0,.int .i64 0,.int .i64 0] 39)) fun b7 H32=>LdA H32 a13 3 fun l16=>Zd.j37.q1 y5 l16 H32 b7 K p11 b4 x36))∧(LdA H26 a13 3 fun l17=>(HcA 15 #[.pointer (some (a14.add 3))] H26 fun y9 H34=>Zd.j37.q2 y9 l17 H34 K p11 b4 x36)∧(Nw H26 (.obj (.cells #[.int .i64 0,.int .i64 0,.int .i64 0] 39)) fun b10 H39=>HcA 15 #[.pointer (some (a14.add 3))] H39 fun y12 H40=>Zd.j37.q1 y12 l17 H40 b10 K p11 b4 x36))∧(Nw H26 (.obj (.cells #[.int .i64 0,.int .i64 0,.int .i64 0] 39)) fun b11 H42=>(HcA 15 #[.pointer (some (a14.add 3))] H42 fun y14 H43=>LdA H43 a13 3 fun l18=>Zd.j37.q1 y14 l18 H43 b11 K p11 b4 x36)∧(LdA H42 a13 3 fun l19=>HcA 15 #[.pointer (some (a14.add 3))] H42 fun y16 H45=>Zd.j37.q1 y16 l19 H45 b11 K p11 b4 x36)))
def Zd.l22 (K:VK):Nat→Int→OA→Nat→Nat→OA→Nat→Nat→Int→Addr→OA→OA→Addr→Int→Int→Hp→Prop
 |0,_,_,_,_,_,_,_,_,_,_,_,_,_,_,_=>False
 |k+1,x16,A7,n7,m7,A8,n8,m8,x17,a2,p3,p4,a3,x18,x19,H=>
  let R22:=Zd.l22 K k
  BIf (decide (x19<60)) (HcA 21 #[.pointer p4] H fun y3 H16=>ixV y3 0 fun v19=>DI .i64 v19 fun x20=>BIf (x20 !=4) (NN p3 fun a4=>Hz 31 #[.pointer (some (a4.add 7)),.int .i64 0] H16 fun v20 H17=>BIf (decide (x19<(n7:Int))) (NN p3 fun a5=>ixI x19 n7 (NN A7 fun a6=>LeV H17 (a6.add (x19.toNat*1)) fun x21=>Hz 31 #[.pointer (some (a5.add 7)),.int .i64 (i64.wrap x21)] H17 fun v22 H18=>Zd.j27 K R22 x16 A7 n7 m7 A8 n8 m8 x17 a2 p3 p4 a3 x18 x19 H18)) (Zd.j27 K R22 x16 A7 n7 m7 A8 n8 m8 x17 a2 p3 p4 a3 x18 x19 H17)) (Zd.j37 K x16 x17 a2 p3 p4 a3 x18 H16)) (Zd.j37 K x16 x17 a2 p3 p4 a3 x18 H)
def Zd.j6 (K:VK)(A4:OA)(n4 m4:Nat)(x4 x5:Int)(A5:OA)(n5 m5:Nat)(A6:OA)(n6 m6:Nat)(x6:Int)(H:Hp):=
 ((60:Int)≠0∧i64=i64∧Nw H (.obj (.cells #[.int .i64 0,.int .i64 0,.int .i64 0,.int .i64 0] 27)) fun b1 H3=>StA H3 ⟨b1,0,none⟩ #[.int .i64 5,.int .i64 45,.int .i64 32,.int .i64 (i64.wrap (20+(Int.tmod (i64.wrap x5) 60)))] 4 fun H4=>Hz 10 #[.agg #[.int .i64 1,.int .i64 0,.int .i64 0,.int .i64 0,.int .i64 0,.int .i64 0,.int .i64 5,.int .i64 0,.int .i64 0,.int .i64 0,.int .i64 0,.slice none 0 0],.slice A4 n4 m4] H4 fun v3 H5=>tZQ v3 fun y1 x7 x8=>(Nw H5 (.obj (.cells #[.int .i64 0,.int .i64 0,.int .i64 0,.int .i64 0,.int .i64 0,.int .i64 0,.int .i64 0,.int .i64 0,.int .i64 0,.int .i64 0,.int .i64 0,.slice none 0 0] 31)) fun b2 H6=>StA H6 ⟨b2,0,none⟩ y1 12 fun H7=>BIf (x8 !=0) (K (.bool true) H7) (LeI H7 ((⟨b1,0,none⟩:Addr).add 1) fun x9=>HcP 11 #[.int .i64 x9,.int .i64 32] H7 fun p1 H8=>HcP 12 #[.pointer p1] H8 fun p2 H9=>BIf p1.isNone (K (.bool false) H9) (BIf p2.isNone (K (.bool false) H9) (LeI H9 ((⟨b1,0,none⟩:Addr).add 0) fun x10=>LeI H9 ((⟨b1,0,none⟩:Addr).add 3) fun x11=>HcI 14 #[.pointer p2,.int .i64 x10,.int .i64 x11] H9 fun x12 H10=>BIf (x12 !=0) (K (.bool false) H10) (Hz 17 #[.pointer p2,.slice A4 n4 m4] H10 fun v13 H11=>kZi v13 fun x13 x14=>(BIf (x14 !=0) (K (.bool false) H11) (NN p1 fun a1=>HcA 15 #[.pointer (some (a1.add 3))] H11 fun y2 H12=>Nw H12 (.obj (.cells #[.int .i64 0,.int .i64 0,.int .i64 0] 39)) fun b3 H13=>StA H13 ⟨b3,0,none⟩ y2 3 fun H14=>HcI 20 #[.pointer p2,.int .i64 x4] H14 fun x15 H15=>BIf (x15 !=0) (K (.bool false) H15) ((∃ k,Zd.l22 K k x4 A5 n5 m5 A6 n6 m6 x6 ⟨b1,0,none⟩ p1 p2 ⟨b3,0,none⟩ 0 0 H15))))))))))
def Zd (A1:OA)(n1 m1:Nat)(x1 x2:Int)(A2:OA)(n2 m2:Nat)(A3:OA)(n3 m3:Nat)(H:Hp)(K:VK):Prop:=
 HcB 6 #[] H fun c1 H1=>BIf (!c1) (K (.bool false) H1) (HcI 7 #[.int .i64 (n1:Int)] H1 fun x3 H2=>BIf (decide ((n1:Int)>32)) (K (.bool true) H2) (BIf (decide (x3<0)) (K (.bool true) H2) (BIf (x1 !=0) (BIf (x1 !=1) (K (.bool true) H2) (BIf (decide ((n2:Int)>12)) (K (.bool true) H2) (BIf (decide ((n3:Int)>40)) (K (.bool true) H2) (Zd.j6 K A1 n1 m1 x1 x2 A2 n2 m2 A3 n3 m3 x3 H2)))) (BIf (decide ((n2:Int)>12)) (K (.bool true) H2) (BIf (decide ((n3:Int)>40)) (K (.bool true) H2) (Zd.j6 K A1 n1 m1 x1 x2 A2 n2 m2 A3 n3 m3 x3 H2))))))
def Zd.l22.L (K:VK)(k:Nat):Mid:=fun E D H=>
 eI E 1 .i64 fun x16=>DG (E.get? 3) fun w3=>DSl w3 fun A7 n7 m7=>DG (E.get? 4) fun w4=>DSl w4 fun A8 n8 m8=>eI E 11 .i64 fun x17=>eN E 12 fun a2=>eP E 16 fun p3=>eP E 17 fun p4=>eN E 20 fun a3=>eI E 21 .i64 fun x18=>eI E 22 .i64 fun x19=>Zk D (Zd.l22 K k x16 A7 n7 m7 A8 n8 m8 x17 a2 p3 p4 a3 x18 x19 H)
def Zd.Λ22 (K:VK)(R22:Int→OA→Nat→Nat→OA→Nat→Nat→Int→Addr→OA→OA→Addr→Int→Int→Hp→Prop):Zt:=⟨fun i=>match Nat.beq i 30 with|true=>some (fun E D H=>eI E 1 .i64 fun x27=>DG (E.get? 3) fun w3=>DSl w3 fun A11 n11 m11=>DG (E.get? 4) fun w4=>DSl w4 fun A12 n12 m12=>eI E 11 .i64 fun x28=>eN E 12 fun a9=>eP E 16 fun p7=>eP E 17 fun p8=>eN E 20 fun a10=>eI E 21 .i64 fun x29=>eI E 22 .i64 fun x30=>Zk D (Zd.j30 K R22 x27 A11 n11 m11 A12 n12 m12 x28 a9 p7 p8 a10 x29 x30 H))|false=>match Nat.beq i 27 with|true=>some (fun E D H=>eI E 1 .i64 fun x22=>DG (E.get? 3) fun w3=>DSl w3 fun A9 n9 m9=>DG (E.get? 4) fun w4=>DSl w4 fun A10 n10 m10=>eI E 11 .i64 fun x23=>eN E 12 fun a7=>eP E 16 fun p5=>eP E 17 fun p6=>eN E 20 fun a8=>eI E 21 .i64 fun x24=>eI E 22 .i64 fun x25=>Zk D (Zd.j27 K R22 x22 A9 n9 m9 A10 n10 m10 x23 a7 p5 p6 a8 x24 x25 H))|false=>none,fun i=>none,(fun i=>match Nat.beq i 39 with|true=>some ([10,12,15,17,18],[0,1,3,7,15,31,63,127,255,511,1023,511,2559,8191,511,16895,65535,511,131583,524287,1048575,2097151],0)|false=>match Nat.beq i 38 with|true=>some ([4,5],[0,1,3,7,0,31,0,127],0)|false=>match Nat.beq i 26 with|true=>some ([],[0,1,2,3,4,5,6,7],8)|false=>none)⟩
def Zd.Λ (K:VK):Zt:=⟨fun i=>match Nat.beq i 39 with|true=>some (fun E D H=>eP E 17 fun p12=>eN E 25 fun a15=>eI E 26 .i64 fun x37=>eN E 27 fun a16=>Zk D (Zd.j39 K p12 a15 x37 a16 H))|false=>match Nat.beq i 37 with|true=>some (fun E D H=>eI E 1 .i64 fun x33=>eI E 11 .i64 fun x34=>eN E 12 fun a12=>eP E 16 fun p10=>eP E 17 fun p11=>eN E 20 fun a13=>eI E 21 .i64 fun x35=>Zk D (Zd.j37 K x33 x34 a12 p10 p11 a13 x35 H))|false=>match Nat.beq i 6 with|true=>some (fun E D H=>DG (E.get? 0) fun w0=>DSl w0 fun A4 n4 m4=>eI E 1 .i64 fun x4=>eI E 2 .u8 fun x5=>DG (E.get? 3) fun w3=>DSl w3 fun A5 n5 m5=>DG (E.get? 4) fun w4=>DSl w4 fun A6 n6 m6=>eI E 11 .i64 fun x6=>Zk D (Zd.j6 K A4 n4 m4 x4 x5 A5 n5 m5 A6 n6 m6 x6 H))|false=>none,fun i=>match Nat.beq i 22 with|true=>some (fun E D H=>∃ k,Zd.l22.L K k E D H)|false=>none,(fun i=>match Nat.beq i 39 with|true=>some ([10,12,15,17,18],[0,1,3,7,15,31,63,127,255,511,1023,511,2559,8191,511,16895,65535,511,131583,524287,1048575,2097151],0)|false=>match Nat.beq i 38 with|true=>some ([4,5],[0,1,3,7,0,31,0,127],0)|false=>match Nat.beq i 26 with|true=>some ([],[0,1,2,3,4,5,6,7],8)|false=>none)⟩
theorem Zd.ok A1 n1 m1 x1 x2 A2 n2 m2 A3 n3 m3 H K (h:Zd A1 n1 m1 x1 x2 A2 n2 m2 A3 n3 m3 H K):Za prog 4 #[.slice A1 n1 m1,.int .i64 x1,.int .u8 x2,.slice A2 n2 m2,.slice A3 n3 m3] H K:=
 okL (Λ:=(Zd.Λ K)) bZr Tryz.func4 rfl rfl h (oC (fun E D H h=>by
   obtain⟨w0,e0,g1⟩:=DG.out h;obtain⟨A4,n4,m4,rfl,g2⟩:=DSl.out g1;obtain⟨x4,e1,g4⟩:=GI g2;obtain⟨x5,e2,g6⟩:=GI g4;obtain⟨w3,e3,g7⟩:=DG.out g6;obtain⟨A5,n5,m5,rfl,g8⟩:=DSl.out g7;obtain⟨w4,e4,g9⟩:=DG.out g8;obtain⟨A6,n6,m6,rfl,g10⟩:=DSl.out g9;obtain⟨x6,e11,g12⟩:=GI g10;obtain⟨rfl,h'⟩:=Zk.out g12;exact okJ (Λ:=(Zd.Λ K)) bZr [] (Zb.cons e0 (Zb.cons e1 (Zb.cons e2 (Zb.cons e3 (Zb.cons e4 (Zb.cons e11 (Zb.nil _))))))) h' (oC (fun E D H h=>by
     refine Safe.loop' (Zd.l22.L K) (fun E D H h=>?_) (fun k E D H h=>?_) E D H h
     ·obtain⟨w1,e1,g1⟩:=DG.out h;obtain⟨x16,rfl,g2⟩:=DI.out g1;obtain⟨w3,e3,g3⟩:=DG.out g2;obtain⟨A7,n7,m7,rfl,g4⟩:=DSl.out g3;obtain⟨w4,e4,g5⟩:=DG.out g4;obtain⟨A8,n8,m8,rfl,g6⟩:=DSl.out g5;obtain⟨w11,e11,g7⟩:=DG.out g6;obtain⟨x17,rfl,g8⟩:=DI.out g7;obtain⟨w12,e12,g9⟩:=DG.out g8;obtain⟨pw12,rfl,g10⟩:=DP.out g9;obtain⟨a2,rfl,g11⟩:=NN.out g10;obtain⟨w16,e16,g12⟩:=DG.out g11;obtain⟨p3,rfl,g13⟩:=DP.out g12;obtain⟨w17,e17,g14⟩:=DG.out g13;obtain⟨p4,rfl,g15⟩:=DP.out g14;obtain⟨w20,e20,g16⟩:=DG.out g15;obtain⟨pw20,rfl,g17⟩:=DP.out g16;obtain⟨a3,rfl,g18⟩:=NN.out g17;obtain⟨w21,e21,g19⟩:=DG.out g18;obtain⟨x18,rfl,g20⟩:=DI.out g19;obtain⟨w22,e22,g21⟩:=DG.out g20;obtain⟨x19,rfl,g22⟩:=DI.out g21;obtain⟨rfl,h'⟩:=Zk.out g22;exact h'
     ·obtain⟨x16,e1,g2⟩:=GI h;obtain⟨w3,e3,g3⟩:=DG.out g2;obtain⟨A7,n7,m7,rfl,g4⟩:=DSl.out g3;obtain⟨w4,e4,g5⟩:=DG.out g4;obtain⟨A8,n8,m8,rfl,g6⟩:=DSl.out g5;obtain⟨x17,e11,g8⟩:=GI g6;obtain⟨a2,e12,g11⟩:=GN g8;obtain⟨p3,e16,g13⟩:=GP g11;obtain⟨p4,e17,g15⟩:=GP g13;obtain⟨a3,e20,g18⟩:=GN g15;obtain⟨x18,e21,g20⟩:=GI g18;obtain⟨x19,e22,g22⟩:=GI g20;obtain⟨rfl,h'⟩:=Zk.out g22;exact okJ (Λ:=(Zd.Λ22 K (Zd.l22 K k))) bZr [] (Zb.cons e1 (Zb.cons e3 (Zb.cons e4 (Zb.cons e11 (Zb.cons e12 (Zb.cons e16 (Zb.cons e17 (Zb.cons e20 (Zb.cons e21 (Zb.cons e22 (Zb.nil _))))))))))) h' (oC (fun E D H h=>by
        obtain⟨x22,e1,g2⟩:=GI h;obtain⟨w3,e3,g3⟩:=DG.out g2;obtain⟨A9,n9,m9,rfl,g4⟩:=DSl.out g3;obtain⟨w4,e4,g5⟩:=DG.out g4;obtain⟨A10,n10,m10,rfl,g6⟩:=DSl.out g5;obtain⟨x23,e11,g8⟩:=GI g6;obtain⟨a7,e12,g11⟩:=GN g8;obtain⟨p5,e16,g13⟩:=GP g11;obtain⟨p6,e17,g15⟩:=GP g13;obtain⟨a8,e20,g18⟩:=GN g15;obtain⟨x24,e21,g20⟩:=GI g18;obtain⟨x25,e22,g22⟩:=GI g20;obtain⟨rfl,h'⟩:=Zk.out g22;exact okJ (Λ:=(Zd.Λ22 K (Zd.l22 K k))) bZr [] (Zb.cons e1 (Zb.cons e3 (Zb.cons e4 (Zb.cons e11 (Zb.cons e12 (Zb.cons e16 (Zb.cons e17 (Zb.cons e20 (Zb.cons e21 (Zb.cons e22 (Zb.nil _))))))))))) h' (oC (fun E D H h=>by
          obtain⟨x27,e1,g2⟩:=GI h;obtain⟨w3,e3,g3⟩:=DG.out g2;obtain⟨A11,n11,m11,rfl,g4⟩:=DSl.out g3;obtain⟨w4,e4,g5⟩:=DG.out g4;obtain⟨A12,n12,m12,rfl,g6⟩:=DSl.out g5;obtain⟨x28,e11,g8⟩:=GI g6;obtain⟨a9,e12,g11⟩:=GN g8;obtain⟨p7,e16,g13⟩:=GP g11;obtain⟨p8,e17,g15⟩:=GP g13;obtain⟨a10,e20,g18⟩:=GN g15;obtain⟨x29,e21,g20⟩:=GI g18;obtain⟨x30,e22,g22⟩:=GI g20;obtain⟨rfl,h'⟩:=Zk.out g22;exact okJ (Λ:=(Zd.Λ22 K (Zd.l22 K k))) bZr [] (Zb.cons e1 (Zb.cons e3 (Zb.cons e4 (Zb.cons e11 (Zb.cons e12 (Zb.cons e16 (Zb.cons e17 (Zb.cons e20 (Zb.cons e21 (Zb.cons e22 (Zb.nil _))))))))))) h' oN) oN)) oN)) (oC (fun E D H h=>by
     obtain⟨x33,e1,g2⟩:=GI h;obtain⟨x34,e11,g4⟩:=GI g2;obtain⟨a12,e12,g7⟩:=GN g4;obtain⟨p10,e16,g9⟩:=GP g7;obtain⟨p11,e17,g11⟩:=GP g9;obtain⟨a13,e20,g14⟩:=GN g11;obtain⟨x35,e21,g16⟩:=GI g14;obtain⟨rfl,h'⟩:=Zk.out g16;exact okJ (Λ:=(Zd.Λ K)) bZr [] (Zb.cons e1 (Zb.cons e11 (Zb.cons e12 (Zb.cons e16 (Zb.cons e17 (Zb.cons e20 (Zb.cons e21 (Zb.nil _)))))))) h' (oC (fun E D H h=>by
       obtain⟨p12,e17,g2⟩:=GP h;obtain⟨a15,e25,g5⟩:=GN g2;obtain⟨x37,e26,g7⟩:=GI g5;obtain⟨a16,e27,g10⟩:=GN g7;obtain⟨rfl,h'⟩:=Zk.out g10;exact okJ (Λ:=(Zd.Λ K)) bZr [] (Zb.cons e17 (Zb.cons e25 (Zb.cons e26 (Zb.cons e27 (Zb.nil _))))) h' oN) oN)) oN))) oN)
def cZR (H:Hp)(K:VK):Prop:=
 Hz 27 #[.agg #[.int .i64 2,.int .i64 30,.int .i64 32,.int .i64 12]] H fun v1 H1=>cZQ v1 fun y1 x1=>(Nw H1 (.obj (.cells #[.int .i64 0,.int .i64 0,.int .i64 0] 39)) fun b1 H2=>StA H2 ⟨b1,0,none⟩ y1 3 fun H3=>BIf (x1==0) (LdA H3 ⟨b1,0,none⟩ 3 fun l4=>EqV prog .eql 39 (.agg l4.toArray) (.agg #[.int .i64 9,.int .i64 0,.int .i64 0]) fun c1=>BIf c1 (HcI 34 #[.agg #[.int .i64 1,.int .i64 2,.int .i64 3]] H3 fun x2 H4=>K (.bool (x2==6)) H4) (K (.bool false) H3)) (K (.bool false) H3))
theorem cZR.ok H K (h:cZR H K):Za prog 6 #[] H K:=
 okN bZr Tryz.func6 rfl rfl h
def cZ7 (x1 x2 x3 x4 x5 x6:Int)(H:Hp)(K:VK):Prop:=
 Nw H (.obj (.cells #[.int .i64 x1,.int .i64 x2,.int .i64 x3] 39)) fun b1 H1=>Nw H1 (.obj (.cells #[.int .i64 x4,.int .i64 x5,.int .i64 x6] 39)) fun b2 H2=>Nw H2 (.obj (.cells #[.int .i64 0,.int .i64 0,.int .i64 0] 39)) fun b3 H3=>LeI H3 ((⟨b1,0,none⟩:Addr).add 0) fun x7=>LeI H3 ((⟨b2,0,none⟩:Addr).add 0) fun x8=>LeI H3 ((⟨b1,0,none⟩:Addr).add 1) fun x9=>LeI H3 ((⟨b2,0,none⟩:Addr).add 1) fun x10=>LeI H3 ((⟨b1,0,none⟩:Addr).add 2) fun x11=>LeI H3 ((⟨b2,0,none⟩:Addr).add 2) fun x12=>StA H3 ⟨b3,0,none⟩ #[.int .i64 (i64.wrap (x7-x8)),.int .i64 (i64.wrap (x9-x10)),.int .i64 (i64.wrap (x11-x12))] 3 fun H4=>LdA H4 ⟨b3,0,none⟩ 3 fun l1=>K (.agg l1.toArray) H4
theorem cZ7.ok x1 x2 x3 x4 x5 x6 H K (h:cZ7 x1 x2 x3 x4 x5 x6 H K):Za prog 18 #[.agg #[.int .i64 x1,.int .i64 x2,.int .i64 x3],.agg #[.int .i64 x4,.int .i64 x5,.int .i64 x6]] H K:=
 okN bZr Tryz.func18 rfl rfl h
end W
namespace Eng
open Go Go.Hw Go.Form W Shp Dsk Str Are Trn Pas Pln Rec Srt Rng
theorem uZS :lZ0 prog 39 3:=⟨by kernel_rfl,by kernel_rfl,by kernel_rfl,by kernel_rfl⟩
theorem smO.rng {B:Nat}{o:O3}(h:smO B o)(hB:B≤1000000000000):∀ x∈[(o.1:Int),(o.2.1:Int),(o.2.2:Int)],-9223372036854775808≤x∧x≤9223372036854775807:=by
 obtain⟨h1,h2,h3⟩:=h;intro x hx;simp only[List.mem_cons,List.not_mem_nil,or_false]at hx;omega
theorem wZJ {B:Nat}{o:O3}(h:smO B o)(hB:B≤1000000000000){K:Bool→Prop}(k:K true):EqV prog .eql 39 (.agg (ZT o).toArray) (.agg (ZT o).toArray) K:=by
 refine oZ1 uZS (a:=[(o.1:Int),(o.2.1:Int),(o.2.2:Int)]) (b:=[(o.1:Int),(o.2.1:Int),(o.2.2:Int)]) rfl rfl (h.rng hB) (h.rng hB) rfl rfl ?_;rw[decide_eq_true rfl];exact k
theorem lZU (b o:O3)(hb:smO 1000000000 b)(ho:smO 1000000000 o)(H:Hp):Za prog 18 #[.agg (ZT (cZ0 b o)).toArray,.agg (ZT b).toArray] H (RetE (.agg (ZT o).toArray) H):=by
 obtain⟨o1,o2,o3⟩:=o;obtain⟨b1,b2,b3⟩:=b;obtain⟨q1,q2,q3⟩:=ho;obtain⟨p1,p2,p3⟩:=hb;simp only at q1 q2 q3 p1 p2 p3;apply Za.ret;apply cZ7.ok;unfold cZ7;refine(Sep.start H).nw fun c1 H1 hs=>?_
 refine hs.nw fun c2 H1 hs=>?_
 refine hs.nw fun c3 H1 hs=>?_
 have hs:Sep [own H,pts c1 (bZY (b1+o1,b2+o2,b3+o3)),pts c2 (bZY (b1,b2,b3)),pts c3 (bZY (0,0,0))] H1:=hs
 try simp only[HS]
 refine hs.ld 1 (v:=.int .i64 ((b1+o1:Nat):Int)) rfl rfl ?_;simp only[HV];refine hs.ld 2 (v:=.int .i64 (b1:Int)) rfl rfl ?_;simp only[HV];refine hs.ld 1 (v:=.int .i64 ((b2+o2:Nat):Int)) rfl rfl ?_;simp only[HV];refine hs.ld 2 (v:=.int .i64 (b2:Int)) rfl rfl ?_;simp only[HV];refine hs.ld 1 (v:=.int .i64 ((b3+o3:Nat):Int)) rfl rfl ?_;simp only[HV];refine hs.ld 2 (v:=.int .i64 (b3:Int)) rfl rfl ?_;simp only[HV];rw[show((b1+o1:Nat):Int)-b1=o1 by omega,show((b2+o2:Nat):Int)-b2=o2 by omega,show((b3+o3:Nat):Int)-b3=o3 by omega,aZy (by omega),aZy (by omega),aZy (by omega)];refine hs.stw 3 (y:=(ZT (o1,o2,o3)).toArray) rfl rfl rfl rfl fun H1 hs=>?_
 refine hs.ldw 3 rfl rfl ?_;exact hs.fin 0 rfl _
theorem pZU (H:Hp):Za prog 6 #[] H (RetE (.bool true) H):=by
 apply Za.ret;apply cZR.ok;unfold cZR;refine Za.use (jZY (most:=2) (sec:=30) (s:=32) (ar:=12) (by decide +kernel) H) ?_;simp only[HV];refine(Sep.start H).nw fun b1 H1 hs=>?_
 refine hs.stw 1 (y:=(ZT (9,0,0)).toArray) rfl rfl rfl rfl fun H1 hs=>?_
 refine ZV rfl ?_;refine hs.ldw 1 rfl rfl ?_;refine wZJ (B:=1000) (o:=(9,0,0)) ⟨by decide,by decide,by decide⟩ (by omega) ?_;simp only[HV];refine Za.use (jZE (1,2,3) ⟨by decide,by decide,by decide⟩ H1) ?_;simp only[HV];exact hs.fin 0 rfl _
def fZo (d:D):O3:=(d.rd,d.wr,d.sy)
theorem qZ8 {d d':D}{r w s:Nat}(h:bZE d d' r w s):fZo d'=cZ0 (fZo d) (r,w,s):=by
 unfold fZo cZ0;rw[h.rd,h.wr,h.sy]
theorem Liv.cnt {N:Nat}{d:D}{c:Cn}{m:Mn}(h:Liv N d c m)(hN:N≤400):smO 1000000 (fZo d):=by
 have h1:=h.rd;have h2:=h.wr;have h3:=h.sy;exact⟨by show d.rd≤_;omega,by show d.wr≤_;omega,by show d.sy≤_;omega⟩
theorem mZN {m:Mn}{per k i:Nat}{b:Bool}{l:List UInt64}{cs:List O3}{r w:Nat}(hp:1≤per)(hj:Job m k b l i)(hC:eZB m.most k per m.arena (aZD b k per m.arena) cs)(hs:iZo m per r w):cs[i]? =some (r,w,2):=by
 obtain⟨pz,r0,w0,hpz,hc,rfl,rfl⟩:=hs;rw[hj.plan per,hj.ps,Int.toNat_natCast]at hpz;have hlt:=(List.getElem?_eq_some_iff.1 hpz).1;have hl':i<cs.length:=by rw[hC.1];exact hlt
 obtain⟨r',w',hc',ho,_⟩:=hC.2 i pz _ hpz (List.getElem?_eq_getElem hl');rw[hj.kk,Int.toNat_natCast]at hc⊢;obtain⟨rfl,rfl⟩:=hc.unique hc';rw[List.getElem?_eq_getElem hl',ho,sZ9 hp];congr 1;refine Prod.ext ?_ rfl;show r0+Lay.ZI k per+8=Lay.ZI k per+r0+8
 omega
theorem tZV (a b:O3):∀ l:List O3,l.foldl cZ0 (cZ0 a b)=cZ0 a (l.foldl cZ0 b)
 | []=>rfl
 |c::l=>by
  rw[List.foldl_cons,List.foldl_cons,←tZV a (cZ0 b c) l];congr 1;unfold cZ0;simp only[Nat.add_assoc]
theorem qZY (a:O3):cZ0 a (0,0,0)=a:=rfl
theorem jZt (l:List O3)(a:O3):eZa (l++[a])=cZ0 (eZa l) a:=by unfold eZa;rw[List.foldl_append];rfl
theorem sZY (a:O3)(l:List O3):l.foldl cZ0 a=cZ0 a (eZa l):=by
 have:=tZV a (0,0,0) l
 rwa [qZY]at this
section
variable {most k : Nat} {sec : Int} {s words : Nat} (hpe : Lay.ZP (s : Int) = s / 8) (hg : Sup.aZX most sec s words = true) (hk : k ≤ most) (hk6 : k ≤ 6) (hw : aZ1 k (s / 8) ≤ words ∧ words ≤ 1000) (d : Bool) {cs : List O3} (hC : eZB most k (s / 8) words (aZD d k (s / 8) words) cs) (H : Hp) (hT : T64 H) (hr : Rcd H)
include hpe hg hk hk6 hw hC hT hr
theorem uZr {n:Nat}(hn:n≤1000):Za prog 29 #[.agg (Sup.bZi most sec s words),.int .i64 (k:Int),.int .i64 (if d=true then 1 else 0),.int .i64 (n:Int)] H (RetE (.tuple #[.agg (ZT (cZB cs n)).toArray,.int .i64 0]) H):=by
 rw[← hpe]at hw hC;exact qZ1 hg hk hk6 hw d hC H hT hr hn
end
section
variable {H0 : Hp} {p dp b1 bw ba mo k sc ar : Nat} {b : Bool} {l : List UInt64} {cs : List O3} (hT : T64 H0) (hr : Rcd H0) (hg : Sup.aZX mo (sc : Int) (32 : Nat) ar = true) (hk : k ≤ mo) (hk6 : k ≤ 6) (hw : aZ1 k (32 / 8) ≤ ar ∧ ar ≤ 1000) (hC : eZB mo k (32 / 8) ar (aZD b k (32 / 8) ar) cs)
include hT hr hg hk hk6 hw hC
end
section
variable {H0 : Hp} {p dp b1 mo k sc ar : Nat} {b : Bool} {l : List UInt64} {cs : List O3} (hT : T64 H0) (hr : Rcd H0) (hg : Sup.aZX mo (sc : Int) (32 : Nat) ar = true) (hk : k ≤ mo) (hmo6 : mo ≤ 6) (hw : aZ1 k (32 / 8) ≤ ar ∧ ar ≤ 1000) (hC : eZB mo k (32 / 8) ar (aZD b k (32 / 8) ar) cs)
variable {A : Option Addr} {n mm : Nat} (hn : n = l.length) (hnm : n ≤ mm) (hl : Cells H0 A (Zc l)) (hlg : lg (l.length : Int) = some k) (hcan : hZW l) (hlen : l.length ≤ 32)
include hT hr hg hk hmo6 hw hC
end
theorem fZl (a b:O3):bZa (cZ0 a b)=bZa a+bZa b:=by
 show a.1+b.1+(a.2.1+b.2.1)+(a.2.2+b.2.2)=a.1+a.2.1+a.2.2+(b.1+b.2.1+b.2.2);omega
theorem nZH (n:Nat)(a:O3):bZa (gZf n a)=n*bZa a:=by
 show n*a.1+n*a.2.1+n*a.2.2=n*(a.1+a.2.1+a.2.2);rw[Nat.mul_add,Nat.mul_add]
def iZ0 (cs:List O3)(i:Nat):Nat:=bZa ((cs.take i).foldl cZ0 eZy)
theorem iZ1 {cs:List O3}{i:Nat}{o:O3}(h:cs[i]? =some o):iZ0 cs (i+1)=iZ0 cs i+bZa o:=by
 obtain⟨hl,rfl⟩:=List.getElem?_eq_some_iff.1 h;unfold iZ0;rw[List.take_succ_eq_append_getElem hl,List.foldl_append];exact fZl _ _
theorem mZU (cs:List O3)(n:Nat):bZa (cZB cs n)=iZ0 cs cs.length+n*(bZa (fZ1 cs)+9):=by
 unfold cZB iZ0;rw[List.take_length,sZY,show cs++[eZy,gZf n (fZ1 cs),gZf n (9,0,0)]=((cs++[eZy])++[gZf n (fZ1 cs)])++[gZf n (9,0,0)] by simp,jZt,jZt,jZt,fZl,fZl,fZl,fZl,nZH,nZH,Nat.mul_add];show _+_+_+n*9=_
 omega
structure Bnd (was:O3)(cs:List O3)(d:D)(i cr:Nat):Prop where
 r:was.1≤d.rd
 w:was.2.1≤d.wr
 s:was.2.2≤d.sy
 le:bZa (fZo d)≤bZa was+iZ0 cs i+cr*(bZa (fZ1 cs)+9)
theorem kZn {d d':D}{r w s:Nat}(h:bZE d d' r w s):bZa (fZo d')=bZa (fZo d)+bZa (r,w,s):=by rw[qZ8 h,fZl]
theorem uZw {d d':D}{n:Nat}(h:Cut d d' n):bZa (fZo d')+1≤bZa (fZo d)+n:=by
 have h1:=h.cnt;have h2:=h.le;show d'.rd+d'.wr+d'.sy+1≤d.rd+d.wr+d.sy+n;omega
section
variable {H0 : Hp} {A7 A8 : Option Addr} {n7 m7 n8 m8 dp b1 bw mo k sc ar:Nat} {b : Bool} {l : List UInt64} {cs : List O3} {keep : List Bool} {fs : List UInt8} {was : O3}
variable (hT : T64 H0) (hr : Rcd H0) (hg : Sup.aZX mo (sc : Int) (32 : Nat) ar = true) (hk : k ≤ mo) (hk6 : k ≤ 6) (hw : aZ1 k (32 / 8) ≤ ar ∧ ar ≤ 1000) (hC : eZB mo k (32 / 8) ar (aZD b k (32 / 8) ar) cs)
variable (hn8 : n8 = keep.length) (hc8 : Cells H0 A8 (cZJ keep)) (hn7 : n7 = fs.length) (hn12 : n7 ≤ 12) (hc7 : Cells H0 A7 (Zm fs)) (hwas : smO 1000000 was)
abbrev bcL (p dp b1 bw mo sc ar:Nat)(was:O3)(H0:Hp)(g:Option Eg)(d:D):List As:=[En p dp g,Dk dp d,own H0,pts b1 (cZA mo sc 32 ar),pts bw (bZY was)]
def bcP (mo ar k:Nat)(b:Bool)(l:List UInt64)(i n:Nat)(m:Mn):Prop:=m.arena=ar∧m.most=mo∧∃ i',Job m k b l i'∧(i'=i∨i'=i+1)∧i'≤n
include hT hk6 hn8 hc8 hC in
theorem uZt {R22:Int→OA→Nat→Nat→OA→Nat→Nat→Int→Addr→OA→OA→Addr→Int→Int→Hp→Prop}{p N i j cr:Nat}{d:D}{c:Cn}{m:Mn}{pk:Int}{H:Hp}(hJ:Jb N sc 32 ar k b l d c m i)(hmo:m.most=mo)(hN:N≤370)(hlt:i<(aZD b k (32/8) ar).length)(hpk:pk≤m.arena)(hB:Bnd was cs d i cr)(hcr:cr≤100)
  (hR:∀(H:Hp) (p:Nat) (d':D) (c:Cn) (m:Mn) (pk:Int) (i' cr':Nat),Jb (N+6) sc 32 ar k b l d' c m i'→m.most=mo→pk≤m.arena→i≤i'→(d.fuse=0→i+1≤i')→Bnd was cs d' i' cr'→cr'≤cr+1→Sep (bcL p dp b1 bw mo sc ar was H0 (some (egM d' m pk)) d') H→R22 (if b=true then 1 else 0) A7 n7 m7 A8 n8 m8 (k:Int) ⟨b1,0,none⟩ (some ⟨dp,0,none⟩) (some ⟨p,0,none⟩) ⟨bw,0,none⟩ (cr':Int) (i64.wrap ((j:Int)+1)) H)
  (hs:Sep (bcL p dp b1 bw mo sc ar was H0 (some (egM d m pk)) d) H):
  Zd.j27 (Ret (.bool true) H0) R22 (if b=true then 1 else 0) A7 n7 m7 A8 n8 m8 (k:Int) ⟨b1,0,none⟩ (some ⟨dp,0,none⟩) (some ⟨p,0,none⟩) ⟨bw,0,none⟩ (cr:Int) (j:Int) H:=by
 have hL:=hJ.lv;have hsm:=hL.small (by omega);have hlen:=hL.len;have hld:=hL.ld;have hile:=hJ.le;have hsz:=hJ.size;have hp5:=(dZV b k (32/8) ar).2;have hstm:stM m (d.size/8)=3:=by rw[hJ.jb.st,hsz,hJ.har,if_pos hlt]
 have hkk:=hJ.jb.kk;unfold Zd.j27;refine(uZm (p:=p) (dp:=dp) (TT:=own H0) (fun H h=>hT.le h) hL.cl hL.hh hsm.1 hsm.2 hpk (by omega)).use hs [0,1,2] rfl rfl ?_;rintro _ _ H (⟨h,_⟩|⟨_,r,w',hSC,⟨d',c',pk',hpk',hwn,hc,hh,rfl,rfl⟩|⟨d',hcut,hleft,rfl,rfl⟩⟩) hs
 ·exact absurd hstm h
 ·have hco:cs[i]? =some (r,w',2):=mZN (by rw[hsz];omega) hJ.jb (by rw[hmo,hsz,hJ.har];exact hC) hSC;simp only[HV];refine Zq rfl ?_;unfold Zd.j30;have hs:Sep [En p dp (some (egM d (m.add (bZm m (d.size/8))) pk')),Dk dp d',own H0,pts b1 (cZA mo sc 32 ar),pts bw (bZY was)] H:=hs
  try simp only[HS]
  refine Za.use (pZd hs 1 rfl) ?_;rw[hc.down];simp only[HV];have hnx:Jb (N+2) sc 32 ar k b l d' c' (m.add (bZm m (d.size/8))) (i+1):=⟨hL.stepped hSC hwn hc hh,hwn.sec.trans hJ.sec,hwn.size.trans hsz,hJ.har,hJ.jb.next _,by omega⟩;rw[← hZ6 _ pk' hwn.sec hwn.size]at hs;have h1:=kZn hwn;have h2:=iZ1 hco;have hb:=hB.le;exact hR H p d' c' _ pk' (i+1) cr ⟨hnx.lv.up (by omega),hnx.sec,hnx.size,hnx.har,hnx.jb,hnx.le⟩ hmo hpk' (by omega) (fun _=>Nat.le_refl _) ⟨by have:=hB.r;have:=hwn.rd;omega,by have:=hB.w;have:=hwn.wr;omega,by have:=hB.s;have:=hwn.sy;omega,by omega⟩ (by omega) hs
 ·have hco:cs[i]? =some (r,w',2):=mZN (by rw[hsz];omega) hJ.jb (by rw[hmo,hsz,hJ.har];exact hC) hSC;have hmx:=uZM (List.mem_of_getElem? hco);have h1:=uZw hcut;have h2:=iZ1 hco;have hb:=hB.le;have hall:bZa (r,w',2)=r+w'+2:=rfl;simp only[HV];refine ZB (by decide) (Zq rfl ?_);have hf1:=hcut.pos;have hf2:=hcut.fuse;have hkl:r≤2000∧w'≤900:=by
   have h1:=hSC.le (by have:=hL.hh.per;omega) (by have:=hL.kk;omega) (Nat.le_trans (fZZ (by have:=(Mn.r_wf hL.hh).2.2;omega)) hL.hh.least);have h2:=iZI hL.kk;omega
  have hmost:=hL.most;have hD:Dea (N+2) d.sec d.size d' (bcP mo ar k b l i (aZD b k (32/8) ar).length):=hL.cut hcut (by omega) (hleft.mono fun c' h=>by
   rcases h with h|h
   ·exact⟨m,⟨hJ.har,hmo,i,hJ.jb,.inl rfl,hile⟩,hmost,by omega,by omega,h⟩
   ·refine⟨m.add (bZm m (d.size/8)),⟨hJ.har,hmo,i+1,hJ.jb.next _,.inr rfl,by omega⟩,hmost,?_,?_,h⟩
    ·show(m.L++[_]).length≤_;simp;omega
    ·rw[Mn.add_r];show m.r.ld≤_;omega)
  rw[hJ.sec,hsz]at hD;have hs:Sep [En p dp none,Dk dp d',own H0,pts b1 (cZA mo sc 32 ar),pts bw (bZY was)] H:=hs;unfold Zd.j30
  try simp only[HS]
  refine Za.use (pZd hs 1 rfl) ?_;rw[hD.down];simp only[HV];refine(uZd (p:=dp) hD.ok hD.dom hD.down A8 n8 m8 keep hn8 (own H0) (fun H h=>hc8.le h)).use hs [1,2] rfl rfl ?_;rintro _ _ H ⟨ks,hks,rfl,rfl⟩ hs;simp only[HV];refine Zq rfl ?_;obtain⟨c2,m2,⟨ha2,hmo2,i2,hj2,hi2,hle2⟩,hL2,hsec2,hsize2⟩:=hD.boot hks keep;have hfb:(D.boot d' ks keep).fuse=0:=hf2;have hcb:fZo (D.boot d' ks keep)=fZo d':=rfl;generalize D.boot d' ks keep=d2 at*;have hs:Sep [Dk dp d2,own H0,En p dp none,pts b1 (cZA mo sc 32 ar),pts bw (bZY was)] H:=hs;refine(mZo (dp:=dp)).use hs [] rfl rfl ?_;rintro _ _ H ⟨p2,rfl,rfl⟩ hs;have hs:Sep [En p2 dp none,Dk dp d2,own H0,En p dp none,pts b1 (cZA mo sc 32 ar),pts bw (bZY was)] H:=hs;simp only[HV];have hsm2:=hL2.small (by omega);have hlen2:=hL2.len;have hld2:=hL2.ld;refine(pZR (p:=p2) (dp:=dp) (g:=none) hL2.cl hL2.per hsm2.2 (o:=some m2) hL2.hh).use hs [0,1] rfl rfl ?_;rintro _ _ H (⟨_,h,_⟩|⟨d4,m4,hm4,hw4,hc4,rfl,rfl⟩|⟨_,hcut4,_⟩) hs
  ·cases h
  rotate_left
  ·exact(hcut4.calm hfb).elim
  cases hm4;have hs:Sep [En p2 dp (some (egM d2 m2 0)),Dk dp d4,own H0,En p dp none,pts b1 (cZA mo sc 32 ar),pts bw (bZY was)] H:=hs;rw[← hZ6 m2 0 hw4.sec hw4.size]at hs;have hJ4:Jb (N+4) sc 32 ar k b l d4 c2 m2 i2:=⟨hL2.went hw4 (by omega) hc4 hL2.hh rfl (by omega) (by omega),hw4.sec.trans hsec2,hw4.size.trans hsize2,ha2,hj2,hle2⟩;have h4:=kZn hw4;rw[hcb]at h4;have h9:bZa (9,0,0)=9:=rfl;have r1:d2.rd=d'.rd:=congrArg (fun o:O3=>o.1) hcb;have r2:d2.wr=d'.wr:=congrArg (fun o:O3=>o.2.1) hcb;have r3:d2.sy=d'.sy:=congrArg (fun o:O3=>o.2.2) hcb;simp only[HV];refine Zq rfl ?_;rw[ZL (x:=(cr:Int)+1) (by omega) (by omega),show(cr:Int)+1=((cr+1:Nat):Int) by omega];refine hR H p2 d4 c2 m2 0 i2 (cr+1) ⟨hJ4.lv.up (by omega),hJ4.sec,hJ4.size,hJ4.har,hJ4.jb,hJ4.le⟩ hmo2 (by omega) (by omega) (fun h=>by omega) ⟨by have:=hB.r;have:=hcut.rd;have:=hw4.rd;omega,by have:=hB.w;have:=hcut.wr;have:=hw4.wr;omega,by have:=hB.s;have:=hcut.sy;have:=hw4.sy;omega,?_⟩ (Nat.le_refl _) (hs.re [0,1,2,4,5] rfl);rw[Nat.succ_mul];rcases hi2 with rfl|rfl<;>omega
include hT hr hg hk hk6 hw hC hwas in
theorem qZ5 {p N cr:Nat}{d:D}{c:Cn}{m:Mn}{pk:Int}{H:Hp}(hJ:Jb N sc 32 ar k b l d c m (aZD b k (32/8) ar).length)(hN:N≤380)(hB:Bnd was cs d (aZD b k (32/8) ar).length cr)(hcr:cr≤100)
  (hs:Sep (bcL p dp b1 bw mo sc ar was H0 (some (egM d m pk)) d) H):
  Zd.j37 (Ret (.bool true) H0) (if b=true then 1 else 0) (k:Int) ⟨b1,0,none⟩ (some ⟨dp,0,none⟩) (some ⟨p,0,none⟩) ⟨bw,0,none⟩ (cr:Int) H:=by
 have hpe:Lay.ZP ((32:Nat):Int)=32/8:=by decide
 have hcn:=hJ.lv.cnt (by omega);have hld:=hJ.lv.ld;have hb:=hB.le;rw[← hC.1,Nat.add_assoc,←mZU]at hb;unfold Zd.j37 Zd.j37.q2 Zd.j37.q1;refine hs.ldw 3 rfl rfl ?_
 try simp only[Array.toArray_toList]
 refine Za.use (uZr hpe hg hk hk6 hw b hC H (hT.le (hs.ow 2 rfl)) (hr.le (hs.ow 2 rfl)) (n:=cr) (by omega)) ?_;simp only[HV];refine hs.nw fun b4 H hs=>?_
 refine hs.stw 5 (y:=(ZT (cZB cs cr)).toArray) rfl rfl rfl rfl fun H hs=>?_
 try simp only[HS]
 have hs:Sep [En p dp (some (egM d m pk)),Dk dp d,own H0,pts b1 (cZA mo sc 32 ar),pts bw (bZY was),pts b4 (bZY (cZB cs cr))] H:=hs;obtain⟨o,ho⟩:∃ o:O3,o=(d.rd-was.1,d.wr-was.2.1,d.sy-was.2.2):=⟨_,rfl⟩;have hco:fZo d=cZ0 was o:=by
  rw[ho];have h1:=hB.r;have h2:=hB.w;have h3:=hB.s;show(d.rd,d.wr,d.sy)=(was.1+(d.rd-was.1),was.2.1+(d.wr-was.2.1),was.2.2+(d.sy-was.2.2))
  rw[Nat.add_sub_cancel' h1,Nat.add_sub_cancel' h2,Nat.add_sub_cancel' h3]
 have hso:smO 1000000 o:=by
  obtain⟨q1,q2,q3⟩:=hcn;rw[ho];exact⟨Nat.le_trans (Nat.sub_le _ _) q1,Nat.le_trans (Nat.sub_le _ _) q2,Nat.le_trans (Nat.sub_le _ _) q3⟩
 have hao:bZa o≤bZa (cZB cs cr):=by
  rw[hco,fZl]at hb;omega
 have hwo:smO 1000000000000 (cZB cs cr):=by
  have hm:bZa (cZB cs cr)≤1000000000:=by
   rw[mZU];have h5:=(dZV b k (32/8) ar).2;have h5':=hC.1;have hmx:smO 10000 (fZ1 cs):=rZH cs _ ⟨by decide,by decide,by decide⟩ hC.small;have ha:bZa (fZ1 cs)≤30000:=by obtain⟨a1,a2,a3⟩:=hmx;unfold bZa;omega
   have hmul:cr*(bZa (fZ1 cs)+9)≤100*30009:=Nat.mul_le_mul hcr (by omega);have hdue:∀ i,i≤cs.length→iZ0 cs i≤10+i*30000:=fun i=>by
    induction i with
    |zero=>intro _;exact Nat.le_refl 10
    |succ i ih=>
     intro hi;have h:=iZ1 (List.getElem?_eq_getElem (show i<cs.length by omega));have hso:=hC.small _ (List.getElem_mem (show i<cs.length by omega));have hal:bZa (cs[i]'(by omega))≤30000:=by obtain⟨a1,a2,a3⟩:=hso;unfold bZa;omega
     have:=ih (by omega);rw[h,Nat.succ_mul];omega
   have:=hdue cs.length (Nat.le_refl _);omega
  unfold bZa at hm;exact⟨by omega,by omega,by omega⟩
 have hCt:∀{H:Hp} {L:List As} (i:Nat),Sep L H→L[i]? =some (Dk dp d)→Za prog 15 #[.pointer (some ⟨dp,3,none⟩)] H (RetE (.agg (ZT (cZ0 was o)).toArray) H):=fun i hs hi=>by rw[← hco];exact oZ0 hs i hi
 have hLs:∀ H,Za prog 18 #[.agg (ZT (cZ0 was o)).toArray,.agg (ZT was).toArray] H (RetE (.agg (ZT o).toArray) H):=fun H=>lZU was o (hwas.mono (by omega)) (hso.mono (by omega)) H
 have j39:∀(b5:Nat) (H:Hp),Sep [En p dp (some (egM d m pk)),Dk dp d,own H0,pts b1 (cZA mo sc 32 ar),pts bw (bZY was),pts b4 (bZY (cZB cs cr)),pts b5 (bZY o)] H→Zd.j39 (Ret (.bool true) H0) (some ⟨p,0,none⟩) ⟨b4,0,none⟩ 0 ⟨b5,0,none⟩ H:=fun b5 H hs=>by
  unfold Zd.j39;refine ZV rfl ?_;refine(iZT (p:=p) (dp:=dp) (some (egM d m pk)) (fun e he=>by cases he;show m.r.ld<_;omega)).use hs [0] rfl rfl ?_;rintro _ _ H ⟨rfl,rfl⟩ hs;simp only[HV];refine nZY (jZr _) ?_;simp only[HV];refine ZV (by rw[iZE,hJ.jb.st,hJ.size,hJ.har,if_neg (by omega)]) ?_;have hs:Sep [En p dp (some (egM d m pk)),Dk dp d,own H0,pts b1 (cZA mo sc 32 ar),pts bw (bZY was),pts b4 (bZY (cZB cs cr)),pts b5 (bZY o)] H:=hs;obtain⟨o1,o2,o3⟩:=o;obtain⟨q1,q2,q3⟩:=hso;simp only at q1 q2 q3;have ha:o1+o2+o3≤bZa (cZB cs cr):=hao
  try simp only[HS]
  refine hs.ld 6 (v:=.int .i64 (o1:Int)) rfl rfl ?_;simp only[HV];refine hs.ld 6 (v:=.int .i64 (o2:Int)) rfl rfl ?_;simp only[HV];refine hs.ld 6 (v:=.int .i64 (o3:Int)) rfl rfl ?_;simp only[HV];refine hs.ldw 5 rfl rfl ?_
  try simp only[Array.toArray_toList]
  refine ZM.use (jZE (cZB cs cr) hwo H) ?_;simp only[HV];rw[ZL (x:=(o1:Int)+o2) (by omega) (by omega),ZL (x:=(o1:Int)+o2+o3) (by omega) (by omega),decide_eq_true (show(o1:Int)+o2+o3≤((bZa (cZB cs cr):Nat):Int) by omega)];exact hs.fin 2 rfl _
 have S1:∀(b5:Nat) (H:Hp),Sep [En p dp (some (egM d m pk)),Dk dp d,own H0,pts b1 (cZA mo sc 32 ar),pts bw (bZY was),pts b4 (bZY (cZB cs cr)),pts b5 (bZY (0,0,0))] H→StA H ⟨b5,0,none⟩ (ZT o).toArray 3 fun H=>Zd.j39 (Ret (.bool true) H0) (some ⟨p,0,none⟩) ⟨b4,0,none⟩ 0 ⟨b5,0,none⟩ H:=fun b5 H hs=>
  hs.stw 6 (y:=(ZT o).toArray) rfl rfl rfl rfl fun H hs=>j39 b5 H (hs.re [0,1,2,3,4,5,6] rfl)
 refine⟨?_,hs.ldw 4 rfl rfl ⟨?_,?_⟩,hs.nw fun b5 H hs=>⟨?_,hs.ldw 4 rfl rfl ?_⟩⟩
 ·refine Za.use (hCt 1 hs rfl) ?_;simp only[HV];refine⟨hs.ldw 4 rfl rfl ⟨ZM.use (hLs H) ?_,hs.nw fun b5 H hs=>ZM.use (hLs H) ?_⟩,hs.nw fun b5 H hs=>hs.ldw 4 rfl rfl (ZM.use (hLs H) ?_)⟩
  all_goals
   simp only[HV]
   first|exact S1 _ _ hs|exact hs.nw fun b5 H hs=>S1 _ _ hs
 ·refine Za.use (hCt 1 hs rfl) ?_;simp only[HV];refine⟨ZM.use (hLs H) ?_,hs.nw fun b5 H hs=>ZM.use (hLs H) ?_⟩
  all_goals
   simp only[HV]
   first|exact S1 _ _ hs|exact hs.nw fun b5 H hs=>S1 _ _ hs
 ·refine hs.nw fun b5 H hs=>Za.use (hCt 1 hs rfl) ?_
  simp only[HV];refine ZM.use (hLs H) ?_;simp only[HV];exact S1 _ _ hs
 ·refine Za.use (hCt 1 hs rfl) ?_;simp only[HV];refine hs.ldw 4 rfl rfl (ZM.use (hLs H) ?_);simp only[HV];exact S1 _ _ hs
 ·refine Za.use (hCt 1 hs rfl) ?_;simp only[HV];refine ZM.use (hLs H) ?_;simp only[HV];exact S1 _ _ hs
include hT hr hg hk hk6 hw hC hwas hn8 hc8 hn7 hn12 hc7 in
theorem uZs :∀(t j i N p cr:Nat) (d:D) (c:Cn) (m:Mn) (pk:Int) (H:Hp),Jb N sc 32 ar k b l d c m i→m.most=mo→N≤10+6*j→pk≤m.arena→Bnd was cs d i cr→cr≤j→(n7-j)+((aZD b k (32/8) ar).length-i)≤t→j+t≤30→
  Sep (bcL p dp b1 bw mo sc ar was H0 (some (egM d m pk)) d) H→
  Zd.l22 (Ret (.bool true) H0) (t+1) (if b=true then 1 else 0) A7 n7 m7 A8 n8 m8 (k:Int) ⟨b1,0,none⟩ (some ⟨dp,0,none⟩) (some ⟨p,0,none⟩) ⟨bw,0,none⟩ (cr:Int) (j:Int) H:=fun t=>by
 induction t with
 |zero=>
  intro j i N p cr d c m pk H hJ hmo hN hpk hB hcr hφ hjt hs;have hile:=hJ.le;have hld:=hJ.lv.ld;have hip:i=(aZD b k (32/8) ar).length:=by omega
  subst hip;unfold Zd.l22;refine Zn (by omega) ?_;refine(iZT (p:=p) (dp:=dp) (some (egM d m pk)) (fun e he=>by cases he;show m.r.ld<_;omega)).use hs [0] rfl rfl ?_;rintro _ _ H ⟨rfl,rfl⟩ hs;simp only[HV];refine nZY (jZr _) ?_;simp only[HV];refine Zq (by rw[iZE,hJ.jb.st,hJ.size,hJ.har,if_neg (by omega)]) ?_;exact qZ5 hT hr hg hk hk6 hw hC hwas hJ (by omega) hB (by omega) hs
 |succ t ih=>
  intro j i N p cr d c m pk H hJ hmo hN hpk hB hcr hφ hjt hs;have hile:=hJ.le;have hld:=hJ.lv.ld;unfold Zd.l22;refine Zn (by omega) ?_;refine(iZT (p:=p) (dp:=dp) (some (egM d m pk)) (fun e he=>by cases he;show m.r.ld<_;omega)).use hs [0] rfl rfl ?_;rintro _ _ H ⟨rfl,rfl⟩ hs;have hs:Sep (bcL p dp b1 bw mo sc ar was H0 (some (egM d m pk)) d) H:=hs;simp only[HV];refine nZY (jZr _) ?_;simp only[HV];by_cases hip:i=(aZD b k (32/8) ar).length
  ·subst hip;refine Zq (by rw[iZE,hJ.jb.st,hJ.size,hJ.har,if_neg (by omega)]) ?_;exact qZ5 hT hr hg hk hk6 hw hC hwas hJ (by omega) hB (by omega) hs
  ·refine ZB (by rw[iZE,hJ.jb.st,hJ.size,hJ.har,if_pos (by omega)];decide) ?_;have turn:∀(fu:Nat) (H:Hp),fu≤255→(j<n7∨fu=0)→Sep (bcL p dp b1 bw mo sc ar was H0 (some (egM d m pk)) { d with fuse:=fu}) H→
     Zd.j27 (Ret (.bool true) H0) (Zd.l22 (Ret (.bool true) H0) (t+1)) (if b=true then 1 else 0) A7 n7 m7 A8 n8 m8 (k:Int) ⟨b1,0,none⟩ (some ⟨dp,0,none⟩) (some ⟨p,0,none⟩) ⟨bw,0,none⟩ (cr:Int) (j:Int) H:=fun fu H hfu hor hs=>by
    have hJ2:Jb N sc 32 ar k b l { d with fuse:=fu} c m i:=⟨hJ.lv.fused fu (by omega),hJ.sec,hJ.size,hJ.har,hJ.jb,hile⟩;refine uZt (R22:=Zd.l22 (Ret (.bool true) H0) (t+1)) hT hk6 hC hn8 hc8 hJ2 hmo (by omega) (by omega) hpk ⟨hB.r,hB.w,hB.s,hB.le⟩ (by omega) (fun H p' d' c' m1 pk' i' cr' h1 hm1 h3 h4 h5 hB' hcr' hs=>?_) hs;rw[ZL (x:=(j:Int)+1) (by omega) (by omega)];have h5':fu=0→i+1≤i':=h5;have hile':=h1.le;refine ih (j+1) i' (N+6) p' cr' d' c' m1 pk' H h1 hm1 (by omega) h3 hB' (by omega) ?_ (by omega) hs;rcases hor with h|h
    ·omega
    ·have:=h5' h;omega
   try simp only[HS]
   refine(oZ2 (p:=dp) (d:=d) 0).use hs [1] rfl rfl ?_;rintro _ _ H ⟨rfl,rfl⟩ hs;by_cases hlt:j<n7
   ·refine Zn (by omega) ?_;have hlt2:j<fs.length:=by omega
    have hg:(Zm fs)[j]? =some (.int .u8 ((fs[j]'hlt2).toNat:Int)):=by
     unfold Zm;rw[List.getElem?_map,List.getElem?_eq_getElem hlt2];rfl
    try simp only[HS]
    refine(hc7.le (hs.ow 2 rfl)).read hg rfl (by rw[ZJ];omega) ?_;simp only[HV];have hf255:(fs[j]'hlt2).toNat≤255:=by have:=(fs[j]'hlt2).toNat_lt;omega
    generalize(fs[j]'hlt2).toNat=fu at hf255;rw[aZy (n:=fu) (by omega)]
    try simp only[HS]
    refine(oZ2 (p:=dp) (d:={ d with fuse:=0}) (fu:Int)).use hs [0] rfl rfl ?_;rintro _ _ H ⟨rfl,rfl⟩ hs;exact turn fu H hf255 (.inl hlt) (hs.re [1,0,2,3,4] rfl)
   ·refine Zh (by omega) ?_;exact turn 0 H (by omega) (.inr rfl) (hs.re [1,0,2,3,4] rfl)
end
theorem vZL {ar:Nat}(ha:20≤ar∧ar≤79):Sup.aZX ((5:Nat):Int) ((45:Nat):Int) (32:Nat) ar=true∧bZC 45 (32/8) ((5:Nat):Int) (ar:Int)=0∧aZ1 5 4≤ar:=by
 have h1:Lay.cZa 5 4=41:=by decide
 have h2:aZ1 5 4=20:=by decide
 have h3:Lay.cZa 5 (32/8)=41:=by decide
 have h4:aZ1 5 (32/8)=20:=by decide
 refine⟨decide_eq_true ⟨by omega,by omega,by decide,?_,by omega,by omega⟩,?_,by omega⟩
 ·show(Lay.cZa ((5:Nat):Int).toNat 4:Int)≤_
  rw[Int.toNat_natCast,h1];decide
 ·unfold bZC;rw[if_neg (by omega),if_neg (by rw[Int.toNat_natCast,h3];omega),if_neg (by rw[Int.toNat_natCast,h4];omega)]
theorem BudgetCrashes_ok (A1 A2 A3:OA)(n1 m1 n2 m2 n3 m3:Nat)(l:List UInt64)(hn1:n1=l.length)(hm1:n1≤m1)(dir:Int)(w:Nat)(hw:w<256)(fs:List UInt8)(hn2:n2=fs.length)(keep:List Bool)(hn3:n3=keep.length)(H:Hp)(hT:T64 H)(hr:Rcd H)(hl:Cells H A1 (Zc l))(hcF:Cells H A2 (Zm fs))(hcK:Cells H A3 (cZJ keep)):
  Za prog 4 #[.slice A1 n1 m1,.int .i64 dir,.int .u8 (w:Int),.slice A2 n2 m2,.slice A3 n3 m3] H (RetE (.bool true) H):=by
 apply Za.ret;apply Zd.ok;unfold Zd;refine Za.use (pZU H) ?_;simp only[HV];have yes:Ret (.bool true) H (.bool true) H:=⟨rfl,Hp.le_refl _⟩;refine Za.use (oZl (n1:Int) H) ?_;simp only[HV];by_cases h1:(n1:Int)>32
 ·exact Zn h1 yes
 refine Zh h1 ?_;cases hlg:lg (n1:Int)with
 |none=>
  refine Zn (by unfold eZ2;rw[hlg];decide) yes
 |some k=>
 have hfit:eZ2 (n1:Int)=(k:Int):=by unfold eZ2;rw[hlg]
 rw[hfit];refine Zh (by omega) ?_;have hl2:=(dZf hlg).2;have hk5:k≤5:=by
  rcases Nat.lt_or_ge 5 k with h|h
  ·have:2^6≤2^k:=Nat.pow_le_pow_right (by omega) h;omega
  ·exact h
 obtain⟨ar,har⟩:∃ ar,ar=20+w%60:=⟨_,rfl⟩;obtain⟨hg,hfv,hls⟩:=vZL (ar:=ar) (by omega);have hwk:aZ1 k (32/8)≤ar∧ar≤1000:=by
  have h:aZ1 k 4≤aZ1 5 4:=fZZ hk5;exact⟨by show aZ1 k 4≤_;omega,by omega⟩
 have e1:i64.wrap ((20:Int)+Int.tmod (i64.wrap (w:Int)) 60)=((ar:Nat):Int):=by
  rw[aZy (n:=w) (by omega),show Int.tmod (w:Int) 60=((w%60:Nat):Int)from rfl,ZL (by omega) (by omega)];omega
 have j6:∀ b:Bool,dir=(if b=true then 1 else 0)→n2≤12→Zd.j6 (Ret (.bool true) H) A1 n1 m1 dir (w:Int) A2 n2 m2 A3 n3 m3 (k:Int) H:=fun b hb h12=>by
  subst hb;unfold Zd.j6;rw[e1];refine⟨by decide,by simp,?_⟩;refine(Sep.start H).nw fun b1 H1 hs=>?_
  refine hs.stw 1 (y:=Sup.bZi ((5:Nat):Int) ((45:Nat):Int) (32:Nat) ar) rfl rfl rfl rfl fun H1 hs=>?_
  have hs:Sep [own H,pts b1 (cZA 5 ((45:Nat):Int) 32 ar)] H1:=hs;refine(tZh (R0:=own H) (A:=A1) (n:=n1) (m:=m1) (l:=l) (most:=5) (st:=1) (ar:=0) (sc:=0) (sz:=0) (ld:=0) (s1:=0) (s2:=0) (s3:=0) (s4:=0) (s5:=0) hn1 (by omega) (fun H h=>hl.le h) (by decide) (by decide)).use hs [0] rfl rfl ?_;rintro _ _ H1 (⟨y,i,e,he,hno,hy1,hy2,rfl,rfl⟩|⟨k2,A',m',hok,rfl,rfl⟩) hs
  ·simp only[HV];refine hs.nw fun b2 H1 hs=>?_
   refine hs.stw 2 (y:=y) rfl rfl hy1 hy2 fun H1 hs=>?_
   exact ZB he (hs.fin 0 rfl _)
  simp only[HV];refine hs.nw fun b2 H1 hs=>?_
  refine hs.stw 3 (y:=mch (2,0+1,k2,0,0,0) 5 0 0 0 (0+1) A' l.length m') rfl rfl rfl rfl fun H1 hs=>?_
  refine Zq rfl ?_;have hs:Sep [own H,pts b1 (cZA 5 ((45:Nat):Int) 32 ar)] H1:=hs.re [1,2] rfl;have hcan:=hok.2.2;have hlgl:lg (l.length:Int)=some k:=by rw[← hn1];exact hlg
  try simp only[HS]
  refine hs.ld 1 (v:=.int .i64 ((45:Nat):Int)) rfl rfl ?_;simp only[HV];refine(Dsk.dZM 45 32 (by omega) (by decide) (by omega)).use hs [] rfl rfl ?_;rintro _ _ H1 ⟨dp,rfl,rfl⟩ hs;simp only[HV];refine(mZo (dp:=dp)).use hs [] rfl rfl ?_;rintro _ _ H1 ⟨p,rfl,rfl⟩ hs;simp only[HV];refine aZb rfl (aZb rfl ?_);have hs:Sep [En p dp none,Dk dp (D.fresh 45 32),own H,pts b1 (cZA 5 ((45:Nat):Int) 32 ar)] H1:=hs
  try simp only[HS]
  refine hs.ld 3 (v:=.int .i64 ((5:Nat):Int)) rfl rfl ?_;simp only[HV];refine hs.ld 3 (v:=.int .i64 (ar:Int)) rfl rfl ?_;simp only[HV];have hcl:=Clean.fresh (sec:=45) (size:=32) (by omega) (by decide) (by omega);obtain⟨cs,hC⟩:=eZB.ex (most:=5) (k:=k) (per:=32/8) (words:=ar) (by decide) (by omega) hk5 (by omega) hwk.2 hT (aZD b k (32/8) ar) (iZz (by omega) hwk.1);refine(qZM (p:=p) (dp:=dp) (g:=none) hcl (by show 0<Lay.ZP ((32:Nat):Int);decide) ⟨Nat.zero_le _,Nat.zero_le _,Nat.zero_le _⟩ ((5:Nat):Int) (ar:Int)).use hs [0,1] rfl rfl ?_;rintro _ _ H1 (⟨h,_⟩|⟨kn,wn,e1,e2,_,⟨d,c,hw',hc,hh,rfl,rfl⟩|⟨d',hcut,_⟩⟩) hs
  ·exact absurd hfv h
  rotate_left
  ·exact(hcut.calm rfl).elim
  obtain rfl:kn=5:=by omega
  obtain rfl:ar=wn:=by omega
  have r1:=hw'.rd;have r2:=hw'.wr;have r3:=hw'.sy;have hL:Liv 2 d c (cZb 5 ar):=⟨hc,by rw[hw'.sec,hw'.size];exact hh,by show 5≤6;omega,Nat.zero_le _,Nat.zero_le _,by rw[r1];show 0+0≤_;omega,by rw[r2];show 0+10≤_;omega,by rw[r3];show 0+3≤_;omega⟩;have hf:d.fuse=0:=hw'.calm rfl;have hsz:d.size=32:=hw'.size;have hsec:d.sec=45:=hw'.sec;simp only[HV];refine Zq rfl ?_;have hs:Sep [En p dp (some (egM (D.fresh 45 32) (cZb 5 ar) 0)),Dk dp d,own H,pts b1 (cZA 5 ((45:Nat):Int) 32 ar)] H1:=hs;rw[← hZ6 (cZb 5 ar) 0 hw'.sec hw'.size]at hs;have hsm:=hL.small (by omega);refine(uZk (p:=p) (dp:=dp) hL.cl hL.hh hsm.1 hsm.2 (by show(0:Int)≤_;omega) (l:=l) (A:=A1) (n:=n1) (mm:=m1) (RR:=own H) (TT:=pts b1 (cZA 5 ((45:Nat):Int) 32 ar)) hn1 hm1 (by omega) (fun H' h=>hl.le h) (.inr fun H' h=>hT.le h)).use hs [0,1,2,3] rfl rfl ?_;rintro _ _ H1 (⟨k',i,e,hchk,hne,_⟩|⟨k',hk',_,_,⟨d1,c1,pk1,hpk1,hw1,hc1,hh1,rfl,rfl⟩|⟨d1,hcut,_⟩⟩) hs
  ·cases hchk with
   |len h=>rw[h]at hlgl;cases hlgl
   |big h h2=>rw[h]at hlgl;cases hlgl;exact absurd h2 (by show ¬((_:Nat):Int)>((5:Nat):Int);omega)
   |word h h2 h3=>exact absurd hcan h3
   |ok h h2 h3=>exact absurd rfl hne
  rotate_left
  ·exact(hcut.calm hf).elim
  obtain rfl:k=k':=by rw[hlgl]at hk';cases hk';rfl
  have hf1:d1.fuse=0:=hw1.calm hf;have h64:=iZI (k:=k) (by omega);have hper:=hL.hh.per;have hb1:=oZB (d.size/8) k;have hb2:=oZC (d.size/8) k;have hb3:=qZa (per:=d.size/8) (w:=2^k) (by omega) (Nat.two_pow_pos k);have h1r:(aZG (cZb 5 ar) k).r=cZl (cZb 5 ar) k:=Mn.add_r _ _;have h2r:(bZp (cZb 5 ar) k l).r=dZc (aZG (cZb 5 ar) k) k l:=Mn.add_r _ _;have h3r:(iZ5 (cZb 5 ar) k l b).r=cZW (bZp (cZb 5 ar) k l) b:=Mn.add_r _ _;have hld1:(bZp (cZb 5 ar) k l).r.ld=1:=by rw[h2r];show(aZG (cZb 5 ar) k).r.ld=_;rw[h1r];rfl
  have hld2:(iZ5 (cZb 5 ar) k l b).r.ld=1:=by rw[h3r];exact hld1
  have hL1:Liv 4 d1 c1 (bZp (cZb 5 ar) k l):=hL.went hw1 (by unfold ldR ldW;omega) hc1 hh1 rfl (by show([]++[_]++[_]:List _).length≤_;simp) (by omega);have hsm1:=hL1.small (by omega);have hcn1:=hL1.cnt (by omega);simp only[HV];refine Zq rfl ?_
  try simp only[HS]
  have hs:Sep [En p dp (some (egM d (bZp (cZb 5 ar) k l) pk1)),Dk dp d1,own H,pts b1 (cZA 5 ((45:Nat):Int) 32 ar)] H1:=hs;rw[← hZ6 (bZp (cZb 5 ar) k l) pk1 hw1.sec hw1.size]at hs;refine Za.use (oZ0 hs 1 rfl) ?_;simp only[HV];refine hs.nw fun bw H1 hs=>?_
  refine hs.stw 4 (y:=(ZT (fZo d1)).toArray) rfl rfl rfl rfl fun H1 hs=>?_
  have hst:stM (bZp (cZb 5 ar) k l) (d1.size/8)=2:=by unfold stM;rw[if_pos (by rw[h2r];rfl)]
  refine(qZW (p:=p) (dp:=dp) hL1.cl hL1.hh hsm1.1 hsm1.2 hpk1 (if b=true then 1 else 0)).use hs [0,1] rfl rfl ?_;rintro _ _ H1 (⟨h,_⟩|⟨_,h,_⟩|⟨_,b',hb',⟨d2,c2,hw2,hc2,hh2,rfl,rfl⟩|⟨d2,hcut,_⟩⟩) hs
  ·exact absurd hst h
  ·exact absurd (by cases b<;>simp) h
  rotate_left
  ·exact(hcut.calm hf1).elim
  obtain rfl:b'=b:=by cases b<;>cases b'<;>first|rfl|(exfalso;revert hb';decide)
  have hL2:Liv 6 d2 c2 (iZ5 (cZb 5 ar) k l b'):=hL1.went hw2 (by omega) hc2 hh2 rfl (by show([]++[_]++[_]++[_]:List _).length≤_;simp) (by omega);simp only[HV];refine Zq rfl ?_;have hs:Sep [En p dp (some (egM d1 (iZ5 (cZb 5 ar) k l b') pk1)),Dk dp d2,own H,pts b1 (cZA 5 ((45:Nat):Int) 32 ar),pts bw (bZY (fZo d1))] H1:=hs;rw[← hZ6 (iZ5 (cZb 5 ar) k l b') pk1 hw2.sec hw2.size]at hs;have hj:=sZZ (cZb 5 ar) k l b';have hp5:=(dZV b' k (32/8) ar).2;have hcw:=kZn hw2;have h10:bZa (8,1,1)=iZ0 cs 0:=rfl;refine⟨n2+5+1,?_⟩;exact uZs (was:=fZo d1) (fs:=fs) (keep:=keep) hT hr hg hk5 (by omega) hwk hC hn3 hcK hn2 h12 hcF hcn1 (n2+5) 0 0 10 p 0 d2 c2 (iZ5 (cZb 5 ar) k l b') pk1 H1 ⟨hL2.up (by omega),hw2.sec.trans (hw1.sec.trans hsec),hw2.size.trans (hw1.size.trans hsz),rfl,hj,Nat.zero_le _⟩ rfl (by omega) hpk1
   ⟨by have:=hw2.rd;show d1.rd≤_;omega,by have:=hw2.wr;show d1.wr≤_;omega,by have:=hw2.sy;show d1.sy≤_;omega,by omega⟩ (Nat.le_refl _) (by omega) (by omega) (hs.re [0,1,2,3,4] rfl)
 have rest:∀ b:Bool,dir=(if b=true then 1 else 0)→BIf (decide ((n2:Int)>12)) (Ret (.bool true) H (.bool true) H) (BIf (decide ((n3:Int)>40)) (Ret (.bool true) H (.bool true) H) (Zd.j6 (Ret (.bool true) H) A1 n1 m1 dir (w:Int) A2 n2 m2 A3 n3 m3 (k:Int) H)):=fun b hb=>by
  by_cases h2:(n2:Int)>12
  ·exact Zn h2 yes
  refine Zh h2 ?_;by_cases h3:(n3:Int)>40
  ·exact Zn h3 yes
  exact Zh h3 (j6 b hb (by omega))
 by_cases h0:dir=0
 ·exact Zq h0 (rest false h0)
 ·refine ZB h0 ?_;by_cases h1:dir=1
  ·exact Zq h1 (rest true h1)
  ·exact ZB h1 yes
end Eng
end Go.Proofs.YtgfildcgihbdaaaGreatDoor
