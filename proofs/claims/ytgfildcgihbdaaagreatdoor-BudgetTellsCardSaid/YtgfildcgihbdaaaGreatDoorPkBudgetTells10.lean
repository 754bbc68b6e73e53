import Derived.Test.YtgfildcgihbdaaaGreatDoorProg
import Derived.Test.YtgfildcgihbdaaaGreatDoorPkBudgetTells9
set_option maxRecDepth 100000
set_option linter.unusedSimpArgs false
set_option linter.unusedVariables false
set_option linter.unnecessarySimpa false
set_option linter.unusedSectionVars false
open Go.IntKind (i64 u32)
namespace Go.Proofs.YtgfildcgihbdaaaGreatDoor
open Tryz (prog)
namespace Eng
open Go Go.Hw Go.Form W Shp Dsk Str Are Trn Pas Pln Rec Srt Rng
theorem dZJ.go {g:FuncId}{args:Array Value}{H:Hp}{K:VK}(h:fZt prog g=true)(k:Za prog g args H K):dZJ prog g args H K:=aZt h k
def aZK (m:Mn)(k:Nat):Mn:=m.add (cZy m k)
def bZJ (m:Mn)(k:Nat)(l:List UInt64):Mn:={ aZK m k with inp:=l}.add (dZi (aZK m k) k l)
def ldR (per k:Nat):Nat:=16+wiR per k+nS per (2^k)
def ldW (per k:Nat):Nat:=2+wiW per k
section
variable {p dp : Nat} {d : D} {c : Cn} {m : Mn} {peak : Int} (hc : Clean d c) (hh : Holds d.sec d.size m c) (hS : Small 100000 m) (ho : d.rd ≤ 800000 ∧ d.wr ≤ 800000 ∧ d.sy ≤ 800000) (hpk : peak ≤ m.arena)
def iZI (p dp:Nat)(d:D)(m:Mn)(peak:Int)(l:List UInt64)(RR TT:As)(v:Value)(M:List As):Prop:=
 (∃ k i e,hZR l m.most k i e∧e≠0∧v= .tuple #[.int .i64 i,.int .i64 e]∧M=[En p dp (some (egM d m peak)),Dk dp d,RR,TT])∨
 (∃ k:Nat,lg (l.length:Int)=some k∧k≤m.most∧hZ3 l∧
  ((∃ d' c' peak',peak'≤(m.arena:Int)∧bZB d d' (ldR (d.size/8) k) (ldW (d.size/8) k) 3∧Clean d' c'∧Holds d.sec d.size (bZJ m k l) c'∧v= .tuple #[.int .i64 0,.int .i64 0]∧M=[En p dp (some (egM d (bZJ m k l) peak')),Dk dp d',RR,TT])∨
  (∃ d',Cut d d' (ldR (d.size/8) k+ldW (d.size/8) k+3)∧Left d' (fun c'=>Holds d.sec d.size m c'∨Holds d.sec d.size (aZK m k) c'∨Holds d.sec d.size (bZJ m k l) c')∧v= .tuple #[.int .i64 0,.int .i64 8]∧M=[En p dp none,Dk dp d',RR,TT])))
set_option maxHeartbeats 8000000 in
include hc hh hS ho hpk in
theorem uZC {l:List UInt64}{A:OA}{n mm:Nat}{RR TT:As}(hn:n=l.length)(hnm:n≤mm)(hl20:l.length≤40000)(hR:∀ H,RR H→Cells H A (Zd l))(hT:(∀ H,TT H→T64 H)∨∀ H,RR H→T64 H):
  Tr prog 17 #[.pointer (some ⟨p,0,none⟩),.slice A n mm] [En p dp (some (egM d m peak)),Dk dp d,RR,TT] (iZI p dp d m peak l RR TT):=fun H hs=>by
 subst hn;have he:=hh.eg hpk;obtain⟨mp,ap,rp,A',m',hs⟩:=En.whole hs;apply Zi.ok;unfold Zi Zi.q3 Zi.q2 Zi.q1;refine hs.nw fun b1 H hs=>?_
 refine hs.nw fun b2 H hs=>?_
 have chk:∀(L:List As) (H:Hp) (K:VK),Sep L H→L[6]? =some RR→L[7]? =some TT→(∀ k i e,hZR l m.most k i e→K (.tuple #[.int .i64 k,.int .i64 i,.int .i64 e]) H)→
   Za prog 52 #[.slice A l.length mm,.int .i64 (m.most:Int)] H K:=fun L H K hs h6 h7 hk=>by
  obtain⟨H1,hr,hr'⟩:=hs.see 6 h6;obtain⟨H2,ht,ht'⟩:=hs.see 7 h7;refine Za.mono (qZ5 A l.length mm l m.most rfl (by omega) H (hT.elim (fun f=>(f _ ht).le ht') fun f=>(f _ hr).le hr') ((hR _ hr).le hr')) ?_;rintro _ _ ⟨⟨k,i,e,h,rfl⟩,rfl⟩;exact hk k i e h
 have hk0:∀{k:Nat},lg (l.length:Int)=some k→l.length=2^k:=fun h=>by have:=(dZm h).2;omega
 have hld:=hS.ld;have hpe:(egM d m peak).per=D.per d:=rfl;have j4:∀ k i e b3 H,hZR l m.most k i e→Sep [pts p (aZr dp (some mp)),pts mp (aZd (egM d m peak) ap rp A' (psE (egM d m peak)).length m'),Ar ap m.arena peak [],pts rp (ZW dp 1 8 ((8*(egM d m peak).per:Nat):Int)),Own 126 8 A' (psE (egM d m peak)).length m' (bZp (psE (egM d m peak))),Dk dp d,RR,TT,
   pts b1 (.obj (.cells #[.pointer (some ⟨p,0,none⟩)] 36)),pts b2 (.obj (.cells #[.slice A l.length mm] 22)),pts b3 (.obj (.cells #[.int .i64 k] 3))] H→
   Zi.j4 (fun v H'=>∃ M,iZI p dp d m peak l RR TT v M∧Sep M H') ⟨b1,0,none⟩ ⟨b2,0,none⟩ i e ⟨b3,0,none⟩ H:=fun k i e b3 H hv hs=>by
  unfold Zi.j4 Zi.j4.q4 Zi.j4.q3 Zi.j4.q2 Zi.j4.q1;have bad:∀(h:e≠0),∃ M,iZI p dp d m peak l RR TT (.tuple #[.int .i64 i,.int .i64 e]) M∧Sep M H:=fun h=>
   ⟨_,.inl ⟨k,i,e,hv,h,rfl,rfl⟩,En.unwhole (L:=[Dk dp d,RR,TT]) (hs.re [0,1,2,3,4,5,6,7] rfl)⟩
  cases hv with
  |len h=>exact ZC (by decide) (bad (by decide))
  |big h h2=>exact ZC (by decide) (bad (by decide))
  |word h h2 h3=>exact ZC (by decide) (bad (by decide))
  |ok hlg hkm hcan=>
  rename_i k
  clear bad;refine Zq rfl ?_;have hkm:k≤m.most:=by omega
  have hl:=hk0 hlg;have hfin:∀ v M,((∃ d' c' peak',peak'≤(m.arena:Int)∧bZB d d' (ldR (d.size/8) k) (ldW (d.size/8) k) 3∧Clean d' c'∧Holds d.sec d.size (bZJ m k l) c'∧v= .tuple #[.int .i64 0,.int .i64 0]∧M=[En p dp (some (egM d (bZJ m k l) peak')),Dk dp d',RR,TT])∨
  (∃ d',Cut d d' (ldR (d.size/8) k+ldW (d.size/8) k+3)∧Left d' (fun c'=>Holds d.sec d.size m c'∨Holds d.sec d.size (aZK m k) c'∨Holds d.sec d.size (bZJ m k l) c')∧v= .tuple #[.int .i64 0,.int .i64 8]∧M=[En p dp none,Dk dp d',RR,TT]))→iZI p dp d m peak l RR TT v M:=fun v M h=>.inr ⟨k,hlg,hkm,hcan,h⟩
  have j7:∀ b4 H,Sep [pts p (aZr dp (some mp)),pts mp (aZd (egM d m peak) ap rp A' (psE (egM d m peak)).length m'),Ar ap m.arena peak [],pts rp (ZW dp 1 8 ((8*(egM d m peak).per:Nat):Int)),Own 126 8 A' (psE (egM d m peak)).length m' (bZp (psE (egM d m peak))),Dk dp d,RR,TT,
    pts b1 (.obj (.cells #[.pointer (some ⟨p,0,none⟩)] 36)),pts b2 (.obj (.cells #[.slice A l.length mm] 22)),pts b3 (.obj (.cells #[.int .i64 (k:Int)] 3)),pts b4 (bZy { cZy m k with s:=0})] H→
    Zi.j7 (fun v H'=>∃ M,iZI p dp d m peak l RR TT v M∧Sep M H') ⟨b1,0,none⟩ ⟨b2,0,none⟩ ⟨b3,0,none⟩ ⟨b4,0,none⟩ H:=fun b4 H hs=>by
   unfold Zi.j7;refine hs.nw fun b5 H hs=>?_
   refine hs.ld 8 (v:=.pointer (some ⟨p,0,none⟩)) rfl rfl ?_;simp only[HV]
   try simp only[HS]
   refine hs.ld 0 (v:=.pointer (some ⟨mp,0,none⟩)) rfl rfl ?_;simp only[HV];refine hs.nw fun b6 H hs=>?_
   try simp only[HS]
   refine hs.st 13 rfl (by show 0<1;omega) rfl fun H hs=>?_;refine hs.ld 8 (v:=.pointer (some ⟨p,0,none⟩)) rfl rfl ?_;simp only[HV];refine hs.nw fun b7 H hs=>?_
   have hs:=Me.shut (mp:=mp) (dp:=dp) (e:=egM d m peak) (ap:=ap) (rp:=rp) (A:=A') (m:=m') (L:=[pts p (aZr dp (some mp)),Dk dp d,RR,TT,pts b1 (.obj (.cells #[.pointer (some ⟨p,0,none⟩)] 36)),pts b2 (.obj (.cells #[.slice A l.length mm] 22)),pts b3 (.obj (.cells #[.int .i64 (k:Int)] 3)),pts b4 (bZy { cZy m k with s:=0}),pts b5 _,pts b6 _,pts b7 _]) (hs.re [1,2,3,4,0,5,6,7,8,9,10,11,12,13,14] rfl);apply ZH.ok;unfold ZH;refine⟨4,?_⟩;obtain⟨g1,g2,g3,g4⟩:=vZC hh hS (by omega) hkm;have hres1:bZr prog 53=[40]:=by kernel_rfl
   have hres2:bZr prog 55=[40]:=by kernel_rfl
   have hres3:bZr prog 57=[40]:=by kernel_rfl
   have bad:∀(X:As) (L':List As) (H:Hp) (d':D),Sep (X::Dk dp d'::pts p (aZr dp (some mp))::RR::TT::L') H→Cut d d' (ldR (d.size/8) k+ldW (d.size/8) k+3)→Left d' (fun c'=>Holds d.sec d.size m c'∨Holds d.sec d.size (aZK m k) c'∨Holds d.sec d.size (bZJ m k l) c')→
     Za prog 59 #[.pointer (some ⟨p,0,none⟩),.int .i64 8] H fun v H'=>v= .int .i64 8∧∃ M,iZI p dp d m peak l RR TT (.tuple #[.int .i64 0,.int .i64 8]) M∧Sep M H':=fun X L' H d' hs h1 h2=>by
    have hs:Sep [X,Dk dp d',pts p (aZr dp (some mp)),RR,TT] H:=Sep.take (L:=L') hs;refine(eZa (p:=p) (dp:=dp) (mp:=mp) 8).use hs [2] rfl rfl ?_;rintro _ _ H ⟨rfl,rfl⟩ hs;exact⟨rfl,_,hfin _ _ (.inr ⟨d',h1,h2,rfl,rfl⟩),hs.re [0,2,3,4] rfl⟩
   unfold ZH.l2;refine Zm (by decide) ⟨by decide,by decide,?_⟩;simp only[HV];refine hs.ldr 11 (v:=.func (.func 53) #[] #[.pointer (some ⟨b6,0,none⟩),.pointer (some ⟨b4,0,none⟩)]) rfl rfl ?_;refine dZJ.go (by kernel_rfl) ?_;rw[hres1];apply cZA.ok;unfold cZA;simp only[HV];refine hs.ld 10 (v:=.pointer (some ⟨mp,0,none⟩)) rfl rfl ?_;simp only[HV];refine hs.ldw 8 rfl rfl ?_
   try simp only[Array.toArray_toList]
   have hseq:=Mn.seq_r hh;have hR1:ldR (d.size/8) k=8+(wiR (d.size/8) k+nS (d.size/8) (2^k))+8:=by unfold ldR;omega
   have hW1:ldW (d.size/8) k=1+wiW (d.size/8) k+1:=by unfold ldW;omega
   refine(hZU (mp:=mp) (dp:=dp) (e:=egM d m peak) hc he (by omega) (r:=cZy m k) { cZy m k with s:=0} rfl hseq.symm g1 g2 (by rw[hh.lastC];exact g3) (by show(k:Int)≤m.most;omega)).use hs [0,2] rfl rfl ?_;rintro _ _ H (⟨d1,rfl,hw1,hc1,rfl⟩|⟨d',rfl,hcut,hleft,rfl⟩) hs
   rotate_left
   ·simp only[HV];refine eZi _ _ ?_;simp only[HV];refine ZC (by decide) ?_;refine Za.mono (bad _ _ H d' hs (hcut.more (by omega)) (hleft.mono fun c' h=>?_)) ?_
    ·rcases h with e|e
     ·left;rw[e];exact hh
     ·right;left;rw[e];exact g4
    ·rintro _ H ⟨rfl,M,h,hs⟩;simp only[HV];exact⟨M,h,hs⟩
   simp only[HV];refine eZi _ _ ?_;simp only[HV];refine Zq rfl ?_;rw[show i64.wrap ((0:Int)+1)=1 by kernel_rfl];unfold ZH.l2;refine Zm (by decide) ⟨by decide,by decide,?_⟩;simp only[HV];refine hs.ldr 11 (v:=.func (.func 55) #[] #[.pointer (some ⟨b6,0,none⟩),.pointer (some ⟨b1,0,none⟩),.pointer (some ⟨b3,0,none⟩),.pointer (some ⟨b2,0,none⟩),.pointer (some ⟨b5,0,none⟩)]) rfl rfl ?_;refine dZJ.go (by kernel_rfl) ?_;rw[hres2];apply cZB.ok;unfold cZB;simp only[HV];refine hs.ld 10 (v:=.pointer (some ⟨mp,0,none⟩)) rfl rfl ?_;simp only[HV];refine hs.ld 5 (v:=.pointer (some ⟨p,0,none⟩)) rfl rfl ?_;simp only[HV]
   try simp only[HS]
   refine hs.ld 2 (v:=.pointer (some ⟨dp,0,none⟩)) rfl rfl ?_;simp only[HV];refine hs.ld 7 (v:=.int .i64 (k:Int)) rfl rfl ?_;simp only[HV];refine hs.ld 6 (v:=.slice A l.length mm) rfl rfl ?_;simp only[HV];have h1r:(aZK m k).r=cZy m k:=Mn.add_r _ _;have hh1:Holds d1.sec d1.size (aZK m k) (bZt c (aZQ 1 8 (cZy m k).s) ((cZy m k).form d.size)):=by rw[hw1.sec,hw1.size];exact g4
   have ee:{ egM d m peak with r:=cZy m k}=egM d1 (aZK m k) peak:=by unfold egM;rw[h1r,hw1.sec,hw1.size];rfl
   rw[ee]at hs;have he1:=hh1.eg (peak:=peak) hpk;generalize hc1e:bZt c (aZQ 1 8 (cZy m k).s) ((cZy m k).form d.size)=c1 at*;obtain⟨ap2,rp2,A2,m2,hs⟩:=Me.open hs;have hs:Sep [pts mp (aZd (egM d1 (aZK m k) peak) ap2 rp2 A2 (psE (egM d1 (aZK m k) peak)).length m2),Ar ap2 m.arena peak [],pts rp2 (ZW dp 1 8 ((8*(egM d1 (aZK m k) peak).per:Nat):Int)),Own 126 8 A2 (psE (egM d1 (aZK m k) peak)).length m2 (bZp (psE (egM d1 (aZK m k) peak))),Dk dp d1,pts p (aZr dp (some mp)),RR,TT,
    pts b1 (.obj (.cells #[.pointer (some ⟨p,0,none⟩)] 36)),pts b2 (.obj (.cells #[.slice A l.length mm] 22)),pts b3 (.obj (.cells #[.int .i64 (k:Int)] 3)),pts b4 (bZy { cZy m k with s:=0}),pts b5 _,pts b6 _,pts b7 _] H:=hs
   have hkk:=cZt (k:=k) (by have:=he.most;have:m.most≤32:=this;omega);have hrd1:=hw1.rd;have hwr1:=hw1.wr;have hsy1:=hw1.sy;refine(tZ3 (mp:=mp) (dp:=dp) (ap:=ap2) (rp:=rp2) (e:=egM d1 (aZK m k) peak) (A:=A2) (n:=(psE (egM d1 (aZK m k) peak)).length) (mm:=m2) (d:=d1) (c:=c1) (k:=k) (l:=l) (R:=RR) hc1 he1 hkm (by omega) hl rfl hnm hR).use hs [0,1,4,6] rfl rfl ?_;have hp1:D.per d1=d.size/8:=hw1.per;have htgt:∀ c',Sam (inX (exX m.most (D.per d1) 0 k)) c1 c'→Holds d1.sec d1.size (aZK m k) c':=fun c' h=>
    hh1.target (t:=0) (k:=k) hkm (fun r hr h2=>by rw[aZK,Mn.add_last]at hr;cases hr;exact absurd h2 (show ¬(2:Int)≤1 by omega)) (fun r hr h4=>by rw[aZK,Mn.add_last]at hr;cases hr;exact absurd h4 (show ¬(1:Int)=4 by omega)) h
   rintro _ _ H ⟨pk2,hpk2,(⟨d2,c2,hw2,hc2,hsam,hcw,rfl,rfl⟩|⟨d',x,hcut,hleft,rfl,rfl⟩)⟩ hs
   rotate_left
   ·simp only[HV]
    try simp only[HS]
    refine hs.st 12 rfl (by show 0<1;omega) rfl fun H hs=>?_;refine eZi _ _ ?_;simp only[HV];refine ZC (by decide) ?_;rw[hp1]at hcut;refine Za.mono (bad _ _ H d' (hs.re [0,2,6,3,7] rfl) ((hw1.cut hcut).more (by omega)) (hleft.mono fun c' h=>?_)) ?_
    ·right;left;have:=htgt c' h;rw[hw1.sec,hw1.size]at this;exact this
    ·rintro _ H ⟨rfl,M,h,hs⟩;simp only[HV];exact⟨M,h,hs⟩
   simp only[HV]
   try simp only[HS]
   refine hs.st 12 rfl (by show 0<1;omega) rfl fun H hs=>?_;refine eZi _ _ ?_;simp only[HV];refine Zq rfl ?_;rw[show i64.wrap ((1:Int)+1)=2 by kernel_rfl];unfold ZH.l2;refine Zm (by decide) ⟨by decide,by decide,?_⟩;simp only[HV];have ee2:{ egM d1 (aZK m k) peak with peak:=pk2}=egM d2 (aZK m k) pk2:=by unfold egM;rw[hw2.sec,hw2.size]
   have hs:Sep (gZJ mp dp ap2 rp2 { egM d1 (aZK m k) peak with peak:=pk2} A2 (psE { egM d1 (aZK m k) peak with peak:=pk2}).length m2++[Dk dp d2,pts p (aZr dp (some mp)),RR,TT,
    pts b1 (.obj (.cells #[.pointer (some ⟨p,0,none⟩)] 36)),pts b2 (.obj (.cells #[.slice A l.length mm] 22)),pts b3 (.obj (.cells #[.int .i64 (k:Int)] 3)),pts b4 (bZy { cZy m k with s:=0}),pts b5 _,pts b6 _,pts b7 _]) H:=hs.re [0,1,4,5,2,6,3,7,8,9,10,11,12,13,14] rfl
   have hs:=Me.shut hs;rw[ee2]at hs;have hh2:Holds d2.sec d2.size (aZK m k) c2:=by rw[hw2.sec,hw2.size];exact htgt c2 hsam
   have hS1:Small 100001 (aZK m k):=hS.add (by show m.r.ld+1≤_;omega);have h1kd:(aZK m k).r.kd=1:=by rw[h1r];rfl
   have h1kk:(aZK m k).r.kk=k:=by rw[h1r];rfl
   have hsz2:d2.size/8=D.per d1:=by rw[hw2.size];rfl
   obtain⟨q1,q2,q3,q4⟩:=uZ4 hh2 hS1 (by omega) h1kd h1kk hl hcan (by rw[hsz2];exact hcw);have hrd2:=hw2.rd;have hwr2:=hw2.wr;have hsy2:=hw2.sy;have hb1:=oZN (D.per d1) k;have hb2:=oZO (D.per d1) k;have hpd1:=Ok.per_le hc1.ok;have hb3:=nZv (per:=D.per d1) (w:=2^k) (by omega) (Nat.two_pow_pos k);have elr:dZi (aZK m k) k l=⟨(aZK m k).seq,2,k,0,0,m.r.ld+1,eZC l,0⟩:=by unfold dZi;rw[h1r];rfl
   have hseq2:=Mn.seq_r hh2;refine hs.ldr 11 (v:=.func (.func 57) #[] #[.pointer (some ⟨b5,0,none⟩),.pointer (some ⟨b4,0,none⟩),.pointer (some ⟨b6,0,none⟩)]) rfl rfl ?_;refine dZJ.go (by kernel_rfl) ?_;rw[hres3];apply bZb.ok;unfold bZb bZb.q1;have fin3:∀ H,Sep [Me mp dp (egM d2 (aZK m k) pk2),Dk dp d2,pts p (aZr dp (some mp)),RR,TT,
    pts b1 (.obj (.cells #[.pointer (some ⟨p,0,none⟩)] 36)),pts b2 (.obj (.cells #[.slice A l.length mm] 22)),pts b3 (.obj (.cells #[.int .i64 (k:Int)] 3)),pts b4 (bZy { dZi (aZK m k) k l with s:=0})] H→
     Za prog 54 #[.pointer (some ⟨mp,0,none⟩),.agg (R.c { dZi (aZK m k) k l with s:=0})] H fun v H'=>∃ x:Int,v= .int .i64 x∧((x=0∧∃ M,iZI p dp d m peak l RR TT (.tuple #[.int .i64 0,.int .i64 0]) M∧Sep M H')∨(x=8∧∃(X:As) (L':List As) (d':D),Sep (X::Dk dp d'::pts p (aZr dp (some mp))::RR::TT::L') H'∧Cut d d' (ldR (d.size/8) k+ldW (d.size/8) k+3)∧Left d' (fun c'=>Holds d.sec d.size m c'∨Holds d.sec d.size (aZK m k) c'∨Holds d.sec d.size (bZJ m k l) c'))):=fun H hs=>by
    refine(hZU (mp:=mp) (dp:=dp) (e:=egM d2 (aZK m k) pk2) hc2 (hh2.eg hpk2) (by omega) (r:=dZi (aZK m k) k l) { dZi (aZK m k) k l with s:=0} rfl hseq2.symm q1 q2 (by rw[hh2.lastC];exact q3) (by show(k:Int)≤m.most;omega)).use hs [0,1] rfl rfl ?_;rintro _ _ H (⟨d3,rfl,hw3,hc3,rfl⟩|⟨d',rfl,hcut,hleft,rfl⟩) hs
    ·refine⟨0,rfl,.inl ⟨rfl,_,hfin _ _ (.inl ⟨d3,_,pk2,hpk2,?_,hc3,?_,rfl,rfl⟩),?_⟩⟩
     ·have:=(hw1.trans hw2).trans hw3;rw[hp1]at this;rw[hR1,hW1];exact this
     ·have:=q4;rw[hw2.sec,hw2.size,hw1.sec,hw1.size]at this;rw[hw2.size,hw1.size];exact this
     ·have e3:egM d (bZJ m k l) pk2={ egM d2 (aZK m k) pk2 with r:=dZi (aZK m k) k l}:=by
       unfold bZJ egM;rw[Mn.add_r,hw2.sec,hw2.size,hw1.sec,hw1.size];rfl
      rw[e3];exact En.shut (L:=[Dk dp d3,RR,TT]) (hs.re [2,0,1,3,4] rfl)
    ·refine⟨8,rfl,.inr ⟨rfl,_,_,d',hs,?_,hleft.mono fun c' h=>?_⟩⟩
     ·have:=(hw1.trans hw2).cut hcut;rw[hp1]at this;exact this.more (by omega)
     ·rw[hw2.sec,hw2.size,hw1.sec,hw1.size]at q4 hh2;rw[hw2.size,hw1.size]at h;rcases h with e|e
      ·right;left;rw[e];exact hh2
      ·right;right;rw[e];exact q4
   constructor
   ·refine hs.ld 9 (v:=.int .u32 (eZC l:Int)) rfl rfl ?_;simp only[HV]
    try simp only[HS]
    refine hs.st 8 rfl (by show 1<8;omega) rfl fun H hs=>?_
    try simp only[HS]
    refine hs.st 8 rfl (by show 6<8;omega) rfl fun H hs=>?_;refine hs.ld 10 (v:=.pointer (some ⟨mp,0,none⟩)) rfl rfl ?_;simp only[HV];refine hs.ldw 8 rfl rfl ?_
    try simp only[Array.toArray_toList]
    have hs:=hs.re [0,1,2,3,4,5,6,7,8] rfl;have ff:=fin3 H;rw[elr]at ff;refine Za.mono (ff hs) ?_;rintro _ H ⟨x,rfl,(⟨rfl,M,h,hs⟩|⟨rfl,X,L',d',hs,h1,h2⟩)⟩
    ·simp only[HV];refine eZi _ _ ?_;simp only[HV];refine Zq rfl ?_;rw[show i64.wrap ((2:Int)+1)=3 by kernel_rfl];unfold ZH.l2;refine Zh (by decide) ?_;simp only[HV];exact⟨M,h,hs⟩
    ·simp only[HV];refine eZi _ _ ?_;simp only[HV];refine ZC (by decide) ?_;refine Za.mono (bad X L' H d' hs h1 h2) ?_;rintro _ H ⟨rfl,M,h,hs⟩;simp only[HV];exact⟨M,h,hs⟩
   ·try simp only[HS]
    refine hs.st 8 rfl (by show 1<8;omega) rfl fun H hs=>?_;refine hs.ld 9 (v:=.int .u32 (eZC l:Int)) rfl rfl ?_;simp only[HV]
    try simp only[HS]
    refine hs.st 8 rfl (by show 6<8;omega) rfl fun H hs=>?_;refine hs.ld 10 (v:=.pointer (some ⟨mp,0,none⟩)) rfl rfl ?_;simp only[HV];refine hs.ldw 8 rfl rfl ?_
    try simp only[Array.toArray_toList]
    have hs:=hs.re [0,1,2,3,4,5,6,7,8] rfl;have ff:=fin3 H;rw[elr]at ff;refine Za.mono (ff hs) ?_;rintro _ H ⟨x,rfl,(⟨rfl,M,h,hs⟩|⟨rfl,X,L',d',hs,h1,h2⟩)⟩
    ·simp only[HV];refine eZi _ _ ?_;simp only[HV];refine Zq rfl ?_;rw[show i64.wrap ((2:Int)+1)=3 by kernel_rfl];unfold ZH.l2;refine Zh (by decide) ?_;simp only[HV];exact⟨M,h,hs⟩
    ·simp only[HV];refine eZi _ _ ?_;simp only[HV];refine ZC (by decide) ?_;refine Za.mono (bad X L' H d' hs h1 h2) ?_;rintro _ H ⟨rfl,M,h,hs⟩;simp only[HV];exact⟨M,h,hs⟩
  have ewp:u32.wrap ((m.r.ld:Int)+1)=((m.r.ld+1:Nat):Int):=by rw[wZB (by omega) (by omega)];rfl
  repeat' first
   |(rw[ewp]at hs;exact j7 _ _ hs)
   |refine hs.ld 8 (v:=.pointer (some ⟨p,0,none⟩)) rfl rfl ?_
   |refine hs.ld 10 (v:=.int .i64 (k:Int)) rfl rfl ?_
   |refine hs.ld 0 (v:=.pointer (some ⟨mp,0,none⟩)) rfl rfl ?_
   |refine hs.ld 1 (v:=.int .u32 (m.r.ld:Int)) rfl rfl ?_
   |refine hs.nw fun b H hs=>?_
   |refine hs.stw 11 rfl rfl rfl rfl fun H hs=>?_
   |(simp only[HV];try simp only[HS])
   |refine⟨?_,?_⟩
 refine hs.ld 8 (v:=.pointer (some ⟨p,0,none⟩)) rfl rfl ?_;simp only[HV]
 try simp only[HS]
 refine hs.ld 0 (v:=.pointer (some ⟨mp,0,none⟩)) rfl rfl ?_;simp only[HV];refine aZb rfl ?_
 repeat' first
  |exact j4 _ _ _ _ _ hv hs
  |refine hs.ld 9 (v:=.slice A l.length mm) rfl rfl ?_
  |refine hs.ld 8 (v:=.pointer (some ⟨p,0,none⟩)) rfl rfl ?_
  |refine hs.ld 0 (v:=.pointer (some ⟨mp,0,none⟩)) rfl rfl ?_
  |refine hs.ld 1 (v:=.int .i64 (m.most:Int)) rfl rfl ?_
  |refine chk _ _ _ hs rfl rfl fun k i e hv=>?_
  |refine hs.nw fun b H hs=>?_
  |refine hs.st 10 rfl Nat.zero_lt_one rfl fun H hs=>?_
  |(simp only[HV];try simp only[HS])
  |refine⟨?_,?_⟩
end
end Eng
namespace Sup
open Go Go.Hw Go.Form W Lay
theorem qZF (k sec s ar:Int)(h:aZX k sec s ar=true)(hsec:sec≤9223372036854775807):aZ2 (bZZ k sec s ar)=((k,sec,s,ar),0):=by
 have hg:=h;unfold aZX at hg;simp only[decide_eq_true_eq]at hg;obtain⟨h1,h2,h3,h4,h5,h6⟩:=hg;obtain⟨kn,rfl⟩:=Int.eq_ofNat_of_zero_le h1;have hlen:=iZS kn sec s ar h3;have hlog:=hZr s;have hll:=rZR s;have hw:∀(i:Nat) (hi:i<4),Zt (bZZ kn sec s ar) (8*i)=((gZ0 kn sec s ar)[i]'(by rw[iZT];exact hi)).toNat:=fun i hi=>eZY (by rw[iZT];exact hi) _
 have hf64:bZu kn s<2^64:=by unfold bZu;omega
 have w0:Zt (bZZ kn sec s ar) 0=bZu kn s:=(hw 0 (by omega)).trans (eZH hf64);have w1:Zt (bZZ kn sec s ar) 8=sec.toNat:=(hw 1 (by omega)).trans (eZH (by omega));have w2:Zt (bZZ kn sec s ar) 16=ar.toNat:=(hw 2 (by omega)).trans (eZH (by omega));have hcr:lZZ (bZu kn s) sec.toNat ar.toNat=(Go.Crc.sum (form (gZc kn sec s ar))).toNat:=rfl;have hsum:=(Go.Crc.sum (form (gZc kn sec s ar))).isLt;have w3:Zt (bZZ kn sec s ar) 24=lZZ (bZu kn s) sec.toNat ar.toNat:=(hw 3 (by omega)).trans (by rw[hcr];exact eZH (by omega));have hz:iZk (bZZ kn sec s ar)=true:=by
  unfold iZk bZZ;rw[List.drop_left' (by rw[aZ6,iZT])];simp
 have hf1:bZu kn s/4294967296=1094861123:=by unfold bZu;omega
 have hf2:bZu kn s/65536%65536=kn:=by unfold bZu;omega
 have hf3:((bZu kn s%65536:Nat):Int)=cZh s:=by unfold bZu;omega
 have hsb:eZq (bZZ kn sec s ar)=((kn:Int),sec,s,ar):=by
  unfold eZq;rw[w0,w1,w2,hf2,hlen,ZL (by omega) (by omega),ZL (by omega) (by omega),show((sec.toNat:Nat):Int)=sec by omega,show((ar.toNat:Nat):Int)=ar by omega]
 unfold aZ2;rw[hlen,hsb,w0,w1,w2,w3,if_neg (by omega),if_neg (by simp[hf1,hz]),if_neg (by simp),if_pos ⟨h,hf3⟩]
end Sup
namespace Eng
open Go Go.Hw Go.Form W Shp Dsk Str Are Trn Pas Pln Rec Srt Rng
def inF (n:Nat)(i:Int):Prop:=1≤i∧i<((1+n:Nat):Int)
theorem sZF {d:D}(hl:d.down=false)(hf:d.fuse≠1)(k:Int)(b:List UInt8)(i:Int):(d.wrote k b).now i=if i=k then b else d.now i:=by
 unfold D.wrote;rw[dZ9 hl hf];unfold D.now cZT;by_cases h:i=k
 ·simp only[if_pos h];rfl
 ·simp only[if_neg h];rfl
theorem mZv {d0:D}{c:Cn}(h:Clean d0 c){n:Nat}(hn:1+n≤d0.sec):∀(k i:Nat) (d:D),i+k=n→Prog (inF n) d0 d 0 i→(∀ j:Nat,j<i→d.now ((1+j:Nat):Int)=List.replicate d0.size 0)→
  (∃ d' c',iZD 1 k i d=(0,d')∧bZB d0 d' 0 n 1∧Clean d' c'∧Sam (inF n) c c'∧∀ j:Nat,j<n→c' ((1+j:Nat):Int)=List.replicate d0.size 0)∨
  (∃ d',iZD 1 k i d=(8,d')∧Cut d0 d' (n+1)∧Left d' (Sam (inF n) c))
 |0,i,d,hi,hP,hz=>by
  have hS:∀ i,inF n i→0≤i∧i<d0.sec:=fun i hi=>⟨by have:=hi.1;omega,by have:=hi.2;omega⟩
  have e:i=n:=by omega
  subst e;have hsam:Sam (inF i) c d.now:=fun j hj=>(h.prog hP j).2 hj
  rcases h.sync hP hS with⟨s1,s2,s3⟩|⟨s1,s2,s3⟩
  ·exact .inl ⟨_,_,by show(d.syncE,d.syncD)=_;rw[s1],s2,s3,hsam,hz⟩
  ·exact .inr ⟨_,by show(d.syncE,d.syncD)=_;rw[s1],s2.more (by omega),s3.mono fun _ h=>h.2⟩
 |k+1,i,d,hi,hP,hz=>by
  have hS:∀ i,inF n i→0≤i∧i<d0.sec:=fun i hi=>⟨by have:=hi.1;omega,by have:=hi.2;omega⟩
  have hsec:=hP.sec;have hsize:=hP.size;have hchk:d.chk ((1+i:Nat):Int)=0:=gZm hP.down (Int.natCast_nonneg _) (by rw[hsec];omega);have hin:inF n ((1+i:Nat):Int):=⟨by omega,by omega⟩;have hlen:(List.replicate d.size (0:UInt8)).length=d.size:=List.length_replicate;unfold iZD;by_cases hf:d.fuse=1
  ·have hbn:d.burns=true:=by unfold D.burns;simp[hf]
   have e1:d.writeE ((1+i:Nat):Int) d.size=8:=by unfold D.writeE;rw[if_neg (by rw[hchk];simp),if_neg (by simp),hbn];rfl
   have e2:d.writeD ((1+i:Nat):Int) (List.replicate d.size 0)=D.dead d:=by unfold D.writeD;rw[if_neg (by rw[hchk];simp),if_neg (by simp[hlen]),hbn,eZB hf];rfl
   rw[e1,e2,if_pos (by decide)];have hD:=hP.dead (cZu.one (inF n) hP.ok hf);have h1:=hP.fuse;have h2:=hP.go;exact .inr ⟨_,rfl,h.deadCut hD hS (by omega) (by omega),h.deadLeft hD⟩
  ·have hbn:d.burns=false:=by unfold D.burns;exact decide_eq_false hf
   have e1:d.writeE ((1+i:Nat):Int) d.size=0:=by unfold D.writeE;rw[if_neg (by rw[hchk];simp),if_neg (by simp),hbn];rfl
   have e2:d.writeD ((1+i:Nat):Int) (List.replicate d.size 0)=d.wrote ((1+i:Nat):Int) (List.replicate d.size 0):=by unfold D.writeD;rw[if_neg (by rw[hchk];simp),if_neg (by simp[hlen]),hbn];rfl
   rw[e1,e2,if_neg (by simp)];have hW:=Prog.wrote (S:=inF n) hP.ok hP.down hf hin hlen;have hT:=hP.trans hW;refine mZv h hn k (i+1) _ (by omega) hT fun j hj=>?_
   rw[sZF hP.down hf];by_cases e:j=i
   ·rw[e,if_pos rfl,hsize]
   ·rw[if_neg (by omega)];exact hz j (by omega)
def cZv (k words:Nat):Mn:=⟨k,words,[],[]⟩
theorem qZk {sec size k words:Nat}{c:Cn}(hg:Sup.aZX k sec size words=true)(hl:aZC k (size/8)≤words)(h0:c 0=Sup.bZZ k sec size words)(hz:∀ j:Nat,j<8→c ((1+j:Nat):Int)=List.replicate size 0):Holds sec size (cZv k words) c:=
 ⟨h0,hg,hl,Log.nil,fun i hi=>hz i hi,fun r hr=>(by cases hr),fun r hr=>(by cases hr),fun r hr=>(by cases hr)⟩
def bZC (sec per:Nat)(k words:Int):Int:=if words<1∨words>16777216∨k<0∨k>32 then 1 else if(sec:Int)<Lay.bZj k.toNat per then 7 else if words<aZC k.toNat per then 6 else 0
theorem uZW {p dp:Nat}{mo:Option Nat}{d:D}(hok:Ok d)(hpn:0<Lay.Zs (d.size:Int))(k words:Int):Tr prog 40 #[.pointer (some ⟨p,0,none⟩),.int .i64 k,.int .i64 words] [pts p (aZr dp mo),Dk dp d] fun v M=>v= .int .i64 (bZC d.sec (d.size/8) k words)∧M=[pts p (aZr dp mo),Dk dp d]:=fun H hs=>by
 have hper:=dZ0 hpn;apply ZA.ok;unfold ZA ZA.q3 ZA.q2 ZA.q1;have fin:∀(x:Int) (H:Hp) (T:List As),x=bZC d.sec (d.size/8) k words→Sep ([pts p (aZr dp mo),Dk dp d]++T) H→∃ M,(Value.int .i64 x= .int .i64 (bZC d.sec (d.size/8) k words)∧M=[pts p (aZr dp mo),Dk dp d])∧Sep M H:=fun x H T hx hs=>⟨_,⟨by rw[hx],rfl⟩,Sep.take hs⟩
 by_cases h1:words<1
 ·exact Zm h1 (fin 1 H [] (by unfold bZC;rw[if_pos (.inl h1)]) hs)
 refine Zh h1 ?_;by_cases h2:words>16777216
 ·exact Zm h2 (fin 1 H [] (by unfold bZC;rw[if_pos (.inr (.inl h2))]) hs)
 refine Zh h2 ?_;have j4:∀ b H,Sep [pts p (aZr dp mo),Dk dp d,pts b (.obj (.cells (Lay.OfV k d.sec d.size).1 90))] H→ZA.j4 (fun v H'=>∃ M,(v= .int .i64 (bZC d.sec (d.size/8) k words)∧M=[pts p (aZr dp mo),Dk dp d])∧Sep M H') k words ⟨b,0,none⟩ (Lay.OfV k d.sec d.size).2 H:=fun b H hs=>by
  unfold ZA.j4;unfold Lay.OfV at hs⊢;by_cases h3:0≤k∧k≤32
  ·have h3':0≤k∧k≤32∧0<Lay.Zs d.size:=⟨h3.1,h3.2,hpn⟩;rw[if_pos h3']at hs⊢;by_cases h4:(d.sec:Int)<Lay.bZj k.toNat (Lay.Zs d.size)
   ·rw[if_pos h4]at hs⊢;refine ZC (by decide) (fin 7 H _ ?_ hs);unfold bZC;rw[if_neg (by omega),if_pos (by rw[← hper.1];exact h4)]
   ·rw[if_neg h4]at hs⊢;refine Zq rfl ?_
    try simp only[HS]
    refine hs.ld 2 (v:=.int .i64 ((Lay.Zs d.size:Nat):Int)) rfl rfl ?_;simp only[HV];obtain⟨kn,rfl⟩:=Int.eq_ofNat_of_zero_le h3.1;have hpB:bZ9 ((Lay.Zs d.size:Nat):Int)=true:=by rw[hper.1];exact jZn hpn
    refine Za.use (sZT (k:=kn) (per:=Lay.Zs d.size) (by omega) hpB H) ?_;simp only[HV];refine Zq rfl ?_;rw[hper.1]at h4;have h4':¬(d.sec:Int)<Lay.bZj (kn:Int).toNat (d.size/8):=h4;by_cases h5:words<(aZC kn (Lay.Zs d.size):Int)
    ·refine Zm h5 (fin 6 H _ ?_ hs);unfold bZC;rw[if_neg (by omega),if_neg h4',if_pos (by rw[← hper.1];exact h5)]
    ·refine Zh h5 (fin 0 H _ ?_ hs);unfold bZC;rw[if_neg (by omega),if_neg h4',if_neg (by rw[← hper.1];exact h5)]
  ·rw[if_neg (fun h=>h3 ⟨h.1,h.2.1⟩)]at hs⊢;refine ZC (by decide) (fin 1 H _ ?_ hs);unfold bZC;rw[if_pos (by omega)]
 try simp only[HS]
 have hsz:∀(H:Hp) (T:List As) (K:Value→Prop),Sep ([pts p (aZr dp mo),Dk dp d]++T) H→K (.int .i64 (d.sec:Int))→ZM prog 41 #[.pointer (some ⟨dp,0,none⟩)] H K:=fun H T K hs h=>ZM.use (eZz hs 1 rfl) h
 have hsy:∀(H:Hp) (T:List As) (K:Value→Prop),Sep ([pts p (aZr dp mo),Dk dp d]++T) H→K (.int .i64 (d.size:Int))→ZM prog 42 #[.pointer (some ⟨dp,0,none⟩)] H K:=fun H T K hs h=>ZM.use (hZx hs 1 rfl) h
 have hof:∀(H:Hp) (K:Value→Prop),K (.tuple #[.agg (Lay.OfV k d.sec d.size).1,.int .i64 (Lay.OfV k d.sec d.size).2])→ZM prog 70 #[.int .i64 k,.int .i64 (d.sec:Int),.int .i64 (d.size:Int)] H K:=fun H K h=>ZM.use (Lay.eZs k d.sec d.size H) h
 have hS1:(Lay.OfV k d.sec d.size).1.size=17:=Sup.kZn k d.sec d.size
 repeat' first
  |exact j4 _ _ hs
  |refine hs.ld 0 (v:=.pointer (some ⟨dp,0,none⟩)) rfl rfl ?_
  |refine hsz _ [] _ hs ?_
  |refine hsy _ [] _ hs ?_
  |refine hsz _ [_] _ hs ?_
  |refine hsy _ [_] _ hs ?_
  |refine hof _ _ ?_
  |refine hs.nw fun b H hs=>?_
  |refine hs.stw 2 rfl rfl (Sup.kZn _ _ _) (Sup.pZe _ _ _) fun H hs=>?_
  |(simp only[HV];try simp only[HS])
  |refine⟨?_,?_⟩
theorem rZM (k p:Nat):Lay.bZk k p=#[.int .i64 (k:Int),.int .i64 (p:Int),.int .i64 1,.int .i64 8,.int .i64 ((8*p:Nat):Int),.int .i64 9,.int .i64 (Lay.Zx k p:Int),.int .i64 ((2^k:Nat):Int),.int .i64 (9+(Lay.Zx k p:Int)),.int .i64 (Lay.Zx k p:Int),.int .i64 ((2^k:Nat):Int),.int .i64 (9+2*(Lay.Zx k p:Int)),.int .i64 (Lay.Zx k p:Int),.int .i64 ((2^k:Nat):Int),.int .i64 (9+3*(Lay.Zx k p:Int)),.int .i64 (Lay.Zx k p:Int),.int .i64 ((2^k:Nat):Int)]:=rfl
theorem pZv {dp:Nat}{d:D}{k ar:Nat}(hok:Ok d)(hg:Sup.aZX (k:Int) d.sec d.size (ar:Int)=true):
  Tr prog 43 #[.pointer (some ⟨dp,0,none⟩),.agg (Sup.aZR k d.sec d.size ar)] [Dk dp d] fun v M=>∃ mp ap rp,v= .tuple #[.pointer (some ⟨mp,0,none⟩),.int .i64 0]∧M=[pts mp (aZd ⟨k,d.sec,d.size,ar,bZe,0⟩ ap rp .none 0 0),Ar ap ar 0 [],pts rp (ZW dp 1 8 ((8*(d.size/8):Nat):Int)),Dk dp d]:=fun H hs=>by
 have hgo:=cZ5 hg;have hper:=dZ0 hgo.2.1;have hlay:Sup.aZX (k:Int) d.sec d.size (ar:Int)=true→(if Sup.aZX (k:Int) d.sec d.size (ar:Int)=true then Value.tuple #[.agg (Lay.bZk (k:Int).toNat (Lay.Zs d.size)),.int .i64 0]else .tuple #[.agg Lay.kZC,.int .i64 1])= .tuple #[.agg (Lay.bZk k (d.size/8)),.int .i64 0]:=fun h=>by rw[if_pos h,Int.toNat_natCast,hper.1]
 have hext:lZ1 d 1 8=true:=decide_eq_true (by have:=hgo.2.2.1;unfold Lay.bZj at this;omega);have hL:=Sup.mZl (k:Int) d.sec d.size (ar:Int);rw[hlay hg]at hL;apply bZz.ok;unfold bZz bZz.q1;refine hs.nw fun b1 H hs=>?_
 refine hs.ldw 1 rfl rfl ?_;refine Za.use (hL H) ?_;simp only[HV];refine hs.nw fun b2 H hs=>?_
 refine hs.stw 2 rfl rfl rfl rfl fun H hs=>?_;refine Zq rfl ?_
 try simp only[HS]
 refine hs.lda 2 (off:=2) (n:=3) rfl (by show 2+3≤17;omega) ?_;refine(Rng.dZS (p:=dp) (d:=d) hok 1 8 ((8*(d.size/8):Nat):Int) (by omega)).use hs [0] rfl rfl ?_;rintro _ _ H (⟨_,rp,rfl,rfl⟩|⟨h,_⟩) hs
 rotate_left
 ·rw[hext]at h;cases h
 simp only[HV];refine Zq rfl ?_;have hs:Sep [Dk dp d,pts rp (ZW dp 1 8 ((8*(d.size/8):Nat):Int)),pts b1 (.obj (.cells #[.int .i64 k,.int .i64 d.sec,.int .i64 d.size,.int .i64 ar] 27)),pts b2 (.obj (.cells (Lay.bZk k (d.size/8)) 90))] H:=hs;rw[rZM]at hs
 try simp only[HS]
 refine hs.ld 2 (v:=.int .i64 (ar:Int)) rfl rfl ?_;simp only[HV];have fin:∀(mp ap:Nat) (T:List As) (H:Hp),Sep ([Ar ap ar 0 [],Dk dp d,pts rp (ZW dp 1 8 ((8*(d.size/8):Nat):Int))]++T++[pts mp (aZd ⟨k,d.sec,d.size,ar,bZe,0⟩ ap rp .none 0 0)]) H→
   ∃ M,(∃ mp' ap' rp',(Value.tuple #[.pointer (some ⟨mp,0,none⟩),.int .i64 0])= .tuple #[.pointer (some ⟨mp',0,none⟩),.int .i64 0]∧M=[pts mp' (aZd ⟨k,d.sec,d.size,ar,bZe,0⟩ ap' rp' .none 0 0),Ar ap' ar 0 [],pts rp' (ZW dp 1 8 ((8*(d.size/8):Nat):Int)),Dk dp d])∧Sep M H:=fun mp ap T H hs=>by
  have h1:Sep ([pts mp (aZd ⟨k,d.sec,d.size,ar,bZe,0⟩ ap rp .none 0 0)]++([Ar ap ar 0 [],Dk dp d,pts rp (ZW dp 1 8 ((8*(d.size/8):Nat):Int))]++T)) H:=Sep.perm List.perm_append_comm hs;have h2:Sep [pts mp (aZd ⟨k,d.sec,d.size,ar,bZe,0⟩ ap rp .none 0 0),Ar ap ar 0 [],Dk dp d,pts rp (ZW dp 1 8 ((8*(d.size/8):Nat):Int))] H:=Sep.take (L:=T) h1;exact⟨_,⟨mp,ap,rp,rfl,rfl⟩,h2.re [0,1,3,2] rfl⟩
 have har:(1:Int)≤(ar:Int)∧(ar:Int)≤16777216:=hgo.2.2.2
 repeat' first
  |exact fin _ _ [_,_] _ hs
  |refine hs.ldw 2 rfl rfl ?_
  |refine hs.ldw 3 rfl rfl ?_
  |refine hs.ldw 4 rfl rfl ?_
  |(refine(Are.dZS (ar:Int) har).use hs [] rfl rfl ?_;rintro _ _ H ⟨ap,rfl,rfl⟩ hs)
  |refine hs.nw fun b H hs=>?_
  |(simp only[HV];try simp only[HS])
  |refine⟨?_,?_⟩
theorem Sep.unit {L:List As}{H:Hp}{X:As}(hs:Hw.Sep L H)(hX:X fun _=>none):Hw.Sep (X::L) H:=⟨fun _=>none,H,fun _ _ h=>(nomatch h),Hp.le_refl _,fun _=>.inl rfl,hX,hs⟩
theorem En.ptr {p dp:Nat}{g:Option Eg}{L:List As}{H:Hp}(h:Sep (En p dp g::L) H):∃ mo X,Sep (pts p (aZr dp mo)::X::L) H∧∀ L' H',Sep (pts p (aZr dp mo)::X::L') H'→Sep (En p dp g::L') H':=by
 cases g with
 |none=>exact⟨none,fun _=>True,(Sep.unit (X:=fun _=>True) h trivial).swap,fun L' H' h=>h.swap.tail⟩
 |some e=>
  obtain⟨mp,h⟩:=En.open h;exact⟨some mp,Me mp dp e,h,fun L' H' h=>En.shut h⟩
theorem Me.bare {mp dp ap rp:Nat}{e:Eg}{L:List As}{H:Hp}(h:Sep ([pts mp (aZd e ap rp .none 0 0),Ar ap e.arena e.peak [],pts rp (ZW dp 1 8 ((8*e.per:Nat):Int))]++L) H)(hp:psE e=[]):Sep (Me mp dp e::L) H:=by
 have h1:Sep (Own 126 8 .none 0 0 []::([pts mp (aZd e ap rp .none 0 0),Ar ap e.arena e.peak [],pts rp (ZW dp 1 8 ((8*e.per:Nat):Int))]++L)) H:=Sep.unit h (Own.none _ _ _);have h2:Sep ([pts mp (aZd e ap rp .none 0 0),Ar ap e.arena e.peak [],pts rp (ZW dp 1 8 ((8*e.per:Nat):Int))]++(Own 126 8 .none 0 0 []::L)) H:=Sep.perm List.perm_middle.symm h1;refine Me.shut (ap:=ap) (rp:=rp) (A:=.none) (m:=0) ?_;unfold gZJ;rw[hp];exact h2
theorem tZz {e:Eg}(h:e.r=bZe):psE e=[]:=by unfold psE;rw[if_neg (by rw[h];decide)]
theorem rZs {d:D}(hpn:0<Lay.Zs (d.size:Int)){k words:Int}(h:bZC d.sec (d.size/8) k words=0):∃ kn wn:Nat,k=kn∧words=wn∧Sup.aZX kn d.sec d.size wn=true∧aZC kn (d.size/8)≤wn:=by
 have hper:=dZ0 hpn;unfold bZC at h;split at h
 ·cases h
 rename_i h1
 split at h
 ·cases h
 rename_i h2
 split at h
 ·cases h
 rename_i h3
 obtain⟨kn,rfl⟩:=Int.eq_ofNat_of_zero_le (show 0≤k by omega);obtain⟨wn,rfl⟩:=Int.eq_ofNat_of_zero_le (show 0≤words by omega);refine⟨kn,wn,rfl,rfl,decide_eq_true ?_,?_⟩
 ·rw[hper.1];have h2':¬(d.sec:Int)<Lay.bZj kn (d.size/8):=h2;refine⟨by omega,by omega,by omega,?_,by omega,by omega⟩;show(Lay.bZj kn (d.size/8):Int)≤d.sec
  omega
 ·have h3':¬(wn:Int)<aZC kn (d.size/8):=h3;omega
def nZm (p dp:Nat)(g:Option Eg)(d:D)(c:Cn)(k words:Int)(v:Value)(M:List As):Prop:=
 (bZC d.sec (d.size/8) k words≠0∧v= .int .i64 (bZC d.sec (d.size/8) k words)∧M=[En p dp g,Dk dp d])∨
 (∃ kn wn:Nat,k=kn∧words=wn∧bZC d.sec (d.size/8) k words=0∧
  ((∃ d' c',bZB d d' 0 10 3∧Clean d' c'∧Holds d.sec d.size (cZv kn wn) c'∧v= .int .i64 0∧M=[En p dp (some (egM d (cZv kn wn) 0)),Dk dp d'])∨
  (∃ d',Cut d d' 13∧Left d' (fun c'=>c'=c∨lZQ d.size c'∨Holds d.sec d.size (cZv kn wn) c')∧v= .int .i64 8∧M=[En p dp none,Dk dp d'])))
set_option maxHeartbeats 8000000 in
theorem qZY {p dp:Nat}{g:Option Eg}{d:D}{c:Cn}(hc:Clean d c)(hpn:0<Lay.Zs (d.size:Int))(ho:d.rd≤800000∧d.wr≤800000∧d.sy≤800000)(k words:Int):
  Tr prog 14 #[.pointer (some ⟨p,0,none⟩),.int .i64 k,.int .i64 words] [En p dp g,Dk dp d] (nZm p dp g d c k words):=fun H hs=>by
 have hok:=hc.ok;have hper:=dZ0 hpn;obtain⟨mo,X,hs,hback⟩:=En.ptr hs;apply Ze.ok;unfold Ze Ze.q5 Ze.q4 Ze.q3 Ze.q2 Ze.q2.q1 Ze.q1 Ze.q1.q2 Ze.q1.q1;refine hs.nw fun b1 H hs=>?_
 have hs:Sep [pts p (aZr dp mo),X,Dk dp d,pts b1 (.obj (.cells #[.pointer (some ⟨p,0,none⟩)] 36))] H:=hs;refine hs.ld 3 (v:=.pointer (some ⟨p,0,none⟩)) rfl rfl ?_;simp only[HV];refine(uZW (p:=p) (dp:=dp) (mo:=mo) hok hpn k words).use hs [0,2] rfl rfl ?_;rintro _ _ H ⟨rfl,rfl⟩ hs;simp only[HV];by_cases hfit:bZC d.sec (d.size/8) k words=0
 rotate_left
 ·exact ZC hfit ⟨_,.inl ⟨hfit,rfl,rfl⟩,hback [Dk dp d] _ (hs.re [0,2,1] rfl)⟩
 rw[hfit];refine Zq rfl ?_;obtain⟨kn,wn,rfl,rfl,hg,hlw⟩:=rZs hpn hfit;have hgo:=cZ5 hg;have hneed:9≤d.sec:=by have:=hgo.2.2.1;unfold Lay.bZj at this;omega
 have hs:Sep [pts p (aZr dp mo),Dk dp d,X,pts b1 (.obj (.cells #[.pointer (some ⟨p,0,none⟩)] 36))] H:=hs;have hzl:(List.replicate d.size (0:UInt8)).length=d.size:=List.length_replicate;have bad:∀(H:Hp) (d':D),Sep [Dk dp d',pts p (aZr dp mo)] H→Cut d d' 13→Left d' (fun c'=>c'=c∨lZQ d.size c'∨Holds d.sec d.size (cZv kn wn) c')→
   Za prog 59 #[.pointer (some ⟨p,0,none⟩),.int .i64 8] H fun v H'=>v= .int .i64 8∧∃ M,nZm p dp g d c kn wn (.int .i64 8) M∧Sep M H':=fun H d' hs h1 h2=>by
  have hk:Za prog 59 #[.pointer (some ⟨p,0,none⟩),.int .i64 8] H fun v H'=>∃ M,(v= .int .i64 8∧M=[pts p (aZr dp none),Dk dp d'])∧Sep M H':=by
   apply bZi.ok;unfold bZi;refine ZT rfl ?_
   try simp only[HS]
   refine hs.st 1 rfl (by show 1<2;omega) rfl fun H hs=>?_;exact⟨_,⟨by first|rfl|trivial,rfl⟩,hs.re [1,0] rfl⟩
  refine Za.mono hk ?_;rintro _ H ⟨_,⟨rfl,rfl⟩,hs⟩;exact⟨rfl,_,.inr ⟨kn,wn,rfl,rfl,hfit,.inr ⟨d',h1,h2,rfl,rfl⟩⟩,hs⟩
 have j6:∀ mp ap rp b2 H,Sep [pts mp (aZd ⟨kn,d.sec,d.size,wn,bZe,0⟩ ap rp .none 0 0),Ar ap wn 0 [],pts rp (ZW dp 1 8 ((8*(d.size/8):Nat):Int)),Dk dp d,pts p (aZr dp mo),X,pts b1 (.obj (.cells #[.pointer (some ⟨p,0,none⟩)] 36)),pts b2 (.obj (.cells (Sup.aZR kn d.sec d.size wn) 27))] H→
   Ze.j6 (fun v H'=>∃ M,nZm p dp g d c kn wn v M∧Sep M H') ⟨b1,0,none⟩ ⟨b2,0,none⟩ (some ⟨mp,0,none⟩) 0 H:=fun mp ap rp b2 H hs=>by
  unfold Ze.j6;refine Zq rfl ?_;refine hs.ld 6 (v:=.pointer (some ⟨p,0,none⟩)) rfl rfl ?_;simp only[HV];refine hs.ld 6 (v:=.pointer (some ⟨p,0,none⟩)) rfl rfl ?_;simp only[HV]
  try simp only[HS]
  refine hs.ld 4 (v:=.pointer (some ⟨dp,0,none⟩)) rfl rfl ?_;simp only[HV]
  try simp only[HS]
  refine hs.ld 0 (v:=.pointer (some ⟨rp,0,none⟩)) rfl rfl ?_;simp only[HV];refine hs.nw fun b3 H hs=>?_
  have hres1:bZr prog 44=[40]:=by kernel_rfl
  have hres2:bZr prog 47=[40]:=by kernel_rfl
  have hres3:bZr prog 48=[40]:=by kernel_rfl
  have hres4:bZr prog 49=[40]:=by kernel_rfl
  apply ZH.ok;unfold ZH;refine⟨5,?_⟩;unfold ZH.l2;refine Zm (by decide) ⟨by decide,by decide,?_⟩;simp only[HV];refine hs.ldr 8 (v:=.func (.func 44) #[] #[.pointer (some ⟨b1,0,none⟩)]) rfl rfl ?_;refine dZJ.go (by kernel_rfl) ?_;rw[hres1];have hsz32:=hok.size;have f1:∀(A3:As) (H:Hp),Sep [pts mp (aZd ⟨kn,d.sec,d.size,wn,bZe,0⟩ ap rp .none 0 0),Ar ap wn 0 [],pts rp (ZW dp 1 8 ((8*(d.size/8):Nat):Int)),Dk dp d,pts p (aZr dp mo),X,pts b1 (.obj (.cells #[.pointer (some ⟨p,0,none⟩)] 36)),pts b2 (.obj (.cells (Sup.aZR kn d.sec d.size wn) 27)),A3] H→Za prog 44 #[.pointer (some ⟨b1,0,none⟩)] H fun v H=>v= .int .i64 (d.writeE 0 d.size)∧Sep [Dk dp (d.writeD 0 (List.replicate d.size 0)),pts mp (aZd ⟨kn,d.sec,d.size,wn,bZe,0⟩ ap rp .none 0 0),Ar ap wn 0 [],pts rp (ZW dp 1 8 ((8*(d.size/8):Nat):Int)),pts p (aZr dp mo),X,pts b1 (.obj (.cells #[.pointer (some ⟨p,0,none⟩)] 36)),pts b2 (.obj (.cells (Sup.aZR kn d.sec d.size wn) 27)),A3] H:=fun A3 H hs=>by
   apply cZj.ok;unfold cZj;simp only[HV];refine hs.ld 6 (v:=.pointer (some ⟨p,0,none⟩)) rfl rfl ?_;simp only[HV]
   try simp only[HS]
   refine hs.ld 4 (v:=.pointer (some ⟨dp,0,none⟩)) rfl rfl ?_;simp only[HV]
   try simp only[HS]
   refine ZM.use (hZx hs 3 rfl) ?_;simp only[HV];have wr1:∀(b4:Nat) (H:Hp),Sep [pts mp (aZd ⟨kn,d.sec,d.size,wn,bZe,0⟩ ap rp .none 0 0),Ar ap wn 0 [],pts rp (ZW dp 1 8 ((8*(d.size/8):Nat):Int)),Dk dp d,pts p (aZr dp mo),X,pts b1 (.obj (.cells #[.pointer (some ⟨p,0,none⟩)] 36)),pts b2 (.obj (.cells (Sup.aZR kn d.sec d.size wn) 27)),A3,pts b4 (.row (aZs [Value.int .u8 0] d.size) 5 (d.size*1))] H→
     Za prog 45 #[.pointer (some ⟨dp,0,none⟩),.int .i64 0,.slice (some ⟨b4,0,none⟩) d.size d.size] H fun v H=>v= .int .i64 (d.writeE 0 d.size)∧Sep [Dk dp (d.writeD 0 (List.replicate d.size 0)),pts mp (aZd ⟨kn,d.sec,d.size,wn,bZe,0⟩ ap rp .none 0 0),Ar ap wn 0 [],pts rp (ZW dp 1 8 ((8*(d.size/8):Nat):Int)),pts p (aZr dp mo),X,pts b1 (.obj (.cells #[.pointer (some ⟨p,0,none⟩)] 36)),pts b2 (.obj (.cells (Sup.aZR kn d.sec d.size wn) 27)),A3] H:=fun b4 H hs=>by
    rw[eZZ]at hs;refine(dZ7 (p:=dp) (d:=d) hok (by omega) 0 (some ⟨b4,0,none⟩) d.size d.size (List.replicate d.size 0) hzl.symm (pts b4 (.row (Zn (List.replicate d.size 0)) 5 (d.size*1))) (fun H h=>?_)).use hs [3,9] rfl rfl ?_
    ·have:=Cells.row h 0 d.size;rw[List.drop_zero,List.take_of_length_le (by rw[ZO,hzl];exact Nat.le_refl _)]at this;exact this
    rintro _ _ H ⟨rfl,rfl⟩ hs;exact⟨rfl,hs.re [0,2,3,4,5,6,7,8,9] rfl⟩
   have done:∀(v:Value) (H:Hp),(v= .int .i64 (d.writeE 0 d.size)∧Sep [Dk dp (d.writeD 0 (List.replicate d.size 0)),pts mp (aZd ⟨kn,d.sec,d.size,wn,bZe,0⟩ ap rp .none 0 0),Ar ap wn 0 [],pts rp (ZW dp 1 8 ((8*(d.size/8):Nat):Int)),pts p (aZr dp mo),X,pts b1 (.obj (.cells #[.pointer (some ⟨p,0,none⟩)] 36)),pts b2 (.obj (.cells (Sup.aZR kn d.sec d.size wn) 27)),A3] H)→DI .i64 v fun x1=>(Value.int .i64 x1= .int .i64 (d.writeE 0 d.size)∧Sep [Dk dp (d.writeD 0 (List.replicate d.size 0)),pts mp (aZd ⟨kn,d.sec,d.size,wn,bZe,0⟩ ap rp .none 0 0),Ar ap wn 0 [],pts rp (ZW dp 1 8 ((8*(d.size/8):Nat):Int)),pts p (aZr dp mo),X,pts b1 (.obj (.cells #[.pointer (some ⟨p,0,none⟩)] 36)),pts b2 (.obj (.cells (Sup.aZR kn d.sec d.size wn) 27)),A3] H):=fun v H ⟨h1,h2⟩=>by
    subst h1;simp only[HV];exact⟨by trivial,h2⟩
   repeat' first
    |exact Za.mono (wr1 _ _ hs) done
    |refine hs.ld 6 (v:=.pointer (some ⟨p,0,none⟩)) rfl rfl ?_
    |refine hs.ld 4 (v:=.pointer (some ⟨dp,0,none⟩)) rfl rfl ?_
    |refine hs.mks eZn rfl (n:=d.size) (m:=d.size) rfl rfl (Nat.le_refl _) (by omega) (by omega) fun b4 H hs=>?_
    |(simp only[HV];try simp only[HS])
    |refine⟨?_,?_⟩
  have hp1:=jZo hc 0 (by omega) (List.replicate d.size 0) hzl;have bare0:∀ c:Cn,lZQ d.size (bZt c (0:Nat) (List.replicate d.size 0)):=fun c=>jZ1 c 0 _
  refine Za.mono (f1 _ H hs) ?_;rintro _ H ⟨rfl,hs⟩;refine eZi _ _ ?_;simp only[HV];by_cases hw1:d.writeE 0 d.size=0
  rotate_left
  ·have e1:gZY d (0:Nat) (List.replicate d.size 0)=(d.writeE 0 d.size,d.writeD 0 (List.replicate d.size 0)):=by unfold gZY;exact if_pos hw1
   rw[e1]at hp1;rcases hp1 with⟨d',⟨h,_⟩|⟨h,hcut,hleft⟩⟩
   ·exact absurd (congrArg Prod.fst h) hw1
   ·have h8:=congrArg Prod.fst h;have hd:=congrArg Prod.snd h;simp only at h8 hd;rw[h8];rw[hd]at hs;refine ZC (by decide) ?_;refine Za.mono (bad H d' (hs.re [0,4] rfl) (hcut.more (by omega)) (hleft.mono fun c' h=>?_)) ?_
    ·rcases h with e|e
     ·exact .inl e
     ·right;left;rw[e];exact bare0 c
    ·rintro _ H ⟨rfl,M,h,hs⟩;simp only[HV];exact⟨M,h,hs⟩
  refine Zq hw1 ?_;rw[show i64.wrap ((0:Int)+1)=1 by kernel_rfl];unfold ZH.l2;refine Zm (by decide) ⟨by decide,by decide,?_⟩;simp only[HV];refine hs.ldr 8 (v:=.func (.func 47) #[.pointer (some ⟨dp,0,none⟩)] #[]) rfl rfl ?_;refine dZJ.go (by kernel_rfl) ?_;rw[hres2];have hwd:(d.writeD 0 (List.replicate d.size 0)).sy=d.sy:=(mZ6 d 0 _).1;have hwok:Ok (d.writeD 0 (List.replicate d.size 0)):=Ok.writeD hok 0 _;have e1:gZY d (0:Nat) (List.replicate d.size 0)=((d.writeD 0 (List.replicate d.size 0)).syncE,(d.writeD 0 (List.replicate d.size 0)).syncD):=by unfold gZY;exact if_neg (fun h=>h hw1)
  rw[e1]at hp1;have sy1:∀(A3:As) (H:Hp),Sep [Dk dp (d.writeD 0 (List.replicate d.size 0)),pts mp (aZd ⟨kn,d.sec,d.size,wn,bZe,0⟩ ap rp .none 0 0),Ar ap wn 0 [],pts rp (ZW dp 1 8 ((8*(d.size/8):Nat):Int)),pts p (aZr dp mo),X,pts b1 (.obj (.cells #[.pointer (some ⟨p,0,none⟩)] 36)),pts b2 (.obj (.cells (Sup.aZR kn d.sec d.size wn) 27)),A3] H→Za prog 47 #[.pointer (some ⟨dp,0,none⟩)] H fun v H=>v= .int .i64 (d.writeD 0 (List.replicate d.size 0)).syncE∧Sep [Dk dp (d.writeD 0 (List.replicate d.size 0)).syncD,pts mp (aZd ⟨kn,d.sec,d.size,wn,bZe,0⟩ ap rp .none 0 0),Ar ap wn 0 [],pts rp (ZW dp 1 8 ((8*(d.size/8):Nat):Int)),pts p (aZr dp mo),X,pts b1 (.obj (.cells #[.pointer (some ⟨p,0,none⟩)] 36)),pts b2 (.obj (.cells (Sup.aZR kn d.sec d.size wn) 27)),A3] H:=fun A3 H hs=>by
   refine(hZp (p:=dp) (d:=d.writeD 0 (List.replicate d.size 0)) hwok (by rw[hwd];omega)).use hs [0] rfl rfl ?_;rintro _ _ H ⟨rfl,rfl⟩ hs;exact⟨rfl,hs⟩
  refine Za.mono (sy1 _ H hs) ?_;rintro _ H ⟨rfl,hs⟩;refine eZi _ _ ?_;simp only[HV];rcases hp1 with⟨d1,⟨h,hw1',hc1⟩|⟨h,hcut,hleft⟩⟩
  rotate_left
  ·have h8:=congrArg Prod.fst h;have hd:=congrArg Prod.snd h;simp only at h8 hd;rw[h8];rw[hd]at hs;refine ZC (by decide) ?_;refine Za.mono (bad H d1 (hs.re [0,4] rfl) (hcut.more (by omega)) (hleft.mono fun c' h=>?_)) ?_
   ·rcases h with e|e
    ·exact .inl e
    ·right;left;rw[e];exact bare0 c
   ·rintro _ H ⟨rfl,M,h,hs⟩;simp only[HV];exact⟨M,h,hs⟩
  have h8:=congrArg Prod.fst h;have hd:=congrArg Prod.snd h;simp only at h8 hd;rw[h8];rw[hd]at hs;clear h8 hd h e1;refine Zq rfl ?_;rw[show i64.wrap ((1:Int)+1)=2 by kernel_rfl];unfold ZH.l2;refine Zm (by decide) ⟨by decide,by decide,?_⟩;simp only[HV];refine hs.ldr 8 (v:=.func (.func 48) #[.pointer (some ⟨rp,0,none⟩)] #[]) rfl rfl ?_;refine dZJ.go (by kernel_rfl) ?_;rw[hres3];have hrd1:=hw1'.rd;have hwr1:=hw1'.wr;have hsy1:=hw1'.sy;have hsec1:=hw1'.sec;have hsize1:=hw1'.size;generalize hcc1:bZt c (0:Nat) (List.replicate d.size 0)=c1 at*;have hb1:lZQ d.size c1:=by rw[← hcc1];exact bare0 c
  have cl1:∀(A3:As) (H:Hp),Sep [Dk dp d1,pts mp (aZd ⟨kn,d.sec,d.size,wn,bZe,0⟩ ap rp .none 0 0),Ar ap wn 0 [],pts rp (ZW dp 1 8 ((8*(d.size/8):Nat):Int)),pts p (aZr dp mo),X,pts b1 (.obj (.cells #[.pointer (some ⟨p,0,none⟩)] 36)),pts b2 (.obj (.cells (Sup.aZR kn d.sec d.size wn) 27)),A3] H→Za prog 48 #[.pointer (some ⟨rp,0,none⟩)] H fun v H=>v= .int .i64 (iZD 1 8 0 d1).1∧Sep [Dk dp (iZD 1 8 0 d1).2,pts mp (aZd ⟨kn,d.sec,d.size,wn,bZe,0⟩ ap rp .none 0 0),Ar ap wn 0 [],pts rp (ZW dp 1 8 ((8*(d.size/8):Nat):Int)),pts p (aZr dp mo),X,pts b1 (.obj (.cells #[.pointer (some ⟨p,0,none⟩)] 36)),pts b2 (.obj (.cells (Sup.aZR kn d.sec d.size wn) 27)),A3] H:=fun A3 H hs=>by
   refine(sZO (b:=rp) (p:=dp) (f:=1) (n:=8) (w:=((8*(d.size/8):Nat):Int)) (by omega) hc1.ok (by omega) (by omega)).use hs [0,3] rfl rfl ?_;rintro _ _ H ⟨rfl,rfl⟩ hs;exact⟨rfl,hs.re [0,2,3,1,4,5,6,7,8] rfl⟩
  refine Za.mono (cl1 _ H hs) ?_;rintro _ H ⟨rfl,hs⟩;refine eZi _ _ ?_;simp only[HV];have hnot0:¬inF 8 0:=fun h=>by have:=h.1;omega
  rcases mZv hc1 (n:=8) (by rw[hsec1];omega) 8 0 d1 rfl (Prog.refl _ hc1.ok hc1.down) (fun j hj=>absurd hj (by omega))with⟨d2,c2,h,hw2,hc2,hsam2,hz2⟩|⟨d2,h,hcut,hleft⟩
  rotate_left
  ·rw[h]at hs⊢;refine ZC (show(8:Int)≠0 by decide) ?_;refine Za.mono (bad H d2 (hs.re [0,4] rfl) ((hw1'.cut hcut).more (by omega)) (hleft.mono fun c' h=>?_)) ?_
   ·right;left;show c' 0=_
    rw[h 0 hnot0];exact hb1
   ·rintro _ H ⟨rfl,M,h,hs⟩;simp only[HV];exact⟨M,h,hs⟩
  rw[h]at hs⊢;refine Zq rfl ?_;rw[show i64.wrap ((2:Int)+1)=3 by kernel_rfl];unfold ZH.l2;refine Zm (by decide) ⟨by decide,by decide,?_⟩;simp only[HV];refine hs.ldr 8 (v:=.func (.func 49) #[] #[.pointer (some ⟨b1,0,none⟩),.pointer (some ⟨b2,0,none⟩)]) rfl rfl ?_;refine dZJ.go (by kernel_rfl) ?_;rw[hres4];have hrd2:=hw2.rd;have hwr2:=hw2.wr;have hsy2:=hw2.sy;have hsec2:=hw2.sec;have hsize2:=hw2.size;have hs2:d2.size=d.size:=hsize2.trans hsize1;have hc20:lZQ d.size c2:=by show c2 0=_;rw[hsam2 0 hnot0];exact hb1
  have hfl:(Sup.bZZ kn d.sec d.size wn).length=d2.size:=by have:=Sup.iZS kn d.sec d.size wn hpn;omega
  have hwv:Sup.wrV d2 kn d.sec d.size wn=gZY d2 (0:Nat) (Sup.bZZ kn d.sec d.size wn):=by
   have e0:Sup.ofB d2 d.sec d.size=true:=decide_eq_true ⟨by rw[hsec2,hsec1],by rw[hs2]⟩;unfold Sup.wrV gZY;rw[if_neg (by rw[hg,e0];simp),Int.toNat_natCast,←hs2];rfl
  have hnew:Holds d.sec d.size (cZv kn wn) (bZt c2 (0:Nat) (Sup.bZZ kn d.sec d.size wn)):=by
   refine qZk hg hlw (jZ1 c2 0 _) fun j hj=>?_
   rw[iZt _ _ (by omega),hz2 j hj,hsize1]
  have f2:∀(A3:As) (H:Hp),Sep [Dk dp d2,pts mp (aZd ⟨kn,d.sec,d.size,wn,bZe,0⟩ ap rp .none 0 0),Ar ap wn 0 [],pts rp (ZW dp 1 8 ((8*(d.size/8):Nat):Int)),pts p (aZr dp mo),X,pts b1 (.obj (.cells #[.pointer (some ⟨p,0,none⟩)] 36)),pts b2 (.obj (.cells (Sup.aZR kn d.sec d.size wn) 27)),A3] H→Za prog 49 #[.pointer (some ⟨b1,0,none⟩),.pointer (some ⟨b2,0,none⟩)] H fun v H=>v= .int .i64 (gZY d2 (0:Nat) (Sup.bZZ kn d.sec d.size wn)).1∧Sep [Dk dp (gZY d2 (0:Nat) (Sup.bZZ kn d.sec d.size wn)).2,pts mp (aZd ⟨kn,d.sec,d.size,wn,bZe,0⟩ ap rp .none 0 0),Ar ap wn 0 [],pts rp (ZW dp 1 8 ((8*(d.size/8):Nat):Int)),pts p (aZr dp mo),X,pts b1 (.obj (.cells #[.pointer (some ⟨p,0,none⟩)] 36)),pts b2 (.obj (.cells (Sup.aZR kn d.sec d.size wn) 27)),A3] H:=fun A3 H hs=>by
   apply cZk.ok;unfold cZk;simp only[HV];refine hs.ld 6 (v:=.pointer (some ⟨p,0,none⟩)) rfl rfl ?_;simp only[HV]
   try simp only[HS]
   refine hs.ld 4 (v:=.pointer (some ⟨dp,0,none⟩)) rfl rfl ?_;simp only[HV];refine hs.ldw 7 rfl rfl ?_
   try simp only[Array.toArray_toList]
   refine(Sup.sZh (p:=dp) (d:=d2) hc2.ok (by omega) kn d.sec d.size wn (by have:=hok.sec;omega)).use hs [0] rfl rfl ?_;rintro _ _ H ⟨rfl,rfl⟩ hs;rw[hwv]at hs⊢;simp only[HV];exact⟨by trivial,hs⟩
  refine Za.mono (f2 _ H hs) ?_;rintro _ H ⟨rfl,hs⟩;refine eZi _ _ ?_;simp only[HV];rcases jZo hc2 0 (by rw[hsec2,hsec1];omega) (Sup.bZZ kn d.sec d.size wn) hfl with⟨d3,⟨h,hw3,hc3⟩|⟨h,hcut,hleft⟩⟩
  rotate_left
  ·rw[h]at hs⊢;refine ZC (show(8:Int)≠0 by decide) ?_;refine Za.mono (bad H d3 (hs.re [0,4] rfl) (((hw1'.trans hw2).cut hcut).more (by omega)) (hleft.mono fun c' h=>?_)) ?_
   ·rcases h with e|e
    ·right;left;rw[e];exact hc20
    ·right;right;rw[e];exact hnew
   ·rintro _ H ⟨rfl,M,h,hs⟩;simp only[HV];exact⟨M,h,hs⟩
  rw[h]at hs⊢;refine Zq rfl ?_;rw[show i64.wrap ((3:Int)+1)=4 by kernel_rfl];unfold ZH.l2;refine Zh (by decide) ?_;simp only[HV];refine ZT rfl ?_;refine hs.ld 6 (v:=.pointer (some ⟨p,0,none⟩)) rfl rfl ?_;simp only[HV]
  try simp only[HS]
  refine hs.st 4 rfl (by show 1<2;omega) rfl fun H hs=>?_;refine⟨_,.inr ⟨kn,wn,rfl,rfl,hfit,.inl ⟨d3,_,(hw1'.trans hw2).trans hw3,hc3,hnew,rfl,rfl⟩⟩,?_⟩;refine En.shut (mp:=mp) (e:=egM d (cZv kn wn) 0) (L:=[Dk dp d3]) ?_;exact(Me.bare (ap:=ap) (rp:=rp) (e:=egM d (cZv kn wn) 0) (L:=[pts p (aZr dp (some mp)),Dk dp d3]) (hs.re [1,2,3,4,0] rfl) (tZz rfl)).swap
 have fo:∀(H:Hp) (b2:Nat),Sep [pts p (aZr dp mo),Dk dp d,X,pts b1 (.obj (.cells #[.pointer (some ⟨p,0,none⟩)] 36)),pts b2 (.obj (.cells (Sup.aZR kn d.sec d.size wn) 27))] H→Za prog 43 #[.pointer (some ⟨dp,0,none⟩),.agg (Sup.aZR kn d.sec d.size wn)] H fun v H=>∃ mp ap rp,v= .tuple #[.pointer (some ⟨mp,0,none⟩),.int .i64 0]∧Sep [pts mp (aZd ⟨kn,d.sec,d.size,wn,bZe,0⟩ ap rp .none 0 0),Ar ap wn 0 [],pts rp (ZW dp 1 8 ((8*(d.size/8):Nat):Int)),Dk dp d,pts p (aZr dp mo),X,pts b1 (.obj (.cells #[.pointer (some ⟨p,0,none⟩)] 36)),pts b2 (.obj (.cells (Sup.aZR kn d.sec d.size wn) 27))] H:=fun H b2 hs=>by
  refine(pZv (dp:=dp) hok hg).use hs [1] rfl rfl ?_;rintro _ _ H ⟨mp,ap,rp,rfl,rfl⟩ hs;exact⟨mp,ap,rp,rfl,hs⟩
 have j5:∀ b2 H,Sep [pts p (aZr dp mo),Dk dp d,X,pts b1 (.obj (.cells #[.pointer (some ⟨p,0,none⟩)] 36)),pts b2 (.obj (.cells (Sup.aZR kn d.sec d.size wn) 27))] H→
   Ze.j5 (fun v H'=>∃ M,nZm p dp g d c kn wn v M∧Sep M H') ⟨b1,0,none⟩ ⟨b2,0,none⟩ H:=fun b2 H hs=>by
  unfold Ze.j5 Ze.j5.q1
  repeat' first
   |(refine Za.mono (fo _ _ hs) ?_;rintro _ H ⟨mp,ap,rp,rfl,hs⟩;simp only[HV];exact j6 mp ap rp _ H hs)
   |refine hs.ld 3 (v:=.pointer (some ⟨p,0,none⟩)) rfl rfl ?_
   |refine hs.ld 0 (v:=.pointer (some ⟨dp,0,none⟩)) rfl rfl ?_
   |refine hs.ldw 4 rfl rfl ?_
   |(simp only[HV];try simp only[aZZ,Addr.add_lit',Addr.add_zero,Nat.zero_add,Nat.add_zero,Array.toArray_toList])
   |refine⟨?_,?_⟩
 have hsz:∀(H:Hp) (T:List As) (K:Value→Prop),Sep ([pts p (aZr dp mo),Dk dp d,X,pts b1 (.obj (.cells #[.pointer (some ⟨p,0,none⟩)] 36))]++T) H→K (.int .i64 (d.sec:Int))→ZM prog 41 #[.pointer (some ⟨dp,0,none⟩)] H K:=fun H T K hs h=>ZM.use (eZz hs 1 rfl) h
 have hsy:∀(H:Hp) (T:List As) (K:Value→Prop),Sep ([pts p (aZr dp mo),Dk dp d,X,pts b1 (.obj (.cells #[.pointer (some ⟨p,0,none⟩)] 36))]++T) H→K (.int .i64 (d.size:Int))→ZM prog 42 #[.pointer (some ⟨dp,0,none⟩)] H K:=fun H T K hs h=>ZM.use (hZx hs 1 rfl) h
 repeat' first
  |exact j5 _ _ hs
  |refine hs.ld 3 (v:=.pointer (some ⟨p,0,none⟩)) rfl rfl ?_
  |refine hs.ld 0 (v:=.pointer (some ⟨dp,0,none⟩)) rfl rfl ?_
  |refine hsz _ [] _ hs ?_
  |refine hsy _ [] _ hs ?_
  |refine hsz _ [_] _ hs ?_
  |refine hsy _ [_] _ hs ?_
  |refine hs.nw fun b H hs=>?_
  |refine hs.stw 4 rfl rfl rfl rfl fun H hs=>?_
  |(simp only[HV];try simp only[HS])
  |refine⟨?_,?_⟩
theorem oZ6 {p:Nat}{d:D}{c:Cn}(hc:Clean d c)(ho:d.rd≤1000000):
  Tr prog 64 #[.pointer (some ⟨p,0,none⟩)] [Dk p d] fun v M=>(d.fuse≠1∧v= .tuple #[.agg (Sup.sbV (Sup.rdV d (c 0)).1),.int .i64 (Sup.rdV d (c 0)).2]∧M=[Dk p (D.rdG d 1)])∨(d.fuse=1∧v= .tuple #[.agg (Sup.aZR 0 0 0 0),.int .i64 8]∧M=[Dk p (D.dead d)]):=fun H hs=>by
 have hok:=hc.ok;have hsec:=hok.sec;have hchk:d.chk 0=0:=gZm hc.down (Int.le_refl _) (by omega);by_cases hf:d.fuse=1
 ·have hbn:d.burns=true:=by unfold D.burns;simp[hf]
  apply dZV.ok;unfold dZV;refine hs.nw fun b1 H hs=>?_
  refine(jZJ (p:=p) (d:=d) hok (by omega) 0).use hs [0] rfl rfl ?_;rintro _ _ H (⟨h,_,_⟩|⟨_,_,rfl,rfl⟩|⟨_,h,_⟩) hs
  ·exact absurd hchk h
  ·simp only[HV];refine ZC (by decide) ?_;refine hs.stw 1 rfl rfl rfl rfl fun H hs=>?_;refine hs.ldw 1 rfl rfl ?_;rw[eZB hf]at hs;exact⟨_,.inr ⟨hf,rfl,rfl⟩,hs.re [0] rfl⟩
  ·rw[hbn]at h;cases h
 ·have hbn:d.burns=false:=by unfold D.burns;exact decide_eq_false hf
  have e:({ d.burnt with rd:=d.rd+1}:D)=D.rdG d 1:=by rw[dZ9 hc.down hf];rfl
  refine Za.mono (Sup.tZF hok ho hchk hbn H hs) ?_;rintro v H ⟨M,⟨rfl,rfl⟩,hs⟩;rw[e]at hs;rw[hc.now];exact⟨_,.inl ⟨hf,rfl,rfl⟩,hs⟩
def wZu (p dp:Nat)(d:D)(c:Cn)(o:Option Mn)(v:Value)(M:List As):Prop:=
 (∃ d',o=none∧bZB d d' 1 0 0∧Clean d' c∧v= .int .i64 11∧M=[En p dp none,Dk dp d'])∨
 (∃ d' m,o=some m∧bZB d d' 9 0 0∧Clean d' c∧v= .int .i64 0∧M=[En p dp (some (egM d m 0)),Dk dp d'])∨
 (∃ d',Cut d d' 9∧(o=none→d.fuse=1)∧Left d' (fun c'=>c'=c)∧v= .int .i64 8∧M=[En p dp none,Dk dp d'])
theorem Cut.dead {d:D}{c:Cn}(hc:Clean d c)(hf:d.fuse=1):Cut d (D.dead d) 1∧Left (D.dead d) (fun c'=>c'=c):=by
 have h1:=Cut.rdG hc (j:=0) (n:=1) hf (by omega);have h2:=Left.rdG hc 0;rw[oZz]at h1 h2;exact⟨h1,h2⟩
set_option maxHeartbeats 4000000 in
theorem pZY {p dp:Nat}{g:Option Eg}{d:D}{c:Cn}(hc:Clean d c)(hpn:0<Lay.Zs (d.size:Int))(ho:d.rd≤800000∧d.wr≤800000∧d.sy≤800000){o:Option Mn}(hh:wZ1 d.sec d.size o c):
  Tr prog 30 #[.pointer (some ⟨p,0,none⟩)] [En p dp g,Dk dp d] (wZu p dp d c o):=fun H hs=>by
 have hok:=hc.ok;have hper:=dZ0 hpn;obtain⟨mo,X,hs,hback⟩:=En.ptr hs;have chk8:∀(T:List As) (H:Hp) (K:VK),Sep ([pts p (aZr dp mo)]++T) H→(∀ H,Sep ([pts p (aZr dp none)]++T) H→K (.int .i64 8) H)→Za prog 59 #[.pointer (some ⟨p,0,none⟩),.int .i64 8] H K:=fun T H K hs hk=>by
  apply bZi.ok;unfold bZi;refine ZT rfl ?_
  try simp only[HS]
  refine hs.st 0 rfl (by show 1<2;omega) rfl fun H hs=>?_;exact hk H hs
 apply aZm.ok;unfold aZm
 try simp only[HS]
 refine hs.ld 0 (v:=.pointer (some ⟨dp,0,none⟩)) rfl rfl ?_;simp only[HV];refine(oZ6 (p:=dp) hc (by omega)).use hs [2] rfl rfl ?_;rintro _ _ H (⟨hf,rfl,rfl⟩|⟨hf,rfl,rfl⟩) hs
 rotate_left
 ·simp only[HV];refine hs.nw fun b1 H hs=>?_
  refine hs.stw 3 rfl rfl rfl rfl fun H hs=>?_;refine ZT rfl ?_;obtain⟨h1,h2⟩:=Cut.dead hc hf;refine chk8 [Dk dp (D.dead d)] H _ (hs.re [1,0] rfl) fun H hs=>?_;simp only[HV];exact⟨_,.inr (.inr ⟨_,h1.more (by omega),fun _=>hf,h2,rfl,rfl⟩),hs⟩
 have hgo1:d.fuse=0∨1<d.fuse:=by omega
 have hw1:=bZB.rdG hgo1;have hc1:=hc.rdG 1;cases o with
 |none=>
  have h0:c 0=List.replicate d.size 0:=hh;have e:Sup.rdV d (c 0)=((0,0,0,0),10):=by
   unfold Sup.rdV;rw[h0,Sup.qZG d.size hpn];rfl
  rw[e];simp only[HV];refine hs.nw fun b1 H hs=>?_
  refine hs.stw 3 rfl rfl rfl rfl fun H hs=>?_;refine aZg (by decide) (ZC (by decide) ?_)
  try simp only[HS]
  refine hs.st 1 rfl (by show 1<2;omega) rfl fun H hs=>?_;exact⟨_,.inl ⟨_,rfl,hw1,hc1,rfl,rfl⟩,hs.re [1,0] rfl⟩
 |some m=>
  have hh:Holds d.sec d.size m c:=hh;have hgo:=cZ5 hh.good;have hneed:9≤d.sec:=by have:=hgo.2.2.1;unfold Lay.bZj at this;omega
  have hsec:=hok.sec;have e:Sup.rdV d (c 0)=(((m.most:Int),(d.sec:Int),(d.size:Int),(m.arena:Int)),0):=by
   unfold Sup.rdV;rw[hh.sup,Sup.qZF _ _ _ _ hh.good (by omega),if_neg (by simp)];exact if_pos (show Sup.ofB d d.sec d.size=true from decide_eq_true ⟨rfl,rfl⟩)
  rw[e];simp only[HV];refine hs.nw fun b1 H hs=>?_
  refine hs.stw 3 rfl rfl rfl rfl fun H hs=>?_;refine aZg (by decide) (Zq rfl ?_);generalize hd1:D.rdG d 1=d1 at*;have hsec1:d1.sec=d.sec:=hw1.sec;have hsize1:d1.size=d.size:=hw1.size;have hh1:Holds d1.sec d1.size m c:=by rw[hsec1,hsize1];exact hh
  have hs:Sep [Dk dp d1,pts p (aZr dp mo),X,pts b1 (.obj (.cells (Sup.aZR m.most d.sec d.size m.arena) 27))] H:=hs;have fo:∀(H:Hp),Sep [Dk dp d1,pts p (aZr dp mo),X,pts b1 (.obj (.cells (Sup.aZR m.most d.sec d.size m.arena) 27))] H→Za prog 43 #[.pointer (some ⟨dp,0,none⟩),.agg (Sup.aZR m.most d.sec d.size m.arena)] H fun v H=>∃ mp ap rp,v= .tuple #[.pointer (some ⟨mp,0,none⟩),.int .i64 0]∧Sep [pts mp (aZd ⟨m.most,d.sec,d.size,m.arena,bZe,0⟩ ap rp .none 0 0),Ar ap m.arena 0 [],pts rp (ZW dp 1 8 ((8*(d.size/8):Nat):Int)),Dk dp d1,pts p (aZr dp mo),X] H:=fun H hs=>by
   rw[← hsec1,←hsize1]at hs⊢;refine(pZv (dp:=dp) hc1.ok hh1.good).use hs [0] rfl rfl ?_;rintro _ _ H ⟨mp,ap,rp,rfl,rfl⟩ hs;exact⟨mp,ap,rp,rfl,hs.re [0,1,2,3,4,5] rfl⟩
  have j8:∀ mp ap rp H,Sep [pts mp (aZd ⟨m.most,d.sec,d.size,m.arena,bZe,0⟩ ap rp .none 0 0),Ar ap m.arena 0 [],pts rp (ZW dp 1 8 ((8*(d.size/8):Nat):Int)),Dk dp d1,pts p (aZr dp mo),X] H→
    aZm.j8 (fun v H'=>∃ M,wZu p dp d c (some m) v M∧Sep M H') (some ⟨p,0,none⟩) 0 (some ⟨mp,0,none⟩) H:=fun mp ap rp H hs=>by
   unfold aZm.j8;refine Zq rfl ?_
   try simp only[HS]
   refine hs.ld 0 (v:=.pointer (some ⟨rp,0,none⟩)) rfl rfl ?_;simp only[HV];have hrd1:=hw1.rd;refine(pZc (b:=rp) (p:=dp) (f:=1) (n:=8) (w:=((8*(d.size/8):Nat):Int)) (d:=d1) (by omega) (by omega) hc1.ok (by omega) (fun _=>by
    have:=jZs 1 8 8 0 d1 [];have h9:(aZS 1 8 d1).2.2.length≤0+8:=this;omega)).use hs [3,2] rfl rfl ?_
   rintro _ _ H ⟨rfl,rfl⟩ hs;have hs:Sep [Dk dp (aZS 1 8 d1).2.1,pts rp (ZW dp 1 8 ((8*(d.size/8):Nat):Int)),pts mp (aZd ⟨m.most,d.sec,d.size,m.arena,bZe,0⟩ ap rp .none 0 0),Ar ap m.arena 0 [],pts p (aZr dp mo),X] H:=hs;simp only[HV];refine hs.nw fun b2 H hs=>?_
   refine hs.stw 6 rfl rfl (y:=R.c _) rfl (eZU _) fun H hs=>?_;rcases kZj hc1 1 8 (by rw[hsec1];omega)with⟨hf2,hsc⟩|⟨j,hj,hf2,hsc⟩
   ·rw[hsc]at hs⊢;rw[oZa,hh1.lastC]at hs;refine Zq rfl ?_;refine hs.ldw 6 rfl rfl ?_
    try simp only[Array.toArray_toList]
    try simp only[HS]
    refine hs.sta 2 (off:=23) (n:=8) (y:=R.c m.r) rfl (by show 23+8≤32;omega) rfl (eZU _) fun H hs=>?_;have hs:Sep [Dk dp (D.rdG d1 8),pts rp (ZW dp 1 8 ((8*(d.size/8):Nat):Int)),pts mp (aZd (egM d m 0) ap rp .none 0 0),Ar ap m.arena 0 [],pts p (aZr dp mo),X,pts b2 (.obj (.cells (R.c m.r) 102))] H:=hs;have he:=hh.eg (peak:=0) (by omega);have hkk:=he.kk0;refine(rZJ (mp:=mp) (ap:=ap) (rp:=rp) (e:=egM d m 0) (A:=.none) (n:=0) (m:=0) he.most he.p ⟨he.least,he.arena⟩ (fun _=>⟨hkk.1,he.kk,he.dir⟩)).use hs [2] rfl rfl ?_;rintro _ _ H ⟨A',m',rfl,rfl⟩ hs
    try simp only[HV]
    try simp only[HS]
    refine hs.st 5 rfl (by show 1<2;omega) rfl fun H hs=>?_;refine⟨_,.inr (.inl ⟨_,m,rfl,hw1.trans (bZB.rdG hf2),hc1.rdG 8,rfl,rfl⟩),?_⟩;exact En.unwhole (mp:=mp) (ap:=ap) (rp:=rp) (A:=A') (m:=m') (e:=egM d m 0) (L:=[Dk dp (D.rdG d1 8)]) (hs.re [5,0,4,3,1,2] rfl)
   ·rw[hsc]at hs⊢;refine ZC (show(8:Int)≠0 by decide) ?_;refine chk8 [Dk dp (D.dead (D.rdG d1 j))] H _ (hs.re [4,0] rfl) fun H hs=>?_;simp only[HV];have hcut:=hw1.cut (Cut.rdG hc1 hf2 hj);exact⟨_,.inr (.inr ⟨_,hcut.more (by omega),fun h=>(by cases h),Left.rdG hc1 j,rfl,rfl⟩),hs⟩
  try simp only[HS]
  repeat' first
   |(refine Za.mono (fo _ hs) ?_;rintro _ H ⟨mp,ap,rp,rfl,hs⟩;simp only[HV];exact j8 mp ap rp H hs)
   |refine hs.ld 1 (v:=.pointer (some ⟨dp,0,none⟩)) rfl rfl ?_
   |refine hs.ldw 3 rfl rfl ?_
   |(simp only[HV];try simp only[aZZ,Addr.add_lit',Addr.add_zero,Nat.zero_add,Nat.add_zero,Array.toArray_toList])
   |refine⟨?_,?_⟩
end Eng
namespace W
open Go Go.Hw
end W
namespace Eng
open Go Go.Hw Go.Form W Shp Dsk Str Are Trn Pas Pln Rec Srt Rng
theorem rZp {dp:Nat}:Tr prog 12 #[.pointer (some ⟨dp,0,none⟩)] [] fun v M=>∃ p,v= .pointer (some ⟨p,0,none⟩)∧M=[En p dp none]:=fun H hs=>by
 apply fZM.ok;unfold fZM;refine aZb rfl ?_;refine hs.nw fun p H hs=>?_
 exact⟨_,⟨p,rfl,rfl⟩,hs⟩
section
variable {p dp : Nat}
end
structure Liv (N:Nat)(d:D)(c:Cn)(m:Mn):Prop where
 cl:Clean d c
 hh:Holds d.sec d.size m c
 most:m.most≤6
 len:m.L.length≤N
 ld:m.r.ld≤N
 rd:d.rd≤2000*N
 wr:d.wr≤2000*N
 sy:d.sy≤2000*N
theorem Liv.went {N:Nat}{d d':D}{c c':Cn}{m m':Mn}(h:Liv N d c m){r w s:Nat}(hw:bZB d d' r w s)(hr:r≤2000∧w≤2000∧s≤2000)(hc:Clean d' c')(hh:Holds d.sec d.size m' c')(hm:m'.most=m.most)(hl:m'.L.length≤N+2)(hld:m'.r.ld≤N+2):Liv (N+2) d' c' m':=by
 have h1:=hw.rd;have h2:=hw.wr;have h3:=hw.sy;have h4:=h.rd;have h5:=h.wr;have h6:=h.sy;have h7:=h.most;exact⟨hc,by rw[hw.sec,hw.size];exact hh,by omega,hl,hld,by omega,by omega,by omega⟩
theorem Liv.small {N:Nat}{d:D}{c:Cn}{m:Mn}(h:Liv N d c m)(hN:N≤400):Small 100000 m∧(d.rd≤800000∧d.wr≤800000∧d.sy≤800000):=by
 have h2:=h.len;have h3:=h.ld;have h4:=h.rd;have h5:=h.wr;have h6:=h.sy;exact⟨⟨by omega,by omega⟩,by omega,by omega,by omega⟩
theorem Liv.per {N:Nat}{d:D}{c:Cn}{m:Mn}(h:Liv N d c m):0<Lay.Zs (d.size:Int):=(cZ5 h.hh.good).2.1
theorem Liv.kk {N:Nat}{d:D}{c:Cn}{m:Mn}(h:Liv N d c m):m.r.kk.toNat≤6:=by
 have:=(Mn.r_wf h.hh).2.2;have:=h.most;omega
theorem qZj {k per:Nat}(hk:k≤6):Lay.bZj k per≤9+4*65:=by
 have h1:=gZ1 hk;have h2:(2^k-1)/per≤2^k-1:=Nat.div_le_self _ _;unfold Lay.bZj Lay.Zx;omega
theorem hZ7 {k per:Nat}(hk:k≤6):aZC k per≤16+per:=by
 have:2^((k+1)/2)≤2^3:=Nat.pow_le_pow_right (by omega) (by omega);unfold aZC;omega
def wZf (m:Mn)(k:Nat)(l:List UInt64)(b:Bool):Mn:=(bZJ m k l).add (cZw (bZJ m k l) b)
structure Job (m:Mn)(k:Nat)(b:Bool)(l:List UInt64)(j:Nat):Prop where
 inp:m.inp=l
 kk:m.r.kk=k
 dir:m.r.dir=if b=true then 1 else 0
 kd:3≤m.r.kd
 ps:m.r.ps=j
theorem Job.plan {m:Mn}{k:Nat}{b:Bool}{l:List UInt64}{j:Nat}(h:Job m k b l j)(per:Nat):aZ3 m per m.r=aZA b k per m.arena:=by
 unfold aZ3 fZv;rw[h.dir,h.kk,Int.toNat_natCast];cases b<;>rfl
theorem Job.st {m:Mn}{k:Nat}{b:Bool}{l:List UInt64}{j:Nat}(h:Job m k b l j)(per:Nat):stM m per=if j<(aZA b k per m.arena).length then 3 else 4:=by
 have:=h.kd;unfold stM;rw[if_neg (by omega),if_neg (by omega),h.plan,h.ps];by_cases e:j<(aZA b k per m.arena).length
 ·rw[if_pos e,if_pos (by omega)]
 ·rw[if_neg e,if_neg (by omega)]
theorem Job.next {m:Mn}{k:Nat}{b:Bool}{l:List UInt64}{j:Nat}(h:Job m k b l j)(per:Nat):Job (m.add (bZx m per)) k b l (j+1):=by
 have e:(m.add (bZx m per)).r=bZx m per:=Mn.add_r _ _;refine⟨h.inp,?_,?_,?_,?_⟩
 ·rw[e];exact h.kk
 ·rw[e];exact h.dir
 ·rw[e];show(3:Int)≤4;omega
 ·rw[e];show m.r.ps+1=_;rw[h.ps];omega
theorem tZj (m:Mn)(k:Nat)(l:List UInt64)(b:Bool):Job (wZf m k l b) k b l 0:=by
 have h2r:(bZJ m k l).r=dZi (aZK m k) k l:=Mn.add_r _ _;have e:(wZf m k l b).r=cZw (bZJ m k l) b:=Mn.add_r _ _;refine⟨rfl,?_,?_,?_,?_⟩
 ·rw[e];show(bZJ m k l).r.kk=_;rw[h2r];rfl
 ·rw[e];rfl
 ·rw[e];show(3:Int)≤3;omega
 ·rw[e];rfl
theorem Liv.step {N:Nat}{d d':D}{c c':Cn}{m:Mn}(h:Liv N d c m){r w:Nat}(hs:iZz m (d.size/8) r w):r≤2000∧w≤2000:=by
 have hp:=h.hh.per;have hk:=h.kk;have hm:=h.most;have hkm:=(Mn.r_wf h.hh).2.2;have h1:=hs.le (by omega) (by omega) (Nat.le_trans (hZg (by omega)) h.hh.least);have:=gZ1 hk;omega
theorem Liv.stepped {N:Nat}{d d':D}{c c':Cn}{m:Mn}(h:Liv N d c m){r w:Nat}(hs:iZz m (d.size/8) r w)(hw:bZB d d' r w 2)(hc:Clean d' c')(hh:Holds d.sec d.size (m.add (bZx m (d.size/8))) c'):Liv (N+2) d' c' (m.add (bZx m (d.size/8))):=by
 have:=Liv.step (d':=d') (c':=c') h hs;have h1:=h.len;have h2:=h.ld;refine h.went hw (by omega) hc hh rfl ?_ ?_
 ·show(m.L++[_]).length≤_;simp;omega
 ·rw[Mn.add_r];show m.r.ld≤_;omega
def w4 :List UInt64:=[1,2,3,4]
structure vZM where
 k:Int
 n:Int
 m:Int
 A:OA
 nA:Nat
 mA:Nat
 l:List UInt64
 G:OA
 nG:Nat
 mG:Nat
 ks:List Bool
structure OkE (H:Hp)(a:vZM):Prop where
 nA:a.nA=a.l.length
 mA:a.nA≤a.mA
 l:Cells H a.A (Zd a.l)
 nG:a.nG=a.ks.length
 ks:Cells H a.G (gZk a.ks)
 n: -9223372036854775808≤a.n∧a.n≤9223372036854775807
 m: -9223372036854775808≤a.m∧a.m≤9223372036854775807
theorem OkE.le {H H':Hp}{a:vZM}(h:OkE H a)(k:H.le H'):OkE H' a:=⟨h.nA,h.mA,h.l.le k,h.nG,h.ks.le k,h.n,h.m⟩
section
open Go.RowKit Go.ChangeShapes Go.WideShapes Go.ChangeAt
variable {H : Type} {enc : TypeId × Value → H} {W : World}
end
structure sZ0 (m0 m:Mn):Prop where
 most:m.most=m0.most
 arena:m.arena=m0.arena
 inp:m.inp=m0.inp
 kd:2≤m.r.kd
theorem sZ0.pass {m0 m:Mn}(h:sZ0 m0 m)(per:Nat):sZ0 m0 (m.add (bZx m per)):=⟨h.most,h.arena,h.inp,by rw[Mn.add_r];show(2:Int)≤4;omega⟩
theorem Clean.again {d:D}{c:Cn}(hc:Clean d c):Ok { d with down:=true,fuse:=0}∧Dom { d with down:=true,fuse:=0}∧∀ ks,KeysOf (bZ4 d.cache) ks→∀ keep,Clean (D.boot { d with down:=true,fuse:=0} ks keep) c:=by
 have hok:=hc.ok;have hok3:Ok { d with down:=true,fuse:=0}:=⟨hok.sec,hok.size,hok.big,hok.per,hok.safe,hok.cache,Nat.zero_le _⟩;refine⟨hok3,fun k hk=>hc.dom k hk,fun ks hks keep=>?_⟩;obtain⟨c3,ec3,hc3⟩:=(hc.crash).boot hok3 hks keep;rw[ec3]at hc3;exact hc3
theorem Liv.again {N:Nat}{d:D}{c:Cn}{m:Mn}(h:Liv N d c m){ks:List Int}(hks:KeysOf (bZ4 d.cache) ks)(keep:List Bool):Liv N (D.boot { d with down:=true,fuse:=0} ks keep) c m:=
 ⟨(h.cl.again).2.2 ks hks keep,h.hh,h.most,h.len,h.ld,h.rd,h.wr,h.sy⟩
end Eng
namespace Eng
open Go Go.Hw Go.Form W Shp Dsk Str Are Trn Ker Fft Pas Pln
end Eng
namespace Eng
open Go Go.Hw Go.Form W Shp Dsk Str Are Trn Pas Pln Rec Srt Rng
theorem mZW (e:Eg):(((lZK (some e)).map (Value.int .i64)).toArray)[0]? =some (.int .i64 (stE e)):=by
 have h:=mZV e;show(((if stE e=1 then _ else if stE e=2 then _ else _:List Int).map (Value.int .i64)).toArray)[0]? =_
 rcases h with h|h|h|h<;>rw[h]<;>rfl
structure Jb (N sc sz ar:Nat)(k:Nat)(b:Bool)(l:List UInt64)(d:D)(c:Cn)(m:Mn)(i:Nat):Prop where
 lv:Liv N d c m
 sec:d.sec=sc
 size:d.size=sz
 har:m.arena=ar
 jb:Job m k b l i
 le:i≤(aZA b k (sz/8) ar).length
section
variable {K : Value → Hp → Prop} {R12 : Option Addr → Nat → Nat → Int → Option Addr → Nat → Nat → Option Addr → Nat → Nat → Option Addr → Nat → Nat → Int → Addr → Int → Int → Int → Hp → Prop} {H0 : Hp}
variable {A9 A10 A11 A12 : Option Addr} {n9 m9 n10 m10 n11 m11 n12 m12 : Nat} {x9 : Int} {p dp b1 k x w sc sz ar : Nat} {b : Bool} {l : List UInt64} {keep more : List Bool}
variable (hT : T64 H0) (hk6 : k ≤ 6) (hn11 : n11 = keep.length) (hc11 : Cells H0 A11 (gZk keep)) (hn12 : n12 = more.length) (hc12 : Cells H0 A12 (gZk more))
include hn11 hc11 hn12 hc12 in
include hT hk6 hn11 hc11 hn12 hc12 in
end
section
variable {H0 : Hp} {A9 A10 A11 A12 : Option Addr} {n9 m9 n10 m10 n11 m11 n12 m12 p dp b1 k x w sc sz ar:Nat} {b : Bool} {l : List UInt64} {keep more : List Bool} {fs : List UInt8}
variable (hT : T64 H0) (hk6 : k ≤ 6) (hl : Cells H0 A9 (Zd l)) (hn9 : n9 = l.length) (hl2 : l.length = 2 ^ k) (hn11 : n11 = keep.length) (hc11 : Cells H0 A11 (gZk keep)) (hn12 : n12 = more.length) (hc12 : Cells H0 A12 (gZk more)) (hn10 : n10 = fs.length) (hn16 : n10 ≤ 16) (hc10 : Cells H0 A10 (Zn fs))
include hk6 hl hn9 hl2 in
include hT hk6 hl hn9 hl2 hn11 hc11 hn12 hc12 hn10 hn16 hc10 in
end
end Eng
namespace W
open Go Go.Hw
theorem hZG :prog.follows .mixedOrders=true:=by kernel_rfl
def ZZ.l9 (K:VK):Nat→OA→Nat→Nat→Addr→Addr→Int→Int→Hp→Prop
 |0,_,_,_,_,_,_,_,_=>False
 |k+1,A2,n2,m2,a1,a2,x4,x5,H=>
  let R9:=ZZ.l9 K k
  BIf (decide (x5<(n2:Int))) (ixI x5 n2 (NN A2 fun a3=>LeW H (a3.add (x5.toNat*1)) fun x6=>BIf (decide (x6≥18446744069414584321)) (LdA H a1 12 fun l4=>StA H a2 l4.toArray 12 fun H7=>LdA H7 a2 12 fun l9=>K (.tuple #[.agg l9.toArray,.int .i64 x5,.int .i64 3]) H7) (R9 A2 n2 m2 a1 a2 x4 (i64.wrap (x5+1)) H))) (LeI H (a1.add 10) fun x7=>St H ((a1.add 10).add 0) (.int .i64 (i64.wrap (x7+1))) fun H8=>LeI H8 (a1.add 10) fun x8=>StA H8 (a1.add 0) #[.int .i64 2,.int .i64 x8,.int .i64 x4,.int .i64 0,.int .i64 0,.int .i64 0] 6 fun H9=>Nw H9 (.row [] 82 0) fun b3 H10=>cZP prog 82 (.slice (some ⟨b3,0,none⟩) 0 0) (.slice A2 n2 m2) H10 fun v7 H11=>DSl v7 fun A3 n3 m3=>St H11 ((a1.add 11).add 0) (.slice A3 n3 m3) fun H12=>LdA H12 a1 12 fun l5=>StA H12 a2 l5.toArray 12 fun H13=>LdA H13 a2 12 fun l10=>K (.tuple #[.agg l10.toArray,.int .i64 0,.int .i64 0]) H13)
def ZZ (y1:Array Value)(A1:OA)(n1 m1:Nat)(H:Hp)(K:VK):Prop:=
 Nw H (.obj (.cells y1 31)) fun b1 H1=>Nw H1 (.obj (.cells #[.int .i64 0,.int .i64 0,.int .i64 0,.int .i64 0,.int .i64 0,.int .i64 0,.int .i64 0,.int .i64 0,.int .i64 0,.int .i64 0,.int .i64 0,.slice none 0 0] 31)) fun b2 H2=>LeI H2 (((⟨b1,0,none⟩:Addr).add 0).add 0) fun x1=>BIf (x1==0) (LdA H2 ⟨b1,0,none⟩ 12 fun l1=>StA H2 ⟨b2,0,none⟩ l1.toArray 12 fun H3=>LdA H3 ⟨b2,0,none⟩ 12 fun l6=>K (.tuple #[.agg l6.toArray,.int .i64 0,.int .i64 5]) H3) (HcI 7 #[.int .i64 (n1:Int)] H2 fun x2 H4=>BIf (decide (x2<0)) (LdA H4 ⟨b1,0,none⟩ 12 fun l2=>StA H4 ⟨b2,0,none⟩ l2.toArray 12 fun H5=>LdA H5 ⟨b2,0,none⟩ 12 fun l7=>K (.tuple #[.agg l7.toArray,.int .i64 0,.int .i64 4]) H5) (LeI H4 ((⟨b1,0,none⟩:Addr).add 6) fun x3=>BIf (decide (x2>x3)) (LdA H4 ⟨b1,0,none⟩ 12 fun l3=>StA H4 ⟨b2,0,none⟩ l3.toArray 12 fun H6=>LdA H6 ⟨b2,0,none⟩ 12 fun l8=>K (.tuple #[.agg l8.toArray,.int .i64 0,.int .i64 14]) H6) ((∃ k,ZZ.l9 K k A1 n1 m1 ⟨b1,0,none⟩ ⟨b2,0,none⟩ x2 0 H4))))
def ZZ.l9.L (K:VK)(k:Nat):Mid:=fun E D H=>
 DG (E.get? 1) fun w1=>DSl w1 fun A2 n2 m2=>eN E 2 fun a1=>eN E 4 fun a2=>eI E 7 .i64 fun x4=>eI E 8 .i64 fun x5=>Zk D (ZZ.l9 K k A2 n2 m2 a1 a2 x4 x5 H)
def ZZ.Λ9 (_:VK)(_R9:OA→Nat→Nat→Addr→Addr→Int→Int→Hp→Prop):Zu:=Zu.none (fun _=>none)
def ZZ.Λ (K:VK):Zu:=⟨fun i=>none,fun i=>match Nat.beq i 9 with|true=>some (fun E D H=>∃ k,ZZ.l9.L K k E D H)|false=>none,(fun _=>none)⟩
theorem ZZ.ok y1 A1 n1 m1 H K (h:ZZ y1 A1 n1 m1 H K):Za prog 10 #[.agg y1,.slice A1 n1 m1] H K:=
 okL (Λ:=(ZZ.Λ K)) hZG Tryz.func10 rfl rfl h (oC (fun E D H h=>by
   refine Safe.loop' (ZZ.l9.L K) (fun E D H h=>?_) (fun k E D H h=>?_) E D H h
   ·obtain⟨w1,e1,g1⟩:=DG.out h;obtain⟨A2,n2,m2,rfl,g2⟩:=DSl.out g1;obtain⟨w2,e2,g3⟩:=DG.out g2;obtain⟨pw2,rfl,g4⟩:=DP.out g3;obtain⟨a1,rfl,g5⟩:=NN.out g4;obtain⟨w4,e4,g6⟩:=DG.out g5;obtain⟨pw4,rfl,g7⟩:=DP.out g6;obtain⟨a2,rfl,g8⟩:=NN.out g7;obtain⟨w7,e7,g9⟩:=DG.out g8;obtain⟨x4,rfl,g10⟩:=DI.out g9;obtain⟨w8,e8,g11⟩:=DG.out g10;obtain⟨x5,rfl,g12⟩:=DI.out g11;obtain⟨rfl,h'⟩:=Zk.out g12;exact h'
   ·obtain⟨w1,e1,g1⟩:=DG.out h;obtain⟨A2,n2,m2,rfl,g2⟩:=DSl.out g1;obtain⟨a1,e2,g5⟩:=GN g2;obtain⟨a2,e4,g8⟩:=GN g5;obtain⟨x4,e7,g10⟩:=GI g8;obtain⟨x5,e8,g12⟩:=GI g10;obtain⟨rfl,h'⟩:=Zk.out g12;exact okJ (Λ:=(ZZ.Λ9 K (ZZ.l9 K k))) hZG [] (Zb.cons e1 (Zb.cons e2 (Zb.cons e4 (Zb.cons e7 (Zb.cons e8 (Zb.nil _)))))) h' oN) oN)
end W
namespace Eng
open Go Go.Hw Go.Form W Shp Dsk Str Are Trn Pas Pln
def mch (s:Int×Int×Int×Int×Int×Int)(mo ar sc sz ld:Int)(A:OA)(n m:Nat):Array Value:=#[.int .i64 s.1,.int .i64 s.2.1,.int .i64 s.2.2.1,.int .i64 s.2.2.2.1,.int .i64 s.2.2.2.2.1,.int .i64 s.2.2.2.2.2,.int .i64 mo,.int .i64 ar,.int .i64 sc,.int .i64 sz,.int .i64 ld,.slice A n m]
abbrev jZf (s:Int×Int×Int×Int×Int×Int)(mo ar sc sz ld:Int)(A:OA)(n m:Nat):AO:=.obj (.cells (mch s mo ar sc sz ld A n m) 31)
def okL (l:List UInt64)(most k:Nat):Prop:=lg (l.length:Int)=some k∧k≤most∧hZ3 l
section
variable {R0 : As} {A : Option Addr} {n m : Nat} {l : List UInt64} (hn : n = l.length) (hl : n ≤ 1000000) (hR : ∀ H, R0 H → Cells H A (Zd l))
include hn hl hR
def ldQ (R0:As)(l:List UInt64)(most:Nat)(ar sc sz ld:Int)(v:Value)(M:List As):Prop:=
 (∃(y:Array Value) (i e:Int),e≠0∧(∀ k,¬okL l most k)∧y.size=12∧y.toList.all (fun v=>v.oneCell')=true∧v= .tuple #[.agg y,.int .i64 i,.int .i64 e]∧M=[R0])∨
 (∃ k A' m',okL l most k∧v= .tuple #[.agg (mch (2,ld+1,k,0,0,0) most ar sc sz (ld+1) A' l.length m'),.int .i64 0,.int .i64 0]∧M=[Own 82 1 A' l.length m' (Zd l),R0])
theorem lZD {b1 b2 most k:Nat}{st ar sc sz ld:Int}(hk:lg (n:Int)=some k)(hkm:k≤most)(hld:0≤ld∧ld≤1000000){s1 s2 s3 s4 s5:Int}:
  ∀(t i:Nat) (H:Hp),i+t=n→(∀ j (hj:j<l.length),j<i→(l[j]).toNat<18446744069414584321)→Sep [R0,pts b1 (jZf (st,s1,s2,s3,s4,s5) most ar sc sz ld .none 0 0),pts b2 (jZf (0,0,0,0,0,0) 0 0 0 0 0 .none 0 0)] H→
   ZZ.l9 (fun v H'=>∃ M,ldQ R0 l most ar sc sz ld v M∧Sep M H') (t+1) A n m ⟨b1,0,none⟩ ⟨b2,0,none⟩ (k:Int) (i:Int) H
 |0,i,H,hi,hc,hs=>by
  unfold ZZ.l9;refine Zh (by omega) ?_
  try simp only[HS]
  refine hs.ld 1 (v:=.int .i64 ld) rfl rfl ?_;simp only[HV];rw[ZL (x:=ld+1) (by omega) (by omega)];refine hs.st 1 rfl (by show 10<12;omega) rfl fun H hs=>?_;refine hs.ld 1 (v:=.int .i64 (ld+1)) rfl rfl ?_;simp only[HV];refine hs.sta 1 (off:=0) (n:=6) rfl (by show 0+6≤12;omega) rfl rfl fun H hs=>?_;refine hs.nw fun b3 H hs=>?_
  have hs:Sep [R0,pts b1 (jZf (2,ld+1,k,0,0,0) most ar sc sz (ld+1) .none 0 0),pts b2 (jZf (0,0,0,0,0,0) 0 0 0 0 0 .none 0 0),pts b3 (.row [] 82 0)] H:=hs;have hs:=vZa hs 3 (n:=0) (s:=1) rfl rfl rfl;have hcell:Cells H A (Zd l):=by
   obtain⟨H1,h1,hle⟩:=hs.see 0 rfl;exact(hR H1 h1).le hle
  refine Sep.app hs 3 (k:=n) (ys:=Zd l) rfl Ker.bZW rfl (by omega) (by omega) rfl (iZp hcell (by rw[Zr];exact hn)) (by rw[Zr];omega) (by simp[Zd,Value.oneCell']) (by omega) (by omega) fun A' m' H hs=>?_
  rw[Nat.zero_add]at hs⊢;rw[List.nil_append]at hs;simp only[HV];refine hs.st 1 rfl (by show 11<12;omega) rfl fun H hs=>?_;refine hs.ldw 1 rfl rfl ?_;refine hs.stw 2 (y:=mch (2,ld+1,k,0,0,0) most ar sc sz (ld+1) A' n m') rfl rfl rfl rfl fun H hs=>?_;refine hs.ldw 2 rfl rfl ?_;refine⟨_,.inr ⟨k,A',m',⟨by rw[← hn];exact hk,hkm,fun x hx=>?_⟩,?_,rfl⟩,?_⟩
  ·obtain⟨j,hj,rfl⟩:=List.getElem_of_mem hx;exact hc j hj (by omega)
  ·rw[← hn]
  ·rw[← hn];exact hs.re [3,0] rfl
 |t+1,i,H,hi,hc,hs=>by
  have hil:i<l.length:=by omega
  unfold ZZ.l9;refine Zm (by omega) ?_;have hcell:Cells H A (Zd l):=by
   obtain⟨H1,h1,hle⟩:=hs.see 0 rfl;exact(hR H1 h1).le hle
  have hg:(Zd l)[i]? =some (.int .u64 ((l[i]'hil).toNat:Int)):=by rw[bZg,List.getElem?_eq_getElem hil];rfl
  refine hcell.read hg rfl (by rw[Zr];omega) ?_;simp only[HV];by_cases hx:(l[i]'hil).toNat<18446744069414584321
  ·refine Zh (by omega) ?_;rw[ZL (x:=(i:Int)+1) (by omega) (by omega)];refine lZD hk hkm hld t (i+1) H (by omega) (fun j hj hji=>?_) hs;by_cases e:j=i
   ·subst e;exact hx
   ·exact hc j hj (by omega)
  ·refine Zm (by omega) ?_;refine hs.ldw 1 rfl rfl ?_;refine hs.stw 2 (y:=mch (st,s1,s2,s3,s4,s5) most ar sc sz ld .none 0 0) rfl rfl rfl rfl fun H hs=>?_;refine hs.ldw 2 rfl rfl ?_;exact⟨_,.inl ⟨mch (st,s1,s2,s3,s4,s5) most ar sc sz ld .none 0 0,_,3,by decide,fun k' hk'=>hx (hk'.2.2 _ (List.getElem_mem hil)),rfl,rfl,rfl,rfl⟩,hs.re [0] rfl⟩
theorem tZB {most:Nat}{st ar sc sz ld:Int}(hst:st≠0)(hld:0≤ld∧ld≤1000000){s1 s2 s3 s4 s5:Int}:
  Tr prog 10 #[.agg (mch (st,s1,s2,s3,s4,s5) most ar sc sz ld .none 0 0),.slice A n m] [R0] (ldQ R0 l most ar sc sz ld):=fun H hs=>by
 apply ZZ.ok;unfold ZZ;refine hs.nw fun b1 H hs=>?_
 refine hs.nw fun b2 H hs=>?_
 have hs:Sep [R0,pts b1 (jZf (st,s1,s2,s3,s4,s5) most ar sc sz ld .none 0 0),pts b2 (jZf (0,0,0,0,0,0) 0 0 0 0 0 .none 0 0)] H:=hs
 try simp only[HS]
 refine hs.ld 1 (v:=.int .i64 st) rfl rfl ?_;simp only[HV];refine aZg hst ?_;refine Za.use (oZx (n:Int) H) ?_;simp only[HV];have bad:∀(e:Int) (H:Hp),e≠0→(∀ k,¬okL l most k)→Sep [R0,pts b1 (jZf (st,s1,s2,s3,s4,s5) most ar sc sz ld .none 0 0),pts b2 (jZf (0,0,0,0,0,0) 0 0 0 0 0 .none 0 0)] H→
   LdA H (⟨b1,0,none⟩:Addr) 12 fun l2=>StA H (⟨b2,0,none⟩:Addr) l2.toArray 12 fun H5=>LdA H5 (⟨b2,0,none⟩:Addr) 12 fun l7=>∃ M,ldQ R0 l most ar sc sz ld (.tuple #[.agg l7.toArray,.int .i64 0,.int .i64 e]) M∧Sep M H5:=fun e H he hno hs=>by
  refine hs.ldw 1 rfl rfl ?_;refine hs.stw 2 (y:=mch (st,s1,s2,s3,s4,s5) most ar sc sz ld .none 0 0) rfl rfl rfl rfl fun H hs=>?_;refine hs.ldw 2 rfl rfl ?_;exact⟨_,.inl ⟨mch (st,s1,s2,s3,s4,s5) most ar sc sz ld .none 0 0,0,e,he,hno,rfl,rfl,rfl,rfl⟩,hs.re [0] rfl⟩
 cases hlg:lg (n:Int)with
 |none=>
  refine Zm (by unfold eZ7;rw[hlg];decide) ?_;exact bad 4 H (by decide) (fun k hk=>by have:=hk.1;rw[← hn,hlg]at this;cases this) hs
 |some k=>
  have hfit:eZ7 (n:Int)=(k:Int):=by unfold eZ7;rw[hlg]
  rw[hfit];refine Zh (by omega) ?_;refine hs.ld 1 (v:=.int .i64 (most:Int)) rfl rfl ?_;simp only[HV];by_cases hkm:k≤most
  ·refine Zh (by omega) ⟨n+1,?_⟩;exact lZD hn hl hR hlg hkm hld n 0 H (by omega) (fun j hj h=>by omega) hs
  ·refine Zm (by omega) ?_;exact bad 14 H (by decide) (fun k' hk'=>by have:=hk'.1;rw[← hn,hlg]at this;cases this;exact hkm hk'.2.1) hs
end
end Eng
namespace W
open Go Go.Hw
theorem bZo :prog.follows .mixedOrders=true:=by kernel_rfl
def Zc.j42.q1 (y66:Array Value)(l124:List Value)(x75:Int)(H96:Hp)(b16:Nat)(a25:Addr)(x76:Int)(b17:Nat)(K:VK):Prop:=
 EqV prog .eql 39 (.agg y66) (.agg l124.toArray) fun c27=>BIf c27 (BIf (x75==0) (LdA H96 ⟨b16,0,none⟩ 3 fun l125=>LdA H96 a25 3 fun l126=>EqV prog .eql 39 (.agg l125.toArray) (.agg l126.toArray) fun c28=>BIf c28 (BIf (x76==0) (LdA H96 ⟨b17,0,none⟩ 3 fun l127=>LdA H96 a25 3 fun l128=>EqV prog .eql 39 (.agg l127.toArray) (.agg l128.toArray) fun c29=>K (.bool c29) H96) (K (.bool false) H96)) (K (.bool false) H96)) (K (.bool false) H96)) (K (.bool false) H96)
def Zc.j42 (K:VK)(x72 x73:Int)(a23:Addr)(p13 p14:OA)(a24 a25:Addr)(H:Hp):=
 NN p13 fun a26=>HcA 15 #[.pointer (some (a26.add 3))] H fun y61 H84=>StA H84 a24 y61 3 fun H85=>LdA H85 a23 4 fun l111=>Hz 27 #[.agg l111.toArray] H85 fun v129 H86=>bZS v129 fun y62 x74=>(Nw H86 (.obj (.cells #[.int .i64 0,.int .i64 0,.int .i64 0] 39)) fun b15 H87=>StA H87 ⟨b15,0,none⟩ y62 3 fun H88=>LdA H88 a23 4 fun l115=>Hz 28 #[.agg l115.toArray,.int .i64 x73,.int .i64 x72] H88 fun v132 H89=>bZS v132 fun y63 x75=>(Nw H89 (.obj (.cells #[.int .i64 0,.int .i64 0,.int .i64 0] 39)) fun b16 H90=>StA H90 ⟨b16,0,none⟩ y63 3 fun H91=>LdA H91 a23 4 fun l119=>Hz 29 #[.agg l119.toArray,.int .i64 x73,.int .i64 x72,.int .i64 0] H91 fun v135 H92=>bZS v135 fun y64 x76=>(Nw H92 (.obj (.cells #[.int .i64 0,.int .i64 0,.int .i64 0] 39)) fun b17 H93=>StA H93 ⟨b17,0,none⟩ y64 3 fun H94=>BIf (x74==0) (HcI 30 #[.pointer p14] H94 fun x77 H95=>BIf (x77==0) (NN p13 fun a27=>(HcA 15 #[.pointer (some (a27.add 3))] H95 fun y65 H96=>LdA H96 a24 3 fun l123=>QcA 18 #[.agg y65,.agg l123.toArray] H96 fun y66=>LdA H96 ⟨b15,0,none⟩ 3 fun l124=>Zc.j42.q1 y66 l124 x75 H96 b16 a25 x76 b17 K)∧(LdA H95 a24 3 fun l129=>(HcA 15 #[.pointer (some (a27.add 3))] H95 fun y67 H97=>QcA 18 #[.agg y67,.agg l129.toArray] H97 fun y68=>LdA H97 ⟨b15,0,none⟩ 3 fun l130=>Zc.j42.q1 y68 l130 x75 H97 b16 a25 x76 b17 K)∧(LdA H95 ⟨b15,0,none⟩ 3 fun l135=>HcA 15 #[.pointer (some (a27.add 3))] H95 fun y69 H98=>QcA 18 #[.agg y69,.agg l129.toArray] H98 fun y70=>Zc.j42.q1 y70 l135 x75 H98 b16 a25 x76 b17 K))∧(LdA H95 ⟨b15,0,none⟩ 3 fun l140=>(HcA 15 #[.pointer (some (a27.add 3))] H95 fun y71 H99=>LdA H99 a24 3 fun l141=>QcA 18 #[.agg y71,.agg l141.toArray] H99 fun y72=>Zc.j42.q1 y72 l140 x75 H99 b16 a25 x76 b17 K)∧(LdA H95 a24 3 fun l146=>HcA 15 #[.pointer (some (a27.add 3))] H95 fun y73 H100=>QcA 18 #[.agg y73,.agg l146.toArray] H100 fun y74=>Zc.j42.q1 y74 l140 x75 H100 b16 a25 x76 b17 K))) ((K (.bool false) H95)∧((K (.bool false) H95)∧(K (.bool false) H95))∧((K (.bool false) H95)∧(K (.bool false) H95)))) ((K (.bool false) H94)∧((K (.bool false) H94)∧(K (.bool false) H94))∧((K (.bool false) H94)∧(K (.bool false) H94))))))
def Zc.j37.q1 (y52:Array Value)(l104:List Value)(K:VK)(H79:Hp)(x68 x69:Int)(a18:Addr)(p11 p12:OA)(a19 a20:Addr):=
 EqV prog .neq 39 (.agg y52) (.agg l104.toArray) fun c22=>BIf c22 (K (.bool false) H79) (Zc.j42 K x68 x69 a18 p11 p12 a19 a20 H79)
def Zc.j37 (K:VK)(x68 x69:Int)(a18:Addr)(p11 p12:OA)(a19 a20:Addr)(H:Hp):=
 NN p11 fun a21=>HcA 15 #[.pointer (some (a21.add 3))] H fun y49 H73=>StA H73 a19 y49 3 fun H74=>LdA H74 a18 4 fun l96=>Hz 25 #[.agg l96.toArray,.int .i64 x69] H74 fun v112 H75=>bZS v112 fun y50 x70=>(Nw H75 (.obj (.cells #[.int .i64 0,.int .i64 0,.int .i64 0] 39)) fun b14 H76=>StA H76 ⟨b14,0,none⟩ y50 3 fun H77=>Hz 26 #[.pointer p12] H77 fun v115 H78=>dZD v115 fun A4 n4 m4 x71=>(BIf (x70 !=0) ((K (.bool false) H78)∧((K (.bool false) H78)∧(K (.bool false) H78))∧((K (.bool false) H78)∧(K (.bool false) H78))) (BIf (x71 !=0) ((K (.bool false) H78)∧((K (.bool false) H78)∧(K (.bool false) H78))∧((K (.bool false) H78)∧(K (.bool false) H78))) (NN p11 fun a22=>(HcA 15 #[.pointer (some (a22.add 3))] H78 fun y51 H79=>LdA H79 a19 3 fun l103=>QcA 18 #[.agg y51,.agg l103.toArray] H79 fun y52=>LdA H79 ⟨b14,0,none⟩ 3 fun l104=>Zc.j37.q1 y52 l104 K H79 x68 x69 a18 p11 p12 a19 a20)∧(LdA H78 a19 3 fun l105=>(HcA 15 #[.pointer (some (a22.add 3))] H78 fun y53 H80=>QcA 18 #[.agg y53,.agg l105.toArray] H80 fun y54=>LdA H80 ⟨b14,0,none⟩ 3 fun l106=>Zc.j37.q1 y54 l106 K H80 x68 x69 a18 p11 p12 a19 a20)∧(LdA H78 ⟨b14,0,none⟩ 3 fun l107=>HcA 15 #[.pointer (some (a22.add 3))] H78 fun y55 H81=>QcA 18 #[.agg y55,.agg l105.toArray] H81 fun y56=>Zc.j37.q1 y56 l107 K H81 x68 x69 a18 p11 p12 a19 a20))∧(LdA H78 ⟨b14,0,none⟩ 3 fun l108=>(HcA 15 #[.pointer (some (a22.add 3))] H78 fun y57 H82=>LdA H82 a19 3 fun l109=>QcA 18 #[.agg y57,.agg l109.toArray] H82 fun y58=>Zc.j37.q1 y58 l108 K H82 x68 x69 a18 p11 p12 a19 a20)∧(LdA H78 a19 3 fun l110=>HcA 15 #[.pointer (some (a22.add 3))] H78 fun y59 H83=>QcA 18 #[.agg y59,.agg l110.toArray] H83 fun y60=>Zc.j37.q1 y60 l108 K H83 x68 x69 a18 p11 p12 a19 a20))))))
def Zc.l29.q1 (y35:Array Value)(l49:List Value)(K:VK)(H53:Hp)(a15:Addr)(b8:Nat)(R29:Int→Int→Addr→OA→OA→Addr→Addr→Int→Hp→Prop)(x32 x33:Int)(a13:Addr)(p9 p10:OA)(a14:Addr)(x34:Int):=
 EqV prog .neq 39 (.agg y35) (.agg l49.toArray) fun c17=>BIf c17 (K (.bool false) H53) (LdA H53 a15 3 fun l56=>LdA H53 ⟨b8,0,none⟩ 3 fun l61=>dZ1 l56.toArray.toList fun x38 x39 x40=>(dZ1 l61.toArray.toList fun x41 x42 x43=>(Nw H53 (.row [.int .i64 x38,.int .i64 x39,.int .i64 x40,.int .i64 x41,.int .i64 x42,.int .i64 x43] 39 6) fun b9 H58=>HcA 24 #[.slice (some ⟨b9,0,none⟩) 2 2] H58 fun y44 H63=>StA H63 a15 y44 3 fun H68=>R29 x32 x33 a13 p9 p10 a14 a15 (i64.wrap (x34+1)) H68)))
def Zc.l29 (K:VK):Nat→Int→Int→Addr→OA→OA→Addr→Addr→Int→Hp→Prop
 |0,_,_,_,_,_,_,_,_,_=>False
 |k+1,x32,x33,a13,p9,p10,a14,a15,x34,H=>
  let R29:=Zc.l29 K k
  BIf (decide (x34≤(5:Int))) (HcA 21 #[.pointer p10] H fun y31 H46=>ixV y31 0 fun v58=>DI .i64 v58 fun x35=>BIf (x35==3) (NN p9 fun a16=>HcA 15 #[.pointer (some (a16.add 3))] H46 fun y32 H47=>StA H47 a14 y32 3 fun H48=>LdA H48 a13 4 fun l41=>Hz 22 #[.agg l41.toArray,.int .i64 x33,.int .i64 x32,.int .i64 x34] H48 fun v60 H49=>bZS v60 fun y33 x36=>(Nw H49 (.obj (.cells #[.int .i64 0,.int .i64 0,.int .i64 0] 39)) fun b8 H50=>StA H50 ⟨b8,0,none⟩ y33 3 fun H51=>Hz 23 #[.pointer p10] H51 fun v63 H52=>vZY v63 fun c16 x37=>(BIf (x36 !=0) ((K (.bool false) H52)∧((K (.bool false) H52)∧(K (.bool false) H52))∧((K (.bool false) H52)∧(K (.bool false) H52))) (BIf (x37 !=0) ((K (.bool false) H52)∧((K (.bool false) H52)∧(K (.bool false) H52))∧((K (.bool false) H52)∧(K (.bool false) H52))) (NN p9 fun a17=>(HcA 15 #[.pointer (some (a17.add 3))] H52 fun y34 H53=>LdA H53 a14 3 fun l48=>QcA 18 #[.agg y34,.agg l48.toArray] H53 fun y35=>LdA H53 ⟨b8,0,none⟩ 3 fun l49=>Zc.l29.q1 y35 l49 K H53 a15 b8 R29 x32 x33 a13 p9 p10 a14 x34)∧(LdA H52 a14 3 fun l50=>(HcA 15 #[.pointer (some (a17.add 3))] H52 fun y36 H54=>QcA 18 #[.agg y36,.agg l50.toArray] H54 fun y37=>LdA H54 ⟨b8,0,none⟩ 3 fun l51=>Zc.l29.q1 y37 l51 K H54 a15 b8 R29 x32 x33 a13 p9 p10 a14 x34)∧(LdA H52 ⟨b8,0,none⟩ 3 fun l52=>HcA 15 #[.pointer (some (a17.add 3))] H52 fun y38 H55=>QcA 18 #[.agg y38,.agg l50.toArray] H55 fun y39=>Zc.l29.q1 y39 l52 K H55 a15 b8 R29 x32 x33 a13 p9 p10 a14 x34))∧(LdA H52 ⟨b8,0,none⟩ 3 fun l53=>(HcA 15 #[.pointer (some (a17.add 3))] H52 fun y40 H56=>LdA H56 a14 3 fun l54=>QcA 18 #[.agg y40,.agg l54.toArray] H56 fun y41=>Zc.l29.q1 y41 l53 K H56 a15 b8 R29 x32 x33 a13 p9 p10 a14 x34)∧(LdA H52 a14 3 fun l55=>HcA 15 #[.pointer (some (a17.add 3))] H52 fun y42 H57=>QcA 18 #[.agg y42,.agg l55.toArray] H57 fun y43=>Zc.l29.q1 y43 l53 K H57 a15 b8 R29 x32 x33 a13 p9 p10 a14 x34))))))) (Zc.j37 K x32 x33 a13 p9 p10 a14 a15 H46)) (Zc.j37 K x32 x33 a13 p9 p10 a14 a15 H)
def Zc.j27 (K:VK)(x30 x31:Int)(a10:Addr)(p7 p8:OA)(a11 a12:Addr)(H:Hp):=
 LdA H a12 3 fun l40=>Nw H (.obj (.cells #[.int .i64 0,.int .i64 0,.int .i64 0] 39)) fun b7 H44=>StA H44 ⟨b7,0,none⟩ l40.toArray 3 fun H45=>(∃ k,Zc.l29 K k x30 x31 a10 p7 p8 a11 ⟨b7,0,none⟩ 1 H45)
def Zc.j23.q1 (y22:Array Value)(l33:List Value)(K:VK)(H39:Hp)(x26 x27:Int)(a6:Addr)(p5 p6:OA)(a7:Addr)(b6:Nat):=
 EqV prog .neq 39 (.agg y22) (.agg l33.toArray) fun c11=>BIf c11 (K (.bool false) H39) (Zc.j27 K x26 x27 a6 p5 p6 a7 ⟨b6,0,none⟩ H39)
def Zc.j23 (K:VK)(x26 x27:Int)(a6:Addr)(p5 p6:OA)(a7:Addr)(H:Hp):=
 NN p5 fun a8=>HcA 15 #[.pointer (some (a8.add 3))] H fun y19 H33=>StA H33 a7 y19 3 fun H34=>LdA H34 a6 4 fun l28=>Hz 19 #[.agg l28.toArray,.int .i64 x27] H34 fun v43 H35=>bZS v43 fun y20 x28=>(Nw H35 (.obj (.cells #[.int .i64 0,.int .i64 0,.int .i64 0] 39)) fun b6 H36=>StA H36 ⟨b6,0,none⟩ y20 3 fun H37=>BIf (x28 !=0) ((K (.bool false) H37)∧((K (.bool false) H37)∧(K (.bool false) H37))∧((K (.bool false) H37)∧(K (.bool false) H37))) (HcI 20 #[.pointer p6,.int .i64 x26] H37 fun x29 H38=>BIf (x29 !=0) ((K (.bool false) H38)∧((K (.bool false) H38)∧(K (.bool false) H38))∧((K (.bool false) H38)∧(K (.bool false) H38))) (NN p5 fun a9=>(HcA 15 #[.pointer (some (a9.add 3))] H38 fun y21 H39=>LdA H39 a7 3 fun l32=>QcA 18 #[.agg y21,.agg l32.toArray] H39 fun y22=>LdA H39 ⟨b6,0,none⟩ 3 fun l33=>Zc.j23.q1 y22 l33 K H39 x26 x27 a6 p5 p6 a7 b6)∧(LdA H38 a7 3 fun l34=>(HcA 15 #[.pointer (some (a9.add 3))] H38 fun y23 H40=>QcA 18 #[.agg y23,.agg l34.toArray] H40 fun y24=>LdA H40 ⟨b6,0,none⟩ 3 fun l35=>Zc.j23.q1 y24 l35 K H40 x26 x27 a6 p5 p6 a7 b6)∧(LdA H38 ⟨b6,0,none⟩ 3 fun l36=>HcA 15 #[.pointer (some (a9.add 3))] H38 fun y25 H41=>QcA 18 #[.agg y25,.agg l34.toArray] H41 fun y26=>Zc.j23.q1 y26 l36 K H41 x26 x27 a6 p5 p6 a7 b6))∧(LdA H38 ⟨b6,0,none⟩ 3 fun l37=>(HcA 15 #[.pointer (some (a9.add 3))] H38 fun y27 H42=>LdA H42 a7 3 fun l38=>QcA 18 #[.agg y27,.agg l38.toArray] H42 fun y28=>Zc.j23.q1 y28 l37 K H42 x26 x27 a6 p5 p6 a7 b6)∧(LdA H38 a7 3 fun l39=>HcA 15 #[.pointer (some (a9.add 3))] H38 fun y29 H43=>QcA 18 #[.agg y29,.agg l39.toArray] H43 fun y30=>Zc.j23.q1 y30 l37 K H43 x26 x27 a6 p5 p6 a7 b6)))))
def Zc.j18.q1 (y10:Array Value)(l21:List Value)(K:VK)(H28:Hp)(x21 x22:Int)(a3:Addr)(p3 p4:OA)(b4:Nat):=
 EqV prog .neq 39 (.agg y10) (.agg l21.toArray) fun c6=>BIf c6 (K (.bool false) H28) (Zc.j23 K x21 x22 a3 p3 p4 ⟨b4,0,none⟩ H28)
def Zc.j18 (K:VK)(A3:OA)(n3 m3:Nat)(x21 x22:Int)(a3:Addr)(p3 p4:OA)(H:Hp):=
 NN p3 fun a4=>HcA 15 #[.pointer (some (a4.add 3))] H fun y7 H21=>Nw H21 (.obj (.cells #[.int .i64 0,.int .i64 0,.int .i64 0] 39)) fun b4 H22=>StA H22 ⟨b4,0,none⟩ y7 3 fun H23=>LdA H23 a3 4 fun l13=>Hz 16 #[.agg l13.toArray,.int .i64 x22] H23 fun v26 H24=>bZS v26 fun y8 x23=>(Nw H24 (.obj (.cells #[.int .i64 0,.int .i64 0,.int .i64 0] 39)) fun b5 H25=>StA H25 ⟨b5,0,none⟩ y8 3 fun H26=>Hz 17 #[.pointer p4,.slice A3 n3 m3] H26 fun v29 H27=>kZq v29 fun x24 x25=>(BIf (x23 !=0) ((K (.bool false) H27)∧((K (.bool false) H27)∧(K (.bool false) H27))∧((K (.bool false) H27)∧(K (.bool false) H27))) (BIf (x25 !=0) ((K (.bool false) H27)∧((K (.bool false) H27)∧(K (.bool false) H27))∧((K (.bool false) H27)∧(K (.bool false) H27))) (NN p3 fun a5=>(HcA 15 #[.pointer (some (a5.add 3))] H27 fun y9 H28=>LdA H28 ⟨b4,0,none⟩ 3 fun l20=>QcA 18 #[.agg y9,.agg l20.toArray] H28 fun y10=>LdA H28 ⟨b5,0,none⟩ 3 fun l21=>Zc.j18.q1 y10 l21 K H28 x21 x22 a3 p3 p4 b4)∧(LdA H27 ⟨b4,0,none⟩ 3 fun l22=>(HcA 15 #[.pointer (some (a5.add 3))] H27 fun y11 H29=>QcA 18 #[.agg y11,.agg l22.toArray] H29 fun y12=>LdA H29 ⟨b5,0,none⟩ 3 fun l23=>Zc.j18.q1 y12 l23 K H29 x21 x22 a3 p3 p4 b4)∧(LdA H27 ⟨b5,0,none⟩ 3 fun l24=>HcA 15 #[.pointer (some (a5.add 3))] H27 fun y13 H30=>QcA 18 #[.agg y13,.agg l22.toArray] H30 fun y14=>Zc.j18.q1 y14 l24 K H30 x21 x22 a3 p3 p4 b4))∧(LdA H27 ⟨b5,0,none⟩ 3 fun l25=>(HcA 15 #[.pointer (some (a5.add 3))] H27 fun y15 H31=>LdA H31 ⟨b4,0,none⟩ 3 fun l26=>QcA 18 #[.agg y15,.agg l26.toArray] H31 fun y16=>Zc.j18.q1 y16 l25 K H31 x21 x22 a3 p3 p4 b4)∧(LdA H27 ⟨b4,0,none⟩ 3 fun l27=>HcA 15 #[.pointer (some (a5.add 3))] H27 fun y17 H32=>QcA 18 #[.agg y17,.agg l27.toArray] H32 fun y18=>Zc.j18.q1 y18 l25 K H32 x21 x22 a3 p3 p4 b4))))))
def Zc.j6.q1 (p2:OA)(x15 x16:Int)(H14:Hp)(K:VK)(p1:OA)(b3:Nat)(A2:OA)(n2 m2:Nat)(x5 x8:Int)(b1:Nat):=
 HcI 14 #[.pointer p2,.int .i64 x15,.int .i64 x16] H14 fun x17 H15=>BIf (x17 !=0) ((K (.bool false) H15)∧(K (.bool false) H15)) (NN p1 fun a1=>(HcA 15 #[.pointer (some (a1.add 3))] H15 fun y3 H16=>LdA H16 ⟨b3,0,none⟩ 3 fun l9=>EqV prog .neq 39 (.agg y3) (.agg l9.toArray) fun c2=>BIf c2 (K (.bool false) H16) (Zc.j18 K A2 n2 m2 x5 x8 ⟨b1,0,none⟩ p1 p2 H16))∧(LdA H15 ⟨b3,0,none⟩ 3 fun l10=>HcA 15 #[.pointer (some (a1.add 3))] H15 fun y4 H17=>EqV prog .neq 39 (.agg y4) (.agg l10.toArray) fun c3=>BIf c3 (K (.bool false) H17) (Zc.j18 K A2 n2 m2 x5 x8 ⟨b1,0,none⟩ p1 p2 H17)))
def Zc.j6 (K:VK)(A2:OA)(n2 m2:Nat)(x5 x6 x7 x8:Int)(H:Hp):=
 ((3:Int)≠0∧i64=i64∧HcI 8 #[.int .i64 (if 6<(i64.wrap (x8+(Int.tmod (i64.wrap x6) 3)))then 6 else(i64.wrap (x8+(Int.tmod (i64.wrap x6) 3)))),.int .i64 32] H fun x9 H3=>((5:Int)≠0∧i64=i64∧HcI 9 #[.int .i64 (if 6<(i64.wrap (x8+(Int.tmod (i64.wrap x6) 3)))then 6 else(i64.wrap (x8+(Int.tmod (i64.wrap x6) 3)))),.int .i64 4] H3 fun x10 H4=>Nw H4 (.obj (.cells #[.int .i64 0,.int .i64 0,.int .i64 0,.int .i64 0] 27)) fun b1 H5=>StA H5 ⟨b1,0,none⟩ #[.int .i64 (if 6<(i64.wrap (x8+(Int.tmod (i64.wrap x6) 3)))then 6 else(i64.wrap (x8+(Int.tmod (i64.wrap x6) 3)))),.int .i64 (i64.wrap (x9+(Int.tmod (i64.wrap x6) 5))),.int .i64 32,.int .i64 (i64.wrap (x10+(i64.wrap x7)))] 4 fun H6=>Hz 10 #[.agg #[.int .i64 1,.int .i64 0,.int .i64 0,.int .i64 0,.int .i64 0,.int .i64 0,.int .i64 (if 6<(i64.wrap (x8+(Int.tmod (i64.wrap x6) 3)))then 6 else(i64.wrap (x8+(Int.tmod (i64.wrap x6) 3)))),.int .i64 0,.int .i64 0,.int .i64 0,.int .i64 0,.slice none 0 0],.slice A2 n2 m2] H6 fun v5 H7=>nZh v5 fun y1 x11 x12=>(Nw H7 (.obj (.cells #[.int .i64 0,.int .i64 0,.int .i64 0,.int .i64 0,.int .i64 0,.int .i64 0,.int .i64 0,.int .i64 0,.int .i64 0,.int .i64 0,.int .i64 0,.slice none 0 0] 31)) fun b2 H8=>StA H8 ⟨b2,0,none⟩ y1 12 fun H9=>BIf (x12 !=0) (K (.bool true) H9) (LeI H9 ((⟨b1,0,none⟩:Addr).add 1) fun x13=>HcP 11 #[.int .i64 x13,.int .i64 32] H9 fun p1 H10=>HcP 12 #[.pointer p1] H10 fun p2 H11=>BIf p1.isNone (K (.bool false) H11) (BIf p2.isNone (K (.bool false) H11) (LdA H11 ⟨b1,0,none⟩ 4 fun l5=>Hz 13 #[.agg l5.toArray] H11 fun v12 H12=>bZS v12 fun y2 x14=>(Nw H12 (.obj (.cells #[.int .i64 0,.int .i64 0,.int .i64 0] 39)) fun b3 H13=>StA H13 ⟨b3,0,none⟩ y2 3 fun H14=>BIf (x14 !=0) (((K (.bool false) H14)∧(K (.bool false) H14))∧((K (.bool false) H14)∧(K (.bool false) H14))) ((LeI H14 ((⟨b1,0,none⟩:Addr).add 0) fun x15=>LeI H14 ((⟨b1,0,none⟩:Addr).add 3) fun x16=>Zc.j6.q1 p2 x15 x16 H14 K p1 b3 A2 n2 m2 x5 x8 b1)∧(LeI H14 ((⟨b1,0,none⟩:Addr).add 3) fun x18=>LeI H14 ((⟨b1,0,none⟩:Addr).add 0) fun x19=>Zc.j6.q1 p2 x19 x18 H14 K p1 b3 A2 n2 m2 x5 x8 b1)))))))))
def Zc (A1:OA)(n1 m1:Nat)(x1 x2 x3:Int)(H:Hp)(K:VK):Prop:=
 HcB 6 #[] H fun c1 H1=>BIf (!c1) (K (.bool false) H1) (HcI 7 #[.int .i64 (n1:Int)] H1 fun x4 H2=>BIf (decide ((n1:Int)>32)) (K (.bool true) H2) (BIf (decide (x4<0)) (K (.bool true) H2) (BIf (x1 !=0) (BIf (x1 !=1) (K (.bool true) H2) (Zc.j6 K A1 n1 m1 x1 x2 x3 x4 H2)) (Zc.j6 K A1 n1 m1 x1 x2 x3 x4 H2))))
def Zc.l29.L (K:VK)(k:Nat):Mid:=fun E D H=>
 eI E 1 .i64 fun x32=>eI E 9 .i64 fun x33=>eN E 11 fun a13=>eP E 15 fun p9=>eP E 16 fun p10=>eN E 19 fun a14=>eN E 24 fun a15=>eI E 25 .i64 fun x34=>Zk D (Zc.l29 K k x32 x33 a13 p9 p10 a14 a15 x34 H)
def Zc.Λ29 (_:VK)(_R29:Int→Int→Addr→OA→OA→Addr→Addr→Int→Hp→Prop):Zu:=Zu.none (fun i=>match Nat.beq i 46 with|true=>some ([12,13,14,22,23,31,32],[0,1,3,7,15,31,63,127,255,511,1023,2047,255,8191,255,32767,65535,131071,262143,524287,1048575,2097151,4194303,4194303,16777215,33554431,67108863,134217727,268435455,536870911,1073741823,2147483647,2147483647,8589934591,17179869183,34359738367],0)|false=>match Nat.beq i 40 with|true=>some ([11,12,13],[0,1,3,7,15,31,63,127,255,511,1023,127,4095,127,16383,32767],0)|false=>match Nat.beq i 34 with|true=>some ([11,12,13],[0,1,3,7,15,31,63,127,255,511,1023,127,4095,127,16383,32767],0)|false=>match Nat.beq i 25 with|true=>some ([13,14,15],[0,1,3,7,7,31,63,127,255,511,1023,2047,4095,511,16383,511,65535,131071],0)|false=>match Nat.beq i 21 with|true=>some ([11,12,13],[0,1,3,7,15,31,63,127,255,511,1023,127,4095,127,16383,32767],0)|false=>match Nat.beq i 16 with|true=>some ([],[0,1,3,7,7,23,7,71,255,511,1023,2047,4095,8191,16383,32767,4095,131071,262143],0)|false=>none)
def Zc.Λ (K:VK):Zu:=⟨fun i=>match Nat.beq i 42 with|true=>some (fun E D H=>eI E 1 .i64 fun x72=>eI E 9 .i64 fun x73=>eN E 11 fun a23=>eP E 15 fun p13=>eP E 16 fun p14=>eN E 19 fun a24=>eN E 24 fun a25=>Zk D (Zc.j42 K x72 x73 a23 p13 p14 a24 a25 H))|false=>match Nat.beq i 37 with|true=>some (fun E D H=>eI E 1 .i64 fun x68=>eI E 9 .i64 fun x69=>eN E 11 fun a18=>eP E 15 fun p11=>eP E 16 fun p12=>eN E 19 fun a19=>eN E 24 fun a20=>Zk D (Zc.j37 K x68 x69 a18 p11 p12 a19 a20 H))|false=>match Nat.beq i 27 with|true=>some (fun E D H=>eI E 1 .i64 fun x30=>eI E 9 .i64 fun x31=>eN E 11 fun a10=>eP E 15 fun p7=>eP E 16 fun p8=>eN E 19 fun a11=>eN E 23 fun a12=>Zk D (Zc.j27 K x30 x31 a10 p7 p8 a11 a12 H))|false=>match Nat.beq i 23 with|true=>some (fun E D H=>eI E 1 .i64 fun x26=>eI E 9 .i64 fun x27=>eN E 11 fun a6=>eP E 15 fun p5=>eP E 16 fun p6=>eN E 19 fun a7=>Zk D (Zc.j23 K x26 x27 a6 p5 p6 a7 H))|false=>match Nat.beq i 18 with|true=>some (fun E D H=>DG (E.get? 0) fun w0=>DSl w0 fun A3 n3 m3=>eI E 1 .i64 fun x21=>eI E 9 .i64 fun x22=>eN E 11 fun a3=>eP E 15 fun p3=>eP E 16 fun p4=>Zk D (Zc.j18 K A3 n3 m3 x21 x22 a3 p3 p4 H))|false=>match Nat.beq i 6 with|true=>some (fun E D H=>DG (E.get? 0) fun w0=>DSl w0 fun A2 n2 m2=>eI E 1 .i64 fun x5=>eI E 2 .u8 fun x6=>eI E 3 .u8 fun x7=>eI E 9 .i64 fun x8=>Zk D (Zc.j6 K A2 n2 m2 x5 x6 x7 x8 H))|false=>none,fun i=>match Nat.beq i 29 with|true=>some (fun E D H=>∃ k,Zc.l29.L K k E D H)|false=>none,(fun i=>match Nat.beq i 46 with|true=>some ([12,13,14,22,23,31,32],[0,1,3,7,15,31,63,127,255,511,1023,2047,255,8191,255,32767,65535,131071,262143,524287,1048575,2097151,4194303,4194303,16777215,33554431,67108863,134217727,268435455,536870911,1073741823,2147483647,2147483647,8589934591,17179869183,34359738367],0)|false=>match Nat.beq i 40 with|true=>some ([11,12,13],[0,1,3,7,15,31,63,127,255,511,1023,127,4095,127,16383,32767],0)|false=>match Nat.beq i 34 with|true=>some ([11,12,13],[0,1,3,7,15,31,63,127,255,511,1023,127,4095,127,16383,32767],0)|false=>match Nat.beq i 25 with|true=>some ([13,14,15],[0,1,3,7,7,31,63,127,255,511,1023,2047,4095,511,16383,511,65535,131071],0)|false=>match Nat.beq i 21 with|true=>some ([11,12,13],[0,1,3,7,15,31,63,127,255,511,1023,127,4095,127,16383,32767],0)|false=>match Nat.beq i 16 with|true=>some ([],[0,1,3,7,7,23,7,71,255,511,1023,2047,4095,8191,16383,32767,4095,131071,262143],0)|false=>none)⟩
theorem Zc.ok A1 n1 m1 x1 x2 x3 H K (h:Zc A1 n1 m1 x1 x2 x3 H K):Za prog 3 #[.slice A1 n1 m1,.int .i64 x1,.int .u8 x2,.int .u8 x3] H K:=
 okL (Λ:=(Zc.Λ K)) bZo Tryz.func3 rfl rfl h (oC (fun E D H h=>by
   obtain⟨w0,e0,g1⟩:=DG.out h;obtain⟨A2,n2,m2,rfl,g2⟩:=DSl.out g1;obtain⟨x5,e1,g4⟩:=GI g2;obtain⟨x6,e2,g6⟩:=GI g4;obtain⟨x7,e3,g8⟩:=GI g6;obtain⟨x8,e9,g10⟩:=GI g8;obtain⟨rfl,h'⟩:=Zk.out g10;exact okJ (Λ:=(Zc.Λ K)) bZo [] (Zb.cons e0 (Zb.cons e1 (Zb.cons e2 (Zb.cons e3 (Zb.cons e9 (Zb.nil _)))))) h' (oC (fun E D H h=>by
     obtain⟨w0,e0,g1⟩:=DG.out h;obtain⟨A3,n3,m3,rfl,g2⟩:=DSl.out g1;obtain⟨x21,e1,g4⟩:=GI g2;obtain⟨x22,e9,g6⟩:=GI g4;obtain⟨a3,e11,g9⟩:=GN g6;obtain⟨p3,e15,g11⟩:=GP g9;obtain⟨p4,e16,g13⟩:=GP g11;obtain⟨rfl,h'⟩:=Zk.out g13;exact okJ (Λ:=(Zc.Λ K)) bZo [] (Zb.cons e0 (Zb.cons e1 (Zb.cons e9 (Zb.cons e11 (Zb.cons e15 (Zb.cons e16 (Zb.nil _))))))) h' (oC (fun E D H h=>by
       obtain⟨x26,e1,g2⟩:=GI h;obtain⟨x27,e9,g4⟩:=GI g2;obtain⟨a6,e11,g7⟩:=GN g4;obtain⟨p5,e15,g9⟩:=GP g7;obtain⟨p6,e16,g11⟩:=GP g9;obtain⟨a7,e19,g14⟩:=GN g11;obtain⟨rfl,h'⟩:=Zk.out g14;exact okJ (Λ:=(Zc.Λ K)) bZo [] (Zb.cons e1 (Zb.cons e9 (Zb.cons e11 (Zb.cons e15 (Zb.cons e16 (Zb.cons e19 (Zb.nil _))))))) h' (oC (fun E D H h=>by
         obtain⟨x30,e1,g2⟩:=GI h;obtain⟨x31,e9,g4⟩:=GI g2;obtain⟨a10,e11,g7⟩:=GN g4;obtain⟨p7,e15,g9⟩:=GP g7;obtain⟨p8,e16,g11⟩:=GP g9;obtain⟨a11,e19,g14⟩:=GN g11;obtain⟨a12,e23,g17⟩:=GN g14;obtain⟨rfl,h'⟩:=Zk.out g17;exact okJ (Λ:=(Zc.Λ K)) bZo [] (Zb.cons e1 (Zb.cons e9 (Zb.cons e11 (Zb.cons e15 (Zb.cons e16 (Zb.cons e19 (Zb.cons e23 (Zb.nil _)))))))) h' (oC (fun E D H h=>by
           refine Safe.loop' (Zc.l29.L K) (fun E D H h=>?_) (fun k E D H h=>?_) E D H h
           ·obtain⟨w1,e1,g1⟩:=DG.out h;obtain⟨x32,rfl,g2⟩:=DI.out g1;obtain⟨w9,e9,g3⟩:=DG.out g2;obtain⟨x33,rfl,g4⟩:=DI.out g3;obtain⟨w11,e11,g5⟩:=DG.out g4;obtain⟨pw11,rfl,g6⟩:=DP.out g5;obtain⟨a13,rfl,g7⟩:=NN.out g6;obtain⟨w15,e15,g8⟩:=DG.out g7;obtain⟨p9,rfl,g9⟩:=DP.out g8;obtain⟨w16,e16,g10⟩:=DG.out g9;obtain⟨p10,rfl,g11⟩:=DP.out g10;obtain⟨w19,e19,g12⟩:=DG.out g11;obtain⟨pw19,rfl,g13⟩:=DP.out g12;obtain⟨a14,rfl,g14⟩:=NN.out g13;obtain⟨w24,e24,g15⟩:=DG.out g14;obtain⟨pw24,rfl,g16⟩:=DP.out g15;obtain⟨a15,rfl,g17⟩:=NN.out g16;obtain⟨w25,e25,g18⟩:=DG.out g17;obtain⟨x34,rfl,g19⟩:=DI.out g18;obtain⟨rfl,h'⟩:=Zk.out g19;exact h'
           ·obtain⟨x32,e1,g2⟩:=GI h;obtain⟨x33,e9,g4⟩:=GI g2;obtain⟨a13,e11,g7⟩:=GN g4;obtain⟨p9,e15,g9⟩:=GP g7;obtain⟨p10,e16,g11⟩:=GP g9;obtain⟨a14,e19,g14⟩:=GN g11;obtain⟨a15,e24,g17⟩:=GN g14;obtain⟨x34,e25,g19⟩:=GI g17;obtain⟨rfl,h'⟩:=Zk.out g19;exact okJ (Λ:=(Zc.Λ29 K (Zc.l29 K k))) bZo [] (Zb.cons e1 (Zb.cons e9 (Zb.cons e11 (Zb.cons e15 (Zb.cons e16 (Zb.cons e19 (Zb.cons e24 (Zb.cons e25 (Zb.nil _))))))))) h' oN) (oC (fun E D H h=>by
           obtain⟨x68,e1,g2⟩:=GI h;obtain⟨x69,e9,g4⟩:=GI g2;obtain⟨a18,e11,g7⟩:=GN g4;obtain⟨p11,e15,g9⟩:=GP g7;obtain⟨p12,e16,g11⟩:=GP g9;obtain⟨a19,e19,g14⟩:=GN g11;obtain⟨a20,e24,g17⟩:=GN g14;obtain⟨rfl,h'⟩:=Zk.out g17;exact okJ (Λ:=(Zc.Λ K)) bZo [] (Zb.cons e1 (Zb.cons e9 (Zb.cons e11 (Zb.cons e15 (Zb.cons e16 (Zb.cons e19 (Zb.cons e24 (Zb.nil _)))))))) h' (oC (fun E D H h=>by
             obtain⟨x72,e1,g2⟩:=GI h;obtain⟨x73,e9,g4⟩:=GI g2;obtain⟨a23,e11,g7⟩:=GN g4;obtain⟨p13,e15,g9⟩:=GP g7;obtain⟨p14,e16,g11⟩:=GP g9;obtain⟨a24,e19,g14⟩:=GN g11;obtain⟨a25,e24,g17⟩:=GN g14;obtain⟨rfl,h'⟩:=Zk.out g17;exact okJ (Λ:=(Zc.Λ K)) bZo [] (Zb.cons e1 (Zb.cons e9 (Zb.cons e11 (Zb.cons e15 (Zb.cons e16 (Zb.cons e19 (Zb.cons e24 (Zb.nil _)))))))) h' oN) oN)) oN))) oN)) oN)) oN)) oN)
def cZW (H:Hp)(K:VK):Prop:=
 Hz 27 #[.agg #[.int .i64 2,.int .i64 30,.int .i64 32,.int .i64 12]] H fun v1 H1=>bZS v1 fun y1 x1=>(Nw H1 (.obj (.cells #[.int .i64 0,.int .i64 0,.int .i64 0] 39)) fun b1 H2=>StA H2 ⟨b1,0,none⟩ y1 3 fun H3=>BIf (x1==0) (LdA H3 ⟨b1,0,none⟩ 3 fun l4=>EqV prog .eql 39 (.agg l4.toArray) (.agg #[.int .i64 9,.int .i64 0,.int .i64 0]) fun c1=>BIf c1 (HcI 34 #[.agg #[.int .i64 1,.int .i64 2,.int .i64 3]] H3 fun x2 H4=>K (.bool (x2==6)) H4) (K (.bool false) H3)) (K (.bool false) H3))
theorem cZW.ok H K (h:cZW H K):Za prog 6 #[] H K:=
 okN bZo Tryz.func6 rfl rfl h
def dZd (x1 x2 x3 x4 x5 x6:Int)(H:Hp)(K:VK):Prop:=
 Nw H (.obj (.cells #[.int .i64 x1,.int .i64 x2,.int .i64 x3] 39)) fun b1 H1=>Nw H1 (.obj (.cells #[.int .i64 x4,.int .i64 x5,.int .i64 x6] 39)) fun b2 H2=>Nw H2 (.obj (.cells #[.int .i64 0,.int .i64 0,.int .i64 0] 39)) fun b3 H3=>LeI H3 ((⟨b1,0,none⟩:Addr).add 0) fun x7=>LeI H3 ((⟨b2,0,none⟩:Addr).add 0) fun x8=>LeI H3 ((⟨b1,0,none⟩:Addr).add 1) fun x9=>LeI H3 ((⟨b2,0,none⟩:Addr).add 1) fun x10=>LeI H3 ((⟨b1,0,none⟩:Addr).add 2) fun x11=>LeI H3 ((⟨b2,0,none⟩:Addr).add 2) fun x12=>StA H3 ⟨b3,0,none⟩ #[.int .i64 (i64.wrap (x7-x8)),.int .i64 (i64.wrap (x9-x10)),.int .i64 (i64.wrap (x11-x12))] 3 fun H4=>LdA H4 ⟨b3,0,none⟩ 3 fun l1=>K (.agg l1.toArray) H4
theorem dZd.ok x1 x2 x3 x4 x5 x6 H K (h:dZd x1 x2 x3 x4 x5 x6 H K):Za prog 18 #[.agg #[.int .i64 x1,.int .i64 x2,.int .i64 x3],.agg #[.int .i64 x4,.int .i64 x5,.int .i64 x6]] H K:=
 okN bZo Tryz.func18 rfl rfl h
end W
namespace Eng
open Go Go.Hw Go.Form W Shp Dsk Str Are Trn Pas Pln Rec Srt Rng
theorem pZw :jZS prog 39 3:=⟨by kernel_rfl,by kernel_rfl,by kernel_rfl,by kernel_rfl⟩
theorem smO.rng {B:Nat}{o:O3}(h:smO B o)(hB:B≤1000000000000):∀ x∈[(o.1:Int),(o.2.1:Int),(o.2.2:Int)],-9223372036854775808≤x∧x≤9223372036854775807:=by
 obtain⟨h1,h2,h3⟩:=h;intro x hx;simp only[List.mem_cons,List.not_mem_nil,or_false]at hx;omega
theorem tZt {B:Nat}{o:O3}(h:smO B o)(hB:B≤1000000000000){K:Bool→Prop}(k:K false):EqV prog .neq 39 (.agg (ZD o).toArray) (.agg (ZD o).toArray) K:=by
 refine uZx pZw (a:=[(o.1:Int),(o.2.1:Int),(o.2.2:Int)]) (b:=[(o.1:Int),(o.2.1:Int),(o.2.2:Int)]) rfl rfl (h.rng hB) (h.rng hB) rfl rfl ?_;rw[decide_eq_true rfl];exact k
theorem qZc {B:Nat}{o:O3}(h:smO B o)(hB:B≤1000000000000){K:Bool→Prop}(k:K true):EqV prog .eql 39 (.agg (ZD o).toArray) (.agg (ZD o).toArray) K:=by
 refine pZb pZw (a:=[(o.1:Int),(o.2.1:Int),(o.2.2:Int)]) (b:=[(o.1:Int),(o.2.1:Int),(o.2.2:Int)]) rfl rfl (h.rng hB) (h.rng hB) rfl rfl ?_;rw[decide_eq_true rfl];exact k
theorem lZ3 (b o:O3)(hb:smO 1000000000 b)(ho:smO 1000000000 o)(H:Hp):Za prog 18 #[.agg (ZD (bZF b o)).toArray,.agg (ZD b).toArray] H (RetE (.agg (ZD o).toArray) H):=by
 obtain⟨o1,o2,o3⟩:=o;obtain⟨b1,b2,b3⟩:=b;obtain⟨q1,q2,q3⟩:=ho;obtain⟨p1,p2,p3⟩:=hb;simp only at q1 q2 q3 p1 p2 p3;apply Za.ret;apply dZd.ok;unfold dZd;refine(Sep.start H).nw fun c1 H1 hs=>?_
 refine hs.nw fun c2 H1 hs=>?_
 refine hs.nw fun c3 H1 hs=>?_
 have hs:Sep [own H,pts c1 (aZI (b1+o1,b2+o2,b3+o3)),pts c2 (aZI (b1,b2,b3)),pts c3 (aZI (0,0,0))] H1:=hs
 try simp only[HS]
 refine hs.ld 1 (v:=.int .i64 ((b1+o1:Nat):Int)) rfl rfl ?_;simp only[HV];refine hs.ld 2 (v:=.int .i64 (b1:Int)) rfl rfl ?_;simp only[HV];refine hs.ld 1 (v:=.int .i64 ((b2+o2:Nat):Int)) rfl rfl ?_;simp only[HV];refine hs.ld 2 (v:=.int .i64 (b2:Int)) rfl rfl ?_;simp only[HV];refine hs.ld 1 (v:=.int .i64 ((b3+o3:Nat):Int)) rfl rfl ?_;simp only[HV];refine hs.ld 2 (v:=.int .i64 (b3:Int)) rfl rfl ?_;simp only[HV];rw[show((b1+o1:Nat):Int)-b1=o1 by omega,show((b2+o2:Nat):Int)-b2=o2 by omega,show((b3+o3:Nat):Int)-b3=o3 by omega,aZu (by omega),aZu (by omega),aZu (by omega)];refine hs.stw 3 (y:=(ZD (o1,o2,o3)).toArray) rfl rfl rfl rfl fun H1 hs=>?_
 refine hs.ldw 3 rfl rfl ?_;exact hs.fin 0 rfl _
theorem pZ1 (H:Hp):Za prog 6 #[] H (RetE (.bool true) H):=by
 apply Za.ret;apply cZW.ok;unfold cZW;refine Za.use (hZ4 (most:=2) (sec:=30) (s:=32) (ar:=12) (by decide +kernel) H) ?_;simp only[HV];refine(Sep.start H).nw fun b1 H1 hs=>?_
 refine hs.stw 1 (y:=(ZD (9,0,0)).toArray) rfl rfl rfl rfl fun H1 hs=>?_
 refine ZT rfl ?_;refine hs.ldw 1 rfl rfl ?_;refine qZc (B:=1000) (o:=(9,0,0)) ⟨by decide,by decide,by decide⟩ (by omega) ?_;simp only[HV];refine Za.use (lZY (1,2,3) ⟨by decide,by decide,by decide⟩ H1) ?_;simp only[HV];exact hs.fin 0 rfl _
def dZj (d:D):O3:=(d.rd,d.wr,d.sy)
theorem fZC {d d':D}{r w s:Nat}(h:bZB d d' r w s):dZj d'=bZF (dZj d) (r,w,s):=by
 unfold dZj bZF;rw[h.rd,h.wr,h.sy]
theorem Liv.cnt {N:Nat}{d:D}{c:Cn}{m:Mn}(h:Liv N d c m)(hN:N≤400):smO 1000000 (dZj d):=by
 have h1:=h.rd;have h2:=h.wr;have h3:=h.sy;exact⟨by show d.rd≤_;omega,by show d.wr≤_;omega,by show d.sy≤_;omega⟩
theorem wZa {L:List As}{H:Hp}{dp bw b:Nat}{d:D}{was o:O3}(hs:Sep L H)(i j q:Nat)(hi:L[i]? =some (Dk dp d))(hj:L[j]? =some (pts bw (aZI was)))(hq:L[q]? =some (pts b (aZI o)))(hc:dZj d=bZF was o)(hw:smO 1000000 was)(ho:smO 1000000 o)
  (F:Value→VK) (hF:F (.agg (ZD o).toArray) (.agg (ZD o).toArray) H):
  (Za prog 15 #[.pointer (some ⟨dp,3,none⟩)] H fun v H1=>DA v fun y=>LdA H1 ⟨bw,0,none⟩ 3 fun l=>ZM prog 18 #[.agg y,.agg l.toArray] H1 fun v=>DA v fun z=>LdA H1 ⟨b,0,none⟩ 3 fun l'=>F (.agg z) (.agg l'.toArray) H1)∧
  (LdA H ⟨bw,0,none⟩ 3 fun l=>(Za prog 15 #[.pointer (some ⟨dp,3,none⟩)] H fun v H1=>DA v fun y=>ZM prog 18 #[.agg y,.agg l.toArray] H1 fun v=>DA v fun z=>LdA H1 ⟨b,0,none⟩ 3 fun l'=>F (.agg z) (.agg l'.toArray) H1)∧
   (LdA H ⟨b,0,none⟩ 3 fun l'=>Za prog 15 #[.pointer (some ⟨dp,3,none⟩)] H fun v H1=>DA v fun y=>ZM prog 18 #[.agg y,.agg l.toArray] H1 fun v=>DA v fun z=>F (.agg z) (.agg l'.toArray) H1))∧
  (LdA H ⟨b,0,none⟩ 3 fun l'=>(Za prog 15 #[.pointer (some ⟨dp,3,none⟩)] H fun v H1=>DA v fun y=>LdA H1 ⟨bw,0,none⟩ 3 fun l=>ZM prog 18 #[.agg y,.agg l.toArray] H1 fun v=>DA v fun z=>F (.agg z) (.agg l'.toArray) H1)∧
   (LdA H ⟨bw,0,none⟩ 3 fun l=>Za prog 15 #[.pointer (some ⟨dp,3,none⟩)] H fun v H1=>DA v fun y=>ZM prog 18 #[.agg y,.agg l.toArray] H1 fun v=>DA v fun z=>F (.agg z) (.agg l'.toArray) H1)):=by
 have hC:Za prog 15 #[.pointer (some ⟨dp,3,none⟩)] H (RetE (.agg (ZD (bZF was o)).toArray) H):=by rw[← hc];exact gZi hs i hi
 have hL:=lZ3 was o (hw.mono (by omega)) (ho.mono (by omega)) H;have w1:∀{K:List Value→Prop},K (ZD was)→LdA H ⟨bw,0,none⟩ 3 K:=fun k=>hs.ldw j hj rfl k
 have w2:∀{K:List Value→Prop},K (ZD o)→LdA H ⟨b,0,none⟩ 3 K:=fun k=>hs.ldw q hq rfl k
 refine⟨?_,w1 ⟨?_,w2 ?_⟩,w2 ⟨?_,w1 ?_⟩⟩
 ·refine Za.use hC ?_;simp only[HV];exact w1 (ZM.use hL (by
   simp only[HV];exact w2 hF))
 ·refine Za.use hC ?_;simp only[HV];exact ZM.use hL (by
   simp only[HV];exact w2 hF)
 ·refine Za.use hC ?_;simp only[HV];exact ZM.use hL (by
   simp only[HV];exact hF)
 ·refine Za.use hC ?_;simp only[HV];exact w1 (ZM.use hL (by
   simp only[HV];exact hF))
 ·refine Za.use hC ?_;simp only[HV];exact ZM.use hL (by
   simp only[HV];exact hF)
theorem nZl {L:List As}{H:Hp}{dp bw b:Nat}{d:D}{was o:O3}(hs:Sep L H)(i j q:Nat)(hi:L[i]? =some (Dk dp d))(hj:L[j]? =some (pts bw (aZI was)))(hq:L[q]? =some (pts b (aZI o)))(hc:dZj d=bZF was o)(hw:smO 1000000 was)(ho:smO 1000000 o){X Y:Hp→Prop}(hY:Y H):
  (Za prog 15 #[.pointer (some ⟨dp,3,none⟩)] H fun v H1=>DA v fun y=>LdA H1 ⟨bw,0,none⟩ 3 fun l=>ZM prog 18 #[.agg y,.agg l.toArray] H1 fun v=>DA v fun z=>LdA H1 ⟨b,0,none⟩ 3 fun l'=>EqV prog .neq 39 (.agg z) (.agg l'.toArray) fun c=>BIf c (X H1) (Y H1))∧
  (LdA H ⟨bw,0,none⟩ 3 fun l=>(Za prog 15 #[.pointer (some ⟨dp,3,none⟩)] H fun v H1=>DA v fun y=>ZM prog 18 #[.agg y,.agg l.toArray] H1 fun v=>DA v fun z=>LdA H1 ⟨b,0,none⟩ 3 fun l'=>EqV prog .neq 39 (.agg z) (.agg l'.toArray) fun c=>BIf c (X H1) (Y H1))∧
   (LdA H ⟨b,0,none⟩ 3 fun l'=>Za prog 15 #[.pointer (some ⟨dp,3,none⟩)] H fun v H1=>DA v fun y=>ZM prog 18 #[.agg y,.agg l.toArray] H1 fun v=>DA v fun z=>EqV prog .neq 39 (.agg z) (.agg l'.toArray) fun c=>BIf c (X H1) (Y H1)))∧
  (LdA H ⟨b,0,none⟩ 3 fun l'=>(Za prog 15 #[.pointer (some ⟨dp,3,none⟩)] H fun v H1=>DA v fun y=>LdA H1 ⟨bw,0,none⟩ 3 fun l=>ZM prog 18 #[.agg y,.agg l.toArray] H1 fun v=>DA v fun z=>EqV prog .neq 39 (.agg z) (.agg l'.toArray) fun c=>BIf c (X H1) (Y H1))∧
   (LdA H ⟨bw,0,none⟩ 3 fun l=>Za prog 15 #[.pointer (some ⟨dp,3,none⟩)] H fun v H1=>DA v fun y=>ZM prog 18 #[.agg y,.agg l.toArray] H1 fun v=>DA v fun z=>EqV prog .neq 39 (.agg z) (.agg l'.toArray) fun c=>BIf c (X H1) (Y H1))):=
 wZa hs i j q hi hj hq hc hw ho (fun a b H=>EqV prog .neq 39 a b fun c=>BIf c (X H) (Y H)) (tZt ho (by omega) (aZb rfl hY))
theorem pZs {per q:Nat}(hp:per=2^q)(k:Nat):m1 (2^k/per)=Lay.Zx k per:=by
 rw[oZC hp];rfl
theorem rZQ {per q:Nat}(hp:per=2^q)(k:Nat):(ldR per k,ldW per k,3)=hZh k per:=by
 have h:=eZF q k 9 0 (Nat.dvd_zero _);rw[← hp]at h;have hp1:=Nat.two_pow_pos q;unfold ldR ldW hZh wiR wiW;rw[h.1,h.2,pZs hp,kZF (by omega)];refine Prod.ext ?_ rfl;show 16+(if 2^k<per then 1 else 0)+Lay.Zx k per=16+Lay.Zx k per+(if 2^k<per then 1 else 0)
 omega
theorem rZ9 {m:Mn}{per q i:Nat}(hp:per=2^q):rdC m per i=2*Lay.Zx m.r.kk.toNat per:=by
 have h:=eZF q m.r.kk.toNat (exX m.most per i m.r.kk.toNat).f 0 (Nat.dvd_zero _);rw[← hp]at h;have hp1:=Nat.two_pow_pos q;unfold rdC;rw[h.1,pZs hp,kZF (by omega)];omega
theorem sZo {m:Mn}{per k i:Nat}{b:Bool}{l:List UInt64}{cs:List O3}{r w:Nat}(hp:1≤per)(hj:Job m k b l i)(hC:fZa m.most k per m.arena (aZA b k per m.arena) cs)(hs:iZz m per r w):cs[i]? =some (r,w,2):=by
 obtain⟨pz,r0,w0,hpz,hc,rfl,rfl⟩:=hs;rw[hj.plan per,hj.ps,Int.toNat_natCast]at hpz;have hlt:=(List.getElem?_eq_some_iff.1 hpz).1;have hl':i<cs.length:=by rw[hC.1];exact hlt
 obtain⟨r',w',hc',ho,_⟩:=hC.2 i pz _ hpz (List.getElem?_eq_getElem hl');rw[hj.kk,Int.toNat_natCast]at hc⊢;obtain⟨rfl,rfl⟩:=hc.unique hc';rw[List.getElem?_eq_getElem hl',ho,kZF hp];congr 1;refine Prod.ext ?_ rfl;show r0+Lay.Zx k per+8=Lay.Zx k per+r0+8
 omega
theorem uZd (a b:O3):∀ l:List O3,l.foldl bZF (bZF a b)=bZF a (l.foldl bZF b)
 | []=>rfl
 |c::l=>by
  rw[List.foldl_cons,List.foldl_cons,←uZd a (bZF b c) l];congr 1;unfold bZF;simp only[Nat.add_assoc]
theorem iZ5 (a:O3):bZF a (0,0,0)=a:=rfl
theorem rZb (a b:O3):bZF a b=bZF b a:=by unfold bZF;simp only[Nat.add_comm]
theorem jZy (l:List O3)(a:O3):bZP (l++[a])=bZF (bZP l) a:=by unfold bZP;rw[List.foldl_append];rfl
theorem tZh (a:O3)(l:List O3):l.foldl bZF a=bZF a (bZP l):=by
 have:=uZd a (0,0,0) l
 rwa [iZ5]at this
theorem uZ2 (cs:List O3):cs.foldl bZF aZT=bZP (cs++[aZT]):=by rw[tZh,jZy,rZb]
theorem qZO (cs:List O3):iZu cs 0=bZP (cs++[aZT]):=by
 unfold iZu;have e:∀ o,hZ8 0 o=(0,0,0):=fun o=>by unfold hZ8;simp
 rw[e,e,show cs++[aZT,(0,0,0),(0,0,0)]=((cs++[aZT])++[(0,0,0)])++[(0,0,0)] by simp,jZy,jZy,iZ5,iZ5]
section
variable {most k : Nat} {sec : Int} {s words : Nat} (hpe : Lay.Zs (s : Int) = s / 8) (hg : Sup.aZX most sec s words = true) (hk : k ≤ most) (hk6 : k ≤ 6) (hw : aZC k (s / 8) ≤ words ∧ words ≤ 1000) (d : Bool) {cs : List O3} (hC : fZa most k (s / 8) words (aZA d k (s / 8) words) cs) (H : Hp) (hT : T64 H) (hr : Rcd H)
include hpe hg hk hk6 hw hC hT hr
theorem vZ2 {p:Nat}{o:O3}(hp:1≤p)(ho:cs[p-1]? =some o):Za prog 22 #[.agg (Sup.aZR most sec s words),.int .i64 (k:Int),.int .i64 (if d=true then 1 else 0),.int .i64 (p:Int)] H (RetE (.tuple #[.agg (ZD o).toArray,.int .i64 0]) H):=by
 rw[← hpe]at hw hC;exact sZ6 hg hk hk6 hw d hC H hT hr hp ho
theorem wZM :Za prog 28 #[.agg (Sup.aZR most sec s words),.int .i64 (k:Int),.int .i64 (if d=true then 1 else 0)] H (RetE (.tuple #[.agg (ZD (bZP (cs++[aZT]))).toArray,.int .i64 0]) H):=by
 rw[← hpe]at hw hC;exact uZJ hg hk hk6 hw d hC H hT hr
theorem uZK {n:Nat}(hn:n≤1000):Za prog 29 #[.agg (Sup.aZR most sec s words),.int .i64 (k:Int),.int .i64 (if d=true then 1 else 0),.int .i64 (n:Int)] H (RetE (.tuple #[.agg (ZD (iZu cs n)).toArray,.int .i64 0]) H):=by
 rw[← hpe]at hw hC;exact rZe hg hk hk6 hw d hC H hT hr hn
end
theorem uZM {mo e w:Nat}(hmo:mo≤6)(he:e≤4)(hw:w<256):Sup.aZX mo (Lay.bZj mo 4+e:Nat) (32:Nat) (aZC mo 4+w:Nat)=true:=by
 have h7:=hZ7 (k:=mo) (per:=4) hmo;refine decide_eq_true ⟨by omega,by omega,by decide,?_,by unfold aZC;omega,by omega⟩;show(Lay.bZj (mo:Int).toNat 4:Int)≤_
 rw[Int.toNat_natCast];omega
theorem uZL {mo e w:Nat}(hmo:mo≤6)(hw:w<256):bZC (Lay.bZj mo 4+e:Nat) (32/8) mo (aZC mo 4+w:Nat)=0:=by
 have h7:=hZ7 (k:=mo) (per:=4) hmo;have h8:1≤aZC mo 4:=by unfold aZC;omega
 unfold bZC;rw[if_neg (by omega),if_neg,if_neg]
 ·rw[Int.toNat_natCast];show ¬((aZC mo 4+w:Nat):Int)<((aZC mo 4:Nat):Int);omega
 ·rw[Int.toNat_natCast];show ¬((Lay.bZj mo 4+e:Nat):Int)<((Lay.bZj mo 4:Nat):Int);omega
section
variable {H0 : Hp} {p dp b1 bw ba mo k sc ar : Nat} {b : Bool} {l : List UInt64} {cs : List O3} (hT : T64 H0) (hr : Rcd H0) (hg : Sup.aZX mo (sc : Int) (32 : Nat) ar = true) (hk : k ≤ mo) (hk6 : k ≤ 6) (hw : aZC k (32 / 8) ≤ ar ∧ ar ≤ 1000) (hC : fZa mo k (32 / 8) ar (aZA b k (32 / 8) ar) cs)
include hT hr hg hk hk6 hw hC
theorem vZ8 {N:Nat}{d:D}{c:Cn}{m:Mn}{pk:Int}{was:O3}{H:Hp}(hJ:Jb N sc 32 ar k b l d c m (aZA b k (32/8) ar).length)(hN:N≤300)(hf:d.fuse=0)
  (hs:Sep [En p dp (some (egM d m pk)),Dk dp d,own H0,pts b1 (bZI mo sc 32 ar),pts bw (aZI was),pts ba (aZI (bZP (cs++[aZT])))] H):
  Zc.j42 (Ret (.bool true) H0) (if b=true then 1 else 0) (k:Int) ⟨b1,0,none⟩ (some ⟨dp,0,none⟩) (some ⟨p,0,none⟩) ⟨bw,0,none⟩ ⟨ba,0,none⟩ H:=by
 have hpe:Lay.Zs ((32:Nat):Int)=32/8:=by decide
 have hsm:=hJ.lv.small (by omega);have hcn:=hJ.lv.cnt (by omega);unfold Zc.j42 Zc.j42.q1
 try simp only[HS]
 refine Za.use (gZi hs 1 rfl) ?_;simp only[HV];refine hs.stw 4 (y:=(ZD (dZj d)).toArray) rfl rfl rfl rfl fun H hs=>?_;refine hs.ldw 3 rfl rfl ?_
 try simp only[Array.toArray_toList]
 refine Za.use (hZ4 hg H) ?_;simp only[HV];refine hs.nw fun b2 H hs=>?_
 refine hs.stw 6 (y:=(ZD (9,0,0)).toArray) rfl rfl rfl rfl fun H hs=>?_;refine hs.ldw 3 rfl rfl ?_
 try simp only[Array.toArray_toList]
 refine Za.use (wZM hpe hg hk hk6 hw b hC H (hT.le (hs.ow 2 rfl)) (hr.le (hs.ow 2 rfl))) ?_;simp only[HV];refine hs.nw fun b3 H hs=>?_
 refine hs.stw 7 (y:=(ZD (bZP (cs++[aZT]))).toArray) rfl rfl rfl rfl fun H hs=>?_;refine hs.ldw 3 rfl rfl ?_
 try simp only[Array.toArray_toList]
 refine Za.use (uZK hpe hg hk hk6 hw b hC H (hT.le (hs.ow 2 rfl)) (hr.le (hs.ow 2 rfl)) (n:=0) (by omega)) ?_;rw[qZO];simp only[HV];refine hs.nw fun b4 H hs=>?_
 refine hs.stw 8 (y:=(ZD (bZP (cs++[aZT]))).toArray) rfl rfl rfl rfl fun H hs=>?_;refine ZT rfl ?_;have hs:Sep [En p dp (some (egM d m pk)),Dk dp d,own H0,pts b1 (bZI mo sc 32 ar),pts bw (aZI (dZj d)),pts ba (aZI (bZP (cs++[aZT]))),pts b2 (aZI (9,0,0)),pts b3 (aZI (bZP (cs++[aZT]))),pts b4 (aZI (bZP (cs++[aZT])))] H:=hs;refine(pZY (p:=p) (dp:=dp) hJ.lv.cl hJ.lv.per hsm.2 (o:=some m) hJ.lv.hh).use hs [0,1] rfl rfl ?_;rintro _ _ H (⟨d1,h,_⟩|⟨d1,m1,e,hw1,hc1,rfl,rfl⟩|⟨d1,hcut,_⟩) hs
 ·cases h
 rotate_left
 ·exact(hcut.calm hf).elim
 cases e;simp only[HV];refine ZT rfl ?_
 try simp only[HS]
 have hs:Sep [En p dp (some (egM d m 0)),Dk dp d1,own H0,pts b1 (bZI mo sc 32 ar),pts bw (aZI (dZj d)),pts ba (aZI (bZP (cs++[aZT]))),pts b2 (aZI (9,0,0)),pts b3 (aZI (bZP (cs++[aZT]))),pts b4 (aZI (bZP (cs++[aZT])))] H:=hs;have hsum:smO 1000000 (bZP (cs++[aZT])):=by
  have h5:=(cZG b k (32/8) ar).2;have h5':=hC.1;have go:∀(l:List O3) (a:O3) (n:Nat),smO (10000*n) a→(∀ o∈l,smO 10000 o)→smO (10000*(n+l.length)) (l.foldl bZF a):=fun l=>by
   induction l with
   |nil=>intro a n h _;exact h
   |cons c l ih=>
    intro a n h hl;have h1:=hl c List.mem_cons_self;have:=ih (bZF a c) (n+1) ⟨by have:=h.1;have:=h1.1;show a.1+c.1≤_;omega,by have:=h.2.1;have:=h1.2.1;show a.2.1+c.2.1≤_;omega,by have:=h.2.2;have:=h1.2.2;show a.2.2+c.2.2≤_;omega⟩ (fun o ho=>hl o (List.mem_cons_of_mem _ ho));rw[List.length_cons,show n+(l.length+1)=n+1+l.length by omega];exact this
  have:=go (cs++[aZT]) (0,0,0) 0 ⟨by decide,by decide,by decide⟩ (fun o ho=>by
   rcases List.mem_append.1 ho with h|h
   ·exact hC.small o h
   ·rw[List.mem_singleton.1 h];exact⟨by decide,by decide,by decide⟩)
  refine this.mono ?_;rw[List.length_append,List.length_singleton];omega
 refine wZa hs 1 4 6 rfl rfl rfl (fZC hw1) hcn ⟨by decide,by decide,by decide⟩ (fun u v H=>EqV prog .eql 39 u v fun c=>BIf c (BIf ((0:Int)==(0:Int)) (LdA H (⟨b3,0,none⟩:Addr) 3 fun l=>LdA H (⟨ba,0,none⟩:Addr) 3 fun l'=>EqV prog .eql 39 (.agg l.toArray) (.agg l'.toArray) fun c=>BIf c (BIf ((0:Int)==(0:Int)) (LdA H (⟨b4,0,none⟩:Addr) 3 fun l=>LdA H (⟨ba,0,none⟩:Addr) 3 fun l'=>EqV prog .eql 39 (.agg l.toArray) (.agg l'.toArray) fun c=>Ret (.bool true) H0 (.bool c) H) (Ret (.bool true) H0 (.bool false) H)) (Ret (.bool true) H0 (.bool false) H)) (Ret (.bool true) H0 (.bool false) H)) (Ret (.bool true) H0 (.bool false) H)) ?_;refine qZc (B:=1000) ⟨by decide,by decide,by decide⟩ (by omega) (aZt rfl (ZT rfl ?_));refine hs.ldw 7 rfl rfl (hs.ldw 5 rfl rfl (qZc hsum (by omega) (aZt rfl (ZT rfl ?_))));refine hs.ldw 8 rfl rfl (hs.ldw 5 rfl rfl (qZc hsum (by omega) ?_));exact hs.fin 2 rfl _
theorem vZ7 {N:Nat}{d:D}{c:Cn}{m:Mn}{pk:Int}{was:O3}{H:Hp}(hJ:Jb N sc 32 ar k b l d c m (aZA b k (32/8) ar).length)(hN:N≤290)(hf:d.fuse=0)(hpk:pk≤m.arena)
  (hs:Sep [En p dp (some (egM d m pk)),Dk dp d,own H0,pts b1 (bZI mo sc 32 ar),pts bw (aZI was),pts ba (aZI (cs.foldl bZF aZT))] H):
  Zc.j37 (Ret (.bool true) H0) (if b=true then 1 else 0) (k:Int) ⟨b1,0,none⟩ (some ⟨dp,0,none⟩) (some ⟨p,0,none⟩) ⟨bw,0,none⟩ ⟨ba,0,none⟩ H:=by
 have hsm:=hJ.lv.small (by omega);have hcn:=hJ.lv.cnt (by omega);have h64:=gZ1 hk6;have hpe:Lay.Zs ((32:Nat):Int)=32/8:=by decide
 unfold Zc.j37 Zc.j37.q1
 try simp only[HS]
 refine Za.use (gZi hs 1 rfl) ?_;simp only[HV];refine hs.stw 4 (y:=(ZD (dZj d)).toArray) rfl rfl rfl rfl fun H hs=>?_;refine hs.ldw 3 rfl rfl ?_
 try simp only[Array.toArray_toList]
 refine Za.use (sZ5 hg hk H) ?_;simp only[HV];refine hs.nw fun b2 H hs=>?_
 refine hs.stw 6 (y:=(ZD (2*Lay.Zx k (Lay.Zs ((32:Nat):Int)),0,0)).toArray) rfl rfl rfl rfl fun H hs=>?_;refine(mZ8 (p:=p) (dp:=dp) hJ.lv.cl hJ.lv.hh hsm.2 hpk).use hs [0,1] rfl rfl ?_;have hsz:=hJ.size;have hst:stM m (d.size/8)=4:=by rw[hJ.jb.st,hsz,hJ.har,if_neg (by omega)]
 rintro _ _ H (⟨h,_⟩|⟨_,⟨d1,b3,mm,pk1,hpk1,hw1,hc1,rfl,rfl⟩|⟨d1,hcut,_⟩⟩) hs
 ·exact absurd hst h
 rotate_left
 ·exact(hcut.calm hf).elim
 simp only[HV];refine Zq rfl (Zq rfl ?_)
 try simp only[HS]
 have hrd:rdC m (d.size/8) 3=2*Lay.Zx k (Lay.Zs ((32:Nat):Int)):=by
  rw[rZ9 (q:=2) (by rw[hsz]),hJ.jb.kk,Int.toNat_natCast,hsz,hpe]
 rw[hrd]at hw1;have hro:=nZB (k:=k) (per:=Lay.Zs ((32:Nat):Int)) hk6;have hs:=hs.re [0,1,3,4,5,6,7] rfl;have hs:Sep [En p dp (some (egM d m pk1)),Dk dp d1,own H0,pts b1 (bZI mo sc 32 ar),pts bw (aZI (dZj d)),pts ba (aZI (cs.foldl bZF aZT)),pts b2 (aZI (2*Lay.Zx k (Lay.Zs ((32:Nat):Int)),0,0))] H:=hs;refine nZl hs 1 4 6 rfl rfl rfl (fZC hw1) hcn ⟨by show 2*_≤_;omega,by show 0≤_;omega,by show 0≤_;omega⟩ ?_;rw[uZ2]at hs;rw[← iZg m pk1 hw1.sec hw1.size]at hs;have hJ1:Jb (N+2) sc 32 ar k b l d1 c m (aZA b k (32/8) ar).length:=⟨hJ.lv.went hw1 (by omega) hc1 hJ.lv.hh rfl (by have:=hJ.lv.len;omega) (by have:=hJ.lv.ld;omega),hw1.sec.trans hJ.sec,hw1.size.trans hsz,hJ.har,hJ.jb,hJ.le⟩;exact vZ8 (was:=dZj d) hT hr hg hk hk6 hw hC hJ1 (by omega) (hw1.calm hf) (hs.re [0,1,2,3,4,5] rfl)
theorem pZi :∀(t i N:Nat) (was:O3) (d:D) (c:Cn) (m:Mn) (pk:Int) (H:Hp),i+t=(aZA b k (32/8) ar).length→Jb N sc 32 ar k b l d c m i→m.most=mo→N+4*t≤280→d.fuse=0→pk≤m.arena→
  Sep [En p dp (some (egM d m pk)),Dk dp d,own H0,pts b1 (bZI mo sc 32 ar),pts bw (aZI was),pts ba (aZI ((cs.take i).foldl bZF aZT))] H→
  Zc.l29 (Ret (.bool true) H0) (t+1) (if b=true then 1 else 0) (k:Int) ⟨b1,0,none⟩ (some ⟨dp,0,none⟩) (some ⟨p,0,none⟩) ⟨bw,0,none⟩ ⟨ba,0,none⟩ ((i+1:Nat):Int) H
 |t,i,N,was,d,c,m,pk,H,hi,hJ,hmo,hN,hf,hpk,hs=>by
  have hpe:Lay.Zs ((32:Nat):Int)=32/8:=by decide
  have hsm:=hJ.lv.small (by omega);have hcn:=hJ.lv.cnt (by omega);have hp5:=(cZG b k (32/8) ar).2;have hsz:=hJ.size;have hld:=hJ.lv.ld;have hlen:=hC.1;have hstm:stM m (d.size/8)=if i<(aZA b k (32/8) ar).length then 3 else 4:=by rw[hJ.jb.st,hsz,hJ.har]
  have hld4:∀ e,(some (egM d m pk))=some e→e.r.ld<4294967296:=fun e he=>by cases he;show m.r.ld<_;omega
  unfold Zc.l29 Zc.l29.q1;cases t with
  |zero=>
   have ei:i=(aZA b k (32/8) ar).length:=by omega
   rw[List.take_of_length_le (by omega)]at hs;have j37:∀ H,Sep [En p dp (some (egM d m pk)),Dk dp d,own H0,pts b1 (bZI mo sc 32 ar),pts bw (aZI was),pts ba (aZI (cs.foldl bZF aZT))] H→Zc.j37 (Ret (.bool true) H0) (if b=true then 1 else 0) (k:Int) ⟨b1,0,none⟩ (some ⟨dp,0,none⟩) (some ⟨p,0,none⟩) ⟨bw,0,none⟩ ⟨ba,0,none⟩ H:=fun H hs=>
    vZ7 hT hr hg hk hk6 hw hC (by rw[← ei];exact hJ) (by omega) hf hpk hs
   by_cases h5:((i+1:Nat):Int)≤5
   ·refine Zm h5 ?_;refine(mZq (p:=p) (dp:=dp) (some (egM d m pk)) hld4).use hs [0] rfl rfl ?_;rintro _ _ H ⟨rfl,rfl⟩ hs;simp only[HV];refine rZI (mZW _) ?_;simp only[HV];rw[if_neg (by omega)]at hstm;refine aZg (by rw[jZY,hstm];decide) ?_;exact j37 H (hs.re [0,1,2,3,4,5] rfl)
   ·exact Zh h5 (j37 H hs)
  |succ t=>
   have hlt:i<(aZA b k (32/8) ar).length:=by omega
   have hil:i<cs.length:=by omega
   refine Zm (by omega) ?_;refine(mZq (p:=p) (dp:=dp) (some (egM d m pk)) hld4).use hs [0] rfl rfl ?_;rintro _ _ H ⟨rfl,rfl⟩ hs;simp only[HV];refine rZI (mZW _) ?_;simp only[HV];rw[if_pos hlt]at hstm;refine ZT (by rw[jZY,hstm]) ?_
   try simp only[HS]
   have hs:Sep [En p dp (some (egM d m pk)),Dk dp d,own H0,pts b1 (bZI mo sc 32 ar),pts bw (aZI was),pts ba (aZI ((cs.take i).foldl bZF aZT))] H:=hs;refine Za.use (gZi hs 1 rfl) ?_;simp only[HV];refine hs.stw 4 (y:=(ZD (dZj d)).toArray) rfl rfl rfl rfl fun H hs=>?_;refine hs.ldw 3 rfl rfl ?_
   try simp only[Array.toArray_toList]
   have hco:cs[(i+1)-1]? =some (cs[i]'hil):=List.getElem?_eq_getElem hil;have htk:cs.take (i+1)=cs.take i++[cs[i]'hil]:=List.take_succ_eq_append_getElem hil;have hsmo:=hC.small _ (List.getElem_mem hil);generalize cs[i]'hil=o at hco htk hsmo;refine Za.use (vZ2 hpe hg hk hk6 hw b hC H (hT.le (hs.ow 2 rfl)) (hr.le (hs.ow 2 rfl)) (p:=i+1) (by omega) hco) ?_;simp only[HV];refine hs.nw fun b2 H hs=>?_
   refine hs.stw 6 (y:=(ZD o).toArray) rfl rfl rfl rfl fun H hs=>?_;refine(uZE (p:=p) (dp:=dp) (TT:=own H0) (fun H h=>hT.le h) hJ.lv.cl hJ.lv.hh hsm.1 hsm.2 hpk (by have:=hJ.jb.kk;omega)).use hs [0,1,2] rfl rfl ?_;rintro _ _ H (⟨h,_⟩|⟨_,r,w',hSC,⟨d',c',pk',hpk',hw',hc,hh,rfl,rfl⟩|⟨d',hcut,_⟩⟩) hs
   ·exact absurd hstm h
   rotate_left
   ·exact(hcut.calm hf).elim
   simp only[HV];refine Zq rfl (Zq rfl ?_)
   try simp only[HS]
   have hco2:cs[i]? =some (r,w',2):=sZo (by rw[hsz];omega) hJ.jb (by rw[hmo,hsz,hJ.har];exact hC) hSC;have ho:o=(r,w',2):=by
    have:cs[i]? =some o:=hco;rw[hco2]at this;cases this;rfl
   have hs:Sep [En p dp (some (egM d (m.add (bZx m (d.size/8))) pk')),Dk dp d',own H0,pts b1 (bZI mo sc 32 ar),pts bw (aZI (dZj d)),pts ba (aZI ((cs.take i).foldl bZF aZT)),pts b2 (aZI o)] H:=hs;refine nZl hs 1 4 6 rfl rfl rfl (by rw[ho];exact fZC hw') hcn (hsmo.mono (by omega)) ?_;have hacc:∀ j,smO (10000*(j+1)) ((cs.take j).foldl bZF aZT):=fun j=>by
    have go:∀(l:List O3) (a:O3) (n:Nat),smO (10000*n) a→(∀ o∈l,smO 10000 o)→smO (10000*(n+l.length)) (l.foldl bZF a):=fun l=>by
     induction l with
     |nil=>intro a n h _;exact h
     |cons c l ih=>
      intro a n h hl;have h1:=hl c List.mem_cons_self;have:=ih (bZF a c) (n+1) ⟨by have:=h.1;have:=h1.1;show a.1+c.1≤_;omega,by have:=h.2.1;have:=h1.2.1;show a.2.1+c.2.1≤_;omega,by have:=h.2.2;have:=h1.2.2;show a.2.2+c.2.2≤_;omega⟩ (fun o ho=>hl o (List.mem_cons_of_mem _ ho));rw[List.length_cons,show n+(l.length+1)=n+1+l.length by omega];exact this
    refine(go (cs.take j) aZT 1 ⟨by decide,by decide,by decide⟩ (fun o ho=>hC.small o (List.mem_of_mem_take ho))).mono ?_;rw[List.length_take];omega
   have hacc:=(hacc i).mono (B':=1000000) (by omega);generalize ha:(cs.take i).foldl bZF aZT=a at hs hacc;refine hs.ldw 5 rfl rfl ?_;refine hs.ldw 6 rfl rfl ?_;obtain⟨o1,o2,o3⟩:=o;obtain⟨a1,a2,a3⟩:=a;unfold ZD;simp only[HV];refine hs.nw fun b3 H hs=>?_
   have hcell:=nZX (os:=[(a1,a2,a3),(o1,o2,o3)]) (n:=0) (hs.get 7 (b:=b3) rfl);refine Za.use (iZe (some ⟨b3,0,none⟩) 2 2 [(a1,a2,a3),(o1,o2,o3)] rfl (by omega) (fun o ho=>?_) H hcell) ?_
   ·simp only[List.mem_cons,List.not_mem_nil,or_false]at ho;rcases ho with rfl|rfl
    ·exact hacc.mono (by omega)
    ·exact hsmo.mono (by omega)
   simp only[HV];rw[mZZ];refine hs.stw 5 (y:=(ZD (a1+o1,a2+o2,a3+o3)).toArray) rfl rfl rfl rfl fun H hs=>?_;rw[ZL (x:=((i+1:Nat):Int)+1) (by omega) (by omega),show((i+1:Nat):Int)+1=((i+1+1:Nat):Int) by omega];rw[← iZg _ pk' hw'.sec hw'.size]at hs;refine pZi t (i+1) (N+2) (dZj d) d' c' (m.add (bZx m (d.size/8))) pk' H (by omega) ⟨hJ.lv.stepped hSC hw' hc hh,hw'.sec.trans hJ.sec,hw'.size.trans hsz,hJ.har,hJ.jb.next _,by omega⟩ hmo (by omega) (hw'.calm hf) hpk' ?_;rw[htk,List.foldl_append,ha];exact hs.re [0,1,2,3,4,5] rfl
end
end Eng
end Go.Proofs.YtgfildcgihbdaaaGreatDoor
