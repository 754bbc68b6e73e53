import Derived.Test.YtgfildcgihbdaaaGreatDoorProg
import Derived.Test.YtgfildcgihbdaaaGreatDoorPkWholeCost9
set_option maxRecDepth 100000
set_option linter.unusedSimpArgs false
set_option linter.unusedVariables false
set_option linter.unnecessarySimpa false
set_option linter.unusedSectionVars false
open Go.IntKind (i64 u32 u64 u8)
namespace Go.Proofs.YtgfildcgihbdaaaGreatDoor
open Tryz (prog)
namespace Eng
open Go Go.Hw Go.Form W Shp Dsk Str Are Trn Pas Pln Rec Srt Rng
theorem dZJ.go {g:FuncId}{args:Array Value}{H:Hp}{K:VK}(h:fZC prog g=true)(k:Za prog g args H K):dZJ prog g args H K:=aZx h k
def aZD (m:Mn)(k:Nat):Mn:=m.add (cZl m k)
def aZ5 (m:Mn)(k:Nat)(l:List UInt64):Mn:={ aZD m k with inp:=l}.add (cZ2 (aZD m k) k l)
def ldR (per k:Nat):Nat:=16+wiR per k+nS per (2^k)
def ldW (per k:Nat):Nat:=2+wiW per k
section
variable {p dp : Nat} {d : D} {c : Cn} {m : Mn} {peak : Int} (hc : Clean d c) (hh : Holds d.sec d.size m c) (hS : Small 100000 m) (ho : d.rd ≤ 800000 ∧ d.wr ≤ 800000 ∧ d.sy ≤ 800000) (hpk : peak ≤ m.arena)
def iZ1 (p dp:Nat)(d:D)(m:Mn)(peak:Int)(l:List UInt64)(RR TT:As)(v:Value)(M:List As):Prop:=
 (∃ k i e,hZ2 l m.most k i e∧e≠0∧v= .tuple #[.int .i64 i,.int .i64 e]∧M=[En p dp (some (egM d m peak)),Dk dp d,RR,TT])∨
 (∃ k:Nat,lg (l.length:Int)=some k∧k≤m.most∧fZB l∧
  ((∃ d' c' peak',peak'≤(m.arena:Int)∧bZA d d' (ldR (d.size/8) k) (ldW (d.size/8) k) 3∧Clean d' c'∧Holds d.sec d.size (aZ5 m k l) c'∧v= .tuple #[.int .i64 0,.int .i64 0]∧M=[En p dp (some (egM d (aZ5 m k l) peak')),Dk dp d',RR,TT])∨
  (∃ d',Cut d d' (ldR (d.size/8) k+ldW (d.size/8) k+3)∧Left d' (fun c'=>Holds d.sec d.size m c'∨Holds d.sec d.size (aZD m k) c'∨Holds d.sec d.size (aZ5 m k l) c')∧v= .tuple #[.int .i64 0,.int .i64 8]∧M=[En p dp none,Dk dp d',RR,TT])))
set_option maxHeartbeats 8000000 in
include hc hh hS ho hpk in
theorem pZC {l:List UInt64}{A:OA}{n mm:Nat}{RR TT:As}(hn:n=l.length)(hnm:n≤mm)(hl20:l.length≤40000)(hR:∀ H,RR H→Cells H A (Zc l))(hT:(∀ H,TT H→T64 H)∨∀ H,RR H→T64 H):
  Tr prog 17 #[.pointer (some ⟨p,0,none⟩),.slice A n mm] [En p dp (some (egM d m peak)),Dk dp d,RR,TT] (iZ1 p dp d m peak l RR TT):=fun H hs=>by
 subst hn;have he:=hh.eg hpk;obtain⟨mp,ap,rp,A',m',hs⟩:=En.whole hs;apply Zi.ok;unfold Zi Zi.q3 Zi.q2 Zi.q1;refine hs.nw fun b1 H hs=>?_
 refine hs.nw fun b2 H hs=>?_
 have chk:∀(L:List As) (H:Hp) (K:VK),Sep L H→L[6]? =some RR→L[7]? =some TT→(∀ k i e,hZ2 l m.most k i e→K (.tuple #[.int .i64 k,.int .i64 i,.int .i64 e]) H)→
   Za prog 52 #[.slice A l.length mm,.int .i64 (m.most:Int)] H K:=fun L H K hs h6 h7 hk=>by
  obtain⟨H1,hr,hr'⟩:=hs.see 6 h6;obtain⟨H2,ht,ht'⟩:=hs.see 7 h7;refine Za.mono (rZD A l.length mm l m.most rfl (by omega) H (hT.elim (fun f=>(f _ ht).le ht') fun f=>(f _ hr).le hr') ((hR _ hr).le hr')) ?_;rintro _ _ ⟨⟨k,i,e,h,rfl⟩,rfl⟩;exact hk k i e h
 have hk0:∀{k:Nat},lg (l.length:Int)=some k→l.length=2^k:=fun h=>by have:=(dZn h).2;omega
 have hld:=hS.ld;have hpe:(egM d m peak).per=D.per d:=rfl;have j4:∀ k i e b3 H,hZ2 l m.most k i e→Sep [pts p (aZu dp (some mp)),pts mp (aZa (egM d m peak) ap rp A' (psE (egM d m peak)).length m'),Ar ap m.arena peak [],pts rp (ZV dp 1 8 ((8*(egM d m peak).per:Nat):Int)),Own 126 8 A' (psE (egM d m peak)).length m' (bZq (psE (egM d m peak))),Dk dp d,RR,TT,
   pts b1 (.obj (.cells #[.pointer (some ⟨p,0,none⟩)] 36)),pts b2 (.obj (.cells #[.slice A l.length mm] 22)),pts b3 (.obj (.cells #[.int .i64 k] 3))] H→
   Zi.j4 (fun v H'=>∃ M,iZ1 p dp d m peak l RR TT v M∧Sep M H') ⟨b1,0,none⟩ ⟨b2,0,none⟩ i e ⟨b3,0,none⟩ H:=fun k i e b3 H hv hs=>by
  unfold Zi.j4 Zi.j4.q4 Zi.j4.q3 Zi.j4.q2 Zi.j4.q1;have bad:∀(h:e≠0),∃ M,iZ1 p dp d m peak l RR TT (.tuple #[.int .i64 i,.int .i64 e]) M∧Sep M H:=fun h=>
   ⟨_,.inl ⟨k,i,e,hv,h,rfl,rfl⟩,En.unwhole (L:=[Dk dp d,RR,TT]) (hs.re [0,1,2,3,4,5,6,7] rfl)⟩
  cases hv with
  |len h=>exact ZA (by decide) (bad (by decide))
  |big h h2=>exact ZA (by decide) (bad (by decide))
  |word h h2 h3=>exact ZA (by decide) (bad (by decide))
  |ok hlg hkm hcan=>
  rename_i k
  clear bad;refine Zq rfl ?_;have hkm:k≤m.most:=by omega
  have hl:=hk0 hlg;have hfin:∀ v M,((∃ d' c' peak',peak'≤(m.arena:Int)∧bZA d d' (ldR (d.size/8) k) (ldW (d.size/8) k) 3∧Clean d' c'∧Holds d.sec d.size (aZ5 m k l) c'∧v= .tuple #[.int .i64 0,.int .i64 0]∧M=[En p dp (some (egM d (aZ5 m k l) peak')),Dk dp d',RR,TT])∨
  (∃ d',Cut d d' (ldR (d.size/8) k+ldW (d.size/8) k+3)∧Left d' (fun c'=>Holds d.sec d.size m c'∨Holds d.sec d.size (aZD m k) c'∨Holds d.sec d.size (aZ5 m k l) c')∧v= .tuple #[.int .i64 0,.int .i64 8]∧M=[En p dp none,Dk dp d',RR,TT]))→iZ1 p dp d m peak l RR TT v M:=fun v M h=>.inr ⟨k,hlg,hkm,hcan,h⟩
  have j7:∀ b4 H,Sep [pts p (aZu dp (some mp)),pts mp (aZa (egM d m peak) ap rp A' (psE (egM d m peak)).length m'),Ar ap m.arena peak [],pts rp (ZV dp 1 8 ((8*(egM d m peak).per:Nat):Int)),Own 126 8 A' (psE (egM d m peak)).length m' (bZq (psE (egM d m peak))),Dk dp d,RR,TT,
    pts b1 (.obj (.cells #[.pointer (some ⟨p,0,none⟩)] 36)),pts b2 (.obj (.cells #[.slice A l.length mm] 22)),pts b3 (.obj (.cells #[.int .i64 (k:Int)] 3)),pts b4 (bZD { cZl m k with s:=0})] H→
    Zi.j7 (fun v H'=>∃ M,iZ1 p dp d m peak l RR TT v M∧Sep M H') ⟨b1,0,none⟩ ⟨b2,0,none⟩ ⟨b3,0,none⟩ ⟨b4,0,none⟩ H:=fun b4 H hs=>by
   unfold Zi.j7;refine hs.nw fun b5 H hs=>?_
   refine hs.ld 8 (v:=.pointer (some ⟨p,0,none⟩)) rfl rfl ?_;simp only[HV]
   try simp only[HS]
   refine hs.ld 0 (v:=.pointer (some ⟨mp,0,none⟩)) rfl rfl ?_;simp only[HV];refine hs.nw fun b6 H hs=>?_
   try simp only[HS]
   refine hs.st 13 rfl (by show 0<1;omega) rfl fun H hs=>?_;refine hs.ld 8 (v:=.pointer (some ⟨p,0,none⟩)) rfl rfl ?_;simp only[HV];refine hs.nw fun b7 H hs=>?_
   have hs:=Me.shut (mp:=mp) (dp:=dp) (e:=egM d m peak) (ap:=ap) (rp:=rp) (A:=A') (m:=m') (L:=[pts p (aZu dp (some mp)),Dk dp d,RR,TT,pts b1 (.obj (.cells #[.pointer (some ⟨p,0,none⟩)] 36)),pts b2 (.obj (.cells #[.slice A l.length mm] 22)),pts b3 (.obj (.cells #[.int .i64 (k:Int)] 3)),pts b4 (bZD { cZl m k with s:=0}),pts b5 _,pts b6 _,pts b7 _]) (hs.re [1,2,3,4,0,5,6,7,8,9,10,11,12,13,14] rfl);apply ZH.ok;unfold ZH;refine⟨4,?_⟩;obtain⟨g1,g2,g3,g4⟩:=wZg hh hS (by omega) hkm;have hres1:bZv prog 53=[40]:=by kernel_rfl
   have hres2:bZv prog 55=[40]:=by kernel_rfl
   have hres3:bZv prog 57=[40]:=by kernel_rfl
   have bad:∀(X:As) (L':List As) (H:Hp) (d':D),Sep (X::Dk dp d'::pts p (aZu dp (some mp))::RR::TT::L') H→Cut d d' (ldR (d.size/8) k+ldW (d.size/8) k+3)→Left d' (fun c'=>Holds d.sec d.size m c'∨Holds d.sec d.size (aZD m k) c'∨Holds d.sec d.size (aZ5 m k l) c')→
     Za prog 59 #[.pointer (some ⟨p,0,none⟩),.int .i64 8] H fun v H'=>v= .int .i64 8∧∃ M,iZ1 p dp d m peak l RR TT (.tuple #[.int .i64 0,.int .i64 8]) M∧Sep M H':=fun X L' H d' hs h1 h2=>by
    have hs:Sep [X,Dk dp d',pts p (aZu dp (some mp)),RR,TT] H:=Sep.take (L:=L') hs;refine(eZg (p:=p) (dp:=dp) (mp:=mp) 8).use hs [2] rfl rfl ?_;rintro _ _ H ⟨rfl,rfl⟩ hs;exact⟨rfl,_,hfin _ _ (.inr ⟨d',h1,h2,rfl,rfl⟩),hs.re [0,2,3,4] rfl⟩
   unfold ZH.l2;refine Zn (by decide) ⟨by decide,by decide,?_⟩;simp only[HV];refine hs.ldr 11 (v:=.func (.func 53) #[] #[.pointer (some ⟨b6,0,none⟩),.pointer (some ⟨b4,0,none⟩)]) rfl rfl ?_;refine dZJ.go (by kernel_rfl) ?_;rw[hres1];apply cZz.ok;unfold cZz;simp only[HV];refine hs.ld 10 (v:=.pointer (some ⟨mp,0,none⟩)) rfl rfl ?_;simp only[HV];refine hs.ldw 8 rfl rfl ?_
   try simp only[Array.toArray_toList]
   have hseq:=Mn.seq_r hh;have hR1:ldR (d.size/8) k=8+(wiR (d.size/8) k+nS (d.size/8) (2^k))+8:=by unfold ldR;omega
   have hW1:ldW (d.size/8) k=1+wiW (d.size/8) k+1:=by unfold ldW;omega
   refine(hZ6 (mp:=mp) (dp:=dp) (e:=egM d m peak) hc he (by omega) (r:=cZl m k) { cZl m k with s:=0} rfl hseq.symm g1 g2 (by rw[hh.lastC];exact g3) (by show(k:Int)≤m.most;omega)).use hs [0,2] rfl rfl ?_;rintro _ _ H (⟨d1,rfl,hw1,hc1,rfl⟩|⟨d',rfl,hcut,hleft,rfl⟩) hs
   rotate_left
   ·simp only[HV];refine eZq _ _ ?_;simp only[HV];refine ZA (by decide) ?_;refine Za.mono (bad _ _ H d' hs (hcut.more (by omega)) (hleft.mono fun c' h=>?_)) ?_
    ·rcases h with e|e
     ·left;rw[e];exact hh
     ·right;left;rw[e];exact g4
    ·rintro _ H ⟨rfl,M,h,hs⟩;simp only[HV];exact⟨M,h,hs⟩
   simp only[HV];refine eZq _ _ ?_;simp only[HV];refine Zq rfl ?_;rw[show i64.wrap ((0:Int)+1)=1 by kernel_rfl];unfold ZH.l2;refine Zn (by decide) ⟨by decide,by decide,?_⟩;simp only[HV];refine hs.ldr 11 (v:=.func (.func 55) #[] #[.pointer (some ⟨b6,0,none⟩),.pointer (some ⟨b1,0,none⟩),.pointer (some ⟨b3,0,none⟩),.pointer (some ⟨b2,0,none⟩),.pointer (some ⟨b5,0,none⟩)]) rfl rfl ?_;refine dZJ.go (by kernel_rfl) ?_;rw[hres2];apply cZA.ok;unfold cZA;simp only[HV];refine hs.ld 10 (v:=.pointer (some ⟨mp,0,none⟩)) rfl rfl ?_;simp only[HV];refine hs.ld 5 (v:=.pointer (some ⟨p,0,none⟩)) rfl rfl ?_;simp only[HV]
   try simp only[HS]
   refine hs.ld 2 (v:=.pointer (some ⟨dp,0,none⟩)) rfl rfl ?_;simp only[HV];refine hs.ld 7 (v:=.int .i64 (k:Int)) rfl rfl ?_;simp only[HV];refine hs.ld 6 (v:=.slice A l.length mm) rfl rfl ?_;simp only[HV];have h1r:(aZD m k).r=cZl m k:=Mn.add_r _ _;have hh1:Holds d1.sec d1.size (aZD m k) (bZx c (aZS 1 8 (cZl m k).s) ((cZl m k).form d.size)):=by rw[hw1.sec,hw1.size];exact g4
   have ee:{ egM d m peak with r:=cZl m k}=egM d1 (aZD m k) peak:=by unfold egM;rw[h1r,hw1.sec,hw1.size];rfl
   rw[ee]at hs;have he1:=hh1.eg (peak:=peak) hpk;generalize hc1e:bZx c (aZS 1 8 (cZl m k).s) ((cZl m k).form d.size)=c1 at*;obtain⟨ap2,rp2,A2,m2,hs⟩:=Me.open hs;have hs:Sep [pts mp (aZa (egM d1 (aZD m k) peak) ap2 rp2 A2 (psE (egM d1 (aZD m k) peak)).length m2),Ar ap2 m.arena peak [],pts rp2 (ZV dp 1 8 ((8*(egM d1 (aZD m k) peak).per:Nat):Int)),Own 126 8 A2 (psE (egM d1 (aZD m k) peak)).length m2 (bZq (psE (egM d1 (aZD m k) peak))),Dk dp d1,pts p (aZu dp (some mp)),RR,TT,
    pts b1 (.obj (.cells #[.pointer (some ⟨p,0,none⟩)] 36)),pts b2 (.obj (.cells #[.slice A l.length mm] 22)),pts b3 (.obj (.cells #[.int .i64 (k:Int)] 3)),pts b4 (bZD { cZl m k with s:=0}),pts b5 _,pts b6 _,pts b7 _] H:=hs
   have hkk:=cZI (k:=k) (by have:=he.most;have:m.most≤32:=this;omega);have hrd1:=hw1.rd;have hwr1:=hw1.wr;have hsy1:=hw1.sy;refine(uZH (mp:=mp) (dp:=dp) (ap:=ap2) (rp:=rp2) (e:=egM d1 (aZD m k) peak) (A:=A2) (n:=(psE (egM d1 (aZD m k) peak)).length) (mm:=m2) (d:=d1) (c:=c1) (k:=k) (l:=l) (R:=RR) hc1 he1 hkm (by omega) hl rfl hnm hR).use hs [0,1,4,6] rfl rfl ?_;have hp1:D.per d1=d.size/8:=hw1.per;have htgt:∀ c',Sam (inX (exX m.most (D.per d1) 0 k)) c1 c'→Holds d1.sec d1.size (aZD m k) c':=fun c' h=>
    hh1.target (t:=0) (k:=k) hkm (fun r hr h2=>by rw[aZD,Mn.add_last]at hr;cases hr;exact absurd h2 (show ¬(2:Int)≤1 by omega)) (fun r hr h4=>by rw[aZD,Mn.add_last]at hr;cases hr;exact absurd h4 (show ¬(1:Int)=4 by omega)) h
   rintro _ _ H ⟨pk2,hpk2,(⟨d2,c2,hw2,hc2,hsam,hcw,rfl,rfl⟩|⟨d',x,hcut,hleft,rfl,rfl⟩)⟩ hs
   rotate_left
   ·simp only[HV]
    try simp only[HS]
    refine hs.st 12 rfl (by show 0<1;omega) rfl fun H hs=>?_;refine eZq _ _ ?_;simp only[HV];refine ZA (by decide) ?_;rw[hp1]at hcut;refine Za.mono (bad _ _ H d' (hs.re [0,2,6,3,7] rfl) ((hw1.cut hcut).more (by omega)) (hleft.mono fun c' h=>?_)) ?_
    ·right;left;have:=htgt c' h;rw[hw1.sec,hw1.size]at this;exact this
    ·rintro _ H ⟨rfl,M,h,hs⟩;simp only[HV];exact⟨M,h,hs⟩
   simp only[HV]
   try simp only[HS]
   refine hs.st 12 rfl (by show 0<1;omega) rfl fun H hs=>?_;refine eZq _ _ ?_;simp only[HV];refine Zq rfl ?_;rw[show i64.wrap ((1:Int)+1)=2 by kernel_rfl];unfold ZH.l2;refine Zn (by decide) ⟨by decide,by decide,?_⟩;simp only[HV];have ee2:{ egM d1 (aZD m k) peak with peak:=pk2}=egM d2 (aZD m k) pk2:=by unfold egM;rw[hw2.sec,hw2.size]
   have hs:Sep (gZV mp dp ap2 rp2 { egM d1 (aZD m k) peak with peak:=pk2} A2 (psE { egM d1 (aZD m k) peak with peak:=pk2}).length m2++[Dk dp d2,pts p (aZu dp (some mp)),RR,TT,
    pts b1 (.obj (.cells #[.pointer (some ⟨p,0,none⟩)] 36)),pts b2 (.obj (.cells #[.slice A l.length mm] 22)),pts b3 (.obj (.cells #[.int .i64 (k:Int)] 3)),pts b4 (bZD { cZl m k with s:=0}),pts b5 _,pts b6 _,pts b7 _]) H:=hs.re [0,1,4,5,2,6,3,7,8,9,10,11,12,13,14] rfl
   have hs:=Me.shut hs;rw[ee2]at hs;have hh2:Holds d2.sec d2.size (aZD m k) c2:=by rw[hw2.sec,hw2.size];exact htgt c2 hsam
   have hS1:Small 100001 (aZD m k):=hS.add (by show m.r.ld+1≤_;omega);have h1kd:(aZD m k).r.kd=1:=by rw[h1r];rfl
   have h1kk:(aZD m k).r.kk=k:=by rw[h1r];rfl
   have hsz2:d2.size/8=D.per d1:=by rw[hw2.size];rfl
   obtain⟨q1,q2,q3,q4⟩:=vZD hh2 hS1 (by omega) h1kd h1kk hl hcan (by rw[hsz2];exact hcw);have hrd2:=hw2.rd;have hwr2:=hw2.wr;have hsy2:=hw2.sy;have hb1:=lZ4 (D.per d1) k;have hb2:=lZ5 (D.per d1) k;have hpd1:=Ok.per_le hc1.ok;have hb3:=lZH (per:=D.per d1) (w:=2^k) (by omega) (Nat.two_pow_pos k);have elr:cZ2 (aZD m k) k l=⟨(aZD m k).seq,2,k,0,0,m.r.ld+1,eZJ l,0⟩:=by unfold cZ2;rw[h1r];rfl
   have hseq2:=Mn.seq_r hh2;refine hs.ldr 11 (v:=.func (.func 57) #[] #[.pointer (some ⟨b5,0,none⟩),.pointer (some ⟨b4,0,none⟩),.pointer (some ⟨b6,0,none⟩)]) rfl rfl ?_;refine dZJ.go (by kernel_rfl) ?_;rw[hres3];apply bZe.ok;unfold bZe bZe.q1;have fin3:∀ H,Sep [Me mp dp (egM d2 (aZD m k) pk2),Dk dp d2,pts p (aZu dp (some mp)),RR,TT,
    pts b1 (.obj (.cells #[.pointer (some ⟨p,0,none⟩)] 36)),pts b2 (.obj (.cells #[.slice A l.length mm] 22)),pts b3 (.obj (.cells #[.int .i64 (k:Int)] 3)),pts b4 (bZD { cZ2 (aZD m k) k l with s:=0})] H→
     Za prog 54 #[.pointer (some ⟨mp,0,none⟩),.agg (R.c { cZ2 (aZD m k) k l with s:=0})] H fun v H'=>∃ x:Int,v= .int .i64 x∧((x=0∧∃ M,iZ1 p dp d m peak l RR TT (.tuple #[.int .i64 0,.int .i64 0]) M∧Sep M H')∨(x=8∧∃(X:As) (L':List As) (d':D),Sep (X::Dk dp d'::pts p (aZu dp (some mp))::RR::TT::L') H'∧Cut d d' (ldR (d.size/8) k+ldW (d.size/8) k+3)∧Left d' (fun c'=>Holds d.sec d.size m c'∨Holds d.sec d.size (aZD m k) c'∨Holds d.sec d.size (aZ5 m k l) c'))):=fun H hs=>by
    refine(hZ6 (mp:=mp) (dp:=dp) (e:=egM d2 (aZD m k) pk2) hc2 (hh2.eg hpk2) (by omega) (r:=cZ2 (aZD m k) k l) { cZ2 (aZD m k) k l with s:=0} rfl hseq2.symm q1 q2 (by rw[hh2.lastC];exact q3) (by show(k:Int)≤m.most;omega)).use hs [0,1] rfl rfl ?_;rintro _ _ H (⟨d3,rfl,hw3,hc3,rfl⟩|⟨d',rfl,hcut,hleft,rfl⟩) hs
    ·refine⟨0,rfl,.inl ⟨rfl,_,hfin _ _ (.inl ⟨d3,_,pk2,hpk2,?_,hc3,?_,rfl,rfl⟩),?_⟩⟩
     ·have:=(hw1.trans hw2).trans hw3;rw[hp1]at this;rw[hR1,hW1];exact this
     ·have:=q4;rw[hw2.sec,hw2.size,hw1.sec,hw1.size]at this;rw[hw2.size,hw1.size];exact this
     ·have e3:egM d (aZ5 m k l) pk2={ egM d2 (aZD m k) pk2 with r:=cZ2 (aZD m k) k l}:=by
       unfold aZ5 egM;rw[Mn.add_r,hw2.sec,hw2.size,hw1.sec,hw1.size];rfl
      rw[e3];exact En.shut (L:=[Dk dp d3,RR,TT]) (hs.re [2,0,1,3,4] rfl)
    ·refine⟨8,rfl,.inr ⟨rfl,_,_,d',hs,?_,hleft.mono fun c' h=>?_⟩⟩
     ·have:=(hw1.trans hw2).cut hcut;rw[hp1]at this;exact this.more (by omega)
     ·rw[hw2.sec,hw2.size,hw1.sec,hw1.size]at q4 hh2;rw[hw2.size,hw1.size]at h;rcases h with e|e
      ·right;left;rw[e];exact hh2
      ·right;right;rw[e];exact q4
   constructor
   ·refine hs.ld 9 (v:=.int .u32 (eZJ l:Int)) rfl rfl ?_;simp only[HV]
    try simp only[HS]
    refine hs.st 8 rfl (by show 1<8;omega) rfl fun H hs=>?_
    try simp only[HS]
    refine hs.st 8 rfl (by show 6<8;omega) rfl fun H hs=>?_;refine hs.ld 10 (v:=.pointer (some ⟨mp,0,none⟩)) rfl rfl ?_;simp only[HV];refine hs.ldw 8 rfl rfl ?_
    try simp only[Array.toArray_toList]
    have hs:=hs.re [0,1,2,3,4,5,6,7,8] rfl;have ff:=fin3 H;rw[elr]at ff;refine Za.mono (ff hs) ?_;rintro _ H ⟨x,rfl,(⟨rfl,M,h,hs⟩|⟨rfl,X,L',d',hs,h1,h2⟩)⟩
    ·simp only[HV];refine eZq _ _ ?_;simp only[HV];refine Zq rfl ?_;rw[show i64.wrap ((2:Int)+1)=3 by kernel_rfl];unfold ZH.l2;refine Zh (by decide) ?_;simp only[HV];exact⟨M,h,hs⟩
    ·simp only[HV];refine eZq _ _ ?_;simp only[HV];refine ZA (by decide) ?_;refine Za.mono (bad X L' H d' hs h1 h2) ?_;rintro _ H ⟨rfl,M,h,hs⟩;simp only[HV];exact⟨M,h,hs⟩
   ·try simp only[HS]
    refine hs.st 8 rfl (by show 1<8;omega) rfl fun H hs=>?_;refine hs.ld 9 (v:=.int .u32 (eZJ l:Int)) rfl rfl ?_;simp only[HV]
    try simp only[HS]
    refine hs.st 8 rfl (by show 6<8;omega) rfl fun H hs=>?_;refine hs.ld 10 (v:=.pointer (some ⟨mp,0,none⟩)) rfl rfl ?_;simp only[HV];refine hs.ldw 8 rfl rfl ?_
    try simp only[Array.toArray_toList]
    have hs:=hs.re [0,1,2,3,4,5,6,7,8] rfl;have ff:=fin3 H;rw[elr]at ff;refine Za.mono (ff hs) ?_;rintro _ H ⟨x,rfl,(⟨rfl,M,h,hs⟩|⟨rfl,X,L',d',hs,h1,h2⟩)⟩
    ·simp only[HV];refine eZq _ _ ?_;simp only[HV];refine Zq rfl ?_;rw[show i64.wrap ((2:Int)+1)=3 by kernel_rfl];unfold ZH.l2;refine Zh (by decide) ?_;simp only[HV];exact⟨M,h,hs⟩
    ·simp only[HV];refine eZq _ _ ?_;simp only[HV];refine ZA (by decide) ?_;refine Za.mono (bad X L' H d' hs h1 h2) ?_;rintro _ H ⟨rfl,M,h,hs⟩;simp only[HV];exact⟨M,h,hs⟩
  have ewp:u32.wrap ((m.r.ld:Int)+1)=((m.r.ld+1:Nat):Int):=by rw[xZd (by omega) (by omega)];rfl
  repeat' first
   |(rw[ewp]at hs;exact j7 _ _ hs)
   |refine hs.ld 8 (v:=.pointer (some ⟨p,0,none⟩)) rfl rfl ?_
   |refine hs.ld 10 (v:=.int .i64 (k:Int)) rfl rfl ?_
   |refine hs.ld 0 (v:=.pointer (some ⟨mp,0,none⟩)) rfl rfl ?_
   |refine hs.ld 1 (v:=.int .u32 (m.r.ld:Int)) rfl rfl ?_
   |refine hs.nw fun b H hs=>?_
   |refine hs.stw 11 rfl rfl rfl rfl fun H hs=>?_
   |(simp only[HV];try simp only[HS])
   |refine⟨?_,?_⟩
 refine hs.ld 8 (v:=.pointer (some ⟨p,0,none⟩)) rfl rfl ?_;simp only[HV]
 try simp only[HS]
 refine hs.ld 0 (v:=.pointer (some ⟨mp,0,none⟩)) rfl rfl ?_;simp only[HV];refine aZc rfl ?_
 repeat' first
  |exact j4 _ _ _ _ _ hv hs
  |refine hs.ld 9 (v:=.slice A l.length mm) rfl rfl ?_
  |refine hs.ld 8 (v:=.pointer (some ⟨p,0,none⟩)) rfl rfl ?_
  |refine hs.ld 0 (v:=.pointer (some ⟨mp,0,none⟩)) rfl rfl ?_
  |refine hs.ld 1 (v:=.int .i64 (m.most:Int)) rfl rfl ?_
  |refine chk _ _ _ hs rfl rfl fun k i e hv=>?_
  |refine hs.nw fun b H hs=>?_
  |refine hs.st 10 rfl Nat.zero_lt_one rfl fun H hs=>?_
  |(simp only[HV];try simp only[HS])
  |refine⟨?_,?_⟩
end
end Eng
namespace Sup
open Go Go.Hw Go.Form W Lay
theorem rZf (k sec s ar:Int)(h:aZ3 k sec s ar=true)(hsec:sec≤9223372036854775807):aZ2 (bZY k sec s ar)=((k,sec,s,ar),0):=by
 have hg:=h;unfold aZ3 at hg;simp only[decide_eq_true_eq]at hg;obtain⟨h1,h2,h3,h4,h5,h6⟩:=hg;obtain⟨kn,rfl⟩:=Int.eq_ofNat_of_zero_le h1;have hlen:=iZ9 kn sec s ar h3;have hlog:=hZB s;have hll:=sZn s;have hw:∀(i:Nat) (hi:i<4),Zs (bZY kn sec s ar) (8*i)=((hZc kn sec s ar)[i]'(by rw[jZb];exact hi)).toNat:=fun i hi=>eZ7 (by rw[jZb];exact hi) _
 have hf64:bZy kn s<2^64:=by unfold bZy;omega
 have w0:Zs (bZY kn sec s ar) 0=bZy kn s:=(hw 0 (by omega)).trans (eZQ hf64);have w1:Zs (bZY kn sec s ar) 8=sec.toNat:=(hw 1 (by omega)).trans (eZQ (by omega));have w2:Zs (bZY kn sec s ar) 16=ar.toNat:=(hw 2 (by omega)).trans (eZQ (by omega));have hcr:mZe (bZy kn s) sec.toNat ar.toNat=(Go.Crc.sum (form (gZl kn sec s ar))).toNat:=rfl;have hsum:=(Go.Crc.sum (form (gZl kn sec s ar))).isLt;have w3:Zs (bZY kn sec s ar) 24=mZe (bZy kn s) sec.toNat ar.toNat:=(hw 3 (by omega)).trans (by rw[hcr];exact eZQ (by omega));have hz:iZC (bZY kn sec s ar)=true:=by
  unfold iZC bZY;rw[List.drop_left' (by rw[aZ8,jZb])];simp
 have hf1:bZy kn s/4294967296=1094861123:=by unfold bZy;omega
 have hf2:bZy kn s/65536%65536=kn:=by unfold bZy;omega
 have hf3:((bZy kn s%65536:Nat):Int)=cZf s:=by unfold bZy;omega
 have hsb:eZz (bZY kn sec s ar)=((kn:Int),sec,s,ar):=by
  unfold eZz;rw[w0,w1,w2,hf2,hlen,ZG (by omega) (by omega),ZG (by omega) (by omega),show((sec.toNat:Nat):Int)=sec by omega,show((ar.toNat:Nat):Int)=ar by omega]
 unfold aZ2;rw[hlen,hsb,w0,w1,w2,w3,if_neg (by omega),if_neg (by simp[hf1,hz]),if_neg (by simp),if_pos ⟨h,hf3⟩]
end Sup
namespace Eng
open Go Go.Hw Go.Form W Shp Dsk Str Are Trn Pas Pln Rec Srt Rng
def inF (n:Nat)(i:Int):Prop:=1≤i∧i<((1+n:Nat):Int)
theorem tZd {d:D}(hl:d.down=false)(hf:d.fuse≠1)(k:Int)(b:List UInt8)(i:Int):(d.wrote k b).now i=if i=k then b else d.now i:=by
 unfold D.wrote;rw[eZf hl hf];unfold D.now cZy;by_cases h:i=k
 ·simp only[if_pos h];rfl
 ·simp only[if_neg h];rfl
theorem mZK {d0:D}{c:Cn}(h:Clean d0 c){n:Nat}(hn:1+n≤d0.sec):∀(k i:Nat) (d:D),i+k=n→Prog (inF n) d0 d 0 i→(∀ j:Nat,j<i→d.now ((1+j:Nat):Int)=List.replicate d0.size 0)→
  (∃ d' c',iZU 1 k i d=(0,d')∧bZA d0 d' 0 n 1∧Clean d' c'∧Sam (inF n) c c'∧∀ j:Nat,j<n→c' ((1+j:Nat):Int)=List.replicate d0.size 0)∨
  (∃ d',iZU 1 k i d=(8,d')∧Cut d0 d' (n+1)∧Left d' (Sam (inF n) c))
 |0,i,d,hi,hP,hz=>by
  have hS:∀ i,inF n i→0≤i∧i<d0.sec:=fun i hi=>⟨by have:=hi.1;omega,by have:=hi.2;omega⟩
  have e:i=n:=by omega
  subst e;have hsam:Sam (inF i) c d.now:=fun j hj=>(h.prog hP j).2 hj
  rcases h.sync hP hS with⟨s1,s2,s3⟩|⟨s1,s2,s3⟩
  ·exact .inl ⟨_,_,by show(d.syncE,d.syncD)=_;rw[s1],s2,s3,hsam,hz⟩
  ·exact .inr ⟨_,by show(d.syncE,d.syncD)=_;rw[s1],s2.more (by omega),s3.mono fun _ h=>h.2⟩
 |k+1,i,d,hi,hP,hz=>by
  have hS:∀ i,inF n i→0≤i∧i<d0.sec:=fun i hi=>⟨by have:=hi.1;omega,by have:=hi.2;omega⟩
  have hsec:=hP.sec;have hsize:=hP.size;have hchk:d.chk ((1+i:Nat):Int)=0:=gZu hP.down (Int.natCast_nonneg _) (by rw[hsec];omega);have hin:inF n ((1+i:Nat):Int):=⟨by omega,by omega⟩;have hlen:(List.replicate d.size (0:UInt8)).length=d.size:=List.length_replicate;unfold iZU;by_cases hf:d.fuse=1
  ·have hbn:d.burns=true:=by unfold D.burns;simp[hf]
   have e1:d.writeE ((1+i:Nat):Int) d.size=8:=by unfold D.writeE;rw[if_neg (by rw[hchk];simp),if_neg (by simp),hbn];rfl
   have e2:d.writeD ((1+i:Nat):Int) (List.replicate d.size 0)=D.dead d:=by unfold D.writeD;rw[if_neg (by rw[hchk];simp),if_neg (by simp[hlen]),hbn,eZI hf];rfl
   rw[e1,e2,if_pos (by decide)];have hD:=hP.dead (cZr.one (inF n) hP.ok hf);have h1:=hP.fuse;have h2:=hP.go;exact .inr ⟨_,rfl,h.deadCut hD hS (by omega) (by omega),h.deadLeft hD⟩
  ·have hbn:d.burns=false:=by unfold D.burns;exact decide_eq_false hf
   have e1:d.writeE ((1+i:Nat):Int) d.size=0:=by unfold D.writeE;rw[if_neg (by rw[hchk];simp),if_neg (by simp),hbn];rfl
   have e2:d.writeD ((1+i:Nat):Int) (List.replicate d.size 0)=d.wrote ((1+i:Nat):Int) (List.replicate d.size 0):=by unfold D.writeD;rw[if_neg (by rw[hchk];simp),if_neg (by simp[hlen]),hbn];rfl
   rw[e1,e2,if_neg (by simp)];have hW:=Prog.wrote (S:=inF n) hP.ok hP.down hf hin hlen;have hT:=hP.trans hW;refine mZK h hn k (i+1) _ (by omega) hT fun j hj=>?_
   rw[tZd hP.down hf];by_cases e:j=i
   ·rw[e,if_pos rfl,hsize]
   ·rw[if_neg (by omega)];exact hz j (by omega)
def aZZ (k words:Nat):Mn:=⟨k,words,[],[]⟩
theorem qZT {sec size k words:Nat}{c:Cn}(hg:Sup.aZ3 k sec size words=true)(hl:aZR k (size/8)≤words)(h0:c 0=Sup.bZY k sec size words)(hz:∀ j:Nat,j<8→c ((1+j:Nat):Int)=List.replicate size 0):Holds sec size (aZZ k words) c:=
 ⟨h0,hg,hl,Log.nil,fun i hi=>hz i hi,fun r hr=>(by cases hr),fun r hr=>(by cases hr),fun r hr=>(by cases hr)⟩
def bZG (sec per:Nat)(k words:Int):Int:=if words<1∨words>16777216∨k<0∨k>32 then 1 else if(sec:Int)<Lay.bZs k.toNat per then 7 else if words<aZR k.toNat per then 6 else 0
theorem vZv {p dp:Nat}{mo:Option Nat}{d:D}(hok:Ok d)(hpn:0<Lay.ZD (d.size:Int))(k words:Int):Tr prog 40 #[.pointer (some ⟨p,0,none⟩),.int .i64 k,.int .i64 words] [pts p (aZu dp mo),Dk dp d] fun v M=>v= .int .i64 (bZG d.sec (d.size/8) k words)∧M=[pts p (aZu dp mo),Dk dp d]:=fun H hs=>by
 have hper:=dZ4 hpn;apply Zy.ok;unfold Zy Zy.q3 Zy.q2 Zy.q1;have fin:∀(x:Int) (H:Hp) (T:List As),x=bZG d.sec (d.size/8) k words→Sep ([pts p (aZu dp mo),Dk dp d]++T) H→∃ M,(Value.int .i64 x= .int .i64 (bZG d.sec (d.size/8) k words)∧M=[pts p (aZu dp mo),Dk dp d])∧Sep M H:=fun x H T hx hs=>⟨_,⟨by rw[hx],rfl⟩,Sep.take hs⟩
 by_cases h1:words<1
 ·exact Zn h1 (fin 1 H [] (by unfold bZG;rw[if_pos (.inl h1)]) hs)
 refine Zh h1 ?_;by_cases h2:words>16777216
 ·exact Zn h2 (fin 1 H [] (by unfold bZG;rw[if_pos (.inr (.inl h2))]) hs)
 refine Zh h2 ?_;have j4:∀ b H,Sep [pts p (aZu dp mo),Dk dp d,pts b (.obj (.cells (Lay.OfV k d.sec d.size).1 90))] H→Zy.j4 (fun v H'=>∃ M,(v= .int .i64 (bZG d.sec (d.size/8) k words)∧M=[pts p (aZu dp mo),Dk dp d])∧Sep M H') k words ⟨b,0,none⟩ (Lay.OfV k d.sec d.size).2 H:=fun b H hs=>by
  unfold Zy.j4;unfold Lay.OfV at hs⊢;by_cases h3:0≤k∧k≤32
  ·have h3':0≤k∧k≤32∧0<Lay.ZD d.size:=⟨h3.1,h3.2,hpn⟩;rw[if_pos h3']at hs⊢;by_cases h4:(d.sec:Int)<Lay.bZs k.toNat (Lay.ZD d.size)
   ·rw[if_pos h4]at hs⊢;refine ZA (by decide) (fin 7 H _ ?_ hs);unfold bZG;rw[if_neg (by omega),if_pos (by rw[← hper.1];exact h4)]
   ·rw[if_neg h4]at hs⊢;refine Zq rfl ?_
    try simp only[HS]
    refine hs.ld 2 (v:=.int .i64 ((Lay.ZD d.size:Nat):Int)) rfl rfl ?_;simp only[HV];obtain⟨kn,rfl⟩:=Int.eq_ofNat_of_zero_le h3.1;have hpB:bZ8 ((Lay.ZD d.size:Nat):Int)=true:=by rw[hper.1];exact iZd hpn
    refine Za.use (tZt (k:=kn) (per:=Lay.ZD d.size) (by omega) hpB H) ?_;simp only[HV];refine Zq rfl ?_;rw[hper.1]at h4;have h4':¬(d.sec:Int)<Lay.bZs (kn:Int).toNat (d.size/8):=h4;by_cases h5:words<(aZR kn (Lay.ZD d.size):Int)
    ·refine Zn h5 (fin 6 H _ ?_ hs);unfold bZG;rw[if_neg (by omega),if_neg h4',if_pos (by rw[← hper.1];exact h5)]
    ·refine Zh h5 (fin 0 H _ ?_ hs);unfold bZG;rw[if_neg (by omega),if_neg h4',if_neg (by rw[← hper.1];exact h5)]
  ·rw[if_neg (fun h=>h3 ⟨h.1,h.2.1⟩)]at hs⊢;refine ZA (by decide) (fin 1 H _ ?_ hs);unfold bZG;rw[if_pos (by omega)]
 try simp only[HS]
 have hsz:∀(H:Hp) (T:List As) (K:Value→Prop),Sep ([pts p (aZu dp mo),Dk dp d]++T) H→K (.int .i64 (d.sec:Int))→ZQ prog 41 #[.pointer (some ⟨dp,0,none⟩)] H K:=fun H T K hs h=>ZQ.use (eZG hs 1 rfl) h
 have hsy:∀(H:Hp) (T:List As) (K:Value→Prop),Sep ([pts p (aZu dp mo),Dk dp d]++T) H→K (.int .i64 (d.size:Int))→ZQ prog 42 #[.pointer (some ⟨dp,0,none⟩)] H K:=fun H T K hs h=>ZQ.use (hZH hs 1 rfl) h
 have hof:∀(H:Hp) (K:Value→Prop),K (.tuple #[.agg (Lay.OfV k d.sec d.size).1,.int .i64 (Lay.OfV k d.sec d.size).2])→ZQ prog 70 #[.int .i64 k,.int .i64 (d.sec:Int),.int .i64 (d.size:Int)] H K:=fun H K h=>ZQ.use (Lay.eZB k d.sec d.size H) h
 have hS1:(Lay.OfV k d.sec d.size).1.size=17:=Sup.kZE k d.sec d.size
 repeat' first
  |exact j4 _ _ hs
  |refine hs.ld 0 (v:=.pointer (some ⟨dp,0,none⟩)) rfl rfl ?_
  |refine hsz _ [] _ hs ?_
  |refine hsy _ [] _ hs ?_
  |refine hsz _ [_] _ hs ?_
  |refine hsy _ [_] _ hs ?_
  |refine hof _ _ ?_
  |refine hs.nw fun b H hs=>?_
  |refine hs.stw 2 rfl rfl (Sup.kZE _ _ _) (Sup.pZE _ _ _) fun H hs=>?_
  |(simp only[HV];try simp only[HS])
  |refine⟨?_,?_⟩
theorem sZj (k p:Nat):Lay.bZJ k p=#[.int .i64 (k:Int),.int .i64 (p:Int),.int .i64 1,.int .i64 8,.int .i64 ((8*p:Nat):Int),.int .i64 9,.int .i64 (Lay.ZF k p:Int),.int .i64 ((2^k:Nat):Int),.int .i64 (9+(Lay.ZF k p:Int)),.int .i64 (Lay.ZF k p:Int),.int .i64 ((2^k:Nat):Int),.int .i64 (9+2*(Lay.ZF k p:Int)),.int .i64 (Lay.ZF k p:Int),.int .i64 ((2^k:Nat):Int),.int .i64 (9+3*(Lay.ZF k p:Int)),.int .i64 (Lay.ZF k p:Int),.int .i64 ((2^k:Nat):Int)]:=rfl
theorem pZY {dp:Nat}{d:D}{k ar:Nat}(hok:Ok d)(hg:Sup.aZ3 (k:Int) d.sec d.size (ar:Int)=true):
  Tr prog 43 #[.pointer (some ⟨dp,0,none⟩),.agg (Sup.bZo k d.sec d.size ar)] [Dk dp d] fun v M=>∃ mp ap rp,v= .tuple #[.pointer (some ⟨mp,0,none⟩),.int .i64 0]∧M=[pts mp (aZa ⟨k,d.sec,d.size,ar,bZh,0⟩ ap rp .none 0 0),Ar ap ar 0 [],pts rp (ZV dp 1 8 ((8*(d.size/8):Nat):Int)),Dk dp d]:=fun H hs=>by
 have hgo:=cZ7 hg;have hper:=dZ4 hgo.2.1;have hlay:Sup.aZ3 (k:Int) d.sec d.size (ar:Int)=true→(if Sup.aZ3 (k:Int) d.sec d.size (ar:Int)=true then Value.tuple #[.agg (Lay.bZJ (k:Int).toNat (Lay.ZD d.size)),.int .i64 0]else .tuple #[.agg Lay.mZi,.int .i64 1])= .tuple #[.agg (Lay.bZJ k (d.size/8)),.int .i64 0]:=fun h=>by rw[if_pos h,Int.toNat_natCast,hper.1]
 have hext:mZg d 1 8=true:=decide_eq_true (by have:=hgo.2.2.1;unfold Lay.bZs at this;omega);have hL:=Sup.mZz (k:Int) d.sec d.size (ar:Int);rw[hlay hg]at hL;apply bZE.ok;unfold bZE bZE.q1;refine hs.nw fun b1 H hs=>?_
 refine hs.ldw 1 rfl rfl ?_;refine Za.use (hL H) ?_;simp only[HV];refine hs.nw fun b2 H hs=>?_
 refine hs.stw 2 rfl rfl rfl rfl fun H hs=>?_;refine Zq rfl ?_
 try simp only[HS]
 refine hs.lda 2 (off:=2) (n:=3) rfl (by show 2+3≤17;omega) ?_;refine(Rng.dZp (p:=dp) (d:=d) hok 1 8 ((8*(d.size/8):Nat):Int) (by omega)).use hs [0] rfl rfl ?_;rintro _ _ H (⟨_,rp,rfl,rfl⟩|⟨h,_⟩) hs
 rotate_left
 ·rw[hext]at h;cases h
 simp only[HV];refine Zq rfl ?_;have hs:Sep [Dk dp d,pts rp (ZV dp 1 8 ((8*(d.size/8):Nat):Int)),pts b1 (.obj (.cells #[.int .i64 k,.int .i64 d.sec,.int .i64 d.size,.int .i64 ar] 27)),pts b2 (.obj (.cells (Lay.bZJ k (d.size/8)) 90))] H:=hs;rw[sZj]at hs
 try simp only[HS]
 refine hs.ld 2 (v:=.int .i64 (ar:Int)) rfl rfl ?_;simp only[HV];have fin:∀(mp ap:Nat) (T:List As) (H:Hp),Sep ([Ar ap ar 0 [],Dk dp d,pts rp (ZV dp 1 8 ((8*(d.size/8):Nat):Int))]++T++[pts mp (aZa ⟨k,d.sec,d.size,ar,bZh,0⟩ ap rp .none 0 0)]) H→
   ∃ M,(∃ mp' ap' rp',(Value.tuple #[.pointer (some ⟨mp,0,none⟩),.int .i64 0])= .tuple #[.pointer (some ⟨mp',0,none⟩),.int .i64 0]∧M=[pts mp' (aZa ⟨k,d.sec,d.size,ar,bZh,0⟩ ap' rp' .none 0 0),Ar ap' ar 0 [],pts rp' (ZV dp 1 8 ((8*(d.size/8):Nat):Int)),Dk dp d])∧Sep M H:=fun mp ap T H hs=>by
  have h1:Sep ([pts mp (aZa ⟨k,d.sec,d.size,ar,bZh,0⟩ ap rp .none 0 0)]++([Ar ap ar 0 [],Dk dp d,pts rp (ZV dp 1 8 ((8*(d.size/8):Nat):Int))]++T)) H:=Sep.perm List.perm_append_comm hs;have h2:Sep [pts mp (aZa ⟨k,d.sec,d.size,ar,bZh,0⟩ ap rp .none 0 0),Ar ap ar 0 [],Dk dp d,pts rp (ZV dp 1 8 ((8*(d.size/8):Nat):Int))] H:=Sep.take (L:=T) h1;exact⟨_,⟨mp,ap,rp,rfl,rfl⟩,h2.re [0,1,3,2] rfl⟩
 have har:(1:Int)≤(ar:Int)∧(ar:Int)≤16777216:=hgo.2.2.2
 repeat' first
  |exact fin _ _ [_,_] _ hs
  |refine hs.ldw 2 rfl rfl ?_
  |refine hs.ldw 3 rfl rfl ?_
  |refine hs.ldw 4 rfl rfl ?_
  |(refine(Are.dZp (ar:Int) har).use hs [] rfl rfl ?_;rintro _ _ H ⟨ap,rfl,rfl⟩ hs)
  |refine hs.nw fun b H hs=>?_
  |(simp only[HV];try simp only[HS])
  |refine⟨?_,?_⟩
theorem Sep.unit {L:List As}{H:Hp}{X:As}(hs:Hw.Sep L H)(hX:X fun _=>none):Hw.Sep (X::L) H:=⟨fun _=>none,H,fun _ _ h=>(nomatch h),Hp.le_refl _,fun _=>.inl rfl,hX,hs⟩
theorem En.ptr {p dp:Nat}{g:Option Eg}{L:List As}{H:Hp}(h:Sep (En p dp g::L) H):∃ mo X,Sep (pts p (aZu dp mo)::X::L) H∧∀ L' H',Sep (pts p (aZu dp mo)::X::L') H'→Sep (En p dp g::L') H':=by
 cases g with
 |none=>exact⟨none,fun _=>True,(Sep.unit (X:=fun _=>True) h trivial).swap,fun L' H' h=>h.swap.tail⟩
 |some e=>
  obtain⟨mp,h⟩:=En.open h;exact⟨some mp,Me mp dp e,h,fun L' H' h=>En.shut h⟩
theorem Me.bare {mp dp ap rp:Nat}{e:Eg}{L:List As}{H:Hp}(h:Sep ([pts mp (aZa e ap rp .none 0 0),Ar ap e.arena e.peak [],pts rp (ZV dp 1 8 ((8*e.per:Nat):Int))]++L) H)(hp:psE e=[]):Sep (Me mp dp e::L) H:=by
 have h1:Sep (Own 126 8 .none 0 0 []::([pts mp (aZa e ap rp .none 0 0),Ar ap e.arena e.peak [],pts rp (ZV dp 1 8 ((8*e.per:Nat):Int))]++L)) H:=Sep.unit h (Own.none _ _ _);have h2:Sep ([pts mp (aZa e ap rp .none 0 0),Ar ap e.arena e.peak [],pts rp (ZV dp 1 8 ((8*e.per:Nat):Int))]++(Own 126 8 .none 0 0 []::L)) H:=Sep.perm List.perm_middle.symm h1;refine Me.shut (ap:=ap) (rp:=rp) (A:=.none) (m:=0) ?_;unfold gZV;rw[hp];exact h2
theorem tZ7 {e:Eg}(h:e.r=bZh):psE e=[]:=by unfold psE;rw[if_neg (by rw[h];decide)]
theorem rZZ {d:D}(hpn:0<Lay.ZD (d.size:Int)){k words:Int}(h:bZG d.sec (d.size/8) k words=0):∃ kn wn:Nat,k=kn∧words=wn∧Sup.aZ3 kn d.sec d.size wn=true∧aZR kn (d.size/8)≤wn:=by
 have hper:=dZ4 hpn;unfold bZG at h;split at h
 ·cases h
 rename_i h1
 split at h
 ·cases h
 rename_i h2
 split at h
 ·cases h
 rename_i h3
 obtain⟨kn,rfl⟩:=Int.eq_ofNat_of_zero_le (show 0≤k by omega);obtain⟨wn,rfl⟩:=Int.eq_ofNat_of_zero_le (show 0≤words by omega);refine⟨kn,wn,rfl,rfl,decide_eq_true ?_,?_⟩
 ·rw[hper.1];have h2':¬(d.sec:Int)<Lay.bZs kn (d.size/8):=h2;refine⟨by omega,by omega,by omega,?_,by omega,by omega⟩;show(Lay.bZs kn (d.size/8):Int)≤d.sec
  omega
 ·have h3':¬(wn:Int)<aZR kn (d.size/8):=h3;omega
def nZE (p dp:Nat)(g:Option Eg)(d:D)(c:Cn)(k words:Int)(v:Value)(M:List As):Prop:=
 (bZG d.sec (d.size/8) k words≠0∧v= .int .i64 (bZG d.sec (d.size/8) k words)∧M=[En p dp g,Dk dp d])∨
 (∃ kn wn:Nat,k=kn∧words=wn∧bZG d.sec (d.size/8) k words=0∧
  ((∃ d' c',bZA d d' 0 10 3∧Clean d' c'∧Holds d.sec d.size (aZZ kn wn) c'∧v= .int .i64 0∧M=[En p dp (some (egM d (aZZ kn wn) 0)),Dk dp d'])∨
  (∃ d',Cut d d' 13∧Left d' (fun c'=>c'=c∨lZ7 d.size c'∨Holds d.sec d.size (aZZ kn wn) c')∧v= .int .i64 8∧M=[En p dp none,Dk dp d'])))
set_option maxHeartbeats 8000000 in
theorem mZy {p dp:Nat}{g:Option Eg}{d:D}{c:Cn}(hc:Clean d c)(hpn:0<Lay.ZD (d.size:Int))(ho:d.rd≤800000∧d.wr≤800000∧d.sy≤800000)(k words:Int):
  Tr prog 14 #[.pointer (some ⟨p,0,none⟩),.int .i64 k,.int .i64 words] [En p dp g,Dk dp d] (nZE p dp g d c k words):=fun H hs=>by
 have hok:=hc.ok;have hper:=dZ4 hpn;obtain⟨mo,X,hs,hback⟩:=En.ptr hs;apply Zd.ok;unfold Zd Zd.q5 Zd.q4 Zd.q3 Zd.q2 Zd.q2.q1 Zd.q1 Zd.q1.q2 Zd.q1.q1;refine hs.nw fun b1 H hs=>?_
 have hs:Sep [pts p (aZu dp mo),X,Dk dp d,pts b1 (.obj (.cells #[.pointer (some ⟨p,0,none⟩)] 36))] H:=hs;refine hs.ld 3 (v:=.pointer (some ⟨p,0,none⟩)) rfl rfl ?_;simp only[HV];refine(vZv (p:=p) (dp:=dp) (mo:=mo) hok hpn k words).use hs [0,2] rfl rfl ?_;rintro _ _ H ⟨rfl,rfl⟩ hs;simp only[HV];by_cases hfit:bZG d.sec (d.size/8) k words=0
 rotate_left
 ·exact ZA hfit ⟨_,.inl ⟨hfit,rfl,rfl⟩,hback [Dk dp d] _ (hs.re [0,2,1] rfl)⟩
 rw[hfit];refine Zq rfl ?_;obtain⟨kn,wn,rfl,rfl,hg,hlw⟩:=rZZ hpn hfit;have hgo:=cZ7 hg;have hneed:9≤d.sec:=by have:=hgo.2.2.1;unfold Lay.bZs at this;omega
 have hs:Sep [pts p (aZu dp mo),Dk dp d,X,pts b1 (.obj (.cells #[.pointer (some ⟨p,0,none⟩)] 36))] H:=hs;have hzl:(List.replicate d.size (0:UInt8)).length=d.size:=List.length_replicate;have bad:∀(H:Hp) (d':D),Sep [Dk dp d',pts p (aZu dp mo)] H→Cut d d' 13→Left d' (fun c'=>c'=c∨lZ7 d.size c'∨Holds d.sec d.size (aZZ kn wn) c')→
   Za prog 59 #[.pointer (some ⟨p,0,none⟩),.int .i64 8] H fun v H'=>v= .int .i64 8∧∃ M,nZE p dp g d c kn wn (.int .i64 8) M∧Sep M H':=fun H d' hs h1 h2=>by
  have hk:Za prog 59 #[.pointer (some ⟨p,0,none⟩),.int .i64 8] H fun v H'=>∃ M,(v= .int .i64 8∧M=[pts p (aZu dp none),Dk dp d'])∧Sep M H':=by
   apply bZk.ok;unfold bZk;refine ZS rfl ?_
   try simp only[HS]
   refine hs.st 1 rfl (by show 1<2;omega) rfl fun H hs=>?_;exact⟨_,⟨by first|rfl|trivial,rfl⟩,hs.re [1,0] rfl⟩
  refine Za.mono hk ?_;rintro _ H ⟨_,⟨rfl,rfl⟩,hs⟩;exact⟨rfl,_,.inr ⟨kn,wn,rfl,rfl,hfit,.inr ⟨d',h1,h2,rfl,rfl⟩⟩,hs⟩
 have j6:∀ mp ap rp b2 H,Sep [pts mp (aZa ⟨kn,d.sec,d.size,wn,bZh,0⟩ ap rp .none 0 0),Ar ap wn 0 [],pts rp (ZV dp 1 8 ((8*(d.size/8):Nat):Int)),Dk dp d,pts p (aZu dp mo),X,pts b1 (.obj (.cells #[.pointer (some ⟨p,0,none⟩)] 36)),pts b2 (.obj (.cells (Sup.bZo kn d.sec d.size wn) 27))] H→
   Zd.j6 (fun v H'=>∃ M,nZE p dp g d c kn wn v M∧Sep M H') ⟨b1,0,none⟩ ⟨b2,0,none⟩ (some ⟨mp,0,none⟩) 0 H:=fun mp ap rp b2 H hs=>by
  unfold Zd.j6;refine Zq rfl ?_;refine hs.ld 6 (v:=.pointer (some ⟨p,0,none⟩)) rfl rfl ?_;simp only[HV];refine hs.ld 6 (v:=.pointer (some ⟨p,0,none⟩)) rfl rfl ?_;simp only[HV]
  try simp only[HS]
  refine hs.ld 4 (v:=.pointer (some ⟨dp,0,none⟩)) rfl rfl ?_;simp only[HV]
  try simp only[HS]
  refine hs.ld 0 (v:=.pointer (some ⟨rp,0,none⟩)) rfl rfl ?_;simp only[HV];refine hs.nw fun b3 H hs=>?_
  have hres1:bZv prog 44=[40]:=by kernel_rfl
  have hres2:bZv prog 47=[40]:=by kernel_rfl
  have hres3:bZv prog 48=[40]:=by kernel_rfl
  have hres4:bZv prog 49=[40]:=by kernel_rfl
  apply ZH.ok;unfold ZH;refine⟨5,?_⟩;unfold ZH.l2;refine Zn (by decide) ⟨by decide,by decide,?_⟩;simp only[HV];refine hs.ldr 8 (v:=.func (.func 44) #[] #[.pointer (some ⟨b1,0,none⟩)]) rfl rfl ?_;refine dZJ.go (by kernel_rfl) ?_;rw[hres1];have hsz32:=hok.size;have f1:∀(A3:As) (H:Hp),Sep [pts mp (aZa ⟨kn,d.sec,d.size,wn,bZh,0⟩ ap rp .none 0 0),Ar ap wn 0 [],pts rp (ZV dp 1 8 ((8*(d.size/8):Nat):Int)),Dk dp d,pts p (aZu dp mo),X,pts b1 (.obj (.cells #[.pointer (some ⟨p,0,none⟩)] 36)),pts b2 (.obj (.cells (Sup.bZo kn d.sec d.size wn) 27)),A3] H→Za prog 44 #[.pointer (some ⟨b1,0,none⟩)] H fun v H=>v= .int .i64 (d.writeE 0 d.size)∧Sep [Dk dp (d.writeD 0 (List.replicate d.size 0)),pts mp (aZa ⟨kn,d.sec,d.size,wn,bZh,0⟩ ap rp .none 0 0),Ar ap wn 0 [],pts rp (ZV dp 1 8 ((8*(d.size/8):Nat):Int)),pts p (aZu dp mo),X,pts b1 (.obj (.cells #[.pointer (some ⟨p,0,none⟩)] 36)),pts b2 (.obj (.cells (Sup.bZo kn d.sec d.size wn) 27)),A3] H:=fun A3 H hs=>by
   apply cZh.ok;unfold cZh;simp only[HV];refine hs.ld 6 (v:=.pointer (some ⟨p,0,none⟩)) rfl rfl ?_;simp only[HV]
   try simp only[HS]
   refine hs.ld 4 (v:=.pointer (some ⟨dp,0,none⟩)) rfl rfl ?_;simp only[HV]
   try simp only[HS]
   refine ZQ.use (hZH hs 3 rfl) ?_;simp only[HV];have wr1:∀(b4:Nat) (H:Hp),Sep [pts mp (aZa ⟨kn,d.sec,d.size,wn,bZh,0⟩ ap rp .none 0 0),Ar ap wn 0 [],pts rp (ZV dp 1 8 ((8*(d.size/8):Nat):Int)),Dk dp d,pts p (aZu dp mo),X,pts b1 (.obj (.cells #[.pointer (some ⟨p,0,none⟩)] 36)),pts b2 (.obj (.cells (Sup.bZo kn d.sec d.size wn) 27)),A3,pts b4 (.row (aZv [Value.int .u8 0] d.size) 5 (d.size*1))] H→
     Za prog 45 #[.pointer (some ⟨dp,0,none⟩),.int .i64 0,.slice (some ⟨b4,0,none⟩) d.size d.size] H fun v H=>v= .int .i64 (d.writeE 0 d.size)∧Sep [Dk dp (d.writeD 0 (List.replicate d.size 0)),pts mp (aZa ⟨kn,d.sec,d.size,wn,bZh,0⟩ ap rp .none 0 0),Ar ap wn 0 [],pts rp (ZV dp 1 8 ((8*(d.size/8):Nat):Int)),pts p (aZu dp mo),X,pts b1 (.obj (.cells #[.pointer (some ⟨p,0,none⟩)] 36)),pts b2 (.obj (.cells (Sup.bZo kn d.sec d.size wn) 27)),A3] H:=fun b4 H hs=>by
    rw[eZ8]at hs;refine(eZc (p:=dp) (d:=d) hok (by omega) 0 (some ⟨b4,0,none⟩) d.size d.size (List.replicate d.size 0) hzl.symm (pts b4 (.row (Zm (List.replicate d.size 0)) 5 (d.size*1))) (fun H h=>?_)).use hs [3,9] rfl rfl ?_
    ·have:=Cells.row h 0 d.size;rw[List.drop_zero,List.take_of_length_le (by rw[ZL,hzl];exact Nat.le_refl _)]at this;exact this
    rintro _ _ H ⟨rfl,rfl⟩ hs;exact⟨rfl,hs.re [0,2,3,4,5,6,7,8,9] rfl⟩
   have done:∀(v:Value) (H:Hp),(v= .int .i64 (d.writeE 0 d.size)∧Sep [Dk dp (d.writeD 0 (List.replicate d.size 0)),pts mp (aZa ⟨kn,d.sec,d.size,wn,bZh,0⟩ ap rp .none 0 0),Ar ap wn 0 [],pts rp (ZV dp 1 8 ((8*(d.size/8):Nat):Int)),pts p (aZu dp mo),X,pts b1 (.obj (.cells #[.pointer (some ⟨p,0,none⟩)] 36)),pts b2 (.obj (.cells (Sup.bZo kn d.sec d.size wn) 27)),A3] H)→DI .i64 v fun x1=>(Value.int .i64 x1= .int .i64 (d.writeE 0 d.size)∧Sep [Dk dp (d.writeD 0 (List.replicate d.size 0)),pts mp (aZa ⟨kn,d.sec,d.size,wn,bZh,0⟩ ap rp .none 0 0),Ar ap wn 0 [],pts rp (ZV dp 1 8 ((8*(d.size/8):Nat):Int)),pts p (aZu dp mo),X,pts b1 (.obj (.cells #[.pointer (some ⟨p,0,none⟩)] 36)),pts b2 (.obj (.cells (Sup.bZo kn d.sec d.size wn) 27)),A3] H):=fun v H ⟨h1,h2⟩=>by
    subst h1;simp only[HV];exact⟨by trivial,h2⟩
   repeat' first
    |exact Za.mono (wr1 _ _ hs) done
    |refine hs.ld 6 (v:=.pointer (some ⟨p,0,none⟩)) rfl rfl ?_
    |refine hs.ld 4 (v:=.pointer (some ⟨dp,0,none⟩)) rfl rfl ?_
    |refine hs.mks eZv rfl (n:=d.size) (m:=d.size) rfl rfl (Nat.le_refl _) (by omega) (by omega) fun b4 H hs=>?_
    |(simp only[HV];try simp only[HS])
    |refine⟨?_,?_⟩
  have hp1:=jZF hc 0 (by omega) (List.replicate d.size 0) hzl;have bare0:∀ c:Cn,lZ7 d.size (bZx c (0:Nat) (List.replicate d.size 0)):=fun c=>kZh c 0 _
  refine Za.mono (f1 _ H hs) ?_;rintro _ H ⟨rfl,hs⟩;refine eZq _ _ ?_;simp only[HV];by_cases hw1:d.writeE 0 d.size=0
  rotate_left
  ·have e1:hZa d (0:Nat) (List.replicate d.size 0)=(d.writeE 0 d.size,d.writeD 0 (List.replicate d.size 0)):=by unfold hZa;exact if_pos hw1
   rw[e1]at hp1;rcases hp1 with⟨d',⟨h,_⟩|⟨h,hcut,hleft⟩⟩
   ·exact absurd (congrArg Prod.fst h) hw1
   ·have h8:=congrArg Prod.fst h;have hd:=congrArg Prod.snd h;simp only at h8 hd;rw[h8];rw[hd]at hs;refine ZA (by decide) ?_;refine Za.mono (bad H d' (hs.re [0,4] rfl) (hcut.more (by omega)) (hleft.mono fun c' h=>?_)) ?_
    ·rcases h with e|e
     ·exact .inl e
     ·right;left;rw[e];exact bare0 c
    ·rintro _ H ⟨rfl,M,h,hs⟩;simp only[HV];exact⟨M,h,hs⟩
  refine Zq hw1 ?_;rw[show i64.wrap ((0:Int)+1)=1 by kernel_rfl];unfold ZH.l2;refine Zn (by decide) ⟨by decide,by decide,?_⟩;simp only[HV];refine hs.ldr 8 (v:=.func (.func 47) #[.pointer (some ⟨dp,0,none⟩)] #[]) rfl rfl ?_;refine dZJ.go (by kernel_rfl) ?_;rw[hres2];have hwd:(d.writeD 0 (List.replicate d.size 0)).sy=d.sy:=(nZp d 0 _).1;have hwok:Ok (d.writeD 0 (List.replicate d.size 0)):=Ok.writeD hok 0 _;have e1:hZa d (0:Nat) (List.replicate d.size 0)=((d.writeD 0 (List.replicate d.size 0)).syncE,(d.writeD 0 (List.replicate d.size 0)).syncD):=by unfold hZa;exact if_neg (fun h=>h hw1)
  rw[e1]at hp1;have sy1:∀(A3:As) (H:Hp),Sep [Dk dp (d.writeD 0 (List.replicate d.size 0)),pts mp (aZa ⟨kn,d.sec,d.size,wn,bZh,0⟩ ap rp .none 0 0),Ar ap wn 0 [],pts rp (ZV dp 1 8 ((8*(d.size/8):Nat):Int)),pts p (aZu dp mo),X,pts b1 (.obj (.cells #[.pointer (some ⟨p,0,none⟩)] 36)),pts b2 (.obj (.cells (Sup.bZo kn d.sec d.size wn) 27)),A3] H→Za prog 47 #[.pointer (some ⟨dp,0,none⟩)] H fun v H=>v= .int .i64 (d.writeD 0 (List.replicate d.size 0)).syncE∧Sep [Dk dp (d.writeD 0 (List.replicate d.size 0)).syncD,pts mp (aZa ⟨kn,d.sec,d.size,wn,bZh,0⟩ ap rp .none 0 0),Ar ap wn 0 [],pts rp (ZV dp 1 8 ((8*(d.size/8):Nat):Int)),pts p (aZu dp mo),X,pts b1 (.obj (.cells #[.pointer (some ⟨p,0,none⟩)] 36)),pts b2 (.obj (.cells (Sup.bZo kn d.sec d.size wn) 27)),A3] H:=fun A3 H hs=>by
   refine(hZz (p:=dp) (d:=d.writeD 0 (List.replicate d.size 0)) hwok (by rw[hwd];omega)).use hs [0] rfl rfl ?_;rintro _ _ H ⟨rfl,rfl⟩ hs;exact⟨rfl,hs⟩
  refine Za.mono (sy1 _ H hs) ?_;rintro _ H ⟨rfl,hs⟩;refine eZq _ _ ?_;simp only[HV];rcases hp1 with⟨d1,⟨h,hw1',hc1⟩|⟨h,hcut,hleft⟩⟩
  rotate_left
  ·have h8:=congrArg Prod.fst h;have hd:=congrArg Prod.snd h;simp only at h8 hd;rw[h8];rw[hd]at hs;refine ZA (by decide) ?_;refine Za.mono (bad H d1 (hs.re [0,4] rfl) (hcut.more (by omega)) (hleft.mono fun c' h=>?_)) ?_
   ·rcases h with e|e
    ·exact .inl e
    ·right;left;rw[e];exact bare0 c
   ·rintro _ H ⟨rfl,M,h,hs⟩;simp only[HV];exact⟨M,h,hs⟩
  have h8:=congrArg Prod.fst h;have hd:=congrArg Prod.snd h;simp only at h8 hd;rw[h8];rw[hd]at hs;clear h8 hd h e1;refine Zq rfl ?_;rw[show i64.wrap ((1:Int)+1)=2 by kernel_rfl];unfold ZH.l2;refine Zn (by decide) ⟨by decide,by decide,?_⟩;simp only[HV];refine hs.ldr 8 (v:=.func (.func 48) #[.pointer (some ⟨rp,0,none⟩)] #[]) rfl rfl ?_;refine dZJ.go (by kernel_rfl) ?_;rw[hres3];have hrd1:=hw1'.rd;have hwr1:=hw1'.wr;have hsy1:=hw1'.sy;have hsec1:=hw1'.sec;have hsize1:=hw1'.size;generalize hcc1:bZx c (0:Nat) (List.replicate d.size 0)=c1 at*;have hb1:lZ7 d.size c1:=by rw[← hcc1];exact bare0 c
  have cl1:∀(A3:As) (H:Hp),Sep [Dk dp d1,pts mp (aZa ⟨kn,d.sec,d.size,wn,bZh,0⟩ ap rp .none 0 0),Ar ap wn 0 [],pts rp (ZV dp 1 8 ((8*(d.size/8):Nat):Int)),pts p (aZu dp mo),X,pts b1 (.obj (.cells #[.pointer (some ⟨p,0,none⟩)] 36)),pts b2 (.obj (.cells (Sup.bZo kn d.sec d.size wn) 27)),A3] H→Za prog 48 #[.pointer (some ⟨rp,0,none⟩)] H fun v H=>v= .int .i64 (iZU 1 8 0 d1).1∧Sep [Dk dp (iZU 1 8 0 d1).2,pts mp (aZa ⟨kn,d.sec,d.size,wn,bZh,0⟩ ap rp .none 0 0),Ar ap wn 0 [],pts rp (ZV dp 1 8 ((8*(d.size/8):Nat):Int)),pts p (aZu dp mo),X,pts b1 (.obj (.cells #[.pointer (some ⟨p,0,none⟩)] 36)),pts b2 (.obj (.cells (Sup.bZo kn d.sec d.size wn) 27)),A3] H:=fun A3 H hs=>by
   refine(tZm (b:=rp) (p:=dp) (f:=1) (n:=8) (w:=((8*(d.size/8):Nat):Int)) (by omega) hc1.ok (by omega) (by omega)).use hs [0,3] rfl rfl ?_;rintro _ _ H ⟨rfl,rfl⟩ hs;exact⟨rfl,hs.re [0,2,3,1,4,5,6,7,8] rfl⟩
  refine Za.mono (cl1 _ H hs) ?_;rintro _ H ⟨rfl,hs⟩;refine eZq _ _ ?_;simp only[HV];have hnot0:¬inF 8 0:=fun h=>by have:=h.1;omega
  rcases mZK hc1 (n:=8) (by rw[hsec1];omega) 8 0 d1 rfl (Prog.refl _ hc1.ok hc1.down) (fun j hj=>absurd hj (by omega))with⟨d2,c2,h,hw2,hc2,hsam2,hz2⟩|⟨d2,h,hcut,hleft⟩
  rotate_left
  ·rw[h]at hs⊢;refine ZA (show(8:Int)≠0 by decide) ?_;refine Za.mono (bad H d2 (hs.re [0,4] rfl) ((hw1'.cut hcut).more (by omega)) (hleft.mono fun c' h=>?_)) ?_
   ·right;left;show c' 0=_
    rw[h 0 hnot0];exact hb1
   ·rintro _ H ⟨rfl,M,h,hs⟩;simp only[HV];exact⟨M,h,hs⟩
  rw[h]at hs⊢;refine Zq rfl ?_;rw[show i64.wrap ((2:Int)+1)=3 by kernel_rfl];unfold ZH.l2;refine Zn (by decide) ⟨by decide,by decide,?_⟩;simp only[HV];refine hs.ldr 8 (v:=.func (.func 49) #[] #[.pointer (some ⟨b1,0,none⟩),.pointer (some ⟨b2,0,none⟩)]) rfl rfl ?_;refine dZJ.go (by kernel_rfl) ?_;rw[hres4];have hrd2:=hw2.rd;have hwr2:=hw2.wr;have hsy2:=hw2.sy;have hsec2:=hw2.sec;have hsize2:=hw2.size;have hs2:d2.size=d.size:=hsize2.trans hsize1;have hc20:lZ7 d.size c2:=by show c2 0=_;rw[hsam2 0 hnot0];exact hb1
  have hfl:(Sup.bZY kn d.sec d.size wn).length=d2.size:=by have:=Sup.iZ9 kn d.sec d.size wn hpn;omega
  have hwv:Sup.wrV d2 kn d.sec d.size wn=hZa d2 (0:Nat) (Sup.bZY kn d.sec d.size wn):=by
   have e0:Sup.ofB d2 d.sec d.size=true:=decide_eq_true ⟨by rw[hsec2,hsec1],by rw[hs2]⟩;unfold Sup.wrV hZa;rw[if_neg (by rw[hg,e0];simp),Int.toNat_natCast,←hs2];rfl
  have hnew:Holds d.sec d.size (aZZ kn wn) (bZx c2 (0:Nat) (Sup.bZY kn d.sec d.size wn)):=by
   refine qZT hg hlw (kZh c2 0 _) fun j hj=>?_
   rw[iZL _ _ (by omega),hz2 j hj,hsize1]
  have f2:∀(A3:As) (H:Hp),Sep [Dk dp d2,pts mp (aZa ⟨kn,d.sec,d.size,wn,bZh,0⟩ ap rp .none 0 0),Ar ap wn 0 [],pts rp (ZV dp 1 8 ((8*(d.size/8):Nat):Int)),pts p (aZu dp mo),X,pts b1 (.obj (.cells #[.pointer (some ⟨p,0,none⟩)] 36)),pts b2 (.obj (.cells (Sup.bZo kn d.sec d.size wn) 27)),A3] H→Za prog 49 #[.pointer (some ⟨b1,0,none⟩),.pointer (some ⟨b2,0,none⟩)] H fun v H=>v= .int .i64 (hZa d2 (0:Nat) (Sup.bZY kn d.sec d.size wn)).1∧Sep [Dk dp (hZa d2 (0:Nat) (Sup.bZY kn d.sec d.size wn)).2,pts mp (aZa ⟨kn,d.sec,d.size,wn,bZh,0⟩ ap rp .none 0 0),Ar ap wn 0 [],pts rp (ZV dp 1 8 ((8*(d.size/8):Nat):Int)),pts p (aZu dp mo),X,pts b1 (.obj (.cells #[.pointer (some ⟨p,0,none⟩)] 36)),pts b2 (.obj (.cells (Sup.bZo kn d.sec d.size wn) 27)),A3] H:=fun A3 H hs=>by
   apply cZi.ok;unfold cZi;simp only[HV];refine hs.ld 6 (v:=.pointer (some ⟨p,0,none⟩)) rfl rfl ?_;simp only[HV]
   try simp only[HS]
   refine hs.ld 4 (v:=.pointer (some ⟨dp,0,none⟩)) rfl rfl ?_;simp only[HV];refine hs.ldw 7 rfl rfl ?_
   try simp only[Array.toArray_toList]
   refine(Sup.sZQ (p:=dp) (d:=d2) hc2.ok (by omega) kn d.sec d.size wn (by have:=hok.sec;omega)).use hs [0] rfl rfl ?_;rintro _ _ H ⟨rfl,rfl⟩ hs;rw[hwv]at hs⊢;simp only[HV];exact⟨by trivial,hs⟩
  refine Za.mono (f2 _ H hs) ?_;rintro _ H ⟨rfl,hs⟩;refine eZq _ _ ?_;simp only[HV];rcases jZF hc2 0 (by rw[hsec2,hsec1];omega) (Sup.bZY kn d.sec d.size wn) hfl with⟨d3,⟨h,hw3,hc3⟩|⟨h,hcut,hleft⟩⟩
  rotate_left
  ·rw[h]at hs⊢;refine ZA (show(8:Int)≠0 by decide) ?_;refine Za.mono (bad H d3 (hs.re [0,4] rfl) (((hw1'.trans hw2).cut hcut).more (by omega)) (hleft.mono fun c' h=>?_)) ?_
   ·rcases h with e|e
    ·right;left;rw[e];exact hc20
    ·right;right;rw[e];exact hnew
   ·rintro _ H ⟨rfl,M,h,hs⟩;simp only[HV];exact⟨M,h,hs⟩
  rw[h]at hs⊢;refine Zq rfl ?_;rw[show i64.wrap ((3:Int)+1)=4 by kernel_rfl];unfold ZH.l2;refine Zh (by decide) ?_;simp only[HV];refine ZS rfl ?_;refine hs.ld 6 (v:=.pointer (some ⟨p,0,none⟩)) rfl rfl ?_;simp only[HV]
  try simp only[HS]
  refine hs.st 4 rfl (by show 1<2;omega) rfl fun H hs=>?_;refine⟨_,.inr ⟨kn,wn,rfl,rfl,hfit,.inl ⟨d3,_,(hw1'.trans hw2).trans hw3,hc3,hnew,rfl,rfl⟩⟩,?_⟩;refine En.shut (mp:=mp) (e:=egM d (aZZ kn wn) 0) (L:=[Dk dp d3]) ?_;exact(Me.bare (ap:=ap) (rp:=rp) (e:=egM d (aZZ kn wn) 0) (L:=[pts p (aZu dp (some mp)),Dk dp d3]) (hs.re [1,2,3,4,0] rfl) (tZ7 rfl)).swap
 have fo:∀(H:Hp) (b2:Nat),Sep [pts p (aZu dp mo),Dk dp d,X,pts b1 (.obj (.cells #[.pointer (some ⟨p,0,none⟩)] 36)),pts b2 (.obj (.cells (Sup.bZo kn d.sec d.size wn) 27))] H→Za prog 43 #[.pointer (some ⟨dp,0,none⟩),.agg (Sup.bZo kn d.sec d.size wn)] H fun v H=>∃ mp ap rp,v= .tuple #[.pointer (some ⟨mp,0,none⟩),.int .i64 0]∧Sep [pts mp (aZa ⟨kn,d.sec,d.size,wn,bZh,0⟩ ap rp .none 0 0),Ar ap wn 0 [],pts rp (ZV dp 1 8 ((8*(d.size/8):Nat):Int)),Dk dp d,pts p (aZu dp mo),X,pts b1 (.obj (.cells #[.pointer (some ⟨p,0,none⟩)] 36)),pts b2 (.obj (.cells (Sup.bZo kn d.sec d.size wn) 27))] H:=fun H b2 hs=>by
  refine(pZY (dp:=dp) hok hg).use hs [1] rfl rfl ?_;rintro _ _ H ⟨mp,ap,rp,rfl,rfl⟩ hs;exact⟨mp,ap,rp,rfl,hs⟩
 have j5:∀ b2 H,Sep [pts p (aZu dp mo),Dk dp d,X,pts b1 (.obj (.cells #[.pointer (some ⟨p,0,none⟩)] 36)),pts b2 (.obj (.cells (Sup.bZo kn d.sec d.size wn) 27))] H→
   Zd.j5 (fun v H'=>∃ M,nZE p dp g d c kn wn v M∧Sep M H') ⟨b1,0,none⟩ ⟨b2,0,none⟩ H:=fun b2 H hs=>by
  unfold Zd.j5 Zd.j5.q1
  repeat' first
   |(refine Za.mono (fo _ _ hs) ?_;rintro _ H ⟨mp,ap,rp,rfl,hs⟩;simp only[HV];exact j6 mp ap rp _ H hs)
   |refine hs.ld 3 (v:=.pointer (some ⟨p,0,none⟩)) rfl rfl ?_
   |refine hs.ld 0 (v:=.pointer (some ⟨dp,0,none⟩)) rfl rfl ?_
   |refine hs.ldw 4 rfl rfl ?_
   |(simp only[HV];try simp only[aZY,Addr.add_lit',Addr.add_zero,Nat.zero_add,Nat.add_zero,Array.toArray_toList])
   |refine⟨?_,?_⟩
 have hsz:∀(H:Hp) (T:List As) (K:Value→Prop),Sep ([pts p (aZu dp mo),Dk dp d,X,pts b1 (.obj (.cells #[.pointer (some ⟨p,0,none⟩)] 36))]++T) H→K (.int .i64 (d.sec:Int))→ZQ prog 41 #[.pointer (some ⟨dp,0,none⟩)] H K:=fun H T K hs h=>ZQ.use (eZG hs 1 rfl) h
 have hsy:∀(H:Hp) (T:List As) (K:Value→Prop),Sep ([pts p (aZu dp mo),Dk dp d,X,pts b1 (.obj (.cells #[.pointer (some ⟨p,0,none⟩)] 36))]++T) H→K (.int .i64 (d.size:Int))→ZQ prog 42 #[.pointer (some ⟨dp,0,none⟩)] H K:=fun H T K hs h=>ZQ.use (hZH hs 1 rfl) h
 repeat' first
  |exact j5 _ _ hs
  |refine hs.ld 3 (v:=.pointer (some ⟨p,0,none⟩)) rfl rfl ?_
  |refine hs.ld 0 (v:=.pointer (some ⟨dp,0,none⟩)) rfl rfl ?_
  |refine hsz _ [] _ hs ?_
  |refine hsy _ [] _ hs ?_
  |refine hsz _ [_] _ hs ?_
  |refine hsy _ [_] _ hs ?_
  |refine hs.nw fun b H hs=>?_
  |refine hs.stw 4 rfl rfl rfl rfl fun H hs=>?_
  |(simp only[HV];try simp only[HS])
  |refine⟨?_,?_⟩
theorem pZt {p:Nat}{d:D}{c:Cn}(hc:Clean d c)(ho:d.rd≤1000000):
  Tr prog 64 #[.pointer (some ⟨p,0,none⟩)] [Dk p d] fun v M=>(d.fuse≠1∧v= .tuple #[.agg (Sup.sbV (Sup.rdV d (c 0)).1),.int .i64 (Sup.rdV d (c 0)).2]∧M=[Dk p (D.rdG d 1)])∨(d.fuse=1∧v= .tuple #[.agg (Sup.bZo 0 0 0 0),.int .i64 8]∧M=[Dk p (D.dead d)]):=fun H hs=>by
 have hok:=hc.ok;have hsec:=hok.sec;have hchk:d.chk 0=0:=gZu hc.down (Int.le_refl _) (by omega);by_cases hf:d.fuse=1
 ·have hbn:d.burns=true:=by unfold D.burns;simp[hf]
  apply dZX.ok;unfold dZX;refine hs.nw fun b1 H hs=>?_
  refine(jZ2 (p:=p) (d:=d) hok (by omega) 0).use hs [0] rfl rfl ?_;rintro _ _ H (⟨h,_,_⟩|⟨_,_,rfl,rfl⟩|⟨_,h,_⟩) hs
  ·exact absurd hchk h
  ·simp only[HV];refine ZA (by decide) ?_;refine hs.stw 1 rfl rfl rfl rfl fun H hs=>?_;refine hs.ldw 1 rfl rfl ?_;rw[eZI hf]at hs;exact⟨_,.inr ⟨hf,rfl,rfl⟩,hs.re [0] rfl⟩
  ·rw[hbn]at h;cases h
 ·have hbn:d.burns=false:=by unfold D.burns;exact decide_eq_false hf
  have e:({ d.burnt with rd:=d.rd+1}:D)=D.rdG d 1:=by rw[eZf hc.down hf];rfl
  refine Za.mono (Sup.uZd hok ho hchk hbn H hs) ?_;rintro v H ⟨M,⟨rfl,rfl⟩,hs⟩;rw[e]at hs;rw[hc.now];exact⟨_,.inl ⟨hf,rfl,rfl⟩,hs⟩
def wZ6 (p dp:Nat)(d:D)(c:Cn)(o:Option Mn)(v:Value)(M:List As):Prop:=
 (∃ d',o=none∧bZA d d' 1 0 0∧Clean d' c∧v= .int .i64 11∧M=[En p dp none,Dk dp d'])∨
 (∃ d' m,o=some m∧bZA d d' 9 0 0∧Clean d' c∧v= .int .i64 0∧M=[En p dp (some (egM d m 0)),Dk dp d'])∨
 (∃ d',Cut d d' 9∧(o=none→d.fuse=1)∧Left d' (fun c'=>c'=c)∧v= .int .i64 8∧M=[En p dp none,Dk dp d'])
theorem Cut.dead {d:D}{c:Cn}(hc:Clean d c)(hf:d.fuse=1):Cut d (D.dead d) 1∧Left (D.dead d) (fun c'=>c'=c):=by
 have h1:=Cut.rdG hc (j:=0) (n:=1) hf (by omega);have h2:=Left.rdG hc 0;rw[oZR]at h1 h2;exact⟨h1,h2⟩
set_option maxHeartbeats 4000000 in
theorem lZe {p dp:Nat}{g:Option Eg}{d:D}{c:Cn}(hc:Clean d c)(hpn:0<Lay.ZD (d.size:Int))(ho:d.rd≤800000∧d.wr≤800000∧d.sy≤800000){o:Option Mn}(hh:xZG d.sec d.size o c):
  Tr prog 30 #[.pointer (some ⟨p,0,none⟩)] [En p dp g,Dk dp d] (wZ6 p dp d c o):=fun H hs=>by
 have hok:=hc.ok;have hper:=dZ4 hpn;obtain⟨mo,X,hs,hback⟩:=En.ptr hs;have chk8:∀(T:List As) (H:Hp) (K:VK),Sep ([pts p (aZu dp mo)]++T) H→(∀ H,Sep ([pts p (aZu dp none)]++T) H→K (.int .i64 8) H)→Za prog 59 #[.pointer (some ⟨p,0,none⟩),.int .i64 8] H K:=fun T H K hs hk=>by
  apply bZk.ok;unfold bZk;refine ZS rfl ?_
  try simp only[HS]
  refine hs.st 0 rfl (by show 1<2;omega) rfl fun H hs=>?_;exact hk H hs
 apply aZo.ok;unfold aZo
 try simp only[HS]
 refine hs.ld 0 (v:=.pointer (some ⟨dp,0,none⟩)) rfl rfl ?_;simp only[HV];refine(pZt (p:=dp) hc (by omega)).use hs [2] rfl rfl ?_;rintro _ _ H (⟨hf,rfl,rfl⟩|⟨hf,rfl,rfl⟩) hs
 rotate_left
 ·simp only[HV];refine hs.nw fun b1 H hs=>?_
  refine hs.stw 3 rfl rfl rfl rfl fun H hs=>?_;refine ZS rfl ?_;obtain⟨h1,h2⟩:=Cut.dead hc hf;refine chk8 [Dk dp (D.dead d)] H _ (hs.re [1,0] rfl) fun H hs=>?_;simp only[HV];exact⟨_,.inr (.inr ⟨_,h1.more (by omega),fun _=>hf,h2,rfl,rfl⟩),hs⟩
 have hgo1:d.fuse=0∨1<d.fuse:=by omega
 have hw1:=bZA.rdG hgo1;have hc1:=hc.rdG 1;cases o with
 |none=>
  have h0:c 0=List.replicate d.size 0:=hh;have e:Sup.rdV d (c 0)=((0,0,0,0),10):=by
   unfold Sup.rdV;rw[h0,Sup.rZg d.size hpn];rfl
  rw[e];simp only[HV];refine hs.nw fun b1 H hs=>?_
  refine hs.stw 3 rfl rfl rfl rfl fun H hs=>?_;refine aZg (by decide) (ZA (by decide) ?_)
  try simp only[HS]
  refine hs.st 1 rfl (by show 1<2;omega) rfl fun H hs=>?_;exact⟨_,.inl ⟨_,rfl,hw1,hc1,rfl,rfl⟩,hs.re [1,0] rfl⟩
 |some m=>
  have hh:Holds d.sec d.size m c:=hh;have hgo:=cZ7 hh.good;have hneed:9≤d.sec:=by have:=hgo.2.2.1;unfold Lay.bZs at this;omega
  have hsec:=hok.sec;have e:Sup.rdV d (c 0)=(((m.most:Int),(d.sec:Int),(d.size:Int),(m.arena:Int)),0):=by
   unfold Sup.rdV;rw[hh.sup,Sup.rZf _ _ _ _ hh.good (by omega),if_neg (by simp)];exact if_pos (show Sup.ofB d d.sec d.size=true from decide_eq_true ⟨rfl,rfl⟩)
  rw[e];simp only[HV];refine hs.nw fun b1 H hs=>?_
  refine hs.stw 3 rfl rfl rfl rfl fun H hs=>?_;refine aZg (by decide) (Zq rfl ?_);generalize hd1:D.rdG d 1=d1 at*;have hsec1:d1.sec=d.sec:=hw1.sec;have hsize1:d1.size=d.size:=hw1.size;have hh1:Holds d1.sec d1.size m c:=by rw[hsec1,hsize1];exact hh
  have hs:Sep [Dk dp d1,pts p (aZu dp mo),X,pts b1 (.obj (.cells (Sup.bZo m.most d.sec d.size m.arena) 27))] H:=hs;have fo:∀(H:Hp),Sep [Dk dp d1,pts p (aZu dp mo),X,pts b1 (.obj (.cells (Sup.bZo m.most d.sec d.size m.arena) 27))] H→Za prog 43 #[.pointer (some ⟨dp,0,none⟩),.agg (Sup.bZo m.most d.sec d.size m.arena)] H fun v H=>∃ mp ap rp,v= .tuple #[.pointer (some ⟨mp,0,none⟩),.int .i64 0]∧Sep [pts mp (aZa ⟨m.most,d.sec,d.size,m.arena,bZh,0⟩ ap rp .none 0 0),Ar ap m.arena 0 [],pts rp (ZV dp 1 8 ((8*(d.size/8):Nat):Int)),Dk dp d1,pts p (aZu dp mo),X] H:=fun H hs=>by
   rw[← hsec1,←hsize1]at hs⊢;refine(pZY (dp:=dp) hc1.ok hh1.good).use hs [0] rfl rfl ?_;rintro _ _ H ⟨mp,ap,rp,rfl,rfl⟩ hs;exact⟨mp,ap,rp,rfl,hs.re [0,1,2,3,4,5] rfl⟩
  have j8:∀ mp ap rp H,Sep [pts mp (aZa ⟨m.most,d.sec,d.size,m.arena,bZh,0⟩ ap rp .none 0 0),Ar ap m.arena 0 [],pts rp (ZV dp 1 8 ((8*(d.size/8):Nat):Int)),Dk dp d1,pts p (aZu dp mo),X] H→
    aZo.j8 (fun v H'=>∃ M,wZ6 p dp d c (some m) v M∧Sep M H') (some ⟨p,0,none⟩) 0 (some ⟨mp,0,none⟩) H:=fun mp ap rp H hs=>by
   unfold aZo.j8;refine Zq rfl ?_
   try simp only[HS]
   refine hs.ld 0 (v:=.pointer (some ⟨rp,0,none⟩)) rfl rfl ?_;simp only[HV];have hrd1:=hw1.rd;refine(pZB (b:=rp) (p:=dp) (f:=1) (n:=8) (w:=((8*(d.size/8):Nat):Int)) (d:=d1) (by omega) (by omega) hc1.ok (by omega) (fun _=>by
    have:=jZK 1 8 8 0 d1 [];have h9:(aZT 1 8 d1).2.2.length≤0+8:=this;omega)).use hs [3,2] rfl rfl ?_
   rintro _ _ H ⟨rfl,rfl⟩ hs;have hs:Sep [Dk dp (aZT 1 8 d1).2.1,pts rp (ZV dp 1 8 ((8*(d.size/8):Nat):Int)),pts mp (aZa ⟨m.most,d.sec,d.size,m.arena,bZh,0⟩ ap rp .none 0 0),Ar ap m.arena 0 [],pts p (aZu dp mo),X] H:=hs;simp only[HV];refine hs.nw fun b2 H hs=>?_
   refine hs.stw 6 rfl rfl (y:=R.c _) rfl (eZ4 _) fun H hs=>?_;rcases kZz hc1 1 8 (by rw[hsec1];omega)with⟨hf2,hsc⟩|⟨j,hj,hf2,hsc⟩
   ·rw[hsc]at hs⊢;rw[oZt,hh1.lastC]at hs;refine Zq rfl ?_;refine hs.ldw 6 rfl rfl ?_
    try simp only[Array.toArray_toList]
    try simp only[HS]
    refine hs.sta 2 (off:=23) (n:=8) (y:=R.c m.r) rfl (by show 23+8≤32;omega) rfl (eZ4 _) fun H hs=>?_;have hs:Sep [Dk dp (D.rdG d1 8),pts rp (ZV dp 1 8 ((8*(d.size/8):Nat):Int)),pts mp (aZa (egM d m 0) ap rp .none 0 0),Ar ap m.arena 0 [],pts p (aZu dp mo),X,pts b2 (.obj (.cells (R.c m.r) 102))] H:=hs;have he:=hh.eg (peak:=0) (by omega);have hkk:=he.kk0;refine(sZg (mp:=mp) (ap:=ap) (rp:=rp) (e:=egM d m 0) (A:=.none) (n:=0) (m:=0) he.most he.p ⟨he.least,he.arena⟩ (fun _=>⟨hkk.1,he.kk,he.dir⟩)).use hs [2] rfl rfl ?_;rintro _ _ H ⟨A',m',rfl,rfl⟩ hs
    try simp only[HV]
    try simp only[HS]
    refine hs.st 5 rfl (by show 1<2;omega) rfl fun H hs=>?_;refine⟨_,.inr (.inl ⟨_,m,rfl,hw1.trans (bZA.rdG hf2),hc1.rdG 8,rfl,rfl⟩),?_⟩;exact En.unwhole (mp:=mp) (ap:=ap) (rp:=rp) (A:=A') (m:=m') (e:=egM d m 0) (L:=[Dk dp (D.rdG d1 8)]) (hs.re [5,0,4,3,1,2] rfl)
   ·rw[hsc]at hs⊢;refine ZA (show(8:Int)≠0 by decide) ?_;refine chk8 [Dk dp (D.dead (D.rdG d1 j))] H _ (hs.re [4,0] rfl) fun H hs=>?_;simp only[HV];have hcut:=hw1.cut (Cut.rdG hc1 hf2 hj);exact⟨_,.inr (.inr ⟨_,hcut.more (by omega),fun h=>(by cases h),Left.rdG hc1 j,rfl,rfl⟩),hs⟩
  try simp only[HS]
  repeat' first
   |(refine Za.mono (fo _ hs) ?_;rintro _ H ⟨mp,ap,rp,rfl,hs⟩;simp only[HV];exact j8 mp ap rp H hs)
   |refine hs.ld 1 (v:=.pointer (some ⟨dp,0,none⟩)) rfl rfl ?_
   |refine hs.ldw 3 rfl rfl ?_
   |(simp only[HV];try simp only[aZY,Addr.add_lit',Addr.add_zero,Nat.zero_add,Nat.add_zero,Array.toArray_toList])
   |refine⟨?_,?_⟩
end Eng
namespace W
open Go Go.Hw
theorem bZu :prog.follows .mixedOrders=true:=by kernel_rfl
def Zg.j27 (K:VK)(R18:Int→OA→Nat→Nat→OA→Nat→Nat→Int→Addr→Int→Int→Int→Int→Hp→Prop)(x30:Int)(A11:OA)(n11 m11:Nat)(A12:OA)(n12 m12:Nat)(x31:Int)(a7:Addr)(x32 x33 x34 x35:Int)(H:Hp):=
 LeP H (a7.add 0) fun p10=>NN p10 fun a8=>HcB 32 #[.pointer (some (a8.add 7))] H fun c4 H16=>BIf c4 (LeP H16 (a7.add 0) fun p11=>HcI 33 #[.pointer p11,.slice A12 n12 m12] H16 fun x36 H17=>BIf (x36 !=0) (K (.bool false) H17) (R18 x30 A11 n11 m11 A12 n12 m12 x31 a7 x32 (i64.wrap (x33+1)) x34 (i64.wrap (x35+1)) H17)) (R18 x30 A11 n11 m11 A12 n12 m12 x31 a7 x32 x33 x34 (i64.wrap (x35+1)) H16)
def Zg.j24 (K:VK)(R18:Int→OA→Nat→Nat→OA→Nat→Nat→Int→Addr→Int→Int→Int→Int→Hp→Prop)(x21:Int)(A9:OA)(n9 m9:Nat)(A10:OA)(n10 m10:Nat)(x22:Int)(a6:Addr)(x23 x24 x25 x26:Int)(H:Hp):=
 LeP H (a6.add 1) fun p7=>HcA 21 #[.pointer p7] H fun y4 H13=>ixV y4 0 fun v25=>DI .i64 v25 fun x27=>BIf (x27==0) (LeP H13 (a6.add 1) fun p8=>HcI 30 #[.pointer p8] H13 fun x28 H14=>Zg.j27 K R18 x21 A9 n9 m9 A10 n10 m10 x22 a6 x23 x24 x25 x26 H14) (LeP H13 (a6.add 1) fun p9=>Hz 23 #[.pointer p9] H13 fun v29 H15=>tZB v29 fun c3 x29=>(Zg.j27 K R18 x21 A9 n9 m9 A10 n10 m10 x22 a6 x23 x24 x25 x26 H15))
def Zg.j31.q1 (y7:Array Value)(H22:Hp)(l15:List Value)(K:VK)(x39:Int):=
 HcI 34 #[.agg y7] H22 fun x45 H25=>HcI 34 #[.agg l15.toArray] H25 fun x46 H26=>K (.bool (decide ((i64.wrap (x45-x39))≤x46))) H26
def Zg.j31 (K:VK)(x37 x38:Int)(a9:Addr)(x39 x40:Int)(H:Hp):=
 LdA H (a9.add 2) 4 fun l10=>Hz 29 #[.agg l10.toArray,.int .i64 x38,.int .i64 x37,.int .i64 x40] H fun v36 H18=>cZ9 v36 fun y5 x41=>(Nw H18 (.obj (.cells #[.int .i64 0,.int .i64 0,.int .i64 0] 39)) fun b2 H19=>StA H19 ⟨b2,0,none⟩ y5 3 fun H20=>BIf (x41==0) (LeP H20 (a9.add 1) fun p12=>HcA 21 #[.pointer p12] H20 fun y6 H21=>ixV y6 0 fun v41=>DI .i64 v41 fun x42=>BIf (x42==4) ((LeP H21 (a9.add 0) fun p13=>NN p13 fun a10=>(HcA 15 #[.pointer (some (a10.add 3))] H21 fun y7 H22=>(HcI 34 #[.agg y7] H22 fun x43 H23=>LdA H23 ⟨b2,0,none⟩ 3 fun l14=>HcI 34 #[.agg l14.toArray] H23 fun x44 H24=>K (.bool (decide ((i64.wrap (x43-x39))≤x44))) H24)∧(LdA H22 ⟨b2,0,none⟩ 3 fun l15=>Zg.j31.q1 y7 H22 l15 K x39))∧(LdA H21 ⟨b2,0,none⟩ 3 fun l16=>HcA 15 #[.pointer (some (a10.add 3))] H21 fun y8 H27=>Zg.j31.q1 y8 H27 l16 K x39))∧(LdA H21 ⟨b2,0,none⟩ 3 fun l17=>LeP H21 (a9.add 0) fun p14=>NN p14 fun a11=>HcA 15 #[.pointer (some (a11.add 3))] H21 fun y9 H30=>Zg.j31.q1 y9 H30 l17 K x39)) ((((K (.bool false) H21)∧(K (.bool false) H21))∧(K (.bool false) H21))∧(K (.bool false) H21))) ((((K (.bool false) H20)∧(K (.bool false) H20))∧(K (.bool false) H20))∧(K (.bool false) H20)))
def Zg.l18 (K:VK):Nat→Int→OA→Nat→Nat→OA→Nat→Nat→Int→Addr→Int→Int→Int→Int→Hp→Prop
 |0,_,_,_,_,_,_,_,_,_,_,_,_,_,_=>False
 |k+1,x13,A7,n7,m7,A8,n8,m8,x14,a2,x15,x16,x17,x18,H=>
  let R18:=Zg.l18 K k
  BIf (decide (x18<60)) (LeP H (a2.add 1) fun p4=>HcA 21 #[.pointer p4] H fun y3 H10=>ixV y3 0 fun v17=>DI .i64 v17 fun x19=>BIf (x19 !=4) (LeP H10 (a2.add 0) fun p5=>NN p5 fun a3=>Hz 31 #[.pointer (some (a3.add 7)),.int .i64 0] H10 fun v19 H11=>BIf (decide (x17<(n7:Int))) (LeP H11 (a2.add 0) fun p6=>NN p6 fun a4=>ixI x17 n7 (NN A7 fun a5=>LeV H11 (a5.add (x17.toNat*1)) fun x20=>Hz 31 #[.pointer (some (a4.add 7)),.int .i64 (i64.wrap x20)] H11 fun v22 H12=>Zg.j24 K R18 x13 A7 n7 m7 A8 n8 m8 x14 a2 x15 x16 (i64.wrap (x17+1)) x18 H12)) (Zg.j24 K R18 x13 A7 n7 m7 A8 n8 m8 x14 a2 x15 x16 x17 x18 H11)) (Zg.j31 K x13 x14 a2 x15 x16 H10)) (Zg.j31 K x13 x14 a2 x15 x16 H)
def Zg.j6 (K:VK)(A4:OA)(n4 m4:Nat)(x5 x6 x7:Int)(A5:OA)(n5 m5:Nat)(A6:OA)(n6 m6:Nat)(x8:Int)(H:Hp):=
 Hz 37 #[.int .i64 x8,.int .u8 x6,.int .u8 x7] H fun v3 H3=>wZE v3 fun y1 c2=>(Nw H3 (.obj (.cells #[.pointer none,.pointer none,.int .i64 0,.int .i64 0,.int .i64 0,.int .i64 0] 78)) fun b1 H4=>StA H4 ⟨b1,0,none⟩ y1 6 fun H5=>BIf (!c2) (K (.bool false) H5) (LeP H5 ((⟨b1,0,none⟩:Addr).add 1) fun p1=>Hz 17 #[.pointer p1,.slice A4 n4 m4] H5 fun v7 H6=>jZm v7 fun x9 x10=>(BIf (x10 !=0) (K (.bool false) H6) (LeP H6 ((⟨b1,0,none⟩:Addr).add 0) fun p2=>NN p2 fun a1=>HcA 15 #[.pointer (some (a1.add 3))] H6 fun y2 H7=>HcI 34 #[.agg y2] H7 fun x11 H8=>LeP H8 ((⟨b1,0,none⟩:Addr).add 1) fun p3=>HcI 20 #[.pointer p3,.int .i64 x5] H8 fun x12 H9=>BIf (x12 !=0) (K (.bool false) H9) ((∃ k,Zg.l18 K k x5 A5 n5 m5 A6 n6 m6 x8 ⟨b1,0,none⟩ x11 0 0 0 H9))))))
def Zg (A1:OA)(n1 m1:Nat)(x1 x2 x3:Int)(A2:OA)(n2 m2:Nat)(A3:OA)(n3 m3:Nat)(H:Hp)(K:VK):Prop:=
 HcB 35 #[] H fun c1 H1=>BIf (!c1) (K (.bool false) H1) (HcI 36 #[.slice A1 n1 m1] H1 fun x4 H2=>BIf (decide (x4<0)) (K (.bool true) H2) (BIf (x1 !=0) (BIf (x1 !=1) (K (.bool true) H2) (BIf (decide ((n2:Int)>16)) (K (.bool true) H2) (BIf (decide ((n3:Int)>40)) (K (.bool true) H2) (Zg.j6 K A1 n1 m1 x1 x2 x3 A2 n2 m2 A3 n3 m3 x4 H2)))) (BIf (decide ((n2:Int)>16)) (K (.bool true) H2) (BIf (decide ((n3:Int)>40)) (K (.bool true) H2) (Zg.j6 K A1 n1 m1 x1 x2 x3 A2 n2 m2 A3 n3 m3 x4 H2)))))
def Zg.l18.L (K:VK)(k:Nat):Mid:=fun E D H=>
 eI E 1 .i64 fun x13=>DG (E.get? 4) fun w4=>DSl w4 fun A7 n7 m7=>DG (E.get? 5) fun w5=>DSl w5 fun A8 n8 m8=>eI E 13 .i64 fun x14=>eN E 14 fun a2=>eI E 18 .i64 fun x15=>eI E 19 .i64 fun x16=>eI E 20 .i64 fun x17=>eI E 21 .i64 fun x18=>Zk D (Zg.l18 K k x13 A7 n7 m7 A8 n8 m8 x14 a2 x15 x16 x17 x18 H)
def Zg.Λ18 (K:VK)(R18:Int→OA→Nat→Nat→OA→Nat→Nat→Int→Addr→Int→Int→Int→Int→Hp→Prop):Zt:=⟨fun i=>match Nat.beq i 27 with|true=>some (fun E D H=>eI E 1 .i64 fun x30=>DG (E.get? 4) fun w4=>DSl w4 fun A11 n11 m11=>DG (E.get? 5) fun w5=>DSl w5 fun A12 n12 m12=>eI E 13 .i64 fun x31=>eN E 14 fun a7=>eI E 18 .i64 fun x32=>eI E 19 .i64 fun x33=>eI E 20 .i64 fun x34=>eI E 21 .i64 fun x35=>Zk D (Zg.j27 K R18 x30 A11 n11 m11 A12 n12 m12 x31 a7 x32 x33 x34 x35 H))|false=>match Nat.beq i 24 with|true=>some (fun E D H=>eI E 1 .i64 fun x21=>DG (E.get? 4) fun w4=>DSl w4 fun A9 n9 m9=>DG (E.get? 5) fun w5=>DSl w5 fun A10 n10 m10=>eI E 13 .i64 fun x22=>eN E 14 fun a6=>eI E 18 .i64 fun x23=>eI E 19 .i64 fun x24=>eI E 20 .i64 fun x25=>eI E 21 .i64 fun x26=>Zk D (Zg.j24 K R18 x21 A9 n9 m9 A10 n10 m10 x22 a6 x23 x24 x25 x26 H))|false=>none,fun i=>none,(fun i=>match Nat.beq i 32 with|true=>some ([],[0,1,3,7,15,31,63,127,255,511,1023,2047,4095,8191,16383,32767,1023,131071,1023,327679,1048575,2097151,4194303],0)|false=>match Nat.beq i 22 with|true=>some ([],[0,1,2,3,4,5,6,7,8],9)|false=>none)⟩
def Zg.Λ (K:VK):Zt:=⟨fun i=>match Nat.beq i 31 with|true=>some (fun E D H=>eI E 1 .i64 fun x37=>eI E 13 .i64 fun x38=>eN E 14 fun a9=>eI E 18 .i64 fun x39=>eI E 19 .i64 fun x40=>Zk D (Zg.j31 K x37 x38 a9 x39 x40 H))|false=>match Nat.beq i 6 with|true=>some (fun E D H=>DG (E.get? 0) fun w0=>DSl w0 fun A4 n4 m4=>eI E 1 .i64 fun x5=>eI E 2 .u8 fun x6=>eI E 3 .u8 fun x7=>DG (E.get? 4) fun w4=>DSl w4 fun A5 n5 m5=>DG (E.get? 5) fun w5=>DSl w5 fun A6 n6 m6=>eI E 13 .i64 fun x8=>Zk D (Zg.j6 K A4 n4 m4 x5 x6 x7 A5 n5 m5 A6 n6 m6 x8 H))|false=>none,fun i=>match Nat.beq i 18 with|true=>some (fun E D H=>∃ k,Zg.l18.L K k E D H)|false=>none,(fun i=>match Nat.beq i 32 with|true=>some ([],[0,1,3,7,15,31,63,127,255,511,1023,2047,4095,8191,16383,32767,1023,131071,1023,327679,1048575,2097151,4194303],0)|false=>match Nat.beq i 22 with|true=>some ([],[0,1,2,3,4,5,6,7,8],9)|false=>none)⟩
theorem Zg.ok A1 n1 m1 x1 x2 x3 A2 n2 m2 A3 n3 m3 H K (h:Zg A1 n1 m1 x1 x2 x3 A2 n2 m2 A3 n3 m3 H K):Za prog 5 #[.slice A1 n1 m1,.int .i64 x1,.int .u8 x2,.int .u8 x3,.slice A2 n2 m2,.slice A3 n3 m3] H K:=
 okL (Λ:=(Zg.Λ K)) bZu Tryz.func5 rfl rfl h (oC (fun E D H h=>by
   obtain⟨w0,e0,g1⟩:=DG.out h;obtain⟨A4,n4,m4,rfl,g2⟩:=DSl.out g1;obtain⟨x5,e1,g4⟩:=GI g2;obtain⟨x6,e2,g6⟩:=GI g4;obtain⟨x7,e3,g8⟩:=GI g6;obtain⟨w4,e4,g9⟩:=DG.out g8;obtain⟨A5,n5,m5,rfl,g10⟩:=DSl.out g9;obtain⟨w5,e5,g11⟩:=DG.out g10;obtain⟨A6,n6,m6,rfl,g12⟩:=DSl.out g11;obtain⟨x8,e13,g14⟩:=GI g12;obtain⟨rfl,h'⟩:=Zk.out g14;exact okJ (Λ:=(Zg.Λ K)) bZu [] (Zb.cons e0 (Zb.cons e1 (Zb.cons e2 (Zb.cons e3 (Zb.cons e4 (Zb.cons e5 (Zb.cons e13 (Zb.nil _)))))))) h' (oC (fun E D H h=>by
     refine Safe.loop' (Zg.l18.L K) (fun E D H h=>?_) (fun k E D H h=>?_) E D H h
     ·obtain⟨w1,e1,g1⟩:=DG.out h;obtain⟨x13,rfl,g2⟩:=DI.out g1;obtain⟨w4,e4,g3⟩:=DG.out g2;obtain⟨A7,n7,m7,rfl,g4⟩:=DSl.out g3;obtain⟨w5,e5,g5⟩:=DG.out g4;obtain⟨A8,n8,m8,rfl,g6⟩:=DSl.out g5;obtain⟨w13,e13,g7⟩:=DG.out g6;obtain⟨x14,rfl,g8⟩:=DI.out g7;obtain⟨w14,e14,g9⟩:=DG.out g8;obtain⟨pw14,rfl,g10⟩:=DP.out g9;obtain⟨a2,rfl,g11⟩:=NN.out g10;obtain⟨w18,e18,g12⟩:=DG.out g11;obtain⟨x15,rfl,g13⟩:=DI.out g12;obtain⟨w19,e19,g14⟩:=DG.out g13;obtain⟨x16,rfl,g15⟩:=DI.out g14;obtain⟨w20,e20,g16⟩:=DG.out g15;obtain⟨x17,rfl,g17⟩:=DI.out g16;obtain⟨w21,e21,g18⟩:=DG.out g17;obtain⟨x18,rfl,g19⟩:=DI.out g18;obtain⟨rfl,h'⟩:=Zk.out g19;exact h'
     ·obtain⟨x13,e1,g2⟩:=GI h;obtain⟨w4,e4,g3⟩:=DG.out g2;obtain⟨A7,n7,m7,rfl,g4⟩:=DSl.out g3;obtain⟨w5,e5,g5⟩:=DG.out g4;obtain⟨A8,n8,m8,rfl,g6⟩:=DSl.out g5;obtain⟨x14,e13,g8⟩:=GI g6;obtain⟨a2,e14,g11⟩:=GN g8;obtain⟨x15,e18,g13⟩:=GI g11;obtain⟨x16,e19,g15⟩:=GI g13;obtain⟨x17,e20,g17⟩:=GI g15;obtain⟨x18,e21,g19⟩:=GI g17;obtain⟨rfl,h'⟩:=Zk.out g19;exact okJ (Λ:=(Zg.Λ18 K (Zg.l18 K k))) bZu [] (Zb.cons e1 (Zb.cons e4 (Zb.cons e5 (Zb.cons e13 (Zb.cons e14 (Zb.cons e18 (Zb.cons e19 (Zb.cons e20 (Zb.cons e21 (Zb.nil _)))))))))) h' (oC (fun E D H h=>by
        obtain⟨x21,e1,g2⟩:=GI h;obtain⟨w4,e4,g3⟩:=DG.out g2;obtain⟨A9,n9,m9,rfl,g4⟩:=DSl.out g3;obtain⟨w5,e5,g5⟩:=DG.out g4;obtain⟨A10,n10,m10,rfl,g6⟩:=DSl.out g5;obtain⟨x22,e13,g8⟩:=GI g6;obtain⟨a6,e14,g11⟩:=GN g8;obtain⟨x23,e18,g13⟩:=GI g11;obtain⟨x24,e19,g15⟩:=GI g13;obtain⟨x25,e20,g17⟩:=GI g15;obtain⟨x26,e21,g19⟩:=GI g17;obtain⟨rfl,h'⟩:=Zk.out g19;exact okJ (Λ:=(Zg.Λ18 K (Zg.l18 K k))) bZu [] (Zb.cons e1 (Zb.cons e4 (Zb.cons e5 (Zb.cons e13 (Zb.cons e14 (Zb.cons e18 (Zb.cons e19 (Zb.cons e20 (Zb.cons e21 (Zb.nil _)))))))))) h' (oC (fun E D H h=>by
          obtain⟨x30,e1,g2⟩:=GI h;obtain⟨w4,e4,g3⟩:=DG.out g2;obtain⟨A11,n11,m11,rfl,g4⟩:=DSl.out g3;obtain⟨w5,e5,g5⟩:=DG.out g4;obtain⟨A12,n12,m12,rfl,g6⟩:=DSl.out g5;obtain⟨x31,e13,g8⟩:=GI g6;obtain⟨a7,e14,g11⟩:=GN g8;obtain⟨x32,e18,g13⟩:=GI g11;obtain⟨x33,e19,g15⟩:=GI g13;obtain⟨x34,e20,g17⟩:=GI g15;obtain⟨x35,e21,g19⟩:=GI g17;obtain⟨rfl,h'⟩:=Zk.out g19;exact okJ (Λ:=(Zg.Λ18 K (Zg.l18 K k))) bZu [] (Zb.cons e1 (Zb.cons e4 (Zb.cons e5 (Zb.cons e13 (Zb.cons e14 (Zb.cons e18 (Zb.cons e19 (Zb.cons e20 (Zb.cons e21 (Zb.nil _)))))))))) h' oN) oN)) oN)) (oC (fun E D H h=>by
     obtain⟨x37,e1,g2⟩:=GI h;obtain⟨x38,e13,g4⟩:=GI g2;obtain⟨a9,e14,g7⟩:=GN g4;obtain⟨x39,e18,g9⟩:=GI g7;obtain⟨x40,e19,g11⟩:=GI g9;obtain⟨rfl,h'⟩:=Zk.out g11;exact okJ (Λ:=(Zg.Λ K)) bZu [] (Zb.cons e1 (Zb.cons e13 (Zb.cons e14 (Zb.cons e18 (Zb.cons e19 (Zb.nil _)))))) h' oN) oN))) oN)
def aZe.l13 (K:VK):Nat→OA→Int→Hp→Prop
 |0,_,_,_=>False
 |k+1,p3,x7,H=>
  let R13:=aZe.l13 K k
  BIf (decide (x7<5)) (Hz 23 #[.pointer p3] H fun v11 H10=>tZB v11 fun c1 x8=>(R13 p3 (i64.wrap (x7+1)) H10)) (Hz 26 #[.pointer p3] H fun v14 H11=>dZ7 v14 fun A1 n1 m1 x9=>(BIf (x9==0) (BIf ((n1:Int)==4) (ixI 0 n1 (NN A1 fun a2=>LeW H11 (a2.add ((0:Int).toNat*1)) fun x10=>K (.bool (x10==10)) H11)) (K (.bool false) H11)) (K (.bool false) H11)))
def aZe (H:Hp)(K:VK):Prop:=
 HcP 11 #[.int .i64 13,.int .i64 32] H fun p1 H1=>HcP 12 #[.pointer p1] H1 fun p2 H2=>BIf p1.isNone (K (.bool false) H2) (BIf p2.isNone (K (.bool false) H2) (HcI 14 #[.pointer p2,.int .i64 2,.int .i64 8] H2 fun x1 H3=>BIf (x1 !=0) (K (.bool false) H3) (Nw H3 (.row [.int .u64 1,.int .u64 2,.int .u64 3,.int .u64 4] 82 4) fun b1 H4=>Hz 17 #[.pointer p2,.slice (some ⟨b1,0,none⟩) 4 4] H4 fun v4 H5=>jZm v4 fun x2 x3=>(BIf (x3 !=0) (K (.bool false) H5) (HcI 20 #[.pointer p2,.int .i64 0] H5 fun x4 H6=>BIf (x4 !=0) (K (.bool false) H6) (NN p1 fun a1=>Hz 68 #[.pointer (some (a1.add 7))] H6 fun v8 H7=>HcI 33 #[.pointer p1,.slice none 0 0] H7 fun x5 H8=>HcI 30 #[.pointer p2] H8 fun x6 H9=>BIf (x6 !=0) (K (.bool false) H9) ((∃ k,aZe.l13 K k p2 0 H9))))))))
def aZe.l13.L (K:VK)(k:Nat):Mid:=fun E D H=>
 eP E 2 fun p3=>eI E 5 .i64 fun x7=>Zk D (aZe.l13 K k p3 x7 H)
def aZe.Λ13 (_:VK)(_R13:OA→Int→Hp→Prop):Zt:=Zt.none (fun _=>none)
def aZe.Λ (K:VK):Zt:=⟨fun i=>none,fun i=>match Nat.beq i 13 with|true=>some (fun E D H=>∃ k,aZe.l13.L K k E D H)|false=>none,(fun _=>none)⟩
theorem aZe.ok H K (h:aZe H K):Za prog 35 #[] H K:=
 okL (Λ:=(aZe.Λ K)) bZu Tryz.func35 rfl rfl h (oC (fun E D H h=>by
   refine Safe.loop' (aZe.l13.L K) (fun E D H h=>?_) (fun k E D H h=>?_) E D H h
   ·obtain⟨w2,e2,g1⟩:=DG.out h;obtain⟨p3,rfl,g2⟩:=DP.out g1;obtain⟨w5,e5,g3⟩:=DG.out g2;obtain⟨x7,rfl,g4⟩:=DI.out g3;obtain⟨rfl,h'⟩:=Zk.out g4;exact h'
   ·obtain⟨p3,e2,g2⟩:=GP h;obtain⟨x7,e5,g4⟩:=GI g2;obtain⟨rfl,h'⟩:=Zk.out g4;exact okJ (Λ:=(aZe.Λ13 K (aZe.l13 K k))) bZu [] (Zb.cons e2 (Zb.cons e5 (Zb.nil _))) h' oN) oN)
def aZh.l4 (K:VK):Nat→OA→Nat→Nat→Int→Hp→Prop
 |0,_,_,_,_,_=>False
 |k+1,A2,n2,m2,x1,H=>
  let R4:=aZh.l4 K k
  BIf (decide (x1<(n2:Int))) (ixI x1 n2 (NN A2 fun a1=>LeW H (a1.add (x1.toNat*1)) fun x2=>BIf (decide (x2≥18446744069414584321)) (K (.int .i64 (-1)) H) (R4 A2 n2 m2 (i64.wrap (x1+1)) H))) (HcI 7 #[.int .i64 (n2:Int)] H fun x3 H1=>K (.int .i64 x3) H1)
def aZh (A1:OA)(n1 m1:Nat)(H:Hp)(K:VK):Prop:=
 BIf (decide ((n1:Int)>64)) (K (.int .i64 (-1)) H) ((∃ k,aZh.l4 K k A1 n1 m1 0 H))
def aZh.l4.L (K:VK)(k:Nat):Mid:=fun E D H=>
 DG (E.get? 0) fun w0=>DSl w0 fun A2 n2 m2=>eI E 3 .i64 fun x1=>Zk D (aZh.l4 K k A2 n2 m2 x1 H)
def aZh.Λ4 (_:VK)(_R4:OA→Nat→Nat→Int→Hp→Prop):Zt:=Zt.none (fun _=>none)
def aZh.Λ (K:VK):Zt:=⟨fun i=>none,fun i=>match Nat.beq i 4 with|true=>some (fun E D H=>∃ k,aZh.l4.L K k E D H)|false=>none,(fun _=>none)⟩
theorem aZh.ok A1 n1 m1 H K (h:aZh A1 n1 m1 H K):Za prog 36 #[.slice A1 n1 m1] H K:=
 okL (Λ:=(aZh.Λ K)) bZu Tryz.func36 rfl rfl h (oC (fun E D H h=>by
   refine Safe.loop' (aZh.l4.L K) (fun E D H h=>?_) (fun k E D H h=>?_) E D H h
   ·obtain⟨w0,e0,g1⟩:=DG.out h;obtain⟨A2,n2,m2,rfl,g2⟩:=DSl.out g1;obtain⟨w3,e3,g3⟩:=DG.out g2;obtain⟨x1,rfl,g4⟩:=DI.out g3;obtain⟨rfl,h'⟩:=Zk.out g4;exact h'
   ·obtain⟨w0,e0,g1⟩:=DG.out h;obtain⟨A2,n2,m2,rfl,g2⟩:=DSl.out g1;obtain⟨x1,e3,g4⟩:=GI g2;obtain⟨rfl,h'⟩:=Zk.out g4;exact okJ (Λ:=(aZh.Λ4 K (aZh.l4 K k))) bZu [] (Zb.cons e0 (Zb.cons e3 (Zb.nil _))) h' oN) oN)
def bZr.q1 (H7:Hp)(b1:Nat)(K:VK):Prop:=
 StA H7 ⟨b1,0,none⟩ #[.pointer none,.pointer none,.int .i64 0,.int .i64 0,.int .i64 0,.int .i64 0] 6 fun H9=>LdA H9 ⟨b1,0,none⟩ 6 fun l6=>K (.tuple #[.agg l6.toArray,.bool false]) H9
def bZr (x1 x2 x3:Int)(H:Hp)(K:VK):Prop:=
 Nw H (.obj (.cells #[.pointer none,.pointer none,.int .i64 0,.int .i64 0,.int .i64 0,.int .i64 0] 78)) fun b1 H1=>((4:Int)≠0∧u8=u8∧(0≤(u64.wrap (Int.tmod x2 4))∧HcI 8 #[.int .i64 x1,.int .i64 (aZE .i64 32 (u64.wrap (Int.tmod x2 4)))] H1 fun x4 H2=>((3:Int)≠0∧i64=i64∧((8:Int)≠0∧i64=i64∧HcI 9 #[.int .i64 x1,.int .i64 (i64.wrap (Int.tdiv (aZE .i64 32 (u64.wrap (Int.tmod x2 4))) 8))] H2 fun x5 H3=>Nw H3 (.obj (.cells #[.int .i64 0,.int .i64 0,.int .i64 0,.int .i64 0] 27)) fun b2 H4=>StA H4 ⟨b2,0,none⟩ #[.int .i64 x1,.int .i64 (i64.wrap (x4+(Int.tmod (i64.wrap x2) 3))),.int .i64 (aZE .i64 32 (u64.wrap (Int.tmod x2 4))),.int .i64 (i64.wrap (x5+(i64.wrap x3)))] 4 fun H5=>LeI H5 ((⟨b2,0,none⟩:Addr).add 1) fun x6=>HcP 11 #[.int .i64 x6,.int .i64 (aZE .i64 32 (u64.wrap (Int.tmod x2 4)))] H5 fun p1 H6=>HcP 12 #[.pointer p1] H6 fun p2 H7=>BIf p1.isNone (bZr.q1 H7 b1 K) (BIf p2.isNone (bZr.q1 H7 b1 K) (LeI H7 ((⟨b2,0,none⟩:Addr).add 3) fun x7=>HcI 14 #[.pointer p2,.int .i64 x1,.int .i64 x7] H7 fun x8 H8=>BIf (x8 !=0) (bZr.q1 H8 b1 K) (LdA H8 ⟨b2,0,none⟩ 4 fun l1=>nZ1 l1.toArray.toList fun x9 x10 x11 x12=>(StA H8 ⟨b1,0,none⟩ #[.pointer p1,.pointer p2,.int .i64 x9,.int .i64 x10,.int .i64 x11,.int .i64 x12] 6 fun H12=>LdA H12 ⟨b1,0,none⟩ 6 fun l9=>K (.tuple #[.agg l9.toArray,.bool true]) H12))))))))
theorem bZr.ok x1 x2 x3 H K (h:bZr x1 x2 x3 H K):Za prog 37 #[.int .i64 x1,.int .u8 x2,.int .u8 x3] H K:=
 okN bZu Tryz.func37 rfl rfl h
end W
namespace Eng
open Go Go.Hw Go.Form W Shp Dsk Str Are Trn Pas Pln Rec Srt Rng
def iZZ (l:List UInt64):Int:=if 64<l.length∨¬fZB l then -1 else iZG (l.length:Int)
theorem mZR (H:Hp)(A:OA)(n m:Nat)(l:List UInt64)(hn:n=l.length)(h64:n≤64)(hc:Cells H A (Zc l)):
  ∀(t j:Nat),j+t=n→(∀ k x,k<j→l[k]? =some x→x.toNat<18446744069414584321)→aZh.l4 (RetE (.int .i64 (iZZ l)) H) (t+1) A n m (j:Int) H
 |0,j,hj,hall=>by
  unfold aZh.l4;refine Zh (by omega) ?_;refine Za.use (tZ9 (n:Int) H) ?_;simp only[HV];refine RetE.of ?_;have hcan:fZB l:=fun x hx=>by
   obtain⟨k,hk,rfl⟩:=List.getElem_of_mem hx;exact hall k _ (by omega) (List.getElem?_eq_getElem hk)
  unfold iZZ;have h0:¬(64<l.length∨¬fZB l):=by
   intro h;rcases h with h|h
   ·omega
   ·exact h hcan
  rw[if_neg h0,hn]
 |t+1,j,hj,hall=>by
  unfold aZh.l4;refine Zn (by omega) ?_;have hg:l[j]? =some (l[j]'(by omega)):=List.getElem?_eq_getElem (by omega);have hg2:(Zc l)[j]? =some (.int .u64 ((l[j]'(by omega)).toNat:Int)):=by rw[aZ9,hg];rfl
  refine hc.read hg2 rfl (by rw[Zr];omega) ?_;simp only[HV];obtain⟨z,hz⟩:∃ z:Nat,z=(l[j]'(by omega)).toNat:=⟨_,rfl⟩;rw[← hz];generalize hz2:((z:Nat):Int)=w at*;by_cases h:w≥18446744069414584321
  ·refine Zn h (RetE.of ?_);unfold iZZ;rw[if_pos (.inr fun hcan=>by
    have:=hcan _ (List.getElem_mem (show j<l.length by omega));omega)]
  ·refine Zh h ?_;rw[ZG (x:=(j:Int)+1) (by omega) (by omega)];refine mZR H A n m l hn h64 hc t (j+1) (by omega) fun k x hk hkx=>?_
   by_cases e:k=j
   ·subst e;rw[hg]at hkx;have:=Option.some.inj hkx;rw[this]at hz;omega
   ·exact hall k x (by omega) hkx
theorem uZv (A:OA)(n m:Nat)(l:List UInt64)(hn:n=l.length)(H:Hp)(hc:Cells H A (Zc l)):Za prog 36 #[.slice A n m] H (RetE (.int .i64 (iZZ l)) H):=by
 apply aZh.ok;unfold aZh;by_cases h:(n:Int)>64
 ·exact Zn h (RetE.of (by unfold iZZ;rw[if_pos (.inl (by omega))]))
 ·exact Zh h ⟨n+1,mZR H A n m l hn (by omega) hc n 0 (by omega) fun k x hk=>absurd hk (by omega)⟩
theorem rZY {l:List UInt64}(h:0≤iZZ l):∃ k:Nat,iZZ l=k∧lg (l.length:Int)=some k∧k≤6∧l.length=2^k∧fZB l:=by
 unfold iZZ at h⊢;by_cases h1:64<l.length∨¬fZB l
 ·rw[if_pos h1]at h;omega
 rw[if_neg h1]at h⊢;unfold iZG at h⊢;cases e:lg (l.length:Int)with
 |none=>rw[e]at h;exact absurd h (by decide)
 |some k=>
  have h2:=(dZn e).2;have hl:l.length=2^k:=by omega
  refine⟨k,rfl,rfl,?_,hl,Classical.byContradiction fun hc=>h1 (.inr hc)⟩;by_cases h6:k≤6
  ·exact h6
  ·have:2^7≤2^k:=Nat.pow_le_pow_right (by omega) (by omega);exact absurd (.inl (by omega)) h1
theorem mZN {dp:Nat}:Tr prog 12 #[.pointer (some ⟨dp,0,none⟩)] [] fun v M=>∃ p,v= .pointer (some ⟨p,0,none⟩)∧M=[En p dp none]:=fun H hs=>by
 apply fZS.ok;unfold fZS;refine aZc rfl ?_;refine hs.nw fun p H hs=>?_
 exact⟨_,⟨p,rfl,rfl⟩,hs⟩
section
variable {p dp : Nat}
end
structure Liv (N:Nat)(d:D)(c:Cn)(m:Mn):Prop where
 cl:Clean d c
 hh:Holds d.sec d.size m c
 most:m.most≤6
 len:m.L.length≤N
 ld:m.r.ld≤N
 rd:d.rd≤2000*N
 wr:d.wr≤2000*N
 sy:d.sy≤2000*N
theorem Liv.went {N:Nat}{d d':D}{c c':Cn}{m m':Mn}(h:Liv N d c m){r w s:Nat}(hw:bZA d d' r w s)(hr:r≤2000∧w≤2000∧s≤2000)(hc:Clean d' c')(hh:Holds d.sec d.size m' c')(hm:m'.most=m.most)(hl:m'.L.length≤N+2)(hld:m'.r.ld≤N+2):Liv (N+2) d' c' m':=by
 have h1:=hw.rd;have h2:=hw.wr;have h3:=hw.sy;have h4:=h.rd;have h5:=h.wr;have h6:=h.sy;have h7:=h.most;exact⟨hc,by rw[hw.sec,hw.size];exact hh,by omega,hl,hld,by omega,by omega,by omega⟩
theorem Liv.small {N:Nat}{d:D}{c:Cn}{m:Mn}(h:Liv N d c m)(hN:N≤400):Small 100000 m∧(d.rd≤800000∧d.wr≤800000∧d.sy≤800000):=by
 have h2:=h.len;have h3:=h.ld;have h4:=h.rd;have h5:=h.wr;have h6:=h.sy;exact⟨⟨by omega,by omega⟩,by omega,by omega,by omega⟩
theorem Liv.per {N:Nat}{d:D}{c:Cn}{m:Mn}(h:Liv N d c m):0<Lay.ZD (d.size:Int):=(cZ7 h.hh.good).2.1
theorem Liv.kk {N:Nat}{d:D}{c:Cn}{m:Mn}(h:Liv N d c m):m.r.kk.toNat≤6:=by
 have:=(Mn.r_wf h.hh).2.2;have:=h.most;omega
structure Dea (N:Nat)(sc sz:Nat)(d:D)(P:Mn→Prop):Prop where
 ok:Ok d
 dom:Dom d
 down:d.down=true
 sec:d.sec=sc
 size:d.size=sz
 left:Left d fun c'=>∃ m,P m∧m.most≤6∧m.L.length≤N∧m.r.ld≤N∧Holds sc sz m c'
 rd:d.rd≤2000*N
 wr:d.wr≤2000*N
 sy:d.sy≤2000*N
theorem Liv.cut {N:Nat}{d d':D}{c:Cn}{m:Mn}(h:Liv N d c m){n:Nat}(hc:Cut d d' n)(hn:n≤3000){P:Mn→Prop}(hl:Left d' fun c'=>∃ m,P m∧m.most≤6∧m.L.length≤N+2∧m.r.ld≤N+2∧Holds d.sec d.size m c'):Dea (N+2) d.sec d.size d' P:=by
 have h1:=hc.cnt;have h2:=hc.le;have h4:=h.rd;have h5:=h.wr;have h6:=h.sy;have h7:=hc.rd;have h8:=hc.wr;have h9:=hc.sy;exact⟨hc.ok,hc.dom,hc.down,hc.sec,hc.size,hl,by omega,by omega,by omega⟩
theorem xZz :∀ x:Nat,x<256→0≤u64.wrap (Int.tmod (x:Int) 4)∧aZE .i64 32 (u64.wrap (Int.tmod (x:Int) 4))=((32*2^(x%4):Nat):Int)∧i64.wrap (Int.tdiv ((32*2^(x%4):Nat):Int) 8)=((4*2^(x%4):Nat):Int)∧Int.tmod (i64.wrap (x:Int)) 3=((x%3:Nat):Int):=by decide +kernel
def szS (x:Nat):Nat:=32*2^(x%4)
theorem iZJ (x:Nat):0<Lay.ZD (szS x:Int)∧Lay.ZD (szS x:Int)=4*2^(x%4)∧szS x/8=4*2^(x%4)∧szS x≤256∧4*2^(x%4)≤32∧4≤4*2^(x%4):=by
 have h:∀ t:Nat,t<4→0<Lay.ZD ((32*2^t:Nat):Int)∧Lay.ZD ((32*2^t:Nat):Int)=4*2^t∧32*2^t/8=4*2^t∧32*2^t≤256∧4*2^t≤32∧4≤4*2^t:=by decide
 exact h _ (Nat.mod_lt _ (by omega))
def scS (k x:Nat):Nat:=Lay.bZs k (szS x/8)+x%3
def arS (k x w:Nat):Nat:=aZR k (szS x/8)+w
theorem qZS {k per:Nat}(hk:k≤6):Lay.bZs k per≤9+4*65:=by
 have h1:=iZr hk;have h2:(2^k-1)/per≤2^k-1:=Nat.div_le_self _ _;unfold Lay.bZs Lay.ZF;omega
theorem fZg {k per:Nat}(hk:k≤6):aZR k per≤16+per:=by
 have:2^((k+1)/2)≤2^3:=Nat.pow_le_pow_right (by omega) (by omega);unfold aZR;omega
theorem sZp {k x w:Nat}(hk:k≤6)(hw:w<256):Sup.aZ3 k (scS k x) (szS x) (arS k x w)=true:=by
 obtain⟨h1,h2,h3,h4,h5,h6⟩:=iZJ x;have h7:=fZg (k:=k) (per:=szS x/8) hk;have h8:1≤aZR k (szS x/8):=by unfold aZR;omega
 refine decide_eq_true ⟨by omega,by omega,h1,?_,?_,?_⟩
 ·show(Lay.bZs (k:Int).toNat (Lay.ZD (szS x:Int)):Int)≤scS k x
  rw[h2,←h3,Int.toNat_natCast];unfold scS;omega
 ·unfold arS;omega
 ·unfold arS;omega
theorem sZo {k x w:Nat}(hk:k≤6)(hw:w<256):bZG (scS k x) (szS x/8) k (arS k x w)=0:=by
 obtain⟨h1,h2,h3,h4,h5,h6⟩:=iZJ x;have h7:=fZg (k:=k) (per:=szS x/8) hk;have h8:1≤aZR k (szS x/8):=by unfold aZR;omega
 unfold bZG;rw[if_neg (by unfold arS;omega),if_neg,if_neg]
 ·rw[Int.toNat_natCast];unfold arS;omega
 ·rw[Int.toNat_natCast];unfold scS;omega
def qZ5 (dp p k x w:Nat):Array Value:=#[.pointer (some ⟨dp,0,none⟩),.pointer (some ⟨p,0,none⟩),.int .i64 k,.int .i64 (scS k x),.int .i64 (szS x),.int .i64 (arS k x w)]
theorem vZG {k x w:Nat}(hk:k≤6)(hx:x<256)(hw:w<256):Tr prog 37 #[.int .i64 (k:Int),.int .u8 (x:Int),.int .u8 (w:Int)] [] fun v M=>∃ dp p d c,v= .tuple #[.agg (qZ5 dp p k x w),.bool true]∧d.sec=scS k x∧d.size=szS x∧d.fuse=0∧Liv 2 d c (aZZ k (arS k x w))∧M=[En p dp (some (egM d (aZZ k (arS k x w)) 0)),Dk dp d]:=fun H hs=>by
 obtain⟨h1,h2,h3,h4,h5,h6⟩:=iZJ x;obtain⟨z0,z1,z2,z3⟩:=xZz x hx;have hn:=qZS (k:=k) (per:=szS x/8) hk;have hl:=fZg (k:=k) (per:=szS x/8) hk;have hsz:aZE .i64 32 (u64.wrap (Int.tmod (x:Int) 4))=(szS x:Int):=z1;have hsp:i64.wrap (Int.tdiv (szS x:Int) 8)=((szS x/8:Nat):Int):=by rw[h3];exact z2
 have hsc:(scS k x:Int)=(Lay.bZs k (szS x/8):Int)+((x%3:Nat):Int):=by unfold scS;omega
 have har:(arS k x w:Int)=(aZR k (szS x/8):Int)+(w:Int):=by unfold arS;omega
 have hper:Lay.ZD (szS x:Int)=szS x/8:=h2.trans h3.symm;have hn9:9≤Lay.bZs k (szS x/8):=by unfold Lay.bZs;omega
 have hrg:1≤scS k x∧scS k x≤300:=by unfold scS;omega
 have hmul:scS k x*szS x≤67108864:=by
  have:=Nat.mul_le_mul hrg.2 h4;omega
 apply bZr.ok;unfold bZr bZr.q1;refine hs.nw fun b1 H hs=>?_
 rw[hsz];refine⟨by decide,by simp,z0,?_⟩;refine Za.use (Sup.rZB k (by omega) (szS x) h1 H) ?_;simp only[HV];refine⟨by decide,by simp,by decide,by simp,?_⟩;rw[hsp];refine Za.use (sZF k (szS x/8) (by omega) (by omega) H) ?_;simp only[HV];rw[z3,hper,ZG (x:=(Lay.bZs k (szS x/8):Int)+((x%3:Nat):Int)) (by omega) (by omega),ZG (x:=(w:Int)) (by omega) (by omega),ZG (x:=(aZR k (szS x/8):Int)+(w:Int)) (by omega) (by omega),←hsc,←har];refine hs.nw fun b2 H hs=>?_
 refine hs.stw 1 rfl rfl rfl rfl fun H hs=>?_
 try simp only[HS]
 refine hs.ld 1 (v:=.int .i64 (scS k x:Int)) rfl rfl ?_;simp only[HV];refine(Dsk.dZp (scS k x) (szS x) ⟨hrg.1,by omega⟩ h1 hmul).use hs [] rfl rfl ?_;rintro _ _ H ⟨dp,rfl,rfl⟩ hs;simp only[HV];refine(mZN (dp:=dp)).use hs [] rfl rfl ?_;rintro _ _ H ⟨p,rfl,rfl⟩ hs;simp only[HV];refine aZc rfl (aZc rfl ?_);have hs:Sep [En p dp none,Dk dp (D.fresh (scS k x) (szS x)),pts b1 (.obj (.cells #[.pointer none,.pointer none,.int .i64 0,.int .i64 0,.int .i64 0,.int .i64 0] 78)),pts b2 (.obj (.cells #[.int .i64 (k:Int),.int .i64 (scS k x:Int),.int .i64 (szS x:Int),.int .i64 (arS k x w:Int)] 27))] H:=hs
 try simp only[HS]
 refine hs.ld 3 (v:=.int .i64 (arS k x w:Int)) rfl rfl ?_;simp only[HV];have hcl:=Clean.fresh (sec:=scS k x) (size:=szS x) ⟨hrg.1,by omega⟩ h1 hmul;refine(mZy (p:=p) (dp:=dp) (g:=none) hcl h1 ⟨Nat.zero_le _,Nat.zero_le _,Nat.zero_le _⟩ k (arS k x w)).use hs [0,1] rfl rfl ?_;rintro _ _ H (⟨h,_⟩|⟨kn,wn,e1,e2,_,⟨d,c,hw',hc,hh,rfl,rfl⟩|⟨d',hcut,_⟩⟩) hs
 ·exact absurd (sZo hk hw) h
 ·obtain rfl:k=kn:=by omega
  obtain rfl:arS k x w=wn:=by omega
  simp only[HV];refine Zq rfl ?_;refine hs.ldw 3 rfl rfl ?_;simp only[HV];refine hs.stw 2 rfl rfl rfl rfl fun H hs=>?_;refine hs.ldw 2 rfl rfl ?_;refine⟨_,⟨dp,p,d,c,rfl,hw'.sec,hw'.size,hw'.fuse,?_,rfl⟩,?_⟩
  ·have r1:=hw'.rd;have r2:=hw'.wr;have r3:=hw'.sy;refine⟨hc,by rw[hw'.sec,hw'.size];exact hh,hk,Nat.zero_le _,Nat.zero_le _,?_,?_,?_⟩
   ·rw[r1];show 0+0≤_;omega
   ·rw[r2];show 0+10≤_;omega
   ·rw[r3];show 0+3≤_;omega
  ·rw[fZe (aZZ k (arS k x w)) 0 hw'.sec hw'.size];exact hs.re [0,1] rfl
 ·exact(hcut.calm rfl).elim
def eZi (m:Mn)(k:Nat)(l:List UInt64)(b:Bool):Mn:=(aZ5 m k l).add (cZQ (aZ5 m k l) b)
structure Job (m:Mn)(k:Nat)(b:Bool)(l:List UInt64)(j:Nat):Prop where
 inp:m.inp=l
 kk:m.r.kk=k
 dir:m.r.dir=if b=true then 1 else 0
 kd:3≤m.r.kd
 ps:m.r.ps=j
theorem Job.plan {m:Mn}{k:Nat}{b:Bool}{l:List UInt64}{j:Nat}(h:Job m k b l j)(per:Nat):aZ4 m per m.r=aZb b k per m.arena:=by
 unfold aZ4 fZE;rw[h.dir,h.kk,Int.toNat_natCast];cases b<;>rfl
theorem Job.st {m:Mn}{k:Nat}{b:Bool}{l:List UInt64}{j:Nat}(h:Job m k b l j)(per:Nat):stM m per=if j<(aZb b k per m.arena).length then 3 else 4:=by
 have:=h.kd;unfold stM;rw[if_neg (by omega),if_neg (by omega),h.plan,h.ps];by_cases e:j<(aZb b k per m.arena).length
 ·rw[if_pos e,if_pos (by omega)]
 ·rw[if_neg e,if_neg (by omega)]
theorem Job.next {m:Mn}{k:Nat}{b:Bool}{l:List UInt64}{j:Nat}(h:Job m k b l j)(per:Nat):Job (m.add (bZC m per)) k b l (j+1):=by
 have e:(m.add (bZC m per)).r=bZC m per:=Mn.add_r _ _;refine⟨h.inp,?_,?_,?_,?_⟩
 ·rw[e];exact h.kk
 ·rw[e];exact h.dir
 ·rw[e];show(3:Int)≤4;omega
 ·rw[e];show m.r.ps+1=_;rw[h.ps];omega
theorem oZs (m:Mn)(k:Nat)(l:List UInt64)(b:Bool):Job (eZi m k l b) k b l 0:=by
 have h2r:(aZ5 m k l).r=cZ2 (aZD m k) k l:=Mn.add_r _ _;have e:(eZi m k l b).r=cZQ (aZ5 m k l) b:=Mn.add_r _ _;refine⟨rfl,?_,?_,?_,?_⟩
 ·rw[e];show(aZ5 m k l).r.kk=_;rw[h2r];rfl
 ·rw[e];rfl
 ·rw[e];show(3:Int)≤3;omega
 ·rw[e];rfl
theorem Liv.step {N:Nat}{d d':D}{c c':Cn}{m:Mn}(h:Liv N d c m){r w:Nat}(hs:iZQ m (d.size/8) r w):r≤2000∧w≤2000:=by
 have hp:=h.hh.per;have hk:=h.kk;have hm:=h.most;have hkm:=(Mn.r_wf h.hh).2.2;have h1:=hs.le (by omega) (by omega) (Nat.le_trans (hZq (by omega)) h.hh.least);have:=iZr hk;omega
theorem Liv.stepped {N:Nat}{d d':D}{c c':Cn}{m:Mn}(h:Liv N d c m){r w:Nat}(hs:iZQ m (d.size/8) r w)(hw:bZA d d' r w 2)(hc:Clean d' c')(hh:Holds d.sec d.size (m.add (bZC m (d.size/8))) c'):Liv (N+2) d' c' (m.add (bZC m (d.size/8))):=by
 have:=Liv.step (d':=d') (c':=c') h hs;have h1:=h.len;have h2:=h.ld;refine h.went hw (by omega) hc hh rfl ?_ ?_
 ·show(m.L++[_]).length≤_;simp;omega
 ·rw[Mn.add_r];show m.r.ld≤_;omega
theorem tf4 :(tfL false 2 [1,2,3,4])[0]? =some 10:=by decide +kernel
def w4 :List UInt64:=[1,2,3,4]
theorem uZV :aZb false 2 4 8=gZf false 2:=by unfold aZb;rw[if_neg (by decide)]
theorem lZ2 (H0:Hp)(hT:T64 H0){p dp:Nat}:∀(t j:Nat) (H:Hp) (d:D) (c:Cn) (m:Mn) (pk:Int),j+t=5→Job m 2 false w4 j→Liv (10+2*j) d c m→m.arena=8→d.size=32→d.fuse=0→pk≤m.arena→
  Sep [En p dp (some (egM d m pk)),Dk dp d,own H0] H→aZe.l13 (Ret (.bool true) H0) (t+1) (some ⟨p,0,none⟩) (j:Int) H
 |0,j,H,d,c,m,pk,hj,hJ,hL,ha,hsz,hf,hpk,hs=>by
  have hsm:=hL.small (by omega);have e8:d.size/8=4:=by rw[hsz]
  have hpl:aZb false 2 4 m.arena=gZf false 2:=by rw[ha];exact uZV
  have hst:stM m (d.size/8)=4:=by
   rw[hJ.st,e8,hpl,if_neg (by show ¬j<5;omega)]
  have hout:qZY m (d.size/8)=tfL false 2 w4:=by
   unfold qZY;rw[hJ.plan,hJ.inp];exact vZP false 2 _ _ (by omega) w4 rfl
  have hlen:(tfL false 2 w4).length=4:=qZl _ _ _;unfold aZe.l13;refine Zh (by omega) ?_;refine(nZr (p:=p) (dp:=dp) hL.cl hL.hh hsm.2 hpk).use hs [0,1] rfl rfl ?_;rintro v M H (⟨h,_⟩|⟨_,hq⟩) hs
  ·exact absurd hst h
  rw[hout]at hq;rcases hq with⟨d',b,mm,pk',h1,h2,h3,rfl,rfl⟩|⟨d',h1,_⟩
  ·simp only[HV];refine ZS rfl ?_;rw[hlen];refine ZS rfl ⟨by decide,by decide,?_⟩
   try simp only[HV]
   have hg:(Zc (tfL false 2 w4))[0]? =some (.int .u64 10):=by
    rw[aZ9];have:(tfL false 2 w4)[0]? =some 10:=tf4;rw[this];rfl
   refine hs.ldr 2 rfl hg ?_
   try simp only[HV]
   exact hs.fin 3 rfl _
  ·exact(h1.calm hf).elim
 |t+1,j,H,d,c,m,pk,hj,hJ,hL,ha,hsz,hf,hpk,hs=>by
  have hsm:=hL.small (by omega);have e8:d.size/8=4:=by rw[hsz]
  have hpl:aZb false 2 4 m.arena=gZf false 2:=by rw[ha];exact uZV
  have hst:stM m (d.size/8)=3:=by
   rw[hJ.st,e8,hpl,if_pos (by show j<5;omega)]
  unfold aZe.l13;refine Zn (by omega) ?_;refine(pZH (p:=p) (dp:=dp) (TT:=own H0) (fun H h=>hT.le h) hL.cl hL.hh hsm.1 hsm.2 hpk (by rw[hJ.kk];decide)).use hs [0,1,2] rfl rfl ?_;rintro v M H (⟨h,_⟩|⟨_,r,w,hC,⟨d',c',pk',hpk',hw,hc,hh,rfl,rfl⟩|⟨d',hcut,_⟩⟩) hs
  ·exact absurd hst h
  ·simp only[HV];rw[ZG (x:=(j:Int)+1) (by omega) (by omega)];have hL':=hL.stepped hC hw hc hh;refine lZ2 H0 hT (p:=p) (dp:=dp) t (j+1) H d' c' _ pk' (by omega) (hJ.next _) hL' ha (hw.size.trans hsz) (hw.calm hf) hpk' ?_;rw[fZe _ pk' hw.sec hw.size];exact hs
  ·exact(hcut.calm hf).elim
theorem xZo :bZG 13 (32/8) ((2:Nat):Int) ((8:Nat):Int)=0:=by decide +kernel
theorem uZy (H:Hp)(hT:T64 H):Za prog 35 #[] H (RetE (.bool true) H):=by
 apply Za.ret;apply aZe.ok;unfold aZe;have hs:=Sep.start H;refine(Dsk.dZp 13 32 (by omega) (by decide) (by omega)).use hs [] rfl rfl ?_;rintro _ _ H1 ⟨dp,rfl,rfl⟩ hs;simp only[HV];refine(mZN (dp:=dp)).use hs [] rfl rfl ?_;rintro _ _ H1 ⟨p,rfl,rfl⟩ hs;simp only[HV];refine aZc rfl (aZc rfl ?_);have hs:Sep [En p dp none,Dk dp (D.fresh 13 32),own H] H1:=hs;have hcl:=Clean.fresh (sec:=13) (size:=32) (by omega) (by decide) (by omega);refine(mZy (p:=p) (dp:=dp) (g:=none) hcl (by decide) ⟨Nat.zero_le _,Nat.zero_le _,Nat.zero_le _⟩ 2 8).use hs [0,1] rfl rfl ?_;rintro _ _ H1 (⟨h,_⟩|⟨kn,wn,e1,e2,_,⟨d,c,hw',hc,hh,rfl,rfl⟩|⟨d',hcut,_⟩⟩) hs
 ·exact absurd xZo h
 rotate_left
 ·exact(hcut.calm rfl).elim
 obtain rfl:kn=2:=by omega
 obtain rfl:wn=8:=by omega
 have r1:=hw'.rd;have r2:=hw'.wr;have r3:=hw'.sy;have hL:Liv 2 d c (aZZ 2 8):=⟨hc,by rw[hw'.sec,hw'.size];exact hh,by decide,Nat.zero_le _,Nat.zero_le _,by rw[r1];show 0+0≤_;omega,by rw[r2];show 0+10≤_;omega,by rw[r3];show 0+3≤_;omega⟩;have hf:d.fuse=0:=hw'.calm rfl;have hsz:d.size=32:=hw'.size;simp only[HV];refine Zq rfl ?_;refine hs.nw fun b1 H1 hs=>?_
 have hs:Sep [En p dp (some (egM (D.fresh 13 32) (aZZ 2 8) 0)),Dk dp d,own H,pts b1 (.row (Zc w4) 82 4)] H1:=hs;rw[← fZe (aZZ 2 8) 0 hw'.sec hw'.size]at hs;have hR:∀ H,pts b1 (.row (Zc w4) 82 4) H→Cells H (some ⟨b1,0,none⟩) (Zc w4):=fun H h=>by
  have:=Cells.row h 0 4
  rwa [List.drop_zero,List.take_of_length_le (by decide)]at this
 have hsm:=hL.small (by omega);have hlg:lg ((w4.length:Nat):Int)=some 2:=iZz (k:=2) (by omega);have hcan:fZB w4:=by decide
 refine(pZC (p:=p) (dp:=dp) hL.cl hL.hh hsm.1 hsm.2 (by decide) (l:=w4) (A:=some ⟨b1,0,none⟩) (n:=4) (mm:=4) (RR:=pts b1 (.row (Zc w4) 82 4)) (TT:=own H) rfl (Nat.le_refl _) (by decide) hR (.inl fun H h=>hT.le h)).use hs [0,1,3,2] rfl rfl ?_;rintro _ _ H1 (⟨k',i,e,hchk,hne,_⟩|⟨k',hk',_,_,⟨d1,c1,pk1,hpk1,hw1,hc1,hh1,rfl,rfl⟩|⟨d1,hcut,_⟩⟩) hs
 ·cases hchk with
  |len h=>rw[h]at hlg;cases hlg
  |big h h2=>rw[h]at hlg;cases hlg;exact absurd h2 (by decide)
  |word h h2 h3=>exact absurd hcan h3
  |ok h h2 h3=>exact absurd rfl hne
 rotate_left
 ·exact(hcut.calm hf).elim
 obtain rfl:k'=2:=by rw[hlg]at hk';cases hk';rfl
 have hf1:d1.fuse=0:=hw1.calm hf;have h1r:(aZD (aZZ 2 8) 2).r=cZl (aZZ 2 8) 2:=Mn.add_r _ _;have h2r:(aZ5 (aZZ 2 8) 2 w4).r=cZ2 (aZD (aZZ 2 8) 2) 2 w4:=Mn.add_r _ _;have hld1:(aZ5 (aZZ 2 8) 2 w4).r.ld=1:=by rw[h2r];show(aZD (aZZ 2 8) 2).r.ld=_;rw[h1r];rfl
 have hcost:ldR (d.size/8) 2≤2000∧ldW (d.size/8) 2≤2000:=by
  have hb1:=lZ4 (d.size/8) 2;have hb2:=lZ5 (d.size/8) 2;have hb3:=lZH (per:=d.size/8) (w:=2^2) (by rw[hsz];decide) (by decide);unfold ldR ldW;omega
 have hL1:Liv 4 d1 c1 (aZ5 (aZZ 2 8) 2 w4):=hL.went hw1 (by omega) hc1 hh1 rfl (by decide) (by omega);have hsm1:=hL1.small (by omega);simp only[HV];refine Zq rfl ?_;have hs:Sep [En p dp (some (egM d (aZ5 (aZZ 2 8) 2 w4) pk1)),Dk dp d1,pts b1 (.row (Zc w4) 82 4),own H] H1:=hs;rw[← fZe (aZ5 (aZZ 2 8) 2 w4) pk1 hw1.sec hw1.size]at hs;have hst:stM (aZ5 (aZZ 2 8) 2 w4) (d1.size/8)=2:=by unfold stM;rw[if_pos (by rw[h2r];rfl)]
 refine(mZE (p:=p) (dp:=dp) hL1.cl hL1.hh hsm1.1 hsm1.2 hpk1 0).use hs [0,1] rfl rfl ?_;rintro _ _ H1 (⟨h,_⟩|⟨_,h,_⟩|⟨_,b',hb',⟨d2,c2,hw2,hc2,hh2,rfl,rfl⟩|⟨d2,hcut,_⟩⟩) hs
 ·exact absurd hst h
 ·exact absurd (.inl rfl) h
 rotate_left
 ·exact(hcut.calm hf1).elim
 obtain rfl:b'=false:=by cases b'<;>first|rfl|(exfalso;revert hb';decide)
 have h3r:(eZi (aZZ 2 8) 2 w4 false).r=cZQ (aZ5 (aZZ 2 8) 2 w4) false:=Mn.add_r _ _;have hld2:(eZi (aZZ 2 8) 2 w4 false).r.ld=1:=by rw[h3r];exact hld1
 have hL2:Liv 6 d2 c2 (eZi (aZZ 2 8) 2 w4 false):=hL1.went hw2 (by omega) hc2 hh2 rfl (by decide) (by show(eZi (aZZ 2 8) 2 w4 false).r.ld≤_;omega);simp only[HV];refine Zq rfl ?_;have hs:Sep [En p dp (some (egM d1 (eZi (aZZ 2 8) 2 w4 false) pk1)),Dk dp d2,pts b1 (.row (Zc w4) 82 4),own H] H1:=hs
 try simp only[HS]
 refine(tZp (p:=dp) (d:=d2)).use hs [1] rfl rfl ?_;rintro _ _ H1 ⟨rfl,rfl⟩ hs
 try simp only[HV]
 have hok2:=hc2.ok;have hok3:Ok { d2 with down:=true,fuse:=0}:=⟨hok2.sec,hok2.size,hok2.big,hok2.per,hok2.safe,hok2.cache,Nat.zero_le _⟩;refine(pZx (p:=dp) hok3 (fun k hk=>hc2.dom k hk) rfl .none 0 0 [] rfl (own H) (fun _ _ i v hi=>by simp[bZ5]at hi)).use hs [0,3] rfl rfl ?_;rintro _ _ H1 ⟨ks,hks,rfl,rfl⟩ hs;obtain⟨c3,ec3,hc3⟩:=(hc2.crash).boot hok3 hks [];rw[ec3]at hc3;have hL3:Liv 6 (D.boot { d2 with down:=true,fuse:=0} ks []) c2 (eZi (aZZ 2 8) 2 w4 false):=⟨hc3,hL2.hh,hL2.most,hL2.len,hL2.ld,hL2.rd,hL2.wr,hL2.sy⟩;generalize hd3:D.boot { d2 with down:=true,fuse:=0} ks []=d3 at*;have hsec3:d3.sec=d1.sec:=by rw[← hd3];exact hw2.sec
 have hsize3:d3.size=d1.size:=by rw[← hd3];exact hw2.size
 have hf3:d3.fuse=0:=by rw[← hd3];rfl
 have hsm3:=hL3.small (by omega);simp only[HV];have hs:Sep [Dk dp d3,own H,En p dp (some (egM d1 (eZi (aZZ 2 8) 2 w4 false) pk1)),pts b1 (.row (Zc w4) 82 4)] H1:=hs;refine(lZe (p:=p) (dp:=dp) (g:=some (egM d1 (eZi (aZZ 2 8) 2 w4 false) pk1)) hL3.cl hL3.per hsm3.2 (o:=some (eZi (aZZ 2 8) 2 w4 false)) hL3.hh).use hs [2,0] rfl rfl ?_;rintro _ _ H1 (⟨_,h,_⟩|⟨d4,m4,hm4,hw4,hc4,rfl,rfl⟩|⟨_,hcut,_⟩) hs
 ·cases h
 rotate_left
 ·exact(hcut.calm hf3).elim
 cases hm4;simp only[HV];refine Zq rfl ⟨6,?_⟩;have hL4:Liv 10 d4 c2 (eZi (aZZ 2 8) 2 w4 false):=by
  have h:=hL3.went hw4 (by omega) hc4 hL3.hh rfl (by have:=hL3.len;omega) (by have:=hL3.ld;omega);have q1:=h.len;have q2:=h.ld;have q3:=h.rd;have q4:=h.wr;have q5:=h.sy;exact⟨h.cl,h.hh,h.most,by omega,by omega,by omega,by omega,by omega⟩
 refine lZ2 H hT (p:=p) (dp:=dp) 5 0 H1 d4 c2 _ 0 rfl (oZs _ _ _ _) hL4 rfl (hw4.size.trans (hsize3.trans (hw1.size.trans hsz))) (hw4.calm hf3) (by decide) ?_;rw[fZe _ 0 hw4.sec hw4.size];exact hs.re [0,1,2] rfl
structure wZt where
 k:Int
 n:Int
 m:Int
 A:OA
 nA:Nat
 mA:Nat
 l:List UInt64
 G:OA
 nG:Nat
 mG:Nat
 ks:List Bool
structure OkE (H:Hp)(a:wZt):Prop where
 nA:a.nA=a.l.length
 mA:a.nA≤a.mA
 l:Cells H a.A (Zc a.l)
 nG:a.nG=a.ks.length
 ks:Cells H a.G (bZ5 a.ks)
 n: -9223372036854775808≤a.n∧a.n≤9223372036854775807
 m: -9223372036854775808≤a.m∧a.m≤9223372036854775807
theorem OkE.le {H H':Hp}{a:wZt}(h:OkE H a)(k:H.le H'):OkE H' a:=⟨h.nA,h.mA,h.l.le k,h.nG,h.ks.le k,h.n,h.m⟩
section
open Go.RowKit Go.ChangeShapes Go.WideShapes Go.ChangeAt
variable {H : Type} {enc : TypeId × Value → H} {W : World}
end
structure tZA (m0 m:Mn):Prop where
 most:m.most=m0.most
 arena:m.arena=m0.arena
 inp:m.inp=m0.inp
 kd:2≤m.r.kd
theorem tZA.pass {m0 m:Mn}(h:tZA m0 m)(per:Nat):tZA m0 (m.add (bZC m per)):=⟨h.most,h.arena,h.inp,by rw[Mn.add_r];show(2:Int)≤4;omega⟩
theorem Liv.up {N N':Nat}{d:D}{c:Cn}{m:Mn}(h:Liv N d c m)(hN:N≤N'):Liv N' d c m:=by
 have q1:=h.len;have q2:=h.ld;have q3:=h.rd;have q4:=h.wr;have q5:=h.sy;exact⟨h.cl,h.hh,h.most,by omega,by omega,by omega,by omega,by omega⟩
theorem Liv.fused {N:Nat}{d:D}{c:Cn}{m:Mn}(h:Liv N d c m)(n:Nat)(hn:n≤9223372036854775807):Liv N { d with fuse:=n} c m:=⟨h.cl.fused n hn,h.hh,h.most,h.len,h.ld,h.rd,h.wr,h.sy⟩
theorem Clean.again {d:D}{c:Cn}(hc:Clean d c):Ok { d with down:=true,fuse:=0}∧Dom { d with down:=true,fuse:=0}∧∀ ks,KeysOf (bZp d.cache) ks→∀ keep,Clean (D.boot { d with down:=true,fuse:=0} ks keep) c:=by
 have hok:=hc.ok;have hok3:Ok { d with down:=true,fuse:=0}:=⟨hok.sec,hok.size,hok.big,hok.per,hok.safe,hok.cache,Nat.zero_le _⟩;refine⟨hok3,fun k hk=>hc.dom k hk,fun ks hks keep=>?_⟩;obtain⟨c3,ec3,hc3⟩:=(hc.crash).boot hok3 hks keep;rw[ec3]at hc3;exact hc3
theorem Liv.again {N:Nat}{d:D}{c:Cn}{m:Mn}(h:Liv N d c m){ks:List Int}(hks:KeysOf (bZp d.cache) ks)(keep:List Bool):Liv N (D.boot { d with down:=true,fuse:=0} ks keep) c m:=
 ⟨(h.cl.again).2.2 ks hks keep,h.hh,h.most,h.len,h.ld,h.rd,h.wr,h.sy⟩
theorem Dea.boot {N sc sz:Nat}{d:D}{P:Mn→Prop}(h:Dea N sc sz d P){ks:List Int}(hks:KeysOf (bZp d.cache) ks)(keep:List Bool):∃ c m,P m∧Liv N (D.boot d ks keep) c m∧(D.boot d ks keep).sec=sc∧(D.boot d ks keep).size=sz:=by
 obtain⟨c,⟨m,hP,h1,h2,h3,h4⟩,hc⟩:=h.left.boot h.ok hks keep;refine⟨c,m,hP,⟨hc,?_,h1,h2,h3,h.rd,h.wr,h.sy⟩,h.sec,h.size⟩;have e1:(D.boot d ks keep).sec=sc:=h.sec;have e2:(D.boot d ks keep).size=sz:=h.size;rw[e1,e2];exact h4
end Eng
namespace Eng
open Go Go.Hw Go.Form W Shp Dsk Str Are Trn Ker Fft Pas Pln
end Eng
namespace Eng
open Go Go.Hw Go.Form W Shp Dsk Str Are Trn Pas Pln Rec Srt Rng
theorem iZj (e:Eg):(((lZY (some e)).map (Value.int .i64)).toArray)[0]? =some (.int .i64 (stE e)):=by
 have h:=jZQ e;show(((if stE e=1 then _ else if stE e=2 then _ else _:List Int).map (Value.int .i64)).toArray)[0]? =_
 rcases h with h|h|h|h<;>rw[h]<;>rfl
theorem pZO {dp:Nat}{d:D}{L:List As}{H:Hp}(h:Sep L H)(i:Nat)(hi:L[i]? =some (Dk dp d)):Za prog 32 #[.pointer (some ⟨dp,7,none⟩)] H (RetE (.bool d.down) H):=wZs h i hi
structure Jb (N sc sz ar:Nat)(k:Nat)(b:Bool)(l:List UInt64)(d:D)(c:Cn)(m:Mn)(i:Nat):Prop where
 lv:Liv N d c m
 sec:d.sec=sc
 size:d.size=sz
 har:m.arena=ar
 jb:Job m k b l i
 le:i≤(aZb b k (sz/8) ar).length
def oZK (g:Option Eg):Nat:=match g with|none=>1|some _=>0
abbrev dZ0 (dp p k x w:Nat):AO:=.obj (.cells (qZ5 dp p k x w) 78)
section
variable {K : Value → Hp → Prop} {R12 : Option Addr → Nat → Nat → Int → Option Addr → Nat → Nat → Option Addr → Nat → Nat → Option Addr → Nat → Nat → Int → Addr → Int → Int → Int → Hp → Prop} {H0 : Hp}
variable {A9 A10 A11 A12 : Option Addr} {n9 m9 n10 m10 n11 m11 n12 m12 : Nat} {x9 : Int} {p dp b1 k x w sc sz ar : Nat} {b : Bool} {l : List UInt64} {keep more : List Bool}
variable (hT : T64 H0) (hk6 : k ≤ 6) (hn11 : n11 = keep.length) (hc11 : Cells H0 A11 (bZ5 keep)) (hn12 : n12 = more.length) (hc12 : Cells H0 A12 (bZ5 more))
include hn11 hc11 hn12 hc12 in
include hT hk6 hn11 hc11 hn12 hc12 in
end
section
variable {H0 : Hp} {A9 A10 A11 A12 : Option Addr} {n9 m9 n10 m10 n11 m11 n12 m12 p dp b1 k x w sc sz ar:Nat} {b : Bool} {l : List UInt64} {keep more : List Bool} {fs : List UInt8}
variable (hT : T64 H0) (hk6 : k ≤ 6) (hl : Cells H0 A9 (Zc l)) (hn9 : n9 = l.length) (hl2 : l.length = 2 ^ k) (hn11 : n11 = keep.length) (hc11 : Cells H0 A11 (bZ5 keep)) (hn12 : n12 = more.length) (hc12 : Cells H0 A12 (bZ5 more)) (hn10 : n10 = fs.length) (hn16 : n10 ≤ 16) (hc10 : Cells H0 A10 (Zm fs))
include hk6 hl hn9 hl2 in
include hT hk6 hl hn9 hl2 hn11 hc11 hn12 hc12 hn10 hn16 hc10 in
end
end Eng
namespace W
open Go Go.Hw
end W
namespace Eng
open Go Go.Hw Go.Form W Shp Dsk Str Are Trn Pas Pln
section
variable {R0 : As} {A : Option Addr} {n m : Nat} {l : List UInt64} (hn : n = l.length) (hl : n ≤ 1000000) (hR : ∀ H, R0 H → Cells H A (Zc l))
include hn hl hR
end
end Eng
namespace W
open Go Go.Hw
end W
namespace Eng
open Go Go.Hw Go.Form W Shp Dsk Str Are Trn Pas Pln Rec Srt Rng
def cZ0 (d:D):O3:=(d.rd,d.wr,d.sy)
theorem rZS {d d':D}{r w s:Nat}(h:bZA d d' r w s):cZ0 d'=eZd (cZ0 d) (r,w,s):=by
 unfold cZ0 eZd;rw[h.rd,h.wr,h.sy]
theorem Liv.cnt {N:Nat}{d:D}{c:Cn}{m:Mn}(h:Liv N d c m)(hN:N≤400):smO 1000000 (cZ0 d):=by
 have h1:=h.rd;have h2:=h.wr;have h3:=h.sy;exact⟨by show d.rd≤_;omega,by show d.wr≤_;omega,by show d.sy≤_;omega⟩
theorem nZe {m:Mn}{per k i:Nat}{b:Bool}{l:List UInt64}{cs:List O3}{r w:Nat}(hp:1≤per)(hj:Job m k b l i)(hC:dZ5 m.most k per m.arena (aZb b k per m.arena) cs)(hs:iZQ m per r w):cs[i]? =some (r,w,2):=by
 obtain⟨pz,r0,w0,hpz,hc,rfl,rfl⟩:=hs;rw[hj.plan per,hj.ps,Int.toNat_natCast]at hpz;have hlt:=(List.getElem?_eq_some_iff.1 hpz).1;have hl':i<cs.length:=by rw[hC.1];exact hlt
 obtain⟨r',w',hc',ho,_⟩:=hC.2 i pz _ hpz (List.getElem?_eq_getElem hl');rw[hj.kk,Int.toNat_natCast]at hc⊢;obtain⟨rfl,rfl⟩:=hc.unique hc';rw[List.getElem?_eq_getElem hl',ho,tZ0 hp];congr 1;refine Prod.ext ?_ rfl;show r0+Lay.ZF k per+8=Lay.ZF k per+r0+8
 omega
theorem uZR (a b:O3):∀ l:List O3,l.foldl eZd (eZd a b)=eZd a (l.foldl eZd b)
 | []=>rfl
 |c::l=>by
  rw[List.foldl_cons,List.foldl_cons,←uZR a (eZd b c) l];congr 1;unfold eZd;simp only[Nat.add_assoc]
theorem rZI (a:O3):eZd a (0,0,0)=a:=rfl
theorem jZT (l:List O3)(a:O3):eZn (l++[a])=eZd (eZn l) a:=by unfold eZn;rw[List.foldl_append];rfl
theorem tZQ (a:O3)(l:List O3):l.foldl eZd a=eZd a (eZn l):=by
 have:=uZR a (0,0,0) l
 rwa [rZI]at this
section
variable {most k : Nat} {sec : Int} {s words : Nat} (hpe : Lay.ZD (s : Int) = s / 8) (hg : Sup.aZ3 most sec s words = true) (hk : k ≤ most) (hk6 : k ≤ 6) (hw : aZR k (s / 8) ≤ words ∧ words ≤ 1000) (d : Bool) {cs : List O3} (hC : dZ5 most k (s / 8) words (aZb d k (s / 8) words) cs) (H : Hp) (hT : T64 H) (hr : Rcd H)
include hpe hg hk hk6 hw hC hT hr
theorem vZl {n:Nat}(hn:n≤1000):Za prog 29 #[.agg (Sup.bZo most sec s words),.int .i64 (k:Int),.int .i64 (if d=true then 1 else 0),.int .i64 (n:Int)] H (RetE (.tuple #[.agg (aZk (dZe cs n)).toArray,.int .i64 0]) H):=by
 rw[← hpe]at hw hC;exact rZL hg hk hk6 hw d hC H hT hr hn
end
section
variable {H0 : Hp} {p dp b1 bw ba mo k sc ar : Nat} {b : Bool} {l : List UInt64} {cs : List O3} (hT : T64 H0) (hr : Rcd H0) (hg : Sup.aZ3 mo (sc : Int) (32 : Nat) ar = true) (hk : k ≤ mo) (hk6 : k ≤ 6) (hw : aZR k (32 / 8) ≤ ar ∧ ar ≤ 1000) (hC : dZ5 mo k (32 / 8) ar (aZb b k (32 / 8) ar) cs)
include hT hr hg hk hk6 hw hC
end
section
variable {H0 : Hp} {p dp b1 mo k sc ar : Nat} {b : Bool} {l : List UInt64} {cs : List O3} (hT : T64 H0) (hr : Rcd H0) (hg : Sup.aZ3 mo (sc : Int) (32 : Nat) ar = true) (hk : k ≤ mo) (hmo6 : mo ≤ 6) (hw : aZR k (32 / 8) ≤ ar ∧ ar ≤ 1000) (hC : dZ5 mo k (32 / 8) ar (aZb b k (32 / 8) ar) cs)
variable {A : Option Addr} {n mm : Nat} (hn : n = l.length) (hnm : n ≤ mm) (hl : Cells H0 A (Zc l)) (hlg : lg (l.length : Int) = some k) (hcan : fZB l) (hlen : l.length ≤ 32)
include hT hr hg hk hmo6 hw hC
end
theorem gZs (a b:O3):aZB (eZd a b)=aZB a+aZB b:=by
 show a.1+b.1+(a.2.1+b.2.1)+(a.2.2+b.2.2)=a.1+a.2.1+a.2.2+(b.1+b.2.1+b.2.2);omega
theorem oZb (n:Nat)(a:O3):aZB (gZv n a)=n*aZB a:=by
 show n*a.1+n*a.2.1+n*a.2.2=n*(a.1+a.2.1+a.2.2);rw[Nat.mul_add,Nat.mul_add]
def gZd (cs:List O3)(i:Nat):Nat:=aZB ((cs.take i).foldl eZd eZN)
theorem jZs {cs:List O3}{i:Nat}{o:O3}(h:cs[i]? =some o):gZd cs (i+1)=gZd cs i+aZB o:=by
 obtain⟨hl,rfl⟩:=List.getElem?_eq_some_iff.1 h;unfold gZd;rw[List.take_succ_eq_append_getElem hl,List.foldl_append];exact gZs _ _
theorem nZm (cs:List O3)(n:Nat):aZB (dZe cs n)=gZd cs cs.length+n*(aZB (cZF cs)+9):=by
 unfold dZe gZd;rw[List.take_length,tZQ,show cs++[eZN,gZv n (cZF cs),gZv n (9,0,0)]=((cs++[eZN])++[gZv n (cZF cs)])++[gZv n (9,0,0)] by simp,jZT,jZT,jZT,gZs,gZs,gZs,gZs,oZb,oZb,Nat.mul_add];show _+_+_+n*9=_
 omega
theorem kZK {d d':D}{r w s:Nat}(h:bZA d d' r w s):aZB (cZ0 d')=aZB (cZ0 d)+aZB (r,w,s):=by rw[rZS h,gZs]
theorem pZM {d d':D}{n:Nat}(h:Cut d d' n):aZB (cZ0 d')+1≤aZB (cZ0 d)+n:=by
 have h1:=h.cnt;have h2:=h.le;show d'.rd+d'.wr+d'.sy+1≤d.rd+d.wr+d.sy+n;omega
section
variable {H0 : Hp} {A7 A8 : Option Addr} {n7 m7 n8 m8 dp b1 bw mo k sc ar:Nat} {b : Bool} {l : List UInt64} {cs : List O3} {keep : List Bool} {fs : List UInt8} {was : O3}
variable (hT : T64 H0) (hr : Rcd H0) (hg : Sup.aZ3 mo (sc : Int) (32 : Nat) ar = true) (hk : k ≤ mo) (hk6 : k ≤ 6) (hw : aZR k (32 / 8) ≤ ar ∧ ar ≤ 1000) (hC : dZ5 mo k (32 / 8) ar (aZb b k (32 / 8) ar) cs)
variable (hn8 : n8 = keep.length) (hc8 : Cells H0 A8 (bZ5 keep)) (hn7 : n7 = fs.length) (hn12 : n7 ≤ 12) (hc7 : Cells H0 A7 (Zm fs)) (hwas : smO 1000000 was)
end
def opC (was:Nat)(cs:List O3)(d:D)(m:Mn)(g:Option Eg)(i cr:Nat):Prop:=
 (∃ pk:Int,pk≤m.arena∧g=some (egM d m pk)∧aZB (cZ0 d)≤was+gZd cs i+cr*(aZB (cZF cs)+9))∨(g=none∧aZB (cZ0 d)+9≤was+gZd cs i+cr*(aZB (cZF cs)+9))
abbrev wkT :=Int→OA→Nat→Nat→OA→Nat→Nat→Int→Addr→Int→Int→Int→Int→Hp→Prop
section
variable {K : Value → Hp → Prop} {R18 : wkT} {H0 : Hp} {A7 A8 : Option Addr} {n7 m7 n8 m8 p dp b1 k x w sc sz ar was:Nat} {b : Bool} {l : List UInt64} {cs : List O3} {keep : List Bool} {at' : Int}
variable (hT : T64 H0) (hk6 : k ≤ 6) (hn8 : n8 = keep.length) (hc8 : Cells H0 A8 (bZ5 keep)) (hC : dZ5 k k (sz / 8) ar (aZb b k (sz / 8) ar) cs)
def qZU (R18:wkT)(H0:Hp)(A7 A8:OA)(n7 m7 n8 m8 p dp b1 k x w sc sz ar was:Nat)(b:Bool)(l:List UInt64)(cs:List O3)(N φ fu j cr:Nat)(at':Int):Prop:=
 ∀(H:Hp) (d:D) (c:Cn) (m:Mn) (g:Option Eg) (i cr':Nat),Jb (N+4) sc sz ar k b l d c m i→m.most=k→opC was cs d m g i cr'→cr'≤cr+1→oZK g+((aZb b k (sz/8) ar).length-i)≤φ+1→(fu=0→oZK g+((aZb b k (sz/8) ar).length-i)+1≤φ)→
  Sep [En p dp g,Dk dp d,own H0,pts b1 (dZ0 dp p k x w)] H→R18 (if b=true then 1 else 0) A7 n7 m7 A8 n8 m8 (k:Int) ⟨b1,0,none⟩ (was:Int) (cr':Int) at' (i64.wrap ((j:Int)+1)) H
include hn8 hc8 in
theorem qZq {N φ fu j cr i:Nat}(nx:qZU R18 H0 A7 A8 n7 m7 n8 m8 p dp b1 k x w sc sz ar was b l cs N φ fu j cr at')(hfu:fu≠0)(hcr:cr≤1000)(hφ:1+((aZb b k (sz/8) ar).length-i)≤φ+1){d:D}{H:Hp}
  (hD:Dea (N+2) sc sz d fun m=>m.arena=ar∧m.most=k∧∃ i',Job m k b l i'∧i≤i'∧i'≤(aZb b k (sz/8) ar).length∧aZB (cZ0 d)+9≤was+gZd cs i'+(cr+1)*(aZB (cZF cs)+9))
  (hs:Sep [En p dp none,Dk dp d,own H0,pts b1 (dZ0 dp p k x w)] H):
  Zg.j27 K R18 (if b=true then 1 else 0) A7 n7 m7 A8 n8 m8 (k:Int) ⟨b1,0,none⟩ (was:Int) (cr:Int) at' (j:Int) H:=by
 unfold Zg.j27
 try simp only[HS]
 refine hs.ld 3 (v:=.pointer (some ⟨dp,0,none⟩)) rfl rfl ?_;simp only[HV]
 try simp only[HS]
 refine Za.use (pZO hs 1 rfl) ?_;rw[hD.down];simp only[HV];refine hs.ld 3 (v:=.pointer (some ⟨dp,0,none⟩)) rfl rfl ?_;simp only[HV];refine(pZx (p:=dp) hD.ok hD.dom hD.down A8 n8 m8 keep hn8 (own H0) (fun H h=>hc8.le h)).use hs [1,2] rfl rfl ?_;rintro _ _ H ⟨ks,hks,rfl,rfl⟩ hs;simp only[HV];refine Zq rfl ?_;obtain⟨c,m,⟨hP1,hP2,i',hP3,hP4,hP5,hP6⟩,hL,h1,h2⟩:=hD.boot hks keep;rw[ZG (x:=(cr:Int)+1) (by omega) (by omega),show(cr:Int)+1=((cr+1:Nat):Int) by omega];exact nx H _ c m none i' (cr+1) ⟨hL.up (by omega),h1,h2,hP1,hP3,hP5⟩ hP2 (.inr ⟨rfl,hP6⟩) (Nat.le_refl _) (by show 1+_≤_;omega) (fun h=>absurd h hfu) (hs.re [2,0,1,3] rfl)
theorem qZr {N φ fu j cr i:Nat}(nx:qZU R18 H0 A7 A8 n7 m7 n8 m8 p dp b1 k x w sc sz ar was b l cs N φ fu j cr at'){d:D}{c:Cn}{m:Mn}{pk:Int}{H:Hp}(hJ:Jb (N+4) sc sz ar k b l d c m i)(hmo:m.most=k)(hpk:pk≤m.arena)(hφ:((aZb b k (sz/8) ar).length-i)+1≤φ)(hB:aZB (cZ0 d)≤was+gZd cs i+cr*(aZB (cZF cs)+9))
  (hs:Sep [En p dp (some (egM d m pk)),Dk dp d,own H0,pts b1 (dZ0 dp p k x w)] H):
  Zg.j27 K R18 (if b=true then 1 else 0) A7 n7 m7 A8 n8 m8 (k:Int) ⟨b1,0,none⟩ (was:Int) (cr:Int) at' (j:Int) H:=by
 unfold Zg.j27
 try simp only[HS]
 refine hs.ld 3 (v:=.pointer (some ⟨dp,0,none⟩)) rfl rfl ?_;simp only[HV]
 try simp only[HS]
 refine Za.use (pZO hs 1 rfl) ?_;rw[hJ.lv.cl.down];simp only[HV];exact nx H d c m (some (egM d m pk)) i cr hJ hmo (.inl ⟨pk,hpk,rfl,hB⟩) (by omega) (by show 0+_≤_;omega) (fun _=>by show 0+_+1≤_;omega) hs
include hT hk6 hn8 hc8 hC in
theorem wZi {N j i cr:Nat}{d:D}{c:Cn}{m:Mn}{g:Option Eg}{H:Hp}(hJ:Jb N sc sz ar k b l d c m i)(hmo:m.most=k)(hN:N≤380)(hcr:cr≤1000)(ho:opC was cs d m g i cr)(hnd:¬(i=(aZb b k (sz/8) ar).length∧g≠none))
  (nx:qZU R18 H0 A7 A8 n7 m7 n8 m8 p dp b1 k x w sc sz ar was b l cs N (oZK g+((aZb b k (sz/8) ar).length-i)) d.fuse j cr at')
  (hs:Sep [En p dp g,Dk dp d,own H0,pts b1 (dZ0 dp p k x w)] H):
  Zg.j24 K R18 (if b=true then 1 else 0) A7 n7 m7 A8 n8 m8 (k:Int) ⟨b1,0,none⟩ (was:Int) (cr:Int) at' (j:Int) H:=by
 have hL:=hJ.lv;have hsm:=hL.small (by omega);have hlen:=hL.len;have hld:=hL.ld;have hp5:=(cZ6 b k (sz/8) ar).2;have hile:=hJ.le;have hsz:=hJ.size;have hstm:stM m (d.size/8)=if i<(aZb b k (sz/8) ar).length then 3 else 4:=by rw[hJ.jb.st,hsz,hJ.har]
 have hkk:=hJ.jb.kk;have hmost:=hL.most;have h9:aZB (9,0,0)=9:=rfl;have hld4:∀ e,g=some e→e.r.ld<4294967296:=fun e he=>by
  rcases ho with⟨pk,_,h,_⟩|⟨h,_⟩
  ·rw[h]at he;cases he;show m.r.ld<_;omega
  ·rw[h]at he;cases he
 unfold Zg.j24
 try simp only[HS]
 refine hs.ld 3 (v:=.pointer (some ⟨p,0,none⟩)) rfl rfl ?_;simp only[HV];refine(hZ4 (p:=p) (dp:=dp) g hld4).use hs [0] rfl rfl ?_;rintro _ _ H ⟨rfl,rfl⟩ hs;simp only[HV];have hs:Sep [En p dp g,Dk dp d,own H0,pts b1 (dZ0 dp p k x w)] H:=hs;rcases ho with⟨pk,hpk,rfl,hB⟩|⟨rfl,hB⟩
 ·-- a step
  have hlt:i<(aZb b k (sz/8) ar).length:=by
   rcases Nat.lt_or_ge i (aZb b k (sz/8) ar).length with h|h
   ·exact h
   ·exact absurd ⟨by omega,by simp⟩ hnd
  rw[if_pos hlt]at hstm;refine iZy (iZj _) ?_;simp only[HV];have hst:stE (egM d m pk)≠0:=by have:=jZQ (egM d m pk);omega
  refine aZg hst ?_;refine hs.ld 3 (v:=.pointer (some ⟨p,0,none⟩)) rfl rfl ?_;simp only[HV];refine(pZH (p:=p) (dp:=dp) (TT:=own H0) (fun H h=>hT.le h) hL.cl hL.hh hsm.1 hsm.2 hpk (by omega)).use hs [0,1,2] rfl rfl ?_;rintro _ _ H (⟨h,_⟩|⟨_,r,w',hSC,⟨d',c',pk',hpk',hwn,hc,hh,rfl,rfl⟩|⟨d',hcut,hleft,rfl,rfl⟩⟩) hs
  ·exact absurd hstm h
  ·have hco:cs[i]? =some (r,w',2):=nZe (by have:=hL.hh.per;omega) hJ.jb (by rw[hmo,hsz,hJ.har];exact hC) hSC;have h1:=kZK hwn;have h2:=jZs hco;simp only[HV];have hnx:Jb (N+4) sc sz ar k b l d' c' (m.add (bZC m (d.size/8))) (i+1):=⟨(hL.stepped hSC hwn hc hh).up (by omega),hwn.sec.trans hJ.sec,hwn.size.trans hsz,hJ.har,hJ.jb.next _,by omega⟩;refine qZr (K:=K) (i:=i+1) nx hnx hmo hpk' (by show _+1≤0+_;omega) (by omega) ?_;rw[fZe _ pk' hwn.sec hwn.size];exact hs.re [0,1,2,3] rfl
  ·have hco:cs[i]? =some (r,w',2):=nZe (by have:=hL.hh.per;omega) hJ.jb (by rw[hmo,hsz,hJ.har];exact hC) hSC;have hmx:=vZH (List.mem_of_getElem? hco);have h1:=pZM hcut;have h2:=jZs hco;have hall:aZB (r,w',2)=r+w'+2:=rfl;simp only[HV];have hf1:=hcut.pos;have hkl:r≤2000∧w'≤900:=by
    have h1:=hSC.le (by have:=hL.hh.per;omega) (by have:=hL.kk;omega) (Nat.le_trans (hZq (by have:=(Mn.r_wf hL.hh).2.2;omega)) hL.hh.least);have h2:=iZr hL.kk;omega
   have hX:(cr+1)*(aZB (cZF cs)+9)=cr*(aZB (cZF cs)+9)+(aZB (cZF cs)+9):=Nat.succ_mul _ _;have hD:Dea (N+2) d.sec d.size d' fun m=>m.arena=ar∧m.most=k∧∃ i',Job m k b l i'∧i≤i'∧i'≤(aZb b k (sz/8) ar).length∧aZB (cZ0 d')+9≤was+gZd cs i'+(cr+1)*(aZB (cZF cs)+9):=hL.cut hcut (by omega) (hleft.mono fun c' h=>by
    rcases h with h|h
    ·exact⟨m,⟨hJ.har,hmo,i,hJ.jb,Nat.le_refl _,hile,by omega⟩,hmost,by omega,by omega,h⟩
    ·refine⟨m.add (bZC m (d.size/8)),⟨hJ.har,hmo,i+1,hJ.jb.next _,Nat.le_succ _,by omega,by omega⟩,hmost,?_,?_,h⟩
     ·show(m.L++[_]).length≤_;simp;omega
     ·rw[Mn.add_r];show m.r.ld≤_;omega)
   rw[hJ.sec,hsz]at hD;exact qZq (K:=K) hn8 hc8 nx (by omega) hcr (i:=i) (by show 1+_≤0+_+1;omega) hD (hs.re [0,1,2,3] rfl)
 ·-- a recovery
  refine iZy (v:=.int .i64 0) rfl ?_;simp only[HV];refine ZS rfl ?_;refine hs.ld 3 (v:=.pointer (some ⟨p,0,none⟩)) rfl rfl ?_;simp only[HV];refine(lZe (p:=p) (dp:=dp) (g:=none) hL.cl hL.per hsm.2 (o:=some m) hL.hh).use hs [0,1] rfl rfl ?_;rintro _ _ H (⟨_,h,_⟩|⟨d',m4,hm4,hwn,hc,rfl,rfl⟩|⟨d',hcut,_,hleft,rfl,rfl⟩) hs
  ·cases h
  ·cases hm4;have h1:=kZK hwn;have hs:Sep [En p dp (some (egM d m 0)),Dk dp d',own H0,pts b1 (dZ0 dp p k x w)] H:=hs;rw[← fZe m 0 hwn.sec hwn.size]at hs;have hnx:Jb (N+4) sc sz ar k b l d' c m i:=⟨(hL.went hwn (by omega) hc hL.hh rfl (by omega) (by omega)).up (by omega),hwn.sec.trans hJ.sec,hwn.size.trans hsz,hJ.har,hJ.jb,hile⟩;simp only[HV];exact qZr (K:=K) (i:=i) nx hnx hmo (pk:=0) (by omega) (by show _+1≤1+_;omega) (by omega) hs
  ·have h1:=pZM hcut;have hf1:=hcut.pos;have hs:Sep [En p dp none,Dk dp d',own H0,pts b1 (dZ0 dp p k x w)] H:=hs;simp only[HV];have hX:(cr+1)*(aZB (cZF cs)+9)=cr*(aZB (cZF cs)+9)+(aZB (cZF cs)+9):=Nat.succ_mul _ _;have hD:Dea (N+2) d.sec d.size d' fun m=>m.arena=ar∧m.most=k∧∃ i',Job m k b l i'∧i≤i'∧i'≤(aZb b k (sz/8) ar).length∧aZB (cZ0 d')+9≤was+gZd cs i'+(cr+1)*(aZB (cZF cs)+9):=hL.cut hcut (by omega) (hleft.mono fun c' h=>⟨m,⟨hJ.har,hmo,i,hJ.jb,Nat.le_refl _,hile,by omega⟩,hmost,by omega,by omega,by rw[h];exact hL.hh⟩)
   rw[hJ.sec,hsz]at hD;exact qZq (K:=K) hn8 hc8 nx (by omega) hcr (i:=i) (by show 1+_≤1+_+1;omega) hD (hs.re [0,1,2,3] rfl)
end
section
variable {H0 : Hp} {A7 A8 : Option Addr} {n7 m7 n8 m8 p dp b1 k x w was:Nat} {b : Bool} {l : List UInt64} {cs : List O3} {keep : List Bool} {fs : List UInt8}
variable (hT : T64 H0) (hr : Rcd H0) (hk6 : k ≤ 6) (hw : w < 256) (hC : dZ5 k k (szS x / 8) (arS k x w) (aZb b k (szS x / 8) (arS k x w)) cs)
variable (hn8 : n8 = keep.length) (hc8 : Cells H0 A8 (bZ5 keep)) (hn7 : n7 = fs.length) (hn16 : n7 ≤ 16) (hc7 : Cells H0 A7 (Zm fs)) (hwas : was ≤ 1000000)
include hT hr hk6 hw hC hwas
theorem sZ6 {N cr:Nat}{d:D}{c:Cn}{m:Mn}{pk:Int}{H:Hp}(hJ:Jb N (scS k x) (szS x) (arS k x w) k b l d c m (aZb b k (szS x/8) (arS k x w)).length)(hN:N≤380)(hcr:cr≤100)(hB:aZB (cZ0 d)≤was+gZd cs (aZb b k (szS x/8) (arS k x w)).length+cr*(aZB (cZF cs)+9))
  (hs:Sep [En p dp (some (egM d m pk)),Dk dp d,own H0,pts b1 (dZ0 dp p k x w)] H):
  Zg.j31 (Ret (.bool true) H0) (if b=true then 1 else 0) (k:Int) ⟨b1,0,none⟩ (was:Int) (cr:Int) H:=by
 obtain⟨g1,g2,g3,g4,g5,g6⟩:=iZJ x;have hpe:Lay.ZD (szS x:Int)=szS x/8:=g2.trans g3.symm;have hls:=fZg (k:=k) (per:=szS x/8) hk6;have har:arS k x w≤1000:=by unfold arS;omega
 have hcn:=hJ.lv.cnt (by omega);have hld:=hJ.lv.ld;have hb:=hB;rw[← hC.1,Nat.add_assoc,←nZm]at hb;have hwo:aZB (dZe cs cr)≤1000000000:=by
  rw[nZm];have h5:=(cZ6 b k (szS x/8) (arS k x w)).2;have h5':=hC.1;have hmx:smO 10000 (cZF cs):=sZt cs _ ⟨by decide,by decide,by decide⟩ hC.small;have ha:aZB (cZF cs)≤30000:=by obtain⟨a1,a2,a3⟩:=hmx;unfold aZB;omega
  have hmul:cr*(aZB (cZF cs)+9)≤100*30009:=Nat.mul_le_mul hcr (by omega);have hdue:∀ i,i≤cs.length→gZd cs i≤10+i*30000:=fun i=>by
   induction i with
   |zero=>intro _;exact Nat.le_refl 10
   |succ i ih=>
    intro hi;have h:=jZs (List.getElem?_eq_getElem (show i<cs.length by omega));have hso:=hC.small _ (List.getElem_mem (show i<cs.length by omega));have hal:aZB (cs[i]'(by omega))≤30000:=by obtain⟨a1,a2,a3⟩:=hso;unfold aZB;omega
    have:=ih (by omega);rw[h,Nat.succ_mul];omega
  have:=hdue cs.length (Nat.le_refl _);omega
 have hwos:smO 1000000000000 (dZe cs cr):=by
  have h:=hwo;unfold aZB at h;exact⟨by omega,by omega,by omega⟩
 unfold Zg.j31 Zg.j31.q1
 try simp only[HS]
 refine hs.lda 3 (off:=2) (n:=4) rfl (by show 2+4≤6;omega) ?_;have e4:(((qZ5 dp p k x w).toList.drop 2).take 4).toArray=Sup.bZo k (scS k x) (szS x) (arS k x w):=rfl;rw[e4];refine Za.use (vZl hpe (sZp (x:=x) hk6 hw) (Nat.le_refl _) hk6 ⟨by unfold arS;omega,har⟩ b hC H (hT.le (hs.ow 2 rfl)) (hr.le (hs.ow 2 rfl)) (n:=cr) (by omega)) ?_;simp only[HV];refine hs.nw fun b2 H hs=>?_
 refine hs.stw 4 (y:=(aZk (dZe cs cr)).toArray) rfl rfl rfl rfl fun H hs=>?_;have hs:Sep [En p dp (some (egM d m pk)),Dk dp d,own H0,pts b1 (dZ0 dp p k x w),pts b2 (gZ9 (dZe cs cr))] H:=hs;refine ZS rfl ?_
 try simp only[HS]
 refine hs.ld 3 (v:=.pointer (some ⟨p,0,none⟩)) rfl rfl ?_;simp only[HV];refine(hZ4 (p:=p) (dp:=dp) (some (egM d m pk)) (fun e he=>by cases he;show m.r.ld<_;omega)).use hs [0] rfl rfl ?_;rintro _ _ H ⟨rfl,rfl⟩ hs;simp only[HV];refine iZy (iZj _) ?_;simp only[HV];refine ZS (by rw[iZi,hJ.jb.st,hJ.size,hJ.har,if_neg (by omega)]) ?_;have hs:Sep [En p dp (some (egM d m pk)),Dk dp d,own H0,pts b1 (dZ0 dp p k x w),pts b2 (gZ9 (dZe cs cr))] H:=hs;have cA:=iZv (cZ0 d) (hcn.mono (by omega)) H;have cB:=iZv (dZe cs cr) hwos H;have cC:Za prog 15 #[.pointer (some ⟨dp,3,none⟩)] H (RetE (.agg (aZk (cZ0 d)).toArray) H):=pZz hs 1 rfl;have hcs:aZB (cZ0 d)≤3000000:=by obtain⟨a1,a2,a3⟩:=hcn;unfold aZB;omega
 have fin:Ret (.bool true) H0 (.bool (decide (i64.wrap (((aZB (cZ0 d):Nat):Int)-(was:Int))≤((aZB (dZe cs cr):Nat):Int)))) H:=by
  rw[ZG (x:=((aZB (cZ0 d):Nat):Int)-(was:Int)) (by omega) (by omega),decide_eq_true (show((aZB (cZ0 d):Nat):Int)-(was:Int)≤((aZB (dZe cs cr):Nat):Int) by omega)];exact hs.fin 2 rfl _
 have lb:∀{K:List Value→Prop},K (aZk (dZe cs cr))→LdA H ⟨b2,0,none⟩ 3 K:=fun k=>hs.ldw 4 rfl rfl k
 have ld0:∀{K:Value→Prop},K (.pointer (some ⟨dp,0,none⟩))→Ld H ⟨b1,0,none⟩ K:=fun k=>hs.ld 3 (v:=.pointer (some ⟨dp,0,none⟩)) rfl rfl k
 refine⟨ld0 ?_,lb (ld0 ?_)⟩
 ·simp only[HV]
  try simp only[HS]
  refine⟨Za.use cC ?_,lb (Za.use cC ?_)⟩
  ·simp only[HV];refine⟨Za.use cA ?_,lb (Za.use cA ?_)⟩
   ·simp only[HV];refine lb (Za.use cB ?_);simp only[HV];exact fin
   ·simp only[HV];refine Za.use cB ?_;simp only[HV];exact fin
  ·simp only[HV];refine Za.use cA ?_;simp only[HV];refine Za.use cB ?_;simp only[HV];exact fin
 ·simp only[HV]
  try simp only[HS]
  refine Za.use cC ?_;simp only[HV];refine Za.use cA ?_;simp only[HV];refine Za.use cB ?_;simp only[HV];exact fin
include hn8 hc8 hn7 hn16 hc7 in
theorem wZh :∀(t j at' cr N i:Nat) (d:D) (c:Cn) (m:Mn) (g:Option Eg) (H:Hp),Jb N (scS k x) (szS x) (arS k x w) k b l d c m i→m.most=k→N≤10+4*j→cr≤j→opC was cs d m g i cr→at'≤n7→2*(n7-at')+(oZK g+((aZb b k (szS x/8) (arS k x w)).length-i))≤t→j+t≤50→
  Sep [En p dp g,Dk dp d,own H0,pts b1 (dZ0 dp p k x w)] H→
  Zg.l18 (Ret (.bool true) H0) (t+1) (if b=true then 1 else 0) A7 n7 m7 A8 n8 m8 (k:Int) ⟨b1,0,none⟩ (was:Int) (cr:Int) (at':Int) (j:Int) H:=fun t=>by
 induction t with
 |zero=>
  intro j at' cr N i d c m g H hJ hmo hN hcr ho hat hφ hjt hs;have hile:=hJ.le;have hL:=hJ.lv;have hld:=hL.ld;unfold Zg.l18;refine Zn (by omega) ?_
  try simp only[HS]
  refine hs.ld 3 (v:=.pointer (some ⟨p,0,none⟩)) rfl rfl ?_;simp only[HV];rcases ho with⟨pk,hpk,rfl,hB⟩|⟨rfl,_⟩
  ·have hip:i=(aZb b k (szS x/8) (arS k x w)).length:=by omega
   subst hip;refine(hZ4 (p:=p) (dp:=dp) (some (egM d m pk)) (fun e he=>by cases he;show m.r.ld<_;omega)).use hs [0] rfl rfl ?_;rintro _ _ H ⟨rfl,rfl⟩ hs;simp only[HV];refine iZy (iZj _) ?_;simp only[HV];refine Zq (by rw[iZi,hJ.jb.st,hJ.size,hJ.har,if_neg (by omega)]) ?_;exact sZ6 hT hr hk6 hw hC hwas hJ (by omega) (by omega) hB (hs.re [0,1,2,3] rfl)
  ·have:oZK none=1:=rfl;omega
 |succ t ih=>
  intro j at' cr N i d c m g H hJ hmo hN hcr ho hat hφ hjt hs;have hile:=hJ.le;have hL:=hJ.lv;have hld:=hL.ld;have hp5:=(cZ6 b k (szS x/8) (arS k x w)).2;have hld4:∀ e,g=some e→e.r.ld<4294967296:=fun e he=>by
   rcases ho with⟨pk,_,h,_⟩|⟨h,_⟩
   ·rw[h]at he;cases he;show m.r.ld<_;omega
   ·rw[h]at he;cases he
  unfold Zg.l18;refine Zn (by omega) ?_
  try simp only[HS]
  refine hs.ld 3 (v:=.pointer (some ⟨p,0,none⟩)) rfl rfl ?_;simp only[HV];refine(hZ4 (p:=p) (dp:=dp) g hld4).use hs [0] rfl rfl ?_;rintro _ _ H ⟨rfl,rfl⟩ hs;have hs:Sep [En p dp g,Dk dp d,own H0,pts b1 (dZ0 dp p k x w)] H:=hs;simp only[HV]
    -- a turn, with whatever fuse
  have turn:∀(fu at2:Nat) (H:Hp),fu≤255→at2≤n7→2*(n7-at2)+(if fu=0 then 0 else 2)≤2*(n7-at')→¬(i=(aZb b k (szS x/8) (arS k x w)).length∧g≠none)→Sep [En p dp g,Dk dp { d with fuse:=fu},own H0,pts b1 (dZ0 dp p k x w)] H→
    Zg.j24 (Ret (.bool true) H0) (Zg.l18 (Ret (.bool true) H0) (t+1)) (if b=true then 1 else 0) A7 n7 m7 A8 n8 m8 (k:Int) ⟨b1,0,none⟩ (was:Int) (cr:Int) (at2:Int) (j:Int) H:=fun fu at2 H hfu hat2 hpot hnd hs=>by
   have hJ2:Jb N (scS k x) (szS x) (arS k x w) k b l { d with fuse:=fu} c m i:=⟨hL.fused fu (by omega),hJ.sec,hJ.size,hJ.har,hJ.jb,hile⟩;have ho2:opC was cs { d with fuse:=fu} m g i cr:=ho;refine wZi (R18:=Zg.l18 (Ret (.bool true) H0) (t+1)) hT hk6 hn8 hc8 hC hJ2 hmo (by omega) (by omega) ho2 hnd (fun H d' c' m' g' i' cr' hJ' hm' ho' hcr' h1 h2 hs=>?_) hs;rw[ZG (x:=(j:Int)+1) (by omega) (by omega)];have h2':fu=0→_:=h2;refine ih (j+1) at2 cr' (N+4) i' d' c' m' g' H hJ' hm' (by omega) (by omega) ho' hat2 ?_ (by omega) hs;by_cases hz:fu=0
   ·have:=h2' hz;rw[if_pos hz]at hpot;omega
   ·rw[if_neg hz]at hpot;omega
  have go:¬(i=(aZb b k (szS x/8) (arS k x w)).length∧g≠none)→Sep [En p dp g,Dk dp d,own H0,pts b1 (dZ0 dp p k x w)] H→
    (Ld H (⟨b1,0,none⟩:Addr) fun v10=>DP v10 fun p2=>NN p2 fun a2=>Za prog 31 #[.pointer (some (a2.add 7)),.int .i64 0] H fun v11 H8=>BIf (decide ((at':Int)<((n7:Nat):Int))) (Ld H8 ((⟨b1,0,none⟩:Addr).add 0) fun v12=>DP v12 fun p3=>NN p3 fun a3=>ixI (at':Int) n7 (NN A7 fun a4=>Ld H8 (a4.add ((at':Int).toNat*1)) fun v13=>DI .u8 v13 fun x15=>Za prog 31 #[.pointer (some (a3.add 7)),.int .i64 (i64.wrap x15)] H8 fun v14 H9=>Zg.j24 (Ret (.bool true) H0) (Zg.l18 (Ret (.bool true) H0) (t+1)) (if b=true then 1 else 0) A7 n7 m7 A8 n8 m8 (k:Int) ⟨b1,0,none⟩ (was:Int) (cr:Int) (i64.wrap ((at':Int)+(1:Int))) (j:Int) H9))
     (Zg.j24 (Ret (.bool true) H0) (Zg.l18 (Ret (.bool true) H0) (t+1)) (if b=true then 1 else 0) A7 n7 m7 A8 n8 m8 (k:Int) ⟨b1,0,none⟩ (was:Int) (cr:Int) (at':Int) (j:Int) H8)):=fun hnd hs=>by
   refine hs.ld 3 (v:=.pointer (some ⟨dp,0,none⟩)) rfl rfl ?_;simp only[HV]
   try simp only[HS]
   refine(pZA (p:=dp) (d:=d) 0).use hs [1] rfl rfl ?_;rintro _ _ H ⟨rfl,rfl⟩ hs;have hs:Sep [Dk dp { d with fuse:=0},En p dp g,own H0,pts b1 (dZ0 dp p k x w)] H:=hs;by_cases hlt:at'<n7
   ·refine Zn (by omega) ?_
    try simp only[HS]
    refine hs.ld 3 (v:=.pointer (some ⟨dp,0,none⟩)) rfl rfl ?_;simp only[HV];have hlt2:at'<fs.length:=by omega
    have hg:(Zm fs)[at']? =some (.int .u8 ((fs[at']'hlt2).toNat:Int)):=by
     unfold Zm;rw[List.getElem?_map,List.getElem?_eq_getElem hlt2];rfl
    refine(hc7.le (hs.ow 2 rfl)).read hg rfl (by rw[ZL];omega) ?_;simp only[HV];have hf255:(fs[at']'hlt2).toNat≤255:=by have:=(fs[at']'hlt2).toNat_lt;omega
    generalize(fs[at']'hlt2).toNat=fu at hf255;rw[aZJ (n:=fu) (by omega),ZG (x:=(at':Int)+1) (by omega) (by omega)]
    try simp only[HS]
    refine(pZA (p:=dp) (d:={ d with fuse:=0}) (fu:Int)).use hs [0] rfl rfl ?_;rintro _ _ H ⟨rfl,rfl⟩ hs;have hs:Sep [Dk dp { d with fuse:=fu},En p dp g,own H0,pts b1 (dZ0 dp p k x w)] H:=hs;exact turn fu (at'+1) H hf255 (by omega) (by split<;>omega) hnd (hs.re [1,0,2,3] rfl)
   ·refine Zh (by omega) ?_;exact turn 0 at' H (by omega) hat (by rw[if_pos rfl];omega) hnd (hs.re [1,0,2,3] rfl)
  rcases ho with⟨pk,hpk,rfl,hB⟩|⟨rfl,hid⟩
  ·refine iZy (iZj _) ?_;simp only[HV];by_cases hip:i=(aZb b k (szS x/8) (arS k x w)).length
   ·subst hip;refine Zq (by rw[iZi,hJ.jb.st,hJ.size,hJ.har,if_neg (by omega)]) ?_;exact sZ6 hT hr hk6 hw hC hwas hJ (by omega) (by omega) hB hs
   ·refine ZA (by rw[iZi,hJ.jb.st,hJ.size,hJ.har,if_pos (by omega)];decide) ?_;exact go (fun h=>hip h.1) hs
  ·refine iZy (v:=.int .i64 0) rfl ?_;simp only[HV];refine ZA (by decide) ?_;exact go (fun h=>h.2 rfl) hs
end
theorem WholeCost_ok (A1 A2 A3:OA)(n1 m1 n2 m2 n3 m3:Nat)(l:List UInt64)(hn1:n1=l.length)(hm1:n1≤m1)(dir:Int)(x w:Nat)(hx:x<256)(hw:w<256)(fs:List UInt8)(hn2:n2=fs.length)(keep:List Bool)(hn3:n3=keep.length)
  (H:Hp) (hT:T64 H) (hr:Rcd H) (hl:Cells H A1 (Zc l)) (hcF:Cells H A2 (Zm fs)) (hc3:Cells H A3 (bZ5 keep)):
  Za prog 5 #[.slice A1 n1 m1,.int .i64 dir,.int .u8 (x:Int),.int .u8 (w:Int),.slice A2 n2 m2,.slice A3 n3 m3] H (RetE (.bool true) H):=by
 apply Za.ret;apply Zg.ok;unfold Zg;refine Za.use (uZy H hT) ?_;simp only[HV];refine Za.use (uZv A1 n1 m1 l hn1 H hl) ?_;simp only[HV];by_cases hneg:iZZ l<0
 ·exact Zn hneg ((Sep.start H).fin 0 rfl _)
 refine Zh hneg ?_;obtain⟨k,ek,hlg,hk6,hlen,hcan⟩:=rZY (l:=l) (by omega);rw[ek];have j6:∀ b:Bool,dir=(if b=true then 1 else 0)→n2≤16→Zg.j6 (Ret (.bool true) H) A1 n1 m1 dir (x:Int) (w:Int) A2 n2 m2 A3 n3 m3 (k:Int) H:=fun b hb h16=>by
  subst hb;obtain⟨g1,g2,g3,g4,g5,g6⟩:=iZJ x;have hls:=fZg (k:=k) (per:=szS x/8) hk6;have har:arS k x w≤1000:=by unfold arS;omega
  have hle:aZR k (szS x/8)≤arS k x w:=by unfold arS;omega
  obtain⟨cs,hC⟩:=dZ5.ex (most:=k) (k:=k) (per:=szS x/8) (words:=arS k x w) (iZd g1) (by omega) (Nat.le_refl _) hk6 har hT (aZb b k (szS x/8) (arS k x w)) (iZ5 (by omega) hle);unfold Zg.j6;have hs:=Sep.start H;refine(vZG (k:=k) (x:=x) (w:=w) hk6 hx hw).use hs [] rfl rfl ?_;rintro _ _ H1 ⟨dp,p,d,c,rfl,hsec,hsize,hf,hL,rfl⟩ hs;simp only[HV];refine hs.nw fun b1 H1 hs=>?_
  refine hs.stw 3 (y:=qZ5 dp p k x w) rfl rfl rfl rfl fun H1 hs=>?_
  have hs:Sep [En p dp (some (egM d (aZZ k (arS k x w)) 0)),Dk dp d,own H,pts b1 (dZ0 dp p k x w)] H1:=hs;have hsm:=hL.small (by omega)
  try simp only[HS]
  refine hs.ld 3 (v:=.pointer (some ⟨p,0,none⟩)) rfl rfl ?_;simp only[HV];have h64:=iZr hk6;refine(pZC (p:=p) (dp:=dp) hL.cl hL.hh hsm.1 hsm.2 (by show(0:Int)≤_;omega) (l:=l) (A:=A1) (n:=n1) (mm:=m1) (RR:=own H) (TT:=pts b1 (dZ0 dp p k x w)) hn1 hm1 (by omega) (fun H' h=>hl.le h) (.inr fun H' h=>hT.le h)).use hs [0,1,2,3] rfl rfl ?_;rintro _ _ H1 (⟨k',i,e,hchk,hne,_⟩|⟨k',hk',_,_,⟨d1,c1,pk1,hpk1,hw1,hc1,hh1,rfl,rfl⟩|⟨d1,hcut,_⟩⟩) hs
  ·cases hchk with
   |len h=>rw[h]at hlg;cases hlg
   |big h h2=>rw[h]at hlg;cases hlg;exact absurd h2 (by show ¬((_:Nat):Int)>((k:Nat):Int);omega)
   |word h h2 h3=>exact absurd hcan h3
   |ok h h2 h3=>exact absurd rfl hne
  rotate_left
  ·exact(hcut.calm hf).elim
  obtain rfl:k=k':=by rw[hlg]at hk';cases hk';rfl
  have hf1:d1.fuse=0:=hw1.calm hf;have hper:=hL.hh.per;have hb1:=lZ4 (d.size/8) k;have hb2:=lZ5 (d.size/8) k;have hb3:=lZH (per:=d.size/8) (w:=2^k) (by omega) (Nat.two_pow_pos k);have h1r:(aZD (aZZ k (arS k x w)) k).r=cZl (aZZ k (arS k x w)) k:=Mn.add_r _ _;have h2r:(aZ5 (aZZ k (arS k x w)) k l).r=cZ2 (aZD (aZZ k (arS k x w)) k) k l:=Mn.add_r _ _;have h3r:(eZi (aZZ k (arS k x w)) k l b).r=cZQ (aZ5 (aZZ k (arS k x w)) k l) b:=Mn.add_r _ _;have hld1:(aZ5 (aZZ k (arS k x w)) k l).r.ld=1:=by rw[h2r];show(aZD (aZZ k (arS k x w)) k).r.ld=_;rw[h1r];rfl
  have hld2:(eZi (aZZ k (arS k x w)) k l b).r.ld=1:=by rw[h3r];exact hld1
  have hL1:Liv 4 d1 c1 (aZ5 (aZZ k (arS k x w)) k l):=hL.went hw1 (by unfold ldR ldW;omega) hc1 hh1 rfl (by show([]++[_]++[_]:List _).length≤_;simp) (by omega);have hsm1:=hL1.small (by omega);have hcn1:=hL1.cnt (by omega);have hwas:aZB (cZ0 d1)≤1000000:=by
   have q1:=hL1.rd;have q2:=hL1.wr;have q3:=hL1.sy;show d1.rd+d1.wr+d1.sy≤_;omega
  simp only[HV];refine Zq rfl ?_
  try simp only[HS]
  have hs:Sep [En p dp (some (egM d (aZ5 (aZZ k (arS k x w)) k l) pk1)),Dk dp d1,own H,pts b1 (dZ0 dp p k x w)] H1:=hs;rw[← fZe (aZ5 (aZZ k (arS k x w)) k l) pk1 hw1.sec hw1.size]at hs;refine hs.ld 3 (v:=.pointer (some ⟨dp,0,none⟩)) rfl rfl ?_;simp only[HV]
  try simp only[HS]
  refine Za.use (pZz hs 1 rfl) ?_;simp only[HV];refine Za.use (iZv (cZ0 d1) (hcn1.mono (by omega)) H1) ?_;simp only[HV];refine hs.ld 3 (v:=.pointer (some ⟨p,0,none⟩)) rfl rfl ?_;simp only[HV];have hst:stM (aZ5 (aZZ k (arS k x w)) k l) (d1.size/8)=2:=by unfold stM;rw[if_pos (by rw[h2r];rfl)]
  refine(mZE (p:=p) (dp:=dp) hL1.cl hL1.hh hsm1.1 hsm1.2 hpk1 (if b=true then 1 else 0)).use hs [0,1] rfl rfl ?_;rintro _ _ H1 (⟨h,_⟩|⟨_,h,_⟩|⟨_,b',hb',⟨d2,c2,hw2,hc2,hh2,rfl,rfl⟩|⟨d2,hcut,_⟩⟩) hs
  ·exact absurd hst h
  ·exact absurd (by cases b<;>simp) h
  rotate_left
  ·exact(hcut.calm hf1).elim
  obtain rfl:b'=b:=by cases b<;>cases b'<;>first|rfl|(exfalso;revert hb';decide)
  have hL2:Liv 6 d2 c2 (eZi (aZZ k (arS k x w)) k l b'):=hL1.went hw2 (by omega) hc2 hh2 rfl (by show([]++[_]++[_]++[_]:List _).length≤_;simp) (by omega);simp only[HV];refine Zq rfl ?_;have hs:Sep [En p dp (some (egM d1 (eZi (aZZ k (arS k x w)) k l b') pk1)),Dk dp d2,own H,pts b1 (dZ0 dp p k x w)] H1:=hs;rw[← fZe (eZi (aZZ k (arS k x w)) k l b') pk1 hw2.sec hw2.size]at hs;have hj:=oZs (aZZ k (arS k x w)) k l b';have hp5:=(cZ6 b' k (szS x/8) (arS k x w)).2;have hcw:=kZK hw2;have h10:aZB (8,1,1)=gZd cs 0:=rfl;refine⟨2*n2+5+1,?_⟩;refine wZh (p:=p) (dp:=dp) (was:=aZB (cZ0 d1)) (fs:=fs) (keep:=keep) (x:=x) (w:=w) (l:=l) hT hr hk6 hw hC hn3 hc3 hn2 h16 hcF hwas (2*n2+5) 0 0 0 10 0 d2 c2 (eZi (aZZ k (arS k x w)) k l b') (some (egM d2 (eZi (aZZ k (arS k x w)) k l b') pk1)) H1 ⟨hL2.up (by omega),hw2.sec.trans (hw1.sec.trans hsec),hw2.size.trans (hw1.size.trans hsize),rfl,hj,Nat.zero_le _⟩ rfl (by omega) (Nat.le_refl _) (.inl ⟨pk1,hpk1,rfl,by omega⟩) (by omega) ?_ (by omega) hs;show 2*(n2-0)+(0+(_-0))≤_
  omega
 have guard:∀ b:Bool,dir=(if b=true then 1 else 0)→(BIf (decide ((n2:Int)>16)) (Ret (.bool true) H (.bool true) H) (BIf (decide ((n3:Int)>40)) (Ret (.bool true) H (.bool true) H) (Zg.j6 (Ret (.bool true) H) A1 n1 m1 dir (x:Int) (w:Int) A2 n2 m2 A3 n3 m3 (k:Int) H))):=fun b hb=>by
  have yes:Ret (.bool true) H (.bool true) H:=⟨rfl,Hp.le_refl _⟩;by_cases h2:(n2:Int)>16
  ·exact Zn h2 yes
  refine Zh h2 ?_;by_cases h3:(n3:Int)>40
  ·exact Zn h3 yes
  exact Zh h3 (j6 b hb (by omega))
 by_cases h0:dir=0
 ·exact Zq h0 (guard false h0)
 ·refine ZA h0 ?_;by_cases h1:dir=1
  ·exact Zq h1 (guard true h1)
  ·exact ZA h1 ⟨rfl,Hp.le_refl _⟩
end Eng
end Go.Proofs.YtgfildcgihbdaaaGreatDoor
