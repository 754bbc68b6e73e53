import Derived.Test.YtlgnlghmbcpmhaaGreatDoorProg
import Derived.Test.YtlgnlghmbcpmhaaGreatDoorPkWholeProof9
set_option maxRecDepth 100000
set_option linter.unusedSimpArgs false
set_option linter.unusedVariables false
set_option linter.unnecessarySimpa false
set_option linter.unusedSectionVars false
open Go.IntKind (i64 u32 u64 u8)
namespace Go.Proofs.YtlgnlghmbcpmhaaGreatDoor
open Tryz (prog)
namespace Eng
open Go Go.Hw Go.Form W Shp Dsk Str Are Trn Pas Pln Rec Srt Rng
theorem jD.go {g:FuncId}{args:Array Value}{H:Hp}{K:VK}(h:mF prog g=true)(k:aa prog g args H K):jD prog g args H K:=cO h k
def cV (m:Mn)(k:Nat):Mn:=m.add (gj m k)
def dA (m:Mn)(k:Nat)(l:List UInt64):Mn:={ cV m k with dJ:=l}.add (iu (cV m k) k l)
def s6 (ae k:Nat):Nat:=16+BA ae k+nS ae (2^k)
def s7 (ae k:Nat):Nat:=2+yU ae k
section
variable {p dp : Nat} {d : D} {c : Cn} {m : Mn} {aj : Int} (hc : Clean d c) (hh : Holds d.sec d.size m c) (hS : Small 100000 m) (ho : d.rd <= 800000 /\ d.wr <= 800000 /\ d.sy <= 800000) (hpk : aj <= m.aX)
def sn (p dp:Nat)(d:D)(m:Mn)(aj:Int)(l:List UInt64)(RR TT:As)(v:Value)(M:List As):Prop:=
 (∃ k i e,qB l m.aG k i e/\e≠0/\v= .tuple #[I i,I e]/\M=[En p dp (some (bA d m aj)),Dk dp d,RR,TT])\/
 (∃ k:Nat,lg (l.length:Int)=some k/\k<=m.aG/\lP l/\
  ((∃ d' c' peak',peak'<=(m.aX:Int)/\fh d d' (s6 (d.size/8) k) (s7 (d.size/8) k) 3/\Clean d' c'/\Holds d.sec d.size (dA m k l) c'/\v= .tuple #[I 0,I 0]/\M=[En p dp (some (bA d (dA m k l) peak')),Dk dp d',RR,TT])\/
  (∃ d',fY d d' (s6 (d.size/8) k+s7 (d.size/8) k+3)/\Left d' (fun c'=>Holds d.sec d.size m c'\/Holds d.sec d.size (cV m k) c'\/Holds d.sec d.size (dA m k l) c')/\v= .tuple #[I 0,I 8]/\M=[En p dp none,Dk dp d',RR,TT])))
set_option maxHeartbeats 8000000 in
include hc hh hS ho hpk in
theorem B1 {l:List UInt64}{A:OA}{n mm:Nat}{RR TT:As}(hn:n=l.length)(hnm:n<=mm)(hl20:l.length<=40000)(hR:∀ H,RR H->Cells H A (af l))(hT:(∀ H,TT H->T64 H)\/∀ H,RR H->T64 H):
  Tr prog 70 #[V p,.slice A n mm] [En p dp (some (bA d m aj)),Dk dp d,RR,TT] (sn p dp d m aj l RR TT):=fun H hs=>by
 subst hn;have he:=hh.eg hpk;obtain⟨mp,ap,rp,A',m',hs⟩:=En.whole hs;apply av.ok;unfold av av.q3 av.q2 av.q1;refine hs.nw fun b1 H hs=>?_
 refine hs.nw fun b2 H hs=>?_
 have jR:∀(L:List As) (H:Hp) (K:VK),Sep L H->L[6]? =some RR->L[7]? =some TT->(∀ k i e,qB l m.aG k i e->K (.tuple #[I k,I i,I e]) H)->
   aa prog 131 #[.slice A l.length mm,I (m.aG:Int)] H K:=fun L H K hs h6 h7 hk=>by
  obtain⟨H1,hr,hr'⟩:=hs.fU 6 h6;obtain⟨H2,ht,ht'⟩:=hs.fU 7 h7;refine aa.mono (EA A l.length mm l m.aG rfl (by omega) H (hT.elim (fun f=>(f _ ht).le ht') fun f=>(f _ hr).le hr') ((hR _ hr).le hr')) ?_;rintro _ _ ⟨⟨k,i,e,h,rfl⟩,rfl⟩;exact hk k i e h
 have hk0:∀{k:Nat},lg (l.length:Int)=some k->l.length=2^k:=fun h=>by have:=(gn h).2;omega
 have hld:=hS.ld;have hpe:(bA d m aj).ae=D.ae d:=rfl;have j4:∀ k i e b3 H,qB l m.aG k i e->Sep [ah p (cH dp (some mp)),ah mp (bW (bA d m aj) ap rp A' (cE (bA d m aj)).length m'),Ar ap m.aX aj [],ah rp (bO dp 1 8 ((8*(bA d m aj).ae:Nat):Int)),cj 221 8 A' (cE (bA d m aj)).length m' (fc (cE (bA d m aj))),Dk dp d,RR,TT,
   ah b1 (Oa #[V p] 27),ah b2 (Oa #[.slice A l.length mm] 31),ah b3 (Oa #[I k] 3)] H->
   av.j4 (fun v H'=>∃ M,sn p dp d m aj l RR TT v M/\Sep M H') (O b1) (O b2) i e (O b3) H:=fun k i e b3 H hv hs=>by
  unfold av.j4 av.j4.q4 av.j4.q3 av.j4.q2 av.j4.q1;have bad:∀(h:e≠0),∃ M,sn p dp d m aj l RR TT (.tuple #[I i,I e]) M/\Sep M H:=fun h=>
   ⟨_,.inl ⟨k,i,e,hv,h,rfl,rfl⟩,En.pU (L:=[Dk dp d,RR,TT]) (hs.re [0,1,2,3,4,5,6,7] rfl)⟩
  cases hv with
  |len h=>exact aU (by decide) (bad (by decide))
  |kV h h2=>exact aU (by decide) (bad (by decide))
  |word h h2 h3=>exact aU (by decide) (bad (by decide))
  |ok hlg hkm hcan=>
  rename_i k
  clear bad;refine aF rfl ?_;have hkm:k<=m.aG:=by omega
  have hl:=hk0 hlg;have hfin:∀ v M,((∃ d' c' peak',peak'<=(m.aX:Int)/\fh d d' (s6 (d.size/8) k) (s7 (d.size/8) k) 3/\Clean d' c'/\Holds d.sec d.size (dA m k l) c'/\v= .tuple #[I 0,I 0]/\M=[En p dp (some (bA d (dA m k l) peak')),Dk dp d',RR,TT])\/
  (∃ d',fY d d' (s6 (d.size/8) k+s7 (d.size/8) k+3)/\Left d' (fun c'=>Holds d.sec d.size m c'\/Holds d.sec d.size (cV m k) c'\/Holds d.sec d.size (dA m k l) c')/\v= .tuple #[I 0,I 8]/\M=[En p dp none,Dk dp d',RR,TT]))->sn p dp d m aj l RR TT v M:=fun v M h=>.inr ⟨k,hlg,hkm,hcan,h⟩
  have j7:∀ b4 H,Sep [ah p (cH dp (some mp)),ah mp (bW (bA d m aj) ap rp A' (cE (bA d m aj)).length m'),Ar ap m.aX aj [],ah rp (bO dp 1 8 ((8*(bA d m aj).ae:Nat):Int)),cj 221 8 A' (cE (bA d m aj)).length m' (fc (cE (bA d m aj))),Dk dp d,RR,TT,
    ah b1 (Oa #[V p] 27),ah b2 (Oa #[.slice A l.length mm] 31),ah b3 (Oa #[I (k:Int)] 3),ah b4 (eX { gj m k with s:=0})] H->
    av.j7 (fun v H'=>∃ M,sn p dp d m aj l RR TT v M/\Sep M H') (O b1) (O b2) (O b3) (O b4) H:=fun b4 H hs=>by
   unfold av.j7;refine hs.nw fun b5 H hs=>?_
   refine hs.ld 8 (v:=V p) rfl rfl ?_;simp only[HV]
   try simp only[HS]
   refine hs.ld 0 (v:=V mp) rfl rfl ?_;simp only[HV];refine hs.nw fun b6 H hs=>?_
   try simp only[HS]
   refine hs.st 13 rfl (by show 0<1;omega) rfl fun H hs=>?_;refine hs.ld 8 (v:=V p) rfl rfl ?_;simp only[HV];refine hs.nw fun b7 H hs=>?_
   have hs:=Me.shut (mp:=mp) (dp:=dp) (e:=bA d m aj) (ap:=ap) (rp:=rp) (A:=A') (m:=m') (L:=[ah p (cH dp (some mp)),Dk dp d,RR,TT,ah b1 (Oa #[V p] 27),ah b2 (Oa #[.slice A l.length mm] 31),ah b3 (Oa #[I (k:Int)] 3),ah b4 (eX { gj m k with s:=0}),ah b5 _,ah b6 _,ah b7 _]) (hs.re [1,2,3,4,0,5,6,7,8,9,10,11,12,13,14] rfl);apply aZ.ok;unfold aZ;refine⟨4,?_⟩;obtain⟨g1,g2,g3,g4⟩:=J' hh hS (by omega) hkm;have hres1:eM prog 132=[63]:=by kernel_rfl
   have hres2:eM prog 133=[63]:=by kernel_rfl
   have hres3:eM prog 135=[63]:=by kernel_rfl
   have bad:∀(X:As) (L':List As) (H:Hp) (d':D),Sep (X::Dk dp d'::ah p (cH dp (some mp))::RR::TT::L') H->fY d d' (s6 (d.size/8) k+s7 (d.size/8) k+3)->Left d' (fun c'=>Holds d.sec d.size m c'\/Holds d.sec d.size (cV m k) c'\/Holds d.sec d.size (dA m k l) c')->
     aa prog 80 #[V p,I 8] H fun v H'=>v= I 8/\∃ M,sn p dp d m aj l RR TT (.tuple #[I 0,I 8]) M/\Sep M H':=fun X L' H d' hs h1 h2=>by
    have hs:Sep [X,Dk dp d',ah p (cH dp (some mp)),RR,TT] H:=Sep.take (L:=L') hs;refine(kq (p:=p) (dp:=dp) (mp:=mp) 8).use hs [2] rfl rfl ?_;rintro _ _ H ⟨rfl,rfl⟩ hs;exact⟨rfl,_,hfin _ _ (.inr ⟨d',h1,h2,rfl,rfl⟩),hs.re [0,2,3,4] rfl⟩
   unfold aZ.l2;refine aA (by decide) ⟨by decide,by decide,?_⟩;simp only[HV];refine hs.ph 11 (v:=.func (.func 132) #[] #[V b6,V b4]) rfl rfl ?_;refine jD.go (by kernel_rfl) ?_;rw[hres1];apply gF.ok;unfold gF;simp only[HV];refine hs.ld 10 (v:=V mp) rfl rfl ?_;simp only[HV];refine hs.bJ 8 rfl rfl ?_
   try simp only[Array.toArray_toList]
   have hseq:=Mn.qV hh;have hR1:s6 (d.size/8) k=8+(BA (d.size/8) k+nS (d.size/8) (2^k))+8:=by unfold s6;omega
   have hW1:s7 (d.size/8) k=1+yU (d.size/8) k+1:=by unfold s7;omega
   refine(qI (mp:=mp) (dp:=dp) (e:=bA d m aj) hc he (by omega) (r:=gj m k) { gj m k with s:=0} rfl hseq.symm g1 g2 (by rw[hh.jh];exact g3) (by show(k:Int)<=m.aG;omega)).use hs [0,2] rfl rfl ?_;rintro _ _ H (⟨d1,rfl,hw1,hc1,rfl⟩|⟨d',rfl,hcut,hleft,rfl⟩) hs
   rotate_left
   .simp only[HV];refine kz _ _ ?_;simp only[HV];refine aU (by decide) ?_;refine aa.mono (bad _ _ H d' hs (hcut.more (by omega)) (hleft.mono fun c' h=>?_)) ?_
    .rcases h with e|e
     .left;rw[e];exact hh
     .right;left;rw[e];exact g4
    .rintro _ H ⟨rfl,M,h,hs⟩;simp only[HV];exact⟨M,h,hs⟩
   simp only[HV];refine kz _ _ ?_;simp only[HV];refine aF rfl ?_;rw[show i64.wrap ((0:Int)+1)=1 by kernel_rfl];unfold aZ.l2;refine aA (by decide) ⟨by decide,by decide,?_⟩;simp only[HV];refine hs.ph 11 (v:=.func (.func 133) #[] #[V b6,V b1,V b3,V b2,V b5]) rfl rfl ?_;refine jD.go (by kernel_rfl) ?_;rw[hres2];apply gG.ok;unfold gG;simp only[HV];refine hs.ld 10 (v:=V mp) rfl rfl ?_;simp only[HV];refine hs.ld 5 (v:=V p) rfl rfl ?_;simp only[HV]
   try simp only[HS]
   refine hs.ld 2 (v:=V dp) rfl rfl ?_;simp only[HV];refine hs.ld 7 (v:=I (k:Int)) rfl rfl ?_;simp only[HV];refine hs.ld 6 (v:=.slice A l.length mm) rfl rfl ?_;simp only[HV];have h1r:(cV m k).r=gj m k:=Mn.kj _ _;have hh1:Holds d1.sec d1.size (cV m k) (eT c (dq 1 8 (gj m k).s) ((gj m k).form d.size)):=by rw[hw1.sec,hw1.size];exact g4
   have ee:{ bA d m aj with r:=gj m k}=bA d1 (cV m k) aj:=by unfold bA;rw[h1r,hw1.sec,hw1.size];rfl
   rw[ee]at hs;have he1:=hh1.eg (aj:=aj) hpk;generalize hc1e:eT c (dq 1 8 (gj m k).s) ((gj m k).form d.size)=c1 at*;obtain⟨ap2,rp2,A2,m2,hs⟩:=Me.open hs;have hs:Sep [ah mp (bW (bA d1 (cV m k) aj) ap2 rp2 A2 (cE (bA d1 (cV m k) aj)).length m2),Ar ap2 m.aX aj [],ah rp2 (bO dp 1 8 ((8*(bA d1 (cV m k) aj).ae:Nat):Int)),cj 221 8 A2 (cE (bA d1 (cV m k) aj)).length m2 (fc (cE (bA d1 (cV m k) aj))),Dk dp d1,ah p (cH dp (some mp)),RR,TT,
    ah b1 (Oa #[V p] 27),ah b2 (Oa #[.slice A l.length mm] 31),ah b3 (Oa #[I (k:Int)] 3),ah b4 (eX { gj m k with s:=0}),ah b5 _,ah b6 _,ah b7 _] H:=hs
   have hkk:=gO (k:=k) (by have:=he.aG;have:m.aG<=32:=this;omega);have hrd1:=hw1.rd;have hwr1:=hw1.wr;have hsy1:=hw1.sy;refine(Ig (mp:=mp) (dp:=dp) (ap:=ap2) (rp:=rp2) (e:=bA d1 (cV m k) aj) (A:=A2) (n:=(cE (bA d1 (cV m k) aj)).length) (mm:=m2) (d:=d1) (c:=c1) (k:=k) (l:=l) (R:=RR) hc1 he1 hkm (by omega) hl rfl hnm hR).use hs [0,1,4,6] rfl rfl ?_;have hp1:D.ae d1=d.size/8:=hw1.ae;have htgt:∀ c',pW (iy (eO m.aG (D.ae d1) 0 k)) c1 c'->Holds d1.sec d1.size (cV m k) c':=fun c' h=>
    hh1.target (t:=0) (k:=k) hkm (fun r hr h2=>by rw[cV,Mn.zY]at hr;cases hr;exact absurd h2 (show ¬(2:Int)<=1 by omega)) (fun r hr h4=>by rw[cV,Mn.zY]at hr;cases hr;exact absurd h4 (show ¬(1:Int)=4 by omega)) h
   rintro _ _ H ⟨pk2,hpk2,(⟨d2,c2,hw2,hc2,hsam,hcw,rfl,rfl⟩|⟨d',x,hcut,hleft,rfl,rfl⟩)⟩ hs
   rotate_left
   .simp only[HV]
    try simp only[HS]
    refine hs.st 12 rfl (by show 0<1;omega) rfl fun H hs=>?_;refine kz _ _ ?_;simp only[HV];refine aU (by decide) ?_;rw[hp1]at hcut;refine aa.mono (bad _ _ H d' (hs.re [0,2,6,3,7] rfl) ((hw1.cut hcut).more (by omega)) (hleft.mono fun c' h=>?_)) ?_
    .right;left;have:=htgt c' h;rw[hw1.sec,hw1.size]at this;exact this
    .rintro _ H ⟨rfl,M,h,hs⟩;simp only[HV];exact⟨M,h,hs⟩
   simp only[HV]
   try simp only[HS]
   refine hs.st 12 rfl (by show 0<1;omega) rfl fun H hs=>?_;refine kz _ _ ?_;simp only[HV];refine aF rfl ?_;rw[show i64.wrap ((1:Int)+1)=2 by kernel_rfl];unfold aZ.l2;refine aA (by decide) ⟨by decide,by decide,?_⟩;simp only[HV];have ee2:{ bA d1 (cV m k) aj with aj:=pk2}=bA d2 (cV m k) pk2:=by unfold bA;rw[hw2.sec,hw2.size]
   have hs:Sep (oS mp dp ap2 rp2 { bA d1 (cV m k) aj with aj:=pk2} A2 (cE { bA d1 (cV m k) aj with aj:=pk2}).length m2++[Dk dp d2,ah p (cH dp (some mp)),RR,TT,
    ah b1 (Oa #[V p] 27),ah b2 (Oa #[.slice A l.length mm] 31),ah b3 (Oa #[I (k:Int)] 3),ah b4 (eX { gj m k with s:=0}),ah b5 _,ah b6 _,ah b7 _]) H:=hs.re [0,1,4,5,2,6,3,7,8,9,10,11,12,13,14] rfl
   have hs:=Me.shut hs;rw[ee2]at hs;have hh2:Holds d2.sec d2.size (cV m k) c2:=by rw[hw2.sec,hw2.size];exact htgt c2 hsam
   have hS1:Small 100001 (cV m k):=hS.add (by show m.r.ld+1<=_;omega);have h1kd:(cV m k).r.kd=1:=by rw[h1r];rfl
   have h1kk:(cV m k).r.kk=k:=by rw[h1r];rfl
   have hsz2:d2.size/8=D.ae d1:=by rw[hw2.size];rfl
   obtain⟨q1,q2,q3,q4⟩:=Jy hh2 hS1 (by omega) h1kd h1kk hl hcan (by rw[hsz2];exact hcw);have hrd2:=hw2.rd;have hwr2:=hw2.wr;have hsy2:=hw2.sy;have hb1:=wR (D.ae d1) k;have hb2:=wS (D.ae d1) k;have hpd1:=Ok.dQ hc1.ok;have hb3:=wm (ae:=D.ae d1) (w:=2^k) (by omega) (Nat.two_pow_pos k);have elr:iu (cV m k) k l=⟨(cV m k).seq,2,k,0,0,m.r.ld+1,kX l,0⟩:=by unfold iu;rw[h1r];rfl
   have hseq2:=Mn.qV hh2;refine hs.ph 11 (v:=.func (.func 135) #[] #[V b5,V b4,V b6]) rfl rfl ?_;refine jD.go (by kernel_rfl) ?_;rw[hres3];apply dP.ok;unfold dP dP.q1;have fin3:∀ H,Sep [Me mp dp (bA d2 (cV m k) pk2),Dk dp d2,ah p (cH dp (some mp)),RR,TT,
    ah b1 (Oa #[V p] 27),ah b2 (Oa #[.slice A l.length mm] 31),ah b3 (Oa #[I (k:Int)] 3),ah b4 (eX { iu (cV m k) k l with s:=0})] H->
     aa prog 110 #[V mp,.agg (R.c { iu (cV m k) k l with s:=0})] H fun v H'=>∃ x:Int,v= I x/\((x=0/\∃ M,sn p dp d m aj l RR TT (.tuple #[I 0,I 0]) M/\Sep M H')\/(x=8/\∃(X:As) (L':List As) (d':D),Sep (X::Dk dp d'::ah p (cH dp (some mp))::RR::TT::L') H'/\fY d d' (s6 (d.size/8) k+s7 (d.size/8) k+3)/\Left d' (fun c'=>Holds d.sec d.size m c'\/Holds d.sec d.size (cV m k) c'\/Holds d.sec d.size (dA m k l) c'))):=fun H hs=>by
    refine(qI (mp:=mp) (dp:=dp) (e:=bA d2 (cV m k) pk2) hc2 (hh2.eg hpk2) (by omega) (r:=iu (cV m k) k l) { iu (cV m k) k l with s:=0} rfl hseq2.symm q1 q2 (by rw[hh2.jh];exact q3) (by show(k:Int)<=m.aG;omega)).use hs [0,1] rfl rfl ?_;rintro _ _ H (⟨d3,rfl,hw3,hc3,rfl⟩|⟨d',rfl,hcut,hleft,rfl⟩) hs
    .refine⟨0,rfl,.inl ⟨rfl,_,hfin _ _ (.inl ⟨d3,_,pk2,hpk2,?_,hc3,?_,rfl,rfl⟩),?_⟩⟩
     .have:=(hw1.trans hw2).trans hw3;rw[hp1]at this;rw[hR1,hW1];exact this
     .have:=q4;rw[hw2.sec,hw2.size,hw1.sec,hw1.size]at this;rw[hw2.size,hw1.size];exact this
     .have e3:bA d (dA m k l) pk2={ bA d2 (cV m k) pk2 with r:=iu (cV m k) k l}:=by
       unfold dA bA;rw[Mn.kj,hw2.sec,hw2.size,hw1.sec,hw1.size];rfl
      rw[e3];exact En.shut (L:=[Dk dp d3,RR,TT]) (hs.re [2,0,1,3,4] rfl)
    .refine⟨8,rfl,.inr ⟨rfl,_,_,d',hs,?_,hleft.mono fun c' h=>?_⟩⟩
     .have:=(hw1.trans hw2).cut hcut;rw[hp1]at this;exact this.more (by omega)
     .rw[hw2.sec,hw2.size,hw1.sec,hw1.size]at q4 hh2;rw[hw2.size,hw1.size]at h;rcases h with e|e
      .right;left;rw[e];exact hh2
      .right;right;rw[e];exact q4
   constructor
   .refine hs.ld 9 (v:=Oi (kX l:Int)) rfl rfl ?_;simp only[HV]
    try simp only[HS]
    refine hs.st 8 rfl (by show 1<8;omega) rfl fun H hs=>?_
    try simp only[HS]
    refine hs.st 8 rfl (by show 6<8;omega) rfl fun H hs=>?_;refine hs.ld 10 (v:=V mp) rfl rfl ?_;simp only[HV];refine hs.bJ 8 rfl rfl ?_
    try simp only[Array.toArray_toList]
    have hs:=hs.re [0,1,2,3,4,5,6,7,8] rfl;have ff:=fin3 H;rw[elr]at ff;refine aa.mono (ff hs) ?_;rintro _ H ⟨x,rfl,(⟨rfl,M,h,hs⟩|⟨rfl,X,L',d',hs,h1,h2⟩)⟩
    .simp only[HV];refine kz _ _ ?_;simp only[HV];refine aF rfl ?_;rw[show i64.wrap ((2:Int)+1)=3 by kernel_rfl];unfold aZ.l2;refine au (by decide) ?_;simp only[HV];exact⟨M,h,hs⟩
    .simp only[HV];refine kz _ _ ?_;simp only[HV];refine aU (by decide) ?_;refine aa.mono (bad X L' H d' hs h1 h2) ?_;rintro _ H ⟨rfl,M,h,hs⟩;simp only[HV];exact⟨M,h,hs⟩
   .try simp only[HS]
    refine hs.st 8 rfl (by show 1<8;omega) rfl fun H hs=>?_;refine hs.ld 9 (v:=Oi (kX l:Int)) rfl rfl ?_;simp only[HV]
    try simp only[HS]
    refine hs.st 8 rfl (by show 6<8;omega) rfl fun H hs=>?_;refine hs.ld 10 (v:=V mp) rfl rfl ?_;simp only[HV];refine hs.bJ 8 rfl rfl ?_
    try simp only[Array.toArray_toList]
    have hs:=hs.re [0,1,2,3,4,5,6,7,8] rfl;have ff:=fin3 H;rw[elr]at ff;refine aa.mono (ff hs) ?_;rintro _ H ⟨x,rfl,(⟨rfl,M,h,hs⟩|⟨rfl,X,L',d',hs,h1,h2⟩)⟩
    .simp only[HV];refine kz _ _ ?_;simp only[HV];refine aF rfl ?_;rw[show i64.wrap ((2:Int)+1)=3 by kernel_rfl];unfold aZ.l2;refine au (by decide) ?_;simp only[HV];exact⟨M,h,hs⟩
    .simp only[HV];refine kz _ _ ?_;simp only[HV];refine aU (by decide) ?_;refine aa.mono (bad X L' H d' hs h1 h2) ?_;rintro _ H ⟨rfl,M,h,hs⟩;simp only[HV];exact⟨M,h,hs⟩
  have ewp:u32.wrap ((m.r.ld:Int)+1)=((m.r.ld+1:Nat):Int):=by rw[Li];rfl
  repeat' first
   |(rw[ewp]at hs;exact j7 _ _ hs)
   |refine hs.ld 8 (v:=.pointer (some ⟨p,0,none⟩)) rfl rfl ?_
   |refine hs.ld 10 (v:=.int .i64 (k:Int)) rfl rfl ?_
   |refine hs.ld 0 (v:=.pointer (some ⟨mp,0,none⟩)) rfl rfl ?_
   |refine hs.ld 1 (v:=.int .u32 (m.r.ld:Int)) rfl rfl ?_
   |refine hs.nw fun b H hs=>?_
   |refine hs.eY 11 rfl rfl rfl rfl fun H hs=>?_
   |(simp only[HV];try simp only[HS])
   |refine⟨?_,?_⟩
 refine hs.ld 8 (v:=V p) rfl rfl ?_;simp only[HV]
 try simp only[HS]
 refine hs.ld 0 (v:=V mp) rfl rfl ?_;simp only[HV];refine bY rfl ?_
 repeat' first
  |exact j4 _ _ _ _ _ hv hs
  |refine hs.ld 9 (v:=.slice A l.length mm) rfl rfl ?_
  |refine hs.ld 8 (v:=.pointer (some ⟨p,0,none⟩)) rfl rfl ?_
  |refine hs.ld 0 (v:=.pointer (some ⟨mp,0,none⟩)) rfl rfl ?_
  |refine hs.ld 1 (v:=.int .i64 (m.aG:Int)) rfl rfl ?_
  |refine jR _ _ _ hs rfl rfl fun k i e hv=>?_
  |refine hs.nw fun b H hs=>?_
  |refine hs.st 10 rfl Nat.zero_lt_one rfl fun H hs=>?_
  |(simp only[HV];try simp only[HS])
  |refine⟨?_,?_⟩
end
end Eng
namespace Sup
open Go Go.Hw Go.Form W Lay
theorem D4 (k sec s ar:Int)(h:eB k sec s ar=true)(hsec:sec<=9223372036854775807):dD (fI k sec s ar)=((k,sec,s,ar),0):=by
 have hg:=h;unfold eB at hg;simp only[decide_eq_true_eq]at hg;obtain⟨h1,h2,h3,h4,h5,h6⟩:=hg;obtain⟨kn,rfl⟩:=Int.eq_ofNat_of_zero_le h1;have hlen:=sx kn sec s ar h3;have hlog:=pQ s;have hll:=Fs s;have hw:∀(i:Nat) (hi:i<4),aJ (fI kn sec s ar) (8*i)=((pe kn sec s ar)[i]'(by rw[sA];exact hi)).toNat:=fun i hi=>lJ (by rw[sA];exact hi) _
 have hf64:eU kn s<2^64:=by unfold eU;omega
 have w0:aJ (fI kn sec s ar) 0=eU kn s:=(hw 0 (by omega)).trans (lf hf64);have w1:aJ (fI kn sec s ar) 8=sec.toNat:=(hw 1 (by omega)).trans (lf);have w2:aJ (fI kn sec s ar) 16=ar.toNat:=(hw 2 (by omega)).trans (lf);have hcr:xi (eU kn s) sec.toNat ar.toNat=(Go.Crc.sum (form (nP kn sec s ar))).toNat:=rfl;have hsum:=(Go.Crc.sum (form (nP kn sec s ar))).isLt;have w3:aJ (fI kn sec s ar) 24=xi (eU kn s) sec.toNat ar.toNat:=(hw 3 (by omega)).trans (by rw[hcr];exact lf);have hz:rE (fI kn sec s ar)=true:=by
  unfold rE fI;rw[List.drop_left' (by rw[dI,sA])];simp
 have hf1:eU kn s/4294967296=1094861123:=by unfold eU;omega
 have hf2:eU kn s/65536%65536=kn:=by unfold eU;omega
 have hf3:((eU kn s%65536:Nat):Int)=fX s:=by unfold eU;omega
 have hsb:kK (fI kn sec s ar)=((kn:Int),sec,s,ar):=by
  unfold kK;rw[w0,w1,w2,hf2,hlen,bg,bg,show((sec.toNat:Nat):Int)=sec by omega,show((ar.toNat:Nat):Int)=ar by omega]
 unfold dD;rw[hlen,hsb,w0,w1,w2,w3,if_neg (by omega),if_neg (by simp[hf1,hz]),if_neg (by simp),if_pos ⟨h,hf3⟩]
end Sup
namespace Eng
open Go Go.Hw Go.Form W Shp Dsk Str Are Trn Pas Pln Rec Srt Rng
def uC (n:Nat)(i:Int):Prop:=1<=i/\i<((1+n:Nat):Int)
theorem Gl {d:D}(hl:d.down=false)(hf:d.aH≠1)(k:Int)(b:List UInt8)(i:Int):(d.wrote k b).now i=if i=k then b else d.now i:=by
 unfold D.wrote;rw[ko hl hf];unfold D.now gD;by_cases h:i=k
 .simp only[if_pos h];rfl
 .simp only[if_neg h];rfl
theorem xZ {d0:D}{c:Cn}(h:Clean d0 c){n:Nat}(hn:1+n<=d0.sec):∀(k i:Nat) (d:D),i+k=n->Prog (uC n) d0 d 0 i->(∀ j:Nat,j<i->d.now ((1+j:Nat):Int)=List.replicate d0.size 0)->
  (∃ d' c',r7 1 k i d=(0,d')/\fh d0 d' 0 n 1/\Clean d' c'/\pW (uC n) c c'/\∀ j:Nat,j<n->c' ((1+j:Nat):Int)=List.replicate d0.size 0)\/
  (∃ d',r7 1 k i d=(8,d')/\fY d0 d' (n+1)/\Left d' (pW (uC n) c))
 |0,i,d,hi,hP,hz=>by
  have hS:∀ i,uC n i->0<=i/\i<d0.sec:=fun i hi=>⟨by have:=hi.1;omega,by have:=hi.2;omega⟩
  have e:i=n:=by omega
  subst e;have hsam:pW (uC i) c d.now:=fun j hj=>(h.prog hP j).2 hj
  rcases h.sync hP hS with⟨s1,s2,s3⟩|⟨s1,s2,s3⟩
  .exact .inl ⟨_,_,by show(d.gY,d.fm)=_;rw[s1],s2,s3,hsam,hz⟩
  .exact .inr ⟨_,by show(d.gY,d.fm)=_;rw[s1],s2.more (by omega),s3.mono fun _ h=>h.2⟩
 |k+1,i,d,hi,hP,hz=>by
  have hS:∀ i,uC n i->0<=i/\i<d0.sec:=fun i hi=>⟨by have:=hi.1;omega,by have:=hi.2;omega⟩
  have hsec:=hP.sec;have hsize:=hP.size;have hchk:d.jR ((1+i:Nat):Int)=0:=og hP.down (Int.natCast_nonneg _) (by rw[hsec];omega);have hin:uC n ((1+i:Nat):Int):=⟨by omega,by omega⟩;have hlen:(List.replicate d.size (0:UInt8)).length=d.size:=List.length_replicate;unfold r7;by_cases hf:d.aH=1
  .have hbn:d.dr=true:=by unfold D.dr;simp[hf]
   have e1:d.dc ((1+i:Nat):Int) d.size=8:=by unfold D.dc;rw[if_neg (by rw[hchk];simp),if_neg (by simp),hbn];rfl
   have e2:d.bC ((1+i:Nat):Int) (List.replicate d.size 0)=D.dead d:=by unfold D.bC;rw[if_neg (by rw[hchk];simp),if_neg (by simp[hlen]),hbn,kW hf];rfl
   rw[e1,e2,if_pos (by decide)];have hD:=hP.dead (gv.one (uC n) hP.ok hf);have h1:=hP.aH;have h2:=hP.go;exact .inr ⟨_,rfl,h.xk hD hS (by omega) (by omega),h.u4 hD⟩
  .have hbn:d.dr=false:=by unfold D.dr;exact decide_eq_false hf
   have e1:d.dc ((1+i:Nat):Int) d.size=0:=by unfold D.dc;rw[if_neg (by rw[hchk];simp),if_neg (by simp),hbn];rfl
   have e2:d.bC ((1+i:Nat):Int) (List.replicate d.size 0)=d.wrote ((1+i:Nat):Int) (List.replicate d.size 0):=by unfold D.bC;rw[if_neg (by rw[hchk];simp),if_neg (by simp[hlen]),hbn];rfl
   rw[e1,e2,if_neg (by simp)];have hW:=Prog.wrote (S:=uC n) hP.ok hP.down hf hin hlen;have hT:=hP.trans hW;refine xZ h hn k (i+1) _ (by omega) hT fun j hj=>?_
   rw[Gl hP.down hf];by_cases e:j=i
   .rw[e,if_pos rfl,hsize]
   .rw[if_neg (by omega)];exact hz j (by omega)
def fb (k words:Nat):Mn:=⟨k,words,[],[]⟩
theorem Ds {sec size k words:Nat}{c:Cn}(hg:Sup.eB k sec size words=true)(hl:ec k (size/8)<=words)(h0:c 0=Sup.fI k sec size words)(hz:∀ j:Nat,j<8->c ((1+j:Nat):Int)=List.replicate size 0):Holds sec size (fb k words) c:=
 ⟨h0,hg,hl,Log.nil,fun i hi=>hz i hi,fun r hr=>(by cases hr),fun r hr=>(by cases hr),fun r hr=>(by cases hr)⟩
def eV (sec ae:Nat)(k words:Int):Int:=if words<1\/words>16777216\/k<0\/k>32 then 1 else if(sec:Int)<Lay.eQ k.toNat ae then 7 else if words<ec k.toNat ae then 6 else 0
theorem Jp {p dp:Nat}{mo:Option Nat}{d:D}(hok:Ok d)(hpn:0<Lay.bP (d.size:Int))(k words:Int):Tr prog 122 #[V p,I k,I words] [ah p (cH dp mo),Dk dp d] fun v M=>v= I (eV d.sec (d.size/8) k words)/\M=[ah p (cH dp mo),Dk dp d]:=fun H hs=>by
 have hper:=k7 hpn;apply aR.ok;unfold aR aR.q3 aR.q2 aR.q1;have fin:∀(x:Int) (H:Hp) (T:List As),x=eV d.sec (d.size/8) k words->Sep ([ah p (cH dp mo),Dk dp d]++T) H->∃ M,(Value.int .i64 x= I (eV d.sec (d.size/8) k words)/\M=[ah p (cH dp mo),Dk dp d])/\Sep M H:=fun x H T hx hs=>⟨_,⟨by rw[hx],rfl⟩,Sep.take hs⟩
 by_cases h1:words<1
 .exact aA h1 (fin 1 H [] (by unfold eV;rw[if_pos (.inl h1)]) hs)
 refine au h1 ?_;by_cases h2:words>16777216
 .exact aA h2 (fin 1 H [] (by unfold eV;rw[if_pos (.inr (.inl h2))]) hs)
 refine au h2 ?_;have j4:∀ b H,Sep [ah p (cH dp mo),Dk dp d,ah b (Oa (Lay.mP k d.sec d.size).1 153)] H->aR.j4 (fun v H'=>∃ M,(v= I (eV d.sec (d.size/8) k words)/\M=[ah p (cH dp mo),Dk dp d])/\Sep M H') k words (O b) (Lay.mP k d.sec d.size).2 H:=fun b H hs=>by
  unfold aR.j4;unfold Lay.mP at hs⊢;by_cases h3:0<=k/\k<=32
  .have h3':0<=k/\k<=32/\0<Lay.bP d.size:=⟨h3.1,h3.2,hpn⟩;rw[if_pos h3']at hs⊢;by_cases h4:(d.sec:Int)<Lay.eQ k.toNat (Lay.bP d.size)
   .rw[if_pos h4]at hs⊢;refine aU (by decide) (fin 7 H _ ?_ hs);unfold eV;rw[if_neg (by omega),if_pos (by rw[<- hper.1];exact h4)]
   .rw[if_neg h4]at hs⊢;refine aF rfl ?_
    try simp only[HS]
    refine hs.ld 2 (v:=I ((Lay.bP d.size:Nat):Int)) rfl rfl ?_;simp only[HV];obtain⟨kn,rfl⟩:=Int.eq_ofNat_of_zero_le h3.1;have hpB:gL ((Lay.bP d.size:Nat):Int)=true:=by rw[hper.1];exact yH hpn
    refine aa.use (GE (k:=kn) (ae:=Lay.bP d.size) (by omega) hpB H) ?_;simp only[HV];refine aF rfl ?_;rw[hper.1]at h4;have h4':¬(d.sec:Int)<Lay.eQ (kn:Int).toNat (d.size/8):=h4;by_cases h5:words<(ec kn (Lay.bP d.size):Int)
    .refine aA h5 (fin 6 H _ ?_ hs);unfold eV;rw[if_neg (by omega),if_neg h4',if_pos (by rw[<- hper.1];exact h5)]
    .refine au h5 (fin 0 H _ ?_ hs);unfold eV;rw[if_neg (by omega),if_neg h4',if_neg (by rw[<- hper.1];exact h5)]
  .rw[if_neg (fun h=>h3 ⟨h.1,h.2.1⟩)]at hs⊢;refine aU (by decide) (fin 1 H _ ?_ hs);unfold eV;rw[if_pos (by omega)]
 try simp only[HS]
 have hsz:∀(H:Hp) (T:List As) (K:Value->Prop),Sep ([ah p (cH dp mo),Dk dp d]++T) H->K (I (d.sec:Int))->bD prog 123 #[V dp] H K:=fun H T K hs h=>bD.use (kR hs 1 rfl) h
 have hsy:∀(H:Hp) (T:List As) (K:Value->Prop),Sep ([ah p (cH dp mo),Dk dp d]++T) H->K (I (d.size:Int))->bD prog 124 #[V dp] H K:=fun H T K hs h=>bD.use (pX hs 1 rfl) h
 have hof:∀(H:Hp) (K:Value->Prop),K (.tuple #[.agg (Lay.mP k d.sec d.size).1,I (Lay.mP k d.sec d.size).2])->bD prog 181 #[I k,I (d.sec:Int),I (d.size:Int)] H K:=fun H K h=>bD.use (Lay.ie k d.sec d.size H) h
 have hS1:(Lay.mP k d.sec d.size).1.size=17:=Sup.uU k d.sec d.size
 repeat' first
  |exact j4 _ _ hs
  |refine hs.ld 0 (v:=.pointer (some ⟨dp,0,none⟩)) rfl rfl ?_
  |refine hsz _ [] _ hs ?_
  |refine hsy _ [] _ hs ?_
  |refine hsz _ [_] _ hs ?_
  |refine hsy _ [_] _ hs ?_
  |refine hof _ _ ?_
  |refine hs.nw fun b H hs=>?_
  |refine hs.eY 2 rfl rfl (Sup.uU _ _ _) (Sup.B3 _ _ _) fun H hs=>?_
  |(simp only[HV];try simp only[HS])
  |refine⟨?_,?_⟩
theorem Fl (k p:Nat):Lay.ir k p=#[I (k:Int),I (p:Int),I 1,I 8,I ((8*p:Nat):Int),I 9,I (Lay.bI k p:Int),I ((2^k:Nat):Int),I (9+(Lay.bI k p:Int)),I (Lay.bI k p:Int),I ((2^k:Nat):Int),I (9+2*(Lay.bI k p:Int)),I (Lay.bI k p:Int),I ((2^k:Nat):Int),I (9+3*(Lay.bI k p:Int)),I (Lay.bI k p:Int),I ((2^k:Nat):Int)]:=rfl
theorem Co {dp:Nat}{d:D}{k ar:Nat}(hok:Ok d)(hg:Sup.eB (k:Int) d.sec d.size (ar:Int)=true):
  Tr prog 81 #[V dp,.agg (Sup.fx k d.sec d.size ar)] [Dk dp d] fun v M=>∃ mp ap rp,v= .tuple #[V mp,I 0]/\M=[ah mp (bW ⟨k,d.sec,d.size,ar,dW,0⟩ ap rp .none 0 0),Ar ap ar 0 [],ah rp (bO dp 1 8 ((8*(d.size/8):Nat):Int)),Dk dp d]:=fun H hs=>by
 have hgo:=iD hg;have hper:=k7 hgo.2.1;have hlay:Sup.eB (k:Int) d.sec d.size (ar:Int)=true->(if Sup.eB (k:Int) d.sec d.size (ar:Int)=true then Value.tuple #[.agg (Lay.ir (k:Int).toNat (Lay.bP d.size)),I 0]else .tuple #[.agg Lay.Ay,I 1])= .tuple #[.agg (Lay.ir k (d.size/8)),I 0]:=fun h=>by rw[if_pos h,Int.toNat_natCast,hper.1]
 have hext:xl d 1 8=true:=decide_eq_true (by have:=hgo.2.2.1;unfold Lay.eQ at this;omega);have hL:=Sup.Es (k:Int) d.sec d.size (ar:Int);rw[hlay hg]at hL;apply eZ.ok;unfold eZ eZ.q1;refine hs.nw fun b1 H hs=>?_
 refine hs.bJ 1 rfl rfl ?_;refine aa.use (hL H) ?_;simp only[HV];refine hs.nw fun b2 H hs=>?_
 refine hs.eY 2 rfl rfl rfl rfl fun H hs=>?_;refine aF rfl ?_
 try simp only[HS]
 refine hs.nH 2 (off:=2) (n:=3) rfl (by show 2+3<=17;omega) ?_;refine(Rng.iU (p:=dp) (d:=d) hok 1 8 ((8*(d.size/8):Nat):Int) (by omega)).use hs [0] rfl rfl ?_;rintro _ _ H (⟨_,rp,rfl,rfl⟩|⟨h,_⟩) hs
 rotate_left
 .rw[hext]at h;cases h
 simp only[HV];refine aF rfl ?_;have hs:Sep [Dk dp d,ah rp (bO dp 1 8 ((8*(d.size/8):Nat):Int)),ah b1 (Oa #[I k,I d.sec,I d.size,I ar] 45),ah b2 (Oa (Lay.ir k (d.size/8)) 153)] H:=hs;rw[Fl]at hs
 try simp only[HS]
 refine hs.ld 2 (v:=I (ar:Int)) rfl rfl ?_;simp only[HV];have fin:∀(mp ap:Nat) (T:List As) (H:Hp),Sep ([Ar ap ar 0 [],Dk dp d,ah rp (bO dp 1 8 ((8*(d.size/8):Nat):Int))]++T++[ah mp (bW ⟨k,d.sec,d.size,ar,dW,0⟩ ap rp .none 0 0)]) H->
   ∃ M,(∃ mp' ap' rp',(Value.tuple #[V mp,I 0])= .tuple #[V mp',I 0]/\M=[ah mp' (bW ⟨k,d.sec,d.size,ar,dW,0⟩ ap' rp' .none 0 0),Ar ap' ar 0 [],ah rp' (bO dp 1 8 ((8*(d.size/8):Nat):Int)),Dk dp d])/\Sep M H:=fun mp ap T H hs=>by
  have h1:Sep ([ah mp (bW ⟨k,d.sec,d.size,ar,dW,0⟩ ap rp .none 0 0)]++([Ar ap ar 0 [],Dk dp d,ah rp (bO dp 1 8 ((8*(d.size/8):Nat):Int))]++T)) H:=Sep.perm List.perm_append_comm hs;have h2:Sep [ah mp (bW ⟨k,d.sec,d.size,ar,dW,0⟩ ap rp .none 0 0),Ar ap ar 0 [],Dk dp d,ah rp (bO dp 1 8 ((8*(d.size/8):Nat):Int))] H:=Sep.take (L:=T) h1;exact⟨_,⟨mp,ap,rp,rfl,rfl⟩,h2.re [0,1,3,2] rfl⟩
 have har:(1:Int)<=(ar:Int)/\(ar:Int)<=16777216:=hgo.2.2.2
 repeat' first
  |exact fin _ _ [_,_] _ hs
  |refine hs.bJ 2 rfl rfl ?_
  |refine hs.bJ 3 rfl rfl ?_
  |refine hs.bJ 4 rfl rfl ?_
  |(refine(Are.iU (ar:Int) har).use hs [] rfl rfl ?_;rintro _ _ H ⟨ap,rfl,rfl⟩ hs)
  |refine hs.nw fun b H hs=>?_
  |(simp only[HV];try simp only[HS])
  |refine⟨?_,?_⟩
theorem Sep.unit {L:List As}{H:Hp}{X:As}(hs:Hw.Sep L H)(hX:X fun _=>none):Hw.Sep (X::L) H:=⟨fun _=>none,H,fun _ _ h=>(nomatch h),Hp.le_refl _,fun _=>.inl rfl,hX,hs⟩
theorem En.ptr {p dp:Nat}{g:Option Eg}{L:List As}{H:Hp}(h:Sep (En p dp g::L) H):∃ mo X,Sep (ah p (cH dp mo)::X::L) H/\∀ L' H',Sep (ah p (cH dp mo)::X::L') H'->Sep (En p dp g::L') H':=by
 cases g with
 |none=>exact⟨none,fun _=>True,(Sep.unit (X:=fun _=>True) h trivial).swap,fun L' H' h=>h.swap.tail⟩
 |some e=>
  obtain⟨mp,h⟩:=En.open h;exact⟨some mp,Me mp dp e,h,fun L' H' h=>En.shut h⟩
theorem Me.bare {mp dp ap rp:Nat}{e:Eg}{L:List As}{H:Hp}(h:Sep ([ah mp (bW e ap rp .none 0 0),Ar ap e.aX e.aj [],ah rp (bO dp 1 8 ((8*e.ae:Nat):Int))]++L) H)(hp:cE e=[]):Sep (Me mp dp e::L) H:=by
 have h1:Sep (cj 221 8 .none 0 0 []::([ah mp (bW e ap rp .none 0 0),Ar ap e.aX e.aj [],ah rp (bO dp 1 8 ((8*e.ae:Nat):Int))]++L)) H:=Sep.unit h (cj.none _ _ _);have h2:Sep ([ah mp (bW e ap rp .none 0 0),Ar ap e.aX e.aj [],ah rp (bO dp 1 8 ((8*e.ae:Nat):Int))]++(cj 221 8 .none 0 0 []::L)) H:=Sep.perm List.perm_middle.symm h1;refine Me.shut (ap:=ap) (rp:=rp) (A:=.none) (m:=0) ?_;unfold oS;rw[hp];exact h2
theorem Hr {e:Eg}(h:e.r=dW):cE e=[]:=by unfold cE;rw[if_neg (by rw[h];decide)]
theorem EX {d:D}(hpn:0<Lay.bP (d.size:Int)){k words:Int}(h:eV d.sec (d.size/8) k words=0):∃ kn wn:Nat,k=kn/\words=wn/\Sup.eB kn d.sec d.size wn=true/\ec kn (d.size/8)<=wn:=by
 have hper:=k7 hpn;unfold eV at h;split at h
 .cases h
 rename_i h1
 split at h
 .cases h
 rename_i h2
 split at h
 .cases h
 rename_i h3
 obtain⟨kn,rfl⟩:=Int.eq_ofNat_of_zero_le (show 0<=k by omega);obtain⟨wn,rfl⟩:=Int.eq_ofNat_of_zero_le (show 0<=words by omega);refine⟨kn,wn,rfl,rfl,decide_eq_true ?_,?_⟩
 .rw[hper.1];have h2':¬(d.sec:Int)<Lay.eQ kn (d.size/8):=h2;refine⟨by omega,by omega,by omega,?_,by omega,by omega⟩;show(Lay.eQ kn (d.size/8):Int)<=d.sec
  omega
 .have h3':¬(wn:Int)<ec kn (d.size/8):=h3;omega
def zj (p dp:Nat)(g:Option Eg)(d:D)(c:Cn)(k words:Int)(v:Value)(M:List As):Prop:=
 (eV d.sec (d.size/8) k words≠0/\v= I (eV d.sec (d.size/8) k words)/\M=[En p dp g,Dk dp d])\/
 (∃ kn wn:Nat,k=kn/\words=wn/\eV d.sec (d.size/8) k words=0/\
  ((∃ d' c',fh d d' 0 10 3/\Clean d' c'/\Holds d.sec d.size (fb kn wn) c'/\v= I 0/\M=[En p dp (some (bA d (fb kn wn) 0)),Dk dp d'])\/
  (∃ d',fY d d' 13/\Left d' (fun c'=>c'=c\/wW d.size c'\/Holds d.sec d.size (fb kn wn) c')/\v= I 8/\M=[En p dp none,Dk dp d'])))
set_option maxHeartbeats 8000000 in
theorem xM {p dp:Nat}{g:Option Eg}{d:D}{c:Cn}(hc:Clean d c)(hpn:0<Lay.bP (d.size:Int))(ho:d.rd<=800000/\d.wr<=800000/\d.sy<=800000)(k words:Int):
  Tr prog 69 #[V p,I k,I words] [En p dp g,Dk dp d] (zj p dp g d c k words):=fun H hs=>by
 have hok:=hc.ok;have hper:=k7 hpn;obtain⟨mo,X,hs,hback⟩:=En.ptr hs;apply ak.ok;unfold ak ak.q5 ak.q4 ak.q3 ak.q2 ak.q2.q1 ak.q1 ak.q1.q2 ak.q1.q1;refine hs.nw fun b1 H hs=>?_
 have hs:Sep [ah p (cH dp mo),X,Dk dp d,ah b1 (Oa #[V p] 27)] H:=hs;refine hs.ld 3 (v:=V p) rfl rfl ?_;simp only[HV];refine(Jp (p:=p) (dp:=dp) (mo:=mo) hok hpn k words).use hs [0,2] rfl rfl ?_;rintro _ _ H ⟨rfl,rfl⟩ hs;simp only[HV];by_cases hfit:eV d.sec (d.size/8) k words=0
 rotate_left
 .exact aU hfit ⟨_,.inl ⟨hfit,rfl,rfl⟩,hback [Dk dp d] _ (hs.re [0,2,1] rfl)⟩
 rw[hfit];refine aF rfl ?_;obtain⟨kn,wn,rfl,rfl,hg,hlw⟩:=EX hpn hfit;have hgo:=iD hg;have hneed:9<=d.sec:=by have:=hgo.2.2.1;unfold Lay.eQ at this;omega
 have hs:Sep [ah p (cH dp mo),Dk dp d,X,ah b1 (Oa #[V p] 27)] H:=hs;have hzl:(List.replicate d.size (0:UInt8)).length=d.size:=List.length_replicate;have bad:∀(H:Hp) (d':D),Sep [Dk dp d',ah p (cH dp mo)] H->fY d d' 13->Left d' (fun c'=>c'=c\/wW d.size c'\/Holds d.sec d.size (fb kn wn) c')->
   aa prog 80 #[V p,I 8] H fun v H'=>v= I 8/\∃ M,zj p dp g d c kn wn (I 8) M/\Sep M H':=fun H d' hs h1 h2=>by
  have hk:aa prog 80 #[V p,I 8] H fun v H'=>∃ M,(v= I 8/\M=[ah p (cH dp none),Dk dp d'])/\Sep M H':=by
   apply dZ.ok;unfold dZ;refine bH rfl ?_
   try simp only[HS]
   refine hs.st 1 rfl (by show 1<2;omega) rfl fun H hs=>?_;exact⟨_,⟨by first|rfl|trivial,rfl⟩,hs.re [1,0] rfl⟩
  refine aa.mono hk ?_;rintro _ H ⟨_,⟨rfl,rfl⟩,hs⟩;exact⟨rfl,_,.inr ⟨kn,wn,rfl,rfl,hfit,.inr ⟨d',h1,h2,rfl,rfl⟩⟩,hs⟩
 have j6:∀ mp ap rp b2 H,Sep [ah mp (bW ⟨kn,d.sec,d.size,wn,dW,0⟩ ap rp .none 0 0),Ar ap wn 0 [],ah rp (bO dp 1 8 ((8*(d.size/8):Nat):Int)),Dk dp d,ah p (cH dp mo),X,ah b1 (Oa #[V p] 27),ah b2 (Oa (Sup.fx kn d.sec d.size wn) 45)] H->
   ak.j6 (fun v H'=>∃ M,zj p dp g d c kn wn v M/\Sep M H') (O b1) (O b2) (Oo mp) 0 H:=fun mp ap rp b2 H hs=>by
  unfold ak.j6;refine aF rfl ?_;refine hs.ld 6 (v:=V p) rfl rfl ?_;simp only[HV];refine hs.ld 6 (v:=V p) rfl rfl ?_;simp only[HV]
  try simp only[HS]
  refine hs.ld 4 (v:=V dp) rfl rfl ?_;simp only[HV]
  try simp only[HS]
  refine hs.ld 0 (v:=V rp) rfl rfl ?_;simp only[HV];refine hs.nw fun b3 H hs=>?_
  have hres1:eM prog 125=[63]:=by kernel_rfl
  have hres2:eM prog 127=[63]:=by kernel_rfl
  have hres3:eM prog 128=[63]:=by kernel_rfl
  have hres4:eM prog 129=[63]:=by kernel_rfl
  apply aZ.ok;unfold aZ;refine⟨5,?_⟩;unfold aZ.l2;refine aA (by decide) ⟨by decide,by decide,?_⟩;simp only[HV];refine hs.ph 8 (v:=.func (.func 125) #[] #[V b1]) rfl rfl ?_;refine jD.go (by kernel_rfl) ?_;rw[hres1];have hsz32:=hok.size;have f1:∀(A3:As) (H:Hp),Sep [ah mp (bW ⟨kn,d.sec,d.size,wn,dW,0⟩ ap rp .none 0 0),Ar ap wn 0 [],ah rp (bO dp 1 8 ((8*(d.size/8):Nat):Int)),Dk dp d,ah p (cH dp mo),X,ah b1 (Oa #[V p] 27),ah b2 (Oa (Sup.fx kn d.sec d.size wn) 45),A3] H->aa prog 125 #[V b1] H fun v H=>v= I (d.dc 0 d.size)/\Sep [Dk dp (d.bC 0 (List.replicate d.size 0)),ah mp (bW ⟨kn,d.sec,d.size,wn,dW,0⟩ ap rp .none 0 0),Ar ap wn 0 [],ah rp (bO dp 1 8 ((8*(d.size/8):Nat):Int)),ah p (cH dp mo),X,ah b1 (Oa #[V p] 27),ah b2 (Oa (Sup.fx kn d.sec d.size wn) 45),A3] H:=fun A3 H hs=>by
   apply gf.ok;unfold gf;simp only[HV];refine hs.ld 6 (v:=V p) rfl rfl ?_;simp only[HV]
   try simp only[HS]
   refine hs.ld 4 (v:=V dp) rfl rfl ?_;simp only[HV]
   try simp only[HS]
   refine bD.use (pX hs 3 rfl) ?_;simp only[HV];have wr1:∀(b4:Nat) (H:Hp),Sep [ah mp (bW ⟨kn,d.sec,d.size,wn,dW,0⟩ ap rp .none 0 0),Ar ap wn 0 [],ah rp (bO dp 1 8 ((8*(d.size/8):Nat):Int)),Dk dp d,ah p (cH dp mo),X,ah b1 (Oa #[V p] 27),ah b2 (Oa (Sup.fx kn d.sec d.size wn) 45),A3,ah b4 (.row (cI [Value.int .u8 0] d.size) 5 (d.size*1))] H->
     aa prog 47 #[V dp,I 0,.slice (Oo b4) d.size d.size] H fun v H=>v= I (d.dc 0 d.size)/\Sep [Dk dp (d.bC 0 (List.replicate d.size 0)),ah mp (bW ⟨kn,d.sec,d.size,wn,dW,0⟩ ap rp .none 0 0),Ar ap wn 0 [],ah rp (bO dp 1 8 ((8*(d.size/8):Nat):Int)),ah p (cH dp mo),X,ah b1 (Oa #[V p] 27),ah b2 (Oa (Sup.fx kn d.sec d.size wn) 45),A3] H:=fun b4 H hs=>by
    rw[lK]at hs;refine(ki (p:=dp) (d:=d) hok (by omega) 0 (Oo b4) d.size d.size (List.replicate d.size 0) hzl.symm (ah b4 (.row (aC (List.replicate d.size 0)) 5 (d.size*1))) (fun H h=>?_)).use hs [3,9] rfl rfl ?_
    .have:=Cells.row h 0 d.size;rw[List.drop_zero,List.take_of_length_le (by rw[bk,hzl];exact Nat.le_refl _)]at this;exact this
    rintro _ _ H ⟨rfl,rfl⟩ hs;exact⟨rfl,hs.re [0,2,3,4,5,6,7,8,9] rfl⟩
   have done:∀(v:Value) (H:Hp),(v= I (d.dc 0 d.size)/\Sep [Dk dp (d.bC 0 (List.replicate d.size 0)),ah mp (bW ⟨kn,d.sec,d.size,wn,dW,0⟩ ap rp .none 0 0),Ar ap wn 0 [],ah rp (bO dp 1 8 ((8*(d.size/8):Nat):Int)),ah p (cH dp mo),X,ah b1 (Oa #[V p] 27),ah b2 (Oa (Sup.fx kn d.sec d.size wn) 45),A3] H)->DI .i64 v fun x1=>(Value.int .i64 x1= I (d.dc 0 d.size)/\Sep [Dk dp (d.bC 0 (List.replicate d.size 0)),ah mp (bW ⟨kn,d.sec,d.size,wn,dW,0⟩ ap rp .none 0 0),Ar ap wn 0 [],ah rp (bO dp 1 8 ((8*(d.size/8):Nat):Int)),ah p (cH dp mo),X,ah b1 (Oa #[V p] 27),ah b2 (Oa (Sup.fx kn d.sec d.size wn) 45),A3] H):=fun v H ⟨h1,h2⟩=>by
    subst h1;simp only[HV];exact⟨by trivial,h2⟩
   repeat' first
    |exact aa.mono (wr1 _ _ hs) done
    |refine hs.ld 6 (v:=.pointer (some ⟨p,0,none⟩)) rfl rfl ?_
    |refine hs.ld 4 (v:=.pointer (some ⟨dp,0,none⟩)) rfl rfl ?_
    |refine hs.nX kG rfl (n:=d.size) (m:=d.size) rfl rfl (Nat.le_refl _) (by omega) (by omega) fun b4 H hs=>?_
    |(simp only[HV];try simp only[HS])
    |refine⟨?_,?_⟩
  have hp1:=tj hc 0 (by omega) (List.replicate d.size 0) hzl;have bare0:∀ c:Cn,wW d.size (eT c (0:Nat) (List.replicate d.size 0)):=fun c=>um c 0 _
  refine aa.mono (f1 _ H hs) ?_;rintro _ H ⟨rfl,hs⟩;refine kz _ _ ?_;simp only[HV];by_cases hw1:d.dc 0 d.size=0
  rotate_left
  .have e1:pb d (0:Nat) (List.replicate d.size 0)=(d.dc 0 d.size,d.bC 0 (List.replicate d.size 0)):=by unfold pb;exact if_pos hw1
   rw[e1]at hp1;rcases hp1 with⟨d',⟨h,_⟩|⟨h,hcut,hleft⟩⟩
   .exact absurd (congrArg Prod.fst h) hw1
   .have h8:=congrArg Prod.fst h;have hd:=congrArg Prod.snd h;simp only at h8 hd;rw[h8];rw[hd]at hs;refine aU (by decide) ?_;refine aa.mono (bad H d' (hs.re [0,4] rfl) (hcut.more (by omega)) (hleft.mono fun c' h=>?_)) ?_
    .rcases h with e|e
     .exact .inl e
     .right;left;rw[e];exact bare0 c
    .rintro _ H ⟨rfl,M,h,hs⟩;simp only[HV];exact⟨M,h,hs⟩
  refine aF hw1 ?_;rw[show i64.wrap ((0:Int)+1)=1 by kernel_rfl];unfold aZ.l2;refine aA (by decide) ⟨by decide,by decide,?_⟩;simp only[HV];refine hs.ph 8 (v:=.func (.func 127) #[V dp] #[]) rfl rfl ?_;refine jD.go (by kernel_rfl) ?_;rw[hres2];have hwd:(d.bC 0 (List.replicate d.size 0)).sy=d.sy:=(yY d 0 _).1;have hwok:Ok (d.bC 0 (List.replicate d.size 0)):=Ok.bC hok 0 _;have e1:pb d (0:Nat) (List.replicate d.size 0)=((d.bC 0 (List.replicate d.size 0)).gY,(d.bC 0 (List.replicate d.size 0)).fm):=by unfold pb;exact if_neg (fun h=>h hw1)
  rw[e1]at hp1;have sy1:∀(A3:As) (H:Hp),Sep [Dk dp (d.bC 0 (List.replicate d.size 0)),ah mp (bW ⟨kn,d.sec,d.size,wn,dW,0⟩ ap rp .none 0 0),Ar ap wn 0 [],ah rp (bO dp 1 8 ((8*(d.size/8):Nat):Int)),ah p (cH dp mo),X,ah b1 (Oa #[V p] 27),ah b2 (Oa (Sup.fx kn d.sec d.size wn) 45),A3] H->aa prog 127 #[V dp] H fun v H=>v= I (d.bC 0 (List.replicate d.size 0)).gY/\Sep [Dk dp (d.bC 0 (List.replicate d.size 0)).fm,ah mp (bW ⟨kn,d.sec,d.size,wn,dW,0⟩ ap rp .none 0 0),Ar ap wn 0 [],ah rp (bO dp 1 8 ((8*(d.size/8):Nat):Int)),ah p (cH dp mo),X,ah b1 (Oa #[V p] 27),ah b2 (Oa (Sup.fx kn d.sec d.size wn) 45),A3] H:=fun A3 H hs=>by
   refine(pO (p:=dp) (d:=d.bC 0 (List.replicate d.size 0)) hwok (by rw[hwd];omega)).use hs [0] rfl rfl ?_;rintro _ _ H ⟨rfl,rfl⟩ hs;exact⟨rfl,hs⟩
  refine aa.mono (sy1 _ H hs) ?_;rintro _ H ⟨rfl,hs⟩;refine kz _ _ ?_;simp only[HV];rcases hp1 with⟨d1,⟨h,hw1',hc1⟩|⟨h,hcut,hleft⟩⟩
  rotate_left
  .have h8:=congrArg Prod.fst h;have hd:=congrArg Prod.snd h;simp only at h8 hd;rw[h8];rw[hd]at hs;refine aU (by decide) ?_;refine aa.mono (bad H d1 (hs.re [0,4] rfl) (hcut.more (by omega)) (hleft.mono fun c' h=>?_)) ?_
   .rcases h with e|e
    .exact .inl e
    .right;left;rw[e];exact bare0 c
   .rintro _ H ⟨rfl,M,h,hs⟩;simp only[HV];exact⟨M,h,hs⟩
  have h8:=congrArg Prod.fst h;have hd:=congrArg Prod.snd h;simp only at h8 hd;rw[h8];rw[hd]at hs;clear h8 hd h e1;refine aF rfl ?_;rw[show i64.wrap ((1:Int)+1)=2 by kernel_rfl];unfold aZ.l2;refine aA (by decide) ⟨by decide,by decide,?_⟩;simp only[HV];refine hs.ph 8 (v:=.func (.func 128) #[V rp] #[]) rfl rfl ?_;refine jD.go (by kernel_rfl) ?_;rw[hres3];have hrd1:=hw1'.rd;have hwr1:=hw1'.wr;have hsy1:=hw1'.sy;have hsec1:=hw1'.sec;have hsize1:=hw1'.size;generalize hcc1:eT c (0:Nat) (List.replicate d.size 0)=c1 at*;have hb1:wW d.size c1:=by rw[<- hcc1];exact bare0 c
  have cl1:∀(A3:As) (H:Hp),Sep [Dk dp d1,ah mp (bW ⟨kn,d.sec,d.size,wn,dW,0⟩ ap rp .none 0 0),Ar ap wn 0 [],ah rp (bO dp 1 8 ((8*(d.size/8):Nat):Int)),ah p (cH dp mo),X,ah b1 (Oa #[V p] 27),ah b2 (Oa (Sup.fx kn d.sec d.size wn) 45),A3] H->aa prog 128 #[V rp] H fun v H=>v= I (r7 1 8 0 d1).1/\Sep [Dk dp (r7 1 8 0 d1).2,ah mp (bW ⟨kn,d.sec,d.size,wn,dW,0⟩ ap rp .none 0 0),Ar ap wn 0 [],ah rp (bO dp 1 8 ((8*(d.size/8):Nat):Int)),ah p (cH dp mo),X,ah b1 (Oa #[V p] 27),ah b2 (Oa (Sup.fx kn d.sec d.size wn) 45),A3] H:=fun A3 H hs=>by
   refine(Gy (b:=rp) (p:=dp) (f:=1) (n:=8) (w:=((8*(d.size/8):Nat):Int)) (by omega) hc1.ok (by omega) (by omega)).use hs [0,3] rfl rfl ?_;rintro _ _ H ⟨rfl,rfl⟩ hs;exact⟨rfl,hs.re [0,2,3,1,4,5,6,7,8] rfl⟩
  refine aa.mono (cl1 _ H hs) ?_;rintro _ H ⟨rfl,hs⟩;refine kz _ _ ?_;simp only[HV];have hnot0:¬uC 8 0:=fun h=>by have:=h.1;omega
  rcases xZ hc1 (n:=8) (by rw[hsec1];omega) 8 0 d1 rfl (Prog.refl _ hc1.ok hc1.down) (fun j hj=>absurd hj (by omega))with⟨d2,c2,h,hw2,hc2,hsam2,hz2⟩|⟨d2,h,hcut,hleft⟩
  rotate_left
  .rw[h]at hs⊢;refine aU (show(8:Int)≠0 by decide) ?_;refine aa.mono (bad H d2 (hs.re [0,4] rfl) ((hw1'.cut hcut).more (by omega)) (hleft.mono fun c' h=>?_)) ?_
   .right;left;show c' 0=_
    rw[h 0 hnot0];exact hb1
   .rintro _ H ⟨rfl,M,h,hs⟩;simp only[HV];exact⟨M,h,hs⟩
  rw[h]at hs⊢;refine aF rfl ?_;rw[show i64.wrap ((2:Int)+1)=3 by kernel_rfl];unfold aZ.l2;refine aA (by decide) ⟨by decide,by decide,?_⟩;simp only[HV];refine hs.ph 8 (v:=.func (.func 129) #[] #[V b1,V b2]) rfl rfl ?_;refine jD.go (by kernel_rfl) ?_;rw[hres4];have hrd2:=hw2.rd;have hwr2:=hw2.wr;have hsy2:=hw2.sy;have hsec2:=hw2.sec;have hsize2:=hw2.size;have hs2:d2.size=d.size:=hsize2.trans hsize1;have hc20:wW d.size c2:=by show c2 0=_;rw[hsam2 0 hnot0];exact hb1
  have hfl:(Sup.fI kn d.sec d.size wn).length=d2.size:=by have:=Sup.sx kn d.sec d.size wn hpn;omega
  have hwv:Sup.sJ d2 kn d.sec d.size wn=pb d2 (0:Nat) (Sup.fI kn d.sec d.size wn):=by
   have e0:Sup.qP d2 d.sec d.size=true:=decide_eq_true ⟨by rw[hsec2,hsec1],by rw[hs2]⟩;unfold Sup.sJ pb;rw[if_neg (by rw[hg,e0];simp),Int.toNat_natCast,<-hs2];rfl
  have hnew:Holds d.sec d.size (fb kn wn) (eT c2 (0:Nat) (Sup.fI kn d.sec d.size wn)):=by
   refine Ds hg hlw (um c2 0 _) fun j hj=>?_
   rw[rO _ _,hz2 j hj,hsize1]
  have f2:∀(A3:As) (H:Hp),Sep [Dk dp d2,ah mp (bW ⟨kn,d.sec,d.size,wn,dW,0⟩ ap rp .none 0 0),Ar ap wn 0 [],ah rp (bO dp 1 8 ((8*(d.size/8):Nat):Int)),ah p (cH dp mo),X,ah b1 (Oa #[V p] 27),ah b2 (Oa (Sup.fx kn d.sec d.size wn) 45),A3] H->aa prog 129 #[V b1,V b2] H fun v H=>v= I (pb d2 (0:Nat) (Sup.fI kn d.sec d.size wn)).1/\Sep [Dk dp (pb d2 (0:Nat) (Sup.fI kn d.sec d.size wn)).2,ah mp (bW ⟨kn,d.sec,d.size,wn,dW,0⟩ ap rp .none 0 0),Ar ap wn 0 [],ah rp (bO dp 1 8 ((8*(d.size/8):Nat):Int)),ah p (cH dp mo),X,ah b1 (Oa #[V p] 27),ah b2 (Oa (Sup.fx kn d.sec d.size wn) 45),A3] H:=fun A3 H hs=>by
   apply gg.ok;unfold gg;simp only[HV];refine hs.ld 6 (v:=V p) rfl rfl ?_;simp only[HV]
   try simp only[HS]
   refine hs.ld 4 (v:=V dp) rfl rfl ?_;simp only[HV];refine hs.bJ 7 rfl rfl ?_
   try simp only[Array.toArray_toList]
   refine(Sup.FU (p:=dp) (d:=d2) hc2.ok (by omega) kn d.sec d.size wn (by have:=hok.sec;omega)).use hs [0] rfl rfl ?_;rintro _ _ H ⟨rfl,rfl⟩ hs;rw[hwv]at hs⊢;simp only[HV];exact⟨by trivial,hs⟩
  refine aa.mono (f2 _ H hs) ?_;rintro _ H ⟨rfl,hs⟩;refine kz _ _ ?_;simp only[HV];rcases tj hc2 0 (by rw[hsec2,hsec1];omega) (Sup.fI kn d.sec d.size wn) hfl with⟨d3,⟨h,hw3,hc3⟩|⟨h,hcut,hleft⟩⟩
  rotate_left
  .rw[h]at hs⊢;refine aU (show(8:Int)≠0 by decide) ?_;refine aa.mono (bad H d3 (hs.re [0,4] rfl) (((hw1'.trans hw2).cut hcut).more (by omega)) (hleft.mono fun c' h=>?_)) ?_
   .rcases h with e|e
    .right;left;rw[e];exact hc20
    .right;right;rw[e];exact hnew
   .rintro _ H ⟨rfl,M,h,hs⟩;simp only[HV];exact⟨M,h,hs⟩
  rw[h]at hs⊢;refine aF rfl ?_;rw[show i64.wrap ((3:Int)+1)=4 by kernel_rfl];unfold aZ.l2;refine au (by decide) ?_;simp only[HV];refine bH rfl ?_;refine hs.ld 6 (v:=V p) rfl rfl ?_;simp only[HV]
  try simp only[HS]
  refine hs.st 4 rfl (by show 1<2;omega) rfl fun H hs=>?_;refine⟨_,.inr ⟨kn,wn,rfl,rfl,hfit,.inl ⟨d3,_,(hw1'.trans hw2).trans hw3,hc3,hnew,rfl,rfl⟩⟩,?_⟩;refine En.shut (mp:=mp) (e:=bA d (fb kn wn) 0) (L:=[Dk dp d3]) ?_;exact(Me.bare (ap:=ap) (rp:=rp) (e:=bA d (fb kn wn) 0) (L:=[ah p (cH dp (some mp)),Dk dp d3]) (hs.re [1,2,3,4,0] rfl) (Hr rfl)).swap
 have fo:∀(H:Hp) (b2:Nat),Sep [ah p (cH dp mo),Dk dp d,X,ah b1 (Oa #[V p] 27),ah b2 (Oa (Sup.fx kn d.sec d.size wn) 45)] H->aa prog 81 #[V dp,.agg (Sup.fx kn d.sec d.size wn)] H fun v H=>∃ mp ap rp,v= .tuple #[V mp,I 0]/\Sep [ah mp (bW ⟨kn,d.sec,d.size,wn,dW,0⟩ ap rp .none 0 0),Ar ap wn 0 [],ah rp (bO dp 1 8 ((8*(d.size/8):Nat):Int)),Dk dp d,ah p (cH dp mo),X,ah b1 (Oa #[V p] 27),ah b2 (Oa (Sup.fx kn d.sec d.size wn) 45)] H:=fun H b2 hs=>by
  refine(Co (dp:=dp) hok hg).use hs [1] rfl rfl ?_;rintro _ _ H ⟨mp,ap,rp,rfl,rfl⟩ hs;exact⟨mp,ap,rp,rfl,hs⟩
 have j5:∀ b2 H,Sep [ah p (cH dp mo),Dk dp d,X,ah b1 (Oa #[V p] 27),ah b2 (Oa (Sup.fx kn d.sec d.size wn) 45)] H->
   ak.j5 (fun v H'=>∃ M,zj p dp g d c kn wn v M/\Sep M H') (O b1) (O b2) H:=fun b2 H hs=>by
  unfold ak.j5 ak.j5.q1
  repeat' first
   |(refine aa.mono (fo _ _ hs) ?_;rintro _ H ⟨mp,ap,rp,rfl,hs⟩;simp only[HV];exact j6 mp ap rp _ H hs)
   |refine hs.ld 3 (v:=.pointer (some ⟨p,0,none⟩)) rfl rfl ?_
   |refine hs.ld 0 (v:=.pointer (some ⟨dp,0,none⟩)) rfl rfl ?_
   |refine hs.bJ 4 rfl rfl ?_
   |(simp only[HV];try simp only[dz,Addr.aP,Addr.add_zero,Nat.zero_add,Nat.add_zero,Array.toArray_toList])
   |refine⟨?_,?_⟩
 have hsz:∀(H:Hp) (T:List As) (K:Value->Prop),Sep ([ah p (cH dp mo),Dk dp d,X,ah b1 (Oa #[V p] 27)]++T) H->K (I (d.sec:Int))->bD prog 123 #[V dp] H K:=fun H T K hs h=>bD.use (kR hs 1 rfl) h
 have hsy:∀(H:Hp) (T:List As) (K:Value->Prop),Sep ([ah p (cH dp mo),Dk dp d,X,ah b1 (Oa #[V p] 27)]++T) H->K (I (d.size:Int))->bD prog 124 #[V dp] H K:=fun H T K hs h=>bD.use (pX hs 1 rfl) h
 repeat' first
  |exact j5 _ _ hs
  |refine hs.ld 3 (v:=.pointer (some ⟨p,0,none⟩)) rfl rfl ?_
  |refine hs.ld 0 (v:=.pointer (some ⟨dp,0,none⟩)) rfl rfl ?_
  |refine hsz _ [] _ hs ?_
  |refine hsy _ [] _ hs ?_
  |refine hsz _ [_] _ hs ?_
  |refine hsy _ [_] _ hs ?_
  |refine hs.nw fun b H hs=>?_
  |refine hs.eY 4 rfl rfl rfl rfl fun H hs=>?_
  |(simp only[HV];try simp only[HS])
  |refine⟨?_,?_⟩
theorem BT {p:Nat}{d:D}{c:Cn}(hc:Clean d c)(ho:d.rd<=1000000):
  Tr prog 79 #[V p] [Dk p d] fun v M=>(d.aH≠1/\v= .tuple #[.agg (Sup.FV (Sup.wy d (c 0)).1),I (Sup.wy d (c 0)).2]/\M=[Dk p (D.bE d 1)])\/(d.aH=1/\v= .tuple #[.agg (Sup.fx 0 0 0 0),I 8]/\M=[Dk p (D.dead d)]):=fun H hs=>by
 have hok:=hc.ok;have hsec:=hok.sec;have hchk:d.jR 0=0:=og hc.down (Int.le_refl _) (by omega);by_cases hf:d.aH=1
 .have hbn:d.dr=true:=by unfold D.dr;simp[hf]
  apply jQ.ok;unfold jQ;refine hs.nw fun b1 H hs=>?_
  refine(tS (p:=p) (d:=d) hok (by omega) 0).use hs [0] rfl rfl ?_;rintro _ _ H (⟨h,_,_⟩|⟨_,_,rfl,rfl⟩|⟨_,h,_⟩) hs
  .exact absurd hchk h
  .simp only[HV];refine aU (by decide) ?_;refine hs.eY 1 rfl rfl rfl rfl fun H hs=>?_;refine hs.bJ 1 rfl rfl ?_;rw[kW hf]at hs;exact⟨_,.inr ⟨hf,rfl,rfl⟩,hs.re [0] rfl⟩
  .rw[hbn]at h;cases h
 .have hbn:d.dr=false:=by unfold D.dr;exact decide_eq_false hf
  have e:({ d.bu with rd:=d.rd+1}:D)=D.bE d 1:=by rw[ko hc.down hf];rfl
  refine aa.mono (Sup.Hy hok ho hchk hbn H hs) ?_;rintro v H ⟨M,⟨rfl,rfl⟩,hs⟩;rw[e]at hs;rw[hc.now];exact⟨_,.inl ⟨hf,rfl,rfl⟩,hs⟩
def K9 (p dp:Nat)(d:D)(c:Cn)(o:Option Mn)(v:Value)(M:List As):Prop:=
 (∃ d',o=none/\fh d d' 1 0 0/\Clean d' c/\v= I 11/\M=[En p dp none,Dk dp d'])\/
 (∃ d' m,o=some m/\fh d d' 9 0 0/\Clean d' c/\v= I 0/\M=[En p dp (some (bA d m 0)),Dk dp d'])\/
 (∃ d',fY d d' 9/\(o=none->d.aH=1)/\Left d' (fun c'=>c'=c)/\v= I 8/\M=[En p dp none,Dk dp d'])
theorem fY.dead {d:D}{c:Cn}(hc:Clean d c)(hf:d.aH=1):fY d (D.dead d) 1/\Left (D.dead d) (fun c'=>c'=c):=by
 have h1:=fY.bE hc (j:=0) (n:=1) hf (by omega);have h2:=Left.bE hc 0;rw[Bf]at h1 h2;exact⟨h1,h2⟩
set_option maxHeartbeats 4000000 in
theorem C8 {p dp:Nat}{g:Option Eg}{d:D}{c:Cn}(hc:Clean d c)(hpn:0<Lay.bP (d.size:Int))(ho:d.rd<=800000/\d.wr<=800000/\d.sy<=800000){o:Option Mn}(hh:L1 d.sec d.size o c):
  Tr prog 27 #[V p] [En p dp g,Dk dp d] (K9 p dp d c o):=fun H hs=>by
 have hok:=hc.ok;have hper:=k7 hpn;obtain⟨mo,X,hs,hback⟩:=En.ptr hs;have chk8:∀(T:List As) (H:Hp) (K:VK),Sep ([ah p (cH dp mo)]++T) H->(∀ H,Sep ([ah p (cH dp none)]++T) H->K (I 8) H)->aa prog 80 #[V p,I 8] H K:=fun T H K hs hk=>by
  apply dZ.ok;unfold dZ;refine bH rfl ?_
  try simp only[HS]
  refine hs.st 0 rfl (by show 1<2;omega) rfl fun H hs=>?_;exact hk H hs
 apply cv.ok;unfold cv
 try simp only[HS]
 refine hs.ld 0 (v:=V dp) rfl rfl ?_;simp only[HV];refine(BT (p:=dp) hc (by omega)).use hs [2] rfl rfl ?_;rintro _ _ H (⟨hf,rfl,rfl⟩|⟨hf,rfl,rfl⟩) hs
 rotate_left
 .simp only[HV];refine hs.nw fun b1 H hs=>?_
  refine hs.eY 3 rfl rfl rfl rfl fun H hs=>?_;refine bH rfl ?_;obtain⟨h1,h2⟩:=fY.dead hc hf;refine chk8 [Dk dp (D.dead d)] H _ (hs.re [1,0] rfl) fun H hs=>?_;simp only[HV];exact⟨_,.inr (.inr ⟨_,h1.more (by omega),fun _=>hf,h2,rfl,rfl⟩),hs⟩
 have hgo1:d.aH=0\/1<d.aH:=by omega
 have hw1:=fh.bE hgo1;have hc1:=hc.bE 1;cases o with
 |none=>
  have h0:c 0=List.replicate d.size 0:=hh;have e:Sup.wy d (c 0)=((0,0,0,0),10):=by
   unfold Sup.wy;rw[h0,Sup.D5 d.size hpn];rfl
  rw[e];simp only[HV];refine hs.nw fun b1 H hs=>?_
  refine hs.eY 3 rfl rfl rfl rfl fun H hs=>?_;refine bT (by decide) (aU (by decide) ?_)
  try simp only[HS]
  refine hs.st 1 rfl (by show 1<2;omega) rfl fun H hs=>?_;exact⟨_,.inl ⟨_,rfl,hw1,hc1,rfl,rfl⟩,hs.re [1,0] rfl⟩
 |some m=>
  have hh:Holds d.sec d.size m c:=hh;have hgo:=iD hh.cR;have hneed:9<=d.sec:=by have:=hgo.2.2.1;unfold Lay.eQ at this;omega
  have hsec:=hok.sec;have e:Sup.wy d (c 0)=(((m.aG:Int),(d.sec:Int),(d.size:Int),(m.aX:Int)),0):=by
   unfold Sup.wy;rw[hh.sup,Sup.D4 _ _ _ _ hh.cR (by omega),if_neg (by simp)];exact if_pos (show Sup.qP d d.sec d.size=true from decide_eq_true ⟨rfl,rfl⟩)
  rw[e];simp only[HV];refine hs.nw fun b1 H hs=>?_
  refine hs.eY 3 rfl rfl rfl rfl fun H hs=>?_;refine bT (by decide) (aF rfl ?_);generalize hd1:D.bE d 1=d1 at*;have hsec1:d1.sec=d.sec:=hw1.sec;have hsize1:d1.size=d.size:=hw1.size;have hh1:Holds d1.sec d1.size m c:=by rw[hsec1,hsize1];exact hh
  have hs:Sep [Dk dp d1,ah p (cH dp mo),X,ah b1 (Oa (Sup.fx m.aG d.sec d.size m.aX) 45)] H:=hs;have fo:∀(H:Hp),Sep [Dk dp d1,ah p (cH dp mo),X,ah b1 (Oa (Sup.fx m.aG d.sec d.size m.aX) 45)] H->aa prog 81 #[V dp,.agg (Sup.fx m.aG d.sec d.size m.aX)] H fun v H=>∃ mp ap rp,v= .tuple #[V mp,I 0]/\Sep [ah mp (bW ⟨m.aG,d.sec,d.size,m.aX,dW,0⟩ ap rp .none 0 0),Ar ap m.aX 0 [],ah rp (bO dp 1 8 ((8*(d.size/8):Nat):Int)),Dk dp d1,ah p (cH dp mo),X] H:=fun H hs=>by
   rw[<- hsec1,<-hsize1]at hs⊢;refine(Co (dp:=dp) hc1.ok hh1.cR).use hs [0] rfl rfl ?_;rintro _ _ H ⟨mp,ap,rp,rfl,rfl⟩ hs;exact⟨mp,ap,rp,rfl,hs.re [0,1,2,3,4,5] rfl⟩
  have j8:∀ mp ap rp H,Sep [ah mp (bW ⟨m.aG,d.sec,d.size,m.aX,dW,0⟩ ap rp .none 0 0),Ar ap m.aX 0 [],ah rp (bO dp 1 8 ((8*(d.size/8):Nat):Int)),Dk dp d1,ah p (cH dp mo),X] H->
    cv.j8 (fun v H'=>∃ M,K9 p dp d c (some m) v M/\Sep M H') (Oo p) 0 (Oo mp) H:=fun mp ap rp H hs=>by
   unfold cv.j8;refine aF rfl ?_
   try simp only[HS]
   refine hs.ld 0 (v:=V rp) rfl rfl ?_;simp only[HV];have hrd1:=hw1.rd;refine(B0 (b:=rp) (p:=dp) (f:=1) (n:=8) (w:=((8*(d.size/8):Nat):Int)) (d:=d1) (by omega) (by omega) hc1.ok (by omega) (fun _=>by
    have:=tx 1 8 8 0 d1 [];have h9:(dt 1 8 d1).2.2.length<=0+8:=this;omega)).use hs [3,2] rfl rfl ?_
   rintro _ _ H ⟨rfl,rfl⟩ hs;have hs:Sep [Dk dp (dt 1 8 d1).2.1,ah rp (bO dp 1 8 ((8*(d.size/8):Nat):Int)),ah mp (bW ⟨m.aG,d.sec,d.size,m.aX,dW,0⟩ ap rp .none 0 0),Ar ap m.aX 0 [],ah p (cH dp mo),X] H:=hs;simp only[HV];refine hs.nw fun b2 H hs=>?_
   refine hs.eY 6 rfl rfl (y:=R.c _) rfl (lF _) fun H hs=>?_;rcases uN hc1 1 8 (by rw[hsec1];omega)with⟨hf2,hsc⟩|⟨j,hj,hf2,hsc⟩
   .rw[hsc]at hs⊢;rw[Ax,hh1.jh]at hs;refine aF rfl ?_;refine hs.bJ 6 rfl rfl ?_
    try simp only[Array.toArray_toList]
    try simp only[HS]
    refine hs.LY 2 (off:=23) (n:=8) (y:=R.c m.r) rfl (by show 23+8<=32;omega) rfl (lF _) fun H hs=>?_;have hs:Sep [Dk dp (D.bE d1 8),ah rp (bO dp 1 8 ((8*(d.size/8):Nat):Int)),ah mp (bW (bA d m 0) ap rp .none 0 0),Ar ap m.aX 0 [],ah p (cH dp mo),X,ah b2 (Oa (R.c m.r) 110)] H:=hs;have he:=hh.eg (aj:=0) (by omega);have hkk:=he.KR;refine(Fi (mp:=mp) (ap:=ap) (rp:=rp) (e:=bA d m 0) (A:=.none) (n:=0) (m:=0) he.aG he.p ⟨he.least,he.aX⟩ (fun _=>⟨hkk.1,he.kk,he.dir⟩)).use hs [2] rfl rfl ?_;rintro _ _ H ⟨A',m',rfl,rfl⟩ hs
    try simp only[HV]
    try simp only[HS]
    refine hs.st 5 rfl (by show 1<2;omega) rfl fun H hs=>?_;refine⟨_,.inr (.inl ⟨_,m,rfl,hw1.trans (fh.bE hf2),hc1.bE 8,rfl,rfl⟩),?_⟩;exact En.pU (mp:=mp) (ap:=ap) (rp:=rp) (A:=A') (m:=m') (e:=bA d m 0) (L:=[Dk dp (D.bE d1 8)]) (hs.re [5,0,4,3,1,2] rfl)
   .rw[hsc]at hs⊢;refine aU (show(8:Int)≠0 by decide) ?_;refine chk8 [Dk dp (D.dead (D.bE d1 j))] H _ (hs.re [4,0] rfl) fun H hs=>?_;simp only[HV];have hcut:=hw1.cut (fY.bE hc1 hf2 hj);exact⟨_,.inr (.inr ⟨_,hcut.more (by omega),fun h=>(by cases h),Left.bE hc1 j,rfl,rfl⟩),hs⟩
  try simp only[HS]
  repeat' first
   |(refine aa.mono (fo _ hs) ?_;rintro _ H ⟨mp,ap,rp,rfl,hs⟩;simp only[HV];exact j8 mp ap rp H hs)
   |refine hs.ld 1 (v:=.pointer (some ⟨dp,0,none⟩)) rfl rfl ?_
   |refine hs.bJ 3 rfl rfl ?_
   |(simp only[HV];try simp only[dz,Addr.aP,Addr.add_zero,Nat.zero_add,Nat.add_zero,Array.toArray_toList])
   |refine⟨?_,?_⟩
end Eng
namespace W
open Go Go.Hw
theorem er :prog.follows .mixedOrders=true:=by kernel_rfl
def aQ.l18 (K:VK):Nat->OA->Nat->Nat->Int->Int->OA->Nat->Nat->Bool->Int->Hp->Prop
 |0,_,_,_,_,_,_,_,_,_,_,_=>False
 |k+1,A4,n4,m4,x19,x20,A5,n5,m5,c5,x21,H=>
  let R18:=aQ.l18 K k
  aq (decide (x21<(n5:Int))) (eh 68 #[U x20,U (u64.wrap x21)] H fun x22 H9=>Hz 65 #[.slice A4 n4 m4,.slice A5 n5 m5,I x19,U x22] H9 fun v16 H10=>xc v16 fun c6 x23=>(aq (x23 !=0) (K (.bool false) H10) (aq c5 (R18 A4 n4 m4 x19 x20 A5 n5 m5 c6 (i64.wrap (x21+1)) H10) (R18 A4 n4 m4 x19 x20 A5 n5 m5 false (i64.wrap (x21+1)) H10)))) (K (.bool (!c5)) H)
def aQ.j5 (K:VK)(A2:OA)(n2 m2:Nat)(x8 x9 x10 x11 x12 x13:Int)(H:Hp):=
 Hz 64 #[.slice A2 n2 m2,I x8,.int .u8 x9,.int .u8 x10] H fun v3 H3=>Da v3 fun A3 n3 m3 c2=>(aq (!c2) (K (.bool false) H3) (aq ((n3:Int) !=(n2:Int)) (K (.bool false) H3) (Hz 65 #[.slice A2 n2 m2,.slice A3 n3 m3,I x8,U x11] H3 fun v6 H4=>xc v6 fun c3 x14=>(Hz 66 #[.slice A2 n2 m2,.slice A3 n3 m3,I x8] H4 fun v9 H5=>xc v9 fun c4 x15=>(aq (!c3) (K (.bool false) H5) (aq (!c4) (K (.bool false) H5) (aq (x14 !=0) (K (.bool false) H5) (aq (x15 !=0) (K (.bool false) H5) (((n3:Int)≠0/\i64=i64/\eh 67 #[U x13] H5 fun x16 H6=>aq (x16==0) (K (.bool true) H6) (cz (Int.tmod (i64.wrap x12) (n3:Int)) n3 (NN A3 fun a1=>df H6 (a1.add ((Int.tmod (i64.wrap x12) (n3:Int)).toNat*1)) fun x17=>eh 68 #[U x17,U x13] H6 fun x18 H7=>cz (Int.tmod (i64.wrap x12) (n3:Int)) n3 (NN A3 fun a2=>St H7 ((a2.add ((Int.tmod (i64.wrap x12) (n3:Int)).toNat*1)).add 0) (U x18) fun H8=>(∃ k,aQ.l18 K k A2 n2 m2 x8 x11 A3 n3 m3 true 0 H8))))))))))))))
def aQ (A1:OA)(n1 m1:Nat)(x1 x2 x3 x4 x5 x6:Int)(H:Hp)(K:VK):Prop:=
 fP 58 #[] H fun c1 H1=>aq (!c1) (K (.bool false) H1) (cC 59 #[.slice A1 n1 m1] H1 fun x7 H2=>aq (decide (x7<0)) (K (.bool true) H2) (aq (decide ((n1:Int)>16)) (K (.bool true) H2) (aq (x1 !=0) (aq (x1 !=1) (K (.bool true) H2) (aQ.j5 K A1 n1 m1 x1 x2 x3 x4 x5 x6 H2)) (aQ.j5 K A1 n1 m1 x1 x2 x3 x4 x5 x6 H2))))
def aQ.l18.L (K:VK)(k:Nat):de:=fun E D H=>
 DG (E.get? 0) fun w0=>aE w0 fun A4 n4 m4=>eI E 1 .i64 fun x19=>eI E 4 .u64 fun x20=>DG (E.get? 15) fun w15=>aE w15 fun A5 n5 m5=>DG (E.get? 22) fun w22=>DB w22 fun c5=>eI E 23 .i64 fun x21=>ax D (aQ.l18 K k A4 n4 m4 x19 x20 A5 n5 m5 c5 x21 H)
def aQ.Λ18 (_:VK)(_R18:OA->Nat->Nat->Int->Int->OA->Nat->Nat->Bool->Int->Hp->Prop):aI:=aI.none (fun _=>none)
def aQ.Λ (K:VK):aI:=⟨fun i=>match Nat.beq i 5 with|true=>some (fun E D H=>DG (E.get? 0) fun w0=>aE w0 fun A2 n2 m2=>eI E 1 .i64 fun x8=>eI E 2 .u8 fun x9=>eI E 3 .u8 fun x10=>eI E 4 .u64 fun x11=>eI E 5 .u8 fun x12=>eI E 6 .u64 fun x13=>ax D (aQ.j5 K A2 n2 m2 x8 x9 x10 x11 x12 x13 H))|false=>none,fun i=>match Nat.beq i 18 with|true=>some (fun E D H=>∃ k,aQ.l18.L K k E D H)|false=>none,(fun _=>none)⟩
theorem aQ.ok A1 n1 m1 x1 x2 x3 x4 x5 x6 H K (h:aQ A1 n1 m1 x1 x2 x3 x4 x5 x6 H K):aa prog 11 #[.slice A1 n1 m1,I x1,.int .u8 x2,.int .u8 x3,U x4,.int .u8 x5,U x6] H K:=
 dV (Λ:=(aQ.Λ K)) er Tryz.func11 rfl rfl h (oC (fun E D H h=>by
   obtain⟨w0,e0,g1⟩:=DG.out h;obtain⟨A2,n2,m2,rfl,g2⟩:=aE.out g1;obtain⟨x8,e1,g4⟩:=GI g2;obtain⟨x9,e2,g6⟩:=GI g4;obtain⟨x10,e3,g8⟩:=GI g6;obtain⟨x11,e4,g10⟩:=GI g8;obtain⟨x12,e5,g12⟩:=GI g10;obtain⟨x13,e6,g14⟩:=GI g12;obtain⟨rfl,h'⟩:=ax.out g14;exact cU (Λ:=(aQ.Λ K)) er [] (ag.cons e0 (ag.cons e1 (ag.cons e2 (ag.cons e3 (ag.cons e4 (ag.cons e5 (ag.cons e6 (ag.nil _)))))))) h' (oC (fun E D H h=>by
     refine Safe.cJ (aQ.l18.L K) (fun E D H h=>?_) (fun k E D H h=>?_) E D H h
     .obtain⟨w0,e0,g1⟩:=DG.out h;obtain⟨A4,n4,m4,rfl,g2⟩:=aE.out g1;obtain⟨w1,e1,g3⟩:=DG.out g2;obtain⟨x19,rfl,g4⟩:=DI.out g3;obtain⟨w4,e4,g5⟩:=DG.out g4;obtain⟨x20,rfl,g6⟩:=DI.out g5;obtain⟨w15,e15,g7⟩:=DG.out g6;obtain⟨A5,n5,m5,rfl,g8⟩:=aE.out g7;obtain⟨w22,e22,g9⟩:=DG.out g8;obtain⟨c5,rfl,g10⟩:=DB.out g9;obtain⟨w23,e23,g11⟩:=DG.out g10;obtain⟨x21,rfl,g12⟩:=DI.out g11;obtain⟨rfl,h'⟩:=ax.out g12;exact h'
     .obtain⟨w0,e0,g1⟩:=DG.out h;obtain⟨A4,n4,m4,rfl,g2⟩:=aE.out g1;obtain⟨x19,e1,g4⟩:=GI g2;obtain⟨x20,e4,g6⟩:=GI g4;obtain⟨w15,e15,g7⟩:=DG.out g6;obtain⟨A5,n5,m5,rfl,g8⟩:=aE.out g7;obtain⟨w22,e22,g9⟩:=DG.out g8;obtain⟨c5,rfl,g10⟩:=DB.out g9;obtain⟨x21,e23,g12⟩:=GI g10;obtain⟨rfl,h'⟩:=ax.out g12;exact cU (Λ:=(aQ.Λ18 K (aQ.l18 K k))) er [] (ag.cons e0 (ag.cons e1 (ag.cons e4 (ag.cons e15 (ag.cons e22 (ag.cons e23 (ag.nil _))))))) h' oN) oN)) oN)
def cd.l13 (K:VK):Nat->OA->Int->Hp->Prop
 |0,_,_,_=>False
 |k+1,p3,x7,H=>
  let R13:=cd.l13 K k
  aq (decide (x7<5)) (Hz 62 #[.pointer p3] H fun v11 H10=>xc v11 fun c1 x8=>(R13 p3 (i64.wrap (x7+1)) H10)) (Hz 72 #[.pointer p3] H fun v14 H11=>kc v14 fun A1 n1 m1 x9=>(aq (x9==0) (aq ((n1:Int)==4) (cz 0 n1 (NN A1 fun a2=>df H11 (a2.add ((0:Int).toNat*1)) fun x10=>K (.bool (x10==10)) H11)) (K (.bool false) H11)) (K (.bool false) H11)))
def cd (H:Hp)(K:VK):Prop:=
 qD 14 #[I 13,I 32] H fun p1 H1=>qD 15 #[.pointer p1] H1 fun p2 H2=>aq p1.isNone (K (.bool false) H2) (aq p2.isNone (K (.bool false) H2) (cC 69 #[.pointer p2,I 2,I 8] H2 fun x1 H3=>aq (x1 !=0) (K (.bool false) H3) (Nw H3 (.row [U 1,U 2,U 3,U 4] 108 4) fun b1 H4=>Hz 70 #[.pointer p2,.slice (Oo b1) 4 4] H4 fun v4 H5=>pa v4 fun x2 x3=>(aq (x3 !=0) (K (.bool false) H5) (cC 71 #[.pointer p2,I 0] H5 fun x4 H6=>aq (x4 !=0) (K (.bool false) H6) (NN p1 fun a1=>Hz 25 #[.pointer (some (a1.add 7))] H6 fun v8 H7=>cC 26 #[.pointer p1,.slice none 0 0] H7 fun x5 H8=>cC 27 #[.pointer p2] H8 fun x6 H9=>aq (x6 !=0) (K (.bool false) H9) ((∃ k,cd.l13 K k p2 0 H9))))))))
def cd.l13.L (K:VK)(k:Nat):de:=fun E D H=>
 eP E 2 fun p3=>eI E 5 .i64 fun x7=>ax D (cd.l13 K k p3 x7 H)
def cd.Λ13 (_:VK)(_R13:OA->Int->Hp->Prop):aI:=aI.none (fun _=>none)
def cd.Λ (K:VK):aI:=⟨fun i=>none,fun i=>match Nat.beq i 13 with|true=>some (fun E D H=>∃ k,cd.l13.L K k E D H)|false=>none,(fun _=>none)⟩
theorem cd.ok H K (h:cd H K):aa prog 58 #[] H K:=
 dV (Λ:=(cd.Λ K)) er Tryz.func58 rfl rfl h (oC (fun E D H h=>by
   refine Safe.cJ (cd.l13.L K) (fun E D H h=>?_) (fun k E D H h=>?_) E D H h
   .obtain⟨w2,e2,g1⟩:=DG.out h;obtain⟨p3,rfl,g2⟩:=DP.out g1;obtain⟨w5,e5,g3⟩:=DG.out g2;obtain⟨x7,rfl,g4⟩:=DI.out g3;obtain⟨rfl,h'⟩:=ax.out g4;exact h'
   .obtain⟨p3,e2,g2⟩:=GP h;obtain⟨x7,e5,g4⟩:=GI g2;obtain⟨rfl,h'⟩:=ax.out g4;exact cU (Λ:=(cd.Λ13 K (cd.l13 K k))) er [] (ag.cons e2 (ag.cons e5 (ag.nil _))) h' oN) oN)
def ck.l4 (K:VK):Nat->OA->Nat->Nat->Int->Hp->Prop
 |0,_,_,_,_,_=>False
 |k+1,A2,n2,m2,x1,H=>
  let R4:=ck.l4 K k
  aq (decide (x1<(n2:Int))) (cz x1 n2 (NN A2 fun a1=>df H (a1.add (x1.toNat*1)) fun x2=>aq (decide (x2>=18446744069414584321)) (K (I (-1)) H) (R4 A2 n2 m2 (i64.wrap (x1+1)) H))) (cC 86 #[I (n2:Int)] H fun x3 H1=>K (I x3) H1)
def ck (A1:OA)(n1 m1:Nat)(H:Hp)(K:VK):Prop:=
 aq (decide ((n1:Int)>64)) (K (I (-1)) H) ((∃ k,ck.l4 K k A1 n1 m1 0 H))
def ck.l4.L (K:VK)(k:Nat):de:=fun E D H=>
 DG (E.get? 0) fun w0=>aE w0 fun A2 n2 m2=>eI E 3 .i64 fun x1=>ax D (ck.l4 K k A2 n2 m2 x1 H)
def ck.Λ4 (_:VK)(_R4:OA->Nat->Nat->Int->Hp->Prop):aI:=aI.none (fun _=>none)
def ck.Λ (K:VK):aI:=⟨fun i=>none,fun i=>match Nat.beq i 4 with|true=>some (fun E D H=>∃ k,ck.l4.L K k E D H)|false=>none,(fun _=>none)⟩
theorem ck.ok A1 n1 m1 H K (h:ck A1 n1 m1 H K):aa prog 59 #[.slice A1 n1 m1] H K:=
 dV (Λ:=(ck.Λ K)) er Tryz.func59 rfl rfl h (oC (fun E D H h=>by
   refine Safe.cJ (ck.l4.L K) (fun E D H h=>?_) (fun k E D H h=>?_) E D H h
   .obtain⟨w0,e0,g1⟩:=DG.out h;obtain⟨A2,n2,m2,rfl,g2⟩:=aE.out g1;obtain⟨w3,e3,g3⟩:=DG.out g2;obtain⟨x1,rfl,g4⟩:=DI.out g3;obtain⟨rfl,h'⟩:=ax.out g4;exact h'
   .obtain⟨w0,e0,g1⟩:=DG.out h;obtain⟨A2,n2,m2,rfl,g2⟩:=aE.out g1;obtain⟨x1,e3,g4⟩:=GI g2;obtain⟨rfl,h'⟩:=ax.out g4;exact cU (Λ:=(ck.Λ4 K (ck.l4 K k))) er [] (ag.cons e0 (ag.cons e3 (ag.nil _))) h' oN) oN)
def eA.q1 (H7:Hp)(b1:Nat)(K:VK):Prop:=
 cK H7 (O b1) #[.pointer none,.pointer none,I 0,I 0,I 0,I 0] 6 fun H9=>aY H9 (O b1) 6 fun l6=>K (.tuple #[.agg l6.toArray,.bool false]) H9
def eA (x1 x2 x3:Int)(H:Hp)(K:VK):Prop:=
 Nw H (Oa #[.pointer none,.pointer none,I 0,I 0,I 0,I 0] 127) fun b1 H1=>((4:Int)≠0/\u8=u8/\(0<=(u64.wrap (Int.tmod x2 4))/\cC 107 #[I x1,I (cT .i64 32 (u64.wrap (Int.tmod x2 4)))] H1 fun x4 H2=>((3:Int)≠0/\i64=i64/\((8:Int)≠0/\i64=i64/\cC 108 #[I x1,I (i64.wrap (Int.tdiv (cT .i64 32 (u64.wrap (Int.tmod x2 4))) 8))] H2 fun x5 H3=>Nw H3 (Oa #[I 0,I 0,I 0,I 0] 45) fun b2 H4=>cK H4 (O b2) #[I x1,I (i64.wrap (x4+(Int.tmod (i64.wrap x2) 3))),I (cT .i64 32 (u64.wrap (Int.tmod x2 4))),I (i64.wrap (x5+(i64.wrap x3)))] 4 fun H5=>aM H5 ((O b2).add 1) fun x6=>qD 14 #[I x6,I (cT .i64 32 (u64.wrap (Int.tmod x2 4)))] H5 fun p1 H6=>qD 15 #[.pointer p1] H6 fun p2 H7=>aq p1.isNone (eA.q1 H7 b1 K) (aq p2.isNone (eA.q1 H7 b1 K) (aM H7 ((O b2).add 3) fun x7=>cC 69 #[.pointer p2,I x1,I x7] H7 fun x8 H8=>aq (x8 !=0) (eA.q1 H8 b1 K) (aY H8 (O b2) 4 fun l1=>zN l1.toArray.toList fun x9 x10 x11 x12=>(cK H8 (O b1) #[.pointer p1,.pointer p2,I x9,I x10,I x11,I x12] 6 fun H12=>aY H12 (O b1) 6 fun l9=>K (.tuple #[.agg l9.toArray,.bool true]) H12))))))))
theorem eA.ok x1 x2 x3 H K (h:eA x1 x2 x3 H K):aa prog 60 #[I x1,.int .u8 x2,.int .u8 x3] H K:=
 bX er Tryz.func60 rfl rfl h
def iW (y1:Array Value)(A1:OA)(n1 m1:Nat)(x1:Int)(H:Hp)(K:VK):Prop:=
 Nw H (Oa y1 127) fun b1 H1=>bj H1 ((O b1).add 1) fun p1=>Hz 70 #[.pointer p1,.slice A1 n1 m1] H1 fun v2 H2=>pa v2 fun x2 x3=>(aq (x3==0) (bj H2 ((O b1).add 1) fun p2=>cC 71 #[.pointer p2,I x1] H2 fun x4 H3=>K (.bool (x4==0)) H3) (K (.bool false) H2))
theorem iW.ok y1 A1 n1 m1 x1 H K (h:iW y1 A1 n1 m1 x1 H K):aa prog 61 #[.agg y1,.slice A1 n1 m1,I x1] H K:=
 bX er Tryz.func61 rfl rfl h
def ke (A1:OA)(n1 m1:Nat)(x1 x2 x3:Int)(H:Hp)(K:VK):Prop:=
 cC 59 #[.slice A1 n1 m1] H fun x4 H1=>Hz 60 #[I x4,.int .u8 x2,.int .u8 x3] H1 fun v2 H2=>Kx v2 fun y1 c1=>(Nw H2 (Oa #[.pointer none,.pointer none,I 0,I 0,I 0,I 0] 127) fun b1 H3=>cK H3 (O b1) y1 6 fun H4=>aq (!c1) (K (.tuple #[.slice none 0 0,.bool false]) H4) (aY H4 (O b1) 6 fun l4=>fP 61 #[.agg l4.toArray,.slice A1 n1 m1,I x1] H4 fun c2 H5=>aq (!c2) (K (.tuple #[.slice none 0 0,.bool false]) H5) (aY H5 (O b1) 6 fun l5=>cC 114 #[.agg l5.toArray] H5 fun x5 H6=>aq (decide (x5<0)) (K (.tuple #[.slice none 0 0,.bool false]) H6) (bj H6 ((O b1).add 1) fun p1=>Hz 72 #[.pointer p1] H6 fun v8 H7=>kc v8 fun A2 n2 m2 x6=>(K (.tuple #[.slice A2 n2 m2,.bool (x6==0)]) H7)))))
theorem ke.ok A1 n1 m1 x1 x2 x3 H K (h:ke A1 n1 m1 x1 x2 x3 H K):aa prog 64 #[.slice A1 n1 m1,I x1,.int .u8 x2,.int .u8 x3] H K:=
 bX er Tryz.func64 rfl rfl h
def bM.l2 (K:VK):Nat->Addr->Int->Hp->Prop
 |0,_,_,_=>False
 |k+1,a1,x1,H=>
  let R2:=bM.l2 K k
  aq (decide (x1<=(7:Int))) (bj H (a1.add 1) fun p1=>xN 18 #[.pointer p1] H fun y2 H2=>Au y2 0 fun v3=>DI .i64 v3 fun x2=>aq (x2==4) (K (I x1) H2) (bj H2 (a1.add 1) fun p2=>Hz 62 #[.pointer p2] H2 fun v5 H3=>xc v5 fun c1 x3=>(aq (x3 !=0) (K (I (-1)) H3) (R2 a1 (i64.wrap (x1+1)) H3)))) (K (I (-1)) H)
def bM (y1:Array Value)(H:Hp)(K:VK):Prop:=
 Nw H (Oa y1 127) fun b1 H1=>(∃ k,bM.l2 K k (O b1) 0 H1)
def bM.l2.L (K:VK)(k:Nat):de:=fun E D H=>
 eN E 1 fun a1=>eI E 3 .i64 fun x1=>ax D (bM.l2 K k a1 x1 H)
def bM.Λ2 (_:VK)(_R2:Addr->Int->Hp->Prop):aI:=aI.none (fun _=>none)
def bM.Λ (K:VK):aI:=⟨fun i=>none,fun i=>match Nat.beq i 2 with|true=>some (fun E D H=>∃ k,bM.l2.L K k E D H)|false=>none,(fun _=>none)⟩
theorem bM.ok y1 H K (h:bM y1 H K):aa prog 114 #[.agg y1] H K:=
 dV (Λ:=(bM.Λ K)) er Tryz.func114 rfl rfl h (oC (fun E D H h=>by
   refine Safe.cJ (bM.l2.L K) (fun E D H h=>?_) (fun k E D H h=>?_) E D H h
   .obtain⟨w1,e1,g1⟩:=DG.out h;obtain⟨pw1,rfl,g2⟩:=DP.out g1;obtain⟨a1,rfl,g3⟩:=NN.out g2;obtain⟨w3,e3,g4⟩:=DG.out g3;obtain⟨x1,rfl,g5⟩:=DI.out g4;obtain⟨rfl,h'⟩:=ax.out g5;exact h'
   .obtain⟨a1,e1,g3⟩:=GN h;obtain⟨x1,e3,g5⟩:=GI g3;obtain⟨rfl,h'⟩:=ax.out g5;exact cU (Λ:=(bM.Λ2 K (bM.l2 K k))) er [] (ag.cons e1 (ag.cons e3 (ag.nil _))) h' oN) oN)
end W
namespace Eng
open Go Go.Hw Go.Form W Shp Dsk Str Are Trn Pas Pln Rec Srt Rng
def q8 (l:List UInt64):Int:=if 64<l.length\/¬lP l then -1 else rL (l.length:Int)
theorem yf (H:Hp)(A:OA)(n m:Nat)(l:List UInt64)(hn:n=l.length)(h64:n<=64)(hc:Cells H A (af l)):
  ∀(t j:Nat),j+t=n->(∀ k x,k<j->l[k]? =some x->x.toNat<18446744069414584321)->ck.l4 (RetE (I (q8 l)) H) (t+1) A n m (j:Int) H
 |0,j,hj,hall=>by
  unfold ck.l4;refine au (by omega) ?_;refine aa.use (Ht (n:Int) H) ?_;simp only[HV];refine RetE.of ?_;have hcan:lP l:=fun x hx=>by
   obtain⟨k,hk,rfl⟩:=List.getElem_of_mem hx;exact hall k _ (by omega) (List.getElem?_eq_getElem hk)
  unfold q8;have h0:¬(64<l.length\/¬lP l):=by
   intro h;rcases h with h|h
   .omega
   .exact h hcan
  rw[if_neg h0,hn]
 |t+1,j,hj,hall=>by
  unfold ck.l4;refine aA (by omega) ?_;have hg:l[j]? =some (l[j]'(by omega)):=List.getElem?_eq_getElem (by omega);have hg2:(af l)[j]? =some (U ((l[j]'(by omega)).toNat:Int)):=by rw[ct,hg];rfl
  refine hc.read hg2 rfl (by rw[aB];omega) ?_;simp only[HV];obtain⟨z,hz⟩:∃ z:Nat,z=(l[j]'(by omega)).toNat:=⟨_,rfl⟩;rw[<- hz];generalize hz2:((z:Nat):Int)=w at*;by_cases h:w>=18446744069414584321
  .refine aA h (RetE.of ?_);unfold q8;rw[if_pos (.inr fun hcan=>by
    have:=hcan _ (List.getElem_mem (show j<l.length by omega));omega)]
  .refine au h ?_;rw[bg (x:=(j:Int)+1)];refine yf H A n m l hn h64 hc t (j+1) (by omega) fun k x hk hkx=>?_
   by_cases e:k=j
   .subst e;rw[hg]at hkx;have:=Option.some.inj hkx;rw[this]at hz;omega
   .exact hall k x (by omega) hkx
theorem Bt (A:OA)(n m:Nat)(l:List UInt64)(hn:n=l.length)(H:Hp)(hc:Cells H A (af l)):aa prog 59 #[.slice A n m] H (RetE (I (q8 l)) H):=by
 apply ck.ok;unfold ck;by_cases h:(n:Int)>64
 .exact aA h (RetE.of (by unfold q8;rw[if_pos (.inl (by omega))]))
 .exact au h ⟨n+1,yf H A n m l hn (by omega) hc n 0 (by omega) fun k x hk=>absurd hk (by omega)⟩
theorem EW {l:List UInt64}(h:0<=q8 l):∃ k:Nat,q8 l=k/\lg (l.length:Int)=some k/\k<=6/\l.length=2^k/\lP l:=by
 unfold q8 at h⊢;by_cases h1:64<l.length\/¬lP l
 .rw[if_pos h1]at h;omega
 rw[if_neg h1]at h⊢;unfold rL at h⊢;cases e:lg (l.length:Int)with
 |none=>rw[e]at h;exact absurd h (by decide)
 |some k=>
  have h2:=(gn e).2;have hl:l.length=2^k:=by omega
  refine⟨k,rfl,rfl,?_,hl,Classical.byContradiction fun hc=>h1 (.inr hc)⟩;by_cases h6:k<=6
  .exact h6
  .have:2^7<=2^k:=Nat.pow_le_pow_right (by omega) (by omega);exact absurd (.inl (by omega)) h1
theorem yb {dp:Nat}:Tr prog 15 #[V dp] [] fun v M=>∃ p,v= V p/\M=[En p dp none]:=fun H hs=>by
 apply mY.ok;unfold mY;refine bY rfl ?_;refine hs.nw fun p H hs=>?_
 exact⟨_,⟨p,rfl,rfl⟩,hs⟩
section
variable {p dp : Nat}
end
structure iT (N:Nat)(d:D)(c:Cn)(m:Mn):Prop where
 cl:Clean d c
 hh:Holds d.sec d.size m c
 aG:m.aG<=6
 len:m.L.length<=N
 ld:m.r.ld<=N
 rd:d.rd<=2000*N
 wr:d.wr<=2000*N
 sy:d.sy<=2000*N
theorem iT.xJ {N:Nat}{d d':D}{c c':Cn}{m m':Mn}(h:iT N d c m){r w s:Nat}(hw:fh d d' r w s)(hr:r<=2000/\w<=2000/\s<=2000)(hc:Clean d' c')(hh:Holds d.sec d.size m' c')(hm:m'.aG=m.aG)(hl:m'.L.length<=N+2)(hld:m'.r.ld<=N+2):iT (N+2) d' c' m':=by
 have h1:=hw.rd;have h2:=hw.wr;have h3:=hw.sy;have h4:=h.rd;have h5:=h.wr;have h6:=h.sy;have h7:=h.aG;exact⟨hc,by rw[hw.sec,hw.size];exact hh,by omega,hl,hld,by omega,by omega,by omega⟩
theorem iT.small {N:Nat}{d:D}{c:Cn}{m:Mn}(h:iT N d c m)(hN:N<=400):Small 100000 m/\(d.rd<=800000/\d.wr<=800000/\d.sy<=800000):=by
 have h2:=h.len;have h3:=h.ld;have h4:=h.rd;have h5:=h.wr;have h6:=h.sy;exact⟨⟨by omega,by omega⟩,by omega,by omega,by omega⟩
theorem iT.ae {N:Nat}{d:D}{c:Cn}{m:Mn}(h:iT N d c m):0<Lay.bP (d.size:Int):=(iD h.hh.cR).2.1
theorem iT.kk {N:Nat}{d:D}{c:Cn}{m:Mn}(h:iT N d c m):m.r.kk.toNat<=6:=by
 have:=(Mn.Bc h.hh).2.2;have:=h.aG;omega
theorem LM :∀ x:Nat,x<256->0<=u64.wrap (Int.tmod (x:Int) 4)/\cT .i64 32 (u64.wrap (Int.tmod (x:Int) 4))=((32*2^(x%4):Nat):Int)/\i64.wrap (Int.tdiv ((32*2^(x%4):Nat):Int) 8)=((4*2^(x%4):Nat):Int)/\Int.tmod (i64.wrap (x:Int)) 3=((x%3:Nat):Int):=by decide +kernel
def iH (x:Nat):Nat:=32*2^(x%4)
theorem CN (x:Nat):0<Lay.bP (iH x:Int)/\Lay.bP (iH x:Int)=4*2^(x%4)/\iH x/8=4*2^(x%4)/\iH x<=256/\4*2^(x%4)<=32/\4<=4*2^(x%4):=by
 have h:∀ t:Nat,t<4->0<Lay.bP ((32*2^t:Nat):Int)/\Lay.bP ((32*2^t:Nat):Int)=4*2^t/\32*2^t/8=4*2^t/\32*2^t<=256/\4*2^t<=32/\4<=4*2^t:=by decide
 exact h _ (Nat.mod_lt _ (by omega))
def qo (k x:Nat):Nat:=Lay.eQ k (iH x/8)+x%3
def o0 (k x w:Nat):Nat:=ec k (iH x/8)+w
theorem Dr {k ae:Nat}(hk:k<=6):Lay.eQ k ae<=9+4*65:=by
 have h1:=HU hk;have h2:(2^k-1)/ae<=2^k-1:=Nat.div_le_self _ _;unfold Lay.eQ Lay.bI;omega
theorem uF {k ae:Nat}(hk:k<=6):ec k ae<=16+ae:=by
 have:2^((k+1)/2)<=2^3:=Nat.pow_le_pow_right (by omega) (by omega);unfold ec;omega
theorem Ft {k x w:Nat}(hk:k<=6)(hw:w<256):eV (qo k x) (iH x/8) k (o0 k x w)=0:=by
 obtain⟨h1,h2,h3,h4,h5,h6⟩:=CN x;have h7:=uF (k:=k) (ae:=iH x/8) hk;have h8:1<=ec k (iH x/8):=by unfold ec;omega
 unfold eV;rw[if_neg (by unfold o0;omega),if_neg,if_neg]
 .rw[Int.toNat_natCast];unfold o0;omega
 .rw[Int.toNat_natCast];unfold qo;omega
def tr (dp p k x w:Nat):Array Value:=#[V dp,V p,I k,I (qo k x),I (iH x),I (o0 k x w)]
theorem JB {k x w:Nat}(hk:k<=6)(hx:x<256)(hw:w<256):Tr prog 60 #[I (k:Int),.int .u8 (x:Int),.int .u8 (w:Int)] [] fun v M=>∃ dp p d c,v= .tuple #[.agg (tr dp p k x w),.bool true]/\d.sec=qo k x/\d.size=iH x/\d.aH=0/\iT 2 d c (fb k (o0 k x w))/\M=[En p dp (some (bA d (fb k (o0 k x w)) 0)),Dk dp d]:=fun H hs=>by
 obtain⟨h1,h2,h3,h4,h5,h6⟩:=CN x;obtain⟨z0,z1,z2,z3⟩:=LM x hx;have hn:=Dr (k:=k) (ae:=iH x/8) hk;have hl:=uF (k:=k) (ae:=iH x/8) hk;have hsz:cT .i64 32 (u64.wrap (Int.tmod (x:Int) 4))=(iH x:Int):=z1;have hsp:i64.wrap (Int.tdiv (iH x:Int) 8)=((iH x/8:Nat):Int):=by rw[h3];exact z2
 have hsc:(qo k x:Int)=(Lay.eQ k (iH x/8):Int)+((x%3:Nat):Int):=by unfold qo;omega
 have har:(o0 k x w:Int)=(ec k (iH x/8):Int)+(w:Int):=by unfold o0;omega
 have hper:Lay.bP (iH x:Int)=iH x/8:=h2.trans h3.symm;have hn9:9<=Lay.eQ k (iH x/8):=by unfold Lay.eQ;omega
 have hrg:1<=qo k x/\qo k x<=300:=by unfold qo;omega
 have hmul:qo k x*iH x<=67108864:=by
  have:=Nat.mul_le_mul hrg.2 h4;omega
 apply eA.ok;unfold eA eA.q1;refine hs.nw fun b1 H hs=>?_
 rw[hsz];refine⟨by decide,by simp,z0,?_⟩;refine aa.use (Sup.Ew k (by omega) (iH x) h1 H) ?_;simp only[HV];refine⟨by decide,by simp,by decide,by simp,?_⟩;rw[hsp];refine aa.use (FI k (iH x/8) (by omega) (by omega) H) ?_;simp only[HV];rw[z3,hper,bg (x:=(Lay.eQ k (iH x/8):Int)+((x%3:Nat):Int)),bg (x:=(w:Int)),bg (x:=(ec k (iH x/8):Int)+(w:Int)),<-hsc,<-har];refine hs.nw fun b2 H hs=>?_
 refine hs.eY 1 rfl rfl rfl rfl fun H hs=>?_
 try simp only[HS]
 refine hs.ld 1 (v:=I (qo k x:Int)) rfl rfl ?_;simp only[HV];refine(Dsk.iU (qo k x) (iH x) ⟨hrg.1,by omega⟩ h1 hmul).use hs [] rfl rfl ?_;rintro _ _ H ⟨dp,rfl,rfl⟩ hs;simp only[HV];refine(yb (dp:=dp)).use hs [] rfl rfl ?_;rintro _ _ H ⟨p,rfl,rfl⟩ hs;simp only[HV];refine bY rfl (bY rfl ?_);have hs:Sep [En p dp none,Dk dp (D.fresh (qo k x) (iH x)),ah b1 (Oa #[.pointer none,.pointer none,I 0,I 0,I 0,I 0] 127),ah b2 (Oa #[I (k:Int),I (qo k x:Int),I (iH x:Int),I (o0 k x w:Int)] 45)] H:=hs
 try simp only[HS]
 refine hs.ld 3 (v:=I (o0 k x w:Int)) rfl rfl ?_;simp only[HV];have hcl:=Clean.fresh (sec:=qo k x) (size:=iH x) ⟨hrg.1,by omega⟩ h1 hmul;refine(xM (p:=p) (dp:=dp) (g:=none) hcl h1 ⟨Nat.zero_le _,Nat.zero_le _,Nat.zero_le _⟩ k (o0 k x w)).use hs [0,1] rfl rfl ?_;rintro _ _ H (⟨h,_⟩|⟨kn,wn,e1,e2,_,⟨d,c,hw',hc,hh,rfl,rfl⟩|⟨d',hcut,_⟩⟩) hs
 .exact absurd (Ft hk hw) h
 .obtain rfl:k=kn:=by omega
  obtain rfl:o0 k x w=wn:=by omega
  simp only[HV];refine aF rfl ?_;refine hs.bJ 3 rfl rfl ?_;simp only[HV];refine hs.eY 2 rfl rfl rfl rfl fun H hs=>?_;refine hs.bJ 2 rfl rfl ?_;refine⟨_,⟨dp,p,d,c,rfl,hw'.sec,hw'.size,hw'.aH,?_,rfl⟩,?_⟩
  .have r1:=hw'.rd;have r2:=hw'.wr;have r3:=hw'.sy;refine⟨hc,by rw[hw'.sec,hw'.size];exact hh,hk,Nat.zero_le _,Nat.zero_le _,?_,?_,?_⟩
   .rw[r1];show 0+0<=_;omega
   .rw[r2];show 0+10<=_;omega
   .rw[r3];show 0+3<=_;omega
  .rw[nF (fb k (o0 k x w)) 0 hw'.sec hw'.size];exact hs.re [0,1] rfl
 .exact(hcut.calm rfl).elim
def jr (m:Mn)(k:Nat)(l:List UInt64)(b:Bool):Mn:=(dA m k l).add (gX (dA m k l) b)
theorem HL {dp p k x w kk aw:Nat}{d:D}{c:Cn}{N:Nat}{m:Mn}{pk:Int}{l:List UInt64}{A:OA}{n mm:Nat}{RR TT:As}{rig:Array Value}(hrig:rig=tr dp p kk x aw)(hL:iT N d c m)(hN:N<=100)(hf:d.aH=0)(hpk:pk<=m.aX)(hk:lg (l.length:Int)=some k)(hk6:k<=m.aG)(hcan:lP l)(hn:n=l.length)(hnm:n<=mm)(b:Bool)
  (hR:∀ H,RR H->Cells H A (af l)) (hT:(∀ H,TT H->T64 H)\/∀ H,RR H->T64 H):
  Tr prog 61 #[.agg rig,.slice A n mm,I (if b=true then 1 else 0)] [En p dp (some (bA d m pk)),Dk dp d,RR,TT] fun v M=>∃ d' c' pk',v= .bool true/\pk'<=(m.aX:Int)/\d'.sec=d.sec/\d'.size=d.size/\d'.aH=0/\iT (N+4) d' c' (jr m k l b)/\M=[En p dp (some (bA d' (jr m k l b) pk')),Dk dp d',RR,TT]:=fun H hs=>by
 subst hrig;subst hn;have hsm:=hL.small (by omega);have hmost:=hL.aG;have hl2:l.length=2^k:=by have:=(gn hk).2;omega
 have h64:=HU (k:=k) (by omega);have hper:=hL.hh.ae;have hb1:=wR (d.size/8) k;have hb2:=wS (d.size/8) k;have hb3:=wm (ae:=d.size/8) (w:=2^k) (by omega) (Nat.two_pow_pos k);have h1r:(cV m k).r=gj m k:=Mn.kj _ _;have h2r:(dA m k l).r=iu (cV m k) k l:=Mn.kj _ _;have h3r:(jr m k l b).r=gX (dA m k l) b:=Mn.kj _ _;have hld1:(dA m k l).r.ld=m.r.ld+1:=by rw[h2r];show(cV m k).r.ld=_;rw[h1r];rfl
 have hld2:(jr m k l b).r.ld=m.r.ld+1:=by rw[h3r];exact hld1
 have hlen1:(dA m k l).L.length=m.L.length+2:=by show((m.L++[_])++[_]).length=_;simp
 have hlen2:(jr m k l b).L.length=m.L.length+3:=by show((dA m k l).L++[_]).length=_;simp[hlen1]
 have hlenN:=hL.len;have hldN:=hL.ld;apply iW.ok;unfold iW;refine hs.nw fun b1 H hs=>?_
 try simp only[HS]
 refine hs.ld 4 (v:=V p) rfl rfl ?_;simp only[HV];refine(B1 (p:=p) (dp:=dp) hL.cl hL.hh hsm.1 hsm.2 hpk (l:=l) (A:=A) (n:=l.length) (mm:=mm) (RR:=RR) (TT:=TT) rfl hnm (by omega) hR hT).use hs [0,1,2,3] rfl rfl ?_;rintro _ _ H (⟨k',i,e,hchk,hne,_⟩|⟨k',hk',_,_,⟨d1,c1,pk1,hpk1,hw1,hc1,hh1,rfl,rfl⟩|⟨d1,hcut,_⟩⟩) hs
 .cases hchk with
  |len h=>rw[h]at hk;cases hk
  |kV h h2=>rw[h]at hk;cases hk;omega
  |word h h2 h3=>exact absurd hcan h3
  |ok h h2 h3=>exact absurd rfl hne
 .obtain rfl:k'=k:=by rw[hk]at hk';cases hk';rfl
  have hf1:d1.aH=0:=hw1.calm hf;have hL1:iT (N+2) d1 c1 (dA m k' l):=hL.xJ hw1 (by unfold s6 s7;omega) hc1 hh1 rfl (by omega) (by omega);have hsm1:=hL1.small (by omega);simp only[HV];refine bH rfl ?_;have hs:Sep [En p dp (some (bA d (dA m k' l) pk1)),Dk dp d1,RR,TT,ah b1 (Oa (tr dp p kk x aw) 127)] H:=hs;rw[<- nF (dA m k' l) pk1 hw1.sec hw1.size]at hs
  try simp only[HS]
  refine hs.ld 4 (v:=V p) rfl rfl ?_;simp only[HV];have hst:stM (dA m k' l) (d1.size/8)=2:=by unfold stM;rw[if_pos (by rw[h2r];rfl)]
  refine(xU (p:=p) (dp:=dp) hL1.cl hL1.hh hsm1.1 hsm1.2 hpk1 (if b=true then 1 else 0)).use hs [0,1] rfl rfl ?_;rintro _ _ H (⟨h,_⟩|⟨_,h,_⟩|⟨_,b',hb',⟨d2,c2,hw2,hc2,hh2,rfl,rfl⟩|⟨d2,hcut,_⟩⟩) hs
  .exact absurd hst h
  .exact absurd (by cases b<;>simp) h
  .obtain rfl:b'=b:=by cases b<;>cases b'<;>first|rfl|(exfalso;revert hb';decide)
   have hL2:iT (N+4) d2 c2 (jr m k' l b'):=hL1.xJ hw2 (by omega) hc2 hh2 rfl (by show(jr m k' l b').L.length<=_;omega) (by show(jr m k' l b').r.ld<=_;omega)
   try simp only[HV]
   refine⟨_,⟨d2,c2,pk1,by first|rfl|trivial,hpk1,hw2.sec.trans hw1.sec,hw2.size.trans hw1.size,hw2.calm hf1,hL2,rfl⟩,?_⟩;have hs:=hs.re [0,1,2,3] rfl;rw[nF (jr m k' l b') pk1 hw2.sec hw2.size];exact hs
  .exact(hcut.calm hf1).elim
 .exact(hcut.calm hf).elim
structure sE (m:Mn)(k:Nat)(b:Bool)(l:List UInt64)(j:Nat):Prop where
 dJ:m.dJ=l
 kk:m.r.kk=k
 dir:m.r.dir=if b=true then 1 else 0
 kd:3<=m.r.kd
 ps:m.r.ps=j
theorem sE.Hm {m:Mn}{k:Nat}{b:Bool}{l:List UInt64}{j:Nat}(h:sE m k b l j)(ae:Nat):dF m ae m.r=eC b k ae m.aX:=by
 unfold dF mH;rw[h.dir,h.kk,Int.toNat_natCast];cases b<;>rfl
theorem sE.st {m:Mn}{k:Nat}{b:Bool}{l:List UInt64}{j:Nat}(h:sE m k b l j)(ae:Nat):stM m ae=if j<(eC b k ae m.aX).length then 3 else 4:=by
 have:=h.kd;unfold stM;rw[if_neg (by omega),if_neg (by omega),h.Hm,h.ps];by_cases e:j<(eC b k ae m.aX).length
 .rw[if_pos e,if_pos (by omega)]
 .rw[if_neg e,if_neg (by omega)]
theorem sE.next {m:Mn}{k:Nat}{b:Bool}{l:List UInt64}{j:Nat}(h:sE m k b l j)(ae:Nat):sE (m.add (ft m ae)) k b l (j+1):=by
 have e:(m.add (ft m ae)).r=ft m ae:=Mn.kj _ _;refine⟨h.dJ,?_,?_,?_,?_⟩
 .rw[e];exact h.kk
 .rw[e];exact h.dir
 .rw[e];show(3:Int)<=4;omega
 .rw[e];show m.r.ps+1=_;rw[h.ps];omega
theorem Aw (m:Mn)(k:Nat)(l:List UInt64)(b:Bool):sE (jr m k l b) k b l 0:=by
 have h2r:(dA m k l).r=iu (cV m k) k l:=Mn.kj _ _;have e:(jr m k l b).r=gX (dA m k l) b:=Mn.kj _ _;refine⟨rfl,?_,?_,?_,?_⟩
 .rw[e];show(dA m k l).r.kk=_;rw[h2r];rfl
 .rw[e];rfl
 .rw[e];show(3:Int)<=3;omega
 .rw[e];rfl
theorem iT.step {N:Nat}{d d':D}{c c':Cn}{m:Mn}(h:iT N d c m){r w:Nat}(hs:tU m (d.size/8) r w):r<=2000/\w<=2000:=by
 have hp:=h.hh.ae;have hk:=h.kk;have hm:=h.aG;have hkm:=(Mn.Bc h.hh).2.2;have h1:=hs.le (by omega) (by omega) (Nat.le_trans (si (by omega)) h.hh.least);have:=HU hk;omega
theorem iT.CL {N:Nat}{d d':D}{c c':Cn}{m:Mn}(h:iT N d c m){r w:Nat}(hs:tU m (d.size/8) r w)(hw:fh d d' r w 2)(hc:Clean d' c')(hh:Holds d.sec d.size (m.add (ft m (d.size/8))) c'):iT (N+2) d' c' (m.add (ft m (d.size/8))):=by
 have:=iT.step (d':=d') (c':=c') h hs;have h1:=h.len;have h2:=h.ld;refine h.xJ hw (by omega) hc hh rfl ?_ ?_
 .show(m.L++[_]).length<=_;simp;omega
 .rw[Mn.kj];show m.r.ld<=_;omega
theorem Mt :(gZ false 2 [1,2,3,4])[0]? =some 10:=by decide +kernel
def w4 :List UInt64:=[1,2,3,4]
theorem IH :eC false 2 4 8=nI false 2:=by unfold eC;rw[if_neg (by decide)]
theorem wO (H0:Hp)(hT:T64 H0){p dp:Nat}:∀(t j:Nat) (H:Hp) (d:D) (c:Cn) (m:Mn) (pk:Int),j+t=5->sE m 2 false w4 j->iT (10+2*j) d c m->m.aX=8->d.size=32->d.aH=0->pk<=m.aX->
  Sep [En p dp (some (bA d m pk)),Dk dp d,own H0] H->cd.l13 (lU (.bool true) H0) (t+1) (Oo p) (j:Int) H
 |0,j,H,d,c,m,pk,hj,hJ,hL,ha,hsz,hf,hpk,hs=>by
  have hsm:=hL.small (by omega);have e8:d.size/8=4:=by rw[hsz]
  have hpl:eC false 2 4 m.aX=nI false 2:=by rw[ha];exact IH
  have hst:stM m (d.size/8)=4:=by
   rw[hJ.st,e8,hpl,if_neg (by show ¬j<5;omega)]
  have hout:xr m (d.size/8)=gZ false 2 w4:=by
   unfold xr;rw[hJ.Hm,hJ.dJ];exact Cu false 2 _ _ (by omega) w4 rfl
  have hlen:(gZ false 2 w4).length=4:=uj _ _ _;unfold cd.l13;refine au (by omega) ?_;refine(sG (p:=p) (dp:=dp) hL.cl hL.hh hsm.2 hpk).use hs [0,1] rfl rfl ?_;rintro v M H (⟨h,_⟩|⟨_,hq⟩) hs
  .exact absurd hst h
  rw[hout]at hq;rcases hq with⟨d',b,mm,pk',h1,h2,h3,rfl,rfl⟩|⟨d',h1,_⟩
  .simp only[HV];refine bH rfl ?_;rw[hlen];refine bH rfl ⟨by decide,by decide,?_⟩
   try simp only[HV]
   have hg:(af (gZ false 2 w4))[0]? =some (U 10):=by
    rw[ct];have:(gZ false 2 w4)[0]? =some 10:=Mt;rw[this];rfl
   refine hs.ph 2 rfl hg ?_
   try simp only[HV]
   exact hs.fin 3 rfl _
  .exact(h1.calm hf).elim
 |t+1,j,H,d,c,m,pk,hj,hJ,hL,ha,hsz,hf,hpk,hs=>by
  have hsm:=hL.small (by omega);have e8:d.size/8=4:=by rw[hsz]
  have hpl:eC false 2 4 m.aX=nI false 2:=by rw[ha];exact IH
  have hst:stM m (d.size/8)=3:=by
   rw[hJ.st,e8,hpl,if_pos (by show j<5;omega)]
  unfold cd.l13;refine aA (by omega) ?_;refine(B6 (p:=p) (dp:=dp) (TT:=own H0) (fun H h=>hT.le h) hL.cl hL.hh hsm.1 hsm.2 hpk (by rw[hJ.kk];decide)).use hs [0,1,2] rfl rfl ?_;rintro v M H (⟨h,_⟩|⟨_,r,w,hC,⟨d',c',pk',hpk',hw,hc,hh,rfl,rfl⟩|⟨d',hcut,_⟩⟩) hs
  .exact absurd hst h
  .simp only[HV];rw[bg (x:=(j:Int)+1)];have hL':=hL.CL hC hw hc hh;refine wO H0 hT (p:=p) (dp:=dp) t (j+1) H d' c' _ pk' (by omega) (hJ.next _) hL' ha (hw.size.trans hsz) (hw.calm hf) hpk' ?_;rw[nF _ pk' hw.sec hw.size];exact hs
  .exact(hcut.calm hf).elim
theorem LA :eV 13 (32/8) ((2:Nat):Int) ((8:Nat):Int)=0:=by decide +kernel
theorem HW (H:Hp)(hT:T64 H):aa prog 58 #[] H (RetE (.bool true) H):=by
 apply aa.ret;apply cd.ok;unfold cd;have hs:=Sep.start H;refine(Dsk.iU 13 32 (by omega) (by decide) (by omega)).use hs [] rfl rfl ?_;rintro _ _ H1 ⟨dp,rfl,rfl⟩ hs;simp only[HV];refine(yb (dp:=dp)).use hs [] rfl rfl ?_;rintro _ _ H1 ⟨p,rfl,rfl⟩ hs;simp only[HV];refine bY rfl (bY rfl ?_);have hs:Sep [En p dp none,Dk dp (D.fresh 13 32),own H] H1:=hs;have hcl:=Clean.fresh (sec:=13) (size:=32) (by omega) (by decide) (by omega);refine(xM (p:=p) (dp:=dp) (g:=none) hcl (by decide) ⟨Nat.zero_le _,Nat.zero_le _,Nat.zero_le _⟩ 2 8).use hs [0,1] rfl rfl ?_;rintro _ _ H1 (⟨h,_⟩|⟨kn,wn,e1,e2,_,⟨d,c,hw',hc,hh,rfl,rfl⟩|⟨d',hcut,_⟩⟩) hs
 .exact absurd LA h
 rotate_left
 .exact(hcut.calm rfl).elim
 obtain rfl:kn=2:=by omega
 obtain rfl:wn=8:=by omega
 have r1:=hw'.rd;have r2:=hw'.wr;have r3:=hw'.sy;have hL:iT 2 d c (fb 2 8):=⟨hc,by rw[hw'.sec,hw'.size];exact hh,by decide,Nat.zero_le _,Nat.zero_le _,by rw[r1];show 0+0<=_;omega,by rw[r2];show 0+10<=_;omega,by rw[r3];show 0+3<=_;omega⟩;have hf:d.aH=0:=hw'.calm rfl;have hsz:d.size=32:=hw'.size;simp only[HV];refine aF rfl ?_;refine hs.nw fun b1 H1 hs=>?_
 have hs:Sep [En p dp (some (bA (D.fresh 13 32) (fb 2 8) 0)),Dk dp d,own H,ah b1 (.row (af w4) 108 4)] H1:=hs;rw[<- nF (fb 2 8) 0 hw'.sec hw'.size]at hs;have hR:∀ H,ah b1 (.row (af w4) 108 4) H->Cells H (Oo b1) (af w4):=fun H h=>by
  have:=Cells.row h 0 4
  rwa [List.drop_zero,List.take_of_length_le (by decide)]at this
 have hsm:=hL.small (by omega);have hlg:lg ((w4.length:Nat):Int)=some 2:=rC (k:=2);have hcan:lP w4:=by decide
 refine(B1 (p:=p) (dp:=dp) hL.cl hL.hh hsm.1 hsm.2 (by decide) (l:=w4) (A:=some (O b1)) (n:=4) (mm:=4) (RR:=ah b1 (.row (af w4) 108 4)) (TT:=own H) rfl (Nat.le_refl _) (by decide) hR (.inl fun H h=>hT.le h)).use hs [0,1,3,2] rfl rfl ?_;rintro _ _ H1 (⟨k',i,e,hchk,hne,_⟩|⟨k',hk',_,_,⟨d1,c1,pk1,hpk1,hw1,hc1,hh1,rfl,rfl⟩|⟨d1,hcut,_⟩⟩) hs
 .cases hchk with
  |len h=>rw[h]at hlg;cases hlg
  |kV h h2=>rw[h]at hlg;cases hlg;exact absurd h2 (by decide)
  |word h h2 h3=>exact absurd hcan h3
  |ok h h2 h3=>exact absurd rfl hne
 rotate_left
 .exact(hcut.calm hf).elim
 obtain rfl:k'=2:=by rw[hlg]at hk';cases hk';rfl
 have hf1:d1.aH=0:=hw1.calm hf;have h1r:(cV (fb 2 8) 2).r=gj (fb 2 8) 2:=Mn.kj _ _;have h2r:(dA (fb 2 8) 2 w4).r=iu (cV (fb 2 8) 2) 2 w4:=Mn.kj _ _;have hld1:(dA (fb 2 8) 2 w4).r.ld=1:=by rw[h2r];show(cV (fb 2 8) 2).r.ld=_;rw[h1r];rfl
 have hcost:s6 (d.size/8) 2<=2000/\s7 (d.size/8) 2<=2000:=by
  have hb1:=wR (d.size/8) 2;have hb2:=wS (d.size/8) 2;have hb3:=wm (ae:=d.size/8) (w:=2^2) (by rw[hsz];decide) (by decide);unfold s6 s7;omega
 have hL1:iT 4 d1 c1 (dA (fb 2 8) 2 w4):=hL.xJ hw1 (by omega) hc1 hh1 rfl (by decide) (by omega);have hsm1:=hL1.small (by omega);simp only[HV];refine aF rfl ?_;have hs:Sep [En p dp (some (bA d (dA (fb 2 8) 2 w4) pk1)),Dk dp d1,ah b1 (.row (af w4) 108 4),own H] H1:=hs;rw[<- nF (dA (fb 2 8) 2 w4) pk1 hw1.sec hw1.size]at hs;have hst:stM (dA (fb 2 8) 2 w4) (d1.size/8)=2:=by unfold stM;rw[if_pos (by rw[h2r];rfl)]
 refine(xU (p:=p) (dp:=dp) hL1.cl hL1.hh hsm1.1 hsm1.2 hpk1 0).use hs [0,1] rfl rfl ?_;rintro _ _ H1 (⟨h,_⟩|⟨_,h,_⟩|⟨_,b',hb',⟨d2,c2,hw2,hc2,hh2,rfl,rfl⟩|⟨d2,hcut,_⟩⟩) hs
 .exact absurd hst h
 .exact absurd (.inl rfl) h
 rotate_left
 .exact(hcut.calm hf1).elim
 obtain rfl:b'=false:=by cases b'<;>first|rfl|(exfalso;revert hb';decide)
 have h3r:(jr (fb 2 8) 2 w4 false).r=gX (dA (fb 2 8) 2 w4) false:=Mn.kj _ _;have hld2:(jr (fb 2 8) 2 w4 false).r.ld=1:=by rw[h3r];exact hld1
 have hL2:iT 6 d2 c2 (jr (fb 2 8) 2 w4 false):=hL1.xJ hw2 (by omega) hc2 hh2 rfl (by decide) (by show(jr (fb 2 8) 2 w4 false).r.ld<=_;omega);simp only[HV];refine aF rfl ?_;have hs:Sep [En p dp (some (bA d1 (jr (fb 2 8) 2 w4 false) pk1)),Dk dp d2,ah b1 (.row (af w4) 108 4),own H] H1:=hs
 try simp only[HS]
 refine(GA (p:=dp) (d:=d2)).use hs [1] rfl rfl ?_;rintro _ _ H1 ⟨rfl,rfl⟩ hs
 try simp only[HV]
 have hok2:=hc2.ok;have hok3:Ok { d2 with down:=true,aH:=0}:=⟨hok2.sec,hok2.size,hok2.kV,hok2.ae,hok2.safe,hok2.cache,Nat.zero_le _⟩;refine(I2 (p:=dp) hok3 (fun k hk=>hc2.Ah k hk) rfl .none 0 0 [] rfl (own H) (fun _ _ i v hi=>by simp[oc]at hi)).use hs [0,3] rfl rfl ?_;rintro _ _ H1 ⟨ks,hks,rfl,rfl⟩ hs;obtain⟨c3,ec3,hc3⟩:=(hc2.Lz).qc hok3 hks [];rw[ec3]at hc3;have hL3:iT 6 (D.qc { d2 with down:=true,aH:=0} ks []) c2 (jr (fb 2 8) 2 w4 false):=⟨hc3,hL2.hh,hL2.aG,hL2.len,hL2.ld,hL2.rd,hL2.wr,hL2.sy⟩;generalize hd3:D.qc { d2 with down:=true,aH:=0} ks []=d3 at*;have hsec3:d3.sec=d1.sec:=by rw[<- hd3];exact hw2.sec
 have hsize3:d3.size=d1.size:=by rw[<- hd3];exact hw2.size
 have hf3:d3.aH=0:=by rw[<- hd3];rfl
 have hsm3:=hL3.small (by omega);simp only[HV];have hs:Sep [Dk dp d3,own H,En p dp (some (bA d1 (jr (fb 2 8) 2 w4 false) pk1)),ah b1 (.row (af w4) 108 4)] H1:=hs;refine(C8 (p:=p) (dp:=dp) (g:=some (bA d1 (jr (fb 2 8) 2 w4 false) pk1)) hL3.cl hL3.ae hsm3.2 (o:=some (jr (fb 2 8) 2 w4 false)) hL3.hh).use hs [2,0] rfl rfl ?_;rintro _ _ H1 (⟨_,h,_⟩|⟨d4,m4,hm4,hw4,hc4,rfl,rfl⟩|⟨_,hcut,_⟩) hs
 .cases h
 rotate_left
 .exact(hcut.calm hf3).elim
 cases hm4;simp only[HV];refine aF rfl ⟨6,?_⟩;have hL4:iT 10 d4 c2 (jr (fb 2 8) 2 w4 false):=by
  have h:=hL3.xJ hw4 (by omega) hc4 hL3.hh rfl (by have:=hL3.len;omega) (by have:=hL3.ld;omega);have q1:=h.len;have q2:=h.ld;have q3:=h.rd;have q4:=h.wr;have q5:=h.sy;exact⟨h.cl,h.hh,h.aG,by omega,by omega,by omega,by omega,by omega⟩
 refine wO H hT (p:=p) (dp:=dp) 5 0 H1 d4 c2 _ 0 rfl (Aw _ _ _ _) hL4 rfl (hw4.size.trans (hsize3.trans (hw1.size.trans hsz))) (hw4.calm hf3) (by decide) ?_;rw[nF _ 0 hw4.sec hw4.size];exact hs.re [0,1,2] rfl
open Fft Prf
theorem IP (e:Eg):(((wK (some e)).map (Value.int .i64)).toArray)[0]? =some (I (gu e)):=by
 have h:=yM e;show(((if gu e=1 then _ else if gu e=2 then _ else _:List Int).map (Value.int .i64)).toArray)[0]? =_
 rcases h with h|h|h|h<;>rw[h]<;>rfl
abbrev DN (dp p k x w:Nat):AO:=Oa (tr dp p k x w) 127
section
variable {dp p b1 k x w ar sz : Nat} {b : Bool} {l : List UInt64} {R : As}
def Lg (dp p k ar sz:Nat)(b:Bool)(l:List UInt64)(R:As)(v:Value)(M:List As):Prop:=
 ∃(i N:Nat) (d:D) (c:Cn) (m:Mn) (pk:Int),v= I (i:Int)/\N<=200/\iT N d c m/\sE m k b l (eC b k (sz/8) ar).length/\m.aX=ar/\d.size=sz/\d.aH=0/\pk<=m.aX/\M=[En p dp (some (bA d m pk)),Dk dp d,R]
theorem tI (hT:∀ H,R H->T64 H):∀(t j i N:Nat) (H:Hp) (d:D) (c:Cn) (m:Mn) (pk:Int),i=j->j+t=(eC b k (sz/8) ar).length->N<=100+2*j->sE m k b l j->iT N d c m->m.aX=ar->d.size=sz->d.aH=0->pk<=m.aX->
  Sep [En p dp (some (bA d m pk)),Dk dp d,R,ah b1 (DN dp p k x w)] H->
  bM.l2 (fun v H'=>∃ M,Lg dp p k ar sz b l R v M/\Sep M H') (t+1) (O b1) (i:Int) H
 |0,j,i,N,H,d,c,m,pk,hi,hj,hN,hJ,hL,ha,hsz,hf,hpk,hs=>by
  have h5:=(o7 b k (sz/8) ar).2;have hld:=hL.ld;unfold bM.l2;refine aA (by omega) ?_
  try simp only[HS]
  refine hs.ld 3 (v:=V p) rfl rfl ?_;simp only[HV];refine(xT (p:=p) (dp:=dp) (some (bA d m pk)) (fun e he=>by cases he;show m.r.ld<_;omega)).use hs [0] rfl rfl ?_;rintro _ _ H ⟨rfl,rfl⟩ hs;simp only[HV];refine Fh (IP _) ?_;simp only[HV];refine bH (by rw[uh,hJ.st,hsz,ha,if_neg (by omega)]) ?_;obtain rfl:j=(eC b k (sz/8) ar).length:=by omega
  exact⟨_,⟨i,N,d,c,m,pk,rfl,by omega,hL,hJ,ha,hsz,hf,hpk,rfl⟩,hs.re [0,1,2] rfl⟩
 |t+1,j,i,N,H,d,c,m,pk,hi,hj,hN,hJ,hL,ha,hsz,hf,hpk,hs=>by
  have h5:=(o7 b k (sz/8) ar).2;have hld:=hL.ld;have hst:stM m (d.size/8)=3:=by rw[hJ.st,hsz,ha,if_pos (by omega)]
  have hmo:=hL.aG;unfold bM.l2;refine aA (by omega) ?_
  try simp only[HS]
  refine hs.ld 3 (v:=V p) rfl rfl ?_;simp only[HV];refine(xT (p:=p) (dp:=dp) (some (bA d m pk)) (fun e he=>by cases he;show m.r.ld<_;omega)).use hs [0] rfl rfl ?_;rintro _ _ H ⟨rfl,rfl⟩ hs;simp only[HV];refine Fh (IP _) ?_;simp only[HV];refine bT (by rw[uh,hst];decide) ?_;refine hs.ld 3 (v:=V p) rfl rfl ?_;simp only[HV];have hsm:=hL.small (by omega);have hkk:m.r.kk<=14:=by have:=hL.kk;omega
  refine(B6 (p:=p) (dp:=dp) (TT:=R) hT hL.cl hL.hh hsm.1 hsm.2 hpk hkk).use hs [0,1,2] rfl rfl ?_;rintro v M H (⟨h,_⟩|⟨_,r,w,hC,⟨d',c',pk',hpk',hw,hc,hh,rfl,rfl⟩|⟨d',hcut,_⟩⟩) hs
  .exact absurd hst h
  .simp only[HV];refine aF rfl ?_;subst hi;rw[bg (x:=(i:Int)+1)];refine tI hT t (i+1) (i+1) (N+2) H d' c' _ pk' rfl (by omega) (by omega) (hJ.next _) (hL.CL hC hw hc hh) ha (hw.size.trans hsz) (hw.calm hf) hpk' ?_;rw[nF _ pk' hw.sec hw.size];exact hs
  .exact(hcut.calm hf).elim
theorem D6 (hT:∀ H,R H->T64 H){N:Nat}{d:D}{c:Cn}{m:Mn}{pk:Int}{rig:Array Value}(hrig:rig=tr dp p k x w)(hN:N<=100)(hJ:sE m k b l 0)(hL:iT N d c m)(ha:m.aX=ar)(hsz:d.size=sz)(hf:d.aH=0)(hpk:pk<=m.aX):
  Tr prog 114 #[.agg rig] [En p dp (some (bA d m pk)),Dk dp d,R] (Lg dp p k ar sz b l R):=fun H hs=>by
 subst hrig;apply bM.ok;unfold bM;refine hs.nw fun b1 H hs=>?_
 exact⟨_,tI (x:=x) (w:=w) hT (eC b k (sz/8) ar).length 0 0 N H d c m pk rfl (by omega) (by omega) hJ hL ha hsz hf hpk hs⟩
end
theorem K1 {A:OA}{n mm k x w:Nat}{l:List UInt64}{R:As}(hk6:k<=6)(hx:x<256)(hw:w<256)(ek:q8 l=k)(hlg:lg (l.length:Int)=some k)(hcan:lP l)(hlen:l.length=2^k)(hn:n=l.length)(hm:n<=mm)(hR:∀ H,R H->Cells H A (af l))(hT:∀ H,R H->T64 H)(b:Bool):
  Tr prog 64 #[.slice A n mm,I (if b=true then 1 else 0),.int .u8 (x:Int),.int .u8 (w:Int)] [R] fun v M=>∃ bo mo,v= .tuple #[.slice (Oo bo) (2^k) (2^k),.bool true]/\M=[ah bo (.row (af (gZ b k l)) 108 mo),R]:=fun H hs=>by
 apply ke.ok;unfold ke;have hcl:Cells H A (af l):=by
  obtain⟨H1,h1,hle⟩:=hs.fU 0 rfl;exact(hR H1 h1).le hle
 refine aa.use (Bt A n mm l hn H hcl) ?_;simp only[HV];rw[ek];refine(JB (k:=k) (x:=x) (w:=w) hk6 hx hw).use hs [] rfl rfl ?_;rintro _ _ H1 ⟨dp,p,d,c,rfl,hsec,hsize,hf,hL,rfl⟩ hs;simp only[HV];refine hs.nw fun b1 H1 hs=>?_
 refine hs.eY 3 (y:=tr dp p k x w) rfl rfl rfl rfl fun H1 hs=>?_
 have hs:Sep [En p dp (some (bA d (fb k (o0 k x w)) 0)),Dk dp d,R,ah b1 (DN dp p k x w)] H1:=hs;refine hs.bJ 3 rfl rfl ?_
 try simp only[Array.toArray_toList]
 have hs:Sep [En p dp (some (bA d (fb k (o0 k x w)) 0)),Dk dp d,R,(fun _=>True),ah b1 (DN dp p k x w)] H1:=by
  have:=(Sep.unit (X:=fun _=>True) hs trivial);exact this.re [1,2,3,0,4] rfl
 refine(HL (dp:=dp) (p:=p) (k:=k) (x:=x) (w:=w) (kk:=k) (aw:=w) (A:=A) (mm:=mm) (rig:=tr dp p k x w) (RR:=R) (TT:=fun _=>True) rfl hL (by omega) hf (by omega) hlg (Nat.le_refl _) hcan hn hm b hR (.inr hT)).use hs [0,1,2,3] rfl rfl ?_;rintro _ _ H1 ⟨d',c',pk',rfl,hpk',hsec',hsize',hf',hL',rfl⟩ hs;simp only[HV];refine hs.bJ 4 rfl rfl ?_
 try simp only[Array.toArray_toList]
 refine(D6 (dp:=dp) (p:=p) (k:=k) (x:=x) (w:=w) (ar:=o0 k x w) (sz:=iH x) (b:=b) (l:=l) (R:=R) (rig:=tr dp p k x w) hT rfl (by omega) (Aw (fb k (o0 k x w)) k l b) hL' rfl (hsize'.trans hsize) hf' hpk').use hs [0,1,2] rfl rfl ?_;rintro _ _ H1 ⟨i,N,d2,c2,m2,pk2,rfl,hN,hL2,hJ2,ha2,hsz2,hf2,hpk2,rfl⟩ hs;simp only[HV];refine au (by omega) ?_;have hs:Sep [En p dp (some (bA d2 m2 pk2)),Dk dp d2,R,(fun _=>True),ah b1 (DN dp p k x w)] H1:=hs;refine hs.ld 4 (v:=V p) rfl rfl ?_;simp only[HV];have hsm:=hL2.small (by omega);have hstm:stM m2 (d2.size/8)=4:=by rw[hJ2.st,hsz2,ha2,if_neg (by omega)]
 have hout:xr m2 (d2.size/8)=gZ b k l:=by
  unfold xr;rw[hJ2.Hm,hJ2.dJ];exact Cu b k _ _ (by omega) l hlen
 have hlen2:(gZ b k l).length=2^k:=uj _ _ _;refine(sG (p:=p) (dp:=dp) hL2.cl hL2.hh hsm.2 hpk2).use hs [0,1] rfl rfl ?_;rintro v M H (⟨h,_⟩|⟨_,hq⟩) hs
 .exact absurd hstm h
 rw[hout]at hq;rcases hq with⟨d3,bo,mo,pk3,h1,h2,h3,rfl,rfl⟩|⟨d3,h1,_⟩
 .simp only[HV];rw[hlen2];exact⟨_,⟨bo,mo,rfl,rfl⟩,hs.re [2,3] rfl⟩
 .exact(h1.calm hf2).elim
theorem Hc {k n:Nat}(h:n=2^k)(hn:n<=16):k<=4:=by
 rcases Nat.lt_or_ge 4 k with h4|h4
 .have:2^5<=2^k:=Nat.pow_le_pow_right (by omega) h4;omega
 .exact h4
section
variable {A : Option Addr} {m N k bo i z mo : Nat} {l ys : List UInt64} {e : Fft.Zp} {b : Bool} {H0 : Hp}
theorem wp_loop (hT:T64 H0)(hl:Cells H0 A (af l))(hN:N=2^k)(hll:l.length=N)(hlg:lg (N:Int)=some k)(h16:N<=16)(hi:i<2^k)(he:e≠0)(hz:z<2^64)(hys:ys.length=N)
  (hval:∀ z,sB b k (bG ys) z=qg z l+Ae b k e*vY b k i z):∀(t j:Nat) (a:Bool) (H:Hp),j+t=N->(a=true->∀ n,n<j->vY b k i (zp (z+n))=0)->Sep [ah bo (.row (af ys) 108 mo),own H0] H->
   aQ.l18 (lU (.bool true) H0) (t+1) A N m (if b=true then 1 else 0) (z:Int) (Oo bo) N N a (j:Int) H
 |0,j,a,H,hj,ha,hs=>by
  unfold aQ.l18;refine au (by omega) ?_;cases a with
  |true=>exact(JF b (Hc hN h16) hi z fun n hn=>ha rfl n (by omega)).elim
  |false=>exact hs.fin 1 rfl _
 |t+1,j,a,H,hj,ha,hs=>by
  have hk4:=Hc hN h16;unfold aQ.l18;refine aA (by omega) ?_;rw[fC (n:=j)];refine aa.use (Gol.Cz (a:=z) (b:=j) H) ?_;simp only[HV];have hc:Cells H (Oo bo) (af ys):=by
   have:=Cells.row (hs.get 0 rfl) 0 (af ys).length
   rwa [List.drop_zero,List.take_length]at this
  have hlt:(z+j)%18446744069414584321<2^64:=Nat.lt_of_lt_of_le (Nat.mod_lt _ (by decide)) (by decide);refine aa.use (Prf.zI (A1:=A) (A2:=some (O bo)) (m1:=m) (m2:=N) (by omega) hlg hys hll b hlt H (hT.le (hs.ow 1 rfl)) (hl.le (hs.ow 1 rfl)) hc) ?_;simp only[HV];refine aF rfl ?_;rw[Lr,hval];rw[bg (x:=(j:Int)+1)];cases a with
  |false=>exact wp_loop hT hl hN hll hlg h16 hi he hz hys hval t (j+1) false H (by omega) (fun h=>by cases h) hs
  |true=>
   refine wp_loop hT hl hN hll hlg h16 hi he hz hys hval t (j+1) _ H (by omega) (fun h n hn=>?_) hs;by_cases e':n=j
   .subst e';have h1:=eq_of_beq h;have h2:qg (zp (z+n)) l+Ae b k e*vY b k i (zp (z+n))=qg (zp (z+n)) l:=Fin.ext (Int.ofNat.inj h1);have h3:Ae b k e*vY b k i (zp (z+n))=0:=by grind
    rcases Fft.tN h3 with h|h
    .exact absurd h (KH b he)
    .exact h
   .exact ha rfl n (by omega)
end
theorem WholeProof_ok (A1:OA)(n1 m1:Nat)(l:List UInt64)(hn1:n1=l.length)(hm1:n1<=m1)(dir:Int)(x w:Nat)(hx:x<256)(hw:w<256)(z:Nat)(hz:z<2^64)(at8:Nat)(ha8:at8<256)(by':Nat)(hby:by'<2^64)
  (H:Hp) (hT:T64 H) (hl:Cells H A1 (af l)):
  aa prog 11 #[.slice A1 n1 m1,I dir,.int .u8 (x:Int),.int .u8 (w:Int),U (z:Int),.int .u8 (at8:Int),U (by':Int)] H (RetE (.bool true) H):=by
 apply aa.ret;apply aQ.ok;unfold aQ;refine aa.use (HW H hT) ?_;simp only[HV];refine aa.use (Bt A1 n1 m1 l hn1 H hl) ?_;simp only[HV];by_cases hneg:q8 l<0
 .exact aA hneg ((Sep.start H).fin 0 rfl _)
 refine au hneg ?_;obtain⟨k,ek,hlg,hk6,hlen,hcan⟩:=EW (l:=l) (by omega);by_cases h16:(n1:Int)>16
 .exact aA h16 ((Sep.start H).fin 0 rfl _)
 refine au h16 ?_;have hN:n1=2^k:=hn1.trans hlen;have hpos:=Nat.two_pow_pos k;have hk4:=Hc hN (by omega);rw[<- hn1]at hlg;have j5:∀ b:Bool,dir=(if b=true then 1 else 0)->aQ.j5 (lU (.bool true) H) A1 n1 m1 dir (x:Int) (w:Int) (z:Int) (at8:Int) (by':Int) H:=fun b hb=>by
  subst hb;unfold aQ.j5;have hs:=Sep.start H;refine(K1 (A:=A1) (n:=n1) (mm:=m1) (k:=k) (x:=x) (w:=w) (l:=l) (R:=own H) hk6 hx hw ek (by rw[<- hn1];exact hlg) hcan hlen hn1 hm1 (fun H' h=>hl.le h) (fun H' h=>hT.le h) b).use hs [0] rfl rfl ?_;rintro _ _ H1 ⟨bo,mo,rfl,rfl⟩ hs;simp only[HV];rw[<- hN];refine aF rfl ?_;have hlt:(gZ b k l).length=n1:=(uj _ _ _).trans hN.symm;have hc:Cells H1 (Oo bo) (af (gZ b k l)):=by
   have:=Cells.row (hs.get 0 rfl) 0 (af (gZ b k l)).length
   rwa [List.drop_zero,List.take_length]at this
  have hT1:=hT.le (hs.ow 1 rfl);have hl1:=hl.le (hs.ow 1 rfl);refine aa.use (Prf.zI (A1:=A1) (A2:=some (O bo)) (m1:=m1) (m2:=n1) (by omega) hlg hlt hn1.symm b hz H1 hT1 hl1 hc) ?_;rw[Ge b (by omega) l (hn1.symm.trans hN),beq_self_eq_true];simp only[HV];refine aa.use (Prf.I5 (A1:=A1) (A2:=some (O bo)) (m1:=m1) (m2:=n1) (by omega) hlg hlt hn1.symm b H1 hT1 hl1 hc (by rw[hN];exact KL b l) (by rw[hN];exact KM b (by omega) l)) ?_;simp only[HV];refine aF rfl (aF rfl ⟨by omega,trivial,?_⟩);refine aa.use (Gol.Bb (a:=by') H1) ?_;simp only[HV];by_cases h0:by'%18446744069414584321=0
  .refine bH (by omega) ?_;exact hs.fin 1 rfl _
  refine bT (by omega) ?_;obtain⟨i,hi⟩:∃ i,i=at8%n1:=⟨_,rfl⟩;have hin:i<n1:=by rw[hi];exact Nat.mod_lt _ (by omega)
  have htm:Int.tmod (i64.wrap (at8:Int)) (n1:Int)=(i:Int):=by
   rw[bg (x:=(at8:Int)),hi];rfl
  rw[htm];have hil:i<(gZ b k l).length:=by omega
  refine⟨by omega,by omega,?_⟩;show Ld H1 ((O bo).add ((i:Int).toNat*1)) _
  rw[show((O bo).add ((i:Int).toNat*1))=⟨bo,i,none⟩ by rw[Int.toNat_natCast,Nat.mul_one,Addr.aP,Nat.zero_add]];refine hs.ph 0 rfl (show(af (gZ b k l))[i]? =some (U (((gZ b k l)[i]).toNat:Int)) by rw[ct,List.getElem?_eq_getElem hil];rfl) ?_;simp only[HV];refine aa.use (Gol.Cz (a:=((gZ b k l)[i]).toNat) (b:=by') H1) ?_;simp only[HV];refine⟨by omega,by omega,?_⟩;show St H1 ((⟨bo,i,none⟩:Addr).add 0) _ _
  rw[Addr.aP,Nat.add_zero];refine hs.str 0 rfl (by rw[aB];exact hil) rfl fun H2 hs=>?_
  have hv:((((gZ b k l)[i]).toNat+by')%18446744069414584321:Nat)=(uw (zw (gZ b k l)[i]+zp by')).toNat:=by
   rw[Fft.wN,<-Prf.xe,zw,Fft.jo,Fft.jo];omega
  rw[hv,Ker.ou]at hs;refine⟨n1+1,wp_loop (k:=k) (i:=i) (e:=zp by') (b:=b) (mo:=mo) hT hl hN hn1.symm hlg (by omega) (by omega) (fun e=>h0 (by have:=congrArg Fin.val e;exact this)) hz (by rw[List.length_set];exact hlt) (fun z=>?_) n1 0 true H2 (by omega) (fun _ n hn=>absurd hn (by omega)) hs⟩;rw[J6 b (bG (gZ b k l)) _ (i:=i) (by omega) (zp by') (fun j hj=>?_) z,Ge b (by omega) l (hn1.symm.trans hN)];have hj1:j<(gZ b k l).length:=by omega
  rw[o2 (by rw[List.length_set];exact hj1),o2 hj1,List.getElem_set];by_cases e:i=j
  .subst e;rw[if_pos rfl,if_pos rfl,lL]
  .rw[if_neg e,if_neg (fun h=>e h.symm)];show _=_+(0:Fft.Zp)
   grind
 by_cases h0:dir=0
 .exact aF h0 (j5 false h0)
 .refine aU h0 ?_;by_cases h1:dir=1
  .exact aF h1 (j5 true h1)
  .exact aU h1 ⟨rfl,Hp.le_refl _⟩
end Eng
end Go.Proofs.YtlgnlghmbcpmhaaGreatDoor
