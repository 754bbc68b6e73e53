import Derived.Test.YtgfildcgihbdaaaGreatDoorProg
import Derived.Test.YtgfildcgihbdaaaGreatDoorPkBudgetTells7
set_option maxRecDepth 100000
set_option linter.unusedSimpArgs false
set_option linter.unusedVariables false
set_option linter.unnecessarySimpa false
set_option linter.unusedSectionVars false
open Go.IntKind (i64 u64)
namespace Go.Proofs.YtgfildcgihbdaaaGreatDoor
open Tryz (prog)
namespace Eng
open Go Go.Hw Go.Form W Shp Dsk Str Are Trn Pas Pln
structure iZ1 (pz:Pz)(k per cap:Nat):Prop where
 f:pz.f<4
 o:pz.o<4
 fo:pz.f≠pz.o
 k:pz.j.ea+pz.j.eb=k
 tn:pz.t=true→2^pz.j.ea+per≤cap
 rw:pz.t=false→pz.j.eb≤20∧-1≤pz.j.tw∧pz.j.tw≤32∧per+2*2^pz.j.eb≤cap
def eZr (per cap f o:Nat)(pz:Pz)(r w:Nat):Prop:=
 (pz.t=true∧∃ j,cZc ((2^pz.j.ea:Nat):Int) ((2^pz.j.eb:Nat):Int) per cap j∧r=rT per f o (2^pz.j.ea) (2^pz.j.eb) (2^j) (2^pz.j.eb/2^j)∧w=wT per o (2^pz.j.ea) (2^j) (2^pz.j.eb/2^j))∨
 (pz.t=false∧∃ j,dZc pz.j.ea ((cap-per)/2^pz.j.eb) j∧r=rP per f o (2^j*2^pz.j.eb) (2^pz.j.ea/2^j)∧w=wP per o (2^j*2^pz.j.eb) (2^pz.j.ea/2^j))
section
variable {p q dp ap : Nat} {x y : X} {cap : Nat} {peak : Int} {TT : As} {k : Nat} {pz : Pz}
def wZ9 (p q dp ap:Nat)(x y:X)(cap:Nat)(pz:Pz)(TT:As)(d:D)(v:Value)(M:List As):Prop:=
 ∃ peak':Int,peak'≤cap∧∃ r w,eZr (D.per d) cap x.f y.f pz r w∧
  ((∃ d',Prog (inX y) d d' r w∧pws d' y 0 y.w=pz.ap (pws d x 0 x.w)∧v= .tuple #[.int .u32 ((Go.Crc.sum (form (pz.ap (pws d x 0 x.w)))).toNat:Int),.int .i64 0]∧M=[pts p (ZI dp ap x),pts q (ZI dp ap y),Dk dp d',Ar ap cap peak' [],TT])∨
  (∃ d',cZu (inX y) d d'∧d.fuse≤r+w∧v= .tuple #[.int .u32 0,.int .i64 8]∧M=[pts p (ZI dp ap x),pts q (ZI dp ap y),Dk dp d',Ar ap cap peak' [],TT]))
theorem iZJ {a b c:Int}(h1:a≤c)(h2:b≤c):mx a b≤c:=by unfold mx;split<;>assumption
theorem wZx {d:D}(hT:∀ H,TT H→T64 H)(hok:Ok d)(hl:d.down=false)(hx:On d x)(hy:On d y)(ho:d.rd≤1000000000000∧d.wr≤1000000000000)(hk32:k≤32)(hxw:x.w=2^k)(hyw:y.w=2^k)(hdis:x.f+x.s≤y.f∨y.f+y.s≤x.f)
  (hper:bZ9 (D.per d:Int)=true) (hcap:cap≤16777216) (hpk:peak≤cap) (hz:iZ1 pz k (D.per d) cap):
  Tr prog 88 #[.pointer (some ⟨p,0,none⟩),.pointer (some ⟨q,0,none⟩),.agg pz.c,.pointer (some ⟨ap,0,none⟩),.int .i64 (D.per d:Int)]
   [pts p (ZI dp ap x),pts q (ZI dp ap y),Dk dp d,Ar ap cap peak [],TT] (wZ9 p q dp ap x y cap pz TT d):=fun H hs=>by
 have hp:=Ok.per_le hok;have hkk:=hz.k;have hpow:2^pz.j.ea*2^pz.j.eb=2^k:=by rw[← Nat.pow_add,hkk]
 have hxw2:x.w=2^pz.j.ea*2^pz.j.eb:=hxw.trans hpow.symm;have hyw2:y.w=2^pz.j.ea*2^pz.j.eb:=hyw.trans hpow.symm;apply gZ3.ok;unfold gZ3;refine hs.nw fun b1 H hs=>?_
 refine hs.ldf 5 (v:=.int .i64 (if pz.t=true then 1 else 2)) rfl rfl ?_;simp only[HV];cases ht:pz.t with
 |true=>
  refine ZT rfl ?_
  try simp only[HS]
  refine hs.lda 5 (off:=0) (n:=2) rfl (by show 0+2≤8;omega) ?_;have ea:((pz.c.toList.drop 0).take 2).toArray=#[.int .i64 ((2^pz.j.ea:Nat):Int),.int .i64 ((2^pz.j.eb:Nat):Int)]:=rfl;rw[ea];have htn:=hz.tn ht;obtain⟨j,hj1,hj⟩:=cZc.ex (ea:=pz.j.ea) (eb:=pz.j.eb) (per:=(D.per d:Int)) (free:=(cap:Int)) (by omega) (by omega);have hjs:cZc ((2^pz.j.ea:Nat):Int) ((2^pz.j.eb:Nat):Int) (D.per d) ((cap:Int)-ZG []) j:=by rw[bZY,Int.sub_zero];exact hj
  have hfit:=hj.fit;have hdv:2^pz.j.eb/2^j*2^j=2^pz.j.eb:=(div_pow hj1).symm;refine(Trn.nZO (p:=p) (q:=q) (dp:=dp) (ap:=ap) (x:=x) (y:=y) (cap:=cap) (peak:=peak) (bufs:=[]) hT hok hl hx hy (by omega) (by omega) hxw2 hyw2 hdis hper (by omega) (by decide) hjs).use hs [0,1,2,3,4] rfl rfl ?_;rintro v _ H ⟨M0,hq,rfl⟩ hs;have hpk2:mx peak (ZG []+((2^j*2^pz.j.ea:Nat):Int)+(D.per d:Int))≤cap:=iZJ hpk (by rw[bZY];rw[Int.natCast_mul];omega);have hap:pz.ap (pws d x 0 x.w)=trW d x (2^pz.j.ea) (2^pz.j.eb):=by unfold Pz.ap;rw[if_pos ht,vZu,hxw2]
  rcases hq with⟨d',hI,rfl,rfl⟩|⟨d',hD,hfu,rfl,rfl⟩
  ·simp only[HV];refine⟨_,⟨_,hpk2,_,_,.inl ⟨ht,j,hj,rfl,rfl⟩,.inl ⟨d',hI.pg,?_,by rw[hap],rfl⟩⟩,hs.re [0,1,2,3,4] rfl⟩;rw[hap];have hlen:=mZh d x (2^pz.j.ea) (2^pz.j.eb);rw[hyw2];refine(pZC fun k hk=>hI.dst k ?_);rw[hdv,Nat.mul_comm];exact hk
  ·simp only[HV];exact⟨_,⟨_,hpk2,_,_,.inl ⟨ht,j,hj,rfl,rfl⟩,.inr ⟨d',hD,hfu,rfl,rfl⟩⟩,hs.re [0,1,2,3,4] rfl⟩
 |false=>
  refine aZg (by decide) (ZT rfl ?_)
  try simp only[HS]
  refine hs.lda 5 (off:=0) (n:=5) rfl (by show 0+5≤8;omega) ?_;have ea:((pz.c.toList.drop 0).take 5).toArray=pz.j.a:=rfl;rw[ea];obtain⟨h20,htw1,htw2,hcp⟩:=hz.rw ht;have hpb:=Nat.two_pow_pos pz.j.eb;have hq2:2≤(cap-D.per d)/2^pz.j.eb:=(Nat.le_div_iff_mul_le hpb).2 (by omega);obtain⟨j,hj⟩:=dZc.ex (ea:=pz.j.ea) hq2;have hjs:dZc pz.j.ea (((cap:Int)-ZG []-(D.per d:Int)).toNat/2^pz.j.eb) j:=by
   have:((cap:Int)-ZG []-(D.per d:Int)).toNat=cap-D.per d:=by rw[bZY];omega
   rw[this];exact hj
  have hfit:(2^j+1)*2^pz.j.eb≤cap-D.per d:=(Nat.le_div_iff_mul_le hpb).1 hj.fit;rw[Nat.succ_mul]at hfit;refine(Pas.nZO (p:=p) (q:=q) (dp:=dp) (ap:=ap) (x:=x) (y:=y) (cap:=cap) (peak:=peak) (bufs:=[]) (j:=pz.j) hT hok hl hx hy (by omega) (by omega) h20 ⟨htw1,htw2⟩ hxw2 hyw2 hdis hper (by omega) (by decide) (by rw[bZY];omega) hjs).use hs [0,1,2,3,4] rfl rfl ?_;rintro v _ H ⟨M0,hq,rfl⟩ hs;have hpk2:mx peak (ZG []+((2^j*2^pz.j.eb:Nat):Int)+((2^pz.j.eb:Nat):Int)+(D.per d:Int))≤cap:=iZJ hpk (by rw[bZY];omega);have hap:pz.ap (pws d x 0 x.w)=cZE pz.j d x (2^pz.j.ea):=by unfold Pz.ap;rw[if_neg (by rw[ht];simp),qZN,hxw2]
  rcases hq with⟨d',hI,rfl,rfl⟩|⟨d',hD,hfu,rfl,rfl⟩
  ·simp only[HV];refine⟨_,⟨_,hpk2,_,_,.inr ⟨ht,j,hj,rfl,rfl⟩,.inl ⟨d',hI.pg,?_,by rw[hap],rfl⟩⟩,hs.re [0,1,2,3,4] rfl⟩;rw[hap];have hlen:=jZr pz.j d x (2^pz.j.ea);rw[hyw2,←hlen];have hdv:2^pz.j.ea/2^j*2^j=2^pz.j.ea:=(div_pow hj.le).symm;have key:=pZC (d:=d') (x:=y) (n:=(cZE pz.j d x (2^pz.j.ea)).length) (f:=fun k=>((cZE pz.j d x (2^pz.j.ea))[k]?).getD 0) fun k hk=>by
    have:=hI.dst k (by rw[hdv,←hlen];exact hk);rw[hdv]at this;exact this
   rw[key];exact rZ8 _
  ·simp only[HV];exact⟨_,⟨_,hpk2,_,_,.inr ⟨ht,j,hj,rfl,rfl⟩,.inr ⟨d',hD,hfu,rfl,rfl⟩⟩,hs.re [0,1,2,3,4] rfl⟩
end
theorem nZ5 {d:D}{x:X}(hx:On d x):∀ i,inX x i→0≤i∧i<d.sec:=fun i hi=>by
 have:=hx.fit;unfold inX at hi;omega
def doP (dp ap:Nat)(d:D)(c:Cn)(most k:Nat)(pz:Pz)(cap:Nat)(TT:As)(v:Value)(M:List As):Prop:=
 ∃ peak':Int,peak'≤cap∧∃ r w,eZr (D.per d) cap (exX most (D.per d) pz.f k).f (exX most (D.per d) pz.o k).f pz r w∧
  ((∃ d' c',bZB d d' (nS (D.per d) (2^k)+r) w 1∧Clean d' c'∧Sam (inX (exX most (D.per d) pz.o k)) c c'∧cws c' (D.per d) (exX most (D.per d) pz.o k).f (2^k)=pz.ap (cws c (D.per d) (exX most (D.per d) pz.f k).f (2^k))∧
    v= .tuple #[.int .u32 (eZC (pz.ap (cws c (D.per d) (exX most (D.per d) pz.f k).f (2^k))):Int),.int .i64 0]∧M=[Dk dp d',Ar ap cap peak' [],TT])∨
  (∃ d',Cut d d' (nS (D.per d) (2^k)+r+w+1)∧Left d' (fun c'=>Sam (inX (exX most (D.per d) pz.o k)) c c')∧v= .tuple #[.int .u32 0,.int .i64 8]∧M=[Dk dp d',Ar ap cap peak' [],TT]))
theorem wZK {dp ap:Nat}{d:D}{c:Cn}{most k:Nat}{pz:Pz}{cap:Nat}{peak:Int}{TT:As}(hT:∀ H,TT H→T64 H)(hc:Clean d c)(hl:hZS d most)(hk:k≤most)(ho:d.rd≤100000000000∧d.wr≤100000000000∧d.sy≤100000000000)
  (hcap:cap≤16777216) (hpk:peak≤cap) (hz:iZ1 pz k (D.per d) cap):
  Tr prog 61 #[.pointer (some ⟨dp,0,none⟩),.pointer (some ⟨ap,0,none⟩),.agg (Lay.bZk most (D.per d)),.int .i64 (k:Int),.agg pz.c,.int .u32 (eZC (cws c (D.per d) (exX most (D.per d) pz.f k).f (2^k)):Int)]
   [Dk dp d,Ar ap cap peak [],TT] (doP dp ap d c most k pz cap TT):=fun H hs=>by
 have hok:=hc.ok;have hp:=Ok.per_le hok;have hm:=hl.m;have hx:=hl.on hok hz.f hk;have hy:=hl.on hok hz.o hk;have hcp:D.per d≤cap:=by
  cases ht:pz.t with
  |true=>have:=hz.tn ht;have:=Nat.two_pow_pos pz.j.ea;omega
  |false=>have:=hz.rw ht;have:=Nat.two_pow_pos pz.j.eb;omega
 apply cZd.ok;unfold cZd;refine hs.nw fun b1 H hs=>?_
 refine hs.nw fun b2 H hs=>?_
 refine hs.ldw 3 rfl rfl ?_;refine hs.ldw 4 rfl rfl ?_;rw[Array.toArray_toList,Array.toArray_toList];refine(uZU (dp:=dp) (ap:=ap) hok hl hz.f hz.o hk).use hs [0] rfl rfl ?_;rintro _ _ H ⟨p,q,rfl,rfl⟩ hs;simp only[HV];refine Zq rfl ?_;have hs:Sep [Dk dp d,pts p (ZI dp ap (exX most (D.per d) pz.f k)),pts q (ZI dp ap (exX most (D.per d) pz.o k)),Ar ap cap peak [],TT,pts b1 (.obj (.cells (Lay.bZk most (D.per d)) 90)),pts b2 (.obj (.cells pz.c 126))] H:=hs;have j6:cZd.j6 (fun v H'=>∃ M,doP dp ap d c most k pz cap TT v M∧Sep M H') (some ⟨dp,0,none⟩) (some ⟨ap,0,none⟩) (eZC (cws c (D.per d) (exX most (D.per d) pz.f k).f (2^k)):Int) ⟨b1,0,none⟩ ⟨b2,0,none⟩ (some ⟨p,0,none⟩) (some ⟨q,0,none⟩) H:=by
  have hwx:(exX most (D.per d) pz.f k).w=2^k:=rfl;have hwy:(exX most (D.per d) pz.o k).w=2^k:=rfl;have hxy:=rZr (most:=most) (per:=D.per d) hk hz.fo;have hcost:∃ r w,eZr (D.per d) cap (exX most (D.per d) pz.f k).f (exX most (D.per d) pz.o k).f pz r w:=by
   have hkk:=hz.k;cases ht:pz.t with
   |true=>
    have htn:=hz.tn ht;obtain⟨j,_,hj⟩:=cZc.ex (ea:=pz.j.ea) (eb:=pz.j.eb) (per:=(D.per d:Int)) (free:=(cap:Int)) (by omega) (by omega);exact⟨_,_,.inl ⟨ht,j,hj,rfl,rfl⟩⟩
   |false=>
    obtain⟨_,_,_,hcp⟩:=hz.rw ht;obtain⟨j,hj⟩:=dZc.ex (ea:=pz.j.ea) ((Nat.le_div_iff_mul_le (Nat.two_pow_pos pz.j.eb)).2 (by omega):2≤(cap-D.per d)/2^pz.j.eb);exact⟨_,_,.inr ⟨ht,j,hj,rfl,rfl⟩⟩
  generalize hX:exX most (D.per d) pz.f k=x at*;generalize hY:exX most (D.per d) pz.o k=y at*;unfold cZd.j6;refine(lZU (p:=p) (dp:=dp) (ap:=ap) (x:=x) (cap:=cap) (peak:=peak) (bufs:=[]) hok hc.down hx (by omega) (by rw[bZY];omega)).use hs [1,0,3] rfl rfl ?_;have hw0:=gZo hc.now x (2^k);have hpk1:mx peak (ZG []+(D.per d:Int))≤cap:=iZJ hpk (by rw[bZY];omega);rintro _ _ H (⟨hf,rfl,rfl⟩|⟨j,hj,hf,rfl,rfl⟩) hs
  ·have hsum:((Go.Crc.sum (form (pws d x 0 x.w))).toNat:Int)=(eZC (cws c (D.per d) x.f (2^k)):Int):=by rw[hwx,hw0];rfl
   rw[hsum];simp only[HV];refine Zq rfl (Zq rfl ?_);rw[hwx]at hs hf;generalize hN:nS (D.per d) (2^k)=N at hs hf;have hcN:=hc.rdG N;have hwN:=bZB.rdG hf;have hs:Sep [pts p (ZI dp ap x),Dk dp (D.rdG d N),Ar ap cap (mx peak (ZG []+(D.per d:Int))) [],pts q (ZI dp ap y),TT,pts b1 (.obj (.cells (Lay.bZk most (D.per d)) 90)),pts b2 (.obj (.cells pz.c 126))] H:=hs;refine hs.ldw 6 rfl rfl ?_;rw[Array.toArray_toList]
   try simp only[HS]
   refine hs.ld 5 (v:=.int .i64 (D.per d:Int)) rfl rfl ?_;simp only[HV];have hwr:(D.rdG d N).wr=d.wr:=rfl;have hrd:(D.rdG d N).rd=d.rd+N:=rfl;have hNs:N≤4294967296:=by
    rw[← hN];have h2k:=cZt (k:=k) (by omega);unfold nS;exact Nat.le_trans (Nat.div_le_of_le_mul (by
     have:2^k+D.per d-1≤2^k*D.per d:=by
      have h1:=Nat.two_pow_pos k;obtain⟨a,ha⟩:∃ a,2^k=a+1:=⟨2^k-1,by omega⟩;obtain⟨b,hb⟩:∃ b,D.per d=b+1:=⟨D.per d-1,by omega⟩;rw[ha,hb,Nat.mul_add,Nat.add_mul];omega
     rw[Nat.mul_comm];exact this)) h2k
   have hpx:pws (D.rdG d N) x 0 x.w=cws c (D.per d) x.f (2^k):=by rw[hwx];exact gZo hcN.now x (2^k)
   refine(wZx (p:=p) (q:=q) (dp:=dp) (ap:=ap) (x:=x) (y:=y) (cap:=cap) (peak:=mx peak (ZG []+(D.per d:Int))) (TT:=TT) (k:=k) (pz:=pz) (d:=D.rdG d N) hT hcN.ok hcN.down ⟨hx.w1,hx.s1,hx.fit,hx.room⟩ ⟨hy.w1,hy.s1,hy.fit,hy.room⟩ (by omega) (by omega) hwx hwy hxy hl.p hcap hpk1 hz).use hs [0,3,1,2,4] rfl rfl ?_;rintro v M H ⟨peak',hpk',r,w,hcost',hq⟩ hs;rw[hpx]at hq;rcases hq with⟨d',hP,hw',rfl,rfl⟩|⟨d',hD,hfu,rfl,rfl⟩
   ·have h2:=hP.sy;simp only[HV];refine Zq rfl ?_;refine(hZp (p:=dp) (d:=d') hP.ok (by rw[h2];show d.sy≤_;omega)).use hs [2] rfl rfl ?_;rintro _ _ H ⟨rfl,rfl⟩ hs;rcases hcN.sync hP (nZ5 (d:=D.rdG d N) ⟨hy.w1,hy.s1,hy.fit,hy.room⟩)with⟨e,hw2,hc2⟩|⟨e,hcut,hleft⟩
    ·rw[e];simp only[HV];refine Zq rfl ?_;have hgo:=hwN.trans hw2;have hsam:Sam (inX y) c d'.now:=fun i hi=>(hcN.prog hP i).2 hi
     refine⟨_,⟨peak',hpk',r,w,by rw[hX,hY];exact hcost',.inl ⟨_,_,by rw[hN];simpa using hgo,hc2,by rw[hY];exact hsam,?_,by rw[hX];rfl,rfl⟩⟩,hs.re [0,3,4] rfl⟩;rw[hX,hY,←hw',hwy];have e2:D.per d'=D.per d:=hP.per;rw[← e2];exact(gZo (fun _=>rfl) y (2^k)).symm
    ·rw[e];simp only[HV];refine ZC (by decide) ?_;have hgo:=hwN.cut hcut;exact⟨_,⟨peak',hpk',r,w,by rw[hX,hY];exact hcost',.inr ⟨_,by rw[hN];exact hgo.more (by omega),by rw[hY];exact hleft.mono fun _ h=>h.2,rfl,rfl⟩⟩,hs.re [0,3,4] rfl⟩
   ·simp only[HV];refine ZC (by decide) ?_;have hf1:1≤(D.rdG d N).fuse:=by have h1:=hD.cnt;have h2:=hD.rd;have h3:=hD.wr;omega
    have hcut:=hcN.deadCut hD (nZ5 (d:=D.rdG d N) ⟨hy.w1,hy.s1,hy.fit,hy.room⟩) hfu hf1;have hgo:=hwN.cut hcut;exact⟨_,⟨peak',hpk',r,w,by rw[hX,hY];exact hcost',.inr ⟨_,by rw[hN];exact hgo.more (by omega),by rw[hY];exact hcN.deadLeft hD,rfl,rfl⟩⟩,hs.re [2,3,4] rfl⟩
  ·simp only[HV];refine ZC (by decide) ?_;obtain⟨r,w,hcost⟩:=hcost;rw[hwx]at hj;have hcut:=Cut.rdG hc hf hj;refine⟨_,⟨_,hpk1,r,w,by rw[hX,hY];exact hcost,.inr ⟨_,hcut.more (by omega),?_,rfl,rfl⟩⟩,hs.re [1,2,4] rfl⟩;exact(Left.rdG hc j).mono fun c' e=>by rw[e];exact fun _ _=>rfl
 refine hs.ldf 6 (v:=.int .i64 (if pz.t=true then 1 else 2)) rfl rfl ?_;simp only[HV];cases ht:pz.t with
 |true=>exact Zq rfl j6
 |false=>
  refine ZC (by decide) ?_;refine hs.ldf 6 (v:=.int .i64 (if pz.t=true then 1 else 2)) rfl rfl ?_;rw[ht];simp only[HV];exact Zq rfl j6
end Eng
namespace W
open Go Go.Hw
theorem fZw :prog.follows .mixedOrders=true:=by kernel_rfl
def cZX (x1 x2:Int)(H:Hp)(K:VK):Prop:=
 ((2:Int)≠0∧i64=i64∧HcI 38 #[.int .i64 (i64.wrap (Int.tdiv (i64.wrap (x1+1)) 2))] H fun x3 H1=>K (.int .i64 (i64.wrap ((i64.wrap (2*x3))+x2))) H1)
theorem cZX.ok x1 x2 H K (h:cZX x1 x2 H K):Za prog 9 #[.int .i64 x1,.int .i64 x2] H K:=
 okN fZw Tryz.func9 rfl rfl h
def ZU.l3 (K:VK):Nat→Int→Int→Int→Hp→Prop
 |0,_,_,_,_=>False
 |k+1,x2,x3,x4,H=>
  let R3:=ZU.l3 K k
  BIf (decide (x4<x2)) (R3 x2 (i64.wrap (2*x3)) (i64.wrap (x4+1)) H) (K (.int .i64 x3) H)
def ZU (x1:Int)(H:Hp)(K:VK):Prop:=
 (∃ k,ZU.l3 K k x1 1 0 H)
def ZU.l3.L (K:VK)(k:Nat):Mid:=fun E D H=>
 eI E 0 .i64 fun x2=>eI E 3 .i64 fun x3=>eI E 4 .i64 fun x4=>Zk D (ZU.l3 K k x2 x3 x4 H)
def ZU.Λ3 (_:VK)(_R3:Int→Int→Int→Hp→Prop):Zu:=Zu.none (fun _=>none)
def ZU.Λ (K:VK):Zu:=⟨fun i=>none,fun i=>match Nat.beq i 3 with|true=>some (fun E D H=>∃ k,ZU.l3.L K k E D H)|false=>none,(fun _=>none)⟩
theorem ZU.ok x1 H K (h:ZU x1 H K):Za prog 38 #[.int .i64 x1] H K:=
 okL (Λ:=(ZU.Λ K)) fZw Tryz.func38 rfl rfl h (oC (fun E D H h=>by
   refine Safe.loop' (ZU.l3.L K) (fun E D H h=>?_) (fun k E D H h=>?_) E D H h
   ·obtain⟨w0,e0,g1⟩:=DG.out h;obtain⟨x2,rfl,g2⟩:=DI.out g1;obtain⟨w3,e3,g3⟩:=DG.out g2;obtain⟨x3,rfl,g4⟩:=DI.out g3;obtain⟨w4,e4,g5⟩:=DG.out g4;obtain⟨x4,rfl,g6⟩:=DI.out g5;obtain⟨rfl,h'⟩:=Zk.out g6;exact h'
   ·obtain⟨x2,e0,g2⟩:=GI h;obtain⟨x3,e3,g4⟩:=GI g2;obtain⟨x4,e4,g6⟩:=GI g4;obtain⟨rfl,h'⟩:=Zk.out g6;exact okJ (Λ:=(ZU.Λ3 K (ZU.l3 K k))) fZw [] (Zb.cons e0 (Zb.cons e3 (Zb.cons e4 (Zb.nil _)))) h' oN) oN)
end W
namespace Eng
open Go Go.Hw Go.Form W Shp Dsk Str Are Trn Pas Pln
theorem lZA (H:Hp)(k:Nat)(hk:k≤40):∀(t i:Nat),i+t=k→ZU.l3 (RetE (.int .i64 ((2^k:Nat):Int)) H) (t+1) (k:Int) ((2^i:Nat):Int) (i:Int) H
 |0,i,h=>by
  unfold ZU.l3;obtain rfl:i=k:=by omega
  exact Zh (by omega) (RetE.mk _ _)
 |t+1,i,h=>by
  unfold ZU.l3;refine Zm (by omega) ?_;have h2:2^i≤2^40:=Nat.pow_le_pow_right (by omega) (by omega);have h0:=Int.natCast_nonneg (2^i);have e:i64.wrap ((2:Int)*((2^i:Nat):Int))=((2^(i+1):Nat):Int):=by
   rw[ZL (by omega) (by omega),Nat.pow_succ];omega
  rw[e,ZL (x:=(i:Int)+1) (by omega) (by omega)];exact lZA H k hk t (i+1) (by omega)
theorem tZy (k:Nat)(hk:k≤40)(H:Hp):Za prog 38 #[.int .i64 (k:Int)] H (RetE (.int .i64 ((2^k:Nat):Int)) H):=by
 apply ZU.ok;unfold ZU;exact⟨k+1,lZA H k hk k 0 (by omega)⟩
theorem rZ6 (k per:Nat)(hk:k≤32)(hp:per≤512)(H:Hp):Za prog 9 #[.int .i64 (k:Int),.int .i64 (per:Int)] H (RetE (.int .i64 (aZC k per:Int)) H):=by
 have h1:=cZt (k:=(k+1)/2) (by omega);have h0:=Int.natCast_nonneg (2^((k+1)/2));apply cZX.ok;unfold cZX;rw[ZL (x:=(k:Int)+1) (by omega) (by omega),show Int.tdiv ((k:Int)+1) 2=(((k+1)/2:Nat):Int)from rfl,aZu (by omega)];refine⟨by decide,by simp,?_⟩;refine Za.use (tZy ((k+1)/2) (by omega) H) ?_;simp only[HV];rw[ZL (x:=(2:Int)*_) (by omega) (by omega),ZL (by omega) (by omega)];exact RetE.of (by unfold aZC;rw[Int.natCast_add];rfl)
theorem gZ1 {k:Nat}(h:k≤6):2^k≤64:=Nat.pow_le_pow_right (n:=2) (by omega) h
theorem iZM {d:Bool}{k per words:Nat}(hk:k≤32)(hw:aZC k per≤words):∀ p∈aZA d k per words,iZ1 p k per words:=by
 intro p hp;unfold aZA at hp;unfold aZC at hw;split at hp
 ·rename_i hb
  have hb:=of_decide_eq_true hb;rw[List.mem_singleton.1 hp];exact⟨by show 0<4;omega,by show 3<4;omega,by show(0:Nat)≠3;omega,by show 0+k=k;omega,fun h=>(by cases h),fun _=>⟨hb.1,by show(-1:Int)≤-1;omega,by show(-1:Int)≤32;omega,by show per+2*2^k≤_;omega⟩⟩
 ·have ha:k-k/2=(k+1)/2:=by omega
  have h1:2^(k/2)≤2^((k+1)/2):=Nat.pow_le_pow_right (by omega) (by omega);have hz:∀(ea eb f o:Nat) (t d:Bool) (tw:Int) (sh:UInt64),f<4→o<4→f≠o→ea+eb=k→ea≤(k+1)/2→eb≤(k+1)/2→-1≤tw→tw≤32→iZ1 ⟨t,⟨ea,eb,d,tw,sh⟩,f,o⟩ k per words:=fun ea eb f o t d tw sh h1 h2 h3 h4 h5 h6 h7 h8=>by
   have q1:2^ea≤2^((k+1)/2):=Nat.pow_le_pow_right (by omega) h5;have q2:2^eb≤2^((k+1)/2):=Nat.pow_le_pow_right (by omega) h6;exact⟨h1,h2,h3,h4,fun _=>by show 2^ea+per≤words;omega,fun _=>⟨by show eb≤20;omega,h7,h8,by show per+2*2^eb≤words;omega⟩⟩
  unfold jZO at hp;simp only[List.mem_cons,List.not_mem_nil,or_false]at hp;rcases hp with e|e|e|e|e<;>rw[e]<;>exact hz _ _ _ _ _ _ _ _ (by omega) (by omega) (by omega) (by omega) (by omega) (by omega) (by omega) (by omega)
theorem lZc (a b:Nat):a/b*b≤a:=Nat.div_mul_le_self a b
theorem hZw {per cap f o k:Nat}{pz:Pz}{r w:Nat}(h:eZr per cap f o pz r w)(hk:pz.j.ea+pz.j.eb=k):r≤2*2^k∧w≤2^k:=by
 have hpow:2^pz.j.ea*2^pz.j.eb=2^k:=by rw[← Nat.pow_add,hk]
 rcases h with⟨_,j,hj,rfl,rfl⟩|⟨_,j,hj,rfl,rfl⟩
 ·have h1:=qZt per f o (2^pz.j.ea) (2^pz.j.eb) (2^j) (2^pz.j.eb/2^j);have h2:=qZM per o (2^pz.j.ea) (2^j) (2^pz.j.eb/2^j);have h3:2^pz.j.eb/2^j*(2^j*2^pz.j.ea)≤2^k:=by
   rw[← Nat.mul_assoc,←hpow,Nat.mul_comm (2^pz.j.ea)];exact Nat.mul_le_mul_right _ (lZc _ _)
  have h4:2^pz.j.eb/2^j*(2*(2^j*2^pz.j.ea))=2*(2^pz.j.eb/2^j*(2^j*2^pz.j.ea)):=by rw[Nat.mul_left_comm]
  exact⟨by omega,by omega⟩
 ·have h1:=qZs per f o (2^j*2^pz.j.eb) (2^pz.j.ea/2^j);have h2:=qZL per o (2^j*2^pz.j.eb) (2^pz.j.ea/2^j);have h3:2^pz.j.ea/2^j*(2^j*2^pz.j.eb)≤2^k:=by
   rw[← Nat.mul_assoc,←hpow];exact Nat.mul_le_mul_right _ (lZc _ _)
  have h4:2^pz.j.ea/2^j*(2*(2^j*2^pz.j.eb))=2*(2^pz.j.ea/2^j*(2^j*2^pz.j.eb)):=by rw[Nat.mul_left_comm]
  exact⟨by omega,by omega⟩
theorem nZv {per w:Nat}(hp:1≤per)(hw:1≤w):nS per w≤w:=by
 unfold nS;refine Nat.div_le_of_le_mul ?_;obtain⟨a,rfl⟩:∃ a,w=a+1:=⟨w-1,by omega⟩;obtain⟨b,rfl⟩:∃ b,per=b+1:=⟨per-1,by omega⟩;rw[Nat.mul_add,Nat.add_mul];omega
theorem vZH (x:X){d:D}(hok:Ok d)(src:List UInt64):pws (dZZ d x src.length 0 src) x 0 src.length=src:=by
 apply List.ext_getElem?;intro i;unfold pws;rw[List.getElem?_map];by_cases h:i<src.length
 ·rw[List.getElem?_range h];show some (pw _ x (0+i))=_
  rw[Nat.zero_add,mZj x hok 0 src i,if_pos ⟨by omega,by omega⟩,Nat.sub_zero,List.getElem?_eq_getElem h];rfl
 ·rw[List.getElem?_eq_none (by rw[List.length_range];omega),List.getElem?_eq_none (by omega)];rfl
theorem lZv {L:List As}{H:Hp}(hs:Sep L H)(i:Nat){b n m:Nat}{xs:List Value}{e:TypeId}{s:Nat}(hi:L[i]? =some (pts b (.row xs e m)))(hx:xs.length=n*s)(hm:m=n*s):Sep (L.set i (Own e s (some ⟨b,0,none⟩) n n xs)) H:=
 hs.turn i hi fun H1 hH=>⟨hx,.inr ⟨b,m,rfl,hH,by first|omega|exact hm|exact hm.symm|exact⟨hm,Nat.le_refl _⟩⟩⟩
end Eng
namespace Eng
open Go Go.Hw Go.Form W Shp Dsk Str Are Trn Ker Fft Pas Pln
end Eng
namespace Trn
open Go Go.Hw Go.Crc Go.Form W Shp Str Dsk Are
theorem rZw (e eb j f m:Nat)(hj:j≤eb):∀ i,gR (2^e) f (2^eb) (m*2^j) (2^j) i=i*m1 (2^j/2^e)
 |0=>by simp[gR]
 |i+1=>by
  rw[hZq,rZw e eb j f m hj i,Nat.succ_mul,(Pas.eZF e j f (i*2^eb+m*2^j) (Nat.dvd_add (Nat.dvd_mul_left_of_dvd (Nat.pow_dvd_pow 2 hj) i) (Nat.dvd_mul_left _ _))).1]
theorem rZ7 (e ea eb j f f':Nat)(hj:j≤eb):∀ m,rT (2^e) f f' (2^ea) (2^eb) (2^j) m=m*(2^ea*m1 (2^j/2^e))+(if 2^j*2^ea<2^e then m else 0)
 |0=>by simp[rT]
 |m+1=>by
  rw[hZs,rZ7 e ea eb j f f' hj m,rZw e eb j f m hj,Nat.succ_mul];have h:=(Pas.eZF e (j+ea) f' (m*2^(j+ea)) (Nat.dvd_mul_left _ _)).2;rw[Nat.mul_assoc,←Nat.pow_add,h];split<;>omega
theorem sZy (e ea j f':Nat):∀ m,wT (2^e) f' (2^ea) (2^j) m=m*m1 (2^j*2^ea/2^e)
 |0=>by simp[wT]
 |m+1=>by
  rw[hZv,sZy e ea j f' m,Nat.succ_mul];have h:=(Pas.eZF e (j+ea) f' (m*2^(j+ea)) (Nat.dvd_mul_left _ _)).1;rw[Nat.mul_assoc,←Nat.pow_add,h]
theorem sZQ {per ea eb j:Nat}(hper:per≤1000){N R W:Nat}(hs1:2^j*2^ea≤1000000)(hR:R+N≤1000000000000){b1 b2 b3:Nat}{H0 H:Hp}(hs:Sep [own H0,pts b1 (.obj (.cells #[.int .i64 ((2^ea:Nat):Int),.int .i64 ((2^eb:Nat):Int)] 122)),pts b2 (opO 0 0),pts b3 (opO R W)] H):
  aZz.j6 (Ret (.tuple #[.agg #[.int .i64 ((R+(if 2^j*2^ea<per then N else 0):Nat):Int),.int .i64 (W:Int),.int .i64 0],.int .i64 0]) H0) (per:Int) ⟨b1,0,none⟩ ⟨b2,0,none⟩ ((2^j:Nat):Int) (N:Int) ⟨b3,0,none⟩ H:=by
 unfold aZz.j6
 first|refine hs.ldf 1 rfl rfl ?_|refine hs.ldg 1 rfl rfl ?_
 try simp only[HV]
 rw[← Int.natCast_mul,aZu (by omega)];by_cases h4:2^j*2^ea<per
 ·rw[if_pos h4];refine Zm (by omega) ?_
  first|refine hs.ldf 3 rfl rfl ?_|refine hs.ldg 3 rfl rfl ?_
  try simp only[HV]
  rw[← Int.natCast_add,aZu (by omega)];refine hs.stf 3 rfl (Nat.lt_of_sub_eq_succ rfl) rfl fun H hs=>?_;refine hs.ldw 3 rfl rfl ?_;refine hs.stw 2 rfl rfl rfl rfl fun H1 hs=>?_
  refine hs.ldw 2 rfl rfl ?_;exact hs.fin 0 rfl _
 ·rw[if_neg h4];refine Zh (by omega) ?_;refine hs.ldw 3 rfl rfl ?_;refine hs.stw 2 rfl rfl rfl rfl fun H1 hs=>?_
  refine hs.ldw 2 rfl rfl ?_;exact hs.fin 0 rfl _
theorem sZP {per ea eb j:Nat}{free:Int}(hpB:bZ9 (per:Int)=true)(hab:ea+eb≤32)(hj:cZc ((2^ea:Nat):Int) ((2^eb:Nat):Int) per free j)(h2:((2^ea:Nat):Int)≤free-per)(hf:free≤1000)(H:Hp)(hT:T64 H):
  Za prog 129 #[.agg #[.int .i64 ((2^ea:Nat):Int),.int .i64 ((2^eb:Nat):Int)],.int .i64 (per:Int),.int .i64 free] H
   (RetE (.tuple #[.agg #[.int .i64 ((2^eb/2^j*(2^ea*m1 (2^j/per))+(if 2^j*2^ea<per then 2^eb/2^j else 0):Nat):Int),.int .i64 ((2^eb/2^j*m1 (2^j*2^ea/per):Nat):Int),.int .i64 0],.int .i64 0]) H):=Za.ret (by
 have hpr:=eZe hpB;have q1:=pow_pos ea;have q3:=pow_pos j;have hjb:=hj.ge;have hfit:=hj.fit;rw[← Int.natCast_mul]at hfit;have hsz:=size_le hab;have hdiv:=div_pow hjb;apply aZz.ok;unfold aZz aZz.q2 aZz.q1;refine(Sep.start H).nw fun b1 H1 hs=>?_
 refine hs.nw fun b2 H1 hs=>?_
 refine hs.ldw 1 rfl rfl ?_;refine Za.use (oZ9 _ _ (per:Int) free ⟨by omega,by omega⟩ (by omega) H1 (hT.le (hs.ow 0 rfl)) (fZD hab) hpB (by omega) h2 hj) ?_;simp only[HV]
 first|refine hs.ldf 1 rfl rfl ?_|refine hs.ldg 1 rfl rfl ?_
 try simp only[HV]
 have hN:2^eb/2^j≤2^eb:=Nat.div_le_self _ _;have hN2:2^eb/2^j*2^ea*2^j≤4294967296:=by
  rw[Nat.mul_right_comm,←hdiv,Nat.mul_comm];exact hsz
 have hN4:2^eb/2^j*(2^j*2^ea)≤4294967296:=by
  rw[Nat.mul_comm (2^j),←Nat.mul_assoc];exact hN2
 have eN:Int.tdiv ((2^eb:Nat):Int) ((2^j:Nat):Int)=((2^eb/2^j:Nat):Int):=rfl;have e4:Int.tdiv ((2^j:Nat):Int) (per:Int)=((2^j/per:Nat):Int):=rfl;have e5:Int.tdiv ((2^j*2^ea:Nat):Int) (per:Int)=((2^j*2^ea/per:Nat):Int):=rfl;have q5:2^eb≤2^32:=aZD (by omega);have q6:2^j≤2^32:=aZD (by omega);have l1:2^eb/2^j*(2^ea*m1 (2^j/per))≤4294967296:=
  Nat.le_trans (by rw[← Nat.mul_assoc];exact Nat.mul_le_mul_left _ (Pas.oZh q3 (by omega))) hN2
 have l2:2^eb/2^j*m1 (2^j*2^ea/per)≤4294967296:=
  Nat.le_trans (Nat.mul_le_mul_left _ (Pas.oZh (Nat.mul_pos q3 q1) (by omega))) hN4
 have l3:2^eb/2^j*2^ea≤4294967296:=Nat.le_trans (Nat.le_mul_of_pos_right _ q3) hN2;have d1:2^j/per≤2^j:=Nat.div_le_self _ _;have d2:2^j*2^ea/per≤2^j*2^ea:=Nat.div_le_self _ _;have eA:i64.wrap (Int.tdiv ((2^eb:Nat):Int) ((2^j:Nat):Int))=((2^eb/2^j:Nat):Int):=by rw[eN,aZu (by omega)]
 have eB:i64.wrap (Int.tdiv ((2^j:Nat):Int) (per:Int))=((2^j/per:Nat):Int):=by rw[e4,aZu (by omega)]
 have eC:i64.wrap (Int.tdiv (i64.wrap (((2^j:Nat):Int)*((2^ea:Nat):Int))) (per:Int))=((2^j*2^ea/per:Nat):Int):=by
  rw[← Int.natCast_mul,aZu (n:=2^j*2^ea) (by omega),e5,aZu (by omega)]
 have eR:i64.wrap (i64.wrap (((2^eb/2^j:Nat):Int)*((2^ea:Nat):Int))*((m1 (2^j/per):Nat):Int))=((2^eb/2^j*(2^ea*m1 (2^j/per)):Nat):Int):=by
  rw[← Int.natCast_mul,aZu (n:=2^eb/2^j*2^ea) (by omega),←Int.natCast_mul,Nat.mul_assoc,aZu (by omega)]
 have eW:i64.wrap (((2^eb/2^j:Nat):Int)*((m1 (2^j*2^ea/per):Nat):Int))=((2^eb/2^j*m1 (2^j*2^ea/per):Nat):Int):=by
  rw[← Int.natCast_mul,aZu (by omega)]
 have leaf:∀{H1 b3} (hs:Sep [own H,pts b1 (.obj (.cells #[.int .i64 ((2^ea:Nat):Int),.int .i64 ((2^eb:Nat):Int)] 122)),pts b2 (opO 0 0),pts b3 (opO 0 0)] H1),
   StA H1 (⟨b3,0,none⟩:Addr) #[.int .i64 ((2^eb/2^j*(2^ea*m1 (2^j/per)):Nat):Int),.int .i64 ((2^eb/2^j*m1 (2^j*2^ea/per):Nat):Int),.int .i64 0] 3 fun H6=>aZz.j6 (Ret (.tuple #[.agg #[.int .i64 ((2^eb/2^j*(2^ea*m1 (2^j/per))+(if 2^j*2^ea<per then 2^eb/2^j else 0):Nat):Int),.int .i64 ((2^eb/2^j*m1 (2^j*2^ea/per):Nat):Int),.int .i64 0],.int .i64 0]) H) (per:Int) ⟨b1,0,none⟩ ⟨b2,0,none⟩ ((2^j:Nat):Int) ((2^eb/2^j:Nat):Int) ⟨b3,0,none⟩ H6:=fun hs=>by
  refine hs.stw 3 rfl rfl rfl rfl fun H1 hs=>?_
  exact sZQ (by omega) (by omega) (by omega) hs
 have z1:((2^j:Nat):Int)≠0:=by omega
 have z4:(per:Int)≠0:=by omega
 refine⟨z1,by simp,z4,by simp,?_,?_,?_⟩
 ·first|refine hs.ldf 1 rfl rfl ?_|refine hs.ldg 1 rfl rfl ?_
  try simp only[HV]
  refine⟨?_,?_⟩
  ·first|refine hs.ldf 1 rfl rfl ?_|refine hs.ldg 1 rfl rfl ?_
   try simp only[HV]
   refine⟨z4,by simp,hs.nw fun b3 H1 hs=>?_⟩;simp only[eA,eB,eC,jZP,eR,eW];exact leaf hs
  ·refine hs.nw fun b3 H1 hs=>?_
   first|refine hs.ldf 1 rfl rfl ?_|refine hs.ldg 1 rfl rfl ?_
   try simp only[HV]
   refine⟨z4,by simp,?_⟩;simp only[eA,eB,eC,jZP,eR,eW];exact leaf hs
 ·first|refine hs.ldf 1 rfl rfl ?_|refine hs.ldg 1 rfl rfl ?_
  try simp only[HV]
  refine⟨z4,by simp,?_,?_⟩
  ·first|refine hs.ldf 1 rfl rfl ?_|refine hs.ldg 1 rfl rfl ?_
   try simp only[HV]
   refine hs.nw fun b3 H1 hs=>?_
   simp only[eA,eB,eC,jZP,eR,eW];exact leaf hs
  ·refine hs.nw fun b3 H1 hs=>?_
   first|refine hs.ldf 1 rfl rfl ?_|refine hs.ldg 1 rfl rfl ?_
   try simp only[HV]
   simp only[eA,eB,eC,jZP,eR,eW];exact leaf hs
 ·refine hs.nw fun b3 H1 hs=>⟨?_,?_⟩
  ·first|refine hs.ldf 1 rfl rfl ?_|refine hs.ldg 1 rfl rfl ?_
   try simp only[HV]
   first|refine hs.ldf 1 rfl rfl ?_|refine hs.ldg 1 rfl rfl ?_
   try simp only[HV]
   refine⟨z4,by simp,?_⟩;simp only[eA,eB,eC,jZP,eR,eW];exact leaf hs
  ·first|refine hs.ldf 1 rfl rfl ?_|refine hs.ldg 1 rfl rfl ?_
   try simp only[HV]
   refine⟨z4,by simp,?_⟩
   first|refine hs.ldf 1 rfl rfl ?_|refine hs.ldg 1 rfl rfl ?_
   try simp only[HV]
   simp only[eA,eB,eC,jZP,eR,eW];exact leaf hs)
end Trn
namespace Eng
open Go Go.Hw Go.Form W Shp Dsk Str Are Trn Pas Pln
theorem eZr.unique {per cap f o:Nat}{pz:Pz}{r w r' w':Nat}(h:eZr per cap f o pz r w)(h':eZr per cap f o pz r' w'):r=r'∧w=w':=by
 rcases h with⟨t,j,hj,rfl,rfl⟩|⟨t,j,hj,rfl,rfl⟩<;>rcases h' with⟨t',j',hj',rfl,rfl⟩|⟨t',j',hj',rfl,rfl⟩
 ·obtain rfl:=hj.unique (by have:=Int.natCast_pos.2 (Nat.two_pow_pos pz.j.ea);omega) hj';exact⟨rfl,rfl⟩
 ·rw[t]at t';cases t'
 ·rw[t]at t';cases t'
 ·obtain rfl:=hj.unique hj';exact⟨rfl,rfl⟩
abbrev O3 :=Nat×Nat×Nat
def ZD (o:O3):List Value:=[.int .i64 (o.1:Int),.int .i64 (o.2.1:Int),.int .i64 (o.2.2:Int)]
def bZF (a o:O3):O3:=(a.1+o.1,a.2.1+o.2.1,a.2.2+o.2.2)
def bZP (l:List O3):O3:=l.foldl bZF (0,0,0)
def smO (B:Nat)(o:O3):Prop:=o.1≤B∧o.2.1≤B∧o.2.2≤B
theorem lZO (H0:Hp){b1:Nat}(A:OA)(n m:Nat)(l:List O3)(hn:l.length=n)(hl:n≤1000)(hB:∀ o∈l,smO 1000000000 o)(hc:cZi 3 H0 A (l.map ZD)):
  ∀(t j:Nat) (a:O3) (H:Hp),j+t=n→smO (1000000000*j) a→(l.drop j).foldl bZF a=bZP l→Sep [own H0,pts b1 (.obj (.cells (ZD a).toArray 39))] H→
   aZM.l2 (Ret (.agg (ZD (bZP l)).toArray) H0) (t+1) ⟨b1,0,none⟩ A n m (n:Int) (j:Int) H
 |0,j,a,H,hj,ha,hs1,hs=>by
  unfold aZM.l2;refine Zh (by omega) ?_;rw[List.drop_eq_nil_of_le (by omega)]at hs1;have e:a=bZP l:=hs1;rw[e]at hs;refine hs.ldw 1 rfl rfl ?_;refine hs.stw 1 (y:=(ZD (bZP l)).toArray) rfl rfl rfl rfl fun H hs=>?_;refine hs.ldw 1 rfl rfl ?_;exact hs.fin 0 rfl _
 |t+1,j,a,H,hj,ha,hs1,hs=>by
  have hjl:j<l.length:=by omega
  have hrow:(l.map ZD)[j]? =some (ZD (l[j]'hjl)):=by rw[List.getElem?_map,List.getElem?_eq_getElem hjl];rfl
  have hBj:=hB _ (List.getElem_mem hjl);rw[List.drop_eq_getElem_cons hjl,List.foldl_cons]at hs1;unfold aZM.l2;refine Zm (by omega) ?_;refine cZi.rdA (hc.le (hs.ow 0 rfl)) hrow rfl rfl (by rw[List.length_map];omega) ?_;generalize l[j]'hjl=o at hBj hs1;obtain⟨o1,o2,o3⟩:=o;obtain⟨a1,a2,a3⟩:=a;obtain⟨q1,q2,q3⟩:=hBj;obtain⟨p1,p2,p3⟩:=ha;simp only at q1 q2 q3 p1 p2 p3;refine hs.nw fun b2 H hs=>?_
  refine hs.stw 2 (y:=(ZD (o1,o2,o3)).toArray) rfl rfl rfl rfl fun H hs=>?_
  try simp only[HS]
  refine hs.ld 1 (v:=.int .i64 (a1:Int)) rfl rfl ?_;simp only[HV];refine hs.ld 2 (v:=.int .i64 (o1:Int)) rfl rfl ?_;simp only[HV];refine hs.ld 1 (v:=.int .i64 (a2:Int)) rfl rfl ?_;simp only[HV];refine hs.ld 2 (v:=.int .i64 (o2:Int)) rfl rfl ?_;simp only[HV];refine hs.ld 1 (v:=.int .i64 (a3:Int)) rfl rfl ?_;simp only[HV];refine hs.ld 2 (v:=.int .i64 (o3:Int)) rfl rfl ?_;simp only[HV];rw[ZL (x:=(a1:Int)+o1) (by omega) (by omega),ZL (x:=(a2:Int)+o2) (by omega) (by omega),ZL (x:=(a3:Int)+o3) (by omega) (by omega),ZL (x:=(j:Int)+1) (by omega) (by omega)];refine hs.stw 1 rfl rfl rfl rfl fun H hs=>?_;refine lZO H0 A n m l hn hl hB hc t (j+1) (bZF (a1,a2,a3) (o1,o2,o3)) H (by omega) ⟨by show a1+o1≤_;omega,by show a2+o2≤_;omega,by show a3+o3≤_;omega⟩ hs1 ?_;have hs:=hs.re [0,1] rfl;exact hs
theorem tZW (A:OA)(n m:Nat)(l:List O3)(hn:l.length=n)(hl:n≤1000)(hB:∀ o∈l,smO 1000000000 o)(H:Hp)(hc:cZi 3 H A (l.map ZD)):
  Za prog 131 #[.slice A n m] H (RetE (.agg (ZD (bZP l)).toArray) H):=by
 apply Za.ret;apply aZM.ok;unfold aZM;refine(Sep.start H).nw fun b1 H1 hs=>⟨n+1,?_⟩
 exact lZO H A n m l hn hl hB hc n 0 (0,0,0) H1 (by omega) ⟨by show 0≤_;omega,by show 0≤_;omega,by show 0≤_;omega⟩ rfl hs
theorem mZx {most k words per:Nat}{pz:Pz}(hp4:bZ9 (per:Int)=true)(hm:most≤32)(hk:k≤most)(hk6:k≤6)(hz:iZ1 pz k per words)(hw:words≤1000)(H:Hp)(hT:T64 H):
  ∃ r w,eZr per words (exX most per pz.f k).f (exX most per pz.o k).f pz r w∧Za prog 86 #[.agg (Lay.bZk most per),.int .i64 (k:Int),.agg pz.c,.int .i64 (words:Int)] H (RetE (.tuple #[.agg (ZD (r+Lay.Zx k per,w,1)).toArray,.int .i64 0]) H):=by
 have hpn:=eZS hp4;obtain⟨q,hq⟩:∃ q,per=2^q:=by
  rcases lZw hp4 with e|e|e|e|e|e|e|e
  ·exact⟨2,e⟩
  ·exact⟨3,e⟩
  ·exact⟨4,e⟩
  ·exact⟨5,e⟩
  ·exact⟨6,e⟩
  ·exact⟨7,e⟩
  ·exact⟨8,e⟩
  ·exact⟨9,e⟩
 have hkk:=hz.k;have hroom:Lay.Zx k per≤64:=by
  have h1:=gZ1 hk6;have h2:(2^k-1)/per≤2^k-1:=Nat.div_le_self _ _;unfold Lay.Zx;omega
 have e1:=fun H=>iZ0 (most:=most) (per:=per) hm hp4 (i:=pz.f) (k:=k) hz.f hk H
 have e2:=fun H=>iZ0 (most:=most) (per:=per) hm hp4 (i:=pz.o) (k:=k) hz.o hk H
 obtain⟨r,w,hc,hb,hcall⟩:∃ r w,eZr per words (exX most per pz.f k).f (exX most per pz.o k).f pz r w∧(r≤1000000∧w≤1000000)∧∀ H,T64 H→Za prog (if pz.t=true then 129 else 130) #[.agg #[.int .i64 ((2^pz.j.ea:Nat):Int),.int .i64 ((2^pz.j.eb:Nat):Int)],.int .i64 (per:Int),.int .i64 (words:Int)] H (RetE (.tuple #[.agg (ZD (r,w,0)).toArray,.int .i64 0]) H):=by
  cases ht:pz.t with
  |true=>
   have htn:=hz.tn ht;obtain⟨j,hje,hj⟩:=cZc.ex (ea:=pz.j.ea) (eb:=pz.j.eb) (per:=per) (free:=(words:Int)) (by omega) (by omega);have hP:eZr per words (exX most per pz.f k).f (exX most per pz.o k).f pz _ _:=.inl ⟨ht,j,hj,rfl,rfl⟩;have hle:=hZw hP hkk;have h6:=gZ1 hk6;refine⟨_,_,hP,by omega,fun H hT=>?_⟩;have er:=Trn.rZ7 q pz.j.ea pz.j.eb j (exX most per pz.f k).f (exX most per pz.o k).f hje (2^pz.j.eb/2^j);have ew:=Trn.sZy q pz.j.ea j (exX most per pz.o k).f (2^pz.j.eb/2^j);rw[← hq]at er ew;rw[if_pos rfl,er,ew];exact Trn.sZP hp4 (by omega) hj (by omega) (by omega) H hT
  |false=>
   obtain⟨h20,h3,h4,h5⟩:=hz.rw ht;obtain⟨j,hj⟩:=dZc.ex (ea:=pz.j.ea) (q:=(words-per)/2^pz.j.eb) ((Nat.le_div_iff_mul_le (Nat.two_pow_pos _)).2 (by omega));have hP:eZr per words (exX most per pz.f k).f (exX most per pz.o k).f pz _ _:=.inr ⟨ht,j,hj,rfl,rfl⟩;have hle:=hZw hP hkk;have h6:=gZ1 hk6;refine⟨_,_,hP,by omega,fun H hT=>?_⟩;rw[if_neg (by decide)];have hcost:=Pas.uZv (ea:=pz.j.ea) (eb:=pz.j.eb) (jb:=j) (per:=per) (free:=(words:Int)) (by omega) (by omega) (by omega) ⟨by rw[fZD (by omega)],by have:=Nat.pow_le_pow_right (n:=2) (by omega) h20;omega,hp4,by omega,by omega⟩ (by rw[show((words:Int)-(per:Int)).toNat=words-per by omega];exact hj) H hT;have er:rP per (exX most per pz.f k).f (exX most per pz.o k).f (2^j*2^pz.j.eb) (2^pz.j.ea/2^j)=cR per (2^j*2^pz.j.eb) (2^pz.j.ea/2^j):=by
    rw[← Nat.pow_add,hq];exact uZh q _ _ _ _
   have ew:wP per (exX most per pz.o k).f (2^j*2^pz.j.eb) (2^pz.j.ea/2^j)=cW per (2^j*2^pz.j.eb) (2^pz.j.ea/2^j):=by
    rw[← Nat.pow_add,hq];exact uZq q _ _ _
   rw[er,ew];exact hcost
 refine⟨r,w,hc,Za.ret ?_⟩;apply aZV.ok;unfold aZV;refine(Sep.start H).nw fun b1 H1 hs=>?_
 refine hs.nw fun b2 H1 hs=>?_
 refine hs.nw fun b3 H1 hs=>?_
 have hs:Sep [own H,pts b1 (.obj (.cells (Lay.bZk most per) 90)),pts b2 (.obj (.cells pz.c 126)),pts b3 (.obj (.cells (ZD (0,0,0)).toArray 39))] H1:=hs;refine hs.ldw 1 rfl rfl ?_
 try simp only[Array.toArray_toList]
 try simp only[HS]
 refine hs.ld 2 (v:=.int .i64 (pz.f:Int)) rfl rfl ?_;simp only[HV];refine Za.use (e1 H1) ?_;simp only[HV];refine hs.nw fun b4 H1 hs=>?_
 refine hs.stw 4 rfl rfl rfl rfl fun H1 hs=>?_
 refine ZT rfl ?_;refine hs.ldw 1 rfl rfl ?_
 try simp only[Array.toArray_toList]
 try simp only[HS]
 refine hs.ld 2 (v:=.int .i64 (pz.o:Int)) rfl rfl ?_;simp only[HV];refine Za.use (e2 H1) ?_;simp only[HV];unfold aZV.j4;refine Zq rfl ?_;refine hs.nw fun b5 H1 hs=>?_
 try simp only[HS]
 refine hs.ld 2 (v:=.int .i64 (if pz.t=true then 1 else 2)) rfl rfl ?_;simp only[HV];have hs:Sep [own H,pts b1 (.obj (.cells (Lay.bZk most per) 90)),pts b2 (.obj (.cells pz.c 126)),pts b3 (.obj (.cells (ZD (0,0,0)).toArray 39)),pts b4 (.obj (.cells #[.int .i64 (((exX most per pz.f k).f:Nat):Int),.int .i64 (((exX most per pz.f k).s:Nat):Int),.int .i64 (((exX most per pz.f k).w:Nat):Int)] 87)),pts b5 (.obj (.cells (ZD (0,0,0)).toArray 39))] H1:=hs;have j13:∀ H1,Sep [own H,pts b1 (.obj (.cells (Lay.bZk most per) 90)),pts b2 (.obj (.cells pz.c 126)),pts b3 (.obj (.cells (ZD (0,0,0)).toArray 39)),pts b4 (.obj (.cells #[.int .i64 (((exX most per pz.f k).f:Nat):Int),.int .i64 (((exX most per pz.f k).s:Nat):Int),.int .i64 (((exX most per pz.f k).w:Nat):Int)] 87)),pts b5 (.obj (.cells (ZD (r,w,0)).toArray 39))] H1→
   aZV.j13 (Ret (.tuple #[.agg (ZD (r+Lay.Zx k per,w,1)).toArray,.int .i64 0]) H) ⟨b3,0,none⟩ ⟨b4,0,none⟩ 0 ⟨b5,0,none⟩ H1:=fun H1 hs=>by
  unfold aZV.j13;refine Zq rfl ?_;refine hs.ldw 5 rfl rfl ?_
  try simp only[HS]
  refine hs.ld 4 (v:=.int .i64 ((Lay.Zx k per:Nat):Int)) rfl rfl ?_;simp only[HV];unfold ZD;simp only[HV];refine hs.nw fun b6 H1 hs=>?_
  have hcell:cZi 3 H1 (some ⟨b6,0,none⟩) ([(r,w,0),(Lay.Zx k per,0,1)].map ZD):=fun i x hi=>by
   have hrow:Cells H1 (some ⟨b6,0,none⟩) [.int .i64 (r:Int),.int .i64 (w:Int),.int .i64 0,.int .i64 ((Lay.Zx k per:Nat):Int),.int .i64 0,.int .i64 1]:=by
    have:=Cells.row (hs.get 6 (b:=b6) rfl) 0 6
    rwa [List.drop_zero,List.take_of_length_le (show 6≤6 by omega)]at this
   have get:∀ q v,([.int .i64 (r:Int),.int .i64 (w:Int),.int .i64 0,.int .i64 ((Lay.Zx k per:Nat):Int),.int .i64 0,.int .i64 1]:List Value)[q]? =some v→H1.cell? ((⟨b6,0,none⟩:Addr).add q)=some v:=fun q v h=>by
    obtain⟨a,ha,hc⟩:=hrow q v h;cases ha;exact hc
   rcases i with _|_|i
   ·cases hi;refine⟨_,rfl,fun j v hj=>?_⟩;rcases j with _|_|_|j
    ·cases hj;exact get 0 _ rfl
    ·cases hj;exact get 1 _ rfl
    ·cases hj;exact get 2 _ rfl
    ·cases hj
   ·cases hi;refine⟨_,rfl,fun j v hj=>?_⟩;rcases j with _|_|_|j
    ·cases hj;exact get 3 _ rfl
    ·cases hj;exact get 4 _ rfl
    ·cases hj;exact get 5 _ rfl
    ·cases hj
   ·cases hi
  refine Za.use (tZW (some ⟨b6,0,none⟩) 2 2 [(r,w,0),(Lay.Zx k per,0,1)] rfl (by omega) (fun o ho=>?_) H1 hcell) ?_
  ·simp only[List.mem_cons,List.not_mem_nil,or_false]at ho;rcases ho with rfl|rfl
   ·exact⟨by show r≤_;omega,by show w≤_;omega,by show 0≤_;omega⟩
   ·exact⟨by show Lay.Zx k per≤_;omega,by show 0≤_;omega,by show 1≤_;omega⟩
  simp only[HV];refine hs.stw 3 rfl rfl rfl rfl fun H1 hs=>?_
  refine hs.ldw 3 rfl rfl ?_;have e:bZP [(r,w,0),(Lay.Zx k per,0,1)]=(r+Lay.Zx k per,w,1):=by
   show(0+r+Lay.Zx k per,0+w+0,0+0+1)=_
   simp
  rw[e];exact hs.fin 0 rfl _
 cases ht:pz.t with
 |true=>
  rw[ht]at hcall;refine ZT rfl ?_
  try simp only[HS]
  refine hs.lda 2 (off:=0) (n:=2) rfl (by show 0+2≤8;omega) ?_
  try simp only[HS]
  refine hs.ld 1 (v:=.int .i64 (per:Int)) rfl rfl ?_;simp only[HV];refine Za.use (hcall H1 (hT.le (hs.ow 0 rfl))) ?_;simp only[HV];refine hs.stw 5 rfl rfl rfl rfl fun H1 hs=>?_
  exact j13 H1 hs
 |false=>
  rw[ht]at hcall;refine aZg (by decide) (ZT rfl ?_)
  try simp only[HS]
  refine hs.lda 2 (off:=0) (n:=2) rfl (by show 0+2≤8;omega) ?_
  try simp only[HS]
  refine hs.ld 1 (v:=.int .i64 (per:Int)) rfl rfl ?_;simp only[HV];refine Za.use (hcall H1 (hT.le (hs.ow 0 rfl))) ?_;simp only[HV];refine hs.stw 5 rfl rfl rfl rfl fun H1 hs=>?_
  exact j13 H1 hs
theorem kZA {s:Nat}:∀(rows:List (List Value)) (i j:Nat) (r:List Value) (v:Value),(∀ r∈rows,r.length=s)→rows[i]? =some r→r[j]? =some v→rows.flatten[i*s+j]? =some v
 | [],i,j,r,v,_,hi,_=>by simp at hi
 |x::rows,0,j,r,v,hl,hi,hj=>by
  have e:x=r:=by simpa using hi
  have hlt:=(List.getElem?_eq_some_iff.1 hj).1;rw[List.flatten_cons,Nat.zero_mul,Nat.zero_add,e,List.getElem?_append_left hlt];exact hj
 |x::rows,i+1,j,r,v,hl,hi,hj=>by
  have hx:=hl x (by simp);rw[List.flatten_cons,List.getElem?_append_right (by rw[hx,Nat.succ_mul];omega),hx,show(i+1)*s+j-s=i*s+j by rw[Nat.succ_mul];omega];exact kZA rows i j r v (fun r hr=>hl r (List.mem_cons_of_mem _ hr)) (by simpa using hi) hj
theorem mZu {s:Nat}(hs:0<s){H:Hp}{A:OA}{rows:List (List Value)}(hl:∀ r∈rows,r.length=s)(hc:Cells H A rows.flatten):cZi s H A rows:=fun i r hi=>by
 have hr:=hl r (List.mem_of_getElem? hi);have h0:r[0]? =some (r[0]'(by omega)):=List.getElem?_eq_getElem (by omega);obtain⟨a,ha,_⟩:=hc _ _ (kZA rows i 0 r _ hl hi h0);refine⟨a,ha,fun j v hj=>?_⟩;obtain⟨a',ha',h⟩:=hc _ _ (kZA rows i j r v hl hi hj);rw[ha]at ha';cases ha';exact h
def tZ5 (most k words:Nat)(ps:List Pz)(cs:List O3):Prop:=cs.length=ps.length∧∀(i:Nat) (pz:Pz) (o:O3),ps[i]? =some pz→cs[i]? =some o→∃ r w,eZr 4 words (exX most 4 pz.f k).f (exX most 4 pz.o k).f pz r w∧o=(r+Lay.Zx k 4,w,1)∧smO 1000000000 o
theorem tZ5.small {most k words:Nat}{ps:List Pz}{cs:List O3}(h:tZ5 most k words ps cs):∀ o∈cs,smO 1000000000 o:=fun o ho=>by
 obtain⟨i,hi,rfl⟩:=List.getElem_of_mem ho;have hp:i<ps.length:=by rw[← h.1];exact hi
 obtain⟨_,_,_,_,hs⟩:=h.2 i _ _ (List.getElem?_eq_getElem hp) (List.getElem?_eq_getElem hi);exact hs
theorem qZq {e:TypeId}{s:Nat}{A:OA}{n m:Nat}{xs:List Value}{H:Hp}(h:Own e s A n m xs H):Cells H A xs:=by
 obtain⟨h1,⟨rfl,rfl,rfl⟩|⟨b,mm,rfl,h4,_⟩⟩:=h
 ·rw[Nat.zero_mul]at h1;rw[List.length_eq_zero_iff.1 h1];exact Cells.nil _ _
 ·have:=Cells.row h4 0 xs.length
  rwa [List.drop_zero,List.take_length]at this
theorem kZu :bZf prog 39=some (3,24,some #[.int .i64 0,.int .i64 0,.int .i64 0]):=by kernel_rfl
section
variable {most k words : Nat} (hm : most ≤ 32) (hk : k ≤ most) (hk6 : k ≤ 6) (hw : words ≤ 1000) {H0 : Hp} (hT : T64 H0)
include hm hk hk6 hw hT
end
end Eng
namespace W
open Go Go.Hw
theorem bZn :prog.follows .mixedOrders=true:=by kernel_rfl
def eZt (x1 x2 x3 x4:Int)(H:Hp)(K:VK):Prop:=
 Nw H (.obj (.cells #[.int .i64 x1,.int .i64 x2,.int .i64 x3,.int .i64 x4] 27)) fun b1 H1=>Nw H1 (.obj (.cells #[.int .i64 0,.int .i64 0,.int .i64 0] 39)) fun b2 H2=>LdA H2 ⟨b1,0,none⟩ 4 fun l1=>Hz 39 #[.agg l1.toArray,.int .i64 0] H2 fun v1 H3=>bZS v1 fun y1 x5=>(Nw H3 (.obj (.cells #[.int .i64 0,.int .i64 0,.int .i64 0,.int .i64 0,.int .i64 0,.int .i64 0,.int .i64 0,.int .i64 0,.int .i64 0,.int .i64 0,.int .i64 0,.int .i64 0,.int .i64 0,.int .i64 0,.int .i64 0,.int .i64 0,.int .i64 0] 90)) fun b3 H4=>StA H4 ⟨b3,0,none⟩ y1 17 fun H5=>BIf (x5 !=0) (StA H5 ⟨b2,0,none⟩ #[.int .i64 0,.int .i64 0,.int .i64 0] 3 fun H6=>LdA H6 ⟨b2,0,none⟩ 3 fun l5=>K (.tuple #[.agg l5.toArray,.int .i64 x5]) H6) (StA H5 ⟨b2,0,none⟩ #[.int .i64 0,.int .i64 10,.int .i64 3] 3 fun H7=>LdA H7 ⟨b2,0,none⟩ 3 fun l6=>K (.tuple #[.agg l6.toArray,.int .i64 0]) H7))
theorem eZt.ok x1 x2 x3 x4 H K (h:eZt x1 x2 x3 x4 H K):Za prog 13 #[.agg #[.int .i64 x1,.int .i64 x2,.int .i64 x3,.int .i64 x4]] H K:=
 okN bZn Tryz.func13 rfl rfl h
def fZb (x1 x2 x3 x4 x5:Int)(H:Hp)(K:VK):Prop:=
 Nw H (.obj (.cells #[.int .i64 x1,.int .i64 x2,.int .i64 x3,.int .i64 x4] 27)) fun b1 H1=>Nw H1 (.obj (.cells #[.int .i64 0,.int .i64 0,.int .i64 0] 39)) fun b2 H2=>LdA H2 ⟨b1,0,none⟩ 4 fun l1=>Hz 51 #[.agg l1.toArray,.int .i64 x5] H2 fun v1 H3=>nZh v1 fun y1 x6 x7=>(Nw H3 (.obj (.cells #[.int .i64 0,.int .i64 0,.int .i64 0,.int .i64 0,.int .i64 0,.int .i64 0,.int .i64 0,.int .i64 0,.int .i64 0,.int .i64 0,.int .i64 0,.int .i64 0,.int .i64 0,.int .i64 0,.int .i64 0,.int .i64 0,.int .i64 0] 90)) fun b3 H4=>StA H4 ⟨b3,0,none⟩ y1 17 fun H5=>BIf (x7 !=0) (StA H5 ⟨b2,0,none⟩ #[.int .i64 0,.int .i64 0,.int .i64 0] 3 fun H6=>LdA H6 ⟨b2,0,none⟩ 3 fun l16=>K (.tuple #[.agg l16.toArray,.int .i64 x7]) H6) (LdA H5 ⟨0,0,none⟩ 3 fun l6=>LdA H5 ⟨0,0,none⟩ 3 fun l7=>dZ1 l6.toArray.toList fun x8 x9 x10=>(dZ1 l7.toArray.toList fun x11 x12 x13=>(Nw H5 (.row [.int .i64 x8,.int .i64 x9,.int .i64 x10,.int .i64 x11,.int .i64 x12,.int .i64 x13,.int .i64 x6,.int .i64 x6,.int .i64 1] 39 9) fun b4 H7=>HcA 24 #[.slice (some ⟨b4,0,none⟩) 3 3] H7 fun y2 H8=>Nw H8 (.obj (.cells #[.int .i64 0,.int .i64 0,.int .i64 0] 39)) fun b5 H9=>StA H9 ⟨b5,0,none⟩ y2 3 fun H10=>(0≤(u64.wrap x5)∧LeI H10 ((⟨b3,0,none⟩:Addr).add 1) fun x14=>BIf (decide ((aZB .i64 1 (u64.wrap x5))<x14)) (LeI H10 ((⟨b5,0,none⟩:Addr).add 0) fun x15=>St H10 (((⟨b5,0,none⟩:Addr).add 0).add 0) (.int .i64 (i64.wrap (x15+1))) fun H11=>LdA H11 ⟨b5,0,none⟩ 3 fun l14=>StA H11 ⟨b2,0,none⟩ l14.toArray 3 fun H12=>LdA H12 ⟨b2,0,none⟩ 3 fun l17=>K (.tuple #[.agg l17.toArray,.int .i64 0]) H12) (LdA H10 ⟨b5,0,none⟩ 3 fun l15=>StA H10 ⟨b2,0,none⟩ l15.toArray 3 fun H13=>LdA H13 ⟨b2,0,none⟩ 3 fun l18=>K (.tuple #[.agg l18.toArray,.int .i64 0]) H13))))))
theorem fZb.ok x1 x2 x3 x4 x5 H K (h:fZb x1 x2 x3 x4 x5 H K):Za prog 16 #[.agg #[.int .i64 x1,.int .i64 x2,.int .i64 x3,.int .i64 x4],.int .i64 x5] H K:=
 okN bZn Tryz.func16 rfl rfl h
def eZu (x1 x2 x3 x4 x5:Int)(H:Hp)(K:VK):Prop:=
 Nw H (.obj (.cells #[.int .i64 x1,.int .i64 x2,.int .i64 x3,.int .i64 x4] 27)) fun b1 H1=>Nw H1 (.obj (.cells #[.int .i64 0,.int .i64 0,.int .i64 0] 39)) fun b2 H2=>LdA H2 ⟨b1,0,none⟩ 4 fun l1=>Hz 39 #[.agg l1.toArray,.int .i64 x5] H2 fun v1 H3=>bZS v1 fun y1 x6=>(Nw H3 (.obj (.cells #[.int .i64 0,.int .i64 0,.int .i64 0,.int .i64 0,.int .i64 0,.int .i64 0,.int .i64 0,.int .i64 0,.int .i64 0,.int .i64 0,.int .i64 0,.int .i64 0,.int .i64 0,.int .i64 0,.int .i64 0,.int .i64 0,.int .i64 0] 90)) fun b3 H4=>StA H4 ⟨b3,0,none⟩ y1 17 fun H5=>BIf (x6 !=0) (StA H5 ⟨b2,0,none⟩ #[.int .i64 0,.int .i64 0,.int .i64 0] 3 fun H6=>LdA H6 ⟨b2,0,none⟩ 3 fun l6=>K (.tuple #[.agg l6.toArray,.int .i64 x6]) H6) (LdA H5 ⟨0,0,none⟩ 3 fun l5=>StA H5 ⟨b2,0,none⟩ l5.toArray 3 fun H7=>LdA H7 ⟨b2,0,none⟩ 3 fun l7=>K (.tuple #[.agg l7.toArray,.int .i64 0]) H7))
theorem eZu.ok x1 x2 x3 x4 x5 H K (h:eZu x1 x2 x3 x4 x5 H K):Za prog 19 #[.agg #[.int .i64 x1,.int .i64 x2,.int .i64 x3,.int .i64 x4],.int .i64 x5] H K:=
 okN bZn Tryz.func19 rfl rfl h
def cZq.q1 (H3:Hp)(b2:Nat)(K:VK):Prop:=
 StA H3 ⟨b2,0,none⟩ #[.int .i64 0,.int .i64 0,.int .i64 0] 3 fun H5=>LdA H5 ⟨b2,0,none⟩ 3 fun l7=>K (.tuple #[.agg l7.toArray,.int .i64 1]) H5
def cZq (x1 x2 x3 x4 x5 x6 x7:Int)(H:Hp)(K:VK):Prop:=
 Nw H (.obj (.cells #[.int .i64 x1,.int .i64 x2,.int .i64 x3,.int .i64 x4] 27)) fun b1 H1=>Nw H1 (.obj (.cells #[.int .i64 0,.int .i64 0,.int .i64 0] 39)) fun b2 H2=>LdA H2 ⟨b1,0,none⟩ 4 fun l1=>Hz 60 #[.agg l1.toArray,.int .i64 x5,.int .i64 x6] H2 fun v1 H3=>dZD v1 fun A1 n1 m1 x8=>(BIf (x8 !=0) (StA H3 ⟨b2,0,none⟩ #[.int .i64 0,.int .i64 0,.int .i64 0] 3 fun H4=>LdA H4 ⟨b2,0,none⟩ 3 fun l6=>K (.tuple #[.agg l6.toArray,.int .i64 x8]) H4) (BIf (decide (x7<1)) (cZq.q1 H3 b2 K) (BIf (decide (x7>(n1:Int))) (cZq.q1 H3 b2 K) (ixI (i64.wrap (x7-1)) n1 (NN A1 fun a1=>LdA H3 (a1.add ((i64.wrap (x7-1)).toNat*3)) 3 fun l5=>StA H3 ⟨b2,0,none⟩ l5.toArray 3 fun H7=>LdA H7 ⟨b2,0,none⟩ 3 fun l9=>K (.tuple #[.agg l9.toArray,.int .i64 0]) H7)))))
theorem cZq.ok x1 x2 x3 x4 x5 x6 x7 H K (h:cZq x1 x2 x3 x4 x5 x6 x7 H K):Za prog 22 #[.agg #[.int .i64 x1,.int .i64 x2,.int .i64 x3,.int .i64 x4],.int .i64 x5,.int .i64 x6,.int .i64 x7] H K:=
 okN bZn Tryz.func22 rfl rfl h
def aZL.l2 (K:VK):Nat→Addr→OA→Nat→Nat→Int→Int→Hp→Prop
 |0,_,_,_,_,_,_,_=>False
 |k+1,a1,A2,n2,m2,x1,x2,H=>
  let R2:=aZL.l2 K k
  BIf (decide (x2<x1)) (ixI x2 n2 (NN A2 fun a2=>LdA H (a2.add (x2.toNat*3)) 3 fun l1=>Nw H (.obj (.cells #[.int .i64 0,.int .i64 0,.int .i64 0] 39)) fun b2 H2=>StA H2 ⟨b2,0,none⟩ l1.toArray 3 fun H3=>LeI H3 (a1.add 0) fun x3=>LeI H3 ((⟨b2,0,none⟩:Addr).add 0) fun x4=>St H3 ((a1.add 0).add 0) (.int .i64 (i64.wrap (x3+x4))) fun H4=>LeI H4 (a1.add 1) fun x5=>LeI H4 ((⟨b2,0,none⟩:Addr).add 1) fun x6=>St H4 ((a1.add 1).add 0) (.int .i64 (i64.wrap (x5+x6))) fun H5=>LeI H5 (a1.add 2) fun x7=>LeI H5 ((⟨b2,0,none⟩:Addr).add 2) fun x8=>St H5 ((a1.add 2).add 0) (.int .i64 (i64.wrap (x7+x8))) fun H6=>R2 a1 A2 n2 m2 x1 (i64.wrap (x2+1)) H6)) (LdA H a1 3 fun l2=>StA H a1 l2.toArray 3 fun H7=>LdA H7 a1 3 fun l3=>K (.agg l3.toArray) H7)
def aZL (A1:OA)(n1 m1:Nat)(H:Hp)(K:VK):Prop:=
 Nw H (.obj (.cells #[.int .i64 0,.int .i64 0,.int .i64 0] 39)) fun b1 H1=>(∃ k,aZL.l2 K k ⟨b1,0,none⟩ A1 n1 m1 (n1:Int) 0 H1)
def aZL.l2.L (K:VK)(k:Nat):Mid:=fun E D H=>
 eN E 2 fun a1=>DG (E.get? 5) fun w5=>DSl w5 fun A2 n2 m2=>eI E 6 .i64 fun x1=>eI E 7 .i64 fun x2=>Zk D (aZL.l2 K k a1 A2 n2 m2 x1 x2 H)
def aZL.Λ2 (_:VK)(_R2:Addr→OA→Nat→Nat→Int→Int→Hp→Prop):Zu:=Zu.none (fun _=>none)
def aZL.Λ (K:VK):Zu:=⟨fun i=>none,fun i=>match Nat.beq i 2 with|true=>some (fun E D H=>∃ k,aZL.l2.L K k E D H)|false=>none,(fun _=>none)⟩
theorem aZL.ok A1 n1 m1 H K (h:aZL A1 n1 m1 H K):Za prog 24 #[.slice A1 n1 m1] H K:=
 okL (Λ:=(aZL.Λ K)) bZn Tryz.func24 rfl rfl h (oC (fun E D H h=>by
   refine Safe.loop' (aZL.l2.L K) (fun E D H h=>?_) (fun k E D H h=>?_) E D H h
   ·obtain⟨w2,e2,g1⟩:=DG.out h;obtain⟨pw2,rfl,g2⟩:=DP.out g1;obtain⟨a1,rfl,g3⟩:=NN.out g2;obtain⟨w5,e5,g4⟩:=DG.out g3;obtain⟨A2,n2,m2,rfl,g5⟩:=DSl.out g4;obtain⟨w6,e6,g6⟩:=DG.out g5;obtain⟨x1,rfl,g7⟩:=DI.out g6;obtain⟨w7,e7,g8⟩:=DG.out g7;obtain⟨x2,rfl,g9⟩:=DI.out g8;obtain⟨rfl,h'⟩:=Zk.out g9;exact h'
   ·obtain⟨a1,e2,g3⟩:=GN h;obtain⟨w5,e5,g4⟩:=DG.out g3;obtain⟨A2,n2,m2,rfl,g5⟩:=DSl.out g4;obtain⟨x1,e6,g7⟩:=GI g5;obtain⟨x2,e7,g9⟩:=GI g7;obtain⟨rfl,h'⟩:=Zk.out g9;exact okJ (Λ:=(aZL.Λ2 K (aZL.l2 K k))) bZn [] (Zb.cons e2 (Zb.cons e5 (Zb.cons e6 (Zb.cons e7 (Zb.nil _))))) h' oN) oN)
def fZc (x1 x2 x3 x4 x5:Int)(H:Hp)(K:VK):Prop:=
 Nw H (.obj (.cells #[.int .i64 x1,.int .i64 x2,.int .i64 x3,.int .i64 x4] 27)) fun b1 H1=>Nw H1 (.obj (.cells #[.int .i64 0,.int .i64 0,.int .i64 0] 39)) fun b2 H2=>LdA H2 ⟨b1,0,none⟩ 4 fun l1=>Hz 51 #[.agg l1.toArray,.int .i64 x5] H2 fun v1 H3=>nZh v1 fun y1 x6 x7=>(Nw H3 (.obj (.cells #[.int .i64 0,.int .i64 0,.int .i64 0,.int .i64 0,.int .i64 0,.int .i64 0,.int .i64 0,.int .i64 0,.int .i64 0,.int .i64 0,.int .i64 0,.int .i64 0,.int .i64 0,.int .i64 0,.int .i64 0,.int .i64 0,.int .i64 0] 90)) fun b3 H4=>StA H4 ⟨b3,0,none⟩ y1 17 fun H5=>BIf (x7 !=0) (StA H5 ⟨b2,0,none⟩ #[.int .i64 0,.int .i64 0,.int .i64 0] 3 fun H6=>LdA H6 ⟨b2,0,none⟩ 3 fun l6=>K (.tuple #[.agg l6.toArray,.int .i64 x7]) H6) (StA H5 ⟨b2,0,none⟩ #[.int .i64 (i64.wrap (2*x6)),.int .i64 0,.int .i64 0] 3 fun H7=>LdA H7 ⟨b2,0,none⟩ 3 fun l7=>K (.tuple #[.agg l7.toArray,.int .i64 0]) H7))
theorem fZc.ok x1 x2 x3 x4 x5 H K (h:fZc x1 x2 x3 x4 x5 H K):Za prog 25 #[.agg #[.int .i64 x1,.int .i64 x2,.int .i64 x3,.int .i64 x4],.int .i64 x5] H K:=
 okN bZn Tryz.func25 rfl rfl h
def dZ3 (x1 x2 x3 x4:Int)(H:Hp)(K:VK):Prop:=
 Nw H (.obj (.cells #[.int .i64 x1,.int .i64 x2,.int .i64 x3,.int .i64 x4] 27)) fun b1 H1=>Nw H1 (.obj (.cells #[.int .i64 0,.int .i64 0,.int .i64 0] 39)) fun b2 H2=>LdA H2 ⟨b1,0,none⟩ 4 fun l1=>Hz 39 #[.agg l1.toArray,.int .i64 0] H2 fun v1 H3=>bZS v1 fun y1 x5=>(Nw H3 (.obj (.cells #[.int .i64 0,.int .i64 0,.int .i64 0,.int .i64 0,.int .i64 0,.int .i64 0,.int .i64 0,.int .i64 0,.int .i64 0,.int .i64 0,.int .i64 0,.int .i64 0,.int .i64 0,.int .i64 0,.int .i64 0,.int .i64 0,.int .i64 0] 90)) fun b3 H4=>StA H4 ⟨b3,0,none⟩ y1 17 fun H5=>BIf (x5 !=0) (StA H5 ⟨b2,0,none⟩ #[.int .i64 0,.int .i64 0,.int .i64 0] 3 fun H6=>LdA H6 ⟨b2,0,none⟩ 3 fun l5=>K (.tuple #[.agg l5.toArray,.int .i64 x5]) H6) (StA H5 ⟨b2,0,none⟩ #[.int .i64 9,.int .i64 0,.int .i64 0] 3 fun H7=>LdA H7 ⟨b2,0,none⟩ 3 fun l6=>K (.tuple #[.agg l6.toArray,.int .i64 0]) H7))
theorem dZ3.ok x1 x2 x3 x4 H K (h:dZ3 x1 x2 x3 x4 H K):Za prog 27 #[.agg #[.int .i64 x1,.int .i64 x2,.int .i64 x3,.int .i64 x4]] H K:=
 okN bZn Tryz.func27 rfl rfl h
def fZK (x1 x2 x3 x4 x5 x6:Int)(H:Hp)(K:VK):Prop:=
 Nw H (.obj (.cells #[.int .i64 x1,.int .i64 x2,.int .i64 x3,.int .i64 x4] 27)) fun b1 H1=>Nw H1 (.obj (.cells #[.int .i64 0,.int .i64 0,.int .i64 0] 39)) fun b2 H2=>LdA H2 ⟨b1,0,none⟩ 4 fun l1=>Hz 60 #[.agg l1.toArray,.int .i64 x5,.int .i64 x6] H2 fun v1 H3=>dZD v1 fun A1 n1 m1 x7=>(BIf (x7 !=0) (StA H3 ⟨b2,0,none⟩ #[.int .i64 0,.int .i64 0,.int .i64 0] 3 fun H4=>LdA H4 ⟨b2,0,none⟩ 3 fun l9=>K (.tuple #[.agg l9.toArray,.int .i64 x7]) H4) (LdA H3 ⟨0,0,none⟩ 3 fun l5=>dZ1 l5.toArray.toList fun x8 x9 x10=>(Nw H3 (.row [.int .i64 x8,.int .i64 x9,.int .i64 x10] 39 3) fun b3 H5=>cZP prog 39 (.slice A1 n1 m1) (.slice (some ⟨b3,0,none⟩) 1 1) H5 fun v7 H6=>DSl v7 fun A2 n2 m2=>HcA 24 #[.slice A2 n2 m2] H6 fun y1 H7=>StA H7 ⟨b2,0,none⟩ y1 3 fun H8=>LdA H8 ⟨b2,0,none⟩ 3 fun l10=>K (.tuple #[.agg l10.toArray,.int .i64 0]) H8)))
theorem fZK.ok x1 x2 x3 x4 x5 x6 H K (h:fZK x1 x2 x3 x4 x5 x6 H K):Za prog 28 #[.agg #[.int .i64 x1,.int .i64 x2,.int .i64 x3,.int .i64 x4],.int .i64 x5,.int .i64 x6] H K:=
 okN bZn Tryz.func28 rfl rfl h
def aZh.l8 (K:VK):Nat→Int→Addr→Addr→OA→Nat→Nat→Addr→OA→Nat→Nat→Int→Int→Hp→Prop
 |0,_,_,_,_,_,_,_,_,_,_,_,_,_=>False
 |k+1,x9,a1,a2,A2,n2,m2,a3,A3,n3,m3,x10,x11,H=>
  let R8:=aZh.l8 K k
  BIf (decide (x11<x10)) (ixI x11 n3 (NN A3 fun a4=>LdA H (a4.add (x11.toNat*3)) 3 fun l5=>Nw H (.obj (.cells #[.int .i64 0,.int .i64 0,.int .i64 0] 39)) fun b4 H8=>StA H8 ⟨b4,0,none⟩ l5.toArray 3 fun H9=>LdA H9 ⟨b4,0,none⟩ 3 fun l6=>QcI 34 #[.agg l6.toArray] H9 fun x12=>LdA H9 a3 3 fun l7=>QcI 34 #[.agg l7.toArray] H9 fun x13=>BIf (decide (x12>x13)) (LdA H9 ⟨b4,0,none⟩ 3 fun l8=>StA H9 a3 l8.toArray 3 fun H10=>R8 x9 a1 a2 A2 n2 m2 a3 A3 n3 m3 x10 (i64.wrap (x11+1)) H10) (R8 x9 a1 a2 A2 n2 m2 a3 A3 n3 m3 x10 (i64.wrap (x11+1)) H9))) (LdA H a1 4 fun l9=>Hz 27 #[.agg l9.toArray] H fun v6 H11=>bZS v6 fun y1 x14=>(Nw H11 (.obj (.cells #[.int .i64 0,.int .i64 0,.int .i64 0] 39)) fun b5 H12=>StA H12 ⟨b5,0,none⟩ y1 3 fun H13=>LdA H13 ⟨0,0,none⟩ 3 fun l13=>LdA H13 a3 3 fun l14=>QcA 63 #[.agg l14.toArray,.int .i64 x9] H13 fun y2=>LdA H13 ⟨b5,0,none⟩ 3 fun l15=>QcA 63 #[.agg l15.toArray,.int .i64 x9] H13 fun y3=>dZ1 l13.toArray.toList fun x15 x16 x17=>(dZ1 y2.toList fun x18 x19 x20=>(dZ1 y3.toList fun x21 x22 x23=>(Nw H13 (.row [.int .i64 x15,.int .i64 x16,.int .i64 x17,.int .i64 x18,.int .i64 x19,.int .i64 x20,.int .i64 x21,.int .i64 x22,.int .i64 x23] 39 9) fun b6 H14=>cZP prog 39 (.slice A2 n2 m2) (.slice (some ⟨b6,0,none⟩) 3 3) H14 fun v20 H15=>DSl v20 fun A4 n4 m4=>HcA 24 #[.slice A4 n4 m4] H15 fun y4 H16=>StA H16 a2 y4 3 fun H17=>LdA H17 a2 3 fun l28=>K (.tuple #[.agg l28.toArray,.int .i64 0]) H17)))))
def aZh.q1 (H3:Hp)(b2:Nat)(K:VK):Prop:=
 StA H3 ⟨b2,0,none⟩ #[.int .i64 0,.int .i64 0,.int .i64 0] 3 fun H5=>LdA H5 ⟨b2,0,none⟩ 3 fun l26=>K (.tuple #[.agg l26.toArray,.int .i64 1]) H5
def aZh (x1 x2 x3 x4 x5 x6 x7:Int)(H:Hp)(K:VK):Prop:=
 Nw H (.obj (.cells #[.int .i64 x1,.int .i64 x2,.int .i64 x3,.int .i64 x4] 27)) fun b1 H1=>Nw H1 (.obj (.cells #[.int .i64 0,.int .i64 0,.int .i64 0] 39)) fun b2 H2=>LdA H2 ⟨b1,0,none⟩ 4 fun l1=>Hz 60 #[.agg l1.toArray,.int .i64 x5,.int .i64 x6] H2 fun v1 H3=>dZD v1 fun A1 n1 m1 x8=>(BIf (x8 !=0) (StA H3 ⟨b2,0,none⟩ #[.int .i64 0,.int .i64 0,.int .i64 0] 3 fun H4=>LdA H4 ⟨b2,0,none⟩ 3 fun l25=>K (.tuple #[.agg l25.toArray,.int .i64 x8]) H4) (BIf (decide (x7<0)) (aZh.q1 H3 b2 K) (BIf (decide (x7>1048576)) (aZh.q1 H3 b2 K) (Nw H3 (.obj (.cells #[.int .i64 0,.int .i64 0,.int .i64 0] 39)) fun b3 H7=>(∃ k,aZh.l8 K k x7 ⟨b1,0,none⟩ ⟨b2,0,none⟩ A1 n1 m1 ⟨b3,0,none⟩ A1 n1 m1 (n1:Int) 0 H7)))))
def aZh.l8.L (K:VK)(k:Nat):Mid:=fun E D H=>
 eI E 3 .i64 fun x9=>eN E 4 fun a1=>eN E 8 fun a2=>DG (E.get? 10) fun w10=>DSl w10 fun A2 n2 m2=>eN E 12 fun a3=>DG (E.get? 37) fun w37=>DSl w37 fun A3 n3 m3=>eI E 38 .i64 fun x10=>eI E 39 .i64 fun x11=>Zk D (aZh.l8 K k x9 a1 a2 A2 n2 m2 a3 A3 n3 m3 x10 x11 H)
def aZh.Λ8 (_:VK)(_R8:Int→Addr→Addr→OA→Nat→Nat→Addr→OA→Nat→Nat→Int→Int→Hp→Prop):Zu:=Zu.none (fun i=>match Nat.beq i 14 with|true=>some ([0],[1,2,3,4,5,6,7],8)|false=>none)
def aZh.Λ (K:VK):Zu:=⟨fun i=>none,fun i=>match Nat.beq i 8 with|true=>some (fun E D H=>∃ k,aZh.l8.L K k E D H)|false=>none,(fun i=>match Nat.beq i 14 with|true=>some ([0],[1,2,3,4,5,6,7],8)|false=>none)⟩
theorem aZh.ok x1 x2 x3 x4 x5 x6 x7 H K (h:aZh x1 x2 x3 x4 x5 x6 x7 H K):Za prog 29 #[.agg #[.int .i64 x1,.int .i64 x2,.int .i64 x3,.int .i64 x4],.int .i64 x5,.int .i64 x6,.int .i64 x7] H K:=
 okL (Λ:=(aZh.Λ K)) bZn Tryz.func29 rfl rfl h (oC (fun E D H h=>by
   refine Safe.loop' (aZh.l8.L K) (fun E D H h=>?_) (fun k E D H h=>?_) E D H h
   ·obtain⟨w3,e3,g1⟩:=DG.out h;obtain⟨x9,rfl,g2⟩:=DI.out g1;obtain⟨w4,e4,g3⟩:=DG.out g2;obtain⟨pw4,rfl,g4⟩:=DP.out g3;obtain⟨a1,rfl,g5⟩:=NN.out g4;obtain⟨w8,e8,g6⟩:=DG.out g5;obtain⟨pw8,rfl,g7⟩:=DP.out g6;obtain⟨a2,rfl,g8⟩:=NN.out g7;obtain⟨w10,e10,g9⟩:=DG.out g8;obtain⟨A2,n2,m2,rfl,g10⟩:=DSl.out g9;obtain⟨w12,e12,g11⟩:=DG.out g10;obtain⟨pw12,rfl,g12⟩:=DP.out g11;obtain⟨a3,rfl,g13⟩:=NN.out g12;obtain⟨w37,e37,g14⟩:=DG.out g13;obtain⟨A3,n3,m3,rfl,g15⟩:=DSl.out g14;obtain⟨w38,e38,g16⟩:=DG.out g15;obtain⟨x10,rfl,g17⟩:=DI.out g16;obtain⟨w39,e39,g18⟩:=DG.out g17;obtain⟨x11,rfl,g19⟩:=DI.out g18;obtain⟨rfl,h'⟩:=Zk.out g19;exact h'
   ·obtain⟨x9,e3,g2⟩:=GI h;obtain⟨a1,e4,g5⟩:=GN g2;obtain⟨a2,e8,g8⟩:=GN g5;obtain⟨w10,e10,g9⟩:=DG.out g8;obtain⟨A2,n2,m2,rfl,g10⟩:=DSl.out g9;obtain⟨a3,e12,g13⟩:=GN g10;obtain⟨w37,e37,g14⟩:=DG.out g13;obtain⟨A3,n3,m3,rfl,g15⟩:=DSl.out g14;obtain⟨x10,e38,g17⟩:=GI g15;obtain⟨x11,e39,g19⟩:=GI g17;obtain⟨rfl,h'⟩:=Zk.out g19;exact okJ (Λ:=(aZh.Λ8 K (aZh.l8 K k))) bZn [] (Zb.cons e3 (Zb.cons e4 (Zb.cons e8 (Zb.cons e10 (Zb.cons e12 (Zb.cons e37 (Zb.cons e38 (Zb.cons e39 (Zb.nil _))))))))) h' oN) oN)
def fZJ (x1 x2 x3:Int)(H:Hp)(K:VK):Prop:=
 Nw H (.obj (.cells #[.int .i64 x1,.int .i64 x2,.int .i64 x3] 39)) fun b1 H1=>LeI H1 ((⟨b1,0,none⟩:Addr).add 0) fun x4=>LeI H1 ((⟨b1,0,none⟩:Addr).add 1) fun x5=>LeI H1 ((⟨b1,0,none⟩:Addr).add 2) fun x6=>K (.int .i64 (i64.wrap ((i64.wrap (x4+x5))+x6))) H1
theorem fZJ.ok x1 x2 x3 H K (h:fZJ x1 x2 x3 H K):Za prog 34 #[.agg #[.int .i64 x1,.int .i64 x2,.int .i64 x3]] H K:=
 okN bZn Tryz.func34 rfl rfl h
def bZG.q1 (H5:Hp)(b2:Nat)(K:VK):Prop:=
 StA H5 ⟨b2,0,none⟩ #[.int .i64 0,.int .i64 0,.int .i64 0,.int .i64 0,.int .i64 0,.int .i64 0,.int .i64 0,.int .i64 0,.int .i64 0,.int .i64 0,.int .i64 0,.int .i64 0,.int .i64 0,.int .i64 0,.int .i64 0,.int .i64 0,.int .i64 0] 17 fun H6=>LdA H6 ⟨b2,0,none⟩ 17 fun l6=>K (.tuple #[.agg l6.toArray,.int .i64 1]) H6
def bZG (x1 x2 x3 x4 x5:Int)(H:Hp)(K:VK):Prop:=
 Nw H (.obj (.cells #[.int .i64 x1,.int .i64 x2,.int .i64 x3,.int .i64 x4] 27)) fun b1 H1=>Nw H1 (.obj (.cells #[.int .i64 0,.int .i64 0,.int .i64 0,.int .i64 0,.int .i64 0,.int .i64 0,.int .i64 0,.int .i64 0,.int .i64 0,.int .i64 0,.int .i64 0,.int .i64 0,.int .i64 0,.int .i64 0,.int .i64 0,.int .i64 0,.int .i64 0] 90)) fun b2 H2=>LdA H2 ⟨b1,0,none⟩ 4 fun l1=>Hz 69 #[.agg l1.toArray] H2 fun v1 H3=>bZS v1 fun y1 x6=>(Nw H3 (.obj (.cells #[.int .i64 0,.int .i64 0,.int .i64 0,.int .i64 0,.int .i64 0,.int .i64 0,.int .i64 0,.int .i64 0,.int .i64 0,.int .i64 0,.int .i64 0,.int .i64 0,.int .i64 0,.int .i64 0,.int .i64 0,.int .i64 0,.int .i64 0] 90)) fun b3 H4=>StA H4 ⟨b3,0,none⟩ y1 17 fun H5=>BIf (x6 !=0) (bZG.q1 H5 b2 K) (BIf (decide (x5<0)) (bZG.q1 H5 b2 K) (LeI H5 ((⟨b1,0,none⟩:Addr).add 0) fun x7=>BIf (decide (x5>x7)) (bZG.q1 H5 b2 K) (LdA H5 ⟨b3,0,none⟩ 17 fun l5=>StA H5 ⟨b2,0,none⟩ l5.toArray 17 fun H9=>LdA H9 ⟨b2,0,none⟩ 17 fun l9=>K (.tuple #[.agg l9.toArray,.int .i64 0]) H9))))
theorem bZG.ok x1 x2 x3 x4 x5 H K (h:bZG x1 x2 x3 x4 x5 H K):Za prog 39 #[.agg #[.int .i64 x1,.int .i64 x2,.int .i64 x3,.int .i64 x4],.int .i64 x5] H K:=
 okN bZn Tryz.func39 rfl rfl h
def bZL.q1 (K:VK)(l8:List Value)(x5 x7:Int)(H6:Hp):=
 K (.tuple #[.agg l8.toArray,.int .i64 (if(i64.wrap (Int.tdiv (aZB .i64 1 (u64.wrap x5)) x7))>1 then(i64.wrap (Int.tdiv (aZB .i64 1 (u64.wrap x5)) x7))else 1),.int .i64 0]) H6
def bZL (x1 x2 x3 x4 x5:Int)(H:Hp)(K:VK):Prop:=
 Nw H (.obj (.cells #[.int .i64 x1,.int .i64 x2,.int .i64 x3,.int .i64 x4] 27)) fun b1 H1=>Nw H1 (.obj (.cells #[.int .i64 0,.int .i64 0,.int .i64 0,.int .i64 0,.int .i64 0,.int .i64 0,.int .i64 0,.int .i64 0,.int .i64 0,.int .i64 0,.int .i64 0,.int .i64 0,.int .i64 0,.int .i64 0,.int .i64 0,.int .i64 0,.int .i64 0] 90)) fun b2 H2=>LdA H2 ⟨b1,0,none⟩ 4 fun l1=>Hz 39 #[.agg l1.toArray,.int .i64 x5] H2 fun v1 H3=>bZS v1 fun y1 x6=>(StA H3 ⟨b2,0,none⟩ y1 17 fun H4=>BIf (x6 !=0) (LdA H4 ⟨b2,0,none⟩ 17 fun l5=>StA H4 ⟨b2,0,none⟩ l5.toArray 17 fun H5=>LdA H5 ⟨b2,0,none⟩ 17 fun l7=>K (.tuple #[.agg l7.toArray,.int .i64 0,.int .i64 x6]) H5) (LdA H4 ⟨b2,0,none⟩ 17 fun l6=>LeI H4 ((⟨b2,0,none⟩:Addr).add 1) fun x7=>((0≤(u64.wrap x5)∧(x7≠0∧i64=i64∧StA H4 ⟨b2,0,none⟩ l6.toArray 17 fun H6=>LdA H6 ⟨b2,0,none⟩ 17 fun l8=>bZL.q1 K l8 x5 x7 H6)))∧(StA H4 ⟨b2,0,none⟩ l6.toArray 17 fun H7=>(0≤(u64.wrap x5)∧(x7≠0∧i64=i64∧LdA H7 ⟨b2,0,none⟩ 17 fun l9=>bZL.q1 K l9 x5 x7 H7)))))
theorem bZL.ok x1 x2 x3 x4 x5 H K (h:bZL x1 x2 x3 x4 x5 H K):Za prog 51 #[.agg #[.int .i64 x1,.int .i64 x2,.int .i64 x3,.int .i64 x4],.int .i64 x5] H K:=
 ok0 (fun i=>match Nat.beq i 4 with|true=>some ([0,2,5],[0,0,2,6,0,16,62,126,49,511,1023],0)|false=>none) bZn Tryz.func51 rfl rfl h
def aZw.l9 (K:VK):Nat→Int→Addr→Addr→OA→Nat→Nat→OA→Nat→Nat→Int→Int→Hp→Prop
 |0,_,_,_,_,_,_,_,_,_,_,_,_=>False
 |k+1,x11,a1,a2,A2,n2,m2,A3,n3,m3,x12,x13,H=>
  let R9:=aZw.l9 K k
  BIf (decide (x13<x12)) (ixI x13 n3 (NN A3 fun a3=>LdA H (a3.add (x13.toNat*8)) 8 fun l8=>Nw H (.obj (.cells #[.int .i64 0,.int .i64 0,.int .i64 0,.int .i64 0,.int .u64 0,.int .i64 0,.int .i64 0,.int .i64 0] 126)) fun b3 H6=>StA H6 ⟨b3,0,none⟩ l8.toArray 8 fun H7=>LdA H7 a2 17 fun l9=>LdA H7 ⟨b3,0,none⟩ 8 fun l10=>LeI H7 (a1.add 3) fun x14=>Hz 86 #[.agg l9.toArray,.int .i64 x11,.agg l10.toArray,.int .i64 x14] H7 fun v10 H8=>bZS v10 fun y2 x15=>(Nw H8 (.obj (.cells #[.int .i64 0,.int .i64 0,.int .i64 0] 39)) fun b4 H9=>StA H9 ⟨b4,0,none⟩ y2 3 fun H10=>BIf (x15 !=0) (K (.tuple #[.slice none 0 0,.int .i64 x15]) H10) (LdA H10 ⟨b4,0,none⟩ 3 fun l14=>LdA H10 ⟨0,0,none⟩ 3 fun l15=>dZ1 l14.toArray.toList fun x16 x17 x18=>(dZ1 l15.toArray.toList fun x19 x20 x21=>(Nw H10 (.row [.int .i64 x16,.int .i64 x17,.int .i64 x18,.int .i64 x19,.int .i64 x20,.int .i64 x21] 39 6) fun b5 H11=>HcA 24 #[.slice (some ⟨b5,0,none⟩) 2 2] H11 fun y3 H12=>dZ1 y3.toList fun x22 x23 x24=>(Nw H12 (.row [.int .i64 x22,.int .i64 x23,.int .i64 x24] 39 3) fun b6 H13=>cZP prog 39 (.slice A2 n2 m2) (.slice (some ⟨b6,0,none⟩) 1 1) H13 fun v23 H14=>DSl v23 fun A4 n4 m4=>R9 x11 a1 a2 A4 n4 m4 A3 n3 m3 x12 (i64.wrap (x13+1)) H14))))))) (K (.tuple #[.slice A2 n2 m2,.int .i64 0]) H)
def aZw (x1 x2 x3 x4 x5 x6:Int)(H:Hp)(K:VK):Prop:=
 Nw H (.obj (.cells #[.int .i64 x1,.int .i64 x2,.int .i64 x3,.int .i64 x4] 27)) fun b1 H1=>LdA H1 ⟨b1,0,none⟩ 4 fun l1=>Hz 39 #[.agg l1.toArray,.int .i64 x5] H1 fun v1 H2=>bZS v1 fun y1 x7=>(Nw H2 (.obj (.cells #[.int .i64 0,.int .i64 0,.int .i64 0,.int .i64 0,.int .i64 0,.int .i64 0,.int .i64 0,.int .i64 0,.int .i64 0,.int .i64 0,.int .i64 0,.int .i64 0,.int .i64 0,.int .i64 0,.int .i64 0,.int .i64 0,.int .i64 0] 90)) fun b2 H3=>StA H3 ⟨b2,0,none⟩ y1 17 fun H4=>BIf (x7 !=0) (K (.tuple #[.slice none 0 0,.int .i64 x7]) H4) (LeI H4 ((⟨b2,0,none⟩:Addr).add 1) fun x8=>LeI H4 ((⟨b1,0,none⟩:Addr).add 3) fun x9=>Hz 85 #[.int .i64 x5,.int .i64 x6,.int .i64 x8,.int .i64 x9] H4 fun v6 H5=>dZD v6 fun A1 n1 m1 x10=>(BIf (x10 !=0) (K (.tuple #[.slice none 0 0,.int .i64 x10]) H5) ((∃ k,aZw.l9 K k x5 ⟨b1,0,none⟩ ⟨b2,0,none⟩ none 0 0 A1 n1 m1 (n1:Int) 0 H5)))))
def aZw.l9.L (K:VK)(k:Nat):Mid:=fun E D H=>
 eI E 1 .i64 fun x11=>eN E 3 fun a1=>eN E 8 fun a2=>DG (E.get? 11) fun w11=>DSl w11 fun A2 n2 m2=>DG (E.get? 38) fun w38=>DSl w38 fun A3 n3 m3=>eI E 39 .i64 fun x12=>eI E 40 .i64 fun x13=>Zk D (aZw.l9 K k x11 a1 a2 A2 n2 m2 A3 n3 m3 x12 x13 H)
def aZw.Λ9 (_:VK)(_R9:Int→Addr→Addr→OA→Nat→Nat→OA→Nat→Nat→Int→Int→Hp→Prop):Zu:=Zu.none (fun _=>none)
def aZw.Λ (K:VK):Zu:=⟨fun i=>none,fun i=>match Nat.beq i 9 with|true=>some (fun E D H=>∃ k,aZw.l9.L K k E D H)|false=>none,(fun _=>none)⟩
theorem aZw.ok x1 x2 x3 x4 x5 x6 H K (h:aZw x1 x2 x3 x4 x5 x6 H K):Za prog 60 #[.agg #[.int .i64 x1,.int .i64 x2,.int .i64 x3,.int .i64 x4],.int .i64 x5,.int .i64 x6] H K:=
 okL (Λ:=(aZw.Λ K)) bZn Tryz.func60 rfl rfl h (oC (fun E D H h=>by
   refine Safe.loop' (aZw.l9.L K) (fun E D H h=>?_) (fun k E D H h=>?_) E D H h
   ·obtain⟨w1,e1,g1⟩:=DG.out h;obtain⟨x11,rfl,g2⟩:=DI.out g1;obtain⟨w3,e3,g3⟩:=DG.out g2;obtain⟨pw3,rfl,g4⟩:=DP.out g3;obtain⟨a1,rfl,g5⟩:=NN.out g4;obtain⟨w8,e8,g6⟩:=DG.out g5;obtain⟨pw8,rfl,g7⟩:=DP.out g6;obtain⟨a2,rfl,g8⟩:=NN.out g7;obtain⟨w11,e11,g9⟩:=DG.out g8;obtain⟨A2,n2,m2,rfl,g10⟩:=DSl.out g9;obtain⟨w38,e38,g11⟩:=DG.out g10;obtain⟨A3,n3,m3,rfl,g12⟩:=DSl.out g11;obtain⟨w39,e39,g13⟩:=DG.out g12;obtain⟨x12,rfl,g14⟩:=DI.out g13;obtain⟨w40,e40,g15⟩:=DG.out g14;obtain⟨x13,rfl,g16⟩:=DI.out g15;obtain⟨rfl,h'⟩:=Zk.out g16;exact h'
   ·obtain⟨x11,e1,g2⟩:=GI h;obtain⟨a1,e3,g5⟩:=GN g2;obtain⟨a2,e8,g8⟩:=GN g5;obtain⟨w11,e11,g9⟩:=DG.out g8;obtain⟨A2,n2,m2,rfl,g10⟩:=DSl.out g9;obtain⟨w38,e38,g11⟩:=DG.out g10;obtain⟨A3,n3,m3,rfl,g12⟩:=DSl.out g11;obtain⟨x12,e39,g14⟩:=GI g12;obtain⟨x13,e40,g16⟩:=GI g14;obtain⟨rfl,h'⟩:=Zk.out g16;exact okJ (Λ:=(aZw.Λ9 K (aZw.l9 K k))) bZn [] (Zb.cons e1 (Zb.cons e3 (Zb.cons e8 (Zb.cons e11 (Zb.cons e38 (Zb.cons e39 (Zb.cons e40 (Zb.nil _)))))))) h' oN) oN)
def fZd (x1 x2 x3 x4:Int)(H:Hp)(K:VK):Prop:=
 Nw H (.obj (.cells #[.int .i64 x1,.int .i64 x2,.int .i64 x3] 39)) fun b1 H1=>Nw H1 (.obj (.cells #[.int .i64 0,.int .i64 0,.int .i64 0] 39)) fun b2 H2=>LeI H2 ((⟨b1,0,none⟩:Addr).add 0) fun x5=>LeI H2 ((⟨b1,0,none⟩:Addr).add 1) fun x6=>LeI H2 ((⟨b1,0,none⟩:Addr).add 2) fun x7=>StA H2 ⟨b2,0,none⟩ #[.int .i64 (i64.wrap (x4*x5)),.int .i64 (i64.wrap (x4*x6)),.int .i64 (i64.wrap (x4*x7))] 3 fun H3=>LdA H3 ⟨b2,0,none⟩ 3 fun l1=>K (.agg l1.toArray) H3
theorem fZd.ok x1 x2 x3 x4 H K (h:fZd x1 x2 x3 x4 H K):Za prog 63 #[.agg #[.int .i64 x1,.int .i64 x2,.int .i64 x3],.int .i64 x4] H K:=
 okN bZn Tryz.func63 rfl rfl h
end W
namespace Eng
open Go Go.Hw Go.Form W Shp Dsk Str Are Trn Pas Pln
def aZT :O3:=(8,1,1)
def Rcd (H:Hp):Prop:=Cells H (some ⟨0,0,none⟩) (ZD aZT)
theorem Rcd.le {H H':Hp}(h:Rcd H)(k:H.le H'):Rcd H':=Cells.le h k
theorem nZY {H:Hp}{a:Addr}:∀(vs:List Value) (i:Nat),(∀ j v,vs[j]? =some v→H.cell? (a.add (i+j))=some v)→H.cells? a i vs.length=some vs
 | [],_,_=>rfl
 |v::vs,i,h=>by
  have h0:=h 0 v rfl;have ih:=nZY vs (i+1) fun j u hj=>by
   have:=h (j+1) u (by simpa using hj)
   rwa [show i+(j+1)=i+1+j by omega]at this
  show H.cells? a i (vs.length+1)=_
  unfold Hp.cells?;rw[Nat.add_zero]at h0;rw[h0,ih]
theorem Rcd.ld {H:Hp}(h:Rcd H){K:List Value→Prop}(k:K (ZD aZT)):LdA H ⟨0,0,none⟩ 3 K:=by
 unfold LdA;have e:=nZY (H:=H) (a:=⟨0,0,none⟩) (ZD aZT) 0 fun j v hj=>by
  obtain⟨a',ha,hc⟩:=h j v hj;cases ha;rw[Nat.zero_add];exact hc
 rw[show 3=(ZD aZT).length from rfl,e];exact k
abbrev aZI (o:O3):AO:=.obj (.cells (ZD o).toArray 39)
def lZW (o:O3):Nat:=o.1+o.2.1+o.2.2
def hZ8 (n:Nat)(o:O3):O3:=(n*o.1,n*o.2.1,n*o.2.2)
theorem mZs (H0:Hp){b1:Nat}(A:OA)(n m:Nat)(l:List O3)(hn:l.length=n)(hl:n≤1000)(hB:∀ o∈l,smO 1000000000 o)(hc:cZi 3 H0 A (l.map ZD)):
  ∀(t j:Nat) (a:O3) (H:Hp),j+t=n→smO (1000000000*j) a→(l.drop j).foldl bZF a=bZP l→Sep [own H0,pts b1 (aZI a)] H→
   aZL.l2 (Ret (.agg (ZD (bZP l)).toArray) H0) (t+1) ⟨b1,0,none⟩ A n m (n:Int) (j:Int) H
 |0,j,a,H,hj,ha,hs1,hs=>by
  unfold aZL.l2;refine Zh (by omega) ?_;rw[List.drop_eq_nil_of_le (by omega)]at hs1;have e:a=bZP l:=hs1;rw[e]at hs;refine hs.ldw 1 rfl rfl ?_;refine hs.stw 1 (y:=(ZD (bZP l)).toArray) rfl rfl rfl rfl fun H hs=>?_;refine hs.ldw 1 rfl rfl ?_;exact hs.fin 0 rfl _
 |t+1,j,a,H,hj,ha,hs1,hs=>by
  have hjl:j<l.length:=by omega
  have hrow:(l.map ZD)[j]? =some (ZD (l[j]'hjl)):=by rw[List.getElem?_map,List.getElem?_eq_getElem hjl];rfl
  have hBj:=hB _ (List.getElem_mem hjl);rw[List.drop_eq_getElem_cons hjl,List.foldl_cons]at hs1;unfold aZL.l2;refine Zm (by omega) ?_;refine cZi.rdA (hc.le (hs.ow 0 rfl)) hrow rfl rfl (by rw[List.length_map];omega) ?_;generalize l[j]'hjl=o at hBj hs1;obtain⟨o1,o2,o3⟩:=o;obtain⟨a1,a2,a3⟩:=a;obtain⟨q1,q2,q3⟩:=hBj;obtain⟨p1,p2,p3⟩:=ha;simp only at q1 q2 q3 p1 p2 p3;refine hs.nw fun b2 H hs=>?_
  refine hs.stw 2 (y:=(ZD (o1,o2,o3)).toArray) rfl rfl rfl rfl fun H hs=>?_
  try simp only[HS]
  refine hs.ld 1 (v:=.int .i64 (a1:Int)) rfl rfl ?_;simp only[HV];refine hs.ld 2 (v:=.int .i64 (o1:Int)) rfl rfl ?_;simp only[HV];rw[ZL (x:=(a1:Int)+o1) (by omega) (by omega)];refine hs.st 1 rfl (by show 0<3;omega) rfl fun H hs=>?_;refine hs.ld 1 (v:=.int .i64 (a2:Int)) rfl rfl ?_;simp only[HV];refine hs.ld 2 (v:=.int .i64 (o2:Int)) rfl rfl ?_;simp only[HV];rw[ZL (x:=(a2:Int)+o2) (by omega) (by omega)];refine hs.st 1 rfl (by show 1<3;omega) rfl fun H hs=>?_;refine hs.ld 1 (v:=.int .i64 (a3:Int)) rfl rfl ?_;simp only[HV];refine hs.ld 2 (v:=.int .i64 (o3:Int)) rfl rfl ?_;simp only[HV];rw[ZL (x:=(a3:Int)+o3) (by omega) (by omega),ZL (x:=(j:Int)+1) (by omega) (by omega)];refine hs.st 1 rfl (by show 2<3;omega) rfl fun H hs=>?_;refine mZs H0 A n m l hn hl hB hc t (j+1) (bZF (a1,a2,a3) (o1,o2,o3)) H (by omega) ⟨by show a1+o1≤_;omega,by show a2+o2≤_;omega,by show a3+o3≤_;omega⟩ hs1 ?_;have hs:=hs.re [0,1] rfl;exact hs
theorem iZe (A:OA)(n m:Nat)(l:List O3)(hn:l.length=n)(hl:n≤1000)(hB:∀ o∈l,smO 1000000000 o)(H:Hp)(hc:cZi 3 H A (l.map ZD)):
  Za prog 24 #[.slice A n m] H (RetE (.agg (ZD (bZP l)).toArray) H):=by
 apply Za.ret;apply aZL.ok;unfold aZL;refine(Sep.start H).nw fun b1 H1 hs=>⟨n+1,?_⟩
 exact mZs H A n m l hn hl hB hc n 0 (0,0,0) H1 (by omega) ⟨by show 0≤_;omega,by show 0≤_;omega,by show 0≤_;omega⟩ rfl hs
theorem lZY (o:O3)(ho:smO 1000000000000 o)(H:Hp):Za prog 34 #[.agg (ZD o).toArray] H (RetE (.int .i64 (lZW o:Int)) H):=by
 obtain⟨o1,o2,o3⟩:=o;obtain⟨q1,q2,q3⟩:=ho;simp only at q1 q2 q3;apply Za.ret;apply fZJ.ok;unfold fZJ;refine(Sep.start H).nw fun b1 H1 hs=>?_
 have hs:Sep [own H,pts b1 (aZI (o1,o2,o3))] H1:=hs
 try simp only[HS]
 refine hs.ld 1 (v:=.int .i64 (o1:Int)) rfl rfl ?_;simp only[HV];refine hs.ld 1 (v:=.int .i64 (o2:Int)) rfl rfl ?_;simp only[HV];refine hs.ld 1 (v:=.int .i64 (o3:Int)) rfl rfl ?_;simp only[HV];rw[ZL (x:=(o1:Int)+o2) (by omega) (by omega),ZL (x:=(o1:Int)+o2+o3) (by omega) (by omega),show(o1:Int)+o2+o3=((lZW (o1,o2,o3):Nat):Int) by show _=((o1+o2+o3:Nat):Int);omega];exact hs.fin 0 rfl _
theorem pZt (n:Nat)(hn:n≤1000)(o:O3)(ho:smO 1000000 o)(H:Hp):Za prog 63 #[.agg (ZD o).toArray,.int .i64 (n:Int)] H (RetE (.agg (ZD (hZ8 n o)).toArray) H):=by
 obtain⟨o1,o2,o3⟩:=o;obtain⟨q1,q2,q3⟩:=ho;simp only at q1 q2 q3;have e:∀ x:Nat,x≤1000000→i64.wrap ((n:Int)*(x:Int))=((n*x:Nat):Int):=fun x hx=>by
  have h:n*x≤1000*1000000:=Nat.mul_le_mul hn hx;rw[← Int.natCast_mul,aZu (n:=n*x) (by omega)]
 apply Za.ret;apply fZd.ok;unfold fZd;refine(Sep.start H).nw fun b1 H1 hs=>?_
 refine hs.nw fun b2 H1 hs=>?_
 have hs:Sep [own H,pts b1 (aZI (o1,o2,o3)),pts b2 (aZI (0,0,0))] H1:=hs
 try simp only[HS]
 refine hs.ld 1 (v:=.int .i64 (o1:Int)) rfl rfl ?_;simp only[HV];refine hs.ld 1 (v:=.int .i64 (o2:Int)) rfl rfl ?_;simp only[HV];refine hs.ld 1 (v:=.int .i64 (o3:Int)) rfl rfl ?_;simp only[HV];rw[e o1 q1,e o2 q2,e o3 q3];refine hs.stw 2 (y:=(ZD (hZ8 n (o1,o2,o3))).toArray) rfl rfl rfl rfl fun H1 hs=>?_
 refine hs.ldw 2 rfl rfl ?_;exact hs.fin 0 rfl _
section
variable {most k : Nat} {sec s ar : Int} (hg : Sup.aZX most sec s ar = true) (hk : k ≤ most)
include hg hk
theorem fZ5 (H:Hp):Za prog 39 #[.agg (Sup.aZR most sec s ar),.int .i64 (k:Int)] H (RetE (.tuple #[.agg (Lay.bZk most (Lay.Zs s)),.int .i64 0]) H):=by
 apply Za.ret;apply bZG.ok;unfold bZG bZG.q1;refine(Sep.start H).nw fun b1 H1 hs=>?_
 refine hs.nw fun b2 H1 hs=>?_
 have hs:Sep [own H,pts b1 (.obj (.cells (Sup.aZR most sec s ar) 27)),pts b2 (.obj (.cells Lay.kZC 90))] H1:=hs;refine hs.ldw 1 rfl rfl ?_
 try simp only[Array.toArray_toList]
 refine Za.use (Sup.mZl most sec s ar H1) ?_;rw[if_pos hg,Int.toNat_natCast];simp only[HV];refine hs.nw fun b3 H1 hs=>?_
 refine hs.stw 3 (y:=Lay.bZk most (Lay.Zs s)) rfl rfl rfl rfl fun H1 hs=>?_
 refine Zq rfl (Zh (by omega) ?_)
 try simp only[HS]
 refine hs.ld 1 (v:=.int .i64 (most:Int)) rfl rfl ?_;simp only[HV];refine Zh (by omega) ?_;refine hs.ldw 3 rfl rfl ?_
 try simp only[Array.toArray_toList]
 refine hs.stw 2 (y:=Lay.bZk most (Lay.Zs s)) rfl rfl rfl rfl fun H1 hs=>?_
 refine hs.ldw 2 rfl rfl ?_;exact hs.fin 0 rfl _
omit hk in
theorem pZ2 (H:Hp):Za prog 13 #[.agg (Sup.aZR most sec s ar)] H (RetE (.tuple #[.agg (ZD (0,10,3)).toArray,.int .i64 0]) H):=by
 apply Za.ret;apply eZt.ok;unfold eZt;refine(Sep.start H).nw fun b1 H1 hs=>?_
 refine hs.nw fun b2 H1 hs=>?_
 have hs:Sep [own H,pts b1 (.obj (.cells (Sup.aZR most sec s ar) 27)),pts b2 (aZI (0,0,0))] H1:=hs;refine hs.ldw 1 rfl rfl ?_
 try simp only[Array.toArray_toList]
 refine Za.use (fZ5 (k:=0) hg (Nat.zero_le _) H1) ?_;simp only[HV];refine hs.nw fun b3 H1 hs=>?_
 refine hs.stw 3 (y:=Lay.bZk most (Lay.Zs s)) rfl rfl rfl rfl fun H1 hs=>?_
 refine Zq rfl ?_;refine hs.stw 2 (y:=(ZD (0,10,3)).toArray) rfl rfl rfl rfl fun H1 hs=>?_
 refine hs.ldw 2 rfl rfl ?_;exact hs.fin 0 rfl _
omit hk in
theorem hZ4 (H:Hp):Za prog 27 #[.agg (Sup.aZR most sec s ar)] H (RetE (.tuple #[.agg (ZD (9,0,0)).toArray,.int .i64 0]) H):=by
 apply Za.ret;apply dZ3.ok;unfold dZ3;refine(Sep.start H).nw fun b1 H1 hs=>?_
 refine hs.nw fun b2 H1 hs=>?_
 have hs:Sep [own H,pts b1 (.obj (.cells (Sup.aZR most sec s ar) 27)),pts b2 (aZI (0,0,0))] H1:=hs;refine hs.ldw 1 rfl rfl ?_
 try simp only[Array.toArray_toList]
 refine Za.use (fZ5 (k:=0) hg (Nat.zero_le _) H1) ?_;simp only[HV];refine hs.nw fun b3 H1 hs=>?_
 refine hs.stw 3 (y:=Lay.bZk most (Lay.Zs s)) rfl rfl rfl rfl fun H1 hs=>?_
 refine Zq rfl ?_;refine hs.stw 2 (y:=(ZD (9,0,0)).toArray) rfl rfl rfl rfl fun H1 hs=>?_
 refine hs.ldw 2 rfl rfl ?_;exact hs.fin 0 rfl _
theorem pZ3 (H:Hp)(hr:Rcd H):Za prog 19 #[.agg (Sup.aZR most sec s ar),.int .i64 (k:Int)] H (RetE (.tuple #[.agg (ZD aZT).toArray,.int .i64 0]) H):=by
 apply Za.ret;apply eZu.ok;unfold eZu;refine(Sep.start H).nw fun b1 H1 hs=>?_
 refine hs.nw fun b2 H1 hs=>?_
 have hs:Sep [own H,pts b1 (.obj (.cells (Sup.aZR most sec s ar) 27)),pts b2 (aZI (0,0,0))] H1:=hs;refine hs.ldw 1 rfl rfl ?_
 try simp only[Array.toArray_toList]
 refine Za.use (fZ5 hg hk H1) ?_;simp only[HV];refine hs.nw fun b3 H1 hs=>?_
 refine hs.stw 3 (y:=Lay.bZk most (Lay.Zs s)) rfl rfl rfl rfl fun H1 hs=>?_
 refine Zq rfl ?_;refine(hr.le (hs.ow 0 rfl)).ld ?_;refine hs.stw 2 (y:=(ZD aZT).toArray) rfl rfl rfl rfl fun H1 hs=>?_
 refine hs.ldw 2 rfl rfl ?_;exact hs.fin 0 rfl _
omit hg hk in
theorem oZC {per q:Nat}(hp:per=2^q)(k:Nat):Lay.Zx k per=(if 1<2^k/per then 2^k/per else 1):=by
 subst hp;have h2:=Nat.two_pow_pos q;unfold Lay.Zx;rcases Nat.lt_or_ge k q with h|h
 ·have h1:2^k<2^q:=Nat.pow_lt_pow_right (by omega) h;rw[Nat.div_eq_of_lt (show 2^k-1<2^q by omega),Nat.div_eq_of_lt h1,if_neg (by omega)]
 ·obtain⟨t,rfl⟩:=Nat.exists_eq_add_of_le h;have h3:=Nat.two_pow_pos t;have e:2^(q+t)-1=2^q*(2^t-1)+(2^q-1):=by
   rw[Nat.pow_add,Nat.mul_sub];have:2^q*1≤2^q*2^t:=Nat.mul_le_mul_left _ h3;omega
  rw[e,Nat.mul_add_div h2,Nat.div_eq_of_lt (show 2^q-1<2^q by omega),Nat.pow_add,Nat.mul_div_cancel_left _ h2];split<;>omega
omit hg hk in
theorem kZF {per:Nat}(hp:1≤per)(k:Nat):nS per (2^k)=Lay.Zx k per:=by
 have:=Nat.two_pow_pos k;unfold nS Lay.Zx;rw[show 2^k+per-1=(2^k-1)+per by omega,Nat.add_div_right _ (by omega)]
theorem jZ6 (H:Hp):Za prog 51 #[.agg (Sup.aZR most sec s ar),.int .i64 (k:Int)] H (RetE (.tuple #[.agg (Lay.bZk most (Lay.Zs s)),.int .i64 ((Lay.Zx k (Lay.Zs s):Nat):Int),.int .i64 0]) H):=by
 have hgg:=hg;unfold Sup.aZX at hgg;simp only[decide_eq_true_eq]at hgg;obtain⟨_,hm,hpp,_⟩:=hgg;obtain⟨q,hq,hp512⟩:∃ q,Lay.Zs s=2^q∧Lay.Zs s≤512:=by
  unfold Lay.Zs at hpp⊢
  repeat' split
  ·exact⟨2,rfl,by decide⟩
  ·exact⟨3,rfl,by decide⟩
  ·exact⟨4,rfl,by decide⟩
  ·exact⟨5,rfl,by decide⟩
  ·exact⟨6,rfl,by decide⟩
  ·exact⟨7,rfl,by decide⟩
  ·exact⟨8,rfl,by decide⟩
  ·exact⟨9,rfl,by decide⟩
  ·exfalso;revert hpp;repeat' split
   all_goals simp_all
 have h2:=cZt (k:=k) (by omega);have hd:2^k/Lay.Zs s≤2^k:=Nat.div_le_self _ _;have e1:u64.wrap (k:Int)=(k:Int):=by rw[bZ5 (n:=k) (by omega)]
 have e2:i64.wrap (Int.tdiv (aZB .i64 1 (k:Int)) ((Lay.Zs s:Nat):Int))=((2^k/Lay.Zs s:Nat):Int):=by
  rw[Lay.eZV (by omega),show Int.tdiv ((2^k:Nat):Int) ((Lay.Zs s:Nat):Int)=((2^k/Lay.Zs s:Nat):Int)from rfl,aZu (by omega)]
 have e3:(if i64.wrap (Int.tdiv (aZB .i64 1 (k:Int)) ((Lay.Zs s:Nat):Int))>1 then i64.wrap (Int.tdiv (aZB .i64 1 (k:Int)) ((Lay.Zs s:Nat):Int))else 1)=((Lay.Zx k (Lay.Zs s):Nat):Int):=by
  rw[e2,oZC hq k];split<;>split<;>first|rfl|omega
 apply Za.ret;apply bZL.ok;unfold bZL bZL.q1;refine(Sep.start H).nw fun b1 H1 hs=>?_
 refine hs.nw fun b2 H1 hs=>?_
 have hs:Sep [own H,pts b1 (.obj (.cells (Sup.aZR most sec s ar) 27)),pts b2 (.obj (.cells Lay.kZC 90))] H1:=hs;refine hs.ldw 1 rfl rfl ?_
 try simp only[Array.toArray_toList]
 refine Za.use (fZ5 hg hk H1) ?_;simp only[HV];refine hs.stw 2 (y:=Lay.bZk most (Lay.Zs s)) rfl rfl rfl rfl fun H1 hs=>?_
 refine Zq rfl ?_;refine hs.ldw 2 rfl rfl ?_
 try simp only[HS]
 refine hs.ld 2 (v:=.int .i64 ((Lay.Zs s:Nat):Int)) rfl rfl ?_;simp only[HV];rw[e1,e3];refine⟨⟨by omega,by omega,by simp,?_⟩,?_⟩
 ·refine hs.stw 2 (y:=Lay.bZk most (Lay.Zs s)) rfl rfl rfl rfl fun H1 hs=>?_
  refine hs.ldw 2 rfl rfl ?_;exact hs.fin 0 rfl _
 ·refine hs.stw 2 (y:=Lay.bZk most (Lay.Zs s)) rfl rfl rfl rfl fun H1 hs=>⟨by omega,by omega,by simp,?_⟩
  refine hs.ldw 2 rfl rfl ?_;exact hs.fin 0 rfl _
omit hg hk in
theorem nZX {H:Hp}{b n:Nat}{e:TypeId}{os:List O3}{m:Nat}(h:H b=some (.row (os.map ZD).flatten e m)):cZi 3 H (some ⟨b,0,none⟩) (os.map ZD):=
 mZu (by omega) (fun r hr=>by obtain⟨o,_,rfl⟩:=List.mem_map.1 hr;rfl) (by
  have:=Cells.row h 0 (os.map ZD).flatten.length
  rwa [List.drop_zero,List.take_length]at this)
theorem sZ5 (H:Hp):Za prog 25 #[.agg (Sup.aZR most sec s ar),.int .i64 (k:Int)] H (RetE (.tuple #[.agg (ZD (2*Lay.Zx k (Lay.Zs s),0,0)).toArray,.int .i64 0]) H):=by
 have hgg:=hg;unfold Sup.aZX at hgg;simp only[decide_eq_true_eq]at hgg;have hro:=iZP (k:=k) (p:=Lay.Zs s) (by omega);apply Za.ret;apply fZc.ok;unfold fZc;refine(Sep.start H).nw fun b1 H1 hs=>?_
 refine hs.nw fun b2 H1 hs=>?_
 have hs:Sep [own H,pts b1 (.obj (.cells (Sup.aZR most sec s ar) 27)),pts b2 (aZI (0,0,0))] H1:=hs;refine hs.ldw 1 rfl rfl ?_
 try simp only[Array.toArray_toList]
 refine Za.use (jZ6 hg hk H1) ?_;simp only[HV];refine hs.nw fun b3 H1 hs=>?_
 refine hs.stw 3 (y:=Lay.bZk most (Lay.Zs s)) rfl rfl rfl rfl fun H1 hs=>?_
 refine Zq rfl ?_;rw[show(2:Int)*((Lay.Zx k (Lay.Zs s):Nat):Int)=((2*Lay.Zx k (Lay.Zs s):Nat):Int) by omega,aZu (by omega)];refine hs.stw 2 (y:=(ZD (2*Lay.Zx k (Lay.Zs s),0,0)).toArray) rfl rfl rfl rfl fun H1 hs=>?_
 refine hs.ldw 2 rfl rfl ?_;exact hs.fin 0 rfl _
def hZh (k per:Nat):O3:=(16+Lay.Zx k per+(if 2^k<per then 1 else 0),2+Lay.Zx k per,3)
theorem sZ4 (hk6:k≤6)(H:Hp)(hr:Rcd H):Za prog 16 #[.agg (Sup.aZR most sec s ar),.int .i64 (k:Int)] H (RetE (.tuple #[.agg (ZD (hZh k (Lay.Zs s))).toArray,.int .i64 0]) H):=by
 have hgg:=hg;unfold Sup.aZX at hgg;simp only[decide_eq_true_eq]at hgg;have hro:Lay.Zx k (Lay.Zs s)≤64:=by
  have h1:=gZ1 hk6;have h2:(2^k-1)/Lay.Zs s≤2^k-1:=Nat.div_le_self _ _;unfold Lay.Zx;omega
 have h64:=gZ1 hk6;unfold hZh;generalize hn:Lay.Zx k (Lay.Zs s)=n at hro;apply Za.ret;apply fZb.ok;unfold fZb;refine(Sep.start H).nw fun b1 H1 hs=>?_
 refine hs.nw fun b2 H1 hs=>?_
 have hs:Sep [own H,pts b1 (.obj (.cells (Sup.aZR most sec s ar) 27)),pts b2 (aZI (0,0,0))] H1:=hs;refine hs.ldw 1 rfl rfl ?_
 try simp only[Array.toArray_toList]
 refine Za.use (jZ6 hg hk H1) ?_;rw[hn];simp only[HV];refine hs.nw fun b3 H1 hs=>?_
 refine hs.stw 3 (y:=Lay.bZk most (Lay.Zs s)) rfl rfl rfl rfl fun H1 hs=>?_
 refine Zq rfl ?_;refine(hr.le (hs.ow 0 rfl)).ld ?_;refine(hr.le (hs.ow 0 rfl)).ld ?_;unfold aZT ZD;simp only[HV];refine hs.nw fun b4 H1 hs=>?_
 have hc:=nZX (os:=[aZT,aZT,(n,n,1)]) (n:=0) (hs.get 4 (b:=b4) rfl);refine Za.use (iZe (some ⟨b4,0,none⟩) 3 3 [aZT,aZT,(n,n,1)] rfl (by omega) (fun o ho=>?_) H1 hc) ?_
 ·simp only[List.mem_cons,List.not_mem_nil,or_false]at ho;rcases ho with rfl|rfl|rfl
  ·exact⟨by decide,by decide,by decide⟩
  ·exact⟨by decide,by decide,by decide⟩
  ·exact⟨by show n≤_;omega,by show n≤_;omega,by show 1≤_;omega⟩
 have e:bZP [aZT,aZT,(n,n,1)]=(16+n,2+n,3):=by
  show(0+8+8+n,0+1+1+n,0+1+1+1)=_
  simp
 rw[e];simp only[HV];refine hs.nw fun b5 H1 hs=>?_
 refine hs.stw 5 (y:=(ZD (16+n,2+n,3)).toArray) rfl rfl rfl rfl fun H1 hs=>?_
 rw[bZ5 (n:=k) (by omega),Lay.eZV (by omega)];refine⟨by omega,?_⟩
 try simp only[HS]
 refine hs.ld 3 (v:=.int .i64 ((Lay.Zs s:Nat):Int)) rfl rfl ?_;simp only[HV];by_cases hlt:2^k<Lay.Zs s
 ·rw[if_pos hlt];refine Zm (by omega) ?_;refine hs.ld 5 (v:=.int .i64 ((16+n:Nat):Int)) rfl rfl ?_;simp only[HV];rw[ZL (x:=((16+n:Nat):Int)+1) (by omega) (by omega),show((16+n:Nat):Int)+1=((16+n+1:Nat):Int) by omega];refine hs.st 5 rfl (by show 0<3;omega) rfl fun H1 hs=>?_
  refine hs.ldw 5 rfl rfl ?_;refine hs.stw 2 (y:=(ZD (16+n+1,2+n,3)).toArray) rfl rfl rfl rfl fun H1 hs=>?_
  refine hs.ldw 2 rfl rfl ?_;exact hs.fin 0 rfl _
 ·rw[if_neg hlt];refine Zh (by omega) ?_;refine hs.ldw 5 rfl rfl ?_;refine hs.stw 2 (y:=(ZD (16+n,2+n,3)).toArray) rfl rfl rfl rfl fun H1 hs=>?_
  refine hs.ldw 2 rfl rfl ?_;exact hs.fin 0 rfl _
end
def fZa (most k per words:Nat)(ps:List Pz)(cs:List O3):Prop:=cs.length=ps.length∧∀(i:Nat) (pz:Pz) (o:O3),ps[i]? =some pz→cs[i]? =some o→∃ r w,eZr per words (exX most per pz.f k).f (exX most per pz.o k).f pz r w∧o=(r+Lay.Zx k per+8,w+1,2)∧smO 10000 o
theorem fZa.small {most k per words:Nat}{ps:List Pz}{cs:List O3}(h:fZa most k per words ps cs):∀ o∈cs,smO 10000 o:=fun o ho=>by
 obtain⟨i,hi,rfl⟩:=List.getElem_of_mem ho;have hp:i<ps.length:=by rw[← h.1];exact hi
 obtain⟨_,_,_,_,hs⟩:=h.2 i _ _ (List.getElem?_eq_getElem hp) (List.getElem?_eq_getElem hi);exact hs
theorem nZB {k per:Nat}(hk6:k≤6):Lay.Zx k per≤64:=by
 have h1:=gZ1 hk6;have h2:(2^k-1)/per≤2^k-1:=Nat.div_le_self _ _;unfold Lay.Zx;omega
theorem fZa.ex {most k per words:Nat}(hp4:bZ9 (per:Int)=true)(hm:most≤32)(hk:k≤most)(hk6:k≤6)(hw:words≤1000){H:Hp}(hT:T64 H):∀ ps:List Pz,(∀ p∈ps,iZ1 p k per words)→∃ cs,fZa most k per words ps cs
 | [],_=>⟨[],rfl,fun i pz o h=>by simp at h⟩
 |p::ps,h=>by
  obtain⟨cs,hc⟩:=fZa.ex hp4 hm hk hk6 hw hT ps (fun q hq=>h q (List.mem_cons_of_mem _ hq));have hz:=h p List.mem_cons_self;obtain⟨r,w,hP,_⟩:=mZx hp4 hm hk hk6 hz hw H hT;have hle:=hZw hP hz.k;have h6:=gZ1 hk6;have hro:=nZB (k:=k) (per:=per) hk6;refine⟨(r+Lay.Zx k per+8,w+1,2)::cs,by simp[hc.1],fun i pz o hi ho=>?_⟩;cases i with
  |zero=>cases hi;cases ho;exact⟨r,w,hP,rfl,by show r+Lay.Zx k per+8≤_;omega,by show w+1≤_;omega,by show 2≤_;omega⟩
  |succ i=>exact hc.2 i pz o hi ho
theorem mZZ (a b:O3):bZP [a,b]=(a.1+b.1,a.2.1+b.2.1,a.2.2+b.2.2):=by
 show(0+a.1+b.1,0+a.2.1+b.2.1,0+a.2.2+b.2.2)=_
 simp
theorem smO.mono {B B':Nat}{o:O3}(h:smO B o)(k:B≤B'):smO B' o:=⟨Nat.le_trans h.1 k,Nat.le_trans h.2.1 k,Nat.le_trans h.2.2 k⟩
theorem qZp {A:OA}{n m:Nat}{cs:List O3}{H:Hp}(h:Own 39 3 A n m (cs.map ZD).flatten H):cZi 3 H A (cs.map ZD):=
 mZu (by omega) (fun r hr=>by obtain⟨o,_,rfl⟩:=List.mem_map.1 hr;rfl) (qZq h)
def mxO (a o:O3):O3:=if lZW o>lZW a then o else a
def lZ4 (cs:List O3):O3:=cs.foldl mxO (0,0,0)
section
variable {most k : Nat} {sec : Int} {s words : Nat} (hg : Sup.aZX most sec s words = true) (hk : k ≤ most) (hk6 : k ≤ 6) (hw : aZC k (Lay.Zs s) ≤ words ∧ words ≤ 1000) (d : Bool) {cs : List O3} (hC : fZa most k (Lay.Zs s) words (aZA d k (Lay.Zs s) words) cs) {TT : As} (hT : ∀ H, TT H → T64 H ∧ Rcd H)
abbrev bZI (most:Nat)(sec:Int)(s words:Nat):AO:=.obj (.cells (Sup.aZR most sec s words) 27)
def sZp (cs:List O3)(TT:As)(v:Value)(M:List As):Prop:=∃ A m,v= .tuple #[.slice A cs.length m,.int .i64 0]∧M=[Own 39 3 A cs.length m (cs.map ZD).flatten,TT]
include hT hk hk6 hw hC in
theorem lZL (hm:most≤32)(hp4:bZ9 ((Lay.Zs s:Nat):Int)=true)(hps:∀ p∈aZA d k (Lay.Zs s) words,iZ1 p k (Lay.Zs s) words){A3:OA}{m3 b1 b2:Nat}:∀(t j:Nat) (A2:OA) (m2:Nat) (H:Hp),j+t=cs.length→
  Sep [TT,pts b1 (bZI most sec s words),pts b2 (.obj (.cells (Lay.bZk most (Lay.Zs s)) 90)),Own 126 8 A3 cs.length m3 (bZp (aZA d k (Lay.Zs s) words)),Own 39 3 A2 j m2 ((cs.take j).map ZD).flatten] H→
   aZw.l9 (fun v H=>∃ M,sZp cs TT v M∧Sep M H) (t+1) (k:Int) ⟨b1,0,none⟩ ⟨b2,0,none⟩ A2 j m2 A3 cs.length m3 (cs.length:Int) (j:Int) H
 |0,j,A2,m2,H,hj,hs=>by
  have ej:j=cs.length:=by omega
  subst ej;rw[List.take_length]at hs;unfold aZw.l9;refine Zh (by omega) ?_;exact⟨_,⟨A2,m2,rfl,rfl⟩,hs.re [4,0] rfl⟩
 |t+1,j,A2,m2,H,hj,hs=>by
  have hjl:j<cs.length:=by omega
  have hjp:j<(aZA d k (Lay.Zs s) words).length:=by rw[← hC.1];exact hjl
  have hg':(aZA d k (Lay.Zs s) words)[j]? =some ((aZA d k (Lay.Zs s) words)[j]'hjp):=List.getElem?_eq_getElem hjp;have hz:=hps _ (List.getElem_mem hjp);have h5:=(cZG d k (Lay.Zs s) words).2;have h5':=hC.1;obtain⟨r',w',hP',ho,hsm⟩:=hC.2 j _ _ hg' (List.getElem?_eq_getElem hjl);have htk:cs.take (j+1)=cs.take j++[cs[j]'hjl]:=List.take_succ_eq_append_getElem hjl;unfold aZw.l9;refine Zm (by omega) ?_;refine(hs.own 3 rfl).rdA (x:=(j:Int)) (j:=j) rfl hjl (jZl _ _ _ hg') ?_;generalize(aZA d k (Lay.Zs s) words)[j]'hjp=pz at hz hP';generalize cs[j]'hjl=o at ho hsm htk;refine hs.nw fun b4 H hs=>?_
  refine hs.stw 5 (y:=pz.c) rfl rfl rfl rfl fun H hs=>?_;refine hs.ldw 2 rfl rfl ?_;refine hs.ldw 5 rfl rfl ?_
  try simp only[Array.toArray_toList]
  try simp only[HS]
  refine hs.ld 1 (v:=.int .i64 (words:Int)) rfl rfl ?_;simp only[HV];obtain⟨H9,h9,h9'⟩:=hs.see 0 rfl;have hTR:=hT _ h9;obtain⟨r,w,hc,hcall⟩:=mZx hp4 hm hk hk6 hz hw.2 H (hTR.1.le h9');obtain⟨rfl,rfl⟩:=hc.unique hP';refine Za.use hcall ?_;simp only[HV];refine hs.nw fun b5 H hs=>?_
  refine hs.stw 6 (y:=(ZD (r+Lay.Zx k (Lay.Zs s),w,1)).toArray) rfl rfl rfl rfl fun H hs=>?_;refine Zq rfl ?_;refine hs.ldw 6 rfl rfl ?_;obtain⟨H9,h9,h9'⟩:=hs.see 0 rfl;have hTR:=hT _ h9;refine(hTR.2.le h9').ld ?_;unfold aZT ZD;simp only[HV];refine hs.nw fun b6 H hs=>?_
  have hcp:=hZw hc hz.k;have h6:=gZ1 hk6;have hroom:=nZB (k:=k) (per:=Lay.Zs s) hk6;have hcell:=nZX (os:=[(r+Lay.Zx k (Lay.Zs s),w,1),aZT]) (n:=0) (hs.get 7 (b:=b6) rfl);refine Za.use (iZe (some ⟨b6,0,none⟩) 2 2 [(r+Lay.Zx k (Lay.Zs s),w,1),aZT] rfl (by omega) (fun o ho=>?_) H hcell) ?_
  ·simp only[List.mem_cons,List.not_mem_nil,or_false]at ho;rcases ho with rfl|rfl
   ·exact⟨by show r+Lay.Zx k (Lay.Zs s)≤_;omega,by show w≤_;omega,by show 1≤_;omega⟩
   ·exact⟨by decide,by decide,by decide⟩
  have e:bZP [(r+Lay.Zx k (Lay.Zs s),w,1),aZT]=o:=by rw[mZZ,ho];rfl
  rw[e];obtain⟨o1,o2,o3⟩:=o;simp only[HV];unfold ZD;simp only[HV];have hs:Sep [TT,pts b1 (bZI most sec s words),pts b2 (.obj (.cells (Lay.bZk most (Lay.Zs s)) 90)),Own 126 8 A3 cs.length m3 (bZp (aZA d k (Lay.Zs s) words)),Own 39 3 A2 j m2 ((cs.take j).map ZD).flatten] H:=hs.re [0,1,2,3,4] rfl;refine hs.appS 4 rfl kZu rfl (by omega) (by omega) rfl rfl (by omega) (by omega) fun A' m' H hs=>?_
  simp only[HV];rw[ZL (x:=(j:Int)+1) (by omega) (by omega)];refine lZL hm hp4 hps t (j+1) A' m' H (by omega) ?_;rw[htk,List.map_append,List.flatten_append];exact hs
include hg hk hk6 hw hC hT in
theorem kZT :Tr prog 60 #[.agg (Sup.aZR most sec s words),.int .i64 (k:Int),.int .i64 (if d=true then 1 else 0)] [TT] (sZp cs TT):=fun H hs=>by
 have hgg:=hg;unfold Sup.aZX at hgg;simp only[decide_eq_true_eq]at hgg;obtain⟨_,hm,hpp,_⟩:=hgg;have hsz:=dZ0 hpp;have hp4:bZ9 ((Lay.Zs s:Nat):Int)=true:=by rw[hsz.1];exact jZn hpp
 apply aZw.ok;unfold aZw;refine hs.nw fun b1 H hs=>?_
 have hs:Sep [TT,pts b1 (bZI most sec s words)] H:=hs;refine hs.ldw 1 rfl rfl ?_
 try simp only[Array.toArray_toList]
 refine Za.use (fZ5 hg hk H) ?_;simp only[HV];refine hs.nw fun b2 H hs=>?_
 refine hs.stw 2 (y:=Lay.bZk most (Lay.Zs s)) rfl rfl rfl rfl fun H hs=>?_;refine Zq rfl ?_
 try simp only[HS]
 refine hs.ld 2 (v:=.int .i64 ((Lay.Zs s:Nat):Int)) rfl rfl ?_;simp only[HV];refine hs.ld 1 (v:=.int .i64 (words:Int)) rfl rfl ?_;simp only[HV];refine(mZn (k:=k) (per:=Lay.Zs s) (words:=words) (by omega) hp4 ⟨hw.1,by omega⟩ d).use hs [] rfl rfl ?_;rintro _ _ H ⟨bp,rfl,rfl⟩ hs;simp only[HV];refine Zq rfl ⟨cs.length+1,?_⟩;have hs:Sep [pts bp (.row (bZp (aZA d k (Lay.Zs s) words)) 126 ((aZA d k (Lay.Zs s) words).length*8)),TT,pts b1 (bZI most sec s words),pts b2 (.obj (.cells (Lay.bZk most (Lay.Zs s)) 90))] H:=hs;have hs:=lZv hs 0 (n:=(aZA d k (Lay.Zs s) words).length) (s:=8) rfl (jZm _) rfl;have hs:Sep (Own 39 3 .none 0 0 []::[Own 126 8 (some ⟨bp,0,none⟩) (aZA d k (Lay.Zs s) words).length (aZA d k (Lay.Zs s) words).length (bZp (aZA d k (Lay.Zs s) words)),TT,pts b1 (bZI most sec s words),pts b2 (.obj (.cells (Lay.bZk most (Lay.Zs s)) 90))]) H:=⟨fun _=>none,H,fun _ _ h=>(nomatch h),Hp.le_refl _,fun _=>.inl rfl,Own.none _ _ _,hs⟩;rw[← hC.1]at hs⊢;exact lZL hk hk6 hw d hC hT (by omega) hp4 (iZM (by omega) hw.1) cs.length 0 .none 0 H (by omega) (hs.re [2,3,4,1,0] rfl)
end
section
variable {most k : Nat} {sec : Int} {s words : Nat} (hg : Sup.aZX most sec s words = true) (hk : k ≤ most) (hk6 : k ≤ 6) (hw : aZC k (Lay.Zs s) ≤ words ∧ words ≤ 1000) (d : Bool) {cs : List O3} (hC : fZa most k (Lay.Zs s) words (aZA d k (Lay.Zs s) words) cs) (H : Hp) (hT : T64 H) (hr : Rcd H)
include hg hk hk6 hw hC hT hr
theorem sZ6 {p:Nat}{o:O3}(hp:1≤p)(ho:cs[p-1]? =some o):Za prog 22 #[.agg (Sup.aZR most sec s words),.int .i64 (k:Int),.int .i64 (if d=true then 1 else 0),.int .i64 (p:Int)] H (RetE (.tuple #[.agg (ZD o).toArray,.int .i64 0]) H):=by
 have hpl:=(List.getElem?_eq_some_iff.1 ho).1;have h5:=(cZG d k (Lay.Zs s) words).2;have h5':=hC.1;apply Za.ret;apply cZq.ok;unfold cZq cZq.q1;refine(Sep.start H).nw fun b1 H1 hs=>?_
 refine hs.nw fun b2 H1 hs=>?_
 have hs:Sep [own H,pts b1 (bZI most sec s words),pts b2 (aZI (0,0,0))] H1:=hs;refine hs.ldw 1 rfl rfl ?_
 try simp only[Array.toArray_toList]
 refine(kZT hg hk hk6 hw d hC (TT:=own H) (fun H' h=>⟨hT.le h,hr.le h⟩)).use hs [0] rfl rfl ?_;rintro _ _ H1 ⟨A,m,rfl,rfl⟩ hs;simp only[HV];have hs:Sep [Own 39 3 A cs.length m (cs.map ZD).flatten,own H,pts b1 (bZI most sec s words),pts b2 (aZI (0,0,0))] H1:=hs;refine Zq rfl (Zh (by omega) (Zh (by omega) ?_));rw[show(p:Int)-1=((p-1:Nat):Int) by omega,aZu (by omega)];have hrow:(cs.map ZD)[p-1]? =some (ZD o):=by rw[List.getElem?_map,ho];rfl
 refine cZi.rdA (qZp (hs.own 0 rfl)) hrow rfl rfl (by rw[List.length_map];omega) ?_;refine hs.stw 3 (y:=(ZD o).toArray) rfl rfl rfl rfl fun H1 hs=>?_
 refine hs.ldw 3 rfl rfl ?_;exact hs.fin 1 rfl _
theorem uZJ :Za prog 28 #[.agg (Sup.aZR most sec s words),.int .i64 (k:Int),.int .i64 (if d=true then 1 else 0)] H (RetE (.tuple #[.agg (ZD (bZP (cs++[aZT]))).toArray,.int .i64 0]) H):=by
 have h5:=(cZG d k (Lay.Zs s) words).2;have h5':=hC.1;apply Za.ret;apply fZK.ok;unfold fZK;refine(Sep.start H).nw fun b1 H1 hs=>?_
 refine hs.nw fun b2 H1 hs=>?_
 have hs:Sep [own H,pts b1 (bZI most sec s words),pts b2 (aZI (0,0,0))] H1:=hs;refine hs.ldw 1 rfl rfl ?_
 try simp only[Array.toArray_toList]
 refine(kZT hg hk hk6 hw d hC (TT:=own H) (fun H' h=>⟨hT.le h,hr.le h⟩)).use hs [0] rfl rfl ?_;rintro _ _ H1 ⟨A,m,rfl,rfl⟩ hs;simp only[HV];have hs:Sep [Own 39 3 A cs.length m (cs.map ZD).flatten,own H,pts b1 (bZI most sec s words),pts b2 (aZI (0,0,0))] H1:=hs;refine Zq rfl ?_;refine(hr.le (hs.ow 1 rfl)).ld ?_;unfold aZT ZD;simp only[HV];refine hs.appS 0 rfl kZu rfl (by omega) (by omega) rfl rfl (by omega) (by omega) fun A' m' H1 hs=>?_
 simp only[HV];have hs:Sep [Own 39 3 A' (cs.length+1) m' ((cs++[aZT]).map ZD).flatten,own H,pts b1 (bZI most sec s words),pts b2 (aZI (0,0,0))] H1:=by
  rw[List.map_append,List.flatten_append];exact hs
 refine Za.use (iZe A' (cs.length+1) m' (cs++[aZT]) (by simp) (by omega) (fun o ho=>?_) H1 (qZp (hs.own 0 rfl))) ?_
 ·rcases List.mem_append.1 ho with h|h
  ·exact(hC.small o h).mono (by omega)
  ·rw[List.mem_singleton.1 h];exact⟨by decide,by decide,by decide⟩
 simp only[HV];refine hs.stw 3 (y:=(ZD (bZP (cs++[aZT]))).toArray) rfl rfl rfl rfl fun H1 hs=>?_
 refine hs.ldw 3 rfl rfl ?_;exact hs.fin 1 rfl _
def iZu (cs:List O3)(n:Nat):O3:=bZP (cs++[aZT,hZ8 n (lZ4 cs),hZ8 n (9,0,0)])
theorem iZU {n:Nat}(hn:n≤1000){A:OA}{m b1 b2 b3:Nat}:∀(t j:Nat) (a:O3) (H1:Hp),j+t=cs.length→smO 10000 a→(cs.drop j).foldl mxO a=lZ4 cs→
  Sep [Own 39 3 A cs.length m (cs.map ZD).flatten,own H,pts b1 (bZI most sec s words),pts b2 (aZI (0,0,0)),pts b3 (aZI a)] H1→
   aZh.l8 (Ret (.tuple #[.agg (ZD (iZu cs n)).toArray,.int .i64 0]) H) (t+1) (n:Int) ⟨b1,0,none⟩ ⟨b2,0,none⟩ A cs.length m ⟨b3,0,none⟩ A cs.length m (cs.length:Int) (j:Int) H1
 |0,j,a,H1,hj,ha,he,hs=>by
  have h5:=(cZG d k (Lay.Zs s) words).2;have h5':=hC.1;rw[List.drop_eq_nil_of_le (by omega)]at he;have he:a=lZ4 cs:=he;subst he;unfold aZh.l8;refine Zh (by omega) ?_;refine hs.ldw 2 rfl rfl ?_
  try simp only[Array.toArray_toList]
  refine Za.use (hZ4 hg H1) ?_;simp only[HV];refine hs.nw fun b5 H1 hs=>?_
  refine hs.stw 5 (y:=(ZD (9,0,0)).toArray) rfl rfl rfl rfl fun H1 hs=>?_
  refine(hr.le (hs.ow 1 rfl)).ld ?_;refine hs.ldw 4 rfl rfl ?_
  try simp only[Array.toArray_toList]
  refine ZM.use (pZt n hn (lZ4 cs) (ha.mono (by omega)) H1) ?_;simp only[HV];refine hs.ldw 5 rfl rfl ?_
  try simp only[Array.toArray_toList]
  refine ZM.use (pZt n hn (9,0,0) ⟨by decide,by decide,by decide⟩ H1) ?_;simp only[HV];have hm1:smO 1000000000 (hZ8 n (lZ4 cs)):=⟨Nat.le_trans (Nat.mul_le_mul hn ha.1) (by omega),Nat.le_trans (Nat.mul_le_mul hn ha.2.1) (by omega),Nat.le_trans (Nat.mul_le_mul hn ha.2.2) (by omega)⟩;have hm2:smO 1000000000 (hZ8 n (9,0,0)):=⟨by show n*9≤_;omega,by show n*0≤_;omega,by show n*0≤_;omega⟩;unfold iZu;generalize hZ8 n (lZ4 cs)=q1 at hm1;generalize hZ8 n (9,0,0)=q2 at hm2;obtain⟨u1,u2,u3⟩:=q1;obtain⟨v1,v2,v3⟩:=q2;unfold aZT ZD;simp only[HV];refine hs.nw fun b6 H1 hs=>?_
  have hcells:=fZB (hs.get 6 (b:=b6) rfl) 0 9 0 (by show 0+0+9≤9;omega);refine hs.app 0 (k:=3) (ys:=([aZT,(u1,u2,u3),(v1,v2,v3)].map ZD).flatten) rfl kZu rfl (by omega) (by omega) rfl ?_ rfl rfl (by omega) (by omega) fun A' m' H1 hs=>?_
  ·exact hcells
  simp only[HV];have hs:Sep [Own 39 3 A' (cs.length+3) m' ((cs++[aZT,(u1,u2,u3),(v1,v2,v3)]).map ZD).flatten,own H,pts b1 (bZI most sec s words),pts b2 (aZI (0,0,0))] H1:=by
   rw[List.map_append,List.flatten_append];exact hs.re [0,1,2,3] rfl
  refine Za.use (iZe A' (cs.length+3) m' (cs++[aZT,(u1,u2,u3),(v1,v2,v3)]) (by simp) (by omega) (fun o ho=>?_) H1 (qZp (hs.own 0 rfl))) ?_
  ·rcases List.mem_append.1 ho with h|h
   ·exact(hC.small o h).mono (by omega)
   ·simp only[List.mem_cons,List.not_mem_nil,or_false]at h;rcases h with rfl|rfl|rfl
    ·exact⟨by decide,by decide,by decide⟩
    ·exact hm1
    ·exact hm2
  simp only[HV];refine hs.stw 3 (y:=(ZD (bZP (cs++[aZT,(u1,u2,u3),(v1,v2,v3)]))).toArray) rfl rfl rfl rfl fun H1 hs=>?_
  refine hs.ldw 3 rfl rfl ?_;exact hs.fin 1 rfl _
 |t+1,j,a,H1,hj,ha,he,hs=>by
  have h5:=(cZG d k (Lay.Zs s) words).2;have h5':=hC.1;have hjl:j<cs.length:=by omega
  have hrow:(cs.map ZD)[j]? =some (ZD (cs[j]'hjl)):=by rw[List.getElem?_map,List.getElem?_eq_getElem hjl];rfl
  have hsm:=hC.small _ (List.getElem_mem hjl);rw[List.drop_eq_getElem_cons hjl,List.foldl_cons]at he;unfold aZh.l8;refine Zm (by omega) ?_;refine cZi.rdA (qZp (hs.own 0 rfl)) hrow rfl rfl (by rw[List.length_map];omega) ?_;generalize cs[j]'hjl=o at hsm he;refine hs.nw fun b4 H1 hs=>?_
  refine hs.stw 5 (y:=(ZD o).toArray) rfl rfl rfl rfl fun H1 hs=>?_
  refine hs.ldw 5 rfl rfl ?_
  try simp only[Array.toArray_toList]
  refine ZM.use (lZY o (hsm.mono (by omega)) H1) ?_;simp only[HV];refine hs.ldw 4 rfl rfl ?_
  try simp only[Array.toArray_toList]
  refine ZM.use (lZY a (ha.mono (by omega)) H1) ?_;simp only[HV];rw[ZL (x:=(j:Int)+1) (by omega) (by omega)];by_cases hgt:lZW o>lZW a
  ·have hmx:mxO a o=o:=by unfold mxO;rw[if_pos hgt]
   rw[hmx]at he;refine Zm (by omega) ?_;refine hs.ldw 5 rfl rfl ?_;refine hs.stw 4 (y:=(ZD o).toArray) rfl rfl rfl rfl fun H1 hs=>?_
   exact iZU hn t (j+1) o H1 (by omega) hsm he (hs.re [0,1,2,3,4] rfl)
  ·have hmx:mxO a o=a:=by unfold mxO;rw[if_neg hgt]
   rw[hmx]at he;refine Zh (by omega) ?_;exact iZU hn t (j+1) a H1 (by omega) ha he (hs.re [0,1,2,3,4] rfl)
theorem rZe {n:Nat}(hn:n≤1000):Za prog 29 #[.agg (Sup.aZR most sec s words),.int .i64 (k:Int),.int .i64 (if d=true then 1 else 0),.int .i64 (n:Int)] H (RetE (.tuple #[.agg (ZD (iZu cs n)).toArray,.int .i64 0]) H):=by
 apply Za.ret;apply aZh.ok;unfold aZh aZh.q1;refine(Sep.start H).nw fun b1 H1 hs=>?_
 refine hs.nw fun b2 H1 hs=>?_
 have hs:Sep [own H,pts b1 (bZI most sec s words),pts b2 (aZI (0,0,0))] H1:=hs;refine hs.ldw 1 rfl rfl ?_
 try simp only[Array.toArray_toList]
 refine(kZT hg hk hk6 hw d hC (TT:=own H) (fun H' h=>⟨hT.le h,hr.le h⟩)).use hs [0] rfl rfl ?_;rintro _ _ H1 ⟨A,m,rfl,rfl⟩ hs;simp only[HV];have hs:Sep [Own 39 3 A cs.length m (cs.map ZD).flatten,own H,pts b1 (bZI most sec s words),pts b2 (aZI (0,0,0))] H1:=hs;refine Zq rfl (Zh (by omega) (Zh (by omega) ?_));refine hs.nw fun b3 H1 hs=>⟨cs.length+1,?_⟩
 exact iZU hg hk hk6 hw d hC H hT hr hn cs.length 0 (0,0,0) H1 (by omega) ⟨by decide,by decide,by decide⟩ rfl hs
end
end Eng
end Go.Proofs.YtgfildcgihbdaaaGreatDoor
