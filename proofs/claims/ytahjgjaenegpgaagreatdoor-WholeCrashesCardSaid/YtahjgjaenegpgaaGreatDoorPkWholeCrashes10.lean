import Derived.Test.YtahjgjaenegpgaaGreatDoorProg
import Derived.Test.YtahjgjaenegpgaaGreatDoorPkWholeCrashes9
set_option maxRecDepth 100000
set_option linter.unusedSimpArgs false
set_option linter.unusedVariables false
set_option linter.unnecessarySimpa false
set_option linter.unusedSectionVars false
namespace Go.Proofs.YtahjgjaenegpgaaGreatDoor
open Tryz (prog)
namespace Eng
open Go Go.Hw Go.Form W Shp Dsk Str Are Trn Pas Pln Rec Srt Rng
theorem uZ8 (b:Bool)(K:Value→Prop)(k:K (.bool b)):DR prog [4] (.bool b) K:=by
 show DT prog 4 (.bool b) K
 unfold DT;rw[show prog.underlying 4=some .bool by kernel_rfl];exact k
theorem eZv (x:Int)(K:Value→Prop)(k:K (.int .i64 x)):DR prog [53] (.int .i64 x) K:=by
 show DT prog 53 (.int .i64 x) K
 unfold DT;rw[show prog.underlying 53=some (.int .i64) by kernel_rfl];exact k
theorem oZw {p:Prop}[Decidable p]{X Y:Prop}(h1:p→Y)(h2:¬p→X):BIf (!decide p) X Y:=by
 by_cases h:p
 ·rw[decide_eq_true h];exact aZr rfl (h1 h)
 ·rw[decide_eq_false h];exact aZN rfl (h2 h)
def fZB (l:List UInt64):Prop:=∀ x∈l,x.toNat<18446744069414584321
instance (l :List UInt64):Decidable (fZB l):=by unfold fZB;infer_instance
theorem kZZ (H:Hp)(A:Option Addr)(n m:Nat)(xs:List UInt64)(hn:n=xs.length)(hl:n≤1000000000)(hc:Cells H A (Ze xs)):
  ∀(t j:Nat),j+t=n→(∀ k x,k<j→xs[k]? =some x→x.toNat<18446744069414584321)→
   ZH.l2 (fun v H'=>(∃ i:Int,v= .int .i64 i∧(i<0↔fZB xs))∧H'=H) (t+1) A n m 143 #[] #[] (n:Int) (j:Int) H
 |0,j,hj,hall=>by
  unfold ZH.l2;refine Zl (by omega) ⟨⟨-1,rfl,fun _ x hx=>?_,fun _=>by decide⟩,rfl⟩;obtain⟨k,hk,rfl⟩:=List.getElem_of_mem hx;exact hall k _ (by omega) (List.getElem?_eq_getElem hk)
 |t+1,j,hj,hall=>by
  unfold ZH.l2;refine Zw (by omega) ?_;have hg:xs[j]? =some (xs[j]'(by omega)):=List.getElem?_eq_getElem (by omega);have hg2:(Ze xs)[j]? =some (.int .u64 ((xs[j]'(by omega)).toNat:Int)):=by rw[aZ3,hg];rfl
  refine hc.read hg2 rfl (by rw[ZB];omega) ?_;simp only[HV];refine aZN (by kernel_rfl) ?_;have hv:Zc prog 143 #[.int .u64 ((xs[j]'(by omega)).toNat:Int)] H (RetE (.bool (!(decide (((xs[j]'(by omega)).toNat:Int)<18446744069414584321)))) H):=by
   apply eZF.ok;unfold eZF;have hg:Zc prog 144 #[.int .u64 ((xs[j]'(by omega)).toNat:Int)] H (RetE (.bool (decide (((xs[j]'(by omega)).toNat:Int)<18446744069414584321))) H):=by
    apply gZK.ok;unfold gZK;exact RetE.mk _ _
   refine Zc.use hg ?_;simp only[HV];exact RetE.mk _ _
  refine Zc.use hv ?_;have hr:bZC prog 143=[4]:=by kernel_rfl
  rw[hr];refine uZ8 _ _ ?_;simp only[HV];generalize hz:((xs[j]'(by omega)).toNat:Int)=z at*;refine oZw (fun hx=>?_) (fun hx=>?_)
  ·rw[ZT (x:=(j:Int)+1) (by omega) (by omega)];refine kZZ H A n m xs hn hl hc t (j+1) (by omega) fun k x hk hkx=>?_
   by_cases e:k=j
   ·subst e;rw[hg]at hkx;have:=Option.some.inj hkx;rw[this]at hz;omega
   ·exact hall k x (by omega) hkx
  ·refine⟨⟨j,rfl,fun h=>by omega,fun h=>?_⟩,by trivial⟩;have:=h _ (List.getElem_mem (show j<xs.length by omega));omega
theorem rZe (A:Option Addr)(n m:Nat)(xs:List UInt64)(hn:n=xs.length)(hl:n≤1000000000)(H:Hp)(hc:Cells H A (Ze xs)):
  Zc prog 96 #[.slice A n m] H fun v H'=>(∃ i:Int,v= .tuple #[.int .i64 i,.bool (decide (fZB xs))])∧H'=H:=by
 apply fZl.ok;unfold fZl;have hI:Zc prog 142 #[.slice A n m,.func (.func 143) #[] #[]] H (fun v H'=>(∃ i:Int,v= .int .i64 i∧(i<0↔fZB xs))∧H'=H):=by
  apply ZH.ok;unfold ZH;exact⟨n+1,kZZ H A n m xs hn hl hc n 0 (by omega) fun k x hk=>absurd hk (by omega)⟩
 refine Zc.mono hI ?_;rintro _ _ ⟨⟨i,rfl,hi⟩,rfl⟩;simp only[HV];by_cases h:i<0
 ·rw[decide_eq_true h,decide_eq_true (hi.1 h)];exact⟨⟨_,rfl⟩,by trivial⟩
 ·rw[decide_eq_false h,decide_eq_false (fun hh=>h (hi.2 hh))];exact⟨⟨_,rfl⟩,by trivial⟩
inductive hZX (l:List UInt64)(most:Int):Int→Int→Int→Prop
 |len (h:lg (l.length:Int)=none):hZX l most 0 0 4
 |big {k:Nat} (h:lg (l.length:Int)=some k) (h2:most<k):hZX l most 0 0 14
 |word {k:Nat} {i:Int} (h:lg (l.length:Int)=some k) (h2:(k:Int)≤most) (h3:¬fZB l):hZX l most 0 i 3
 |ok {k:Nat} (h:lg (l.length:Int)=some k) (h2:(k:Int)≤most) (h3:fZB l):hZX l most k 0 0
theorem rZq (A:Option Addr)(n m:Nat)(xs:List UInt64)(most:Int)(hn:n=xs.length)(hl:n≤1000000000)(H:Hp)(hT:T64 H)(hc:Cells H A (Ze xs)):
  Zc prog 59 #[.slice A n m,.int .i64 most] H fun v H'=>(∃ k i e,hZX xs most k i e∧v= .tuple #[.int .i64 k,.int .i64 i,.int .i64 e])∧H'=H:=by
 apply fZZ.ok;unfold fZZ;refine Zc.use (iZl (n:Int) H hT) ?_;unfold bZQ;rw[hn];cases e:lg (xs.length:Int)with
 |none=>
  simp only[HV];exact⟨⟨_,_,_,.len e,rfl⟩,by trivial⟩
 |some k=>
  simp only[HV];by_cases h2:(k:Int)>most
  ·exact Zw h2 ⟨⟨_,_,_,.big e h2,rfl⟩,by trivial⟩
  ·refine Zl h2 ?_;refine Zc.mono (rZe A xs.length m xs rfl (by omega) H hc) ?_;rintro _ _ ⟨⟨i,rfl⟩,rfl⟩;simp only[HV];refine oZw (fun hx=>?_) (fun hx=>?_)
   ·exact⟨⟨_,_,_,.ok e (by omega) hx,rfl⟩,by trivial⟩
   ·exact⟨⟨_,_,_,.word e (by omega) hx,rfl⟩,by trivial⟩
def wiR (per k:Nat):Nat:=dZw per 9 (2^k) 0 (2^k)
def wiW (per k:Nat):Nat:=(pcs per 9 (2^k) 0 (2^k)).length
theorem lZR (per k:Nat):wiR per k≤wiW per k:=List.length_filter_le _ _
theorem lZS (per k:Nat):wiW per k≤2^k:=dZm per 9 (2^k) 0 (2^k)
def oZ5 (mp dp ap rp:Nat)(e:Eg)(A:Option Addr)(n mm:Nat)(d:D)(c:Cn)(k:Nat)(l:List UInt64)(R:As)(v:Value)(M:List As):Prop:=
 ∃ peak':Int,peak'≤e.arena∧
 ((∃ d' c',bZU d d' (wiR (D.per d) k+nS (D.per d) (2^k)) (wiW (D.per d) k) 1∧Clean d' c'∧Sam (inX (exX e.most (D.per d) 0 k)) c c'∧cws c' (D.per d) 9 (2^k)=l∧v= .tuple #[.int .u32 (eZL l:Int),.int .i64 0]∧M=[pts mp (aZs e ap rp A n mm),Ar ap e.arena peak' [],Dk dp d',R])∨
 (∃ d' s,Cut d d' (wiR (D.per d) k+wiW (D.per d) k+1+nS (D.per d) (2^k))∧Left d' (fun c'=>Sam (inX (exX e.most (D.per d) 0 k)) c c')∧v= .tuple #[.int .u32 s,.int .i64 8]∧M=[pts mp (aZs e ap rp A n mm),Ar ap e.arena peak' [],Dk dp d',R]))
theorem uZs {mp dp ap rp:Nat}{e:Eg}{A:Option Addr}{n mm:Nat}{d:D}{c:Cn}{k:Nat}{l:List UInt64}{R:As}{As:Option Addr}{ns ms:Nat}(hc:Clean d c)(he:fZU e d)(hk:k≤e.most)(ho:d.rd≤100000000000∧d.wr≤100000000000∧d.sy≤100000000000)
  (hl:l.length=2^k) (hns:ns=l.length) (hms:ns≤ms) (hR:∀ H,R H→Cells H As (Ze l)):
  Tr prog 62 #[.pointer (some ⟨mp,0,none⟩),.pointer (some ⟨dp,0,none⟩),.int .i64 (k:Int),.slice As ns ms] [pts mp (aZs e ap rp A n mm),Ar ap e.arena e.peak [],Dk dp d,R] (oZ5 mp dp ap rp e A n mm d c k l R):=fun H hs=>by
 subst hns;have hok:=hc.ok;have hpd:=Ok.per_le hok;have hlay:=he.lay;have hm32:=he.most;have h2k:=cZU (k:=k) (by omega);have h2p:=Nat.two_pow_pos k;have hpk:=he.peak;have hcap:=he.arena;have hper:=he.per;have hcapd:D.per d≤e.arena:=by
  have:=he.least;unfold bZt at this;rw[hper]at this;omega
 have hx0:On d (exX e.most (D.per d) 0 k):=hlay.on hok (by omega) hk;obtain⟨x,hX⟩:∃ x,x=exX e.most (D.per d) 0 k:=⟨_,rfl⟩;have hx:On d x:=by rw[hX];exact hx0
 have hxw:x.w=l.length:=by rw[hX,hl];rfl
 have hxf:x.f=9:=by rw[hX];show 9+0*_=9;omega
 have hwR:dZw (D.per d) x.f l.length 0 l.length=wiR (D.per d) k:=by rw[hxf,hl];rfl
 have hwW:(pcs (D.per d) x.f l.length 0 l.length).length=wiW (D.per d) k:=by rw[hxf,hl];rfl
 have hb1:=lZR (D.per d) k;have hb2:=lZS (D.per d) k;have hin:=oZf hx;apply ZM.ok;unfold ZM;have j2:∀ q H,Sep [Dk dp d,pts q (ZQ dp ap x),pts mp (aZs e ap rp A n mm),Ar ap e.arena e.peak [],R] H→ZM.j2 (fun v H'=>∃ M,oZ5 mp dp ap rp e A n mm d c k l R v M∧Sep M H') (some ⟨dp,0,none⟩) As l.length ms 0 (some ⟨q,0,none⟩) H:=fun q H hs=>by
  unfold ZM.j2;refine aZa rfl ?_;have bad:∀(peak':Int) (d':D) (s:Int) (H:Hp),peak'≤e.arena→Cut d d' (wiR (D.per d) k+wiW (D.per d) k+1+nS (D.per d) (2^k))→Left d' (fun c'=>Sam (inX x) c c')→Sep [pts mp (aZs e ap rp A n mm),Ar ap e.arena peak' [],Dk dp d',R] H→∃ M,oZ5 mp dp ap rp e A n mm d c k l R (.tuple #[.int .u32 s,.int .i64 8]) M∧Sep M H:=fun peak' d' s H h1 h2 h3 hs=>
   ⟨_,⟨peak',h1,.inr ⟨d',s,h2,by rw[← hX];exact h3,rfl,rfl⟩⟩,hs⟩
  refine(iZ9 (p:=q) (dp:=dp) (ap:=ap) (d:=d) (x:=x) (cap:=e.arena) (peak:=e.peak) (bufs:=[]) (src:=l) hok hc.down hx (by omega) 0 rfl (by omega) (by omega) hms (by rw[bZ7];omega) hR).use hs [1,0,3,4] rfl rfl ?_;have hpk1:mx e.peak (ZN []+(D.per d:Int))≤e.arena:=iZR hpk (by rw[bZ7];omega);rintro _ _ H (⟨hP,rfl,rfl⟩|⟨d',hD,hfu,rfl,rfl⟩) hs
  ·simp only[HV];unfold ZM.j4;refine aZa rfl ?_;have h2:=hP.sy;have hrd:=hP.rd;have hwr:=hP.wr;rw[hwR,hwW]at hP;refine(hZz (p:=dp) hP.ok (by rw[h2];omega)).use hs [1] rfl rfl ?_;rintro _ _ H ⟨rfl,rfl⟩ hs;have hpw:=vZ0 x hok l;generalize hd1:eZg d x l.length 0 l=d1 at*;have hpe1:D.per d1=D.per d:=hP.per;have hsam:Sam (inX x) c d1.now:=fun i hi=>(hc.prog hP i).2 hi
   have hcw:cws d1.now (D.per d) 9 (2^k)=l:=by rw[← hxf,←hpe1,←hl,←gZz (d:=d1) (c:=d1.now) (fun _=>rfl) x l.length];exact hpw
   rcases hc.sync hP hin with⟨e0,hw2,hc2⟩|⟨e0,hcut,hleft⟩
   ·rw[e0];simp only[HV];unfold ZM.j6;refine ZA rfl ?_;have hs:Sep [Dk dp d1.syncD,pts q (ZQ dp ap x),Ar ap e.arena (mx e.peak (ZN []+(D.per d:Int))) [],R,pts mp (aZs e ap rp A n mm)] H:=hs;have hpe2:D.per d1.syncD=D.per d:=hw2.per;have hrd2:=hw2.rd;have hx2:On d1.syncD x:=⟨hx.w1,hx.s1,by rw[hw2.sec];exact hx.fit,by rw[hpe2];exact hx.room⟩;refine(lZ0 (p:=q) (dp:=dp) (ap:=ap) (x:=x) (cap:=e.arena) (peak:=mx e.peak (ZN []+(D.per d:Int))) (bufs:=[]) hc2.ok hc2.down hx2 (by omega) (by rw[bZ7,hpe2];omega)).use hs [1,0,2] rfl rfl ?_;have hw0:pws d1.syncD x 0 x.w=l:=by rw[gZz hc2.now,hpe2,hxf,hxw,hl];exact hcw
    have hpk2:mx (mx e.peak (ZN []+(D.per d:Int))) (ZN []+(D.per d1.syncD:Int))≤e.arena:=iZR hpk1 (by rw[bZ7,hpe2];omega);rintro _ _ H (⟨hf,rfl,rfl⟩|⟨j,hj,hf,rfl,rfl⟩) hs
    ·rw[hw0];simp only[HV];rw[hpe2,hxw,hl]at hf hs;have hgo:=hw2.trans (bZU.rdG hf);refine⟨_,⟨_,hpk2,.inl ⟨_,_,hgo,hc2.rdG _,by rw[← hX];exact hsam,hcw,rfl,rfl⟩⟩,?_⟩;rw[hpe2];exact hs.re [4,2,1,3] rfl
    ·simp only[HV];rw[hpe2,hxw,hl]at hj;refine bad _ _ _ H hpk2 ((hw2.cut (Cut.rdG hc2 hf hj)).more (by omega)) ((Left.rdG hc2 j).mono fun c' e=>by rw[e];exact hsam) (hs.re [4,2,1,3] rfl)
   ·rw[e0];simp only[HV];unfold ZM.j6;refine ZK (by decide) ?_;refine bad _ _ _ H hpk1 (hcut.more (by omega)) (hleft.mono fun _ h=>h.2) (hs.re [4,2,0,3] rfl)
  ·simp only[HV];unfold ZM.j4;refine aZe (by decide) ?_;unfold ZM.j6;refine ZK (by decide) ?_;have hf1:1≤d.fuse:=by have h1:=hD.cnt;have h2:=hD.rd;have h3:=hD.wr;omega
   rw[hwR,hwW]at hfu;refine bad _ _ _ H hpk1 ((hc.deadCut hD hin hfu hf1).more (by omega)) (hc.deadLeft hD) (hs.re [4,2,1,3] rfl)
 have pipe:∀ H,Sep [pts mp (aZs e ap rp A n mm),Ar ap e.arena e.peak [],Dk dp d,R] H→Zc prog 78 #[.pointer (some ⟨dp,0,none⟩),.pointer (some ⟨ap,0,none⟩),.agg (Lay.dZe e.most (D.per d)),.int .i64 0,.int .i64 (k:Int)] H fun v H1=>∃ q,v= .tuple #[.pointer (some ⟨q,0,none⟩),.int .i64 0]∧Sep [Dk dp d,pts q (ZQ dp ap x),pts mp (aZs e ap rp A n mm),Ar ap e.arena e.peak [],R] H1:=fun H hs=>by
  refine(jZL (dp:=dp) (ap:=ap) (i:=0) hok hlay (by omega) hk).use hs [2] rfl rfl ?_;rintro _ _ H ⟨q,rfl,rfl⟩ hs;exact⟨q,rfl,by rw[hX];exact hs⟩
 have eb:(((jZj e ap rp A n mm).toList.drop 4).take 17).toArray=Lay.dZe e.most (D.per d):=by rw[← hper];rfl
 try simp only[HS]
 constructor
 ·refine hs.ld 0 (v:=.pointer (some ⟨ap,0,none⟩)) rfl rfl ?_;simp only[HV];refine hs.lda 0 (off:=4) (n:=17) rfl (by show 4+17≤32;omega) ?_;rw[eb];refine Zc.mono (pipe H hs) ?_;rintro _ H ⟨q,rfl,hs⟩;simp only[HV];exact j2 q H hs
 ·refine hs.lda 0 (off:=4) (n:=17) rfl (by show 4+17≤32;omega) ?_;refine hs.ld 0 (v:=.pointer (some ⟨ap,0,none⟩)) rfl rfl ?_;simp only[HV];rw[eb];refine Zc.mono (pipe H hs) ?_;rintro _ H ⟨q,rfl,hs⟩;simp only[HV];exact j2 q H hs
theorem dZV.go {g:FuncId}{args:Array Value}{H:Hp}{K:Value→Hp→Prop}(h:fZC prog g=true)(k:Zc prog g args H K):dZV prog g args H K:=aZN h k
def aZQ (m:Mn)(k:Nat):Mn:=m.add (cZv m k)
def aZ9 (m:Mn)(k:Nat)(l:List UInt64):Mn:={ aZQ m k with inp:=l}.add (dZf (aZQ m k) k l)
def ldR (per k:Nat):Nat:=16+wiR per k+nS per (2^k)
def ldW (per k:Nat):Nat:=2+wiW per k
section
variable {p dp : Nat} {d : D} {c : Cn} {m : Mn} {peak : Int} (hc : Clean d c) (hh : Holds d.sec d.size m c) (hS : Small 100000 m) (ho : d.rd ≤ 800000 ∧ d.wr ≤ 800000 ∧ d.sy ≤ 800000) (hpk : peak ≤ m.arena)
def iZQ (p dp:Nat)(d:D)(m:Mn)(peak:Int)(l:List UInt64)(RR TT:As)(v:Value)(M:List As):Prop:=
 (∃ k i e,hZX l m.most k i e∧e≠0∧v= .tuple #[.int .i64 i,.int .i64 e]∧M=[En p dp (some (egM d m peak)),Dk dp d,RR,TT])∨
 (∃ k:Nat,lg (l.length:Int)=some k∧k≤m.most∧fZB l∧
  ((∃ d' c' peak',peak'≤(m.arena:Int)∧bZU d d' (ldR (d.size/8) k) (ldW (d.size/8) k) 3∧Clean d' c'∧Holds d.sec d.size (aZ9 m k l) c'∧v= .tuple #[.int .i64 0,.int .i64 0]∧M=[En p dp (some (egM d (aZ9 m k l) peak')),Dk dp d',RR,TT])∨
  (∃ d',Cut d d' (ldR (d.size/8) k+ldW (d.size/8) k+3)∧Left d' (fun c'=>Holds d.sec d.size m c'∨Holds d.sec d.size (aZQ m k) c'∨Holds d.sec d.size (aZ9 m k l) c')∧v= .tuple #[.int .i64 0,.int .i64 8]∧M=[En p dp none,Dk dp d',RR,TT])))
set_option maxHeartbeats 8000000 in
include hc hh hS ho hpk in
theorem pZp {l:List UInt64}{A:Option Addr}{n mm:Nat}{RR TT:As}(hn:n=l.length)(hnm:n≤mm)(hl20:l.length≤40000)(hR:∀ H,RR H→Cells H A (Ze l))(hT:(∀ H,TT H→T64 H)∨∀ H,RR H→T64 H):
  Tr prog 27 #[.pointer (some ⟨p,0,none⟩),.slice A n mm] [En p dp (some (egM d m peak)),Dk dp d,RR,TT] (iZQ p dp d m peak l RR TT):=fun H hs=>by
 subst hn;have he:=hh.eg hpk;obtain⟨mp,ap,rp,A',m',hs⟩:=En.whole hs;apply Zq.ok;unfold Zq Zq.q3 Zq.q2 Zq.q1;refine hs.nw fun b1 H hs=>?_
 refine hs.nw fun b2 H hs=>?_
 have chk:∀(L:List As) (H:Hp) (K:Value→Hp→Prop),Sep L H→L[6]? =some RR→L[7]? =some TT→(∀ k i e,hZX l m.most k i e→K (.tuple #[.int .i64 k,.int .i64 i,.int .i64 e]) H)→
   Zc prog 59 #[.slice A l.length mm,.int .i64 (m.most:Int)] H K:=fun L H K hs h6 h7 hk=>by
  obtain⟨H1,hr,hr'⟩:=hs.see 6 h6;obtain⟨H2,ht,ht'⟩:=hs.see 7 h7;refine Zc.mono (rZq A l.length mm l m.most rfl (by omega) H (hT.elim (fun f=>(f _ ht).le ht') fun f=>(f _ hr).le hr') ((hR _ hr).le hr')) ?_;rintro _ _ ⟨⟨k,i,e,h,rfl⟩,rfl⟩;exact hk k i e h
 have hk0:∀{k:Nat},lg (l.length:Int)=some k→l.length=2^k:=fun h=>by have:=(dZl h).2;omega
 have hld:=hS.ld;have hpe:(egM d m peak).per=D.per d:=rfl;have j4:∀ k i e b3 H,hZX l m.most k i e→Sep [pts p (aZJ dp (some mp)),pts mp (aZs (egM d m peak) ap rp A' (psE (egM d m peak)).length m'),Ar ap m.arena peak [],pts rp (aZi dp 1 8 ((8*(egM d m peak).per:Nat):Int)),Own 122 8 A' (psE (egM d m peak)).length m' (bZR (psE (egM d m peak))),Dk dp d,RR,TT,
   pts b1 (.obj (.cells #[.pointer (some ⟨p,0,none⟩)] 28)),pts b2 (.obj (.cells #[.slice A l.length mm] 22)),pts b3 (.obj (.cells #[.int .i64 k] 3))] H→
   Zq.j4 (fun v H'=>∃ M,iZQ p dp d m peak l RR TT v M∧Sep M H') ⟨b1,0,none⟩ ⟨b2,0,none⟩ i e ⟨b3,0,none⟩ H:=fun k i e b3 H hv hs=>by
  unfold Zq.j4 Zq.j4.q4 Zq.j4.q3 Zq.j4.q2 Zq.j4.q1;have bad:∀(h:e≠0),∃ M,iZQ p dp d m peak l RR TT (.tuple #[.int .i64 i,.int .i64 e]) M∧Sep M H:=fun h=>
   ⟨_,.inl ⟨k,i,e,hv,h,rfl,rfl⟩,En.unwhole (L:=[Dk dp d,RR,TT]) (hs.re [0,1,2,3,4,5,6,7] rfl)⟩
  cases hv with
  |len h=>exact ZK (by decide) (bad (by decide))
  |big h h2=>exact ZK (by decide) (bad (by decide))
  |word h h2 h3=>exact ZK (by decide) (bad (by decide))
  |ok hlg hkm hcan=>
  rename_i k
  clear bad;refine ZA rfl ?_;have hkm:k≤m.most:=by omega
  have hl:=hk0 hlg;have hfin:∀ v M,((∃ d' c' peak',peak'≤(m.arena:Int)∧bZU d d' (ldR (d.size/8) k) (ldW (d.size/8) k) 3∧Clean d' c'∧Holds d.sec d.size (aZ9 m k l) c'∧v= .tuple #[.int .i64 0,.int .i64 0]∧M=[En p dp (some (egM d (aZ9 m k l) peak')),Dk dp d',RR,TT])∨
  (∃ d',Cut d d' (ldR (d.size/8) k+ldW (d.size/8) k+3)∧Left d' (fun c'=>Holds d.sec d.size m c'∨Holds d.sec d.size (aZQ m k) c'∨Holds d.sec d.size (aZ9 m k l) c')∧v= .tuple #[.int .i64 0,.int .i64 8]∧M=[En p dp none,Dk dp d',RR,TT]))→iZQ p dp d m peak l RR TT v M:=fun v M h=>.inr ⟨k,hlg,hkm,hcan,h⟩
  have j7:∀ b4 H,Sep [pts p (aZJ dp (some mp)),pts mp (aZs (egM d m peak) ap rp A' (psE (egM d m peak)).length m'),Ar ap m.arena peak [],pts rp (aZi dp 1 8 ((8*(egM d m peak).per:Nat):Int)),Own 122 8 A' (psE (egM d m peak)).length m' (bZR (psE (egM d m peak))),Dk dp d,RR,TT,
    pts b1 (.obj (.cells #[.pointer (some ⟨p,0,none⟩)] 28)),pts b2 (.obj (.cells #[.slice A l.length mm] 22)),pts b3 (.obj (.cells #[.int .i64 (k:Int)] 3)),pts b4 (bZM { cZv m k with s:=0})] H→
    Zq.j7 (fun v H'=>∃ M,iZQ p dp d m peak l RR TT v M∧Sep M H') ⟨b1,0,none⟩ ⟨b2,0,none⟩ ⟨b3,0,none⟩ ⟨b4,0,none⟩ H:=fun b4 H hs=>by
   unfold Zq.j7;refine hs.nw fun b5 H hs=>?_
   refine hs.ld 8 (v:=.pointer (some ⟨p,0,none⟩)) rfl rfl ?_;simp only[HV]
   try simp only[HS]
   refine hs.ld 0 (v:=.pointer (some ⟨mp,0,none⟩)) rfl rfl ?_;simp only[HV];refine hs.nw fun b6 H hs=>?_
   try simp only[HS]
   refine hs.st 13 rfl (by show 0<1;omega) rfl fun H hs=>?_;refine hs.ld 8 (v:=.pointer (some ⟨p,0,none⟩)) rfl rfl ?_;simp only[HV];refine hs.nw fun b7 H hs=>?_
   have hs:=Me.shut (mp:=mp) (dp:=dp) (e:=egM d m peak) (ap:=ap) (rp:=rp) (A:=A') (m:=m') (L:=[pts p (aZJ dp (some mp)),Dk dp d,RR,TT,pts b1 (.obj (.cells #[.pointer (some ⟨p,0,none⟩)] 28)),pts b2 (.obj (.cells #[.slice A l.length mm] 22)),pts b3 (.obj (.cells #[.int .i64 (k:Int)] 3)),pts b4 (bZM { cZv m k with s:=0}),pts b5 _,pts b6 _,pts b7 _]) (hs.re [1,2,3,4,0,5,6,7,8,9,10,11,12,13,14] rfl);apply ZO.ok;unfold ZO;refine⟨4,?_⟩;obtain⟨g1,g2,g3,g4⟩:=vZV hh hS (by omega) hkm;have hres1:bZC prog 60=[53]:=by kernel_rfl
   have hres2:bZC prog 61=[53]:=by kernel_rfl
   have hres3:bZC prog 63=[53]:=by kernel_rfl
   have bad:∀(X:As) (L':List As) (H:Hp) (d':D),Sep (X::Dk dp d'::pts p (aZJ dp (some mp))::RR::TT::L') H→Cut d d' (ldR (d.size/8) k+ldW (d.size/8) k+3)→Left d' (fun c'=>Holds d.sec d.size m c'∨Holds d.sec d.size (aZQ m k) c'∨Holds d.sec d.size (aZ9 m k l) c')→
     Zc prog 39 #[.pointer (some ⟨p,0,none⟩),.int .i64 8] H fun v H'=>v= .int .i64 8∧∃ M,iZQ p dp d m peak l RR TT (.tuple #[.int .i64 0,.int .i64 8]) M∧Sep M H':=fun X L' H d' hs h1 h2=>by
    have hs:Sep [X,Dk dp d',pts p (aZJ dp (some mp)),RR,TT] H:=Sep.take (L:=L') hs;refine(eZo (p:=p) (dp:=dp) (mp:=mp) 8).use hs [2] rfl rfl ?_;rintro _ _ H ⟨rfl,rfl⟩ hs;exact⟨rfl,_,hfin _ _ (.inr ⟨d',h1,h2,rfl,rfl⟩),hs.re [0,2,3,4] rfl⟩
   unfold ZO.l2;refine Zw (by decide) ⟨by decide,by decide,?_⟩;simp only[HV];refine hs.ldr 11 (v:=.func (.func 60) #[] #[.pointer (some ⟨b6,0,none⟩),.pointer (some ⟨b4,0,none⟩)]) rfl rfl ?_;refine dZV.go (by kernel_rfl) ?_;rw[hres1];apply cZL.ok;unfold cZL;simp only[HV];refine hs.ld 10 (v:=.pointer (some ⟨mp,0,none⟩)) rfl rfl ?_;simp only[HV];refine hs.ldw 8 rfl rfl ?_
   try simp only[Array.toArray_toList]
   have hseq:=Mn.seq_r hh;have hR1:ldR (d.size/8) k=8+(wiR (d.size/8) k+nS (d.size/8) (2^k))+8:=by unfold ldR;omega
   have hW1:ldW (d.size/8) k=1+wiW (d.size/8) k+1:=by unfold ldW;omega
   refine(hZ0 (mp:=mp) (dp:=dp) (e:=egM d m peak) hc he (by omega) (r:=cZv m k) { cZv m k with s:=0} rfl hseq.symm g1 g2 (by rw[hh.lastC];exact g3) (by show(k:Int)≤m.most;omega)).use hs [0,2] rfl rfl ?_;rintro _ _ H (⟨d1,rfl,hw1,hc1,rfl⟩|⟨d',rfl,hcut,hleft,rfl⟩) hs
   rotate_left
   ·simp only[HV];refine eZv _ _ ?_;simp only[HV];refine ZK (by decide) ?_;refine Zc.mono (bad _ _ H d' hs (hcut.more (by omega)) (hleft.mono fun c' h=>?_)) ?_
    ·rcases h with e|e
     ·left;rw[e];exact hh
     ·right;left;rw[e];exact g4
    ·rintro _ H ⟨rfl,M,h,hs⟩;simp only[HV];exact⟨M,h,hs⟩
   simp only[HV];refine eZv _ _ ?_;simp only[HV];refine ZA rfl ?_;rw[show IntKind.i64.wrap ((0:Int)+1)=1 by kernel_rfl];unfold ZO.l2;refine Zw (by decide) ⟨by decide,by decide,?_⟩;simp only[HV];refine hs.ldr 11 (v:=.func (.func 61) #[] #[.pointer (some ⟨b6,0,none⟩),.pointer (some ⟨b1,0,none⟩),.pointer (some ⟨b3,0,none⟩),.pointer (some ⟨b2,0,none⟩),.pointer (some ⟨b5,0,none⟩)]) rfl rfl ?_;refine dZV.go (by kernel_rfl) ?_;rw[hres2];apply cZM.ok;unfold cZM;simp only[HV];refine hs.ld 10 (v:=.pointer (some ⟨mp,0,none⟩)) rfl rfl ?_;simp only[HV];refine hs.ld 5 (v:=.pointer (some ⟨p,0,none⟩)) rfl rfl ?_;simp only[HV]
   try simp only[HS]
   refine hs.ld 2 (v:=.pointer (some ⟨dp,0,none⟩)) rfl rfl ?_;simp only[HV];refine hs.ld 7 (v:=.int .i64 (k:Int)) rfl rfl ?_;simp only[HV];refine hs.ld 6 (v:=.slice A l.length mm) rfl rfl ?_;simp only[HV];have h1r:(aZQ m k).r=cZv m k:=Mn.add_r _ _;have hh1:Holds d1.sec d1.size (aZQ m k) (bZG c (aZ2 1 8 (cZv m k).s) ((cZv m k).form d.size)):=by rw[hw1.sec,hw1.size];exact g4
   have ee:{ egM d m peak with r:=cZv m k}=egM d1 (aZQ m k) peak:=by unfold egM;rw[h1r,hw1.sec,hw1.size];rfl
   rw[ee]at hs;have he1:=hh1.eg (peak:=peak) hpk;generalize hc1e:bZG c (aZ2 1 8 (cZv m k).s) ((cZv m k).form d.size)=c1 at*;obtain⟨ap2,rp2,A2,m2,hs⟩:=Me.open hs;have hs:Sep [pts mp (aZs (egM d1 (aZQ m k) peak) ap2 rp2 A2 (psE (egM d1 (aZQ m k) peak)).length m2),Ar ap2 m.arena peak [],pts rp2 (aZi dp 1 8 ((8*(egM d1 (aZQ m k) peak).per:Nat):Int)),Own 122 8 A2 (psE (egM d1 (aZQ m k) peak)).length m2 (bZR (psE (egM d1 (aZQ m k) peak))),Dk dp d1,pts p (aZJ dp (some mp)),RR,TT,
    pts b1 (.obj (.cells #[.pointer (some ⟨p,0,none⟩)] 28)),pts b2 (.obj (.cells #[.slice A l.length mm] 22)),pts b3 (.obj (.cells #[.int .i64 (k:Int)] 3)),pts b4 (bZM { cZv m k with s:=0}),pts b5 _,pts b6 _,pts b7 _] H:=hs
   have hkk:=cZU (k:=k) (by have:=he.most;have:m.most≤32:=this;omega);have hrd1:=hw1.rd;have hwr1:=hw1.wr;have hsy1:=hw1.sy;refine(uZs (mp:=mp) (dp:=dp) (ap:=ap2) (rp:=rp2) (e:=egM d1 (aZQ m k) peak) (A:=A2) (n:=(psE (egM d1 (aZQ m k) peak)).length) (mm:=m2) (d:=d1) (c:=c1) (k:=k) (l:=l) (R:=RR) hc1 he1 hkm (by omega) hl rfl hnm hR).use hs [0,1,4,6] rfl rfl ?_;have hp1:D.per d1=d.size/8:=hw1.per;have htgt:∀ c',Sam (inX (exX m.most (D.per d1) 0 k)) c1 c'→Holds d1.sec d1.size (aZQ m k) c':=fun c' h=>
    hh1.target (t:=0) (k:=k) hkm (fun r hr h2=>by rw[aZQ,Mn.add_last]at hr;cases hr;exact absurd h2 (show ¬(2:Int)≤1 by omega)) (fun r hr h4=>by rw[aZQ,Mn.add_last]at hr;cases hr;exact absurd h4 (show ¬(1:Int)=4 by omega)) h
   rintro _ _ H ⟨pk2,hpk2,(⟨d2,c2,hw2,hc2,hsam,hcw,rfl,rfl⟩|⟨d',x,hcut,hleft,rfl,rfl⟩)⟩ hs
   rotate_left
   ·simp only[HV]
    try simp only[HS]
    refine hs.st 12 rfl (by show 0<1;omega) rfl fun H hs=>?_;refine eZv _ _ ?_;simp only[HV];refine ZK (by decide) ?_;rw[hp1]at hcut;refine Zc.mono (bad _ _ H d' (hs.re [0,2,6,3,7] rfl) ((hw1.cut hcut).more (by omega)) (hleft.mono fun c' h=>?_)) ?_
    ·right;left;have:=htgt c' h;rw[hw1.sec,hw1.size]at this;exact this
    ·rintro _ H ⟨rfl,M,h,hs⟩;simp only[HV];exact⟨M,h,hs⟩
   simp only[HV]
   try simp only[HS]
   refine hs.st 12 rfl (by show 0<1;omega) rfl fun H hs=>?_;refine eZv _ _ ?_;simp only[HV];refine ZA rfl ?_;rw[show IntKind.i64.wrap ((1:Int)+1)=2 by kernel_rfl];unfold ZO.l2;refine Zw (by decide) ⟨by decide,by decide,?_⟩;simp only[HV];have ee2:{ egM d1 (aZQ m k) peak with peak:=pk2}=egM d2 (aZQ m k) pk2:=by unfold egM;rw[hw2.sec,hw2.size]
   have hs:Sep (gZW mp dp ap2 rp2 { egM d1 (aZQ m k) peak with peak:=pk2} A2 (psE { egM d1 (aZQ m k) peak with peak:=pk2}).length m2++[Dk dp d2,pts p (aZJ dp (some mp)),RR,TT,
    pts b1 (.obj (.cells #[.pointer (some ⟨p,0,none⟩)] 28)),pts b2 (.obj (.cells #[.slice A l.length mm] 22)),pts b3 (.obj (.cells #[.int .i64 (k:Int)] 3)),pts b4 (bZM { cZv m k with s:=0}),pts b5 _,pts b6 _,pts b7 _]) H:=hs.re [0,1,4,5,2,6,3,7,8,9,10,11,12,13,14] rfl
   have hs:=Me.shut hs;rw[ee2]at hs;have hh2:Holds d2.sec d2.size (aZQ m k) c2:=by rw[hw2.sec,hw2.size];exact htgt c2 hsam
   have hS1:Small 100001 (aZQ m k):=hS.add (by show m.r.ld+1≤_;omega);have h1kd:(aZQ m k).r.kd=1:=by rw[h1r];rfl
   have h1kk:(aZQ m k).r.kk=k:=by rw[h1r];rfl
   have hsz2:d2.size/8=D.per d1:=by rw[hw2.size];rfl
   obtain⟨q1,q2,q3,q4⟩:=vZj hh2 hS1 (by omega) h1kd h1kk hl hcan (by rw[hsz2];exact hcw);have hrd2:=hw2.rd;have hwr2:=hw2.wr;have hsy2:=hw2.sy;have hb1:=lZR (D.per d1) k;have hb2:=lZS (D.per d1) k;have hpd1:=Ok.per_le hc1.ok;have hb3:=jZT (per:=D.per d1) (w:=2^k) (by omega) (Nat.two_pow_pos k);have elr:dZf (aZQ m k) k l=⟨(aZQ m k).seq,2,k,0,0,m.r.ld+1,eZL l,0⟩:=by unfold dZf;rw[h1r];rfl
   have hseq2:=Mn.seq_r hh2;refine hs.ldr 11 (v:=.func (.func 63) #[] #[.pointer (some ⟨b5,0,none⟩),.pointer (some ⟨b4,0,none⟩),.pointer (some ⟨b6,0,none⟩)]) rfl rfl ?_;refine dZV.go (by kernel_rfl) ?_;rw[hres3];apply bZn.ok;unfold bZn bZn.q1;have fin3:∀ H,Sep [Me mp dp (egM d2 (aZQ m k) pk2),Dk dp d2,pts p (aZJ dp (some mp)),RR,TT,
    pts b1 (.obj (.cells #[.pointer (some ⟨p,0,none⟩)] 28)),pts b2 (.obj (.cells #[.slice A l.length mm] 22)),pts b3 (.obj (.cells #[.int .i64 (k:Int)] 3)),pts b4 (bZM { dZf (aZQ m k) k l with s:=0})] H→
     Zc prog 45 #[.pointer (some ⟨mp,0,none⟩),.agg (R.c { dZf (aZQ m k) k l with s:=0})] H fun v H'=>∃ x:Int,v= .int .i64 x∧((x=0∧∃ M,iZQ p dp d m peak l RR TT (.tuple #[.int .i64 0,.int .i64 0]) M∧Sep M H')∨(x=8∧∃(X:As) (L':List As) (d':D),Sep (X::Dk dp d'::pts p (aZJ dp (some mp))::RR::TT::L') H'∧Cut d d' (ldR (d.size/8) k+ldW (d.size/8) k+3)∧Left d' (fun c'=>Holds d.sec d.size m c'∨Holds d.sec d.size (aZQ m k) c'∨Holds d.sec d.size (aZ9 m k l) c'))):=fun H hs=>by
    refine(hZ0 (mp:=mp) (dp:=dp) (e:=egM d2 (aZQ m k) pk2) hc2 (hh2.eg hpk2) (by omega) (r:=dZf (aZQ m k) k l) { dZf (aZQ m k) k l with s:=0} rfl hseq2.symm q1 q2 (by rw[hh2.lastC];exact q3) (by show(k:Int)≤m.most;omega)).use hs [0,1] rfl rfl ?_;rintro _ _ H (⟨d3,rfl,hw3,hc3,rfl⟩|⟨d',rfl,hcut,hleft,rfl⟩) hs
    ·refine⟨0,rfl,.inl ⟨rfl,_,hfin _ _ (.inl ⟨d3,_,pk2,hpk2,?_,hc3,?_,rfl,rfl⟩),?_⟩⟩
     ·have:=(hw1.trans hw2).trans hw3;rw[hp1]at this;rw[hR1,hW1];exact this
     ·have:=q4;rw[hw2.sec,hw2.size,hw1.sec,hw1.size]at this;rw[hw2.size,hw1.size];exact this
     ·have e3:egM d (aZ9 m k l) pk2={ egM d2 (aZQ m k) pk2 with r:=dZf (aZQ m k) k l}:=by
       unfold aZ9 egM;rw[Mn.add_r,hw2.sec,hw2.size,hw1.sec,hw1.size];rfl
      rw[e3];exact En.shut (L:=[Dk dp d3,RR,TT]) (hs.re [2,0,1,3,4] rfl)
    ·refine⟨8,rfl,.inr ⟨rfl,_,_,d',hs,?_,hleft.mono fun c' h=>?_⟩⟩
     ·have:=(hw1.trans hw2).cut hcut;rw[hp1]at this;exact this.more (by omega)
     ·rw[hw2.sec,hw2.size,hw1.sec,hw1.size]at q4 hh2;rw[hw2.size,hw1.size]at h;rcases h with e|e
      ·right;left;rw[e];exact hh2
      ·right;right;rw[e];exact q4
   constructor
   ·refine hs.ld 9 (v:=.int .u32 (eZL l:Int)) rfl rfl ?_;simp only[HV]
    try simp only[HS]
    refine hs.st 8 rfl (by show 1<8;omega) rfl fun H hs=>?_
    try simp only[HS]
    refine hs.st 8 rfl (by show 6<8;omega) rfl fun H hs=>?_;refine hs.ld 10 (v:=.pointer (some ⟨mp,0,none⟩)) rfl rfl ?_;simp only[HV];refine hs.ldw 8 rfl rfl ?_
    try simp only[Array.toArray_toList]
    have hs:=hs.re [0,1,2,3,4,5,6,7,8] rfl;have ff:=fin3 H;rw[elr]at ff;refine Zc.mono (ff hs) ?_;rintro _ H ⟨x,rfl,(⟨rfl,M,h,hs⟩|⟨rfl,X,L',d',hs,h1,h2⟩)⟩
    ·simp only[HV];refine eZv _ _ ?_;simp only[HV];refine ZA rfl ?_;rw[show IntKind.i64.wrap ((2:Int)+1)=3 by kernel_rfl];unfold ZO.l2;refine Zl (by decide) ?_;simp only[HV];exact⟨M,h,hs⟩
    ·simp only[HV];refine eZv _ _ ?_;simp only[HV];refine ZK (by decide) ?_;refine Zc.mono (bad X L' H d' hs h1 h2) ?_;rintro _ H ⟨rfl,M,h,hs⟩;simp only[HV];exact⟨M,h,hs⟩
   ·try simp only[HS]
    refine hs.st 8 rfl (by show 1<8;omega) rfl fun H hs=>?_;refine hs.ld 9 (v:=.int .u32 (eZL l:Int)) rfl rfl ?_;simp only[HV]
    try simp only[HS]
    refine hs.st 8 rfl (by show 6<8;omega) rfl fun H hs=>?_;refine hs.ld 10 (v:=.pointer (some ⟨mp,0,none⟩)) rfl rfl ?_;simp only[HV];refine hs.ldw 8 rfl rfl ?_
    try simp only[Array.toArray_toList]
    have hs:=hs.re [0,1,2,3,4,5,6,7,8] rfl;have ff:=fin3 H;rw[elr]at ff;refine Zc.mono (ff hs) ?_;rintro _ H ⟨x,rfl,(⟨rfl,M,h,hs⟩|⟨rfl,X,L',d',hs,h1,h2⟩)⟩
    ·simp only[HV];refine eZv _ _ ?_;simp only[HV];refine ZA rfl ?_;rw[show IntKind.i64.wrap ((2:Int)+1)=3 by kernel_rfl];unfold ZO.l2;refine Zl (by decide) ?_;simp only[HV];exact⟨M,h,hs⟩
    ·simp only[HV];refine eZv _ _ ?_;simp only[HV];refine ZK (by decide) ?_;refine Zc.mono (bad X L' H d' hs h1 h2) ?_;rintro _ H ⟨rfl,M,h,hs⟩;simp only[HV];exact⟨M,h,hs⟩
  have ewp:IntKind.u32.wrap ((m.r.ld:Int)+1)=((m.r.ld+1:Nat):Int):=by rw[wZO (by omega) (by omega)];rfl
  repeat' first
   |(rw[ewp]at hs;exact j7 _ _ hs)
   |refine hs.ld 8 (v:=.pointer (some ⟨p,0,none⟩)) rfl rfl ?_
   |refine hs.ld 10 (v:=.int .i64 (k:Int)) rfl rfl ?_
   |refine hs.ld 0 (v:=.pointer (some ⟨mp,0,none⟩)) rfl rfl ?_
   |refine hs.ld 1 (v:=.int .u32 (m.r.ld:Int)) rfl rfl ?_
   |refine hs.nw fun b H hs=>?_
   |refine hs.stw 11 rfl rfl rfl rfl fun H hs=>?_
   |(simp only[HV];try simp only[HS])
   |refine⟨?_,?_⟩
 refine hs.ld 8 (v:=.pointer (some ⟨p,0,none⟩)) rfl rfl ?_;simp only[HV]
 try simp only[HS]
 refine hs.ld 0 (v:=.pointer (some ⟨mp,0,none⟩)) rfl rfl ?_;simp only[HV];refine aZr rfl ?_
 repeat' first
  |exact j4 _ _ _ _ _ hv hs
  |refine hs.ld 9 (v:=.slice A l.length mm) rfl rfl ?_
  |refine hs.ld 8 (v:=.pointer (some ⟨p,0,none⟩)) rfl rfl ?_
  |refine hs.ld 0 (v:=.pointer (some ⟨mp,0,none⟩)) rfl rfl ?_
  |refine hs.ld 1 (v:=.int .i64 (m.most:Int)) rfl rfl ?_
  |refine chk _ _ _ hs rfl rfl fun k i e hv=>?_
  |refine hs.nw fun b H hs=>?_
  |refine hs.st 10 rfl Nat.zero_lt_one rfl fun H hs=>?_
  |(simp only[HV];try simp only[HS])
  |refine⟨?_,?_⟩
end
end Eng
namespace Sup
open Go Go.Hw Go.Form W Lay
theorem qZ1 (k sec s ar:Int)(h:bZA k sec s ar=true)(hsec:sec≤9223372036854775807):bZc (bZ8 k sec s ar)=((k,sec,s,ar),0):=by
 have hg:=h;unfold bZA at hg;simp only[decide_eq_true_eq]at hg;obtain⟨h1,h2,h3,h4,h5,h6⟩:=hg;obtain⟨kn,rfl⟩:=Int.eq_ofNat_of_zero_le h1;have hlen:=iZX kn sec s ar h3;have hlog:=hZA s;have hll:=rZ8 s;have hw:∀(i:Nat) (hi:i<4),ZC (bZ8 kn sec s ar) (8*i)=((hZb kn sec s ar)[i]'(by rw[iZY];exact hi)).toNat:=fun i hi=>fZa (by rw[iZY];exact hi) _
 have hf64:bZH kn s<2^64:=by unfold bZH;omega
 have w0:ZC (bZ8 kn sec s ar) 0=bZH kn s:=(hw 0 (by omega)).trans (eZU hf64);have w1:ZC (bZ8 kn sec s ar) 8=sec.toNat:=(hw 1 (by omega)).trans (eZU (by omega));have w2:ZC (bZ8 kn sec s ar) 16=ar.toNat:=(hw 2 (by omega)).trans (eZU (by omega));have hcr:lZ3 (bZH kn s) sec.toNat ar.toNat=(Go.Crc.sum (form (gZo kn sec s ar))).toNat:=rfl;have hsum:=(Go.Crc.sum (form (gZo kn sec s ar))).isLt;have w3:ZC (bZ8 kn sec s ar) 24=lZ3 (bZH kn s) sec.toNat ar.toNat:=(hw 3 (by omega)).trans (by rw[hcr];exact eZU (by omega));have hz:iZt (bZ8 kn sec s ar)=true:=by
  unfold iZt bZ8;rw[List.drop_left' (by rw[bZh,iZY])];simp
 have hf1:bZH kn s/4294967296=1094861123:=by unfold bZH;omega
 have hf2:bZH kn s/65536%65536=kn:=by unfold bZH;omega
 have hf3:((bZH kn s%65536:Nat):Int)=cZo s:=by unfold bZH;omega
 have hsb:eZD (bZ8 kn sec s ar)=((kn:Int),sec,s,ar):=by
  unfold eZD;rw[w0,w1,w2,hf2,hlen,ZT (by omega) (by omega),ZT (by omega) (by omega),show((sec.toNat:Nat):Int)=sec by omega,show((ar.toNat:Nat):Int)=ar by omega]
 unfold bZc;rw[hlen,hsb,w0,w1,w2,w3,if_neg (by omega),if_neg (by simp[hf1,hz]),if_neg (by simp),if_pos ⟨h,hf3⟩]
end Sup
namespace Eng
open Go Go.Hw Go.Form W Shp Dsk Str Are Trn Pas Pln Rec Srt Rng
def inF (n:Nat)(i:Int):Prop:=1≤i∧i<((1+n:Nat):Int)
theorem sZY {d:D}(hl:d.down=false)(hf:d.fuse≠1)(k:Int)(b:List UInt8)(i:Int):(d.wrote k b).now i=if i=k then b else d.now i:=by
 unfold D.wrote;rw[eZn hl hf];unfold D.now cZK;by_cases h:i=k
 ·simp only[if_pos h];rfl
 ·simp only[if_neg h];rfl
theorem mZD {d0:D}{c:Cn}(h:Clean d0 c){n:Nat}(hn:1+n≤d0.sec):∀(k i:Nat) (d:D),i+k=n→Prog (inF n) d0 d 0 i→(∀ j:Nat,j<i→d.now ((1+j:Nat):Int)=List.replicate d0.size 0)→
  (∃ d' c',iZK 1 k i d=(0,d')∧bZU d0 d' 0 n 1∧Clean d' c'∧Sam (inF n) c c'∧∀ j:Nat,j<n→c' ((1+j:Nat):Int)=List.replicate d0.size 0)∨
  (∃ d',iZK 1 k i d=(8,d')∧Cut d0 d' (n+1)∧Left d' (Sam (inF n) c))
 |0,i,d,hi,hP,hz=>by
  have hS:∀ i,inF n i→0≤i∧i<d0.sec:=fun i hi=>⟨by have:=hi.1;omega,by have:=hi.2;omega⟩
  have e:i=n:=by omega
  subst e;have hsam:Sam (inF i) c d.now:=fun j hj=>(h.prog hP j).2 hj
  rcases h.sync hP hS with⟨s1,s2,s3⟩|⟨s1,s2,s3⟩
  ·exact .inl ⟨_,_,by show(d.syncE,d.syncD)=_;rw[s1],s2,s3,hsam,hz⟩
  ·exact .inr ⟨_,by show(d.syncE,d.syncD)=_;rw[s1],s2.more (by omega),s3.mono fun _ h=>h.2⟩
 |k+1,i,d,hi,hP,hz=>by
  have hS:∀ i,inF n i→0≤i∧i<d0.sec:=fun i hi=>⟨by have:=hi.1;omega,by have:=hi.2;omega⟩
  have hsec:=hP.sec;have hsize:=hP.size;have hchk:d.chk ((1+i:Nat):Int)=0:=gZx hP.down (Int.natCast_nonneg _) (by rw[hsec];omega);have hin:inF n ((1+i:Nat):Int):=⟨by omega,by omega⟩;have hlen:(List.replicate d.size (0:UInt8)).length=d.size:=List.length_replicate;unfold iZK;by_cases hf:d.fuse=1
  ·have hbn:d.burns=true:=by unfold D.burns;simp[hf]
   have e1:d.writeE ((1+i:Nat):Int) d.size=8:=by unfold D.writeE;rw[if_neg (by rw[hchk];simp),if_neg (by simp),hbn];rfl
   have e2:d.writeD ((1+i:Nat):Int) (List.replicate d.size 0)=D.dead d:=by unfold D.writeD;rw[if_neg (by rw[hchk];simp),if_neg (by simp[hlen]),hbn,eZK hf];rfl
   rw[e1,e2,if_pos (by decide)];have hD:=hP.dead (cZB.one (inF n) hP.ok hf);have h1:=hP.fuse;have h2:=hP.go;exact .inr ⟨_,rfl,h.deadCut hD hS (by omega) (by omega),h.deadLeft hD⟩
  ·have hbn:d.burns=false:=by unfold D.burns;exact decide_eq_false hf
   have e1:d.writeE ((1+i:Nat):Int) d.size=0:=by unfold D.writeE;rw[if_neg (by rw[hchk];simp),if_neg (by simp),hbn];rfl
   have e2:d.writeD ((1+i:Nat):Int) (List.replicate d.size 0)=d.wrote ((1+i:Nat):Int) (List.replicate d.size 0):=by unfold D.writeD;rw[if_neg (by rw[hchk];simp),if_neg (by simp[hlen]),hbn];rfl
   rw[e1,e2,if_neg (by simp)];have hW:=Prog.wrote (S:=inF n) hP.ok hP.down hf hin hlen;have hT:=hP.trans hW;refine mZD h hn k (i+1) _ (by omega) hT fun j hj=>?_
   rw[sZY hP.down hf];by_cases e:j=i
   ·rw[e,if_pos rfl,hsize]
   ·rw[if_neg (by omega)];exact hz j (by omega)
def bZF (k words:Nat):Mn:=⟨k,words,[],[]⟩
theorem qZG {sec size k words:Nat}{c:Cn}(hg:Sup.bZA k sec size words=true)(hl:bZt k (size/8)≤words)(h0:c 0=Sup.bZ8 k sec size words)(hz:∀ j:Nat,j<8→c ((1+j:Nat):Int)=List.replicate size 0):Holds sec size (bZF k words) c:=
 ⟨h0,hg,hl,Log.nil,fun i hi=>hz i hi,fun r hr=>(by cases hr),fun r hr=>(by cases hr),fun r hr=>(by cases hr)⟩
def bZQ (sec per:Nat)(k words:Int):Int:=if words<1∨words>16777216∨k<0∨k>32 then 1 else if(sec:Int)<Lay.bZD k.toNat per then 7 else if words<bZt k.toNat per then 6 else 0
theorem vZb {p dp:Nat}{mo:Option Nat}{d:D}(hok:Ok d)(hpn:0<Lay.aZj (d.size:Int))(k words:Int):Tr prog 49 #[.pointer (some ⟨p,0,none⟩),.int .i64 k,.int .i64 words] [pts p (aZJ dp mo),Dk dp d] fun v M=>v= .int .i64 (bZQ d.sec (d.size/8) k words)∧M=[pts p (aZJ dp mo),Dk dp d]:=fun H hs=>by
 have hper:=eZQ hpn;apply ZI.ok;unfold ZI ZI.q3 ZI.q2 ZI.q1;have fin:∀(x:Int) (H:Hp) (T:List As),x=bZQ d.sec (d.size/8) k words→Sep ([pts p (aZJ dp mo),Dk dp d]++T) H→∃ M,(Value.int .i64 x= .int .i64 (bZQ d.sec (d.size/8) k words)∧M=[pts p (aZJ dp mo),Dk dp d])∧Sep M H:=fun x H T hx hs=>⟨_,⟨by rw[hx],rfl⟩,Sep.take hs⟩
 by_cases h1:words<1
 ·exact Zw h1 (fin 1 H [] (by unfold bZQ;rw[if_pos (.inl h1)]) hs)
 refine Zl h1 ?_;by_cases h2:words>16777216
 ·exact Zw h2 (fin 1 H [] (by unfold bZQ;rw[if_pos (.inr (.inl h2))]) hs)
 refine Zl h2 ?_;have j4:∀ b H,Sep [pts p (aZJ dp mo),Dk dp d,pts b (.obj (.cells (Lay.OfV k d.sec d.size).1 101))] H→ZI.j4 (fun v H'=>∃ M,(v= .int .i64 (bZQ d.sec (d.size/8) k words)∧M=[pts p (aZJ dp mo),Dk dp d])∧Sep M H') k words ⟨b,0,none⟩ (Lay.OfV k d.sec d.size).2 H:=fun b H hs=>by
  unfold ZI.j4;unfold Lay.OfV at hs⊢;by_cases h3:0≤k∧k≤32
  ·have h3':0≤k∧k≤32∧0<Lay.aZj d.size:=⟨h3.1,h3.2,hpn⟩;rw[if_pos h3']at hs⊢;by_cases h4:(d.sec:Int)<Lay.bZD k.toNat (Lay.aZj d.size)
   ·rw[if_pos h4]at hs⊢;refine ZK (by decide) (fin 7 H _ ?_ hs);unfold bZQ;rw[if_neg (by omega),if_pos (by rw[← hper.1];exact h4)]
   ·rw[if_neg h4]at hs⊢;refine ZA rfl ?_
    try simp only[HS]
    refine hs.ld 2 (v:=.int .i64 ((Lay.aZj d.size:Nat):Int)) rfl rfl ?_;simp only[HV];obtain⟨kn,rfl⟩:=Int.eq_ofNat_of_zero_le h3.1;have hpB:cZS ((Lay.aZj d.size:Nat):Int)=true:=by rw[hper.1];exact mZ6 hpn
    refine Zc.use (tZe (k:=kn) (per:=Lay.aZj d.size) (by omega) hpB H) ?_;simp only[HV];refine ZA rfl ?_;rw[hper.1]at h4;have h4':¬(d.sec:Int)<Lay.bZD (kn:Int).toNat (d.size/8):=h4;by_cases h5:words<(bZt kn (Lay.aZj d.size):Int)
    ·refine Zw h5 (fin 6 H _ ?_ hs);unfold bZQ;rw[if_neg (by omega),if_neg h4',if_pos (by rw[← hper.1];exact h5)]
    ·refine Zl h5 (fin 0 H _ ?_ hs);unfold bZQ;rw[if_neg (by omega),if_neg h4',if_neg (by rw[← hper.1];exact h5)]
  ·rw[if_neg (fun h=>h3 ⟨h.1,h.2.1⟩)]at hs⊢;refine ZK (by decide) (fin 1 H _ ?_ hs);unfold bZQ;rw[if_pos (by omega)]
 try simp only[HS]
 have hsz:∀(H:Hp) (T:List As) (K:Value→Prop),Sep ([pts p (aZJ dp mo),Dk dp d]++T) H→K (.int .i64 (d.sec:Int))→aZb prog 50 #[.pointer (some ⟨dp,0,none⟩)] H K:=fun H T K hs h=>aZb.use (eZI hs 1 rfl) h
 have hsy:∀(H:Hp) (T:List As) (K:Value→Prop),Sep ([pts p (aZJ dp mo),Dk dp d]++T) H→K (.int .i64 (d.size:Int))→aZb prog 51 #[.pointer (some ⟨dp,0,none⟩)] H K:=fun H T K hs h=>aZb.use (hZD hs 1 rfl) h
 have hof:∀(H:Hp) (K:Value→Prop),K (.tuple #[.agg (Lay.OfV k d.sec d.size).1,.int .i64 (Lay.OfV k d.sec d.size).2])→aZb prog 89 #[.int .i64 k,.int .i64 (d.sec:Int),.int .i64 (d.size:Int)] H K:=fun H K h=>aZb.use (Lay.eZE k d.sec d.size H) h
 have hS1:(Lay.OfV k d.sec d.size).1.size=17:=Sup.kZx k d.sec d.size
 repeat' first
  |exact j4 _ _ hs
  |refine hs.ld 0 (v:=.pointer (some ⟨dp,0,none⟩)) rfl rfl ?_
  |refine hsz _ [] _ hs ?_
  |refine hsy _ [] _ hs ?_
  |refine hsz _ [_] _ hs ?_
  |refine hsy _ [_] _ hs ?_
  |refine hof _ _ ?_
  |refine hs.nw fun b H hs=>?_
  |refine hs.stw 2 rfl rfl (Sup.kZx _ _ _) (Sup.pZr _ _ _) fun H hs=>?_
  |(simp only[HV];try simp only[HS])
  |refine⟨?_,?_⟩
theorem rZ4 (k p:Nat):Lay.dZe k p=#[.int .i64 (k:Int),.int .i64 (p:Int),.int .i64 1,.int .i64 8,.int .i64 ((8*p:Nat):Int),.int .i64 9,.int .i64 (Lay.aZd k p:Int),.int .i64 ((2^k:Nat):Int),.int .i64 (9+(Lay.aZd k p:Int)),.int .i64 (Lay.aZd k p:Int),.int .i64 ((2^k:Nat):Int),.int .i64 (9+2*(Lay.aZd k p:Int)),.int .i64 (Lay.aZd k p:Int),.int .i64 ((2^k:Nat):Int),.int .i64 (9+3*(Lay.aZd k p:Int)),.int .i64 (Lay.aZd k p:Int),.int .i64 ((2^k:Nat):Int)]:=rfl
theorem pZH {dp:Nat}{d:D}{k ar:Nat}(hok:Ok d)(hg:Sup.bZA (k:Int) d.sec d.size (ar:Int)=true):
  Tr prog 40 #[.pointer (some ⟨dp,0,none⟩),.agg (Sup.bZ0 k d.sec d.size ar)] [Dk dp d] fun v M=>∃ mp ap rp,v= .tuple #[.pointer (some ⟨mp,0,none⟩),.int .i64 0]∧M=[pts mp (aZs ⟨k,d.sec,d.size,ar,bZq,0⟩ ap rp .none 0 0),Ar ap ar 0 [],pts rp (aZi dp 1 8 ((8*(d.size/8):Nat):Int)),Dk dp d]:=fun H hs=>by
 have hgo:=dZk hg;have hper:=eZQ hgo.2.1;have hlay:Sup.bZA (k:Int) d.sec d.size (ar:Int)=true→(if Sup.bZA (k:Int) d.sec d.size (ar:Int)=true then Value.tuple #[.agg (Lay.dZe (k:Int).toNat (Lay.aZj d.size)),.int .i64 0]else .tuple #[.agg Lay.oZm,.int .i64 1])= .tuple #[.agg (Lay.dZe k (d.size/8)),.int .i64 0]:=fun h=>by rw[if_pos h,Int.toNat_natCast,hper.1]
 have hext:lZ7 d 1 8=true:=decide_eq_true (by have:=hgo.2.2.1;unfold Lay.bZD at this;omega);have hL:=Sup.rZm (k:Int) d.sec d.size (ar:Int);rw[hlay hg]at hL;apply bZN.ok;unfold bZN bZN.q1;refine hs.nw fun b1 H hs=>?_
 refine hs.ldw 1 rfl rfl ?_;refine Zc.use (hL H) ?_;simp only[HV];refine hs.nw fun b2 H hs=>?_
 refine hs.stw 2 rfl rfl rfl rfl fun H hs=>?_;refine ZA rfl ?_
 try simp only[HS]
 refine hs.lda 2 (off:=2) (n:=3) rfl (by show 2+3≤17;omega) ?_;refine(Rng.dZz (p:=dp) (d:=d) hok 1 8 ((8*(d.size/8):Nat):Int) (by omega)).use hs [0] rfl rfl ?_;rintro _ _ H (⟨_,rp,rfl,rfl⟩|⟨h,_⟩) hs
 rotate_left
 ·rw[hext]at h;cases h
 simp only[HV];refine ZA rfl ?_;have hs:Sep [Dk dp d,pts rp (aZi dp 1 8 ((8*(d.size/8):Nat):Int)),pts b1 (.obj (.cells #[.int .i64 k,.int .i64 d.sec,.int .i64 d.size,.int .i64 ar] 30)),pts b2 (.obj (.cells (Lay.dZe k (d.size/8)) 101))] H:=hs;rw[rZ4]at hs
 try simp only[HS]
 refine hs.ld 2 (v:=.int .i64 (ar:Int)) rfl rfl ?_;simp only[HV];have fin:∀(mp ap:Nat) (T:List As) (H:Hp),Sep ([Ar ap ar 0 [],Dk dp d,pts rp (aZi dp 1 8 ((8*(d.size/8):Nat):Int))]++T++[pts mp (aZs ⟨k,d.sec,d.size,ar,bZq,0⟩ ap rp .none 0 0)]) H→
   ∃ M,(∃ mp' ap' rp',(Value.tuple #[.pointer (some ⟨mp,0,none⟩),.int .i64 0])= .tuple #[.pointer (some ⟨mp',0,none⟩),.int .i64 0]∧M=[pts mp' (aZs ⟨k,d.sec,d.size,ar,bZq,0⟩ ap' rp' .none 0 0),Ar ap' ar 0 [],pts rp' (aZi dp 1 8 ((8*(d.size/8):Nat):Int)),Dk dp d])∧Sep M H:=fun mp ap T H hs=>by
  have h1:Sep ([pts mp (aZs ⟨k,d.sec,d.size,ar,bZq,0⟩ ap rp .none 0 0)]++([Ar ap ar 0 [],Dk dp d,pts rp (aZi dp 1 8 ((8*(d.size/8):Nat):Int))]++T)) H:=Sep.perm List.perm_append_comm hs;have h2:Sep [pts mp (aZs ⟨k,d.sec,d.size,ar,bZq,0⟩ ap rp .none 0 0),Ar ap ar 0 [],Dk dp d,pts rp (aZi dp 1 8 ((8*(d.size/8):Nat):Int))] H:=Sep.take (L:=T) h1;exact⟨_,⟨mp,ap,rp,rfl,rfl⟩,h2.re [0,1,3,2] rfl⟩
 have har:(1:Int)≤(ar:Int)∧(ar:Int)≤16777216:=hgo.2.2.2
 repeat' first
  |exact fin _ _ [_,_] _ hs
  |refine hs.ldw 2 rfl rfl ?_
  |refine hs.ldw 3 rfl rfl ?_
  |refine hs.ldw 4 rfl rfl ?_
  |(refine(Are.dZz (ar:Int) har).use hs [] rfl rfl ?_;rintro _ _ H ⟨ap,rfl,rfl⟩ hs)
  |refine hs.nw fun b H hs=>?_
  |(simp only[HV];try simp only[HS])
  |refine⟨?_,?_⟩
theorem Sep.unit {L:List As}{H:Hp}{X:As}(hs:Hw.Sep L H)(hX:X fun _=>none):Hw.Sep (X::L) H:=⟨fun _=>none,H,fun _ _ h=>(nomatch h),Hp.le_refl _,fun _=>.inl rfl,hX,hs⟩
theorem En.ptr {p dp:Nat}{g:Option Eg}{L:List As}{H:Hp}(h:Sep (En p dp g::L) H):∃ mo X,Sep (pts p (aZJ dp mo)::X::L) H∧∀ L' H',Sep (pts p (aZJ dp mo)::X::L') H'→Sep (En p dp g::L') H':=by
 cases g with
 |none=>exact⟨none,fun _=>True,(Sep.unit (X:=fun _=>True) h trivial).swap,fun L' H' h=>h.swap.tail⟩
 |some e=>
  obtain⟨mp,h⟩:=En.open h;exact⟨some mp,Me mp dp e,h,fun L' H' h=>En.shut h⟩
theorem Me.bare {mp dp ap rp:Nat}{e:Eg}{L:List As}{H:Hp}(h:Sep ([pts mp (aZs e ap rp .none 0 0),Ar ap e.arena e.peak [],pts rp (aZi dp 1 8 ((8*e.per:Nat):Int))]++L) H)(hp:psE e=[]):Sep (Me mp dp e::L) H:=by
 have h1:Sep (Own 122 8 .none 0 0 []::([pts mp (aZs e ap rp .none 0 0),Ar ap e.arena e.peak [],pts rp (aZi dp 1 8 ((8*e.per:Nat):Int))]++L)) H:=Sep.unit h (Own.none _ _ _);have h2:Sep ([pts mp (aZs e ap rp .none 0 0),Ar ap e.arena e.peak [],pts rp (aZi dp 1 8 ((8*e.per:Nat):Int))]++(Own 122 8 .none 0 0 []::L)) H:=Sep.perm List.perm_middle.symm h1;refine Me.shut (ap:=ap) (rp:=rp) (A:=.none) (m:=0) ?_;unfold gZW;rw[hp];exact h2
theorem tZR {e:Eg}(h:e.r=bZq):psE e=[]:=by unfold psE;rw[if_neg (by rw[h];decide)]
theorem rZM {d:D}(hpn:0<Lay.aZj (d.size:Int)){k words:Int}(h:bZQ d.sec (d.size/8) k words=0):∃ kn wn:Nat,k=kn∧words=wn∧Sup.bZA kn d.sec d.size wn=true∧bZt kn (d.size/8)≤wn:=by
 have hper:=eZQ hpn;unfold bZQ at h;split at h
 ·cases h
 rename_i h1
 split at h
 ·cases h
 rename_i h2
 split at h
 ·cases h
 rename_i h3
 obtain⟨kn,rfl⟩:=Int.eq_ofNat_of_zero_le (show 0≤k by omega);obtain⟨wn,rfl⟩:=Int.eq_ofNat_of_zero_le (show 0≤words by omega);refine⟨kn,wn,rfl,rfl,decide_eq_true ?_,?_⟩
 ·rw[hper.1];have h2':¬(d.sec:Int)<Lay.bZD kn (d.size/8):=h2;refine⟨by omega,by omega,by omega,?_,by omega,by omega⟩;show(Lay.bZD kn (d.size/8):Int)≤d.sec
  omega
 ·have h3':¬(wn:Int)<bZt kn (d.size/8):=h3;omega
def nZy (p dp:Nat)(g:Option Eg)(d:D)(c:Cn)(k words:Int)(v:Value)(M:List As):Prop:=
 (bZQ d.sec (d.size/8) k words≠0∧v= .int .i64 (bZQ d.sec (d.size/8) k words)∧M=[En p dp g,Dk dp d])∨
 (∃ kn wn:Nat,k=kn∧words=wn∧bZQ d.sec (d.size/8) k words=0∧
  ((∃ d' c',bZU d d' 0 10 3∧Clean d' c'∧Holds d.sec d.size (bZF kn wn) c'∧v= .int .i64 0∧M=[En p dp (some (egM d (bZF kn wn) 0)),Dk dp d'])∨
  (∃ d',Cut d d' 13∧Left d' (fun c'=>c'=c∨lZU d.size c'∨Holds d.sec d.size (bZF kn wn) c')∧v= .int .i64 8∧M=[En p dp none,Dk dp d'])))
set_option maxHeartbeats 8000000 in
theorem mZv {p dp:Nat}{g:Option Eg}{d:D}{c:Cn}(hc:Clean d c)(hpn:0<Lay.aZj (d.size:Int))(ho:d.rd≤800000∧d.wr≤800000∧d.sy≤800000)(k words:Int):
  Tr prog 25 #[.pointer (some ⟨p,0,none⟩),.int .i64 k,.int .i64 words] [En p dp g,Dk dp d] (nZy p dp g d c k words):=fun H hs=>by
 have hok:=hc.ok;have hper:=eZQ hpn;obtain⟨mo,X,hs,hback⟩:=En.ptr hs;apply Zh.ok;unfold Zh Zh.q5 Zh.q4 Zh.q3 Zh.q2 Zh.q2.q1 Zh.q1 Zh.q1.q2 Zh.q1.q1;refine hs.nw fun b1 H hs=>?_
 have hs:Sep [pts p (aZJ dp mo),X,Dk dp d,pts b1 (.obj (.cells #[.pointer (some ⟨p,0,none⟩)] 28))] H:=hs;refine hs.ld 3 (v:=.pointer (some ⟨p,0,none⟩)) rfl rfl ?_;simp only[HV];refine(vZb (p:=p) (dp:=dp) (mo:=mo) hok hpn k words).use hs [0,2] rfl rfl ?_;rintro _ _ H ⟨rfl,rfl⟩ hs;simp only[HV];by_cases hfit:bZQ d.sec (d.size/8) k words=0
 rotate_left
 ·exact ZK hfit ⟨_,.inl ⟨hfit,rfl,rfl⟩,hback [Dk dp d] _ (hs.re [0,2,1] rfl)⟩
 rw[hfit];refine ZA rfl ?_;obtain⟨kn,wn,rfl,rfl,hg,hlw⟩:=rZM hpn hfit;have hgo:=dZk hg;have hneed:9≤d.sec:=by have:=hgo.2.2.1;unfold Lay.bZD at this;omega
 have hs:Sep [pts p (aZJ dp mo),Dk dp d,X,pts b1 (.obj (.cells #[.pointer (some ⟨p,0,none⟩)] 28))] H:=hs;have hzl:(List.replicate d.size (0:UInt8)).length=d.size:=List.length_replicate;have bad:∀(H:Hp) (d':D),Sep [Dk dp d',pts p (aZJ dp mo)] H→Cut d d' 13→Left d' (fun c'=>c'=c∨lZU d.size c'∨Holds d.sec d.size (bZF kn wn) c')→
   Zc prog 39 #[.pointer (some ⟨p,0,none⟩),.int .i64 8] H fun v H'=>v= .int .i64 8∧∃ M,nZy p dp g d c kn wn (.int .i64 8) M∧Sep M H':=fun H d' hs h1 h2=>by
  have hk:Zc prog 39 #[.pointer (some ⟨p,0,none⟩),.int .i64 8] H fun v H'=>∃ M,(v= .int .i64 8∧M=[pts p (aZJ dp none),Dk dp d'])∧Sep M H':=by
   apply bZs.ok;unfold bZs;refine aZa rfl ?_
   try simp only[HS]
   refine hs.st 1 rfl (by show 1<2;omega) rfl fun H hs=>?_;exact⟨_,⟨by first|rfl|trivial,rfl⟩,hs.re [1,0] rfl⟩
  refine Zc.mono hk ?_;rintro _ H ⟨_,⟨rfl,rfl⟩,hs⟩;exact⟨rfl,_,.inr ⟨kn,wn,rfl,rfl,hfit,.inr ⟨d',h1,h2,rfl,rfl⟩⟩,hs⟩
 have j6:∀ mp ap rp b2 H,Sep [pts mp (aZs ⟨kn,d.sec,d.size,wn,bZq,0⟩ ap rp .none 0 0),Ar ap wn 0 [],pts rp (aZi dp 1 8 ((8*(d.size/8):Nat):Int)),Dk dp d,pts p (aZJ dp mo),X,pts b1 (.obj (.cells #[.pointer (some ⟨p,0,none⟩)] 28)),pts b2 (.obj (.cells (Sup.bZ0 kn d.sec d.size wn) 30))] H→
   Zh.j6 (fun v H'=>∃ M,nZy p dp g d c kn wn v M∧Sep M H') ⟨b1,0,none⟩ ⟨b2,0,none⟩ (some ⟨mp,0,none⟩) 0 H:=fun mp ap rp b2 H hs=>by
  unfold Zh.j6;refine ZA rfl ?_;refine hs.ld 6 (v:=.pointer (some ⟨p,0,none⟩)) rfl rfl ?_;simp only[HV];refine hs.ld 6 (v:=.pointer (some ⟨p,0,none⟩)) rfl rfl ?_;simp only[HV]
  try simp only[HS]
  refine hs.ld 4 (v:=.pointer (some ⟨dp,0,none⟩)) rfl rfl ?_;simp only[HV]
  try simp only[HS]
  refine hs.ld 0 (v:=.pointer (some ⟨rp,0,none⟩)) rfl rfl ?_;simp only[HV];refine hs.nw fun b3 H hs=>?_
  have hres1:bZC prog 52=[53]:=by kernel_rfl
  have hres2:bZC prog 55=[53]:=by kernel_rfl
  have hres3:bZC prog 56=[53]:=by kernel_rfl
  have hres4:bZC prog 57=[53]:=by kernel_rfl
  apply ZO.ok;unfold ZO;refine⟨5,?_⟩;unfold ZO.l2;refine Zw (by decide) ⟨by decide,by decide,?_⟩;simp only[HV];refine hs.ldr 8 (v:=.func (.func 52) #[] #[.pointer (some ⟨b1,0,none⟩)]) rfl rfl ?_;refine dZV.go (by kernel_rfl) ?_;rw[hres1];have hsz32:=hok.size;have f1:∀(A3:As) (H:Hp),Sep [pts mp (aZs ⟨kn,d.sec,d.size,wn,bZq,0⟩ ap rp .none 0 0),Ar ap wn 0 [],pts rp (aZi dp 1 8 ((8*(d.size/8):Nat):Int)),Dk dp d,pts p (aZJ dp mo),X,pts b1 (.obj (.cells #[.pointer (some ⟨p,0,none⟩)] 28)),pts b2 (.obj (.cells (Sup.bZ0 kn d.sec d.size wn) 30)),A3] H→Zc prog 52 #[.pointer (some ⟨b1,0,none⟩)] H fun v H=>v= .int .i64 (d.writeE 0 d.size)∧Sep [Dk dp (d.writeD 0 (List.replicate d.size 0)),pts mp (aZs ⟨kn,d.sec,d.size,wn,bZq,0⟩ ap rp .none 0 0),Ar ap wn 0 [],pts rp (aZi dp 1 8 ((8*(d.size/8):Nat):Int)),pts p (aZJ dp mo),X,pts b1 (.obj (.cells #[.pointer (some ⟨p,0,none⟩)] 28)),pts b2 (.obj (.cells (Sup.bZ0 kn d.sec d.size wn) 30)),A3] H:=fun A3 H hs=>by
   apply cZq.ok;unfold cZq;simp only[HV];refine hs.ld 6 (v:=.pointer (some ⟨p,0,none⟩)) rfl rfl ?_;simp only[HV]
   try simp only[HS]
   refine hs.ld 4 (v:=.pointer (some ⟨dp,0,none⟩)) rfl rfl ?_;simp only[HV]
   try simp only[HS]
   refine aZb.use (hZD hs 3 rfl) ?_;simp only[HV];have wr1:∀(b4:Nat) (H:Hp),Sep [pts mp (aZs ⟨kn,d.sec,d.size,wn,bZq,0⟩ ap rp .none 0 0),Ar ap wn 0 [],pts rp (aZi dp 1 8 ((8*(d.size/8):Nat):Int)),Dk dp d,pts p (aZJ dp mo),X,pts b1 (.obj (.cells #[.pointer (some ⟨p,0,none⟩)] 28)),pts b2 (.obj (.cells (Sup.bZ0 kn d.sec d.size wn) 30)),A3,pts b4 (.row (aZL [Value.int .u8 0] d.size) 5 (d.size*1))] H→
     Zc prog 53 #[.pointer (some ⟨dp,0,none⟩),.int .i64 0,.slice (some ⟨b4,0,none⟩) d.size d.size] H fun v H=>v= .int .i64 (d.writeE 0 d.size)∧Sep [Dk dp (d.writeD 0 (List.replicate d.size 0)),pts mp (aZs ⟨kn,d.sec,d.size,wn,bZq,0⟩ ap rp .none 0 0),Ar ap wn 0 [],pts rp (aZi dp 1 8 ((8*(d.size/8):Nat):Int)),pts p (aZJ dp mo),X,pts b1 (.obj (.cells #[.pointer (some ⟨p,0,none⟩)] 28)),pts b2 (.obj (.cells (Sup.bZ0 kn d.sec d.size wn) 30)),A3] H:=fun b4 H hs=>by
    rw[fZb]at hs;refine(eZl (p:=dp) (d:=d) hok (by omega) 0 (some ⟨b4,0,none⟩) d.size d.size (List.replicate d.size 0) hzl.symm (pts b4 (.row (Zx (List.replicate d.size 0)) 5 (d.size*1))) (fun H h=>?_)).use hs [3,9] rfl rfl ?_
    ·have:=Cells.row h 0 d.size;rw[List.drop_zero,List.take_of_length_le (by rw[ZU,hzl];exact Nat.le_refl _)]at this;exact this
    rintro _ _ H ⟨rfl,rfl⟩ hs;exact⟨rfl,hs.re [0,2,3,4,5,6,7,8,9] rfl⟩
   have done:∀(v:Value) (H:Hp),(v= .int .i64 (d.writeE 0 d.size)∧Sep [Dk dp (d.writeD 0 (List.replicate d.size 0)),pts mp (aZs ⟨kn,d.sec,d.size,wn,bZq,0⟩ ap rp .none 0 0),Ar ap wn 0 [],pts rp (aZi dp 1 8 ((8*(d.size/8):Nat):Int)),pts p (aZJ dp mo),X,pts b1 (.obj (.cells #[.pointer (some ⟨p,0,none⟩)] 28)),pts b2 (.obj (.cells (Sup.bZ0 kn d.sec d.size wn) 30)),A3] H)→DI .i64 v fun x1=>(Value.int .i64 x1= .int .i64 (d.writeE 0 d.size)∧Sep [Dk dp (d.writeD 0 (List.replicate d.size 0)),pts mp (aZs ⟨kn,d.sec,d.size,wn,bZq,0⟩ ap rp .none 0 0),Ar ap wn 0 [],pts rp (aZi dp 1 8 ((8*(d.size/8):Nat):Int)),pts p (aZJ dp mo),X,pts b1 (.obj (.cells #[.pointer (some ⟨p,0,none⟩)] 28)),pts b2 (.obj (.cells (Sup.bZ0 kn d.sec d.size wn) 30)),A3] H):=fun v H ⟨h1,h2⟩=>by
    subst h1;simp only[HV];exact⟨by trivial,h2⟩
   repeat' first
    |exact Zc.mono (wr1 _ _ hs) done
    |refine hs.ld 6 (v:=.pointer (some ⟨p,0,none⟩)) rfl rfl ?_
    |refine hs.ld 4 (v:=.pointer (some ⟨dp,0,none⟩)) rfl rfl ?_
    |refine hs.mks eZA rfl (n:=d.size) (m:=d.size) rfl rfl (Nat.le_refl _) (by omega) (by omega) fun b4 H hs=>?_
    |(simp only[HV];try simp only[HS])
    |refine⟨?_,?_⟩
  have hp1:=jZp hc 0 (by omega) (List.replicate d.size 0) hzl;have bare0:∀ c:Cn,lZU d.size (bZG c (0:Nat) (List.replicate d.size 0)):=fun c=>jZ4 c 0 _
  refine Zc.mono (f1 _ H hs) ?_;rintro _ H ⟨rfl,hs⟩;refine eZv _ _ ?_;simp only[HV];by_cases hw1:d.writeE 0 d.size=0
  rotate_left
  ·have e1:gZ9 d (0:Nat) (List.replicate d.size 0)=(d.writeE 0 d.size,d.writeD 0 (List.replicate d.size 0)):=by unfold gZ9;exact if_pos hw1
   rw[e1]at hp1;rcases hp1 with⟨d',⟨h,_⟩|⟨h,hcut,hleft⟩⟩
   ·exact absurd (congrArg Prod.fst h) hw1
   ·have h8:=congrArg Prod.fst h;have hd:=congrArg Prod.snd h;simp only at h8 hd;rw[h8];rw[hd]at hs;refine ZK (by decide) ?_;refine Zc.mono (bad H d' (hs.re [0,4] rfl) (hcut.more (by omega)) (hleft.mono fun c' h=>?_)) ?_
    ·rcases h with e|e
     ·exact .inl e
     ·right;left;rw[e];exact bare0 c
    ·rintro _ H ⟨rfl,M,h,hs⟩;simp only[HV];exact⟨M,h,hs⟩
  refine ZA hw1 ?_;rw[show IntKind.i64.wrap ((0:Int)+1)=1 by kernel_rfl];unfold ZO.l2;refine Zw (by decide) ⟨by decide,by decide,?_⟩;simp only[HV];refine hs.ldr 8 (v:=.func (.func 55) #[.pointer (some ⟨dp,0,none⟩)] #[]) rfl rfl ?_;refine dZV.go (by kernel_rfl) ?_;rw[hres2];have hwd:(d.writeD 0 (List.replicate d.size 0)).sy=d.sy:=(nZk d 0 _).1;have hwok:Ok (d.writeD 0 (List.replicate d.size 0)):=Ok.writeD hok 0 _;have e1:gZ9 d (0:Nat) (List.replicate d.size 0)=((d.writeD 0 (List.replicate d.size 0)).syncE,(d.writeD 0 (List.replicate d.size 0)).syncD):=by unfold gZ9;exact if_neg (fun h=>h hw1)
  rw[e1]at hp1;have sy1:∀(A3:As) (H:Hp),Sep [Dk dp (d.writeD 0 (List.replicate d.size 0)),pts mp (aZs ⟨kn,d.sec,d.size,wn,bZq,0⟩ ap rp .none 0 0),Ar ap wn 0 [],pts rp (aZi dp 1 8 ((8*(d.size/8):Nat):Int)),pts p (aZJ dp mo),X,pts b1 (.obj (.cells #[.pointer (some ⟨p,0,none⟩)] 28)),pts b2 (.obj (.cells (Sup.bZ0 kn d.sec d.size wn) 30)),A3] H→Zc prog 55 #[.pointer (some ⟨dp,0,none⟩)] H fun v H=>v= .int .i64 (d.writeD 0 (List.replicate d.size 0)).syncE∧Sep [Dk dp (d.writeD 0 (List.replicate d.size 0)).syncD,pts mp (aZs ⟨kn,d.sec,d.size,wn,bZq,0⟩ ap rp .none 0 0),Ar ap wn 0 [],pts rp (aZi dp 1 8 ((8*(d.size/8):Nat):Int)),pts p (aZJ dp mo),X,pts b1 (.obj (.cells #[.pointer (some ⟨p,0,none⟩)] 28)),pts b2 (.obj (.cells (Sup.bZ0 kn d.sec d.size wn) 30)),A3] H:=fun A3 H hs=>by
   refine(hZz (p:=dp) (d:=d.writeD 0 (List.replicate d.size 0)) hwok (by rw[hwd];omega)).use hs [0] rfl rfl ?_;rintro _ _ H ⟨rfl,rfl⟩ hs;exact⟨rfl,hs⟩
  refine Zc.mono (sy1 _ H hs) ?_;rintro _ H ⟨rfl,hs⟩;refine eZv _ _ ?_;simp only[HV];rcases hp1 with⟨d1,⟨h,hw1',hc1⟩|⟨h,hcut,hleft⟩⟩
  rotate_left
  ·have h8:=congrArg Prod.fst h;have hd:=congrArg Prod.snd h;simp only at h8 hd;rw[h8];rw[hd]at hs;refine ZK (by decide) ?_;refine Zc.mono (bad H d1 (hs.re [0,4] rfl) (hcut.more (by omega)) (hleft.mono fun c' h=>?_)) ?_
   ·rcases h with e|e
    ·exact .inl e
    ·right;left;rw[e];exact bare0 c
   ·rintro _ H ⟨rfl,M,h,hs⟩;simp only[HV];exact⟨M,h,hs⟩
  have h8:=congrArg Prod.fst h;have hd:=congrArg Prod.snd h;simp only at h8 hd;rw[h8];rw[hd]at hs;clear h8 hd h e1;refine ZA rfl ?_;rw[show IntKind.i64.wrap ((1:Int)+1)=2 by kernel_rfl];unfold ZO.l2;refine Zw (by decide) ⟨by decide,by decide,?_⟩;simp only[HV];refine hs.ldr 8 (v:=.func (.func 56) #[.pointer (some ⟨rp,0,none⟩)] #[]) rfl rfl ?_;refine dZV.go (by kernel_rfl) ?_;rw[hres3];have hrd1:=hw1'.rd;have hwr1:=hw1'.wr;have hsy1:=hw1'.sy;have hsec1:=hw1'.sec;have hsize1:=hw1'.size;generalize hcc1:bZG c (0:Nat) (List.replicate d.size 0)=c1 at*;have hb1:lZU d.size c1:=by rw[← hcc1];exact bare0 c
  have cl1:∀(A3:As) (H:Hp),Sep [Dk dp d1,pts mp (aZs ⟨kn,d.sec,d.size,wn,bZq,0⟩ ap rp .none 0 0),Ar ap wn 0 [],pts rp (aZi dp 1 8 ((8*(d.size/8):Nat):Int)),pts p (aZJ dp mo),X,pts b1 (.obj (.cells #[.pointer (some ⟨p,0,none⟩)] 28)),pts b2 (.obj (.cells (Sup.bZ0 kn d.sec d.size wn) 30)),A3] H→Zc prog 56 #[.pointer (some ⟨rp,0,none⟩)] H fun v H=>v= .int .i64 (iZK 1 8 0 d1).1∧Sep [Dk dp (iZK 1 8 0 d1).2,pts mp (aZs ⟨kn,d.sec,d.size,wn,bZq,0⟩ ap rp .none 0 0),Ar ap wn 0 [],pts rp (aZi dp 1 8 ((8*(d.size/8):Nat):Int)),pts p (aZJ dp mo),X,pts b1 (.obj (.cells #[.pointer (some ⟨p,0,none⟩)] 28)),pts b2 (.obj (.cells (Sup.bZ0 kn d.sec d.size wn) 30)),A3] H:=fun A3 H hs=>by
   refine(sZ8 (b:=rp) (p:=dp) (f:=1) (n:=8) (w:=((8*(d.size/8):Nat):Int)) (by omega) hc1.ok (by omega) (by omega)).use hs [0,3] rfl rfl ?_;rintro _ _ H ⟨rfl,rfl⟩ hs;exact⟨rfl,hs.re [0,2,3,1,4,5,6,7,8] rfl⟩
  refine Zc.mono (cl1 _ H hs) ?_;rintro _ H ⟨rfl,hs⟩;refine eZv _ _ ?_;simp only[HV];have hnot0:¬inF 8 0:=fun h=>by have:=h.1;omega
  rcases mZD hc1 (n:=8) (by rw[hsec1];omega) 8 0 d1 rfl (Prog.refl _ hc1.ok hc1.down) (fun j hj=>absurd hj (by omega))with⟨d2,c2,h,hw2,hc2,hsam2,hz2⟩|⟨d2,h,hcut,hleft⟩
  rotate_left
  ·rw[h]at hs⊢;refine ZK (show(8:Int)≠0 by decide) ?_;refine Zc.mono (bad H d2 (hs.re [0,4] rfl) ((hw1'.cut hcut).more (by omega)) (hleft.mono fun c' h=>?_)) ?_
   ·right;left;show c' 0=_
    rw[h 0 hnot0];exact hb1
   ·rintro _ H ⟨rfl,M,h,hs⟩;simp only[HV];exact⟨M,h,hs⟩
  rw[h]at hs⊢;refine ZA rfl ?_;rw[show IntKind.i64.wrap ((2:Int)+1)=3 by kernel_rfl];unfold ZO.l2;refine Zw (by decide) ⟨by decide,by decide,?_⟩;simp only[HV];refine hs.ldr 8 (v:=.func (.func 57) #[] #[.pointer (some ⟨b1,0,none⟩),.pointer (some ⟨b2,0,none⟩)]) rfl rfl ?_;refine dZV.go (by kernel_rfl) ?_;rw[hres4];have hrd2:=hw2.rd;have hwr2:=hw2.wr;have hsy2:=hw2.sy;have hsec2:=hw2.sec;have hsize2:=hw2.size;have hs2:d2.size=d.size:=hsize2.trans hsize1;have hc20:lZU d.size c2:=by show c2 0=_;rw[hsam2 0 hnot0];exact hb1
  have hfl:(Sup.bZ8 kn d.sec d.size wn).length=d2.size:=by have:=Sup.iZX kn d.sec d.size wn hpn;omega
  have hwv:Sup.wrV d2 kn d.sec d.size wn=gZ9 d2 (0:Nat) (Sup.bZ8 kn d.sec d.size wn):=by
   have e0:Sup.ofB d2 d.sec d.size=true:=decide_eq_true ⟨by rw[hsec2,hsec1],by rw[hs2]⟩;unfold Sup.wrV gZ9;rw[if_neg (by rw[hg,e0];simp),Int.toNat_natCast,←hs2];rfl
  have hnew:Holds d.sec d.size (bZF kn wn) (bZG c2 (0:Nat) (Sup.bZ8 kn d.sec d.size wn)):=by
   refine qZG hg hlw (jZ4 c2 0 _) fun j hj=>?_
   rw[iZB _ _ (by omega),hz2 j hj,hsize1]
  have f2:∀(A3:As) (H:Hp),Sep [Dk dp d2,pts mp (aZs ⟨kn,d.sec,d.size,wn,bZq,0⟩ ap rp .none 0 0),Ar ap wn 0 [],pts rp (aZi dp 1 8 ((8*(d.size/8):Nat):Int)),pts p (aZJ dp mo),X,pts b1 (.obj (.cells #[.pointer (some ⟨p,0,none⟩)] 28)),pts b2 (.obj (.cells (Sup.bZ0 kn d.sec d.size wn) 30)),A3] H→Zc prog 57 #[.pointer (some ⟨b1,0,none⟩),.pointer (some ⟨b2,0,none⟩)] H fun v H=>v= .int .i64 (gZ9 d2 (0:Nat) (Sup.bZ8 kn d.sec d.size wn)).1∧Sep [Dk dp (gZ9 d2 (0:Nat) (Sup.bZ8 kn d.sec d.size wn)).2,pts mp (aZs ⟨kn,d.sec,d.size,wn,bZq,0⟩ ap rp .none 0 0),Ar ap wn 0 [],pts rp (aZi dp 1 8 ((8*(d.size/8):Nat):Int)),pts p (aZJ dp mo),X,pts b1 (.obj (.cells #[.pointer (some ⟨p,0,none⟩)] 28)),pts b2 (.obj (.cells (Sup.bZ0 kn d.sec d.size wn) 30)),A3] H:=fun A3 H hs=>by
   apply cZr.ok;unfold cZr;simp only[HV];refine hs.ld 6 (v:=.pointer (some ⟨p,0,none⟩)) rfl rfl ?_;simp only[HV]
   try simp only[HS]
   refine hs.ld 4 (v:=.pointer (some ⟨dp,0,none⟩)) rfl rfl ?_;simp only[HV];refine hs.ldw 7 rfl rfl ?_
   try simp only[Array.toArray_toList]
   refine(Sup.sZC (p:=dp) (d:=d2) hc2.ok (by omega) kn d.sec d.size wn (by have:=hok.sec;omega)).use hs [0] rfl rfl ?_;rintro _ _ H ⟨rfl,rfl⟩ hs;rw[hwv]at hs⊢;simp only[HV];exact⟨by trivial,hs⟩
  refine Zc.mono (f2 _ H hs) ?_;rintro _ H ⟨rfl,hs⟩;refine eZv _ _ ?_;simp only[HV];rcases jZp hc2 0 (by rw[hsec2,hsec1];omega) (Sup.bZ8 kn d.sec d.size wn) hfl with⟨d3,⟨h,hw3,hc3⟩|⟨h,hcut,hleft⟩⟩
  rotate_left
  ·rw[h]at hs⊢;refine ZK (show(8:Int)≠0 by decide) ?_;refine Zc.mono (bad H d3 (hs.re [0,4] rfl) (((hw1'.trans hw2).cut hcut).more (by omega)) (hleft.mono fun c' h=>?_)) ?_
   ·rcases h with e|e
    ·right;left;rw[e];exact hc20
    ·right;right;rw[e];exact hnew
   ·rintro _ H ⟨rfl,M,h,hs⟩;simp only[HV];exact⟨M,h,hs⟩
  rw[h]at hs⊢;refine ZA rfl ?_;rw[show IntKind.i64.wrap ((3:Int)+1)=4 by kernel_rfl];unfold ZO.l2;refine Zl (by decide) ?_;simp only[HV];refine aZa rfl ?_;refine hs.ld 6 (v:=.pointer (some ⟨p,0,none⟩)) rfl rfl ?_;simp only[HV]
  try simp only[HS]
  refine hs.st 4 rfl (by show 1<2;omega) rfl fun H hs=>?_;refine⟨_,.inr ⟨kn,wn,rfl,rfl,hfit,.inl ⟨d3,_,(hw1'.trans hw2).trans hw3,hc3,hnew,rfl,rfl⟩⟩,?_⟩;refine En.shut (mp:=mp) (e:=egM d (bZF kn wn) 0) (L:=[Dk dp d3]) ?_;exact(Me.bare (ap:=ap) (rp:=rp) (e:=egM d (bZF kn wn) 0) (L:=[pts p (aZJ dp (some mp)),Dk dp d3]) (hs.re [1,2,3,4,0] rfl) (tZR rfl)).swap
 have fo:∀(H:Hp) (b2:Nat),Sep [pts p (aZJ dp mo),Dk dp d,X,pts b1 (.obj (.cells #[.pointer (some ⟨p,0,none⟩)] 28)),pts b2 (.obj (.cells (Sup.bZ0 kn d.sec d.size wn) 30))] H→Zc prog 40 #[.pointer (some ⟨dp,0,none⟩),.agg (Sup.bZ0 kn d.sec d.size wn)] H fun v H=>∃ mp ap rp,v= .tuple #[.pointer (some ⟨mp,0,none⟩),.int .i64 0]∧Sep [pts mp (aZs ⟨kn,d.sec,d.size,wn,bZq,0⟩ ap rp .none 0 0),Ar ap wn 0 [],pts rp (aZi dp 1 8 ((8*(d.size/8):Nat):Int)),Dk dp d,pts p (aZJ dp mo),X,pts b1 (.obj (.cells #[.pointer (some ⟨p,0,none⟩)] 28)),pts b2 (.obj (.cells (Sup.bZ0 kn d.sec d.size wn) 30))] H:=fun H b2 hs=>by
  refine(pZH (dp:=dp) hok hg).use hs [1] rfl rfl ?_;rintro _ _ H ⟨mp,ap,rp,rfl,rfl⟩ hs;exact⟨mp,ap,rp,rfl,hs⟩
 have j5:∀ b2 H,Sep [pts p (aZJ dp mo),Dk dp d,X,pts b1 (.obj (.cells #[.pointer (some ⟨p,0,none⟩)] 28)),pts b2 (.obj (.cells (Sup.bZ0 kn d.sec d.size wn) 30))] H→
   Zh.j5 (fun v H'=>∃ M,nZy p dp g d c kn wn v M∧Sep M H') ⟨b1,0,none⟩ ⟨b2,0,none⟩ H:=fun b2 H hs=>by
  unfold Zh.j5 Zh.j5.q1
  repeat' first
   |(refine Zc.mono (fo _ _ hs) ?_;rintro _ H ⟨mp,ap,rp,rfl,hs⟩;simp only[HV];exact j6 mp ap rp _ H hs)
   |refine hs.ld 3 (v:=.pointer (some ⟨p,0,none⟩)) rfl rfl ?_
   |refine hs.ld 0 (v:=.pointer (some ⟨dp,0,none⟩)) rfl rfl ?_
   |refine hs.ldw 4 rfl rfl ?_
   |(simp only[HV];try simp only[aZ8,Addr.add_lit',Addr.add_zero,Nat.zero_add,Nat.add_zero,Array.toArray_toList])
   |refine⟨?_,?_⟩
 have hsz:∀(H:Hp) (T:List As) (K:Value→Prop),Sep ([pts p (aZJ dp mo),Dk dp d,X,pts b1 (.obj (.cells #[.pointer (some ⟨p,0,none⟩)] 28))]++T) H→K (.int .i64 (d.sec:Int))→aZb prog 50 #[.pointer (some ⟨dp,0,none⟩)] H K:=fun H T K hs h=>aZb.use (eZI hs 1 rfl) h
 have hsy:∀(H:Hp) (T:List As) (K:Value→Prop),Sep ([pts p (aZJ dp mo),Dk dp d,X,pts b1 (.obj (.cells #[.pointer (some ⟨p,0,none⟩)] 28))]++T) H→K (.int .i64 (d.size:Int))→aZb prog 51 #[.pointer (some ⟨dp,0,none⟩)] H K:=fun H T K hs h=>aZb.use (hZD hs 1 rfl) h
 repeat' first
  |exact j5 _ _ hs
  |refine hs.ld 3 (v:=.pointer (some ⟨p,0,none⟩)) rfl rfl ?_
  |refine hs.ld 0 (v:=.pointer (some ⟨dp,0,none⟩)) rfl rfl ?_
  |refine hsz _ [] _ hs ?_
  |refine hsy _ [] _ hs ?_
  |refine hsz _ [_] _ hs ?_
  |refine hsy _ [_] _ hs ?_
  |refine hs.nw fun b H hs=>?_
  |refine hs.stw 4 rfl rfl rfl rfl fun H hs=>?_
  |(simp only[HV];try simp only[HS])
  |refine⟨?_,?_⟩
theorem pZk {p:Nat}{d:D}{c:Cn}(hc:Clean d c)(ho:d.rd≤1000000):
  Tr prog 38 #[.pointer (some ⟨p,0,none⟩)] [Dk p d] fun v M=>(d.fuse≠1∧v= .tuple #[.agg (Sup.sbV (Sup.rdV d (c 0)).1),.int .i64 (Sup.rdV d (c 0)).2]∧M=[Dk p (D.rdG d 1)])∨(d.fuse=1∧v= .tuple #[.agg (Sup.bZ0 0 0 0 0),.int .i64 8]∧M=[Dk p (D.dead d)]):=fun H hs=>by
 have hok:=hc.ok;have hsec:=hok.sec;have hchk:d.chk 0=0:=gZx hc.down (Int.le_refl _) (by omega);by_cases hf:d.fuse=1
 ·have hbn:d.burns=true:=by unfold D.burns;simp[hf]
  apply eZb.ok;unfold eZb;refine hs.nw fun b1 H hs=>?_
  refine(jZM (p:=p) (d:=d) hok (by omega) 0).use hs [0] rfl rfl ?_;rintro _ _ H (⟨h,_,_⟩|⟨_,_,rfl,rfl⟩|⟨_,h,_⟩) hs
  ·exact absurd hchk h
  ·simp only[HV];refine ZK (by decide) ?_;refine hs.stw 1 rfl rfl rfl rfl fun H hs=>?_;refine hs.ldw 1 rfl rfl ?_;rw[eZK hf]at hs;exact⟨_,.inr ⟨hf,rfl,rfl⟩,hs.re [0] rfl⟩
  ·rw[hbn]at h;cases h
 ·have hbn:d.burns=false:=by unfold D.burns;exact decide_eq_false hf
  have e:({ d.burnt with rd:=d.rd+1}:D)=D.rdG d 1:=by rw[eZn hc.down hf];rfl
  refine Zc.mono (Sup.tZX hok ho hchk hbn H hs) ?_;rintro v H ⟨M,⟨rfl,rfl⟩,hs⟩;rw[e]at hs;rw[hc.now];exact⟨_,.inl ⟨hf,rfl,rfl⟩,hs⟩
def wZH (p dp:Nat)(d:D)(c:Cn)(o:Option Mn)(v:Value)(M:List As):Prop:=
 (∃ d',o=none∧bZU d d' 1 0 0∧Clean d' c∧v= .int .i64 11∧M=[En p dp none,Dk dp d'])∨
 (∃ d' m,o=some m∧bZU d d' 9 0 0∧Clean d' c∧v= .int .i64 0∧M=[En p dp (some (egM d m 0)),Dk dp d'])∨
 (∃ d',Cut d d' 9∧(o=none→d.fuse=1)∧Left d' (fun c'=>c'=c)∧v= .int .i64 8∧M=[En p dp none,Dk dp d'])
theorem Cut.dead {d:D}{c:Cn}(hc:Clean d c)(hf:d.fuse=1):Cut d (D.dead d) 1∧Left (D.dead d) (fun c'=>c'=c):=by
 have h1:=Cut.rdG hc (j:=0) (n:=1) hf (by omega);have h2:=Left.rdG hc 0;rw[oZK]at h1 h2;exact⟨h1,h2⟩
set_option maxHeartbeats 4000000 in
theorem kZ5 {p dp:Nat}{g:Option Eg}{d:D}{c:Cn}(hc:Clean d c)(hpn:0<Lay.aZj (d.size:Int))(ho:d.rd≤800000∧d.wr≤800000∧d.sy≤800000){o:Option Mn}(hh:xZh d.sec d.size o c):
  Tr prog 16 #[.pointer (some ⟨p,0,none⟩)] [En p dp g,Dk dp d] (wZH p dp d c o):=fun H hs=>by
 have hok:=hc.ok;have hper:=eZQ hpn;obtain⟨mo,X,hs,hback⟩:=En.ptr hs;have chk8:∀(T:List As) (H:Hp) (K:Value→Hp→Prop),Sep ([pts p (aZJ dp mo)]++T) H→(∀ H,Sep ([pts p (aZJ dp none)]++T) H→K (.int .i64 8) H)→Zc prog 39 #[.pointer (some ⟨p,0,none⟩),.int .i64 8] H K:=fun T H K hs hk=>by
  apply bZs.ok;unfold bZs;refine aZa rfl ?_
  try simp only[HS]
  refine hs.st 0 rfl (by show 1<2;omega) rfl fun H hs=>?_;exact hk H hs
 apply aZD.ok;unfold aZD
 try simp only[HS]
 refine hs.ld 0 (v:=.pointer (some ⟨dp,0,none⟩)) rfl rfl ?_;simp only[HV];refine(pZk (p:=dp) hc (by omega)).use hs [2] rfl rfl ?_;rintro _ _ H (⟨hf,rfl,rfl⟩|⟨hf,rfl,rfl⟩) hs
 rotate_left
 ·simp only[HV];refine hs.nw fun b1 H hs=>?_
  refine hs.stw 3 rfl rfl rfl rfl fun H hs=>?_;refine aZa rfl ?_;obtain⟨h1,h2⟩:=Cut.dead hc hf;refine chk8 [Dk dp (D.dead d)] H _ (hs.re [1,0] rfl) fun H hs=>?_;simp only[HV];exact⟨_,.inr (.inr ⟨_,h1.more (by omega),fun _=>hf,h2,rfl,rfl⟩),hs⟩
 have hgo1:d.fuse=0∨1<d.fuse:=by omega
 have hw1:=bZU.rdG hgo1;have hc1:=hc.rdG 1;cases o with
 |none=>
  have h0:c 0=List.replicate d.size 0:=hh;have e:Sup.rdV d (c 0)=((0,0,0,0),10):=by
   unfold Sup.rdV;rw[h0,Sup.qZ2 d.size hpn];rfl
  rw[e];simp only[HV];refine hs.nw fun b1 H hs=>?_
  refine hs.stw 3 rfl rfl rfl rfl fun H hs=>?_;refine aZe (by decide) (ZK (by decide) ?_)
  try simp only[HS]
  refine hs.st 1 rfl (by show 1<2;omega) rfl fun H hs=>?_;exact⟨_,.inl ⟨_,rfl,hw1,hc1,rfl,rfl⟩,hs.re [1,0] rfl⟩
 |some m=>
  have hh:Holds d.sec d.size m c:=hh;have hgo:=dZk hh.good;have hneed:9≤d.sec:=by have:=hgo.2.2.1;unfold Lay.bZD at this;omega
  have hsec:=hok.sec;have e:Sup.rdV d (c 0)=(((m.most:Int),(d.sec:Int),(d.size:Int),(m.arena:Int)),0):=by
   unfold Sup.rdV;rw[hh.sup,Sup.qZ1 _ _ _ _ hh.good (by omega),if_neg (by simp)];exact if_pos (show Sup.ofB d d.sec d.size=true from decide_eq_true ⟨rfl,rfl⟩)
  rw[e];simp only[HV];refine hs.nw fun b1 H hs=>?_
  refine hs.stw 3 rfl rfl rfl rfl fun H hs=>?_;refine aZe (by decide) (ZA rfl ?_);generalize hd1:D.rdG d 1=d1 at*;have hsec1:d1.sec=d.sec:=hw1.sec;have hsize1:d1.size=d.size:=hw1.size;have hh1:Holds d1.sec d1.size m c:=by rw[hsec1,hsize1];exact hh
  have hs:Sep [Dk dp d1,pts p (aZJ dp mo),X,pts b1 (.obj (.cells (Sup.bZ0 m.most d.sec d.size m.arena) 30))] H:=hs;have fo:∀(H:Hp),Sep [Dk dp d1,pts p (aZJ dp mo),X,pts b1 (.obj (.cells (Sup.bZ0 m.most d.sec d.size m.arena) 30))] H→Zc prog 40 #[.pointer (some ⟨dp,0,none⟩),.agg (Sup.bZ0 m.most d.sec d.size m.arena)] H fun v H=>∃ mp ap rp,v= .tuple #[.pointer (some ⟨mp,0,none⟩),.int .i64 0]∧Sep [pts mp (aZs ⟨m.most,d.sec,d.size,m.arena,bZq,0⟩ ap rp .none 0 0),Ar ap m.arena 0 [],pts rp (aZi dp 1 8 ((8*(d.size/8):Nat):Int)),Dk dp d1,pts p (aZJ dp mo),X] H:=fun H hs=>by
   rw[← hsec1,←hsize1]at hs⊢;refine(pZH (dp:=dp) hc1.ok hh1.good).use hs [0] rfl rfl ?_;rintro _ _ H ⟨mp,ap,rp,rfl,rfl⟩ hs;exact⟨mp,ap,rp,rfl,hs.re [0,1,2,3,4,5] rfl⟩
  have j8:∀ mp ap rp H,Sep [pts mp (aZs ⟨m.most,d.sec,d.size,m.arena,bZq,0⟩ ap rp .none 0 0),Ar ap m.arena 0 [],pts rp (aZi dp 1 8 ((8*(d.size/8):Nat):Int)),Dk dp d1,pts p (aZJ dp mo),X] H→
    aZD.j8 (fun v H'=>∃ M,wZH p dp d c (some m) v M∧Sep M H') (some ⟨p,0,none⟩) 0 (some ⟨mp,0,none⟩) H:=fun mp ap rp H hs=>by
   unfold aZD.j8;refine ZA rfl ?_
   try simp only[HS]
   refine hs.ld 0 (v:=.pointer (some ⟨rp,0,none⟩)) rfl rfl ?_;simp only[HV];have hrd1:=hw1.rd;refine(pZo (b:=rp) (p:=dp) (f:=1) (n:=8) (w:=((8*(d.size/8):Nat):Int)) (d:=d1) (by omega) (by omega) hc1.ok (by omega) (fun _=>by
    have:=jZu 1 8 8 0 d1 [];have h9:(aZ4 1 8 d1).2.2.length≤0+8:=this;omega)).use hs [3,2] rfl rfl ?_
   rintro _ _ H ⟨rfl,rfl⟩ hs;have hs:Sep [Dk dp (aZ4 1 8 d1).2.1,pts rp (aZi dp 1 8 ((8*(d.size/8):Nat):Int)),pts mp (aZs ⟨m.most,d.sec,d.size,m.arena,bZq,0⟩ ap rp .none 0 0),Ar ap m.arena 0 [],pts p (aZJ dp mo),X] H:=hs;simp only[HV];refine hs.nw fun b2 H hs=>?_
   refine hs.stw 6 rfl rfl (y:=R.c _) rfl (eZ7 _) fun H hs=>?_;rcases kZs hc1 1 8 (by rw[hsec1];omega)with⟨hf2,hsc⟩|⟨j,hj,hf2,hsc⟩
   ·rw[hsc]at hs⊢;rw[oZl,hh1.lastC]at hs;refine ZA rfl ?_;refine hs.ldw 6 rfl rfl ?_
    try simp only[Array.toArray_toList]
    try simp only[HS]
    refine hs.sta 2 (off:=23) (n:=8) (y:=R.c m.r) rfl (by show 23+8≤32;omega) rfl (eZ7 _) fun H hs=>?_;have hs:Sep [Dk dp (D.rdG d1 8),pts rp (aZi dp 1 8 ((8*(d.size/8):Nat):Int)),pts mp (aZs (egM d m 0) ap rp .none 0 0),Ar ap m.arena 0 [],pts p (aZJ dp mo),X,pts b2 (.obj (.cells (R.c m.r) 93))] H:=hs;have he:=hh.eg (peak:=0) (by omega);have hkk:=he.kk0;refine(rZ1 (mp:=mp) (ap:=ap) (rp:=rp) (e:=egM d m 0) (A:=.none) (n:=0) (m:=0) he.most he.p ⟨he.least,he.arena⟩ (fun _=>⟨hkk.1,he.kk,he.dir⟩)).use hs [2] rfl rfl ?_;rintro _ _ H ⟨A',m',rfl,rfl⟩ hs
    try simp only[HV]
    try simp only[HS]
    refine hs.st 5 rfl (by show 1<2;omega) rfl fun H hs=>?_;refine⟨_,.inr (.inl ⟨_,m,rfl,hw1.trans (bZU.rdG hf2),hc1.rdG 8,rfl,rfl⟩),?_⟩;exact En.unwhole (mp:=mp) (ap:=ap) (rp:=rp) (A:=A') (m:=m') (e:=egM d m 0) (L:=[Dk dp (D.rdG d1 8)]) (hs.re [5,0,4,3,1,2] rfl)
   ·rw[hsc]at hs⊢;refine ZK (show(8:Int)≠0 by decide) ?_;refine chk8 [Dk dp (D.dead (D.rdG d1 j))] H _ (hs.re [4,0] rfl) fun H hs=>?_;simp only[HV];have hcut:=hw1.cut (Cut.rdG hc1 hf2 hj);exact⟨_,.inr (.inr ⟨_,hcut.more (by omega),fun h=>(by cases h),Left.rdG hc1 j,rfl,rfl⟩),hs⟩
  try simp only[HS]
  repeat' first
   |(refine Zc.mono (fo _ hs) ?_;rintro _ H ⟨mp,ap,rp,rfl,hs⟩;simp only[HV];exact j8 mp ap rp H hs)
   |refine hs.ld 1 (v:=.pointer (some ⟨dp,0,none⟩)) rfl rfl ?_
   |refine hs.ldw 3 rfl rfl ?_
   |(simp only[HV];try simp only[aZ8,Addr.add_lit',Addr.add_zero,Nat.zero_add,Nat.add_zero,Array.toArray_toList])
   |refine⟨?_,?_⟩
end Eng
namespace W
open Go Go.Hw
theorem bZe :prog.follows .mixedOrders=true:=by kernel_rfl
def Zg.j32 (K:Value→Hp→Prop)(R12:Option Addr→Nat→Nat→Int→Option Addr→Nat→Nat→Option Addr→Nat→Nat→Option Addr→Nat→Nat→Int→Addr→Int→Int→Int→Hp→Prop)(A25:Option Addr)(n25:Nat)(m25:Nat)(x40:Int)(A26:Option Addr)(n26:Nat)(m26:Nat)(A27:Option Addr)(n27:Nat)(m27:Nat)(A28:Option Addr)(n28:Nat)(m28:Nat)(x41:Int)(a10:Addr)(x42:Int)(x43:Int)(x44:Int)(H:Hp):Prop:=
 LeP H (a10.add 0) fun p11=>NN p11 fun a11=>HcB 12 #[.pointer (some (a11.add 7))] H fun c7 H19=>BIf (!c7) (R12 A25 n25 m25 x40 A26 n26 m26 A27 n27 m27 A28 n28 m28 x41 a10 x42 x43 (IntKind.i64.wrap (x44+1)) H19) (((2:Int)≠0∧IntKind.i64=IntKind.i64∧BIf ((Int.tmod x44 2)==0) (LeP H19 (a10.add 0) fun p12=>HcI 13 #[.pointer p12,.slice A27 n27 m27] H19 fun x45 H20=>BIf (x45 !=0) (K (.bool false) H20) (((2:Int)≠0∧IntKind.i64=IntKind.i64∧BIf ((Int.tmod x44 2)==1) (LeP H20 (a10.add 0) fun p13=>HcI 13 #[.pointer p13,.slice A28 n28 m28] H20 fun x46 H21=>BIf (x46 !=0) (K (.bool false) H21) (R12 A25 n25 m25 x40 A26 n26 m26 A27 n27 m27 A28 n28 m28 x41 a10 x42 x43 (IntKind.i64.wrap (x44+1)) H21)) (R12 A25 n25 m25 x40 A26 n26 m26 A27 n27 m27 A28 n28 m28 x41 a10 x42 x43 (IntKind.i64.wrap (x44+1)) H20)))) (((2:Int)≠0∧IntKind.i64=IntKind.i64∧BIf ((Int.tmod x44 2)==1) (LeP H19 (a10.add 0) fun p14=>HcI 13 #[.pointer p14,.slice A28 n28 m28] H19 fun x47 H22=>BIf (x47 !=0) (K (.bool false) H22) (R12 A25 n25 m25 x40 A26 n26 m26 A27 n27 m27 A28 n28 m28 x41 a10 x42 x43 (IntKind.i64.wrap (x44+1)) H22)) (R12 A25 n25 m25 x40 A26 n26 m26 A27 n27 m27 A28 n28 m28 x41 a10 x42 x43 (IntKind.i64.wrap (x44+1)) H19)))))
def Zg.j30 (K:Value→Hp→Prop)(R12:Option Addr→Nat→Nat→Int→Option Addr→Nat→Nat→Option Addr→Nat→Nat→Option Addr→Nat→Nat→Int→Addr→Int→Int→Int→Hp→Prop)(A21:Option Addr)(n21:Nat)(m21:Nat)(x34:Int)(A22:Option Addr)(n22:Nat)(m22:Nat)(A23:Option Addr)(n23:Nat)(m23:Nat)(A24:Option Addr)(n24:Nat)(m24:Nat)(x35:Int)(a7:Addr)(x36:Int)(x37:Int)(x38:Int)(x39:Int)(H:Hp):Prop:=
 BIf (x39 !=0) (BIf (x39 !=8) (K (.bool false) H) (LeP H (a7.add 0) fun p9=>NN p9 fun a8=>HcB 12 #[.pointer (some (a8.add 7))] H fun c5 H17=>BIf (!((x39==8)==c5)) (K (.bool false) H17) (Zg.j32 K R12 A21 n21 m21 x34 A22 n22 m22 A23 n23 m23 A24 n24 m24 x35 a7 x36 x37 x38 H17))) (LeP H (a7.add 0) fun p10=>NN p10 fun a9=>HcB 12 #[.pointer (some (a9.add 7))] H fun c6 H18=>BIf (!((x39==8)==c6)) (K (.bool false) H18) (Zg.j32 K R12 A21 n21 m21 x34 A22 n22 m22 A23 n23 m23 A24 n24 m24 x35 a7 x36 x37 x38 H18))
def Zg.j24 (K:Value→Hp→Prop)(R12:Option Addr→Nat→Nat→Int→Option Addr→Nat→Nat→Option Addr→Nat→Nat→Option Addr→Nat→Nat→Int→Addr→Int→Int→Int→Hp→Prop)(A17:Option Addr)(n17:Nat)(m17:Nat)(x26:Int)(A18:Option Addr)(n18:Nat)(m18:Nat)(A19:Option Addr)(n19:Nat)(m19:Nat)(A20:Option Addr)(n20:Nat)(m20:Nat)(x27:Int)(a6:Addr)(x28:Int)(x29:Int)(x30:Int)(x31:Int)(H:Hp):Prop:=
 BIf (x31==0) (LeP H (a6.add 1) fun p7=>HcA 15 #[.pointer p7] H fun y5 H15=>ixV y5 4 fun v27=>DI .i64 v27 fun x32=>Zg.j30 K R12 A17 n17 m17 x26 A18 n18 m18 A19 n19 m19 A20 n20 m20 x27 a6 x32 x29 x30 x31 H15) (Zg.j30 K R12 A17 n17 m17 x26 A18 n18 m18 A19 n19 m19 A20 n20 m20 x27 a6 x28 x29 x30 x31 H)
def Zg.j18 (K:Value→Hp→Prop)(R12:Option Addr→Nat→Nat→Int→Option Addr→Nat→Nat→Option Addr→Nat→Nat→Option Addr→Nat→Nat→Int→Addr→Int→Int→Int→Hp→Prop)(A13:Option Addr)(n13:Nat)(m13:Nat)(x16:Int)(A14:Option Addr)(n14:Nat)(m14:Nat)(A15:Option Addr)(n15:Nat)(m15:Nat)(A16:Option Addr)(n16:Nat)(m16:Nat)(x17:Int)(a5:Addr)(x18:Int)(x19:Int)(x20:Int)(H:Hp):Prop:=
 LeP H (a5.add 1) fun p4=>HcA 15 #[.pointer p4] H fun y3 H10=>ixV y3 0 fun v17=>DI .i64 v17 fun x21=>BIf (x21==0) (LeP H10 (a5.add 1) fun p5=>HcI 16 #[.pointer p5] H10 fun x22 H11=>LeP H11 (a5.add 1) fun p6=>HcA 15 #[.pointer p6] H11 fun y4 H12=>Nw H12 (.obj (.cells #[.int .i64 0,.int .i64 0,.int .i64 0,.int .i64 0,.int .i64 0,.int .i64 0] 57)) fun b2 H13=>StA H13 ⟨b2,0,none⟩ y4 6 fun H14=>BIf (x22==0) (LeI H14 ((⟨b2,0,none⟩:Addr).add 0) fun x23=>BIf (decide (x23<3)) (K (.bool false) H14) (LeI H14 ((⟨b2,0,none⟩:Addr).add 4) fun x24=>BIf (decide (x24<x18)) (K (.bool false) H14) (LeI H14 ((⟨b2,0,none⟩:Addr).add 4) fun x25=>BIf (decide (x25>(IntKind.i64.wrap (x18+1)))) (K (.bool false) H14) (Zg.j24 K R12 A13 n13 m13 x16 A14 n14 m14 A15 n15 m15 A16 n16 m16 x17 a5 x18 x19 x20 x22 H14)))) (Zg.j24 K R12 A13 n13 m13 x16 A14 n14 m14 A15 n15 m15 A16 n16 m16 x17 a5 x18 x19 x20 x22 H14)) (LeP H10 (a5.add 1) fun p8=>Hz 19 #[.pointer p8] H10 fun v29 H16=>tZm v29 fun c4 x33=>(BIf (x33==0) (Zg.j30 K R12 A13 n13 m13 x16 A14 n14 m14 A15 n15 m15 A16 n16 m16 x17 a5 (IntKind.i64.wrap (x18+1)) x19 x20 0 H16) (Zg.j30 K R12 A13 n13 m13 x16 A14 n14 m14 A15 n15 m15 A16 n16 m16 x17 a5 x18 x19 x20 x33 H16)))
def Zg.j35 (K:Value→Hp→Prop)(A29:Option Addr)(n29:Nat)(m29:Nat)(x48:Int)(x49:Int)(a12:Addr)(H:Hp):Prop:=
 LeP H (a12.add 0) fun p15=>NN p15 fun a13=>Hz 14 #[.pointer (some (a13.add 7)),.int .i64 0] H fun v45 H23=>LeP H23 (a12.add 1) fun p16=>Hz 20 #[.pointer p16] H23 fun v47 H24=>dZ9 v47 fun A30 n30 m30 x50=>(LeP H24 (a12.add 1) fun p17=>Hz 17 #[.pointer p17] H24 fun v51 H25=>dZ9 v51 fun A31 n31 m31 x51=>(BIf (x50==0) (BIf (x51==0) (HcS 21 #[.slice A29 n29 m29,.int .i64 x49,.int .i64 x48] H25 fun A32 n32 m32 H26=>HcB 18 #[.slice A30 n30 m30,.slice A32 n32 m32] H26 fun c8 H27=>BIf c8 (HcB 18 #[.slice A31 n31 m31,.slice A29 n29 m29] H27 fun c9 H28=>K (.bool c9) H28) (K (.bool false) H27)) (K (.bool false) H25)) (K (.bool false) H25)))
def Zg.l12 (K:Value→Hp→Prop):Nat→Option Addr→Nat→Nat→Int→Option Addr→Nat→Nat→Option Addr→Nat→Nat→Option Addr→Nat→Nat→Int→Addr→Int→Int→Int→Hp→Prop
 |0,_,_,_,_,_,_,_,_,_,_,_,_,_,_,_,_,_,_,_=>False
 |k+1,A9,n9,m9,x9,A10,n10,m10,A11,n11,m11,A12,n12,m12,x10,a1,x11,x12,x13,H=>
  let R12:=Zg.l12 K k
  BIf (decide (x13<60)) (LeP H (a1.add 1) fun p1=>HcA 15 #[.pointer p1] H fun y2 H7=>ixV y2 0 fun v9=>DI .i64 v9 fun x14=>BIf (x14 !=4) (LeP H7 (a1.add 0) fun p2=>NN p2 fun a2=>Hz 14 #[.pointer (some (a2.add 7)),.int .i64 0] H7 fun v11 H8=>BIf (decide (x12<(n10:Int))) (LeP H8 (a1.add 0) fun p3=>NN p3 fun a3=>ixI x12 n10 (NN A10 fun a4=>LeV H8 (a4.add (x12.toNat*1)) fun x15=>Hz 14 #[.pointer (some (a3.add 7)),.int .i64 (IntKind.i64.wrap x15)] H8 fun v14 H9=>Zg.j18 K R12 A9 n9 m9 x9 A10 n10 m10 A11 n11 m11 A12 n12 m12 x10 a1 x11 (IntKind.i64.wrap (x12+1)) x13 H9)) (Zg.j18 K R12 A9 n9 m9 x9 A10 n10 m10 A11 n11 m11 A12 n12 m12 x10 a1 x11 x12 x13 H8)) (Zg.j35 K A9 n9 m9 x9 x10 a1 H7)) (Zg.j35 K A9 n9 m9 x9 x10 a1 H)
def Zg.j6 (K:Value→Hp→Prop)(A5:Option Addr)(n5:Nat)(m5:Nat)(x5:Int)(x6:Int)(x7:Int)(A6:Option Addr)(n6:Nat)(m6:Nat)(A7:Option Addr)(n7:Nat)(m7:Nat)(A8:Option Addr)(n8:Nat)(m8:Nat)(x8:Int)(H:Hp):Prop:=
 Hz 9 #[.int .i64 x8,.int .u8 x6,.int .u8 x7] H fun v3 H3=>wZi v3 fun y1 c2=>(Nw H3 (.obj (.cells #[.pointer none,.pointer none,.int .i64 0,.int .i64 0,.int .i64 0,.int .i64 0] 32)) fun b1 H4=>StA H4 ⟨b1,0,none⟩ y1 6 fun H5=>BIf (!c2) (K (.bool false) H5) (LdA H5 ⟨b1,0,none⟩ 6 fun l4=>HcB 10 #[.agg l4.toArray,.slice A5 n5 m5,.int .i64 x5] H5 fun c3 H6=>BIf (!c3) (K (.bool false) H6) ((∃ k,Zg.l12 K k A5 n5 m5 x5 A6 n6 m6 A7 n7 m7 A8 n8 m8 x8 ⟨b1,0,none⟩ 0 0 0 H6))))
def Zg (A1:Option Addr)(n1:Nat)(m1:Nat)(x1:Int)(x2:Int)(x3:Int)(A2:Option Addr)(n2:Nat)(m2:Nat)(A3:Option Addr)(n3:Nat)(m3:Nat)(A4:Option Addr)(n4:Nat)(m4:Nat)(H:Hp)(K:Value→Hp→Prop):Prop:=
 HcB 6 #[] H fun c1 H1=>BIf (!c1) (K (.bool false) H1) (HcI 7 #[.slice A1 n1 m1] H1 fun x4 H2=>BIf (decide (x4<0)) (K (.bool true) H2) (BIf (x1 !=0) (BIf (x1 !=1) (K (.bool true) H2) (BIf (decide ((n2:Int)>16)) (K (.bool true) H2) (BIf (decide ((n3:Int)>40)) (K (.bool true) H2) (BIf (decide ((n4:Int)>40)) (K (.bool true) H2) (Zg.j6 K A1 n1 m1 x1 x2 x3 A2 n2 m2 A3 n3 m3 A4 n4 m4 x4 H2))))) (BIf (decide ((n2:Int)>16)) (K (.bool true) H2) (BIf (decide ((n3:Int)>40)) (K (.bool true) H2) (BIf (decide ((n4:Int)>40)) (K (.bool true) H2) (Zg.j6 K A1 n1 m1 x1 x2 x3 A2 n2 m2 A3 n3 m3 A4 n4 m4 x4 H2))))))
def Zg.l12.L (K:Value→Hp→Prop)(k:Nat):Mid:=fun E D H=>
 DG (E.get? 0) fun w0=>DSl w0 fun A9 n9 m9=>eI E 1 .i64 fun x9=>DG (E.get? 4) fun w4=>DSl w4 fun A10 n10 m10=>DG (E.get? 5) fun w5=>DSl w5 fun A11 n11 m11=>DG (E.get? 6) fun w6=>DSl w6 fun A12 n12 m12=>eI E 15 .i64 fun x10=>eN E 16 fun a1=>eI E 18 .i64 fun x11=>eI E 19 .i64 fun x12=>eI E 20 .i64 fun x13=>Zo D (Zg.l12 K k A9 n9 m9 x9 A10 n10 m10 A11 n11 m11 A12 n12 m12 x10 a1 x11 x12 x13 H)
def Zg.Λ12 (K:Value→Hp→Prop)(R12:Option Addr→Nat→Nat→Int→Option Addr→Nat→Nat→Option Addr→Nat→Nat→Option Addr→Nat→Nat→Int→Addr→Int→Int→Int→Hp→Prop):Zn:=⟨fun i=>match Nat.beq i 32 with|true=>some (fun E D H=>DG (E.get? 0) fun w0=>DSl w0 fun A25 n25 m25=>eI E 1 .i64 fun x40=>DG (E.get? 4) fun w4=>DSl w4 fun A26 n26 m26=>DG (E.get? 5) fun w5=>DSl w5 fun A27 n27 m27=>DG (E.get? 6) fun w6=>DSl w6 fun A28 n28 m28=>eI E 15 .i64 fun x41=>eN E 16 fun a10=>eI E 18 .i64 fun x42=>eI E 19 .i64 fun x43=>eI E 20 .i64 fun x44=>Zo D (Zg.j32 K R12 A25 n25 m25 x40 A26 n26 m26 A27 n27 m27 A28 n28 m28 x41 a10 x42 x43 x44 H))|false=>match Nat.beq i 30 with|true=>some (fun E D H=>DG (E.get? 0) fun w0=>DSl w0 fun A21 n21 m21=>eI E 1 .i64 fun x34=>DG (E.get? 4) fun w4=>DSl w4 fun A22 n22 m22=>DG (E.get? 5) fun w5=>DSl w5 fun A23 n23 m23=>DG (E.get? 6) fun w6=>DSl w6 fun A24 n24 m24=>eI E 15 .i64 fun x35=>eN E 16 fun a7=>eI E 18 .i64 fun x36=>eI E 19 .i64 fun x37=>eI E 20 .i64 fun x38=>eI E 21 .i64 fun x39=>Zo D (Zg.j30 K R12 A21 n21 m21 x34 A22 n22 m22 A23 n23 m23 A24 n24 m24 x35 a7 x36 x37 x38 x39 H))|false=>match Nat.beq i 24 with|true=>some (fun E D H=>DG (E.get? 0) fun w0=>DSl w0 fun A17 n17 m17=>eI E 1 .i64 fun x26=>DG (E.get? 4) fun w4=>DSl w4 fun A18 n18 m18=>DG (E.get? 5) fun w5=>DSl w5 fun A19 n19 m19=>DG (E.get? 6) fun w6=>DSl w6 fun A20 n20 m20=>eI E 15 .i64 fun x27=>eN E 16 fun a6=>eI E 18 .i64 fun x28=>eI E 19 .i64 fun x29=>eI E 20 .i64 fun x30=>eI E 21 .i64 fun x31=>Zo D (Zg.j24 K R12 A17 n17 m17 x26 A18 n18 m18 A19 n19 m19 A20 n20 m20 x27 a6 x28 x29 x30 x31 H))|false=>match Nat.beq i 18 with|true=>some (fun E D H=>DG (E.get? 0) fun w0=>DSl w0 fun A13 n13 m13=>eI E 1 .i64 fun x16=>DG (E.get? 4) fun w4=>DSl w4 fun A14 n14 m14=>DG (E.get? 5) fun w5=>DSl w5 fun A15 n15 m15=>DG (E.get? 6) fun w6=>DSl w6 fun A16 n16 m16=>eI E 15 .i64 fun x17=>eN E 16 fun a5=>eI E 18 .i64 fun x18=>eI E 19 .i64 fun x19=>eI E 20 .i64 fun x20=>Zo D (Zg.j18 K R12 A13 n13 m13 x16 A14 n14 m14 A15 n15 m15 A16 n16 m16 x17 a5 x18 x19 x20 H))|false=>none,fun i=>none,(fun i=>match Nat.beq i 16 with|true=>some ([],[0,1,2,3,4,5,6,7,8],9)|false=>none)⟩
def Zg.Λ (K:Value→Hp→Prop):Zn:=⟨fun i=>match Nat.beq i 35 with|true=>some (fun E D H=>DG (E.get? 0) fun w0=>DSl w0 fun A29 n29 m29=>eI E 1 .i64 fun x48=>eI E 15 .i64 fun x49=>eN E 16 fun a12=>Zo D (Zg.j35 K A29 n29 m29 x48 x49 a12 H))|false=>match Nat.beq i 6 with|true=>some (fun E D H=>DG (E.get? 0) fun w0=>DSl w0 fun A5 n5 m5=>eI E 1 .i64 fun x5=>eI E 2 .u8 fun x6=>eI E 3 .u8 fun x7=>DG (E.get? 4) fun w4=>DSl w4 fun A6 n6 m6=>DG (E.get? 5) fun w5=>DSl w5 fun A7 n7 m7=>DG (E.get? 6) fun w6=>DSl w6 fun A8 n8 m8=>eI E 15 .i64 fun x8=>Zo D (Zg.j6 K A5 n5 m5 x5 x6 x7 A6 n6 m6 A7 n7 m7 A8 n8 m8 x8 H))|false=>none,fun i=>match Nat.beq i 12 with|true=>some (fun E D H=>∃ k,Zg.l12.L K k E D H)|false=>none,(fun i=>match Nat.beq i 16 with|true=>some ([],[0,1,2,3,4,5,6,7,8],9)|false=>none)⟩
theorem Zg.ok (A1:Option Addr)(n1:Nat)(m1:Nat)(x1:Int)(x2:Int)(x3:Int)(A2:Option Addr)(n2:Nat)(m2:Nat)(A3:Option Addr)(n3:Nat)(m3:Nat)(A4:Option Addr)(n4:Nat)(m4:Nat)(H:Hp)(K:Value→Hp→Prop)(h:Zg A1 n1 m1 x1 x2 x3 A2 n2 m2 A3 n3 m3 A4 n4 m4 H K):Zc prog 4 #[.slice A1 n1 m1,.int .i64 x1,.int .u8 x2,.int .u8 x3,.slice A2 n2 m2,.slice A3 n3 m3,.slice A4 n4 m4] H K:=
 Zr Tryz.func4 rfl (nbl rfl) (Zf (Λ:=(Zg.Λ K)) bZe _ _ _ _ _ (Eq.mp (by kernel_rfl) h) (Zb Za rfl (Zb (Zb Za rfl (Zk (Zb Za rfl Zy) Zm)) rfl (Zb Za rfl (aZK (Zb Za rfl (Zk (Zb Za rfl Zy) Zm)) rfl (fun E D H h=>by
   obtain⟨w0,e0,g1⟩:=DG.out h;obtain⟨A5,n5,m5,rfl,g2⟩:=DSl.out g1;obtain⟨x5,e1,g4⟩:=GI g2;obtain⟨x6,e2,g6⟩:=GI g4;obtain⟨x7,e3,g8⟩:=GI g6;obtain⟨w4,e4,g9⟩:=DG.out g8;obtain⟨A6,n6,m6,rfl,g10⟩:=DSl.out g9;obtain⟨w5,e5,g11⟩:=DG.out g10;obtain⟨A7,n7,m7,rfl,g12⟩:=DSl.out g11;obtain⟨w6,e6,g13⟩:=DG.out g12;obtain⟨A8,n8,m8,rfl,g14⟩:=DSl.out g13;obtain⟨x8,e15,g16⟩:=GI g14;obtain⟨rfl,h'⟩:=Zo.out g16;exact(Zf (Λ:=(Zg.Λ K)) bZe _ _ [(0,.slice A5 n5 m5),(1,.int .i64 x5),(2,.int .u8 x6),(3,.int .u8 x7),(4,.slice A6 n6 m6),(5,.slice A7 n7 m7),(6,.slice A8 n8 m8),(15,.int .i64 x8)] [] H (Eq.mp (by kernel_rfl) h') (Zb Za rfl (Zb (Zb Za rfl (Zk (Zb Za rfl Zy) Zm)) rfl (Zb Za rfl (Zb Za rfl (aZK (Zb Za rfl (Zt (ZY rfl (fun E D H h=>by
     refine Safe.loop' (Zg.l12.L K) (fun E D H h=>?_) (fun k E D H h=>?_) E D H h
     ·obtain⟨w0,e0,g1⟩:=DG.out h;obtain⟨A9,n9,m9,rfl,g2⟩:=DSl.out g1;obtain⟨w1,e1,g3⟩:=DG.out g2;obtain⟨x9,rfl,g4⟩:=DI.out g3;obtain⟨w4,e4,g5⟩:=DG.out g4;obtain⟨A10,n10,m10,rfl,g6⟩:=DSl.out g5;obtain⟨w5,e5,g7⟩:=DG.out g6;obtain⟨A11,n11,m11,rfl,g8⟩:=DSl.out g7;obtain⟨w6,e6,g9⟩:=DG.out g8;obtain⟨A12,n12,m12,rfl,g10⟩:=DSl.out g9;obtain⟨w15,e15,g11⟩:=DG.out g10;obtain⟨x10,rfl,g12⟩:=DI.out g11;obtain⟨w16,e16,g13⟩:=DG.out g12;obtain⟨pw16,rfl,g14⟩:=DP.out g13;obtain⟨a1,rfl,g15⟩:=NN.out g14;obtain⟨w18,e18,g16⟩:=DG.out g15;obtain⟨x11,rfl,g17⟩:=DI.out g16;obtain⟨w19,e19,g18⟩:=DG.out g17;obtain⟨x12,rfl,g19⟩:=DI.out g18;obtain⟨w20,e20,g20⟩:=DG.out g19;obtain⟨x13,rfl,g21⟩:=DI.out g20;obtain⟨rfl,h'⟩:=Zo.out g21;exact h'
     ·obtain⟨w0,e0,g1⟩:=DG.out h;obtain⟨A9,n9,m9,rfl,g2⟩:=DSl.out g1;obtain⟨x9,e1,g4⟩:=GI g2;obtain⟨w4,e4,g5⟩:=DG.out g4;obtain⟨A10,n10,m10,rfl,g6⟩:=DSl.out g5;obtain⟨w5,e5,g7⟩:=DG.out g6;obtain⟨A11,n11,m11,rfl,g8⟩:=DSl.out g7;obtain⟨w6,e6,g9⟩:=DG.out g8;obtain⟨A12,n12,m12,rfl,g10⟩:=DSl.out g9;obtain⟨x10,e15,g12⟩:=GI g10;obtain⟨a1,e16,g15⟩:=GN g12;obtain⟨x11,e18,g17⟩:=GI g15;obtain⟨x12,e19,g19⟩:=GI g17;obtain⟨x13,e20,g21⟩:=GI g19;obtain⟨rfl,h'⟩:=Zo.out g21;exact(Zf (Λ:=(Zg.Λ12 K (Zg.l12 K k))) bZe _ _ [(0,.slice A9 n9 m9),(1,.int .i64 x9),(4,.slice A10 n10 m10),(5,.slice A11 n11 m11),(6,.slice A12 n12 m12),(15,.int .i64 x10),(16,.pointer (some a1)),(18,.int .i64 x11),(19,.int .i64 x12),(20,.int .i64 x13)] [] H (Eq.mp (by kernel_rfl) h') (Zb (Zb Za rfl (Zk Zm ZP)) rfl (Zb (Zt (Zb Za rfl (aZK (Zb Za rfl (Zk (Zb Za rfl Za) Zm)) rfl (fun E D H h=>by
        obtain⟨w0,e0,g1⟩:=DG.out h;obtain⟨A13,n13,m13,rfl,g2⟩:=DSl.out g1;obtain⟨x16,e1,g4⟩:=GI g2;obtain⟨w4,e4,g5⟩:=DG.out g4;obtain⟨A14,n14,m14,rfl,g6⟩:=DSl.out g5;obtain⟨w5,e5,g7⟩:=DG.out g6;obtain⟨A15,n15,m15,rfl,g8⟩:=DSl.out g7;obtain⟨w6,e6,g9⟩:=DG.out g8;obtain⟨A16,n16,m16,rfl,g10⟩:=DSl.out g9;obtain⟨x17,e15,g12⟩:=GI g10;obtain⟨a5,e16,g15⟩:=GN g12;obtain⟨x18,e18,g17⟩:=GI g15;obtain⟨x19,e19,g19⟩:=GI g17;obtain⟨x20,e20,g21⟩:=GI g19;obtain⟨rfl,h'⟩:=Zo.out g21;exact(Zf (Λ:=(Zg.Λ12 K (Zg.l12 K k))) bZe _ _ [(0,.slice A13 n13 m13),(1,.int .i64 x16),(4,.slice A14 n14 m14),(5,.slice A15 n15 m15),(6,.slice A16 n16 m16),(15,.int .i64 x17),(16,.pointer (some a5)),(18,.int .i64 x18),(19,.int .i64 x19),(20,.int .i64 x20)] [] H (Eq.mp (by kernel_rfl) h') (Zb Za rfl (aZK (Zb Za rfl (Zk (Zb Za rfl (aZK (Zb Za rfl (Zb Za rfl (Zk (Zb Za rfl Zy) Zm))) rfl (fun E D H h=>by
          obtain⟨w0,e0,g1⟩:=DG.out h;obtain⟨A17,n17,m17,rfl,g2⟩:=DSl.out g1;obtain⟨x26,e1,g4⟩:=GI g2;obtain⟨w4,e4,g5⟩:=DG.out g4;obtain⟨A18,n18,m18,rfl,g6⟩:=DSl.out g5;obtain⟨w5,e5,g7⟩:=DG.out g6;obtain⟨A19,n19,m19,rfl,g8⟩:=DSl.out g7;obtain⟨w6,e6,g9⟩:=DG.out g8;obtain⟨A20,n20,m20,rfl,g10⟩:=DSl.out g9;obtain⟨x27,e15,g12⟩:=GI g10;obtain⟨a6,e16,g15⟩:=GN g12;obtain⟨x28,e18,g17⟩:=GI g15;obtain⟨x29,e19,g19⟩:=GI g17;obtain⟨x30,e20,g21⟩:=GI g19;obtain⟨x31,e21,g23⟩:=GI g21;obtain⟨rfl,h'⟩:=Zo.out g23;exact(Zf (Λ:=(Zg.Λ12 K (Zg.l12 K k))) bZe _ _ [(0,.slice A17 n17 m17),(1,.int .i64 x26),(4,.slice A18 n18 m18),(5,.slice A19 n19 m19),(6,.slice A20 n20 m20),(15,.int .i64 x27),(16,.pointer (some a6)),(18,.int .i64 x28),(19,.int .i64 x29),(20,.int .i64 x30),(21,.int .i64 x31)] [] H (Eq.mp (by kernel_rfl) h') (Zb Za rfl (Zk Za Zm))).weaken (Zd.cons e0 (Zd.cons e1 (Zd.cons e4 (Zd.cons e5 (Zd.cons e6 (Zd.cons e15 (Zd.cons e16 (Zd.cons e18 (Zd.cons e19 (Zd.cons e20 (Zd.cons e21 (Zd.nil _)))))))))))) (Hp.le_refl _)))) (Zb Za rfl (Zb Za rfl (Zk Za Za))))) rfl (fun E D H h=>by
          obtain⟨w0,e0,g1⟩:=DG.out h;obtain⟨A21,n21,m21,rfl,g2⟩:=DSl.out g1;obtain⟨x34,e1,g4⟩:=GI g2;obtain⟨w4,e4,g5⟩:=DG.out g4;obtain⟨A22,n22,m22,rfl,g6⟩:=DSl.out g5;obtain⟨w5,e5,g7⟩:=DG.out g6;obtain⟨A23,n23,m23,rfl,g8⟩:=DSl.out g7;obtain⟨w6,e6,g9⟩:=DG.out g8;obtain⟨A24,n24,m24,rfl,g10⟩:=DSl.out g9;obtain⟨x35,e15,g12⟩:=GI g10;obtain⟨a7,e16,g15⟩:=GN g12;obtain⟨x36,e18,g17⟩:=GI g15;obtain⟨x37,e19,g19⟩:=GI g17;obtain⟨x38,e20,g21⟩:=GI g19;obtain⟨x39,e21,g23⟩:=GI g21;obtain⟨rfl,h'⟩:=Zo.out g23;exact(Zf (Λ:=(Zg.Λ12 K (Zg.l12 K k))) bZe _ _ [(0,.slice A21 n21 m21),(1,.int .i64 x34),(4,.slice A22 n22 m22),(5,.slice A23 n23 m23),(6,.slice A24 n24 m24),(15,.int .i64 x35),(16,.pointer (some a7)),(18,.int .i64 x36),(19,.int .i64 x37),(20,.int .i64 x38),(21,.int .i64 x39)] [] H (Eq.mp (by kernel_rfl) h') (aZK (Zb Za rfl (Zk (Zb Za rfl Zy) Zm)) rfl (fun E D H h=>by
            obtain⟨w0,e0,g1⟩:=DG.out h;obtain⟨A25,n25,m25,rfl,g2⟩:=DSl.out g1;obtain⟨x40,e1,g4⟩:=GI g2;obtain⟨w4,e4,g5⟩:=DG.out g4;obtain⟨A26,n26,m26,rfl,g6⟩:=DSl.out g5;obtain⟨w5,e5,g7⟩:=DG.out g6;obtain⟨A27,n27,m27,rfl,g8⟩:=DSl.out g7;obtain⟨w6,e6,g9⟩:=DG.out g8;obtain⟨A28,n28,m28,rfl,g10⟩:=DSl.out g9;obtain⟨x41,e15,g12⟩:=GI g10;obtain⟨a10,e16,g15⟩:=GN g12;obtain⟨x42,e18,g17⟩:=GI g15;obtain⟨x43,e19,g19⟩:=GI g17;obtain⟨x44,e20,g21⟩:=GI g19;obtain⟨rfl,h'⟩:=Zo.out g21;exact(Zf (Λ:=(Zg.Λ12 K (Zg.l12 K k))) bZe _ _ [(0,.slice A25 n25 m25),(1,.int .i64 x40),(4,.slice A26 n26 m26),(5,.slice A27 n27 m27),(6,.slice A28 n28 m28),(15,.int .i64 x41),(16,.pointer (some a10)),(18,.int .i64 x42),(19,.int .i64 x43),(20,.int .i64 x44)] [] H (Eq.mp (by kernel_rfl) h') (Zb (Zb Za rfl (Zk ZP Zm)) rfl (Zb Za rfl (Zk (Zb Za rfl Zy) Zm)))).weaken (Zd.cons e0 (Zd.cons e1 (Zd.cons e4 (Zd.cons e5 (Zd.cons e6 (Zd.cons e15 (Zd.cons e16 (Zd.cons e18 (Zd.cons e19 (Zd.cons e20 (Zd.nil _))))))))))) (Hp.le_refl _)))).weaken (Zd.cons e0 (Zd.cons e1 (Zd.cons e4 (Zd.cons e5 (Zd.cons e6 (Zd.cons e15 (Zd.cons e16 (Zd.cons e18 (Zd.cons e19 (Zd.cons e20 (Zd.cons e21 (Zd.nil _)))))))))))) (Hp.le_refl _))))).weaken (Zd.cons e0 (Zd.cons e1 (Zd.cons e4 (Zd.cons e5 (Zd.cons e6 (Zd.cons e15 (Zd.cons e16 (Zd.cons e18 (Zd.cons e19 (Zd.cons e20 (Zd.nil _))))))))))) (Hp.le_refl _))))) rfl Za))).weaken (Zd.cons e0 (Zd.cons e1 (Zd.cons e4 (Zd.cons e5 (Zd.cons e6 (Zd.cons e15 (Zd.cons e16 (Zd.cons e18 (Zd.cons e19 (Zd.cons e20 (Zd.nil _))))))))))) (Hp.le_refl _))))) rfl (fun E D H h=>by
     obtain⟨w0,e0,g1⟩:=DG.out h;obtain⟨A29,n29,m29,rfl,g2⟩:=DSl.out g1;obtain⟨x48,e1,g4⟩:=GI g2;obtain⟨x49,e15,g6⟩:=GI g4;obtain⟨a12,e16,g9⟩:=GN g6;obtain⟨rfl,h'⟩:=Zo.out g9;exact(Zf (Λ:=(Zg.Λ K)) bZe _ _ [(0,.slice A29 n29 m29),(1,.int .i64 x48),(15,.int .i64 x49),(16,.pointer (some a12))] [] H (Eq.mp (by kernel_rfl) h') (Zb Za rfl (Zb Za rfl (Zb Za rfl (Zb Za rfl Zy))))).weaken (Zd.cons e0 (Zd.cons e1 (Zd.cons e15 (Zd.cons e16 (Zd.nil _))))) (Hp.le_refl _)))))))).weaken (Zd.cons e0 (Zd.cons e1 (Zd.cons e2 (Zd.cons e3 (Zd.cons e4 (Zd.cons e5 (Zd.cons e6 (Zd.cons e15 (Zd.nil _))))))))) (Hp.le_refl _)))))))
def aZw.l13 (K:Value→Hp→Prop):Nat→Option Addr→Int→Hp→Prop
 |0,_,_,_=>False
 |k+1,p3,x7,H=>
  let R13:=aZw.l13 K k
  BIf (decide (x7<5)) (Hz 19 #[.pointer p3] H fun v11 H10=>tZm v11 fun c1 x8=>(R13 p3 (IntKind.i64.wrap (x7+1)) H10)) (Hz 20 #[.pointer p3] H fun v14 H11=>dZ9 v14 fun A1 n1 m1 x9=>(BIf (x9==0) (BIf ((n1:Int)==4) (ixI 0 n1 (NN A1 fun a2=>LeW H11 (a2.add ((0:Int).toNat*1)) fun x10=>K (.bool (x10==10)) H11)) (K (.bool false) H11)) (K (.bool false) H11)))
def aZw (H:Hp)(K:Value→Hp→Prop):Prop:=
 HcP 23 #[.int .i64 13,.int .i64 32] H fun p1 H1=>HcP 24 #[.pointer p1] H1 fun p2 H2=>BIf p1.isNone (K (.bool false) H2) (BIf p2.isNone (K (.bool false) H2) (HcI 25 #[.pointer p2,.int .i64 2,.int .i64 8] H2 fun x1 H3=>BIf (x1 !=0) (K (.bool false) H3) (Nw H3 (.row [.int .u64 1,.int .u64 2,.int .u64 3,.int .u64 4] 84 4) fun b1 H4=>Hz 27 #[.pointer p2,.slice (some ⟨b1,0,none⟩) 4 4] H4 fun v4 H5=>iZ8 v4 fun x2 x3=>(BIf (x3 !=0) (K (.bool false) H5) (HcI 28 #[.pointer p2,.int .i64 0] H5 fun x4 H6=>BIf (x4 !=0) (K (.bool false) H6) (NN p1 fun a1=>Hz 32 #[.pointer (some (a1.add 7))] H6 fun v8 H7=>HcI 13 #[.pointer p1,.slice none 0 0] H7 fun x5 H8=>HcI 16 #[.pointer p2] H8 fun x6 H9=>BIf (x6 !=0) (K (.bool false) H9) ((∃ k,aZw.l13 K k p2 0 H9))))))))
def aZw.l13.L (K:Value→Hp→Prop)(k:Nat):Mid:=fun E D H=>
 eP E 2 fun p3=>eI E 5 .i64 fun x7=>Zo D (aZw.l13 K k p3 x7 H)
def aZw.Λ13 (_:Value→Hp→Prop)(_R13:Option Addr→Int→Hp→Prop):Zn:=Zn.none (fun _=>none)
def aZw.Λ (K:Value→Hp→Prop):Zn:=⟨fun i=>none,fun i=>match Nat.beq i 13 with|true=>some (fun E D H=>∃ k,aZw.l13.L K k E D H)|false=>none,(fun _=>none)⟩
theorem aZw.ok (H:Hp)(K:Value→Hp→Prop)(h:aZw H K):Zc prog 6 #[] H K:=
 Zr Tryz.func6 rfl (nbl rfl) (Zf (Λ:=(aZw.Λ K)) bZe _ _ _ _ _ (Eq.mp (by kernel_rfl) h) (Zb Za rfl (Zb Za rfl (Zb Za rfl (Zb (Zb Za rfl (Zk (Zb Za rfl Zy) Zm)) rfl (Zb (Zb Za rfl (Zb Za rfl (Zk (Zb Za rfl Zy) Zm))) rfl (Zb Za rfl (Zb Za rfl (Zb (Zb Za rfl (Zk (Zb Za rfl Zy) Zm)) rfl (Zb (Zb Za rfl (Zt (ZY rfl (fun E D H h=>by
   refine Safe.loop' (aZw.l13.L K) (fun E D H h=>?_) (fun k E D H h=>?_) E D H h
   ·obtain⟨w2,e2,g1⟩:=DG.out h;obtain⟨p3,rfl,g2⟩:=DP.out g1;obtain⟨w5,e5,g3⟩:=DG.out g2;obtain⟨x7,rfl,g4⟩:=DI.out g3;obtain⟨rfl,h'⟩:=Zo.out g4;exact h'
   ·obtain⟨p3,e2,g2⟩:=GP h;obtain⟨x7,e5,g4⟩:=GI g2;obtain⟨rfl,h'⟩:=Zo.out g4;exact(Zf (Λ:=(aZw.Λ13 K (aZw.l13 K k))) bZe _ _ [(2,.pointer p3),(5,.int .i64 x7)] [] H (Eq.mp (by kernel_rfl) h') (Zb (Zb Za rfl (Zk Zm ZP)) rfl (Zb (Zt Za) rfl Za))).weaken (Zd.cons e2 (Zd.cons e5 (Zd.nil _))) (Hp.le_refl _))))) rfl (Zb Za rfl (Zb Za rfl Zy))))))))))))
def aZy.l4 (K:Value→Hp→Prop):Nat→Option Addr→Nat→Nat→Int→Hp→Prop
 |0,_,_,_,_,_=>False
 |k+1,A2,n2,m2,x1,H=>
  let R4:=aZy.l4 K k
  BIf (decide (x1<(n2:Int))) (ixI x1 n2 (NN A2 fun a1=>LeW H (a1.add (x1.toNat*1)) fun x2=>BIf (decide (x2≥18446744069414584321)) (K (.int .i64 (-1)) H) (R4 A2 n2 m2 (IntKind.i64.wrap (x1+1)) H))) (HcI 33 #[.int .i64 (n2:Int)] H fun x3 H1=>K (.int .i64 x3) H1)
def aZy (A1:Option Addr)(n1:Nat)(m1:Nat)(H:Hp)(K:Value→Hp→Prop):Prop:=
 BIf (decide ((n1:Int)>64)) (K (.int .i64 (-1)) H) ((∃ k,aZy.l4 K k A1 n1 m1 0 H))
def aZy.l4.L (K:Value→Hp→Prop)(k:Nat):Mid:=fun E D H=>
 DG (E.get? 0) fun w0=>DSl w0 fun A2 n2 m2=>eI E 3 .i64 fun x1=>Zo D (aZy.l4 K k A2 n2 m2 x1 H)
def aZy.Λ4 (_:Value→Hp→Prop)(_R4:Option Addr→Nat→Nat→Int→Hp→Prop):Zn:=Zn.none (fun _=>none)
def aZy.Λ (K:Value→Hp→Prop):Zn:=⟨fun i=>none,fun i=>match Nat.beq i 4 with|true=>some (fun E D H=>∃ k,aZy.l4.L K k E D H)|false=>none,(fun _=>none)⟩
theorem aZy.ok (A1:Option Addr)(n1:Nat)(m1:Nat)(H:Hp)(K:Value→Hp→Prop)(h:aZy A1 n1 m1 H K):Zc prog 7 #[.slice A1 n1 m1] H K:=
 Zr Tryz.func7 rfl (nbl rfl) (Zf (Λ:=(aZy.Λ K)) bZe _ _ _ _ _ (Eq.mp (by kernel_rfl) h) (Zb Za rfl (Zb (Zb Za rfl (Zk (Zb Za rfl Zy) Zm)) rfl (Zb (Zb Za rfl (Zt (ZY rfl (fun E D H h=>by
   refine Safe.loop' (aZy.l4.L K) (fun E D H h=>?_) (fun k E D H h=>?_) E D H h
   ·obtain⟨w0,e0,g1⟩:=DG.out h;obtain⟨A2,n2,m2,rfl,g2⟩:=DSl.out g1;obtain⟨w3,e3,g3⟩:=DG.out g2;obtain⟨x1,rfl,g4⟩:=DI.out g3;obtain⟨rfl,h'⟩:=Zo.out g4;exact h'
   ·obtain⟨w0,e0,g1⟩:=DG.out h;obtain⟨A2,n2,m2,rfl,g2⟩:=DSl.out g1;obtain⟨x1,e3,g4⟩:=GI g2;obtain⟨rfl,h'⟩:=Zo.out g4;exact(Zf (Λ:=(aZy.Λ4 K (aZy.l4 K k))) bZe _ _ [(0,.slice A2 n2 m2),(3,.int .i64 x1)] [] H (Eq.mp (by kernel_rfl) h') (Zb (Zb Za rfl (Zk Zm ZP)) rfl (Zb (Zt (Zb Za rfl (Zk (Zb Za rfl Zy) Zm))) rfl Za))).weaken (Zd.cons e0 (Zd.cons e3 (Zd.nil _))) (Hp.le_refl _))))) rfl (Zb Za rfl Zy)))))
def bZz.q1 (H7:Hp)(b1:Nat)(K:Value→Hp→Prop):Prop:=
 StA H7 ⟨b1,0,none⟩ #[.pointer none,.pointer none,.int .i64 0,.int .i64 0,.int .i64 0,.int .i64 0] 6 fun H9=>LdA H9 ⟨b1,0,none⟩ 6 fun l6=>K (.tuple #[.agg l6.toArray,.bool false]) H9
def bZz (x1:Int)(x2:Int)(x3:Int)(H:Hp)(K:Value→Hp→Prop):Prop:=
 Nw H (.obj (.cells #[.pointer none,.pointer none,.int .i64 0,.int .i64 0,.int .i64 0,.int .i64 0] 32)) fun b1 H1=>((4:Int)≠0∧IntKind.u8=IntKind.u8∧(0≤(IntKind.u64.wrap (Int.tmod x2 4))∧HcI 34 #[.int .i64 x1,.int .i64 (aZR .i64 32 (IntKind.u64.wrap (Int.tmod x2 4)))] H1 fun x4 H2=>((3:Int)≠0∧IntKind.i64=IntKind.i64∧((8:Int)≠0∧IntKind.i64=IntKind.i64∧HcI 35 #[.int .i64 x1,.int .i64 (IntKind.i64.wrap (Int.tdiv (aZR .i64 32 (IntKind.u64.wrap (Int.tmod x2 4))) 8))] H2 fun x5 H3=>Nw H3 (.obj (.cells #[.int .i64 0,.int .i64 0,.int .i64 0,.int .i64 0] 30)) fun b2 H4=>StA H4 ⟨b2,0,none⟩ #[.int .i64 x1,.int .i64 (IntKind.i64.wrap (x4+(Int.tmod (IntKind.i64.wrap x2) 3))),.int .i64 (aZR .i64 32 (IntKind.u64.wrap (Int.tmod x2 4))),.int .i64 (IntKind.i64.wrap (x5+(IntKind.i64.wrap x3)))] 4 fun H5=>LeI H5 ((⟨b2,0,none⟩:Addr).add 1) fun x6=>HcP 23 #[.int .i64 x6,.int .i64 (aZR .i64 32 (IntKind.u64.wrap (Int.tmod x2 4)))] H5 fun p1 H6=>HcP 24 #[.pointer p1] H6 fun p2 H7=>BIf p1.isNone (bZz.q1 H7 b1 K) (BIf p2.isNone (bZz.q1 H7 b1 K) (LeI H7 ((⟨b2,0,none⟩:Addr).add 3) fun x7=>HcI 25 #[.pointer p2,.int .i64 x1,.int .i64 x7] H7 fun x8 H8=>BIf (x8 !=0) (bZz.q1 H8 b1 K) (LdA H8 ⟨b2,0,none⟩ 4 fun l1=>nZT l1.toArray.toList fun x9 x10 x11 x12=>(StA H8 ⟨b1,0,none⟩ #[.pointer p1,.pointer p2,.int .i64 x9,.int .i64 x10,.int .i64 x11,.int .i64 x12] 6 fun H12=>LdA H12 ⟨b1,0,none⟩ 6 fun l9=>K (.tuple #[.agg l9.toArray,.bool true]) H12))))))))
theorem bZz.ok (x1:Int)(x2:Int)(x3:Int)(H:Hp)(K:Value→Hp→Prop)(h:bZz x1 x2 x3 H K):Zc prog 9 #[.int .i64 x1,.int .u8 x2,.int .u8 x3] H K:=
 Zr Tryz.func9 rfl (nbl rfl) (Zf (Λ:=Zn.none (fun _=>none)) bZe _ _ _ _ _ (Eq.mp (by kernel_rfl) h) (Zu _ _ _ _ _))
def dZB (y1:Array Value)(A1:Option Addr)(n1:Nat)(m1:Nat)(x1:Int)(H:Hp)(K:Value→Hp→Prop):Prop:=
 Nw H (.obj (.cells y1 32)) fun b1 H1=>LeP H1 ((⟨b1,0,none⟩:Addr).add 1) fun p1=>Hz 27 #[.pointer p1,.slice A1 n1 m1] H1 fun v2 H2=>iZ8 v2 fun x2 x3=>(BIf (x3==0) (LeP H2 ((⟨b1,0,none⟩:Addr).add 1) fun p2=>HcI 28 #[.pointer p2,.int .i64 x1] H2 fun x4 H3=>K (.bool (x4==0)) H3) (K (.bool false) H2))
theorem dZB.ok (y1:Array Value)(A1:Option Addr)(n1:Nat)(m1:Nat)(x1:Int)(H:Hp)(K:Value→Hp→Prop)(h:dZB y1 A1 n1 m1 x1 H K):Zc prog 10 #[.agg y1,.slice A1 n1 m1,.int .i64 x1] H K:=
 Zr Tryz.func10 rfl (nbl rfl) (Zf (Λ:=Zn.none (fun _=>none)) bZe _ _ _ _ _ (Eq.mp (by kernel_rfl) h) (Zu _ _ _ _ _))
end W
namespace Eng
open Go Go.Hw Go.Form W Shp Dsk Str Are Trn Pas Pln Rec Srt Rng
def iZO (l:List UInt64):Int:=if 64<l.length∨¬fZB l then -1 else iZx (l.length:Int)
theorem mZJ (H:Hp)(A:Option Addr)(n m:Nat)(l:List UInt64)(hn:n=l.length)(h64:n≤64)(hc:Cells H A (Ze l)):
  ∀(t j:Nat),j+t=n→(∀ k x,k<j→l[k]? =some x→x.toNat<18446744069414584321)→aZy.l4 (RetE (.int .i64 (iZO l)) H) (t+1) A n m (j:Int) H
 |0,j,hj,hall=>by
  unfold aZy.l4;refine Zl (by omega) ?_;refine Zc.use (tZT (n:Int) H) ?_;simp only[HV];refine RetE.of ?_;have hcan:fZB l:=fun x hx=>by
   obtain⟨k,hk,rfl⟩:=List.getElem_of_mem hx;exact hall k _ (by omega) (List.getElem?_eq_getElem hk)
  unfold iZO;have h0:¬(64<l.length∨¬fZB l):=by
   intro h;rcases h with h|h
   ·omega
   ·exact h hcan
  rw[if_neg h0,hn]
 |t+1,j,hj,hall=>by
  unfold aZy.l4;refine Zw (by omega) ?_;have hg:l[j]? =some (l[j]'(by omega)):=List.getElem?_eq_getElem (by omega);have hg2:(Ze l)[j]? =some (.int .u64 ((l[j]'(by omega)).toNat:Int)):=by rw[aZ3,hg];rfl
  refine hc.read hg2 rfl (by rw[ZB];omega) ?_;simp only[HV];obtain⟨z,hz⟩:∃ z:Nat,z=(l[j]'(by omega)).toNat:=⟨_,rfl⟩;rw[← hz];generalize hz2:((z:Nat):Int)=w at*;by_cases h:w≥18446744069414584321
  ·refine Zw h (RetE.of ?_);unfold iZO;rw[if_pos (.inr fun hcan=>by
    have:=hcan _ (List.getElem_mem (show j<l.length by omega));omega)]
  ·refine Zl h ?_;rw[ZT (x:=(j:Int)+1) (by omega) (by omega)];refine mZJ H A n m l hn h64 hc t (j+1) (by omega) fun k x hk hkx=>?_
   by_cases e:k=j
   ·subst e;rw[hg]at hkx;have:=Option.some.inj hkx;rw[this]at hz;omega
   ·exact hall k x (by omega) hkx
theorem uZh (A:Option Addr)(n m:Nat)(l:List UInt64)(hn:n=l.length)(H:Hp)(hc:Cells H A (Ze l)):Zc prog 7 #[.slice A n m] H (RetE (.int .i64 (iZO l)) H):=by
 apply aZy.ok;unfold aZy;by_cases h:(n:Int)>64
 ·exact Zw h (RetE.of (by unfold iZO;rw[if_pos (.inl (by omega))]))
 ·exact Zl h ⟨n+1,mZJ H A n m l hn (by omega) hc n 0 (by omega) fun k x hk=>absurd hk (by omega)⟩
theorem rZL {l:List UInt64}(h:0≤iZO l):∃ k:Nat,iZO l=k∧lg (l.length:Int)=some k∧k≤6∧l.length=2^k∧fZB l:=by
 unfold iZO at h⊢;by_cases h1:64<l.length∨¬fZB l
 ·rw[if_pos h1]at h;omega
 rw[if_neg h1]at h⊢;unfold iZx at h⊢;cases e:lg (l.length:Int)with
 |none=>rw[e]at h;exact absurd h (by decide)
 |some k=>
  have h2:=(dZl e).2;have hl:l.length=2^k:=by omega
  refine⟨k,rfl,rfl,?_,hl,Classical.byContradiction fun hc=>h1 (.inr hc)⟩;by_cases h6:k≤6
  ·exact h6
  ·have:2^7≤2^k:=Nat.pow_le_pow_right (by omega) (by omega);exact absurd (.inl (by omega)) h1
theorem mZF {dp:Nat}:Tr prog 24 #[.pointer (some ⟨dp,0,none⟩)] [] fun v M=>∃ p,v= .pointer (some ⟨p,0,none⟩)∧M=[En p dp none]:=fun H hs=>by
 apply fZW.ok;unfold fZW;refine aZr rfl ?_;refine hs.nw fun p H hs=>?_
 exact⟨_,⟨p,rfl,rfl⟩,hs⟩
section
variable {p dp : Nat}
end
structure Liv (N:Nat)(d:D)(c:Cn)(m:Mn):Prop where
 cl:Clean d c
 hh:Holds d.sec d.size m c
 most:m.most≤6
 len:m.L.length≤N
 ld:m.r.ld≤N
 rd:d.rd≤2000*N
 wr:d.wr≤2000*N
 sy:d.sy≤2000*N
theorem Liv.went {N:Nat}{d d':D}{c c':Cn}{m m':Mn}(h:Liv N d c m){r w s:Nat}(hw:bZU d d' r w s)(hr:r≤2000∧w≤2000∧s≤2000)(hc:Clean d' c')(hh:Holds d.sec d.size m' c')(hm:m'.most=m.most)(hl:m'.L.length≤N+2)(hld:m'.r.ld≤N+2):Liv (N+2) d' c' m':=by
 have h1:=hw.rd;have h2:=hw.wr;have h3:=hw.sy;have h4:=h.rd;have h5:=h.wr;have h6:=h.sy;have h7:=h.most;exact⟨hc,by rw[hw.sec,hw.size];exact hh,by omega,hl,hld,by omega,by omega,by omega⟩
theorem Liv.small {N:Nat}{d:D}{c:Cn}{m:Mn}(h:Liv N d c m)(hN:N≤400):Small 100000 m∧(d.rd≤800000∧d.wr≤800000∧d.sy≤800000):=by
 have h2:=h.len;have h3:=h.ld;have h4:=h.rd;have h5:=h.wr;have h6:=h.sy;exact⟨⟨by omega,by omega⟩,by omega,by omega,by omega⟩
theorem Liv.per {N:Nat}{d:D}{c:Cn}{m:Mn}(h:Liv N d c m):0<Lay.aZj (d.size:Int):=(dZk h.hh.good).2.1
theorem Liv.kk {N:Nat}{d:D}{c:Cn}{m:Mn}(h:Liv N d c m):m.r.kk.toNat≤6:=by
 have:=(Mn.r_wf h.hh).2.2;have:=h.most;omega
structure Dea (N:Nat)(sc sz:Nat)(d:D)(P:Mn→Prop):Prop where
 ok:Ok d
 dom:Dom d
 down:d.down=true
 sec:d.sec=sc
 size:d.size=sz
 left:Left d fun c'=>∃ m,P m∧m.most≤6∧m.L.length≤N∧m.r.ld≤N∧Holds sc sz m c'
 rd:d.rd≤2000*N
 wr:d.wr≤2000*N
 sy:d.sy≤2000*N
theorem Liv.cut {N:Nat}{d d':D}{c:Cn}{m:Mn}(h:Liv N d c m){n:Nat}(hc:Cut d d' n)(hn:n≤3000){P:Mn→Prop}(hl:Left d' fun c'=>∃ m,P m∧m.most≤6∧m.L.length≤N+2∧m.r.ld≤N+2∧Holds d.sec d.size m c'):Dea (N+2) d.sec d.size d' P:=by
 have h1:=hc.cnt;have h2:=hc.le;have h4:=h.rd;have h5:=h.wr;have h6:=h.sy;have h7:=hc.rd;have h8:=hc.wr;have h9:=hc.sy;exact⟨hc.ok,hc.dom,hc.down,hc.sec,hc.size,hl,by omega,by omega,by omega⟩
theorem xZa :∀ x:Nat,x<256→0≤IntKind.u64.wrap (Int.tmod (x:Int) 4)∧aZR .i64 32 (IntKind.u64.wrap (Int.tmod (x:Int) 4))=((32*2^(x%4):Nat):Int)∧IntKind.i64.wrap (Int.tdiv ((32*2^(x%4):Nat):Int) 8)=((4*2^(x%4):Nat):Int)∧Int.tmod (IntKind.i64.wrap (x:Int)) 3=((x%3:Nat):Int):=by decide +kernel
def szS (x:Nat):Nat:=32*2^(x%4)
theorem pZ7 (x:Nat):0<Lay.aZj (szS x:Int)∧Lay.aZj (szS x:Int)=4*2^(x%4)∧szS x/8=4*2^(x%4)∧szS x≤256∧4*2^(x%4)≤32∧4≤4*2^(x%4):=by
 have h:∀ t:Nat,t<4→0<Lay.aZj ((32*2^t:Nat):Int)∧Lay.aZj ((32*2^t:Nat):Int)=4*2^t∧32*2^t/8=4*2^t∧32*2^t≤256∧4*2^t≤32∧4≤4*2^t:=by decide
 exact h _ (Nat.mod_lt _ (by omega))
def scS (k x:Nat):Nat:=Lay.bZD k (szS x/8)+x%3
def arS (k x w:Nat):Nat:=bZt k (szS x/8)+w
theorem qZF {k per:Nat}(hk:k≤6):Lay.bZD k per≤9+4*65:=by
 have h1:=mZr hk;have h2:(2^k-1)/per≤2^k-1:=Nat.div_le_self _ _;unfold Lay.bZD Lay.aZd;omega
theorem kZf {k per:Nat}(hk:k≤6):bZt k per≤16+per:=by
 have:2^((k+1)/2)≤2^3:=Nat.pow_le_pow_right (by omega) (by omega);unfold bZt;omega
theorem rZ9 {k x w:Nat}(hk:k≤6)(hw:w<256):bZQ (scS k x) (szS x/8) k (arS k x w)=0:=by
 obtain⟨h1,h2,h3,h4,h5,h6⟩:=pZ7 x;have h7:=kZf (k:=k) (per:=szS x/8) hk;have h8:1≤bZt k (szS x/8):=by unfold bZt;omega
 unfold bZQ;rw[if_neg (by unfold arS;omega),if_neg,if_neg]
 ·rw[Int.toNat_natCast];unfold arS;omega
 ·rw[Int.toNat_natCast];unfold scS;omega
def mZj (dp p k x w:Nat):Array Value:=#[.pointer (some ⟨dp,0,none⟩),.pointer (some ⟨p,0,none⟩),.int .i64 k,.int .i64 (scS k x),.int .i64 (szS x),.int .i64 (arS k x w)]
theorem vZm {k x w:Nat}(hk:k≤6)(hx:x<256)(hw:w<256):Tr prog 9 #[.int .i64 (k:Int),.int .u8 (x:Int),.int .u8 (w:Int)] [] fun v M=>∃ dp p d c,v= .tuple #[.agg (mZj dp p k x w),.bool true]∧d.sec=scS k x∧d.size=szS x∧d.fuse=0∧Liv 2 d c (bZF k (arS k x w))∧M=[En p dp (some (egM d (bZF k (arS k x w)) 0)),Dk dp d]:=fun H hs=>by
 obtain⟨h1,h2,h3,h4,h5,h6⟩:=pZ7 x;obtain⟨z0,z1,z2,z3⟩:=xZa x hx;have hn:=qZF (k:=k) (per:=szS x/8) hk;have hl:=kZf (k:=k) (per:=szS x/8) hk;have hsz:aZR .i64 32 (IntKind.u64.wrap (Int.tmod (x:Int) 4))=(szS x:Int):=z1;have hsp:IntKind.i64.wrap (Int.tdiv (szS x:Int) 8)=((szS x/8:Nat):Int):=by rw[h3];exact z2
 have hsc:(scS k x:Int)=(Lay.bZD k (szS x/8):Int)+((x%3:Nat):Int):=by unfold scS;omega
 have har:(arS k x w:Int)=(bZt k (szS x/8):Int)+(w:Int):=by unfold arS;omega
 have hper:Lay.aZj (szS x:Int)=szS x/8:=h2.trans h3.symm;have hn9:9≤Lay.bZD k (szS x/8):=by unfold Lay.bZD;omega
 have hrg:1≤scS k x∧scS k x≤300:=by unfold scS;omega
 have hmul:scS k x*szS x≤67108864:=by
  have:=Nat.mul_le_mul hrg.2 h4;omega
 apply bZz.ok;unfold bZz bZz.q1;refine hs.nw fun b1 H hs=>?_
 rw[hsz];refine⟨by decide,by simp,z0,?_⟩;refine Zc.use (Sup.rZo k (by omega) (szS x) h1 H) ?_;simp only[HV];refine⟨by decide,by simp,by decide,by simp,?_⟩;rw[hsp];refine Zc.use (sZm k (szS x/8) (by omega) (by omega) H) ?_;simp only[HV];rw[z3,hper,ZT (x:=(Lay.bZD k (szS x/8):Int)+((x%3:Nat):Int)) (by omega) (by omega),ZT (x:=(w:Int)) (by omega) (by omega),ZT (x:=(bZt k (szS x/8):Int)+(w:Int)) (by omega) (by omega),←hsc,←har];refine hs.nw fun b2 H hs=>?_
 refine hs.stw 1 rfl rfl rfl rfl fun H hs=>?_
 try simp only[HS]
 refine hs.ld 1 (v:=.int .i64 (scS k x:Int)) rfl rfl ?_;simp only[HV];refine(Dsk.dZz (scS k x) (szS x) ⟨hrg.1,by omega⟩ h1 hmul).use hs [] rfl rfl ?_;rintro _ _ H ⟨dp,rfl,rfl⟩ hs;simp only[HV];refine(mZF (dp:=dp)).use hs [] rfl rfl ?_;rintro _ _ H ⟨p,rfl,rfl⟩ hs;simp only[HV];refine aZr rfl (aZr rfl ?_);have hs:Sep [En p dp none,Dk dp (D.fresh (scS k x) (szS x)),pts b1 (.obj (.cells #[.pointer none,.pointer none,.int .i64 0,.int .i64 0,.int .i64 0,.int .i64 0] 32)),pts b2 (.obj (.cells #[.int .i64 (k:Int),.int .i64 (scS k x:Int),.int .i64 (szS x:Int),.int .i64 (arS k x w:Int)] 30))] H:=hs
 try simp only[HS]
 refine hs.ld 3 (v:=.int .i64 (arS k x w:Int)) rfl rfl ?_;simp only[HV];have hcl:=Clean.fresh (sec:=scS k x) (size:=szS x) ⟨hrg.1,by omega⟩ h1 hmul;refine(mZv (p:=p) (dp:=dp) (g:=none) hcl h1 ⟨Nat.zero_le _,Nat.zero_le _,Nat.zero_le _⟩ k (arS k x w)).use hs [0,1] rfl rfl ?_;rintro _ _ H (⟨h,_⟩|⟨kn,wn,e1,e2,_,⟨d,c,hw',hc,hh,rfl,rfl⟩|⟨d',hcut,_⟩⟩) hs
 ·exact absurd (rZ9 hk hw) h
 ·obtain rfl:k=kn:=by omega
  obtain rfl:arS k x w=wn:=by omega
  simp only[HV];refine ZA rfl ?_;refine hs.ldw 3 rfl rfl ?_;simp only[HV];refine hs.stw 2 rfl rfl rfl rfl fun H hs=>?_;refine hs.ldw 2 rfl rfl ?_;refine⟨_,⟨dp,p,d,c,rfl,hw'.sec,hw'.size,hw'.fuse,?_,rfl⟩,?_⟩
  ·have r1:=hw'.rd;have r2:=hw'.wr;have r3:=hw'.sy;refine⟨hc,by rw[hw'.sec,hw'.size];exact hh,hk,Nat.zero_le _,Nat.zero_le _,?_,?_,?_⟩
   ·rw[r1];show 0+0≤_;omega
   ·rw[r2];show 0+10≤_;omega
   ·rw[r3];show 0+3≤_;omega
  ·rw[eZM (bZF k (arS k x w)) 0 hw'.sec hw'.size];exact hs.re [0,1] rfl
 ·exact(hcut.calm rfl).elim
def dZo (m:Mn)(k:Nat)(l:List UInt64)(b:Bool):Mn:=(aZ9 m k l).add (cZ3 (aZ9 m k l) b)
theorem tZ9 {dp p k x w:Nat}{kk aw:Nat}{d:D}{c:Cn}{N:Nat}{m:Mn}{pk:Int}{l:List UInt64}{A:Option Addr}{n mm:Nat}{RR TT:As}{rig:Array Value}(hrig:rig=mZj dp p kk x aw)(hL:Liv N d c m)(hN:N≤100)(hf:d.fuse=0)(hpk:pk≤m.arena)(hk:lg (l.length:Int)=some k)(hk6:k≤m.most)(hcan:fZB l)(hn:n=l.length)(hnm:n≤mm)(b:Bool)
  (hR:∀ H,RR H→Cells H A (Ze l)) (hT:(∀ H,TT H→T64 H)∨∀ H,RR H→T64 H):
  Tr prog 10 #[.agg rig,.slice A n mm,.int .i64 (if b=true then 1 else 0)] [En p dp (some (egM d m pk)),Dk dp d,RR,TT] fun v M=>∃ d' c' pk',v= .bool true∧pk'≤(m.arena:Int)∧d'.sec=d.sec∧d'.size=d.size∧d'.fuse=0∧Liv (N+4) d' c' (dZo m k l b)∧M=[En p dp (some (egM d' (dZo m k l b) pk')),Dk dp d',RR,TT]:=fun H hs=>by
 subst hrig;subst hn;have hsm:=hL.small (by omega);have hmost:=hL.most;have hl2:l.length=2^k:=by have:=(dZl hk).2;omega
 have h64:=mZr (k:=k) (by omega);have hper:=hL.hh.per;have hb1:=lZR (d.size/8) k;have hb2:=lZS (d.size/8) k;have hb3:=jZT (per:=d.size/8) (w:=2^k) (by omega) (Nat.two_pow_pos k);have h1r:(aZQ m k).r=cZv m k:=Mn.add_r _ _;have h2r:(aZ9 m k l).r=dZf (aZQ m k) k l:=Mn.add_r _ _;have h3r:(dZo m k l b).r=cZ3 (aZ9 m k l) b:=Mn.add_r _ _;have hld1:(aZ9 m k l).r.ld=m.r.ld+1:=by rw[h2r];show(aZQ m k).r.ld=_;rw[h1r];rfl
 have hld2:(dZo m k l b).r.ld=m.r.ld+1:=by rw[h3r];exact hld1
 have hlen1:(aZ9 m k l).L.length=m.L.length+2:=by show((m.L++[_])++[_]).length=_;simp
 have hlen2:(dZo m k l b).L.length=m.L.length+3:=by show((aZ9 m k l).L++[_]).length=_;simp[hlen1]
 have hlenN:=hL.len;have hldN:=hL.ld;apply dZB.ok;unfold dZB;refine hs.nw fun b1 H hs=>?_
 try simp only[HS]
 refine hs.ld 4 (v:=.pointer (some ⟨p,0,none⟩)) rfl rfl ?_;simp only[HV];refine(pZp (p:=p) (dp:=dp) hL.cl hL.hh hsm.1 hsm.2 hpk (l:=l) (A:=A) (n:=l.length) (mm:=mm) (RR:=RR) (TT:=TT) rfl hnm (by omega) hR hT).use hs [0,1,2,3] rfl rfl ?_;rintro _ _ H (⟨k',i,e,hchk,hne,_⟩|⟨k',hk',_,_,⟨d1,c1,pk1,hpk1,hw1,hc1,hh1,rfl,rfl⟩|⟨d1,hcut,_⟩⟩) hs
 ·cases hchk with
  |len h=>rw[h]at hk;cases hk
  |big h h2=>rw[h]at hk;cases hk;omega
  |word h h2 h3=>exact absurd hcan h3
  |ok h h2 h3=>exact absurd rfl hne
 ·obtain rfl:k'=k:=by rw[hk]at hk';cases hk';rfl
  have hf1:d1.fuse=0:=hw1.calm hf;have hL1:Liv (N+2) d1 c1 (aZ9 m k' l):=hL.went hw1 (by unfold ldR ldW;omega) hc1 hh1 rfl (by omega) (by omega);have hsm1:=hL1.small (by omega);simp only[HV];refine aZa rfl ?_;have hs:Sep [En p dp (some (egM d (aZ9 m k' l) pk1)),Dk dp d1,RR,TT,pts b1 (.obj (.cells (mZj dp p kk x aw) 32))] H:=hs;rw[← eZM (aZ9 m k' l) pk1 hw1.sec hw1.size]at hs
  try simp only[HS]
  refine hs.ld 4 (v:=.pointer (some ⟨p,0,none⟩)) rfl rfl ?_;simp only[HV];have hst:stM (aZ9 m k' l) (d1.size/8)=2:=by unfold stM;rw[if_pos (by rw[h2r];rfl)]
  refine(mZz (p:=p) (dp:=dp) hL1.cl hL1.hh hsm1.1 hsm1.2 hpk1 (if b=true then 1 else 0)).use hs [0,1] rfl rfl ?_;rintro _ _ H (⟨h,_⟩|⟨_,h,_⟩|⟨_,b',hb',⟨d2,c2,hw2,hc2,hh2,rfl,rfl⟩|⟨d2,hcut,_⟩⟩) hs
  ·exact absurd hst h
  ·exact absurd (by cases b<;>simp) h
  ·obtain rfl:b'=b:=by cases b<;>cases b'<;>first|rfl|(exfalso;revert hb';decide)
   have hL2:Liv (N+4) d2 c2 (dZo m k' l b'):=hL1.went hw2 (by omega) hc2 hh2 rfl (by show(dZo m k' l b').L.length≤_;omega) (by show(dZo m k' l b').r.ld≤_;omega)
   try simp only[HV]
   refine⟨_,⟨d2,c2,pk1,by first|rfl|trivial,hpk1,hw2.sec.trans hw1.sec,hw2.size.trans hw1.size,hw2.calm hf1,hL2,rfl⟩,?_⟩;have hs:=hs.re [0,1,2,3] rfl;rw[eZM (dZo m k' l b') pk1 hw2.sec hw2.size];exact hs
  ·exact(hcut.calm hf1).elim
 ·exact(hcut.calm hf).elim
structure Job (m:Mn)(k:Nat)(b:Bool)(l:List UInt64)(j:Nat):Prop where
 inp:m.inp=l
 kk:m.r.kk=k
 dir:m.r.dir=if b=true then 1 else 0
 kd:3≤m.r.kd
 ps:m.r.ps=j
theorem Job.plan {m:Mn}{k:Nat}{b:Bool}{l:List UInt64}{j:Nat}(h:Job m k b l j)(per:Nat):bZd m per m.r=aZY b k per m.arena:=by
 unfold bZd fZF;rw[h.dir,h.kk,Int.toNat_natCast];cases b<;>rfl
theorem Job.st {m:Mn}{k:Nat}{b:Bool}{l:List UInt64}{j:Nat}(h:Job m k b l j)(per:Nat):stM m per=if j<(aZY b k per m.arena).length then 3 else 4:=by
 have:=h.kd;unfold stM;rw[if_neg (by omega),if_neg (by omega),h.plan,h.ps];by_cases e:j<(aZY b k per m.arena).length
 ·rw[if_pos e,if_pos (by omega)]
 ·rw[if_neg e,if_neg (by omega)]
theorem Job.next {m:Mn}{k:Nat}{b:Bool}{l:List UInt64}{j:Nat}(h:Job m k b l j)(per:Nat):Job (m.add (bZL m per)) k b l (j+1):=by
 have e:(m.add (bZL m per)).r=bZL m per:=Mn.add_r _ _;refine⟨h.inp,?_,?_,?_,?_⟩
 ·rw[e];exact h.kk
 ·rw[e];exact h.dir
 ·rw[e];show(3:Int)≤4;omega
 ·rw[e];show m.r.ps+1=_;rw[h.ps];omega
theorem oZk (m:Mn)(k:Nat)(l:List UInt64)(b:Bool):Job (dZo m k l b) k b l 0:=by
 have h2r:(aZ9 m k l).r=dZf (aZQ m k) k l:=Mn.add_r _ _;have e:(dZo m k l b).r=cZ3 (aZ9 m k l) b:=Mn.add_r _ _;refine⟨rfl,?_,?_,?_,?_⟩
 ·rw[e];show(aZ9 m k l).r.kk=_;rw[h2r];rfl
 ·rw[e];rfl
 ·rw[e];show(3:Int)≤3;omega
 ·rw[e];rfl
theorem Liv.step {N:Nat}{d d':D}{c c':Cn}{m:Mn}(h:Liv N d c m){r w:Nat}(hs:jZO m (d.size/8) r w):r≤2000∧w≤2000:=by
 have hp:=h.hh.per;have hk:=h.kk;have hm:=h.most;have hkm:=(Mn.r_wf h.hh).2.2;have h1:=hs.le (by omega) (by omega) (Nat.le_trans (hZp (by omega)) h.hh.least);have:=mZr hk;omega
theorem Liv.stepped {N:Nat}{d d':D}{c c':Cn}{m:Mn}(h:Liv N d c m){r w:Nat}(hs:jZO m (d.size/8) r w)(hw:bZU d d' r w 2)(hc:Clean d' c')(hh:Holds d.sec d.size (m.add (bZL m (d.size/8))) c'):Liv (N+2) d' c' (m.add (bZL m (d.size/8))):=by
 have:=Liv.step (d':=d') (c':=c') h hs;have h1:=h.len;have h2:=h.ld;refine h.went hw (by omega) hc hh rfl ?_ ?_
 ·show(m.L++[_]).length≤_;simp;omega
 ·rw[Mn.add_r];show m.r.ld≤_;omega
theorem tf4 :(tfL false 2 [1,2,3,4])[0]? =some 10:=by decide +kernel
def w4 :List UInt64:=[1,2,3,4]
theorem uZF :aZY false 2 4 8=gZi false 2:=by unfold aZY;rw[if_neg (by decide)]
theorem lZP (H0:Hp)(hT:T64 H0){p dp:Nat}:∀(t j:Nat) (H:Hp) (d:D) (c:Cn) (m:Mn) (pk:Int),j+t=5→Job m 2 false w4 j→Liv (10+2*j) d c m→m.arena=8→d.size=32→d.fuse=0→pk≤m.arena→
  Sep [En p dp (some (egM d m pk)),Dk dp d,own H0] H→aZw.l13 (Ret (.bool true) H0) (t+1) (some ⟨p,0,none⟩) (j:Int) H
 |0,j,H,d,c,m,pk,hj,hJ,hL,ha,hsz,hf,hpk,hs=>by
  have hsm:=hL.small (by omega);have e8:d.size/8=4:=by rw[hsz]
  have hpl:aZY false 2 4 m.arena=gZi false 2:=by rw[ha];exact uZF
  have hst:stM m (d.size/8)=4:=by
   rw[hJ.st,e8,hpl,if_neg (by show ¬j<5;omega)]
  have hout:mZc m (d.size/8)=tfL false 2 w4:=by
   unfold mZc;rw[hJ.plan,hJ.inp];exact pZM false 2 _ _ (by omega) w4 rfl
  have hlen:(tfL false 2 w4).length=4:=mZn _ _ _;unfold aZw.l13;refine Zl (by omega) ?_;refine(iZ1 (p:=p) (dp:=dp) hL.cl hL.hh hsm.2 hpk).use hs [0,1] rfl rfl ?_;rintro v M H (⟨h,_⟩|⟨_,hq⟩) hs
  ·exact absurd hst h
  rw[hout]at hq;rcases hq with⟨d',b,mm,pk',h1,h2,h3,rfl,rfl⟩|⟨d',h1,_⟩
  ·simp only[HV];refine aZa rfl ?_;rw[hlen];refine aZa rfl ⟨by decide,by decide,?_⟩
   try simp only[HV]
   have hg:(Ze (tfL false 2 w4))[0]? =some (.int .u64 10):=by
    rw[aZ3];have:(tfL false 2 w4)[0]? =some 10:=tf4;rw[this];rfl
   refine hs.ldr 2 rfl hg ?_
   try simp only[HV]
   exact hs.fin 3 rfl _
  ·exact(h1.calm hf).elim
 |t+1,j,H,d,c,m,pk,hj,hJ,hL,ha,hsz,hf,hpk,hs=>by
  have hsm:=hL.small (by omega);have e8:d.size/8=4:=by rw[hsz]
  have hpl:aZY false 2 4 m.arena=gZi false 2:=by rw[ha];exact uZF
  have hst:stM m (d.size/8)=3:=by
   rw[hJ.st,e8,hpl,if_pos (by show j<5;omega)]
  unfold aZw.l13;refine Zw (by omega) ?_;refine(pZu (p:=p) (dp:=dp) (TT:=own H0) (fun H h=>hT.le h) hL.cl hL.hh hsm.1 hsm.2 hpk (by rw[hJ.kk];decide)).use hs [0,1,2] rfl rfl ?_;rintro v M H (⟨h,_⟩|⟨_,r,w,hC,⟨d',c',pk',hpk',hw,hc,hh,rfl,rfl⟩|⟨d',hcut,_⟩⟩) hs
  ·exact absurd hst h
  ·simp only[HV];rw[ZT (x:=(j:Int)+1) (by omega) (by omega)];have hL':=hL.stepped hC hw hc hh;refine lZP H0 hT (p:=p) (dp:=dp) t (j+1) H d' c' _ pk' (by omega) (hJ.next _) hL' ha (hw.size.trans hsz) (hw.calm hf) hpk' ?_;rw[eZM _ pk' hw.sec hw.size];exact hs
  ·exact(hcut.calm hf).elim
theorem wZZ :bZQ 13 (32/8) ((2:Nat):Int) ((8:Nat):Int)=0:=by decide +kernel
theorem uZj (H:Hp)(hT:T64 H):Zc prog 6 #[] H (RetE (.bool true) H):=by
 apply Zc.ret;apply aZw.ok;unfold aZw;have hs:=Sep.start H;refine(Dsk.dZz 13 32 (by omega) (by decide) (by omega)).use hs [] rfl rfl ?_;rintro _ _ H1 ⟨dp,rfl,rfl⟩ hs;simp only[HV];refine(mZF (dp:=dp)).use hs [] rfl rfl ?_;rintro _ _ H1 ⟨p,rfl,rfl⟩ hs;simp only[HV];refine aZr rfl (aZr rfl ?_);have hs:Sep [En p dp none,Dk dp (D.fresh 13 32),own H] H1:=hs;have hcl:=Clean.fresh (sec:=13) (size:=32) (by omega) (by decide) (by omega);refine(mZv (p:=p) (dp:=dp) (g:=none) hcl (by decide) ⟨Nat.zero_le _,Nat.zero_le _,Nat.zero_le _⟩ 2 8).use hs [0,1] rfl rfl ?_;rintro _ _ H1 (⟨h,_⟩|⟨kn,wn,e1,e2,_,⟨d,c,hw',hc,hh,rfl,rfl⟩|⟨d',hcut,_⟩⟩) hs
 ·exact absurd wZZ h
 rotate_left
 ·exact(hcut.calm rfl).elim
 obtain rfl:kn=2:=by omega
 obtain rfl:wn=8:=by omega
 have r1:=hw'.rd;have r2:=hw'.wr;have r3:=hw'.sy;have hL:Liv 2 d c (bZF 2 8):=⟨hc,by rw[hw'.sec,hw'.size];exact hh,by decide,Nat.zero_le _,Nat.zero_le _,by rw[r1];show 0+0≤_;omega,by rw[r2];show 0+10≤_;omega,by rw[r3];show 0+3≤_;omega⟩;have hf:d.fuse=0:=hw'.calm rfl;have hsz:d.size=32:=hw'.size;simp only[HV];refine ZA rfl ?_;refine hs.nw fun b1 H1 hs=>?_
 have hs:Sep [En p dp (some (egM (D.fresh 13 32) (bZF 2 8) 0)),Dk dp d,own H,pts b1 (.row (Ze w4) 84 4)] H1:=hs;rw[← eZM (bZF 2 8) 0 hw'.sec hw'.size]at hs;have hR:∀ H,pts b1 (.row (Ze w4) 84 4) H→Cells H (some ⟨b1,0,none⟩) (Ze w4):=fun H h=>by
  have:=Cells.row h 0 4
  rwa [List.drop_zero,List.take_of_length_le (by decide)]at this
 have hsm:=hL.small (by omega);have hlg:lg ((w4.length:Nat):Int)=some 2:=iZr (k:=2) (by omega);have hcan:fZB w4:=by decide
 refine(pZp (p:=p) (dp:=dp) hL.cl hL.hh hsm.1 hsm.2 (by decide) (l:=w4) (A:=some ⟨b1,0,none⟩) (n:=4) (mm:=4) (RR:=pts b1 (.row (Ze w4) 84 4)) (TT:=own H) rfl (Nat.le_refl _) (by decide) hR (.inl fun H h=>hT.le h)).use hs [0,1,3,2] rfl rfl ?_;rintro _ _ H1 (⟨k',i,e,hchk,hne,_⟩|⟨k',hk',_,_,⟨d1,c1,pk1,hpk1,hw1,hc1,hh1,rfl,rfl⟩|⟨d1,hcut,_⟩⟩) hs
 ·cases hchk with
  |len h=>rw[h]at hlg;cases hlg
  |big h h2=>rw[h]at hlg;cases hlg;exact absurd h2 (by decide)
  |word h h2 h3=>exact absurd hcan h3
  |ok h h2 h3=>exact absurd rfl hne
 rotate_left
 ·exact(hcut.calm hf).elim
 obtain rfl:k'=2:=by rw[hlg]at hk';cases hk';rfl
 have hf1:d1.fuse=0:=hw1.calm hf;have h1r:(aZQ (bZF 2 8) 2).r=cZv (bZF 2 8) 2:=Mn.add_r _ _;have h2r:(aZ9 (bZF 2 8) 2 w4).r=dZf (aZQ (bZF 2 8) 2) 2 w4:=Mn.add_r _ _;have hld1:(aZ9 (bZF 2 8) 2 w4).r.ld=1:=by rw[h2r];show(aZQ (bZF 2 8) 2).r.ld=_;rw[h1r];rfl
 have hcost:ldR (d.size/8) 2≤2000∧ldW (d.size/8) 2≤2000:=by
  have hb1:=lZR (d.size/8) 2;have hb2:=lZS (d.size/8) 2;have hb3:=jZT (per:=d.size/8) (w:=2^2) (by rw[hsz];decide) (by decide);unfold ldR ldW;omega
 have hL1:Liv 4 d1 c1 (aZ9 (bZF 2 8) 2 w4):=hL.went hw1 (by omega) hc1 hh1 rfl (by decide) (by omega);have hsm1:=hL1.small (by omega);simp only[HV];refine ZA rfl ?_;have hs:Sep [En p dp (some (egM d (aZ9 (bZF 2 8) 2 w4) pk1)),Dk dp d1,pts b1 (.row (Ze w4) 84 4),own H] H1:=hs;rw[← eZM (aZ9 (bZF 2 8) 2 w4) pk1 hw1.sec hw1.size]at hs;have hst:stM (aZ9 (bZF 2 8) 2 w4) (d1.size/8)=2:=by unfold stM;rw[if_pos (by rw[h2r];rfl)]
 refine(mZz (p:=p) (dp:=dp) hL1.cl hL1.hh hsm1.1 hsm1.2 hpk1 0).use hs [0,1] rfl rfl ?_;rintro _ _ H1 (⟨h,_⟩|⟨_,h,_⟩|⟨_,b',hb',⟨d2,c2,hw2,hc2,hh2,rfl,rfl⟩|⟨d2,hcut,_⟩⟩) hs
 ·exact absurd hst h
 ·exact absurd (.inl rfl) h
 rotate_left
 ·exact(hcut.calm hf1).elim
 obtain rfl:b'=false:=by cases b'<;>first|rfl|(exfalso;revert hb';decide)
 have h3r:(dZo (bZF 2 8) 2 w4 false).r=cZ3 (aZ9 (bZF 2 8) 2 w4) false:=Mn.add_r _ _;have hld2:(dZo (bZF 2 8) 2 w4 false).r.ld=1:=by rw[h3r];exact hld1
 have hL2:Liv 6 d2 c2 (dZo (bZF 2 8) 2 w4 false):=hL1.went hw2 (by omega) hc2 hh2 rfl (by decide) (by show(dZo (bZF 2 8) 2 w4 false).r.ld≤_;omega);simp only[HV];refine ZA rfl ?_;have hs:Sep [En p dp (some (egM d1 (dZo (bZF 2 8) 2 w4 false) pk1)),Dk dp d2,pts b1 (.row (Ze w4) 84 4),own H] H1:=hs
 try simp only[HS]
 refine(tZa (p:=dp) (d:=d2)).use hs [1] rfl rfl ?_;rintro _ _ H1 ⟨rfl,rfl⟩ hs
 try simp only[HV]
 have hok2:=hc2.ok;have hok3:Ok { d2 with down:=true,fuse:=0}:=⟨hok2.sec,hok2.size,hok2.big,hok2.per,hok2.safe,hok2.cache,Nat.zero_le _⟩;refine(lZV (p:=dp) hok3 (fun k hk=>hc2.dom k hk) rfl .none 0 0 [] rfl (own H) (fun _ _ i v hi=>by simp[cZH]at hi)).use hs [0,3] rfl rfl ?_;rintro _ _ H1 ⟨ks,hks,rfl,rfl⟩ hs;obtain⟨c3,ec3,hc3⟩:=(hc2.crash).boot hok3 hks [];rw[ec3]at hc3;have hL3:Liv 6 (D.boot { d2 with down:=true,fuse:=0} ks []) c2 (dZo (bZF 2 8) 2 w4 false):=⟨hc3,hL2.hh,hL2.most,hL2.len,hL2.ld,hL2.rd,hL2.wr,hL2.sy⟩;generalize hd3:D.boot { d2 with down:=true,fuse:=0} ks []=d3 at*;have hsec3:d3.sec=d1.sec:=by rw[← hd3];exact hw2.sec
 have hsize3:d3.size=d1.size:=by rw[← hd3];exact hw2.size
 have hf3:d3.fuse=0:=by rw[← hd3];rfl
 have hsm3:=hL3.small (by omega);simp only[HV];have hs:Sep [Dk dp d3,own H,En p dp (some (egM d1 (dZo (bZF 2 8) 2 w4 false) pk1)),pts b1 (.row (Ze w4) 84 4)] H1:=hs;refine(kZ5 (p:=p) (dp:=dp) (g:=some (egM d1 (dZo (bZF 2 8) 2 w4 false) pk1)) hL3.cl hL3.per hsm3.2 (o:=some (dZo (bZF 2 8) 2 w4 false)) hL3.hh).use hs [2,0] rfl rfl ?_;rintro _ _ H1 (⟨_,h,_⟩|⟨d4,m4,hm4,hw4,hc4,rfl,rfl⟩|⟨_,hcut,_⟩) hs
 ·cases h
 rotate_left
 ·exact(hcut.calm hf3).elim
 cases hm4;simp only[HV];refine ZA rfl ⟨6,?_⟩;have hL4:Liv 10 d4 c2 (dZo (bZF 2 8) 2 w4 false):=by
  have h:=hL3.went hw4 (by omega) hc4 hL3.hh rfl (by have:=hL3.len;omega) (by have:=hL3.ld;omega);have q1:=h.len;have q2:=h.ld;have q3:=h.rd;have q4:=h.wr;have q5:=h.sy;exact⟨h.cl,h.hh,h.most,by omega,by omega,by omega,by omega,by omega⟩
 refine lZP H hT (p:=p) (dp:=dp) 5 0 H1 d4 c2 _ 0 rfl (oZk _ _ _ _) hL4 rfl (hw4.size.trans (hsize3.trans (hw1.size.trans hsz))) (hw4.calm hf3) (by decide) ?_;rw[eZM _ 0 hw4.sec hw4.size];exact hs.re [0,1,2] rfl
end Eng
namespace W
open Go Go.Hw
end W
namespace Eng
open Go Go.Hw Go.Form W Shp Dsk Str Are Trn Pas Pln Rec Srt Rng
structure vZ6 where
 k:Int
 n:Int
 m:Int
 A:Option Addr
 nA:Nat
 mA:Nat
 l:List UInt64
 G:Option Addr
 nG:Nat
 mG:Nat
 ks:List Bool
structure OkE (H:Hp)(a:vZ6):Prop where
 nA:a.nA=a.l.length
 mA:a.nA≤a.mA
 l:Cells H a.A (Ze a.l)
 nG:a.nG=a.ks.length
 ks:Cells H a.G (cZH a.ks)
 n: -9223372036854775808≤a.n∧a.n≤9223372036854775807
 m: -9223372036854775808≤a.m∧a.m≤9223372036854775807
theorem OkE.le {H H':Hp}{a:vZ6}(h:OkE H a)(k:H.le H'):OkE H' a:=⟨h.nA,h.mA,h.l.le k,h.nG,h.ks.le k,h.n,h.m⟩
section
open Go.RowKit Go.ChangeShapes Go.WideShapes Go.ChangeAt
variable {H : Type} {enc : TypeId × Value → H} {W : World}
end
structure tZl (m0 m:Mn):Prop where
 most:m.most=m0.most
 arena:m.arena=m0.arena
 inp:m.inp=m0.inp
 kd:2≤m.r.kd
theorem tZl.pass {m0 m:Mn}(h:tZl m0 m)(per:Nat):tZl m0 (m.add (bZL m per)):=⟨h.most,h.arena,h.inp,by rw[Mn.add_r];show(2:Int)≤4;omega⟩
theorem Liv.up {N N':Nat}{d:D}{c:Cn}{m:Mn}(h:Liv N d c m)(hN:N≤N'):Liv N' d c m:=by
 have q1:=h.len;have q2:=h.ld;have q3:=h.rd;have q4:=h.wr;have q5:=h.sy;exact⟨h.cl,h.hh,h.most,by omega,by omega,by omega,by omega,by omega⟩
theorem Liv.fused {N:Nat}{d:D}{c:Cn}{m:Mn}(h:Liv N d c m)(n:Nat)(hn:n≤9223372036854775807):Liv N { d with fuse:=n} c m:=⟨h.cl.fused n hn,h.hh,h.most,h.len,h.ld,h.rd,h.wr,h.sy⟩
theorem Clean.again {d:D}{c:Cn}(hc:Clean d c):Ok { d with down:=true,fuse:=0}∧Dom { d with down:=true,fuse:=0}∧∀ ks,KeysOf (bZy d.cache) ks→∀ keep,Clean (D.boot { d with down:=true,fuse:=0} ks keep) c:=by
 have hok:=hc.ok;have hok3:Ok { d with down:=true,fuse:=0}:=⟨hok.sec,hok.size,hok.big,hok.per,hok.safe,hok.cache,Nat.zero_le _⟩;refine⟨hok3,fun k hk=>hc.dom k hk,fun ks hks keep=>?_⟩;obtain⟨c3,ec3,hc3⟩:=(hc.crash).boot hok3 hks keep;rw[ec3]at hc3;exact hc3
theorem Liv.again {N:Nat}{d:D}{c:Cn}{m:Mn}(h:Liv N d c m){ks:List Int}(hks:KeysOf (bZy d.cache) ks)(keep:List Bool):Liv N (D.boot { d with down:=true,fuse:=0} ks keep) c m:=
 ⟨(h.cl.again).2.2 ks hks keep,h.hh,h.most,h.len,h.ld,h.rd,h.wr,h.sy⟩
theorem Dea.boot {N sc sz:Nat}{d:D}{P:Mn→Prop}(h:Dea N sc sz d P){ks:List Int}(hks:KeysOf (bZy d.cache) ks)(keep:List Bool):∃ c m,P m∧Liv N (D.boot d ks keep) c m∧(D.boot d ks keep).sec=sc∧(D.boot d ks keep).size=sz:=by
 obtain⟨c,⟨m,hP,h1,h2,h3,h4⟩,hc⟩:=h.left.boot h.ok hks keep;refine⟨c,m,hP,⟨hc,?_,h1,h2,h3,h.rd,h.wr,h.sy⟩,h.sec,h.size⟩;have e1:(D.boot d ks keep).sec=sc:=h.sec;have e2:(D.boot d ks keep).size=sz:=h.size;rw[e1,e2];exact h4
end Eng
namespace Eng
open Go Go.Hw Go.Form W Shp Dsk Str Are Trn Ker Fft Pas Pln
end Eng
namespace Eng
open Go Go.Hw Go.Form W Shp Dsk Str Are Trn Pas Pln
abbrev O3 :=Nat×Nat×Nat
def smO (B:Nat)(o:O3):Prop:=o.1≤B∧o.2.1≤B∧o.2.2≤B
def uZu (most k words:Nat)(ps:List Pz)(cs:List O3):Prop:=cs.length=ps.length∧∀(i:Nat) (pz:Pz) (o:O3),ps[i]? =some pz→cs[i]? =some o→∃ r w,jZI 4 words (exX most 4 pz.f k).f (exX most 4 pz.o k).f pz r w∧o=(r+Lay.aZd k 4,w,1)∧smO 1000000000 o
theorem uZu.small {most k words:Nat}{ps:List Pz}{cs:List O3}(h:uZu most k words ps cs):∀ o∈cs,smO 1000000000 o:=fun o ho=>by
 obtain⟨i,hi,rfl⟩:=List.getElem_of_mem ho;have hp:i<ps.length:=by rw[← h.1];exact hi
 obtain⟨_,_,_,_,hs⟩:=h.2 i _ _ (List.getElem?_eq_getElem hp) (List.getElem?_eq_getElem hi);exact hs
theorem lZy {e:TypeId}{s:Nat}{A:Option Addr}{n m:Nat}{xs:List Value}{H:Hp}(h:Own e s A n m xs H):Cells H A xs:=by
 obtain⟨h1,⟨rfl,rfl,rfl⟩|⟨b,mm,rfl,h4,_⟩⟩:=h
 ·rw[Nat.zero_mul]at h1;rw[List.length_eq_zero_iff.1 h1];exact Cells.nil _ _
 ·have:=Cells.row h4 0 xs.length
  rwa [List.drop_zero,List.take_length]at this
section
variable {most k words : Nat} (hm : most ≤ 32) (hk : k ≤ most) (hk6 : k ≤ 6) (hw : words ≤ 1000) {H0 : Hp} (hT : T64 H0)
include hm hk hk6 hw hT
end
end Eng
namespace Eng
open Go Go.Hw Go.Form W Shp Dsk Str Are Trn Ker Fft Pas Pln
theorem tZY (d:Bool)(k:Nat)(l:List UInt64):cZu (zw 1) (cZQ d k l)=cZQ d k l:=by
 have e1:zw 1=1:=by decide
 apply List.ext_getElem?;intro i;by_cases hi:i<2^k
 ·rw[kZR _ (iZM d k l hi),iZM d k l hi,jZ5,e1];congr 2;grind
 ·rw[List.getElem?_eq_none (by rw[gZB,fZE];omega),List.getElem?_eq_none (by rw[fZE];omega)]
theorem sZL (k:Nat)(l:List UInt64):tfL false k l=cZQ false k l:=tZY false k l
theorem uZg (k:Nat)(l:List UInt64):tfL true k l=cZu (Fft.pw half k) (cZQ true k l):=by
 show cZu (zw (uw (Fft.pw half k))) _=_
 rw[jZ5]
theorem nZ4 {R:As}{A:Option Addr}{n m k:Nat}{l:List UInt64}(hR:∀ H,R H→Cells H A (Ze l))(hl:l.length=n)(hn:n=2^k)(hk:k≤20)(d:Bool):
  Tr prog 21 #[.slice A n m,.int .i64 (k:Int),.int .i64 (if d=true then 1 else 0)] [R] fun v M=>∃ A2 m2,v= .slice A2 n m2∧M=[Own 84 1 A2 n m2 (Ze (tfL d k l)),R]:=fun H hs=>by
 have h20:=aZW hk;apply cZp.ok;unfold cZp;refine(vZu hR hl hn hk d).use hs [0] rfl rfl ?_;rintro _ _ H ⟨A2,m2,rfl,rfl⟩ hs;simp only[HV];cases d with
 |false=>
  refine aZe (by decide) ?_;rw[sZL];exact⟨_,⟨A2,m2,rfl,rfl⟩,hs.re [0,1] rfl⟩
 |true=>
  refine aZa rfl ?_;refine Zc.use (sZs k (by omega) H) ?_;simp only[HV];refine(sZr (R:=Own 84 1 A2 n m2 (Ze (cZQ true k l))) (l:=cZQ true k l) (Fft.pw half k).val (by have:=(Fft.pw half k).isLt;omega) (fun H h=>?_) (by rw[fZE,hn]) (by omega)).use hs [0] rfl rfl ?_
  ·exact lZy h
  rintro _ _ H ⟨A3,m3,rfl,rfl⟩ hs;simp only[HV];rw[fZS,←uZg]at hs;exact⟨_,⟨A3,m3,rfl,rfl⟩,hs.re [0,2] rfl⟩
end Eng
end Go.Proofs.YtahjgjaenegpgaaGreatDoor
