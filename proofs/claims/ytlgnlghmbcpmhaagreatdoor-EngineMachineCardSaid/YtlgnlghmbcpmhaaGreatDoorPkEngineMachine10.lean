import Derived.Test.YtlgnlghmbcpmhaaGreatDoorProg
import Derived.Test.YtlgnlghmbcpmhaaGreatDoorPkEngineMachine9
set_option maxRecDepth 100000
set_option linter.unusedSimpArgs false
set_option linter.unusedVariables false
set_option linter.unnecessarySimpa false
set_option linter.unusedSectionVars false
open Go.IntKind (i64 u32)
namespace Go.Proofs.YtlgnlghmbcpmhaaGreatDoor
open Tryz (prog)
namespace Eng
open Go Go.Hw Go.Form W Shp Dsk Str Are Trn Pas Pln Rec Srt Rng
theorem vZD (b:Bool)(K:Value->Prop)(k:K (.bool b)):DR prog [4] (.bool b) K:=by
 show DT prog 4 (.bool b) K
 unfold DT;rw[show prog.underlying 4=some .bool by kernel_rfl];exact k
theorem eZF (x:Int)(K:Value->Prop)(k:K (I x)):DR prog [63] (I x) K:=by
 show DT prog 63 (I x) K
 unfold DT;rw[show prog.underlying 63=some (.int .i64) by kernel_rfl];exact k
theorem oZY {p:Prop}[Decidable p]{X Y:Prop}(h1:p->Y)(h2:¬p->X):BIf (!decide p) X Y:=by
 by_cases h:p
 ·rw[decide_eq_true h];exact aZe rfl (h1 h)
 ·rw[decide_eq_false h];exact aZE rfl (h2 h)
def eZT (l:List UInt64):Prop:=∀ x∈l,x.toNat<18446744069414584321
instance (l :List UInt64):Decidable (eZT l):=by unfold eZT;infer_instance
theorem lZn (H:Hp)(A:OA)(n m:Nat)(xs:List UInt64)(hn:n=xs.length)(hl:n<=1000000000)(hc:Cells H A (Zb xs)):
  ∀(t j:Nat),j+t=n->(∀ k x,k<j->xs[k]? =some x->x.toNat<18446744069414584321)->
   ZC.l2 (fun v H'=>(∃ i:Int,v= I i/\(i<0↔eZT xs))/\H'=H) (t+1) A n m 210 #[] #[] (n:Int) (j:Int) H
 |0,j,hj,hall=>by
  unfold ZC.l2;refine Zg (by omega) ⟨⟨-1,rfl,fun _ x hx=>?_,fun _=>by decide⟩,rfl⟩;obtain⟨k,hk,rfl⟩:=List.getElem_of_mem hx;exact hall k _ (by omega) (List.getElem?_eq_getElem hk)
 |t+1,j,hj,hall=>by
  unfold ZC.l2;refine Zm (by omega) ?_;have hg:xs[j]? =some (xs[j]'(by omega)):=List.getElem?_eq_getElem (by omega);have hg2:(Zb xs)[j]? =some (U ((xs[j]'(by omega)).toNat:Int)):=by rw[aZ5,hg];rfl
  refine hc.read hg2 rfl (by rw[Zq];omega) ?_;simp only[HV];refine aZE (by kernel_rfl) ?_;have hv:Za prog 210 #[U ((xs[j]'(by omega)).toNat:Int)] H (RetE (.bool (!(decide (((xs[j]'(by omega)).toNat:Int)<18446744069414584321)))) H):=by
   apply eZP.ok;unfold eZP;have hg:Za prog 211 #[U ((xs[j]'(by omega)).toNat:Int)] H (RetE (.bool (decide (((xs[j]'(by omega)).toNat:Int)<18446744069414584321))) H):=by
    apply gZT.ok;unfold gZT;exact RetE.mk _ _
   refine Za.use hg ?_;simp only[HV];exact RetE.mk _ _
  refine Za.use hv ?_;have hr:bZA prog 210=[4]:=by kernel_rfl
  rw[hr];refine vZD _ _ ?_;simp only[HV];generalize hz:((xs[j]'(by omega)).toNat:Int)=z at*;refine oZY (fun hx=>?_) (fun hx=>?_)
  ·rw[ZM (x:=(j:Int)+1)];refine lZn H A n m xs hn hl hc t (j+1) (by omega) fun k x hk hkx=>?_
   by_cases e:k=j
   ·subst e;rw[hg]at hkx;have:=Option.some.inj hkx;rw[this]at hz;omega
   ·exact hall k x (by omega) hkx
  ·refine⟨⟨j,rfl,fun h=>by omega,fun h=>?_⟩,by trivial⟩;have:=h _ (List.getElem_mem (show j<xs.length by omega));omega
theorem rZE (A:OA)(n m:Nat)(xs:List UInt64)(hn:n=xs.length)(hl:n<=1000000000)(H:Hp)(hc:Cells H A (Zb xs)):
  Za prog 146 #[.slice A n m] H fun v H'=>(∃ i:Int,v= .tuple #[I i,.bool (decide (eZT xs))])/\H'=H:=by
 apply fZy.ok;unfold fZy;have hI:Za prog 209 #[.slice A n m,.func (.func 210) #[] #[]] H (fun v H'=>(∃ i:Int,v= I i/\(i<0↔eZT xs))/\H'=H):=by
  apply ZC.ok;unfold ZC;exact⟨n+1,lZn H A n m xs hn hl hc n 0 (by omega) fun k x hk=>absurd hk (by omega)⟩
 refine Za.mono hI ?_;rintro _ _ ⟨⟨i,rfl,hi⟩,rfl⟩;simp only[HV];by_cases h:i<0
 ·rw[decide_eq_true h,decide_eq_true (hi.1 h)];exact⟨⟨_,rfl⟩,by trivial⟩
 ·rw[decide_eq_false h,decide_eq_false (fun hh=>h (hi.2 hh))];exact⟨⟨_,rfl⟩,by trivial⟩
inductive fZx (l:List UInt64)(most:Int):Int→Int→Int→Prop
 |len (h:lg (l.length:Int)=none):fZx l most 0 0 4
 |big {k:Nat} (h:lg (l.length:Int)=some k) (h2:most<k):fZx l most 0 0 14
 |word {k:Nat} {i:Int} (h:lg (l.length:Int)=some k) (h2:(k:Int)≤most) (h3:¬eZT l):fZx l most 0 i 3
 |ok {k:Nat} (h:lg (l.length:Int)=some k) (h2:(k:Int)≤most) (h3:eZT l):fZx l most k 0 0
theorem rZS (A:OA)(n m:Nat)(xs:List UInt64)(most:Int)(hn:n=xs.length)(hl:n<=1000000000)(H:Hp)(hT:T64 H)(hc:Cells H A (Zb xs)):
  Za prog 131 #[.slice A n m,I most] H fun v H'=>(∃ k i e,fZx xs most k i e/\v= .tuple #[I k,I i,I e])/\H'=H:=by
 apply fZ9.ok;unfold fZ9;refine Za.use (iZA (n:Int) H hT) ?_;unfold aZ3;rw[hn];cases e:lg (xs.length:Int)with
 |none=>
  simp only[HV];exact⟨⟨_,_,_,.len e,rfl⟩,by trivial⟩
 |some k=>
  simp only[HV];by_cases h2:(k:Int)>most
  ·exact Zm h2 ⟨⟨_,_,_,.big e h2,rfl⟩,by trivial⟩
  ·refine Zg h2 ?_;refine Za.mono (rZE A xs.length m xs rfl (by omega) H hc) ?_;rintro _ _ ⟨⟨i,rfl⟩,rfl⟩;simp only[HV];refine oZY (fun hx=>?_) (fun hx=>?_)
   ·exact⟨⟨_,_,_,.ok e (by omega) hx,rfl⟩,by trivial⟩
   ·exact⟨⟨_,_,_,.word e (by omega) hx,rfl⟩,by trivial⟩
def wiR (per k:Nat):Nat:=dZA per 9 (2^k) 0 (2^k)
def wiW (per k:Nat):Nat:=(pcs per 9 (2^k) 0 (2^k)).length
theorem mZi (per k:Nat):wiR per k<=wiW per k:=List.length_filter_le _ _
theorem mZj (per k:Nat):wiW per k<=2^k:=dZp per 9 (2^k) 0 (2^k)
def pZv (mp dp ap rp:Nat)(e:Eg)(A:OA)(n mm:Nat)(d:D)(c:Cn)(k:Nat)(l:List UInt64)(R:As)(v:Value)(M:List As):Prop:=
 ∃ peak':Int,peak'<=e.arena/\
 ((∃ d' c',bZL d d' (wiR (D.per d) k+nS (D.per d) (2^k)) (wiW (D.per d) k) 1/\Clean d' c'/\Sam (inX (exX e.most (D.per d) 0 k)) c c'/\cws c' (D.per d) 9 (2^k)=l/\v= .tuple #[Ii (eZX l:Int),I 0]/\M=[pts mp (aZn e ap rp A n mm),Ar ap e.arena peak' [],Dk dp d',R])∨
 (∃ d' s,Cut d d' (wiR (D.per d) k+wiW (D.per d) k+1+nS (D.per d) (2^k))/\Left d' (fun c'=>Sam (inX (exX e.most (D.per d) 0 k)) c c')/\v= .tuple #[Ii s,I 8]/\M=[pts mp (aZn e ap rp A n mm),Ar ap e.arena peak' [],Dk dp d',R]))
theorem uZS {mp dp ap rp:Nat}{e:Eg}{A:OA}{n mm:Nat}{d:D}{c:Cn}{k:Nat}{l:List UInt64}{R:As}{As:OA}{ns ms:Nat}(hc:Clean d c)(he:fZ5 e d)(hk:k<=e.most)(ho:d.rd<=100000000000/\d.wr<=100000000000/\d.sy<=100000000000)
  (hl:l.length=2^k) (hns:ns=l.length) (hms:ns<=ms) (hR:∀ H,R H->Cells H As (Zb l)):
  Tr prog 134 #[V mp,V dp,I (k:Int),.slice As ns ms] [pts mp (aZn e ap rp A n mm),Ar ap e.arena e.peak [],Dk dp d,R] (pZv mp dp ap rp e A n mm d c k l R):=fun H hs=>by
 subst hns;have hok:=hc.ok;have hpd:=Ok.per_le hok;have hlay:=he.lay;have hm32:=he.most;have h2k:=cZA (k:=k);have h2p:=Nat.two_pow_pos k;have hpk:=he.peak;have hcap:=he.arena;have hper:=he.per;have hcapd:D.per d<=e.arena:=by
  have:=he.least;unfold bZM at this;rw[hper]at this;omega
 have hx0:On d (exX e.most (D.per d) 0 k):=hlay.on hok (by omega) hk;obtain⟨x,hX⟩:∃ x,x=exX e.most (D.per d) 0 k:=⟨_,rfl⟩;have hx:On d x:=by rw[hX];exact hx0
 have hxw:x.w=l.length:=by rw[hX,hl];rfl
 have hxf:x.f=9:=by rw[hX];show 9+0*_=9;omega
 have hwR:dZA (D.per d) x.f l.length 0 l.length=wiR (D.per d) k:=by rw[hxf,hl];rfl
 have hwW:(pcs (D.per d) x.f l.length 0 l.length).length=wiW (D.per d) k:=by rw[hxf,hl];rfl
 have hb1:=mZi (D.per d) k;have hb2:=mZj (D.per d) k;have hin:=oZI hx;apply ZG.ok;unfold ZG;have j2:∀ q H,Sep [Dk dp d,pts q (ZJ dp ap x),pts mp (aZn e ap rp A n mm),Ar ap e.arena e.peak [],R] H->ZG.j2 (fun v H'=>∃ M,pZv mp dp ap rp e A n mm d c k l R v M/\Sep M H') (Io dp) As l.length ms 0 (Io q) H:=fun q H hs=>by
  unfold ZG.j2;refine Zt rfl ?_;have bad:∀(peak':Int) (d':D) (s:Int) (H:Hp),peak'<=e.arena->Cut d d' (wiR (D.per d) k+wiW (D.per d) k+1+nS (D.per d) (2^k))->Left d' (fun c'=>Sam (inX x) c c')->Sep [pts mp (aZn e ap rp A n mm),Ar ap e.arena peak' [],Dk dp d',R] H->∃ M,pZv mp dp ap rp e A n mm d c k l R (.tuple #[Ii s,I 8]) M/\Sep M H:=fun peak' d' s H h1 h2 h3 hs=>
   ⟨_,⟨peak',h1,.inr ⟨d',s,h2,by rw[← hX];exact h3,rfl,rfl⟩⟩,hs⟩
  refine(jZr (p:=q) (dp:=dp) (ap:=ap) (d:=d) (x:=x) (cap:=e.arena) (peak:=e.peak) (bufs:=[]) (src:=l) hok hc.down hx (by omega) 0 rfl (by omega) (by omega) hms (by rw[bZ8];omega) hR).use hs [1,0,3,4] rfl rfl ?_;have hpk1:mx e.peak (ZH []+(D.per d:Int))<=e.arena:=iZ8 hpk (by rw[bZ8];omega);rintro _ _ H (⟨hP,rfl,rfl⟩|⟨d',hD,hfu,rfl,rfl⟩) hs
  ·simp only[HV];unfold ZG.j4;refine Zt rfl ?_;have h2:=hP.sy;have hrd:=hP.rd;have hwr:=hP.wr;rw[hwR,hwW]at hP;refine(hZK (p:=dp) hP.ok (by rw[h2];omega)).use hs [1] rfl rfl ?_;rintro _ _ H ⟨rfl,rfl⟩ hs;have hpw:=wZC x hok l;generalize hd1:eZn d x l.length 0 l=d1 at*;have hpe1:D.per d1=D.per d:=hP.per;have hsam:Sam (inX x) c d1.now:=fun i hi=>(hc.prog hP i).2 hi
   have hcw:cws d1.now (D.per d) 9 (2^k)=l:=by rw[← hxf,←hpe1,←hl,←gZJ (d:=d1) (c:=d1.now) (fun _=>rfl) x l.length];exact hpw
   rcases hc.sync hP hin with⟨e0,hw2,hc2⟩|⟨e0,hcut,hleft⟩
   ·rw[e0];simp only[HV];unfold ZG.j6;refine Zr rfl ?_;have hs:Sep [Dk dp d1.syncD,pts q (ZJ dp ap x),Ar ap e.arena (mx e.peak (ZH []+(D.per d:Int))) [],R,pts mp (aZn e ap rp A n mm)] H:=hs;have hpe2:D.per d1.syncD=D.per d:=hw2.per;have hrd2:=hw2.rd;have hx2:On d1.syncD x:=⟨hx.w1,hx.s1,by rw[hw2.sec];exact hx.fit,by rw[hpe2];exact hx.room⟩;refine(mZr (p:=q) (dp:=dp) (ap:=ap) (x:=x) (cap:=e.arena) (peak:=mx e.peak (ZH []+(D.per d:Int))) (bufs:=[]) hc2.ok hc2.down hx2 (by omega) (by rw[bZ8,hpe2];omega)).use hs [1,0,2] rfl rfl ?_;have hw0:pws d1.syncD x 0 x.w=l:=by rw[gZJ hc2.now,hpe2,hxf,hxw,hl];exact hcw
    have hpk2:mx (mx e.peak (ZH []+(D.per d:Int))) (ZH []+(D.per d1.syncD:Int))<=e.arena:=iZ8 hpk1 (by rw[bZ8,hpe2];omega);rintro _ _ H (⟨hf,rfl,rfl⟩|⟨j,hj,hf,rfl,rfl⟩) hs
    ·rw[hw0];simp only[HV];rw[hpe2,hxw,hl]at hf hs;have hgo:=hw2.trans (bZL.rdG hf);refine⟨_,⟨_,hpk2,.inl ⟨_,_,hgo,hc2.rdG _,by rw[← hX];exact hsam,hcw,rfl,rfl⟩⟩,?_⟩;rw[hpe2];exact hs.re [4,2,1,3] rfl
    ·simp only[HV];rw[hpe2,hxw,hl]at hj;refine bad _ _ _ H hpk2 ((hw2.cut (Cut.rdG hc2 hf hj)).more (by omega)) ((Left.rdG hc2 j).mono fun c' e=>by rw[e];exact hsam) (hs.re [4,2,1,3] rfl)
   ·rw[e0];simp only[HV];unfold ZG.j6;refine Zz (by decide) ?_;refine bad _ _ _ H hpk1 (hcut.more (by omega)) (hleft.mono fun _ h=>h.2) (hs.re [4,2,0,3] rfl)
  ·simp only[HV];unfold ZG.j4;refine Zu (by decide) ?_;unfold ZG.j6;refine Zz (by decide) ?_;have hf1:1<=d.fuse:=by have h1:=hD.cnt;have h2:=hD.rd;have h3:=hD.wr;omega
   rw[hwR,hwW]at hfu;refine bad _ _ _ H hpk1 ((hc.deadCut hD hin hfu hf1).more (by omega)) (hc.deadLeft hD) (hs.re [4,2,1,3] rfl)
 have pipe:∀ H,Sep [pts mp (aZn e ap rp A n mm),Ar ap e.arena e.peak [],Dk dp d,R] H->Za prog 165 #[V dp,V ap,.agg (Lay.dZk e.most (D.per d)),I 0,I (k:Int)] H fun v H1=>∃ q,v= .tuple #[V q,I 0]/\Sep [Dk dp d,pts q (ZJ dp ap x),pts mp (aZn e ap rp A n mm),Ar ap e.arena e.peak [],R] H1:=fun H hs=>by
  refine(jZ5 (dp:=dp) (ap:=ap) (i:=0) hok hlay (by omega) hk).use hs [2] rfl rfl ?_;rintro _ _ H ⟨q,rfl,rfl⟩ hs;exact⟨q,rfl,by rw[hX];exact hs⟩
 have eb:(((iZH e ap rp A n mm).toList.drop 4).take 17).toArray=Lay.dZk e.most (D.per d):=by rw[← hper];rfl
 try simp only[HS]
 constructor
 ·refine hs.ld 0 (v:=V ap) rfl rfl ?_;simp only[HV];refine hs.lda 0 (off:=4) (n:=17) rfl (by show 4+17<=32;omega) ?_;rw[eb];refine Za.mono (pipe H hs) ?_;rintro _ H ⟨q,rfl,hs⟩;simp only[HV];exact j2 q H hs
 ·refine hs.lda 0 (off:=4) (n:=17) rfl (by show 4+17<=32;omega) ?_;refine hs.ld 0 (v:=V ap) rfl rfl ?_;simp only[HV];rw[eb];refine Za.mono (pipe H hs) ?_;rintro _ H ⟨q,rfl,hs⟩;simp only[HV];exact j2 q H hs
theorem dZ1.go {g:FuncId}{args:Array Value}{H:Hp}{K:VK}(h:fZQ prog g=true)(k:Za prog g args H K):dZ1 prog g args H K:=aZE h k
def aZG (m:Mn)(k:Nat):Mn:=m.add (cZl m k)
def aZK (m:Mn)(k:Nat)(l:List UInt64):Mn:={ aZG m k with inp:=l}.add (cZ2 (aZG m k) k l)
def ldR (per k:Nat):Nat:=16+wiR per k+nS per (2^k)
def ldW (per k:Nat):Nat:=2+wiW per k
section
variable {p dp : Nat} {d : D} {c : Cn} {m : Mn} {peak : Int} (hc : Clean d c) (hh : Holds d.sec d.size m c) (hS : Small 100000 m) (ho : d.rd <= 800000 /\ d.wr <= 800000 /\ d.sy <= 800000) (hpk : peak <= m.arena)
def iZ7 (p dp:Nat)(d:D)(m:Mn)(peak:Int)(l:List UInt64)(RR TT:As)(v:Value)(M:List As):Prop:=
 (∃ k i e,fZx l m.most k i e/\e≠0/\v= .tuple #[I i,I e]/\M=[En p dp (some (egM d m peak)),Dk dp d,RR,TT])∨
 (∃ k:Nat,lg (l.length:Int)=some k/\k<=m.most/\eZT l/\
  ((∃ d' c' peak',peak'<=(m.arena:Int)/\bZL d d' (ldR (d.size/8) k) (ldW (d.size/8) k) 3/\Clean d' c'/\Holds d.sec d.size (aZK m k l) c'/\v= .tuple #[I 0,I 0]/\M=[En p dp (some (egM d (aZK m k l) peak')),Dk dp d',RR,TT])∨
  (∃ d',Cut d d' (ldR (d.size/8) k+ldW (d.size/8) k+3)/\Left d' (fun c'=>Holds d.sec d.size m c'∨Holds d.sec d.size (aZG m k) c'∨Holds d.sec d.size (aZK m k l) c')/\v= .tuple #[I 0,I 8]/\M=[En p dp none,Dk dp d',RR,TT])))
set_option maxHeartbeats 8000000 in
include hc hh hS ho hpk in
theorem pZS {l:List UInt64}{A:OA}{n mm:Nat}{RR TT:As}(hn:n=l.length)(hnm:n<=mm)(hl20:l.length<=40000)(hR:∀ H,RR H->Cells H A (Zb l))(hT:(∀ H,TT H->T64 H)∨∀ H,RR H->T64 H):
  Tr prog 70 #[V p,.slice A n mm] [En p dp (some (egM d m peak)),Dk dp d,RR,TT] (iZ7 p dp d m peak l RR TT):=fun H hs=>by
 subst hn;have he:=hh.eg hpk;obtain⟨mp,ap,rp,A',m',hs⟩:=En.whole hs;apply Zh.ok;unfold Zh Zh.q3 Zh.q2 Zh.q1;refine hs.nw fun b1 H hs=>?_
 refine hs.nw fun b2 H hs=>?_
 have chk:∀(L:List As) (H:Hp) (K:VK),Sep L H->L[6]? =some RR->L[7]? =some TT->(∀ k i e,fZx l m.most k i e->K (.tuple #[I k,I i,I e]) H)->
   Za prog 131 #[.slice A l.length mm,I (m.most:Int)] H K:=fun L H K hs h6 h7 hk=>by
  obtain⟨H1,hr,hr'⟩:=hs.see 6 h6;obtain⟨H2,ht,ht'⟩:=hs.see 7 h7;refine Za.mono (rZS A l.length mm l m.most rfl (by omega) H (hT.elim (fun f=>(f _ ht).le ht') fun f=>(f _ hr).le hr') ((hR _ hr).le hr')) ?_;rintro _ _ ⟨⟨k,i,e,h,rfl⟩,rfl⟩;exact hk k i e h
 have hk0:∀{k:Nat},lg (l.length:Int)=some k->l.length=2^k:=fun h=>by have:=(eZj h).2;omega
 have hld:=hS.ld;have hpe:(egM d m peak).per=D.per d:=rfl;have j4:∀ k i e b3 H,fZx l m.most k i e->Sep [pts p (aZx dp (some mp)),pts mp (aZn (egM d m peak) ap rp A' (psE (egM d m peak)).length m'),Ar ap m.arena peak [],pts rp (ZZ dp 1 8 ((8*(egM d m peak).per:Nat):Int)),Own 221 8 A' (psE (egM d m peak)).length m' (bZx (psE (egM d m peak))),Dk dp d,RR,TT,
   pts b1 (Is #[V p] 27),pts b2 (Is #[.slice A l.length mm] 31),pts b3 (Is #[I k] 3)] H->
   Zh.j4 (fun v H'=>∃ M,iZ7 p dp d m peak l RR TT v M/\Sep M H') (O b1) (O b2) i e (O b3) H:=fun k i e b3 H hv hs=>by
  unfold Zh.j4 Zh.j4.q4 Zh.j4.q3 Zh.j4.q2 Zh.j4.q1;have bad:∀(h:e≠0),∃ M,iZ7 p dp d m peak l RR TT (.tuple #[I i,I e]) M/\Sep M H:=fun h=>
   ⟨_,.inl ⟨k,i,e,hv,h,rfl,rfl⟩,En.unwhole (L:=[Dk dp d,RR,TT]) (hs.re [0,1,2,3,4,5,6,7] rfl)⟩
  cases hv with
  |len h=>exact Zz (by decide) (bad (by decide))
  |big h h2=>exact Zz (by decide) (bad (by decide))
  |word h h2 h3=>exact Zz (by decide) (bad (by decide))
  |ok hlg hkm hcan=>
  rename_i k
  clear bad;refine Zr rfl ?_;have hkm:k<=m.most:=by omega
  have hl:=hk0 hlg;have hfin:∀ v M,((∃ d' c' peak',peak'<=(m.arena:Int)/\bZL d d' (ldR (d.size/8) k) (ldW (d.size/8) k) 3/\Clean d' c'/\Holds d.sec d.size (aZK m k l) c'/\v= .tuple #[I 0,I 0]/\M=[En p dp (some (egM d (aZK m k l) peak')),Dk dp d',RR,TT])∨
  (∃ d',Cut d d' (ldR (d.size/8) k+ldW (d.size/8) k+3)/\Left d' (fun c'=>Holds d.sec d.size m c'∨Holds d.sec d.size (aZG m k) c'∨Holds d.sec d.size (aZK m k l) c')/\v= .tuple #[I 0,I 8]/\M=[En p dp none,Dk dp d',RR,TT]))->iZ7 p dp d m peak l RR TT v M:=fun v M h=>.inr ⟨k,hlg,hkm,hcan,h⟩
  have j7:∀ b4 H,Sep [pts p (aZx dp (some mp)),pts mp (aZn (egM d m peak) ap rp A' (psE (egM d m peak)).length m'),Ar ap m.arena peak [],pts rp (ZZ dp 1 8 ((8*(egM d m peak).per:Nat):Int)),Own 221 8 A' (psE (egM d m peak)).length m' (bZx (psE (egM d m peak))),Dk dp d,RR,TT,
    pts b1 (Is #[V p] 27),pts b2 (Is #[.slice A l.length mm] 31),pts b3 (Is #[I (k:Int)] 3),pts b4 (bZI { cZl m k with s:=0})] H->
    Zh.j7 (fun v H'=>∃ M,iZ7 p dp d m peak l RR TT v M/\Sep M H') (O b1) (O b2) (O b3) (O b4) H:=fun b4 H hs=>by
   unfold Zh.j7;refine hs.nw fun b5 H hs=>?_
   refine hs.ld 8 (v:=V p) rfl rfl ?_;simp only[HV]
   try simp only[HS]
   refine hs.ld 0 (v:=V mp) rfl rfl ?_;simp only[HV];refine hs.nw fun b6 H hs=>?_
   try simp only[HS]
   refine hs.st 13 rfl (by show 0<1;omega) rfl fun H hs=>?_;refine hs.ld 8 (v:=V p) rfl rfl ?_;simp only[HV];refine hs.nw fun b7 H hs=>?_
   have hs:=Me.shut (mp:=mp) (dp:=dp) (e:=egM d m peak) (ap:=ap) (rp:=rp) (A:=A') (m:=m') (L:=[pts p (aZx dp (some mp)),Dk dp d,RR,TT,pts b1 (Is #[V p] 27),pts b2 (Is #[.slice A l.length mm] 31),pts b3 (Is #[I (k:Int)] 3),pts b4 (bZI { cZl m k with s:=0}),pts b5 _,pts b6 _,pts b7 _]) (hs.re [1,2,3,4,0,5,6,7,8,9,10,11,12,13,14] rfl);apply ZI.ok;unfold ZI;refine⟨4,?_⟩;obtain⟨g1,g2,g3,g4⟩:=wZx hh hS (by omega) hkm;have hres1:bZA prog 132=[63]:=by kernel_rfl
   have hres2:bZA prog 133=[63]:=by kernel_rfl
   have hres3:bZA prog 135=[63]:=by kernel_rfl
   have bad:∀(X:As) (L':List As) (H:Hp) (d':D),Sep (X::Dk dp d'::pts p (aZx dp (some mp))::RR::TT::L') H->Cut d d' (ldR (d.size/8) k+ldW (d.size/8) k+3)->Left d' (fun c'=>Holds d.sec d.size m c'∨Holds d.sec d.size (aZG m k) c'∨Holds d.sec d.size (aZK m k l) c')->
     Za prog 80 #[V p,I 8] H fun v H'=>v= I 8/\∃ M,iZ7 p dp d m peak l RR TT (.tuple #[I 0,I 8]) M/\Sep M H':=fun X L' H d' hs h1 h2=>by
    have hs:Sep [X,Dk dp d',pts p (aZx dp (some mp)),RR,TT] H:=Sep.take (L:=L') hs;refine(eZx (p:=p) (dp:=dp) (mp:=mp) 8).use hs [2] rfl rfl ?_;rintro _ _ H ⟨rfl,rfl⟩ hs;exact⟨rfl,_,hfin _ _ (.inr ⟨d',h1,h2,rfl,rfl⟩),hs.re [0,2,3,4] rfl⟩
   unfold ZI.l2;refine Zm (by decide) ⟨by decide,by decide,?_⟩;simp only[HV];refine hs.ldr 11 (v:=.func (.func 132) #[] #[V b6,V b4]) rfl rfl ?_;refine dZ1.go (by kernel_rfl) ?_;rw[hres1];apply cZK.ok;unfold cZK;simp only[HV];refine hs.ld 10 (v:=V mp) rfl rfl ?_;simp only[HV];refine hs.ldw 8 rfl rfl ?_
   try simp only[Array.toArray_toList]
   have hseq:=Mn.seq_r hh;have hR1:ldR (d.size/8) k=8+(wiR (d.size/8) k+nS (d.size/8) (2^k))+8:=by unfold ldR;omega
   have hW1:ldW (d.size/8) k=1+wiW (d.size/8) k+1:=by unfold ldW;omega
   refine(iZg (mp:=mp) (dp:=dp) (e:=egM d m peak) hc he (by omega) (r:=cZl m k) { cZl m k with s:=0} rfl hseq.symm g1 g2 (by rw[hh.lastC];exact g3) (by show(k:Int)<=m.most;omega)).use hs [0,2] rfl rfl ?_;rintro _ _ H (⟨d1,rfl,hw1,hc1,rfl⟩|⟨d',rfl,hcut,hleft,rfl⟩) hs
   rotate_left
   ·simp only[HV];refine eZF _ _ ?_;simp only[HV];refine Zz (by decide) ?_;refine Za.mono (bad _ _ H d' hs (hcut.more (by omega)) (hleft.mono fun c' h=>?_)) ?_
    ·rcases h with e|e
     ·left;rw[e];exact hh
     ·right;left;rw[e];exact g4
    ·rintro _ H ⟨rfl,M,h,hs⟩;simp only[HV];exact⟨M,h,hs⟩
   simp only[HV];refine eZF _ _ ?_;simp only[HV];refine Zr rfl ?_;rw[show i64.wrap ((0:Int)+1)=1 by kernel_rfl];unfold ZI.l2;refine Zm (by decide) ⟨by decide,by decide,?_⟩;simp only[HV];refine hs.ldr 11 (v:=.func (.func 133) #[] #[V b6,V b1,V b3,V b2,V b5]) rfl rfl ?_;refine dZ1.go (by kernel_rfl) ?_;rw[hres2];apply cZL.ok;unfold cZL;simp only[HV];refine hs.ld 10 (v:=V mp) rfl rfl ?_;simp only[HV];refine hs.ld 5 (v:=V p) rfl rfl ?_;simp only[HV]
   try simp only[HS]
   refine hs.ld 2 (v:=V dp) rfl rfl ?_;simp only[HV];refine hs.ld 7 (v:=I (k:Int)) rfl rfl ?_;simp only[HV];refine hs.ld 6 (v:=.slice A l.length mm) rfl rfl ?_;simp only[HV];have h1r:(aZG m k).r=cZl m k:=Mn.add_r _ _;have hh1:Holds d1.sec d1.size (aZG m k) (bZD c (aZX 1 8 (cZl m k).s) ((cZl m k).form d.size)):=by rw[hw1.sec,hw1.size];exact g4
   have ee:{ egM d m peak with r:=cZl m k}=egM d1 (aZG m k) peak:=by unfold egM;rw[h1r,hw1.sec,hw1.size];rfl
   rw[ee]at hs;have he1:=hh1.eg (peak:=peak) hpk;generalize hc1e:bZD c (aZX 1 8 (cZl m k).s) ((cZl m k).form d.size)=c1 at*;obtain⟨ap2,rp2,A2,m2,hs⟩:=Me.open hs;have hs:Sep [pts mp (aZn (egM d1 (aZG m k) peak) ap2 rp2 A2 (psE (egM d1 (aZG m k) peak)).length m2),Ar ap2 m.arena peak [],pts rp2 (ZZ dp 1 8 ((8*(egM d1 (aZG m k) peak).per:Nat):Int)),Own 221 8 A2 (psE (egM d1 (aZG m k) peak)).length m2 (bZx (psE (egM d1 (aZG m k) peak))),Dk dp d1,pts p (aZx dp (some mp)),RR,TT,
    pts b1 (Is #[V p] 27),pts b2 (Is #[.slice A l.length mm] 31),pts b3 (Is #[I (k:Int)] 3),pts b4 (bZI { cZl m k with s:=0}),pts b5 _,pts b6 _,pts b7 _] H:=hs
   have hkk:=cZA (k:=k) (by have:=he.most;have:m.most<=32:=this;omega);have hrd1:=hw1.rd;have hwr1:=hw1.wr;have hsy1:=hw1.sy;refine(uZS (mp:=mp) (dp:=dp) (ap:=ap2) (rp:=rp2) (e:=egM d1 (aZG m k) peak) (A:=A2) (n:=(psE (egM d1 (aZG m k) peak)).length) (mm:=m2) (d:=d1) (c:=c1) (k:=k) (l:=l) (R:=RR) hc1 he1 hkm (by omega) hl rfl hnm hR).use hs [0,1,4,6] rfl rfl ?_;have hp1:D.per d1=d.size/8:=hw1.per;have htgt:∀ c',Sam (inX (exX m.most (D.per d1) 0 k)) c1 c'->Holds d1.sec d1.size (aZG m k) c':=fun c' h=>
    hh1.target (t:=0) (k:=k) hkm (fun r hr h2=>by rw[aZG,Mn.add_last]at hr;cases hr;exact absurd h2 (show ¬(2:Int)<=1 by omega)) (fun r hr h4=>by rw[aZG,Mn.add_last]at hr;cases hr;exact absurd h4 (show ¬(1:Int)=4 by omega)) h
   rintro _ _ H ⟨pk2,hpk2,(⟨d2,c2,hw2,hc2,hsam,hcw,rfl,rfl⟩|⟨d',x,hcut,hleft,rfl,rfl⟩)⟩ hs
   rotate_left
   ·simp only[HV]
    try simp only[HS]
    refine hs.st 12 rfl (by show 0<1;omega) rfl fun H hs=>?_;refine eZF _ _ ?_;simp only[HV];refine Zz (by decide) ?_;rw[hp1]at hcut;refine Za.mono (bad _ _ H d' (hs.re [0,2,6,3,7] rfl) ((hw1.cut hcut).more (by omega)) (hleft.mono fun c' h=>?_)) ?_
    ·right;left;have:=htgt c' h;rw[hw1.sec,hw1.size]at this;exact this
    ·rintro _ H ⟨rfl,M,h,hs⟩;simp only[HV];exact⟨M,h,hs⟩
   simp only[HV]
   try simp only[HS]
   refine hs.st 12 rfl (by show 0<1;omega) rfl fun H hs=>?_;refine eZF _ _ ?_;simp only[HV];refine Zr rfl ?_;rw[show i64.wrap ((1:Int)+1)=2 by kernel_rfl];unfold ZI.l2;refine Zm (by decide) ⟨by decide,by decide,?_⟩;simp only[HV];have ee2:{ egM d1 (aZG m k) peak with peak:=pk2}=egM d2 (aZG m k) pk2:=by unfold egM;rw[hw2.sec,hw2.size]
   have hs:Sep (gZ6 mp dp ap2 rp2 { egM d1 (aZG m k) peak with peak:=pk2} A2 (psE { egM d1 (aZG m k) peak with peak:=pk2}).length m2++[Dk dp d2,pts p (aZx dp (some mp)),RR,TT,
    pts b1 (Is #[V p] 27),pts b2 (Is #[.slice A l.length mm] 31),pts b3 (Is #[I (k:Int)] 3),pts b4 (bZI { cZl m k with s:=0}),pts b5 _,pts b6 _,pts b7 _]) H:=hs.re [0,1,4,5,2,6,3,7,8,9,10,11,12,13,14] rfl
   have hs:=Me.shut hs;rw[ee2]at hs;have hh2:Holds d2.sec d2.size (aZG m k) c2:=by rw[hw2.sec,hw2.size];exact htgt c2 hsam
   have hS1:Small 100001 (aZG m k):=hS.add (by show m.r.ld+1<=_;omega);have h1kd:(aZG m k).r.kd=1:=by rw[h1r];rfl
   have h1kk:(aZG m k).r.kk=k:=by rw[h1r];rfl
   have hsz2:d2.size/8=D.per d1:=by rw[hw2.size];rfl
   obtain⟨q1,q2,q3,q4⟩:=vZO hh2 hS1 (by omega) h1kd h1kk hl hcan (by rw[hsz2];exact hcw);have hrd2:=hw2.rd;have hwr2:=hw2.wr;have hsy2:=hw2.sy;have hb1:=mZi (D.per d1) k;have hb2:=mZj (D.per d1) k;have hpd1:=Ok.per_le hc1.ok;have hb3:=kZd (per:=D.per d1) (w:=2^k) (by omega) (Nat.two_pow_pos k);have elr:cZ2 (aZG m k) k l=⟨(aZG m k).seq,2,k,0,0,m.r.ld+1,eZX l,0⟩:=by unfold cZ2;rw[h1r];rfl
   have hseq2:=Mn.seq_r hh2;refine hs.ldr 11 (v:=.func (.func 135) #[] #[V b5,V b4,V b6]) rfl rfl ?_;refine dZ1.go (by kernel_rfl) ?_;rw[hres3];apply bZh.ok;unfold bZh bZh.q1;have fin3:∀ H,Sep [Me mp dp (egM d2 (aZG m k) pk2),Dk dp d2,pts p (aZx dp (some mp)),RR,TT,
    pts b1 (Is #[V p] 27),pts b2 (Is #[.slice A l.length mm] 31),pts b3 (Is #[I (k:Int)] 3),pts b4 (bZI { cZ2 (aZG m k) k l with s:=0})] H->
     Za prog 110 #[V mp,.agg (R.c { cZ2 (aZG m k) k l with s:=0})] H fun v H'=>∃ x:Int,v= I x/\((x=0/\∃ M,iZ7 p dp d m peak l RR TT (.tuple #[I 0,I 0]) M/\Sep M H')∨(x=8/\∃(X:As) (L':List As) (d':D),Sep (X::Dk dp d'::pts p (aZx dp (some mp))::RR::TT::L') H'/\Cut d d' (ldR (d.size/8) k+ldW (d.size/8) k+3)/\Left d' (fun c'=>Holds d.sec d.size m c'∨Holds d.sec d.size (aZG m k) c'∨Holds d.sec d.size (aZK m k l) c'))):=fun H hs=>by
    refine(iZg (mp:=mp) (dp:=dp) (e:=egM d2 (aZG m k) pk2) hc2 (hh2.eg hpk2) (by omega) (r:=cZ2 (aZG m k) k l) { cZ2 (aZG m k) k l with s:=0} rfl hseq2.symm q1 q2 (by rw[hh2.lastC];exact q3) (by show(k:Int)<=m.most;omega)).use hs [0,1] rfl rfl ?_;rintro _ _ H (⟨d3,rfl,hw3,hc3,rfl⟩|⟨d',rfl,hcut,hleft,rfl⟩) hs
    ·refine⟨0,rfl,.inl ⟨rfl,_,hfin _ _ (.inl ⟨d3,_,pk2,hpk2,?_,hc3,?_,rfl,rfl⟩),?_⟩⟩
     ·have:=(hw1.trans hw2).trans hw3;rw[hp1]at this;rw[hR1,hW1];exact this
     ·have:=q4;rw[hw2.sec,hw2.size,hw1.sec,hw1.size]at this;rw[hw2.size,hw1.size];exact this
     ·have e3:egM d (aZK m k l) pk2={ egM d2 (aZG m k) pk2 with r:=cZ2 (aZG m k) k l}:=by
       unfold aZK egM;rw[Mn.add_r,hw2.sec,hw2.size,hw1.sec,hw1.size];rfl
      rw[e3];exact En.shut (L:=[Dk dp d3,RR,TT]) (hs.re [2,0,1,3,4] rfl)
    ·refine⟨8,rfl,.inr ⟨rfl,_,_,d',hs,?_,hleft.mono fun c' h=>?_⟩⟩
     ·have:=(hw1.trans hw2).cut hcut;rw[hp1]at this;exact this.more (by omega)
     ·rw[hw2.sec,hw2.size,hw1.sec,hw1.size]at q4 hh2;rw[hw2.size,hw1.size]at h;rcases h with e|e
      ·right;left;rw[e];exact hh2
      ·right;right;rw[e];exact q4
   constructor
   ·refine hs.ld 9 (v:=Ii (eZX l:Int)) rfl rfl ?_;simp only[HV]
    try simp only[HS]
    refine hs.st 8 rfl (by show 1<8;omega) rfl fun H hs=>?_
    try simp only[HS]
    refine hs.st 8 rfl (by show 6<8;omega) rfl fun H hs=>?_;refine hs.ld 10 (v:=V mp) rfl rfl ?_;simp only[HV];refine hs.ldw 8 rfl rfl ?_
    try simp only[Array.toArray_toList]
    have hs:=hs.re [0,1,2,3,4,5,6,7,8] rfl;have ff:=fin3 H;rw[elr]at ff;refine Za.mono (ff hs) ?_;rintro _ H ⟨x,rfl,(⟨rfl,M,h,hs⟩|⟨rfl,X,L',d',hs,h1,h2⟩)⟩
    ·simp only[HV];refine eZF _ _ ?_;simp only[HV];refine Zr rfl ?_;rw[show i64.wrap ((2:Int)+1)=3 by kernel_rfl];unfold ZI.l2;refine Zg (by decide) ?_;simp only[HV];exact⟨M,h,hs⟩
    ·simp only[HV];refine eZF _ _ ?_;simp only[HV];refine Zz (by decide) ?_;refine Za.mono (bad X L' H d' hs h1 h2) ?_;rintro _ H ⟨rfl,M,h,hs⟩;simp only[HV];exact⟨M,h,hs⟩
   ·try simp only[HS]
    refine hs.st 8 rfl (by show 1<8;omega) rfl fun H hs=>?_;refine hs.ld 9 (v:=Ii (eZX l:Int)) rfl rfl ?_;simp only[HV]
    try simp only[HS]
    refine hs.st 8 rfl (by show 6<8;omega) rfl fun H hs=>?_;refine hs.ld 10 (v:=V mp) rfl rfl ?_;simp only[HV];refine hs.ldw 8 rfl rfl ?_
    try simp only[Array.toArray_toList]
    have hs:=hs.re [0,1,2,3,4,5,6,7,8] rfl;have ff:=fin3 H;rw[elr]at ff;refine Za.mono (ff hs) ?_;rintro _ H ⟨x,rfl,(⟨rfl,M,h,hs⟩|⟨rfl,X,L',d',hs,h1,h2⟩)⟩
    ·simp only[HV];refine eZF _ _ ?_;simp only[HV];refine Zr rfl ?_;rw[show i64.wrap ((2:Int)+1)=3 by kernel_rfl];unfold ZI.l2;refine Zg (by decide) ?_;simp only[HV];exact⟨M,h,hs⟩
    ·simp only[HV];refine eZF _ _ ?_;simp only[HV];refine Zz (by decide) ?_;refine Za.mono (bad X L' H d' hs h1 h2) ?_;rintro _ H ⟨rfl,M,h,hs⟩;simp only[HV];exact⟨M,h,hs⟩
  have ewp:u32.wrap ((m.r.ld:Int)+1)=((m.r.ld+1:Nat):Int):=by rw[xZx];rfl
  repeat' first
   |(rw[ewp]at hs;exact j7 _ _ hs)
   |refine hs.ld 8 (v:=.pointer (some ⟨p,0,none⟩)) rfl rfl ?_
   |refine hs.ld 10 (v:=.int .i64 (k:Int)) rfl rfl ?_
   |refine hs.ld 0 (v:=.pointer (some ⟨mp,0,none⟩)) rfl rfl ?_
   |refine hs.ld 1 (v:=.int .u32 (m.r.ld:Int)) rfl rfl ?_
   |refine hs.nw fun b H hs=>?_
   |refine hs.stw 11 rfl rfl rfl rfl fun H hs=>?_
   |(simp only[HV];try simp only[HS])
   |refine⟨?_,?_⟩
 refine hs.ld 8 (v:=V p) rfl rfl ?_;simp only[HV]
 try simp only[HS]
 refine hs.ld 0 (v:=V mp) rfl rfl ?_;simp only[HV];refine aZe rfl ?_
 repeat' first
  |exact j4 _ _ _ _ _ hv hs
  |refine hs.ld 9 (v:=.slice A l.length mm) rfl rfl ?_
  |refine hs.ld 8 (v:=.pointer (some ⟨p,0,none⟩)) rfl rfl ?_
  |refine hs.ld 0 (v:=.pointer (some ⟨mp,0,none⟩)) rfl rfl ?_
  |refine hs.ld 1 (v:=.int .i64 (m.most:Int)) rfl rfl ?_
  |refine chk _ _ _ hs rfl rfl fun k i e hv=>?_
  |refine hs.nw fun b H hs=>?_
  |refine hs.st 10 rfl Nat.zero_lt_one rfl fun H hs=>?_
  |(simp only[HV];try simp only[HS])
  |refine⟨?_,?_⟩
end
end Eng
namespace Sup
open Go Go.Hw Go.Form W Lay
theorem rZp (k sec s ar:Int)(h:bZy k sec s ar=true)(hsec:sec<=9223372036854775807):aZ8 (bZ9 k sec s ar)=((k,sec,s,ar),0):=by
 have hg:=h;unfold bZy at hg;simp only[decide_eq_true_eq]at hg;obtain⟨h1,h2,h3,h4,h5,h6⟩:=hg;obtain⟨kn,rfl⟩:=Int.eq_ofNat_of_zero_le h1;have hlen:=jZg kn sec s ar h3;have hlog:=hZL s;have hll:=sZB s;have hw:∀(i:Nat) (hi:i<4),Zv (bZ9 kn sec s ar) (8*i)=((hZm kn sec s ar)[i]'(by rw[jZh];exact hi)).toNat:=fun i hi=>fZm (by rw[jZh];exact hi) _
 have hf64:bZE kn s<2^64:=by unfold bZE;omega
 have w0:Zv (bZ9 kn sec s ar) 0=bZE kn s:=(hw 0 (by omega)).trans (eZ5 hf64);have w1:Zv (bZ9 kn sec s ar) 8=sec.toNat:=(hw 1 (by omega)).trans (eZ5);have w2:Zv (bZ9 kn sec s ar) 16=ar.toNat:=(hw 2 (by omega)).trans (eZ5);have hcr:mZu (bZE kn s) sec.toNat ar.toNat=(Go.Crc.sum (form (gZw kn sec s ar))).toNat:=rfl;have hsum:=(Go.Crc.sum (form (gZw kn sec s ar))).isLt;have w3:Zv (bZ9 kn sec s ar) 24=mZu (bZE kn s) sec.toNat ar.toNat:=(hw 3 (by omega)).trans (by rw[hcr];exact eZ5);have hz:iZJ (bZ9 kn sec s ar)=true:=by
  unfold iZJ bZ9;rw[List.drop_left' (by rw[bZb,jZh])];simp
 have hf1:bZE kn s/4294967296=1094861123:=by unfold bZE;omega
 have hf2:bZE kn s/65536%65536=kn:=by unfold bZE;omega
 have hf3:((bZE kn s%65536:Nat):Int)=cZn s:=by unfold bZE;omega
 have hsb:eZN (bZ9 kn sec s ar)=((kn:Int),sec,s,ar):=by
  unfold eZN;rw[w0,w1,w2,hf2,hlen,ZM,ZM,show((sec.toNat:Nat):Int)=sec by omega,show((ar.toNat:Nat):Int)=ar by omega]
 unfold aZ8;rw[hlen,hsb,w0,w1,w2,w3,if_neg (by omega),if_neg (by simp[hf1,hz]),if_neg (by simp),if_pos ⟨h,hf3⟩]
end Sup
namespace Eng
open Go Go.Hw Go.Form W Shp Dsk Str Are Trn Pas Pln Rec Srt Rng
def inF (n:Nat)(i:Int):Prop:=1<=i/\i<((1+n:Nat):Int)
theorem tZq {d:D}(hl:d.down=false)(hf:d.fuse≠1)(k:Int)(b:List UInt8)(i:Int):(d.wrote k b).now i=if i=k then b else d.now i:=by
 unfold D.wrote;rw[eZw hl hf];unfold D.now cZJ;by_cases h:i=k
 ·simp only[if_pos h];rfl
 ·simp only[if_neg h];rfl
theorem mZ4 {d0:D}{c:Cn}(h:Clean d0 c){n:Nat}(hn:1+n<=d0.sec):∀(k i:Nat) (d:D),i+k=n->Prog (inF n) d0 d 0 i->(∀ j:Nat,j<i->d.now ((1+j:Nat):Int)=List.replicate d0.size 0)->
  (∃ d' c',iZ2 1 k i d=(0,d')/\bZL d0 d' 0 n 1/\Clean d' c'/\Sam (inF n) c c'/\∀ j:Nat,j<n->c' ((1+j:Nat):Int)=List.replicate d0.size 0)∨
  (∃ d',iZ2 1 k i d=(8,d')/\Cut d0 d' (n+1)/\Left d' (Sam (inF n) c))
 |0,i,d,hi,hP,hz=>by
  have hS:∀ i,inF n i->0<=i/\i<d0.sec:=fun i hi=>⟨by have:=hi.1;omega,by have:=hi.2;omega⟩
  have e:i=n:=by omega
  subst e;have hsam:Sam (inF i) c d.now:=fun j hj=>(h.prog hP j).2 hj
  rcases h.sync hP hS with⟨s1,s2,s3⟩|⟨s1,s2,s3⟩
  ·exact .inl ⟨_,_,by show(d.syncE,d.syncD)=_;rw[s1],s2,s3,hsam,hz⟩
  ·exact .inr ⟨_,by show(d.syncE,d.syncD)=_;rw[s1],s2.more (by omega),s3.mono fun _ h=>h.2⟩
 |k+1,i,d,hi,hP,hz=>by
  have hS:∀ i,inF n i->0<=i/\i<d0.sec:=fun i hi=>⟨by have:=hi.1;omega,by have:=hi.2;omega⟩
  have hsec:=hP.sec;have hsize:=hP.size;have hchk:d.chk ((1+i:Nat):Int)=0:=gZG hP.down (Int.natCast_nonneg _) (by rw[hsec];omega);have hin:inF n ((1+i:Nat):Int):=⟨by omega,by omega⟩;have hlen:(List.replicate d.size (0:UInt8)).length=d.size:=List.length_replicate;unfold iZ2;by_cases hf:d.fuse=1
  ·have hbn:d.burns=true:=by unfold D.burns;simp[hf]
   have e1:d.writeE ((1+i:Nat):Int) d.size=8:=by unfold D.writeE;rw[if_neg (by rw[hchk];simp),if_neg (by simp),hbn];rfl
   have e2:d.writeD ((1+i:Nat):Int) (List.replicate d.size 0)=D.dead d:=by unfold D.writeD;rw[if_neg (by rw[hchk];simp),if_neg (by simp[hlen]),hbn,eZW hf];rfl
   rw[e1,e2,if_pos (by decide)];have hD:=hP.dead (cZB.one (inF n) hP.ok hf);have h1:=hP.fuse;have h2:=hP.go;exact .inr ⟨_,rfl,h.deadCut hD hS (by omega) (by omega),h.deadLeft hD⟩
  ·have hbn:d.burns=false:=by unfold D.burns;exact decide_eq_false hf
   have e1:d.writeE ((1+i:Nat):Int) d.size=0:=by unfold D.writeE;rw[if_neg (by rw[hchk];simp),if_neg (by simp),hbn];rfl
   have e2:d.writeD ((1+i:Nat):Int) (List.replicate d.size 0)=d.wrote ((1+i:Nat):Int) (List.replicate d.size 0):=by unfold D.writeD;rw[if_neg (by rw[hchk];simp),if_neg (by simp[hlen]),hbn];rfl
   rw[e1,e2,if_neg (by simp)];have hW:=Prog.wrote (S:=inF n) hP.ok hP.down hf hin hlen;have hT:=hP.trans hW;refine mZ4 h hn k (i+1) _ (by omega) hT fun j hj=>?_
   rw[tZq hP.down hf];by_cases e:j=i
   ·rw[e,if_pos rfl,hsize]
   ·rw[if_neg (by omega)];exact hz j (by omega)
def bZN (k words:Nat):Mn:=⟨k,words,[],[]⟩
theorem qZ3 {sec size k words:Nat}{c:Cn}(hg:Sup.bZy k sec size words=true)(hl:bZM k (size/8)<=words)(h0:c 0=Sup.bZ9 k sec size words)(hz:∀ j:Nat,j<8->c ((1+j:Nat):Int)=List.replicate size 0):Holds sec size (bZN k words) c:=
 ⟨h0,hg,hl,Log.nil,fun i hi=>hz i hi,fun r hr=>(by cases hr),fun r hr=>(by cases hr),fun r hr=>(by cases hr)⟩
def aZ3 (sec per:Nat)(k words:Int):Int:=if words<1∨words>16777216∨k<0∨k>32 then 1 else if(sec:Int)<Lay.bZT k.toNat per then 7 else if words<bZM k.toNat per then 6 else 0
theorem vZG {p dp:Nat}{mo:Option Nat}{d:D}(hok:Ok d)(hpn:0<Lay.aZg (d.size:Int))(k words:Int):Tr prog 122 #[V p,I k,I words] [pts p (aZx dp mo),Dk dp d] fun v M=>v= I (aZ3 d.sec (d.size/8) k words)/\M=[pts p (aZx dp mo),Dk dp d]:=fun H hs=>by
 have hper:=eZ1 hpn;apply ZD.ok;unfold ZD ZD.q3 ZD.q2 ZD.q1;have fin:∀(x:Int) (H:Hp) (T:List As),x=aZ3 d.sec (d.size/8) k words->Sep ([pts p (aZx dp mo),Dk dp d]++T) H->∃ M,(Value.int .i64 x= I (aZ3 d.sec (d.size/8) k words)/\M=[pts p (aZx dp mo),Dk dp d])/\Sep M H:=fun x H T hx hs=>⟨_,⟨by rw[hx],rfl⟩,Sep.take hs⟩
 by_cases h1:words<1
 ·exact Zm h1 (fin 1 H [] (by unfold aZ3;rw[if_pos (.inl h1)]) hs)
 refine Zg h1 ?_;by_cases h2:words>16777216
 ·exact Zm h2 (fin 1 H [] (by unfold aZ3;rw[if_pos (.inr (.inl h2))]) hs)
 refine Zg h2 ?_;have j4:∀ b H,Sep [pts p (aZx dp mo),Dk dp d,pts b (Is (Lay.OfV k d.sec d.size).1 153)] H->ZD.j4 (fun v H'=>∃ M,(v= I (aZ3 d.sec (d.size/8) k words)/\M=[pts p (aZx dp mo),Dk dp d])/\Sep M H') k words (O b) (Lay.OfV k d.sec d.size).2 H:=fun b H hs=>by
  unfold ZD.j4;unfold Lay.OfV at hs⊢;by_cases h3:0<=k/\k<=32
  ·have h3':0<=k/\k<=32/\0<Lay.aZg d.size:=⟨h3.1,h3.2,hpn⟩;rw[if_pos h3']at hs⊢;by_cases h4:(d.sec:Int)<Lay.bZT k.toNat (Lay.aZg d.size)
   ·rw[if_pos h4]at hs⊢;refine Zz (by decide) (fin 7 H _ ?_ hs);unfold aZ3;rw[if_neg (by omega),if_pos (by rw[← hper.1];exact h4)]
   ·rw[if_neg h4]at hs⊢;refine Zr rfl ?_
    try simp only[HS]
    refine hs.ld 2 (v:=I ((Lay.aZg d.size:Nat):Int)) rfl rfl ?_;simp only[HV];obtain⟨kn,rfl⟩:=Int.eq_ofNat_of_zero_le h3.1;have hpB:cZR ((Lay.aZg d.size:Nat):Int)=true:=by rw[hper.1];exact nZw hpn
    refine Za.use (tZF (k:=kn) (per:=Lay.aZg d.size) (by omega) hpB H) ?_;simp only[HV];refine Zr rfl ?_;rw[hper.1]at h4;have h4':¬(d.sec:Int)<Lay.bZT (kn:Int).toNat (d.size/8):=h4;by_cases h5:words<(bZM kn (Lay.aZg d.size):Int)
    ·refine Zm h5 (fin 6 H _ ?_ hs);unfold aZ3;rw[if_neg (by omega),if_neg h4',if_pos (by rw[← hper.1];exact h5)]
    ·refine Zg h5 (fin 0 H _ ?_ hs);unfold aZ3;rw[if_neg (by omega),if_neg h4',if_neg (by rw[← hper.1];exact h5)]
  ·rw[if_neg (fun h=>h3 ⟨h.1,h.2.1⟩)]at hs⊢;refine Zz (by decide) (fin 1 H _ ?_ hs);unfold aZ3;rw[if_pos (by omega)]
 try simp only[HS]
 have hsz:∀(H:Hp) (T:List As) (K:Value->Prop),Sep ([pts p (aZx dp mo),Dk dp d]++T) H->K (I (d.sec:Int))->ZS prog 123 #[V dp] H K:=fun H T K hs h=>ZS.use (eZU hs 1 rfl) h
 have hsy:∀(H:Hp) (T:List As) (K:Value->Prop),Sep ([pts p (aZx dp mo),Dk dp d]++T) H->K (I (d.size:Int))->ZS prog 124 #[V dp] H K:=fun H T K hs h=>ZS.use (hZP hs 1 rfl) h
 have hof:∀(H:Hp) (K:Value->Prop),K (.tuple #[.agg (Lay.OfV k d.sec d.size).1,I (Lay.OfV k d.sec d.size).2])->ZS prog 181 #[I k,I (d.sec:Int),I (d.size:Int)] H K:=fun H K h=>ZS.use (Lay.eZO k d.sec d.size H) h
 have hS1:(Lay.OfV k d.sec d.size).1.size=17:=Sup.kZQ k d.sec d.size
 repeat' first
  |exact j4 _ _ hs
  |refine hs.ld 0 (v:=.pointer (some ⟨dp,0,none⟩)) rfl rfl ?_
  |refine hsz _ [] _ hs ?_
  |refine hsy _ [] _ hs ?_
  |refine hsz _ [_] _ hs ?_
  |refine hsy _ [_] _ hs ?_
  |refine hof _ _ ?_
  |refine hs.nw fun b H hs=>?_
  |refine hs.stw 2 rfl rfl (Sup.kZQ _ _ _) (Sup.pZU _ _ _) fun H hs=>?_
  |(simp only[HV];try simp only[HS])
  |refine⟨?_,?_⟩
theorem sZx (k p:Nat):Lay.dZk k p=#[I (k:Int),I (p:Int),I 1,I 8,I ((8*p:Nat):Int),I 9,I (Lay.ZX k p:Int),I ((2^k:Nat):Int),I (9+(Lay.ZX k p:Int)),I (Lay.ZX k p:Int),I ((2^k:Nat):Int),I (9+2*(Lay.ZX k p:Int)),I (Lay.ZX k p:Int),I ((2^k:Nat):Int),I (9+3*(Lay.ZX k p:Int)),I (Lay.ZX k p:Int),I ((2^k:Nat):Int)]:=rfl
theorem qZa {dp:Nat}{d:D}{k ar:Nat}(hok:Ok d)(hg:Sup.bZy (k:Int) d.sec d.size (ar:Int)=true):
  Tr prog 81 #[V dp,.agg (Sup.bZ0 k d.sec d.size ar)] [Dk dp d] fun v M=>∃ mp ap rp,v= .tuple #[V mp,I 0]/\M=[pts mp (aZn ⟨k,d.sec,d.size,ar,bZl,0⟩ ap rp .none 0 0),Ar ap ar 0 [],pts rp (ZZ dp 1 8 ((8*(d.size/8):Nat):Int)),Dk dp d]:=fun H hs=>by
 have hgo:=bZ4 hg;have hper:=eZ1 hgo.2.1;have hlay:Sup.bZy (k:Int) d.sec d.size (ar:Int)=true->(if Sup.bZy (k:Int) d.sec d.size (ar:Int)=true then Value.tuple #[.agg (Lay.dZk (k:Int).toNat (Lay.aZg d.size)),I 0]else .tuple #[.agg Lay.oZO,I 1])= .tuple #[.agg (Lay.dZk k (d.size/8)),I 0]:=fun h=>by rw[if_pos h,Int.toNat_natCast,hper.1]
 have hext:mZx d 1 8=true:=decide_eq_true (by have:=hgo.2.2.1;unfold Lay.bZT at this;omega);have hL:=Sup.rZM (k:Int) d.sec d.size (ar:Int);rw[hlay hg]at hL;apply bZJ.ok;unfold bZJ bZJ.q1;refine hs.nw fun b1 H hs=>?_
 refine hs.ldw 1 rfl rfl ?_;refine Za.use (hL H) ?_;simp only[HV];refine hs.nw fun b2 H hs=>?_
 refine hs.stw 2 rfl rfl rfl rfl fun H hs=>?_;refine Zr rfl ?_
 try simp only[HS]
 refine hs.lda 2 (off:=2) (n:=3) rfl (by show 2+3<=17;omega) ?_;refine(Rng.dZC (p:=dp) (d:=d) hok 1 8 ((8*(d.size/8):Nat):Int) (by omega)).use hs [0] rfl rfl ?_;rintro _ _ H (⟨_,rp,rfl,rfl⟩|⟨h,_⟩) hs
 rotate_left
 ·rw[hext]at h;cases h
 simp only[HV];refine Zr rfl ?_;have hs:Sep [Dk dp d,pts rp (ZZ dp 1 8 ((8*(d.size/8):Nat):Int)),pts b1 (Is #[I k,I d.sec,I d.size,I ar] 45),pts b2 (Is (Lay.dZk k (d.size/8)) 153)] H:=hs;rw[sZx]at hs
 try simp only[HS]
 refine hs.ld 2 (v:=I (ar:Int)) rfl rfl ?_;simp only[HV];have fin:∀(mp ap:Nat) (T:List As) (H:Hp),Sep ([Ar ap ar 0 [],Dk dp d,pts rp (ZZ dp 1 8 ((8*(d.size/8):Nat):Int))]++T++[pts mp (aZn ⟨k,d.sec,d.size,ar,bZl,0⟩ ap rp .none 0 0)]) H->
   ∃ M,(∃ mp' ap' rp',(Value.tuple #[V mp,I 0])= .tuple #[V mp',I 0]/\M=[pts mp' (aZn ⟨k,d.sec,d.size,ar,bZl,0⟩ ap' rp' .none 0 0),Ar ap' ar 0 [],pts rp' (ZZ dp 1 8 ((8*(d.size/8):Nat):Int)),Dk dp d])/\Sep M H:=fun mp ap T H hs=>by
  have h1:Sep ([pts mp (aZn ⟨k,d.sec,d.size,ar,bZl,0⟩ ap rp .none 0 0)]++([Ar ap ar 0 [],Dk dp d,pts rp (ZZ dp 1 8 ((8*(d.size/8):Nat):Int))]++T)) H:=Sep.perm List.perm_append_comm hs;have h2:Sep [pts mp (aZn ⟨k,d.sec,d.size,ar,bZl,0⟩ ap rp .none 0 0),Ar ap ar 0 [],Dk dp d,pts rp (ZZ dp 1 8 ((8*(d.size/8):Nat):Int))] H:=Sep.take (L:=T) h1;exact⟨_,⟨mp,ap,rp,rfl,rfl⟩,h2.re [0,1,3,2] rfl⟩
 have har:(1:Int)<=(ar:Int)/\(ar:Int)<=16777216:=hgo.2.2.2
 repeat' first
  |exact fin _ _ [_,_] _ hs
  |refine hs.ldw 2 rfl rfl ?_
  |refine hs.ldw 3 rfl rfl ?_
  |refine hs.ldw 4 rfl rfl ?_
  |(refine(Are.dZC (ar:Int) har).use hs [] rfl rfl ?_;rintro _ _ H ⟨ap,rfl,rfl⟩ hs)
  |refine hs.nw fun b H hs=>?_
  |(simp only[HV];try simp only[HS])
  |refine⟨?_,?_⟩
theorem Sep.unit {L:List As}{H:Hp}{X:As}(hs:Hw.Sep L H)(hX:X fun _=>none):Hw.Sep (X::L) H:=⟨fun _=>none,H,fun _ _ h=>(nomatch h),Hp.le_refl _,fun _=>.inl rfl,hX,hs⟩
theorem En.ptr {p dp:Nat}{g:Option Eg}{L:List As}{H:Hp}(h:Sep (En p dp g::L) H):∃ mo X,Sep (pts p (aZx dp mo)::X::L) H/\∀ L' H',Sep (pts p (aZx dp mo)::X::L') H'->Sep (En p dp g::L') H':=by
 cases g with
 |none=>exact⟨none,fun _=>True,(Sep.unit (X:=fun _=>True) h trivial).swap,fun L' H' h=>h.swap.tail⟩
 |some e=>
  obtain⟨mp,h⟩:=En.open h;exact⟨some mp,Me mp dp e,h,fun L' H' h=>En.shut h⟩
theorem Me.bare {mp dp ap rp:Nat}{e:Eg}{L:List As}{H:Hp}(h:Sep ([pts mp (aZn e ap rp .none 0 0),Ar ap e.arena e.peak [],pts rp (ZZ dp 1 8 ((8*e.per:Nat):Int))]++L) H)(hp:psE e=[]):Sep (Me mp dp e::L) H:=by
 have h1:Sep (Own 221 8 .none 0 0 []::([pts mp (aZn e ap rp .none 0 0),Ar ap e.arena e.peak [],pts rp (ZZ dp 1 8 ((8*e.per:Nat):Int))]++L)) H:=Sep.unit h (Own.none _ _ _);have h2:Sep ([pts mp (aZn e ap rp .none 0 0),Ar ap e.arena e.peak [],pts rp (ZZ dp 1 8 ((8*e.per:Nat):Int))]++(Own 221 8 .none 0 0 []::L)) H:=Sep.perm List.perm_middle.symm h1;refine Me.shut (ap:=ap) (rp:=rp) (A:=.none) (m:=0) ?_;unfold gZ6;rw[hp];exact h2
theorem uZi {e:Eg}(h:e.r=bZl):psE e=[]:=by unfold psE;rw[if_neg (by rw[h];decide)]
theorem jZA {d:D}(hpn:0<Lay.aZg (d.size:Int)){k words:Int}(h:aZ3 d.sec (d.size/8) k words=0):∃ kn wn:Nat,k=kn/\words=wn/\Sup.bZy kn d.sec d.size wn=true/\bZM kn (d.size/8)<=wn:=by
 have hper:=eZ1 hpn;unfold aZ3 at h;split at h
 ·cases h
 rename_i h1
 split at h
 ·cases h
 rename_i h2
 split at h
 ·cases h
 rename_i h3
 obtain⟨kn,rfl⟩:=Int.eq_ofNat_of_zero_le (show 0<=k by omega);obtain⟨wn,rfl⟩:=Int.eq_ofNat_of_zero_le (show 0<=words by omega);refine⟨kn,wn,rfl,rfl,decide_eq_true ?_,?_⟩
 ·rw[hper.1];have h2':¬(d.sec:Int)<Lay.bZT kn (d.size/8):=h2;refine⟨by omega,by omega,by omega,?_,by omega,by omega⟩;show(Lay.bZT kn (d.size/8):Int)<=d.sec
  omega
 ·have h3':¬(wn:Int)<bZM kn (d.size/8):=h3;omega
def nZZ (p dp:Nat)(g:Option Eg)(d:D)(c:Cn)(k words:Int)(v:Value)(M:List As):Prop:=
 (aZ3 d.sec (d.size/8) k words≠0/\v= I (aZ3 d.sec (d.size/8) k words)/\M=[En p dp g,Dk dp d])∨
 (∃ kn wn:Nat,k=kn/\words=wn/\aZ3 d.sec (d.size/8) k words=0/\
  ((∃ d' c',bZL d d' 0 10 3/\Clean d' c'/\Holds d.sec d.size (bZN kn wn) c'/\v= I 0/\M=[En p dp (some (egM d (bZN kn wn) 0)),Dk dp d'])∨
  (∃ d',Cut d d' 13/\Left d' (fun c'=>c'=c∨mZl d.size c'∨Holds d.sec d.size (bZN kn wn) c')/\v= I 8/\M=[En p dp none,Dk dp d'])))
set_option maxHeartbeats 8000000 in
theorem mZV {p dp:Nat}{g:Option Eg}{d:D}{c:Cn}(hc:Clean d c)(hpn:0<Lay.aZg (d.size:Int))(ho:d.rd<=800000/\d.wr<=800000/\d.sy<=800000)(k words:Int):
  Tr prog 69 #[V p,I k,I words] [En p dp g,Dk dp d] (nZZ p dp g d c k words):=fun H hs=>by
 have hok:=hc.ok;have hper:=eZ1 hpn;obtain⟨mo,X,hs,hback⟩:=En.ptr hs;apply Zd.ok;unfold Zd Zd.q5 Zd.q4 Zd.q3 Zd.q2 Zd.q2.q1 Zd.q1 Zd.q1.q2 Zd.q1.q1;refine hs.nw fun b1 H hs=>?_
 have hs:Sep [pts p (aZx dp mo),X,Dk dp d,pts b1 (Is #[V p] 27)] H:=hs;refine hs.ld 3 (v:=V p) rfl rfl ?_;simp only[HV];refine(vZG (p:=p) (dp:=dp) (mo:=mo) hok hpn k words).use hs [0,2] rfl rfl ?_;rintro _ _ H ⟨rfl,rfl⟩ hs;simp only[HV];by_cases hfit:aZ3 d.sec (d.size/8) k words=0
 rotate_left
 ·exact Zz hfit ⟨_,.inl ⟨hfit,rfl,rfl⟩,hback [Dk dp d] _ (hs.re [0,2,1] rfl)⟩
 rw[hfit];refine Zr rfl ?_;obtain⟨kn,wn,rfl,rfl,hg,hlw⟩:=jZA hpn hfit;have hgo:=bZ4 hg;have hneed:9<=d.sec:=by have:=hgo.2.2.1;unfold Lay.bZT at this;omega
 have hs:Sep [pts p (aZx dp mo),Dk dp d,X,pts b1 (Is #[V p] 27)] H:=hs;have hzl:(List.replicate d.size (0:UInt8)).length=d.size:=List.length_replicate;have bad:∀(H:Hp) (d':D),Sep [Dk dp d',pts p (aZx dp mo)] H->Cut d d' 13->Left d' (fun c'=>c'=c∨mZl d.size c'∨Holds d.sec d.size (bZN kn wn) c')->
   Za prog 80 #[V p,I 8] H fun v H'=>v= I 8/\∃ M,nZZ p dp g d c kn wn (I 8) M/\Sep M H':=fun H d' hs h1 h2=>by
  have hk:Za prog 80 #[V p,I 8] H fun v H'=>∃ M,(v= I 8/\M=[pts p (aZx dp none),Dk dp d'])/\Sep M H':=by
   apply bZn.ok;unfold bZn;refine Zt rfl ?_
   try simp only[HS]
   refine hs.st 1 rfl (by show 1<2;omega) rfl fun H hs=>?_;exact⟨_,⟨by first|rfl|trivial,rfl⟩,hs.re [1,0] rfl⟩
  refine Za.mono hk ?_;rintro _ H ⟨_,⟨rfl,rfl⟩,hs⟩;exact⟨rfl,_,.inr ⟨kn,wn,rfl,rfl,hfit,.inr ⟨d',h1,h2,rfl,rfl⟩⟩,hs⟩
 have j6:∀ mp ap rp b2 H,Sep [pts mp (aZn ⟨kn,d.sec,d.size,wn,bZl,0⟩ ap rp .none 0 0),Ar ap wn 0 [],pts rp (ZZ dp 1 8 ((8*(d.size/8):Nat):Int)),Dk dp d,pts p (aZx dp mo),X,pts b1 (Is #[V p] 27),pts b2 (Is (Sup.bZ0 kn d.sec d.size wn) 45)] H->
   Zd.j6 (fun v H'=>∃ M,nZZ p dp g d c kn wn v M/\Sep M H') (O b1) (O b2) (Io mp) 0 H:=fun mp ap rp b2 H hs=>by
  unfold Zd.j6;refine Zr rfl ?_;refine hs.ld 6 (v:=V p) rfl rfl ?_;simp only[HV];refine hs.ld 6 (v:=V p) rfl rfl ?_;simp only[HV]
  try simp only[HS]
  refine hs.ld 4 (v:=V dp) rfl rfl ?_;simp only[HV]
  try simp only[HS]
  refine hs.ld 0 (v:=V rp) rfl rfl ?_;simp only[HV];refine hs.nw fun b3 H hs=>?_
  have hres1:bZA prog 125=[63]:=by kernel_rfl
  have hres2:bZA prog 127=[63]:=by kernel_rfl
  have hres3:bZA prog 128=[63]:=by kernel_rfl
  have hres4:bZA prog 129=[63]:=by kernel_rfl
  apply ZI.ok;unfold ZI;refine⟨5,?_⟩;unfold ZI.l2;refine Zm (by decide) ⟨by decide,by decide,?_⟩;simp only[HV];refine hs.ldr 8 (v:=.func (.func 125) #[] #[V b1]) rfl rfl ?_;refine dZ1.go (by kernel_rfl) ?_;rw[hres1];have hsz32:=hok.size;have f1:∀(A3:As) (H:Hp),Sep [pts mp (aZn ⟨kn,d.sec,d.size,wn,bZl,0⟩ ap rp .none 0 0),Ar ap wn 0 [],pts rp (ZZ dp 1 8 ((8*(d.size/8):Nat):Int)),Dk dp d,pts p (aZx dp mo),X,pts b1 (Is #[V p] 27),pts b2 (Is (Sup.bZ0 kn d.sec d.size wn) 45),A3] H->Za prog 125 #[V b1] H fun v H=>v= I (d.writeE 0 d.size)/\Sep [Dk dp (d.writeD 0 (List.replicate d.size 0)),pts mp (aZn ⟨kn,d.sec,d.size,wn,bZl,0⟩ ap rp .none 0 0),Ar ap wn 0 [],pts rp (ZZ dp 1 8 ((8*(d.size/8):Nat):Int)),pts p (aZx dp mo),X,pts b1 (Is #[V p] 27),pts b2 (Is (Sup.bZ0 kn d.sec d.size wn) 45),A3] H:=fun A3 H hs=>by
   apply cZp.ok;unfold cZp;simp only[HV];refine hs.ld 6 (v:=V p) rfl rfl ?_;simp only[HV]
   try simp only[HS]
   refine hs.ld 4 (v:=V dp) rfl rfl ?_;simp only[HV]
   try simp only[HS]
   refine ZS.use (hZP hs 3 rfl) ?_;simp only[HV];have wr1:∀(b4:Nat) (H:Hp),Sep [pts mp (aZn ⟨kn,d.sec,d.size,wn,bZl,0⟩ ap rp .none 0 0),Ar ap wn 0 [],pts rp (ZZ dp 1 8 ((8*(d.size/8):Nat):Int)),Dk dp d,pts p (aZx dp mo),X,pts b1 (Is #[V p] 27),pts b2 (Is (Sup.bZ0 kn d.sec d.size wn) 45),A3,pts b4 (.row (aZH [Value.int .u8 0] d.size) 5 (d.size*1))] H->
     Za prog 47 #[V dp,I 0,.slice (Io b4) d.size d.size] H fun v H=>v= I (d.writeE 0 d.size)/\Sep [Dk dp (d.writeD 0 (List.replicate d.size 0)),pts mp (aZn ⟨kn,d.sec,d.size,wn,bZl,0⟩ ap rp .none 0 0),Ar ap wn 0 [],pts rp (ZZ dp 1 8 ((8*(d.size/8):Nat):Int)),pts p (aZx dp mo),X,pts b1 (Is #[V p] 27),pts b2 (Is (Sup.bZ0 kn d.sec d.size wn) 45),A3] H:=fun b4 H hs=>by
    rw[fZn]at hs;refine(eZu (p:=dp) (d:=d) hok (by omega) 0 (Io b4) d.size d.size (List.replicate d.size 0) hzl.symm (pts b4 (.row (Zn (List.replicate d.size 0)) 5 (d.size*1))) (fun H h=>?_)).use hs [3,9] rfl rfl ?_
    ·have:=Cells.row h 0 d.size;rw[List.drop_zero,List.take_of_length_le (by rw[ZO,hzl];exact Nat.le_refl _)]at this;exact this
    rintro _ _ H ⟨rfl,rfl⟩ hs;exact⟨rfl,hs.re [0,2,3,4,5,6,7,8,9] rfl⟩
   have done:∀(v:Value) (H:Hp),(v= I (d.writeE 0 d.size)/\Sep [Dk dp (d.writeD 0 (List.replicate d.size 0)),pts mp (aZn ⟨kn,d.sec,d.size,wn,bZl,0⟩ ap rp .none 0 0),Ar ap wn 0 [],pts rp (ZZ dp 1 8 ((8*(d.size/8):Nat):Int)),pts p (aZx dp mo),X,pts b1 (Is #[V p] 27),pts b2 (Is (Sup.bZ0 kn d.sec d.size wn) 45),A3] H)->DI .i64 v fun x1=>(Value.int .i64 x1= I (d.writeE 0 d.size)/\Sep [Dk dp (d.writeD 0 (List.replicate d.size 0)),pts mp (aZn ⟨kn,d.sec,d.size,wn,bZl,0⟩ ap rp .none 0 0),Ar ap wn 0 [],pts rp (ZZ dp 1 8 ((8*(d.size/8):Nat):Int)),pts p (aZx dp mo),X,pts b1 (Is #[V p] 27),pts b2 (Is (Sup.bZ0 kn d.sec d.size wn) 45),A3] H):=fun v H ⟨h1,h2⟩=>by
    subst h1;simp only[HV];exact⟨by trivial,h2⟩
   repeat' first
    |exact Za.mono (wr1 _ _ hs) done
    |refine hs.ld 6 (v:=.pointer (some ⟨p,0,none⟩)) rfl rfl ?_
    |refine hs.ld 4 (v:=.pointer (some ⟨dp,0,none⟩)) rfl rfl ?_
    |refine hs.mks eZK rfl (n:=d.size) (m:=d.size) rfl rfl (Nat.le_refl _) (by omega) (by omega) fun b4 H hs=>?_
    |(simp only[HV];try simp only[HS])
    |refine⟨?_,?_⟩
  have hp1:=jZJ hc 0 (by omega) (List.replicate d.size 0) hzl;have bare0:∀ c:Cn,mZl d.size (bZD c (0:Nat) (List.replicate d.size 0)):=fun c=>kZo c 0 _
  refine Za.mono (f1 _ H hs) ?_;rintro _ H ⟨rfl,hs⟩;refine eZF _ _ ?_;simp only[HV];by_cases hw1:d.writeE 0 d.size=0
  rotate_left
  ·have e1:hZk d (0:Nat) (List.replicate d.size 0)=(d.writeE 0 d.size,d.writeD 0 (List.replicate d.size 0)):=by unfold hZk;exact if_pos hw1
   rw[e1]at hp1;rcases hp1 with⟨d',⟨h,_⟩|⟨h,hcut,hleft⟩⟩
   ·exact absurd (congrArg Prod.fst h) hw1
   ·have h8:=congrArg Prod.fst h;have hd:=congrArg Prod.snd h;simp only at h8 hd;rw[h8];rw[hd]at hs;refine Zz (by decide) ?_;refine Za.mono (bad H d' (hs.re [0,4] rfl) (hcut.more (by omega)) (hleft.mono fun c' h=>?_)) ?_
    ·rcases h with e|e
     ·exact .inl e
     ·right;left;rw[e];exact bare0 c
    ·rintro _ H ⟨rfl,M,h,hs⟩;simp only[HV];exact⟨M,h,hs⟩
  refine Zr hw1 ?_;rw[show i64.wrap ((0:Int)+1)=1 by kernel_rfl];unfold ZI.l2;refine Zm (by decide) ⟨by decide,by decide,?_⟩;simp only[HV];refine hs.ldr 8 (v:=.func (.func 127) #[V dp] #[]) rfl rfl ?_;refine dZ1.go (by kernel_rfl) ?_;rw[hres2];have hwd:(d.writeD 0 (List.replicate d.size 0)).sy=d.sy:=(nZM d 0 _).1;have hwok:Ok (d.writeD 0 (List.replicate d.size 0)):=Ok.writeD hok 0 _;have e1:hZk d (0:Nat) (List.replicate d.size 0)=((d.writeD 0 (List.replicate d.size 0)).syncE,(d.writeD 0 (List.replicate d.size 0)).syncD):=by unfold hZk;exact if_neg (fun h=>h hw1)
  rw[e1]at hp1;have sy1:∀(A3:As) (H:Hp),Sep [Dk dp (d.writeD 0 (List.replicate d.size 0)),pts mp (aZn ⟨kn,d.sec,d.size,wn,bZl,0⟩ ap rp .none 0 0),Ar ap wn 0 [],pts rp (ZZ dp 1 8 ((8*(d.size/8):Nat):Int)),pts p (aZx dp mo),X,pts b1 (Is #[V p] 27),pts b2 (Is (Sup.bZ0 kn d.sec d.size wn) 45),A3] H->Za prog 127 #[V dp] H fun v H=>v= I (d.writeD 0 (List.replicate d.size 0)).syncE/\Sep [Dk dp (d.writeD 0 (List.replicate d.size 0)).syncD,pts mp (aZn ⟨kn,d.sec,d.size,wn,bZl,0⟩ ap rp .none 0 0),Ar ap wn 0 [],pts rp (ZZ dp 1 8 ((8*(d.size/8):Nat):Int)),pts p (aZx dp mo),X,pts b1 (Is #[V p] 27),pts b2 (Is (Sup.bZ0 kn d.sec d.size wn) 45),A3] H:=fun A3 H hs=>by
   refine(hZK (p:=dp) (d:=d.writeD 0 (List.replicate d.size 0)) hwok (by rw[hwd];omega)).use hs [0] rfl rfl ?_;rintro _ _ H ⟨rfl,rfl⟩ hs;exact⟨rfl,hs⟩
  refine Za.mono (sy1 _ H hs) ?_;rintro _ H ⟨rfl,hs⟩;refine eZF _ _ ?_;simp only[HV];rcases hp1 with⟨d1,⟨h,hw1',hc1⟩|⟨h,hcut,hleft⟩⟩
  rotate_left
  ·have h8:=congrArg Prod.fst h;have hd:=congrArg Prod.snd h;simp only at h8 hd;rw[h8];rw[hd]at hs;refine Zz (by decide) ?_;refine Za.mono (bad H d1 (hs.re [0,4] rfl) (hcut.more (by omega)) (hleft.mono fun c' h=>?_)) ?_
   ·rcases h with e|e
    ·exact .inl e
    ·right;left;rw[e];exact bare0 c
   ·rintro _ H ⟨rfl,M,h,hs⟩;simp only[HV];exact⟨M,h,hs⟩
  have h8:=congrArg Prod.fst h;have hd:=congrArg Prod.snd h;simp only at h8 hd;rw[h8];rw[hd]at hs;clear h8 hd h e1;refine Zr rfl ?_;rw[show i64.wrap ((1:Int)+1)=2 by kernel_rfl];unfold ZI.l2;refine Zm (by decide) ⟨by decide,by decide,?_⟩;simp only[HV];refine hs.ldr 8 (v:=.func (.func 128) #[V rp] #[]) rfl rfl ?_;refine dZ1.go (by kernel_rfl) ?_;rw[hres3];have hrd1:=hw1'.rd;have hwr1:=hw1'.wr;have hsy1:=hw1'.sy;have hsec1:=hw1'.sec;have hsize1:=hw1'.size;generalize hcc1:bZD c (0:Nat) (List.replicate d.size 0)=c1 at*;have hb1:mZl d.size c1:=by rw[← hcc1];exact bare0 c
  have cl1:∀(A3:As) (H:Hp),Sep [Dk dp d1,pts mp (aZn ⟨kn,d.sec,d.size,wn,bZl,0⟩ ap rp .none 0 0),Ar ap wn 0 [],pts rp (ZZ dp 1 8 ((8*(d.size/8):Nat):Int)),pts p (aZx dp mo),X,pts b1 (Is #[V p] 27),pts b2 (Is (Sup.bZ0 kn d.sec d.size wn) 45),A3] H->Za prog 128 #[V rp] H fun v H=>v= I (iZ2 1 8 0 d1).1/\Sep [Dk dp (iZ2 1 8 0 d1).2,pts mp (aZn ⟨kn,d.sec,d.size,wn,bZl,0⟩ ap rp .none 0 0),Ar ap wn 0 [],pts rp (ZZ dp 1 8 ((8*(d.size/8):Nat):Int)),pts p (aZx dp mo),X,pts b1 (Is #[V p] 27),pts b2 (Is (Sup.bZ0 kn d.sec d.size wn) 45),A3] H:=fun A3 H hs=>by
   refine(tZA (b:=rp) (p:=dp) (f:=1) (n:=8) (w:=((8*(d.size/8):Nat):Int)) (by omega) hc1.ok (by omega) (by omega)).use hs [0,3] rfl rfl ?_;rintro _ _ H ⟨rfl,rfl⟩ hs;exact⟨rfl,hs.re [0,2,3,1,4,5,6,7,8] rfl⟩
  refine Za.mono (cl1 _ H hs) ?_;rintro _ H ⟨rfl,hs⟩;refine eZF _ _ ?_;simp only[HV];have hnot0:¬inF 8 0:=fun h=>by have:=h.1;omega
  rcases mZ4 hc1 (n:=8) (by rw[hsec1];omega) 8 0 d1 rfl (Prog.refl _ hc1.ok hc1.down) (fun j hj=>absurd hj (by omega))with⟨d2,c2,h,hw2,hc2,hsam2,hz2⟩|⟨d2,h,hcut,hleft⟩
  rotate_left
  ·rw[h]at hs⊢;refine Zz (show(8:Int)≠0 by decide) ?_;refine Za.mono (bad H d2 (hs.re [0,4] rfl) ((hw1'.cut hcut).more (by omega)) (hleft.mono fun c' h=>?_)) ?_
   ·right;left;show c' 0=_
    rw[h 0 hnot0];exact hb1
   ·rintro _ H ⟨rfl,M,h,hs⟩;simp only[HV];exact⟨M,h,hs⟩
  rw[h]at hs⊢;refine Zr rfl ?_;rw[show i64.wrap ((2:Int)+1)=3 by kernel_rfl];unfold ZI.l2;refine Zm (by decide) ⟨by decide,by decide,?_⟩;simp only[HV];refine hs.ldr 8 (v:=.func (.func 129) #[] #[V b1,V b2]) rfl rfl ?_;refine dZ1.go (by kernel_rfl) ?_;rw[hres4];have hrd2:=hw2.rd;have hwr2:=hw2.wr;have hsy2:=hw2.sy;have hsec2:=hw2.sec;have hsize2:=hw2.size;have hs2:d2.size=d.size:=hsize2.trans hsize1;have hc20:mZl d.size c2:=by show c2 0=_;rw[hsam2 0 hnot0];exact hb1
  have hfl:(Sup.bZ9 kn d.sec d.size wn).length=d2.size:=by have:=Sup.jZg kn d.sec d.size wn hpn;omega
  have hwv:Sup.wrV d2 kn d.sec d.size wn=hZk d2 (0:Nat) (Sup.bZ9 kn d.sec d.size wn):=by
   have e0:Sup.ofB d2 d.sec d.size=true:=decide_eq_true ⟨by rw[hsec2,hsec1],by rw[hs2]⟩;unfold Sup.wrV hZk;rw[if_neg (by rw[hg,e0];simp),Int.toNat_natCast,←hs2];rfl
  have hnew:Holds d.sec d.size (bZN kn wn) (bZD c2 (0:Nat) (Sup.bZ9 kn d.sec d.size wn)):=by
   refine qZ3 hg hlw (kZo c2 0 _) fun j hj=>?_
   rw[iZS _ _,hz2 j hj,hsize1]
  have f2:∀(A3:As) (H:Hp),Sep [Dk dp d2,pts mp (aZn ⟨kn,d.sec,d.size,wn,bZl,0⟩ ap rp .none 0 0),Ar ap wn 0 [],pts rp (ZZ dp 1 8 ((8*(d.size/8):Nat):Int)),pts p (aZx dp mo),X,pts b1 (Is #[V p] 27),pts b2 (Is (Sup.bZ0 kn d.sec d.size wn) 45),A3] H->Za prog 129 #[V b1,V b2] H fun v H=>v= I (hZk d2 (0:Nat) (Sup.bZ9 kn d.sec d.size wn)).1/\Sep [Dk dp (hZk d2 (0:Nat) (Sup.bZ9 kn d.sec d.size wn)).2,pts mp (aZn ⟨kn,d.sec,d.size,wn,bZl,0⟩ ap rp .none 0 0),Ar ap wn 0 [],pts rp (ZZ dp 1 8 ((8*(d.size/8):Nat):Int)),pts p (aZx dp mo),X,pts b1 (Is #[V p] 27),pts b2 (Is (Sup.bZ0 kn d.sec d.size wn) 45),A3] H:=fun A3 H hs=>by
   apply cZq.ok;unfold cZq;simp only[HV];refine hs.ld 6 (v:=V p) rfl rfl ?_;simp only[HV]
   try simp only[HS]
   refine hs.ld 4 (v:=V dp) rfl rfl ?_;simp only[HV];refine hs.ldw 7 rfl rfl ?_
   try simp only[Array.toArray_toList]
   refine(Sup.sZ5 (p:=dp) (d:=d2) hc2.ok (by omega) kn d.sec d.size wn (by have:=hok.sec;omega)).use hs [0] rfl rfl ?_;rintro _ _ H ⟨rfl,rfl⟩ hs;rw[hwv]at hs⊢;simp only[HV];exact⟨by trivial,hs⟩
  refine Za.mono (f2 _ H hs) ?_;rintro _ H ⟨rfl,hs⟩;refine eZF _ _ ?_;simp only[HV];rcases jZJ hc2 0 (by rw[hsec2,hsec1];omega) (Sup.bZ9 kn d.sec d.size wn) hfl with⟨d3,⟨h,hw3,hc3⟩|⟨h,hcut,hleft⟩⟩
  rotate_left
  ·rw[h]at hs⊢;refine Zz (show(8:Int)≠0 by decide) ?_;refine Za.mono (bad H d3 (hs.re [0,4] rfl) (((hw1'.trans hw2).cut hcut).more (by omega)) (hleft.mono fun c' h=>?_)) ?_
   ·rcases h with e|e
    ·right;left;rw[e];exact hc20
    ·right;right;rw[e];exact hnew
   ·rintro _ H ⟨rfl,M,h,hs⟩;simp only[HV];exact⟨M,h,hs⟩
  rw[h]at hs⊢;refine Zr rfl ?_;rw[show i64.wrap ((3:Int)+1)=4 by kernel_rfl];unfold ZI.l2;refine Zg (by decide) ?_;simp only[HV];refine Zt rfl ?_;refine hs.ld 6 (v:=V p) rfl rfl ?_;simp only[HV]
  try simp only[HS]
  refine hs.st 4 rfl (by show 1<2;omega) rfl fun H hs=>?_;refine⟨_,.inr ⟨kn,wn,rfl,rfl,hfit,.inl ⟨d3,_,(hw1'.trans hw2).trans hw3,hc3,hnew,rfl,rfl⟩⟩,?_⟩;refine En.shut (mp:=mp) (e:=egM d (bZN kn wn) 0) (L:=[Dk dp d3]) ?_;exact(Me.bare (ap:=ap) (rp:=rp) (e:=egM d (bZN kn wn) 0) (L:=[pts p (aZx dp (some mp)),Dk dp d3]) (hs.re [1,2,3,4,0] rfl) (uZi rfl)).swap
 have fo:∀(H:Hp) (b2:Nat),Sep [pts p (aZx dp mo),Dk dp d,X,pts b1 (Is #[V p] 27),pts b2 (Is (Sup.bZ0 kn d.sec d.size wn) 45)] H->Za prog 81 #[V dp,.agg (Sup.bZ0 kn d.sec d.size wn)] H fun v H=>∃ mp ap rp,v= .tuple #[V mp,I 0]/\Sep [pts mp (aZn ⟨kn,d.sec,d.size,wn,bZl,0⟩ ap rp .none 0 0),Ar ap wn 0 [],pts rp (ZZ dp 1 8 ((8*(d.size/8):Nat):Int)),Dk dp d,pts p (aZx dp mo),X,pts b1 (Is #[V p] 27),pts b2 (Is (Sup.bZ0 kn d.sec d.size wn) 45)] H:=fun H b2 hs=>by
  refine(qZa (dp:=dp) hok hg).use hs [1] rfl rfl ?_;rintro _ _ H ⟨mp,ap,rp,rfl,rfl⟩ hs;exact⟨mp,ap,rp,rfl,hs⟩
 have j5:∀ b2 H,Sep [pts p (aZx dp mo),Dk dp d,X,pts b1 (Is #[V p] 27),pts b2 (Is (Sup.bZ0 kn d.sec d.size wn) 45)] H->
   Zd.j5 (fun v H'=>∃ M,nZZ p dp g d c kn wn v M/\Sep M H') (O b1) (O b2) H:=fun b2 H hs=>by
  unfold Zd.j5 Zd.j5.q1
  repeat' first
   |(refine Za.mono (fo _ _ hs) ?_;rintro _ H ⟨mp,ap,rp,rfl,hs⟩;simp only[HV];exact j6 mp ap rp _ H hs)
   |refine hs.ld 3 (v:=.pointer (some ⟨p,0,none⟩)) rfl rfl ?_
   |refine hs.ld 0 (v:=.pointer (some ⟨dp,0,none⟩)) rfl rfl ?_
   |refine hs.ldw 4 rfl rfl ?_
   |(simp only[HV];try simp only[aZ0,Addr.add_lit',Addr.add_zero,Nat.zero_add,Nat.add_zero,Array.toArray_toList])
   |refine⟨?_,?_⟩
 have hsz:∀(H:Hp) (T:List As) (K:Value->Prop),Sep ([pts p (aZx dp mo),Dk dp d,X,pts b1 (Is #[V p] 27)]++T) H->K (I (d.sec:Int))->ZS prog 123 #[V dp] H K:=fun H T K hs h=>ZS.use (eZU hs 1 rfl) h
 have hsy:∀(H:Hp) (T:List As) (K:Value->Prop),Sep ([pts p (aZx dp mo),Dk dp d,X,pts b1 (Is #[V p] 27)]++T) H->K (I (d.size:Int))->ZS prog 124 #[V dp] H K:=fun H T K hs h=>ZS.use (hZP hs 1 rfl) h
 repeat' first
  |exact j5 _ _ hs
  |refine hs.ld 3 (v:=.pointer (some ⟨p,0,none⟩)) rfl rfl ?_
  |refine hs.ld 0 (v:=.pointer (some ⟨dp,0,none⟩)) rfl rfl ?_
  |refine hsz _ [] _ hs ?_
  |refine hsy _ [] _ hs ?_
  |refine hsz _ [_] _ hs ?_
  |refine hsy _ [_] _ hs ?_
  |refine hs.nw fun b H hs=>?_
  |refine hs.stw 4 rfl rfl rfl rfl fun H hs=>?_
  |(simp only[HV];try simp only[HS])
  |refine⟨?_,?_⟩
theorem pZL {p:Nat}{d:D}{c:Cn}(hc:Clean d c)(ho:d.rd<=1000000):
  Tr prog 79 #[V p] [Dk p d] fun v M=>(d.fuse≠1/\v= .tuple #[.agg (Sup.sbV (Sup.rdV d (c 0)).1),I (Sup.rdV d (c 0)).2]/\M=[Dk p (D.rdG d 1)])∨(d.fuse=1/\v= .tuple #[.agg (Sup.bZ0 0 0 0 0),I 8]/\M=[Dk p (D.dead d)]):=fun H hs=>by
 have hok:=hc.ok;have hsec:=hok.sec;have hchk:d.chk 0=0:=gZG hc.down (Int.le_refl _) (by omega);by_cases hf:d.fuse=1
 ·have hbn:d.burns=true:=by unfold D.burns;simp[hf]
  apply eZh.ok;unfold eZh;refine hs.nw fun b1 H hs=>?_
  refine(jZ6 (p:=p) (d:=d) hok (by omega) 0).use hs [0] rfl rfl ?_;rintro _ _ H (⟨h,_,_⟩|⟨_,_,rfl,rfl⟩|⟨_,h,_⟩) hs
  ·exact absurd hchk h
  ·simp only[HV];refine Zz (by decide) ?_;refine hs.stw 1 rfl rfl rfl rfl fun H hs=>?_;refine hs.ldw 1 rfl rfl ?_;rw[eZW hf]at hs;exact⟨_,.inr ⟨hf,rfl,rfl⟩,hs.re [0] rfl⟩
  ·rw[hbn]at h;cases h
 ·have hbn:d.burns=false:=by unfold D.burns;exact decide_eq_false hf
  have e:({ d.burnt with rd:=d.rd+1}:D)=D.rdG d 1:=by rw[eZw hc.down hf];rfl
  refine Za.mono (Sup.uZo hok ho hchk hbn H hs) ?_;rintro v H ⟨M,⟨rfl,rfl⟩,hs⟩;rw[e]at hs;rw[hc.now];exact⟨_,.inl ⟨hf,rfl,rfl⟩,hs⟩
def xZp (p dp:Nat)(d:D)(c:Cn)(o:Option Mn)(v:Value)(M:List As):Prop:=
 (∃ d',o=none/\bZL d d' 1 0 0/\Clean d' c/\v= I 11/\M=[En p dp none,Dk dp d'])∨
 (∃ d' m,o=some m/\bZL d d' 9 0 0/\Clean d' c/\v= I 0/\M=[En p dp (some (egM d m 0)),Dk dp d'])∨
 (∃ d',Cut d d' 9/\(o=none->d.fuse=1)/\Left d' (fun c'=>c'=c)/\v= I 8/\M=[En p dp none,Dk dp d'])
theorem Cut.dead {d:D}{c:Cn}(hc:Clean d c)(hf:d.fuse=1):Cut d (D.dead d) 1/\Left (D.dead d) (fun c'=>c'=c):=by
 have h1:=Cut.rdG hc (j:=0) (n:=1) hf (by omega);have h2:=Left.rdG hc 0;rw[pZb]at h1 h2;exact⟨h1,h2⟩
set_option maxHeartbeats 4000000 in
theorem lZu {p dp:Nat}{g:Option Eg}{d:D}{c:Cn}(hc:Clean d c)(hpn:0<Lay.aZg (d.size:Int))(ho:d.rd<=800000/\d.wr<=800000/\d.sy<=800000){o:Option Mn}(hh:qZK d.sec d.size o c):
  Tr prog 27 #[V p] [En p dp g,Dk dp d] (xZp p dp d c o):=fun H hs=>by
 have hok:=hc.ok;have hper:=eZ1 hpn;obtain⟨mo,X,hs,hback⟩:=En.ptr hs;have chk8:∀(T:List As) (H:Hp) (K:VK),Sep ([pts p (aZx dp mo)]++T) H->(∀ H,Sep ([pts p (aZx dp none)]++T) H->K (I 8) H)->Za prog 80 #[V p,I 8] H K:=fun T H K hs hk=>by
  apply bZn.ok;unfold bZn;refine Zt rfl ?_
  try simp only[HS]
  refine hs.st 0 rfl (by show 1<2;omega) rfl fun H hs=>?_;exact hk H hs
 apply aZz.ok;unfold aZz
 try simp only[HS]
 refine hs.ld 0 (v:=V dp) rfl rfl ?_;simp only[HV];refine(pZL (p:=dp) hc (by omega)).use hs [2] rfl rfl ?_;rintro _ _ H (⟨hf,rfl,rfl⟩|⟨hf,rfl,rfl⟩) hs
 rotate_left
 ·simp only[HV];refine hs.nw fun b1 H hs=>?_
  refine hs.stw 3 rfl rfl rfl rfl fun H hs=>?_;refine Zt rfl ?_;obtain⟨h1,h2⟩:=Cut.dead hc hf;refine chk8 [Dk dp (D.dead d)] H _ (hs.re [1,0] rfl) fun H hs=>?_;simp only[HV];exact⟨_,.inr (.inr ⟨_,h1.more (by omega),fun _=>hf,h2,rfl,rfl⟩),hs⟩
 have hgo1:d.fuse=0∨1<d.fuse:=by omega
 have hw1:=bZL.rdG hgo1;have hc1:=hc.rdG 1;cases o with
 |none=>
  have h0:c 0=List.replicate d.size 0:=hh;have e:Sup.rdV d (c 0)=((0,0,0,0),10):=by
   unfold Sup.rdV;rw[h0,Sup.rZq d.size hpn];rfl
  rw[e];simp only[HV];refine hs.nw fun b1 H hs=>?_
  refine hs.stw 3 rfl rfl rfl rfl fun H hs=>?_;refine Zu (by decide) (Zz (by decide) ?_)
  try simp only[HS]
  refine hs.st 1 rfl (by show 1<2;omega) rfl fun H hs=>?_;exact⟨_,.inl ⟨_,rfl,hw1,hc1,rfl,rfl⟩,hs.re [1,0] rfl⟩
 |some m=>
  have hh:Holds d.sec d.size m c:=hh;have hgo:=bZ4 hh.good;have hneed:9<=d.sec:=by have:=hgo.2.2.1;unfold Lay.bZT at this;omega
  have hsec:=hok.sec;have e:Sup.rdV d (c 0)=(((m.most:Int),(d.sec:Int),(d.size:Int),(m.arena:Int)),0):=by
   unfold Sup.rdV;rw[hh.sup,Sup.rZp _ _ _ _ hh.good (by omega),if_neg (by simp)];exact if_pos (show Sup.ofB d d.sec d.size=true from decide_eq_true ⟨rfl,rfl⟩)
  rw[e];simp only[HV];refine hs.nw fun b1 H hs=>?_
  refine hs.stw 3 rfl rfl rfl rfl fun H hs=>?_;refine Zu (by decide) (Zr rfl ?_);generalize hd1:D.rdG d 1=d1 at*;have hsec1:d1.sec=d.sec:=hw1.sec;have hsize1:d1.size=d.size:=hw1.size;have hh1:Holds d1.sec d1.size m c:=by rw[hsec1,hsize1];exact hh
  have hs:Sep [Dk dp d1,pts p (aZx dp mo),X,pts b1 (Is (Sup.bZ0 m.most d.sec d.size m.arena) 45)] H:=hs;have fo:∀(H:Hp),Sep [Dk dp d1,pts p (aZx dp mo),X,pts b1 (Is (Sup.bZ0 m.most d.sec d.size m.arena) 45)] H->Za prog 81 #[V dp,.agg (Sup.bZ0 m.most d.sec d.size m.arena)] H fun v H=>∃ mp ap rp,v= .tuple #[V mp,I 0]/\Sep [pts mp (aZn ⟨m.most,d.sec,d.size,m.arena,bZl,0⟩ ap rp .none 0 0),Ar ap m.arena 0 [],pts rp (ZZ dp 1 8 ((8*(d.size/8):Nat):Int)),Dk dp d1,pts p (aZx dp mo),X] H:=fun H hs=>by
   rw[← hsec1,←hsize1]at hs⊢;refine(qZa (dp:=dp) hc1.ok hh1.good).use hs [0] rfl rfl ?_;rintro _ _ H ⟨mp,ap,rp,rfl,rfl⟩ hs;exact⟨mp,ap,rp,rfl,hs.re [0,1,2,3,4,5] rfl⟩
  have j8:∀ mp ap rp H,Sep [pts mp (aZn ⟨m.most,d.sec,d.size,m.arena,bZl,0⟩ ap rp .none 0 0),Ar ap m.arena 0 [],pts rp (ZZ dp 1 8 ((8*(d.size/8):Nat):Int)),Dk dp d1,pts p (aZx dp mo),X] H->
    aZz.j8 (fun v H'=>∃ M,xZp p dp d c (some m) v M/\Sep M H') (Io p) 0 (Io mp) H:=fun mp ap rp H hs=>by
   unfold aZz.j8;refine Zr rfl ?_
   try simp only[HS]
   refine hs.ld 0 (v:=V rp) rfl rfl ?_;simp only[HV];have hrd1:=hw1.rd;refine(pZR (b:=rp) (p:=dp) (f:=1) (n:=8) (w:=((8*(d.size/8):Nat):Int)) (d:=d1) (by omega) (by omega) hc1.ok (by omega) (fun _=>by
    have:=jZO 1 8 8 0 d1 [];have h9:(aZY 1 8 d1).2.2.length<=0+8:=this;omega)).use hs [3,2] rfl rfl ?_
   rintro _ _ H ⟨rfl,rfl⟩ hs;have hs:Sep [Dk dp (aZY 1 8 d1).2.1,pts rp (ZZ dp 1 8 ((8*(d.size/8):Nat):Int)),pts mp (aZn ⟨m.most,d.sec,d.size,m.arena,bZl,0⟩ ap rp .none 0 0),Ar ap m.arena 0 [],pts p (aZx dp mo),X] H:=hs;simp only[HV];refine hs.nw fun b2 H hs=>?_
   refine hs.stw 6 rfl rfl (y:=R.c _) rfl (fZj _) fun H hs=>?_;rcases kZL hc1 1 8 (by rw[hsec1];omega)with⟨hf2,hsc⟩|⟨j,hj,hf2,hsc⟩
   ·rw[hsc]at hs⊢;rw[oZN,hh1.lastC]at hs;refine Zr rfl ?_;refine hs.ldw 6 rfl rfl ?_
    try simp only[Array.toArray_toList]
    try simp only[HS]
    refine hs.sta 2 (off:=23) (n:=8) (y:=R.c m.r) rfl (by show 23+8<=32;omega) rfl (fZj _) fun H hs=>?_;have hs:Sep [Dk dp (D.rdG d1 8),pts rp (ZZ dp 1 8 ((8*(d.size/8):Nat):Int)),pts mp (aZn (egM d m 0) ap rp .none 0 0),Ar ap m.arena 0 [],pts p (aZx dp mo),X,pts b2 (Is (R.c m.r) 110)] H:=hs;have he:=hh.eg (peak:=0) (by omega);have hkk:=he.kk0;refine(sZu (mp:=mp) (ap:=ap) (rp:=rp) (e:=egM d m 0) (A:=.none) (n:=0) (m:=0) he.most he.p ⟨he.least,he.arena⟩ (fun _=>⟨hkk.1,he.kk,he.dir⟩)).use hs [2] rfl rfl ?_;rintro _ _ H ⟨A',m',rfl,rfl⟩ hs
    try simp only[HV]
    try simp only[HS]
    refine hs.st 5 rfl (by show 1<2;omega) rfl fun H hs=>?_;refine⟨_,.inr (.inl ⟨_,m,rfl,hw1.trans (bZL.rdG hf2),hc1.rdG 8,rfl,rfl⟩),?_⟩;exact En.unwhole (mp:=mp) (ap:=ap) (rp:=rp) (A:=A') (m:=m') (e:=egM d m 0) (L:=[Dk dp (D.rdG d1 8)]) (hs.re [5,0,4,3,1,2] rfl)
   ·rw[hsc]at hs⊢;refine Zz (show(8:Int)≠0 by decide) ?_;refine chk8 [Dk dp (D.dead (D.rdG d1 j))] H _ (hs.re [4,0] rfl) fun H hs=>?_;simp only[HV];have hcut:=hw1.cut (Cut.rdG hc1 hf2 hj);exact⟨_,.inr (.inr ⟨_,hcut.more (by omega),fun h=>(by cases h),Left.rdG hc1 j,rfl,rfl⟩),hs⟩
  try simp only[HS]
  repeat' first
   |(refine Za.mono (fo _ hs) ?_;rintro _ H ⟨mp,ap,rp,rfl,hs⟩;simp only[HV];exact j8 mp ap rp H hs)
   |refine hs.ld 1 (v:=.pointer (some ⟨dp,0,none⟩)) rfl rfl ?_
   |refine hs.ldw 3 rfl rfl ?_
   |(simp only[HV];try simp only[aZ0,Addr.add_lit',Addr.add_zero,Nat.zero_add,Nat.add_zero,Array.toArray_toList])
   |refine⟨?_,?_⟩
end Eng
namespace W
open Go Go.Hw
end W
namespace Eng
open Go Go.Hw Go.Form W Shp Dsk Str Are Trn Pas Pln Rec Srt Rng
theorem mZ6 {dp:Nat}:Tr prog 15 #[V dp] [] fun v M=>∃ p,v= V p/\M=[En p dp none]:=fun H hs=>by
 apply eZf.ok;unfold eZf;refine aZe rfl ?_;refine hs.nw fun p H hs=>?_
 exact⟨_,⟨p,rfl,rfl⟩,hs⟩
section
variable {p dp : Nat}
theorem pZC (dir:Int):Tr prog 71 #[V p,I dir] [En p dp none] fun v M=>v= I 5/\M=[En p dp none]:=fun H hs=>by
 apply aZs.ok;unfold aZs;refine(dZZ (p:=p) (dp:=dp) none).use hs [0] rfl rfl ?_;rintro _ _ H ⟨rfl,rfl⟩ hs;simp only[HV];refine Zz (show stG none≠2 by decide) (Zz (show stG none≠4 by decide) ?_);exact⟨_,⟨by first|rfl|trivial,rfl⟩,hs⟩
theorem rZX :Tr prog 62 #[V p] [En p dp none] fun v M=>v= .tuple #[.bool false,I 5]/\M=[En p dp none]:=fun H hs=>by
 apply aZB.ok;unfold aZB;refine(dZZ (p:=p) (dp:=dp) none).use hs [0] rfl rfl ?_;rintro _ _ H ⟨rfl,rfl⟩ hs;simp only[HV];refine Zz (show stG none≠3 by decide) ?_;exact⟨_,⟨by first|rfl|trivial,rfl⟩,hs⟩
theorem mZp :Tr prog 73 #[V p] [En p dp none] fun v M=>v= .tuple #[.slice none 0 0,I 11]/\M=[En p dp none]:=fun H hs=>by
 apply bZw.ok;unfold bZw;refine(dZZ (p:=p) (dp:=dp) none).use hs [0] rfl rfl ?_;rintro _ _ H ⟨rfl,rfl⟩ hs;simp only[HV];refine Zm (show stG none<2 by decide) ?_;exact⟨_,⟨by first|rfl|trivial,rfl⟩,hs⟩
theorem lZt :Tr prog 72 #[V p] [En p dp none] fun v M=>v= .tuple #[.slice none 0 0,I 12]/\M=[En p dp none]:=fun H hs=>by
 apply bZq.ok;unfold bZq;refine(dZZ (p:=p) (dp:=dp) none).use hs [0] rfl rfl ?_;rintro _ _ H ⟨rfl,rfl⟩ hs;simp only[HV];refine Zz (show stG none≠4 by decide) ?_;exact⟨_,⟨by first|rfl|trivial,rfl⟩,hs⟩
theorem rZN {A:OA}{n mm:Nat}:Tr prog 70 #[V p,.slice A n mm] [En p dp none] fun v M=>v= .tuple #[I 0,I 5]/\M=[En p dp none]:=fun H hs=>by
 have hs:Sep [pts p (aZx dp none)] H:=hs;apply Zh.ok;unfold Zh Zh.q3 Zh.q2 Zh.q1;refine hs.nw fun b1 H hs=>?_
 refine hs.nw fun b2 H hs=>?_
 refine hs.ld 1 (v:=V p) rfl rfl ?_;simp only[HV]
 try simp only[HS]
 refine hs.ld 0 (v:=.pointer none) rfl rfl ?_;simp only[HV];exact aZE rfl ⟨_,⟨by first|rfl|trivial,rfl⟩,hs.re [0] rfl⟩
end
end Eng
namespace Eng
open Go Go.Hw Go.Form W Shp Dsk Str Are Trn Ker Fft Pas Pln
theorem rZd {k per words:Nat}(hk:k<=32)(hp:per<=512)(hw:words<=16777216)(d:Bool):
  Tr prog 105 #[I (k:Int),I (if d=true then 1 else 0),I (per:Int),I (words:Int)] [] fun v M=>∃ b,v= .slice (Io b) (aZW d k per words).length (aZW d k per words).length/\M=[pts b (.row (bZx (aZW d k per words)) 221 ((aZW d k per words).length*8))]:=fun H hs=>by
 have h2:=cZA hk;have h0:=Int.natCast_nonneg (2^k);apply ZT.ok;unfold ZT;have j6:jZS k per words=false->ZT.j6 (fun v H'=>∃ M,(∃ b,v= .slice (Io b) (aZW d k per words).length (aZW d k per words).length/\M=[pts b (.row (bZx (aZW d k per words)) 221 ((aZW d k per words).length*8))])/\Sep M H') (k:Int) (if d=true then 1 else 0) ((eZ3 d k).toNat:Int) H:=fun hb=>by
  have hpl:aZW d k per words=hZB d k:=by unfold aZW;rw[if_neg (by rw[hb];decide)]
  unfold ZT.j6;rw[show Int.tdiv (k:Int) 2=((k/2:Nat):Int)from rfl,bZc (n:=k/2),show(k:Int)-((k/2:Nat):Int)=((k-k/2:Nat):Int) by omega,bZc (n:=k-k/2)];refine⟨by decide,by simp,?_⟩;refine Za.use (hZ1 (k/2) (by omega) H) ?_;simp only[HV];refine⟨by decide,by simp,?_⟩;refine Za.use (hZ1 (k-k/2) (by omega) H) ?_;simp only[HV];refine hs.nw fun b2 H hs=>?_
  refine hs.stw 0 rfl rfl rfl rfl fun H hs=>?_
  try simp only[HS]
  refine hs.ld 0 (v:=I ((2^(k-k/2):Nat):Int)) rfl rfl ?_;simp only[HV];refine hs.ld 0 (v:=I ((2^(k/2):Nat):Int)) rfl rfl ?_;simp only[HV];refine hs.nw fun b3 H hs=>?_
  refine hs.stw 1 rfl rfl rfl rfl fun H hs=>?_;refine hs.ldw 0 rfl rfl ?_;simp only[HV];refine hs.ldw 1 rfl rfl ?_;simp only[HV];refine hs.ldw 1 rfl rfl ?_;simp only[HV];refine hs.ldw 0 rfl rfl ?_;simp only[HV];refine hs.ldw 0 rfl rfl ?_;simp only[HV];refine hs.nw fun b4 H hs=>?_
  rw[hpl];exact⟨_,⟨b4,rfl,rfl⟩,hs.re [2] rfl⟩
 have j4:ZT.j4 (fun v H'=>∃ M,(∃ b,v= .slice (Io b) (aZW d k per words).length (aZW d k per words).length/\M=[pts b (.row (bZx (aZW d k per words)) 221 ((aZW d k per words).length*8))])/\Sep M H') (k:Int) (if d=true then 1 else 0) (per:Int) (words:Int) ((eZ3 d k).toNat:Int) H:=by
  unfold ZT.j4;by_cases h20:(k:Int)<=20
  ·refine Zm h20 ?_;refine Za.use (hZ1 k (by omega) H) ?_;simp only[HV];rw[ZM (x:=(2:Int)*((2^k:Nat):Int)),ZM (x:=(2:Int)*((2^k:Nat):Int)+(per:Int))];by_cases hle:(2:Int)*((2^k:Nat):Int)+(per:Int)<=(words:Int)
   ·refine Zm hle ?_;refine Za.use (hZ1 k (by omega) H) ?_;simp only[HV];refine hs.nw fun b4 H hs=>?_
    have hpl:aZW d k per words=[jZT d k]:=if_pos (show jZS k per words=true from decide_eq_true ⟨by omega,by omega⟩);rw[hpl];exact⟨_,⟨b4,rfl,rfl⟩,hs.re [0] rfl⟩
   ·refine Zg hle (j6 (decide_eq_false (by omega)))
  ·exact Zg h20 (j6 (decide_eq_false (by omega)))
 cases d with
 |false=>exact Zu (by decide) j4
 |true=>
  refine Zt rfl ?_;refine Za.use (nZB k hk H) ?_;simp only[HV];have e:((Fft.pw half k).val:Int)=((eZ3 true k).toNat:Int):=by show _=((uw (Fft.pw half k)).toNat:Int);rw[mZg]
  rw[e];exact j4
end Eng
namespace Trn
open Go Go.Hw Go.Crc Go.Form W Shp Str Dsk Are
end Trn
namespace Eng
open Go Go.Hw Go.Form W Shp Dsk Str Are Trn Pas Pln
abbrev O3 :=Nat×Nat×Nat
def smO (B:Nat)(o:O3):Prop:=o.1<=B/\o.2.1<=B/\o.2.2<=B
def uZU (most k words:Nat)(ps:List Pz)(cs:List O3):Prop:=cs.length=ps.length/\∀(i:Nat) (pz:Pz) (o:O3),ps[i]? =some pz->cs[i]? =some o->∃ r w,jZ2 4 words (exX most 4 pz.f k).f (exX most 4 pz.o k).f pz r w/\o=(r+Lay.ZX k 4,w,1)/\smO 1000000000 o
theorem uZU.small {most k words:Nat}{ps:List Pz}{cs:List O3}(h:uZU most k words ps cs):∀ o∈cs,smO 1000000000 o:=fun o ho=>by
 obtain⟨i,hi,rfl⟩:=List.getElem_of_mem ho;have hp:i<ps.length:=by rw[← h.1];exact hi
 obtain⟨_,_,_,_,hs⟩:=h.2 i _ _ (List.getElem?_eq_getElem hp) (List.getElem?_eq_getElem hi);exact hs
theorem iZ9 {e:TypeId}{s:Nat}{A:OA}{n m:Nat}{xs:List Value}{H:Hp}(h:Own e s A n m xs H):Cells H A xs:=by
 obtain⟨h1,⟨rfl,rfl,rfl⟩|⟨b,mm,rfl,h4,_⟩⟩:=h
 ·rw[Nat.zero_mul]at h1;rw[List.length_eq_zero_iff.1 h1];exact Cells.nil _ _
 ·have:=Cells.row h4 0 xs.length
  rwa [List.drop_zero,List.take_length]at this
section
variable {most k words : Nat} (hm : most <= 32) (hk : k <= most) (hk6 : k <= 6) (hw : words <= 1000) {H0 : Hp} (hT : T64 H0)
include hm hk hk6 hw hT
end
end Eng
namespace Eng
open Go Go.Hw Go.Form W Shp Dsk Str Are Trn Ker Fft Pas Pln
theorem uZp (d:Bool)(k:Nat)(l:List UInt64):cZu (zw 1) (cZP d k l)=cZP d k l:=by
 have e1:zw 1=1:=by decide
 apply List.ext_getElem?;intro i;by_cases hi:i<2^k
 ·rw[lZe _ (hZU d k l hi),hZU d k l hi,kZp,e1];congr 2;grind
 ·rw[List.getElem?_eq_none (by rw[gZL,eZY];omega),List.getElem?_eq_none (by rw[eZY];omega)]
theorem nZF (k:Nat)(l:List UInt64):tfL false k l=cZP false k l:=uZp false k l
theorem uZI (k:Nat)(l:List UInt64):tfL true k l=cZu (Fft.pw half k) (cZP true k l):=by
 show cZu (zw (uw (Fft.pw half k))) _=_
 rw[kZp]
theorem oZx {R:As}{A:OA}{n m k:Nat}{l:List UInt64}(hR:∀ H,R H->Cells H A (Zb l))(hl:l.length=n)(hn:n=2^k)(hk:k<=20)(d:Bool):
  Tr prog 63 #[.slice A n m,I (k:Int),I (if d=true then 1 else 0)] [R] fun v M=>∃ A2 m2,v= .slice A2 n m2/\M=[Own 108 1 A2 n m2 (Zb (tfL d k l)),R]:=fun H hs=>by
 have h20:=aZP hk;apply cZo.ok;unfold cZo;refine(vZ4 hR hl hn hk d).use hs [0] rfl rfl ?_;rintro _ _ H ⟨A2,m2,rfl,rfl⟩ hs;simp only[HV];cases d with
 |false=>
  refine Zu (by decide) ?_;rw[nZF];exact⟨_,⟨A2,m2,rfl,rfl⟩,hs.re [0,1] rfl⟩
 |true=>
  refine Zt rfl ?_;refine Za.use (nZB k (by omega) H) ?_;simp only[HV];refine(sZV (R:=Own 108 1 A2 n m2 (Zb (cZP true k l))) (l:=cZP true k l) (Fft.pw half k).val (by have:=(Fft.pw half k).isLt;omega) (fun H h=>?_) (by rw[eZY,hn]) (by omega)).use hs [0] rfl rfl ?_
  ·exact iZ9 h
  rintro _ _ H ⟨A3,m3,rfl,rfl⟩ hs;simp only[HV];rw[fZ3,←uZI]at hs;exact⟨_,⟨A3,m3,rfl,rfl⟩,hs.re [0,2] rfl⟩
end Eng
namespace W
open Go Go.Hw
theorem bZG :prog.follows .mixedOrders=true:=by kernel_rfl
def ZY.l9 (K:VK):Nat->OA->Nat->Nat->Addr->Addr->Int->Int->Hp->Prop
 |0,_,_,_,_,_,_,_,_=>False
 |k+1,A2,n2,m2,a1,a2,x4,x5,H=>
  let R9:=ZY.l9 K k
  BIf (decide (x5<(n2:Int))) (ixI x5 n2 (NN A2 fun a3=>LeW H (a3.add (x5.toNat*1)) fun x6=>BIf (decide (x6>=18446744069414584321)) (LdA H a1 12 fun l4=>StA H a2 l4.toArray 12 fun H7=>LdA H7 a2 12 fun l9=>K (.tuple #[.agg l9.toArray,I x5,I 3]) H7) (R9 A2 n2 m2 a1 a2 x4 (i64.wrap (x5+1)) H))) (LeI H (a1.add 10) fun x7=>St H ((a1.add 10).add 0) (I (i64.wrap (x7+1))) fun H8=>LeI H8 (a1.add 10) fun x8=>StA H8 (a1.add 0) #[I 2,I x8,I x4,I 0,I 0,I 0] 6 fun H9=>Nw H9 (.row [] 108 0) fun b3 H10=>cZ8 prog 108 (.slice (Io b3) 0 0) (.slice A2 n2 m2) H10 fun v7 H11=>DSl v7 fun A3 n3 m3=>St H11 ((a1.add 11).add 0) (.slice A3 n3 m3) fun H12=>LdA H12 a1 12 fun l5=>StA H12 a2 l5.toArray 12 fun H13=>LdA H13 a2 12 fun l10=>K (.tuple #[.agg l10.toArray,I 0,I 0]) H13)
def ZY (y1:Array Value)(A1:OA)(n1 m1:Nat)(H:Hp)(K:VK):Prop:=
 Nw H (Is y1 33) fun b1 H1=>Nw H1 (Is #[I 0,I 0,I 0,I 0,I 0,I 0,I 0,I 0,I 0,I 0,I 0,.slice none 0 0] 33) fun b2 H2=>LeI H2 (((O b1).add 0).add 0) fun x1=>BIf (x1==0) (LdA H2 (O b1) 12 fun l1=>StA H2 (O b2) l1.toArray 12 fun H3=>LdA H3 (O b2) 12 fun l6=>K (.tuple #[.agg l6.toArray,I 0,I 5]) H3) (HcI 86 #[I (n1:Int)] H2 fun x2 H4=>BIf (decide (x2<0)) (LdA H4 (O b1) 12 fun l2=>StA H4 (O b2) l2.toArray 12 fun H5=>LdA H5 (O b2) 12 fun l7=>K (.tuple #[.agg l7.toArray,I 0,I 4]) H5) (LeI H4 ((O b1).add 6) fun x3=>BIf (decide (x2>x3)) (LdA H4 (O b1) 12 fun l3=>StA H4 (O b2) l3.toArray 12 fun H6=>LdA H6 (O b2) 12 fun l8=>K (.tuple #[.agg l8.toArray,I 0,I 14]) H6) ((∃ k,ZY.l9 K k A1 n1 m1 (O b1) (O b2) x2 0 H4))))
def ZY.l9.L (K:VK)(k:Nat):Mid:=fun E D H=>
 DG (E.get? 1) fun w1=>DSl w1 fun A2 n2 m2=>eN E 2 fun a1=>eN E 4 fun a2=>eI E 7 .i64 fun x4=>eI E 8 .i64 fun x5=>Zj D (ZY.l9 K k A2 n2 m2 a1 a2 x4 x5 H)
def ZY.Λ9 (_:VK)(_R9:OA->Nat->Nat->Addr->Addr->Int->Int->Hp->Prop):Zs:=Zs.none (fun _=>none)
def ZY.Λ (K:VK):Zs:=⟨fun i=>none,fun i=>match Nat.beq i 9 with|true=>some (fun E D H=>∃ k,ZY.l9.L K k E D H)|false=>none,(fun _=>none)⟩
theorem ZY.ok y1 A1 n1 m1 H K (h:ZY y1 A1 n1 m1 H K):Za prog 54 #[.agg y1,.slice A1 n1 m1] H K:=
 okL (Λ:=(ZY.Λ K)) bZG Tryz.func54 rfl rfl h (oC (fun E D H h=>by
   refine Safe.loop' (ZY.l9.L K) (fun E D H h=>?_) (fun k E D H h=>?_) E D H h
   ·obtain⟨w1,e1,g1⟩:=DG.out h;obtain⟨A2,n2,m2,rfl,g2⟩:=DSl.out g1;obtain⟨w2,e2,g3⟩:=DG.out g2;obtain⟨pw2,rfl,g4⟩:=DP.out g3;obtain⟨a1,rfl,g5⟩:=NN.out g4;obtain⟨w4,e4,g6⟩:=DG.out g5;obtain⟨pw4,rfl,g7⟩:=DP.out g6;obtain⟨a2,rfl,g8⟩:=NN.out g7;obtain⟨w7,e7,g9⟩:=DG.out g8;obtain⟨x4,rfl,g10⟩:=DI.out g9;obtain⟨w8,e8,g11⟩:=DG.out g10;obtain⟨x5,rfl,g12⟩:=DI.out g11;obtain⟨rfl,h'⟩:=Zj.out g12;exact h'
   ·obtain⟨w1,e1,g1⟩:=DG.out h;obtain⟨A2,n2,m2,rfl,g2⟩:=DSl.out g1;obtain⟨a1,e2,g5⟩:=GN g2;obtain⟨a2,e4,g8⟩:=GN g5;obtain⟨x4,e7,g10⟩:=GI g8;obtain⟨x5,e8,g12⟩:=GI g10;obtain⟨rfl,h'⟩:=Zj.out g12;exact okJ (Λ:=(ZY.Λ9 K (ZY.l9 K k))) bZG [] (Zc.cons e1 (Zc.cons e2 (Zc.cons e4 (Zc.cons e7 (Zc.cons e8 (Zc.nil _)))))) h' oN) oN)
def ZU.j5 (K:VK)(x5:Int)(a3 a4:Addr)(H:Hp):=
 LeI H ((a3.add 0).add 2) fun x6=>LdA H a3 12 fun l3=>QcI 106 #[.agg l3.toArray] H fun x7=>LeI H (a3.add 7) fun x8=>HcS 105 #[I x6,I x5,I x7,I x8] H fun A1 n1 m1 H5=>LeI H5 ((a3.add 0).add 1) fun x9=>LeI H5 ((a3.add 0).add 2) fun x10=>StA H5 (a3.add 0) #[I 3,I x9,I x10,I x5,I 0,I (n1:Int)] 6 fun H6=>LdA H6 a3 12 fun l4=>StA H6 a4 l4.toArray 12 fun H7=>LdA H7 a4 12 fun l7=>K (.tuple #[.agg l7.toArray,I 0]) H7
def ZU.j3 (K:VK)(x4:Int)(a1 a2:Addr)(H:Hp):=
 BIf (x4 !=0) (BIf (x4 !=1) (LdA H a1 12 fun l2=>StA H a2 l2.toArray 12 fun H4=>LdA H4 a2 12 fun l6=>K (.tuple #[.agg l6.toArray,I 18]) H4) (ZU.j5 K x4 a1 a2 H)) (ZU.j5 K x4 a1 a2 H)
def ZU (y1:Array Value)(x1:Int)(H:Hp)(K:VK):Prop:=
 Nw H (Is y1 33) fun b1 H1=>Nw H1 (Is #[I 0,I 0,I 0,I 0,I 0,I 0,I 0,I 0,I 0,I 0,I 0,.slice none 0 0] 33) fun b2 H2=>LeI H2 (((O b1).add 0).add 0) fun x2=>BIf (x2 !=2) (LeI H2 (((O b1).add 0).add 0) fun x3=>BIf (x3 !=4) (LdA H2 (O b1) 12 fun l1=>StA H2 (O b2) l1.toArray 12 fun H3=>LdA H3 (O b2) 12 fun l5=>K (.tuple #[.agg l5.toArray,I 5]) H3) (ZU.j3 K x1 (O b1) (O b2) H2)) (ZU.j3 K x1 (O b1) (O b2) H2)
def ZU.Λ (K:VK):Zs:=⟨fun i=>match Nat.beq i 5 with|true=>some (fun E D H=>eI E 1 .i64 fun x5=>eN E 2 fun a3=>eN E 4 fun a4=>Zj D (ZU.j5 K x5 a3 a4 H))|false=>match Nat.beq i 3 with|true=>some (fun E D H=>eI E 1 .i64 fun x4=>eN E 2 fun a1=>eN E 4 fun a2=>Zj D (ZU.j3 K x4 a1 a2 H))|false=>none,fun i=>none,(fun i=>match Nat.beq i 5 with|true=>some ([],[0,1,2,3,4,5,6,7],8)|false=>none)⟩
theorem ZU.ok y1 x1 H K (h:ZU y1 x1 H K):Za prog 55 #[.agg y1,I x1] H K:=
 okL (Λ:=(ZU.Λ K)) bZG Tryz.func55 rfl rfl h (oC (fun E D H h=>by
   obtain⟨x4,e1,g2⟩:=GI h;obtain⟨a1,e2,g5⟩:=GN g2;obtain⟨a2,e4,g8⟩:=GN g5;obtain⟨rfl,h'⟩:=Zj.out g8;exact okJ (Λ:=(ZU.Λ K)) bZG [] (Zc.cons e1 (Zc.cons e2 (Zc.cons e4 (Zc.nil _)))) h' (oC (fun E D H h=>by
     obtain⟨x5,e1,g2⟩:=GI h;obtain⟨a3,e2,g5⟩:=GN g2;obtain⟨a4,e4,g8⟩:=GN g5;obtain⟨rfl,h'⟩:=Zj.out g8;exact okJ (Λ:=(ZU.Λ K)) bZG [] (Zc.cons e1 (Zc.cons e2 (Zc.cons e4 (Zc.nil _)))) h' oN) oN)) oN)
def cZU (y1:Array Value)(H:Hp)(K:VK):Prop:=
 Nw H (Is y1 33) fun b1 H1=>LeS H1 ((O b1).add 11) fun A1 n1 m1=>LeI H1 (((O b1).add 0).add 2) fun x1=>LeI H1 (((O b1).add 0).add 3) fun x2=>HcS 63 #[.slice A1 n1 m1,I x1,I x2] H1 fun A2 n2 m2 H2=>K (.slice A2 n2 m2) H2
theorem cZU.ok y1 H K (h:cZU y1 H K):Za prog 56 #[.agg y1] H K:=
 okN bZG Tryz.func56 rfl rfl h
def aZ1.q1 (H2:Hp)(b1 b2:Nat)(K:VK):Prop:=
 LdA H2 (O b1) 12 fun l1=>StA H2 (O b2) l1.toArray 12 fun H3=>LdA H3 (O b2) 12 fun l8=>K (.tuple #[.agg l8.toArray,I 1]) H3
def aZ1 (y1:Array Value)(x1 x2:Int)(H:Hp)(K:VK):Prop:=
 Nw H (Is y1 33) fun b1 H1=>Nw H1 (Is #[I 0,I 0,I 0,I 0,I 0,I 0,I 0,I 0,I 0,I 0,I 0,.slice none 0 0] 33) fun b2 H2=>BIf (decide (x2<1)) (aZ1.q1 H2 b1 b2 K) (BIf (decide (x2>16777216)) (aZ1.q1 H2 b1 b2 K) (BIf (decide (x1<0)) (aZ1.q1 H2 b1 b2 K) (BIf (decide (x1>32)) (aZ1.q1 H2 b1 b2 K) (LeI H2 ((O b1).add 8) fun x3=>LeI H2 ((O b1).add 9) fun x4=>QcI 107 #[I x1,I x4] H2 fun x5=>BIf (decide (x3<x5)) (LdA H2 (O b1) 12 fun l5=>StA H2 (O b2) l5.toArray 12 fun H7=>LdA H7 (O b2) 12 fun l12=>K (.tuple #[.agg l12.toArray,I 7]) H7) (LdA H2 (O b1) 12 fun l6=>HcI 106 #[.agg l6.toArray] H2 fun x6 H8=>HcI 108 #[I x1,I x6] H8 fun x7 H9=>BIf (decide (x2<x7)) (LdA H9 (O b1) 12 fun l7=>StA H9 (O b2) l7.toArray 12 fun H10=>LdA H10 (O b2) 12 fun l13=>K (.tuple #[.agg l13.toArray,I 6]) H10) (LeI H9 ((O b1).add 8) fun x8=>LeI H9 ((O b1).add 9) fun x9=>StA H9 (O b2) #[I 1,I 0,I 0,I 0,I 0,I 0,I x1,I x2,I x8,I x9,I 0,.slice none 0 0] 12 fun H11=>LdA H11 (O b2) 12 fun l14=>K (.tuple #[.agg l14.toArray,I 0]) H11))))))
theorem aZ1.ok y1 x1 x2 H K (h:aZ1 y1 x1 x2 H K):Za prog 75 #[.agg y1,I x1,I x2] H K:=
 okN bZG Tryz.func75 rfl rfl h
def dZv (y1:Array Value)(H:Hp)(K:VK):Prop:=
 Nw H (Is y1 33) fun b1 H1=>Nw H1 (Is #[I 0,I 0,I 0,I 0,I 0,I 0,I 0,I 0,I 0,I 0,I 0,.slice none 0 0] 33) fun b2 H2=>LeI H2 (((O b1).add 0).add 0) fun x1=>BIf (x1 !=3) (LdA H2 (O b1) 12 fun l1=>StA H2 (O b2) l1.toArray 12 fun H3=>LdA H3 (O b2) 12 fun l4=>K (.tuple #[.agg l4.toArray,I 5]) H3) (LeI H2 (((O b1).add 0).add 4) fun x2=>St H2 ((((O b1).add 0).add 4).add 0) (I (i64.wrap (x2+1))) fun H4=>LeI H4 (((O b1).add 0).add 4) fun x3=>LeI H4 (((O b1).add 0).add 5) fun x4=>BIf (x3==x4) (St H4 ((((O b1).add 0).add 0).add 0) (I 4) fun H5=>LdA H5 (O b1) 12 fun l2=>StA H5 (O b2) l2.toArray 12 fun H6=>LdA H6 (O b2) 12 fun l5=>K (.tuple #[.agg l5.toArray,I 0]) H6) (LdA H4 (O b1) 12 fun l3=>StA H4 (O b2) l3.toArray 12 fun H7=>LdA H7 (O b2) 12 fun l6=>K (.tuple #[.agg l6.toArray,I 0]) H7))
theorem dZv.ok y1 H K (h:dZv y1 H K):Za prog 76 #[.agg y1] H K:=
 okN bZG Tryz.func76 rfl rfl h
def dZE (y1:Array Value)(H:Hp)(K:VK):Prop:=
 Nw H (Is y1 33) fun b1 H1=>LeI H1 ((O b1).add 9) fun x1=>((8:Int)≠0/\i64=i64/\K (I (i64.wrap (Int.tdiv x1 8))) H1)
theorem dZE.ok y1 H K (h:dZE y1 H K):Za prog 106 #[.agg y1] H K:=
 okN bZG Tryz.func106 rfl rfl h
end W
namespace Eng
open Go Go.Hw Go.Form W Shp Dsk Str Are Trn Pas Pln
def mch (s:Int×Int×Int×Int×Int×Int)(mo ar sc sz ld:Int)(A:OA)(n m:Nat):Array Value:=#[I s.1,I s.2.1,I s.2.2.1,I s.2.2.2.1,I s.2.2.2.2.1,I s.2.2.2.2.2,I mo,I ar,I sc,I sz,I ld,.slice A n m]
abbrev cZ4 (s:Int×Int×Int×Int×Int×Int)(mo ar sc sz ld:Int)(A:OA)(n m:Nat):AO:=Is (mch s mo ar sc sz ld A n m) 33
def okL (l:List UInt64)(most k:Nat):Prop:=lg (l.length:Int)=some k/\k<=most/\eZT l
section
variable {R0 : As} {A : Option Addr} {n m : Nat} {l : List UInt64} (hn : n = l.length) (hl : n <= 1000000) (hR : ∀ H, R0 H -> Cells H A (Zb l))
include hn hl hR
end
theorem rZb {k:Nat}{s0 s1 s4 s5 mo ar sc sz ld:Int}{A:OA}{n m:Nat}{l:List UInt64}{R0:As}(hR:∀ H,R0 H->Cells H A (Zb l))(hl:l.length=n)(hn:n=2^k)(hk:k<=20)(b:Bool):
  Tr prog 56 #[.agg (mch (s0,s1,k,if b=true then 1 else 0,s4,s5) mo ar sc sz ld A n m)] [R0] fun v M=>∃ A2 m2,v= .slice A2 n m2/\M=[Own 108 1 A2 n m2 (Zb (tfL b k l)),R0]:=fun H hs=>by
 apply cZU.ok;unfold cZU;refine hs.nw fun b1 H hs=>?_
 have hs:Sep [R0,pts b1 (cZ4 (s0,s1,k,if b=true then 1 else 0,s4,s5) mo ar sc sz ld A n m)] H:=hs
 try simp only[HS]
 refine hs.ld 1 (v:=.slice A n m) rfl rfl ?_;simp only[HV];refine hs.ld 1 (v:=I (k:Int)) rfl rfl ?_;simp only[HV];refine hs.ld 1 (v:=I (if b=true then 1 else 0)) rfl rfl ?_;simp only[HV];refine(oZx (R:=R0) hR hl hn hk b).use hs [0] rfl rfl ?_;rintro _ _ H ⟨A2,m2,rfl,rfl⟩ hs;simp only[HV];exact⟨_,⟨A2,m2,rfl,rfl⟩,hs.re [0,1] rfl⟩
abbrev S6 :=Int×Int×Int×Int×Int×Int
def z6 :S6:=(0,0,0,0,0,0)
abbrev dZU :AO:=cZ4 z6 0 0 0 0 0 .none 0 0
theorem qZj {s:S6}{mo ar sc ld:Int}{A:OA}{n m:Nat}(H:Hp):Za prog 106 #[.agg (mch s mo ar sc 32 ld A n m)] H (RetE (I ((32/8:Nat):Int)) H):=Za.ret (by
 apply dZE.ok;unfold dZE;refine(Sep.start H).nw fun b3 H3 hs=>?_
 have hs:Sep [own H,pts b3 (cZ4 s mo ar sc 32 ld A n m)] H3:=hs
 try simp only[HS]
 refine hs.ld 1 (v:=I 32) rfl rfl ?_;simp only[HV]
 first|exact⟨by decide,by simp,hs.fin 0 rfl _⟩|exact hs.fin 0 rfl _)
section
variable {s : S6} {mo ar sc ld : Int} {A : Option Addr} {n m : Nat}
theorem gZ5 {L:List As}{H:Hp}{b1 b2 i j:Nat}{sz:Int}{y:Array Value}{Q:List Value->Hp->Prop}(hs:Sep L H)(hi:L[i]? =some (pts b1 (cZ4 s mo ar sc sz ld A n m)))(hj:L[j]? =some (pts b2 (Is y 33)))(hy:y.size=12)
  (k:∀ H,Sep (L.set j (pts b2 (cZ4 s mo ar sc sz ld A n m))) H->Q (mch s mo ar sc sz ld A n m).toList H):
  LdA H (O b1) 12 fun l1=>StA H (O b2) l1.toArray 12 fun H3=>LdA H3 (O b2) 12 fun l6=>Q l6 H3:=by
 refine hs.ldw i hi rfl ?_;refine hs.stw j (y:=mch s mo ar sc sz ld A n m) hj hy rfl rfl fun H hs=>?_;refine hs.ldw j (List.getElem?_set_self ?_) rfl ?_
 ·exact(List.getElem?_eq_some_iff.1 hj).1
 ·exact k H hs
theorem lZ4 {sec:Nat}(hsec:sec<=1000000)(k w:Int):
  Tr prog 75 #[.agg (mch s mo ar sec 32 ld A n m),I k,I w] [] fun v M=>v= .tuple #[.agg (if aZ3 sec (32/8) k w=0 then mch (1,0,0,0,0,0) k w sec 32 0 .none 0 0 else mch s mo ar sec 32 ld A n m),I (aZ3 sec (32/8) k w)]/\M=[]:=fun H hs=>by
 apply aZ1.ok;unfold aZ1 aZ1.q1;refine hs.nw fun b1 H hs=>?_
 refine hs.nw fun b2 H hs=>?_
 have hs:Sep [pts b1 (cZ4 s mo ar sec 32 ld A n m),pts b2 dZU] H:=hs;have bad:∀(e:Int) (H:Hp),aZ3 sec (32/8) k w=e->e≠0->Sep [pts b1 (cZ4 s mo ar sec 32 ld A n m),pts b2 dZU] H->
   LdA H (O b1) 12 fun l1=>StA H (O b2) l1.toArray 12 fun H3=>LdA H3 (O b2) 12 fun l8=>∃ M,((Value.tuple #[.agg l8.toArray,I e])= .tuple #[.agg (if aZ3 sec (32/8) k w=0 then mch (1,0,0,0,0,0) k w sec 32 0 .none 0 0 else mch s mo ar sec 32 ld A n m),I (aZ3 sec (32/8) k w)]/\M=[])/\Sep M H3:=fun e H he h0 hs=>by
  refine gZ5 hs (i:=0) (j:=1) rfl rfl rfl fun H hs=>?_;exact⟨_,⟨by rw[he,if_neg h0],rfl⟩,hs.re [] rfl⟩
 by_cases h1:w<1
 ·exact Zm h1 (bad 1 H (by unfold aZ3;rw[if_pos (.inl h1)]) (by decide) hs)
 refine Zg h1 ?_;by_cases h2:w>16777216
 ·exact Zm h2 (bad 1 H (by unfold aZ3;rw[if_pos (.inr (.inl h2))]) (by decide) hs)
 refine Zg h2 ?_;by_cases h3:k<0
 ·exact Zm h3 (bad 1 H (by unfold aZ3;rw[if_pos (.inr (.inr (.inl h3)))]) (by decide) hs)
 refine Zg h3 ?_;by_cases h4:k>32
 ·exact Zm h4 (bad 1 H (by unfold aZ3;rw[if_pos (.inr (.inr (.inr h4)))]) (by decide) hs)
 refine Zg h4 ?_;obtain⟨k,rfl⟩:=Int.eq_ofNat_of_zero_le (show 0<=k by omega);have hk:k<=32:=by omega
 have e0:∀{a b:Int},(if w<1∨w>16777216∨(k:Int)<0∨(k:Int)>32 then a else b)=b:=fun{a b}=>if_neg (by omega)
 have hfit:aZ3 sec (32/8) (k:Int) w=if(sec:Int)<Lay.bZT k (32/8)then 7 else if w<bZM k (32/8)then 6 else 0:=by unfold aZ3;rw[e0,Int.toNat_natCast]
 try simp only[HS]
 refine hs.ld 0 (v:=I (sec:Int)) rfl rfl ?_;simp only[HV];refine hs.ld 0 (v:=I 32) rfl rfl ?_;simp only[HV];refine ZS.use (Sup.rZQ k hk 32 (by decide) H) ?_;simp only[HV];have hpe:Lay.aZg 32=32/8:=by decide
 rw[hpe];by_cases h5:(sec:Int)<Lay.bZT k (32/8)
 ·exact Zm h5 (bad 7 H (by rw[hfit,if_pos h5]) (by decide) hs)
 refine Zg h5 ?_;refine hs.ldw 0 rfl rfl ?_
 try simp only[Array.toArray_toList]
 refine Za.use (qZj (s:=s) (mo:=mo) (ar:=ar) (sc:=sec) (ld:=ld) (A:=A) (n:=n) (m:=m) H) ?_;simp only[HV];refine Za.use (sZQ k (32/8) hk (by omega) H) ?_;simp only[HV];by_cases h6:w<bZM k (32/8)
 ·exact Zm h6 (bad 6 H (by rw[hfit,if_neg h5,if_pos h6]) (by decide) hs)
 refine Zg h6 ?_;refine hs.ld 0 (v:=I (sec:Int)) rfl rfl ?_;simp only[HV];refine hs.ld 0 (v:=I 32) rfl rfl ?_;simp only[HV];refine hs.stw 1 (y:=mch (1,0,0,0,0,0) k w sec 32 0 .none 0 0) rfl rfl rfl rfl fun H hs=>?_;refine hs.ldw 1 rfl rfl ?_;have hz:aZ3 sec (32/8) (k:Int) w=0:=by rw[hfit,if_neg h5,if_neg h6]
 exact⟨_,⟨by rw[hz,if_pos rfl],rfl⟩,hs.re [] rfl⟩
def uZC (s0 s1 s2 s3 s4 s5 mo:Int)(ar:Nat)(sc ld:Int)(A:OA)(n m k:Nat)(dir:Int)(v:Value)(M:List As):Prop:=M=[]/\
 ((s0≠2/\s0≠4/\v= .tuple #[.agg (mch (s0,s1,s2,s3,s4,s5) mo ar sc 32 ld A n m),I 5])∨
 ((s0=2∨s0=4)/\¬(dir=0∨dir=1)/\v= .tuple #[.agg (mch (s0,s1,s2,s3,s4,s5) mo ar sc 32 ld A n m),I 18])∨
 ((s0=2∨s0=4)/\∃ b:Bool,dir=(if b=true then 1 else 0)/\v= .tuple #[.agg (mch (3,s1,k,if b=true then 1 else 0,0,(aZW b k (32/8) ar).length) mo ar sc 32 ld A n m),I 0]))
theorem jZd {k:Nat}{s0 s1 s2 s3 s4 s5:Int}(hk:k<=32)(h2k:s0=2∨s0=4->s2=(k:Int)){ar:Nat}(har:ar<=16777216)(dir:Int):
  Tr prog 55 #[.agg (mch (s0,s1,s2,s3,s4,s5) mo ar sc 32 ld A n m),I dir] [] (uZC s0 s1 s2 s3 s4 s5 mo ar sc ld A n m k dir):=fun H hs=>by
 apply ZU.ok;unfold ZU;refine hs.nw fun b1 H hs=>?_
 refine hs.nw fun b2 H hs=>?_
 have hs:Sep [pts b1 (cZ4 (s0,s1,s2,s3,s4,s5) mo ar sc 32 ld A n m),pts b2 dZU] H:=hs
 try simp only[HS]
 refine hs.ld 0 (v:=I s0) rfl rfl ?_;simp only[HV];have j3:(s0=2∨s0=4)->ZU.j3 (fun v H'=>∃ M,uZC s0 s1 s2 s3 s4 s5 mo ar sc ld A n m k dir v M/\Sep M H') dir (O b1) (O b2) H:=fun h24=>by
  have j5:∀ b:Bool,dir=(if b=true then 1 else 0)->ZU.j5 (fun v H'=>∃ M,uZC s0 s1 s2 s3 s4 s5 mo ar sc ld A n m k dir v M/\Sep M H') dir (O b1) (O b2) H:=fun b hb=>by
   subst hb;obtain rfl:=h2k h24;unfold ZU.j5
   try simp only[HS]
   refine hs.ld 0 (v:=I (k:Int)) rfl rfl ?_;simp only[HV];refine hs.ldw 0 rfl rfl ?_
   try simp only[Array.toArray_toList]
   refine ZS.use (qZj (s:=(s0,s1,k,s3,s4,s5)) (mo:=mo) (ar:=ar) (sc:=sc) (ld:=ld) (A:=A) (n:=n) (m:=m) H) ?_;simp only[HV];refine hs.ld 0 (v:=I (ar:Int)) rfl rfl ?_;simp only[HV];refine(rZd (k:=k) (per:=32/8) (words:=ar) hk (by omega) har b).use hs [] rfl rfl ?_;rintro _ _ H ⟨bp,rfl,rfl⟩ hs;simp only[HV];refine hs.ld 1 (v:=I s1) rfl rfl ?_;simp only[HV];refine hs.ld 1 (v:=I (k:Int)) rfl rfl ?_;simp only[HV];refine hs.sta 1 (off:=0) (n:=6) rfl (by show 0+6<=12;omega) rfl rfl fun H hs=>?_;refine hs.ldw 1 rfl rfl ?_;refine hs.stw 2 (y:=mch (3,s1,k,if b=true then 1 else 0,0,(aZW b k (32/8) ar).length) mo ar sc 32 ld A n m) rfl rfl rfl rfl fun H hs=>?_;refine hs.ldw 2 rfl rfl ?_;exact⟨_,⟨rfl,.inr (.inr ⟨h24,b,rfl,rfl⟩)⟩,hs.re [] rfl⟩
  unfold ZU.j3;by_cases d0:dir=0
  ·exact Zr d0 (j5 false d0)
  refine Zz d0 ?_;by_cases d1:dir=1
  ·exact Zr d1 (j5 true d1)
  refine Zz d1 ?_;refine gZ5 hs (i:=0) (j:=1) rfl rfl rfl fun H hs=>?_;exact⟨_,⟨rfl,.inr (.inl ⟨h24,fun h=>h.elim d0 d1,rfl⟩)⟩,hs.re [] rfl⟩
 by_cases h2:s0=2
 ·exact Zr h2 (j3 (.inl h2))
 refine Zz h2 ?_;refine hs.ld 0 (v:=I s0) rfl rfl ?_;simp only[HV];by_cases h4:s0=4
 ·exact Zr h4 (j3 (.inr h4))
 refine Zz h4 ?_;refine gZ5 hs (i:=0) (j:=1) rfl rfl rfl fun H hs=>?_;exact⟨_,⟨rfl,.inl ⟨h2,h4,rfl⟩⟩,hs.re [] rfl⟩
def xZV (s0 s1 s2 s3 s4 s5 mo ar sc sz ld:Int)(A:OA)(n m:Nat)(v:Value)(M:List As):Prop:=M=[]/\
 ((s0≠3/\v= .tuple #[.agg (mch (s0,s1,s2,s3,s4,s5) mo ar sc sz ld A n m),I 5])∨
 (s0=3/\v= .tuple #[.agg (mch (if s4+1=s5 then 4 else 3,s1,s2,s3,s4+1,s5) mo ar sc sz ld A n m),I 0]))
theorem kZ8 {s0 s1 s2 s3 s4 s5 sz:Int}(h4: -1000<=s4/\s4<=1000):
  Tr prog 76 #[.agg (mch (s0,s1,s2,s3,s4,s5) mo ar sc sz ld A n m)] [] (xZV s0 s1 s2 s3 s4 s5 mo ar sc sz ld A n m):=fun H hs=>by
 apply dZv.ok;unfold dZv;refine hs.nw fun b1 H hs=>?_
 refine hs.nw fun b2 H hs=>?_
 have hs:Sep [pts b1 (cZ4 (s0,s1,s2,s3,s4,s5) mo ar sc sz ld A n m),pts b2 dZU] H:=hs
 try simp only[HS]
 refine hs.ld 0 (v:=I s0) rfl rfl ?_;simp only[HV];by_cases h3:s0=3
 ·refine Zr h3 ?_;subst h3;refine hs.ld 0 (v:=I s4) rfl rfl ?_;simp only[HV];rw[ZM (x:=s4+1)];refine hs.st 0 rfl (by show 4<12;omega) rfl fun H hs=>?_;have hs:Sep [pts b1 (cZ4 (3,s1,s2,s3,s4+1,s5) mo ar sc sz ld A n m),pts b2 dZU] H:=hs;refine hs.ld 0 (v:=I (s4+1)) rfl rfl ?_;simp only[HV];refine hs.ld 0 (v:=I s5) rfl rfl ?_;simp only[HV];by_cases he:s4+1=s5
  ·refine Zt he ?_;refine hs.st 0 rfl (by show 0<12;omega) rfl fun H hs=>?_;have hs:Sep [pts b1 (cZ4 (4,s1,s2,s3,s4+1,s5) mo ar sc sz ld A n m),pts b2 dZU] H:=hs;refine gZ5 hs (i:=0) (j:=1) rfl rfl rfl fun H hs=>?_;exact⟨_,⟨rfl,.inr ⟨rfl,by rw[if_pos he]⟩⟩,hs.re [] rfl⟩
  ·refine Zu he ?_;refine gZ5 hs (i:=0) (j:=1) rfl rfl rfl fun H hs=>?_;exact⟨_,⟨rfl,.inr ⟨rfl,by rw[if_neg he]⟩⟩,hs.re [] rfl⟩
 ·refine Zz h3 ?_;refine gZ5 hs (i:=0) (j:=1) rfl rfl rfl fun H hs=>?_;exact⟨_,⟨rfl,.inl ⟨h3,rfl⟩⟩,hs.re [] rfl⟩
end
def gZE (l:List UInt64)(most:Int):Int:=match lg (l.length:Int)with
 |none=>4
 |some k=>if most<(k:Int)then 14 else if eZT l then 0 else 3
theorem fZx.err {l:List UInt64}{most k i e:Int}(h:fZx l most k i e):e=gZE l most:=by
 have go:∀ k:Nat,lg (l.length:Int)=some k->gZE l most=if most<(k:Int)then 14 else if eZT l then 0 else 3:=fun k hk=>by unfold gZE;rw[hk]
 cases h with
 |len h=>unfold gZE;rw[h]
 |big h h2=>rw[go _ h,if_pos h2]
 |word h h2 h3=>rw[go _ h,if_neg (by omega),if_neg h3]
 |ok h h2 h3=>rw[go _ h,if_neg (by omega),if_pos h3]
section
variable {R0 : As} {A : Option Addr} {n m : Nat} {l : List UInt64} (hn : n = l.length) (hl : n <= 1000000) (hR : ∀ H, R0 H -> Cells H A (Zb l))
include hn hl hR
def ldX (R0:As)(l:List UInt64)(s:S6)(most:Nat)(ar sc sz ld:Int)(A0:OA)(n0 m0:Nat)(v:Value)(M:List As):Prop:=
 (∃ i:Int,gZE l most≠0/\v= .tuple #[.agg (mch s most ar sc sz ld A0 n0 m0),I i,I (gZE l most)]/\M=[R0])∨
 (∃ k A' m',okL l most k/\v= .tuple #[.agg (mch (2,ld+1,k,0,0,0) most ar sc sz (ld+1) A' l.length m'),I 0,I 0]/\M=[Own 108 1 A' l.length m' (Zb l),R0])
theorem nZA {b1 b2 most k:Nat}{s:S6}{ar sc sz ld:Int}{A0:OA}{n0 m0:Nat}(hk:lg (n:Int)=some k)(hkm:k<=most)(hld:0<=ld/\ld<=1000000):
  ∀(t i:Nat) (H:Hp),i+t=n->(∀ j (hj:j<l.length),j<i->(l[j]).toNat<18446744069414584321)->Sep [R0,pts b1 (cZ4 s most ar sc sz ld A0 n0 m0),pts b2 dZU] H->
   ZY.l9 (fun v H'=>∃ M,ldX R0 l s most ar sc sz ld A0 n0 m0 v M/\Sep M H') (t+1) A n m (O b1) (O b2) (k:Int) (i:Int) H
 |0,i,H,hi,hc,hs=>by
  unfold ZY.l9;refine Zg (by omega) ?_
  try simp only[HS]
  refine hs.ld 1 (v:=I ld) rfl rfl ?_;simp only[HV];rw[ZM (x:=ld+1)];refine hs.st 1 rfl (by show 10<12;omega) rfl fun H hs=>?_;refine hs.ld 1 (v:=I (ld+1)) rfl rfl ?_;simp only[HV];refine hs.sta 1 (off:=0) (n:=6) rfl (by show 0+6<=12;omega) rfl rfl fun H hs=>?_;refine hs.nw fun b3 H hs=>?_
  have hs:Sep [R0,pts b1 (cZ4 (2,ld+1,k,0,0,0) most ar sc sz (ld+1) A0 n0 m0),pts b2 dZU,pts b3 (.row [] 108 0)] H:=hs;have hs:=vZZ hs 3 (n:=0) (s:=1) rfl rfl rfl;have hcell:Cells H A (Zb l):=by
   obtain⟨H1,h1,hle⟩:=hs.see 0 rfl;exact(hR H1 h1).le hle
  refine Sep.app hs 3 (k:=n) (ys:=Zb l) rfl Ker.bZS rfl (by omega) (by omega) rfl (iZP hcell (by rw[Zq];exact hn)) (by rw[Zq];omega) (by simp[Zb,Value.oneCell']) (by omega) (by omega) fun A' m' H hs=>?_
  rw[Nat.zero_add]at hs⊢;rw[List.nil_append]at hs;simp only[HV];refine hs.st 1 rfl (by show 11<12;omega) rfl fun H hs=>?_;refine hs.ldw 1 rfl rfl ?_;refine hs.stw 2 (y:=mch (2,ld+1,k,0,0,0) most ar sc sz (ld+1) A' n m') rfl rfl rfl rfl fun H hs=>?_;refine hs.ldw 2 rfl rfl ?_;refine⟨_,.inr ⟨k,A',m',⟨by rw[← hn];exact hk,hkm,fun x hx=>?_⟩,?_,rfl⟩,?_⟩
  ·obtain⟨j,hj,rfl⟩:=List.getElem_of_mem hx;exact hc j hj (by omega)
  ·rw[← hn]
  ·rw[← hn];exact hs.re [3,0] rfl
 |t+1,i,H,hi,hc,hs=>by
  have hil:i<l.length:=by omega
  unfold ZY.l9;refine Zm (by omega) ?_;have hcell:Cells H A (Zb l):=by
   obtain⟨H1,h1,hle⟩:=hs.see 0 rfl;exact(hR H1 h1).le hle
  have hg:(Zb l)[i]? =some (U ((l[i]'hil).toNat:Int)):=by rw[aZ5,List.getElem?_eq_getElem hil];rfl
  refine hcell.read hg rfl (by rw[Zq];omega) ?_;simp only[HV];by_cases hx:(l[i]'hil).toNat<18446744069414584321
  ·refine Zg (by omega) ?_;rw[ZM (x:=(i:Int)+1)];refine nZA hk hkm hld t (i+1) H (by omega) (fun j hj hji=>?_) hs;by_cases e:j=i
   ·subst e;exact hx
   ·exact hc j hj (by omega)
  ·refine Zm (by omega) ?_;have he:gZE l most=3:=by
    unfold gZE;rw[← hn,hk];show(if(most:Int)<(k:Int)then(14:Int)else if eZT l then 0 else 3)=3
    rw[if_neg (by omega),if_neg fun h=>hx (h _ (List.getElem_mem hil))]
   refine gZ5 hs (i:=1) (j:=2) rfl rfl rfl fun H hs=>?_;exact⟨_,.inl ⟨_,by rw[he];decide,by rw[he],rfl⟩,hs.re [0] rfl⟩
theorem qZi {most:Nat}{s:S6}{ar sc sz ld:Int}{A0:OA}{n0 m0:Nat}(hst:s.1≠0)(hld:0<=ld/\ld<=1000000):
  Tr prog 54 #[.agg (mch s most ar sc sz ld A0 n0 m0),.slice A n m] [R0] (ldX R0 l s most ar sc sz ld A0 n0 m0):=fun H hs=>by
 apply ZY.ok;unfold ZY;refine hs.nw fun b1 H hs=>?_
 refine hs.nw fun b2 H hs=>?_
 have hs:Sep [R0,pts b1 (cZ4 s most ar sc sz ld A0 n0 m0),pts b2 dZU] H:=hs
 try simp only[HS]
 refine hs.ld 1 (v:=I s.1) rfl rfl ?_;simp only[HV];refine Zu hst ?_;refine Za.use (uZk (n:Int) H) ?_;simp only[HV];have bad:∀(e:Int) (H:Hp),e≠0->gZE l most=e->Sep [R0,pts b1 (cZ4 s most ar sc sz ld A0 n0 m0),pts b2 dZU] H->
   LdA H (O b1) 12 fun l2=>StA H (O b2) l2.toArray 12 fun H5=>LdA H5 (O b2) 12 fun l7=>∃ M,ldX R0 l s most ar sc sz ld A0 n0 m0 (.tuple #[.agg l7.toArray,I 0,I e]) M/\Sep M H5:=fun e H he hno hs=>by
  refine gZ5 hs (i:=1) (j:=2) rfl rfl rfl fun H hs=>?_;exact⟨_,.inl ⟨0,by rw[hno];exact he,by rw[hno],rfl⟩,hs.re [0] rfl⟩
 cases hlg:lg (n:Int)with
 |none=>
  refine Zm (by unfold hZ3;rw[hlg];decide) ?_;exact bad 4 H (by decide) (by unfold gZE;rw[← hn,hlg]) hs
 |some k=>
  have hfit:hZ3 (n:Int)=(k:Int):=by unfold hZ3;rw[hlg]
  rw[hfit];refine Zg (by omega) ?_;refine hs.ld 1 (v:=I (most:Int)) rfl rfl ?_;simp only[HV];by_cases hkm:k<=most
  ·refine Zg (by omega) ⟨n+1,?_⟩;exact nZA hn hl hR hlg hkm hld n 0 H (by omega) (fun j hj h=>by omega) hs
  ·refine Zm (by omega) ?_;exact bad 14 H (by decide) (by unfold gZE;rw[← hn,hlg];show(if(most:Int)<(k:Int)then(14:Int)else _)=14;rw[if_pos (by omega)]) hs
end
theorem vZ5 {s:S6}{mo ar sc sz ld:Int}{A0 A:OA}{n0 m0 n m:Nat}(hst:s.1=0):
  Tr prog 54 #[.agg (mch s mo ar sc sz ld A0 n0 m0),.slice A n m] [] fun v M=>v= .tuple #[.agg (mch s mo ar sc sz ld A0 n0 m0),I 0,I 5]/\M=[]:=fun H hs=>by
 apply ZY.ok;unfold ZY;refine hs.nw fun b1 H hs=>?_
 refine hs.nw fun b2 H hs=>?_
 have hs:Sep [pts b1 (cZ4 s mo ar sc sz ld A0 n0 m0),pts b2 dZU] H:=hs
 try simp only[HS]
 refine hs.ld 0 (v:=I s.1) rfl rfl ?_;simp only[HV];refine Zt hst ?_;refine gZ5 hs (i:=0) (j:=1) rfl rfl rfl fun H hs=>?_;exact⟨_,⟨rfl,rfl⟩,hs.re [] rfl⟩
end Eng
namespace Eng
open Go Go.Hw Go.Form W Shp Dsk Str Are Trn Pas Pln Rec Srt Rng
structure Liv (N:Nat)(d:D)(c:Cn)(m:Mn):Prop where
 cl:Clean d c
 hh:Holds d.sec d.size m c
 most:m.most<=6
 len:m.L.length<=N
 ld:m.r.ld<=N
 rd:d.rd<=2000*N
 wr:d.wr<=2000*N
 sy:d.sy<=2000*N
theorem Liv.went {N:Nat}{d d':D}{c c':Cn}{m m':Mn}(h:Liv N d c m){r w s:Nat}(hw:bZL d d' r w s)(hr:r<=2000/\w<=2000/\s<=2000)(hc:Clean d' c')(hh:Holds d.sec d.size m' c')(hm:m'.most=m.most)(hl:m'.L.length<=N+2)(hld:m'.r.ld<=N+2):Liv (N+2) d' c' m':=by
 have h1:=hw.rd;have h2:=hw.wr;have h3:=hw.sy;have h4:=h.rd;have h5:=h.wr;have h6:=h.sy;have h7:=h.most;exact⟨hc,by rw[hw.sec,hw.size];exact hh,by omega,hl,hld,by omega,by omega,by omega⟩
theorem Liv.small {N:Nat}{d:D}{c:Cn}{m:Mn}(h:Liv N d c m)(hN:N<=400):Small 100000 m/\(d.rd<=800000/\d.wr<=800000/\d.sy<=800000):=by
 have h2:=h.len;have h3:=h.ld;have h4:=h.rd;have h5:=h.wr;have h6:=h.sy;exact⟨⟨by omega,by omega⟩,by omega,by omega,by omega⟩
theorem Liv.per {N:Nat}{d:D}{c:Cn}{m:Mn}(h:Liv N d c m):0<Lay.aZg (d.size:Int):=(bZ4 h.hh.good).2.1
theorem Liv.kk {N:Nat}{d:D}{c:Cn}{m:Mn}(h:Liv N d c m):m.r.kk.toNat<=6:=by
 have:=(Mn.r_wf h.hh).2.2;have:=h.most;omega
def hZW (m:Mn)(k:Nat)(l:List UInt64)(b:Bool):Mn:=(aZK m k l).add (bZB (aZK m k l) b)
structure Job (m:Mn)(k:Nat)(b:Bool)(l:List UInt64)(j:Nat):Prop where
 inp:m.inp=l
 kk:m.r.kk=k
 dir:m.r.dir=if b=true then 1 else 0
 kd:3<=m.r.kd
 ps:m.r.ps=j
theorem Job.plan {m:Mn}{k:Nat}{b:Bool}{l:List UInt64}{j:Nat}(h:Job m k b l j)(per:Nat):aZv m per m.r=aZW b k per m.arena:=by
 unfold aZv dZi;rw[h.dir,h.kk,Int.toNat_natCast];cases b<;>rfl
theorem Job.st {m:Mn}{k:Nat}{b:Bool}{l:List UInt64}{j:Nat}(h:Job m k b l j)(per:Nat):stM m per=if j<(aZW b k per m.arena).length then 3 else 4:=by
 have:=h.kd;unfold stM;rw[if_neg (by omega),if_neg (by omega),h.plan,h.ps];by_cases e:j<(aZW b k per m.arena).length
 ·rw[if_pos e,if_pos (by omega)]
 ·rw[if_neg e,if_neg (by omega)]
theorem Job.next {m:Mn}{k:Nat}{b:Bool}{l:List UInt64}{j:Nat}(h:Job m k b l j)(per:Nat):Job (m.add (aZV m per)) k b l (j+1):=by
 have e:(m.add (aZV m per)).r=aZV m per:=Mn.add_r _ _;refine⟨h.inp,?_,?_,?_,?_⟩
 ·rw[e];exact h.kk
 ·rw[e];exact h.dir
 ·rw[e];show(3:Int)<=4;omega
 ·rw[e];show m.r.ps+1=_;rw[h.ps];omega
theorem tZ4 (m:Mn)(k:Nat)(l:List UInt64)(b:Bool):Job (hZW m k l b) k b l 0:=by
 have h2r:(aZK m k l).r=cZ2 (aZG m k) k l:=Mn.add_r _ _;have e:(hZW m k l b).r=bZB (aZK m k l) b:=Mn.add_r _ _;refine⟨rfl,?_,?_,?_,?_⟩
 ·rw[e];show(aZK m k l).r.kk=_;rw[h2r];rfl
 ·rw[e];rfl
 ·rw[e];show(3:Int)<=3;omega
 ·rw[e];rfl
theorem Liv.step {N:Nat}{d d':D}{c c':Cn}{m:Mn}(h:Liv N d c m){r w:Nat}(hs:jZ8 m (d.size/8) r w):r<=2000/\w<=2000:=by
 have hp:=h.hh.per;have hk:=h.kk;have hm:=h.most;have hkm:=(Mn.r_wf h.hh).2.2;have h1:=hs.le (by omega) (by omega) (Nat.le_trans (hZA (by omega)) h.hh.least);have:=mZR hk;omega
theorem Liv.stepped {N:Nat}{d d':D}{c c':Cn}{m:Mn}(h:Liv N d c m){r w:Nat}(hs:jZ8 m (d.size/8) r w)(hw:bZL d d' r w 2)(hc:Clean d' c')(hh:Holds d.sec d.size (m.add (aZV m (d.size/8))) c'):Liv (N+2) d' c' (m.add (aZV m (d.size/8))):=by
 have:=Liv.step (d':=d') (c':=c') h hs;have h1:=h.len;have h2:=h.ld;refine h.went hw (by omega) hc hh rfl ?_ ?_
 ·show(m.L++[_]).length<=_;simp;omega
 ·rw[Mn.add_r];show m.r.ld<=_;omega
def w4 :List UInt64:=[1,2,3,4]
end Eng
end Go.Proofs.YtlgnlghmbcpmhaaGreatDoor
