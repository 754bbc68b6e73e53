import Derived.Test.YtlgnlghmbcpmhaaGreatDoorProg
import Derived.Test.YtlgnlghmbcpmhaaGreatDoorPkEngineCrashes9
set_option maxRecDepth 100000
set_option linter.unusedSimpArgs false
set_option linter.unusedVariables false
set_option linter.unnecessarySimpa false
set_option linter.unusedSectionVars false
open Go.IntKind (i64 u32)
namespace Go.Proofs.YtlgnlghmbcpmhaaGreatDoor
open Tryz (prog)
namespace Eng
open Go Go.Hw Go.Form W Shp Dsk Str Are Trn Pas Pln Rec Srt Rng
theorem KQ (b:Bool)(K:Value->Prop)(k:K (.bool b)):DR prog [4] (.bool b) K:=by
 show DT prog 4 (.bool b) K
 unfold DT;rw[show prog.underlying 4=some .bool by kernel_rfl];exact k
theorem ll (x:Int)(K:Value->Prop)(k:K (I x)):DR prog [63] (I x) K:=by
 show DT prog 63 (I x) K
 unfold DT;rw[show prog.underlying 63=some (.int .i64) by kernel_rfl];exact k
theorem Ce {p:Prop}[Decidable p]{X Y:Prop}(h1:p->Y)(h2:¬p->X):ao (!decide p) X Y:=by
 by_cases h:p
 .rw[decide_eq_true h];exact bQ rfl (h1 h)
 .rw[decide_eq_false h];exact cV rfl (h2 h)
def lN (l:List UInt64):Prop:=∀ x∈l,x.toNat<18446744069414584321
instance (l :List UInt64):Decidable (lN l):=by unfold lN;infer_instance
theorem xk (H:Hp)(A:OA)(n m:Nat)(xs:List UInt64)(hn:n=xs.length)(hl:n<=1000000000)(hc:Cells H A (ah xs)):
  ∀(t j:Nat),j+t=n->(∀ k x,k<j->xs[k]? =some x->x.toNat<18446744069414584321)->
   aW.l2 (fun v H'=>(∃ i:Int,v= I i/\(i<0↔lN xs))/\H'=H) (t+1) A n m 210 #[] #[] (n:Int) (j:Int) H
 |0,j,hj,hall=>by
  unfold aW.l2;refine aw (by omega) ⟨⟨-1,rfl,fun _ x hx=>?_,fun _=>by decide⟩,rfl⟩;obtain⟨k,hk,rfl⟩:=List.getElem_of_mem hx;exact hall k _ (by omega) (List.getElem?_eq_getElem hk)
 |t+1,j,hj,hall=>by
  unfold aW.l2;refine aC (by omega) ?_;have hg:xs[j]? =some (xs[j]'(by omega)):=List.getElem?_eq_getElem (by omega);have hg2:(ah xs)[j]? =some (U ((xs[j]'(by omega)).toNat:Int)):=by rw[dO,hg];rfl
  refine hc.read hg2 rfl (by rw[aG];omega) ?_;simp only[HV];refine cV (by kernel_rfl) ?_;have hv:ae prog 210 #[U ((xs[j]'(by omega)).toNat:Int)] H (RetE (.bool (!(decide (((xs[j]'(by omega)).toNat:Int)<18446744069414584321)))) H):=by
   apply lH.ok;unfold lH;have hg:ae prog 211 #[U ((xs[j]'(by omega)).toNat:Int)] H (RetE (.bool (decide (((xs[j]'(by omega)).toNat:Int)<18446744069414584321))) H):=by
    apply pv.ok;unfold pv;exact RetE.mk _ _
   refine ae.use hg ?_;simp only[HV];exact RetE.mk _ _
  refine ae.use hv ?_;have hr:fj prog 210=[4]:=by kernel_rfl
  rw[hr];refine KQ _ _ ?_;simp only[HV];generalize hz:((xs[j]'(by omega)).toNat:Int)=z at*;refine Ce (fun hx=>?_) (fun hx=>?_)
  .rw[bu (x:=(j:Int)+1)];refine xk H A n m xs hn hl hc t (j+1) (by omega) fun k x hk hkx=>?_
   by_cases e:k=j
   .subst e;rw[hg]at hkx;have:=Option.some.inj hkx;rw[this]at hz;omega
   .exact hall k x (by omega) hkx
  .refine⟨⟨j,rfl,fun h=>by omega,fun h=>?_⟩,by trivial⟩;have:=h _ (List.getElem_mem (show j<xs.length by omega));omega
theorem FV (A:OA)(n m:Nat)(xs:List UInt64)(hn:n=xs.length)(hl:n<=1000000000)(H:Hp)(hc:Cells H A (ah xs)):
  ae prog 146 #[.slice A n m] H fun v H'=>(∃ i:Int,v= .tuple #[I i,.bool (decide (lN xs))])/\H'=H:=by
 apply nh.ok;unfold nh;have hI:ae prog 209 #[.slice A n m,.func (.func 210) #[] #[]] H (fun v H'=>(∃ i:Int,v= I i/\(i<0↔lN xs))/\H'=H):=by
  apply aW.ok;unfold aW;exact⟨n+1,xk H A n m xs hn hl hc n 0 (by omega) fun k x hk=>absurd hk (by omega)⟩
 refine ae.mono hI ?_;rintro _ _ ⟨⟨i,rfl,hi⟩,rfl⟩;simp only[HV];by_cases h:i<0
 .rw[decide_eq_true h,decide_eq_true (hi.1 h)];exact⟨⟨_,rfl⟩,by trivial⟩
 .rw[decide_eq_false h,decide_eq_false (fun hh=>h (hi.2 hh))];exact⟨⟨_,rfl⟩,by trivial⟩
inductive ng (l:List UInt64)(aA:Int):Int→Int→Int→Prop
 |len (h:lg (l.length:Int)=none):ng l aA 0 0 4
 |lk {k:Nat} (h:lg (l.length:Int)=some k) (h2:aA<k):ng l aA 0 0 14
 |word {k:Nat} {i:Int} (h:lg (l.length:Int)=some k) (h2:(k:Int)≤aA) (h3:¬lN l):ng l aA 0 i 3
 |ok {k:Nat} (h:lg (l.length:Int)=some k) (h2:(k:Int)≤aA) (h3:lN l):ng l aA k 0 0
theorem Gh (A:OA)(n m:Nat)(xs:List UInt64)(aA:Int)(hn:n=xs.length)(hl:n<=1000000000)(H:Hp)(hT:T64 H)(hc:Cells H A (ah xs)):
  ae prog 131 #[.slice A n m,I aA] H fun v H'=>(∃ k i e,ng xs aA k i e/\v= .tuple #[I k,I i,I e])/\H'=H:=by
 apply om.ok;unfold om;refine ae.use (sx (n:Int) H hT) ?_;unfold dM;rw[hn];cases e:lg (xs.length:Int)with
 |none=>
  simp only[HV];exact⟨⟨_,_,_,.len e,rfl⟩,by trivial⟩
 |some k=>
  simp only[HV];by_cases h2:(k:Int)>aA
  .exact aC h2 ⟨⟨_,_,_,.lk e h2,rfl⟩,by trivial⟩
  .refine aw h2 ?_;refine ae.mono (FV A xs.length m xs rfl (by omega) H hc) ?_;rintro _ _ ⟨⟨i,rfl⟩,rfl⟩;simp only[HV];refine Ce (fun hx=>?_) (fun hx=>?_)
   .exact⟨⟨_,_,_,.ok e (by omega) hx,rfl⟩,by trivial⟩
   .exact⟨⟨_,_,_,.word e (by omega) hx,rfl⟩,by trivial⟩
def CO (aa k:Nat):Nat:=jC aa 9 (2^k) 0 (2^k)
def AC (aa k:Nat):Nat:=(dP aa 9 (2^k) 0 (2^k)).length
theorem yF (aa k:Nat):CO aa k<=AC aa k:=List.length_filter_le _ _
theorem yG (aa k:Nat):AC aa k<=2^k:=jg aa 9 (2^k) 0 (2^k)
def CS (mp dp ap rp:Nat)(e:Eg)(A:OA)(n mm:Nat)(d:D)(c:Cn)(k:Nat)(l:List UInt64)(R:As)(v:Value)(M:List As):Prop:=
 ∃ peak':Int,peak'<=e.aO/\
 ((∃ d' c',fA d d' (CO (D.aa d) k+nS (D.aa d) (2^k)) (AC (D.aa d) k) 1/\Clean d' c'/\qO (jd (eY e.aA (D.aa d) 0 k)) c c'/\kF c' (D.aa d) 9 (2^k)=l/\v= .tuple #[Ot (lT l:Int),I 0]/\M=[af mp (cu e ap rp A n mm),Ar ap e.aO peak' [],Dk dp d',R])\/
 (∃ d' s,gp d d' (CO (D.aa d) k+AC (D.aa d) k+1+nS (D.aa d) (2^k))/\Left d' (fun c'=>qO (jd (eY e.aA (D.aa d) 0 k)) c c')/\v= .tuple #[Ot s,I 8]/\M=[af mp (cu e ap rp A n mm),Ar ap e.aO peak' [],Dk dp d',R]))
theorem JP {mp dp ap rp:Nat}{e:Eg}{A:OA}{n mm:Nat}{d:D}{c:Cn}{k:Nat}{l:List UInt64}{R:As}{As:OA}{ns ms:Nat}(hc:Clean d c)(he:oc e d)(hk:k<=e.aA)(ho:d.rd<=100000000000/\d.wr<=100000000000/\d.sy<=100000000000)
  (hl:l.length=2^k) (hns:ns=l.length) (hms:ns<=ms) (hR:∀ H,R H->Cells H As (ah l)):
  Tr prog 134 #[V mp,V dp,I (k:Int),.slice As ns ms] [af mp (cu e ap rp A n mm),Ar ap e.aO e.aj [],Dk dp d,R] (CS mp dp ap rp e A n mm d c k l R):=fun H hs=>by
 subst hns;have hok:=hc.ok;have hpd:=Ok.eB hok;have hlay:=he.lay;have hm32:=he.aA;have h2k:=gV (k:=k);have h2p:=Nat.two_pow_pos k;have hpk:=he.aj;have hcap:=he.aO;have hper:=he.aa;have hcapd:D.aa d<=e.aO:=by
  have:=he.least;unfold fB at this;rw[hper]at this;omega
 have hx0:On d (eY e.aA (D.aa d) 0 k):=hlay.on hok (by omega) hk;obtain⟨x,hX⟩:∃ x,x=eY e.aA (D.aa d) 0 k:=⟨_,rfl⟩;have hx:On d x:=by rw[hX];exact hx0
 have hxw:x.w=l.length:=by rw[hX,hl];rfl
 have hxf:x.f=9:=by rw[hX];show 9+0*_=9;omega
 have MG:jC (D.aa d) x.f l.length 0 l.length=CO (D.aa d) k:=by rw[hxf,hl];rfl
 have hwW:(dP (D.aa d) x.f l.length 0 l.length).length=AC (D.aa d) k:=by rw[hxf,hl];rfl
 have hb1:=yF (D.aa d) k;have hb2:=yG (D.aa d) k;have hin:=BW hx;apply ba.ok;unfold ba;have j2:∀ q H,Sep [Dk dp d,af q (bh dp ap x),af mp (cu e ap rp A n mm),Ar ap e.aO e.aj [],R] H->ba.j2 (fun v H'=>∃ M,CS mp dp ap rp e A n mm d c k l R v M/\Sep M H') (Oo dp) As l.length ms 0 (Oo q) H:=fun q H hs=>by
  unfold ba.j2;refine aL rfl ?_;have bad:∀(peak':Int) (d':D) (s:Int) (H:Hp),peak'<=e.aO->gp d d' (CO (D.aa d) k+AC (D.aa d) k+1+nS (D.aa d) (2^k))->Left d' (fun c'=>qO (jd x) c c')->Sep [af mp (cu e ap rp A n mm),Ar ap e.aO peak' [],Dk dp d',R] H->∃ M,CS mp dp ap rp e A n mm d c k l R (.tuple #[Ot s,I 8]) M/\Sep M H:=fun peak' d' s H h1 h2 h3 hs=>
   ⟨_,⟨peak',h1,.inr ⟨d',s,h2,by rw[<- hX];exact h3,rfl,rfl⟩⟩,hs⟩
  refine(ub (p:=q) (dp:=dp) (ap:=ap) (d:=d) (x:=x) (cap:=e.aO) (aj:=e.aj) (bufs:=[]) (src:=l) hok hc.down hx (by omega) 0 rfl (by omega) (by omega) hms (by rw[gf];omega) hR).use hs [1,0,3,4] rfl rfl ?_;have hpk1:mx e.aj (bf []+(D.aa d:Int))<=e.aO:=tx hpk (by rw[gf];omega);rintro _ _ H (⟨hP,rfl,rfl⟩|⟨d',hD,hfu,rfl,rfl⟩) hs
  .simp only[HV];unfold ba.j4;refine aL rfl ?_;have h2:=hP.sy;have hrd:=hP.rd;have hwr:=hP.wr;rw[MG,hwW]at hP;refine(qI (p:=dp) hP.ok (by rw[h2];omega)).use hs [1] rfl rfl ?_;rintro _ _ H ⟨rfl,rfl⟩ hs;have hpw:=LW x hok l;generalize hd1:kO d x l.length 0 l=d1 at*;have hpe1:D.aa d1=D.aa d:=hP.aa;have hsam:qO (jd x) c d1.now:=fun i hi=>(hc.prog hP i).2 hi
   have hcw:kF d1.now (D.aa d) 9 (2^k)=l:=by rw[<- hxf,<-hpe1,<-hl,<-pc (d:=d1) (c:=d1.now) (fun _=>rfl) x l.length];exact hpw
   rcases hc.sync hP hin with⟨e0,hw2,hc2⟩|⟨e0,hcut,hleft⟩
   .rw[e0];simp only[HV];unfold ba.j6;refine aH rfl ?_;have hs:Sep [Dk dp d1.fK,af q (bh dp ap x),Ar ap e.aO (mx e.aj (bf []+(D.aa d:Int))) [],R,af mp (cu e ap rp A n mm)] H:=hs;have hpe2:D.aa d1.fK=D.aa d:=hw2.aa;have hrd2:=hw2.rd;have hx2:On d1.fK x:=⟨hx.w1,hx.s1,by rw[hw2.sec];exact hx.fit,by rw[hpe2];exact hx.room⟩;refine(yQ (p:=q) (dp:=dp) (ap:=ap) (x:=x) (cap:=e.aO) (aj:=mx e.aj (bf []+(D.aa d:Int))) (bufs:=[]) hc2.ok hc2.down hx2 (by omega) (by rw[gf,hpe2];omega)).use hs [1,0,2] rfl rfl ?_;have hw0:dV d1.fK x 0 x.w=l:=by rw[pc hc2.now,hpe2,hxf,hxw,hl];exact hcw
    have hpk2:mx (mx e.aj (bf []+(D.aa d:Int))) (bf []+(D.aa d1.fK:Int))<=e.aO:=tx hpk1 (by rw[gf,hpe2];omega);rintro _ _ H (⟨hf,rfl,rfl⟩|⟨j,hj,hf,rfl,rfl⟩) hs
    .rw[hw0];simp only[HV];rw[hpe2,hxw,hl]at hf hs;have hgo:=hw2.trans (fA.bO hf);refine⟨_,⟨_,hpk2,.inl ⟨_,_,hgo,hc2.bO _,by rw[<- hX];exact hsam,hcw,rfl,rfl⟩⟩,?_⟩;rw[hpe2];exact hs.re [4,2,1,3] rfl
    .simp only[HV];rw[hpe2,hxw,hl]at hj;refine bad _ _ _ H hpk2 ((hw2.cut (gp.bO hc2 hf hj)).more (by omega)) ((Left.bO hc2 j).mono fun c' e=>by rw[e];exact hsam) (hs.re [4,2,1,3] rfl)
   .rw[e0];simp only[HV];unfold ba.j6;refine aT (by decide) ?_;refine bad _ _ _ H hpk1 (hcut.more (by omega)) (hleft.mono fun _ h=>h.2) (hs.re [4,2,0,3] rfl)
  .simp only[HV];unfold ba.j4;refine aK (by decide) ?_;unfold ba.j6;refine aT (by decide) ?_;have hf1:1<=d.aI:=by have h1:=hD.tP;have h2:=hD.rd;have h3:=hD.wr;omega
   rw[MG,hwW]at hfu;refine bad _ _ _ H hpk1 ((hc.yX hD hin hfu hf1).more (by omega)) (hc.wB hD) (hs.re [4,2,1,3] rfl)
 have pipe:∀ H,Sep [af mp (cu e ap rp A n mm),Ar ap e.aO e.aj [],Dk dp d,R] H->ae prog 165 #[V dp,V ap,.agg (Lay.i6 e.aA (D.aa d)),I 0,I (k:Int)] H fun v H1=>∃ q,v= .tuple #[V q,I 0]/\Sep [Dk dp d,af q (bh dp ap x),af mp (cu e ap rp A n mm),Ar ap e.aO e.aj [],R] H1:=fun H hs=>by
  refine(vg (dp:=dp) (ap:=ap) (i:=0) hok hlay (by omega) hk).use hs [2] rfl rfl ?_;rintro _ _ H ⟨q,rfl,rfl⟩ hs;exact⟨q,rfl,by rw[hX];exact hs⟩
 have eb:(((sJ e ap rp A n mm).toList.drop 4).take 17).toArray=Lay.i6 e.aA (D.aa d):=by rw[<- hper];rfl
 try simp only[HS]
 constructor
 .refine hs.ld 0 (v:=V ap) rfl rfl ?_;simp only[HV];refine hs.mO 0 (off:=4) (n:=17) rfl (by show 4+17<=32;omega) ?_;rw[eb];refine ae.mono (pipe H hs) ?_;rintro _ H ⟨q,rfl,hs⟩;simp only[HV];exact j2 q H hs
 .refine hs.mO 0 (off:=4) (n:=17) rfl (by show 4+17<=32;omega) ?_;refine hs.ld 0 (v:=V ap) rfl rfl ?_;simp only[HV];rw[eb];refine ae.mono (pipe H hs) ?_;rintro _ H ⟨q,rfl,hs⟩;simp only[HV];exact j2 q H hs
theorem kf.go {g:FuncId}{args:Array Value}{H:Hp}{K:VK}(h:nF prog g=true)(k:ae prog g args H K):kf prog g args H K:=cV h k
def bG (m:Mn)(k:Nat):Mn:=m.add (fL m k)
def cH (m:Mn)(k:Nat)(l:List UInt64):Mn:={ bG m k with da:=l}.add (gX (bG m k) k l)
def tS (aa k:Nat):Nat:=16+CO aa k+nS aa (2^k)
def tT (aa k:Nat):Nat:=2+AC aa k
section
variable {p dp : Nat} {d : D} {c : Cn} {m : Mn} {aj : Int} (hc : Clean d c) (hh : Holds d.sec d.size m c) (hS : Small 100000 m) (ho : d.rd <= 800000 /\ d.wr <= 800000 /\ d.sy <= 800000) (hpk : aj <= m.aO)
def tu (p dp:Nat)(d:D)(m:Mn)(aj:Int)(l:List UInt64)(RR TT:As)(v:Value)(M:List As):Prop:=
 (∃ k i e,ng l m.aA k i e/\e≠0/\v= .tuple #[I i,I e]/\M=[En p dp (some (bE d m aj)),Dk dp d,RR,TT])\/
 (∃ k:Nat,lg (l.length:Int)=some k/\k<=m.aA/\lN l/\
  ((∃ d' c' peak',peak'<=(m.aO:Int)/\fA d d' (tS (d.size/8) k) (tT (d.size/8) k) 3/\Clean d' c'/\Holds d.sec d.size (cH m k l) c'/\v= .tuple #[I 0,I 0]/\M=[En p dp (some (bE d (cH m k l) peak')),Dk dp d',RR,TT])\/
  (∃ d',gp d d' (tS (d.size/8) k+tT (d.size/8) k+3)/\Left d' (fun c'=>Holds d.sec d.size m c'\/Holds d.sec d.size (bG m k) c'\/Holds d.sec d.size (cH m k l) c')/\v= .tuple #[I 0,I 8]/\M=[En p dp none,Dk dp d',RR,TT])))
set_option maxHeartbeats 8000000 in
include hc hh hS ho hpk in
theorem Dp {l:List UInt64}{A:OA}{n mm:Nat}{RR TT:As}(hn:n=l.length)(hnm:n<=mm)(hl20:l.length<=40000)(hR:∀ H,RR H->Cells H A (ah l))(hT:(∀ H,TT H->T64 H)\/∀ H,RR H->T64 H):
  Tr prog 70 #[V p,.slice A n mm] [En p dp (some (bE d m aj)),Dk dp d,RR,TT] (tu p dp d m aj l RR TT):=fun H hs=>by
 subst hn;have he:=hh.eg hpk;obtain⟨mp,ap,rp,A',m',hs⟩:=En.whole hs;apply ax.ok;unfold ax ax.q3 ax.q2 ax.q1;refine hs.nw fun b1 H hs=>?_
 refine hs.nw fun b2 H hs=>?_
 have kE:∀(L:List As) (H:Hp) (K:VK),Sep L H->L[6]? =some RR->L[7]? =some TT->(∀ k i e,ng l m.aA k i e->K (.tuple #[I k,I i,I e]) H)->
   ae prog 131 #[.slice A l.length mm,I (m.aA:Int)] H K:=fun L H K hs h6 h7 hk=>by
  obtain⟨H1,hr,hr'⟩:=hs.fE 6 h6;obtain⟨H2,ht,ht'⟩:=hs.fE 7 h7;refine ae.mono (Gh A l.length mm l m.aA rfl (by omega) H (hT.elim (fun f=>(f _ ht).le ht') fun f=>(f _ hr).le hr') ((hR _ hr).le hr')) ?_;rintro _ _ ⟨⟨k,i,e,h,rfl⟩,rfl⟩;exact hk k i e h
 have hk0:∀{k:Nat},lg (l.length:Int)=some k->l.length=2^k:=fun h=>by have:=(kJ h).2;omega
 have hld:=hS.ld;have hpe:(bE d m aj).aa=D.aa d:=rfl;have j4:∀ k i e b3 H,ng l m.aA k i e->Sep [af p (cR dp (some mp)),af mp (cu (bE d m aj) ap rp A' (cJ (bE d m aj)).length m'),Ar ap m.aO aj [],af rp (bU dp 1 8 ((8*(bE d m aj).aa:Nat):Int)),bH 221 8 A' (cJ (bE d m aj)).length m' (fb (cJ (bE d m aj))),Dk dp d,RR,TT,
   af b1 (Oq #[V p] 27),af b2 (Oq #[.slice A l.length mm] 31),af b3 (Oq #[I k] 3)] H->
   ax.j4 (fun v H'=>∃ M,tu p dp d m aj l RR TT v M/\Sep M H') (O b1) (O b2) i e (O b3) H:=fun k i e b3 H hv hs=>by
  unfold ax.j4 ax.j4.q4 ax.j4.q3 ax.j4.q2 ax.j4.q1;have bad:∀(h:e≠0),∃ M,tu p dp d m aj l RR TT (.tuple #[I i,I e]) M/\Sep M H:=fun h=>
   ⟨_,.inl ⟨k,i,e,hv,h,rfl,rfl⟩,En.nY (L:=[Dk dp d,RR,TT]) (hs.re [0,1,2,3,4,5,6,7] rfl)⟩
  cases hv with
  |len h=>exact aT (by decide) (bad (by decide))
  |lk h h2=>exact aT (by decide) (bad (by decide))
  |word h h2 h3=>exact aT (by decide) (bad (by decide))
  |ok hlg hkm hcan=>
  rename_i k
  clear bad;refine aH rfl ?_;have hkm:k<=m.aA:=by omega
  have hl:=hk0 hlg;have hfin:∀ v M,((∃ d' c' peak',peak'<=(m.aO:Int)/\fA d d' (tS (d.size/8) k) (tT (d.size/8) k) 3/\Clean d' c'/\Holds d.sec d.size (cH m k l) c'/\v= .tuple #[I 0,I 0]/\M=[En p dp (some (bE d (cH m k l) peak')),Dk dp d',RR,TT])\/
  (∃ d',gp d d' (tS (d.size/8) k+tT (d.size/8) k+3)/\Left d' (fun c'=>Holds d.sec d.size m c'\/Holds d.sec d.size (bG m k) c'\/Holds d.sec d.size (cH m k l) c')/\v= .tuple #[I 0,I 8]/\M=[En p dp none,Dk dp d',RR,TT]))->tu p dp d m aj l RR TT v M:=fun v M h=>.inr ⟨k,hlg,hkm,hcan,h⟩
  have j7:∀ b4 H,Sep [af p (cR dp (some mp)),af mp (cu (bE d m aj) ap rp A' (cJ (bE d m aj)).length m'),Ar ap m.aO aj [],af rp (bU dp 1 8 ((8*(bE d m aj).aa:Nat):Int)),bH 221 8 A' (cJ (bE d m aj)).length m' (fb (cJ (bE d m aj))),Dk dp d,RR,TT,
    af b1 (Oq #[V p] 27),af b2 (Oq #[.slice A l.length mm] 31),af b3 (Oq #[I (k:Int)] 3),af b4 (fw { fL m k with s:=0})] H->
    ax.j7 (fun v H'=>∃ M,tu p dp d m aj l RR TT v M/\Sep M H') (O b1) (O b2) (O b3) (O b4) H:=fun b4 H hs=>by
   unfold ax.j7;refine hs.nw fun b5 H hs=>?_
   refine hs.ld 8 (v:=V p) rfl rfl ?_;simp only[HV]
   try simp only[HS]
   refine hs.ld 0 (v:=V mp) rfl rfl ?_;simp only[HV];refine hs.nw fun b6 H hs=>?_
   try simp only[HS]
   refine hs.st 13 rfl (by show 0<1;omega) rfl fun H hs=>?_;refine hs.ld 8 (v:=V p) rfl rfl ?_;simp only[HV];refine hs.nw fun b7 H hs=>?_
   have hs:=Me.shut (mp:=mp) (dp:=dp) (e:=bE d m aj) (ap:=ap) (rp:=rp) (A:=A') (m:=m') (L:=[af p (cR dp (some mp)),Dk dp d,RR,TT,af b1 (Oq #[V p] 27),af b2 (Oq #[.slice A l.length mm] 31),af b3 (Oq #[I (k:Int)] 3),af b4 (fw { fL m k with s:=0}),af b5 _,af b6 _,af b7 _]) (hs.re [1,2,3,4,0,5,6,7,8,9,10,11,12,13,14] rfl);apply bg.ok;unfold bg;refine⟨4,?_⟩;obtain⟨g1,g2,g3,g4⟩:=LQ hh hS (by omega) hkm;have hres1:fj prog 132=[63]:=by kernel_rfl
   have hres2:fj prog 133=[63]:=by kernel_rfl
   have hres3:fj prog 135=[63]:=by kernel_rfl
   have bad:∀(X:As) (L':List As) (H:Hp) (d':D),Sep (X::Dk dp d'::af p (cR dp (some mp))::RR::TT::L') H->gp d d' (tS (d.size/8) k+tT (d.size/8) k+3)->Left d' (fun c'=>Holds d.sec d.size m c'\/Holds d.sec d.size (bG m k) c'\/Holds d.sec d.size (cH m k l) c')->
     ae prog 80 #[V p,I 8] H fun v H'=>v= I 8/\∃ M,tu p dp d m aj l RR TT (.tuple #[I 0,I 8]) M/\Sep M H':=fun X L' H d' hs h1 h2=>by
    have hs:Sep [X,Dk dp d',af p (cR dp (some mp)),RR,TT] H:=Sep.take (L:=L') hs;refine(kY (p:=p) (dp:=dp) (mp:=mp) 8).use hs [2] rfl rfl ?_;rintro _ _ H ⟨rfl,rfl⟩ hs;exact⟨rfl,_,hfin _ _ (.inr ⟨d',h1,h2,rfl,rfl⟩),hs.re [0,2,3,4] rfl⟩
   unfold bg.l2;refine aC (by decide) ⟨by decide,by decide,?_⟩;simp only[HV];refine hs.uv 11 (v:=.func (.func 132) #[] #[V b6,V b4]) rfl rfl ?_;refine kf.go (by kernel_rfl) ?_;rw[hres1];apply ik.ok;unfold ik;simp only[HV];refine hs.ld 10 (v:=V mp) rfl rfl ?_;simp only[HV];refine hs.bd 8 rfl rfl ?_
   try simp only[Array.toArray_toList]
   have hseq:=Mn.r9 hh;have hR1:tS (d.size/8) k=8+(CO (d.size/8) k+nS (d.size/8) (2^k))+8:=by unfold tS;omega
   have hW1:tT (d.size/8) k=1+AC (d.size/8) k+1:=by unfold tT;omega
   refine(rN (mp:=mp) (dp:=dp) (e:=bE d m aj) hc he (by omega) (r:=fL m k) { fL m k with s:=0} rfl hseq.symm g1 g2 (by rw[hh.jV];exact g3) (by show(k:Int)<=m.aA;omega)).use hs [0,2] rfl rfl ?_;rintro _ _ H (⟨d1,rfl,hw1,hc1,rfl⟩|⟨d',rfl,hcut,hleft,rfl⟩) hs
   rotate_left
   .simp only[HV];refine ll _ _ ?_;simp only[HV];refine aT (by decide) ?_;refine ae.mono (bad _ _ H d' hs (hcut.more (by omega)) (hleft.mono fun c' h=>?_)) ?_
    .rcases h with e|e
     .left;rw[e];exact hh
     .right;left;rw[e];exact g4
    .rintro _ H ⟨rfl,M,h,hs⟩;simp only[HV];exact⟨M,h,hs⟩
   simp only[HV];refine ll _ _ ?_;simp only[HV];refine aH rfl ?_;rw[show i64.wrap ((0:Int)+1)=1 by kernel_rfl];unfold bg.l2;refine aC (by decide) ⟨by decide,by decide,?_⟩;simp only[HV];refine hs.uv 11 (v:=.func (.func 133) #[] #[V b6,V b1,V b3,V b2,V b5]) rfl rfl ?_;refine kf.go (by kernel_rfl) ?_;rw[hres2];apply il.ok;unfold il;simp only[HV];refine hs.ld 10 (v:=V mp) rfl rfl ?_;simp only[HV];refine hs.ld 5 (v:=V p) rfl rfl ?_;simp only[HV]
   try simp only[HS]
   refine hs.ld 2 (v:=V dp) rfl rfl ?_;simp only[HV];refine hs.ld 7 (v:=I (k:Int)) rfl rfl ?_;simp only[HV];refine hs.ld 6 (v:=.slice A l.length mm) rfl rfl ?_;simp only[HV];have h1r:(bG m k).r=fL m k:=Mn.fg _ _;have hh1:Holds d1.sec d1.size (bG m k) (fp c (dF 1 8 (fL m k).s) ((fL m k).form d.size)):=by rw[hw1.sec,hw1.size];exact g4
   have ee:{ bE d m aj with r:=fL m k}=bE d1 (bG m k) aj:=by unfold bE;rw[h1r,hw1.sec,hw1.size];rfl
   rw[ee]at hs;have he1:=hh1.eg (aj:=aj) hpk;generalize hc1e:fp c (dF 1 8 (fL m k).s) ((fL m k).form d.size)=c1 at*;obtain⟨ap2,rp2,A2,m2,hs⟩:=Me.open hs;have hs:Sep [af mp (cu (bE d1 (bG m k) aj) ap2 rp2 A2 (cJ (bE d1 (bG m k) aj)).length m2),Ar ap2 m.aO aj [],af rp2 (bU dp 1 8 ((8*(bE d1 (bG m k) aj).aa:Nat):Int)),bH 221 8 A2 (cJ (bE d1 (bG m k) aj)).length m2 (fb (cJ (bE d1 (bG m k) aj))),Dk dp d1,af p (cR dp (some mp)),RR,TT,
    af b1 (Oq #[V p] 27),af b2 (Oq #[.slice A l.length mm] 31),af b3 (Oq #[I (k:Int)] 3),af b4 (fw { fL m k with s:=0}),af b5 _,af b6 _,af b7 _] H:=hs
   have hkk:=gV (k:=k) (by have:=he.aA;have:m.aA<=32:=this;omega);have hrd1:=hw1.rd;have hwr1:=hw1.wr;have hsy1:=hw1.sy;refine(JP (mp:=mp) (dp:=dp) (ap:=ap2) (rp:=rp2) (e:=bE d1 (bG m k) aj) (A:=A2) (n:=(cJ (bE d1 (bG m k) aj)).length) (mm:=m2) (d:=d1) (c:=c1) (k:=k) (l:=l) (R:=RR) hc1 he1 hkm (by omega) hl rfl hnm hR).use hs [0,1,4,6] rfl rfl ?_;have hp1:D.aa d1=d.size/8:=hw1.aa;have htgt:∀ c',qO (jd (eY m.aA (D.aa d1) 0 k)) c1 c'->Holds d1.sec d1.size (bG m k) c':=fun c' h=>
    hh1.target (t:=0) (k:=k) hkm (fun r hr h2=>by rw[bG,Mn.BL]at hr;cases hr;exact absurd h2 (show ¬(2:Int)<=1 by omega)) (fun r hr h4=>by rw[bG,Mn.BL]at hr;cases hr;exact absurd h4 (show ¬(1:Int)=4 by omega)) h
   rintro _ _ H ⟨pk2,hpk2,(⟨d2,c2,hw2,hc2,hsam,hcw,rfl,rfl⟩|⟨d',x,hcut,hleft,rfl,rfl⟩)⟩ hs
   rotate_left
   .simp only[HV]
    try simp only[HS]
    refine hs.st 12 rfl (by show 0<1;omega) rfl fun H hs=>?_;refine ll _ _ ?_;simp only[HV];refine aT (by decide) ?_;rw[hp1]at hcut;refine ae.mono (bad _ _ H d' (hs.re [0,2,6,3,7] rfl) ((hw1.cut hcut).more (by omega)) (hleft.mono fun c' h=>?_)) ?_
    .right;left;have:=htgt c' h;rw[hw1.sec,hw1.size]at this;exact this
    .rintro _ H ⟨rfl,M,h,hs⟩;simp only[HV];exact⟨M,h,hs⟩
   simp only[HV]
   try simp only[HS]
   refine hs.st 12 rfl (by show 0<1;omega) rfl fun H hs=>?_;refine ll _ _ ?_;simp only[HV];refine aH rfl ?_;rw[show i64.wrap ((1:Int)+1)=2 by kernel_rfl];unfold bg.l2;refine aC (by decide) ⟨by decide,by decide,?_⟩;simp only[HV];have ee2:{ bE d1 (bG m k) aj with aj:=pk2}=bE d2 (bG m k) pk2:=by unfold bE;rw[hw2.sec,hw2.size]
   have hs:Sep (pK mp dp ap2 rp2 { bE d1 (bG m k) aj with aj:=pk2} A2 (cJ { bE d1 (bG m k) aj with aj:=pk2}).length m2++[Dk dp d2,af p (cR dp (some mp)),RR,TT,
    af b1 (Oq #[V p] 27),af b2 (Oq #[.slice A l.length mm] 31),af b3 (Oq #[I (k:Int)] 3),af b4 (fw { fL m k with s:=0}),af b5 _,af b6 _,af b7 _]) H:=hs.re [0,1,4,5,2,6,3,7,8,9,10,11,12,13,14] rfl
   have hs:=Me.shut hs;rw[ee2]at hs;have hh2:Holds d2.sec d2.size (bG m k) c2:=by rw[hw2.sec,hw2.size];exact htgt c2 hsam
   have hS1:Small 100001 (bG m k):=hS.add (by show m.r.ld+1<=_;omega);have h1kd:(bG m k).r.kd=1:=by rw[h1r];rfl
   have h1kk:(bG m k).r.kk=k:=by rw[h1r];rfl
   have hsz2:d2.size/8=D.aa d1:=by rw[hw2.size];rfl
   obtain⟨q1,q2,q3,q4⟩:=K4 hh2 hS1 (by omega) h1kd h1kk hl hcan (by rw[hsz2];exact hcw);have hrd2:=hw2.rd;have hwr2:=hw2.wr;have hsy2:=hw2.sy;have hb1:=yF (D.aa d1) k;have hb2:=yG (D.aa d1) k;have hpd1:=Ok.eB hc1.ok;have hb3:=vo (aa:=D.aa d1) (w:=2^k) (by omega) (Nat.two_pow_pos k);have elr:gX (bG m k) k l=⟨(bG m k).seq,2,k,0,0,m.r.ld+1,lT l,0⟩:=by unfold gX;rw[h1r];rfl
   have hseq2:=Mn.r9 hh2;refine hs.uv 11 (v:=.func (.func 135) #[] #[V b5,V b4,V b6]) rfl rfl ?_;refine kf.go (by kernel_rfl) ?_;rw[hres3];apply eA.ok;unfold eA eA.q1;have fin3:∀ H,Sep [Me mp dp (bE d2 (bG m k) pk2),Dk dp d2,af p (cR dp (some mp)),RR,TT,
    af b1 (Oq #[V p] 27),af b2 (Oq #[.slice A l.length mm] 31),af b3 (Oq #[I (k:Int)] 3),af b4 (fw { gX (bG m k) k l with s:=0})] H->
     ae prog 110 #[V mp,.agg (R.c { gX (bG m k) k l with s:=0})] H fun v H'=>∃ x:Int,v= I x/\((x=0/\∃ M,tu p dp d m aj l RR TT (.tuple #[I 0,I 0]) M/\Sep M H')\/(x=8/\∃(X:As) (L':List As) (d':D),Sep (X::Dk dp d'::af p (cR dp (some mp))::RR::TT::L') H'/\gp d d' (tS (d.size/8) k+tT (d.size/8) k+3)/\Left d' (fun c'=>Holds d.sec d.size m c'\/Holds d.sec d.size (bG m k) c'\/Holds d.sec d.size (cH m k l) c'))):=fun H hs=>by
    refine(rN (mp:=mp) (dp:=dp) (e:=bE d2 (bG m k) pk2) hc2 (hh2.eg hpk2) (by omega) (r:=gX (bG m k) k l) { gX (bG m k) k l with s:=0} rfl hseq2.symm q1 q2 (by rw[hh2.jV];exact q3) (by show(k:Int)<=m.aA;omega)).use hs [0,1] rfl rfl ?_;rintro _ _ H (⟨d3,rfl,hw3,hc3,rfl⟩|⟨d',rfl,hcut,hleft,rfl⟩) hs
    .refine⟨0,rfl,.inl ⟨rfl,_,hfin _ _ (.inl ⟨d3,_,pk2,hpk2,?_,hc3,?_,rfl,rfl⟩),?_⟩⟩
     .have:=(hw1.trans hw2).trans hw3;rw[hp1]at this;rw[hR1,hW1];exact this
     .have:=q4;rw[hw2.sec,hw2.size,hw1.sec,hw1.size]at this;rw[hw2.size,hw1.size];exact this
     .have e3:bE d (cH m k l) pk2={ bE d2 (bG m k) pk2 with r:=gX (bG m k) k l}:=by
       unfold cH bE;rw[Mn.fg,hw2.sec,hw2.size,hw1.sec,hw1.size];rfl
      rw[e3];exact En.shut (L:=[Dk dp d3,RR,TT]) (hs.re [2,0,1,3,4] rfl)
    .refine⟨8,rfl,.inr ⟨rfl,_,_,d',hs,?_,hleft.mono fun c' h=>?_⟩⟩
     .have:=(hw1.trans hw2).cut hcut;rw[hp1]at this;exact this.more (by omega)
     .rw[hw2.sec,hw2.size,hw1.sec,hw1.size]at q4 hh2;rw[hw2.size,hw1.size]at h;rcases h with e|e
      .right;left;rw[e];exact hh2
      .right;right;rw[e];exact q4
   constructor
   .refine hs.ld 9 (v:=Ot (lT l:Int)) rfl rfl ?_;simp only[HV]
    try simp only[HS]
    refine hs.st 8 rfl (by show 1<8;omega) rfl fun H hs=>?_
    try simp only[HS]
    refine hs.st 8 rfl (by show 6<8;omega) rfl fun H hs=>?_;refine hs.ld 10 (v:=V mp) rfl rfl ?_;simp only[HV];refine hs.bd 8 rfl rfl ?_
    try simp only[Array.toArray_toList]
    have hs:=hs.re [0,1,2,3,4,5,6,7,8] rfl;have ff:=fin3 H;rw[elr]at ff;refine ae.mono (ff hs) ?_;rintro _ H ⟨x,rfl,(⟨rfl,M,h,hs⟩|⟨rfl,X,L',d',hs,h1,h2⟩)⟩
    .simp only[HV];refine ll _ _ ?_;simp only[HV];refine aH rfl ?_;rw[show i64.wrap ((2:Int)+1)=3 by kernel_rfl];unfold bg.l2;refine aw (by decide) ?_;simp only[HV];exact⟨M,h,hs⟩
    .simp only[HV];refine ll _ _ ?_;simp only[HV];refine aT (by decide) ?_;refine ae.mono (bad X L' H d' hs h1 h2) ?_;rintro _ H ⟨rfl,M,h,hs⟩;simp only[HV];exact⟨M,h,hs⟩
   .try simp only[HS]
    refine hs.st 8 rfl (by show 1<8;omega) rfl fun H hs=>?_;refine hs.ld 9 (v:=Ot (lT l:Int)) rfl rfl ?_;simp only[HV]
    try simp only[HS]
    refine hs.st 8 rfl (by show 6<8;omega) rfl fun H hs=>?_;refine hs.ld 10 (v:=V mp) rfl rfl ?_;simp only[HV];refine hs.bd 8 rfl rfl ?_
    try simp only[Array.toArray_toList]
    have hs:=hs.re [0,1,2,3,4,5,6,7,8] rfl;have ff:=fin3 H;rw[elr]at ff;refine ae.mono (ff hs) ?_;rintro _ H ⟨x,rfl,(⟨rfl,M,h,hs⟩|⟨rfl,X,L',d',hs,h1,h2⟩)⟩
    .simp only[HV];refine ll _ _ ?_;simp only[HV];refine aH rfl ?_;rw[show i64.wrap ((2:Int)+1)=3 by kernel_rfl];unfold bg.l2;refine aw (by decide) ?_;simp only[HV];exact⟨M,h,hs⟩
    .simp only[HV];refine ll _ _ ?_;simp only[HV];refine aT (by decide) ?_;refine ae.mono (bad X L' H d' hs h1 h2) ?_;rintro _ H ⟨rfl,M,h,hs⟩;simp only[HV];exact⟨M,h,hs⟩
  have ewp:u32.wrap ((m.r.ld:Int)+1)=((m.r.ld+1:Nat):Int):=by rw[Nb];rfl
  repeat' first
   |(rw[ewp]at hs;exact j7 _ _ hs)
   |refine hs.ld 8 (v:=.pointer (some ⟨p,0,none⟩)) rfl rfl ?_
   |refine hs.ld 10 (v:=.int .i64 (k:Int)) rfl rfl ?_
   |refine hs.ld 0 (v:=.pointer (some ⟨mp,0,none⟩)) rfl rfl ?_
   |refine hs.ld 1 (v:=.int .u32 (m.r.ld:Int)) rfl rfl ?_
   |refine hs.nw fun b H hs=>?_
   |refine hs.dW 11 rfl rfl rfl rfl fun H hs=>?_
   |(simp only[HV];try simp only[HS])
   |refine⟨?_,?_⟩
 refine hs.ld 8 (v:=V p) rfl rfl ?_;simp only[HV]
 try simp only[HS]
 refine hs.ld 0 (v:=V mp) rfl rfl ?_;simp only[HV];refine bQ rfl ?_
 repeat' first
  |exact j4 _ _ _ _ _ hv hs
  |refine hs.ld 9 (v:=.slice A l.length mm) rfl rfl ?_
  |refine hs.ld 8 (v:=.pointer (some ⟨p,0,none⟩)) rfl rfl ?_
  |refine hs.ld 0 (v:=.pointer (some ⟨mp,0,none⟩)) rfl rfl ?_
  |refine hs.ld 1 (v:=.int .i64 (m.aA:Int)) rfl rfl ?_
  |refine kE _ _ _ hs rfl rfl fun k i e hv=>?_
  |refine hs.nw fun b H hs=>?_
  |refine hs.st 10 rfl Nat.zero_lt_one rfl fun H hs=>?_
  |(simp only[HV];try simp only[HS])
  |refine⟨?_,?_⟩
end
end Eng
namespace Sup
open Go Go.Hw Go.Form W Lay
theorem FG (k sec s ar:Int)(h:fh k sec s ar=true)(hsec:sec<=9223372036854775807):dU (gg k sec s ar)=((k,sec,s,ar),0):=by
 have hg:=h;unfold fh at hg;simp only[decide_eq_true_eq]at hg;obtain⟨h1,h2,h3,h4,h5,h6⟩:=hg;obtain⟨kn,rfl⟩:=Int.eq_ofNat_of_zero_le h1;have hlen:=tI kn sec s ar h3;have hlog:=qJ s;have hll:=G8 s;have hw:∀(i:Nat) (hi:i<4),aP (gg kn sec s ar) (8*i)=((qe kn sec s ar)[i]'(by rw[tJ];exact hi)).toNat:=fun i hi=>mL (by rw[tJ];exact hi) _
 have hf64:fq kn s<2^64:=by unfold fq;omega
 have w0:aP (gg kn sec s ar) 0=fq kn s:=(hw 0 (by omega)).trans (mh hf64);have w1:aP (gg kn sec s ar) 8=sec.toNat:=(hw 1 (by omega)).trans (mh);have w2:aP (gg kn sec s ar) 16=ar.toNat:=(hw 2 (by omega)).trans (mh);have hcr:yV (fq kn s) sec.toNat ar.toNat=(Go.Crc.sum (form (oW kn sec s ar))).toNat:=rfl;have hsum:=(Go.Crc.sum (form (oW kn sec s ar))).isLt;have w3:aP (gg kn sec s ar) 24=yV (fq kn s) sec.toNat ar.toNat:=(hw 3 (by omega)).trans (by rw[hcr];exact mh);have hz:sL (gg kn sec s ar)=true:=by
  unfold sL gg;rw[List.drop_left' (by rw[ec,tJ])];simp
 have hf1:fq kn s/4294967296=1094861123:=by unfold fq;omega
 have hf2:fq kn s/65536%65536=kn:=by unfold fq;omega
 have hf3:((fq kn s%65536:Nat):Int)=gB s:=by unfold fq;omega
 have hsb:lE (gg kn sec s ar)=((kn:Int),sec,s,ar):=by
  unfold lE;rw[w0,w1,w2,hf2,hlen,bu,bu,show((sec.toNat:Nat):Int)=sec by omega,show((ar.toNat:Nat):Int)=ar by omega]
 unfold dU;rw[hlen,hsb,w0,w1,w2,w3,if_neg (by omega),if_neg (by simp[hf1,hz]),if_neg (by simp),if_pos ⟨h,hf3⟩]
end Sup
namespace Eng
open Go Go.Hw Go.Form W Shp Dsk Str Are Trn Pas Pln Rec Srt Rng
def vM (n:Nat)(i:Int):Prop:=1<=i/\i<((1+n:Nat):Int)
theorem Ij {d:D}(hl:d.down=false)(hf:d.aI≠1)(k:Int)(b:List UInt8)(i:Int):(d.wrote k b).now i=if i=k then b else d.now i:=by
 unfold D.wrote;rw[kX hl hf];unfold D.now ig;by_cases h:i=k
 .simp only[if_pos h];rfl
 .simp only[if_neg h];rfl
theorem zI {d0:D}{c:Cn}(h:Clean d0 c){n:Nat}(hn:1+n<=d0.sec):∀(k i:Nat) (d:D),i+k=n->Prog (vM n) d0 d 0 i->(∀ j:Nat,j<i->d.now ((1+j:Nat):Int)=List.replicate d0.size 0)->
  (∃ d' c',ti 1 k i d=(0,d')/\fA d0 d' 0 n 1/\Clean d' c'/\qO (vM n) c c'/\∀ j:Nat,j<n->c' ((1+j:Nat):Int)=List.replicate d0.size 0)\/
  (∃ d',ti 1 k i d=(8,d')/\gp d0 d' (n+1)/\Left d' (qO (vM n) c))
 |0,i,d,hi,hP,hz=>by
  have hS:∀ i,vM n i->0<=i/\i<d0.sec:=fun i hi=>⟨by have:=hi.1;omega,by have:=hi.2;omega⟩
  have e:i=n:=by omega
  subst e;have hsam:qO (vM i) c d.now:=fun j hj=>(h.prog hP j).2 hj
  rcases h.sync hP hS with⟨s1,s2,s3⟩|⟨s1,s2,s3⟩
  .exact .inl ⟨_,_,by show(d.iM,d.fK)=_;rw[s1],s2,s3,hsam,hz⟩
  .exact .inr ⟨_,by show(d.iM,d.fK)=_;rw[s1],s2.more (by omega),s3.mono fun _ h=>h.2⟩
 |k+1,i,d,hi,hP,hz=>by
  have hS:∀ i,vM n i->0<=i/\i<d0.sec:=fun i hi=>⟨by have:=hi.1;omega,by have:=hi.2;omega⟩
  have hsec:=hP.sec;have hsize:=hP.size;have hchk:d.kE ((1+i:Nat):Int)=0:=o9 hP.down (Int.natCast_nonneg _) (by rw[hsec];omega);have hin:vM n ((1+i:Nat):Int):=⟨by omega,by omega⟩;have hlen:(List.replicate d.size (0:UInt8)).length=d.size:=List.length_replicate;unfold ti;by_cases hf:d.aI=1
  .have hbn:d.dG=true:=by unfold D.dG;simp[hf]
   have e1:d.dx ((1+i:Nat):Int) d.size=8:=by unfold D.dx;rw[if_neg (by rw[hchk];simp),if_neg (by simp),hbn];rfl
   have e2:d.bJ ((1+i:Nat):Int) (List.replicate d.size 0)=D.dead d:=by unfold D.bJ;rw[if_neg (by rw[hchk];simp),if_neg (by simp[hlen]),hbn,lS hf];rfl
   rw[e1,e2,if_pos (by decide)];have hD:=hP.dead (gW.one (vM n) hP.ok hf);have h1:=hP.aI;have h2:=hP.go;exact .inr ⟨_,rfl,h.yX hD hS (by omega) (by omega),h.wB hD⟩
  .have hbn:d.dG=false:=by unfold D.dG;exact decide_eq_false hf
   have e1:d.dx ((1+i:Nat):Int) d.size=0:=by unfold D.dx;rw[if_neg (by rw[hchk];simp),if_neg (by simp),hbn];rfl
   have e2:d.bJ ((1+i:Nat):Int) (List.replicate d.size 0)=d.wrote ((1+i:Nat):Int) (List.replicate d.size 0):=by unfold D.bJ;rw[if_neg (by rw[hchk];simp),if_neg (by simp[hlen]),hbn];rfl
   rw[e1,e2,if_neg (by simp)];have hW:=Prog.wrote (S:=vM n) hP.ok hP.down hf hin hlen;have hT:=hP.trans hW;refine zI h hn k (i+1) _ (by omega) hT fun j hj=>?_
   rw[Ij hP.down hf];by_cases e:j=i
   .rw[e,if_pos rfl,hsize]
   .rw[if_neg (by omega)];exact hz j (by omega)
def fC (k words:Nat):Mn:=⟨k,words,[],[]⟩
theorem Fe {sec size k words:Nat}{c:Cn}(hg:Sup.fh k sec size words=true)(hl:fB k (size/8)<=words)(h0:c 0=Sup.gg k sec size words)(hz:∀ j:Nat,j<8->c ((1+j:Nat):Int)=List.replicate size 0):Holds sec size (fC k words) c:=
 ⟨h0,hg,hl,Log.nil,fun i hi=>hz i hi,fun r hr=>(by cases hr),fun r hr=>(by cases hr),fun r hr=>(by cases hr)⟩
def dM (sec aa:Nat)(k words:Int):Int:=if words<1\/words>16777216\/k<0\/k>32 then 1 else if(sec:Int)<Lay.fI k.toNat aa then 7 else if words<fB k.toNat aa then 6 else 0
theorem KU {p dp:Nat}{mo:Option Nat}{d:D}(hok:Ok d)(hpn:0<Lay.cc (d.size:Int))(k words:Int):Tr prog 122 #[V p,I k,I words] [af p (cR dp mo),Dk dp d] fun v M=>v= I (dM d.sec (d.size/8) k words)/\M=[af p (cR dp mo),Dk dp d]:=fun H hs=>by
 have hper:=lY hpn;apply aX.ok;unfold aX aX.q3 aX.q2 aX.q1;have fin:∀(x:Int) (H:Hp) (T:List As),x=dM d.sec (d.size/8) k words->Sep ([af p (cR dp mo),Dk dp d]++T) H->∃ M,(Value.int .i64 x= I (dM d.sec (d.size/8) k words)/\M=[af p (cR dp mo),Dk dp d])/\Sep M H:=fun x H T hx hs=>⟨_,⟨by rw[hx],rfl⟩,Sep.take hs⟩
 by_cases h1:words<1
 .exact aC h1 (fin 1 H [] (by unfold dM;rw[if_pos (.inl h1)]) hs)
 refine aw h1 ?_;by_cases h2:words>16777216
 .exact aC h2 (fin 1 H [] (by unfold dM;rw[if_pos (.inr (.inl h2))]) hs)
 refine aw h2 ?_;have j4:∀ b H,Sep [af p (cR dp mo),Dk dp d,af b (Oq (Lay.nP k d.sec d.size).1 153)] H->aX.j4 (fun v H'=>∃ M,(v= I (dM d.sec (d.size/8) k words)/\M=[af p (cR dp mo),Dk dp d])/\Sep M H') k words (O b) (Lay.nP k d.sec d.size).2 H:=fun b H hs=>by
  unfold aX.j4;unfold Lay.nP at hs⊢;by_cases h3:0<=k/\k<=32
  .have h3':0<=k/\k<=32/\0<Lay.cc d.size:=⟨h3.1,h3.2,hpn⟩;rw[if_pos h3']at hs⊢;by_cases h4:(d.sec:Int)<Lay.fI k.toNat (Lay.cc d.size)
   .rw[if_pos h4]at hs⊢;refine aT (by decide) (fin 7 H _ ?_ hs);unfold dM;rw[if_neg (by omega),if_pos (by rw[<- hper.1];exact h4)]
   .rw[if_neg h4]at hs⊢;refine aH rfl ?_
    try simp only[HS]
    refine hs.ld 2 (v:=I ((Lay.cc d.size:Nat):Int)) rfl rfl ?_;simp only[HV];obtain⟨kn,rfl⟩:=Int.eq_ofNat_of_zero_le h3.1;have hpB:iw ((Lay.cc d.size:Nat):Int)=true:=by rw[hper.1];exact Ak hpn
    refine ae.use (Iz (k:=kn) (aa:=Lay.cc d.size) (by omega) hpB H) ?_;simp only[HV];refine aH rfl ?_;rw[hper.1]at h4;have h4':¬(d.sec:Int)<Lay.fI (kn:Int).toNat (d.size/8):=h4;by_cases h5:words<(fB kn (Lay.cc d.size):Int)
    .refine aC h5 (fin 6 H _ ?_ hs);unfold dM;rw[if_neg (by omega),if_neg h4',if_pos (by rw[<- hper.1];exact h5)]
    .refine aw h5 (fin 0 H _ ?_ hs);unfold dM;rw[if_neg (by omega),if_neg h4',if_neg (by rw[<- hper.1];exact h5)]
  .rw[if_neg (fun h=>h3 ⟨h.1,h.2.1⟩)]at hs⊢;refine aT (by decide) (fin 1 H _ ?_ hs);unfold dM;rw[if_pos (by omega)]
 try simp only[HS]
 have hsz:∀(H:Hp) (T:List As) (K:Value->Prop),Sep ([af p (cR dp mo),Dk dp d]++T) H->K (I (d.sec:Int))->bN prog 123 #[V dp] H K:=fun H T K hs h=>bN.use (lO hs 1 rfl) h
 have hsy:∀(H:Hp) (T:List As) (K:Value->Prop),Sep ([af p (cR dp mo),Dk dp d]++T) H->K (I (d.size:Int))->bN prog 124 #[V dp] H K:=fun H T K hs h=>bN.use (qP hs 1 rfl) h
 have hof:∀(H:Hp) (K:Value->Prop),K (.tuple #[.agg (Lay.nP k d.sec d.size).1,I (Lay.nP k d.sec d.size).2])->bN prog 181 #[I k,I (d.sec:Int),I (d.size:Int)] H K:=fun H K h=>bN.use (Lay.lF k d.sec d.size H) h
 have hS1:(Lay.nP k d.sec d.size).1.size=17:=Sup.wm k d.sec d.size
 repeat' first
  |exact j4 _ _ hs
  |refine hs.ld 0 (v:=.pointer (some ⟨dp,0,none⟩)) rfl rfl ?_
  |refine hsz _ [] _ hs ?_
  |refine hsy _ [] _ hs ?_
  |refine hsz _ [_] _ hs ?_
  |refine hsy _ [_] _ hs ?_
  |refine hof _ _ ?_
  |refine hs.nw fun b H hs=>?_
  |refine hs.dW 2 rfl rfl (Sup.wm _ _ _) (Sup.Dr _ _ _) fun H hs=>?_
  |(simp only[HV];try simp only[HS])
  |refine⟨?_,?_⟩
theorem G3 (k p:Nat):Lay.i6 k p=#[I (k:Int),I (p:Int),I 1,I 8,I ((8*p:Nat):Int),I 9,I (Lay.bS k p:Int),I ((2^k:Nat):Int),I (9+(Lay.bS k p:Int)),I (Lay.bS k p:Int),I ((2^k:Nat):Int),I (9+2*(Lay.bS k p:Int)),I (Lay.bS k p:Int),I ((2^k:Nat):Int),I (9+3*(Lay.bS k p:Int)),I (Lay.bS k p:Int),I ((2^k:Nat):Int)]:=rfl
theorem D0 {dp:Nat}{d:D}{k ar:Nat}(hok:Ok d)(hg:Sup.fh (k:Int) d.sec d.size (ar:Int)=true):
  Tr prog 81 #[V dp,.agg (Sup.fQ k d.sec d.size ar)] [Dk dp d] fun v M=>∃ mp ap rp,v= .tuple #[V mp,I 0]/\M=[af mp (cu ⟨k,d.sec,d.size,ar,eH,0⟩ ap rp .none 0 0),Ar ap ar 0 [],af rp (bU dp 1 8 ((8*(d.size/8):Nat):Int)),Dk dp d]:=fun H hs=>by
 have hgo:=gk hg;have hper:=lY hgo.2.1;have hlay:Sup.fh (k:Int) d.sec d.size (ar:Int)=true->(if Sup.fh (k:Int) d.sec d.size (ar:Int)=true then Value.tuple #[.agg (Lay.i6 (k:Int).toNat (Lay.cc d.size)),I 0]else .tuple #[.agg Lay.B2,I 1])= .tuple #[.agg (Lay.i6 k (d.size/8)),I 0]:=fun h=>by rw[if_pos h,Int.toNat_natCast,hper.1]
 have hext:yZ d 1 8=true:=decide_eq_true (by have:=hgo.2.2.1;unfold Lay.fI at this;omega);have hL:=Sup.F' (k:Int) d.sec d.size (ar:Int);rw[hlay hg]at hL;apply fx.ok;unfold fx fx.q1;refine hs.nw fun b1 H hs=>?_
 refine hs.bd 1 rfl rfl ?_;refine ae.use (hL H) ?_;simp only[HV];refine hs.nw fun b2 H hs=>?_
 refine hs.dW 2 rfl rfl rfl rfl fun H hs=>?_;refine aH rfl ?_
 try simp only[HS]
 refine hs.mO 2 (off:=2) (n:=3) rfl (by show 2+3<=17;omega) ?_;refine(Rng.jH (p:=dp) (d:=d) hok 1 8 ((8*(d.size/8):Nat):Int) (by omega)).use hs [0] rfl rfl ?_;rintro _ _ H (⟨_,rp,rfl,rfl⟩|⟨h,_⟩) hs
 rotate_left
 .rw[hext]at h;cases h
 simp only[HV];refine aH rfl ?_;have hs:Sep [Dk dp d,af rp (bU dp 1 8 ((8*(d.size/8):Nat):Int)),af b1 (Oq #[I k,I d.sec,I d.size,I ar] 45),af b2 (Oq (Lay.i6 k (d.size/8)) 153)] H:=hs;rw[G3]at hs
 try simp only[HS]
 refine hs.ld 2 (v:=I (ar:Int)) rfl rfl ?_;simp only[HV];have fin:∀(mp ap:Nat) (T:List As) (H:Hp),Sep ([Ar ap ar 0 [],Dk dp d,af rp (bU dp 1 8 ((8*(d.size/8):Nat):Int))]++T++[af mp (cu ⟨k,d.sec,d.size,ar,eH,0⟩ ap rp .none 0 0)]) H->
   ∃ M,(∃ mp' ap' rp',(Value.tuple #[V mp,I 0])= .tuple #[V mp',I 0]/\M=[af mp' (cu ⟨k,d.sec,d.size,ar,eH,0⟩ ap' rp' .none 0 0),Ar ap' ar 0 [],af rp' (bU dp 1 8 ((8*(d.size/8):Nat):Int)),Dk dp d])/\Sep M H:=fun mp ap T H hs=>by
  have h1:Sep ([af mp (cu ⟨k,d.sec,d.size,ar,eH,0⟩ ap rp .none 0 0)]++([Ar ap ar 0 [],Dk dp d,af rp (bU dp 1 8 ((8*(d.size/8):Nat):Int))]++T)) H:=Sep.perm List.perm_append_comm hs;have h2:Sep [af mp (cu ⟨k,d.sec,d.size,ar,eH,0⟩ ap rp .none 0 0),Ar ap ar 0 [],Dk dp d,af rp (bU dp 1 8 ((8*(d.size/8):Nat):Int))] H:=Sep.take (L:=T) h1;exact⟨_,⟨mp,ap,rp,rfl,rfl⟩,h2.re [0,1,3,2] rfl⟩
 have har:(1:Int)<=(ar:Int)/\(ar:Int)<=16777216:=hgo.2.2.2
 repeat' first
  |exact fin _ _ [_,_] _ hs
  |refine hs.bd 2 rfl rfl ?_
  |refine hs.bd 3 rfl rfl ?_
  |refine hs.bd 4 rfl rfl ?_
  |(refine(Are.jH (ar:Int) har).use hs [] rfl rfl ?_;rintro _ _ H ⟨ap,rfl,rfl⟩ hs)
  |refine hs.nw fun b H hs=>?_
  |(simp only[HV];try simp only[HS])
  |refine⟨?_,?_⟩
theorem Sep.unit {L:List As}{H:Hp}{X:As}(hs:Hw.Sep L H)(hX:X fun _=>none):Hw.Sep (X::L) H:=⟨fun _=>none,H,fun _ _ h=>(nomatch h),Hp.le_refl _,fun _=>.inl rfl,hX,hs⟩
theorem En.ptr {p dp:Nat}{g:Option Eg}{L:List As}{H:Hp}(h:Sep (En p dp g::L) H):∃ mo X,Sep (af p (cR dp mo)::X::L) H/\∀ L' H',Sep (af p (cR dp mo)::X::L') H'->Sep (En p dp g::L') H':=by
 cases g with
 |none=>exact⟨none,fun _=>True,(Sep.unit (X:=fun _=>True) h trivial).swap,fun L' H' h=>h.swap.tail⟩
 |some e=>
  obtain⟨mp,h⟩:=En.open h;exact⟨some mp,Me mp dp e,h,fun L' H' h=>En.shut h⟩
theorem Me.bare {mp dp ap rp:Nat}{e:Eg}{L:List As}{H:Hp}(h:Sep ([af mp (cu e ap rp .none 0 0),Ar ap e.aO e.aj [],af rp (bU dp 1 8 ((8*e.aa:Nat):Int))]++L) H)(hp:cJ e=[]):Sep (Me mp dp e::L) H:=by
 have h1:Sep (bH 221 8 .none 0 0 []::([af mp (cu e ap rp .none 0 0),Ar ap e.aO e.aj [],af rp (bU dp 1 8 ((8*e.aa:Nat):Int))]++L)) H:=Sep.unit h (bH.none _ _ _);have h2:Sep ([af mp (cu e ap rp .none 0 0),Ar ap e.aO e.aj [],af rp (bU dp 1 8 ((8*e.aa:Nat):Int))]++(bH 221 8 .none 0 0 []::L)) H:=Sep.perm List.perm_middle.symm h1;refine Me.shut (ap:=ap) (rp:=rp) (A:=.none) (m:=0) ?_;unfold pK;rw[hp];exact h2
theorem Jd {e:Eg}(h:e.r=eH):cJ e=[]:=by unfold cJ;rw[if_neg (by rw[h];decide)]
theorem um {d:D}(hpn:0<Lay.cc (d.size:Int)){k words:Int}(h:dM d.sec (d.size/8) k words=0):∃ kn wn:Nat,k=kn/\words=wn/\Sup.fh kn d.sec d.size wn=true/\fB kn (d.size/8)<=wn:=by
 have hper:=lY hpn;unfold dM at h;split at h
 .cases h
 rename_i h1
 split at h
 .cases h
 rename_i h2
 split at h
 .cases h
 rename_i h3
 obtain⟨kn,rfl⟩:=Int.eq_ofNat_of_zero_le (show 0<=k by omega);obtain⟨wn,rfl⟩:=Int.eq_ofNat_of_zero_le (show 0<=words by omega);refine⟨kn,wn,rfl,rfl,decide_eq_true ?_,?_⟩
 .rw[hper.1];have h2':¬(d.sec:Int)<Lay.fI kn (d.size/8):=h2;refine⟨by omega,by omega,by omega,?_,by omega,by omega⟩;show(Lay.fI kn (d.size/8):Int)<=d.sec
  omega
 .have h3':¬(wn:Int)<fB kn (d.size/8):=h3;omega
def AV (p dp:Nat)(g:Option Eg)(d:D)(c:Cn)(k words:Int)(v:Value)(M:List As):Prop:=
 (dM d.sec (d.size/8) k words≠0/\v= I (dM d.sec (d.size/8) k words)/\M=[En p dp g,Dk dp d])\/
 (∃ kn wn:Nat,k=kn/\words=wn/\dM d.sec (d.size/8) k words=0/\
  ((∃ d' c',fA d d' 0 10 3/\Clean d' c'/\Holds d.sec d.size (fC kn wn) c'/\v= I 0/\M=[En p dp (some (bE d (fC kn wn) 0)),Dk dp d'])\/
  (∃ d',gp d d' 13/\Left d' (fun c'=>c'=c\/yK d.size c'\/Holds d.sec d.size (fC kn wn) c')/\v= I 8/\M=[En p dp none,Dk dp d'])))
set_option maxHeartbeats 8000000 in
theorem zv {p dp:Nat}{g:Option Eg}{d:D}{c:Cn}(hc:Clean d c)(hpn:0<Lay.cc (d.size:Int))(ho:d.rd<=800000/\d.wr<=800000/\d.sy<=800000)(k words:Int):
  Tr prog 69 #[V p,I k,I words] [En p dp g,Dk dp d] (AV p dp g d c k words):=fun H hs=>by
 have hok:=hc.ok;have hper:=lY hpn;obtain⟨mo,X,hs,hback⟩:=En.ptr hs;apply aq.ok;unfold aq aq.q5 aq.q4 aq.q3 aq.q2 aq.q2.q1 aq.q1 aq.q1.q2 aq.q1.q1;refine hs.nw fun b1 H hs=>?_
 have hs:Sep [af p (cR dp mo),X,Dk dp d,af b1 (Oq #[V p] 27)] H:=hs;refine hs.ld 3 (v:=V p) rfl rfl ?_;simp only[HV];refine(KU (p:=p) (dp:=dp) (mo:=mo) hok hpn k words).use hs [0,2] rfl rfl ?_;rintro _ _ H ⟨rfl,rfl⟩ hs;simp only[HV];by_cases hfit:dM d.sec (d.size/8) k words=0
 rotate_left
 .exact aT hfit ⟨_,.inl ⟨hfit,rfl,rfl⟩,hback [Dk dp d] _ (hs.re [0,2,1] rfl)⟩
 rw[hfit];refine aH rfl ?_;obtain⟨kn,wn,rfl,rfl,hg,hlw⟩:=um hpn hfit;have hgo:=gk hg;have hneed:9<=d.sec:=by have:=hgo.2.2.1;unfold Lay.fI at this;omega
 have hs:Sep [af p (cR dp mo),Dk dp d,X,af b1 (Oq #[V p] 27)] H:=hs;have hzl:(List.replicate d.size (0:UInt8)).length=d.size:=List.length_replicate;have bad:∀(H:Hp) (d':D),Sep [Dk dp d',af p (cR dp mo)] H->gp d d' 13->Left d' (fun c'=>c'=c\/yK d.size c'\/Holds d.sec d.size (fC kn wn) c')->
   ae prog 80 #[V p,I 8] H fun v H'=>v= I 8/\∃ M,AV p dp g d c kn wn (I 8) M/\Sep M H':=fun H d' hs h1 h2=>by
  have hk:ae prog 80 #[V p,I 8] H fun v H'=>∃ M,(v= I 8/\M=[af p (cR dp none),Dk dp d'])/\Sep M H':=by
   apply eM.ok;unfold eM;refine aL rfl ?_
   try simp only[HS]
   refine hs.st 1 rfl (by show 1<2;omega) rfl fun H hs=>?_;exact⟨_,⟨by first|rfl|trivial,rfl⟩,hs.re [1,0] rfl⟩
  refine ae.mono hk ?_;rintro _ H ⟨_,⟨rfl,rfl⟩,hs⟩;exact⟨rfl,_,.inr ⟨kn,wn,rfl,rfl,hfit,.inr ⟨d',h1,h2,rfl,rfl⟩⟩,hs⟩
 have j6:∀ mp ap rp b2 H,Sep [af mp (cu ⟨kn,d.sec,d.size,wn,eH,0⟩ ap rp .none 0 0),Ar ap wn 0 [],af rp (bU dp 1 8 ((8*(d.size/8):Nat):Int)),Dk dp d,af p (cR dp mo),X,af b1 (Oq #[V p] 27),af b2 (Oq (Sup.fQ kn d.sec d.size wn) 45)] H->
   aq.j6 (fun v H'=>∃ M,AV p dp g d c kn wn v M/\Sep M H') (O b1) (O b2) (Oo mp) 0 H:=fun mp ap rp b2 H hs=>by
  unfold aq.j6;refine aH rfl ?_;refine hs.ld 6 (v:=V p) rfl rfl ?_;simp only[HV];refine hs.ld 6 (v:=V p) rfl rfl ?_;simp only[HV]
  try simp only[HS]
  refine hs.ld 4 (v:=V dp) rfl rfl ?_;simp only[HV]
  try simp only[HS]
  refine hs.ld 0 (v:=V rp) rfl rfl ?_;simp only[HV];refine hs.nw fun b3 H hs=>?_
  have hres1:fj prog 125=[63]:=by kernel_rfl
  have hres2:fj prog 127=[63]:=by kernel_rfl
  have hres3:fj prog 128=[63]:=by kernel_rfl
  have hres4:fj prog 129=[63]:=by kernel_rfl
  apply bg.ok;unfold bg;refine⟨5,?_⟩;unfold bg.l2;refine aC (by decide) ⟨by decide,by decide,?_⟩;simp only[HV];refine hs.uv 8 (v:=.func (.func 125) #[] #[V b1]) rfl rfl ?_;refine kf.go (by kernel_rfl) ?_;rw[hres1];have hsz32:=hok.size;have f1:∀(A3:As) (H:Hp),Sep [af mp (cu ⟨kn,d.sec,d.size,wn,eH,0⟩ ap rp .none 0 0),Ar ap wn 0 [],af rp (bU dp 1 8 ((8*(d.size/8):Nat):Int)),Dk dp d,af p (cR dp mo),X,af b1 (Oq #[V p] 27),af b2 (Oq (Sup.fQ kn d.sec d.size wn) 45),A3] H->ae prog 125 #[V b1] H fun v H=>v= I (d.dx 0 d.size)/\Sep [Dk dp (d.bJ 0 (List.replicate d.size 0)),af mp (cu ⟨kn,d.sec,d.size,wn,eH,0⟩ ap rp .none 0 0),Ar ap wn 0 [],af rp (bU dp 1 8 ((8*(d.size/8):Nat):Int)),af p (cR dp mo),X,af b1 (Oq #[V p] 27),af b2 (Oq (Sup.fQ kn d.sec d.size wn) 45),A3] H:=fun A3 H hs=>by
   apply gF.ok;unfold gF;simp only[HV];refine hs.ld 6 (v:=V p) rfl rfl ?_;simp only[HV]
   try simp only[HS]
   refine hs.ld 4 (v:=V dp) rfl rfl ?_;simp only[HV]
   try simp only[HS]
   refine bN.use (qP hs 3 rfl) ?_;simp only[HV];have wr1:∀(b4:Nat) (H:Hp),Sep [af mp (cu ⟨kn,d.sec,d.size,wn,eH,0⟩ ap rp .none 0 0),Ar ap wn 0 [],af rp (bU dp 1 8 ((8*(d.size/8):Nat):Int)),Dk dp d,af p (cR dp mo),X,af b1 (Oq #[V p] 27),af b2 (Oq (Sup.fQ kn d.sec d.size wn) 45),A3,af b4 (.row (cZ [Value.int .u8 0] d.size) 5 (d.size*1))] H->
     ae prog 47 #[V dp,I 0,.slice (Oo b4) d.size d.size] H fun v H=>v= I (d.dx 0 d.size)/\Sep [Dk dp (d.bJ 0 (List.replicate d.size 0)),af mp (cu ⟨kn,d.sec,d.size,wn,eH,0⟩ ap rp .none 0 0),Ar ap wn 0 [],af rp (bU dp 1 8 ((8*(d.size/8):Nat):Int)),af p (cR dp mo),X,af b1 (Oq #[V p] 27),af b2 (Oq (Sup.fQ kn d.sec d.size wn) 45),A3] H:=fun b4 H hs=>by
    rw[mM]at hs;refine(kV (p:=dp) (d:=d) hok (by omega) 0 (Oo b4) d.size d.size (List.replicate d.size 0) hzl.symm (af b4 (.row (aD (List.replicate d.size 0)) 5 (d.size*1))) (fun H h=>?_)).use hs [3,9] rfl rfl ?_
    .have:=Cells.row h 0 d.size;rw[List.drop_zero,List.take_of_length_le (by rw[bz,hzl];exact Nat.le_refl _)]at this;exact this
    rintro _ _ H ⟨rfl,rfl⟩ hs;exact⟨rfl,hs.re [0,2,3,4,5,6,7,8,9] rfl⟩
   have done:∀(v:Value) (H:Hp),(v= I (d.dx 0 d.size)/\Sep [Dk dp (d.bJ 0 (List.replicate d.size 0)),af mp (cu ⟨kn,d.sec,d.size,wn,eH,0⟩ ap rp .none 0 0),Ar ap wn 0 [],af rp (bU dp 1 8 ((8*(d.size/8):Nat):Int)),af p (cR dp mo),X,af b1 (Oq #[V p] 27),af b2 (Oq (Sup.fQ kn d.sec d.size wn) 45),A3] H)->DI .i64 v fun x1=>(Value.int .i64 x1= I (d.dx 0 d.size)/\Sep [Dk dp (d.bJ 0 (List.replicate d.size 0)),af mp (cu ⟨kn,d.sec,d.size,wn,eH,0⟩ ap rp .none 0 0),Ar ap wn 0 [],af rp (bU dp 1 8 ((8*(d.size/8):Nat):Int)),af p (cR dp mo),X,af b1 (Oq #[V p] 27),af b2 (Oq (Sup.fQ kn d.sec d.size wn) 45),A3] H):=fun v H ⟨h1,h2⟩=>by
    subst h1;simp only[HV];exact⟨by trivial,h2⟩
   repeat' first
    |exact ae.mono (wr1 _ _ hs) done
    |refine hs.ld 6 (v:=.pointer (some ⟨p,0,none⟩)) rfl rfl ?_
    |refine hs.ld 4 (v:=.pointer (some ⟨dp,0,none⟩)) rfl rfl ?_
    |refine hs.q8 lA rfl (n:=d.size) (m:=d.size) rfl rfl (Nat.le_refl _) (by omega) (by omega) fun b4 H hs=>?_
    |(simp only[HV];try simp only[HS])
    |refine⟨?_,?_⟩
  have hp1:=uF hc 0 (by omega) (List.replicate d.size 0) hzl;have bare0:∀ c:Cn,yK d.size (fp c (0:Nat) (List.replicate d.size 0)):=fun c=>vB c 0 _
  refine ae.mono (f1 _ H hs) ?_;rintro _ H ⟨rfl,hs⟩;refine ll _ _ ?_;simp only[HV];by_cases hw1:d.dx 0 d.size=0
  rotate_left
  .have e1:qc d (0:Nat) (List.replicate d.size 0)=(d.dx 0 d.size,d.bJ 0 (List.replicate d.size 0)):=by unfold qc;exact if_pos hw1
   rw[e1]at hp1;rcases hp1 with⟨d',⟨h,_⟩|⟨h,hcut,hleft⟩⟩
   .exact absurd (congrArg Prod.fst h) hw1
   .have h8:=congrArg Prod.fst h;have hd:=congrArg Prod.snd h;simp only at h8 hd;rw[h8];rw[hd]at hs;refine aT (by decide) ?_;refine ae.mono (bad H d' (hs.re [0,4] rfl) (hcut.more (by omega)) (hleft.mono fun c' h=>?_)) ?_
    .rcases h with e|e
     .exact .inl e
     .right;left;rw[e];exact bare0 c
    .rintro _ H ⟨rfl,M,h,hs⟩;simp only[HV];exact⟨M,h,hs⟩
  refine aH hw1 ?_;rw[show i64.wrap ((0:Int)+1)=1 by kernel_rfl];unfold bg.l2;refine aC (by decide) ⟨by decide,by decide,?_⟩;simp only[HV];refine hs.uv 8 (v:=.func (.func 127) #[V dp] #[]) rfl rfl ?_;refine kf.go (by kernel_rfl) ?_;rw[hres2];have hwd:(d.bJ 0 (List.replicate d.size 0)).sy=d.sy:=(AG d 0 _).1;have hwok:Ok (d.bJ 0 (List.replicate d.size 0)):=Ok.bJ hok 0 _;have e1:qc d (0:Nat) (List.replicate d.size 0)=((d.bJ 0 (List.replicate d.size 0)).iM,(d.bJ 0 (List.replicate d.size 0)).fK):=by unfold qc;exact if_neg (fun h=>h hw1)
  rw[e1]at hp1;have sy1:∀(A3:As) (H:Hp),Sep [Dk dp (d.bJ 0 (List.replicate d.size 0)),af mp (cu ⟨kn,d.sec,d.size,wn,eH,0⟩ ap rp .none 0 0),Ar ap wn 0 [],af rp (bU dp 1 8 ((8*(d.size/8):Nat):Int)),af p (cR dp mo),X,af b1 (Oq #[V p] 27),af b2 (Oq (Sup.fQ kn d.sec d.size wn) 45),A3] H->ae prog 127 #[V dp] H fun v H=>v= I (d.bJ 0 (List.replicate d.size 0)).iM/\Sep [Dk dp (d.bJ 0 (List.replicate d.size 0)).fK,af mp (cu ⟨kn,d.sec,d.size,wn,eH,0⟩ ap rp .none 0 0),Ar ap wn 0 [],af rp (bU dp 1 8 ((8*(d.size/8):Nat):Int)),af p (cR dp mo),X,af b1 (Oq #[V p] 27),af b2 (Oq (Sup.fQ kn d.sec d.size wn) 45),A3] H:=fun A3 H hs=>by
   refine(qI (p:=dp) (d:=d.bJ 0 (List.replicate d.size 0)) hwok (by rw[hwd];omega)).use hs [0] rfl rfl ?_;rintro _ _ H ⟨rfl,rfl⟩ hs;exact⟨rfl,hs⟩
  refine ae.mono (sy1 _ H hs) ?_;rintro _ H ⟨rfl,hs⟩;refine ll _ _ ?_;simp only[HV];rcases hp1 with⟨d1,⟨h,hw1',hc1⟩|⟨h,hcut,hleft⟩⟩
  rotate_left
  .have h8:=congrArg Prod.fst h;have hd:=congrArg Prod.snd h;simp only at h8 hd;rw[h8];rw[hd]at hs;refine aT (by decide) ?_;refine ae.mono (bad H d1 (hs.re [0,4] rfl) (hcut.more (by omega)) (hleft.mono fun c' h=>?_)) ?_
   .rcases h with e|e
    .exact .inl e
    .right;left;rw[e];exact bare0 c
   .rintro _ H ⟨rfl,M,h,hs⟩;simp only[HV];exact⟨M,h,hs⟩
  have h8:=congrArg Prod.fst h;have hd:=congrArg Prod.snd h;simp only at h8 hd;rw[h8];rw[hd]at hs;clear h8 hd h e1;refine aH rfl ?_;rw[show i64.wrap ((1:Int)+1)=2 by kernel_rfl];unfold bg.l2;refine aC (by decide) ⟨by decide,by decide,?_⟩;simp only[HV];refine hs.uv 8 (v:=.func (.func 128) #[V rp] #[]) rfl rfl ?_;refine kf.go (by kernel_rfl) ?_;rw[hres3];have hrd1:=hw1'.rd;have hwr1:=hw1'.wr;have hsy1:=hw1'.sy;have hsec1:=hw1'.sec;have hsize1:=hw1'.size;generalize hcc1:fp c (0:Nat) (List.replicate d.size 0)=c1 at*;have hb1:yK d.size c1:=by rw[<- hcc1];exact bare0 c
  have cl1:∀(A3:As) (H:Hp),Sep [Dk dp d1,af mp (cu ⟨kn,d.sec,d.size,wn,eH,0⟩ ap rp .none 0 0),Ar ap wn 0 [],af rp (bU dp 1 8 ((8*(d.size/8):Nat):Int)),af p (cR dp mo),X,af b1 (Oq #[V p] 27),af b2 (Oq (Sup.fQ kn d.sec d.size wn) 45),A3] H->ae prog 128 #[V rp] H fun v H=>v= I (ti 1 8 0 d1).1/\Sep [Dk dp (ti 1 8 0 d1).2,af mp (cu ⟨kn,d.sec,d.size,wn,eH,0⟩ ap rp .none 0 0),Ar ap wn 0 [],af rp (bU dp 1 8 ((8*(d.size/8):Nat):Int)),af p (cR dp mo),X,af b1 (Oq #[V p] 27),af b2 (Oq (Sup.fQ kn d.sec d.size wn) 45),A3] H:=fun A3 H hs=>by
   refine(Iu (b:=rp) (p:=dp) (f:=1) (n:=8) (w:=((8*(d.size/8):Nat):Int)) (by omega) hc1.ok (by omega) (by omega)).use hs [0,3] rfl rfl ?_;rintro _ _ H ⟨rfl,rfl⟩ hs;exact⟨rfl,hs.re [0,2,3,1,4,5,6,7,8] rfl⟩
  refine ae.mono (cl1 _ H hs) ?_;rintro _ H ⟨rfl,hs⟩;refine ll _ _ ?_;simp only[HV];have hnot0:¬vM 8 0:=fun h=>by have:=h.1;omega
  rcases zI hc1 (n:=8) (by rw[hsec1];omega) 8 0 d1 rfl (Prog.refl _ hc1.ok hc1.down) (fun j hj=>absurd hj (by omega))with⟨d2,c2,h,hw2,hc2,hsam2,hz2⟩|⟨d2,h,hcut,hleft⟩
  rotate_left
  .rw[h]at hs⊢;refine aT (show(8:Int)≠0 by decide) ?_;refine ae.mono (bad H d2 (hs.re [0,4] rfl) ((hw1'.cut hcut).more (by omega)) (hleft.mono fun c' h=>?_)) ?_
   .right;left;show c' 0=_
    rw[h 0 hnot0];exact hb1
   .rintro _ H ⟨rfl,M,h,hs⟩;simp only[HV];exact⟨M,h,hs⟩
  rw[h]at hs⊢;refine aH rfl ?_;rw[show i64.wrap ((2:Int)+1)=3 by kernel_rfl];unfold bg.l2;refine aC (by decide) ⟨by decide,by decide,?_⟩;simp only[HV];refine hs.uv 8 (v:=.func (.func 129) #[] #[V b1,V b2]) rfl rfl ?_;refine kf.go (by kernel_rfl) ?_;rw[hres4];have hrd2:=hw2.rd;have hwr2:=hw2.wr;have hsy2:=hw2.sy;have hsec2:=hw2.sec;have hsize2:=hw2.size;have hs2:d2.size=d.size:=hsize2.trans hsize1;have hc20:yK d.size c2:=by show c2 0=_;rw[hsam2 0 hnot0];exact hb1
  have hfl:(Sup.gg kn d.sec d.size wn).length=d2.size:=by have:=Sup.tI kn d.sec d.size wn hpn;omega
  have hwv:Sup.tV d2 kn d.sec d.size wn=qc d2 (0:Nat) (Sup.gg kn d.sec d.size wn):=by
   have e0:Sup.r4 d2 d.sec d.size=true:=decide_eq_true ⟨by rw[hsec2,hsec1],by rw[hs2]⟩;unfold Sup.tV qc;rw[if_neg (by rw[hg,e0];simp),Int.toNat_natCast,<-hs2];rfl
  have hnew:Holds d.sec d.size (fC kn wn) (fp c2 (0:Nat) (Sup.gg kn d.sec d.size wn)):=by
   refine Fe hg hlw (vB c2 0 _) fun j hj=>?_
   rw[sY _ _,hz2 j hj,hsize1]
  have f2:∀(A3:As) (H:Hp),Sep [Dk dp d2,af mp (cu ⟨kn,d.sec,d.size,wn,eH,0⟩ ap rp .none 0 0),Ar ap wn 0 [],af rp (bU dp 1 8 ((8*(d.size/8):Nat):Int)),af p (cR dp mo),X,af b1 (Oq #[V p] 27),af b2 (Oq (Sup.fQ kn d.sec d.size wn) 45),A3] H->ae prog 129 #[V b1,V b2] H fun v H=>v= I (qc d2 (0:Nat) (Sup.gg kn d.sec d.size wn)).1/\Sep [Dk dp (qc d2 (0:Nat) (Sup.gg kn d.sec d.size wn)).2,af mp (cu ⟨kn,d.sec,d.size,wn,eH,0⟩ ap rp .none 0 0),Ar ap wn 0 [],af rp (bU dp 1 8 ((8*(d.size/8):Nat):Int)),af p (cR dp mo),X,af b1 (Oq #[V p] 27),af b2 (Oq (Sup.fQ kn d.sec d.size wn) 45),A3] H:=fun A3 H hs=>by
   apply gG.ok;unfold gG;simp only[HV];refine hs.ld 6 (v:=V p) rfl rfl ?_;simp only[HV]
   try simp only[HS]
   refine hs.ld 4 (v:=V dp) rfl rfl ?_;simp only[HV];refine hs.bd 7 rfl rfl ?_
   try simp only[Array.toArray_toList]
   refine(Sup.HI (p:=dp) (d:=d2) hc2.ok (by omega) kn d.sec d.size wn (by have:=hok.sec;omega)).use hs [0] rfl rfl ?_;rintro _ _ H ⟨rfl,rfl⟩ hs;rw[hwv]at hs⊢;simp only[HV];exact⟨by trivial,hs⟩
  refine ae.mono (f2 _ H hs) ?_;rintro _ H ⟨rfl,hs⟩;refine ll _ _ ?_;simp only[HV];rcases uF hc2 0 (by rw[hsec2,hsec1];omega) (Sup.gg kn d.sec d.size wn) hfl with⟨d3,⟨h,hw3,hc3⟩|⟨h,hcut,hleft⟩⟩
  rotate_left
  .rw[h]at hs⊢;refine aT (show(8:Int)≠0 by decide) ?_;refine ae.mono (bad H d3 (hs.re [0,4] rfl) (((hw1'.trans hw2).cut hcut).more (by omega)) (hleft.mono fun c' h=>?_)) ?_
   .rcases h with e|e
    .right;left;rw[e];exact hc20
    .right;right;rw[e];exact hnew
   .rintro _ H ⟨rfl,M,h,hs⟩;simp only[HV];exact⟨M,h,hs⟩
  rw[h]at hs⊢;refine aH rfl ?_;rw[show i64.wrap ((3:Int)+1)=4 by kernel_rfl];unfold bg.l2;refine aw (by decide) ?_;simp only[HV];refine aL rfl ?_;refine hs.ld 6 (v:=V p) rfl rfl ?_;simp only[HV]
  try simp only[HS]
  refine hs.st 4 rfl (by show 1<2;omega) rfl fun H hs=>?_;refine⟨_,.inr ⟨kn,wn,rfl,rfl,hfit,.inl ⟨d3,_,(hw1'.trans hw2).trans hw3,hc3,hnew,rfl,rfl⟩⟩,?_⟩;refine En.shut (mp:=mp) (e:=bE d (fC kn wn) 0) (L:=[Dk dp d3]) ?_;exact(Me.bare (ap:=ap) (rp:=rp) (e:=bE d (fC kn wn) 0) (L:=[af p (cR dp (some mp)),Dk dp d3]) (hs.re [1,2,3,4,0] rfl) (Jd rfl)).swap
 have fo:∀(H:Hp) (b2:Nat),Sep [af p (cR dp mo),Dk dp d,X,af b1 (Oq #[V p] 27),af b2 (Oq (Sup.fQ kn d.sec d.size wn) 45)] H->ae prog 81 #[V dp,.agg (Sup.fQ kn d.sec d.size wn)] H fun v H=>∃ mp ap rp,v= .tuple #[V mp,I 0]/\Sep [af mp (cu ⟨kn,d.sec,d.size,wn,eH,0⟩ ap rp .none 0 0),Ar ap wn 0 [],af rp (bU dp 1 8 ((8*(d.size/8):Nat):Int)),Dk dp d,af p (cR dp mo),X,af b1 (Oq #[V p] 27),af b2 (Oq (Sup.fQ kn d.sec d.size wn) 45)] H:=fun H b2 hs=>by
  refine(D0 (dp:=dp) hok hg).use hs [1] rfl rfl ?_;rintro _ _ H ⟨mp,ap,rp,rfl,rfl⟩ hs;exact⟨mp,ap,rp,rfl,hs⟩
 have j5:∀ b2 H,Sep [af p (cR dp mo),Dk dp d,X,af b1 (Oq #[V p] 27),af b2 (Oq (Sup.fQ kn d.sec d.size wn) 45)] H->
   aq.j5 (fun v H'=>∃ M,AV p dp g d c kn wn v M/\Sep M H') (O b1) (O b2) H:=fun b2 H hs=>by
  unfold aq.j5 aq.j5.q1
  repeat' first
   |(refine ae.mono (fo _ _ hs) ?_;rintro _ H ⟨mp,ap,rp,rfl,hs⟩;simp only[HV];exact j6 mp ap rp _ H hs)
   |refine hs.ld 3 (v:=.pointer (some ⟨p,0,none⟩)) rfl rfl ?_
   |refine hs.ld 0 (v:=.pointer (some ⟨dp,0,none⟩)) rfl rfl ?_
   |refine hs.bd 4 rfl rfl ?_
   |(simp only[HV];try simp only[dQ,Addr.bm,Addr.add_zero,Nat.zero_add,Nat.add_zero,Array.toArray_toList])
   |refine⟨?_,?_⟩
 have hsz:∀(H:Hp) (T:List As) (K:Value->Prop),Sep ([af p (cR dp mo),Dk dp d,X,af b1 (Oq #[V p] 27)]++T) H->K (I (d.sec:Int))->bN prog 123 #[V dp] H K:=fun H T K hs h=>bN.use (lO hs 1 rfl) h
 have hsy:∀(H:Hp) (T:List As) (K:Value->Prop),Sep ([af p (cR dp mo),Dk dp d,X,af b1 (Oq #[V p] 27)]++T) H->K (I (d.size:Int))->bN prog 124 #[V dp] H K:=fun H T K hs h=>bN.use (qP hs 1 rfl) h
 repeat' first
  |exact j5 _ _ hs
  |refine hs.ld 3 (v:=.pointer (some ⟨p,0,none⟩)) rfl rfl ?_
  |refine hs.ld 0 (v:=.pointer (some ⟨dp,0,none⟩)) rfl rfl ?_
  |refine hsz _ [] _ hs ?_
  |refine hsy _ [] _ hs ?_
  |refine hsz _ [_] _ hs ?_
  |refine hsy _ [_] _ hs ?_
  |refine hs.nw fun b H hs=>?_
  |refine hs.dW 4 rfl rfl rfl rfl fun H hs=>?_
  |(simp only[HV];try simp only[HS])
  |refine⟨?_,?_⟩
theorem De {p:Nat}{d:D}{c:Cn}(hc:Clean d c)(ho:d.rd<=1000000):
  Tr prog 79 #[V p] [Dk p d] fun v M=>(d.aI≠1/\v= .tuple #[.agg (Sup.HJ (Sup.yj d (c 0)).1),I (Sup.yj d (c 0)).2]/\M=[Dk p (D.bO d 1)])\/(d.aI=1/\v= .tuple #[.agg (Sup.fQ 0 0 0 0),I 8]/\M=[Dk p (D.dead d)]):=fun H hs=>by
 have hok:=hc.ok;have hsec:=hok.sec;have hchk:d.kE 0=0:=o9 hc.down (Int.le_refl _) (by omega);by_cases hf:d.aI=1
 .have hbn:d.dG=true:=by unfold D.dG;simp[hf]
  apply kD.ok;unfold kD;refine hs.nw fun b1 H hs=>?_
  refine(vh (p:=p) (d:=d) hok (by omega) 0).use hs [0] rfl rfl ?_;rintro _ _ H (⟨h,_,_⟩|⟨_,_,rfl,rfl⟩|⟨_,h,_⟩) hs
  .exact absurd hchk h
  .simp only[HV];refine aT (by decide) ?_;refine hs.dW 1 rfl rfl rfl rfl fun H hs=>?_;refine hs.bd 1 rfl rfl ?_;rw[lS hf]at hs;exact⟨_,.inr ⟨hf,rfl,rfl⟩,hs.re [0] rfl⟩
  .rw[hbn]at h;cases h
 .have hbn:d.dG=false:=by unfold D.dG;exact decide_eq_false hf
  have e:({ d.bC with rd:=d.rd+1}:D)=D.bO d 1:=by rw[kX hc.down hf];rfl
  refine ae.mono (Sup.Jj hok ho hchk hbn H hs) ?_;rintro v H ⟨M,⟨rfl,rfl⟩,hs⟩;rw[e]at hs;rw[hc.now];exact⟨_,.inl ⟨hf,rfl,rfl⟩,hs⟩
def M5 (p dp:Nat)(d:D)(c:Cn)(o:Option Mn)(v:Value)(M:List As):Prop:=
 (∃ d',o=none/\fA d d' 1 0 0/\Clean d' c/\v= I 11/\M=[En p dp none,Dk dp d'])\/
 (∃ d' m,o=some m/\fA d d' 9 0 0/\Clean d' c/\v= I 0/\M=[En p dp (some (bE d m 0)),Dk dp d'])\/
 (∃ d',gp d d' 9/\(o=none->d.aI=1)/\Left d' (fun c'=>c'=c)/\v= I 8/\M=[En p dp none,Dk dp d'])
theorem gp.dead {d:D}{c:Cn}(hc:Clean d c)(hf:d.aI=1):gp d (D.dead d) 1/\Left (D.dead d) (fun c'=>c'=c):=by
 have h1:=gp.bO hc (j:=0) (n:=1) hf (by omega);have h2:=Left.bO hc 0;rw[Ct]at h1 h2;exact⟨h1,h2⟩
set_option maxHeartbeats 4000000 in
theorem qh {p dp:Nat}{g:Option Eg}{d:D}{c:Cn}(hc:Clean d c)(hpn:0<Lay.cc (d.size:Int))(ho:d.rd<=800000/\d.wr<=800000/\d.sy<=800000){o:Option Mn}(hh:EO d.sec d.size o c):
  Tr prog 27 #[V p] [En p dp g,Dk dp d] (M5 p dp d c o):=fun H hs=>by
 have hok:=hc.ok;have hper:=lY hpn;obtain⟨mo,X,hs,hback⟩:=En.ptr hs;have chk8:∀(T:List As) (H:Hp) (K:VK),Sep ([af p (cR dp mo)]++T) H->(∀ H,Sep ([af p (cR dp none)]++T) H->K (I 8) H)->ae prog 80 #[V p,I 8] H K:=fun T H K hs hk=>by
  apply eM.ok;unfold eM;refine aL rfl ?_
  try simp only[HS]
  refine hs.st 0 rfl (by show 1<2;omega) rfl fun H hs=>?_;exact hk H hs
 apply cM.ok;unfold cM
 try simp only[HS]
 refine hs.ld 0 (v:=V dp) rfl rfl ?_;simp only[HV];refine(De (p:=dp) hc (by omega)).use hs [2] rfl rfl ?_;rintro _ _ H (⟨hf,rfl,rfl⟩|⟨hf,rfl,rfl⟩) hs
 rotate_left
 .simp only[HV];refine hs.nw fun b1 H hs=>?_
  refine hs.dW 3 rfl rfl rfl rfl fun H hs=>?_;refine aL rfl ?_;obtain⟨h1,h2⟩:=gp.dead hc hf;refine chk8 [Dk dp (D.dead d)] H _ (hs.re [1,0] rfl) fun H hs=>?_;simp only[HV];exact⟨_,.inr (.inr ⟨_,h1.more (by omega),fun _=>hf,h2,rfl,rfl⟩),hs⟩
 have hgo1:d.aI=0\/1<d.aI:=by omega
 have hw1:=fA.bO hgo1;have hc1:=hc.bO 1;cases o with
 |none=>
  have h0:c 0=List.replicate d.size 0:=hh;have e:Sup.yj d (c 0)=((0,0,0,0),10):=by
   unfold Sup.yj;rw[h0,Sup.FH d.size hpn];rfl
  rw[e];simp only[HV];refine hs.nw fun b1 H hs=>?_
  refine hs.dW 3 rfl rfl rfl rfl fun H hs=>?_;refine aK (by decide) (aT (by decide) ?_)
  try simp only[HS]
  refine hs.st 1 rfl (by show 1<2;omega) rfl fun H hs=>?_;exact⟨_,.inl ⟨_,rfl,hw1,hc1,rfl,rfl⟩,hs.re [1,0] rfl⟩
 |some m=>
  have hh:Holds d.sec d.size m c:=hh;have hgo:=gk hh.dc;have hneed:9<=d.sec:=by have:=hgo.2.2.1;unfold Lay.fI at this;omega
  have hsec:=hok.sec;have e:Sup.yj d (c 0)=(((m.aA:Int),(d.sec:Int),(d.size:Int),(m.aO:Int)),0):=by
   unfold Sup.yj;rw[hh.sup,Sup.FG _ _ _ _ hh.dc (by omega),if_neg (by simp)];exact if_pos (show Sup.r4 d d.sec d.size=true from decide_eq_true ⟨rfl,rfl⟩)
  rw[e];simp only[HV];refine hs.nw fun b1 H hs=>?_
  refine hs.dW 3 rfl rfl rfl rfl fun H hs=>?_;refine aK (by decide) (aH rfl ?_);generalize hd1:D.bO d 1=d1 at*;have hsec1:d1.sec=d.sec:=hw1.sec;have hsize1:d1.size=d.size:=hw1.size;have hh1:Holds d1.sec d1.size m c:=by rw[hsec1,hsize1];exact hh
  have hs:Sep [Dk dp d1,af p (cR dp mo),X,af b1 (Oq (Sup.fQ m.aA d.sec d.size m.aO) 45)] H:=hs;have fo:∀(H:Hp),Sep [Dk dp d1,af p (cR dp mo),X,af b1 (Oq (Sup.fQ m.aA d.sec d.size m.aO) 45)] H->ae prog 81 #[V dp,.agg (Sup.fQ m.aA d.sec d.size m.aO)] H fun v H=>∃ mp ap rp,v= .tuple #[V mp,I 0]/\Sep [af mp (cu ⟨m.aA,d.sec,d.size,m.aO,eH,0⟩ ap rp .none 0 0),Ar ap m.aO 0 [],af rp (bU dp 1 8 ((8*(d.size/8):Nat):Int)),Dk dp d1,af p (cR dp mo),X] H:=fun H hs=>by
   rw[<- hsec1,<-hsize1]at hs⊢;refine(D0 (dp:=dp) hc1.ok hh1.dc).use hs [0] rfl rfl ?_;rintro _ _ H ⟨mp,ap,rp,rfl,rfl⟩ hs;exact⟨mp,ap,rp,rfl,hs.re [0,1,2,3,4,5] rfl⟩
  have j8:∀ mp ap rp H,Sep [af mp (cu ⟨m.aA,d.sec,d.size,m.aO,eH,0⟩ ap rp .none 0 0),Ar ap m.aO 0 [],af rp (bU dp 1 8 ((8*(d.size/8):Nat):Int)),Dk dp d1,af p (cR dp mo),X] H->
    cM.j8 (fun v H'=>∃ M,M5 p dp d c (some m) v M/\Sep M H') (Oo p) 0 (Oo mp) H:=fun mp ap rp H hs=>by
   unfold cM.j8;refine aH rfl ?_
   try simp only[HS]
   refine hs.ld 0 (v:=V rp) rfl rfl ?_;simp only[HV];have hrd1:=hw1.rd;refine(Dn (b:=rp) (p:=dp) (f:=1) (n:=8) (w:=((8*(d.size/8):Nat):Int)) (d:=d1) (by omega) (by omega) hc1.ok (by omega) (fun _=>by
    have:=uO 1 8 8 0 d1 [];have h9:(dH 1 8 d1).2.2.length<=0+8:=this;omega)).use hs [3,2] rfl rfl ?_
   rintro _ _ H ⟨rfl,rfl⟩ hs;have hs:Sep [Dk dp (dH 1 8 d1).2.1,af rp (bU dp 1 8 ((8*(d.size/8):Nat):Int)),af mp (cu ⟨m.aA,d.sec,d.size,m.aO,eH,0⟩ ap rp .none 0 0),Ar ap m.aO 0 [],af p (cR dp mo),X] H:=hs;simp only[HV];refine hs.nw fun b2 H hs=>?_
   refine hs.dW 6 rfl rfl (y:=R.c _) rfl (mI _) fun H hs=>?_;rcases wc hc1 1 8 (by rw[hsec1];omega)with⟨hf2,hsc⟩|⟨j,hj,hf2,hsc⟩
   .rw[hsc]at hs⊢;rw[B1,hh1.jV]at hs;refine aH rfl ?_;refine hs.bd 6 rfl rfl ?_
    try simp only[Array.toArray_toList]
    try simp only[HS]
    refine hs.HT 2 (off:=23) (n:=8) (y:=R.c m.r) rfl (by show 23+8<=32;omega) rfl (mI _) fun H hs=>?_;have hs:Sep [Dk dp (D.bO d1 8),af rp (bU dp 1 8 ((8*(d.size/8):Nat):Int)),af mp (cu (bE d m 0) ap rp .none 0 0),Ar ap m.aO 0 [],af p (cR dp mo),X,af b2 (Oq (R.c m.r) 110)] H:=hs;have he:=hh.eg (aj:=0) (by omega);have hkk:=he.MI;refine(G0 (mp:=mp) (ap:=ap) (rp:=rp) (e:=bE d m 0) (A:=.none) (n:=0) (m:=0) he.aA he.p ⟨he.least,he.aO⟩ (fun _=>⟨hkk.1,he.kk,he.dir⟩)).use hs [2] rfl rfl ?_;rintro _ _ H ⟨A',m',rfl,rfl⟩ hs
    try simp only[HV]
    try simp only[HS]
    refine hs.st 5 rfl (by show 1<2;omega) rfl fun H hs=>?_;refine⟨_,.inr (.inl ⟨_,m,rfl,hw1.trans (fA.bO hf2),hc1.bO 8,rfl,rfl⟩),?_⟩;exact En.nY (mp:=mp) (ap:=ap) (rp:=rp) (A:=A') (m:=m') (e:=bE d m 0) (L:=[Dk dp (D.bO d1 8)]) (hs.re [5,0,4,3,1,2] rfl)
   .rw[hsc]at hs⊢;refine aT (show(8:Int)≠0 by decide) ?_;refine chk8 [Dk dp (D.dead (D.bO d1 j))] H _ (hs.re [4,0] rfl) fun H hs=>?_;simp only[HV];have hcut:=hw1.cut (gp.bO hc1 hf2 hj);exact⟨_,.inr (.inr ⟨_,hcut.more (by omega),fun h=>(by cases h),Left.bO hc1 j,rfl,rfl⟩),hs⟩
  try simp only[HS]
  repeat' first
   |(refine ae.mono (fo _ hs) ?_;rintro _ H ⟨mp,ap,rp,rfl,hs⟩;simp only[HV];exact j8 mp ap rp H hs)
   |refine hs.ld 1 (v:=.pointer (some ⟨dp,0,none⟩)) rfl rfl ?_
   |refine hs.bd 3 rfl rfl ?_
   |(simp only[HV];try simp only[dQ,Addr.bm,Addr.add_zero,Nat.zero_add,Nat.add_zero,Array.toArray_toList])
   |refine⟨?_,?_⟩
end Eng
namespace W
open Go Go.Hw
end W
namespace Eng
open Go Go.Hw Go.Form W Shp Dsk Str Are Trn Pas Pln Rec Srt Rng
theorem ui {dp:Nat}:Tr prog 15 #[V dp] [] fun v M=>∃ p,v= V p/\M=[En p dp none]:=fun H hs=>by
 apply oe.ok;unfold oe;refine bQ rfl ?_;refine hs.nw fun p H hs=>?_
 exact⟨_,⟨p,rfl,rfl⟩,hs⟩
section
variable {p dp : Nat}
theorem CZ (dir:Int):Tr prog 71 #[V p,I dir] [En p dp none] fun v M=>v= I 5/\M=[En p dp none]:=fun H hs=>by
 apply cD.ok;unfold cD;refine(kb (p:=p) (dp:=dp) none).use hs [0] rfl rfl ?_;rintro _ _ H ⟨rfl,rfl⟩ hs;simp only[HV];refine aT (show sd none≠2 by decide) (aT (show sd none≠4 by decide) ?_);exact⟨_,⟨by first|rfl|trivial,rfl⟩,hs⟩
theorem Gm :Tr prog 62 #[V p] [En p dp none] fun v M=>v= .tuple #[.bool false,I 5]/\M=[En p dp none]:=fun H hs=>by
 apply cQ.ok;unfold cQ;refine(kb (p:=p) (dp:=dp) none).use hs [0] rfl rfl ?_;rintro _ _ H ⟨rfl,rfl⟩ hs;simp only[HV];refine aT (show sd none≠3 by decide) ?_;exact⟨_,⟨by first|rfl|trivial,rfl⟩,hs⟩
theorem yO :Tr prog 73 #[V p] [En p dp none] fun v M=>v= .tuple #[.slice none 0 0,I 11]/\M=[En p dp none]:=fun H hs=>by
 apply fa.ok;unfold fa;refine(kb (p:=p) (dp:=dp) none).use hs [0] rfl rfl ?_;rintro _ _ H ⟨rfl,rfl⟩ hs;simp only[HV];refine aC (show sd none<2 by decide) ?_;exact⟨_,⟨by first|rfl|trivial,rfl⟩,hs⟩
theorem xr :Tr prog 72 #[V p] [En p dp none] fun v M=>v= .tuple #[.slice none 0 0,I 12]/\M=[En p dp none]:=fun H hs=>by
 apply eR.ok;unfold eR;refine(kb (p:=p) (dp:=dp) none).use hs [0] rfl rfl ?_;rintro _ _ H ⟨rfl,rfl⟩ hs;simp only[HV];refine aT (show sd none≠4 by decide) ?_;exact⟨_,⟨by first|rfl|trivial,rfl⟩,hs⟩
theorem Gb {A:OA}{n mm:Nat}:Tr prog 70 #[V p,.slice A n mm] [En p dp none] fun v M=>v= .tuple #[I 0,I 5]/\M=[En p dp none]:=fun H hs=>by
 have hs:Sep [af p (cR dp none)] H:=hs;apply ax.ok;unfold ax ax.q3 ax.q2 ax.q1;refine hs.nw fun b1 H hs=>?_
 refine hs.nw fun b2 H hs=>?_
 refine hs.ld 1 (v:=V p) rfl rfl ?_;simp only[HV]
 try simp only[HS]
 refine hs.ld 0 (v:=.pointer none) rfl rfl ?_;simp only[HV];exact cV rfl ⟨_,⟨by first|rfl|trivial,rfl⟩,hs.re [0] rfl⟩
end
end Eng
namespace Eng
open Go Go.Hw Go.Form W Shp Dsk Str Are Trn Ker Fft Pas Pln
theorem Fs {k aa words:Nat}(hk:k<=32)(hp:aa<=512)(hw:words<=16777216)(d:Bool):
  Tr prog 105 #[I (k:Int),I (if d=true then 1 else 0),I (aa:Int),I (words:Int)] [] fun v M=>∃ b,v= .slice (Oo b) (dz d k aa words).length (dz d k aa words).length/\M=[af b (.row (fb (dz d k aa words)) 221 ((dz d k aa words).length*8))]:=fun H hs=>by
 have h2:=gV hk;have h0:=Int.natCast_nonneg (2^k);apply bL.ok;unfold bL;have j6:uS k aa words=false->bL.j6 (fun v H'=>∃ M,(∃ b,v= .slice (Oo b) (dz d k aa words).length (dz d k aa words).length/\M=[af b (.row (fb (dz d k aa words)) 221 ((dz d k aa words).length*8))])/\Sep M H') (k:Int) (if d=true then 1 else 0) ((me d k).toNat:Int) H:=fun hb=>by
  have hpl:dz d k aa words=qy d k:=by unfold dz;rw[if_neg (by rw[hb];decide)]
  unfold bL.j6;rw[show Int.tdiv (k:Int) 2=((k/2:Nat):Int)from rfl,ed (n:=k/2),show(k:Int)-((k/2:Nat):Int)=((k-k/2:Nat):Int) by omega,ed (n:=k-k/2)];refine⟨by decide,by simp,?_⟩;refine ae.use (rj (k/2) (by omega) H) ?_;simp only[HV];refine⟨by decide,by simp,?_⟩;refine ae.use (rj (k-k/2) (by omega) H) ?_;simp only[HV];refine hs.nw fun b2 H hs=>?_
  refine hs.dW 0 rfl rfl rfl rfl fun H hs=>?_
  try simp only[HS]
  refine hs.ld 0 (v:=I ((2^(k-k/2):Nat):Int)) rfl rfl ?_;simp only[HV];refine hs.ld 0 (v:=I ((2^(k/2):Nat):Int)) rfl rfl ?_;simp only[HV];refine hs.nw fun b3 H hs=>?_
  refine hs.dW 1 rfl rfl rfl rfl fun H hs=>?_;refine hs.bd 0 rfl rfl ?_;simp only[HV];refine hs.bd 1 rfl rfl ?_;simp only[HV];refine hs.bd 1 rfl rfl ?_;simp only[HV];refine hs.bd 0 rfl rfl ?_;simp only[HV];refine hs.bd 0 rfl rfl ?_;simp only[HV];refine hs.nw fun b4 H hs=>?_
  rw[hpl];exact⟨_,⟨b4,rfl,rfl⟩,hs.re [2] rfl⟩
 have j4:bL.j4 (fun v H'=>∃ M,(∃ b,v= .slice (Oo b) (dz d k aa words).length (dz d k aa words).length/\M=[af b (.row (fb (dz d k aa words)) 221 ((dz d k aa words).length*8))])/\Sep M H') (k:Int) (if d=true then 1 else 0) (aa:Int) (words:Int) ((me d k).toNat:Int) H:=by
  unfold bL.j4;by_cases h20:(k:Int)<=20
  .refine aC h20 ?_;refine ae.use (rj k (by omega) H) ?_;simp only[HV];rw[bu (x:=(2:Int)*((2^k:Nat):Int)),bu (x:=(2:Int)*((2^k:Nat):Int)+(aa:Int))];by_cases hle:(2:Int)*((2^k:Nat):Int)+(aa:Int)<=(words:Int)
   .refine aC hle ?_;refine ae.use (rj k (by omega) H) ?_;simp only[HV];refine hs.nw fun b4 H hs=>?_
    have hpl:dz d k aa words=[uT d k]:=if_pos (show uS k aa words=true from decide_eq_true ⟨by omega,by omega⟩);rw[hpl];exact⟨_,⟨b4,rfl,rfl⟩,hs.re [0] rfl⟩
   .refine aw hle (j6 (decide_eq_false (by omega)))
  .exact aw h20 (j6 (decide_eq_false (by omega)))
 cases d with
 |false=>exact aK (by decide) j4
 |true=>
  refine aL rfl ?_;refine ae.use (Aq k hk H) ?_;simp only[HV];have e:((Fft.pw half k).val:Int)=((me true k).toNat:Int):=by show _=((uw (Fft.pw half k)).toNat:Int);rw[yD]
  rw[e];exact j4
end Eng
namespace Trn
open Go Go.Hw Go.Crc Go.Form W Shp Str Dsk Are
end Trn
namespace Eng
open Go Go.Hw Go.Form W Shp Dsk Str Are Trn Pas Pln
abbrev O3 :=Nat×Nat×Nat
def NO (B:Nat)(o:O3):Prop:=o.1<=B/\o.2.1<=B/\o.2.2<=B
theorem wF {s:Nat}:∀(rows:List (List Value)) (i j:Nat) (r:List Value) (v:Value),(∀ r∈rows,r.length=s)->rows[i]? =some r->r[j]? =some v->rows.flatten[i*s+j]? =some v
 | [],i,j,r,v,_,hi,_=>by simp at hi
 |x::rows,0,j,r,v,hl,hi,hj=>by
  have e:x=r:=by simpa using hi
  have hlt:=(List.getElem?_eq_some_iff.1 hj).1;rw[List.flatten_cons,Nat.zero_mul,Nat.zero_add,e,List.getElem?_append_left hlt];exact hj
 |x::rows,i+1,j,r,v,hl,hi,hj=>by
  have hx:=hl x (by simp);rw[List.flatten_cons,List.getElem?_append_right (by rw[hx,Nat.succ_mul];omega),hx,show(i+1)*s+j-s=i*s+j by rw[Nat.succ_mul];omega];exact wF rows i j r v (fun r hr=>hl r (List.mem_cons_of_mem _ hr)) (by simpa using hi) hj
theorem zH {s:Nat}(hs:0<s){H:Hp}{A:OA}{rows:List (List Value)}(hl:∀ r∈rows,r.length=s)(hc:Cells H A rows.flatten):eU s H A rows:=fun i r hi=>by
 have hr:=hl r (List.mem_of_getElem? hi);have h0:r[0]? =some (r[0]'(by omega)):=List.getElem?_eq_getElem (by omega);obtain⟨a,ha,_⟩:=hc _ _ (wF rows i 0 r _ hl hi h0);refine⟨a,ha,fun j v hj=>?_⟩;obtain⟨a',ha',h⟩:=hc _ _ (wF rows i j r v hl hi hj);rw[ha]at ha';cases ha';exact h
def JT (aA k words:Nat)(ps:List Pz)(cs:List O3):Prop:=cs.length=ps.length/\∀(i:Nat) (pz:Pz) (o:O3),ps[i]? =some pz->cs[i]? =some o->∃ r w,u9 4 words (eY aA 4 pz.f k).f (eY aA 4 pz.o k).f pz r w/\o=(r+Lay.bS k 4,w,1)/\NO 1000000000 o
theorem JT.small {aA k words:Nat}{ps:List Pz}{cs:List O3}(h:JT aA k words ps cs):∀ o∈cs,NO 1000000000 o:=fun o ho=>by
 obtain⟨i,hi,rfl⟩:=List.getElem_of_mem ho;have hp:i<ps.length:=by rw[<- h.1];exact hi
 obtain⟨_,_,_,_,hs⟩:=h.2 i _ _ (List.getElem?_eq_getElem hp) (List.getElem?_eq_getElem hi);exact hs
theorem qB {e:TypeId}{s:Nat}{A:OA}{n m:Nat}{xs:List Value}{H:Hp}(h:bH e s A n m xs H):Cells H A xs:=by
 obtain⟨h1,⟨rfl,rfl,rfl⟩|⟨b,mm,rfl,h4,_⟩⟩:=h
 .rw[Nat.zero_mul]at h1;rw[List.length_eq_zero_iff.1 h1];exact Cells.nil _ _
 .have:=Cells.row h4 0 xs.length
  rwa [List.drop_zero,List.take_length]at this
section
variable {aA k words : Nat} (hm : aA <= 32) (hk : k <= aA) (hk6 : k <= 6) (hw : words <= 1000) {H0 : Hp} (hT : T64 H0)
include hm hk hk6 hw hT
end
end Eng
namespace Eng
open Go Go.Hw Go.Form W Shp Dsk Str Are Trn Ker Fft Pas Pln
theorem Jk (d:Bool)(k:Nat)(l:List UInt64):gK (zw 1) (iu d k l)=iu d k l:=by
 have e1:zw 1=1:=by decide
 apply List.ext_getElem?;intro i;by_cases hi:i<2^k
 .rw[wY _ (qV d k l hi),qV d k l hi,vC,e1];congr 2;grind
 .rw[List.getElem?_eq_none (by rw[pe,lU];omega),List.getElem?_eq_none (by rw[lU];omega)]
theorem Ax (k:Nat)(l:List UInt64):sW false k l=iu false k l:=Jk false k l
theorem JF (k:Nat)(l:List UInt64):sW true k l=gK (Fft.pw half k) (iu true k l):=by
 show gK (zw (uw (Fft.pw half k))) _=_
 rw[vC]
theorem BJ {R:As}{A:OA}{n m k:Nat}{l:List UInt64}(hR:∀ H,R H->Cells H A (ah l))(hl:l.length=n)(hn:n=2^k)(hk:k<=20)(d:Bool):
  Tr prog 63 #[.slice A n m,I (k:Int),I (if d=true then 1 else 0)] [R] fun v M=>∃ A2 m2,v= .slice A2 n m2/\M=[bH 108 1 A2 n m2 (ah (sW d k l)),R]:=fun H hs=>by
 have h20:=dw hk;apply gE.ok;unfold gE;refine(Ll hR hl hn hk d).use hs [0] rfl rfl ?_;rintro _ _ H ⟨A2,m2,rfl,rfl⟩ hs;simp only[HV];cases d with
 |false=>
  refine aK (by decide) ?_;rw[Ax];exact⟨_,⟨A2,m2,rfl,rfl⟩,hs.re [0,1] rfl⟩
 |true=>
  refine aL rfl ?_;refine ae.use (Aq k (by omega) H) ?_;simp only[HV];refine(Hu (R:=bH 108 1 A2 n m2 (ah (iu true k l))) (l:=iu true k l) (Fft.pw half k).val (by have:=(Fft.pw half k).isLt;omega) (fun H h=>?_) (by rw[lU,hn]) (by omega)).use hs [0] rfl rfl ?_
  .exact qB h
  rintro _ _ H ⟨A3,m3,rfl,rfl⟩ hs;simp only[HV];rw[nZ,<-JF]at hs;exact⟨_,⟨A3,m3,rfl,rfl⟩,hs.re [0,2] rfl⟩
end Eng
namespace W
open Go Go.Hw
theorem eZ :prog.follows .mixedOrders=true:=by kernel_rfl
def bT.l9 (K:VK):Nat->OA->Nat->Nat->Addr->Addr->Int->Int->Hp->Prop
 |0,_,_,_,_,_,_,_,_=>False
 |k+1,A2,n2,m2,a1,a2,x4,x5,H=>
  let R9:=bT.l9 K k
  ao (decide (x5<(n2:Int))) (cX x5 n2 (NN A2 fun a3=>eo H (a3.add (x5.toNat*1)) fun x6=>ao (decide (x6>=18446744069414584321)) (aJ H a1 12 fun l4=>bR H a2 l4.toArray 12 fun H7=>aJ H7 a2 12 fun l9=>K (.tuple #[.agg l9.toArray,I x5,I 3]) H7) (R9 A2 n2 m2 a1 a2 x4 (i64.wrap (x5+1)) H))) (aM H (a1.add 10) fun x7=>St H ((a1.add 10).add 0) (I (i64.wrap (x7+1))) fun H8=>aM H8 (a1.add 10) fun x8=>bR H8 (a1.add 0) #[I 2,I x8,I x4,I 0,I 0,I 0] 6 fun H9=>Nw H9 (.row [] 108 0) fun b3 H10=>gC prog 108 (.slice (Oo b3) 0 0) (.slice A2 n2 m2) H10 fun v7 H11=>aF v7 fun A3 n3 m3=>St H11 ((a1.add 11).add 0) (.slice A3 n3 m3) fun H12=>aJ H12 a1 12 fun l5=>bR H12 a2 l5.toArray 12 fun H13=>aJ H13 a2 12 fun l10=>K (.tuple #[.agg l10.toArray,I 0,I 0]) H13)
def bT (y1:Array Value)(A1:OA)(n1 m1:Nat)(H:Hp)(K:VK):Prop:=
 Nw H (Oq y1 33) fun b1 H1=>Nw H1 (Oq #[I 0,I 0,I 0,I 0,I 0,I 0,I 0,I 0,I 0,I 0,I 0,.slice none 0 0] 33) fun b2 H2=>aM H2 (((O b1).add 0).add 0) fun x1=>ao (x1==0) (aJ H2 (O b1) 12 fun l1=>bR H2 (O b2) l1.toArray 12 fun H3=>aJ H3 (O b2) 12 fun l6=>K (.tuple #[.agg l6.toArray,I 0,I 5]) H3) (cF 86 #[I (n1:Int)] H2 fun x2 H4=>ao (decide (x2<0)) (aJ H4 (O b1) 12 fun l2=>bR H4 (O b2) l2.toArray 12 fun H5=>aJ H5 (O b2) 12 fun l7=>K (.tuple #[.agg l7.toArray,I 0,I 4]) H5) (aM H4 ((O b1).add 6) fun x3=>ao (decide (x2>x3)) (aJ H4 (O b1) 12 fun l3=>bR H4 (O b2) l3.toArray 12 fun H6=>aJ H6 (O b2) 12 fun l8=>K (.tuple #[.agg l8.toArray,I 0,I 14]) H6) ((∃ k,bT.l9 K k A1 n1 m1 (O b1) (O b2) x2 0 H4))))
def bT.l9.L (K:VK)(k:Nat):dm:=fun E D H=>
 DG (E.get? 1) fun w1=>aF w1 fun A2 n2 m2=>eN E 2 fun a1=>eN E 4 fun a2=>eI E 7 .i64 fun x4=>eI E 8 .i64 fun x5=>az D (bT.l9 K k A2 n2 m2 a1 a2 x4 x5 H)
def bT.Λ9 (_:VK)(_R9:OA->Nat->Nat->Addr->Addr->Int->Int->Hp->Prop):aN:=aN.none (fun _=>none)
def bT.Λ (K:VK):aN:=⟨fun i=>none,fun i=>match Nat.beq i 9 with|true=>some (fun E D H=>∃ k,bT.l9.L K k E D H)|false=>none,(fun _=>none)⟩
theorem bT.ok y1 A1 n1 m1 H K (h:bT y1 A1 n1 m1 H K):ae prog 54 #[.agg y1,.slice A1 n1 m1] H K:=
 dX (Λ:=(bT.Λ K)) eZ Tryz.func54 rfl rfl h (oC (fun E D H h=>by
   refine Safe.c0 (bT.l9.L K) (fun E D H h=>?_) (fun k E D H h=>?_) E D H h
   .obtain⟨w1,e1,g1⟩:=DG.out h;obtain⟨A2,n2,m2,rfl,g2⟩:=aF.out g1;obtain⟨w2,e2,g3⟩:=DG.out g2;obtain⟨pw2,rfl,g4⟩:=DP.out g3;obtain⟨a1,rfl,g5⟩:=NN.out g4;obtain⟨w4,e4,g6⟩:=DG.out g5;obtain⟨pw4,rfl,g7⟩:=DP.out g6;obtain⟨a2,rfl,g8⟩:=NN.out g7;obtain⟨w7,e7,g9⟩:=DG.out g8;obtain⟨x4,rfl,g10⟩:=DI.out g9;obtain⟨w8,e8,g11⟩:=DG.out g10;obtain⟨x5,rfl,g12⟩:=DI.out g11;obtain⟨rfl,h'⟩:=az.out g12;exact h'
   .obtain⟨w1,e1,g1⟩:=DG.out h;obtain⟨A2,n2,m2,rfl,g2⟩:=aF.out g1;obtain⟨a1,e2,g5⟩:=GN g2;obtain⟨a2,e4,g8⟩:=GN g5;obtain⟨x4,e7,g10⟩:=GI g8;obtain⟨x5,e8,g12⟩:=GI g10;obtain⟨rfl,h'⟩:=az.out g12;exact cY (Λ:=(bT.Λ9 K (bT.l9 K k))) eZ [] (ag.cons e1 (ag.cons e2 (ag.cons e4 (ag.cons e7 (ag.cons e8 (ag.nil _)))))) h' oN) oN)
def bM.j5 (K:VK)(x5:Int)(a3 a4:Addr)(H:Hp):=
 aM H ((a3.add 0).add 2) fun x6=>aJ H a3 12 fun l3=>fc 106 #[.agg l3.toArray] H fun x7=>aM H (a3.add 7) fun x8=>jF 105 #[I x6,I x5,I x7,I x8] H fun A1 n1 m1 H5=>aM H5 ((a3.add 0).add 1) fun x9=>aM H5 ((a3.add 0).add 2) fun x10=>bR H5 (a3.add 0) #[I 3,I x9,I x10,I x5,I 0,I (n1:Int)] 6 fun H6=>aJ H6 a3 12 fun l4=>bR H6 a4 l4.toArray 12 fun H7=>aJ H7 a4 12 fun l7=>K (.tuple #[.agg l7.toArray,I 0]) H7
def bM.j3 (K:VK)(x4:Int)(a1 a2:Addr)(H:Hp):=
 ao (x4 !=0) (ao (x4 !=1) (aJ H a1 12 fun l2=>bR H a2 l2.toArray 12 fun H4=>aJ H4 a2 12 fun l6=>K (.tuple #[.agg l6.toArray,I 18]) H4) (bM.j5 K x4 a1 a2 H)) (bM.j5 K x4 a1 a2 H)
def bM (y1:Array Value)(x1:Int)(H:Hp)(K:VK):Prop:=
 Nw H (Oq y1 33) fun b1 H1=>Nw H1 (Oq #[I 0,I 0,I 0,I 0,I 0,I 0,I 0,I 0,I 0,I 0,I 0,.slice none 0 0] 33) fun b2 H2=>aM H2 (((O b1).add 0).add 0) fun x2=>ao (x2 !=2) (aM H2 (((O b1).add 0).add 0) fun x3=>ao (x3 !=4) (aJ H2 (O b1) 12 fun l1=>bR H2 (O b2) l1.toArray 12 fun H3=>aJ H3 (O b2) 12 fun l5=>K (.tuple #[.agg l5.toArray,I 5]) H3) (bM.j3 K x1 (O b1) (O b2) H2)) (bM.j3 K x1 (O b1) (O b2) H2)
def bM.Λ (K:VK):aN:=⟨fun i=>match Nat.beq i 5 with|true=>some (fun E D H=>eI E 1 .i64 fun x5=>eN E 2 fun a3=>eN E 4 fun a4=>az D (bM.j5 K x5 a3 a4 H))|false=>match Nat.beq i 3 with|true=>some (fun E D H=>eI E 1 .i64 fun x4=>eN E 2 fun a1=>eN E 4 fun a2=>az D (bM.j3 K x4 a1 a2 H))|false=>none,fun i=>none,(fun i=>match Nat.beq i 5 with|true=>some ([],[0,1,2,3,4,5,6,7],8)|false=>none)⟩
theorem bM.ok y1 x1 H K (h:bM y1 x1 H K):ae prog 55 #[.agg y1,I x1] H K:=
 dX (Λ:=(bM.Λ K)) eZ Tryz.func55 rfl rfl h (oC (fun E D H h=>by
   obtain⟨x4,e1,g2⟩:=GI h;obtain⟨a1,e2,g5⟩:=GN g2;obtain⟨a2,e4,g8⟩:=GN g5;obtain⟨rfl,h'⟩:=az.out g8;exact cY (Λ:=(bM.Λ K)) eZ [] (ag.cons e1 (ag.cons e2 (ag.cons e4 (ag.nil _)))) h' (oC (fun E D H h=>by
     obtain⟨x5,e1,g2⟩:=GI h;obtain⟨a3,e2,g5⟩:=GN g2;obtain⟨a4,e4,g8⟩:=GN g5;obtain⟨rfl,h'⟩:=az.out g8;exact cY (Λ:=(bM.Λ K)) eZ [] (ag.cons e1 (ag.cons e2 (ag.cons e4 (ag.nil _)))) h' oN) oN)) oN)
def iB (y1:Array Value)(H:Hp)(K:VK):Prop:=
 Nw H (Oq y1 33) fun b1 H1=>jy H1 ((O b1).add 11) fun A1 n1 m1=>aM H1 (((O b1).add 0).add 2) fun x1=>aM H1 (((O b1).add 0).add 3) fun x2=>jF 63 #[.slice A1 n1 m1,I x1,I x2] H1 fun A2 n2 m2 H2=>K (.slice A2 n2 m2) H2
theorem iB.ok y1 H K (h:iB y1 H K):ae prog 56 #[.agg y1] H K:=
 cg eZ Tryz.func56 rfl rfl h
def dK.q1 (H2:Hp)(b1 b2:Nat)(K:VK):Prop:=
 aJ H2 (O b1) 12 fun l1=>bR H2 (O b2) l1.toArray 12 fun H3=>aJ H3 (O b2) 12 fun l8=>K (.tuple #[.agg l8.toArray,I 1]) H3
def dK (y1:Array Value)(x1 x2:Int)(H:Hp)(K:VK):Prop:=
 Nw H (Oq y1 33) fun b1 H1=>Nw H1 (Oq #[I 0,I 0,I 0,I 0,I 0,I 0,I 0,I 0,I 0,I 0,I 0,.slice none 0 0] 33) fun b2 H2=>ao (decide (x2<1)) (dK.q1 H2 b1 b2 K) (ao (decide (x2>16777216)) (dK.q1 H2 b1 b2 K) (ao (decide (x1<0)) (dK.q1 H2 b1 b2 K) (ao (decide (x1>32)) (dK.q1 H2 b1 b2 K) (aM H2 ((O b1).add 8) fun x3=>aM H2 ((O b1).add 9) fun x4=>fc 107 #[I x1,I x4] H2 fun x5=>ao (decide (x3<x5)) (aJ H2 (O b1) 12 fun l5=>bR H2 (O b2) l5.toArray 12 fun H7=>aJ H7 (O b2) 12 fun l12=>K (.tuple #[.agg l12.toArray,I 7]) H7) (aJ H2 (O b1) 12 fun l6=>cF 106 #[.agg l6.toArray] H2 fun x6 H8=>cF 108 #[I x1,I x6] H8 fun x7 H9=>ao (decide (x2<x7)) (aJ H9 (O b1) 12 fun l7=>bR H9 (O b2) l7.toArray 12 fun H10=>aJ H10 (O b2) 12 fun l13=>K (.tuple #[.agg l13.toArray,I 6]) H10) (aM H9 ((O b1).add 8) fun x8=>aM H9 ((O b1).add 9) fun x9=>bR H9 (O b2) #[I 1,I 0,I 0,I 0,I 0,I 0,I x1,I x2,I x8,I x9,I 0,.slice none 0 0] 12 fun H11=>aJ H11 (O b2) 12 fun l14=>K (.tuple #[.agg l14.toArray,I 0]) H11))))))
theorem dK.ok y1 x1 x2 H K (h:dK y1 x1 x2 H K):ae prog 75 #[.agg y1,I x1,I x2] H K:=
 cg eZ Tryz.func75 rfl rfl h
def jq (y1:Array Value)(H:Hp)(K:VK):Prop:=
 Nw H (Oq y1 33) fun b1 H1=>Nw H1 (Oq #[I 0,I 0,I 0,I 0,I 0,I 0,I 0,I 0,I 0,I 0,I 0,.slice none 0 0] 33) fun b2 H2=>aM H2 (((O b1).add 0).add 0) fun x1=>ao (x1 !=3) (aJ H2 (O b1) 12 fun l1=>bR H2 (O b2) l1.toArray 12 fun H3=>aJ H3 (O b2) 12 fun l4=>K (.tuple #[.agg l4.toArray,I 5]) H3) (aM H2 (((O b1).add 0).add 4) fun x2=>St H2 ((((O b1).add 0).add 4).add 0) (I (i64.wrap (x2+1))) fun H4=>aM H4 (((O b1).add 0).add 4) fun x3=>aM H4 (((O b1).add 0).add 5) fun x4=>ao (x3==x4) (St H4 ((((O b1).add 0).add 0).add 0) (I 4) fun H5=>aJ H5 (O b1) 12 fun l2=>bR H5 (O b2) l2.toArray 12 fun H6=>aJ H6 (O b2) 12 fun l5=>K (.tuple #[.agg l5.toArray,I 0]) H6) (aJ H4 (O b1) 12 fun l3=>bR H4 (O b2) l3.toArray 12 fun H7=>aJ H7 (O b2) 12 fun l6=>K (.tuple #[.agg l6.toArray,I 0]) H7))
theorem jq.ok y1 H K (h:jq y1 H K):ae prog 76 #[.agg y1] H K:=
 cg eZ Tryz.func76 rfl rfl h
def iV (y1:Array Value)(H:Hp)(K:VK):Prop:=
 Nw H (Oq y1 33) fun b1 H1=>Nw H1 (Oq #[I 0,I 0,I 0,I 0,I 0,I 0,I 0,I 0,I 0,I 0,I 0,.slice none 0 0] 33) fun b2 H2=>aM H2 ((O b1).add 10) fun x1=>St H2 (((O b1).add 10).add 0) (I (i64.wrap (x1+1))) fun H3=>aM H3 ((O b1).add 10) fun x2=>bR H3 ((O b1).add 0) #[I 1,I x2,I 0,I 0,I 0,I 0] 6 fun H4=>St H4 (((O b1).add 11).add 0) (.slice none 0 0) fun H5=>aJ H5 (O b1) 12 fun l1=>bR H5 (O b2) l1.toArray 12 fun H6=>aJ H6 (O b2) 12 fun l2=>K (.agg l2.toArray) H6
theorem iV.ok y1 H K (h:iV y1 H K):ae prog 84 #[.agg y1] H K:=
 cg eZ Tryz.func84 rfl rfl h
def jJ (y1:Array Value)(H:Hp)(K:VK):Prop:=
 Nw H (Oq y1 33) fun b1 H1=>aM H1 ((O b1).add 9) fun x1=>((8:Int)≠0/\i64=i64/\K (I (i64.wrap (Int.tdiv x1 8))) H1)
theorem jJ.ok y1 H K (h:jJ y1 H K):ae prog 106 #[.agg y1] H K:=
 cg eZ Tryz.func106 rfl rfl h
end W
namespace Eng
open Go Go.Hw Go.Form W Shp Dsk Str Are Trn Pas Pln
def fO (s:Int×Int×Int×Int×Int×Int)(mo ar sc sz ld:Int)(A:OA)(n m:Nat):Array Value:=#[I s.1,I s.2.1,I s.2.2.1,I s.2.2.2.1,I s.2.2.2.2.1,I s.2.2.2.2.2,I mo,I ar,I sc,I sz,I ld,.slice A n m]
abbrev gI (s:Int×Int×Int×Int×Int×Int)(mo ar sc sz ld:Int)(A:OA)(n m:Nat):AO:=Oq (fO s mo ar sc sz ld A n m) 33
def dX (l:List UInt64)(aA k:Nat):Prop:=lg (l.length:Int)=some k/\k<=aA/\lN l
section
variable {R0 : As} {A : Option Addr} {n m : Nat} {l : List UInt64} (hn : n = l.length) (hl : n <= 1000000) (hR : ∀ H, R0 H -> Cells H A (ah l))
include hn hl hR
end
theorem Fp {k:Nat}{s0 s1 s4 s5 mo ar sc sz ld:Int}{A:OA}{n m:Nat}{l:List UInt64}{R0:As}(hR:∀ H,R0 H->Cells H A (ah l))(hl:l.length=n)(hn:n=2^k)(hk:k<=20)(b:Bool):
  Tr prog 56 #[.agg (fO (s0,s1,k,if b=true then 1 else 0,s4,s5) mo ar sc sz ld A n m)] [R0] fun v M=>∃ A2 m2,v= .slice A2 n m2/\M=[bH 108 1 A2 n m2 (ah (sW b k l)),R0]:=fun H hs=>by
 apply iB.ok;unfold iB;refine hs.nw fun b1 H hs=>?_
 have hs:Sep [R0,af b1 (gI (s0,s1,k,if b=true then 1 else 0,s4,s5) mo ar sc sz ld A n m)] H:=hs
 try simp only[HS]
 refine hs.ld 1 (v:=.slice A n m) rfl rfl ?_;simp only[HV];refine hs.ld 1 (v:=I (k:Int)) rfl rfl ?_;simp only[HV];refine hs.ld 1 (v:=I (if b=true then 1 else 0)) rfl rfl ?_;simp only[HV];refine(BJ (R:=R0) hR hl hn hk b).use hs [0] rfl rfl ?_;rintro _ _ H ⟨A2,m2,rfl,rfl⟩ hs;simp only[HV];exact⟨_,⟨A2,m2,rfl,rfl⟩,hs.re [0,1] rfl⟩
abbrev S6 :=Int×Int×Int×Int×Int×Int
def z6 :S6:=(0,0,0,0,0,0)
abbrev iO :AO:=gI z6 0 0 0 0 0 .none 0 0
theorem Ec {s:S6}{mo ar sc ld:Int}{A:OA}{n m:Nat}(H:Hp):ae prog 106 #[.agg (fO s mo ar sc 32 ld A n m)] H (RetE (I ((32/8:Nat):Int)) H):=ae.ret (by
 apply jJ.ok;unfold jJ;refine(Sep.start H).nw fun b3 H3 hs=>?_
 have hs:Sep [own H,af b3 (gI s mo ar sc 32 ld A n m)] H3:=hs
 try simp only[HS]
 refine hs.ld 1 (v:=I 32) rfl rfl ?_;simp only[HV]
 first|exact⟨by decide,by simp,hs.fin 0 rfl _⟩|exact hs.fin 0 rfl _)
section
variable {s : S6} {mo ar sc ld : Int} {A : Option Addr} {n m : Nat}
theorem oL {L:List As}{H:Hp}{b1 b2 i j:Nat}{sz:Int}{y:Array Value}{Q:List Value->Hp->Prop}(hs:Sep L H)(hi:L[i]? =some (af b1 (gI s mo ar sc sz ld A n m)))(hj:L[j]? =some (af b2 (Oq y 33)))(hy:y.size=12)
  (k:∀ H,Sep (L.set j (af b2 (gI s mo ar sc sz ld A n m))) H->Q (fO s mo ar sc sz ld A n m).toList H):
  aJ H (O b1) 12 fun l1=>bR H (O b2) l1.toArray 12 fun H3=>aJ H3 (O b2) 12 fun l6=>Q l6 H3:=by
 refine hs.bd i hi rfl ?_;refine hs.dW j (y:=fO s mo ar sc sz ld A n m) hj hy rfl rfl fun H hs=>?_;refine hs.bd j (List.getElem?_set_self ?_) rfl ?_
 .exact(List.getElem?_eq_some_iff.1 hj).1
 .exact k H hs
theorem yh {sec:Nat}(hsec:sec<=1000000)(k w:Int):
  Tr prog 75 #[.agg (fO s mo ar sec 32 ld A n m),I k,I w] [] fun v M=>v= .tuple #[.agg (if dM sec (32/8) k w=0 then fO (1,0,0,0,0,0) k w sec 32 0 .none 0 0 else fO s mo ar sec 32 ld A n m),I (dM sec (32/8) k w)]/\M=[]:=fun H hs=>by
 apply dK.ok;unfold dK dK.q1;refine hs.nw fun b1 H hs=>?_
 refine hs.nw fun b2 H hs=>?_
 have hs:Sep [af b1 (gI s mo ar sec 32 ld A n m),af b2 iO] H:=hs;have bad:∀(e:Int) (H:Hp),dM sec (32/8) k w=e->e≠0->Sep [af b1 (gI s mo ar sec 32 ld A n m),af b2 iO] H->
   aJ H (O b1) 12 fun l1=>bR H (O b2) l1.toArray 12 fun H3=>aJ H3 (O b2) 12 fun l8=>∃ M,((Value.tuple #[.agg l8.toArray,I e])= .tuple #[.agg (if dM sec (32/8) k w=0 then fO (1,0,0,0,0,0) k w sec 32 0 .none 0 0 else fO s mo ar sec 32 ld A n m),I (dM sec (32/8) k w)]/\M=[])/\Sep M H3:=fun e H he h0 hs=>by
  refine oL hs (i:=0) (j:=1) rfl rfl rfl fun H hs=>?_;exact⟨_,⟨by rw[he,if_neg h0],rfl⟩,hs.re [] rfl⟩
 by_cases h1:w<1
 .exact aC h1 (bad 1 H (by unfold dM;rw[if_pos (.inl h1)]) (by decide) hs)
 refine aw h1 ?_;by_cases h2:w>16777216
 .exact aC h2 (bad 1 H (by unfold dM;rw[if_pos (.inr (.inl h2))]) (by decide) hs)
 refine aw h2 ?_;by_cases h3:k<0
 .exact aC h3 (bad 1 H (by unfold dM;rw[if_pos (.inr (.inr (.inl h3)))]) (by decide) hs)
 refine aw h3 ?_;by_cases h4:k>32
 .exact aC h4 (bad 1 H (by unfold dM;rw[if_pos (.inr (.inr (.inr h4)))]) (by decide) hs)
 refine aw h4 ?_;obtain⟨k,rfl⟩:=Int.eq_ofNat_of_zero_le (show 0<=k by omega);have hk:k<=32:=by omega
 have e0:∀{a b:Int},(if w<1\/w>16777216\/(k:Int)<0\/(k:Int)>32 then a else b)=b:=fun{a b}=>if_neg (by omega)
 have hfit:dM sec (32/8) (k:Int) w=if(sec:Int)<Lay.fI k (32/8)then 7 else if w<fB k (32/8)then 6 else 0:=by unfold dM;rw[e0,Int.toNat_natCast]
 try simp only[HS]
 refine hs.ld 0 (v:=I (sec:Int)) rfl rfl ?_;simp only[HV];refine hs.ld 0 (v:=I 32) rfl rfl ?_;simp only[HV];refine bN.use (Sup.Ge k hk 32 (by decide) H) ?_;simp only[HV];have hpe:Lay.cc 32=32/8:=by decide
 rw[hpe];by_cases h5:(sec:Int)<Lay.fI k (32/8)
 .exact aC h5 (bad 7 H (by rw[hfit,if_pos h5]) (by decide) hs)
 refine aw h5 ?_;refine hs.bd 0 rfl rfl ?_
 try simp only[Array.toArray_toList]
 refine ae.use (Ec (s:=s) (mo:=mo) (ar:=ar) (sc:=sec) (ld:=ld) (A:=A) (n:=n) (m:=m) H) ?_;simp only[HV];refine ae.use (Hn k (32/8) hk (by omega) H) ?_;simp only[HV];by_cases h6:w<fB k (32/8)
 .exact aC h6 (bad 6 H (by rw[hfit,if_neg h5,if_pos h6]) (by decide) hs)
 refine aw h6 ?_;refine hs.ld 0 (v:=I (sec:Int)) rfl rfl ?_;simp only[HV];refine hs.ld 0 (v:=I 32) rfl rfl ?_;simp only[HV];refine hs.dW 1 (y:=fO (1,0,0,0,0,0) k w sec 32 0 .none 0 0) rfl rfl rfl rfl fun H hs=>?_;refine hs.bd 1 rfl rfl ?_;have hz:dM sec (32/8) (k:Int) w=0:=by rw[hfit,if_neg h5,if_neg h6]
 exact⟨_,⟨by rw[hz,if_pos rfl],rfl⟩,hs.re [] rfl⟩
def Jy (s0 s1 s2 s3 s4 s5 mo:Int)(ar:Nat)(sc ld:Int)(A:OA)(n m k:Nat)(dir:Int)(v:Value)(M:List As):Prop:=M=[]/\
 ((s0≠2/\s0≠4/\v= .tuple #[.agg (fO (s0,s1,s2,s3,s4,s5) mo ar sc 32 ld A n m),I 5])\/
 ((s0=2\/s0=4)/\¬(dir=0\/dir=1)/\v= .tuple #[.agg (fO (s0,s1,s2,s3,s4,s5) mo ar sc 32 ld A n m),I 18])\/
 ((s0=2\/s0=4)/\∃ b:Bool,dir=(if b=true then 1 else 0)/\v= .tuple #[.agg (fO (3,s1,k,if b=true then 1 else 0,0,(dz b k (32/8) ar).length) mo ar sc 32 ld A n m),I 0]))
theorem tE {k:Nat}{s0 s1 s2 s3 s4 s5:Int}(hk:k<=32)(h2k:s0=2\/s0=4->s2=(k:Int)){ar:Nat}(har:ar<=16777216)(dir:Int):
  Tr prog 55 #[.agg (fO (s0,s1,s2,s3,s4,s5) mo ar sc 32 ld A n m),I dir] [] (Jy s0 s1 s2 s3 s4 s5 mo ar sc ld A n m k dir):=fun H hs=>by
 apply bM.ok;unfold bM;refine hs.nw fun b1 H hs=>?_
 refine hs.nw fun b2 H hs=>?_
 have hs:Sep [af b1 (gI (s0,s1,s2,s3,s4,s5) mo ar sc 32 ld A n m),af b2 iO] H:=hs
 try simp only[HS]
 refine hs.ld 0 (v:=I s0) rfl rfl ?_;simp only[HV];have j3:(s0=2\/s0=4)->bM.j3 (fun v H'=>∃ M,Jy s0 s1 s2 s3 s4 s5 mo ar sc ld A n m k dir v M/\Sep M H') dir (O b1) (O b2) H:=fun h24=>by
  have j5:∀ b:Bool,dir=(if b=true then 1 else 0)->bM.j5 (fun v H'=>∃ M,Jy s0 s1 s2 s3 s4 s5 mo ar sc ld A n m k dir v M/\Sep M H') dir (O b1) (O b2) H:=fun b hb=>by
   subst hb;obtain rfl:=h2k h24;unfold bM.j5
   try simp only[HS]
   refine hs.ld 0 (v:=I (k:Int)) rfl rfl ?_;simp only[HV];refine hs.bd 0 rfl rfl ?_
   try simp only[Array.toArray_toList]
   refine bN.use (Ec (s:=(s0,s1,k,s3,s4,s5)) (mo:=mo) (ar:=ar) (sc:=sc) (ld:=ld) (A:=A) (n:=n) (m:=m) H) ?_;simp only[HV];refine hs.ld 0 (v:=I (ar:Int)) rfl rfl ?_;simp only[HV];refine(Fs (k:=k) (aa:=32/8) (words:=ar) hk (by omega) har b).use hs [] rfl rfl ?_;rintro _ _ H ⟨bp,rfl,rfl⟩ hs;simp only[HV];refine hs.ld 1 (v:=I s1) rfl rfl ?_;simp only[HV];refine hs.ld 1 (v:=I (k:Int)) rfl rfl ?_;simp only[HV];refine hs.HT 1 (off:=0) (n:=6) rfl (by show 0+6<=12;omega) rfl rfl fun H hs=>?_;refine hs.bd 1 rfl rfl ?_;refine hs.dW 2 (y:=fO (3,s1,k,if b=true then 1 else 0,0,(dz b k (32/8) ar).length) mo ar sc 32 ld A n m) rfl rfl rfl rfl fun H hs=>?_;refine hs.bd 2 rfl rfl ?_;exact⟨_,⟨rfl,.inr (.inr ⟨h24,b,rfl,rfl⟩)⟩,hs.re [] rfl⟩
  unfold bM.j3;by_cases d0:dir=0
  .exact aH d0 (j5 false d0)
  refine aT d0 ?_;by_cases d1:dir=1
  .exact aH d1 (j5 true d1)
  refine aT d1 ?_;refine oL hs (i:=0) (j:=1) rfl rfl rfl fun H hs=>?_;exact⟨_,⟨rfl,.inr (.inl ⟨h24,fun h=>h.elim d0 d1,rfl⟩)⟩,hs.re [] rfl⟩
 by_cases h2:s0=2
 .exact aH h2 (j3 (.inl h2))
 refine aT h2 ?_;refine hs.ld 0 (v:=I s0) rfl rfl ?_;simp only[HV];by_cases h4:s0=4
 .exact aH h4 (j3 (.inr h4))
 refine aT h4 ?_;refine oL hs (i:=0) (j:=1) rfl rfl rfl fun H hs=>?_;exact⟨_,⟨rfl,.inl ⟨h2,h4,rfl⟩⟩,hs.re [] rfl⟩
def NC (s0 s1 s2 s3 s4 s5 mo ar sc sz ld:Int)(A:OA)(n m:Nat)(v:Value)(M:List As):Prop:=M=[]/\
 ((s0≠3/\v= .tuple #[.agg (fO (s0,s1,s2,s3,s4,s5) mo ar sc sz ld A n m),I 5])\/
 (s0=3/\v= .tuple #[.agg (fO (if s4+1=s5 then 4 else 3,s1,s2,s3,s4+1,s5) mo ar sc sz ld A n m),I 0]))
theorem wR {s0 s1 s2 s3 s4 s5 sz:Int}(h4: -1000<=s4/\s4<=1000):
  Tr prog 76 #[.agg (fO (s0,s1,s2,s3,s4,s5) mo ar sc sz ld A n m)] [] (NC s0 s1 s2 s3 s4 s5 mo ar sc sz ld A n m):=fun H hs=>by
 apply jq.ok;unfold jq;refine hs.nw fun b1 H hs=>?_
 refine hs.nw fun b2 H hs=>?_
 have hs:Sep [af b1 (gI (s0,s1,s2,s3,s4,s5) mo ar sc sz ld A n m),af b2 iO] H:=hs
 try simp only[HS]
 refine hs.ld 0 (v:=I s0) rfl rfl ?_;simp only[HV];by_cases h3:s0=3
 .refine aH h3 ?_;subst h3;refine hs.ld 0 (v:=I s4) rfl rfl ?_;simp only[HV];rw[bu (x:=s4+1)];refine hs.st 0 rfl (by show 4<12;omega) rfl fun H hs=>?_;have hs:Sep [af b1 (gI (3,s1,s2,s3,s4+1,s5) mo ar sc sz ld A n m),af b2 iO] H:=hs;refine hs.ld 0 (v:=I (s4+1)) rfl rfl ?_;simp only[HV];refine hs.ld 0 (v:=I s5) rfl rfl ?_;simp only[HV];by_cases he:s4+1=s5
  .refine aL he ?_;refine hs.st 0 rfl (by show 0<12;omega) rfl fun H hs=>?_;have hs:Sep [af b1 (gI (4,s1,s2,s3,s4+1,s5) mo ar sc sz ld A n m),af b2 iO] H:=hs;refine oL hs (i:=0) (j:=1) rfl rfl rfl fun H hs=>?_;exact⟨_,⟨rfl,.inr ⟨rfl,by rw[if_pos he]⟩⟩,hs.re [] rfl⟩
  .refine aK he ?_;refine oL hs (i:=0) (j:=1) rfl rfl rfl fun H hs=>?_;exact⟨_,⟨rfl,.inr ⟨rfl,by rw[if_neg he]⟩⟩,hs.re [] rfl⟩
 .refine aT h3 ?_;refine oL hs (i:=0) (j:=1) rfl rfl rfl fun H hs=>?_;exact⟨_,⟨rfl,.inl ⟨h3,rfl⟩⟩,hs.re [] rfl⟩
theorem Hv {sz:Int}(hl: -1000000<=ld/\ld<=1000000):
  Tr prog 84 #[.agg (fO s mo ar sc sz ld A n m)] [] fun v M=>v= .agg (fO (1,ld+1,0,0,0,0) mo ar sc sz (ld+1) .none 0 0)/\M=[]:=fun H hs=>by
 apply iV.ok;unfold iV;refine hs.nw fun b1 H hs=>?_
 refine hs.nw fun b2 H hs=>?_
 have hs:Sep [af b1 (gI s mo ar sc sz ld A n m),af b2 iO] H:=hs
 try simp only[HS]
 refine hs.ld 0 (v:=I ld) rfl rfl ?_;simp only[HV];rw[bu (x:=ld+1)];refine hs.st 0 rfl (by show 10<12;omega) rfl fun H hs=>?_;have hs:Sep [af b1 (gI s mo ar sc sz (ld+1) A n m),af b2 iO] H:=hs;refine hs.ld 0 (v:=I (ld+1)) rfl rfl ?_;simp only[HV];refine hs.HT 0 (off:=0) (n:=6) rfl (by show 0+6<=12;omega) rfl rfl fun H hs=>?_;have hs:Sep [af b1 (gI (1,ld+1,0,0,0,0) mo ar sc sz (ld+1) A n m),af b2 iO] H:=hs;refine hs.st 0 rfl (by show 11<12;omega) rfl fun H hs=>?_;have hs:Sep [af b1 (gI (1,ld+1,0,0,0,0) mo ar sc sz (ld+1) .none 0 0),af b2 iO] H:=hs;refine oL hs (i:=0) (j:=1) rfl rfl rfl fun H hs=>?_;exact⟨_,⟨rfl,rfl⟩,hs.re [] rfl⟩
end
def o7 (l:List UInt64)(aA:Int):Int:=match lg (l.length:Int)with
 |none=>4
 |some k=>if aA<(k:Int)then 14 else if lN l then 0 else 3
theorem ng.err {l:List UInt64}{aA k i e:Int}(h:ng l aA k i e):e=o7 l aA:=by
 have go:∀ k:Nat,lg (l.length:Int)=some k->o7 l aA=if aA<(k:Int)then 14 else if lN l then 0 else 3:=fun k hk=>by unfold o7;rw[hk]
 cases h with
 |len h=>unfold o7;rw[h]
 |lk h h2=>rw[go _ h,if_pos h2]
 |word h h2 h3=>rw[go _ h,if_neg (by omega),if_neg h3]
 |ok h h2 h3=>rw[go _ h,if_neg (by omega),if_pos h3]
section
variable {R0 : As} {A : Option Addr} {n m : Nat} {l : List UInt64} (hn : n = l.length) (hl : n <= 1000000) (hR : ∀ H, R0 H -> Cells H A (ah l))
include hn hl hR
def ML (R0:As)(l:List UInt64)(s:S6)(aA:Nat)(ar sc sz ld:Int)(A0:OA)(n0 m0:Nat)(v:Value)(M:List As):Prop:=
 (∃ i:Int,o7 l aA≠0/\v= .tuple #[.agg (fO s aA ar sc sz ld A0 n0 m0),I i,I (o7 l aA)]/\M=[R0])\/
 (∃ k A' m',dX l aA k/\v= .tuple #[.agg (fO (2,ld+1,k,0,0,0) aA ar sc sz (ld+1) A' l.length m'),I 0,I 0]/\M=[bH 108 1 A' l.length m' (ah l),R0])
theorem Ap {b1 b2 aA k:Nat}{s:S6}{ar sc sz ld:Int}{A0:OA}{n0 m0:Nat}(hk:lg (n:Int)=some k)(hkm:k<=aA)(hld:0<=ld/\ld<=1000000):
  ∀(t i:Nat) (H:Hp),i+t=n->(∀ j (hj:j<l.length),j<i->(l[j]).toNat<18446744069414584321)->Sep [R0,af b1 (gI s aA ar sc sz ld A0 n0 m0),af b2 iO] H->
   bT.l9 (fun v H'=>∃ M,ML R0 l s aA ar sc sz ld A0 n0 m0 v M/\Sep M H') (t+1) A n m (O b1) (O b2) (k:Int) (i:Int) H
 |0,i,H,hi,hc,hs=>by
  unfold bT.l9;refine aw (by omega) ?_
  try simp only[HS]
  refine hs.ld 1 (v:=I ld) rfl rfl ?_;simp only[HV];rw[bu (x:=ld+1)];refine hs.st 1 rfl (by show 10<12;omega) rfl fun H hs=>?_;refine hs.ld 1 (v:=I (ld+1)) rfl rfl ?_;simp only[HV];refine hs.HT 1 (off:=0) (n:=6) rfl (by show 0+6<=12;omega) rfl rfl fun H hs=>?_;refine hs.nw fun b3 H hs=>?_
  have hs:Sep [R0,af b1 (gI (2,ld+1,k,0,0,0) aA ar sc sz (ld+1) A0 n0 m0),af b2 iO,af b3 (.row [] 108 0)] H:=hs;have hs:=D3 hs 3 (n:=0) (s:=1) rfl rfl rfl;have hcell:Cells H A (ah l):=by
   obtain⟨H1,h1,hle⟩:=hs.fE 0 rfl;exact(hR H1 h1).le hle
  refine Sep.app hs 3 (k:=n) (ys:=ah l) rfl Ker.fH rfl (by omega) (by omega) rfl (sT hcell (by rw[aG];exact hn)) (by rw[aG];omega) (by simp[ah,Value.oneCell']) (by omega) (by omega) fun A' m' H hs=>?_
  rw[Nat.zero_add]at hs⊢;rw[List.nil_append]at hs;simp only[HV];refine hs.st 1 rfl (by show 11<12;omega) rfl fun H hs=>?_;refine hs.bd 1 rfl rfl ?_;refine hs.dW 2 (y:=fO (2,ld+1,k,0,0,0) aA ar sc sz (ld+1) A' n m') rfl rfl rfl rfl fun H hs=>?_;refine hs.bd 2 rfl rfl ?_;refine⟨_,.inr ⟨k,A',m',⟨by rw[<- hn];exact hk,hkm,fun x hx=>?_⟩,?_,rfl⟩,?_⟩
  .obtain⟨j,hj,rfl⟩:=List.getElem_of_mem hx;exact hc j hj (by omega)
  .rw[<- hn]
  .rw[<- hn];exact hs.re [3,0] rfl
 |t+1,i,H,hi,hc,hs=>by
  have hil:i<l.length:=by omega
  unfold bT.l9;refine aC (by omega) ?_;have hcell:Cells H A (ah l):=by
   obtain⟨H1,h1,hle⟩:=hs.fE 0 rfl;exact(hR H1 h1).le hle
  have hg:(ah l)[i]? =some (U ((l[i]'hil).toNat:Int)):=by rw[dO,List.getElem?_eq_getElem hil];rfl
  refine hcell.read hg rfl (by rw[aG];omega) ?_;simp only[HV];by_cases hx:(l[i]'hil).toNat<18446744069414584321
  .refine aw (by omega) ?_;rw[bu (x:=(i:Int)+1)];refine Ap hk hkm hld t (i+1) H (by omega) (fun j hj hji=>?_) hs;by_cases e:j=i
   .subst e;exact hx
   .exact hc j hj (by omega)
  .refine aC (by omega) ?_;have he:o7 l aA=3:=by
    unfold o7;rw[<- hn,hk];show(if(aA:Int)<(k:Int)then(14:Int)else if lN l then 0 else 3)=3
    rw[if_neg (by omega),if_neg fun h=>hx (h _ (List.getElem_mem hil))]
   refine oL hs (i:=1) (j:=2) rfl rfl rfl fun H hs=>?_;exact⟨_,.inl ⟨_,by rw[he];decide,by rw[he],rfl⟩,hs.re [0] rfl⟩
theorem Eb {aA:Nat}{s:S6}{ar sc sz ld:Int}{A0:OA}{n0 m0:Nat}(hst:s.1≠0)(hld:0<=ld/\ld<=1000000):
  Tr prog 54 #[.agg (fO s aA ar sc sz ld A0 n0 m0),.slice A n m] [R0] (ML R0 l s aA ar sc sz ld A0 n0 m0):=fun H hs=>by
 apply bT.ok;unfold bT;refine hs.nw fun b1 H hs=>?_
 refine hs.nw fun b2 H hs=>?_
 have hs:Sep [R0,af b1 (gI s aA ar sc sz ld A0 n0 m0),af b2 iO] H:=hs
 try simp only[HS]
 refine hs.ld 1 (v:=I s.1) rfl rfl ?_;simp only[HV];refine aK hst ?_;refine ae.use (Jf (n:Int) H) ?_;simp only[HV];have bad:∀(e:Int) (H:Hp),e≠0->o7 l aA=e->Sep [R0,af b1 (gI s aA ar sc sz ld A0 n0 m0),af b2 iO] H->
   aJ H (O b1) 12 fun l2=>bR H (O b2) l2.toArray 12 fun H5=>aJ H5 (O b2) 12 fun l7=>∃ M,ML R0 l s aA ar sc sz ld A0 n0 m0 (.tuple #[.agg l7.toArray,I 0,I e]) M/\Sep M H5:=fun e H he hno hs=>by
  refine oL hs (i:=1) (j:=2) rfl rfl rfl fun H hs=>?_;exact⟨_,.inl ⟨0,by rw[hno];exact he,by rw[hno],rfl⟩,hs.re [0] rfl⟩
 cases hlg:lg (n:Int)with
 |none=>
  refine aC (by unfold ru;rw[hlg];decide) ?_;exact bad 4 H (by decide) (by unfold o7;rw[<- hn,hlg]) hs
 |some k=>
  have hfit:ru (n:Int)=(k:Int):=by unfold ru;rw[hlg]
  rw[hfit];refine aw (by omega) ?_;refine hs.ld 1 (v:=I (aA:Int)) rfl rfl ?_;simp only[HV];by_cases hkm:k<=aA
  .refine aw (by omega) ⟨n+1,?_⟩;exact Ap hn hl hR hlg hkm hld n 0 H (by omega) (fun j hj h=>by omega) hs
  .refine aC (by omega) ?_;exact bad 14 H (by decide) (by unfold o7;rw[<- hn,hlg];show(if(aA:Int)<(k:Int)then(14:Int)else _)=14;rw[if_pos (by omega)]) hs
end
theorem Lm {s:S6}{mo ar sc sz ld:Int}{A0 A:OA}{n0 m0 n m:Nat}(hst:s.1=0):
  Tr prog 54 #[.agg (fO s mo ar sc sz ld A0 n0 m0),.slice A n m] [] fun v M=>v= .tuple #[.agg (fO s mo ar sc sz ld A0 n0 m0),I 0,I 5]/\M=[]:=fun H hs=>by
 apply bT.ok;unfold bT;refine hs.nw fun b1 H hs=>?_
 refine hs.nw fun b2 H hs=>?_
 have hs:Sep [af b1 (gI s mo ar sc sz ld A0 n0 m0),af b2 iO] H:=hs
 try simp only[HS]
 refine hs.ld 0 (v:=I s.1) rfl rfl ?_;simp only[HV];refine aL hst ?_;refine oL hs (i:=0) (j:=1) rfl rfl rfl fun H hs=>?_;exact⟨_,⟨rfl,rfl⟩,hs.re [] rfl⟩
end Eng
namespace Eng
open Go Go.Hw Go.Form W Shp Dsk Str Are Trn Pas Pln Rec Srt Rng
structure jG (N:Nat)(d:D)(c:Cn)(m:Mn):Prop where
 cl:Clean d c
 hh:Holds d.sec d.size m c
 aA:m.aA<=6
 len:m.L.length<=N
 ld:m.r.ld<=N
 rd:d.rd<=2000*N
 wr:d.wr<=2000*N
 sy:d.sy<=2000*N
theorem jG.mT {N:Nat}{d d':D}{c c':Cn}{m m':Mn}(h:jG N d c m){r w s:Nat}(hw:fA d d' r w s)(hr:r<=2000/\w<=2000/\s<=2000)(hc:Clean d' c')(hh:Holds d.sec d.size m' c')(hm:m'.aA=m.aA)(hl:m'.L.length<=N+2)(hld:m'.r.ld<=N+2):jG (N+2) d' c' m':=by
 have h1:=hw.rd;have h2:=hw.wr;have h3:=hw.sy;have h4:=h.rd;have h5:=h.wr;have h6:=h.sy;have h7:=h.aA;exact⟨hc,by rw[hw.sec,hw.size];exact hh,by omega,hl,hld,by omega,by omega,by omega⟩
theorem jG.small {N:Nat}{d:D}{c:Cn}{m:Mn}(h:jG N d c m)(hN:N<=400):Small 100000 m/\(d.rd<=800000/\d.wr<=800000/\d.sy<=800000):=by
 have h2:=h.len;have h3:=h.ld;have h4:=h.rd;have h5:=h.wr;have h6:=h.sy;exact⟨⟨by omega,by omega⟩,by omega,by omega,by omega⟩
theorem jG.aa {N:Nat}{d:D}{c:Cn}{m:Mn}(h:jG N d c m):0<Lay.cc (d.size:Int):=(gk h.hh.dc).2.1
theorem jG.kk {N:Nat}{d:D}{c:Cn}{m:Mn}(h:jG N d c m):m.r.kk.toNat<=6:=by
 have:=(Mn.nK h.hh).2.2;have:=h.aA;omega
def qX (m:Mn)(k:Nat)(l:List UInt64)(b:Bool):Mn:=(cH m k l).add (eG (cH m k l) b)
structure zy (m:Mn)(k:Nat)(b:Bool)(l:List UInt64)(j:Nat):Prop where
 da:m.da=l
 kk:m.r.kk=k
 dir:m.r.dir=if b=true then 1 else 0
 kd:3<=m.r.kd
 ps:m.r.ps=j
theorem zy.MY {m:Mn}{k:Nat}{b:Bool}{l:List UInt64}{j:Nat}(h:zy m k b l j)(aa:Nat):cE m aa m.r=dz b k aa m.aO:=by
 unfold cE iN;rw[h.dir,h.kk,Int.toNat_natCast];cases b<;>rfl
theorem zy.st {m:Mn}{k:Nat}{b:Bool}{l:List UInt64}{j:Nat}(h:zy m k b l j)(aa:Nat):stM m aa=if j<(dz b k aa m.aO).length then 3 else 4:=by
 have:=h.kd;unfold stM;rw[if_neg (by omega),if_neg (by omega),h.MY,h.ps];by_cases e:j<(dz b k aa m.aO).length
 .rw[if_pos e,if_pos (by omega)]
 .rw[if_neg e,if_neg (by omega)]
theorem zy.next {m:Mn}{k:Nat}{b:Bool}{l:List UInt64}{j:Nat}(h:zy m k b l j)(aa:Nat):zy (m.add (dk m aa)) k b l (j+1):=by
 have e:(m.add (dk m aa)).r=dk m aa:=Mn.fg _ _;refine⟨h.da,?_,?_,?_,?_⟩
 .rw[e];exact h.kk
 .rw[e];exact h.dir
 .rw[e];show(3:Int)<=4;omega
 .rw[e];show m.r.ps+1=_;rw[h.ps];omega
theorem IZ (m:Mn)(k:Nat)(l:List UInt64)(b:Bool):zy (qX m k l b) k b l 0:=by
 have h2r:(cH m k l).r=gX (bG m k) k l:=Mn.fg _ _;have e:(qX m k l b).r=eG (cH m k l) b:=Mn.fg _ _;refine⟨rfl,?_,?_,?_,?_⟩
 .rw[e];show(cH m k l).r.kk=_;rw[h2r];rfl
 .rw[e];rfl
 .rw[e];show(3:Int)<=3;omega
 .rw[e];rfl
theorem jG.step {N:Nat}{d d':D}{c c':Cn}{m:Mn}(h:jG N d c m){r w:Nat}(hs:vj m (d.size/8) r w):r<=2000/\w<=2000:=by
 have hp:=h.hh.aa;have hk:=h.kk;have hm:=h.aA;have hkm:=(Mn.nK h.hh).2.2;have h1:=hs.le (by omega) (by omega) (Nat.le_trans (qx (by omega)) h.hh.least);have:=zr hk;omega
theorem jG.EC {N:Nat}{d d':D}{c c':Cn}{m:Mn}(h:jG N d c m){r w:Nat}(hs:vj m (d.size/8) r w)(hw:fA d d' r w 2)(hc:Clean d' c')(hh:Holds d.sec d.size (m.add (dk m (d.size/8))) c'):jG (N+2) d' c' (m.add (dk m (d.size/8))):=by
 have:=jG.step (d':=d') (c':=c') h hs;have h1:=h.len;have h2:=h.ld;refine h.mT hw (by omega) hc hh rfl ?_ ?_
 .show(m.L++[_]).length<=_;simp;omega
 .rw[Mn.fg];show m.r.ld<=_;omega
def w4 :List UInt64:=[1,2,3,4]
end Eng
end Go.Proofs.YtlgnlghmbcpmhaaGreatDoor
