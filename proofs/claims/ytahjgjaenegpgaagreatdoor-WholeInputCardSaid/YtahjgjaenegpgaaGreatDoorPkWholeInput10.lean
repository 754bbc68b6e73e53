import Derived.Test.YtahjgjaenegpgaaGreatDoorProg
import Derived.Test.YtahjgjaenegpgaaGreatDoorPkWholeInput9
set_option maxRecDepth 100000
set_option linter.unusedSimpArgs false
set_option linter.unusedVariables false
set_option linter.unnecessarySimpa false
set_option linter.unusedSectionVars false
namespace Go.Proofs.YtahjgjaenegpgaaGreatDoor
open Tryz (prog)
namespace Eng
open Go Go.Hw Go.Form W Shp Dsk Str Are Trn Pas Pln Rec Srt Rng
theorem uZE (b:Bool)(K:Value→Prop)(k:K (.bool b)):DR prog [4] (.bool b) K:=by
 show DT prog 4 (.bool b) K
 unfold DT;rw[show prog.underlying 4=some .bool by kernel_rfl];exact k
theorem eZk (x:Int)(K:Value→Prop)(k:K (.int .i64 x)):DR prog [53] (.int .i64 x) K:=by
 show DT prog 53 (.int .i64 x) K
 unfold DT;rw[show prog.underlying 53=some (.int .i64) by kernel_rfl];exact k
theorem nZ4 {p:Prop}[Decidable p]{X Y:Prop}(h1:p→Y)(h2:¬p→X):BIf (!decide p) X Y:=by
 by_cases h:p
 ·rw[decide_eq_true h];exact aZq rfl (h1 h)
 ·rw[decide_eq_false h];exact aZI rfl (h2 h)
def fZs (l:List UInt64):Prop:=∀ x∈l,x.toNat<18446744069414584321
instance (l :List UInt64):Decidable (fZs l):=by unfold fZs;infer_instance
theorem kZI (H:Hp)(A:Option Addr)(n m:Nat)(xs:List UInt64)(hn:n=xs.length)(hl:n≤1000000000)(hc:Cells H A (Zd xs)):
  ∀(t j:Nat),j+t=n→(∀ k x,k<j→xs[k]? =some x→x.toNat<18446744069414584321)→
   ZG.l2 (fun v H'=>(∃ i:Int,v= .int .i64 i∧(i<0↔fZs xs))∧H'=H) (t+1) A n m 143 #[] #[] (n:Int) (j:Int) H
 |0,j,hj,hall=>by
  unfold ZG.l2;refine Zl (by omega) ⟨⟨-1,rfl,fun _ x hx=>?_,fun _=>by decide⟩,rfl⟩;obtain⟨k,hk,rfl⟩:=List.getElem_of_mem hx;exact hall k _ (by omega) (List.getElem?_eq_getElem hk)
 |t+1,j,hj,hall=>by
  unfold ZG.l2;refine Zv (by omega) ?_;have hg:xs[j]? =some (xs[j]'(by omega)):=List.getElem?_eq_getElem (by omega);have hg2:(Zd xs)[j]? =some (.int .u64 ((xs[j]'(by omega)).toNat:Int)):=by rw[aZ7,hg];rfl
  refine hc.read hg2 rfl (by rw[Zz];omega) ?_;simp only[HV];refine aZI (by kernel_rfl) ?_;have hv:Zc prog 143 #[.int .u64 ((xs[j]'(by omega)).toNat:Int)] H (RetE (.bool (!(decide (((xs[j]'(by omega)).toNat:Int)<18446744069414584321)))) H):=by
   apply eZv.ok;unfold eZv;have hg:Zc prog 144 #[.int .u64 ((xs[j]'(by omega)).toNat:Int)] H (RetE (.bool (decide (((xs[j]'(by omega)).toNat:Int)<18446744069414584321))) H):=by
    apply gZv.ok;unfold gZv;exact RetE.mk _ _
   refine Zc.use hg ?_;simp only[HV];exact RetE.mk _ _
  refine Zc.use hv ?_;have hr:bZx prog 143=[4]:=by kernel_rfl
  rw[hr];refine uZE _ _ ?_;simp only[HV];generalize hz:((xs[j]'(by omega)).toNat:Int)=z at*;refine nZ4 (fun hx=>?_) (fun hx=>?_)
  ·rw[ZU (x:=(j:Int)+1) (by omega) (by omega)];refine kZI H A n m xs hn hl hc t (j+1) (by omega) fun k x hk hkx=>?_
   by_cases e:k=j
   ·subst e;rw[hg]at hkx;have:=Option.some.inj hkx;rw[this]at hz;omega
   ·exact hall k x (by omega) hkx
  ·refine⟨⟨j,rfl,fun h=>by omega,fun h=>?_⟩,by trivial⟩;have:=h _ (List.getElem_mem (show j<xs.length by omega));omega
theorem qZO (A:Option Addr)(n m:Nat)(xs:List UInt64)(hn:n=xs.length)(hl:n≤1000000000)(H:Hp)(hc:Cells H A (Zd xs)):
  Zc prog 96 #[.slice A n m] H fun v H'=>(∃ i:Int,v= .tuple #[.int .i64 i,.bool (decide (fZs xs))])∧H'=H:=by
 apply fZc.ok;unfold fZc;have hI:Zc prog 142 #[.slice A n m,.func (.func 143) #[] #[]] H (fun v H'=>(∃ i:Int,v= .int .i64 i∧(i<0↔fZs xs))∧H'=H):=by
  apply ZG.ok;unfold ZG;exact⟨n+1,kZI H A n m xs hn hl hc n 0 (by omega) fun k x hk=>absurd hk (by omega)⟩
 refine Zc.mono hI ?_;rintro _ _ ⟨⟨i,rfl,hi⟩,rfl⟩;simp only[HV];by_cases h:i<0
 ·rw[decide_eq_true h,decide_eq_true (hi.1 h)];exact⟨⟨_,rfl⟩,by trivial⟩
 ·rw[decide_eq_false h,decide_eq_false (fun hh=>h (hi.2 hh))];exact⟨⟨_,rfl⟩,by trivial⟩
inductive hZI (l:List UInt64)(most:Int):Int→Int→Int→Prop
 |len (h:lg (l.length:Int)=none):hZI l most 0 0 4
 |big {k:Nat} (h:lg (l.length:Int)=some k) (h2:most<k):hZI l most 0 0 14
 |word {k:Nat} {i:Int} (h:lg (l.length:Int)=some k) (h2:(k:Int)≤most) (h3:¬fZs l):hZI l most 0 i 3
 |ok {k:Nat} (h:lg (l.length:Int)=some k) (h2:(k:Int)≤most) (h3:fZs l):hZI l most k 0 0
theorem qZ1 (A:Option Addr)(n m:Nat)(xs:List UInt64)(most:Int)(hn:n=xs.length)(hl:n≤1000000000)(H:Hp)(hT:T64 H)(hc:Cells H A (Zd xs)):
  Zc prog 59 #[.slice A n m,.int .i64 most] H fun v H'=>(∃ k i e,hZI xs most k i e∧v= .tuple #[.int .i64 k,.int .i64 i,.int .i64 e])∧H'=H:=by
 apply fZL.ok;unfold fZL;refine Zc.use (hZ8 (n:Int) H hT) ?_;unfold bZH;rw[hn];cases e:lg (xs.length:Int)with
 |none=>
  simp only[HV];exact⟨⟨_,_,_,.len e,rfl⟩,by trivial⟩
 |some k=>
  simp only[HV];by_cases h2:(k:Int)>most
  ·exact Zv h2 ⟨⟨_,_,_,.big e h2,rfl⟩,by trivial⟩
  ·refine Zl h2 ?_;refine Zc.mono (qZO A xs.length m xs rfl (by omega) H hc) ?_;rintro _ _ ⟨⟨i,rfl⟩,rfl⟩;simp only[HV];refine nZ4 (fun hx=>?_) (fun hx=>?_)
   ·exact⟨⟨_,_,_,.ok e (by omega) hx,rfl⟩,by trivial⟩
   ·exact⟨⟨_,_,_,.word e (by omega) hx,rfl⟩,by trivial⟩
def wiR (per k:Nat):Nat:=dZl per 9 (2^k) 0 (2^k)
def wiW (per k:Nat):Nat:=(pcs per 9 (2^k) 0 (2^k)).length
theorem lZA (per k:Nat):wiR per k≤wiW per k:=List.length_filter_le _ _
theorem lZB (per k:Nat):wiW per k≤2^k:=dZc per 9 (2^k) 0 (2^k)
def oZE (mp dp ap rp:Nat)(e:Eg)(A:Option Addr)(n mm:Nat)(d:D)(c:Cn)(k:Nat)(l:List UInt64)(R:As)(v:Value)(M:List As):Prop:=
 ∃ peak':Int,peak'≤e.arena∧
 ((∃ d' c',bZN d d' (wiR (D.per d) k+nS (D.per d) (2^k)) (wiW (D.per d) k) 1∧Clean d' c'∧Sam (inX (exX e.most (D.per d) 0 k)) c c'∧cws c' (D.per d) 9 (2^k)=l∧v= .tuple #[.int .u32 (eZC l:Int),.int .i64 0]∧M=[pts mp (aZp e ap rp A n mm),Ar ap e.arena peak' [],Dk dp d',R])∨
 (∃ d' s,Cut d d' (wiR (D.per d) k+wiW (D.per d) k+1+nS (D.per d) (2^k))∧Left d' (fun c'=>Sam (inX (exX e.most (D.per d) 0 k)) c c')∧v= .tuple #[.int .u32 s,.int .i64 8]∧M=[pts mp (aZp e ap rp A n mm),Ar ap e.arena peak' [],Dk dp d',R]))
theorem tZX {mp dp ap rp:Nat}{e:Eg}{A:Option Addr}{n mm:Nat}{d:D}{c:Cn}{k:Nat}{l:List UInt64}{R:As}{As:Option Addr}{ns ms:Nat}(hc:Clean d c)(he:fZG e d)(hk:k≤e.most)(ho:d.rd≤100000000000∧d.wr≤100000000000∧d.sy≤100000000000)
  (hl:l.length=2^k) (hns:ns=l.length) (hms:ns≤ms) (hR:∀ H,R H→Cells H As (Zd l)):
  Tr prog 62 #[.pointer (some ⟨mp,0,none⟩),.pointer (some ⟨dp,0,none⟩),.int .i64 (k:Int),.slice As ns ms] [pts mp (aZp e ap rp A n mm),Ar ap e.arena e.peak [],Dk dp d,R] (oZE mp dp ap rp e A n mm d c k l R):=fun H hs=>by
 subst hns;have hok:=hc.ok;have hpd:=Ok.per_le hok;have hlay:=he.lay;have hm32:=he.most;have h2k:=cZL (k:=k) (by omega);have h2p:=Nat.two_pow_pos k;have hpk:=he.peak;have hcap:=he.arena;have hper:=he.per;have hcapd:D.per d≤e.arena:=by
  have:=he.least;unfold bZn at this;rw[hper]at this;omega
 have hx0:On d (exX e.most (D.per d) 0 k):=hlay.on hok (by omega) hk;obtain⟨x,hX⟩:∃ x,x=exX e.most (D.per d) 0 k:=⟨_,rfl⟩;have hx:On d x:=by rw[hX];exact hx0
 have hxw:x.w=l.length:=by rw[hX,hl];rfl
 have hxf:x.f=9:=by rw[hX];show 9+0*_=9;omega
 have hwR:dZl (D.per d) x.f l.length 0 l.length=wiR (D.per d) k:=by rw[hxf,hl];rfl
 have hwW:(pcs (D.per d) x.f l.length 0 l.length).length=wiW (D.per d) k:=by rw[hxf,hl];rfl
 have hb1:=lZA (D.per d) k;have hb2:=lZB (D.per d) k;have hin:=nZN hx;apply ZK.ok;unfold ZK;have j2:∀ q H,Sep [Dk dp d,pts q (ZO dp ap x),pts mp (aZp e ap rp A n mm),Ar ap e.arena e.peak [],R] H→ZK.j2 (fun v H'=>∃ M,oZE mp dp ap rp e A n mm d c k l R v M∧Sep M H') (some ⟨dp,0,none⟩) As l.length ms 0 (some ⟨q,0,none⟩) H:=fun q H hs=>by
  unfold ZK.j2;refine ZY rfl ?_;have bad:∀(peak':Int) (d':D) (s:Int) (H:Hp),peak'≤e.arena→Cut d d' (wiR (D.per d) k+wiW (D.per d) k+1+nS (D.per d) (2^k))→Left d' (fun c'=>Sam (inX x) c c')→Sep [pts mp (aZp e ap rp A n mm),Ar ap e.arena peak' [],Dk dp d',R] H→∃ M,oZE mp dp ap rp e A n mm d c k l R (.tuple #[.int .u32 s,.int .i64 8]) M∧Sep M H:=fun peak' d' s H h1 h2 h3 hs=>
   ⟨_,⟨peak',h1,.inr ⟨d',s,h2,by rw[← hX];exact h3,rfl,rfl⟩⟩,hs⟩
  refine(iZZ (p:=q) (dp:=dp) (ap:=ap) (d:=d) (x:=x) (cap:=e.arena) (peak:=e.peak) (bufs:=[]) (src:=l) hok hc.down hx (by omega) 0 rfl (by omega) (by omega) hms (by rw[bZ0];omega) hR).use hs [1,0,3,4] rfl rfl ?_;have hpk1:mx e.peak (ZM []+(D.per d:Int))≤e.arena:=iZH hpk (by rw[bZ0];omega);rintro _ _ H (⟨hP,rfl,rfl⟩|⟨d',hD,hfu,rfl,rfl⟩) hs
  ·simp only[HV];unfold ZK.j4;refine ZY rfl ?_;have h2:=hP.sy;have hrd:=hP.rd;have hwr:=hP.wr;rw[hwR,hwW]at hP;refine(hZj (p:=dp) hP.ok (by rw[h2];omega)).use hs [1] rfl rfl ?_;rintro _ _ H ⟨rfl,rfl⟩ hs;have hpw:=vZw x hok l;generalize hd1:dZ4 d x l.length 0 l=d1 at*;have hpe1:D.per d1=D.per d:=hP.per;have hsam:Sam (inX x) c d1.now:=fun i hi=>(hc.prog hP i).2 hi
   have hcw:cws d1.now (D.per d) 9 (2^k)=l:=by rw[← hxf,←hpe1,←hl,←gZl (d:=d1) (c:=d1.now) (fun _=>rfl) x l.length];exact hpw
   rcases hc.sync hP hin with⟨e0,hw2,hc2⟩|⟨e0,hcut,hleft⟩
   ·rw[e0];simp only[HV];unfold ZK.j6;refine ZB rfl ?_;have hs:Sep [Dk dp d1.syncD,pts q (ZO dp ap x),Ar ap e.arena (mx e.peak (ZM []+(D.per d:Int))) [],R,pts mp (aZp e ap rp A n mm)] H:=hs;have hpe2:D.per d1.syncD=D.per d:=hw2.per;have hrd2:=hw2.rd;have hx2:On d1.syncD x:=⟨hx.w1,hx.s1,by rw[hw2.sec];exact hx.fit,by rw[hpe2];exact hx.room⟩;refine(lZI (p:=q) (dp:=dp) (ap:=ap) (x:=x) (cap:=e.arena) (peak:=mx e.peak (ZM []+(D.per d:Int))) (bufs:=[]) hc2.ok hc2.down hx2 (by omega) (by rw[bZ0,hpe2];omega)).use hs [1,0,2] rfl rfl ?_;have hw0:pws d1.syncD x 0 x.w=l:=by rw[gZl hc2.now,hpe2,hxf,hxw,hl];exact hcw
    have hpk2:mx (mx e.peak (ZM []+(D.per d:Int))) (ZM []+(D.per d1.syncD:Int))≤e.arena:=iZH hpk1 (by rw[bZ0,hpe2];omega);rintro _ _ H (⟨hf,rfl,rfl⟩|⟨j,hj,hf,rfl,rfl⟩) hs
    ·rw[hw0];simp only[HV];rw[hpe2,hxw,hl]at hf hs;have hgo:=hw2.trans (bZN.rdG hf);refine⟨_,⟨_,hpk2,.inl ⟨_,_,hgo,hc2.rdG _,by rw[← hX];exact hsam,hcw,rfl,rfl⟩⟩,?_⟩;rw[hpe2];exact hs.re [4,2,1,3] rfl
    ·simp only[HV];rw[hpe2,hxw,hl]at hj;refine bad _ _ _ H hpk2 ((hw2.cut (Cut.rdG hc2 hf hj)).more (by omega)) ((Left.rdG hc2 j).mono fun c' e=>by rw[e];exact hsam) (hs.re [4,2,1,3] rfl)
   ·rw[e0];simp only[HV];unfold ZK.j6;refine ZL (by decide) ?_;refine bad _ _ _ H hpk1 (hcut.more (by omega)) (hleft.mono fun _ h=>h.2) (hs.re [4,2,0,3] rfl)
  ·simp only[HV];unfold ZK.j4;refine aZd (by decide) ?_;unfold ZK.j6;refine ZL (by decide) ?_;have hf1:1≤d.fuse:=by have h1:=hD.cnt;have h2:=hD.rd;have h3:=hD.wr;omega
   rw[hwR,hwW]at hfu;refine bad _ _ _ H hpk1 ((hc.deadCut hD hin hfu hf1).more (by omega)) (hc.deadLeft hD) (hs.re [4,2,1,3] rfl)
 have pipe:∀ H,Sep [pts mp (aZp e ap rp A n mm),Ar ap e.arena e.peak [],Dk dp d,R] H→Zc prog 78 #[.pointer (some ⟨dp,0,none⟩),.pointer (some ⟨ap,0,none⟩),.agg (Lay.cZ5 e.most (D.per d)),.int .i64 0,.int .i64 (k:Int)] H fun v H1=>∃ q,v= .tuple #[.pointer (some ⟨q,0,none⟩),.int .i64 0]∧Sep [Dk dp d,pts q (ZO dp ap x),pts mp (aZp e ap rp A n mm),Ar ap e.arena e.peak [],R] H1:=fun H hs=>by
  refine(jZB (dp:=dp) (ap:=ap) (i:=0) hok hlay (by omega) hk).use hs [2] rfl rfl ?_;rintro _ _ H ⟨q,rfl,rfl⟩ hs;exact⟨q,rfl,by rw[hX];exact hs⟩
 have eb:(((iZ9 e ap rp A n mm).toList.drop 4).take 17).toArray=Lay.cZ5 e.most (D.per d):=by rw[← hper];rfl
 try simp only[HS]
 constructor
 ·refine hs.ld 0 (v:=.pointer (some ⟨ap,0,none⟩)) rfl rfl ?_;simp only[HV];refine hs.lda 0 (off:=4) (n:=17) rfl (by show 4+17≤32;omega) ?_;rw[eb];refine Zc.mono (pipe H hs) ?_;rintro _ H ⟨q,rfl,hs⟩;simp only[HV];exact j2 q H hs
 ·refine hs.lda 0 (off:=4) (n:=17) rfl (by show 4+17≤32;omega) ?_;refine hs.ld 0 (v:=.pointer (some ⟨ap,0,none⟩)) rfl rfl ?_;simp only[HV];rw[eb];refine Zc.mono (pipe H hs) ?_;rintro _ H ⟨q,rfl,hs⟩;simp only[HV];exact j2 q H hs
theorem dZL.go {g:FuncId}{args:Array Value}{H:Hp}{K:Value→Hp→Prop}(h:fZt prog g=true)(k:Zc prog g args H K):dZL prog g args H K:=aZI h k
def aZM (m:Mn)(k:Nat):Mn:=m.add (cZp m k)
def aZ3 (m:Mn)(k:Nat)(l:List UInt64):Mn:={ aZM m k with inp:=l}.add (cZ6 (aZM m k) k l)
def ldR (per k:Nat):Nat:=16+wiR per k+nS per (2^k)
def ldW (per k:Nat):Nat:=2+wiW per k
section
variable {p dp : Nat} {d : D} {c : Cn} {m : Mn} {peak : Int} (hc : Clean d c) (hh : Holds d.sec d.size m c) (hS : Small 100000 m) (ho : d.rd ≤ 800000 ∧ d.wr ≤ 800000 ∧ d.sy ≤ 800000) (hpk : peak ≤ m.arena)
def iZG (p dp:Nat)(d:D)(m:Mn)(peak:Int)(l:List UInt64)(RR TT:As)(v:Value)(M:List As):Prop:=
 (∃ k i e,hZI l m.most k i e∧e≠0∧v= .tuple #[.int .i64 i,.int .i64 e]∧M=[En p dp (some (egM d m peak)),Dk dp d,RR,TT])∨
 (∃ k:Nat,lg (l.length:Int)=some k∧k≤m.most∧fZs l∧
  ((∃ d' c' peak',peak'≤(m.arena:Int)∧bZN d d' (ldR (d.size/8) k) (ldW (d.size/8) k) 3∧Clean d' c'∧Holds d.sec d.size (aZ3 m k l) c'∧v= .tuple #[.int .i64 0,.int .i64 0]∧M=[En p dp (some (egM d (aZ3 m k l) peak')),Dk dp d',RR,TT])∨
  (∃ d',Cut d d' (ldR (d.size/8) k+ldW (d.size/8) k+3)∧Left d' (fun c'=>Holds d.sec d.size m c'∨Holds d.sec d.size (aZM m k) c'∨Holds d.sec d.size (aZ3 m k l) c')∧v= .tuple #[.int .i64 0,.int .i64 8]∧M=[En p dp none,Dk dp d',RR,TT])))
set_option maxHeartbeats 8000000 in
include hc hh hS ho hpk in
theorem oZ0 {l:List UInt64}{A:Option Addr}{n mm:Nat}{RR TT:As}(hn:n=l.length)(hnm:n≤mm)(hl20:l.length≤40000)(hR:∀ H,RR H→Cells H A (Zd l))(hT:(∀ H,TT H→T64 H)∨∀ H,RR H→T64 H):
  Tr prog 27 #[.pointer (some ⟨p,0,none⟩),.slice A n mm] [En p dp (some (egM d m peak)),Dk dp d,RR,TT] (iZG p dp d m peak l RR TT):=fun H hs=>by
 subst hn;have he:=hh.eg hpk;obtain⟨mp,ap,rp,A',m',hs⟩:=En.whole hs;apply Zm.ok;unfold Zm Zm.q3 Zm.q2 Zm.q1;refine hs.nw fun b1 H hs=>?_
 refine hs.nw fun b2 H hs=>?_
 have chk:∀(L:List As) (H:Hp) (K:Value→Hp→Prop),Sep L H→L[6]? =some RR→L[7]? =some TT→(∀ k i e,hZI l m.most k i e→K (.tuple #[.int .i64 k,.int .i64 i,.int .i64 e]) H)→
   Zc prog 59 #[.slice A l.length mm,.int .i64 (m.most:Int)] H K:=fun L H K hs h6 h7 hk=>by
  obtain⟨H1,hr,hr'⟩:=hs.see 6 h6;obtain⟨H2,ht,ht'⟩:=hs.see 7 h7;refine Zc.mono (qZ1 A l.length mm l m.most rfl (by omega) H (hT.elim (fun f=>(f _ ht).le ht') fun f=>(f _ hr).le hr') ((hR _ hr).le hr')) ?_;rintro _ _ ⟨⟨k,i,e,h,rfl⟩,rfl⟩;exact hk k i e h
 have hk0:∀{k:Nat},lg (l.length:Int)=some k→l.length=2^k:=fun h=>by have:=(dZb h).2;omega
 have hld:=hS.ld;have hpe:(egM d m peak).per=D.per d:=rfl;have j4:∀ k i e b3 H,hZI l m.most k i e→Sep [pts p (aZF dp (some mp)),pts mp (aZp (egM d m peak) ap rp A' (psE (egM d m peak)).length m'),Ar ap m.arena peak [],pts rp (aZh dp 1 8 ((8*(egM d m peak).per:Nat):Int)),Own 122 8 A' (psE (egM d m peak)).length m' (bZJ (psE (egM d m peak))),Dk dp d,RR,TT,
   pts b1 (.obj (.cells #[.pointer (some ⟨p,0,none⟩)] 28)),pts b2 (.obj (.cells #[.slice A l.length mm] 22)),pts b3 (.obj (.cells #[.int .i64 k] 3))] H→
   Zm.j4 (fun v H'=>∃ M,iZG p dp d m peak l RR TT v M∧Sep M H') ⟨b1,0,none⟩ ⟨b2,0,none⟩ i e ⟨b3,0,none⟩ H:=fun k i e b3 H hv hs=>by
  unfold Zm.j4 Zm.j4.q4 Zm.j4.q3 Zm.j4.q2 Zm.j4.q1;have bad:∀(h:e≠0),∃ M,iZG p dp d m peak l RR TT (.tuple #[.int .i64 i,.int .i64 e]) M∧Sep M H:=fun h=>
   ⟨_,.inl ⟨k,i,e,hv,h,rfl,rfl⟩,En.unwhole (L:=[Dk dp d,RR,TT]) (hs.re [0,1,2,3,4,5,6,7] rfl)⟩
  cases hv with
  |len h=>exact ZL (by decide) (bad (by decide))
  |big h h2=>exact ZL (by decide) (bad (by decide))
  |word h h2 h3=>exact ZL (by decide) (bad (by decide))
  |ok hlg hkm hcan=>
  rename_i k
  clear bad;refine ZB rfl ?_;have hkm:k≤m.most:=by omega
  have hl:=hk0 hlg;have hfin:∀ v M,((∃ d' c' peak',peak'≤(m.arena:Int)∧bZN d d' (ldR (d.size/8) k) (ldW (d.size/8) k) 3∧Clean d' c'∧Holds d.sec d.size (aZ3 m k l) c'∧v= .tuple #[.int .i64 0,.int .i64 0]∧M=[En p dp (some (egM d (aZ3 m k l) peak')),Dk dp d',RR,TT])∨
  (∃ d',Cut d d' (ldR (d.size/8) k+ldW (d.size/8) k+3)∧Left d' (fun c'=>Holds d.sec d.size m c'∨Holds d.sec d.size (aZM m k) c'∨Holds d.sec d.size (aZ3 m k l) c')∧v= .tuple #[.int .i64 0,.int .i64 8]∧M=[En p dp none,Dk dp d',RR,TT]))→iZG p dp d m peak l RR TT v M:=fun v M h=>.inr ⟨k,hlg,hkm,hcan,h⟩
  have j7:∀ b4 H,Sep [pts p (aZF dp (some mp)),pts mp (aZp (egM d m peak) ap rp A' (psE (egM d m peak)).length m'),Ar ap m.arena peak [],pts rp (aZh dp 1 8 ((8*(egM d m peak).per:Nat):Int)),Own 122 8 A' (psE (egM d m peak)).length m' (bZJ (psE (egM d m peak))),Dk dp d,RR,TT,
    pts b1 (.obj (.cells #[.pointer (some ⟨p,0,none⟩)] 28)),pts b2 (.obj (.cells #[.slice A l.length mm] 22)),pts b3 (.obj (.cells #[.int .i64 (k:Int)] 3)),pts b4 (bZE { cZp m k with s:=0})] H→
    Zm.j7 (fun v H'=>∃ M,iZG p dp d m peak l RR TT v M∧Sep M H') ⟨b1,0,none⟩ ⟨b2,0,none⟩ ⟨b3,0,none⟩ ⟨b4,0,none⟩ H:=fun b4 H hs=>by
   unfold Zm.j7;refine hs.nw fun b5 H hs=>?_
   refine hs.ld 8 (v:=.pointer (some ⟨p,0,none⟩)) rfl rfl ?_;simp only[HV]
   try simp only[HS]
   refine hs.ld 0 (v:=.pointer (some ⟨mp,0,none⟩)) rfl rfl ?_;simp only[HV];refine hs.nw fun b6 H hs=>?_
   try simp only[HS]
   refine hs.st 13 rfl (by show 0<1;omega) rfl fun H hs=>?_;refine hs.ld 8 (v:=.pointer (some ⟨p,0,none⟩)) rfl rfl ?_;simp only[HV];refine hs.nw fun b7 H hs=>?_
   have hs:=Me.shut (mp:=mp) (dp:=dp) (e:=egM d m peak) (ap:=ap) (rp:=rp) (A:=A') (m:=m') (L:=[pts p (aZF dp (some mp)),Dk dp d,RR,TT,pts b1 (.obj (.cells #[.pointer (some ⟨p,0,none⟩)] 28)),pts b2 (.obj (.cells #[.slice A l.length mm] 22)),pts b3 (.obj (.cells #[.int .i64 (k:Int)] 3)),pts b4 (bZE { cZp m k with s:=0}),pts b5 _,pts b6 _,pts b7 _]) (hs.re [1,2,3,4,0,5,6,7,8,9,10,11,12,13,14] rfl);apply ZN.ok;unfold ZN;refine⟨4,?_⟩;obtain⟨g1,g2,g3,g4⟩:=vZr hh hS (by omega) hkm;have hres1:bZx prog 60=[53]:=by kernel_rfl
   have hres2:bZx prog 61=[53]:=by kernel_rfl
   have hres3:bZx prog 63=[53]:=by kernel_rfl
   have bad:∀(X:As) (L':List As) (H:Hp) (d':D),Sep (X::Dk dp d'::pts p (aZF dp (some mp))::RR::TT::L') H→Cut d d' (ldR (d.size/8) k+ldW (d.size/8) k+3)→Left d' (fun c'=>Holds d.sec d.size m c'∨Holds d.sec d.size (aZM m k) c'∨Holds d.sec d.size (aZ3 m k l) c')→
     Zc prog 39 #[.pointer (some ⟨p,0,none⟩),.int .i64 8] H fun v H'=>v= .int .i64 8∧∃ M,iZG p dp d m peak l RR TT (.tuple #[.int .i64 0,.int .i64 8]) M∧Sep M H':=fun X L' H d' hs h1 h2=>by
    have hs:Sep [X,Dk dp d',pts p (aZF dp (some mp)),RR,TT] H:=Sep.take (L:=L') hs;refine(eZc (p:=p) (dp:=dp) (mp:=mp) 8).use hs [2] rfl rfl ?_;rintro _ _ H ⟨rfl,rfl⟩ hs;exact⟨rfl,_,hfin _ _ (.inr ⟨d',h1,h2,rfl,rfl⟩),hs.re [0,2,3,4] rfl⟩
   unfold ZN.l2;refine Zv (by decide) ⟨by decide,by decide,?_⟩;simp only[HV];refine hs.ldr 11 (v:=.func (.func 60) #[] #[.pointer (some ⟨b6,0,none⟩),.pointer (some ⟨b4,0,none⟩)]) rfl rfl ?_;refine dZL.go (by kernel_rfl) ?_;rw[hres1];apply cZD.ok;unfold cZD;simp only[HV];refine hs.ld 10 (v:=.pointer (some ⟨mp,0,none⟩)) rfl rfl ?_;simp only[HV];refine hs.ldw 8 rfl rfl ?_
   try simp only[Array.toArray_toList]
   have hseq:=Mn.seq_r hh;have hR1:ldR (d.size/8) k=8+(wiR (d.size/8) k+nS (d.size/8) (2^k))+8:=by unfold ldR;omega
   have hW1:ldW (d.size/8) k=1+wiW (d.size/8) k+1:=by unfold ldW;omega
   refine(hZL (mp:=mp) (dp:=dp) (e:=egM d m peak) hc he (by omega) (r:=cZp m k) { cZp m k with s:=0} rfl hseq.symm g1 g2 (by rw[hh.lastC];exact g3) (by show(k:Int)≤m.most;omega)).use hs [0,2] rfl rfl ?_;rintro _ _ H (⟨d1,rfl,hw1,hc1,rfl⟩|⟨d',rfl,hcut,hleft,rfl⟩) hs
   rotate_left
   ·simp only[HV];refine eZk _ _ ?_;simp only[HV];refine ZL (by decide) ?_;refine Zc.mono (bad _ _ H d' hs (hcut.more (by omega)) (hleft.mono fun c' h=>?_)) ?_
    ·rcases h with e|e
     ·left;rw[e];exact hh
     ·right;left;rw[e];exact g4
    ·rintro _ H ⟨rfl,M,h,hs⟩;simp only[HV];exact⟨M,h,hs⟩
   simp only[HV];refine eZk _ _ ?_;simp only[HV];refine ZB rfl ?_;rw[show IntKind.i64.wrap ((0:Int)+1)=1 by kernel_rfl];unfold ZN.l2;refine Zv (by decide) ⟨by decide,by decide,?_⟩;simp only[HV];refine hs.ldr 11 (v:=.func (.func 61) #[] #[.pointer (some ⟨b6,0,none⟩),.pointer (some ⟨b1,0,none⟩),.pointer (some ⟨b3,0,none⟩),.pointer (some ⟨b2,0,none⟩),.pointer (some ⟨b5,0,none⟩)]) rfl rfl ?_;refine dZL.go (by kernel_rfl) ?_;rw[hres2];apply cZE.ok;unfold cZE;simp only[HV];refine hs.ld 10 (v:=.pointer (some ⟨mp,0,none⟩)) rfl rfl ?_;simp only[HV];refine hs.ld 5 (v:=.pointer (some ⟨p,0,none⟩)) rfl rfl ?_;simp only[HV]
   try simp only[HS]
   refine hs.ld 2 (v:=.pointer (some ⟨dp,0,none⟩)) rfl rfl ?_;simp only[HV];refine hs.ld 7 (v:=.int .i64 (k:Int)) rfl rfl ?_;simp only[HV];refine hs.ld 6 (v:=.slice A l.length mm) rfl rfl ?_;simp only[HV];have h1r:(aZM m k).r=cZp m k:=Mn.add_r _ _;have hh1:Holds d1.sec d1.size (aZM m k) (bZB c (aZW 1 8 (cZp m k).s) ((cZp m k).form d.size)):=by rw[hw1.sec,hw1.size];exact g4
   have ee:{ egM d m peak with r:=cZp m k}=egM d1 (aZM m k) peak:=by unfold egM;rw[h1r,hw1.sec,hw1.size];rfl
   rw[ee]at hs;have he1:=hh1.eg (peak:=peak) hpk;generalize hc1e:bZB c (aZW 1 8 (cZp m k).s) ((cZp m k).form d.size)=c1 at*;obtain⟨ap2,rp2,A2,m2,hs⟩:=Me.open hs;have hs:Sep [pts mp (aZp (egM d1 (aZM m k) peak) ap2 rp2 A2 (psE (egM d1 (aZM m k) peak)).length m2),Ar ap2 m.arena peak [],pts rp2 (aZh dp 1 8 ((8*(egM d1 (aZM m k) peak).per:Nat):Int)),Own 122 8 A2 (psE (egM d1 (aZM m k) peak)).length m2 (bZJ (psE (egM d1 (aZM m k) peak))),Dk dp d1,pts p (aZF dp (some mp)),RR,TT,
    pts b1 (.obj (.cells #[.pointer (some ⟨p,0,none⟩)] 28)),pts b2 (.obj (.cells #[.slice A l.length mm] 22)),pts b3 (.obj (.cells #[.int .i64 (k:Int)] 3)),pts b4 (bZE { cZp m k with s:=0}),pts b5 _,pts b6 _,pts b7 _] H:=hs
   have hkk:=cZL (k:=k) (by have:=he.most;have:m.most≤32:=this;omega);have hrd1:=hw1.rd;have hwr1:=hw1.wr;have hsy1:=hw1.sy;refine(tZX (mp:=mp) (dp:=dp) (ap:=ap2) (rp:=rp2) (e:=egM d1 (aZM m k) peak) (A:=A2) (n:=(psE (egM d1 (aZM m k) peak)).length) (mm:=m2) (d:=d1) (c:=c1) (k:=k) (l:=l) (R:=RR) hc1 he1 hkm (by omega) hl rfl hnm hR).use hs [0,1,4,6] rfl rfl ?_;have hp1:D.per d1=d.size/8:=hw1.per;have htgt:∀ c',Sam (inX (exX m.most (D.per d1) 0 k)) c1 c'→Holds d1.sec d1.size (aZM m k) c':=fun c' h=>
    hh1.target (t:=0) (k:=k) hkm (fun r hr h2=>by rw[aZM,Mn.add_last]at hr;cases hr;exact absurd h2 (show ¬(2:Int)≤1 by omega)) (fun r hr h4=>by rw[aZM,Mn.add_last]at hr;cases hr;exact absurd h4 (show ¬(1:Int)=4 by omega)) h
   rintro _ _ H ⟨pk2,hpk2,(⟨d2,c2,hw2,hc2,hsam,hcw,rfl,rfl⟩|⟨d',x,hcut,hleft,rfl,rfl⟩)⟩ hs
   rotate_left
   ·simp only[HV]
    try simp only[HS]
    refine hs.st 12 rfl (by show 0<1;omega) rfl fun H hs=>?_;refine eZk _ _ ?_;simp only[HV];refine ZL (by decide) ?_;rw[hp1]at hcut;refine Zc.mono (bad _ _ H d' (hs.re [0,2,6,3,7] rfl) ((hw1.cut hcut).more (by omega)) (hleft.mono fun c' h=>?_)) ?_
    ·right;left;have:=htgt c' h;rw[hw1.sec,hw1.size]at this;exact this
    ·rintro _ H ⟨rfl,M,h,hs⟩;simp only[HV];exact⟨M,h,hs⟩
   simp only[HV]
   try simp only[HS]
   refine hs.st 12 rfl (by show 0<1;omega) rfl fun H hs=>?_;refine eZk _ _ ?_;simp only[HV];refine ZB rfl ?_;rw[show IntKind.i64.wrap ((1:Int)+1)=2 by kernel_rfl];unfold ZN.l2;refine Zv (by decide) ⟨by decide,by decide,?_⟩;simp only[HV];have ee2:{ egM d1 (aZM m k) peak with peak:=pk2}=egM d2 (aZM m k) pk2:=by unfold egM;rw[hw2.sec,hw2.size]
   have hs:Sep (gZH mp dp ap2 rp2 { egM d1 (aZM m k) peak with peak:=pk2} A2 (psE { egM d1 (aZM m k) peak with peak:=pk2}).length m2++[Dk dp d2,pts p (aZF dp (some mp)),RR,TT,
    pts b1 (.obj (.cells #[.pointer (some ⟨p,0,none⟩)] 28)),pts b2 (.obj (.cells #[.slice A l.length mm] 22)),pts b3 (.obj (.cells #[.int .i64 (k:Int)] 3)),pts b4 (bZE { cZp m k with s:=0}),pts b5 _,pts b6 _,pts b7 _]) H:=hs.re [0,1,4,5,2,6,3,7,8,9,10,11,12,13,14] rfl
   have hs:=Me.shut hs;rw[ee2]at hs;have hh2:Holds d2.sec d2.size (aZM m k) c2:=by rw[hw2.sec,hw2.size];exact htgt c2 hsam
   have hS1:Small 100001 (aZM m k):=hS.add (by show m.r.ld+1≤_;omega);have h1kd:(aZM m k).r.kd=1:=by rw[h1r];rfl
   have h1kk:(aZM m k).r.kk=k:=by rw[h1r];rfl
   have hsz2:d2.size/8=D.per d1:=by rw[hw2.size];rfl
   obtain⟨q1,q2,q3,q4⟩:=uZP hh2 hS1 (by omega) h1kd h1kk hl hcan (by rw[hsz2];exact hcw);have hrd2:=hw2.rd;have hwr2:=hw2.wr;have hsy2:=hw2.sy;have hb1:=lZA (D.per d1) k;have hb2:=lZB (D.per d1) k;have hpd1:=Ok.per_le hc1.ok;have hb3:=jZI (per:=D.per d1) (w:=2^k) (by omega) (Nat.two_pow_pos k);have elr:cZ6 (aZM m k) k l=⟨(aZM m k).seq,2,k,0,0,m.r.ld+1,eZC l,0⟩:=by unfold cZ6;rw[h1r];rfl
   have hseq2:=Mn.seq_r hh2;refine hs.ldr 11 (v:=.func (.func 63) #[] #[.pointer (some ⟨b5,0,none⟩),.pointer (some ⟨b4,0,none⟩),.pointer (some ⟨b6,0,none⟩)]) rfl rfl ?_;refine dZL.go (by kernel_rfl) ?_;rw[hres3];apply bZg.ok;unfold bZg bZg.q1;have fin3:∀ H,Sep [Me mp dp (egM d2 (aZM m k) pk2),Dk dp d2,pts p (aZF dp (some mp)),RR,TT,
    pts b1 (.obj (.cells #[.pointer (some ⟨p,0,none⟩)] 28)),pts b2 (.obj (.cells #[.slice A l.length mm] 22)),pts b3 (.obj (.cells #[.int .i64 (k:Int)] 3)),pts b4 (bZE { cZ6 (aZM m k) k l with s:=0})] H→
     Zc prog 45 #[.pointer (some ⟨mp,0,none⟩),.agg (R.c { cZ6 (aZM m k) k l with s:=0})] H fun v H'=>∃ x:Int,v= .int .i64 x∧((x=0∧∃ M,iZG p dp d m peak l RR TT (.tuple #[.int .i64 0,.int .i64 0]) M∧Sep M H')∨(x=8∧∃(X:As) (L':List As) (d':D),Sep (X::Dk dp d'::pts p (aZF dp (some mp))::RR::TT::L') H'∧Cut d d' (ldR (d.size/8) k+ldW (d.size/8) k+3)∧Left d' (fun c'=>Holds d.sec d.size m c'∨Holds d.sec d.size (aZM m k) c'∨Holds d.sec d.size (aZ3 m k l) c'))):=fun H hs=>by
    refine(hZL (mp:=mp) (dp:=dp) (e:=egM d2 (aZM m k) pk2) hc2 (hh2.eg hpk2) (by omega) (r:=cZ6 (aZM m k) k l) { cZ6 (aZM m k) k l with s:=0} rfl hseq2.symm q1 q2 (by rw[hh2.lastC];exact q3) (by show(k:Int)≤m.most;omega)).use hs [0,1] rfl rfl ?_;rintro _ _ H (⟨d3,rfl,hw3,hc3,rfl⟩|⟨d',rfl,hcut,hleft,rfl⟩) hs
    ·refine⟨0,rfl,.inl ⟨rfl,_,hfin _ _ (.inl ⟨d3,_,pk2,hpk2,?_,hc3,?_,rfl,rfl⟩),?_⟩⟩
     ·have:=(hw1.trans hw2).trans hw3;rw[hp1]at this;rw[hR1,hW1];exact this
     ·have:=q4;rw[hw2.sec,hw2.size,hw1.sec,hw1.size]at this;rw[hw2.size,hw1.size];exact this
     ·have e3:egM d (aZ3 m k l) pk2={ egM d2 (aZM m k) pk2 with r:=cZ6 (aZM m k) k l}:=by
       unfold aZ3 egM;rw[Mn.add_r,hw2.sec,hw2.size,hw1.sec,hw1.size];rfl
      rw[e3];exact En.shut (L:=[Dk dp d3,RR,TT]) (hs.re [2,0,1,3,4] rfl)
    ·refine⟨8,rfl,.inr ⟨rfl,_,_,d',hs,?_,hleft.mono fun c' h=>?_⟩⟩
     ·have:=(hw1.trans hw2).cut hcut;rw[hp1]at this;exact this.more (by omega)
     ·rw[hw2.sec,hw2.size,hw1.sec,hw1.size]at q4 hh2;rw[hw2.size,hw1.size]at h;rcases h with e|e
      ·right;left;rw[e];exact hh2
      ·right;right;rw[e];exact q4
   constructor
   ·refine hs.ld 9 (v:=.int .u32 (eZC l:Int)) rfl rfl ?_;simp only[HV]
    try simp only[HS]
    refine hs.st 8 rfl (by show 1<8;omega) rfl fun H hs=>?_
    try simp only[HS]
    refine hs.st 8 rfl (by show 6<8;omega) rfl fun H hs=>?_;refine hs.ld 10 (v:=.pointer (some ⟨mp,0,none⟩)) rfl rfl ?_;simp only[HV];refine hs.ldw 8 rfl rfl ?_
    try simp only[Array.toArray_toList]
    have hs:=hs.re [0,1,2,3,4,5,6,7,8] rfl;have ff:=fin3 H;rw[elr]at ff;refine Zc.mono (ff hs) ?_;rintro _ H ⟨x,rfl,(⟨rfl,M,h,hs⟩|⟨rfl,X,L',d',hs,h1,h2⟩)⟩
    ·simp only[HV];refine eZk _ _ ?_;simp only[HV];refine ZB rfl ?_;rw[show IntKind.i64.wrap ((2:Int)+1)=3 by kernel_rfl];unfold ZN.l2;refine Zl (by decide) ?_;simp only[HV];exact⟨M,h,hs⟩
    ·simp only[HV];refine eZk _ _ ?_;simp only[HV];refine ZL (by decide) ?_;refine Zc.mono (bad X L' H d' hs h1 h2) ?_;rintro _ H ⟨rfl,M,h,hs⟩;simp only[HV];exact⟨M,h,hs⟩
   ·try simp only[HS]
    refine hs.st 8 rfl (by show 1<8;omega) rfl fun H hs=>?_;refine hs.ld 9 (v:=.int .u32 (eZC l:Int)) rfl rfl ?_;simp only[HV]
    try simp only[HS]
    refine hs.st 8 rfl (by show 6<8;omega) rfl fun H hs=>?_;refine hs.ld 10 (v:=.pointer (some ⟨mp,0,none⟩)) rfl rfl ?_;simp only[HV];refine hs.ldw 8 rfl rfl ?_
    try simp only[Array.toArray_toList]
    have hs:=hs.re [0,1,2,3,4,5,6,7,8] rfl;have ff:=fin3 H;rw[elr]at ff;refine Zc.mono (ff hs) ?_;rintro _ H ⟨x,rfl,(⟨rfl,M,h,hs⟩|⟨rfl,X,L',d',hs,h1,h2⟩)⟩
    ·simp only[HV];refine eZk _ _ ?_;simp only[HV];refine ZB rfl ?_;rw[show IntKind.i64.wrap ((2:Int)+1)=3 by kernel_rfl];unfold ZN.l2;refine Zl (by decide) ?_;simp only[HV];exact⟨M,h,hs⟩
    ·simp only[HV];refine eZk _ _ ?_;simp only[HV];refine ZL (by decide) ?_;refine Zc.mono (bad X L' H d' hs h1 h2) ?_;rintro _ H ⟨rfl,M,h,hs⟩;simp only[HV];exact⟨M,h,hs⟩
  have ewp:IntKind.u32.wrap ((m.r.ld:Int)+1)=((m.r.ld+1:Nat):Int):=by rw[wZk (by omega) (by omega)];rfl
  repeat' first
   |(rw[ewp]at hs;exact j7 _ _ hs)
   |refine hs.ld 8 (v:=.pointer (some ⟨p,0,none⟩)) rfl rfl ?_
   |refine hs.ld 10 (v:=.int .i64 (k:Int)) rfl rfl ?_
   |refine hs.ld 0 (v:=.pointer (some ⟨mp,0,none⟩)) rfl rfl ?_
   |refine hs.ld 1 (v:=.int .u32 (m.r.ld:Int)) rfl rfl ?_
   |refine hs.nw fun b H hs=>?_
   |refine hs.stw 11 rfl rfl rfl rfl fun H hs=>?_
   |(simp only[HV];try simp only[HS])
   |refine⟨?_,?_⟩
 refine hs.ld 8 (v:=.pointer (some ⟨p,0,none⟩)) rfl rfl ?_;simp only[HV]
 try simp only[HS]
 refine hs.ld 0 (v:=.pointer (some ⟨mp,0,none⟩)) rfl rfl ?_;simp only[HV];refine aZq rfl ?_
 repeat' first
  |exact j4 _ _ _ _ _ hv hs
  |refine hs.ld 9 (v:=.slice A l.length mm) rfl rfl ?_
  |refine hs.ld 8 (v:=.pointer (some ⟨p,0,none⟩)) rfl rfl ?_
  |refine hs.ld 0 (v:=.pointer (some ⟨mp,0,none⟩)) rfl rfl ?_
  |refine hs.ld 1 (v:=.int .i64 (m.most:Int)) rfl rfl ?_
  |refine chk _ _ _ hs rfl rfl fun k i e hv=>?_
  |refine hs.nw fun b H hs=>?_
  |refine hs.st 10 rfl Nat.zero_lt_one rfl fun H hs=>?_
  |(simp only[HV];try simp only[HS])
  |refine⟨?_,?_⟩
end
end Eng
namespace Sup
open Go Go.Hw Go.Form W Lay
theorem qZA (k sec s ar:Int)(h:bZu k sec s ar=true)(hsec:sec≤9223372036854775807):aZ6 (bZ1 k sec s ar)=((k,sec,s,ar),0):=by
 have hg:=h;unfold bZu at hg;simp only[decide_eq_true_eq]at hg;obtain⟨h1,h2,h3,h4,h5,h6⟩:=hg;obtain⟨kn,rfl⟩:=Int.eq_ofNat_of_zero_le h1;have hlen:=iZN kn sec s ar h3;have hlog:=hZk s;have hll:=rZJ s;have hw:∀(i:Nat) (hi:i<4),ZC (bZ1 kn sec s ar) (8*i)=((gZW kn sec s ar)[i]'(by rw[iZO];exact hi)).toNat:=fun i hi=>eZ1 (by rw[iZO];exact hi) _
 have hf64:bZC kn s<2^64:=by unfold bZC;omega
 have w0:ZC (bZ1 kn sec s ar) 0=bZC kn s:=(hw 0 (by omega)).trans (eZL hf64);have w1:ZC (bZ1 kn sec s ar) 8=sec.toNat:=(hw 1 (by omega)).trans (eZL (by omega));have w2:ZC (bZ1 kn sec s ar) 16=ar.toNat:=(hw 2 (by omega)).trans (eZL (by omega));have hcr:lZL (bZC kn s) sec.toNat ar.toNat=(Go.Crc.sum (form (gZa kn sec s ar))).toNat:=rfl;have hsum:=(Go.Crc.sum (form (gZa kn sec s ar))).isLt;have w3:ZC (bZ1 kn sec s ar) 24=lZL (bZC kn s) sec.toNat ar.toNat:=(hw 3 (by omega)).trans (by rw[hcr];exact eZL (by omega));have hz:iZg (bZ1 kn sec s ar)=true:=by
  unfold iZg bZ1;rw[List.drop_left' (by rw[bZb,iZO])];simp
 have hf1:bZC kn s/4294967296=1094861123:=by unfold bZC;omega
 have hf2:bZC kn s/65536%65536=kn:=by unfold bZC;omega
 have hf3:((bZC kn s%65536:Nat):Int)=cZi s:=by unfold bZC;omega
 have hsb:eZt (bZ1 kn sec s ar)=((kn:Int),sec,s,ar):=by
  unfold eZt;rw[w0,w1,w2,hf2,hlen,ZU (by omega) (by omega),ZU (by omega) (by omega),show((sec.toNat:Nat):Int)=sec by omega,show((ar.toNat:Nat):Int)=ar by omega]
 unfold aZ6;rw[hlen,hsb,w0,w1,w2,w3,if_neg (by omega),if_neg (by simp[hf1,hz]),if_neg (by simp),if_pos ⟨h,hf3⟩]
end Sup
namespace Eng
open Go Go.Hw Go.Form W Shp Dsk Str Are Trn Pas Pln Rec Srt Rng
def inF (n:Nat)(i:Int):Prop:=1≤i∧i<((1+n:Nat):Int)
theorem sZu {d:D}(hl:d.down=false)(hf:d.fuse≠1)(k:Int)(b:List UInt8)(i:Int):(d.wrote k b).now i=if i=k then b else d.now i:=by
 unfold D.wrote;rw[eZb hl hf];unfold D.now cZC;by_cases h:i=k
 ·simp only[if_pos h];rfl
 ·simp only[if_neg h];rfl
theorem mZe {d0:D}{c:Cn}(h:Clean d0 c){n:Nat}(hn:1+n≤d0.sec):∀(k i:Nat) (d:D),i+k=n→Prog (inF n) d0 d 0 i→(∀ j:Nat,j<i→d.now ((1+j:Nat):Int)=List.replicate d0.size 0)→
  (∃ d' c',iZA 1 k i d=(0,d')∧bZN d0 d' 0 n 1∧Clean d' c'∧Sam (inF n) c c'∧∀ j:Nat,j<n→c' ((1+j:Nat):Int)=List.replicate d0.size 0)∨
  (∃ d',iZA 1 k i d=(8,d')∧Cut d0 d' (n+1)∧Left d' (Sam (inF n) c))
 |0,i,d,hi,hP,hz=>by
  have hS:∀ i,inF n i→0≤i∧i<d0.sec:=fun i hi=>⟨by have:=hi.1;omega,by have:=hi.2;omega⟩
  have e:i=n:=by omega
  subst e;have hsam:Sam (inF i) c d.now:=fun j hj=>(h.prog hP j).2 hj
  rcases h.sync hP hS with⟨s1,s2,s3⟩|⟨s1,s2,s3⟩
  ·exact .inl ⟨_,_,by show(d.syncE,d.syncD)=_;rw[s1],s2,s3,hsam,hz⟩
  ·exact .inr ⟨_,by show(d.syncE,d.syncD)=_;rw[s1],s2.more (by omega),s3.mono fun _ h=>h.2⟩
 |k+1,i,d,hi,hP,hz=>by
  have hS:∀ i,inF n i→0≤i∧i<d0.sec:=fun i hi=>⟨by have:=hi.1;omega,by have:=hi.2;omega⟩
  have hsec:=hP.sec;have hsize:=hP.size;have hchk:d.chk ((1+i:Nat):Int)=0:=gZj hP.down (Int.natCast_nonneg _) (by rw[hsec];omega);have hin:inF n ((1+i:Nat):Int):=⟨by omega,by omega⟩;have hlen:(List.replicate d.size (0:UInt8)).length=d.size:=List.length_replicate;unfold iZA;by_cases hf:d.fuse=1
  ·have hbn:d.burns=true:=by unfold D.burns;simp[hf]
   have e1:d.writeE ((1+i:Nat):Int) d.size=8:=by unfold D.writeE;rw[if_neg (by rw[hchk];simp),if_neg (by simp),hbn];rfl
   have e2:d.writeD ((1+i:Nat):Int) (List.replicate d.size 0)=D.dead d:=by unfold D.writeD;rw[if_neg (by rw[hchk];simp),if_neg (by simp[hlen]),hbn,eZB hf];rfl
   rw[e1,e2,if_pos (by decide)];have hD:=hP.dead (cZv.one (inF n) hP.ok hf);have h1:=hP.fuse;have h2:=hP.go;exact .inr ⟨_,rfl,h.deadCut hD hS (by omega) (by omega),h.deadLeft hD⟩
  ·have hbn:d.burns=false:=by unfold D.burns;exact decide_eq_false hf
   have e1:d.writeE ((1+i:Nat):Int) d.size=0:=by unfold D.writeE;rw[if_neg (by rw[hchk];simp),if_neg (by simp),hbn];rfl
   have e2:d.writeD ((1+i:Nat):Int) (List.replicate d.size 0)=d.wrote ((1+i:Nat):Int) (List.replicate d.size 0):=by unfold D.writeD;rw[if_neg (by rw[hchk];simp),if_neg (by simp[hlen]),hbn];rfl
   rw[e1,e2,if_neg (by simp)];have hW:=Prog.wrote (S:=inF n) hP.ok hP.down hf hin hlen;have hT:=hP.trans hW;refine mZe h hn k (i+1) _ (by omega) hT fun j hj=>?_
   rw[sZu hP.down hf];by_cases e:j=i
   ·rw[e,if_pos rfl,hsize]
   ·rw[if_neg (by omega)];exact hz j (by omega)
def bZA (k words:Nat):Mn:=⟨k,words,[],[]⟩
theorem qZe {sec size k words:Nat}{c:Cn}(hg:Sup.bZu k sec size words=true)(hl:bZn k (size/8)≤words)(h0:c 0=Sup.bZ1 k sec size words)(hz:∀ j:Nat,j<8→c ((1+j:Nat):Int)=List.replicate size 0):Holds sec size (bZA k words) c:=
 ⟨h0,hg,hl,Log.nil,fun i hi=>hz i hi,fun r hr=>(by cases hr),fun r hr=>(by cases hr),fun r hr=>(by cases hr)⟩
def bZH (sec per:Nat)(k words:Int):Int:=if words<1∨words>16777216∨k<0∨k>32 then 1 else if(sec:Int)<Lay.bZy k.toNat per then 7 else if words<bZn k.toNat per then 6 else 0
theorem uZH {p dp:Nat}{mo:Option Nat}{d:D}(hok:Ok d)(hpn:0<Lay.aZj (d.size:Int))(k words:Int):Tr prog 49 #[.pointer (some ⟨p,0,none⟩),.int .i64 k,.int .i64 words] [pts p (aZF dp mo),Dk dp d] fun v M=>v= .int .i64 (bZH d.sec (d.size/8) k words)∧M=[pts p (aZF dp mo),Dk dp d]:=fun H hs=>by
 have hper:=eZH hpn;apply ZH.ok;unfold ZH ZH.q3 ZH.q2 ZH.q1;have fin:∀(x:Int) (H:Hp) (T:List As),x=bZH d.sec (d.size/8) k words→Sep ([pts p (aZF dp mo),Dk dp d]++T) H→∃ M,(Value.int .i64 x= .int .i64 (bZH d.sec (d.size/8) k words)∧M=[pts p (aZF dp mo),Dk dp d])∧Sep M H:=fun x H T hx hs=>⟨_,⟨by rw[hx],rfl⟩,Sep.take hs⟩
 by_cases h1:words<1
 ·exact Zv h1 (fin 1 H [] (by unfold bZH;rw[if_pos (.inl h1)]) hs)
 refine Zl h1 ?_;by_cases h2:words>16777216
 ·exact Zv h2 (fin 1 H [] (by unfold bZH;rw[if_pos (.inr (.inl h2))]) hs)
 refine Zl h2 ?_;have j4:∀ b H,Sep [pts p (aZF dp mo),Dk dp d,pts b (.obj (.cells (Lay.OfV k d.sec d.size).1 101))] H→ZH.j4 (fun v H'=>∃ M,(v= .int .i64 (bZH d.sec (d.size/8) k words)∧M=[pts p (aZF dp mo),Dk dp d])∧Sep M H') k words ⟨b,0,none⟩ (Lay.OfV k d.sec d.size).2 H:=fun b H hs=>by
  unfold ZH.j4;unfold Lay.OfV at hs⊢;by_cases h3:0≤k∧k≤32
  ·have h3':0≤k∧k≤32∧0<Lay.aZj d.size:=⟨h3.1,h3.2,hpn⟩;rw[if_pos h3']at hs⊢;by_cases h4:(d.sec:Int)<Lay.bZy k.toNat (Lay.aZj d.size)
   ·rw[if_pos h4]at hs⊢;refine ZL (by decide) (fin 7 H _ ?_ hs);unfold bZH;rw[if_neg (by omega),if_pos (by rw[← hper.1];exact h4)]
   ·rw[if_neg h4]at hs⊢;refine ZB rfl ?_
    try simp only[HS]
    refine hs.ld 2 (v:=.int .i64 ((Lay.aZj d.size:Nat):Int)) rfl rfl ?_;simp only[HV];obtain⟨kn,rfl⟩:=Int.eq_ofNat_of_zero_le h3.1;have hpB:cZJ ((Lay.aZj d.size:Nat):Int)=true:=by rw[hper.1];exact mZG hpn
    refine Zc.use (sZJ (k:=kn) (per:=Lay.aZj d.size) (by omega) hpB H) ?_;simp only[HV];refine ZB rfl ?_;rw[hper.1]at h4;have h4':¬(d.sec:Int)<Lay.bZy (kn:Int).toNat (d.size/8):=h4;by_cases h5:words<(bZn kn (Lay.aZj d.size):Int)
    ·refine Zv h5 (fin 6 H _ ?_ hs);unfold bZH;rw[if_neg (by omega),if_neg h4',if_pos (by rw[← hper.1];exact h5)]
    ·refine Zl h5 (fin 0 H _ ?_ hs);unfold bZH;rw[if_neg (by omega),if_neg h4',if_neg (by rw[← hper.1];exact h5)]
  ·rw[if_neg (fun h=>h3 ⟨h.1,h.2.1⟩)]at hs⊢;refine ZL (by decide) (fin 1 H _ ?_ hs);unfold bZH;rw[if_pos (by omega)]
 try simp only[HS]
 have hsz:∀(H:Hp) (T:List As) (K:Value→Prop),Sep ([pts p (aZF dp mo),Dk dp d]++T) H→K (.int .i64 (d.sec:Int))→ZZ prog 50 #[.pointer (some ⟨dp,0,none⟩)] H K:=fun H T K hs h=>ZZ.use (eZy hs 1 rfl) h
 have hsy:∀(H:Hp) (T:List As) (K:Value→Prop),Sep ([pts p (aZF dp mo),Dk dp d]++T) H→K (.int .i64 (d.size:Int))→ZZ prog 51 #[.pointer (some ⟨dp,0,none⟩)] H K:=fun H T K hs h=>ZZ.use (hZn hs 1 rfl) h
 have hof:∀(H:Hp) (K:Value→Prop),K (.tuple #[.agg (Lay.OfV k d.sec d.size).1,.int .i64 (Lay.OfV k d.sec d.size).2])→ZZ prog 89 #[.int .i64 k,.int .i64 (d.sec:Int),.int .i64 (d.size:Int)] H K:=fun H K h=>ZZ.use (Lay.eZu k d.sec d.size H) h
 have hS1:(Lay.OfV k d.sec d.size).1.size=17:=Sup.kZe k d.sec d.size
 repeat' first
  |exact j4 _ _ hs
  |refine hs.ld 0 (v:=.pointer (some ⟨dp,0,none⟩)) rfl rfl ?_
  |refine hsz _ [] _ hs ?_
  |refine hsy _ [] _ hs ?_
  |refine hsz _ [_] _ hs ?_
  |refine hsy _ [_] _ hs ?_
  |refine hof _ _ ?_
  |refine hs.nw fun b H hs=>?_
  |refine hs.stw 2 rfl rfl (Sup.kZe _ _ _) (Sup.oZ2 _ _ _) fun H hs=>?_
  |(simp only[HV];try simp only[HS])
  |refine⟨?_,?_⟩
theorem rZF (k p:Nat):Lay.cZ5 k p=#[.int .i64 (k:Int),.int .i64 (p:Int),.int .i64 1,.int .i64 8,.int .i64 ((8*p:Nat):Int),.int .i64 9,.int .i64 (Lay.aZe k p:Int),.int .i64 ((2^k:Nat):Int),.int .i64 (9+(Lay.aZe k p:Int)),.int .i64 (Lay.aZe k p:Int),.int .i64 ((2^k:Nat):Int),.int .i64 (9+2*(Lay.aZe k p:Int)),.int .i64 (Lay.aZe k p:Int),.int .i64 ((2^k:Nat):Int),.int .i64 (9+3*(Lay.aZe k p:Int)),.int .i64 (Lay.aZe k p:Int),.int .i64 ((2^k:Nat):Int)]:=rfl
theorem pZi {dp:Nat}{d:D}{k ar:Nat}(hok:Ok d)(hg:Sup.bZu (k:Int) d.sec d.size (ar:Int)=true):
  Tr prog 40 #[.pointer (some ⟨dp,0,none⟩),.agg (Sup.bZU k d.sec d.size ar)] [Dk dp d] fun v M=>∃ mp ap rp,v= .tuple #[.pointer (some ⟨mp,0,none⟩),.int .i64 0]∧M=[pts mp (aZp ⟨k,d.sec,d.size,ar,bZk,0⟩ ap rp .none 0 0),Ar ap ar 0 [],pts rp (aZh dp 1 8 ((8*(d.size/8):Nat):Int)),Dk dp d]:=fun H hs=>by
 have hgo:=dZa hg;have hper:=eZH hgo.2.1;have hlay:Sup.bZu (k:Int) d.sec d.size (ar:Int)=true→(if Sup.bZu (k:Int) d.sec d.size (ar:Int)=true then Value.tuple #[.agg (Lay.cZ5 (k:Int).toNat (Lay.aZj d.size)),.int .i64 0]else .tuple #[.agg Lay.nZU,.int .i64 1])= .tuple #[.agg (Lay.cZ5 k (d.size/8)),.int .i64 0]:=fun h=>by rw[if_pos h,Int.toNat_natCast,hper.1]
 have hext:lZO d 1 8=true:=decide_eq_true (by have:=hgo.2.2.1;unfold Lay.bZy at this;omega);have hL:=Sup.qZX (k:Int) d.sec d.size (ar:Int);rw[hlay hg]at hL;apply bZF.ok;unfold bZF bZF.q1;refine hs.nw fun b1 H hs=>?_
 refine hs.ldw 1 rfl rfl ?_;refine Zc.use (hL H) ?_;simp only[HV];refine hs.nw fun b2 H hs=>?_
 refine hs.stw 2 rfl rfl rfl rfl fun H hs=>?_;refine ZB rfl ?_
 try simp only[HS]
 refine hs.lda 2 (off:=2) (n:=3) rfl (by show 2+3≤17;omega) ?_;refine(Rng.dZn (p:=dp) (d:=d) hok 1 8 ((8*(d.size/8):Nat):Int) (by omega)).use hs [0] rfl rfl ?_;rintro _ _ H (⟨_,rp,rfl,rfl⟩|⟨h,_⟩) hs
 rotate_left
 ·rw[hext]at h;cases h
 simp only[HV];refine ZB rfl ?_;have hs:Sep [Dk dp d,pts rp (aZh dp 1 8 ((8*(d.size/8):Nat):Int)),pts b1 (.obj (.cells #[.int .i64 k,.int .i64 d.sec,.int .i64 d.size,.int .i64 ar] 30)),pts b2 (.obj (.cells (Lay.cZ5 k (d.size/8)) 101))] H:=hs;rw[rZF]at hs
 try simp only[HS]
 refine hs.ld 2 (v:=.int .i64 (ar:Int)) rfl rfl ?_;simp only[HV];have fin:∀(mp ap:Nat) (T:List As) (H:Hp),Sep ([Ar ap ar 0 [],Dk dp d,pts rp (aZh dp 1 8 ((8*(d.size/8):Nat):Int))]++T++[pts mp (aZp ⟨k,d.sec,d.size,ar,bZk,0⟩ ap rp .none 0 0)]) H→
   ∃ M,(∃ mp' ap' rp',(Value.tuple #[.pointer (some ⟨mp,0,none⟩),.int .i64 0])= .tuple #[.pointer (some ⟨mp',0,none⟩),.int .i64 0]∧M=[pts mp' (aZp ⟨k,d.sec,d.size,ar,bZk,0⟩ ap' rp' .none 0 0),Ar ap' ar 0 [],pts rp' (aZh dp 1 8 ((8*(d.size/8):Nat):Int)),Dk dp d])∧Sep M H:=fun mp ap T H hs=>by
  have h1:Sep ([pts mp (aZp ⟨k,d.sec,d.size,ar,bZk,0⟩ ap rp .none 0 0)]++([Ar ap ar 0 [],Dk dp d,pts rp (aZh dp 1 8 ((8*(d.size/8):Nat):Int))]++T)) H:=Sep.perm List.perm_append_comm hs;have h2:Sep [pts mp (aZp ⟨k,d.sec,d.size,ar,bZk,0⟩ ap rp .none 0 0),Ar ap ar 0 [],Dk dp d,pts rp (aZh dp 1 8 ((8*(d.size/8):Nat):Int))] H:=Sep.take (L:=T) h1;exact⟨_,⟨mp,ap,rp,rfl,rfl⟩,h2.re [0,1,3,2] rfl⟩
 have har:(1:Int)≤(ar:Int)∧(ar:Int)≤16777216:=hgo.2.2.2
 repeat' first
  |exact fin _ _ [_,_] _ hs
  |refine hs.ldw 2 rfl rfl ?_
  |refine hs.ldw 3 rfl rfl ?_
  |refine hs.ldw 4 rfl rfl ?_
  |(refine(Are.dZn (ar:Int) har).use hs [] rfl rfl ?_;rintro _ _ H ⟨ap,rfl,rfl⟩ hs)
  |refine hs.nw fun b H hs=>?_
  |(simp only[HV];try simp only[HS])
  |refine⟨?_,?_⟩
theorem Sep.unit {L:List As}{H:Hp}{X:As}(hs:Hw.Sep L H)(hX:X fun _=>none):Hw.Sep (X::L) H:=⟨fun _=>none,H,fun _ _ h=>(nomatch h),Hp.le_refl _,fun _=>.inl rfl,hX,hs⟩
theorem En.ptr {p dp:Nat}{g:Option Eg}{L:List As}{H:Hp}(h:Sep (En p dp g::L) H):∃ mo X,Sep (pts p (aZF dp mo)::X::L) H∧∀ L' H',Sep (pts p (aZF dp mo)::X::L') H'→Sep (En p dp g::L') H':=by
 cases g with
 |none=>exact⟨none,fun _=>True,(Sep.unit (X:=fun _=>True) h trivial).swap,fun L' H' h=>h.swap.tail⟩
 |some e=>
  obtain⟨mp,h⟩:=En.open h;exact⟨some mp,Me mp dp e,h,fun L' H' h=>En.shut h⟩
theorem Me.bare {mp dp ap rp:Nat}{e:Eg}{L:List As}{H:Hp}(h:Sep ([pts mp (aZp e ap rp .none 0 0),Ar ap e.arena e.peak [],pts rp (aZh dp 1 8 ((8*e.per:Nat):Int))]++L) H)(hp:psE e=[]):Sep (Me mp dp e::L) H:=by
 have h1:Sep (Own 122 8 .none 0 0 []::([pts mp (aZp e ap rp .none 0 0),Ar ap e.arena e.peak [],pts rp (aZh dp 1 8 ((8*e.per:Nat):Int))]++L)) H:=Sep.unit h (Own.none _ _ _);have h2:Sep ([pts mp (aZp e ap rp .none 0 0),Ar ap e.arena e.peak [],pts rp (aZh dp 1 8 ((8*e.per:Nat):Int))]++(Own 122 8 .none 0 0 []::L)) H:=Sep.perm List.perm_middle.symm h1;refine Me.shut (ap:=ap) (rp:=rp) (A:=.none) (m:=0) ?_;unfold gZH;rw[hp];exact h2
theorem tZo {e:Eg}(h:e.r=bZk):psE e=[]:=by unfold psE;rw[if_neg (by rw[h];decide)]
theorem rZm {d:D}(hpn:0<Lay.aZj (d.size:Int)){k words:Int}(h:bZH d.sec (d.size/8) k words=0):∃ kn wn:Nat,k=kn∧words=wn∧Sup.bZu kn d.sec d.size wn=true∧bZn kn (d.size/8)≤wn:=by
 have hper:=eZH hpn;unfold bZH at h;split at h
 ·cases h
 rename_i h1
 split at h
 ·cases h
 rename_i h2
 split at h
 ·cases h
 rename_i h3
 obtain⟨kn,rfl⟩:=Int.eq_ofNat_of_zero_le (show 0≤k by omega);obtain⟨wn,rfl⟩:=Int.eq_ofNat_of_zero_le (show 0≤words by omega);refine⟨kn,wn,rfl,rfl,decide_eq_true ?_,?_⟩
 ·rw[hper.1];have h2':¬(d.sec:Int)<Lay.bZy kn (d.size/8):=h2;refine⟨by omega,by omega,by omega,?_,by omega,by omega⟩;show(Lay.bZy kn (d.size/8):Int)≤d.sec
  omega
 ·have h3':¬(wn:Int)<bZn kn (d.size/8):=h3;omega
def mZ5 (p dp:Nat)(g:Option Eg)(d:D)(c:Cn)(k words:Int)(v:Value)(M:List As):Prop:=
 (bZH d.sec (d.size/8) k words≠0∧v= .int .i64 (bZH d.sec (d.size/8) k words)∧M=[En p dp g,Dk dp d])∨
 (∃ kn wn:Nat,k=kn∧words=wn∧bZH d.sec (d.size/8) k words=0∧
  ((∃ d' c',bZN d d' 0 10 3∧Clean d' c'∧Holds d.sec d.size (bZA kn wn) c'∧v= .int .i64 0∧M=[En p dp (some (egM d (bZA kn wn) 0)),Dk dp d'])∨
  (∃ d',Cut d d' 13∧Left d' (fun c'=>c'=c∨lZD d.size c'∨Holds d.sec d.size (bZA kn wn) c')∧v= .int .i64 8∧M=[En p dp none,Dk dp d'])))
set_option maxHeartbeats 8000000 in
theorem lZ7 {p dp:Nat}{g:Option Eg}{d:D}{c:Cn}(hc:Clean d c)(hpn:0<Lay.aZj (d.size:Int))(ho:d.rd≤800000∧d.wr≤800000∧d.sy≤800000)(k words:Int):
  Tr prog 25 #[.pointer (some ⟨p,0,none⟩),.int .i64 k,.int .i64 words] [En p dp g,Dk dp d] (mZ5 p dp g d c k words):=fun H hs=>by
 have hok:=hc.ok;have hper:=eZH hpn;obtain⟨mo,X,hs,hback⟩:=En.ptr hs;apply Zg.ok;unfold Zg Zg.q5 Zg.q4 Zg.q3 Zg.q2 Zg.q2.q1 Zg.q1 Zg.q1.q2 Zg.q1.q1;refine hs.nw fun b1 H hs=>?_
 have hs:Sep [pts p (aZF dp mo),X,Dk dp d,pts b1 (.obj (.cells #[.pointer (some ⟨p,0,none⟩)] 28))] H:=hs;refine hs.ld 3 (v:=.pointer (some ⟨p,0,none⟩)) rfl rfl ?_;simp only[HV];refine(uZH (p:=p) (dp:=dp) (mo:=mo) hok hpn k words).use hs [0,2] rfl rfl ?_;rintro _ _ H ⟨rfl,rfl⟩ hs;simp only[HV];by_cases hfit:bZH d.sec (d.size/8) k words=0
 rotate_left
 ·exact ZL hfit ⟨_,.inl ⟨hfit,rfl,rfl⟩,hback [Dk dp d] _ (hs.re [0,2,1] rfl)⟩
 rw[hfit];refine ZB rfl ?_;obtain⟨kn,wn,rfl,rfl,hg,hlw⟩:=rZm hpn hfit;have hgo:=dZa hg;have hneed:9≤d.sec:=by have:=hgo.2.2.1;unfold Lay.bZy at this;omega
 have hs:Sep [pts p (aZF dp mo),Dk dp d,X,pts b1 (.obj (.cells #[.pointer (some ⟨p,0,none⟩)] 28))] H:=hs;have hzl:(List.replicate d.size (0:UInt8)).length=d.size:=List.length_replicate;have bad:∀(H:Hp) (d':D),Sep [Dk dp d',pts p (aZF dp mo)] H→Cut d d' 13→Left d' (fun c'=>c'=c∨lZD d.size c'∨Holds d.sec d.size (bZA kn wn) c')→
   Zc prog 39 #[.pointer (some ⟨p,0,none⟩),.int .i64 8] H fun v H'=>v= .int .i64 8∧∃ M,mZ5 p dp g d c kn wn (.int .i64 8) M∧Sep M H':=fun H d' hs h1 h2=>by
  have hk:Zc prog 39 #[.pointer (some ⟨p,0,none⟩),.int .i64 8] H fun v H'=>∃ M,(v= .int .i64 8∧M=[pts p (aZF dp none),Dk dp d'])∧Sep M H':=by
   apply bZm.ok;unfold bZm;refine ZY rfl ?_
   try simp only[HS]
   refine hs.st 1 rfl (by show 1<2;omega) rfl fun H hs=>?_;exact⟨_,⟨by first|rfl|trivial,rfl⟩,hs.re [1,0] rfl⟩
  refine Zc.mono hk ?_;rintro _ H ⟨_,⟨rfl,rfl⟩,hs⟩;exact⟨rfl,_,.inr ⟨kn,wn,rfl,rfl,hfit,.inr ⟨d',h1,h2,rfl,rfl⟩⟩,hs⟩
 have j6:∀ mp ap rp b2 H,Sep [pts mp (aZp ⟨kn,d.sec,d.size,wn,bZk,0⟩ ap rp .none 0 0),Ar ap wn 0 [],pts rp (aZh dp 1 8 ((8*(d.size/8):Nat):Int)),Dk dp d,pts p (aZF dp mo),X,pts b1 (.obj (.cells #[.pointer (some ⟨p,0,none⟩)] 28)),pts b2 (.obj (.cells (Sup.bZU kn d.sec d.size wn) 30))] H→
   Zg.j6 (fun v H'=>∃ M,mZ5 p dp g d c kn wn v M∧Sep M H') ⟨b1,0,none⟩ ⟨b2,0,none⟩ (some ⟨mp,0,none⟩) 0 H:=fun mp ap rp b2 H hs=>by
  unfold Zg.j6;refine ZB rfl ?_;refine hs.ld 6 (v:=.pointer (some ⟨p,0,none⟩)) rfl rfl ?_;simp only[HV];refine hs.ld 6 (v:=.pointer (some ⟨p,0,none⟩)) rfl rfl ?_;simp only[HV]
  try simp only[HS]
  refine hs.ld 4 (v:=.pointer (some ⟨dp,0,none⟩)) rfl rfl ?_;simp only[HV]
  try simp only[HS]
  refine hs.ld 0 (v:=.pointer (some ⟨rp,0,none⟩)) rfl rfl ?_;simp only[HV];refine hs.nw fun b3 H hs=>?_
  have hres1:bZx prog 52=[53]:=by kernel_rfl
  have hres2:bZx prog 55=[53]:=by kernel_rfl
  have hres3:bZx prog 56=[53]:=by kernel_rfl
  have hres4:bZx prog 57=[53]:=by kernel_rfl
  apply ZN.ok;unfold ZN;refine⟨5,?_⟩;unfold ZN.l2;refine Zv (by decide) ⟨by decide,by decide,?_⟩;simp only[HV];refine hs.ldr 8 (v:=.func (.func 52) #[] #[.pointer (some ⟨b1,0,none⟩)]) rfl rfl ?_;refine dZL.go (by kernel_rfl) ?_;rw[hres1];have hsz32:=hok.size;have f1:∀(A3:As) (H:Hp),Sep [pts mp (aZp ⟨kn,d.sec,d.size,wn,bZk,0⟩ ap rp .none 0 0),Ar ap wn 0 [],pts rp (aZh dp 1 8 ((8*(d.size/8):Nat):Int)),Dk dp d,pts p (aZF dp mo),X,pts b1 (.obj (.cells #[.pointer (some ⟨p,0,none⟩)] 28)),pts b2 (.obj (.cells (Sup.bZU kn d.sec d.size wn) 30)),A3] H→Zc prog 52 #[.pointer (some ⟨b1,0,none⟩)] H fun v H=>v= .int .i64 (d.writeE 0 d.size)∧Sep [Dk dp (d.writeD 0 (List.replicate d.size 0)),pts mp (aZp ⟨kn,d.sec,d.size,wn,bZk,0⟩ ap rp .none 0 0),Ar ap wn 0 [],pts rp (aZh dp 1 8 ((8*(d.size/8):Nat):Int)),pts p (aZF dp mo),X,pts b1 (.obj (.cells #[.pointer (some ⟨p,0,none⟩)] 28)),pts b2 (.obj (.cells (Sup.bZU kn d.sec d.size wn) 30)),A3] H:=fun A3 H hs=>by
   apply cZk.ok;unfold cZk;simp only[HV];refine hs.ld 6 (v:=.pointer (some ⟨p,0,none⟩)) rfl rfl ?_;simp only[HV]
   try simp only[HS]
   refine hs.ld 4 (v:=.pointer (some ⟨dp,0,none⟩)) rfl rfl ?_;simp only[HV]
   try simp only[HS]
   refine ZZ.use (hZn hs 3 rfl) ?_;simp only[HV];have wr1:∀(b4:Nat) (H:Hp),Sep [pts mp (aZp ⟨kn,d.sec,d.size,wn,bZk,0⟩ ap rp .none 0 0),Ar ap wn 0 [],pts rp (aZh dp 1 8 ((8*(d.size/8):Nat):Int)),Dk dp d,pts p (aZF dp mo),X,pts b1 (.obj (.cells #[.pointer (some ⟨p,0,none⟩)] 28)),pts b2 (.obj (.cells (Sup.bZU kn d.sec d.size wn) 30)),A3,pts b4 (.row (aZG [Value.int .u8 0] d.size) 5 (d.size*1))] H→
     Zc prog 53 #[.pointer (some ⟨dp,0,none⟩),.int .i64 0,.slice (some ⟨b4,0,none⟩) d.size d.size] H fun v H=>v= .int .i64 (d.writeE 0 d.size)∧Sep [Dk dp (d.writeD 0 (List.replicate d.size 0)),pts mp (aZp ⟨kn,d.sec,d.size,wn,bZk,0⟩ ap rp .none 0 0),Ar ap wn 0 [],pts rp (aZh dp 1 8 ((8*(d.size/8):Nat):Int)),pts p (aZF dp mo),X,pts b1 (.obj (.cells #[.pointer (some ⟨p,0,none⟩)] 28)),pts b2 (.obj (.cells (Sup.bZU kn d.sec d.size wn) 30)),A3] H:=fun b4 H hs=>by
    rw[eZ2]at hs;refine(dZ9 (p:=dp) (d:=d) hok (by omega) 0 (some ⟨b4,0,none⟩) d.size d.size (List.replicate d.size 0) hzl.symm (pts b4 (.row (Zw (List.replicate d.size 0)) 5 (d.size*1))) (fun H h=>?_)).use hs [3,9] rfl rfl ?_
    ·have:=Cells.row h 0 d.size;rw[List.drop_zero,List.take_of_length_le (by rw[ZS,hzl];exact Nat.le_refl _)]at this;exact this
    rintro _ _ H ⟨rfl,rfl⟩ hs;exact⟨rfl,hs.re [0,2,3,4,5,6,7,8,9] rfl⟩
   have done:∀(v:Value) (H:Hp),(v= .int .i64 (d.writeE 0 d.size)∧Sep [Dk dp (d.writeD 0 (List.replicate d.size 0)),pts mp (aZp ⟨kn,d.sec,d.size,wn,bZk,0⟩ ap rp .none 0 0),Ar ap wn 0 [],pts rp (aZh dp 1 8 ((8*(d.size/8):Nat):Int)),pts p (aZF dp mo),X,pts b1 (.obj (.cells #[.pointer (some ⟨p,0,none⟩)] 28)),pts b2 (.obj (.cells (Sup.bZU kn d.sec d.size wn) 30)),A3] H)→DI .i64 v fun x1=>(Value.int .i64 x1= .int .i64 (d.writeE 0 d.size)∧Sep [Dk dp (d.writeD 0 (List.replicate d.size 0)),pts mp (aZp ⟨kn,d.sec,d.size,wn,bZk,0⟩ ap rp .none 0 0),Ar ap wn 0 [],pts rp (aZh dp 1 8 ((8*(d.size/8):Nat):Int)),pts p (aZF dp mo),X,pts b1 (.obj (.cells #[.pointer (some ⟨p,0,none⟩)] 28)),pts b2 (.obj (.cells (Sup.bZU kn d.sec d.size wn) 30)),A3] H):=fun v H ⟨h1,h2⟩=>by
    subst h1;simp only[HV];exact⟨by trivial,h2⟩
   repeat' first
    |exact Zc.mono (wr1 _ _ hs) done
    |refine hs.ld 6 (v:=.pointer (some ⟨p,0,none⟩)) rfl rfl ?_
    |refine hs.ld 4 (v:=.pointer (some ⟨dp,0,none⟩)) rfl rfl ?_
    |refine hs.mks eZp rfl (n:=d.size) (m:=d.size) rfl rfl (Nat.le_refl _) (by omega) (by omega) fun b4 H hs=>?_
    |(simp only[HV];try simp only[HS])
    |refine⟨?_,?_⟩
  have hp1:=jZf hc 0 (by omega) (List.replicate d.size 0) hzl;have bare0:∀ c:Cn,lZD d.size (bZB c (0:Nat) (List.replicate d.size 0)):=fun c=>jZR c 0 _
  refine Zc.mono (f1 _ H hs) ?_;rintro _ H ⟨rfl,hs⟩;refine eZk _ _ ?_;simp only[HV];by_cases hw1:d.writeE 0 d.size=0
  rotate_left
  ·have e1:gZU d (0:Nat) (List.replicate d.size 0)=(d.writeE 0 d.size,d.writeD 0 (List.replicate d.size 0)):=by unfold gZU;exact if_pos hw1
   rw[e1]at hp1;rcases hp1 with⟨d',⟨h,_⟩|⟨h,hcut,hleft⟩⟩
   ·exact absurd (congrArg Prod.fst h) hw1
   ·have h8:=congrArg Prod.fst h;have hd:=congrArg Prod.snd h;simp only at h8 hd;rw[h8];rw[hd]at hs;refine ZL (by decide) ?_;refine Zc.mono (bad H d' (hs.re [0,4] rfl) (hcut.more (by omega)) (hleft.mono fun c' h=>?_)) ?_
    ·rcases h with e|e
     ·exact .inl e
     ·right;left;rw[e];exact bare0 c
    ·rintro _ H ⟨rfl,M,h,hs⟩;simp only[HV];exact⟨M,h,hs⟩
  refine ZB hw1 ?_;rw[show IntKind.i64.wrap ((0:Int)+1)=1 by kernel_rfl];unfold ZN.l2;refine Zv (by decide) ⟨by decide,by decide,?_⟩;simp only[HV];refine hs.ldr 8 (v:=.func (.func 55) #[.pointer (some ⟨dp,0,none⟩)] #[]) rfl rfl ?_;refine dZL.go (by kernel_rfl) ?_;rw[hres2];have hwd:(d.writeD 0 (List.replicate d.size 0)).sy=d.sy:=(mZS d 0 _).1;have hwok:Ok (d.writeD 0 (List.replicate d.size 0)):=Ok.writeD hok 0 _;have e1:gZU d (0:Nat) (List.replicate d.size 0)=((d.writeD 0 (List.replicate d.size 0)).syncE,(d.writeD 0 (List.replicate d.size 0)).syncD):=by unfold gZU;exact if_neg (fun h=>h hw1)
  rw[e1]at hp1;have sy1:∀(A3:As) (H:Hp),Sep [Dk dp (d.writeD 0 (List.replicate d.size 0)),pts mp (aZp ⟨kn,d.sec,d.size,wn,bZk,0⟩ ap rp .none 0 0),Ar ap wn 0 [],pts rp (aZh dp 1 8 ((8*(d.size/8):Nat):Int)),pts p (aZF dp mo),X,pts b1 (.obj (.cells #[.pointer (some ⟨p,0,none⟩)] 28)),pts b2 (.obj (.cells (Sup.bZU kn d.sec d.size wn) 30)),A3] H→Zc prog 55 #[.pointer (some ⟨dp,0,none⟩)] H fun v H=>v= .int .i64 (d.writeD 0 (List.replicate d.size 0)).syncE∧Sep [Dk dp (d.writeD 0 (List.replicate d.size 0)).syncD,pts mp (aZp ⟨kn,d.sec,d.size,wn,bZk,0⟩ ap rp .none 0 0),Ar ap wn 0 [],pts rp (aZh dp 1 8 ((8*(d.size/8):Nat):Int)),pts p (aZF dp mo),X,pts b1 (.obj (.cells #[.pointer (some ⟨p,0,none⟩)] 28)),pts b2 (.obj (.cells (Sup.bZU kn d.sec d.size wn) 30)),A3] H:=fun A3 H hs=>by
   refine(hZj (p:=dp) (d:=d.writeD 0 (List.replicate d.size 0)) hwok (by rw[hwd];omega)).use hs [0] rfl rfl ?_;rintro _ _ H ⟨rfl,rfl⟩ hs;exact⟨rfl,hs⟩
  refine Zc.mono (sy1 _ H hs) ?_;rintro _ H ⟨rfl,hs⟩;refine eZk _ _ ?_;simp only[HV];rcases hp1 with⟨d1,⟨h,hw1',hc1⟩|⟨h,hcut,hleft⟩⟩
  rotate_left
  ·have h8:=congrArg Prod.fst h;have hd:=congrArg Prod.snd h;simp only at h8 hd;rw[h8];rw[hd]at hs;refine ZL (by decide) ?_;refine Zc.mono (bad H d1 (hs.re [0,4] rfl) (hcut.more (by omega)) (hleft.mono fun c' h=>?_)) ?_
   ·rcases h with e|e
    ·exact .inl e
    ·right;left;rw[e];exact bare0 c
   ·rintro _ H ⟨rfl,M,h,hs⟩;simp only[HV];exact⟨M,h,hs⟩
  have h8:=congrArg Prod.fst h;have hd:=congrArg Prod.snd h;simp only at h8 hd;rw[h8];rw[hd]at hs;clear h8 hd h e1;refine ZB rfl ?_;rw[show IntKind.i64.wrap ((1:Int)+1)=2 by kernel_rfl];unfold ZN.l2;refine Zv (by decide) ⟨by decide,by decide,?_⟩;simp only[HV];refine hs.ldr 8 (v:=.func (.func 56) #[.pointer (some ⟨rp,0,none⟩)] #[]) rfl rfl ?_;refine dZL.go (by kernel_rfl) ?_;rw[hres3];have hrd1:=hw1'.rd;have hwr1:=hw1'.wr;have hsy1:=hw1'.sy;have hsec1:=hw1'.sec;have hsize1:=hw1'.size;generalize hcc1:bZB c (0:Nat) (List.replicate d.size 0)=c1 at*;have hb1:lZD d.size c1:=by rw[← hcc1];exact bare0 c
  have cl1:∀(A3:As) (H:Hp),Sep [Dk dp d1,pts mp (aZp ⟨kn,d.sec,d.size,wn,bZk,0⟩ ap rp .none 0 0),Ar ap wn 0 [],pts rp (aZh dp 1 8 ((8*(d.size/8):Nat):Int)),pts p (aZF dp mo),X,pts b1 (.obj (.cells #[.pointer (some ⟨p,0,none⟩)] 28)),pts b2 (.obj (.cells (Sup.bZU kn d.sec d.size wn) 30)),A3] H→Zc prog 56 #[.pointer (some ⟨rp,0,none⟩)] H fun v H=>v= .int .i64 (iZA 1 8 0 d1).1∧Sep [Dk dp (iZA 1 8 0 d1).2,pts mp (aZp ⟨kn,d.sec,d.size,wn,bZk,0⟩ ap rp .none 0 0),Ar ap wn 0 [],pts rp (aZh dp 1 8 ((8*(d.size/8):Nat):Int)),pts p (aZF dp mo),X,pts b1 (.obj (.cells #[.pointer (some ⟨p,0,none⟩)] 28)),pts b2 (.obj (.cells (Sup.bZU kn d.sec d.size wn) 30)),A3] H:=fun A3 H hs=>by
   refine(sZE (b:=rp) (p:=dp) (f:=1) (n:=8) (w:=((8*(d.size/8):Nat):Int)) (by omega) hc1.ok (by omega) (by omega)).use hs [0,3] rfl rfl ?_;rintro _ _ H ⟨rfl,rfl⟩ hs;exact⟨rfl,hs.re [0,2,3,1,4,5,6,7,8] rfl⟩
  refine Zc.mono (cl1 _ H hs) ?_;rintro _ H ⟨rfl,hs⟩;refine eZk _ _ ?_;simp only[HV];have hnot0:¬inF 8 0:=fun h=>by have:=h.1;omega
  rcases mZe hc1 (n:=8) (by rw[hsec1];omega) 8 0 d1 rfl (Prog.refl _ hc1.ok hc1.down) (fun j hj=>absurd hj (by omega))with⟨d2,c2,h,hw2,hc2,hsam2,hz2⟩|⟨d2,h,hcut,hleft⟩
  rotate_left
  ·rw[h]at hs⊢;refine ZL (show(8:Int)≠0 by decide) ?_;refine Zc.mono (bad H d2 (hs.re [0,4] rfl) ((hw1'.cut hcut).more (by omega)) (hleft.mono fun c' h=>?_)) ?_
   ·right;left;show c' 0=_
    rw[h 0 hnot0];exact hb1
   ·rintro _ H ⟨rfl,M,h,hs⟩;simp only[HV];exact⟨M,h,hs⟩
  rw[h]at hs⊢;refine ZB rfl ?_;rw[show IntKind.i64.wrap ((2:Int)+1)=3 by kernel_rfl];unfold ZN.l2;refine Zv (by decide) ⟨by decide,by decide,?_⟩;simp only[HV];refine hs.ldr 8 (v:=.func (.func 57) #[] #[.pointer (some ⟨b1,0,none⟩),.pointer (some ⟨b2,0,none⟩)]) rfl rfl ?_;refine dZL.go (by kernel_rfl) ?_;rw[hres4];have hrd2:=hw2.rd;have hwr2:=hw2.wr;have hsy2:=hw2.sy;have hsec2:=hw2.sec;have hsize2:=hw2.size;have hs2:d2.size=d.size:=hsize2.trans hsize1;have hc20:lZD d.size c2:=by show c2 0=_;rw[hsam2 0 hnot0];exact hb1
  have hfl:(Sup.bZ1 kn d.sec d.size wn).length=d2.size:=by have:=Sup.iZN kn d.sec d.size wn hpn;omega
  have hwv:Sup.wrV d2 kn d.sec d.size wn=gZU d2 (0:Nat) (Sup.bZ1 kn d.sec d.size wn):=by
   have e0:Sup.ofB d2 d.sec d.size=true:=decide_eq_true ⟨by rw[hsec2,hsec1],by rw[hs2]⟩;unfold Sup.wrV gZU;rw[if_neg (by rw[hg,e0];simp),Int.toNat_natCast,←hs2];rfl
  have hnew:Holds d.sec d.size (bZA kn wn) (bZB c2 (0:Nat) (Sup.bZ1 kn d.sec d.size wn)):=by
   refine qZe hg hlw (jZR c2 0 _) fun j hj=>?_
   rw[iZp _ _ (by omega),hz2 j hj,hsize1]
  have f2:∀(A3:As) (H:Hp),Sep [Dk dp d2,pts mp (aZp ⟨kn,d.sec,d.size,wn,bZk,0⟩ ap rp .none 0 0),Ar ap wn 0 [],pts rp (aZh dp 1 8 ((8*(d.size/8):Nat):Int)),pts p (aZF dp mo),X,pts b1 (.obj (.cells #[.pointer (some ⟨p,0,none⟩)] 28)),pts b2 (.obj (.cells (Sup.bZU kn d.sec d.size wn) 30)),A3] H→Zc prog 57 #[.pointer (some ⟨b1,0,none⟩),.pointer (some ⟨b2,0,none⟩)] H fun v H=>v= .int .i64 (gZU d2 (0:Nat) (Sup.bZ1 kn d.sec d.size wn)).1∧Sep [Dk dp (gZU d2 (0:Nat) (Sup.bZ1 kn d.sec d.size wn)).2,pts mp (aZp ⟨kn,d.sec,d.size,wn,bZk,0⟩ ap rp .none 0 0),Ar ap wn 0 [],pts rp (aZh dp 1 8 ((8*(d.size/8):Nat):Int)),pts p (aZF dp mo),X,pts b1 (.obj (.cells #[.pointer (some ⟨p,0,none⟩)] 28)),pts b2 (.obj (.cells (Sup.bZU kn d.sec d.size wn) 30)),A3] H:=fun A3 H hs=>by
   apply cZl.ok;unfold cZl;simp only[HV];refine hs.ld 6 (v:=.pointer (some ⟨p,0,none⟩)) rfl rfl ?_;simp only[HV]
   try simp only[HS]
   refine hs.ld 4 (v:=.pointer (some ⟨dp,0,none⟩)) rfl rfl ?_;simp only[HV];refine hs.ldw 7 rfl rfl ?_
   try simp only[Array.toArray_toList]
   refine(Sup.rZ9 (p:=dp) (d:=d2) hc2.ok (by omega) kn d.sec d.size wn (by have:=hok.sec;omega)).use hs [0] rfl rfl ?_;rintro _ _ H ⟨rfl,rfl⟩ hs;rw[hwv]at hs⊢;simp only[HV];exact⟨by trivial,hs⟩
  refine Zc.mono (f2 _ H hs) ?_;rintro _ H ⟨rfl,hs⟩;refine eZk _ _ ?_;simp only[HV];rcases jZf hc2 0 (by rw[hsec2,hsec1];omega) (Sup.bZ1 kn d.sec d.size wn) hfl with⟨d3,⟨h,hw3,hc3⟩|⟨h,hcut,hleft⟩⟩
  rotate_left
  ·rw[h]at hs⊢;refine ZL (show(8:Int)≠0 by decide) ?_;refine Zc.mono (bad H d3 (hs.re [0,4] rfl) (((hw1'.trans hw2).cut hcut).more (by omega)) (hleft.mono fun c' h=>?_)) ?_
   ·rcases h with e|e
    ·right;left;rw[e];exact hc20
    ·right;right;rw[e];exact hnew
   ·rintro _ H ⟨rfl,M,h,hs⟩;simp only[HV];exact⟨M,h,hs⟩
  rw[h]at hs⊢;refine ZB rfl ?_;rw[show IntKind.i64.wrap ((3:Int)+1)=4 by kernel_rfl];unfold ZN.l2;refine Zl (by decide) ?_;simp only[HV];refine ZY rfl ?_;refine hs.ld 6 (v:=.pointer (some ⟨p,0,none⟩)) rfl rfl ?_;simp only[HV]
  try simp only[HS]
  refine hs.st 4 rfl (by show 1<2;omega) rfl fun H hs=>?_;refine⟨_,.inr ⟨kn,wn,rfl,rfl,hfit,.inl ⟨d3,_,(hw1'.trans hw2).trans hw3,hc3,hnew,rfl,rfl⟩⟩,?_⟩;refine En.shut (mp:=mp) (e:=egM d (bZA kn wn) 0) (L:=[Dk dp d3]) ?_;exact(Me.bare (ap:=ap) (rp:=rp) (e:=egM d (bZA kn wn) 0) (L:=[pts p (aZF dp (some mp)),Dk dp d3]) (hs.re [1,2,3,4,0] rfl) (tZo rfl)).swap
 have fo:∀(H:Hp) (b2:Nat),Sep [pts p (aZF dp mo),Dk dp d,X,pts b1 (.obj (.cells #[.pointer (some ⟨p,0,none⟩)] 28)),pts b2 (.obj (.cells (Sup.bZU kn d.sec d.size wn) 30))] H→Zc prog 40 #[.pointer (some ⟨dp,0,none⟩),.agg (Sup.bZU kn d.sec d.size wn)] H fun v H=>∃ mp ap rp,v= .tuple #[.pointer (some ⟨mp,0,none⟩),.int .i64 0]∧Sep [pts mp (aZp ⟨kn,d.sec,d.size,wn,bZk,0⟩ ap rp .none 0 0),Ar ap wn 0 [],pts rp (aZh dp 1 8 ((8*(d.size/8):Nat):Int)),Dk dp d,pts p (aZF dp mo),X,pts b1 (.obj (.cells #[.pointer (some ⟨p,0,none⟩)] 28)),pts b2 (.obj (.cells (Sup.bZU kn d.sec d.size wn) 30))] H:=fun H b2 hs=>by
  refine(pZi (dp:=dp) hok hg).use hs [1] rfl rfl ?_;rintro _ _ H ⟨mp,ap,rp,rfl,rfl⟩ hs;exact⟨mp,ap,rp,rfl,hs⟩
 have j5:∀ b2 H,Sep [pts p (aZF dp mo),Dk dp d,X,pts b1 (.obj (.cells #[.pointer (some ⟨p,0,none⟩)] 28)),pts b2 (.obj (.cells (Sup.bZU kn d.sec d.size wn) 30))] H→
   Zg.j5 (fun v H'=>∃ M,mZ5 p dp g d c kn wn v M∧Sep M H') ⟨b1,0,none⟩ ⟨b2,0,none⟩ H:=fun b2 H hs=>by
  unfold Zg.j5 Zg.j5.q1
  repeat' first
   |(refine Zc.mono (fo _ _ hs) ?_;rintro _ H ⟨mp,ap,rp,rfl,hs⟩;simp only[HV];exact j6 mp ap rp _ H hs)
   |refine hs.ld 3 (v:=.pointer (some ⟨p,0,none⟩)) rfl rfl ?_
   |refine hs.ld 0 (v:=.pointer (some ⟨dp,0,none⟩)) rfl rfl ?_
   |refine hs.ldw 4 rfl rfl ?_
   |(simp only[HV];try simp only[aZ2,Addr.add_lit',Addr.add_zero,Nat.zero_add,Nat.add_zero,Array.toArray_toList])
   |refine⟨?_,?_⟩
 have hsz:∀(H:Hp) (T:List As) (K:Value→Prop),Sep ([pts p (aZF dp mo),Dk dp d,X,pts b1 (.obj (.cells #[.pointer (some ⟨p,0,none⟩)] 28))]++T) H→K (.int .i64 (d.sec:Int))→ZZ prog 50 #[.pointer (some ⟨dp,0,none⟩)] H K:=fun H T K hs h=>ZZ.use (eZy hs 1 rfl) h
 have hsy:∀(H:Hp) (T:List As) (K:Value→Prop),Sep ([pts p (aZF dp mo),Dk dp d,X,pts b1 (.obj (.cells #[.pointer (some ⟨p,0,none⟩)] 28))]++T) H→K (.int .i64 (d.size:Int))→ZZ prog 51 #[.pointer (some ⟨dp,0,none⟩)] H K:=fun H T K hs h=>ZZ.use (hZn hs 1 rfl) h
 repeat' first
  |exact j5 _ _ hs
  |refine hs.ld 3 (v:=.pointer (some ⟨p,0,none⟩)) rfl rfl ?_
  |refine hs.ld 0 (v:=.pointer (some ⟨dp,0,none⟩)) rfl rfl ?_
  |refine hsz _ [] _ hs ?_
  |refine hsy _ [] _ hs ?_
  |refine hsz _ [_] _ hs ?_
  |refine hsy _ [_] _ hs ?_
  |refine hs.nw fun b H hs=>?_
  |refine hs.stw 4 rfl rfl rfl rfl fun H hs=>?_
  |(simp only[HV];try simp only[HS])
  |refine⟨?_,?_⟩
theorem oZU {p:Nat}{d:D}{c:Cn}(hc:Clean d c)(ho:d.rd≤1000000):
  Tr prog 38 #[.pointer (some ⟨p,0,none⟩)] [Dk p d] fun v M=>(d.fuse≠1∧v= .tuple #[.agg (Sup.sbV (Sup.rdV d (c 0)).1),.int .i64 (Sup.rdV d (c 0)).2]∧M=[Dk p (D.rdG d 1)])∨(d.fuse=1∧v= .tuple #[.agg (Sup.bZU 0 0 0 0),.int .i64 8]∧M=[Dk p (D.dead d)]):=fun H hs=>by
 have hok:=hc.ok;have hsec:=hok.sec;have hchk:d.chk 0=0:=gZj hc.down (Int.le_refl _) (by omega);by_cases hf:d.fuse=1
 ·have hbn:d.burns=true:=by unfold D.burns;simp[hf]
  apply dZZ.ok;unfold dZZ;refine hs.nw fun b1 H hs=>?_
  refine(jZC (p:=p) (d:=d) hok (by omega) 0).use hs [0] rfl rfl ?_;rintro _ _ H (⟨h,_,_⟩|⟨_,_,rfl,rfl⟩|⟨_,h,_⟩) hs
  ·exact absurd hchk h
  ·simp only[HV];refine ZL (by decide) ?_;refine hs.stw 1 rfl rfl rfl rfl fun H hs=>?_;refine hs.ldw 1 rfl rfl ?_;rw[eZB hf]at hs;exact⟨_,.inr ⟨hf,rfl,rfl⟩,hs.re [0] rfl⟩
  ·rw[hbn]at h;cases h
 ·have hbn:d.burns=false:=by unfold D.burns;exact decide_eq_false hf
  have e:({ d.burnt with rd:=d.rd+1}:D)=D.rdG d 1:=by rw[eZb hc.down hf];rfl
  refine Zc.mono (Sup.tZu hok ho hchk hbn H hs) ?_;rintro v H ⟨M,⟨rfl,rfl⟩,hs⟩;rw[e]at hs;rw[hc.now];exact⟨_,.inl ⟨hf,rfl,rfl⟩,hs⟩
def wZd (p dp:Nat)(d:D)(c:Cn)(o:Option Mn)(v:Value)(M:List As):Prop:=
 (∃ d',o=none∧bZN d d' 1 0 0∧Clean d' c∧v= .int .i64 11∧M=[En p dp none,Dk dp d'])∨
 (∃ d' m,o=some m∧bZN d d' 9 0 0∧Clean d' c∧v= .int .i64 0∧M=[En p dp (some (egM d m 0)),Dk dp d'])∨
 (∃ d',Cut d d' 9∧(o=none→d.fuse=1)∧Left d' (fun c'=>c'=c)∧v= .int .i64 8∧M=[En p dp none,Dk dp d'])
theorem Cut.dead {d:D}{c:Cn}(hc:Clean d c)(hf:d.fuse=1):Cut d (D.dead d) 1∧Left (D.dead d) (fun c'=>c'=c):=by
 have h1:=Cut.rdG hc (j:=0) (n:=1) hf (by omega);have h2:=Left.rdG hc 0;rw[oZh]at h1 h2;exact⟨h1,h2⟩
set_option maxHeartbeats 4000000 in
theorem iZv {p dp:Nat}{g:Option Eg}{d:D}{c:Cn}(hc:Clean d c)(hpn:0<Lay.aZj (d.size:Int))(ho:d.rd≤800000∧d.wr≤800000∧d.sy≤800000){o:Option Mn}(hh:wZN d.sec d.size o c):
  Tr prog 16 #[.pointer (some ⟨p,0,none⟩)] [En p dp g,Dk dp d] (wZd p dp d c o):=fun H hs=>by
 have hok:=hc.ok;have hper:=eZH hpn;obtain⟨mo,X,hs,hback⟩:=En.ptr hs;have chk8:∀(T:List As) (H:Hp) (K:Value→Hp→Prop),Sep ([pts p (aZF dp mo)]++T) H→(∀ H,Sep ([pts p (aZF dp none)]++T) H→K (.int .i64 8) H)→Zc prog 39 #[.pointer (some ⟨p,0,none⟩),.int .i64 8] H K:=fun T H K hs hk=>by
  apply bZm.ok;unfold bZm;refine ZY rfl ?_
  try simp only[HS]
  refine hs.st 0 rfl (by show 1<2;omega) rfl fun H hs=>?_;exact hk H hs
 apply aZz.ok;unfold aZz
 try simp only[HS]
 refine hs.ld 0 (v:=.pointer (some ⟨dp,0,none⟩)) rfl rfl ?_;simp only[HV];refine(oZU (p:=dp) hc (by omega)).use hs [2] rfl rfl ?_;rintro _ _ H (⟨hf,rfl,rfl⟩|⟨hf,rfl,rfl⟩) hs
 rotate_left
 ·simp only[HV];refine hs.nw fun b1 H hs=>?_
  refine hs.stw 3 rfl rfl rfl rfl fun H hs=>?_;refine ZY rfl ?_;obtain⟨h1,h2⟩:=Cut.dead hc hf;refine chk8 [Dk dp (D.dead d)] H _ (hs.re [1,0] rfl) fun H hs=>?_;simp only[HV];exact⟨_,.inr (.inr ⟨_,h1.more (by omega),fun _=>hf,h2,rfl,rfl⟩),hs⟩
 have hgo1:d.fuse=0∨1<d.fuse:=by omega
 have hw1:=bZN.rdG hgo1;have hc1:=hc.rdG 1;cases o with
 |none=>
  have h0:c 0=List.replicate d.size 0:=hh;have e:Sup.rdV d (c 0)=((0,0,0,0),10):=by
   unfold Sup.rdV;rw[h0,Sup.qZB d.size hpn];rfl
  rw[e];simp only[HV];refine hs.nw fun b1 H hs=>?_
  refine hs.stw 3 rfl rfl rfl rfl fun H hs=>?_;refine aZd (by decide) (ZL (by decide) ?_)
  try simp only[HS]
  refine hs.st 1 rfl (by show 1<2;omega) rfl fun H hs=>?_;exact⟨_,.inl ⟨_,rfl,hw1,hc1,rfl,rfl⟩,hs.re [1,0] rfl⟩
 |some m=>
  have hh:Holds d.sec d.size m c:=hh;have hgo:=dZa hh.good;have hneed:9≤d.sec:=by have:=hgo.2.2.1;unfold Lay.bZy at this;omega
  have hsec:=hok.sec;have e:Sup.rdV d (c 0)=(((m.most:Int),(d.sec:Int),(d.size:Int),(m.arena:Int)),0):=by
   unfold Sup.rdV;rw[hh.sup,Sup.qZA _ _ _ _ hh.good (by omega),if_neg (by simp)];exact if_pos (show Sup.ofB d d.sec d.size=true from decide_eq_true ⟨rfl,rfl⟩)
  rw[e];simp only[HV];refine hs.nw fun b1 H hs=>?_
  refine hs.stw 3 rfl rfl rfl rfl fun H hs=>?_;refine aZd (by decide) (ZB rfl ?_);generalize hd1:D.rdG d 1=d1 at*;have hsec1:d1.sec=d.sec:=hw1.sec;have hsize1:d1.size=d.size:=hw1.size;have hh1:Holds d1.sec d1.size m c:=by rw[hsec1,hsize1];exact hh
  have hs:Sep [Dk dp d1,pts p (aZF dp mo),X,pts b1 (.obj (.cells (Sup.bZU m.most d.sec d.size m.arena) 30))] H:=hs;have fo:∀(H:Hp),Sep [Dk dp d1,pts p (aZF dp mo),X,pts b1 (.obj (.cells (Sup.bZU m.most d.sec d.size m.arena) 30))] H→Zc prog 40 #[.pointer (some ⟨dp,0,none⟩),.agg (Sup.bZU m.most d.sec d.size m.arena)] H fun v H=>∃ mp ap rp,v= .tuple #[.pointer (some ⟨mp,0,none⟩),.int .i64 0]∧Sep [pts mp (aZp ⟨m.most,d.sec,d.size,m.arena,bZk,0⟩ ap rp .none 0 0),Ar ap m.arena 0 [],pts rp (aZh dp 1 8 ((8*(d.size/8):Nat):Int)),Dk dp d1,pts p (aZF dp mo),X] H:=fun H hs=>by
   rw[← hsec1,←hsize1]at hs⊢;refine(pZi (dp:=dp) hc1.ok hh1.good).use hs [0] rfl rfl ?_;rintro _ _ H ⟨mp,ap,rp,rfl,rfl⟩ hs;exact⟨mp,ap,rp,rfl,hs.re [0,1,2,3,4,5] rfl⟩
  have j8:∀ mp ap rp H,Sep [pts mp (aZp ⟨m.most,d.sec,d.size,m.arena,bZk,0⟩ ap rp .none 0 0),Ar ap m.arena 0 [],pts rp (aZh dp 1 8 ((8*(d.size/8):Nat):Int)),Dk dp d1,pts p (aZF dp mo),X] H→
    aZz.j8 (fun v H'=>∃ M,wZd p dp d c (some m) v M∧Sep M H') (some ⟨p,0,none⟩) 0 (some ⟨mp,0,none⟩) H:=fun mp ap rp H hs=>by
   unfold aZz.j8;refine ZB rfl ?_
   try simp only[HS]
   refine hs.ld 0 (v:=.pointer (some ⟨rp,0,none⟩)) rfl rfl ?_;simp only[HV];have hrd1:=hw1.rd;refine(oZZ (b:=rp) (p:=dp) (f:=1) (n:=8) (w:=((8*(d.size/8):Nat):Int)) (d:=d1) (by omega) (by omega) hc1.ok (by omega) (fun _=>by
    have:=jZk 1 8 8 0 d1 [];have h9:(aZX 1 8 d1).2.2.length≤0+8:=this;omega)).use hs [3,2] rfl rfl ?_
   rintro _ _ H ⟨rfl,rfl⟩ hs;have hs:Sep [Dk dp (aZX 1 8 d1).2.1,pts rp (aZh dp 1 8 ((8*(d.size/8):Nat):Int)),pts mp (aZp ⟨m.most,d.sec,d.size,m.arena,bZk,0⟩ ap rp .none 0 0),Ar ap m.arena 0 [],pts p (aZF dp mo),X] H:=hs;simp only[HV];refine hs.nw fun b2 H hs=>?_
   refine hs.stw 6 rfl rfl (y:=R.c _) rfl (eZY _) fun H hs=>?_;rcases jZ9 hc1 1 8 (by rw[hsec1];omega)with⟨hf2,hsc⟩|⟨j,hj,hf2,hsc⟩
   ·rw[hsc]at hs⊢;rw[nZT,hh1.lastC]at hs;refine ZB rfl ?_;refine hs.ldw 6 rfl rfl ?_
    try simp only[Array.toArray_toList]
    try simp only[HS]
    refine hs.sta 2 (off:=23) (n:=8) (y:=R.c m.r) rfl (by show 23+8≤32;omega) rfl (eZY _) fun H hs=>?_;have hs:Sep [Dk dp (D.rdG d1 8),pts rp (aZh dp 1 8 ((8*(d.size/8):Nat):Int)),pts mp (aZp (egM d m 0) ap rp .none 0 0),Ar ap m.arena 0 [],pts p (aZF dp mo),X,pts b2 (.obj (.cells (R.c m.r) 93))] H:=hs;have he:=hh.eg (peak:=0) (by omega);have hkk:=he.kk0;refine(rZC (mp:=mp) (ap:=ap) (rp:=rp) (e:=egM d m 0) (A:=.none) (n:=0) (m:=0) he.most he.p ⟨he.least,he.arena⟩ (fun _=>⟨hkk.1,he.kk,he.dir⟩)).use hs [2] rfl rfl ?_;rintro _ _ H ⟨A',m',rfl,rfl⟩ hs
    try simp only[HV]
    try simp only[HS]
    refine hs.st 5 rfl (by show 1<2;omega) rfl fun H hs=>?_;refine⟨_,.inr (.inl ⟨_,m,rfl,hw1.trans (bZN.rdG hf2),hc1.rdG 8,rfl,rfl⟩),?_⟩;exact En.unwhole (mp:=mp) (ap:=ap) (rp:=rp) (A:=A') (m:=m') (e:=egM d m 0) (L:=[Dk dp (D.rdG d1 8)]) (hs.re [5,0,4,3,1,2] rfl)
   ·rw[hsc]at hs⊢;refine ZL (show(8:Int)≠0 by decide) ?_;refine chk8 [Dk dp (D.dead (D.rdG d1 j))] H _ (hs.re [4,0] rfl) fun H hs=>?_;simp only[HV];have hcut:=hw1.cut (Cut.rdG hc1 hf2 hj);exact⟨_,.inr (.inr ⟨_,hcut.more (by omega),fun h=>(by cases h),Left.rdG hc1 j,rfl,rfl⟩),hs⟩
  try simp only[HS]
  repeat' first
   |(refine Zc.mono (fo _ hs) ?_;rintro _ H ⟨mp,ap,rp,rfl,hs⟩;simp only[HV];exact j8 mp ap rp H hs)
   |refine hs.ld 1 (v:=.pointer (some ⟨dp,0,none⟩)) rfl rfl ?_
   |refine hs.ldw 3 rfl rfl ?_
   |(simp only[HV];try simp only[aZ2,Addr.add_lit',Addr.add_zero,Nat.zero_add,Nat.add_zero,Array.toArray_toList])
   |refine⟨?_,?_⟩
end Eng
namespace W
open Go Go.Hw
theorem bZL :prog.follows .mixedOrders=true:=by kernel_rfl
def ZA.j21 (K:Value→Hp→Prop)(R10:Option Addr→Nat→Nat→Option Addr→Nat→Nat→Addr→Int→Hp→Prop)(A9:Option Addr)(n9:Nat)(m9:Nat)(A10:Option Addr)(n10:Nat)(m10:Nat)(a6:Addr)(x13:Int)(H:Hp):Prop:=
 LeP H (a6.add 1) fun p8=>Hz 17 #[.pointer p8] H fun v28 H16=>dZF v28 fun A11 n11 m11 x14=>(BIf (x14 !=0) (K (.bool false) H16) (HcB 18 #[.slice A11 n11 m11,.slice A9 n9 m9] H16 fun c5 H17=>BIf (!c5) (K (.bool false) H17) (R10 A9 n9 m9 A10 n10 m10 a6 (IntKind.i64.wrap (x13+1)) H17)))
def ZA.j18 (K:Value→Hp→Prop)(R10:Option Addr→Nat→Nat→Option Addr→Nat→Nat→Addr→Int→Hp→Prop)(A7:Option Addr)(n7:Nat)(m7:Nat)(A8:Option Addr)(n8:Nat)(m8:Nat)(a4:Addr)(x10:Int)(H:Hp):Prop:=
 LeP H (a4.add 0) fun p5=>NN p5 fun a5=>Hz 14 #[.pointer (some (a5.add 7)),.int .i64 0] H fun v21 H13=>LeP H13 (a4.add 1) fun p6=>HcA 15 #[.pointer p6] H13 fun y2 H14=>ixV y2 0 fun v24=>DI .i64 v24 fun x11=>BIf (x11==0) (LeP H14 (a4.add 1) fun p7=>HcI 16 #[.pointer p7] H14 fun x12 H15=>BIf (x12 !=0) (K (.bool false) H15) (ZA.j21 K R10 A7 n7 m7 A8 n8 m8 a4 x10 H15)) (ZA.j21 K R10 A7 n7 m7 A8 n8 m8 a4 x10 H14)
def ZA.l10 (K:Value→Hp→Prop):Nat→Option Addr→Nat→Nat→Option Addr→Nat→Nat→Addr→Int→Hp→Prop
 |0,_,_,_,_,_,_,_,_,_=>False
 |k+1,A3,n3,m3,A4,n4,m4,a1,x5,H=>
  let R10:=ZA.l10 K k
  BIf (decide (x5<(n4:Int))) (ixI x5 n4 (NN A4 fun a2=>LdA H (a2.add (x5.toNat*5)) 5 fun l5=>Nw H (.obj (.cells #[.int .i64 0,.int .i64 0,.int .i64 0,.slice none 0 0,.slice none 0 0] 38)) fun b2 H8=>StA H8 ⟨b2,0,none⟩ l5.toArray 5 fun H9=>LeI H9 ((⟨b2,0,none⟩:Addr).add 0) fun x6=>BIf (decide (x6≤(2:Int))) (R10 A3 n3 m3 A4 n4 m4 a1 (IntKind.i64.wrap (x5+1)) H9) (LeP H9 (a1.add 0) fun p1=>LeP H9 (a1.add 1) fun p2=>LdA H9 ⟨b2,0,none⟩ 5 fun l6=>Hz 11 #[.pointer p1,.pointer p2,.agg l6.toArray] H9 fun v11 H10=>vZP v11 fun x7 A5 n5 m5=>(LeI H10 ((⟨b2,0,none⟩:Addr).add 0) fun x8=>BIf (x8==10) (R10 A3 n3 m3 A4 n4 m4 a1 (IntKind.i64.wrap (x5+1)) H10) (LeP H10 (a1.add 0) fun p3=>NN p3 fun a3=>HcB 12 #[.pointer (some (a3.add 7))] H10 fun c4 H11=>BIf c4 (LeP H11 (a1.add 0) fun p4=>LeS H11 ((⟨b2,0,none⟩:Addr).add 4) fun A6 n6 m6=>HcI 13 #[.pointer p4,.slice A6 n6 m6] H11 fun x9 H12=>ZA.j18 K R10 A3 n3 m3 A4 n4 m4 a1 x5 H12) (ZA.j18 K R10 A3 n3 m3 A4 n4 m4 a1 x5 H11)))))) (K (.bool true) H)
def ZA (A1:Option Addr)(n1:Nat)(m1:Nat)(x1:Int)(x2:Int)(A2:Option Addr)(n2:Nat)(m2:Nat)(H:Hp)(K:Value→Hp→Prop):Prop:=
 HcB 6 #[] H fun c1 H1=>BIf (!c1) (K (.bool false) H1) (HcI 7 #[.slice A1 n1 m1] H1 fun x3 H2=>BIf (decide (x3<0)) (K (.bool true) H2) (HcI 8 #[.slice A2 n2 m2] H2 fun x4 H3=>BIf (x4 !=0) (K (.bool true) H3) (Hz 9 #[.int .i64 x3,.int .u8 x1,.int .u8 x2] H3 fun v4 H4=>vZN v4 fun y1 c2=>(Nw H4 (.obj (.cells #[.pointer none,.pointer none,.int .i64 0,.int .i64 0,.int .i64 0,.int .i64 0] 32)) fun b1 H5=>StA H5 ⟨b1,0,none⟩ y1 6 fun H6=>BIf (!c2) (K (.bool false) H6) (LdA H6 ⟨b1,0,none⟩ 6 fun l4=>HcB 10 #[.agg l4.toArray,.slice A1 n1 m1,.int .i64 0] H6 fun c3 H7=>BIf (!c3) (K (.bool false) H7) ((∃ k,ZA.l10 K k A1 n1 m1 A2 n2 m2 ⟨b1,0,none⟩ 0 H7)))))))
def ZA.l10.L (K:Value→Hp→Prop)(k:Nat):Mid:=fun E D H=>
 DG (E.get? 0) fun w0=>DSl w0 fun A3 n3 m3=>DG (E.get? 3) fun w3=>DSl w3 fun A4 n4 m4=>eN E 10 fun a1=>eI E 12 .i64 fun x5=>Zt D (ZA.l10 K k A3 n3 m3 A4 n4 m4 a1 x5 H)
def ZA.Λ10 (K:Value→Hp→Prop)(R10:Option Addr→Nat→Nat→Option Addr→Nat→Nat→Addr→Int→Hp→Prop):Zn:=⟨fun i=>match Nat.beq i 21 with|true=>some (fun E D H=>DG (E.get? 0) fun w0=>DSl w0 fun A9 n9 m9=>DG (E.get? 3) fun w3=>DSl w3 fun A10 n10 m10=>eN E 10 fun a6=>eI E 12 .i64 fun x13=>Zt D (ZA.j21 K R10 A9 n9 m9 A10 n10 m10 a6 x13 H))|false=>match Nat.beq i 18 with|true=>some (fun E D H=>DG (E.get? 0) fun w0=>DSl w0 fun A7 n7 m7=>DG (E.get? 3) fun w3=>DSl w3 fun A8 n8 m8=>eN E 10 fun a4=>eI E 12 .i64 fun x10=>Zt D (ZA.j18 K R10 A7 n7 m7 A8 n8 m8 a4 x10 H))|false=>none,fun i=>none,(fun _=>none)⟩
def ZA.Λ (K:Value→Hp→Prop):Zn:=⟨fun i=>none,fun i=>match Nat.beq i 10 with|true=>some (fun E D H=>∃ k,ZA.l10.L K k E D H)|false=>none,(fun _=>none)⟩
theorem ZA.ok (A1:Option Addr)(n1:Nat)(m1:Nat)(x1:Int)(x2:Int)(A2:Option Addr)(n2:Nat)(m2:Nat)(H:Hp)(K:Value→Hp→Prop)(h:ZA A1 n1 m1 x1 x2 A2 n2 m2 H K):Zc prog 3 #[.slice A1 n1 m1,.int .u8 x1,.int .u8 x2,.slice A2 n2 m2] H K:=
 Zq Tryz.func3 rfl (nbl rfl) (Zf (Λ:=(ZA.Λ K)) bZL _ _ _ _ _ (Eq.mp (by kernel_rfl) h) (Zb Za rfl (Zb (Zb Za rfl (Zj (Zb Za rfl Zy) Zk)) rfl (Zb Za rfl (Zb (Zb Za rfl (Zj (Zb Za rfl Zy) Zk)) rfl (Zb Za rfl (Zb (Zb Za rfl (Zj (Zb Za rfl Zy) Zk)) rfl (Zb (Zb Za rfl (Zu (aZc rfl (fun E D H h=>by
   refine Safe.loop' (ZA.l10.L K) (fun E D H h=>?_) (fun k E D H h=>?_) E D H h
   ·obtain⟨w0,e0,g1⟩:=DG.out h;obtain⟨A3,n3,m3,rfl,g2⟩:=DSl.out g1;obtain⟨w3,e3,g3⟩:=DG.out g2;obtain⟨A4,n4,m4,rfl,g4⟩:=DSl.out g3;obtain⟨w10,e10,g5⟩:=DG.out g4;obtain⟨pw10,rfl,g6⟩:=DP.out g5;obtain⟨a1,rfl,g7⟩:=NN.out g6;obtain⟨w12,e12,g8⟩:=DG.out g7;obtain⟨x5,rfl,g9⟩:=DI.out g8;obtain⟨rfl,h'⟩:=Zt.out g9;exact h'
   ·obtain⟨w0,e0,g1⟩:=DG.out h;obtain⟨A3,n3,m3,rfl,g2⟩:=DSl.out g1;obtain⟨w3,e3,g3⟩:=DG.out g2;obtain⟨A4,n4,m4,rfl,g4⟩:=DSl.out g3;obtain⟨a1,e10,g7⟩:=GN g4;obtain⟨x5,e12,g9⟩:=GI g7;obtain⟨rfl,h'⟩:=Zt.out g9;exact(Zf (Λ:=(ZA.Λ10 K (ZA.l10 K k))) bZL _ _ [(0,.slice A3 n3 m3),(3,.slice A4 n4 m4),(10,.pointer (some a1)),(12,.int .i64 x5)] [] H (Eq.mp (by kernel_rfl) h') (Zb (Zb Za rfl (Zj Zk ZT)) rfl (Zb (Zu (Zb Za rfl (Zb (Zb Za rfl (Zj ZT Zk)) rfl (Zb Za rfl (Zb (Zb Za rfl (Zj ZT Zk)) rfl (aZL (Zb Za rfl (Zj Za Zk)) rfl (fun E D H h=>by
      obtain⟨w0,e0,g1⟩:=DG.out h;obtain⟨A7,n7,m7,rfl,g2⟩:=DSl.out g1;obtain⟨w3,e3,g3⟩:=DG.out g2;obtain⟨A8,n8,m8,rfl,g4⟩:=DSl.out g3;obtain⟨a4,e10,g7⟩:=GN g4;obtain⟨x10,e12,g9⟩:=GI g7;obtain⟨rfl,h'⟩:=Zt.out g9;exact(Zf (Λ:=(ZA.Λ10 K (ZA.l10 K k))) bZL _ _ [(0,.slice A7 n7 m7),(3,.slice A8 n8 m8),(10,.pointer (some a4)),(12,.int .i64 x10)] [] H (Eq.mp (by kernel_rfl) h') (Zb Za rfl (aZL (Zb Za rfl (Zj (Zb Za rfl Zy) Zk)) rfl (fun E D H h=>by
        obtain⟨w0,e0,g1⟩:=DG.out h;obtain⟨A9,n9,m9,rfl,g2⟩:=DSl.out g1;obtain⟨w3,e3,g3⟩:=DG.out g2;obtain⟨A10,n10,m10,rfl,g4⟩:=DSl.out g3;obtain⟨a6,e10,g7⟩:=GN g4;obtain⟨x13,e12,g9⟩:=GI g7;obtain⟨rfl,h'⟩:=Zt.out g9;exact(Zf (Λ:=(ZA.Λ10 K (ZA.l10 K k))) bZL _ _ [(0,.slice A9 n9 m9),(3,.slice A10 n10 m10),(10,.pointer (some a6)),(12,.int .i64 x13)] [] H (Eq.mp (by kernel_rfl) h') (Zb Za rfl (Zb Za rfl (Zj (Zb Za rfl Zy) Zk)))).weaken (Ze.cons e0 (Ze.cons e3 (Ze.cons e10 (Ze.cons e12 (Ze.nil _))))) (Hp.le_refl _))))).weaken (Ze.cons e0 (Ze.cons e3 (Ze.cons e10 (Ze.cons e12 (Ze.nil _))))) (Hp.le_refl _)))))))) rfl Za))).weaken (Ze.cons e0 (Ze.cons e3 (Ze.cons e10 (Ze.cons e12 (Ze.nil _))))) (Hp.le_refl _))))) rfl (Zb Za rfl Zy)))))))))
def aZs.l13 (K:Value→Hp→Prop):Nat→Option Addr→Int→Hp→Prop
 |0,_,_,_=>False
 |k+1,p3,x7,H=>
  let R13:=aZs.l13 K k
  BIf (decide (x7<5)) (Hz 19 #[.pointer p3] H fun v11 H10=>sZR v11 fun c1 x8=>(R13 p3 (IntKind.i64.wrap (x7+1)) H10)) (Hz 20 #[.pointer p3] H fun v14 H11=>dZF v14 fun A1 n1 m1 x9=>(BIf (x9==0) (BIf ((n1:Int)==4) (ixI 0 n1 (NN A1 fun a2=>LeW H11 (a2.add ((0:Int).toNat*1)) fun x10=>K (.bool (x10==10)) H11)) (K (.bool false) H11)) (K (.bool false) H11)))
def aZs (H:Hp)(K:Value→Hp→Prop):Prop:=
 HcP 23 #[.int .i64 13,.int .i64 32] H fun p1 H1=>HcP 24 #[.pointer p1] H1 fun p2 H2=>BIf p1.isNone (K (.bool false) H2) (BIf p2.isNone (K (.bool false) H2) (HcI 25 #[.pointer p2,.int .i64 2,.int .i64 8] H2 fun x1 H3=>BIf (x1 !=0) (K (.bool false) H3) (Nw H3 (.row [.int .u64 1,.int .u64 2,.int .u64 3,.int .u64 4] 84 4) fun b1 H4=>Hz 27 #[.pointer p2,.slice (some ⟨b1,0,none⟩) 4 4] H4 fun v4 H5=>iZw v4 fun x2 x3=>(BIf (x3 !=0) (K (.bool false) H5) (HcI 28 #[.pointer p2,.int .i64 0] H5 fun x4 H6=>BIf (x4 !=0) (K (.bool false) H6) (NN p1 fun a1=>Hz 32 #[.pointer (some (a1.add 7))] H6 fun v8 H7=>HcI 13 #[.pointer p1,.slice none 0 0] H7 fun x5 H8=>HcI 16 #[.pointer p2] H8 fun x6 H9=>BIf (x6 !=0) (K (.bool false) H9) ((∃ k,aZs.l13 K k p2 0 H9))))))))
def aZs.l13.L (K:Value→Hp→Prop)(k:Nat):Mid:=fun E D H=>
 eP E 2 fun p3=>eI E 5 .i64 fun x7=>Zt D (aZs.l13 K k p3 x7 H)
def aZs.Λ13 (_:Value→Hp→Prop)(_R13:Option Addr→Int→Hp→Prop):Zn:=Zn.none (fun _=>none)
def aZs.Λ (K:Value→Hp→Prop):Zn:=⟨fun i=>none,fun i=>match Nat.beq i 13 with|true=>some (fun E D H=>∃ k,aZs.l13.L K k E D H)|false=>none,(fun _=>none)⟩
theorem aZs.ok (H:Hp)(K:Value→Hp→Prop)(h:aZs H K):Zc prog 6 #[] H K:=
 Zq Tryz.func6 rfl (nbl rfl) (Zf (Λ:=(aZs.Λ K)) bZL _ _ _ _ _ (Eq.mp (by kernel_rfl) h) (Zb Za rfl (Zb Za rfl (Zb Za rfl (Zb (Zb Za rfl (Zj (Zb Za rfl Zy) Zk)) rfl (Zb (Zb Za rfl (Zb Za rfl (Zj (Zb Za rfl Zy) Zk))) rfl (Zb Za rfl (Zb Za rfl (Zb (Zb Za rfl (Zj (Zb Za rfl Zy) Zk)) rfl (Zb (Zb Za rfl (Zu (aZc rfl (fun E D H h=>by
   refine Safe.loop' (aZs.l13.L K) (fun E D H h=>?_) (fun k E D H h=>?_) E D H h
   ·obtain⟨w2,e2,g1⟩:=DG.out h;obtain⟨p3,rfl,g2⟩:=DP.out g1;obtain⟨w5,e5,g3⟩:=DG.out g2;obtain⟨x7,rfl,g4⟩:=DI.out g3;obtain⟨rfl,h'⟩:=Zt.out g4;exact h'
   ·obtain⟨p3,e2,g2⟩:=GP h;obtain⟨x7,e5,g4⟩:=GI g2;obtain⟨rfl,h'⟩:=Zt.out g4;exact(Zf (Λ:=(aZs.Λ13 K (aZs.l13 K k))) bZL _ _ [(2,.pointer p3),(5,.int .i64 x7)] [] H (Eq.mp (by kernel_rfl) h') (Zb (Zb Za rfl (Zj Zk ZT)) rfl (Zb (Zu Za) rfl Za))).weaken (Ze.cons e2 (Ze.cons e5 (Ze.nil _))) (Hp.le_refl _))))) rfl (Zb Za rfl (Zb Za rfl Zy))))))))))))
def aZu.l4 (K:Value→Hp→Prop):Nat→Option Addr→Nat→Nat→Int→Hp→Prop
 |0,_,_,_,_,_=>False
 |k+1,A2,n2,m2,x1,H=>
  let R4:=aZu.l4 K k
  BIf (decide (x1<(n2:Int))) (ixI x1 n2 (NN A2 fun a1=>LeW H (a1.add (x1.toNat*1)) fun x2=>BIf (decide (x2≥18446744069414584321)) (K (.int .i64 (-1)) H) (R4 A2 n2 m2 (IntKind.i64.wrap (x1+1)) H))) (HcI 33 #[.int .i64 (n2:Int)] H fun x3 H1=>K (.int .i64 x3) H1)
def aZu (A1:Option Addr)(n1:Nat)(m1:Nat)(H:Hp)(K:Value→Hp→Prop):Prop:=
 BIf (decide ((n1:Int)>64)) (K (.int .i64 (-1)) H) ((∃ k,aZu.l4 K k A1 n1 m1 0 H))
def aZu.l4.L (K:Value→Hp→Prop)(k:Nat):Mid:=fun E D H=>
 DG (E.get? 0) fun w0=>DSl w0 fun A2 n2 m2=>eI E 3 .i64 fun x1=>Zt D (aZu.l4 K k A2 n2 m2 x1 H)
def aZu.Λ4 (_:Value→Hp→Prop)(_R4:Option Addr→Nat→Nat→Int→Hp→Prop):Zn:=Zn.none (fun _=>none)
def aZu.Λ (K:Value→Hp→Prop):Zn:=⟨fun i=>none,fun i=>match Nat.beq i 4 with|true=>some (fun E D H=>∃ k,aZu.l4.L K k E D H)|false=>none,(fun _=>none)⟩
theorem aZu.ok (A1:Option Addr)(n1:Nat)(m1:Nat)(H:Hp)(K:Value→Hp→Prop)(h:aZu A1 n1 m1 H K):Zc prog 7 #[.slice A1 n1 m1] H K:=
 Zq Tryz.func7 rfl (nbl rfl) (Zf (Λ:=(aZu.Λ K)) bZL _ _ _ _ _ (Eq.mp (by kernel_rfl) h) (Zb Za rfl (Zb (Zb Za rfl (Zj (Zb Za rfl Zy) Zk)) rfl (Zb (Zb Za rfl (Zu (aZc rfl (fun E D H h=>by
   refine Safe.loop' (aZu.l4.L K) (fun E D H h=>?_) (fun k E D H h=>?_) E D H h
   ·obtain⟨w0,e0,g1⟩:=DG.out h;obtain⟨A2,n2,m2,rfl,g2⟩:=DSl.out g1;obtain⟨w3,e3,g3⟩:=DG.out g2;obtain⟨x1,rfl,g4⟩:=DI.out g3;obtain⟨rfl,h'⟩:=Zt.out g4;exact h'
   ·obtain⟨w0,e0,g1⟩:=DG.out h;obtain⟨A2,n2,m2,rfl,g2⟩:=DSl.out g1;obtain⟨x1,e3,g4⟩:=GI g2;obtain⟨rfl,h'⟩:=Zt.out g4;exact(Zf (Λ:=(aZu.Λ4 K (aZu.l4 K k))) bZL _ _ [(0,.slice A2 n2 m2),(3,.int .i64 x1)] [] H (Eq.mp (by kernel_rfl) h') (Zb (Zb Za rfl (Zj Zk ZT)) rfl (Zb (Zu (Zb Za rfl (Zj (Zb Za rfl Zy) Zk))) rfl Za))).weaken (Ze.cons e0 (Ze.cons e3 (Ze.nil _))) (Hp.le_refl _))))) rfl (Zb Za rfl Zy)))))
def bZt.q1 (H7:Hp)(b1:Nat)(K:Value→Hp→Prop):Prop:=
 StA H7 ⟨b1,0,none⟩ #[.pointer none,.pointer none,.int .i64 0,.int .i64 0,.int .i64 0,.int .i64 0] 6 fun H9=>LdA H9 ⟨b1,0,none⟩ 6 fun l6=>K (.tuple #[.agg l6.toArray,.bool false]) H9
def bZt (x1:Int)(x2:Int)(x3:Int)(H:Hp)(K:Value→Hp→Prop):Prop:=
 Nw H (.obj (.cells #[.pointer none,.pointer none,.int .i64 0,.int .i64 0,.int .i64 0,.int .i64 0] 32)) fun b1 H1=>((4:Int)≠0∧IntKind.u8=IntKind.u8∧(0≤(IntKind.u64.wrap (Int.tmod x2 4))∧HcI 34 #[.int .i64 x1,.int .i64 (aZN .i64 32 (IntKind.u64.wrap (Int.tmod x2 4)))] H1 fun x4 H2=>((3:Int)≠0∧IntKind.i64=IntKind.i64∧((8:Int)≠0∧IntKind.i64=IntKind.i64∧HcI 35 #[.int .i64 x1,.int .i64 (IntKind.i64.wrap (Int.tdiv (aZN .i64 32 (IntKind.u64.wrap (Int.tmod x2 4))) 8))] H2 fun x5 H3=>Nw H3 (.obj (.cells #[.int .i64 0,.int .i64 0,.int .i64 0,.int .i64 0] 30)) fun b2 H4=>StA H4 ⟨b2,0,none⟩ #[.int .i64 x1,.int .i64 (IntKind.i64.wrap (x4+(Int.tmod (IntKind.i64.wrap x2) 3))),.int .i64 (aZN .i64 32 (IntKind.u64.wrap (Int.tmod x2 4))),.int .i64 (IntKind.i64.wrap (x5+(IntKind.i64.wrap x3)))] 4 fun H5=>LeI H5 ((⟨b2,0,none⟩:Addr).add 1) fun x6=>HcP 23 #[.int .i64 x6,.int .i64 (aZN .i64 32 (IntKind.u64.wrap (Int.tmod x2 4)))] H5 fun p1 H6=>HcP 24 #[.pointer p1] H6 fun p2 H7=>BIf p1.isNone (bZt.q1 H7 b1 K) (BIf p2.isNone (bZt.q1 H7 b1 K) (LeI H7 ((⟨b2,0,none⟩:Addr).add 3) fun x7=>HcI 25 #[.pointer p2,.int .i64 x1,.int .i64 x7] H7 fun x8 H8=>BIf (x8 !=0) (bZt.q1 H8 b1 K) (LdA H8 ⟨b2,0,none⟩ 4 fun l1=>nZt l1.toArray.toList fun x9 x10 x11 x12=>(StA H8 ⟨b1,0,none⟩ #[.pointer p1,.pointer p2,.int .i64 x9,.int .i64 x10,.int .i64 x11,.int .i64 x12] 6 fun H12=>LdA H12 ⟨b1,0,none⟩ 6 fun l9=>K (.tuple #[.agg l9.toArray,.bool true]) H12))))))))
theorem bZt.ok (x1:Int)(x2:Int)(x3:Int)(H:Hp)(K:Value→Hp→Prop)(h:bZt x1 x2 x3 H K):Zc prog 9 #[.int .i64 x1,.int .u8 x2,.int .u8 x3] H K:=
 Zq Tryz.func9 rfl (nbl rfl) (Zf (Λ:=Zn.none (fun _=>none)) bZL _ _ _ _ _ (Eq.mp (by kernel_rfl) h) (Zs _ _ _ _ _))
def dZo (y1:Array Value)(A1:Option Addr)(n1:Nat)(m1:Nat)(x1:Int)(H:Hp)(K:Value→Hp→Prop):Prop:=
 Nw H (.obj (.cells y1 32)) fun b1 H1=>LeP H1 ((⟨b1,0,none⟩:Addr).add 1) fun p1=>Hz 27 #[.pointer p1,.slice A1 n1 m1] H1 fun v2 H2=>iZw v2 fun x2 x3=>(BIf (x3==0) (LeP H2 ((⟨b1,0,none⟩:Addr).add 1) fun p2=>HcI 28 #[.pointer p2,.int .i64 x1] H2 fun x4 H3=>K (.bool (x4==0)) H3) (K (.bool false) H2))
theorem dZo.ok (y1:Array Value)(A1:Option Addr)(n1:Nat)(m1:Nat)(x1:Int)(H:Hp)(K:Value→Hp→Prop)(h:dZo y1 A1 n1 m1 x1 H K):Zc prog 10 #[.agg y1,.slice A1 n1 m1,.int .i64 x1] H K:=
 Zq Tryz.func10 rfl (nbl rfl) (Zf (Λ:=Zn.none (fun _=>none)) bZL _ _ _ _ _ (Eq.mp (by kernel_rfl) h) (Zs _ _ _ _ _))
end W
namespace Eng
open Go Go.Hw Go.Form W Shp Dsk Str Are Trn Pas Pln Rec Srt Rng
def iZE (l:List UInt64):Int:=if 64<l.length∨¬fZs l then -1 else iZl (l.length:Int)
theorem mZk (H:Hp)(A:Option Addr)(n m:Nat)(l:List UInt64)(hn:n=l.length)(h64:n≤64)(hc:Cells H A (Zd l)):
  ∀(t j:Nat),j+t=n→(∀ k x,k<j→l[k]? =some x→x.toNat<18446744069414584321)→aZu.l4 (RetE (.int .i64 (iZE l)) H) (t+1) A n m (j:Int) H
 |0,j,hj,hall=>by
  unfold aZu.l4;refine Zl (by omega) ?_;refine Zc.use (tZq (n:Int) H) ?_;simp only[HV];refine RetE.of ?_;have hcan:fZs l:=fun x hx=>by
   obtain⟨k,hk,rfl⟩:=List.getElem_of_mem hx;exact hall k _ (by omega) (List.getElem?_eq_getElem hk)
  unfold iZE;have h0:¬(64<l.length∨¬fZs l):=by
   intro h;rcases h with h|h
   ·omega
   ·exact h hcan
  rw[if_neg h0,hn]
 |t+1,j,hj,hall=>by
  unfold aZu.l4;refine Zv (by omega) ?_;have hg:l[j]? =some (l[j]'(by omega)):=List.getElem?_eq_getElem (by omega);have hg2:(Zd l)[j]? =some (.int .u64 ((l[j]'(by omega)).toNat:Int)):=by rw[aZ7,hg];rfl
  refine hc.read hg2 rfl (by rw[Zz];omega) ?_;simp only[HV];obtain⟨z,hz⟩:∃ z:Nat,z=(l[j]'(by omega)).toNat:=⟨_,rfl⟩;rw[← hz];generalize hz2:((z:Nat):Int)=w at*;by_cases h:w≥18446744069414584321
  ·refine Zv h (RetE.of ?_);unfold iZE;rw[if_pos (.inr fun hcan=>by
    have:=hcan _ (List.getElem_mem (show j<l.length by omega));omega)]
  ·refine Zl h ?_;rw[ZU (x:=(j:Int)+1) (by omega) (by omega)];refine mZk H A n m l hn h64 hc t (j+1) (by omega) fun k x hk hkx=>?_
   by_cases e:k=j
   ·subst e;rw[hg]at hkx;have:=Option.some.inj hkx;rw[this]at hz;omega
   ·exact hall k x (by omega) hkx
theorem tZM (A:Option Addr)(n m:Nat)(l:List UInt64)(hn:n=l.length)(H:Hp)(hc:Cells H A (Zd l)):Zc prog 7 #[.slice A n m] H (RetE (.int .i64 (iZE l)) H):=by
 apply aZu.ok;unfold aZu;by_cases h:(n:Int)>64
 ·exact Zv h (RetE.of (by unfold iZE;rw[if_pos (.inl (by omega))]))
 ·exact Zl h ⟨n+1,mZk H A n m l hn (by omega) hc n 0 (by omega) fun k x hk=>absurd hk (by omega)⟩
theorem rZl {l:List UInt64}(h:0≤iZE l):∃ k:Nat,iZE l=k∧lg (l.length:Int)=some k∧k≤6∧l.length=2^k∧fZs l:=by
 unfold iZE at h⊢;by_cases h1:64<l.length∨¬fZs l
 ·rw[if_pos h1]at h;omega
 rw[if_neg h1]at h⊢;unfold iZl at h⊢;cases e:lg (l.length:Int)with
 |none=>rw[e]at h;exact absurd h (by decide)
 |some k=>
  have h2:=(dZb e).2;have hl:l.length=2^k:=by omega
  refine⟨k,rfl,rfl,?_,hl,Classical.byContradiction fun hc=>h1 (.inr hc)⟩;by_cases h6:k≤6
  ·exact h6
  ·have:2^7≤2^k:=Nat.pow_le_pow_right (by omega) (by omega);exact absurd (.inl (by omega)) h1
theorem mZg {dp:Nat}:Tr prog 24 #[.pointer (some ⟨dp,0,none⟩)] [] fun v M=>∃ p,v= .pointer (some ⟨p,0,none⟩)∧M=[En p dp none]:=fun H hs=>by
 apply fZI.ok;unfold fZI;refine aZq rfl ?_;refine hs.nw fun p H hs=>?_
 exact⟨_,⟨p,rfl,rfl⟩,hs⟩
section
variable {p dp : Nat}
end
structure Liv (N:Nat)(d:D)(c:Cn)(m:Mn):Prop where
 cl:Clean d c
 hh:Holds d.sec d.size m c
 most:m.most≤6
 len:m.L.length≤N
 ld:m.r.ld≤N
 rd:d.rd≤2000*N
 wr:d.wr≤2000*N
 sy:d.sy≤2000*N
theorem Liv.went {N:Nat}{d d':D}{c c':Cn}{m m':Mn}(h:Liv N d c m){r w s:Nat}(hw:bZN d d' r w s)(hr:r≤2000∧w≤2000∧s≤2000)(hc:Clean d' c')(hh:Holds d.sec d.size m' c')(hm:m'.most=m.most)(hl:m'.L.length≤N+2)(hld:m'.r.ld≤N+2):Liv (N+2) d' c' m':=by
 have h1:=hw.rd;have h2:=hw.wr;have h3:=hw.sy;have h4:=h.rd;have h5:=h.wr;have h6:=h.sy;have h7:=h.most;exact⟨hc,by rw[hw.sec,hw.size];exact hh,by omega,hl,hld,by omega,by omega,by omega⟩
theorem Liv.small {N:Nat}{d:D}{c:Cn}{m:Mn}(h:Liv N d c m)(hN:N≤400):Small 100000 m∧(d.rd≤800000∧d.wr≤800000∧d.sy≤800000):=by
 have h2:=h.len;have h3:=h.ld;have h4:=h.rd;have h5:=h.wr;have h6:=h.sy;exact⟨⟨by omega,by omega⟩,by omega,by omega,by omega⟩
theorem Liv.per {N:Nat}{d:D}{c:Cn}{m:Mn}(h:Liv N d c m):0<Lay.aZj (d.size:Int):=(dZa h.hh.good).2.1
theorem Liv.kk {N:Nat}{d:D}{c:Cn}{m:Mn}(h:Liv N d c m):m.r.kk.toNat≤6:=by
 have:=(Mn.r_wf h.hh).2.2;have:=h.most;omega
structure Dea (N:Nat)(sc sz:Nat)(d:D)(P:Mn→Prop):Prop where
 ok:Ok d
 dom:Dom d
 down:d.down=true
 sec:d.sec=sc
 size:d.size=sz
 left:Left d fun c'=>∃ m,P m∧m.most≤6∧m.L.length≤N∧m.r.ld≤N∧Holds sc sz m c'
 rd:d.rd≤2000*N
 wr:d.wr≤2000*N
 sy:d.sy≤2000*N
theorem Liv.cut {N:Nat}{d d':D}{c:Cn}{m:Mn}(h:Liv N d c m){n:Nat}(hc:Cut d d' n)(hn:n≤3000){P:Mn→Prop}(hl:Left d' fun c'=>∃ m,P m∧m.most≤6∧m.L.length≤N+2∧m.r.ld≤N+2∧Holds d.sec d.size m c'):Dea (N+2) d.sec d.size d' P:=by
 have h1:=hc.cnt;have h2:=hc.le;have h4:=h.rd;have h5:=h.wr;have h6:=h.sy;have h7:=hc.rd;have h8:=hc.wr;have h9:=hc.sy;exact⟨hc.ok,hc.dom,hc.down,hc.sec,hc.size,hl,by omega,by omega,by omega⟩
theorem wZG :∀ x:Nat,x<256→0≤IntKind.u64.wrap (Int.tmod (x:Int) 4)∧aZN .i64 32 (IntKind.u64.wrap (Int.tmod (x:Int) 4))=((32*2^(x%4):Nat):Int)∧IntKind.i64.wrap (Int.tdiv ((32*2^(x%4):Nat):Int) 8)=((4*2^(x%4):Nat):Int)∧Int.tmod (IntKind.i64.wrap (x:Int)) 3=((x%3:Nat):Int):=by decide +kernel
def szS (x:Nat):Nat:=32*2^(x%4)
theorem pZG (x:Nat):0<Lay.aZj (szS x:Int)∧Lay.aZj (szS x:Int)=4*2^(x%4)∧szS x/8=4*2^(x%4)∧szS x≤256∧4*2^(x%4)≤32∧4≤4*2^(x%4):=by
 have h:∀ t:Nat,t<4→0<Lay.aZj ((32*2^t:Nat):Int)∧Lay.aZj ((32*2^t:Nat):Int)=4*2^t∧32*2^t/8=4*2^t∧32*2^t≤256∧4*2^t≤32∧4≤4*2^t:=by decide
 exact h _ (Nat.mod_lt _ (by omega))
def scS (k x:Nat):Nat:=Lay.bZy k (szS x/8)+x%3
def arS (k x w:Nat):Nat:=bZn k (szS x/8)+w
theorem qZd {k per:Nat}(hk:k≤6):Lay.bZy k per≤9+4*65:=by
 have h1:=kZC hk;have h2:(2^k-1)/per≤2^k-1:=Nat.div_le_self _ _;unfold Lay.bZy Lay.aZe;omega
theorem jZ1 {k per:Nat}(hk:k≤6):bZn k per≤16+per:=by
 have:2^((k+1)/2)≤2^3:=Nat.pow_le_pow_right (by omega) (by omega);unfold bZn;omega
theorem rZK {k x w:Nat}(hk:k≤6)(hw:w<256):bZH (scS k x) (szS x/8) k (arS k x w)=0:=by
 obtain⟨h1,h2,h3,h4,h5,h6⟩:=pZG x;have h7:=jZ1 (k:=k) (per:=szS x/8) hk;have h8:1≤bZn k (szS x/8):=by unfold bZn;omega
 unfold bZH;rw[if_neg (by unfold arS;omega),if_neg,if_neg]
 ·rw[Int.toNat_natCast];unfold arS;omega
 ·rw[Int.toNat_natCast];unfold scS;omega
def eZg (dp p k x w:Nat):Array Value:=#[.pointer (some ⟨dp,0,none⟩),.pointer (some ⟨p,0,none⟩),.int .i64 k,.int .i64 (scS k x),.int .i64 (szS x),.int .i64 (arS k x w)]
theorem uZS {k x w:Nat}(hk:k≤6)(hx:x<256)(hw:w<256):Tr prog 9 #[.int .i64 (k:Int),.int .u8 (x:Int),.int .u8 (w:Int)] [] fun v M=>∃ dp p d c,v= .tuple #[.agg (eZg dp p k x w),.bool true]∧d.sec=scS k x∧d.size=szS x∧d.fuse=0∧Liv 2 d c (bZA k (arS k x w))∧M=[En p dp (some (egM d (bZA k (arS k x w)) 0)),Dk dp d]:=fun H hs=>by
 obtain⟨h1,h2,h3,h4,h5,h6⟩:=pZG x;obtain⟨z0,z1,z2,z3⟩:=wZG x hx;have hn:=qZd (k:=k) (per:=szS x/8) hk;have hl:=jZ1 (k:=k) (per:=szS x/8) hk;have hsz:aZN .i64 32 (IntKind.u64.wrap (Int.tmod (x:Int) 4))=(szS x:Int):=z1;have hsp:IntKind.i64.wrap (Int.tdiv (szS x:Int) 8)=((szS x/8:Nat):Int):=by rw[h3];exact z2
 have hsc:(scS k x:Int)=(Lay.bZy k (szS x/8):Int)+((x%3:Nat):Int):=by unfold scS;omega
 have har:(arS k x w:Int)=(bZn k (szS x/8):Int)+(w:Int):=by unfold arS;omega
 have hper:Lay.aZj (szS x:Int)=szS x/8:=h2.trans h3.symm;have hn9:9≤Lay.bZy k (szS x/8):=by unfold Lay.bZy;omega
 have hrg:1≤scS k x∧scS k x≤300:=by unfold scS;omega
 have hmul:scS k x*szS x≤67108864:=by
  have:=Nat.mul_le_mul hrg.2 h4;omega
 apply bZt.ok;unfold bZt bZt.q1;refine hs.nw fun b1 H hs=>?_
 rw[hsz];refine⟨by decide,by simp,z0,?_⟩;refine Zc.use (Sup.qZZ k (by omega) (szS x) h1 H) ?_;simp only[HV];refine⟨by decide,by simp,by decide,by simp,?_⟩;rw[hsp];refine Zc.use (rZY k (szS x/8) (by omega) (by omega) H) ?_;simp only[HV];rw[z3,hper,ZU (x:=(Lay.bZy k (szS x/8):Int)+((x%3:Nat):Int)) (by omega) (by omega),ZU (x:=(w:Int)) (by omega) (by omega),ZU (x:=(bZn k (szS x/8):Int)+(w:Int)) (by omega) (by omega),←hsc,←har];refine hs.nw fun b2 H hs=>?_
 refine hs.stw 1 rfl rfl rfl rfl fun H hs=>?_
 try simp only[HS]
 refine hs.ld 1 (v:=.int .i64 (scS k x:Int)) rfl rfl ?_;simp only[HV];refine(Dsk.dZn (scS k x) (szS x) ⟨hrg.1,by omega⟩ h1 hmul).use hs [] rfl rfl ?_;rintro _ _ H ⟨dp,rfl,rfl⟩ hs;simp only[HV];refine(mZg (dp:=dp)).use hs [] rfl rfl ?_;rintro _ _ H ⟨p,rfl,rfl⟩ hs;simp only[HV];refine aZq rfl (aZq rfl ?_);have hs:Sep [En p dp none,Dk dp (D.fresh (scS k x) (szS x)),pts b1 (.obj (.cells #[.pointer none,.pointer none,.int .i64 0,.int .i64 0,.int .i64 0,.int .i64 0] 32)),pts b2 (.obj (.cells #[.int .i64 (k:Int),.int .i64 (scS k x:Int),.int .i64 (szS x:Int),.int .i64 (arS k x w:Int)] 30))] H:=hs
 try simp only[HS]
 refine hs.ld 3 (v:=.int .i64 (arS k x w:Int)) rfl rfl ?_;simp only[HV];have hcl:=Clean.fresh (sec:=scS k x) (size:=szS x) ⟨hrg.1,by omega⟩ h1 hmul;refine(lZ7 (p:=p) (dp:=dp) (g:=none) hcl h1 ⟨Nat.zero_le _,Nat.zero_le _,Nat.zero_le _⟩ k (arS k x w)).use hs [0,1] rfl rfl ?_;rintro _ _ H (⟨h,_⟩|⟨kn,wn,e1,e2,_,⟨d,c,hw',hc,hh,rfl,rfl⟩|⟨d',hcut,_⟩⟩) hs
 ·exact absurd (rZK hk hw) h
 ·obtain rfl:k=kn:=by omega
  obtain rfl:arS k x w=wn:=by omega
  simp only[HV];refine ZB rfl ?_;refine hs.ldw 3 rfl rfl ?_;simp only[HV];refine hs.stw 2 rfl rfl rfl rfl fun H hs=>?_;refine hs.ldw 2 rfl rfl ?_;refine⟨_,⟨dp,p,d,c,rfl,hw'.sec,hw'.size,hw'.fuse,?_,rfl⟩,?_⟩
  ·have r1:=hw'.rd;have r2:=hw'.wr;have r3:=hw'.sy;refine⟨hc,by rw[hw'.sec,hw'.size];exact hh,hk,Nat.zero_le _,Nat.zero_le _,?_,?_,?_⟩
   ·rw[r1];show 0+0≤_;omega
   ·rw[r2];show 0+10≤_;omega
   ·rw[r3];show 0+3≤_;omega
  ·rw[eZD (bZA k (arS k x w)) 0 hw'.sec hw'.size];exact hs.re [0,1] rfl
 ·exact(hcut.calm rfl).elim
def dZd (m:Mn)(k:Nat)(l:List UInt64)(b:Bool):Mn:=(aZ3 m k l).add (cZo (aZ3 m k l) b)
theorem tZF {dp p k x w:Nat}{kk aw:Nat}{d:D}{c:Cn}{N:Nat}{m:Mn}{pk:Int}{l:List UInt64}{A:Option Addr}{n mm:Nat}{RR TT:As}{rig:Array Value}(hrig:rig=eZg dp p kk x aw)(hL:Liv N d c m)(hN:N≤100)(hf:d.fuse=0)(hpk:pk≤m.arena)(hk:lg (l.length:Int)=some k)(hk6:k≤m.most)(hcan:fZs l)(hn:n=l.length)(hnm:n≤mm)(b:Bool)
  (hR:∀ H,RR H→Cells H A (Zd l)) (hT:(∀ H,TT H→T64 H)∨∀ H,RR H→T64 H):
  Tr prog 10 #[.agg rig,.slice A n mm,.int .i64 (if b=true then 1 else 0)] [En p dp (some (egM d m pk)),Dk dp d,RR,TT] fun v M=>∃ d' c' pk',v= .bool true∧pk'≤(m.arena:Int)∧d'.sec=d.sec∧d'.size=d.size∧d'.fuse=0∧Liv (N+4) d' c' (dZd m k l b)∧M=[En p dp (some (egM d' (dZd m k l b) pk')),Dk dp d',RR,TT]:=fun H hs=>by
 subst hrig;subst hn;have hsm:=hL.small (by omega);have hmost:=hL.most;have hl2:l.length=2^k:=by have:=(dZb hk).2;omega
 have h64:=kZC (k:=k) (by omega);have hper:=hL.hh.per;have hb1:=lZA (d.size/8) k;have hb2:=lZB (d.size/8) k;have hb3:=jZI (per:=d.size/8) (w:=2^k) (by omega) (Nat.two_pow_pos k);have h1r:(aZM m k).r=cZp m k:=Mn.add_r _ _;have h2r:(aZ3 m k l).r=cZ6 (aZM m k) k l:=Mn.add_r _ _;have h3r:(dZd m k l b).r=cZo (aZ3 m k l) b:=Mn.add_r _ _;have hld1:(aZ3 m k l).r.ld=m.r.ld+1:=by rw[h2r];show(aZM m k).r.ld=_;rw[h1r];rfl
 have hld2:(dZd m k l b).r.ld=m.r.ld+1:=by rw[h3r];exact hld1
 have hlen1:(aZ3 m k l).L.length=m.L.length+2:=by show((m.L++[_])++[_]).length=_;simp
 have hlen2:(dZd m k l b).L.length=m.L.length+3:=by show((aZ3 m k l).L++[_]).length=_;simp[hlen1]
 have hlenN:=hL.len;have hldN:=hL.ld;apply dZo.ok;unfold dZo;refine hs.nw fun b1 H hs=>?_
 try simp only[HS]
 refine hs.ld 4 (v:=.pointer (some ⟨p,0,none⟩)) rfl rfl ?_;simp only[HV];refine(oZ0 (p:=p) (dp:=dp) hL.cl hL.hh hsm.1 hsm.2 hpk (l:=l) (A:=A) (n:=l.length) (mm:=mm) (RR:=RR) (TT:=TT) rfl hnm (by omega) hR hT).use hs [0,1,2,3] rfl rfl ?_;rintro _ _ H (⟨k',i,e,hchk,hne,_⟩|⟨k',hk',_,_,⟨d1,c1,pk1,hpk1,hw1,hc1,hh1,rfl,rfl⟩|⟨d1,hcut,_⟩⟩) hs
 ·cases hchk with
  |len h=>rw[h]at hk;cases hk
  |big h h2=>rw[h]at hk;cases hk;omega
  |word h h2 h3=>exact absurd hcan h3
  |ok h h2 h3=>exact absurd rfl hne
 ·obtain rfl:k'=k:=by rw[hk]at hk';cases hk';rfl
  have hf1:d1.fuse=0:=hw1.calm hf;have hL1:Liv (N+2) d1 c1 (aZ3 m k' l):=hL.went hw1 (by unfold ldR ldW;omega) hc1 hh1 rfl (by omega) (by omega);have hsm1:=hL1.small (by omega);simp only[HV];refine ZY rfl ?_;have hs:Sep [En p dp (some (egM d (aZ3 m k' l) pk1)),Dk dp d1,RR,TT,pts b1 (.obj (.cells (eZg dp p kk x aw) 32))] H:=hs;rw[← eZD (aZ3 m k' l) pk1 hw1.sec hw1.size]at hs
  try simp only[HS]
  refine hs.ld 4 (v:=.pointer (some ⟨p,0,none⟩)) rfl rfl ?_;simp only[HV];have hst:stM (aZ3 m k' l) (d1.size/8)=2:=by unfold stM;rw[if_pos (by rw[h2r];rfl)]
  refine(iZY (p:=p) (dp:=dp) hL1.cl hL1.hh hsm1.1 hsm1.2 hpk1 (if b=true then 1 else 0)).use hs [0,1] rfl rfl ?_;rintro _ _ H (⟨h,_⟩|⟨_,h,_⟩|⟨_,b',hb',⟨d2,c2,hw2,hc2,hh2,rfl,rfl⟩|⟨d2,hcut,_⟩⟩) hs
  ·exact absurd hst h
  ·exact absurd (by cases b<;>simp) h
  ·obtain rfl:b'=b:=by cases b<;>cases b'<;>first|rfl|(exfalso;revert hb';decide)
   have hL2:Liv (N+4) d2 c2 (dZd m k' l b'):=hL1.went hw2 (by omega) hc2 hh2 rfl (by show(dZd m k' l b').L.length≤_;omega) (by show(dZd m k' l b').r.ld≤_;omega)
   try simp only[HV]
   refine⟨_,⟨d2,c2,pk1,by first|rfl|trivial,hpk1,hw2.sec.trans hw1.sec,hw2.size.trans hw1.size,hw2.calm hf1,hL2,rfl⟩,?_⟩;have hs:=hs.re [0,1,2,3] rfl;rw[eZD (dZd m k' l b') pk1 hw2.sec hw2.size];exact hs
  ·exact(hcut.calm hf1).elim
 ·exact(hcut.calm hf).elim
structure Job (m:Mn)(k:Nat)(b:Bool)(l:List UInt64)(j:Nat):Prop where
 inp:m.inp=l
 kk:m.r.kk=k
 dir:m.r.dir=if b=true then 1 else 0
 kd:3≤m.r.kd
 ps:m.r.ps=j
theorem Job.plan {m:Mn}{k:Nat}{b:Bool}{l:List UInt64}{j:Nat}(h:Job m k b l j)(per:Nat):aZ8 m per m.r=bZO b k per m.arena:=by
 unfold aZ8 fZv;rw[h.dir,h.kk,Int.toNat_natCast];cases b<;>rfl
theorem Job.st {m:Mn}{k:Nat}{b:Bool}{l:List UInt64}{j:Nat}(h:Job m k b l j)(per:Nat):stM m per=if j<(bZO b k per m.arena).length then 3 else 4:=by
 have:=h.kd;unfold stM;rw[if_neg (by omega),if_neg (by omega),h.plan,h.ps];by_cases e:j<(bZO b k per m.arena).length
 ·rw[if_pos e,if_pos (by omega)]
 ·rw[if_neg e,if_neg (by omega)]
theorem Job.next {m:Mn}{k:Nat}{b:Bool}{l:List UInt64}{j:Nat}(h:Job m k b l j)(per:Nat):Job (m.add (bZI m per)) k b l (j+1):=by
 have e:(m.add (bZI m per)).r=bZI m per:=Mn.add_r _ _;refine⟨h.inp,?_,?_,?_,?_⟩
 ·rw[e];exact h.kk
 ·rw[e];exact h.dir
 ·rw[e];show(3:Int)≤4;omega
 ·rw[e];show m.r.ps+1=_;rw[h.ps];omega
theorem nZS (m:Mn)(k:Nat)(l:List UInt64)(b:Bool):Job (dZd m k l b) k b l 0:=by
 have h2r:(aZ3 m k l).r=cZ6 (aZM m k) k l:=Mn.add_r _ _;have e:(dZd m k l b).r=cZo (aZ3 m k l) b:=Mn.add_r _ _;refine⟨rfl,?_,?_,?_,?_⟩
 ·rw[e];show(aZ3 m k l).r.kk=_;rw[h2r];rfl
 ·rw[e];rfl
 ·rw[e];show(3:Int)≤3;omega
 ·rw[e];rfl
theorem Liv.step {N:Nat}{d d':D}{c c':Cn}{m:Mn}(h:Liv N d c m){r w:Nat}(hs:jZE m (d.size/8) r w):r≤2000∧w≤2000:=by
 have hp:=h.hh.per;have hk:=h.kk;have hm:=h.most;have hkm:=(Mn.r_wf h.hh).2.2;have h1:=hs.le (by omega) (by omega) (Nat.le_trans (hZa (by omega)) h.hh.least);have:=kZC hk;omega
theorem Liv.stepped {N:Nat}{d d':D}{c c':Cn}{m:Mn}(h:Liv N d c m){r w:Nat}(hs:jZE m (d.size/8) r w)(hw:bZN d d' r w 2)(hc:Clean d' c')(hh:Holds d.sec d.size (m.add (bZI m (d.size/8))) c'):Liv (N+2) d' c' (m.add (bZI m (d.size/8))):=by
 have:=Liv.step (d':=d') (c':=c') h hs;have h1:=h.len;have h2:=h.ld;refine h.went hw (by omega) hc hh rfl ?_ ?_
 ·show(m.L++[_]).length≤_;simp;omega
 ·rw[Mn.add_r];show m.r.ld≤_;omega
theorem tf4 :(tfL false 2 [1,2,3,4])[0]? =some 10:=by decide +kernel
def w4 :List UInt64:=[1,2,3,4]
theorem tZ9 :bZO false 2 4 8=fZ4 false 2:=by unfold bZO;rw[if_neg (by decide)]
theorem lZy (H0:Hp)(hT:T64 H0){p dp:Nat}:∀(t j:Nat) (H:Hp) (d:D) (c:Cn) (m:Mn) (pk:Int),j+t=5→Job m 2 false w4 j→Liv (10+2*j) d c m→m.arena=8→d.size=32→d.fuse=0→pk≤m.arena→
  Sep [En p dp (some (egM d m pk)),Dk dp d,own H0] H→aZs.l13 (Ret (.bool true) H0) (t+1) (some ⟨p,0,none⟩) (j:Int) H
 |0,j,H,d,c,m,pk,hj,hJ,hL,ha,hsz,hf,hpk,hs=>by
  have hsm:=hL.small (by omega);have e8:d.size/8=4:=by rw[hsz]
  have hpl:bZO false 2 4 m.arena=fZ4 false 2:=by rw[ha];exact tZ9
  have hst:stM m (d.size/8)=4:=by
   rw[hJ.st,e8,hpl,if_neg (by show ¬j<5;omega)]
  have hout:qZi m (d.size/8)=tfL false 2 w4:=by
   unfold qZi;rw[hJ.plan,hJ.inp];exact uZZ false 2 _ _ (by omega) w4 rfl
  have hlen:(tfL false 2 w4).length=4:=pZI _ _ _;unfold aZs.l13;refine Zl (by omega) ?_;refine(iZR (p:=p) (dp:=dp) hL.cl hL.hh hsm.2 hpk).use hs [0,1] rfl rfl ?_;rintro v M H (⟨h,_⟩|⟨_,hq⟩) hs
  ·exact absurd hst h
  rw[hout]at hq;rcases hq with⟨d',b,mm,pk',h1,h2,h3,rfl,rfl⟩|⟨d',h1,_⟩
  ·simp only[HV];refine ZY rfl ?_;rw[hlen];refine ZY rfl ⟨by decide,by decide,?_⟩
   try simp only[HV]
   have hg:(Zd (tfL false 2 w4))[0]? =some (.int .u64 10):=by
    rw[aZ7];have:(tfL false 2 w4)[0]? =some 10:=tf4;rw[this];rfl
   refine hs.ldr 2 rfl hg ?_
   try simp only[HV]
   exact hs.fin 3 rfl _
  ·exact(h1.calm hf).elim
 |t+1,j,H,d,c,m,pk,hj,hJ,hL,ha,hsz,hf,hpk,hs=>by
  have hsm:=hL.small (by omega);have e8:d.size/8=4:=by rw[hsz]
  have hpl:bZO false 2 4 m.arena=fZ4 false 2:=by rw[ha];exact tZ9
  have hst:stM m (d.size/8)=3:=by
   rw[hJ.st,e8,hpl,if_pos (by show j<5;omega)]
  unfold aZs.l13;refine Zv (by omega) ?_;refine(oZ5 (p:=p) (dp:=dp) (TT:=own H0) (fun H h=>hT.le h) hL.cl hL.hh hsm.1 hsm.2 hpk (by rw[hJ.kk];decide)).use hs [0,1,2] rfl rfl ?_;rintro v M H (⟨h,_⟩|⟨_,r,w,hC,⟨d',c',pk',hpk',hw,hc,hh,rfl,rfl⟩|⟨d',hcut,_⟩⟩) hs
  ·exact absurd hst h
  ·simp only[HV];rw[ZU (x:=(j:Int)+1) (by omega) (by omega)];have hL':=hL.stepped hC hw hc hh;refine lZy H0 hT (p:=p) (dp:=dp) t (j+1) H d' c' _ pk' (by omega) (hJ.next _) hL' ha (hw.size.trans hsz) (hw.calm hf) hpk' ?_;rw[eZD _ pk' hw.sec hw.size];exact hs
  ·exact(hcut.calm hf).elim
theorem wZv :bZH 13 (32/8) ((2:Nat):Int) ((8:Nat):Int)=0:=by decide +kernel
theorem tZO (H:Hp)(hT:T64 H):Zc prog 6 #[] H (RetE (.bool true) H):=by
 apply Zc.ret;apply aZs.ok;unfold aZs;have hs:=Sep.start H;refine(Dsk.dZn 13 32 (by omega) (by decide) (by omega)).use hs [] rfl rfl ?_;rintro _ _ H1 ⟨dp,rfl,rfl⟩ hs;simp only[HV];refine(mZg (dp:=dp)).use hs [] rfl rfl ?_;rintro _ _ H1 ⟨p,rfl,rfl⟩ hs;simp only[HV];refine aZq rfl (aZq rfl ?_);have hs:Sep [En p dp none,Dk dp (D.fresh 13 32),own H] H1:=hs;have hcl:=Clean.fresh (sec:=13) (size:=32) (by omega) (by decide) (by omega);refine(lZ7 (p:=p) (dp:=dp) (g:=none) hcl (by decide) ⟨Nat.zero_le _,Nat.zero_le _,Nat.zero_le _⟩ 2 8).use hs [0,1] rfl rfl ?_;rintro _ _ H1 (⟨h,_⟩|⟨kn,wn,e1,e2,_,⟨d,c,hw',hc,hh,rfl,rfl⟩|⟨d',hcut,_⟩⟩) hs
 ·exact absurd wZv h
 rotate_left
 ·exact(hcut.calm rfl).elim
 obtain rfl:kn=2:=by omega
 obtain rfl:wn=8:=by omega
 have r1:=hw'.rd;have r2:=hw'.wr;have r3:=hw'.sy;have hL:Liv 2 d c (bZA 2 8):=⟨hc,by rw[hw'.sec,hw'.size];exact hh,by decide,Nat.zero_le _,Nat.zero_le _,by rw[r1];show 0+0≤_;omega,by rw[r2];show 0+10≤_;omega,by rw[r3];show 0+3≤_;omega⟩;have hf:d.fuse=0:=hw'.calm rfl;have hsz:d.size=32:=hw'.size;simp only[HV];refine ZB rfl ?_;refine hs.nw fun b1 H1 hs=>?_
 have hs:Sep [En p dp (some (egM (D.fresh 13 32) (bZA 2 8) 0)),Dk dp d,own H,pts b1 (.row (Zd w4) 84 4)] H1:=hs;rw[← eZD (bZA 2 8) 0 hw'.sec hw'.size]at hs;have hR:∀ H,pts b1 (.row (Zd w4) 84 4) H→Cells H (some ⟨b1,0,none⟩) (Zd w4):=fun H h=>by
  have:=Cells.row h 0 4
  rwa [List.drop_zero,List.take_of_length_le (by decide)]at this
 have hsm:=hL.small (by omega);have hlg:lg ((w4.length:Nat):Int)=some 2:=iZd (k:=2) (by omega);have hcan:fZs w4:=by decide
 refine(oZ0 (p:=p) (dp:=dp) hL.cl hL.hh hsm.1 hsm.2 (by decide) (l:=w4) (A:=some ⟨b1,0,none⟩) (n:=4) (mm:=4) (RR:=pts b1 (.row (Zd w4) 84 4)) (TT:=own H) rfl (Nat.le_refl _) (by decide) hR (.inl fun H h=>hT.le h)).use hs [0,1,3,2] rfl rfl ?_;rintro _ _ H1 (⟨k',i,e,hchk,hne,_⟩|⟨k',hk',_,_,⟨d1,c1,pk1,hpk1,hw1,hc1,hh1,rfl,rfl⟩|⟨d1,hcut,_⟩⟩) hs
 ·cases hchk with
  |len h=>rw[h]at hlg;cases hlg
  |big h h2=>rw[h]at hlg;cases hlg;exact absurd h2 (by decide)
  |word h h2 h3=>exact absurd hcan h3
  |ok h h2 h3=>exact absurd rfl hne
 rotate_left
 ·exact(hcut.calm hf).elim
 obtain rfl:k'=2:=by rw[hlg]at hk';cases hk';rfl
 have hf1:d1.fuse=0:=hw1.calm hf;have h1r:(aZM (bZA 2 8) 2).r=cZp (bZA 2 8) 2:=Mn.add_r _ _;have h2r:(aZ3 (bZA 2 8) 2 w4).r=cZ6 (aZM (bZA 2 8) 2) 2 w4:=Mn.add_r _ _;have hld1:(aZ3 (bZA 2 8) 2 w4).r.ld=1:=by rw[h2r];show(aZM (bZA 2 8) 2).r.ld=_;rw[h1r];rfl
 have hcost:ldR (d.size/8) 2≤2000∧ldW (d.size/8) 2≤2000:=by
  have hb1:=lZA (d.size/8) 2;have hb2:=lZB (d.size/8) 2;have hb3:=jZI (per:=d.size/8) (w:=2^2) (by rw[hsz];decide) (by decide);unfold ldR ldW;omega
 have hL1:Liv 4 d1 c1 (aZ3 (bZA 2 8) 2 w4):=hL.went hw1 (by omega) hc1 hh1 rfl (by decide) (by omega);have hsm1:=hL1.small (by omega);simp only[HV];refine ZB rfl ?_;have hs:Sep [En p dp (some (egM d (aZ3 (bZA 2 8) 2 w4) pk1)),Dk dp d1,pts b1 (.row (Zd w4) 84 4),own H] H1:=hs;rw[← eZD (aZ3 (bZA 2 8) 2 w4) pk1 hw1.sec hw1.size]at hs;have hst:stM (aZ3 (bZA 2 8) 2 w4) (d1.size/8)=2:=by unfold stM;rw[if_pos (by rw[h2r];rfl)]
 refine(iZY (p:=p) (dp:=dp) hL1.cl hL1.hh hsm1.1 hsm1.2 hpk1 0).use hs [0,1] rfl rfl ?_;rintro _ _ H1 (⟨h,_⟩|⟨_,h,_⟩|⟨_,b',hb',⟨d2,c2,hw2,hc2,hh2,rfl,rfl⟩|⟨d2,hcut,_⟩⟩) hs
 ·exact absurd hst h
 ·exact absurd (.inl rfl) h
 rotate_left
 ·exact(hcut.calm hf1).elim
 obtain rfl:b'=false:=by cases b'<;>first|rfl|(exfalso;revert hb';decide)
 have h3r:(dZd (bZA 2 8) 2 w4 false).r=cZo (aZ3 (bZA 2 8) 2 w4) false:=Mn.add_r _ _;have hld2:(dZd (bZA 2 8) 2 w4 false).r.ld=1:=by rw[h3r];exact hld1
 have hL2:Liv 6 d2 c2 (dZd (bZA 2 8) 2 w4 false):=hL1.went hw2 (by omega) hc2 hh2 rfl (by decide) (by show(dZd (bZA 2 8) 2 w4 false).r.ld≤_;omega);simp only[HV];refine ZB rfl ?_;have hs:Sep [En p dp (some (egM d1 (dZd (bZA 2 8) 2 w4 false) pk1)),Dk dp d2,pts b1 (.row (Zd w4) 84 4),own H] H1:=hs
 try simp only[HS]
 refine(nZp (p:=dp) (d:=d2)).use hs [1] rfl rfl ?_;rintro _ _ H1 ⟨rfl,rfl⟩ hs
 try simp only[HV]
 have hok2:=hc2.ok;have hok3:Ok { d2 with down:=true,fuse:=0}:=⟨hok2.sec,hok2.size,hok2.big,hok2.per,hok2.safe,hok2.cache,Nat.zero_le _⟩;refine(lZE (p:=dp) hok3 (fun k hk=>hc2.dom k hk) rfl .none 0 0 [] rfl (own H) (fun _ _ i v hi=>by simp[eZA]at hi)).use hs [0,3] rfl rfl ?_;rintro _ _ H1 ⟨ks,hks,rfl,rfl⟩ hs;obtain⟨c3,ec3,hc3⟩:=(hc2.crash).boot hok3 hks [];rw[ec3]at hc3;have hL3:Liv 6 (D.boot { d2 with down:=true,fuse:=0} ks []) c2 (dZd (bZA 2 8) 2 w4 false):=⟨hc3,hL2.hh,hL2.most,hL2.len,hL2.ld,hL2.rd,hL2.wr,hL2.sy⟩;generalize hd3:D.boot { d2 with down:=true,fuse:=0} ks []=d3 at*;have hsec3:d3.sec=d1.sec:=by rw[← hd3];exact hw2.sec
 have hsize3:d3.size=d1.size:=by rw[← hd3];exact hw2.size
 have hf3:d3.fuse=0:=by rw[← hd3];rfl
 have hsm3:=hL3.small (by omega);simp only[HV];have hs:Sep [Dk dp d3,own H,En p dp (some (egM d1 (dZd (bZA 2 8) 2 w4 false) pk1)),pts b1 (.row (Zd w4) 84 4)] H1:=hs;refine(iZv (p:=p) (dp:=dp) (g:=some (egM d1 (dZd (bZA 2 8) 2 w4 false) pk1)) hL3.cl hL3.per hsm3.2 (o:=some (dZd (bZA 2 8) 2 w4 false)) hL3.hh).use hs [2,0] rfl rfl ?_;rintro _ _ H1 (⟨_,h,_⟩|⟨d4,m4,hm4,hw4,hc4,rfl,rfl⟩|⟨_,hcut,_⟩) hs
 ·cases h
 rotate_left
 ·exact(hcut.calm hf3).elim
 cases hm4;simp only[HV];refine ZB rfl ⟨6,?_⟩;have hL4:Liv 10 d4 c2 (dZd (bZA 2 8) 2 w4 false):=by
  have h:=hL3.went hw4 (by omega) hc4 hL3.hh rfl (by have:=hL3.len;omega) (by have:=hL3.ld;omega);have q1:=h.len;have q2:=h.ld;have q3:=h.rd;have q4:=h.wr;have q5:=h.sy;exact⟨h.cl,h.hh,h.most,by omega,by omega,by omega,by omega,by omega⟩
 refine lZy H hT (p:=p) (dp:=dp) 5 0 H1 d4 c2 _ 0 rfl (nZS _ _ _ _) hL4 rfl (hw4.size.trans (hsize3.trans (hw1.size.trans hsz))) (hw4.calm hf3) (by decide) ?_;rw[eZD _ 0 hw4.sec hw4.size];exact hs.re [0,1,2] rfl
end Eng
namespace W
open Go Go.Hw
theorem fZw :prog.follows .mixedOrders=true:=by kernel_rfl
def aZi.l4 (K:Value→Hp→Prop):Nat→Option Addr→Nat→Nat→Int→Hp→Prop
 |0,_,_,_,_,_=>False
 |k+1,A2,n2,m2,x1,H=>
  let R4:=aZi.l4 K k
  BIf (decide (x1<(n2:Int))) (ixI x1 n2 (NN A2 fun a1=>LeS H ((a1.add (x1.toNat*5)).add 3) fun A3 n3 m3=>BIf (decide ((n3:Int)>32)) (K (.int .i64 2) H) (ixI x1 n2 (NN A2 fun a2=>LeS H ((a2.add (x1.toNat*5)).add 4) fun A4 n4 m4=>BIf (decide ((n4:Int)>40)) (K (.int .i64 2) H) (R4 A2 n2 m2 (IntKind.i64.wrap (x1+1)) H))))) (K (.int .i64 0) H)
def aZi (A1:Option Addr)(n1:Nat)(m1:Nat)(H:Hp)(K:Value→Hp→Prop):Prop:=
 BIf (decide ((n1:Int)>40)) (K (.int .i64 1) H) ((∃ k,aZi.l4 K k A1 n1 m1 0 H))
def aZi.l4.L (K:Value→Hp→Prop)(k:Nat):Mid:=fun E D H=>
 DG (E.get? 0) fun w0=>DSl w0 fun A2 n2 m2=>eI E 3 .i64 fun x1=>Zt D (aZi.l4 K k A2 n2 m2 x1 H)
def aZi.Λ4 (_:Value→Hp→Prop)(_R4:Option Addr→Nat→Nat→Int→Hp→Prop):Zn:=Zn.none (fun _=>none)
def aZi.Λ (K:Value→Hp→Prop):Zn:=⟨fun i=>none,fun i=>match Nat.beq i 4 with|true=>some (fun E D H=>∃ k,aZi.l4.L K k E D H)|false=>none,(fun _=>none)⟩
theorem aZi.ok (A1:Option Addr)(n1:Nat)(m1:Nat)(H:Hp)(K:Value→Hp→Prop)(h:aZi A1 n1 m1 H K):Zc prog 8 #[.slice A1 n1 m1] H K:=
 Zq Tryz.func8 rfl (nbl rfl) (Zf (Λ:=(aZi.Λ K)) fZw _ _ _ _ _ (Eq.mp (by kernel_rfl) h) (Zb Za rfl (Zb (Zb Za rfl (Zj (Zb Za rfl Zy) Zk)) rfl (Zb (Zb Za rfl (Zu (aZc rfl (fun E D H h=>by
   refine Safe.loop' (aZi.l4.L K) (fun E D H h=>?_) (fun k E D H h=>?_) E D H h
   ·obtain⟨w0,e0,g1⟩:=DG.out h;obtain⟨A2,n2,m2,rfl,g2⟩:=DSl.out g1;obtain⟨w3,e3,g3⟩:=DG.out g2;obtain⟨x1,rfl,g4⟩:=DI.out g3;obtain⟨rfl,h'⟩:=Zt.out g4;exact h'
   ·obtain⟨w0,e0,g1⟩:=DG.out h;obtain⟨A2,n2,m2,rfl,g2⟩:=DSl.out g1;obtain⟨x1,e3,g4⟩:=GI g2;obtain⟨rfl,h'⟩:=Zt.out g4;exact(Zf (Λ:=(aZi.Λ4 K (aZi.l4 K k))) fZw _ _ [(0,.slice A2 n2 m2),(3,.int .i64 x1)] [] H (Eq.mp (by kernel_rfl) h') (Zb (Zb Za rfl (Zj Zk ZT)) rfl (Zb (Zu (Zb Za rfl (Zj (Zb Za rfl Zy) Zk))) rfl Za))).weaken (Ze.cons e0 (Ze.cons e3 (Ze.nil _))) (Hp.le_refl _))))) rfl (Zb Za rfl Zy)))))
def aZb.q1 (x4:Int)(p2:Option Addr)(H1:Hp)(K:Value→Hp→Prop)(p1:Option Addr)(b1:Nat):Prop:=
 BIf (x4==8) (HcI 16 #[.pointer p2] H1 fun x24 H15=>K (.tuple #[.int .i64 x24,.slice none 0 0]) H15) (BIf (x4==9) (NN p1 fun a1=>Hz 32 #[.pointer (some (a1.add 7))] H1 fun v49 H23=>LeS H23 ((⟨b1,0,none⟩:Addr).add 4) fun A5 n5 m5=>HcI 13 #[.pointer p1,.slice A5 n5 m5] H23 fun x32 H31=>K (.tuple #[.int .i64 x32,.slice none 0 0]) H31) (BIf (x4==10) (NN p1 fun a9=>LeI H1 ((⟨b1,0,none⟩:Addr).add 1) fun x40=>Hz 14 #[.pointer (some (a9.add 7)),.int .i64 x40] H1 fun v81 H39=>K (.tuple #[.int .i64 0,.slice none 0 0]) H39) (BIf (x4==11) (Hz 17 #[.pointer p2] H1 fun v89 H47=>dZF v89 fun A13 n13 m13 x48=>(K (.tuple #[.int .i64 x48,.slice A13 n13 m13]) H47)) (BIf (x4==12) (Hz 20 #[.pointer p2] H1 fun v113 H55=>dZF v113 fun A21 n21 m21 x56=>(K (.tuple #[.int .i64 x56,.slice A21 n21 m21]) H55)) (K (.tuple #[.int .i64 0,.slice none 0 0]) H1)))))
def aZb.q2.q1 (p2:Option Addr)(H1:Hp)(K:Value→Hp→Prop):Prop:=
 Hz 19 #[.pointer p2] H1 fun v17 H7=>sZR v17 fun c1 x16=>(K (.tuple #[.int .i64 x16,.slice none 0 0]) H7)
def aZb.q2 (x4:Int)(H1:Hp)(b1:Nat)(p2:Option Addr)(K:Value→Hp→Prop)(p1:Option Addr):Prop:=
 BIf (x4==3) (LeI H1 ((⟨b1,0,none⟩:Addr).add 1) fun x12=>HcI 28 #[.pointer p2,.int .i64 x12] H1 fun x14 H5=>K (.tuple #[.int .i64 x14,.slice none 0 0]) H5) (BIf (x4==4) (BIf (x4==4) (aZb.q2.q1 p2 H1 K) (aZb.q1 x4 p2 H1 K p1 b1)) (BIf (x4==5) (BIf (x4==5) (aZb.q2.q1 p2 H1 K) (aZb.q1 x4 p2 H1 K p1 b1)) (BIf (x4==6) (BIf (x4==6) (aZb.q2.q1 p2 H1 K) (aZb.q1 x4 p2 H1 K p1 b1)) (BIf (x4==7) (aZb.q2.q1 p2 H1 K) (aZb.q1 x4 p2 H1 K p1 b1)))))
def aZb.q3 (H1:Hp)(b1:Nat)(p2:Option Addr)(K:Value→Hp→Prop):Prop:=
 LeS H1 ((⟨b1,0,none⟩:Addr).add 3) fun A3 n3 m3=>Hz 27 #[.pointer p2,.slice A3 n3 m3] H1 fun v7 H3=>iZw v7 fun x8 x9=>(K (.tuple #[.int .i64 x9,.slice none 0 0]) H3)
def aZb (p1:Option Addr)(p2:Option Addr)(x1:Int)(x2:Int)(x3:Int)(A1:Option Addr)(n1:Nat)(m1:Nat)(A2:Option Addr)(n2:Nat)(m2:Nat)(H:Hp)(K:Value→Hp→Prop):Prop:=
 Nw H (.obj (.cells #[.int .i64 x1,.int .i64 x2,.int .i64 x3,.slice A1 n1 m1,.slice A2 n2 m2] 38)) fun b1 H1=>LeI H1 ((⟨b1,0,none⟩:Addr).add 0) fun x4=>BIf (x4==0) (LeI H1 ((⟨b1,0,none⟩:Addr).add 1) fun x5=>LeI H1 ((⟨b1,0,none⟩:Addr).add 2) fun x6=>HcI 25 #[.pointer p2,.int .i64 x5,.int .i64 x6] H1 fun x7 H2=>K (.tuple #[.int .i64 x7,.slice none 0 0]) H2) (BIf (x4==1) (BIf (x4==1) (aZb.q3 H1 b1 p2 K) (aZb.q2 x4 H1 b1 p2 K p1)) (BIf (x4==2) (aZb.q3 H1 b1 p2 K) (aZb.q2 x4 H1 b1 p2 K p1)))
theorem aZb.ok (p1:Option Addr)(p2:Option Addr)(x1:Int)(x2:Int)(x3:Int)(A1:Option Addr)(n1:Nat)(m1:Nat)(A2:Option Addr)(n2:Nat)(m2:Nat)(H:Hp)(K:Value→Hp→Prop)(h:aZb p1 p2 x1 x2 x3 A1 n1 m1 A2 n2 m2 H K):Zc prog 11 #[.pointer p1,.pointer p2,.agg #[.int .i64 x1,.int .i64 x2,.int .i64 x3,.slice A1 n1 m1,.slice A2 n2 m2]] H K:=
 Zq Tryz.func11 rfl (nbl rfl) (Zf (Λ:=Zn.none (fun i=>match Nat.beq i 22 with|true=>some ([],[0,1,2,3,4],5)|false=>none)) fZw _ _ _ _ _ (Eq.mp (by kernel_rfl) h) (Zs _ _ _ _ _))
end W
namespace Eng
open Go Go.Hw Go.Form W Shp Dsk Str Are Trn Pas Pln Rec Srt Rng
structure hZZ where
 k:Int
 n:Int
 m:Int
 A:Option Addr
 nA:Nat
 mA:Nat
 l:List UInt64
 G:Option Addr
 nG:Nat
 mG:Nat
 ks:List Bool
def cZS (a:hZZ):List Value:=[.int .i64 a.k,.int .i64 a.n,.int .i64 a.m,.slice a.A a.nA a.mA,.slice a.G a.nG a.mG]
structure OkE (H:Hp)(a:hZZ):Prop where
 nA:a.nA=a.l.length
 mA:a.nA≤a.mA
 l:Cells H a.A (Zd a.l)
 nG:a.nG=a.ks.length
 ks:Cells H a.G (eZA a.ks)
 n: -9223372036854775808≤a.n∧a.n≤9223372036854775807
 m: -9223372036854775808≤a.m∧a.m≤9223372036854775807
theorem OkE.le {H H':Hp}{a:hZZ}(h:OkE H a)(k:H.le H'):OkE H' a:=⟨h.nA,h.mA,h.l.le k,h.nG,h.ks.le k,h.n,h.m⟩
section
open Go.RowKit Go.ChangeShapes Go.WideShapes Go.ChangeAt
variable {H : Type} {enc : TypeId × Value → H} {W : World}
theorem eacts_of {A:Option Addr}{n:Nat}{rows:List (List Value)}(hl:rows.length=n)
  (h:∀(i:Nat) (r:List Value),rows[i]? =some r→∃ a,A=some a∧(∀ j v,r[j]? =some v→(Full W).cell? (a.add (i*prog.cellsOf 38+j))=some v)∧r.length=prog.cellsOf 38∧
   ∃ f d' p',DataW.trod enc prog W 0 (fun _=>true) true f 38 r=some (d',p')):∃ l:List hZZ,l.length=n∧cZW 5 (Full W) A (l.map cZS)∧∀ a∈l,OkE (Full W) a:=by
 have hc:prog.cellsOf 38=5:=by kernel_rfl
 refine uZ5 hl fun i r hi=>?_
 obtain⟨a,ha,h1,h2,f,d',p',h3⟩:=h i r hi;rw[hc]at h1 h2;refine⟨a,ha,h1,?_⟩;obtain⟨_,f',h4⟩:=vZk Tryz.underlying38 h3;obtain⟨x,hx,wx⟩:=jZu (o:=0) Tryz.underlying3 (by kernel_rfl) (h4 0 _ rfl);obtain⟨y,hy,wy⟩:=jZu (o:=1) Tryz.underlying3 (by kernel_rfl) (h4 1 _ rfl);obtain⟨z,hz,wz⟩:=jZu (o:=2) Tryz.underlying3 (by kernel_rfl) (h4 2 _ rfl);obtain⟨B,nB,mB,_,_,hB,tB⟩:=oZv (o:=3) Tryz.underlying22 (by kernel_rfl) (h4 3 _ rfl);obtain⟨G,nG,mG,_,_,hG,tG⟩:=oZv (o:=4) Tryz.underlying36 (by kernel_rfl) (h4 4 _ rfl);obtain⟨_,_,_,e1,lB,mmB,bs,hbl,hbc⟩:=trod_words Tryz.underlying22 Tryz.underlying84 (by kernel_rfl) tB;obtain⟨rfl,rfl,rfl⟩:B=_∧nB=_∧mB=_:=by simpa using e1
 obtain⟨_,_,_,e2,_,_,gs,hgl,hgc⟩:=qZD Tryz.underlying36 Tryz.underlying4 (by kernel_rfl) tG;obtain⟨rfl,rfl,rfl⟩:G=_∧nG=_∧mG=_:=by simpa using e2
 refine⟨⟨x,y,z,B,nB,mB,bs,G,nG,mG,gs⟩,?_,⟨hbl.symm,by first|exact lB|exact mmB,hbc,hgl.symm,hgc,wf_int wy,wf_int wz⟩⟩;exact kZH.out ⟨hx,hy,hz,hB,hG,trivial⟩ h2
end
def lZr (a:hZZ):Prop:=a.nA≤32∧a.nG≤40
theorem nZq (A:Option Addr)(n m:Nat)(l:List hZZ)(hl:l.length=n)(hn:n≤1000000)(H:Hp)(hc:cZW 5 H A (l.map cZS)):
  ∀(t j:Nat),j+t=n→(∀ q (hq:q<j) (h:q<l.length),lZr l[q])→aZi.l4 (fun v H'=>H'=H∧∃ x:Int,v= .int .i64 x∧(x=0→∀ a∈l,lZr a)) (t+1) A n m (j:Int) H
 |0,j,h,hall=>by
  unfold aZi.l4;refine Zl (by omega) ⟨rfl,0,rfl,fun _ a ha=>?_⟩;obtain⟨q,hq,rfl⟩:=List.getElem_of_mem ha;exact hall q (by omega) hq
 |t+1,j,h,hall=>by
  unfold aZi.l4;refine Zv (by omega) ?_;have hg:l[j]? =some (l[j]'(by omega)):=List.getElem?_eq_getElem (by omega);have hrow:(l.map cZS)[j]? =some (cZS (l[j]'(by omega))):=by rw[List.getElem?_map,hg];rfl
  refine cZW.rd hc hrow rfl (by rw[List.length_map];omega) (j:=3) rfl ?_;simp only[HV];by_cases h1:(((l[j]'(by omega)).nA:Nat):Int)>32
  ·exact Zv h1 ⟨by first|trivial|rfl,2,rfl,fun e=>by omega⟩
  refine Zl h1 ?_;refine cZW.rd hc hrow rfl (by rw[List.length_map];omega) (j:=4) rfl ?_;simp only[HV];by_cases h2:(((l[j]'(by omega)).nG:Nat):Int)>40
  ·exact Zv h2 ⟨by first|trivial|rfl,2,rfl,fun e=>by omega⟩
  refine Zl h2 ?_;rw[ZU (x:=(j:Int)+1) (by omega) (by omega)];refine nZq A n m l hl hn H hc t (j+1) (by omega) fun q hq hql=>?_
  by_cases e:q=j
  ·subst e;exact⟨by omega,by omega⟩
  ·exact hall q (by omega) hql
theorem vZB (A:Option Addr)(n m:Nat)(l:List hZZ)(hl:l.length=n)(H:Hp)(hc:cZW 5 H A (l.map cZS)):
  Zc prog 8 #[.slice A n m] H fun v H'=>H'=H∧∃ x:Int,v= .int .i64 x∧(x=0→n≤40∧∀ a∈l,lZr a):=by
 by_cases hn:n>40
 ·apply aZi.ok;unfold aZi;exact Zv (by omega) ⟨rfl,1,rfl,fun h=>by omega⟩
 ·have:Zc prog 8 #[.slice A n m] H fun v H'=>H'=H∧∃ x:Int,v= .int .i64 x∧(x=0→∀ a∈l,lZr a):=by
   apply aZi.ok;unfold aZi;refine Zl (by omega) ⟨n+1,?_⟩;exact nZq A n m l hl (by omega) H hc n 0 (by omega) fun q hq=>absurd hq (by omega)
  refine this.mono ?_;rintro v H' ⟨rfl,c,rfl,h⟩;exact⟨rfl,c,rfl,fun hc=>⟨by omega,h hc⟩⟩
structure cZY (m0 m:Mn):Prop where
 most:m.most=m0.most
 arena:m.arena=m0.arena
 inp:m.inp=m0.inp
 kd:2≤m.r.kd
theorem cZY.sub {m0 m:Mn}(h:cZY m0 m)(b:Bool):cZY m0 (m.add (cZo m b)):=⟨h.most,h.arena,h.inp,by rw[Mn.add_r];show(2:Int)≤3;omega⟩
theorem cZY.pass {m0 m:Mn}(h:cZY m0 m)(per:Nat):cZY m0 (m.add (bZI m per)):=⟨h.most,h.arena,h.inp,by rw[Mn.add_r];show(2:Int)≤4;omega⟩
def tZe (p dp N sc sz:Nat)(P:Mn→Prop)(M:List As):Prop:=∃ d c m pk,Liv N d c m∧d.sec=sc∧d.size=sz∧P m∧pk≤(m.arena:Int)∧M=[En p dp (some (egM d m pk)),Dk dp d]
def sZ4 (p dp N sc sz:Nat)(P:Mn→Prop)(M:List As):Prop:=∃ d,Dea N sc sz d P∧M=[En p dp none,Dk dp d]
theorem Liv.up {N N':Nat}{d:D}{c:Cn}{m:Mn}(h:Liv N d c m)(hN:N≤N'):Liv N' d c m:=by
 have q1:=h.len;have q2:=h.ld;have q3:=h.rd;have q4:=h.wr;have q5:=h.sy;exact⟨h.cl,h.hh,h.most,by omega,by omega,by omega,by omega,by omega⟩
theorem Liv.fused {N:Nat}{d:D}{c:Cn}{m:Mn}(h:Liv N d c m)(n:Nat)(hn:n≤9223372036854775807):Liv N { d with fuse:=n} c m:=⟨h.cl.fused n hn,h.hh,h.most,h.len,h.ld,h.rd,h.wr,h.sy⟩
theorem Clean.again {d:D}{c:Cn}(hc:Clean d c):Ok { d with down:=true,fuse:=0}∧Dom { d with down:=true,fuse:=0}∧∀ ks,KeysOf (bZs d.cache) ks→∀ keep,Clean (D.boot { d with down:=true,fuse:=0} ks keep) c:=by
 have hok:=hc.ok;have hok3:Ok { d with down:=true,fuse:=0}:=⟨hok.sec,hok.size,hok.big,hok.per,hok.safe,hok.cache,Nat.zero_le _⟩;refine⟨hok3,fun k hk=>hc.dom k hk,fun ks hks keep=>?_⟩;obtain⟨c3,ec3,hc3⟩:=(hc.crash).boot hok3 hks keep;rw[ec3]at hc3;exact hc3
theorem Liv.again {N:Nat}{d:D}{c:Cn}{m:Mn}(h:Liv N d c m){ks:List Int}(hks:KeysOf (bZs d.cache) ks)(keep:List Bool):Liv N (D.boot { d with down:=true,fuse:=0} ks keep) c m:=
 ⟨(h.cl.again).2.2 ks hks keep,h.hh,h.most,h.len,h.ld,h.rd,h.wr,h.sy⟩
theorem Dea.boot {N sc sz:Nat}{d:D}{P:Mn→Prop}(h:Dea N sc sz d P){ks:List Int}(hks:KeysOf (bZs d.cache) ks)(keep:List Bool):∃ c m,P m∧Liv N (D.boot d ks keep) c m∧(D.boot d ks keep).sec=sc∧(D.boot d ks keep).size=sz:=by
 obtain⟨c,⟨m,hP,h1,h2,h3,h4⟩,hc⟩:=h.left.boot h.ok hks keep;refine⟨c,m,hP,⟨hc,?_,h1,h2,h3,h.rd,h.wr,h.sy⟩,h.sec,h.size⟩;have e1:(D.boot d ks keep).sec=sc:=h.sec;have e2:(D.boot d ks keep).size=sz:=h.size;rw[e1,e2];exact h4
set_option maxHeartbeats 4000000 in
theorem uZo {p dp:Nat}{N:Nat}{d:D}{c:Cn}{m m0:Mn}{pk:Int}{a:hZZ}{H0:Hp}(hT:T64 H0)(hL:Liv N d c m)(hN:N≤390)(hP:cZY m0 m)(hpk:pk≤m.arena)(hk:2<a.k)(ha:OkE H0 a):
  Tr prog 11 #[.pointer (some ⟨dp,0,none⟩),.pointer (some ⟨p,0,none⟩),.agg (cZS a).toArray] [En p dp (some (egM d m pk)),Dk dp d,own H0] fun v M=>∃(e:Int) (B:Option Addr) (n mm:Nat) (M':List As),v= .tuple #[.int .i64 e,.slice B n mm]∧(tZe p dp (N+2) d.sec d.size (cZY m0) M'∨(a.k≠10∧sZ4 p dp (N+2) d.sec d.size (cZY m0) M'))∧M=M'++[own H0]:=fun H hs=>by
 have hsm:=hL.small (by omega);have hkk:m.r.kk≤14:=by have:=(Mn.r_wf hL.hh).2.2;have:=hL.most;omega
 have hlen:=hL.len;have hld:=hL.ld;have hmost:=hL.most;obtain⟨x1,x2,x3,A,nA,mA,l,G,nG,mG,ks⟩:=a;have hk:2<x1:=hk;have hks:Cells H0 G (eZA ks):=ha.ks;have hnG:nG=ks.length:=ha.nG;have hx2: -9223372036854775808≤x2∧x2≤9223372036854775807:=ha.n;have live:∀(e:Int) (B:Option Addr) (n mm:Nat) (d':D) (c':Cn) (m':Mn) (pk':Int) (H:Hp),Liv (N+2) d' c' m'→d'.sec=d.sec→d'.size=d.size→cZY m0 m'→pk'≤(m'.arena:Int)→Sep [En p dp (some (egM d m' pk')),Dk dp d',own H0] H→
   ∃ M,(∃(e':Int) (B':Option Addr) (n' mm':Nat) (M':List As),(Value.tuple #[.int .i64 e,.slice B n mm])= .tuple #[.int .i64 e',.slice B' n' mm']∧(tZe p dp (N+2) d.sec d.size (cZY m0) M'∨(x1≠10∧sZ4 p dp (N+2) d.sec d.size (cZY m0) M'))∧M=M'++[own H0])∧Sep M H:=fun e B n mm d' c' m' pk' H h1 h2 h3 h4 h5 hs=>
  ⟨_,⟨e,B,n,mm,_,rfl,.inl ⟨d',c',m',pk',h1,h2,h3,h4,h5,rfl⟩,rfl⟩,by rw[eZD m' pk' h2 h3];exact hs⟩
 have dead:∀(e:Int) (B:Option Addr) (n mm:Nat) (d':D) (H:Hp),x1≠10→Dea (N+2) d.sec d.size d' (cZY m0)→Sep [En p dp none,Dk dp d',own H0] H→
   ∃ M,(∃(e':Int) (B':Option Addr) (n' mm':Nat) (M':List As),(Value.tuple #[.int .i64 e,.slice B n mm])= .tuple #[.int .i64 e',.slice B' n' mm']∧(tZe p dp (N+2) d.sec d.size (cZY m0) M'∨(x1≠10∧sZ4 p dp (N+2) d.sec d.size (cZY m0) M'))∧M=M'++[own H0])∧Sep M H:=fun e B n mm d' H h0 h1 hs=>
  ⟨_,⟨e,B,n,mm,_,rfl,.inr ⟨h0,d',h1,rfl⟩,rfl⟩,hs⟩
 have two:∀(d':D) (n:Nat) (m':Mn),n≤3000→Cut d d' n→cZY m0 m'→m'.most=m.most→m'.L.length≤N+2→m'.r.ld≤N+2→Left d' (fun c'=>Holds d.sec d.size m c'∨Holds d.sec d.size m' c')→Dea (N+2) d.sec d.size d' (cZY m0):=fun d' n m' h1 h2 h3 h4 h5 h6 h7=>
  hL.cut h2 h1 (h7.mono fun c' h=>by
   rcases h with h|h
   ·exact⟨m,hP,hmost,by omega,by omega,h⟩
   ·exact⟨m',h3,by omega,h5,h6,h⟩)
 have one:∀(d':D) (n:Nat),n≤3000→Cut d d' n→Left d' (fun c'=>c'=c)→Dea (N+2) d.sec d.size d' (cZY m0):=fun d' n h1 h2 h7=>
  hL.cut h2 h1 (h7.mono fun c' h=>⟨m,hP,hmost,by omega,by omega,by rw[h];exact hL.hh⟩)
 have hrdc:∀ i,rdC m (d.size/8) i≤128:=fun i=>by
  have h1:=rZ0 (m:=m) (i:=i) (show 1≤d.size/8 by have:=hL.hh.per;omega);have h2:=kZC hL.kk;omega
 apply aZb.ok;unfold aZb aZb.q3 aZb.q2 aZb.q2.q1 aZb.q1;refine hs.nw fun b1 H hs=>?_
 try simp only[HS]
 refine hs.ld 3 (v:=.int .i64 x1) rfl rfl ?_;simp only[HV];by_cases e3:x1=3
 ·subst e3
  repeat first|refine ZY rfl ?_|refine aZd (by decide) ?_
  try simp only[HS]
  refine hs.ld 3 (v:=.int .i64 x2) rfl rfl ?_;simp only[HV];refine(iZY (p:=p) (dp:=dp) hL.cl hL.hh hsm.1 hsm.2 hpk x2).use hs [0,1] rfl rfl ?_;rintro _ _ H (⟨_,_,rfl,rfl⟩|⟨_,_,rfl,rfl⟩|⟨_,b,_,⟨d',c',hw,hc,hh,rfl,rfl⟩|⟨d',hcut,hleft,rfl,rfl⟩⟩) hs
  ·simp only[HV];exact live _ _ _ _ d c m pk H (hL.up (by omega)) rfl rfl hP hpk (hs.re [0,1,2] rfl)
  ·simp only[HV];exact live _ _ _ _ d c m pk H (hL.up (by omega)) rfl rfl hP hpk (hs.re [0,1,2] rfl)
  ·simp only[HV];refine live _ _ _ _ d' c' (m.add (cZo m b)) pk H (hL.went hw (by omega) hc hh rfl ?_ ?_) hw.sec hw.size (hP.sub b) hpk (hs.re [0,1,2] rfl)
   ·show(m.L++[_]).length≤_;simp;omega
   ·rw[Mn.add_r];show m.r.ld≤_;omega
  ·simp only[HV];refine dead _ _ _ _ d' H (by decide) (two d' _ (m.add (cZo m b)) (by omega) hcut (hP.sub b) rfl ?_ ?_ hleft) (hs.re [0,1,2] rfl)
   ·show(m.L++[_]).length≤_;simp;omega
   ·rw[Mn.add_r];show m.r.ld≤_;omega
 by_cases e4:x1=4∨x1=5∨x1=6∨x1=7
 ·rcases e4 with e|e|e|e<;>subst e<;>(repeat first|refine ZY rfl ?_|refine aZd (by decide) ?_)
  all_goals
   refine(oZ5 (p:=p) (dp:=dp) (TT:=own H0) (fun H h=>hT.le h) hL.cl hL.hh hsm.1 hsm.2 hpk hkk).use hs [0,1,2] rfl rfl ?_;rintro _ _ H (⟨_,rfl,rfl⟩|⟨_,r,w,hC,⟨d',c',pk',hpk',hw,hc,hh,rfl,rfl⟩|⟨d',hcut,hleft,rfl,rfl⟩⟩) hs
   ·simp only[HV];exact live _ _ _ _ d c m pk H (hL.up (by omega)) rfl rfl hP hpk (hs.re [0,1,2] rfl)
   ·simp only[HV];exact live _ _ _ _ d' c' _ pk' H (hL.stepped hC hw hc hh) hw.sec hw.size (hP.pass _) hpk' (hs.re [0,1,2] rfl)
   ·simp only[HV];have hst:=Liv.step (d':=d') (c':=c) hL hC;have hkl:r≤2000∧w≤900:=by
     have h1:=hC.le (by have:=hL.hh.per;omega) (by have:=hL.kk;omega) (Nat.le_trans (hZa (by have:=(Mn.r_wf hL.hh).2.2;omega)) hL.hh.least);have h2:=kZC hL.kk;omega
    refine dead _ _ _ _ d' H (by decide) (two d' _ (m.add (bZI m (d.size/8))) (by omega) hcut (hP.pass _) rfl ?_ ?_ hleft) (hs.re [0,1,2] rfl)
    ·show(m.L++[_]).length≤_;simp;omega
    ·rw[Mn.add_r];show m.r.ld≤_;omega
 by_cases e8:x1=8
 ·subst e8
  repeat first|refine ZY rfl ?_|refine aZd (by decide) ?_
  refine(iZv (p:=p) (dp:=dp) (g:=some (egM d m pk)) hL.cl hL.per hsm.2 (o:=some m) hL.hh).use hs [0,1] rfl rfl ?_;rintro _ _ H (⟨_,h,_⟩|⟨d',m4,hm4,hw,hc,rfl,rfl⟩|⟨d',hcut,_,hleft,rfl,rfl⟩) hs
  ·cases h
  ·cases hm4;simp only[HV];exact live _ _ _ _ d' c m 0 H (hL.went hw (by omega) hc hL.hh rfl (by omega) (by omega)) hw.sec hw.size hP (by omega) (hs.re [0,1,2] rfl)
  ·simp only[HV];exact dead _ _ _ _ d' H (by decide) (one d' _ (by omega) hcut hleft) (hs.re [0,1,2] rfl)
 by_cases e9:x1=9
 ·subst e9
  repeat first|refine ZY rfl ?_|refine aZd (by decide) ?_
  try simp only[HS]
  refine(nZp (p:=dp) (d:=d)).use hs [1] rfl rfl ?_;rintro _ _ H ⟨rfl,rfl⟩ hs
  try simp only[HV]
  try simp only[HS]
  refine hs.ld 3 (v:=.slice G nG mG) rfl rfl ?_;simp only[HV];obtain⟨hok3,hdom3,_⟩:=hL.cl.again;refine(lZE (p:=dp) hok3 hdom3 rfl G nG mG ks hnG (own H0) (fun H h=>hks.le h)).use hs [0,2] rfl rfl ?_;rintro _ _ H ⟨kk,hkk',rfl,rfl⟩ hs;simp only[HV];exact live _ _ _ _ _ c m pk H ((hL.again hkk' ks).up (by omega)) rfl rfl hP hpk (hs.re [2,0,1] rfl)
 by_cases e10:x1=10
 ·subst e10
  repeat first|refine ZY rfl ?_|refine aZd (by decide) ?_
  try simp only[HS]
  refine hs.ld 3 (v:=.int .i64 x2) rfl rfl ?_;simp only[HV];refine(oZY (p:=dp) (d:=d) x2).use hs [1] rfl rfl ?_;rintro _ _ H ⟨rfl,rfl⟩ hs
  try simp only[HV]
  exact live _ _ _ _ _ c m pk H ((hL.fused x2.toNat (by omega)).up (by omega)) rfl rfl hP hpk (hs.re [1,0,2] rfl)
 by_cases e11:x1=11
 ·subst e11
  repeat first|refine ZY rfl ?_|refine aZd (by decide) ?_
  refine(iZV (p:=p) (dp:=dp) hL.cl hL.hh hsm.2 hpk).use hs [0,1] rfl rfl ?_;rintro _ _ H (⟨_,rfl,rfl⟩|⟨_,⟨d',b,mm,pk',h1,hw,hc,rfl,rfl⟩|⟨d',hcut,hleft,rfl,rfl⟩⟩) hs
  ·simp only[HV];exact live _ _ _ _ d c m pk H (hL.up (by omega)) rfl rfl hP hpk (hs.re [0,1,2] rfl)
  ·simp only[HV];exact live _ _ _ _ d' c m pk' H (hL.went hw (by have:=hrdc 0;omega) hc hL.hh rfl (by omega) (by omega)) hw.sec hw.size hP h1 (hs.re [0,1,3] rfl)
  ·simp only[HV];exact dead _ _ _ _ d' H (by decide) (one d' _ (by have:=hrdc 0;omega) hcut hleft) (hs.re [0,1,2] rfl)
 by_cases e12:x1=12
 ·subst e12
  repeat first|refine ZY rfl ?_|refine aZd (by decide) ?_
  refine(iZR (p:=p) (dp:=dp) hL.cl hL.hh hsm.2 hpk).use hs [0,1] rfl rfl ?_;rintro _ _ H (⟨_,rfl,rfl⟩|⟨_,⟨d',b,mm,pk',h1,hw,hc,rfl,rfl⟩|⟨d',hcut,hleft,rfl,rfl⟩⟩) hs
  ·simp only[HV];exact live _ _ _ _ d c m pk H (hL.up (by omega)) rfl rfl hP hpk (hs.re [0,1,2] rfl)
  ·simp only[HV];exact live _ _ _ _ d' c m pk' H (hL.went hw (by have:=hrdc 3;omega) hc hL.hh rfl (by omega) (by omega)) hw.sec hw.size hP h1 (hs.re [0,1,3] rfl)
  ·simp only[HV];exact dead _ _ _ _ d' H (by decide) (one d' _ (by have:=hrdc 3;omega) hcut hleft) (hs.re [0,1,2] rfl)
 repeat refine aZd (by omega) ?_
 exact live _ _ _ _ d c m pk H (hL.up (by omega)) rfl rfl hP hpk (hs.re [0,1,2] rfl)
end Eng
end Go.Proofs.YtahjgjaenegpgaaGreatDoor
