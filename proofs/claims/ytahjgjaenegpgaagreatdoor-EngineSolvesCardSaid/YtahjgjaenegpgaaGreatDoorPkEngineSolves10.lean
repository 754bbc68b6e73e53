import Derived.Test.YtahjgjaenegpgaaGreatDoorProg
import Derived.Test.YtahjgjaenegpgaaGreatDoorPkEngineSolves9
set_option maxRecDepth 100000
set_option linter.unusedSimpArgs false
set_option linter.unusedVariables false
set_option linter.unnecessarySimpa false
set_option linter.unusedSectionVars false
namespace Go.Proofs.YtahjgjaenegpgaaGreatDoor
open Tryz (prog)
namespace Eng
open Go Go.Hw Go.Form W Shp Dsk Str Are Trn Pas Pln Rec Srt Rng
theorem uZ1 (b:Bool)(K:Value→Prop)(k:K (.bool b)):DR prog [4] (.bool b) K:=by
 show DT prog 4 (.bool b) K
 unfold DT;rw[show prog.underlying 4=some .bool by kernel_rfl];exact k
theorem eZy (x:Int)(K:Value→Prop)(k:K (.int .i64 x)):DR prog [53] (.int .i64 x) K:=by
 show DT prog 53 (.int .i64 x) K
 unfold DT;rw[show prog.underlying 53=some (.int .i64) by kernel_rfl];exact k
theorem oZt {p:Prop}[Decidable p]{X Y:Prop}(h1:p→Y)(h2:¬p→X):BIf (!decide p) X Y:=by
 by_cases h:p
 ·rw[decide_eq_true h];exact aZu rfl (h1 h)
 ·rw[decide_eq_false h];exact aZN rfl (h2 h)
def iZd (l:List UInt64):Prop:=∀ x∈l,x.toNat<18446744069414584321
instance (l :List UInt64):Decidable (iZd l):=by unfold iZd;infer_instance
theorem kZ2 (H:Hp)(A:Option Addr)(n m:Nat)(xs:List UInt64)(hn:n=xs.length)(hl:n≤1000000000)(hc:Cells H A (Zd xs)):
  ∀(t j:Nat),j+t=n→(∀ k x,k<j→xs[k]? =some x→x.toNat<18446744069414584321)→
   ZH.l2 (fun v H'=>(∃ i:Int,v= .int .i64 i∧(i<0↔iZd xs))∧H'=H) (t+1) A n m 143 #[] #[] (n:Int) (j:Int) H
 |0,j,hj,hall=>by
  unfold ZH.l2;refine Zm (by omega) ⟨⟨-1,rfl,fun _ x hx=>?_,fun _=>by decide⟩,rfl⟩;obtain⟨k,hk,rfl⟩:=List.getElem_of_mem hx;exact hall k _ (by omega) (List.getElem?_eq_getElem hk)
 |t+1,j,hj,hall=>by
  unfold ZH.l2;refine Zw (by omega) ?_;have hg:xs[j]? =some (xs[j]'(by omega)):=List.getElem?_eq_getElem (by omega);have hg2:(Zd xs)[j]? =some (.int .u64 ((xs[j]'(by omega)).toNat:Int)):=by rw[aZ8,hg];rfl
  refine hc.read hg2 rfl (by rw[ZA];omega) ?_;simp only[HV];refine aZN (by kernel_rfl) ?_;have hv:Zc prog 143 #[.int .u64 ((xs[j]'(by omega)).toNat:Int)] H (RetE (.bool (!(decide (((xs[j]'(by omega)).toNat:Int)<18446744069414584321)))) H):=by
   apply eZK.ok;unfold eZK;have hg:Zc prog 144 #[.int .u64 ((xs[j]'(by omega)).toNat:Int)] H (RetE (.bool (decide (((xs[j]'(by omega)).toNat:Int)<18446744069414584321))) H):=by
    apply gZJ.ok;unfold gZJ;exact RetE.mk _ _
   refine Zc.use hg ?_;simp only[HV];exact RetE.mk _ _
  refine Zc.use hv ?_;have hr:bZC prog 143=[4]:=by kernel_rfl
  rw[hr];refine uZ1 _ _ ?_;simp only[HV];generalize hz:((xs[j]'(by omega)).toNat:Int)=z at*;refine oZt (fun hx=>?_) (fun hx=>?_)
  ·rw[ZV (x:=(j:Int)+1) (by omega) (by omega)];refine kZ2 H A n m xs hn hl hc t (j+1) (by omega) fun k x hk hkx=>?_
   by_cases e:k=j
   ·subst e;rw[hg]at hkx;have:=Option.some.inj hkx;rw[this]at hz;omega
   ·exact hall k x (by omega) hkx
  ·refine⟨⟨j,rfl,fun h=>by omega,fun h=>?_⟩,by trivial⟩;have:=h _ (List.getElem_mem (show j<xs.length by omega));omega
theorem rZc (A:Option Addr)(n m:Nat)(xs:List UInt64)(hn:n=xs.length)(hl:n≤1000000000)(H:Hp)(hc:Cells H A (Zd xs)):
  Zc prog 96 #[.slice A n m] H fun v H'=>(∃ i:Int,v= .tuple #[.int .i64 i,.bool (decide (iZd xs))])∧H'=H:=by
 apply fZp.ok;unfold fZp;have hI:Zc prog 142 #[.slice A n m,.func (.func 143) #[] #[]] H (fun v H'=>(∃ i:Int,v= .int .i64 i∧(i<0↔iZd xs))∧H'=H):=by
  apply ZH.ok;unfold ZH;exact⟨n+1,kZ2 H A n m xs hn hl hc n 0 (by omega) fun k x hk=>absurd hk (by omega)⟩
 refine Zc.mono hI ?_;rintro _ _ ⟨⟨i,rfl,hi⟩,rfl⟩;simp only[HV];by_cases h:i<0
 ·rw[decide_eq_true h,decide_eq_true (hi.1 h)];exact⟨⟨_,rfl⟩,by trivial⟩
 ·rw[decide_eq_false h,decide_eq_false (fun hh=>h (hi.2 hh))];exact⟨⟨_,rfl⟩,by trivial⟩
inductive hZX (l:List UInt64)(most:Int):Int→Int→Int→Prop
 |len (h:lg (l.length:Int)=none):hZX l most 0 0 4
 |big {k:Nat} (h:lg (l.length:Int)=some k) (h2:most<k):hZX l most 0 0 14
 |word {k:Nat} {i:Int} (h:lg (l.length:Int)=some k) (h2:(k:Int)≤most) (h3:¬iZd l):hZX l most 0 i 3
 |ok {k:Nat} (h:lg (l.length:Int)=some k) (h2:(k:Int)≤most) (h3:iZd l):hZX l most k 0 0
theorem rZo (A:Option Addr)(n m:Nat)(xs:List UInt64)(most:Int)(hn:n=xs.length)(hl:n≤1000000000)(H:Hp)(hT:T64 H)(hc:Cells H A (Zd xs)):
  Zc prog 59 #[.slice A n m,.int .i64 most] H fun v H'=>(∃ k i e,hZX xs most k i e∧v= .tuple #[.int .i64 k,.int .i64 i,.int .i64 e])∧H'=H:=by
 apply fZ1.ok;unfold fZ1;refine Zc.use (iZn (n:Int) H hT) ?_;unfold bZN;rw[hn];cases e:lg (xs.length:Int)with
 |none=>
  simp only[HV];exact⟨⟨_,_,_,.len e,rfl⟩,by trivial⟩
 |some k=>
  simp only[HV];by_cases h2:(k:Int)>most
  ·exact Zw h2 ⟨⟨_,_,_,.big e h2,rfl⟩,by trivial⟩
  ·refine Zm h2 ?_;refine Zc.mono (rZc A xs.length m xs rfl (by omega) H hc) ?_;rintro _ _ ⟨⟨i,rfl⟩,rfl⟩;simp only[HV];refine oZt (fun hx=>?_) (fun hx=>?_)
   ·exact⟨⟨_,_,_,.ok e (by omega) hx,rfl⟩,by trivial⟩
   ·exact⟨⟨_,_,_,.word e (by omega) hx,rfl⟩,by trivial⟩
def wiR (per k:Nat):Nat:=dZx per 9 (2^k) 0 (2^k)
def wiW (per k:Nat):Nat:=(pcs per 9 (2^k) 0 (2^k)).length
theorem lZT (per k:Nat):wiR per k≤wiW per k:=List.length_filter_le _ _
theorem lZU (per k:Nat):wiW per k≤2^k:=dZo per 9 (2^k) 0 (2^k)
def oZY (mp dp ap rp:Nat)(e:Eg)(A:Option Addr)(n mm:Nat)(d:D)(c:Cn)(k:Nat)(l:List UInt64)(R:As)(v:Value)(M:List As):Prop:=
 ∃ peak':Int,peak'≤e.arena∧
 ((∃ d' c',bZQ d d' (wiR (D.per d) k+nS (D.per d) (2^k)) (wiW (D.per d) k) 1∧Clean d' c'∧Sam (inX (exX e.most (D.per d) 0 k)) c c'∧cws c' (D.per d) 9 (2^k)=l∧v= .tuple #[.int .u32 (eZQ l:Int),.int .i64 0]∧M=[pts mp (aZt e ap rp A n mm),Ar ap e.arena peak' [],Dk dp d',R])∨
 (∃ d' s,Cut d d' (wiR (D.per d) k+wiW (D.per d) k+1+nS (D.per d) (2^k))∧Left d' (fun c'=>Sam (inX (exX e.most (D.per d) 0 k)) c c')∧v= .tuple #[.int .u32 s,.int .i64 8]∧M=[pts mp (aZt e ap rp A n mm),Ar ap e.arena peak' [],Dk dp d',R]))
theorem uZl {mp dp ap rp:Nat}{e:Eg}{A:Option Addr}{n mm:Nat}{d:D}{c:Cn}{k:Nat}{l:List UInt64}{R:As}{As:Option Addr}{ns ms:Nat}(hc:Clean d c)(he:fZV e d)(hk:k≤e.most)(ho:d.rd≤100000000000∧d.wr≤100000000000∧d.sy≤100000000000)
  (hl:l.length=2^k) (hns:ns=l.length) (hms:ns≤ms) (hR:∀ H,R H→Cells H As (Zd l)):
  Tr prog 62 #[.pointer (some ⟨mp,0,none⟩),.pointer (some ⟨dp,0,none⟩),.int .i64 (k:Int),.slice As ns ms] [pts mp (aZt e ap rp A n mm),Ar ap e.arena e.peak [],Dk dp d,R] (oZY mp dp ap rp e A n mm d c k l R):=fun H hs=>by
 subst hns;have hok:=hc.ok;have hpd:=Ok.per_le hok;have hlay:=he.lay;have hm32:=he.most;have h2k:=cZT (k:=k) (by omega);have h2p:=Nat.two_pow_pos k;have hpk:=he.peak;have hcap:=he.arena;have hper:=he.per;have hcapd:D.per d≤e.arena:=by
  have:=he.least;unfold bZ2 at this;rw[hper]at this;omega
 have hx0:On d (exX e.most (D.per d) 0 k):=hlay.on hok (by omega) hk;obtain⟨x,hX⟩:∃ x,x=exX e.most (D.per d) 0 k:=⟨_,rfl⟩;have hx:On d x:=by rw[hX];exact hx0
 have hxw:x.w=l.length:=by rw[hX,hl];rfl
 have hxf:x.f=9:=by rw[hX];show 9+0*_=9;omega
 have hwR:dZx (D.per d) x.f l.length 0 l.length=wiR (D.per d) k:=by rw[hxf,hl];rfl
 have hwW:(pcs (D.per d) x.f l.length 0 l.length).length=wiW (D.per d) k:=by rw[hxf,hl];rfl
 have hb1:=lZT (D.per d) k;have hb2:=lZU (D.per d) k;have hin:=oZc hx;apply ZM.ok;unfold ZM;have j2:∀ q H,Sep [Dk dp d,pts q (ZP dp ap x),pts mp (aZt e ap rp A n mm),Ar ap e.arena e.peak [],R] H→ZM.j2 (fun v H'=>∃ M,oZY mp dp ap rp e A n mm d c k l R v M∧Sep M H') (some ⟨dp,0,none⟩) As l.length ms 0 (some ⟨q,0,none⟩) H:=fun q H hs=>by
  unfold ZM.j2;refine aZb rfl ?_;have bad:∀(peak':Int) (d':D) (s:Int) (H:Hp),peak'≤e.arena→Cut d d' (wiR (D.per d) k+wiW (D.per d) k+1+nS (D.per d) (2^k))→Left d' (fun c'=>Sam (inX x) c c')→Sep [pts mp (aZt e ap rp A n mm),Ar ap e.arena peak' [],Dk dp d',R] H→∃ M,oZY mp dp ap rp e A n mm d c k l R (.tuple #[.int .u32 s,.int .i64 8]) M∧Sep M H:=fun peak' d' s H h1 h2 h3 hs=>
   ⟨_,⟨peak',h1,.inr ⟨d',s,h2,by rw[← hX];exact h3,rfl,rfl⟩⟩,hs⟩
  refine(jZc (p:=q) (dp:=dp) (ap:=ap) (d:=d) (x:=x) (cap:=e.arena) (peak:=e.peak) (bufs:=[]) (src:=l) hok hc.down hx (by omega) 0 rfl (by omega) (by omega) hms (by rw[bZ4];omega) hR).use hs [1,0,3,4] rfl rfl ?_;have hpk1:mx e.peak (ZN []+(D.per d:Int))≤e.arena:=iZR hpk (by rw[bZ4];omega);rintro _ _ H (⟨hP,rfl,rfl⟩|⟨d',hD,hfu,rfl,rfl⟩) hs
  ·simp only[HV];unfold ZM.j4;refine aZb rfl ?_;have h2:=hP.sy;have hrd:=hP.rd;have hwr:=hP.wr;rw[hwR,hwW]at hP;refine(hZz (p:=dp) hP.ok (by rw[h2];omega)).use hs [1] rfl rfl ?_;rintro _ _ H ⟨rfl,rfl⟩ hs;have hpw:=vZS x hok l;generalize hd1:eZh d x l.length 0 l=d1 at*;have hpe1:D.per d1=D.per d:=hP.per;have hsam:Sam (inX x) c d1.now:=fun i hi=>(hc.prog hP i).2 hi
   have hcw:cws d1.now (D.per d) 9 (2^k)=l:=by rw[← hxf,←hpe1,←hl,←gZy (d:=d1) (c:=d1.now) (fun _=>rfl) x l.length];exact hpw
   rcases hc.sync hP hin with⟨e0,hw2,hc2⟩|⟨e0,hcut,hleft⟩
   ·rw[e0];simp only[HV];unfold ZM.j6;refine ZB rfl ?_;have hs:Sep [Dk dp d1.syncD,pts q (ZP dp ap x),Ar ap e.arena (mx e.peak (ZN []+(D.per d:Int))) [],R,pts mp (aZt e ap rp A n mm)] H:=hs;have hpe2:D.per d1.syncD=D.per d:=hw2.per;have hrd2:=hw2.rd;have hx2:On d1.syncD x:=⟨hx.w1,hx.s1,by rw[hw2.sec];exact hx.fit,by rw[hpe2];exact hx.room⟩;refine(lZ1 (p:=q) (dp:=dp) (ap:=ap) (x:=x) (cap:=e.arena) (peak:=mx e.peak (ZN []+(D.per d:Int))) (bufs:=[]) hc2.ok hc2.down hx2 (by omega) (by rw[bZ4,hpe2];omega)).use hs [1,0,2] rfl rfl ?_;have hw0:pws d1.syncD x 0 x.w=l:=by rw[gZy hc2.now,hpe2,hxf,hxw,hl];exact hcw
    have hpk2:mx (mx e.peak (ZN []+(D.per d:Int))) (ZN []+(D.per d1.syncD:Int))≤e.arena:=iZR hpk1 (by rw[bZ4,hpe2];omega);rintro _ _ H (⟨hf,rfl,rfl⟩|⟨j,hj,hf,rfl,rfl⟩) hs
    ·rw[hw0];simp only[HV];rw[hpe2,hxw,hl]at hf hs;have hgo:=hw2.trans (bZQ.rdG hf);refine⟨_,⟨_,hpk2,.inl ⟨_,_,hgo,hc2.rdG _,by rw[← hX];exact hsam,hcw,rfl,rfl⟩⟩,?_⟩;rw[hpe2];exact hs.re [4,2,1,3] rfl
    ·simp only[HV];rw[hpe2,hxw,hl]at hj;refine bad _ _ _ H hpk2 ((hw2.cut (Cut.rdG hc2 hf hj)).more (by omega)) ((Left.rdG hc2 j).mono fun c' e=>by rw[e];exact hsam) (hs.re [4,2,1,3] rfl)
   ·rw[e0];simp only[HV];unfold ZM.j6;refine ZK (by decide) ?_;refine bad _ _ _ H hpk1 (hcut.more (by omega)) (hleft.mono fun _ h=>h.2) (hs.re [4,2,0,3] rfl)
  ·simp only[HV];unfold ZM.j4;refine aZm (by decide) ?_;unfold ZM.j6;refine ZK (by decide) ?_;have hf1:1≤d.fuse:=by have h1:=hD.cnt;have h2:=hD.rd;have h3:=hD.wr;omega
   rw[hwR,hwW]at hfu;refine bad _ _ _ H hpk1 ((hc.deadCut hD hin hfu hf1).more (by omega)) (hc.deadLeft hD) (hs.re [4,2,1,3] rfl)
 have pipe:∀ H,Sep [pts mp (aZt e ap rp A n mm),Ar ap e.arena e.peak [],Dk dp d,R] H→Zc prog 78 #[.pointer (some ⟨dp,0,none⟩),.pointer (some ⟨ap,0,none⟩),.agg (Lay.dZh e.most (D.per d)),.int .i64 0,.int .i64 (k:Int)] H fun v H1=>∃ q,v= .tuple #[.pointer (some ⟨q,0,none⟩),.int .i64 0]∧Sep [Dk dp d,pts q (ZP dp ap x),pts mp (aZt e ap rp A n mm),Ar ap e.arena e.peak [],R] H1:=fun H hs=>by
  refine(jZO (dp:=dp) (ap:=ap) (i:=0) hok hlay (by omega) hk).use hs [2] rfl rfl ?_;rintro _ _ H ⟨q,rfl,rfl⟩ hs;exact⟨q,rfl,by rw[hX];exact hs⟩
 have eb:(((jZn e ap rp A n mm).toList.drop 4).take 17).toArray=Lay.dZh e.most (D.per d):=by rw[← hper];rfl
 try simp only[HS]
 constructor
 ·refine hs.ld 0 (v:=.pointer (some ⟨ap,0,none⟩)) rfl rfl ?_;simp only[HV];refine hs.lda 0 (off:=4) (n:=17) rfl (by show 4+17≤32;omega) ?_;rw[eb];refine Zc.mono (pipe H hs) ?_;rintro _ H ⟨q,rfl,hs⟩;simp only[HV];exact j2 q H hs
 ·refine hs.lda 0 (off:=4) (n:=17) rfl (by show 4+17≤32;omega) ?_;refine hs.ld 0 (v:=.pointer (some ⟨ap,0,none⟩)) rfl rfl ?_;simp only[HV];rw[eb];refine Zc.mono (pipe H hs) ?_;rintro _ H ⟨q,rfl,hs⟩;simp only[HV];exact j2 q H hs
theorem dZW.go {g:FuncId}{args:Array Value}{H:Hp}{K:Value→Hp→Prop}(h:fZF prog g=true)(k:Zc prog g args H K):dZW prog g args H K:=aZN h k
def aZR (m:Mn)(k:Nat):Mn:=m.add (cZt m k)
def bZe (m:Mn)(k:Nat)(l:List UInt64):Mn:={ aZR m k with inp:=l}.add (dZi (aZR m k) k l)
def ldR (per k:Nat):Nat:=16+wiR per k+nS per (2^k)
def ldW (per k:Nat):Nat:=2+wiW per k
section
variable {p dp : Nat} {d : D} {c : Cn} {m : Mn} {peak : Int} (hc : Clean d c) (hh : Holds d.sec d.size m c) (hS : Small 100000 m) (ho : d.rd ≤ 800000 ∧ d.wr ≤ 800000 ∧ d.sy ≤ 800000) (hpk : peak ≤ m.arena)
def iZQ (p dp:Nat)(d:D)(m:Mn)(peak:Int)(l:List UInt64)(RR TT:As)(v:Value)(M:List As):Prop:=
 (∃ k i e,hZX l m.most k i e∧e≠0∧v= .tuple #[.int .i64 i,.int .i64 e]∧M=[En p dp (some (egM d m peak)),Dk dp d,RR,TT])∨
 (∃ k:Nat,lg (l.length:Int)=some k∧k≤m.most∧iZd l∧
  ((∃ d' c' peak',peak'≤(m.arena:Int)∧bZQ d d' (ldR (d.size/8) k) (ldW (d.size/8) k) 3∧Clean d' c'∧Holds d.sec d.size (bZe m k l) c'∧v= .tuple #[.int .i64 0,.int .i64 0]∧M=[En p dp (some (egM d (bZe m k l) peak')),Dk dp d',RR,TT])∨
  (∃ d',Cut d d' (ldR (d.size/8) k+ldW (d.size/8) k+3)∧Left d' (fun c'=>Holds d.sec d.size m c'∨Holds d.sec d.size (aZR m k) c'∨Holds d.sec d.size (bZe m k l) c')∧v= .tuple #[.int .i64 0,.int .i64 8]∧M=[En p dp none,Dk dp d',RR,TT])))
set_option maxHeartbeats 8000000 in
include hc hh hS ho hpk in
theorem pZi {l:List UInt64}{A:Option Addr}{n mm:Nat}{RR TT:As}(hn:n=l.length)(hnm:n≤mm)(hl20:l.length≤40000)(hR:∀ H,RR H→Cells H A (Zd l))(hT:(∀ H,TT H→T64 H)∨∀ H,RR H→T64 H):
  Tr prog 27 #[.pointer (some ⟨p,0,none⟩),.slice A n mm] [En p dp (some (egM d m peak)),Dk dp d,RR,TT] (iZQ p dp d m peak l RR TT):=fun H hs=>by
 subst hn;have he:=hh.eg hpk;obtain⟨mp,ap,rp,A',m',hs⟩:=En.whole hs;apply Zq.ok;unfold Zq Zq.q3 Zq.q2 Zq.q1;refine hs.nw fun b1 H hs=>?_
 refine hs.nw fun b2 H hs=>?_
 have chk:∀(L:List As) (H:Hp) (K:Value→Hp→Prop),Sep L H→L[6]? =some RR→L[7]? =some TT→(∀ k i e,hZX l m.most k i e→K (.tuple #[.int .i64 k,.int .i64 i,.int .i64 e]) H)→
   Zc prog 59 #[.slice A l.length mm,.int .i64 (m.most:Int)] H K:=fun L H K hs h6 h7 hk=>by
  obtain⟨H1,hr,hr'⟩:=hs.see 6 h6;obtain⟨H2,ht,ht'⟩:=hs.see 7 h7;refine Zc.mono (rZo A l.length mm l m.most rfl (by omega) H (hT.elim (fun f=>(f _ ht).le ht') fun f=>(f _ hr).le hr') ((hR _ hr).le hr')) ?_;rintro _ _ ⟨⟨k,i,e,h,rfl⟩,rfl⟩;exact hk k i e h
 have hk0:∀{k:Nat},lg (l.length:Int)=some k→l.length=2^k:=fun h=>by have:=(dZz h).2;omega
 have hld:=hS.ld;have hpe:(egM d m peak).per=D.per d:=rfl;have j4:∀ k i e b3 H,hZX l m.most k i e→Sep [pts p (aZG dp (some mp)),pts mp (aZt (egM d m peak) ap rp A' (psE (egM d m peak)).length m'),Ar ap m.arena peak [],pts rp (aZi dp 1 8 ((8*(egM d m peak).per:Nat):Int)),Own 122 8 A' (psE (egM d m peak)).length m' (bZA (psE (egM d m peak))),Dk dp d,RR,TT,
   pts b1 (.obj (.cells #[.pointer (some ⟨p,0,none⟩)] 28)),pts b2 (.obj (.cells #[.slice A l.length mm] 22)),pts b3 (.obj (.cells #[.int .i64 k] 3))] H→
   Zq.j4 (fun v H'=>∃ M,iZQ p dp d m peak l RR TT v M∧Sep M H') ⟨b1,0,none⟩ ⟨b2,0,none⟩ i e ⟨b3,0,none⟩ H:=fun k i e b3 H hv hs=>by
  unfold Zq.j4 Zq.j4.q4 Zq.j4.q3 Zq.j4.q2 Zq.j4.q1;have bad:∀(h:e≠0),∃ M,iZQ p dp d m peak l RR TT (.tuple #[.int .i64 i,.int .i64 e]) M∧Sep M H:=fun h=>
   ⟨_,.inl ⟨k,i,e,hv,h,rfl,rfl⟩,En.unwhole (L:=[Dk dp d,RR,TT]) (hs.re [0,1,2,3,4,5,6,7] rfl)⟩
  cases hv with
  |len h=>exact ZK (by decide) (bad (by decide))
  |big h h2=>exact ZK (by decide) (bad (by decide))
  |word h h2 h3=>exact ZK (by decide) (bad (by decide))
  |ok hlg hkm hcan=>
  rename_i k
  clear bad;refine ZB rfl ?_;have hkm:k≤m.most:=by omega
  have hl:=hk0 hlg;have hfin:∀ v M,((∃ d' c' peak',peak'≤(m.arena:Int)∧bZQ d d' (ldR (d.size/8) k) (ldW (d.size/8) k) 3∧Clean d' c'∧Holds d.sec d.size (bZe m k l) c'∧v= .tuple #[.int .i64 0,.int .i64 0]∧M=[En p dp (some (egM d (bZe m k l) peak')),Dk dp d',RR,TT])∨
  (∃ d',Cut d d' (ldR (d.size/8) k+ldW (d.size/8) k+3)∧Left d' (fun c'=>Holds d.sec d.size m c'∨Holds d.sec d.size (aZR m k) c'∨Holds d.sec d.size (bZe m k l) c')∧v= .tuple #[.int .i64 0,.int .i64 8]∧M=[En p dp none,Dk dp d',RR,TT]))→iZQ p dp d m peak l RR TT v M:=fun v M h=>.inr ⟨k,hlg,hkm,hcan,h⟩
  have j7:∀ b4 H,Sep [pts p (aZG dp (some mp)),pts mp (aZt (egM d m peak) ap rp A' (psE (egM d m peak)).length m'),Ar ap m.arena peak [],pts rp (aZi dp 1 8 ((8*(egM d m peak).per:Nat):Int)),Own 122 8 A' (psE (egM d m peak)).length m' (bZA (psE (egM d m peak))),Dk dp d,RR,TT,
    pts b1 (.obj (.cells #[.pointer (some ⟨p,0,none⟩)] 28)),pts b2 (.obj (.cells #[.slice A l.length mm] 22)),pts b3 (.obj (.cells #[.int .i64 (k:Int)] 3)),pts b4 (bZJ { cZt m k with s:=0})] H→
    Zq.j7 (fun v H'=>∃ M,iZQ p dp d m peak l RR TT v M∧Sep M H') ⟨b1,0,none⟩ ⟨b2,0,none⟩ ⟨b3,0,none⟩ ⟨b4,0,none⟩ H:=fun b4 H hs=>by
   unfold Zq.j7;refine hs.nw fun b5 H hs=>?_
   refine hs.ld 8 (v:=.pointer (some ⟨p,0,none⟩)) rfl rfl ?_;simp only[HV]
   try simp only[HS]
   refine hs.ld 0 (v:=.pointer (some ⟨mp,0,none⟩)) rfl rfl ?_;simp only[HV];refine hs.nw fun b6 H hs=>?_
   try simp only[HS]
   refine hs.st 13 rfl (by show 0<1;omega) rfl fun H hs=>?_;refine hs.ld 8 (v:=.pointer (some ⟨p,0,none⟩)) rfl rfl ?_;simp only[HV];refine hs.nw fun b7 H hs=>?_
   have hs:=Me.shut (mp:=mp) (dp:=dp) (e:=egM d m peak) (ap:=ap) (rp:=rp) (A:=A') (m:=m') (L:=[pts p (aZG dp (some mp)),Dk dp d,RR,TT,pts b1 (.obj (.cells #[.pointer (some ⟨p,0,none⟩)] 28)),pts b2 (.obj (.cells #[.slice A l.length mm] 22)),pts b3 (.obj (.cells #[.int .i64 (k:Int)] 3)),pts b4 (bZJ { cZt m k with s:=0}),pts b5 _,pts b6 _,pts b7 _]) (hs.re [1,2,3,4,0,5,6,7,8,9,10,11,12,13,14] rfl);apply ZO.ok;unfold ZO;refine⟨4,?_⟩;obtain⟨g1,g2,g3,g4⟩:=vZN hh hS (by omega) hkm;have hres1:bZC prog 60=[53]:=by kernel_rfl
   have hres2:bZC prog 61=[53]:=by kernel_rfl
   have hres3:bZC prog 63=[53]:=by kernel_rfl
   have bad:∀(X:As) (L':List As) (H:Hp) (d':D),Sep (X::Dk dp d'::pts p (aZG dp (some mp))::RR::TT::L') H→Cut d d' (ldR (d.size/8) k+ldW (d.size/8) k+3)→Left d' (fun c'=>Holds d.sec d.size m c'∨Holds d.sec d.size (aZR m k) c'∨Holds d.sec d.size (bZe m k l) c')→
     Zc prog 39 #[.pointer (some ⟨p,0,none⟩),.int .i64 8] H fun v H'=>v= .int .i64 8∧∃ M,iZQ p dp d m peak l RR TT (.tuple #[.int .i64 0,.int .i64 8]) M∧Sep M H':=fun X L' H d' hs h1 h2=>by
    have hs:Sep [X,Dk dp d',pts p (aZG dp (some mp)),RR,TT] H:=Sep.take (L:=L') hs;refine(eZq (p:=p) (dp:=dp) (mp:=mp) 8).use hs [2] rfl rfl ?_;rintro _ _ H ⟨rfl,rfl⟩ hs;exact⟨rfl,_,hfin _ _ (.inr ⟨d',h1,h2,rfl,rfl⟩),hs.re [0,2,3,4] rfl⟩
   unfold ZO.l2;refine Zw (by decide) ⟨by decide,by decide,?_⟩;simp only[HV];refine hs.ldr 11 (v:=.func (.func 60) #[] #[.pointer (some ⟨b6,0,none⟩),.pointer (some ⟨b4,0,none⟩)]) rfl rfl ?_;refine dZW.go (by kernel_rfl) ?_;rw[hres1];apply cZJ.ok;unfold cZJ;simp only[HV];refine hs.ld 10 (v:=.pointer (some ⟨mp,0,none⟩)) rfl rfl ?_;simp only[HV];refine hs.ldw 8 rfl rfl ?_
   try simp only[Array.toArray_toList]
   have hseq:=Mn.seq_r hh;have hR1:ldR (d.size/8) k=8+(wiR (d.size/8) k+nS (d.size/8) (2^k))+8:=by unfold ldR;omega
   have hW1:ldW (d.size/8) k=1+wiW (d.size/8) k+1:=by unfold ldW;omega
   refine(hZ0 (mp:=mp) (dp:=dp) (e:=egM d m peak) hc he (by omega) (r:=cZt m k) { cZt m k with s:=0} rfl hseq.symm g1 g2 (by rw[hh.lastC];exact g3) (by show(k:Int)≤m.most;omega)).use hs [0,2] rfl rfl ?_;rintro _ _ H (⟨d1,rfl,hw1,hc1,rfl⟩|⟨d',rfl,hcut,hleft,rfl⟩) hs
   rotate_left
   ·simp only[HV];refine eZy _ _ ?_;simp only[HV];refine ZK (by decide) ?_;refine Zc.mono (bad _ _ H d' hs (hcut.more (by omega)) (hleft.mono fun c' h=>?_)) ?_
    ·rcases h with e|e
     ·left;rw[e];exact hh
     ·right;left;rw[e];exact g4
    ·rintro _ H ⟨rfl,M,h,hs⟩;simp only[HV];exact⟨M,h,hs⟩
   simp only[HV];refine eZy _ _ ?_;simp only[HV];refine ZB rfl ?_;rw[show IntKind.i64.wrap ((0:Int)+1)=1 by kernel_rfl];unfold ZO.l2;refine Zw (by decide) ⟨by decide,by decide,?_⟩;simp only[HV];refine hs.ldr 11 (v:=.func (.func 61) #[] #[.pointer (some ⟨b6,0,none⟩),.pointer (some ⟨b1,0,none⟩),.pointer (some ⟨b3,0,none⟩),.pointer (some ⟨b2,0,none⟩),.pointer (some ⟨b5,0,none⟩)]) rfl rfl ?_;refine dZW.go (by kernel_rfl) ?_;rw[hres2];apply cZK.ok;unfold cZK;simp only[HV];refine hs.ld 10 (v:=.pointer (some ⟨mp,0,none⟩)) rfl rfl ?_;simp only[HV];refine hs.ld 5 (v:=.pointer (some ⟨p,0,none⟩)) rfl rfl ?_;simp only[HV]
   try simp only[HS]
   refine hs.ld 2 (v:=.pointer (some ⟨dp,0,none⟩)) rfl rfl ?_;simp only[HV];refine hs.ld 7 (v:=.int .i64 (k:Int)) rfl rfl ?_;simp only[HV];refine hs.ld 6 (v:=.slice A l.length mm) rfl rfl ?_;simp only[HV];have h1r:(aZR m k).r=cZt m k:=Mn.add_r _ _;have hh1:Holds d1.sec d1.size (aZR m k) (bZE c (aZ2 1 8 (cZt m k).s) ((cZt m k).form d.size)):=by rw[hw1.sec,hw1.size];exact g4
   have ee:{ egM d m peak with r:=cZt m k}=egM d1 (aZR m k) peak:=by unfold egM;rw[h1r,hw1.sec,hw1.size];rfl
   rw[ee]at hs;have he1:=hh1.eg (peak:=peak) hpk;generalize hc1e:bZE c (aZ2 1 8 (cZt m k).s) ((cZt m k).form d.size)=c1 at*;obtain⟨ap2,rp2,A2,m2,hs⟩:=Me.open hs;have hs:Sep [pts mp (aZt (egM d1 (aZR m k) peak) ap2 rp2 A2 (psE (egM d1 (aZR m k) peak)).length m2),Ar ap2 m.arena peak [],pts rp2 (aZi dp 1 8 ((8*(egM d1 (aZR m k) peak).per:Nat):Int)),Own 122 8 A2 (psE (egM d1 (aZR m k) peak)).length m2 (bZA (psE (egM d1 (aZR m k) peak))),Dk dp d1,pts p (aZG dp (some mp)),RR,TT,
    pts b1 (.obj (.cells #[.pointer (some ⟨p,0,none⟩)] 28)),pts b2 (.obj (.cells #[.slice A l.length mm] 22)),pts b3 (.obj (.cells #[.int .i64 (k:Int)] 3)),pts b4 (bZJ { cZt m k with s:=0}),pts b5 _,pts b6 _,pts b7 _] H:=hs
   have hkk:=cZT (k:=k) (by have:=he.most;have:m.most≤32:=this;omega);have hrd1:=hw1.rd;have hwr1:=hw1.wr;have hsy1:=hw1.sy;refine(uZl (mp:=mp) (dp:=dp) (ap:=ap2) (rp:=rp2) (e:=egM d1 (aZR m k) peak) (A:=A2) (n:=(psE (egM d1 (aZR m k) peak)).length) (mm:=m2) (d:=d1) (c:=c1) (k:=k) (l:=l) (R:=RR) hc1 he1 hkm (by omega) hl rfl hnm hR).use hs [0,1,4,6] rfl rfl ?_;have hp1:D.per d1=d.size/8:=hw1.per;have htgt:∀ c',Sam (inX (exX m.most (D.per d1) 0 k)) c1 c'→Holds d1.sec d1.size (aZR m k) c':=fun c' h=>
    hh1.target (t:=0) (k:=k) hkm (fun r hr h2=>by rw[aZR,Mn.add_last]at hr;cases hr;exact absurd h2 (show ¬(2:Int)≤1 by omega)) (fun r hr h4=>by rw[aZR,Mn.add_last]at hr;cases hr;exact absurd h4 (show ¬(1:Int)=4 by omega)) h
   rintro _ _ H ⟨pk2,hpk2,(⟨d2,c2,hw2,hc2,hsam,hcw,rfl,rfl⟩|⟨d',x,hcut,hleft,rfl,rfl⟩)⟩ hs
   rotate_left
   ·simp only[HV]
    try simp only[HS]
    refine hs.st 12 rfl (by show 0<1;omega) rfl fun H hs=>?_;refine eZy _ _ ?_;simp only[HV];refine ZK (by decide) ?_;rw[hp1]at hcut;refine Zc.mono (bad _ _ H d' (hs.re [0,2,6,3,7] rfl) ((hw1.cut hcut).more (by omega)) (hleft.mono fun c' h=>?_)) ?_
    ·right;left;have:=htgt c' h;rw[hw1.sec,hw1.size]at this;exact this
    ·rintro _ H ⟨rfl,M,h,hs⟩;simp only[HV];exact⟨M,h,hs⟩
   simp only[HV]
   try simp only[HS]
   refine hs.st 12 rfl (by show 0<1;omega) rfl fun H hs=>?_;refine eZy _ _ ?_;simp only[HV];refine ZB rfl ?_;rw[show IntKind.i64.wrap ((1:Int)+1)=2 by kernel_rfl];unfold ZO.l2;refine Zw (by decide) ⟨by decide,by decide,?_⟩;simp only[HV];have ee2:{ egM d1 (aZR m k) peak with peak:=pk2}=egM d2 (aZR m k) pk2:=by unfold egM;rw[hw2.sec,hw2.size]
   have hs:Sep (gZV mp dp ap2 rp2 { egM d1 (aZR m k) peak with peak:=pk2} A2 (psE { egM d1 (aZR m k) peak with peak:=pk2}).length m2++[Dk dp d2,pts p (aZG dp (some mp)),RR,TT,
    pts b1 (.obj (.cells #[.pointer (some ⟨p,0,none⟩)] 28)),pts b2 (.obj (.cells #[.slice A l.length mm] 22)),pts b3 (.obj (.cells #[.int .i64 (k:Int)] 3)),pts b4 (bZJ { cZt m k with s:=0}),pts b5 _,pts b6 _,pts b7 _]) H:=hs.re [0,1,4,5,2,6,3,7,8,9,10,11,12,13,14] rfl
   have hs:=Me.shut hs;rw[ee2]at hs;have hh2:Holds d2.sec d2.size (aZR m k) c2:=by rw[hw2.sec,hw2.size];exact htgt c2 hsam
   have hS1:Small 100001 (aZR m k):=hS.add (by show m.r.ld+1≤_;omega);have h1kd:(aZR m k).r.kd=1:=by rw[h1r];rfl
   have h1kk:(aZR m k).r.kk=k:=by rw[h1r];rfl
   have hsz2:d2.size/8=D.per d1:=by rw[hw2.size];rfl
   obtain⟨q1,q2,q3,q4⟩:=vZc hh2 hS1 (by omega) h1kd h1kk hl hcan (by rw[hsz2];exact hcw);have hrd2:=hw2.rd;have hwr2:=hw2.wr;have hsy2:=hw2.sy;have hb1:=lZT (D.per d1) k;have hb2:=lZU (D.per d1) k;have hpd1:=Ok.per_le hc1.ok;have hb3:=jZV (per:=D.per d1) (w:=2^k) (by omega) (Nat.two_pow_pos k);have elr:dZi (aZR m k) k l=⟨(aZR m k).seq,2,k,0,0,m.r.ld+1,eZQ l,0⟩:=by unfold dZi;rw[h1r];rfl
   have hseq2:=Mn.seq_r hh2;refine hs.ldr 11 (v:=.func (.func 63) #[] #[.pointer (some ⟨b5,0,none⟩),.pointer (some ⟨b4,0,none⟩),.pointer (some ⟨b6,0,none⟩)]) rfl rfl ?_;refine dZW.go (by kernel_rfl) ?_;rw[hres3];apply bZn.ok;unfold bZn bZn.q1;have fin3:∀ H,Sep [Me mp dp (egM d2 (aZR m k) pk2),Dk dp d2,pts p (aZG dp (some mp)),RR,TT,
    pts b1 (.obj (.cells #[.pointer (some ⟨p,0,none⟩)] 28)),pts b2 (.obj (.cells #[.slice A l.length mm] 22)),pts b3 (.obj (.cells #[.int .i64 (k:Int)] 3)),pts b4 (bZJ { dZi (aZR m k) k l with s:=0})] H→
     Zc prog 45 #[.pointer (some ⟨mp,0,none⟩),.agg (R.c { dZi (aZR m k) k l with s:=0})] H fun v H'=>∃ x:Int,v= .int .i64 x∧((x=0∧∃ M,iZQ p dp d m peak l RR TT (.tuple #[.int .i64 0,.int .i64 0]) M∧Sep M H')∨(x=8∧∃(X:As) (L':List As) (d':D),Sep (X::Dk dp d'::pts p (aZG dp (some mp))::RR::TT::L') H'∧Cut d d' (ldR (d.size/8) k+ldW (d.size/8) k+3)∧Left d' (fun c'=>Holds d.sec d.size m c'∨Holds d.sec d.size (aZR m k) c'∨Holds d.sec d.size (bZe m k l) c'))):=fun H hs=>by
    refine(hZ0 (mp:=mp) (dp:=dp) (e:=egM d2 (aZR m k) pk2) hc2 (hh2.eg hpk2) (by omega) (r:=dZi (aZR m k) k l) { dZi (aZR m k) k l with s:=0} rfl hseq2.symm q1 q2 (by rw[hh2.lastC];exact q3) (by show(k:Int)≤m.most;omega)).use hs [0,1] rfl rfl ?_;rintro _ _ H (⟨d3,rfl,hw3,hc3,rfl⟩|⟨d',rfl,hcut,hleft,rfl⟩) hs
    ·refine⟨0,rfl,.inl ⟨rfl,_,hfin _ _ (.inl ⟨d3,_,pk2,hpk2,?_,hc3,?_,rfl,rfl⟩),?_⟩⟩
     ·have:=(hw1.trans hw2).trans hw3;rw[hp1]at this;rw[hR1,hW1];exact this
     ·have:=q4;rw[hw2.sec,hw2.size,hw1.sec,hw1.size]at this;rw[hw2.size,hw1.size];exact this
     ·have e3:egM d (bZe m k l) pk2={ egM d2 (aZR m k) pk2 with r:=dZi (aZR m k) k l}:=by
       unfold bZe egM;rw[Mn.add_r,hw2.sec,hw2.size,hw1.sec,hw1.size];rfl
      rw[e3];exact En.shut (L:=[Dk dp d3,RR,TT]) (hs.re [2,0,1,3,4] rfl)
    ·refine⟨8,rfl,.inr ⟨rfl,_,_,d',hs,?_,hleft.mono fun c' h=>?_⟩⟩
     ·have:=(hw1.trans hw2).cut hcut;rw[hp1]at this;exact this.more (by omega)
     ·rw[hw2.sec,hw2.size,hw1.sec,hw1.size]at q4 hh2;rw[hw2.size,hw1.size]at h;rcases h with e|e
      ·right;left;rw[e];exact hh2
      ·right;right;rw[e];exact q4
   constructor
   ·refine hs.ld 9 (v:=.int .u32 (eZQ l:Int)) rfl rfl ?_;simp only[HV]
    try simp only[HS]
    refine hs.st 8 rfl (by show 1<8;omega) rfl fun H hs=>?_
    try simp only[HS]
    refine hs.st 8 rfl (by show 6<8;omega) rfl fun H hs=>?_;refine hs.ld 10 (v:=.pointer (some ⟨mp,0,none⟩)) rfl rfl ?_;simp only[HV];refine hs.ldw 8 rfl rfl ?_
    try simp only[Array.toArray_toList]
    have hs:=hs.re [0,1,2,3,4,5,6,7,8] rfl;have ff:=fin3 H;rw[elr]at ff;refine Zc.mono (ff hs) ?_;rintro _ H ⟨x,rfl,(⟨rfl,M,h,hs⟩|⟨rfl,X,L',d',hs,h1,h2⟩)⟩
    ·simp only[HV];refine eZy _ _ ?_;simp only[HV];refine ZB rfl ?_;rw[show IntKind.i64.wrap ((2:Int)+1)=3 by kernel_rfl];unfold ZO.l2;refine Zm (by decide) ?_;simp only[HV];exact⟨M,h,hs⟩
    ·simp only[HV];refine eZy _ _ ?_;simp only[HV];refine ZK (by decide) ?_;refine Zc.mono (bad X L' H d' hs h1 h2) ?_;rintro _ H ⟨rfl,M,h,hs⟩;simp only[HV];exact⟨M,h,hs⟩
   ·try simp only[HS]
    refine hs.st 8 rfl (by show 1<8;omega) rfl fun H hs=>?_;refine hs.ld 9 (v:=.int .u32 (eZQ l:Int)) rfl rfl ?_;simp only[HV]
    try simp only[HS]
    refine hs.st 8 rfl (by show 6<8;omega) rfl fun H hs=>?_;refine hs.ld 10 (v:=.pointer (some ⟨mp,0,none⟩)) rfl rfl ?_;simp only[HV];refine hs.ldw 8 rfl rfl ?_
    try simp only[Array.toArray_toList]
    have hs:=hs.re [0,1,2,3,4,5,6,7,8] rfl;have ff:=fin3 H;rw[elr]at ff;refine Zc.mono (ff hs) ?_;rintro _ H ⟨x,rfl,(⟨rfl,M,h,hs⟩|⟨rfl,X,L',d',hs,h1,h2⟩)⟩
    ·simp only[HV];refine eZy _ _ ?_;simp only[HV];refine ZB rfl ?_;rw[show IntKind.i64.wrap ((2:Int)+1)=3 by kernel_rfl];unfold ZO.l2;refine Zm (by decide) ?_;simp only[HV];exact⟨M,h,hs⟩
    ·simp only[HV];refine eZy _ _ ?_;simp only[HV];refine ZK (by decide) ?_;refine Zc.mono (bad X L' H d' hs h1 h2) ?_;rintro _ H ⟨rfl,M,h,hs⟩;simp only[HV];exact⟨M,h,hs⟩
  have ewp:IntKind.u32.wrap ((m.r.ld:Int)+1)=((m.r.ld+1:Nat):Int):=by rw[wZH (by omega) (by omega)];rfl
  repeat' first
   |(rw[ewp]at hs;exact j7 _ _ hs)
   |refine hs.ld 8 (v:=.pointer (some ⟨p,0,none⟩)) rfl rfl ?_
   |refine hs.ld 10 (v:=.int .i64 (k:Int)) rfl rfl ?_
   |refine hs.ld 0 (v:=.pointer (some ⟨mp,0,none⟩)) rfl rfl ?_
   |refine hs.ld 1 (v:=.int .u32 (m.r.ld:Int)) rfl rfl ?_
   |refine hs.nw fun b H hs=>?_
   |refine hs.stw 11 rfl rfl rfl rfl fun H hs=>?_
   |(simp only[HV];try simp only[HS])
   |refine⟨?_,?_⟩
 refine hs.ld 8 (v:=.pointer (some ⟨p,0,none⟩)) rfl rfl ?_;simp only[HV]
 try simp only[HS]
 refine hs.ld 0 (v:=.pointer (some ⟨mp,0,none⟩)) rfl rfl ?_;simp only[HV];refine aZu rfl ?_
 repeat' first
  |exact j4 _ _ _ _ _ hv hs
  |refine hs.ld 9 (v:=.slice A l.length mm) rfl rfl ?_
  |refine hs.ld 8 (v:=.pointer (some ⟨p,0,none⟩)) rfl rfl ?_
  |refine hs.ld 0 (v:=.pointer (some ⟨mp,0,none⟩)) rfl rfl ?_
  |refine hs.ld 1 (v:=.int .i64 (m.most:Int)) rfl rfl ?_
  |refine chk _ _ _ hs rfl rfl fun k i e hv=>?_
  |refine hs.nw fun b H hs=>?_
  |refine hs.st 10 rfl Nat.zero_lt_one rfl fun H hs=>?_
  |(simp only[HV];try simp only[HS])
  |refine⟨?_,?_⟩
end
end Eng
namespace Sup
open Go Go.Hw Go.Form W Lay
theorem qZZ (k sec s ar:Int)(h:bZz k sec s ar=true)(hsec:sec≤9223372036854775807):bZc (bZ5 k sec s ar)=((k,sec,s,ar),0):=by
 have hg:=h;unfold bZz at hg;simp only[decide_eq_true_eq]at hg;obtain⟨h1,h2,h3,h4,h5,h6⟩:=hg;obtain⟨kn,rfl⟩:=Int.eq_ofNat_of_zero_le h1;have hlen:=iZZ kn sec s ar h3;have hlog:=iZt s;have hll:=rZ6 s;have hw:∀(i:Nat) (hi:i<4),ZC (bZ5 kn sec s ar) (8*i)=((hZa kn sec s ar)[i]'(by rw[iZ0];exact hi)).toNat:=fun i hi=>fZe (by rw[iZ0];exact hi) _
 have hf64:bZF kn s<2^64:=by unfold bZF;omega
 have w0:ZC (bZ5 kn sec s ar) 0=bZF kn s:=(hw 0 (by omega)).trans (eZY hf64);have w1:ZC (bZ5 kn sec s ar) 8=sec.toNat:=(hw 1 (by omega)).trans (eZY (by omega));have w2:ZC (bZ5 kn sec s ar) 16=ar.toNat:=(hw 2 (by omega)).trans (eZY (by omega));have hcr:lZ4 (bZF kn s) sec.toNat ar.toNat=(Go.Crc.sum (form (gZo kn sec s ar))).toNat:=rfl;have hsum:=(Go.Crc.sum (form (gZo kn sec s ar))).isLt;have w3:ZC (bZ5 kn sec s ar) 24=lZ4 (bZF kn s) sec.toNat ar.toNat:=(hw 3 (by omega)).trans (by rw[hcr];exact eZY (by omega));have hz:iZv (bZ5 kn sec s ar)=true:=by
  unfold iZv bZ5;rw[List.drop_left' (by rw[bZh,iZ0])];simp
 have hf1:bZF kn s/4294967296=1094861123:=by unfold bZF;omega
 have hf2:bZF kn s/65536%65536=kn:=by unfold bZF;omega
 have hf3:((bZF kn s%65536:Nat):Int)=cZG s:=by unfold bZF;omega
 have hsb:eZI (bZ5 kn sec s ar)=((kn:Int),sec,s,ar):=by
  unfold eZI;rw[w0,w1,w2,hf2,hlen,ZV (by omega) (by omega),ZV (by omega) (by omega),show((sec.toNat:Nat):Int)=sec by omega,show((ar.toNat:Nat):Int)=ar by omega]
 unfold bZc;rw[hlen,hsb,w0,w1,w2,w3,if_neg (by omega),if_neg (by simp[hf1,hz]),if_neg (by simp),if_pos ⟨h,hf3⟩]
end Sup
namespace Eng
open Go Go.Hw Go.Form W Shp Dsk Str Are Trn Pas Pln Rec Srt Rng
def inF (n:Nat)(i:Int):Prop:=1≤i∧i<((1+n:Nat):Int)
theorem sZS {d:D}(hl:d.down=false)(hf:d.fuse≠1)(k:Int)(b:List UInt8)(i:Int):(d.wrote k b).now i=if i=k then b else d.now i:=by
 unfold D.wrote;rw[eZp hl hf];unfold D.now cZI;by_cases h:i=k
 ·simp only[if_pos h];rfl
 ·simp only[if_neg h];rfl
theorem mZB {d0:D}{c:Cn}(h:Clean d0 c){n:Nat}(hn:1+n≤d0.sec):∀(k i:Nat) (d:D),i+k=n→Prog (inF n) d0 d 0 i→(∀ j:Nat,j<i→d.now ((1+j:Nat):Int)=List.replicate d0.size 0)→
  (∃ d' c',iZM 1 k i d=(0,d')∧bZQ d0 d' 0 n 1∧Clean d' c'∧Sam (inF n) c c'∧∀ j:Nat,j<n→c' ((1+j:Nat):Int)=List.replicate d0.size 0)∨
  (∃ d',iZM 1 k i d=(8,d')∧Cut d0 d' (n+1)∧Left d' (Sam (inF n) c))
 |0,i,d,hi,hP,hz=>by
  have hS:∀ i,inF n i→0≤i∧i<d0.sec:=fun i hi=>⟨by have:=hi.1;omega,by have:=hi.2;omega⟩
  have e:i=n:=by omega
  subst e;have hsam:Sam (inF i) c d.now:=fun j hj=>(h.prog hP j).2 hj
  rcases h.sync hP hS with⟨s1,s2,s3⟩|⟨s1,s2,s3⟩
  ·exact .inl ⟨_,_,by show(d.syncE,d.syncD)=_;rw[s1],s2,s3,hsam,hz⟩
  ·exact .inr ⟨_,by show(d.syncE,d.syncD)=_;rw[s1],s2.more (by omega),s3.mono fun _ h=>h.2⟩
 |k+1,i,d,hi,hP,hz=>by
  have hS:∀ i,inF n i→0≤i∧i<d0.sec:=fun i hi=>⟨by have:=hi.1;omega,by have:=hi.2;omega⟩
  have hsec:=hP.sec;have hsize:=hP.size;have hchk:d.chk ((1+i:Nat):Int)=0:=gZw hP.down (Int.natCast_nonneg _) (by rw[hsec];omega);have hin:inF n ((1+i:Nat):Int):=⟨by omega,by omega⟩;have hlen:(List.replicate d.size (0:UInt8)).length=d.size:=List.length_replicate;unfold iZM;by_cases hf:d.fuse=1
  ·have hbn:d.burns=true:=by unfold D.burns;simp[hf]
   have e1:d.writeE ((1+i:Nat):Int) d.size=8:=by unfold D.writeE;rw[if_neg (by rw[hchk];simp),if_neg (by simp),hbn];rfl
   have e2:d.writeD ((1+i:Nat):Int) (List.replicate d.size 0)=D.dead d:=by unfold D.writeD;rw[if_neg (by rw[hchk];simp),if_neg (by simp[hlen]),hbn,eZP hf];rfl
   rw[e1,e2,if_pos (by decide)];have hD:=hP.dead (cZz.one (inF n) hP.ok hf);have h1:=hP.fuse;have h2:=hP.go;exact .inr ⟨_,rfl,h.deadCut hD hS (by omega) (by omega),h.deadLeft hD⟩
  ·have hbn:d.burns=false:=by unfold D.burns;exact decide_eq_false hf
   have e1:d.writeE ((1+i:Nat):Int) d.size=0:=by unfold D.writeE;rw[if_neg (by rw[hchk];simp),if_neg (by simp),hbn];rfl
   have e2:d.writeD ((1+i:Nat):Int) (List.replicate d.size 0)=d.wrote ((1+i:Nat):Int) (List.replicate d.size 0):=by unfold D.writeD;rw[if_neg (by rw[hchk];simp),if_neg (by simp[hlen]),hbn];rfl
   rw[e1,e2,if_neg (by simp)];have hW:=Prog.wrote (S:=inF n) hP.ok hP.down hf hin hlen;have hT:=hP.trans hW;refine mZB h hn k (i+1) _ (by omega) hT fun j hj=>?_
   rw[sZS hP.down hf];by_cases e:j=i
   ·rw[e,if_pos rfl,hsize]
   ·rw[if_neg (by omega)];exact hz j (by omega)
def aZ3 (k words:Nat):Mn:=⟨k,words,[],[]⟩
theorem qZC {sec size k words:Nat}{c:Cn}(hg:Sup.bZz k sec size words=true)(hl:bZ2 k (size/8)≤words)(h0:c 0=Sup.bZ5 k sec size words)(hz:∀ j:Nat,j<8→c ((1+j:Nat):Int)=List.replicate size 0):Holds sec size (aZ3 k words) c:=
 ⟨h0,hg,hl,Log.nil,fun i hi=>hz i hi,fun r hr=>(by cases hr),fun r hr=>(by cases hr),fun r hr=>(by cases hr)⟩
def bZN (sec per:Nat)(k words:Int):Int:=if words<1∨words>16777216∨k<0∨k>32 then 1 else if(sec:Int)<Lay.cZN k.toNat per then 7 else if words<bZ2 k.toNat per then 6 else 0
theorem uZ4 {p dp:Nat}{mo:Option Nat}{d:D}(hok:Ok d)(hpn:0<Lay.aZL (d.size:Int))(k words:Int):Tr prog 49 #[.pointer (some ⟨p,0,none⟩),.int .i64 k,.int .i64 words] [pts p (aZG dp mo),Dk dp d] fun v M=>v= .int .i64 (bZN d.sec (d.size/8) k words)∧M=[pts p (aZG dp mo),Dk dp d]:=fun H hs=>by
 have hper:=eZU hpn;apply ZI.ok;unfold ZI ZI.q3 ZI.q2 ZI.q1;have fin:∀(x:Int) (H:Hp) (T:List As),x=bZN d.sec (d.size/8) k words→Sep ([pts p (aZG dp mo),Dk dp d]++T) H→∃ M,(Value.int .i64 x= .int .i64 (bZN d.sec (d.size/8) k words)∧M=[pts p (aZG dp mo),Dk dp d])∧Sep M H:=fun x H T hx hs=>⟨_,⟨by rw[hx],rfl⟩,Sep.take hs⟩
 by_cases h1:words<1
 ·exact Zw h1 (fin 1 H [] (by unfold bZN;rw[if_pos (.inl h1)]) hs)
 refine Zm h1 ?_;by_cases h2:words>16777216
 ·exact Zw h2 (fin 1 H [] (by unfold bZN;rw[if_pos (.inr (.inl h2))]) hs)
 refine Zm h2 ?_;have j4:∀ b H,Sep [pts p (aZG dp mo),Dk dp d,pts b (.obj (.cells (Lay.OfV k d.sec d.size).1 101))] H→ZI.j4 (fun v H'=>∃ M,(v= .int .i64 (bZN d.sec (d.size/8) k words)∧M=[pts p (aZG dp mo),Dk dp d])∧Sep M H') k words ⟨b,0,none⟩ (Lay.OfV k d.sec d.size).2 H:=fun b H hs=>by
  unfold ZI.j4;unfold Lay.OfV at hs⊢;by_cases h3:0≤k∧k≤32
  ·have h3':0≤k∧k≤32∧0<Lay.aZL d.size:=⟨h3.1,h3.2,hpn⟩;rw[if_pos h3']at hs⊢;by_cases h4:(d.sec:Int)<Lay.cZN k.toNat (Lay.aZL d.size)
   ·rw[if_pos h4]at hs⊢;refine ZK (by decide) (fin 7 H _ ?_ hs);unfold bZN;rw[if_neg (by omega),if_pos (by rw[← hper.1];exact h4)]
   ·rw[if_neg h4]at hs⊢;refine ZB rfl ?_
    try simp only[HS]
    refine hs.ld 2 (v:=.int .i64 ((Lay.aZL d.size:Nat):Int)) rfl rfl ?_;simp only[HV];obtain⟨kn,rfl⟩:=Int.eq_ofNat_of_zero_le h3.1;have hpB:cZR ((Lay.aZL d.size:Nat):Int)=true:=by rw[hper.1];exact mZ1 hpn
    refine Zc.use (sZ7 (k:=kn) (per:=Lay.aZL d.size) (by omega) hpB H) ?_;simp only[HV];refine ZB rfl ?_;rw[hper.1]at h4;have h4':¬(d.sec:Int)<Lay.cZN (kn:Int).toNat (d.size/8):=h4;by_cases h5:words<(bZ2 kn (Lay.aZL d.size):Int)
    ·refine Zw h5 (fin 6 H _ ?_ hs);unfold bZN;rw[if_neg (by omega),if_neg h4',if_pos (by rw[← hper.1];exact h5)]
    ·refine Zm h5 (fin 0 H _ ?_ hs);unfold bZN;rw[if_neg (by omega),if_neg h4',if_neg (by rw[← hper.1];exact h5)]
  ·rw[if_neg (fun h=>h3 ⟨h.1,h.2.1⟩)]at hs⊢;refine ZK (by decide) (fin 1 H _ ?_ hs);unfold bZN;rw[if_pos (by omega)]
 try simp only[HS]
 have hsz:∀(H:Hp) (T:List As) (K:Value→Prop),Sep ([pts p (aZG dp mo),Dk dp d]++T) H→K (.int .i64 (d.sec:Int))→aZc prog 50 #[.pointer (some ⟨dp,0,none⟩)] H K:=fun H T K hs h=>aZc.use (eZN hs 1 rfl) h
 have hsy:∀(H:Hp) (T:List As) (K:Value→Prop),Sep ([pts p (aZG dp mo),Dk dp d]++T) H→K (.int .i64 (d.size:Int))→aZc prog 51 #[.pointer (some ⟨dp,0,none⟩)] H K:=fun H T K hs h=>aZc.use (hZC hs 1 rfl) h
 have hof:∀(H:Hp) (K:Value→Prop),K (.tuple #[.agg (Lay.OfV k d.sec d.size).1,.int .i64 (Lay.OfV k d.sec d.size).2])→aZc prog 89 #[.int .i64 k,.int .i64 (d.sec:Int),.int .i64 (d.size:Int)] H K:=fun H K h=>aZc.use (Lay.eZJ k d.sec d.size H) h
 have hS1:(Lay.OfV k d.sec d.size).1.size=17:=Sup.kZz k d.sec d.size
 repeat' first
  |exact j4 _ _ hs
  |refine hs.ld 0 (v:=.pointer (some ⟨dp,0,none⟩)) rfl rfl ?_
  |refine hsz _ [] _ hs ?_
  |refine hsy _ [] _ hs ?_
  |refine hsz _ [_] _ hs ?_
  |refine hsy _ [_] _ hs ?_
  |refine hof _ _ ?_
  |refine hs.nw fun b H hs=>?_
  |refine hs.stw 2 rfl rfl (Sup.kZz _ _ _) (Sup.pZk _ _ _) fun H hs=>?_
  |(simp only[HV];try simp only[HS])
  |refine⟨?_,?_⟩
theorem rZ2 (k p:Nat):Lay.dZh k p=#[.int .i64 (k:Int),.int .i64 (p:Int),.int .i64 1,.int .i64 8,.int .i64 ((8*p:Nat):Int),.int .i64 9,.int .i64 (Lay.aZj k p:Int),.int .i64 ((2^k:Nat):Int),.int .i64 (9+(Lay.aZj k p:Int)),.int .i64 (Lay.aZj k p:Int),.int .i64 ((2^k:Nat):Int),.int .i64 (9+2*(Lay.aZj k p:Int)),.int .i64 (Lay.aZj k p:Int),.int .i64 ((2^k:Nat):Int),.int .i64 (9+3*(Lay.aZj k p:Int)),.int .i64 (Lay.aZj k p:Int),.int .i64 ((2^k:Nat):Int)]:=rfl
theorem pZC {dp:Nat}{d:D}{k ar:Nat}(hok:Ok d)(hg:Sup.bZz (k:Int) d.sec d.size (ar:Int)=true):
  Tr prog 40 #[.pointer (some ⟨dp,0,none⟩),.agg (Sup.bZX k d.sec d.size ar)] [Dk dp d] fun v M=>∃ mp ap rp,v= .tuple #[.pointer (some ⟨mp,0,none⟩),.int .i64 0]∧M=[pts mp (aZt ⟨k,d.sec,d.size,ar,bZq,0⟩ ap rp .none 0 0),Ar ap ar 0 [],pts rp (aZi dp 1 8 ((8*(d.size/8):Nat):Int)),Dk dp d]:=fun H hs=>by
 have hgo:=dZn hg;have hper:=eZU hgo.2.1;have hlay:Sup.bZz (k:Int) d.sec d.size (ar:Int)=true→(if Sup.bZz (k:Int) d.sec d.size (ar:Int)=true then Value.tuple #[.agg (Lay.dZh (k:Int).toNat (Lay.aZL d.size)),.int .i64 0]else .tuple #[.agg Lay.oZj,.int .i64 1])= .tuple #[.agg (Lay.dZh k (d.size/8)),.int .i64 0]:=fun h=>by rw[if_pos h,Int.toNat_natCast,hper.1]
 have hext:lZ8 d 1 8=true:=decide_eq_true (by have:=hgo.2.2.1;unfold Lay.cZN at this;omega);have hL:=Sup.rZk (k:Int) d.sec d.size (ar:Int);rw[hlay hg]at hL;apply bZK.ok;unfold bZK bZK.q1;refine hs.nw fun b1 H hs=>?_
 refine hs.ldw 1 rfl rfl ?_;refine Zc.use (hL H) ?_;simp only[HV];refine hs.nw fun b2 H hs=>?_
 refine hs.stw 2 rfl rfl rfl rfl fun H hs=>?_;refine ZB rfl ?_
 try simp only[HS]
 refine hs.lda 2 (off:=2) (n:=3) rfl (by show 2+3≤17;omega) ?_;refine(Rng.dZA (p:=dp) (d:=d) hok 1 8 ((8*(d.size/8):Nat):Int) (by omega)).use hs [0] rfl rfl ?_;rintro _ _ H (⟨_,rp,rfl,rfl⟩|⟨h,_⟩) hs
 rotate_left
 ·rw[hext]at h;cases h
 simp only[HV];refine ZB rfl ?_;have hs:Sep [Dk dp d,pts rp (aZi dp 1 8 ((8*(d.size/8):Nat):Int)),pts b1 (.obj (.cells #[.int .i64 k,.int .i64 d.sec,.int .i64 d.size,.int .i64 ar] 30)),pts b2 (.obj (.cells (Lay.dZh k (d.size/8)) 101))] H:=hs;rw[rZ2]at hs
 try simp only[HS]
 refine hs.ld 2 (v:=.int .i64 (ar:Int)) rfl rfl ?_;simp only[HV];have fin:∀(mp ap:Nat) (T:List As) (H:Hp),Sep ([Ar ap ar 0 [],Dk dp d,pts rp (aZi dp 1 8 ((8*(d.size/8):Nat):Int))]++T++[pts mp (aZt ⟨k,d.sec,d.size,ar,bZq,0⟩ ap rp .none 0 0)]) H→
   ∃ M,(∃ mp' ap' rp',(Value.tuple #[.pointer (some ⟨mp,0,none⟩),.int .i64 0])= .tuple #[.pointer (some ⟨mp',0,none⟩),.int .i64 0]∧M=[pts mp' (aZt ⟨k,d.sec,d.size,ar,bZq,0⟩ ap' rp' .none 0 0),Ar ap' ar 0 [],pts rp' (aZi dp 1 8 ((8*(d.size/8):Nat):Int)),Dk dp d])∧Sep M H:=fun mp ap T H hs=>by
  have h1:Sep ([pts mp (aZt ⟨k,d.sec,d.size,ar,bZq,0⟩ ap rp .none 0 0)]++([Ar ap ar 0 [],Dk dp d,pts rp (aZi dp 1 8 ((8*(d.size/8):Nat):Int))]++T)) H:=Sep.perm List.perm_append_comm hs;have h2:Sep [pts mp (aZt ⟨k,d.sec,d.size,ar,bZq,0⟩ ap rp .none 0 0),Ar ap ar 0 [],Dk dp d,pts rp (aZi dp 1 8 ((8*(d.size/8):Nat):Int))] H:=Sep.take (L:=T) h1;exact⟨_,⟨mp,ap,rp,rfl,rfl⟩,h2.re [0,1,3,2] rfl⟩
 have har:(1:Int)≤(ar:Int)∧(ar:Int)≤16777216:=hgo.2.2.2
 repeat' first
  |exact fin _ _ [_,_] _ hs
  |refine hs.ldw 2 rfl rfl ?_
  |refine hs.ldw 3 rfl rfl ?_
  |refine hs.ldw 4 rfl rfl ?_
  |(refine(Are.dZA (ar:Int) har).use hs [] rfl rfl ?_;rintro _ _ H ⟨ap,rfl,rfl⟩ hs)
  |refine hs.nw fun b H hs=>?_
  |(simp only[HV];try simp only[HS])
  |refine⟨?_,?_⟩
theorem Sep.unit {L:List As}{H:Hp}{X:As}(hs:Hw.Sep L H)(hX:X fun _=>none):Hw.Sep (X::L) H:=⟨fun _=>none,H,fun _ _ h=>(nomatch h),Hp.le_refl _,fun _=>.inl rfl,hX,hs⟩
theorem En.ptr {p dp:Nat}{g:Option Eg}{L:List As}{H:Hp}(h:Sep (En p dp g::L) H):∃ mo X,Sep (pts p (aZG dp mo)::X::L) H∧∀ L' H',Sep (pts p (aZG dp mo)::X::L') H'→Sep (En p dp g::L') H':=by
 cases g with
 |none=>exact⟨none,fun _=>True,(Sep.unit (X:=fun _=>True) h trivial).swap,fun L' H' h=>h.swap.tail⟩
 |some e=>
  obtain⟨mp,h⟩:=En.open h;exact⟨some mp,Me mp dp e,h,fun L' H' h=>En.shut h⟩
theorem Me.bare {mp dp ap rp:Nat}{e:Eg}{L:List As}{H:Hp}(h:Sep ([pts mp (aZt e ap rp .none 0 0),Ar ap e.arena e.peak [],pts rp (aZi dp 1 8 ((8*e.per:Nat):Int))]++L) H)(hp:psE e=[]):Sep (Me mp dp e::L) H:=by
 have h1:Sep (Own 122 8 .none 0 0 []::([pts mp (aZt e ap rp .none 0 0),Ar ap e.arena e.peak [],pts rp (aZi dp 1 8 ((8*e.per:Nat):Int))]++L)) H:=Sep.unit h (Own.none _ _ _);have h2:Sep ([pts mp (aZt e ap rp .none 0 0),Ar ap e.arena e.peak [],pts rp (aZi dp 1 8 ((8*e.per:Nat):Int))]++(Own 122 8 .none 0 0 []::L)) H:=Sep.perm List.perm_middle.symm h1;refine Me.shut (ap:=ap) (rp:=rp) (A:=.none) (m:=0) ?_;unfold gZV;rw[hp];exact h2
theorem tZJ {e:Eg}(h:e.r=bZq):psE e=[]:=by unfold psE;rw[if_neg (by rw[h];decide)]
theorem rZJ {d:D}(hpn:0<Lay.aZL (d.size:Int)){k words:Int}(h:bZN d.sec (d.size/8) k words=0):∃ kn wn:Nat,k=kn∧words=wn∧Sup.bZz kn d.sec d.size wn=true∧bZ2 kn (d.size/8)≤wn:=by
 have hper:=eZU hpn;unfold bZN at h;split at h
 ·cases h
 rename_i h1
 split at h
 ·cases h
 rename_i h2
 split at h
 ·cases h
 rename_i h3
 obtain⟨kn,rfl⟩:=Int.eq_ofNat_of_zero_le (show 0≤k by omega);obtain⟨wn,rfl⟩:=Int.eq_ofNat_of_zero_le (show 0≤words by omega);refine⟨kn,wn,rfl,rfl,decide_eq_true ?_,?_⟩
 ·rw[hper.1];have h2':¬(d.sec:Int)<Lay.cZN kn (d.size/8):=h2;refine⟨by omega,by omega,by omega,?_,by omega,by omega⟩;show(Lay.cZN kn (d.size/8):Int)≤d.sec
  omega
 ·have h3':¬(wn:Int)<bZ2 kn (d.size/8):=h3;omega
def nZx (p dp:Nat)(g:Option Eg)(d:D)(c:Cn)(k words:Int)(v:Value)(M:List As):Prop:=
 (bZN d.sec (d.size/8) k words≠0∧v= .int .i64 (bZN d.sec (d.size/8) k words)∧M=[En p dp g,Dk dp d])∨
 (∃ kn wn:Nat,k=kn∧words=wn∧bZN d.sec (d.size/8) k words=0∧
  ((∃ d' c',bZQ d d' 0 10 3∧Clean d' c'∧Holds d.sec d.size (aZ3 kn wn) c'∧v= .int .i64 0∧M=[En p dp (some (egM d (aZ3 kn wn) 0)),Dk dp d'])∨
  (∃ d',Cut d d' 13∧Left d' (fun c'=>c'=c∨lZW d.size c'∨Holds d.sec d.size (aZ3 kn wn) c')∧v= .int .i64 8∧M=[En p dp none,Dk dp d'])))
set_option maxHeartbeats 8000000 in
theorem mZt {p dp:Nat}{g:Option Eg}{d:D}{c:Cn}(hc:Clean d c)(hpn:0<Lay.aZL (d.size:Int))(ho:d.rd≤800000∧d.wr≤800000∧d.sy≤800000)(k words:Int):
  Tr prog 25 #[.pointer (some ⟨p,0,none⟩),.int .i64 k,.int .i64 words] [En p dp g,Dk dp d] (nZx p dp g d c k words):=fun H hs=>by
 have hok:=hc.ok;have hper:=eZU hpn;obtain⟨mo,X,hs,hback⟩:=En.ptr hs;apply Zh.ok;unfold Zh Zh.q5 Zh.q4 Zh.q3 Zh.q2 Zh.q2.q1 Zh.q1 Zh.q1.q2 Zh.q1.q1;refine hs.nw fun b1 H hs=>?_
 have hs:Sep [pts p (aZG dp mo),X,Dk dp d,pts b1 (.obj (.cells #[.pointer (some ⟨p,0,none⟩)] 28))] H:=hs;refine hs.ld 3 (v:=.pointer (some ⟨p,0,none⟩)) rfl rfl ?_;simp only[HV];refine(uZ4 (p:=p) (dp:=dp) (mo:=mo) hok hpn k words).use hs [0,2] rfl rfl ?_;rintro _ _ H ⟨rfl,rfl⟩ hs;simp only[HV];by_cases hfit:bZN d.sec (d.size/8) k words=0
 rotate_left
 ·exact ZK hfit ⟨_,.inl ⟨hfit,rfl,rfl⟩,hback [Dk dp d] _ (hs.re [0,2,1] rfl)⟩
 rw[hfit];refine ZB rfl ?_;obtain⟨kn,wn,rfl,rfl,hg,hlw⟩:=rZJ hpn hfit;have hgo:=dZn hg;have hneed:9≤d.sec:=by have:=hgo.2.2.1;unfold Lay.cZN at this;omega
 have hs:Sep [pts p (aZG dp mo),Dk dp d,X,pts b1 (.obj (.cells #[.pointer (some ⟨p,0,none⟩)] 28))] H:=hs;have hzl:(List.replicate d.size (0:UInt8)).length=d.size:=List.length_replicate;have bad:∀(H:Hp) (d':D),Sep [Dk dp d',pts p (aZG dp mo)] H→Cut d d' 13→Left d' (fun c'=>c'=c∨lZW d.size c'∨Holds d.sec d.size (aZ3 kn wn) c')→
   Zc prog 39 #[.pointer (some ⟨p,0,none⟩),.int .i64 8] H fun v H'=>v= .int .i64 8∧∃ M,nZx p dp g d c kn wn (.int .i64 8) M∧Sep M H':=fun H d' hs h1 h2=>by
  have hk:Zc prog 39 #[.pointer (some ⟨p,0,none⟩),.int .i64 8] H fun v H'=>∃ M,(v= .int .i64 8∧M=[pts p (aZG dp none),Dk dp d'])∧Sep M H':=by
   apply bZs.ok;unfold bZs;refine aZb rfl ?_
   try simp only[HS]
   refine hs.st 1 rfl (by show 1<2;omega) rfl fun H hs=>?_;exact⟨_,⟨by first|rfl|trivial,rfl⟩,hs.re [1,0] rfl⟩
  refine Zc.mono hk ?_;rintro _ H ⟨_,⟨rfl,rfl⟩,hs⟩;exact⟨rfl,_,.inr ⟨kn,wn,rfl,rfl,hfit,.inr ⟨d',h1,h2,rfl,rfl⟩⟩,hs⟩
 have j6:∀ mp ap rp b2 H,Sep [pts mp (aZt ⟨kn,d.sec,d.size,wn,bZq,0⟩ ap rp .none 0 0),Ar ap wn 0 [],pts rp (aZi dp 1 8 ((8*(d.size/8):Nat):Int)),Dk dp d,pts p (aZG dp mo),X,pts b1 (.obj (.cells #[.pointer (some ⟨p,0,none⟩)] 28)),pts b2 (.obj (.cells (Sup.bZX kn d.sec d.size wn) 30))] H→
   Zh.j6 (fun v H'=>∃ M,nZx p dp g d c kn wn v M∧Sep M H') ⟨b1,0,none⟩ ⟨b2,0,none⟩ (some ⟨mp,0,none⟩) 0 H:=fun mp ap rp b2 H hs=>by
  unfold Zh.j6;refine ZB rfl ?_;refine hs.ld 6 (v:=.pointer (some ⟨p,0,none⟩)) rfl rfl ?_;simp only[HV];refine hs.ld 6 (v:=.pointer (some ⟨p,0,none⟩)) rfl rfl ?_;simp only[HV]
  try simp only[HS]
  refine hs.ld 4 (v:=.pointer (some ⟨dp,0,none⟩)) rfl rfl ?_;simp only[HV]
  try simp only[HS]
  refine hs.ld 0 (v:=.pointer (some ⟨rp,0,none⟩)) rfl rfl ?_;simp only[HV];refine hs.nw fun b3 H hs=>?_
  have hres1:bZC prog 52=[53]:=by kernel_rfl
  have hres2:bZC prog 55=[53]:=by kernel_rfl
  have hres3:bZC prog 56=[53]:=by kernel_rfl
  have hres4:bZC prog 57=[53]:=by kernel_rfl
  apply ZO.ok;unfold ZO;refine⟨5,?_⟩;unfold ZO.l2;refine Zw (by decide) ⟨by decide,by decide,?_⟩;simp only[HV];refine hs.ldr 8 (v:=.func (.func 52) #[] #[.pointer (some ⟨b1,0,none⟩)]) rfl rfl ?_;refine dZW.go (by kernel_rfl) ?_;rw[hres1];have hsz32:=hok.size;have f1:∀(A3:As) (H:Hp),Sep [pts mp (aZt ⟨kn,d.sec,d.size,wn,bZq,0⟩ ap rp .none 0 0),Ar ap wn 0 [],pts rp (aZi dp 1 8 ((8*(d.size/8):Nat):Int)),Dk dp d,pts p (aZG dp mo),X,pts b1 (.obj (.cells #[.pointer (some ⟨p,0,none⟩)] 28)),pts b2 (.obj (.cells (Sup.bZX kn d.sec d.size wn) 30)),A3] H→Zc prog 52 #[.pointer (some ⟨b1,0,none⟩)] H fun v H=>v= .int .i64 (d.writeE 0 d.size)∧Sep [Dk dp (d.writeD 0 (List.replicate d.size 0)),pts mp (aZt ⟨kn,d.sec,d.size,wn,bZq,0⟩ ap rp .none 0 0),Ar ap wn 0 [],pts rp (aZi dp 1 8 ((8*(d.size/8):Nat):Int)),pts p (aZG dp mo),X,pts b1 (.obj (.cells #[.pointer (some ⟨p,0,none⟩)] 28)),pts b2 (.obj (.cells (Sup.bZX kn d.sec d.size wn) 30)),A3] H:=fun A3 H hs=>by
   apply cZn.ok;unfold cZn;simp only[HV];refine hs.ld 6 (v:=.pointer (some ⟨p,0,none⟩)) rfl rfl ?_;simp only[HV]
   try simp only[HS]
   refine hs.ld 4 (v:=.pointer (some ⟨dp,0,none⟩)) rfl rfl ?_;simp only[HV]
   try simp only[HS]
   refine aZc.use (hZC hs 3 rfl) ?_;simp only[HV];have wr1:∀(b4:Nat) (H:Hp),Sep [pts mp (aZt ⟨kn,d.sec,d.size,wn,bZq,0⟩ ap rp .none 0 0),Ar ap wn 0 [],pts rp (aZi dp 1 8 ((8*(d.size/8):Nat):Int)),Dk dp d,pts p (aZG dp mo),X,pts b1 (.obj (.cells #[.pointer (some ⟨p,0,none⟩)] 28)),pts b2 (.obj (.cells (Sup.bZX kn d.sec d.size wn) 30)),A3,pts b4 (.row (aZK [Value.int .u8 0] d.size) 5 (d.size*1))] H→
     Zc prog 53 #[.pointer (some ⟨dp,0,none⟩),.int .i64 0,.slice (some ⟨b4,0,none⟩) d.size d.size] H fun v H=>v= .int .i64 (d.writeE 0 d.size)∧Sep [Dk dp (d.writeD 0 (List.replicate d.size 0)),pts mp (aZt ⟨kn,d.sec,d.size,wn,bZq,0⟩ ap rp .none 0 0),Ar ap wn 0 [],pts rp (aZi dp 1 8 ((8*(d.size/8):Nat):Int)),pts p (aZG dp mo),X,pts b1 (.obj (.cells #[.pointer (some ⟨p,0,none⟩)] 28)),pts b2 (.obj (.cells (Sup.bZX kn d.sec d.size wn) 30)),A3] H:=fun b4 H hs=>by
    rw[fZf]at hs;refine(eZn (p:=dp) (d:=d) hok (by omega) 0 (some ⟨b4,0,none⟩) d.size d.size (List.replicate d.size 0) hzl.symm (pts b4 (.row (Zx (List.replicate d.size 0)) 5 (d.size*1))) (fun H h=>?_)).use hs [3,9] rfl rfl ?_
    ·have:=Cells.row h 0 d.size;rw[List.drop_zero,List.take_of_length_le (by rw[ZT,hzl];exact Nat.le_refl _)]at this;exact this
    rintro _ _ H ⟨rfl,rfl⟩ hs;exact⟨rfl,hs.re [0,2,3,4,5,6,7,8,9] rfl⟩
   have done:∀(v:Value) (H:Hp),(v= .int .i64 (d.writeE 0 d.size)∧Sep [Dk dp (d.writeD 0 (List.replicate d.size 0)),pts mp (aZt ⟨kn,d.sec,d.size,wn,bZq,0⟩ ap rp .none 0 0),Ar ap wn 0 [],pts rp (aZi dp 1 8 ((8*(d.size/8):Nat):Int)),pts p (aZG dp mo),X,pts b1 (.obj (.cells #[.pointer (some ⟨p,0,none⟩)] 28)),pts b2 (.obj (.cells (Sup.bZX kn d.sec d.size wn) 30)),A3] H)→DI .i64 v fun x1=>(Value.int .i64 x1= .int .i64 (d.writeE 0 d.size)∧Sep [Dk dp (d.writeD 0 (List.replicate d.size 0)),pts mp (aZt ⟨kn,d.sec,d.size,wn,bZq,0⟩ ap rp .none 0 0),Ar ap wn 0 [],pts rp (aZi dp 1 8 ((8*(d.size/8):Nat):Int)),pts p (aZG dp mo),X,pts b1 (.obj (.cells #[.pointer (some ⟨p,0,none⟩)] 28)),pts b2 (.obj (.cells (Sup.bZX kn d.sec d.size wn) 30)),A3] H):=fun v H ⟨h1,h2⟩=>by
    subst h1;simp only[HV];exact⟨by trivial,h2⟩
   repeat' first
    |exact Zc.mono (wr1 _ _ hs) done
    |refine hs.ld 6 (v:=.pointer (some ⟨p,0,none⟩)) rfl rfl ?_
    |refine hs.ld 4 (v:=.pointer (some ⟨dp,0,none⟩)) rfl rfl ?_
    |refine hs.mks eZE rfl (n:=d.size) (m:=d.size) rfl rfl (Nat.le_refl _) (by omega) (by omega) fun b4 H hs=>?_
    |(simp only[HV];try simp only[HS])
    |refine⟨?_,?_⟩
  have hp1:=jZt hc 0 (by omega) (List.replicate d.size 0) hzl;have bare0:∀ c:Cn,lZW d.size (bZE c (0:Nat) (List.replicate d.size 0)):=fun c=>jZ7 c 0 _
  refine Zc.mono (f1 _ H hs) ?_;rintro _ H ⟨rfl,hs⟩;refine eZy _ _ ?_;simp only[HV];by_cases hw1:d.writeE 0 d.size=0
  rotate_left
  ·have e1:gZ8 d (0:Nat) (List.replicate d.size 0)=(d.writeE 0 d.size,d.writeD 0 (List.replicate d.size 0)):=by unfold gZ8;exact if_pos hw1
   rw[e1]at hp1;rcases hp1 with⟨d',⟨h,_⟩|⟨h,hcut,hleft⟩⟩
   ·exact absurd (congrArg Prod.fst h) hw1
   ·have h8:=congrArg Prod.fst h;have hd:=congrArg Prod.snd h;simp only at h8 hd;rw[h8];rw[hd]at hs;refine ZK (by decide) ?_;refine Zc.mono (bad H d' (hs.re [0,4] rfl) (hcut.more (by omega)) (hleft.mono fun c' h=>?_)) ?_
    ·rcases h with e|e
     ·exact .inl e
     ·right;left;rw[e];exact bare0 c
    ·rintro _ H ⟨rfl,M,h,hs⟩;simp only[HV];exact⟨M,h,hs⟩
  refine ZB hw1 ?_;rw[show IntKind.i64.wrap ((0:Int)+1)=1 by kernel_rfl];unfold ZO.l2;refine Zw (by decide) ⟨by decide,by decide,?_⟩;simp only[HV];refine hs.ldr 8 (v:=.func (.func 55) #[.pointer (some ⟨dp,0,none⟩)] #[]) rfl rfl ?_;refine dZW.go (by kernel_rfl) ?_;rw[hres2];have hwd:(d.writeD 0 (List.replicate d.size 0)).sy=d.sy:=(nZj d 0 _).1;have hwok:Ok (d.writeD 0 (List.replicate d.size 0)):=Ok.writeD hok 0 _;have e1:gZ8 d (0:Nat) (List.replicate d.size 0)=((d.writeD 0 (List.replicate d.size 0)).syncE,(d.writeD 0 (List.replicate d.size 0)).syncD):=by unfold gZ8;exact if_neg (fun h=>h hw1)
  rw[e1]at hp1;have sy1:∀(A3:As) (H:Hp),Sep [Dk dp (d.writeD 0 (List.replicate d.size 0)),pts mp (aZt ⟨kn,d.sec,d.size,wn,bZq,0⟩ ap rp .none 0 0),Ar ap wn 0 [],pts rp (aZi dp 1 8 ((8*(d.size/8):Nat):Int)),pts p (aZG dp mo),X,pts b1 (.obj (.cells #[.pointer (some ⟨p,0,none⟩)] 28)),pts b2 (.obj (.cells (Sup.bZX kn d.sec d.size wn) 30)),A3] H→Zc prog 55 #[.pointer (some ⟨dp,0,none⟩)] H fun v H=>v= .int .i64 (d.writeD 0 (List.replicate d.size 0)).syncE∧Sep [Dk dp (d.writeD 0 (List.replicate d.size 0)).syncD,pts mp (aZt ⟨kn,d.sec,d.size,wn,bZq,0⟩ ap rp .none 0 0),Ar ap wn 0 [],pts rp (aZi dp 1 8 ((8*(d.size/8):Nat):Int)),pts p (aZG dp mo),X,pts b1 (.obj (.cells #[.pointer (some ⟨p,0,none⟩)] 28)),pts b2 (.obj (.cells (Sup.bZX kn d.sec d.size wn) 30)),A3] H:=fun A3 H hs=>by
   refine(hZz (p:=dp) (d:=d.writeD 0 (List.replicate d.size 0)) hwok (by rw[hwd];omega)).use hs [0] rfl rfl ?_;rintro _ _ H ⟨rfl,rfl⟩ hs;exact⟨rfl,hs⟩
  refine Zc.mono (sy1 _ H hs) ?_;rintro _ H ⟨rfl,hs⟩;refine eZy _ _ ?_;simp only[HV];rcases hp1 with⟨d1,⟨h,hw1',hc1⟩|⟨h,hcut,hleft⟩⟩
  rotate_left
  ·have h8:=congrArg Prod.fst h;have hd:=congrArg Prod.snd h;simp only at h8 hd;rw[h8];rw[hd]at hs;refine ZK (by decide) ?_;refine Zc.mono (bad H d1 (hs.re [0,4] rfl) (hcut.more (by omega)) (hleft.mono fun c' h=>?_)) ?_
   ·rcases h with e|e
    ·exact .inl e
    ·right;left;rw[e];exact bare0 c
   ·rintro _ H ⟨rfl,M,h,hs⟩;simp only[HV];exact⟨M,h,hs⟩
  have h8:=congrArg Prod.fst h;have hd:=congrArg Prod.snd h;simp only at h8 hd;rw[h8];rw[hd]at hs;clear h8 hd h e1;refine ZB rfl ?_;rw[show IntKind.i64.wrap ((1:Int)+1)=2 by kernel_rfl];unfold ZO.l2;refine Zw (by decide) ⟨by decide,by decide,?_⟩;simp only[HV];refine hs.ldr 8 (v:=.func (.func 56) #[.pointer (some ⟨rp,0,none⟩)] #[]) rfl rfl ?_;refine dZW.go (by kernel_rfl) ?_;rw[hres3];have hrd1:=hw1'.rd;have hwr1:=hw1'.wr;have hsy1:=hw1'.sy;have hsec1:=hw1'.sec;have hsize1:=hw1'.size;generalize hcc1:bZE c (0:Nat) (List.replicate d.size 0)=c1 at*;have hb1:lZW d.size c1:=by rw[← hcc1];exact bare0 c
  have cl1:∀(A3:As) (H:Hp),Sep [Dk dp d1,pts mp (aZt ⟨kn,d.sec,d.size,wn,bZq,0⟩ ap rp .none 0 0),Ar ap wn 0 [],pts rp (aZi dp 1 8 ((8*(d.size/8):Nat):Int)),pts p (aZG dp mo),X,pts b1 (.obj (.cells #[.pointer (some ⟨p,0,none⟩)] 28)),pts b2 (.obj (.cells (Sup.bZX kn d.sec d.size wn) 30)),A3] H→Zc prog 56 #[.pointer (some ⟨rp,0,none⟩)] H fun v H=>v= .int .i64 (iZM 1 8 0 d1).1∧Sep [Dk dp (iZM 1 8 0 d1).2,pts mp (aZt ⟨kn,d.sec,d.size,wn,bZq,0⟩ ap rp .none 0 0),Ar ap wn 0 [],pts rp (aZi dp 1 8 ((8*(d.size/8):Nat):Int)),pts p (aZG dp mo),X,pts b1 (.obj (.cells #[.pointer (some ⟨p,0,none⟩)] 28)),pts b2 (.obj (.cells (Sup.bZX kn d.sec d.size wn) 30)),A3] H:=fun A3 H hs=>by
   refine(sZ2 (b:=rp) (p:=dp) (f:=1) (n:=8) (w:=((8*(d.size/8):Nat):Int)) (by omega) hc1.ok (by omega) (by omega)).use hs [0,3] rfl rfl ?_;rintro _ _ H ⟨rfl,rfl⟩ hs;exact⟨rfl,hs.re [0,2,3,1,4,5,6,7,8] rfl⟩
  refine Zc.mono (cl1 _ H hs) ?_;rintro _ H ⟨rfl,hs⟩;refine eZy _ _ ?_;simp only[HV];have hnot0:¬inF 8 0:=fun h=>by have:=h.1;omega
  rcases mZB hc1 (n:=8) (by rw[hsec1];omega) 8 0 d1 rfl (Prog.refl _ hc1.ok hc1.down) (fun j hj=>absurd hj (by omega))with⟨d2,c2,h,hw2,hc2,hsam2,hz2⟩|⟨d2,h,hcut,hleft⟩
  rotate_left
  ·rw[h]at hs⊢;refine ZK (show(8:Int)≠0 by decide) ?_;refine Zc.mono (bad H d2 (hs.re [0,4] rfl) ((hw1'.cut hcut).more (by omega)) (hleft.mono fun c' h=>?_)) ?_
   ·right;left;show c' 0=_
    rw[h 0 hnot0];exact hb1
   ·rintro _ H ⟨rfl,M,h,hs⟩;simp only[HV];exact⟨M,h,hs⟩
  rw[h]at hs⊢;refine ZB rfl ?_;rw[show IntKind.i64.wrap ((2:Int)+1)=3 by kernel_rfl];unfold ZO.l2;refine Zw (by decide) ⟨by decide,by decide,?_⟩;simp only[HV];refine hs.ldr 8 (v:=.func (.func 57) #[] #[.pointer (some ⟨b1,0,none⟩),.pointer (some ⟨b2,0,none⟩)]) rfl rfl ?_;refine dZW.go (by kernel_rfl) ?_;rw[hres4];have hrd2:=hw2.rd;have hwr2:=hw2.wr;have hsy2:=hw2.sy;have hsec2:=hw2.sec;have hsize2:=hw2.size;have hs2:d2.size=d.size:=hsize2.trans hsize1;have hc20:lZW d.size c2:=by show c2 0=_;rw[hsam2 0 hnot0];exact hb1
  have hfl:(Sup.bZ5 kn d.sec d.size wn).length=d2.size:=by have:=Sup.iZZ kn d.sec d.size wn hpn;omega
  have hwv:Sup.wrV d2 kn d.sec d.size wn=gZ8 d2 (0:Nat) (Sup.bZ5 kn d.sec d.size wn):=by
   have e0:Sup.ofB d2 d.sec d.size=true:=decide_eq_true ⟨by rw[hsec2,hsec1],by rw[hs2]⟩;unfold Sup.wrV gZ8;rw[if_neg (by rw[hg,e0];simp),Int.toNat_natCast,←hs2];rfl
  have hnew:Holds d.sec d.size (aZ3 kn wn) (bZE c2 (0:Nat) (Sup.bZ5 kn d.sec d.size wn)):=by
   refine qZC hg hlw (jZ7 c2 0 _) fun j hj=>?_
   rw[iZC _ _ (by omega),hz2 j hj,hsize1]
  have f2:∀(A3:As) (H:Hp),Sep [Dk dp d2,pts mp (aZt ⟨kn,d.sec,d.size,wn,bZq,0⟩ ap rp .none 0 0),Ar ap wn 0 [],pts rp (aZi dp 1 8 ((8*(d.size/8):Nat):Int)),pts p (aZG dp mo),X,pts b1 (.obj (.cells #[.pointer (some ⟨p,0,none⟩)] 28)),pts b2 (.obj (.cells (Sup.bZX kn d.sec d.size wn) 30)),A3] H→Zc prog 57 #[.pointer (some ⟨b1,0,none⟩),.pointer (some ⟨b2,0,none⟩)] H fun v H=>v= .int .i64 (gZ8 d2 (0:Nat) (Sup.bZ5 kn d.sec d.size wn)).1∧Sep [Dk dp (gZ8 d2 (0:Nat) (Sup.bZ5 kn d.sec d.size wn)).2,pts mp (aZt ⟨kn,d.sec,d.size,wn,bZq,0⟩ ap rp .none 0 0),Ar ap wn 0 [],pts rp (aZi dp 1 8 ((8*(d.size/8):Nat):Int)),pts p (aZG dp mo),X,pts b1 (.obj (.cells #[.pointer (some ⟨p,0,none⟩)] 28)),pts b2 (.obj (.cells (Sup.bZX kn d.sec d.size wn) 30)),A3] H:=fun A3 H hs=>by
   apply cZo.ok;unfold cZo;simp only[HV];refine hs.ld 6 (v:=.pointer (some ⟨p,0,none⟩)) rfl rfl ?_;simp only[HV]
   try simp only[HS]
   refine hs.ld 4 (v:=.pointer (some ⟨dp,0,none⟩)) rfl rfl ?_;simp only[HV];refine hs.ldw 7 rfl rfl ?_
   try simp only[Array.toArray_toList]
   refine(Sup.sZx (p:=dp) (d:=d2) hc2.ok (by omega) kn d.sec d.size wn (by have:=hok.sec;omega)).use hs [0] rfl rfl ?_;rintro _ _ H ⟨rfl,rfl⟩ hs;rw[hwv]at hs⊢;simp only[HV];exact⟨by trivial,hs⟩
  refine Zc.mono (f2 _ H hs) ?_;rintro _ H ⟨rfl,hs⟩;refine eZy _ _ ?_;simp only[HV];rcases jZt hc2 0 (by rw[hsec2,hsec1];omega) (Sup.bZ5 kn d.sec d.size wn) hfl with⟨d3,⟨h,hw3,hc3⟩|⟨h,hcut,hleft⟩⟩
  rotate_left
  ·rw[h]at hs⊢;refine ZK (show(8:Int)≠0 by decide) ?_;refine Zc.mono (bad H d3 (hs.re [0,4] rfl) (((hw1'.trans hw2).cut hcut).more (by omega)) (hleft.mono fun c' h=>?_)) ?_
   ·rcases h with e|e
    ·right;left;rw[e];exact hc20
    ·right;right;rw[e];exact hnew
   ·rintro _ H ⟨rfl,M,h,hs⟩;simp only[HV];exact⟨M,h,hs⟩
  rw[h]at hs⊢;refine ZB rfl ?_;rw[show IntKind.i64.wrap ((3:Int)+1)=4 by kernel_rfl];unfold ZO.l2;refine Zm (by decide) ?_;simp only[HV];refine aZb rfl ?_;refine hs.ld 6 (v:=.pointer (some ⟨p,0,none⟩)) rfl rfl ?_;simp only[HV]
  try simp only[HS]
  refine hs.st 4 rfl (by show 1<2;omega) rfl fun H hs=>?_;refine⟨_,.inr ⟨kn,wn,rfl,rfl,hfit,.inl ⟨d3,_,(hw1'.trans hw2).trans hw3,hc3,hnew,rfl,rfl⟩⟩,?_⟩;refine En.shut (mp:=mp) (e:=egM d (aZ3 kn wn) 0) (L:=[Dk dp d3]) ?_;exact(Me.bare (ap:=ap) (rp:=rp) (e:=egM d (aZ3 kn wn) 0) (L:=[pts p (aZG dp (some mp)),Dk dp d3]) (hs.re [1,2,3,4,0] rfl) (tZJ rfl)).swap
 have fo:∀(H:Hp) (b2:Nat),Sep [pts p (aZG dp mo),Dk dp d,X,pts b1 (.obj (.cells #[.pointer (some ⟨p,0,none⟩)] 28)),pts b2 (.obj (.cells (Sup.bZX kn d.sec d.size wn) 30))] H→Zc prog 40 #[.pointer (some ⟨dp,0,none⟩),.agg (Sup.bZX kn d.sec d.size wn)] H fun v H=>∃ mp ap rp,v= .tuple #[.pointer (some ⟨mp,0,none⟩),.int .i64 0]∧Sep [pts mp (aZt ⟨kn,d.sec,d.size,wn,bZq,0⟩ ap rp .none 0 0),Ar ap wn 0 [],pts rp (aZi dp 1 8 ((8*(d.size/8):Nat):Int)),Dk dp d,pts p (aZG dp mo),X,pts b1 (.obj (.cells #[.pointer (some ⟨p,0,none⟩)] 28)),pts b2 (.obj (.cells (Sup.bZX kn d.sec d.size wn) 30))] H:=fun H b2 hs=>by
  refine(pZC (dp:=dp) hok hg).use hs [1] rfl rfl ?_;rintro _ _ H ⟨mp,ap,rp,rfl,rfl⟩ hs;exact⟨mp,ap,rp,rfl,hs⟩
 have j5:∀ b2 H,Sep [pts p (aZG dp mo),Dk dp d,X,pts b1 (.obj (.cells #[.pointer (some ⟨p,0,none⟩)] 28)),pts b2 (.obj (.cells (Sup.bZX kn d.sec d.size wn) 30))] H→
   Zh.j5 (fun v H'=>∃ M,nZx p dp g d c kn wn v M∧Sep M H') ⟨b1,0,none⟩ ⟨b2,0,none⟩ H:=fun b2 H hs=>by
  unfold Zh.j5 Zh.j5.q1
  repeat' first
   |(refine Zc.mono (fo _ _ hs) ?_;rintro _ H ⟨mp,ap,rp,rfl,hs⟩;simp only[HV];exact j6 mp ap rp _ H hs)
   |refine hs.ld 3 (v:=.pointer (some ⟨p,0,none⟩)) rfl rfl ?_
   |refine hs.ld 0 (v:=.pointer (some ⟨dp,0,none⟩)) rfl rfl ?_
   |refine hs.ldw 4 rfl rfl ?_
   |(simp only[HV];try simp only[aZ5,Addr.add_lit',Addr.add_zero,Nat.zero_add,Nat.add_zero,Array.toArray_toList])
   |refine⟨?_,?_⟩
 have hsz:∀(H:Hp) (T:List As) (K:Value→Prop),Sep ([pts p (aZG dp mo),Dk dp d,X,pts b1 (.obj (.cells #[.pointer (some ⟨p,0,none⟩)] 28))]++T) H→K (.int .i64 (d.sec:Int))→aZc prog 50 #[.pointer (some ⟨dp,0,none⟩)] H K:=fun H T K hs h=>aZc.use (eZN hs 1 rfl) h
 have hsy:∀(H:Hp) (T:List As) (K:Value→Prop),Sep ([pts p (aZG dp mo),Dk dp d,X,pts b1 (.obj (.cells #[.pointer (some ⟨p,0,none⟩)] 28))]++T) H→K (.int .i64 (d.size:Int))→aZc prog 51 #[.pointer (some ⟨dp,0,none⟩)] H K:=fun H T K hs h=>aZc.use (hZC hs 1 rfl) h
 repeat' first
  |exact j5 _ _ hs
  |refine hs.ld 3 (v:=.pointer (some ⟨p,0,none⟩)) rfl rfl ?_
  |refine hs.ld 0 (v:=.pointer (some ⟨dp,0,none⟩)) rfl rfl ?_
  |refine hsz _ [] _ hs ?_
  |refine hsy _ [] _ hs ?_
  |refine hsz _ [_] _ hs ?_
  |refine hsy _ [_] _ hs ?_
  |refine hs.nw fun b H hs=>?_
  |refine hs.stw 4 rfl rfl rfl rfl fun H hs=>?_
  |(simp only[HV];try simp only[HS])
  |refine⟨?_,?_⟩
theorem pZd {p:Nat}{d:D}{c:Cn}(hc:Clean d c)(ho:d.rd≤1000000):
  Tr prog 38 #[.pointer (some ⟨p,0,none⟩)] [Dk p d] fun v M=>(d.fuse≠1∧v= .tuple #[.agg (Sup.sbV (Sup.rdV d (c 0)).1),.int .i64 (Sup.rdV d (c 0)).2]∧M=[Dk p (D.rdG d 1)])∨(d.fuse=1∧v= .tuple #[.agg (Sup.bZX 0 0 0 0),.int .i64 8]∧M=[Dk p (D.dead d)]):=fun H hs=>by
 have hok:=hc.ok;have hsec:=hok.sec;have hchk:d.chk 0=0:=gZw hc.down (Int.le_refl _) (by omega);by_cases hf:d.fuse=1
 ·have hbn:d.burns=true:=by unfold D.burns;simp[hf]
  apply eZc.ok;unfold eZc;refine hs.nw fun b1 H hs=>?_
  refine(jZP (p:=p) (d:=d) hok (by omega) 0).use hs [0] rfl rfl ?_;rintro _ _ H (⟨h,_,_⟩|⟨_,_,rfl,rfl⟩|⟨_,h,_⟩) hs
  ·exact absurd hchk h
  ·simp only[HV];refine ZK (by decide) ?_;refine hs.stw 1 rfl rfl rfl rfl fun H hs=>?_;refine hs.ldw 1 rfl rfl ?_;rw[eZP hf]at hs;exact⟨_,.inr ⟨hf,rfl,rfl⟩,hs.re [0] rfl⟩
  ·rw[hbn]at h;cases h
 ·have hbn:d.burns=false:=by unfold D.burns;exact decide_eq_false hf
  have e:({ d.burnt with rd:=d.rd+1}:D)=D.rdG d 1:=by rw[eZp hc.down hf];rfl
  refine Zc.mono (Sup.tZQ hok ho hchk hbn H hs) ?_;rintro v H ⟨M,⟨rfl,rfl⟩,hs⟩;rw[e]at hs;rw[hc.now];exact⟨_,.inl ⟨hf,rfl,rfl⟩,hs⟩
def wZA (p dp:Nat)(d:D)(c:Cn)(o:Option Mn)(v:Value)(M:List As):Prop:=
 (∃ d',o=none∧bZQ d d' 1 0 0∧Clean d' c∧v= .int .i64 11∧M=[En p dp none,Dk dp d'])∨
 (∃ d' m,o=some m∧bZQ d d' 9 0 0∧Clean d' c∧v= .int .i64 0∧M=[En p dp (some (egM d m 0)),Dk dp d'])∨
 (∃ d',Cut d d' 9∧(o=none→d.fuse=1)∧Left d' (fun c'=>c'=c)∧v= .int .i64 8∧M=[En p dp none,Dk dp d'])
theorem Cut.dead {d:D}{c:Cn}(hc:Clean d c)(hf:d.fuse=1):Cut d (D.dead d) 1∧Left (D.dead d) (fun c'=>c'=c):=by
 have h1:=Cut.rdG hc (j:=0) (n:=1) hf (by omega);have h2:=Left.rdG hc 0;rw[oZG]at h1 h2;exact⟨h1,h2⟩
set_option maxHeartbeats 4000000 in
theorem qZj {p dp:Nat}{g:Option Eg}{d:D}{c:Cn}(hc:Clean d c)(hpn:0<Lay.aZL (d.size:Int))(ho:d.rd≤800000∧d.wr≤800000∧d.sy≤800000){o:Option Mn}(hh:xZa d.sec d.size o c):
  Tr prog 16 #[.pointer (some ⟨p,0,none⟩)] [En p dp g,Dk dp d] (wZA p dp d c o):=fun H hs=>by
 have hok:=hc.ok;have hper:=eZU hpn;obtain⟨mo,X,hs,hback⟩:=En.ptr hs;have chk8:∀(T:List As) (H:Hp) (K:Value→Hp→Prop),Sep ([pts p (aZG dp mo)]++T) H→(∀ H,Sep ([pts p (aZG dp none)]++T) H→K (.int .i64 8) H)→Zc prog 39 #[.pointer (some ⟨p,0,none⟩),.int .i64 8] H K:=fun T H K hs hk=>by
  apply bZs.ok;unfold bZs;refine aZb rfl ?_
  try simp only[HS]
  refine hs.st 0 rfl (by show 1<2;omega) rfl fun H hs=>?_;exact hk H hs
 apply aZC.ok;unfold aZC
 try simp only[HS]
 refine hs.ld 0 (v:=.pointer (some ⟨dp,0,none⟩)) rfl rfl ?_;simp only[HV];refine(pZd (p:=dp) hc (by omega)).use hs [2] rfl rfl ?_;rintro _ _ H (⟨hf,rfl,rfl⟩|⟨hf,rfl,rfl⟩) hs
 rotate_left
 ·simp only[HV];refine hs.nw fun b1 H hs=>?_
  refine hs.stw 3 rfl rfl rfl rfl fun H hs=>?_;refine aZb rfl ?_;obtain⟨h1,h2⟩:=Cut.dead hc hf;refine chk8 [Dk dp (D.dead d)] H _ (hs.re [1,0] rfl) fun H hs=>?_;simp only[HV];exact⟨_,.inr (.inr ⟨_,h1.more (by omega),fun _=>hf,h2,rfl,rfl⟩),hs⟩
 have hgo1:d.fuse=0∨1<d.fuse:=by omega
 have hw1:=bZQ.rdG hgo1;have hc1:=hc.rdG 1;cases o with
 |none=>
  have h0:c 0=List.replicate d.size 0:=hh;have e:Sup.rdV d (c 0)=((0,0,0,0),10):=by
   unfold Sup.rdV;rw[h0,Sup.qZ0 d.size hpn];rfl
  rw[e];simp only[HV];refine hs.nw fun b1 H hs=>?_
  refine hs.stw 3 rfl rfl rfl rfl fun H hs=>?_;refine aZm (by decide) (ZK (by decide) ?_)
  try simp only[HS]
  refine hs.st 1 rfl (by show 1<2;omega) rfl fun H hs=>?_;exact⟨_,.inl ⟨_,rfl,hw1,hc1,rfl,rfl⟩,hs.re [1,0] rfl⟩
 |some m=>
  have hh:Holds d.sec d.size m c:=hh;have hgo:=dZn hh.good;have hneed:9≤d.sec:=by have:=hgo.2.2.1;unfold Lay.cZN at this;omega
  have hsec:=hok.sec;have e:Sup.rdV d (c 0)=(((m.most:Int),(d.sec:Int),(d.size:Int),(m.arena:Int)),0):=by
   unfold Sup.rdV;rw[hh.sup,Sup.qZZ _ _ _ _ hh.good (by omega),if_neg (by simp)];exact if_pos (show Sup.ofB d d.sec d.size=true from decide_eq_true ⟨rfl,rfl⟩)
  rw[e];simp only[HV];refine hs.nw fun b1 H hs=>?_
  refine hs.stw 3 rfl rfl rfl rfl fun H hs=>?_;refine aZm (by decide) (ZB rfl ?_);generalize hd1:D.rdG d 1=d1 at*;have hsec1:d1.sec=d.sec:=hw1.sec;have hsize1:d1.size=d.size:=hw1.size;have hh1:Holds d1.sec d1.size m c:=by rw[hsec1,hsize1];exact hh
  have hs:Sep [Dk dp d1,pts p (aZG dp mo),X,pts b1 (.obj (.cells (Sup.bZX m.most d.sec d.size m.arena) 30))] H:=hs;have fo:∀(H:Hp),Sep [Dk dp d1,pts p (aZG dp mo),X,pts b1 (.obj (.cells (Sup.bZX m.most d.sec d.size m.arena) 30))] H→Zc prog 40 #[.pointer (some ⟨dp,0,none⟩),.agg (Sup.bZX m.most d.sec d.size m.arena)] H fun v H=>∃ mp ap rp,v= .tuple #[.pointer (some ⟨mp,0,none⟩),.int .i64 0]∧Sep [pts mp (aZt ⟨m.most,d.sec,d.size,m.arena,bZq,0⟩ ap rp .none 0 0),Ar ap m.arena 0 [],pts rp (aZi dp 1 8 ((8*(d.size/8):Nat):Int)),Dk dp d1,pts p (aZG dp mo),X] H:=fun H hs=>by
   rw[← hsec1,←hsize1]at hs⊢;refine(pZC (dp:=dp) hc1.ok hh1.good).use hs [0] rfl rfl ?_;rintro _ _ H ⟨mp,ap,rp,rfl,rfl⟩ hs;exact⟨mp,ap,rp,rfl,hs.re [0,1,2,3,4,5] rfl⟩
  have j8:∀ mp ap rp H,Sep [pts mp (aZt ⟨m.most,d.sec,d.size,m.arena,bZq,0⟩ ap rp .none 0 0),Ar ap m.arena 0 [],pts rp (aZi dp 1 8 ((8*(d.size/8):Nat):Int)),Dk dp d1,pts p (aZG dp mo),X] H→
    aZC.j8 (fun v H'=>∃ M,wZA p dp d c (some m) v M∧Sep M H') (some ⟨p,0,none⟩) 0 (some ⟨mp,0,none⟩) H:=fun mp ap rp H hs=>by
   unfold aZC.j8;refine ZB rfl ?_
   try simp only[HS]
   refine hs.ld 0 (v:=.pointer (some ⟨rp,0,none⟩)) rfl rfl ?_;simp only[HV];have hrd1:=hw1.rd;refine(pZh (b:=rp) (p:=dp) (f:=1) (n:=8) (w:=((8*(d.size/8):Nat):Int)) (d:=d1) (by omega) (by omega) hc1.ok (by omega) (fun _=>by
    have:=jZy 1 8 8 0 d1 [];have h9:(aZ4 1 8 d1).2.2.length≤0+8:=this;omega)).use hs [3,2] rfl rfl ?_
   rintro _ _ H ⟨rfl,rfl⟩ hs;have hs:Sep [Dk dp (aZ4 1 8 d1).2.1,pts rp (aZi dp 1 8 ((8*(d.size/8):Nat):Int)),pts mp (aZt ⟨m.most,d.sec,d.size,m.arena,bZq,0⟩ ap rp .none 0 0),Ar ap m.arena 0 [],pts p (aZG dp mo),X] H:=hs;simp only[HV];refine hs.nw fun b2 H hs=>?_
   refine hs.stw 6 rfl rfl (y:=R.c _) rfl (fZb _) fun H hs=>?_;rcases kZu hc1 1 8 (by rw[hsec1];omega)with⟨hf2,hsc⟩|⟨j,hj,hf2,hsc⟩
   ·rw[hsc]at hs⊢;rw[oZi,hh1.lastC]at hs;refine ZB rfl ?_;refine hs.ldw 6 rfl rfl ?_
    try simp only[Array.toArray_toList]
    try simp only[HS]
    refine hs.sta 2 (off:=23) (n:=8) (y:=R.c m.r) rfl (by show 23+8≤32;omega) rfl (fZb _) fun H hs=>?_;have hs:Sep [Dk dp (D.rdG d1 8),pts rp (aZi dp 1 8 ((8*(d.size/8):Nat):Int)),pts mp (aZt (egM d m 0) ap rp .none 0 0),Ar ap m.arena 0 [],pts p (aZG dp mo),X,pts b2 (.obj (.cells (R.c m.r) 93))] H:=hs;have he:=hh.eg (peak:=0) (by omega);have hkk:=he.kk0;refine(rZZ (mp:=mp) (ap:=ap) (rp:=rp) (e:=egM d m 0) (A:=.none) (n:=0) (m:=0) he.most he.p ⟨he.least,he.arena⟩ (fun _=>⟨hkk.1,he.kk,he.dir⟩)).use hs [2] rfl rfl ?_;rintro _ _ H ⟨A',m',rfl,rfl⟩ hs
    try simp only[HV]
    try simp only[HS]
    refine hs.st 5 rfl (by show 1<2;omega) rfl fun H hs=>?_;refine⟨_,.inr (.inl ⟨_,m,rfl,hw1.trans (bZQ.rdG hf2),hc1.rdG 8,rfl,rfl⟩),?_⟩;exact En.unwhole (mp:=mp) (ap:=ap) (rp:=rp) (A:=A') (m:=m') (e:=egM d m 0) (L:=[Dk dp (D.rdG d1 8)]) (hs.re [5,0,4,3,1,2] rfl)
   ·rw[hsc]at hs⊢;refine ZK (show(8:Int)≠0 by decide) ?_;refine chk8 [Dk dp (D.dead (D.rdG d1 j))] H _ (hs.re [4,0] rfl) fun H hs=>?_;simp only[HV];have hcut:=hw1.cut (Cut.rdG hc1 hf2 hj);exact⟨_,.inr (.inr ⟨_,hcut.more (by omega),fun h=>(by cases h),Left.rdG hc1 j,rfl,rfl⟩),hs⟩
  try simp only[HS]
  repeat' first
   |(refine Zc.mono (fo _ hs) ?_;rintro _ H ⟨mp,ap,rp,rfl,hs⟩;simp only[HV];exact j8 mp ap rp H hs)
   |refine hs.ld 1 (v:=.pointer (some ⟨dp,0,none⟩)) rfl rfl ?_
   |refine hs.ldw 3 rfl rfl ?_
   |(simp only[HV];try simp only[aZ5,Addr.add_lit',Addr.add_zero,Nat.zero_add,Nat.add_zero,Array.toArray_toList])
   |refine⟨?_,?_⟩
end Eng
namespace W
open Go Go.Hw
end W
namespace Eng
open Go Go.Hw Go.Form W Shp Dsk Str Are Trn Pas Pln Rec Srt Rng
theorem jZh {dp:Nat}:Tr prog 24 #[.pointer (some ⟨dp,0,none⟩)] [] fun v M=>∃ p,v= .pointer (some ⟨p,0,none⟩)∧M=[En p dp none]:=fun H hs=>by
 apply fZY.ok;unfold fZY;refine aZu rfl ?_;refine hs.nw fun p H hs=>?_
 exact⟨_,⟨p,rfl,rfl⟩,hs⟩
section
variable {p dp : Nat}
end
end Eng
namespace Eng
open Go Go.Hw Go.Form W Shp Dsk Str Are Trn Ker Fft Pas Pln
theorem qZM {k per words:Nat}(hk:k≤32)(hp:per≤512)(hw:words≤16777216)(d:Bool):
  Tr prog 64 #[.int .i64 (k:Int),.int .i64 (if d=true then 1 else 0),.int .i64 (per:Int),.int .i64 (words:Int)] [] fun v M=>∃ b,v= .slice (some ⟨b,0,none⟩) (aZM d k per words).length (aZM d k per words).length∧M=[pts b (.row (bZA (aZM d k per words)) 122 ((aZM d k per words).length*8))]:=fun H hs=>by
 have h2:=cZT hk;have h0:=Int.natCast_nonneg (2^k);apply aZa.ok;unfold aZa;have j6:jZC k per words=false→aZa.j6 (fun v H'=>∃ M,(∃ b,v= .slice (some ⟨b,0,none⟩) (aZM d k per words).length (aZM d k per words).length∧M=[pts b (.row (bZA (aZM d k per words)) 122 ((aZM d k per words).length*8))])∧Sep M H') (k:Int) (if d=true then 1 else 0) ((eZW d k).toNat:Int) H:=fun hb=>by
  have hpl:aZM d k per words=hZp d k:=by unfold aZM;rw[if_neg (by rw[hb];decide)]
  unfold aZa.j6;rw[show Int.tdiv (k:Int) 2=((k/2:Nat):Int)from rfl,bZi (n:=k/2) (by omega),show(k:Int)-((k/2:Nat):Int)=((k-k/2:Nat):Int) by omega,bZi (n:=k-k/2) (by omega)];refine⟨by decide,by simp,?_⟩;refine Zc.use (iZV (k/2) (by omega) H) ?_;simp only[HV];refine⟨by decide,by simp,?_⟩;refine Zc.use (iZV (k-k/2) (by omega) H) ?_;simp only[HV];refine hs.nw fun b2 H hs=>?_
  refine hs.stw 0 rfl rfl rfl rfl fun H hs=>?_
  try simp only[HS]
  refine hs.ld 0 (v:=.int .i64 ((2^(k-k/2):Nat):Int)) rfl rfl ?_;simp only[HV];refine hs.ld 0 (v:=.int .i64 ((2^(k/2):Nat):Int)) rfl rfl ?_;simp only[HV];refine hs.nw fun b3 H hs=>?_
  refine hs.stw 1 rfl rfl rfl rfl fun H hs=>?_;refine hs.ldw 0 rfl rfl ?_;simp only[HV];refine hs.ldw 1 rfl rfl ?_;simp only[HV];refine hs.ldw 1 rfl rfl ?_;simp only[HV];refine hs.ldw 0 rfl rfl ?_;simp only[HV];refine hs.ldw 0 rfl rfl ?_;simp only[HV];refine hs.nw fun b4 H hs=>?_
  rw[hpl];exact⟨_,⟨b4,rfl,rfl⟩,hs.re [2] rfl⟩
 have j4:aZa.j4 (fun v H'=>∃ M,(∃ b,v= .slice (some ⟨b,0,none⟩) (aZM d k per words).length (aZM d k per words).length∧M=[pts b (.row (bZA (aZM d k per words)) 122 ((aZM d k per words).length*8))])∧Sep M H') (k:Int) (if d=true then 1 else 0) (per:Int) (words:Int) ((eZW d k).toNat:Int) H:=by
  unfold aZa.j4;by_cases h20:(k:Int)≤20
  ·refine Zw h20 ?_;refine Zc.use (iZV k (by omega) H) ?_;simp only[HV];rw[ZV (x:=(2:Int)*((2^k:Nat):Int)) (by omega) (by omega),ZV (x:=(2:Int)*((2^k:Nat):Int)+(per:Int)) (by omega) (by omega)];by_cases hle:(2:Int)*((2^k:Nat):Int)+(per:Int)≤(words:Int)
   ·refine Zw hle ?_;refine Zc.use (iZV k (by omega) H) ?_;simp only[HV];refine hs.nw fun b4 H hs=>?_
    have hpl:aZM d k per words=[jZD d k]:=if_pos (show jZC k per words=true from decide_eq_true ⟨by omega,by omega⟩);rw[hpl];exact⟨_,⟨b4,rfl,rfl⟩,hs.re [0] rfl⟩
   ·refine Zm hle (j6 (decide_eq_false (by omega)))
  ·exact Zm h20 (j6 (decide_eq_false (by omega)))
 cases d with
 |false=>exact aZm (by decide) j4
 |true=>
  refine aZb rfl ?_;refine Zc.use (mZ5 k hk H) ?_;simp only[HV];have e:((Fft.pw half k).val:Int)=((eZW true k).toNat:Int):=by show _=((uw (Fft.pw half k)).toNat:Int);rw[lZR]
  rw[e];exact j4
end Eng
namespace Eng
open Go Go.Hw Go.Form W Shp Dsk Str Are Trn Pas Pln
abbrev O3 :=Nat×Nat×Nat
def smO (B:Nat)(o:O3):Prop:=o.1≤B∧o.2.1≤B∧o.2.2≤B
def uZn (most k words:Nat)(ps:List Pz)(cs:List O3):Prop:=cs.length=ps.length∧∀(i:Nat) (pz:Pz) (o:O3),ps[i]? =some pz→cs[i]? =some o→∃ r w,jZL 4 words (exX most 4 pz.f k).f (exX most 4 pz.o k).f pz r w∧o=(r+Lay.aZj k 4,w,1)∧smO 1000000000 o
theorem uZn.small {most k words:Nat}{ps:List Pz}{cs:List O3}(h:uZn most k words ps cs):∀ o∈cs,smO 1000000000 o:=fun o ho=>by
 obtain⟨i,hi,rfl⟩:=List.getElem_of_mem ho;have hp:i<ps.length:=by rw[← h.1];exact hi
 obtain⟨_,_,_,_,hs⟩:=h.2 i _ _ (List.getElem?_eq_getElem hp) (List.getElem?_eq_getElem hi);exact hs
theorem iZS {e:TypeId}{s:Nat}{A:Option Addr}{n m:Nat}{xs:List Value}{H:Hp}(h:Own e s A n m xs H):Cells H A xs:=by
 obtain⟨h1,⟨rfl,rfl,rfl⟩|⟨b,mm,rfl,h4,_⟩⟩:=h
 ·rw[Nat.zero_mul]at h1;rw[List.length_eq_zero_iff.1 h1];exact Cells.nil _ _
 ·have:=Cells.row h4 0 xs.length
  rwa [List.drop_zero,List.take_length]at this
section
variable {most k words : Nat} (hm : most ≤ 32) (hk : k ≤ most) (hk6 : k ≤ 6) (hw : words ≤ 1000) {H0 : Hp} (hT : T64 H0)
include hm hk hk6 hw hT
end
end Eng
namespace Eng
open Go Go.Hw Go.Form W Shp Dsk Str Are Trn Ker Fft Pas Pln
theorem tZR (d:Bool)(k:Nat)(l:List UInt64):cZs (zw 1) (cZP d k l)=cZP d k l:=by
 have e1:zw 1=1:=by decide
 apply List.ext_getElem?;intro i;by_cases hi:i<2^k
 ·rw[kZU _ (hZH d k l hi),hZH d k l hi,jZ8,e1];congr 2;grind
 ·rw[List.getElem?_eq_none (by rw[gZA,eZR];omega),List.getElem?_eq_none (by rw[eZR];omega)]
theorem nZb (k:Nat)(l:List UInt64):tfL false k l=cZP false k l:=tZR false k l
theorem uZb (k:Nat)(l:List UInt64):tfL true k l=cZs (Fft.pw half k) (cZP true k l):=by
 show cZs (zw (uw (Fft.pw half k))) _=_
 rw[jZ8]
theorem nZ1 {R:As}{A:Option Addr}{n m k:Nat}{l:List UInt64}(hR:∀ H,R H→Cells H A (Zd l))(hl:l.length=n)(hn:n=2^k)(hk:k≤20)(d:Bool):
  Tr prog 21 #[.slice A n m,.int .i64 (k:Int),.int .i64 (if d=true then 1 else 0)] [R] fun v M=>∃ A2 m2,v= .slice A2 n m2∧M=[Own 84 1 A2 n m2 (Zd (tfL d k l)),R]:=fun H hs=>by
 have h20:=aZW hk;apply cZm.ok;unfold cZm;refine(vZo hR hl hn hk d).use hs [0] rfl rfl ?_;rintro _ _ H ⟨A2,m2,rfl,rfl⟩ hs;simp only[HV];cases d with
 |false=>
  refine aZm (by decide) ?_;rw[nZb];exact⟨_,⟨A2,m2,rfl,rfl⟩,hs.re [0,1] rfl⟩
 |true=>
  refine aZb rfl ?_;refine Zc.use (mZ5 k (by omega) H) ?_;simp only[HV];refine(sZn (R:=Own 84 1 A2 n m2 (Zd (cZP true k l))) (l:=cZP true k l) (Fft.pw half k).val (by have:=(Fft.pw half k).isLt;omega) (fun H h=>?_) (by rw[eZR,hn]) (by omega)).use hs [0] rfl rfl ?_
  ·exact iZS h
  rintro _ _ H ⟨A3,m3,rfl,rfl⟩ hs;simp only[HV];rw[fZT,←uZb]at hs;exact⟨_,⟨A3,m3,rfl,rfl⟩,hs.re [0,2] rfl⟩
end Eng
namespace W
open Go Go.Hw
theorem cZf :prog.follows .mixedOrders=true:=by kernel_rfl
def aZr.l9 (K:Value→Hp→Prop):Nat→Option Addr→Nat→Nat→Addr→Addr→Int→Int→Hp→Prop
 |0,_,_,_,_,_,_,_,_=>False
 |k+1,A2,n2,m2,a1,a2,x4,x5,H=>
  let R9:=aZr.l9 K k
  BIf (decide (x5<(n2:Int))) (ixI x5 n2 (NN A2 fun a3=>LeW H (a3.add (x5.toNat*1)) fun x6=>BIf (decide (x6≥18446744069414584321)) (LdA H a1 12 fun l4=>StA H a2 l4.toArray 12 fun H7=>LdA H7 a2 12 fun l9=>K (.tuple #[.agg l9.toArray,.int .i64 x5,.int .i64 3]) H7) (R9 A2 n2 m2 a1 a2 x4 (IntKind.i64.wrap (x5+1)) H))) (LeI H (a1.add 10) fun x7=>St H ((a1.add 10).add 0) (.int .i64 (IntKind.i64.wrap (x7+1))) fun H8=>LeI H8 (a1.add 10) fun x8=>StA H8 (a1.add 0) #[.int .i64 2,.int .i64 x8,.int .i64 x4,.int .i64 0,.int .i64 0,.int .i64 0] 6 fun H9=>Nw H9 (.row [] 84 0) fun b3 H10=>cZ7 prog 84 (.slice (some ⟨b3,0,none⟩) 0 0) (.slice A2 n2 m2) H10 fun v7 H11=>DSl v7 fun A3 n3 m3=>St H11 ((a1.add 11).add 0) (.slice A3 n3 m3) fun H12=>LdA H12 a1 12 fun l5=>StA H12 a2 l5.toArray 12 fun H13=>LdA H13 a2 12 fun l10=>K (.tuple #[.agg l10.toArray,.int .i64 0,.int .i64 0]) H13)
def aZr (y1:Array Value)(A1:Option Addr)(n1:Nat)(m1:Nat)(H:Hp)(K:Value→Hp→Prop):Prop:=
 Nw H (.obj (.cells y1 73)) fun b1 H1=>Nw H1 (.obj (.cells #[.int .i64 0,.int .i64 0,.int .i64 0,.int .i64 0,.int .i64 0,.int .i64 0,.int .i64 0,.int .i64 0,.int .i64 0,.int .i64 0,.int .i64 0,.slice none 0 0] 73)) fun b2 H2=>LeI H2 (((⟨b1,0,none⟩:Addr).add 0).add 0) fun x1=>BIf (x1==0) (LdA H2 ⟨b1,0,none⟩ 12 fun l1=>StA H2 ⟨b2,0,none⟩ l1.toArray 12 fun H3=>LdA H3 ⟨b2,0,none⟩ 12 fun l6=>K (.tuple #[.agg l6.toArray,.int .i64 0,.int .i64 5]) H3) (HcI 33 #[.int .i64 (n1:Int)] H2 fun x2 H4=>BIf (decide (x2<0)) (LdA H4 ⟨b1,0,none⟩ 12 fun l2=>StA H4 ⟨b2,0,none⟩ l2.toArray 12 fun H5=>LdA H5 ⟨b2,0,none⟩ 12 fun l7=>K (.tuple #[.agg l7.toArray,.int .i64 0,.int .i64 4]) H5) (LeI H4 ((⟨b1,0,none⟩:Addr).add 6) fun x3=>BIf (decide (x2>x3)) (LdA H4 ⟨b1,0,none⟩ 12 fun l3=>StA H4 ⟨b2,0,none⟩ l3.toArray 12 fun H6=>LdA H6 ⟨b2,0,none⟩ 12 fun l8=>K (.tuple #[.agg l8.toArray,.int .i64 0,.int .i64 14]) H6) ((∃ k,aZr.l9 K k A1 n1 m1 ⟨b1,0,none⟩ ⟨b2,0,none⟩ x2 0 H4))))
def aZr.l9.L (K:Value→Hp→Prop)(k:Nat):Mid:=fun E D H=>
 DG (E.get? 1) fun w1=>DSl w1 fun A2 n2 m2=>eN E 2 fun a1=>eN E 4 fun a2=>eI E 7 .i64 fun x4=>eI E 8 .i64 fun x5=>Zo D (aZr.l9 K k A2 n2 m2 a1 a2 x4 x5 H)
def aZr.Λ9 (_:Value→Hp→Prop)(_R9:Option Addr→Nat→Nat→Addr→Addr→Int→Int→Hp→Prop):Zn:=Zn.none (fun _=>none)
def aZr.Λ (K:Value→Hp→Prop):Zn:=⟨fun i=>none,fun i=>match Nat.beq i 9 with|true=>some (fun E D H=>∃ k,aZr.l9.L K k E D H)|false=>none,(fun _=>none)⟩
theorem aZr.ok (y1:Array Value)(A1:Option Addr)(n1:Nat)(m1:Nat)(H:Hp)(K:Value→Hp→Prop)(h:aZr y1 A1 n1 m1 H K):Zc prog 26 #[.agg y1,.slice A1 n1 m1] H K:=
 Zr Tryz.func26 rfl (nbl rfl) (Zf (Λ:=(aZr.Λ K)) cZf _ _ _ _ _ (Eq.mp (by kernel_rfl) h) (Zb Za rfl (Zb (Zb Za rfl (Zk (Zb Za rfl Zy) Zl)) rfl (Zb Za rfl (Zb (Zb Za rfl (Zk (Zb Za rfl Zy) Zl)) rfl (Zb (Zb Za rfl (Zk (Zb Za rfl Zy) Zl)) rfl (Zb (Zb Za rfl (Zu (ZZ rfl (fun E D H h=>by
   refine Safe.loop' (aZr.l9.L K) (fun E D H h=>?_) (fun k E D H h=>?_) E D H h
   ·obtain⟨w1,e1,g1⟩:=DG.out h;obtain⟨A2,n2,m2,rfl,g2⟩:=DSl.out g1;obtain⟨w2,e2,g3⟩:=DG.out g2;obtain⟨pw2,rfl,g4⟩:=DP.out g3;obtain⟨a1,rfl,g5⟩:=NN.out g4;obtain⟨w4,e4,g6⟩:=DG.out g5;obtain⟨pw4,rfl,g7⟩:=DP.out g6;obtain⟨a2,rfl,g8⟩:=NN.out g7;obtain⟨w7,e7,g9⟩:=DG.out g8;obtain⟨x4,rfl,g10⟩:=DI.out g9;obtain⟨w8,e8,g11⟩:=DG.out g10;obtain⟨x5,rfl,g12⟩:=DI.out g11;obtain⟨rfl,h'⟩:=Zo.out g12;exact h'
   ·obtain⟨w1,e1,g1⟩:=DG.out h;obtain⟨A2,n2,m2,rfl,g2⟩:=DSl.out g1;obtain⟨a1,e2,g5⟩:=GN g2;obtain⟨a2,e4,g8⟩:=GN g5;obtain⟨x4,e7,g10⟩:=GI g8;obtain⟨x5,e8,g12⟩:=GI g10;obtain⟨rfl,h'⟩:=Zo.out g12;exact(Zf (Λ:=(aZr.Λ9 K (aZr.l9 K k))) cZf _ _ [(1,.slice A2 n2 m2),(2,.pointer (some a1)),(4,.pointer (some a2)),(7,.int .i64 x4),(8,.int .i64 x5)] [] H (Eq.mp (by kernel_rfl) h') (Zb (Zb Za rfl (Zk Zl ZS)) rfl (Zb (Zu (Zb Za rfl (Zk (Zb Za rfl Zy) Zl))) rfl Za))).weaken (Ze.cons e1 (Ze.cons e2 (Ze.cons e4 (Ze.cons e7 (Ze.cons e8 (Ze.nil _)))))) (Hp.le_refl _))))) rfl (Zb Za rfl (Zb Za rfl (Zb Za rfl (Zb Za rfl Zy)))))))))))
def aZe.j5 (K:Value→Hp→Prop)(x5:Int)(a3:Addr)(a4:Addr)(H:Hp):Prop:=
 LeI H ((a3.add 0).add 2) fun x6=>LdA H a3 12 fun l3=>QcI 65 #[.agg l3.toArray] H fun x7=>LeI H (a3.add 7) fun x8=>HcS 64 #[.int .i64 x6,.int .i64 x5,.int .i64 x7,.int .i64 x8] H fun A1 n1 m1 H5=>LeI H5 ((a3.add 0).add 1) fun x9=>LeI H5 ((a3.add 0).add 2) fun x10=>StA H5 (a3.add 0) #[.int .i64 3,.int .i64 x9,.int .i64 x10,.int .i64 x5,.int .i64 0,.int .i64 (n1:Int)] 6 fun H6=>LdA H6 a3 12 fun l4=>StA H6 a4 l4.toArray 12 fun H7=>LdA H7 a4 12 fun l7=>K (.tuple #[.agg l7.toArray,.int .i64 0]) H7
def aZe.j3 (K:Value→Hp→Prop)(x4:Int)(a1:Addr)(a2:Addr)(H:Hp):Prop:=
 BIf (x4 !=0) (BIf (x4 !=1) (LdA H a1 12 fun l2=>StA H a2 l2.toArray 12 fun H4=>LdA H4 a2 12 fun l6=>K (.tuple #[.agg l6.toArray,.int .i64 18]) H4) (aZe.j5 K x4 a1 a2 H)) (aZe.j5 K x4 a1 a2 H)
def aZe (y1:Array Value)(x1:Int)(H:Hp)(K:Value→Hp→Prop):Prop:=
 Nw H (.obj (.cells y1 73)) fun b1 H1=>Nw H1 (.obj (.cells #[.int .i64 0,.int .i64 0,.int .i64 0,.int .i64 0,.int .i64 0,.int .i64 0,.int .i64 0,.int .i64 0,.int .i64 0,.int .i64 0,.int .i64 0,.slice none 0 0] 73)) fun b2 H2=>LeI H2 (((⟨b1,0,none⟩:Addr).add 0).add 0) fun x2=>BIf (x2 !=2) (LeI H2 (((⟨b1,0,none⟩:Addr).add 0).add 0) fun x3=>BIf (x3 !=4) (LdA H2 ⟨b1,0,none⟩ 12 fun l1=>StA H2 ⟨b2,0,none⟩ l1.toArray 12 fun H3=>LdA H3 ⟨b2,0,none⟩ 12 fun l5=>K (.tuple #[.agg l5.toArray,.int .i64 5]) H3) (aZe.j3 K x1 ⟨b1,0,none⟩ ⟨b2,0,none⟩ H2)) (aZe.j3 K x1 ⟨b1,0,none⟩ ⟨b2,0,none⟩ H2)
def aZe.Λ (K:Value→Hp→Prop):Zn:=⟨fun i=>match Nat.beq i 5 with|true=>some (fun E D H=>eI E 1 .i64 fun x5=>eN E 2 fun a3=>eN E 4 fun a4=>Zo D (aZe.j5 K x5 a3 a4 H))|false=>match Nat.beq i 3 with|true=>some (fun E D H=>eI E 1 .i64 fun x4=>eN E 2 fun a1=>eN E 4 fun a2=>Zo D (aZe.j3 K x4 a1 a2 H))|false=>none,fun i=>none,(fun i=>match Nat.beq i 5 with|true=>some ([],[0,1,2,3,4,5,6,7],8)|false=>none)⟩
theorem aZe.ok (y1:Array Value)(x1:Int)(H:Hp)(K:Value→Hp→Prop)(h:aZe y1 x1 H K):Zc prog 29 #[.agg y1,.int .i64 x1] H K:=
 Zr Tryz.func29 rfl (nbl rfl) (Zf (Λ:=(aZe.Λ K)) cZf _ _ _ _ _ (Eq.mp (by kernel_rfl) h) (Zb Za rfl (aZH (Zb Za rfl (Zk (Zb Za rfl Zy) Zl)) rfl (fun E D H h=>by
   obtain⟨x4,e1,g2⟩:=GI h;obtain⟨a1,e2,g5⟩:=GN g2;obtain⟨a2,e4,g8⟩:=GN g5;obtain⟨rfl,h'⟩:=Zo.out g8;exact(Zf (Λ:=(aZe.Λ K)) cZf _ _ [(1,.int .i64 x4),(2,.pointer (some a1)),(4,.pointer (some a2))] [] H (Eq.mp (by kernel_rfl) h') (aZH (Zb Za rfl (Zk (Zb Za rfl Zy) Zl)) rfl (fun E D H h=>by
     obtain⟨x5,e1,g2⟩:=GI h;obtain⟨a3,e2,g5⟩:=GN g2;obtain⟨a4,e4,g8⟩:=GN g5;obtain⟨rfl,h'⟩:=Zo.out g8;exact(Zf (Λ:=(aZe.Λ K)) cZf _ _ [(1,.int .i64 x5),(2,.pointer (some a3)),(4,.pointer (some a4))] [] H (Eq.mp (by kernel_rfl) h') (Zb Za rfl (Zb Za rfl (Zb Za rfl Zy)))).weaken (Ze.cons e1 (Ze.cons e2 (Ze.cons e4 (Ze.nil _)))) (Hp.le_refl _)))).weaken (Ze.cons e1 (Ze.cons e2 (Ze.cons e4 (Ze.nil _)))) (Hp.le_refl _)))))
def cZV (y1:Array Value)(H:Hp)(K:Value→Hp→Prop):Prop:=
 Nw H (.obj (.cells y1 73)) fun b1 H1=>LeS H1 ((⟨b1,0,none⟩:Addr).add 11) fun A1 n1 m1=>LeI H1 (((⟨b1,0,none⟩:Addr).add 0).add 2) fun x1=>LeI H1 (((⟨b1,0,none⟩:Addr).add 0).add 3) fun x2=>HcS 21 #[.slice A1 n1 m1,.int .i64 x1,.int .i64 x2] H1 fun A2 n2 m2 H2=>K (.slice A2 n2 m2) H2
theorem cZV.ok (y1:Array Value)(H:Hp)(K:Value→Hp→Prop)(h:cZV y1 H K):Zc prog 30 #[.agg y1] H K:=
 Zr Tryz.func30 rfl (nbl rfl) (Zf (Λ:=Zn.none (fun _=>none)) cZf _ _ _ _ _ (Eq.mp (by kernel_rfl) h) (Zt _ _ _ _ _))
def dZC (y1:Array Value)(H:Hp)(K:Value→Hp→Prop):Prop:=
 Nw H (.obj (.cells y1 73)) fun b1 H1=>LeI H1 ((⟨b1,0,none⟩:Addr).add 9) fun x1=>((8:Int)≠0∧IntKind.i64=IntKind.i64∧K (.int .i64 (IntKind.i64.wrap (Int.tdiv x1 8))) H1)
theorem dZC.ok (y1:Array Value)(H:Hp)(K:Value→Hp→Prop)(h:dZC y1 H K):Zc prog 65 #[.agg y1] H K:=
 Zr Tryz.func65 rfl (nbl rfl) (Zf (Λ:=Zn.none (fun _=>none)) cZf _ _ _ _ _ (Eq.mp (by kernel_rfl) h) (Zt _ _ _ _ _))
end W
namespace Eng
open Go Go.Hw Go.Form W Shp Dsk Str Are Trn Pas Pln
def mch (s:Int×Int×Int×Int×Int×Int)(mo ar sc sz ld:Int)(A:Option Addr)(n m:Nat):Array Value:=#[.int .i64 s.1,.int .i64 s.2.1,.int .i64 s.2.2.1,.int .i64 s.2.2.2.1,.int .i64 s.2.2.2.2.1,.int .i64 s.2.2.2.2.2,.int .i64 mo,.int .i64 ar,.int .i64 sc,.int .i64 sz,.int .i64 ld,.slice A n m]
abbrev eZG (s:Int×Int×Int×Int×Int×Int)(mo ar sc sz ld:Int)(A:Option Addr)(n m:Nat):AO:=.obj (.cells (mch s mo ar sc sz ld A n m) 73)
def okL (l:List UInt64)(most:Nat)(k:Nat):Prop:=lg (l.length:Int)=some k∧k≤most∧iZd l
section
variable {R0 : As} {A : Option Addr} {n m : Nat} {l : List UInt64} (hn : n = l.length) (hl : n ≤ 1000000) (hR : ∀ H, R0 H → Cells H A (Zd l))
include hn hl hR
def ldQ (R0:As)(l:List UInt64)(most:Nat)(ar sc sz ld:Int)(v:Value)(M:List As):Prop:=
 (∃(y:Array Value) (i e:Int),e≠0∧(∀ k,¬okL l most k)∧y.size=12∧y.toList.all (fun v=>v.oneCell')=true∧v= .tuple #[.agg y,.int .i64 i,.int .i64 e]∧M=[R0])∨
 (∃ k A' m',okL l most k∧v= .tuple #[.agg (mch (2,ld+1,k,0,0,0) most ar sc sz (ld+1) A' l.length m'),.int .i64 0,.int .i64 0]∧M=[Own 84 1 A' l.length m' (Zd l),R0])
theorem lZG {b1 b2 most k:Nat}{st:Int}{ar sc sz ld:Int}(hk:lg (n:Int)=some k)(hkm:k≤most)(hld:0≤ld∧ld≤1000000){s1 s2 s3 s4 s5:Int}:
  ∀(t i:Nat) (H:Hp),i+t=n→(∀ j (hj:j<l.length),j<i→(l[j]).toNat<18446744069414584321)→Sep [R0,pts b1 (eZG (st,s1,s2,s3,s4,s5) most ar sc sz ld .none 0 0),pts b2 (eZG (0,0,0,0,0,0) 0 0 0 0 0 .none 0 0)] H→
   aZr.l9 (fun v H'=>∃ M,ldQ R0 l most ar sc sz ld v M∧Sep M H') (t+1) A n m ⟨b1,0,none⟩ ⟨b2,0,none⟩ (k:Int) (i:Int) H
 |0,i,H,hi,hc,hs=>by
  unfold aZr.l9;refine Zm (by omega) ?_
  try simp only[HS]
  refine hs.ld 1 (v:=.int .i64 ld) rfl rfl ?_;simp only[HV];rw[ZV (x:=ld+1) (by omega) (by omega)];refine hs.st 1 rfl (by show 10<12;omega) rfl fun H hs=>?_;refine hs.ld 1 (v:=.int .i64 (ld+1)) rfl rfl ?_;simp only[HV];refine hs.sta 1 (off:=0) (n:=6) rfl (by show 0+6≤12;omega) rfl rfl fun H hs=>?_;refine hs.nw fun b3 H hs=>?_
  have hs:Sep [R0,pts b1 (eZG (2,ld+1,k,0,0,0) most ar sc sz (ld+1) .none 0 0),pts b2 (eZG (0,0,0,0,0,0) 0 0 0 0 0 .none 0 0),pts b3 (.row [] 84 0)] H:=hs;have hs:=vZk hs 3 (n:=0) (s:=1) rfl rfl rfl;have hcell:Cells H A (Zd l):=by
   obtain⟨H1,h1,hle⟩:=hs.see 0 rfl;exact(hR H1 h1).le hle
  refine Sep.app hs 3 (k:=n) (ys:=Zd l) rfl Ker.bZR rfl (by omega) (by omega) rfl (iZz hcell (by rw[ZA];exact hn)) (by rw[ZA];omega) (by simp[Zd,Value.oneCell']) (by omega) (by omega) fun A' m' H hs=>?_
  rw[Nat.zero_add]at hs⊢;rw[List.nil_append]at hs;simp only[HV];refine hs.st 1 rfl (by show 11<12;omega) rfl fun H hs=>?_;refine hs.ldw 1 rfl rfl ?_;refine hs.stw 2 (y:=mch (2,ld+1,k,0,0,0) most ar sc sz (ld+1) A' n m') rfl rfl rfl rfl fun H hs=>?_;refine hs.ldw 2 rfl rfl ?_;refine⟨_,.inr ⟨k,A',m',⟨by rw[← hn];exact hk,hkm,fun x hx=>?_⟩,?_,rfl⟩,?_⟩
  ·obtain⟨j,hj,rfl⟩:=List.getElem_of_mem hx;exact hc j hj (by omega)
  ·rw[← hn]
  ·rw[← hn];exact hs.re [3,0] rfl
 |t+1,i,H,hi,hc,hs=>by
  have hil:i<l.length:=by omega
  unfold aZr.l9;refine Zw (by omega) ?_;have hcell:Cells H A (Zd l):=by
   obtain⟨H1,h1,hle⟩:=hs.see 0 rfl;exact(hR H1 h1).le hle
  have hg:(Zd l)[i]? =some (.int .u64 ((l[i]'hil).toNat:Int)):=by rw[aZ8,List.getElem?_eq_getElem hil];rfl
  refine hcell.read hg rfl (by rw[ZA];omega) ?_;simp only[HV];by_cases hx:(l[i]'hil).toNat<18446744069414584321
  ·refine Zm (by omega) ?_;rw[ZV (x:=(i:Int)+1) (by omega) (by omega)];refine lZG hk hkm hld t (i+1) H (by omega) (fun j hj hji=>?_) hs;by_cases e:j=i
   ·subst e;exact hx
   ·exact hc j hj (by omega)
  ·refine Zw (by omega) ?_;refine hs.ldw 1 rfl rfl ?_;refine hs.stw 2 (y:=mch (st,s1,s2,s3,s4,s5) most ar sc sz ld .none 0 0) rfl rfl rfl rfl fun H hs=>?_;refine hs.ldw 2 rfl rfl ?_;exact⟨_,.inl ⟨mch (st,s1,s2,s3,s4,s5) most ar sc sz ld .none 0 0,_,3,by decide,fun k' hk'=>hx (hk'.2.2 _ (List.getElem_mem hil)),rfl,rfl,rfl,rfl⟩,hs.re [0] rfl⟩
theorem tZM {most:Nat}{st ar sc sz ld:Int}(hst:st≠0)(hld:0≤ld∧ld≤1000000){s1 s2 s3 s4 s5:Int}:
  Tr prog 26 #[.agg (mch (st,s1,s2,s3,s4,s5) most ar sc sz ld .none 0 0),.slice A n m] [R0] (ldQ R0 l most ar sc sz ld):=fun H hs=>by
 apply aZr.ok;unfold aZr;refine hs.nw fun b1 H hs=>?_
 refine hs.nw fun b2 H hs=>?_
 have hs:Sep [R0,pts b1 (eZG (st,s1,s2,s3,s4,s5) most ar sc sz ld .none 0 0),pts b2 (eZG (0,0,0,0,0,0) 0 0 0 0 0 .none 0 0)] H:=hs
 try simp only[HS]
 refine hs.ld 1 (v:=.int .i64 st) rfl rfl ?_;simp only[HV];refine aZm hst ?_;refine Zc.use (tZL (n:Int) H) ?_;simp only[HV];have bad:∀(e:Int) (H:Hp),e≠0→(∀ k,¬okL l most k)→Sep [R0,pts b1 (eZG (st,s1,s2,s3,s4,s5) most ar sc sz ld .none 0 0),pts b2 (eZG (0,0,0,0,0,0) 0 0 0 0 0 .none 0 0)] H→
   LdA H (⟨b1,0,none⟩:Addr) 12 fun l2=>StA H (⟨b2,0,none⟩:Addr) l2.toArray 12 fun H5=>LdA H5 (⟨b2,0,none⟩:Addr) 12 fun l7=>∃ M,ldQ R0 l most ar sc sz ld (.tuple #[.agg l7.toArray,.int .i64 0,.int .i64 e]) M∧Sep M H5:=fun e H he hno hs=>by
  refine hs.ldw 1 rfl rfl ?_;refine hs.stw 2 (y:=mch (st,s1,s2,s3,s4,s5) most ar sc sz ld .none 0 0) rfl rfl rfl rfl fun H hs=>?_;refine hs.ldw 2 rfl rfl ?_;exact⟨_,.inl ⟨mch (st,s1,s2,s3,s4,s5) most ar sc sz ld .none 0 0,0,e,he,hno,rfl,rfl,rfl,rfl⟩,hs.re [0] rfl⟩
 cases hlg:lg (n:Int)with
 |none=>
  refine Zw (by unfold hZN;rw[hlg];decide) ?_;exact bad 4 H (by decide) (fun k hk=>by have:=hk.1;rw[← hn,hlg]at this;cases this) hs
 |some k=>
  have hfit:hZN (n:Int)=(k:Int):=by unfold hZN;rw[hlg]
  rw[hfit];refine Zm (by omega) ?_;refine hs.ld 1 (v:=.int .i64 (most:Int)) rfl rfl ?_;simp only[HV];by_cases hkm:k≤most
  ·refine Zm (by omega) ⟨n+1,?_⟩;exact lZG hn hl hR hlg hkm hld n 0 H (by omega) (fun j hj h=>by omega) hs
  ·refine Zw (by omega) ?_;exact bad 14 H (by decide) (fun k' hk'=>by have:=hk'.1;rw[← hn,hlg]at this;cases this;exact hkm hk'.2.1) hs
end
theorem qZN {k ar sz:Nat}{mo sc ld ld':Int}{A:Option Addr}{n m:Nat}(hk:k≤32)(hz:sz≤4096)(har:ar≤16777216)(b:Bool):
  Tr prog 29 #[.agg (mch (2,ld,k,0,0,0) mo ar sc sz ld' A n m),.int .i64 (if b=true then 1 else 0)] [] fun v M=>v= .tuple #[.agg (mch (3,ld,k,if b=true then 1 else 0,0,(aZM b k (sz/8) ar).length) mo ar sc sz ld' A n m),.int .i64 0]∧M=[]:=fun H hs=>by
 apply aZe.ok;unfold aZe;refine hs.nw fun b1 H hs=>?_
 refine hs.nw fun b2 H hs=>?_
 have hs:Sep [pts b1 (eZG (2,ld,k,0,0,0) mo ar sc sz ld' A n m),pts b2 (eZG (0,0,0,0,0,0) 0 0 0 0 0 .none 0 0)] H:=hs
 try simp only[HS]
 refine hs.ld 0 (v:=.int .i64 2) rfl rfl ?_;simp only[HV];refine ZB rfl ?_;have j5:aZe.j5 (fun v H'=>∃ M,(v= .tuple #[.agg (mch (3,ld,k,if b=true then 1 else 0,0,(aZM b k (sz/8) ar).length) mo ar sc sz ld' A n m),.int .i64 0]∧M=[])∧Sep M H') (if b=true then 1 else 0) ⟨b1,0,none⟩ ⟨b2,0,none⟩ H:=by
  unfold aZe.j5
  try simp only[HS]
  refine hs.ld 0 (v:=.int .i64 (k:Int)) rfl rfl ?_;simp only[HV];refine hs.ldw 0 rfl rfl ?_
  try simp only[Array.toArray_toList]
  have hper:Zc prog 65 #[.agg (mch (2,ld,k,0,0,0) mo ar sc sz ld' A n m)] H (RetE (.int .i64 ((sz/8:Nat):Int)) H):=Zc.ret (by
   apply dZC.ok;unfold dZC;refine(Sep.start H).nw fun b3 H3 hs=>?_
   have hs:Sep [own H,pts b3 (eZG (2,ld,k,0,0,0) mo ar sc sz ld' A n m)] H3:=hs
   try simp only[HS]
   refine hs.ld 1 (v:=.int .i64 (sz:Int)) rfl rfl ?_;simp only[HV];rw[show Int.tdiv (sz:Int) 8=((sz/8:Nat):Int)from rfl,bZi (n:=sz/8) (by omega)]
   first|exact⟨by decide,by simp,hs.fin 0 rfl _⟩|exact hs.fin 0 rfl _)
  refine aZc.use hper ?_;simp only[HV];refine hs.ld 0 (v:=.int .i64 (ar:Int)) rfl rfl ?_;simp only[HV];refine(qZM (k:=k) (per:=sz/8) (words:=ar) hk (by omega) har b).use hs [] rfl rfl ?_;rintro _ _ H ⟨bp,rfl,rfl⟩ hs;simp only[HV];refine hs.ld 1 (v:=.int .i64 ld) rfl rfl ?_;simp only[HV];refine hs.ld 1 (v:=.int .i64 (k:Int)) rfl rfl ?_;simp only[HV];refine hs.sta 1 (off:=0) (n:=6) rfl (by show 0+6≤12;omega) rfl rfl fun H hs=>?_;refine hs.ldw 1 rfl rfl ?_;refine hs.stw 2 (y:=mch (3,ld,k,if b=true then 1 else 0,0,(aZM b k (sz/8) ar).length) mo ar sc sz ld' A n m) rfl rfl rfl rfl fun H hs=>?_;refine hs.ldw 2 rfl rfl ?_;exact⟨_,⟨rfl,rfl⟩,hs.re [] rfl⟩
 unfold aZe.j3;cases b with
 |false=>exact ZB rfl j5
 |true=>exact ZK (by decide) (ZB rfl j5)
theorem qZK {k:Nat}{s0 s1 s4 s5 mo ar sc sz ld:Int}{A:Option Addr}{n m:Nat}{l:List UInt64}{R0:As}(hR:∀ H,R0 H→Cells H A (Zd l))(hl:l.length=n)(hn:n=2^k)(hk:k≤20)(b:Bool):
  Tr prog 30 #[.agg (mch (s0,s1,k,if b=true then 1 else 0,s4,s5) mo ar sc sz ld A n m)] [R0] fun v M=>∃ A2 m2,v= .slice A2 n m2∧M=[Own 84 1 A2 n m2 (Zd (tfL b k l)),R0]:=fun H hs=>by
 apply cZV.ok;unfold cZV;refine hs.nw fun b1 H hs=>?_
 have hs:Sep [R0,pts b1 (eZG (s0,s1,k,if b=true then 1 else 0,s4,s5) mo ar sc sz ld A n m)] H:=hs
 try simp only[HS]
 refine hs.ld 1 (v:=.slice A n m) rfl rfl ?_;simp only[HV];refine hs.ld 1 (v:=.int .i64 (k:Int)) rfl rfl ?_;simp only[HV];refine hs.ld 1 (v:=.int .i64 (if b=true then 1 else 0)) rfl rfl ?_;simp only[HV];refine(nZ1 (R:=R0) hR hl hn hk b).use hs [0] rfl rfl ?_;rintro _ _ H ⟨A2,m2,rfl,rfl⟩ hs;simp only[HV];exact⟨_,⟨A2,m2,rfl,rfl⟩,hs.re [0,1] rfl⟩
end Eng
namespace Eng
open Go Go.Hw Go.Form W Shp Dsk Str Are Trn Pas Pln Rec Srt Rng
structure Liv (N:Nat)(d:D)(c:Cn)(m:Mn):Prop where
 cl:Clean d c
 hh:Holds d.sec d.size m c
 most:m.most≤6
 len:m.L.length≤N
 ld:m.r.ld≤N
 rd:d.rd≤2000*N
 wr:d.wr≤2000*N
 sy:d.sy≤2000*N
theorem Liv.went {N:Nat}{d d':D}{c c':Cn}{m m':Mn}(h:Liv N d c m){r w s:Nat}(hw:bZQ d d' r w s)(hr:r≤2000∧w≤2000∧s≤2000)(hc:Clean d' c')(hh:Holds d.sec d.size m' c')(hm:m'.most=m.most)(hl:m'.L.length≤N+2)(hld:m'.r.ld≤N+2):Liv (N+2) d' c' m':=by
 have h1:=hw.rd;have h2:=hw.wr;have h3:=hw.sy;have h4:=h.rd;have h5:=h.wr;have h6:=h.sy;have h7:=h.most;exact⟨hc,by rw[hw.sec,hw.size];exact hh,by omega,hl,hld,by omega,by omega,by omega⟩
theorem Liv.small {N:Nat}{d:D}{c:Cn}{m:Mn}(h:Liv N d c m)(hN:N≤400):Small 100000 m∧(d.rd≤800000∧d.wr≤800000∧d.sy≤800000):=by
 have h2:=h.len;have h3:=h.ld;have h4:=h.rd;have h5:=h.wr;have h6:=h.sy;exact⟨⟨by omega,by omega⟩,by omega,by omega,by omega⟩
theorem Liv.per {N:Nat}{d:D}{c:Cn}{m:Mn}(h:Liv N d c m):0<Lay.aZL (d.size:Int):=(dZn h.hh.good).2.1
theorem Liv.kk {N:Nat}{d:D}{c:Cn}{m:Mn}(h:Liv N d c m):m.r.kk.toNat≤6:=by
 have:=(Mn.r_wf h.hh).2.2;have:=h.most;omega
structure Dea (N:Nat)(sc sz:Nat)(d:D)(P:Mn→Prop):Prop where
 ok:Ok d
 dom:Dom d
 down:d.down=true
 sec:d.sec=sc
 size:d.size=sz
 left:Left d fun c'=>∃ m,P m∧m.most≤6∧m.L.length≤N∧m.r.ld≤N∧Holds sc sz m c'
 rd:d.rd≤2000*N
 wr:d.wr≤2000*N
 sy:d.sy≤2000*N
theorem Liv.cut {N:Nat}{d d':D}{c:Cn}{m:Mn}(h:Liv N d c m){n:Nat}(hc:Cut d d' n)(hn:n≤3000){P:Mn→Prop}(hl:Left d' fun c'=>∃ m,P m∧m.most≤6∧m.L.length≤N+2∧m.r.ld≤N+2∧Holds d.sec d.size m c'):Dea (N+2) d.sec d.size d' P:=by
 have h1:=hc.cnt;have h2:=hc.le;have h4:=h.rd;have h5:=h.wr;have h6:=h.sy;have h7:=hc.rd;have h8:=hc.wr;have h9:=hc.sy;exact⟨hc.ok,hc.dom,hc.down,hc.sec,hc.size,hl,by omega,by omega,by omega⟩
def eZs (m:Mn)(k:Nat)(l:List UInt64)(b:Bool):Mn:=(bZe m k l).add (cZ3 (bZe m k l) b)
structure Job (m:Mn)(k:Nat)(b:Bool)(l:List UInt64)(j:Nat):Prop where
 inp:m.inp=l
 kk:m.r.kk=k
 dir:m.r.dir=if b=true then 1 else 0
 kd:3≤m.r.kd
 ps:m.r.ps=j
theorem Job.plan {m:Mn}{k:Nat}{b:Bool}{l:List UInt64}{j:Nat}(h:Job m k b l j)(per:Nat):bZd m per m.r=aZM b k per m.arena:=by
 unfold bZd fZH;rw[h.dir,h.kk,Int.toNat_natCast];cases b<;>rfl
theorem Job.st {m:Mn}{k:Nat}{b:Bool}{l:List UInt64}{j:Nat}(h:Job m k b l j)(per:Nat):stM m per=if j<(aZM b k per m.arena).length then 3 else 4:=by
 have:=h.kd;unfold stM;rw[if_neg (by omega),if_neg (by omega),h.plan,h.ps];by_cases e:j<(aZM b k per m.arena).length
 ·rw[if_pos e,if_pos (by omega)]
 ·rw[if_neg e,if_neg (by omega)]
theorem Job.next {m:Mn}{k:Nat}{b:Bool}{l:List UInt64}{j:Nat}(h:Job m k b l j)(per:Nat):Job (m.add (bZu m per)) k b l (j+1):=by
 have e:(m.add (bZu m per)).r=bZu m per:=Mn.add_r _ _;refine⟨h.inp,?_,?_,?_,?_⟩
 ·rw[e];exact h.kk
 ·rw[e];exact h.dir
 ·rw[e];show(3:Int)≤4;omega
 ·rw[e];show m.r.ps+1=_;rw[h.ps];omega
theorem oZh (m:Mn)(k:Nat)(l:List UInt64)(b:Bool):Job (eZs m k l b) k b l 0:=by
 have h2r:(bZe m k l).r=dZi (aZR m k) k l:=Mn.add_r _ _;have e:(eZs m k l b).r=cZ3 (bZe m k l) b:=Mn.add_r _ _;refine⟨rfl,?_,?_,?_,?_⟩
 ·rw[e];show(bZe m k l).r.kk=_;rw[h2r];rfl
 ·rw[e];rfl
 ·rw[e];show(3:Int)≤3;omega
 ·rw[e];rfl
theorem Liv.step {N:Nat}{d d':D}{c c':Cn}{m:Mn}(h:Liv N d c m){r w:Nat}(hs:jZR m (d.size/8) r w):r≤2000∧w≤2000:=by
 have hp:=h.hh.per;have hk:=h.kk;have hm:=h.most;have hkm:=(Mn.r_wf h.hh).2.2;have h1:=hs.le (by omega) (by omega) (Nat.le_trans (hZo (by omega)) h.hh.least);have:=mZp hk;omega
theorem Liv.stepped {N:Nat}{d d':D}{c c':Cn}{m:Mn}(h:Liv N d c m){r w:Nat}(hs:jZR m (d.size/8) r w)(hw:bZQ d d' r w 2)(hc:Clean d' c')(hh:Holds d.sec d.size (m.add (bZu m (d.size/8))) c'):Liv (N+2) d' c' (m.add (bZu m (d.size/8))):=by
 have:=Liv.step (d':=d') (c':=c') h hs;have h1:=h.len;have h2:=h.ld;refine h.went hw (by omega) hc hh rfl ?_ ?_
 ·show(m.L++[_]).length≤_;simp;omega
 ·rw[Mn.add_r];show m.r.ld≤_;omega
def w4 :List UInt64:=[1,2,3,4]
end Eng
namespace W
open Go Go.Hw
theorem cZe :prog.follows .mixedOrders=true:=by kernel_rfl
def Zg.l31 (K:Value→Hp→Prop)(R21:Option Addr→Nat→Nat→Option Addr→Nat→Nat→Option Addr→Nat→Nat→Option Addr→Option Addr→Addr→Int→Int→Hp→Prop):Nat→Option Addr→Nat→Nat→Option Addr→Nat→Nat→Option Addr→Nat→Nat→Option Addr→Option Addr→Addr→Int→Int→Hp→Prop
 |0,_,_,_,_,_,_,_,_,_,_,_,_,_,_,_=>False
 |k+1,A13,n13,m13,A14,n14,m14,A15,n15,m15,p7,p8,a6,x23,x24,H=>
  let R31:=Zg.l31 K R21 k
  NN p7 fun a7=>HcB 12 #[.pointer (some (a7.add 7))] H fun c3 H21=>BIf c3 (HcI 13 #[.pointer p7,.slice A15 n15 m15] H21 fun x25 H22=>BIf (x25 !=0) (K (.bool false) H22) (HcP 24 #[.pointer p7] H22 fun p9 H23=>HcI 16 #[.pointer p9] H23 fun x26 H24=>HcA 15 #[.pointer p9] H24 fun y5 H25=>Nw H25 (.obj (.cells #[.int .i64 0,.int .i64 0,.int .i64 0,.int .i64 0,.int .i64 0,.int .i64 0] 57)) fun b4 H26=>StA H26 ⟨b4,0,none⟩ y5 6 fun H27=>BIf (x26==0) (LeI H27 ((⟨b4,0,none⟩:Addr).add 4) fun x27=>BIf (decide (x27<x23)) (K (.bool false) H27) (LeI H27 ((⟨b4,0,none⟩:Addr).add 4) fun x28=>BIf (decide (x28>(IntKind.i64.wrap (x23+1)))) (K (.bool false) H27) (BIf (x26 !=0) (BIf (x26 !=8) (K (.bool false) H27) (BIf (x26==0) (LeI H27 ((⟨b4,0,none⟩:Addr).add 4) fun x29=>R31 A13 n13 m13 A14 n14 m14 A15 n15 m15 p7 p9 a6 x29 x24 H27) (R31 A13 n13 m13 A14 n14 m14 A15 n15 m15 p7 p9 a6 x23 x24 H27))) (BIf (x26==0) (LeI H27 ((⟨b4,0,none⟩:Addr).add 4) fun x30=>R31 A13 n13 m13 A14 n14 m14 A15 n15 m15 p7 p9 a6 x30 x24 H27) (R31 A13 n13 m13 A14 n14 m14 A15 n15 m15 p7 p9 a6 x23 x24 H27))))) (BIf (x26 !=0) (BIf (x26 !=8) (K (.bool false) H27) (BIf (x26==0) (LeI H27 ((⟨b4,0,none⟩:Addr).add 4) fun x31=>R31 A13 n13 m13 A14 n14 m14 A15 n15 m15 p7 p9 a6 x31 x24 H27) (R31 A13 n13 m13 A14 n14 m14 A15 n15 m15 p7 p9 a6 x23 x24 H27))) (BIf (x26==0) (LeI H27 ((⟨b4,0,none⟩:Addr).add 4) fun x32=>R31 A13 n13 m13 A14 n14 m14 A15 n15 m15 p7 p9 a6 x32 x24 H27) (R31 A13 n13 m13 A14 n14 m14 A15 n15 m15 p7 p9 a6 x23 x24 H27))))) (NN p7 fun a8=>Hz 14 #[.pointer (some (a8.add 7)),.int .i64 0] H21 fun v39 H28=>Hz 17 #[.pointer p8] H28 fun v40 H29=>eZa v40 fun A16 n16 m16 x33=>(BIf (x33 !=0) (K (.bool false) H29) (HcB 18 #[.slice A16 n16 m16,.slice A13 n13 m13] H29 fun c4 H30=>BIf (!c4) (K (.bool false) H30) (R21 A13 n13 m13 A14 n14 m14 A15 n15 m15 p7 p8 a6 x23 (IntKind.i64.wrap (x24+1)) H30))))
def Zg.j26 (K:Value→Hp→Prop)(R21:Option Addr→Nat→Nat→Option Addr→Nat→Nat→Option Addr→Nat→Nat→Option Addr→Option Addr→Addr→Int→Int→Hp→Prop)(A10:Option Addr)(n10:Nat)(m10:Nat)(A11:Option Addr)(n11:Nat)(m11:Nat)(A12:Option Addr)(n12:Nat)(m12:Nat)(p5:Option Addr)(p6:Option Addr)(a5:Addr)(x20:Int)(x21:Int)(H:Hp):Prop:=
 Hz 19 #[.pointer p6] H fun v25 H20=>tZf v25 fun c2 x22=>(BIf (x22==0) ((∃ k,Zg.l31 K R21 k A10 n10 m10 A11 n11 m11 A12 n12 m12 p5 p6 a5 (IntKind.i64.wrap (x20+1)) x21 H20)) (BIf (x22 !=8) (K (.bool false) H20) ((∃ k,Zg.l31 K R21 k A10 n10 m10 A11 n11 m11 A12 n12 m12 p5 p6 a5 x20 x21 H20))))
def Zg.j45 (K:Value→Hp→Prop)(p10:Option Addr)(a9:Addr)(x34:Int)(H:Hp):Prop:=
 Hz 20 #[.pointer p10] H fun v44 H31=>eZa v44 fun A17 n17 m17 x35=>(BIf (x35==0) (LdA H31 a9 12 fun l27=>HcS 30 #[.agg l27.toArray] H31 fun A18 n18 m18 H32=>HcB 18 #[.slice A17 n17 m17,.slice A18 n18 m18] H32 fun c5 H33=>BIf c5 ((HcI 31 #[.pointer p10] H33 fun x36 H34=>LeI H34 (a9.add 7) fun x37=>BIf (decide (x36≤x37)) (LeI H34 ((a9.add 0).add 5) fun x38=>K (.bool (x34==x38)) H34) (K (.bool false) H34))∧(LeI H33 (a9.add 7) fun x39=>HcI 31 #[.pointer p10] H33 fun x40 H35=>BIf (decide (x40≤x39)) (LeI H35 ((a9.add 0).add 5) fun x41=>K (.bool (x34==x41)) H35) (K (.bool false) H35))) ((K (.bool false) H33)∧(K (.bool false) H33))) ((K (.bool false) H31)∧(K (.bool false) H31)))
def Zg.l21 (K:Value→Hp→Prop):Nat→Option Addr→Nat→Nat→Option Addr→Nat→Nat→Option Addr→Nat→Nat→Option Addr→Option Addr→Addr→Int→Int→Hp→Prop
 |0,_,_,_,_,_,_,_,_,_,_,_,_,_,_,_=>False
 |k+1,A7,n7,m7,A8,n8,m8,A9,n9,m9,p3,p4,a1,x16,x17,H=>
  let R21:=Zg.l21 K k
  BIf (decide (x17<40)) (HcA 15 #[.pointer p4] H fun y4 H17=>ixV y4 0 fun v21=>DI .i64 v21 fun x18=>BIf (x18 !=4) (BIf (decide (x17<(n8:Int))) (NN p3 fun a2=>ixI x17 n8 (NN A8 fun a3=>LeV H17 (a3.add (x17.toNat*1)) fun x19=>Hz 14 #[.pointer (some (a2.add 7)),.int .i64 (IntKind.i64.wrap x19)] H17 fun v23 H18=>Zg.j26 K R21 A7 n7 m7 A8 n8 m8 A9 n9 m9 p3 p4 a1 x16 x17 H18)) (NN p3 fun a4=>Hz 14 #[.pointer (some (a4.add 7)),.int .i64 0] H17 fun v24 H19=>Zg.j26 K R21 A7 n7 m7 A8 n8 m8 A9 n9 m9 p3 p4 a1 x16 x17 H19)) (Zg.j45 K p4 a1 x16 H17)) (Zg.j45 K p4 a1 x16 H)
def Zg.j5 (K:Value→Hp→Prop)(A4:Option Addr)(n4:Nat)(m4:Nat)(x4:Int)(x5:Int)(x6:Int)(A5:Option Addr)(n5:Nat)(m5:Nat)(A6:Option Addr)(n6:Nat)(m6:Nat)(H:Hp):Prop:=
 ((10:Int)≠0∧IntKind.i64=IntKind.i64∧HcP 23 #[.int .i64 (IntKind.i64.wrap (45+(Int.tmod (IntKind.i64.wrap x5) 10))),.int .i64 32] H fun p1 H2=>HcP 24 #[.pointer p1] H2 fun p2 H3=>BIf p1.isNone (K (.bool false) H3) (BIf p2.isNone (K (.bool false) H3) (((60:Int)≠0∧IntKind.i64=IntKind.i64∧HcI 25 #[.pointer p2,.int .i64 5,.int .i64 (IntKind.i64.wrap (20+(Int.tmod (IntKind.i64.wrap x6) 60)))] H3 fun x7 H4=>BIf (x7 !=0) (K (.bool false) H4) (((60:Int)≠0∧IntKind.i64=IntKind.i64∧Nw H4 (.obj (.cells #[.int .i64 0,.int .i64 0,.int .i64 0,.int .i64 0,.int .i64 0,.int .i64 0,.int .i64 0,.int .i64 0,.int .i64 0,.int .i64 0,.int .i64 0,.slice none 0 0] 73)) fun b1 H5=>StA H5 ⟨b1,0,none⟩ #[.int .i64 1,.int .i64 0,.int .i64 0,.int .i64 0,.int .i64 0,.int .i64 0,.int .i64 5,.int .i64 (IntKind.i64.wrap (20+(Int.tmod (IntKind.i64.wrap x6) 60))),.int .i64 (IntKind.i64.wrap (45+(Int.tmod (IntKind.i64.wrap x5) 10))),.int .i64 32,.int .i64 0,.slice none 0 0] 12 fun H6=>LdA H6 ⟨b1,0,none⟩ 12 fun l1=>Hz 26 #[.agg l1.toArray,.slice A4 n4 m4] H6 fun v5 H7=>qZm v5 fun y1 x8 x9=>(Nw H7 (.obj (.cells #[.int .i64 0,.int .i64 0,.int .i64 0,.int .i64 0,.int .i64 0,.int .i64 0,.int .i64 0,.int .i64 0,.int .i64 0,.int .i64 0,.int .i64 0,.slice none 0 0] 73)) fun b2 H8=>StA H8 ⟨b2,0,none⟩ y1 12 fun H9=>BIf (x9 !=0) (K (.bool true) H9) (Hz 27 #[.pointer p2,.slice A4 n4 m4] H9 fun v9 H10=>jZb v9 fun x10 x11=>(BIf (x11 !=0) (K (.bool false) H10) (HcI 28 #[.pointer p2,.int .i64 x4] H10 fun x12 H11=>BIf (x12 !=0) (K (.bool false) H11) (LdA H11 ⟨b1,0,none⟩ 12 fun l9=>Hz 26 #[.agg l9.toArray,.slice A4 n4 m4] H11 fun v13 H12=>qZm v13 fun y2 x13 x14=>(Nw H12 (.obj (.cells #[.int .i64 0,.int .i64 0,.int .i64 0,.int .i64 0,.int .i64 0,.int .i64 0,.int .i64 0,.int .i64 0,.int .i64 0,.int .i64 0,.int .i64 0,.slice none 0 0] 73)) fun b3 H13=>StA H13 ⟨b3,0,none⟩ y2 12 fun H14=>LdA H14 ⟨b3,0,none⟩ 12 fun l14=>Hz 29 #[.agg l14.toArray,.int .i64 x4] H14 fun v17 H15=>fZW v17 fun y3 x15=>(StA H15 ⟨b3,0,none⟩ y3 12 fun H16=>(∃ k,Zg.l21 K k A4 n4 m4 A5 n5 m5 A6 n6 m6 p1 p2 ⟨b3,0,none⟩ 0 0 H16))))))))))))))
def Zg (A1:Option Addr)(n1:Nat)(m1:Nat)(x1:Int)(x2:Int)(x3:Int)(A2:Option Addr)(n2:Nat)(m2:Nat)(A3:Option Addr)(n3:Nat)(m3:Nat)(H:Hp)(K:Value→Hp→Prop):Prop:=
 HcB 22 #[] H fun c1 H1=>BIf (!c1) (K (.bool false) H1) (BIf (decide ((n1:Int)>32)) (K (.bool true) H1) (BIf (decide ((n2:Int)>12)) (K (.bool true) H1) (BIf (decide ((n3:Int)>40)) (K (.bool true) H1) (BIf (x1 !=0) (BIf (x1 !=1) (K (.bool true) H1) (Zg.j5 K A1 n1 m1 x1 x2 x3 A2 n2 m2 A3 n3 m3 H1)) (Zg.j5 K A1 n1 m1 x1 x2 x3 A2 n2 m2 A3 n3 m3 H1)))))
def Zg.l21.L (K:Value→Hp→Prop)(k:Nat):Mid:=fun E D H=>
 DG (E.get? 0) fun w0=>DSl w0 fun A7 n7 m7=>DG (E.get? 4) fun w4=>DSl w4 fun A8 n8 m8=>DG (E.get? 5) fun w5=>DSl w5 fun A9 n9 m9=>eP E 14 fun p3=>eP E 15 fun p4=>eN E 22 fun a1=>eI E 25 .i64 fun x16=>eI E 26 .i64 fun x17=>Zo D (Zg.l21 K k A7 n7 m7 A8 n8 m8 A9 n9 m9 p3 p4 a1 x16 x17 H)
def Zg.l31.L (K:Value→Hp→Prop)(R21:Option Addr→Nat→Nat→Option Addr→Nat→Nat→Option Addr→Nat→Nat→Option Addr→Option Addr→Addr→Int→Int→Hp→Prop)(k:Nat):Mid:=fun E D H=>
 DG (E.get? 0) fun w0=>DSl w0 fun A13 n13 m13=>DG (E.get? 4) fun w4=>DSl w4 fun A14 n14 m14=>DG (E.get? 5) fun w5=>DSl w5 fun A15 n15 m15=>eP E 14 fun p7=>eP E 15 fun p8=>eN E 22 fun a6=>eI E 25 .i64 fun x23=>eI E 26 .i64 fun x24=>Zo D (Zg.l31 K R21 k A13 n13 m13 A14 n14 m14 A15 n15 m15 p7 p8 a6 x23 x24 H)
def Zg.Λ31 (_:Value→Hp→Prop)(_R21:Option Addr→Nat→Nat→Option Addr→Nat→Nat→Option Addr→Nat→Nat→Option Addr→Option Addr→Addr→Int→Int→Hp→Prop)(_R31:Option Addr→Nat→Nat→Option Addr→Nat→Nat→Option Addr→Nat→Nat→Option Addr→Option Addr→Addr→Int→Int→Hp→Prop):Zn:=Zn.none (fun i=>match Nat.beq i 46 with|true=>some ([],[0,1,3,7,7,23,63,127,255,511,1023,511,2559,8191,16383,32767,65535,65535,196607,458751,1048575,2097151,4194303],0)|false=>match Nat.beq i 24 with|true=>some ([],[0,1,2,3,4,5,6,7],8)|false=>none)
def Zg.Λ21 (K:Value→Hp→Prop)(R21:Option Addr→Nat→Nat→Option Addr→Nat→Nat→Option Addr→Nat→Nat→Option Addr→Option Addr→Addr→Int→Int→Hp→Prop):Zn:=⟨fun i=>match Nat.beq i 26 with|true=>some (fun E D H=>DG (E.get? 0) fun w0=>DSl w0 fun A10 n10 m10=>DG (E.get? 4) fun w4=>DSl w4 fun A11 n11 m11=>DG (E.get? 5) fun w5=>DSl w5 fun A12 n12 m12=>eP E 14 fun p5=>eP E 15 fun p6=>eN E 22 fun a5=>eI E 25 .i64 fun x20=>eI E 26 .i64 fun x21=>Zo D (Zg.j26 K R21 A10 n10 m10 A11 n11 m11 A12 n12 m12 p5 p6 a5 x20 x21 H))|false=>none,fun i=>match Nat.beq i 31 with|true=>some (fun E D H=>∃ k,Zg.l31.L K R21 k E D H)|false=>none,(fun i=>match Nat.beq i 46 with|true=>some ([],[0,1,3,7,7,23,63,127,255,511,1023,511,2559,8191,16383,32767,65535,65535,196607,458751,1048575,2097151,4194303],0)|false=>match Nat.beq i 24 with|true=>some ([],[0,1,2,3,4,5,6,7],8)|false=>none)⟩
def Zg.Λ (K:Value→Hp→Prop):Zn:=⟨fun i=>match Nat.beq i 45 with|true=>some (fun E D H=>eP E 15 fun p10=>eN E 22 fun a9=>eI E 25 .i64 fun x34=>Zo D (Zg.j45 K p10 a9 x34 H))|false=>match Nat.beq i 5 with|true=>some (fun E D H=>DG (E.get? 0) fun w0=>DSl w0 fun A4 n4 m4=>eI E 1 .i64 fun x4=>eI E 2 .u8 fun x5=>eI E 3 .u8 fun x6=>DG (E.get? 4) fun w4=>DSl w4 fun A5 n5 m5=>DG (E.get? 5) fun w5=>DSl w5 fun A6 n6 m6=>Zo D (Zg.j5 K A4 n4 m4 x4 x5 x6 A5 n5 m5 A6 n6 m6 H))|false=>none,fun i=>match Nat.beq i 21 with|true=>some (fun E D H=>∃ k,Zg.l21.L K k E D H)|false=>none,(fun i=>match Nat.beq i 46 with|true=>some ([],[0,1,3,7,7,23,63,127,255,511,1023,511,2559,8191,16383,32767,65535,65535,196607,458751,1048575,2097151,4194303],0)|false=>match Nat.beq i 24 with|true=>some ([],[0,1,2,3,4,5,6,7],8)|false=>none)⟩
theorem Zg.ok (A1:Option Addr)(n1:Nat)(m1:Nat)(x1:Int)(x2:Int)(x3:Int)(A2:Option Addr)(n2:Nat)(m2:Nat)(A3:Option Addr)(n3:Nat)(m3:Nat)(H:Hp)(K:Value→Hp→Prop)(h:Zg A1 n1 m1 x1 x2 x3 A2 n2 m2 A3 n3 m3 H K):Zc prog 5 #[.slice A1 n1 m1,.int .i64 x1,.int .u8 x2,.int .u8 x3,.slice A2 n2 m2,.slice A3 n3 m3] H K:=
 Zr Tryz.func5 rfl (nbl rfl) (Zf (Λ:=(Zg.Λ K)) cZe _ _ _ _ _ (Eq.mp (by kernel_rfl) h) (Zb Za rfl (Zb (Zb Za rfl (Zk (Zb Za rfl Zy) Zl)) rfl (aZH (Zb Za rfl (Zk (Zb Za rfl Zy) Zl)) rfl (fun E D H h=>by
   obtain⟨w0,e0,g1⟩:=DG.out h;obtain⟨A4,n4,m4,rfl,g2⟩:=DSl.out g1;obtain⟨x4,e1,g4⟩:=GI g2;obtain⟨x5,e2,g6⟩:=GI g4;obtain⟨x6,e3,g8⟩:=GI g6;obtain⟨w4,e4,g9⟩:=DG.out g8;obtain⟨A5,n5,m5,rfl,g10⟩:=DSl.out g9;obtain⟨w5,e5,g11⟩:=DG.out g10;obtain⟨A6,n6,m6,rfl,g12⟩:=DSl.out g11;obtain⟨rfl,h'⟩:=Zo.out g12;exact(Zf (Λ:=(Zg.Λ K)) cZe _ _ [(0,.slice A4 n4 m4),(1,.int .i64 x4),(2,.int .u8 x5),(3,.int .u8 x6),(4,.slice A5 n5 m5),(5,.slice A6 n6 m6)] [] H (Eq.mp (by kernel_rfl) h') (Zb Za rfl (Zb Za rfl (Zb Za rfl (Zb (Zb Za rfl (Zk (Zb Za rfl Zy) Zl)) rfl (Zb Za rfl (Zb (Zb Za rfl (Zb Za rfl (Zk (Zb Za rfl Zy) Zl))) rfl (Zb (Zb Za rfl (Zb Za rfl (Zk (Zb Za rfl Zy) Zl))) rfl (Zb Za rfl (Zb Za rfl (Zb Za rfl (aZH (Zb Za rfl (Zu (ZZ rfl (fun E D H h=>by
     refine Safe.loop' (Zg.l21.L K) (fun E D H h=>?_) (fun k E D H h=>?_) E D H h
     ·obtain⟨w0,e0,g1⟩:=DG.out h;obtain⟨A7,n7,m7,rfl,g2⟩:=DSl.out g1;obtain⟨w4,e4,g3⟩:=DG.out g2;obtain⟨A8,n8,m8,rfl,g4⟩:=DSl.out g3;obtain⟨w5,e5,g5⟩:=DG.out g4;obtain⟨A9,n9,m9,rfl,g6⟩:=DSl.out g5;obtain⟨w14,e14,g7⟩:=DG.out g6;obtain⟨p3,rfl,g8⟩:=DP.out g7;obtain⟨w15,e15,g9⟩:=DG.out g8;obtain⟨p4,rfl,g10⟩:=DP.out g9;obtain⟨w22,e22,g11⟩:=DG.out g10;obtain⟨pw22,rfl,g12⟩:=DP.out g11;obtain⟨a1,rfl,g13⟩:=NN.out g12;obtain⟨w25,e25,g14⟩:=DG.out g13;obtain⟨x16,rfl,g15⟩:=DI.out g14;obtain⟨w26,e26,g16⟩:=DG.out g15;obtain⟨x17,rfl,g17⟩:=DI.out g16;obtain⟨rfl,h'⟩:=Zo.out g17;exact h'
     ·obtain⟨w0,e0,g1⟩:=DG.out h;obtain⟨A7,n7,m7,rfl,g2⟩:=DSl.out g1;obtain⟨w4,e4,g3⟩:=DG.out g2;obtain⟨A8,n8,m8,rfl,g4⟩:=DSl.out g3;obtain⟨w5,e5,g5⟩:=DG.out g4;obtain⟨A9,n9,m9,rfl,g6⟩:=DSl.out g5;obtain⟨p3,e14,g8⟩:=GP g6;obtain⟨p4,e15,g10⟩:=GP g8;obtain⟨a1,e22,g13⟩:=GN g10;obtain⟨x16,e25,g15⟩:=GI g13;obtain⟨x17,e26,g17⟩:=GI g15;obtain⟨rfl,h'⟩:=Zo.out g17;exact(Zf (Λ:=(Zg.Λ21 K (Zg.l21 K k))) cZe _ _ [(0,.slice A7 n7 m7),(4,.slice A8 n8 m8),(5,.slice A9 n9 m9),(14,.pointer p3),(15,.pointer p4),(22,.pointer (some a1)),(25,.int .i64 x16),(26,.int .i64 x17)] [] H (Eq.mp (by kernel_rfl) h') (Zb (Zb Za rfl (Zk Zl ZS)) rfl (Zb (Zu (aZH (Zb Za rfl (Zk Za Za)) rfl (fun E D H h=>by
        obtain⟨w0,e0,g1⟩:=DG.out h;obtain⟨A10,n10,m10,rfl,g2⟩:=DSl.out g1;obtain⟨w4,e4,g3⟩:=DG.out g2;obtain⟨A11,n11,m11,rfl,g4⟩:=DSl.out g3;obtain⟨w5,e5,g5⟩:=DG.out g4;obtain⟨A12,n12,m12,rfl,g6⟩:=DSl.out g5;obtain⟨p5,e14,g8⟩:=GP g6;obtain⟨p6,e15,g10⟩:=GP g8;obtain⟨a5,e22,g13⟩:=GN g10;obtain⟨x20,e25,g15⟩:=GI g13;obtain⟨x21,e26,g17⟩:=GI g15;obtain⟨rfl,h'⟩:=Zo.out g17;exact(Zf (Λ:=(Zg.Λ21 K (Zg.l21 K k))) cZe _ _ [(0,.slice A10 n10 m10),(4,.slice A11 n11 m11),(5,.slice A12 n12 m12),(14,.pointer p5),(15,.pointer p6),(22,.pointer (some a5)),(25,.int .i64 x20),(26,.int .i64 x21)] [] H (Eq.mp (by kernel_rfl) h') (Zb Za rfl (Zb (Zb Za rfl (Zk Za (Zb Za rfl (Zk (Zb Za rfl Zy) Zl)))) rfl (Zb (Zu (ZZ rfl (fun E D H h=>by
          refine Safe.loop' (Zg.l31.L K (Zg.l21 K k)) (fun E D H h=>?_) (fun k E D H h=>?_) E D H h
          ·obtain⟨w0,e0,g1⟩:=DG.out h;obtain⟨A13,n13,m13,rfl,g2⟩:=DSl.out g1;obtain⟨w4,e4,g3⟩:=DG.out g2;obtain⟨A14,n14,m14,rfl,g4⟩:=DSl.out g3;obtain⟨w5,e5,g5⟩:=DG.out g4;obtain⟨A15,n15,m15,rfl,g6⟩:=DSl.out g5;obtain⟨w14,e14,g7⟩:=DG.out g6;obtain⟨p7,rfl,g8⟩:=DP.out g7;obtain⟨w15,e15,g9⟩:=DG.out g8;obtain⟨p8,rfl,g10⟩:=DP.out g9;obtain⟨w22,e22,g11⟩:=DG.out g10;obtain⟨pw22,rfl,g12⟩:=DP.out g11;obtain⟨a6,rfl,g13⟩:=NN.out g12;obtain⟨w25,e25,g14⟩:=DG.out g13;obtain⟨x23,rfl,g15⟩:=DI.out g14;obtain⟨w26,e26,g16⟩:=DG.out g15;obtain⟨x24,rfl,g17⟩:=DI.out g16;obtain⟨rfl,h'⟩:=Zo.out g17;exact h'
          ·obtain⟨w0,e0,g1⟩:=DG.out h;obtain⟨A13,n13,m13,rfl,g2⟩:=DSl.out g1;obtain⟨w4,e4,g3⟩:=DG.out g2;obtain⟨A14,n14,m14,rfl,g4⟩:=DSl.out g3;obtain⟨w5,e5,g5⟩:=DG.out g4;obtain⟨A15,n15,m15,rfl,g6⟩:=DSl.out g5;obtain⟨p7,e14,g8⟩:=GP g6;obtain⟨p8,e15,g10⟩:=GP g8;obtain⟨a6,e22,g13⟩:=GN g10;obtain⟨x23,e25,g15⟩:=GI g13;obtain⟨x24,e26,g17⟩:=GI g15;obtain⟨rfl,h'⟩:=Zo.out g17;exact(Zf (Λ:=(Zg.Λ31 K (Zg.l21 K k) (Zg.l31 K (Zg.l21 K k) k))) cZe _ _ [(0,.slice A13 n13 m13),(4,.slice A14 n14 m14),(5,.slice A15 n15 m15),(14,.pointer p7),(15,.pointer p8),(22,.pointer (some a6)),(25,.int .i64 x23),(26,.int .i64 x24)] [] H (Eq.mp (by kernel_rfl) h') (Zb (Zb Za rfl (Zk Zl ZS)) rfl (Zu (Zb (Zb Za rfl (Zk (Zb Za rfl Zy) Zl)) rfl (Zb Za rfl (Zb Za rfl (Zb Za rfl (Zb (Zb Za rfl (Zk (Zb Za rfl Zy) Zl)) rfl (Zb Za rfl (Zk Za Zl)))))))))).weaken (Ze.cons e0 (Ze.cons e4 (Ze.cons e5 (Ze.cons e14 (Ze.cons e15 (Ze.cons e22 (Ze.cons e25 (Ze.cons e26 (Ze.nil _))))))))) (Hp.le_refl _)))) rfl (Zb Za rfl (Zb Za rfl (Zb Za rfl (Zk (Zb Za rfl Zy) Zl)))))))).weaken (Ze.cons e0 (Ze.cons e4 (Ze.cons e5 (Ze.cons e14 (Ze.cons e15 (Ze.cons e22 (Ze.cons e25 (Ze.cons e26 (Ze.nil _))))))))) (Hp.le_refl _)))) rfl Za))).weaken (Ze.cons e0 (Ze.cons e4 (Ze.cons e5 (Ze.cons e14 (Ze.cons e15 (Ze.cons e22 (Ze.cons e25 (Ze.cons e26 (Ze.nil _))))))))) (Hp.le_refl _))))) rfl (fun E D H h=>by
     obtain⟨p10,e15,g2⟩:=GP h;obtain⟨a9,e22,g5⟩:=GN g2;obtain⟨x34,e25,g7⟩:=GI g5;obtain⟨rfl,h'⟩:=Zo.out g7;exact(Zf (Λ:=(Zg.Λ K)) cZe _ _ [(15,.pointer p10),(22,.pointer (some a9)),(25,.int .i64 x34)] [] H (Eq.mp (by kernel_rfl) h') (Zb Za rfl (Zb Za rfl Zy))).weaken (Ze.cons e15 (Ze.cons e22 (Ze.cons e25 (Ze.nil _)))) (Hp.le_refl _)))))))))))))).weaken (Ze.cons e0 (Ze.cons e1 (Ze.cons e2 (Ze.cons e3 (Ze.cons e4 (Ze.cons e5 (Ze.nil _))))))) (Hp.le_refl _))))))
def cZ9 (H:Hp)(K:Value→Hp→Prop):Prop:=
 HcP 23 #[.int .i64 30,.int .i64 32] H fun p1 H1=>HcP 24 #[.pointer p1] H1 fun p2 H2=>BIf p2.isNone (K (.bool false) H2) (HcI 25 #[.pointer p2,.int .i64 2,.int .i64 12] H2 fun x1 H3=>BIf (x1 !=0) (K (.bool false) H3) (Nw H3 (.row [.int .u64 1,.int .u64 0,.int .u64 0,.int .u64 0] 84 4) fun b1 H4=>Hz 27 #[.pointer p2,.slice (some ⟨b1,0,none⟩) 4 4] H4 fun v4 H5=>jZb v4 fun x2 x3=>(HcI 28 #[.pointer p2,.int .i64 0] H5 fun x4 H6=>Hz 19 #[.pointer p2] H6 fun v8 H7=>tZf v8 fun c1 x5=>(Hz 20 #[.pointer p2] H7 fun v11 H8=>eZa v11 fun A1 n1 m1 x6=>(BIf (x3==0) (BIf (x4==0) (BIf c1 (BIf (x5==0) (BIf (x6==0) (Nw H8 (.row [.int .u64 1,.int .u64 1,.int .u64 1,.int .u64 1] 84 4) fun b2 H9=>HcB 18 #[.slice A1 n1 m1,.slice (some ⟨b2,0,none⟩) 4 4] H9 fun c2 H10=>K (.bool c2) H10) (K (.bool false) H8)) (K (.bool false) H8)) (K (.bool false) H8)) (K (.bool false) H8)) (K (.bool false) H8))))))
theorem cZ9.ok (H:Hp)(K:Value→Hp→Prop)(h:cZ9 H K):Zc prog 22 #[] H K:=
 Zr Tryz.func22 rfl (nbl rfl) (Zf (Λ:=Zn.none (fun _=>none)) cZe _ _ _ _ _ (Eq.mp (by kernel_rfl) h) (Zt _ _ _ _ _))
end W
namespace Eng
open Go Go.Hw Go.Form W Shp Dsk Str Are Trn Pas Pln Rec Srt Rng
def w1 :List UInt64:=[1,0,0,0]
theorem xZd (w:Fft.Zp)(i:Nat):Fft.dft w 4 (Fft.at' w1) i=1:=by
 have h0:Fft.at' w1 0=1:=by decide
 have h1:Fft.at' w1 1=0:=by decide
 have h2:Fft.at' w1 2=0:=by decide
 have h3:Fft.at' w1 3=0:=by decide
 unfold Fft.dft;simp only[Fft.sm,h0,h1,h2,h3,Nat.zero_mul];show _+_=_
 simp only[Fft.pw];grind
theorem tf1 :tfL false 2 w1=[1,1,1,1]:=by
 rw[nZb];apply List.ext_getElem?;intro i;by_cases hi:i<4
 ·rw[hZH false 2 w1 (i:=i) (by omega)];have:(2:Nat)^2=4:=rfl;rw[this,xZd];have hu:Fft.uw 1=1:=by decide
  rw[hu]
  match i,hi with
  |0,_=>rfl
  |1,_=>rfl
  |2,_=>rfl
  |3,_=>rfl
 ·rw[List.getElem?_eq_none (by rw[Fft.eZR];omega),List.getElem?_eq_none (by simpa using hi)]
theorem wZ1 :aZM false 2 4 12=[jZD false 2]:=by unfold aZM;rw[if_pos (by decide)]
theorem wZj :bZN 30 (32/8) ((2:Nat):Int) ((12:Nat):Int)=0:=by decide +kernel
theorem qZn (H:Hp)(hT:T64 H):Zc prog 22 #[] H (RetE (.bool true) H):=by
 apply Zc.ret;apply cZ9.ok;unfold cZ9;have hs:=Sep.start H;refine(Dsk.dZA 30 32 (by omega) (by decide) (by omega)).use hs [] rfl rfl ?_;rintro _ _ H1 ⟨dp,rfl,rfl⟩ hs;simp only[HV];refine(jZh (dp:=dp)).use hs [] rfl rfl ?_;rintro _ _ H1 ⟨p,rfl,rfl⟩ hs;simp only[HV];refine aZu rfl ?_;have hs:Sep [En p dp none,Dk dp (D.fresh 30 32),own H] H1:=hs;have hcl:=Clean.fresh (sec:=30) (size:=32) (by omega) (by decide) (by omega);refine(mZt (p:=p) (dp:=dp) (g:=none) hcl (by decide) ⟨Nat.zero_le _,Nat.zero_le _,Nat.zero_le _⟩ 2 12).use hs [0,1] rfl rfl ?_;rintro _ _ H1 (⟨h,_⟩|⟨kn,wn,e1,e2,_,⟨d,c,hw',hc,hh,rfl,rfl⟩|⟨d',hcut,_⟩⟩) hs
 ·exact absurd wZj h
 rotate_left
 ·exact(hcut.calm rfl).elim
 obtain rfl:kn=2:=by omega
 obtain rfl:wn=12:=by omega
 have r1:=hw'.rd;have r2:=hw'.wr;have r3:=hw'.sy;have hL:Liv 2 d c (aZ3 2 12):=⟨hc,by rw[hw'.sec,hw'.size];exact hh,by decide,Nat.zero_le _,Nat.zero_le _,by rw[r1];show 0+0≤_;omega,by rw[r2];show 0+10≤_;omega,by rw[r3];show 0+3≤_;omega⟩;have hf:d.fuse=0:=hw'.calm rfl;have hsz:d.size=32:=hw'.size;simp only[HV];refine ZB rfl ?_;refine hs.nw fun b1 H1 hs=>?_
 have hs:Sep [En p dp (some (egM (D.fresh 30 32) (aZ3 2 12) 0)),Dk dp d,own H,pts b1 (.row (Zd w1) 84 4)] H1:=hs;rw[← eZz (aZ3 2 12) 0 hw'.sec hw'.size]at hs;have hR:∀ H,pts b1 (.row (Zd w1) 84 4) H→Cells H (some ⟨b1,0,none⟩) (Zd w1):=fun H h=>by
  have:=Cells.row h 0 4
  rwa [List.drop_zero,List.take_of_length_le (by decide)]at this
 have hsm:=hL.small (by omega);have hlg:lg ((w1.length:Nat):Int)=some 2:=iZs (k:=2) (by omega);have hcan:iZd w1:=by decide
 refine(pZi (p:=p) (dp:=dp) hL.cl hL.hh hsm.1 hsm.2 (by decide) (l:=w1) (A:=some ⟨b1,0,none⟩) (n:=4) (mm:=4) (RR:=pts b1 (.row (Zd w1) 84 4)) (TT:=own H) rfl (Nat.le_refl _) (by decide) hR (.inl fun H h=>hT.le h)).use hs [0,1,3,2] rfl rfl ?_;rintro _ _ H1 (⟨k',i,e,hchk,hne,_⟩|⟨k',hk',_,_,⟨d1,c1,pk1,hpk1,hw1,hc1,hh1,rfl,rfl⟩|⟨d1,hcut,_⟩⟩) hs
 ·cases hchk with
  |len h=>rw[h]at hlg;cases hlg
  |big h h2=>rw[h]at hlg;cases hlg;exact absurd h2 (by decide)
  |word h h2 h3=>exact absurd hcan h3
  |ok h h2 h3=>exact absurd rfl hne
 rotate_left
 ·exact(hcut.calm hf).elim
 obtain rfl:k'=2:=by rw[hlg]at hk';cases hk';rfl
 have hf1:d1.fuse=0:=hw1.calm hf;have h1r:(aZR (aZ3 2 12) 2).r=cZt (aZ3 2 12) 2:=Mn.add_r _ _;have h2r:(bZe (aZ3 2 12) 2 w1).r=dZi (aZR (aZ3 2 12) 2) 2 w1:=Mn.add_r _ _;have hld1:(bZe (aZ3 2 12) 2 w1).r.ld=1:=by rw[h2r];show(aZR (aZ3 2 12) 2).r.ld=_;rw[h1r];rfl
 have hcost:ldR (d.size/8) 2≤2000∧ldW (d.size/8) 2≤2000:=by
  have hb1:=lZT (d.size/8) 2;have hb2:=lZU (d.size/8) 2;have hb3:=jZV (per:=d.size/8) (w:=2^2) (by rw[hsz];decide) (by decide);unfold ldR ldW;omega
 have hL1:Liv 4 d1 c1 (bZe (aZ3 2 12) 2 w1):=hL.went hw1 (by omega) hc1 hh1 rfl (by decide) (by omega);have hsm1:=hL1.small (by omega);simp only[HV];have hs:Sep [En p dp (some (egM d (bZe (aZ3 2 12) 2 w1) pk1)),Dk dp d1,pts b1 (.row (Zd w1) 84 4),own H] H1:=hs;rw[← eZz (bZe (aZ3 2 12) 2 w1) pk1 hw1.sec hw1.size]at hs;have hst:stM (bZe (aZ3 2 12) 2 w1) (d1.size/8)=2:=by unfold stM;rw[if_pos (by rw[h2r];rfl)]
 refine(mZx (p:=p) (dp:=dp) hL1.cl hL1.hh hsm1.1 hsm1.2 hpk1 0).use hs [0,1] rfl rfl ?_;rintro _ _ H1 (⟨h,_⟩|⟨_,h,_⟩|⟨_,b',hb',⟨d2,c2,hw2,hc2,hh2,rfl,rfl⟩|⟨d2,hcut,_⟩⟩) hs
 ·exact absurd hst h
 ·exact absurd (.inl rfl) h
 rotate_left
 ·exact(hcut.calm hf1).elim
 obtain rfl:b'=false:=by cases b'<;>first|rfl|(exfalso;revert hb';decide)
 have h3r:(eZs (aZ3 2 12) 2 w1 false).r=cZ3 (bZe (aZ3 2 12) 2 w1) false:=Mn.add_r _ _;have hld2:(eZs (aZ3 2 12) 2 w1 false).r.ld=1:=by rw[h3r];exact hld1
 have hL2:Liv 6 d2 c2 (eZs (aZ3 2 12) 2 w1 false):=hL1.went hw2 (by omega) hc2 hh2 rfl (by decide) (by show(eZs (aZ3 2 12) 2 w1 false).r.ld≤_;omega);simp only[HV];have hs:Sep [En p dp (some (egM d1 (eZs (aZ3 2 12) 2 w1 false) pk1)),Dk dp d2,pts b1 (.row (Zd w1) 84 4),own H] H1:=hs;rw[← eZz (eZs (aZ3 2 12) 2 w1 false) pk1 hw2.sec hw2.size]at hs;have hsz2:d2.size=32:=hw2.size.trans (hw1.size.trans hsz);have hf2:d2.fuse=0:=hw2.calm hf1;have hJ:=oZh (aZ3 2 12) 2 w1 false;have har:(eZs (aZ3 2 12) 2 w1 false).arena=12:=rfl;have hpk2:pk1≤(eZs (aZ3 2 12) 2 w1 false).arena:=hpk1;generalize eZs (aZ3 2 12) 2 w1 false=m at*;have e8:d2.size/8=4:=by rw[hsz2]
 have hpl:(aZM false 2 (d2.size/8) m.arena).length=1:=by rw[e8,har,wZ1];rfl
 have hst3:stM m (d2.size/8)=3:=by rw[hJ.st,hpl,if_pos (by omega)]
 have hsm2:=hL2.small (by omega);refine(pZo (p:=p) (dp:=dp) (TT:=own H) (fun H h=>hT.le h) hL2.cl hL2.hh hsm2.1 hsm2.2 hpk2 (by rw[hJ.kk];decide)).use hs [0,1,3] rfl rfl ?_;rintro v M H1 (⟨h,_⟩|⟨_,r,w,hC,⟨d3,c3,pk3,hpk3,hw3,hc3,hh3,rfl,rfl⟩|⟨d3,hcut,_⟩⟩) hs
 ·exact absurd hst3 h
 rotate_left
 ·exact(hcut.calm hf2).elim
 have hL3:=hL2.stepped hC hw3 hc3 hh3;have hJ3:=hJ.next (d2.size/8);have hst4:stM (m.add (bZu m (d2.size/8))) (d2.size/8)=4:=by
  rw[hJ3.st];have:(m.add (bZu m (d2.size/8))).arena=m.arena:=rfl;rw[this,hpl,if_neg (by omega)]
 have hout:mZd (m.add (bZu m (d2.size/8))) (d3.size/8)=[1,1,1,1]:=by
  unfold mZd;rw[hJ3.plan,hJ3.inp];exact(pZH false 2 _ _ (by omega) w1 rfl).trans tf1
 rw[hst4];have hsm3:=hL3.small (by omega);have hpk3':pk3≤((m.add (bZu m (d2.size/8))).arena:Int):=hpk3;generalize m.add (bZu m (d2.size/8))=m3 at*;simp only[HV];have hs:Sep [En p dp (some (egM d2 m3 pk3)),Dk dp d3,own H,pts b1 (.row (Zd w1) 84 4)] H1:=hs;rw[← eZz m3 pk3 hw3.sec hw3.size]at hs;refine(iZ3 (p:=p) (dp:=dp) hL3.cl hL3.hh hsm3.2 hpk3').use hs [0,1] rfl rfl ?_;rintro v M H1 (⟨h,_⟩|⟨_,hq⟩) hs
 ·rw[hw3.size]at h;exact absurd hst4 h
 rw[hout]at hq;rcases hq with⟨d4,bo,mo,pk4,h1,h2,h3,rfl,rfl⟩|⟨d4,h1,_⟩
 ·simp only[HV];refine aZb rfl (aZb rfl (aZN rfl (aZb rfl (aZb rfl ?_))));refine hs.nw fun b2 H1 hs=>?_
  refine Zc.use (kZB (some ⟨bo,0,none⟩) (some ⟨b2,0,none⟩) 4 4 4 4 [1,1,1,1] rfl rfl (by omega) H1 (Cells.row (hs.get 2 rfl) 0 4) (Cells.row (hs.get 5 (b:=b2) (o:=.row (Zd [1,1,1,1]) 84 4) rfl) 0 4)) ?_;simp only[HV];exact hs.fin 3 rfl _
 ·exact(h1.calm (hw3.calm hf2)).elim
structure vZY where
 k:Int
 n:Int
 m:Int
 A:Option Addr
 nA:Nat
 mA:Nat
 l:List UInt64
 G:Option Addr
 nG:Nat
 mG:Nat
 ks:List Bool
structure OkE (H:Hp)(a:vZY):Prop where
 nA:a.nA=a.l.length
 mA:a.nA≤a.mA
 l:Cells H a.A (Zd a.l)
 nG:a.nG=a.ks.length
 ks:Cells H a.G (cZ4 a.ks)
 n: -9223372036854775808≤a.n∧a.n≤9223372036854775807
 m: -9223372036854775808≤a.m∧a.m≤9223372036854775807
theorem OkE.le {H H':Hp}{a:vZY}(h:OkE H a)(k:H.le H'):OkE H' a:=⟨h.nA,h.mA,h.l.le k,h.nG,h.ks.le k,h.n,h.m⟩
section
open Go.RowKit Go.ChangeShapes Go.WideShapes Go.ChangeAt
variable {H : Type} {enc : TypeId × Value → H} {W : World}
end
structure tZe (m0 m:Mn):Prop where
 most:m.most=m0.most
 arena:m.arena=m0.arena
 inp:m.inp=m0.inp
 kd:2≤m.r.kd
theorem tZe.pass {m0 m:Mn}(h:tZe m0 m)(per:Nat):tZe m0 (m.add (bZu m per)):=⟨h.most,h.arena,h.inp,by rw[Mn.add_r];show(2:Int)≤4;omega⟩
theorem Liv.up {N N':Nat}{d:D}{c:Cn}{m:Mn}(h:Liv N d c m)(hN:N≤N'):Liv N' d c m:=by
 have q1:=h.len;have q2:=h.ld;have q3:=h.rd;have q4:=h.wr;have q5:=h.sy;exact⟨h.cl,h.hh,h.most,by omega,by omega,by omega,by omega,by omega⟩
theorem Liv.fused {N:Nat}{d:D}{c:Cn}{m:Mn}(h:Liv N d c m)(n:Nat)(hn:n≤9223372036854775807):Liv N { d with fuse:=n} c m:=⟨h.cl.fused n hn,h.hh,h.most,h.len,h.ld,h.rd,h.wr,h.sy⟩
theorem Clean.again {d:D}{c:Cn}(hc:Clean d c):Ok { d with down:=true,fuse:=0}∧Dom { d with down:=true,fuse:=0}∧∀ ks,KeysOf (bZy d.cache) ks→∀ keep,Clean (D.boot { d with down:=true,fuse:=0} ks keep) c:=by
 have hok:=hc.ok;have hok3:Ok { d with down:=true,fuse:=0}:=⟨hok.sec,hok.size,hok.big,hok.per,hok.safe,hok.cache,Nat.zero_le _⟩;refine⟨hok3,fun k hk=>hc.dom k hk,fun ks hks keep=>?_⟩;obtain⟨c3,ec3,hc3⟩:=(hc.crash).boot hok3 hks keep;rw[ec3]at hc3;exact hc3
theorem Liv.again {N:Nat}{d:D}{c:Cn}{m:Mn}(h:Liv N d c m){ks:List Int}(hks:KeysOf (bZy d.cache) ks)(keep:List Bool):Liv N (D.boot { d with down:=true,fuse:=0} ks keep) c m:=
 ⟨(h.cl.again).2.2 ks hks keep,h.hh,h.most,h.len,h.ld,h.rd,h.wr,h.sy⟩
theorem Dea.boot {N sc sz:Nat}{d:D}{P:Mn→Prop}(h:Dea N sc sz d P){ks:List Int}(hks:KeysOf (bZy d.cache) ks)(keep:List Bool):∃ c m,P m∧Liv N (D.boot d ks keep) c m∧(D.boot d ks keep).sec=sc∧(D.boot d ks keep).size=sz:=by
 obtain⟨c,⟨m,hP,h1,h2,h3,h4⟩,hc⟩:=h.left.boot h.ok hks keep;refine⟨c,m,hP,⟨hc,?_,h1,h2,h3,h.rd,h.wr,h.sy⟩,h.sec,h.size⟩;have e1:(D.boot d ks keep).sec=sc:=h.sec;have e2:(D.boot d ks keep).size=sz:=h.size;rw[e1,e2];exact h4
theorem mZ8 (e:Eg):(((jZ5 (some e)).map (Value.int .i64)).toArray)[0]? =some (.int .i64 (stE e)):=by
 have h:=mZ7 e;show(((if stE e=1 then _ else if stE e=2 then _ else _:List Int).map (Value.int .i64)).toArray)[0]? =_
 rcases h with h|h|h|h<;>rw[h]<;>rfl
theorem sZG {e:Eg}(h:3≤stE e):jZ5 (some e)=[stE e,e.r.ld,e.r.kk,e.r.dir,e.r.ps,(psE e).length]:=by
 show(if stE e=1 then _ else if stE e=2 then _ else _:List Int)=_
 rw[if_neg (by omega),if_neg (by omega)]
theorem pZt {dp:Nat}{d:D}{L:List As}{H:Hp}(h:Sep L H)(i:Nat)(hi:L[i]? =some (Dk dp d)):Zc prog 12 #[.pointer (some ⟨dp,7,none⟩)] H (RetE (.bool d.down) H):=vZX h i hi
structure Jb (N sc sz ar:Nat)(k:Nat)(b:Bool)(l:List UInt64)(d:D)(c:Cn)(m:Mn)(i:Nat):Prop where
 lv:Liv N d c m
 sec:d.sec=sc
 size:d.size=sz
 har:m.arena=ar
 jb:Job m k b l i
 le:i≤(aZM b k (sz/8) ar).length
section
variable {K : Value → Hp → Prop} {R12 : Option Addr → Nat → Nat → Int → Option Addr → Nat → Nat → Option Addr → Nat → Nat → Option Addr → Nat → Nat → Int → Addr → Int → Int → Int → Hp → Prop} {H0 : Hp}
variable {A9 A10 A11 A12 : Option Addr} {n9 m9 n10 m10 n11 m11 n12 m12 : Nat} {x9 : Int} {p dp b1 k x w sc sz ar : Nat} {b : Bool} {l : List UInt64} {keep more : List Bool}
variable (hT : T64 H0) (hk6 : k ≤ 6) (hn11 : n11 = keep.length) (hc11 : Cells H0 A11 (cZ4 keep)) (hn12 : n12 = more.length) (hc12 : Cells H0 A12 (cZ4 more))
end
section
variable {H0 : Hp} {A9 A10 A11 A12 : Option Addr} {n9 m9 n10 m10 n11 m11 n12 m12 : Nat} {p dp b1 k x w sc sz ar : Nat} {b : Bool} {l : List UInt64} {keep more : List Bool} {fs : List UInt8}
variable (hT : T64 H0) (hk6 : k ≤ 6) (hl : Cells H0 A9 (Zd l)) (hn9 : n9 = l.length) (hl2 : l.length = 2 ^ k) (hn11 : n11 = keep.length) (hc11 : Cells H0 A11 (cZ4 keep)) (hn12 : n12 = more.length) (hc12 : Cells H0 A12 (cZ4 more)) (hn10 : n10 = fs.length) (hn16 : n10 ≤ 16) (hc10 : Cells H0 A10 (Zx fs))
end
end Eng
end Go.Proofs.YtahjgjaenegpgaaGreatDoor
