import Derived.Test.YtlgnlghmbcpmhaaGreatDoorProg
import Derived.Test.YtlgnlghmbcpmhaaGreatDoorPkEngineMachine7
set_option maxRecDepth 100000
set_option linter.unusedSimpArgs false
set_option linter.unusedVariables false
set_option linter.unnecessarySimpa false
set_option linter.unusedSectionVars false
open Go.IntKind (i64 u64)
namespace Go.Proofs.YtlgnlghmbcpmhaaGreatDoor
open Tryz (prog)
namespace Eng
open Go Go.Hw Go.Form Dsk Str Rec Srt Rng Pln Trn
theorem kZj {k p:Nat}(hp:1<=p):2^k<=Lay.ZX k p*p:=by
 have h1:=Nat.two_pow_pos k;have h2:=Nat.div_add_mod (2^k-1) p;have h3:=Nat.mod_lt (2^k-1) (show p>0 by omega);unfold Lay.ZX;rw[Nat.add_mul,Nat.mul_comm,Nat.one_mul];omega
theorem iZp {k m p:Nat}(h:k<=m):Lay.ZX k p<=Lay.ZX m p:=by
 have h1:2^k<=2^m:=Nat.pow_le_pow_right (by omega) h;unfold Lay.ZX;have:=Nat.div_le_div_right (c:=p) (show 2^k-1<=2^m-1 by omega);omega
theorem eZ1 {s:Nat}(h:0<Lay.aZg s):Lay.aZg s=s/8/\4<=s/8/\s/8<=512/\8*(s/8)=s:=by
 have:s=32∨s=64∨s=128∨s=256∨s=512∨s=1024∨s=2048∨s=4096:=by
  unfold Lay.aZg at h
  repeat' split at h
  all_goals omega
 rcases this with e|e|e|e|e|e|e|e<;>subst e<;>decide
theorem bZ4 {m sec s:Nat}{ar:Int}(h:Sup.bZy (m:Int) sec s ar=true):m<=32/\0<Lay.aZg s/\Lay.bZT m (s/8)<=sec/\1<=ar/\ar<=16777216:=by
 have h1:=of_decide_eq_true h;have h3:=h1.2.2.1;have h2:=eZ1 h3;rw[h2.1,Int.toNat_natCast]at h1;exact⟨by omega,h3,by omega,h1.2.2.2.2⟩
theorem pZ3 {c c':Cn}{per most i k:Nat}(hp:1<=per)(h:∀ j:Nat,j<Lay.ZX k per->c' ((9+i*Lay.ZX most per+j:Nat):Int)=c ((9+i*Lay.ZX most per+j:Nat):Int)):
  cws c' per (9+i*Lay.ZX most per) (2^k)=cws c per (9+i*Lay.ZX most per) (2^k):=mZv hp (kZj hp) h
theorem Holds.per {sec size:Nat}{m:Mn}{c:Cn}(h:Holds sec size m c):4<=size/8/\size/8<=512/\8*(size/8)=size:=(eZ1 (bZ4 h.good).2.1).2
theorem Holds.sam {sec size:Nat}{m:Mn}{c c':Cn}(h:Holds sec size m c)(h0:∀ i:Nat,i<=8->c' (i:Int)=c (i:Int))
  (h1:∀ r,m.L.getLast? =some r->2<=r.kd->∀ j:Nat,j<Lay.ZX r.kk.toNat (size/8)->c' ((9+j:Nat):Int)=c ((9+j:Nat):Int))
  (h2:∀ r,m.L.getLast? =some r->r.kd=4->∀ p,(aZv m (size/8) r)[r.ps.toNat-1]? =some p->∀ j:Nat,j<Lay.ZX r.kk.toNat (size/8)->c' ((9+p.o*Lay.ZX m.most (size/8)+j:Nat):Int)=c ((9+p.o*Lay.ZX m.most (size/8)+j:Nat):Int)):Holds sec size m c':=by
 have hp:=h.per;refine⟨(h0 0 (by omega)).trans h.sup,h.good,h.least,h.log,fun i hi=>(h0 (1+i) (by omega)).trans (h.ring i hi),h.kk,fun r hr hk=>?_,fun r hr hk=>?_⟩
 ·have q:=h.inp r hr hk;refine⟨q.len,q.can,q.sum,?_⟩;rw[mZv (f:=9) (by omega) (kZj (show 1<=size/8 by omega)) (h1 r hr hk)];exact q.ws
 ·have q:=h.out r hr hk;refine⟨q.ps,fun p hp'=>?_,q.sum⟩;rw[pZ3 (by omega) (h2 r hr hk p hp')];exact q.ws p hp'
theorem qZB {c:Cn}{s:Nat}{b:List UInt8}{j:Nat}(hj:9<=j:=by omega):bZD c (aZX 1 8 s) b (j:Int)=c (j:Int):=by
 have:=hZ8 (f:=1) (n:=8) (s:=s);exact iZS _ _
theorem lZo.upd {m:Mn}{per:Nat}{c:Cn}{r:R}(h:lZo m per c r)(hp:1<=per)(s:Nat)(b:List UInt8):lZo m per (bZD c (aZX 1 8 s) b) r:=
 ⟨h.len,h.can,h.sum,by rw[mZv (f:=9) hp (kZj hp) (fun j _=>qZB)];exact h.ws⟩
theorem lZr.upd {m:Mn}{per:Nat}{c:Cn}{r:R}(h:lZr m per c r)(hp:1<=per)(s:Nat)(b:List UInt8):lZr m per (bZD c (aZX 1 8 s) b) r:=
 ⟨h.ps,fun p hp'=>by rw[pZ3 hp (fun j _=>qZB)];exact h.ws p hp',h.sum⟩
theorem Holds.app {sec size:Nat}{m:Mn}{c:Cn}(h:Holds sec size m c){r:R}(hg:r.good)(hu:r.u32)(hm:cZQ m.L.getLast? r=true)(hkk:r.kk<=m.most)
  (hi:2<=r.kd->lZo m (size/8) c r) (ho:r.kd=4->lZr m (size/8) c r):Holds sec size { m with L:=m.L++[r]} (bZD c (aZX 1 8 r.s) (r.form size)):=by
 have hp:=h.per;have hsl:=hZ8 (f:=1) (n:=8) (s:=r.s);have hl:∀ x,(m.L++[r]).getLast? =some x->x=r:=fun x hx=>by
  rw[List.getLast?_append]at hx;have:r=x:=by simpa using hx
  exact this.symm
 refine⟨?_,h.good,h.least,h.log.snoc hg hu hm,h.ring.upd r,fun x hx=>?_,fun x hx hk=>?_,fun x hx hk=>?_⟩
 ·rw[iZS _ _];exact h.sup
 ·rw[hl x hx];exact hkk
 ·obtain rfl:=hl x hx;have q:=(hi hk).upd (show 1<=size/8 by omega) x.s (x.form size);exact⟨q.len,q.can,q.sum,q.ws⟩
 ·obtain rfl:=hl x hx;have q:=(ho hk).upd (show 1<=size/8 by omega) x.s (x.form size);exact⟨q.ps,q.ws,q.sum⟩
theorem Holds.target {sec size:Nat}{m:Mn}{c c':Cn}(h:Holds sec size m c){t k:Nat}(hk:k<=m.most)(ht:∀ r,m.L.getLast? =some r->2<=r.kd->t≠0)
  (ho:∀ r,m.L.getLast? =some r->r.kd=4->∀ p,(aZv m (size/8) r)[r.ps.toNat-1]? =some p->t≠p.o) (hs:Sam (inX (exX m.most (size/8) t k)) c c'):Holds sec size m c':=by
 have hp:=h.per;have hrk:Lay.ZX k (size/8)<=Lay.ZX m.most (size/8):=iZp hk;generalize hR:Lay.ZX m.most (size/8)=Rm at hrk;have ext:∀(i j:Nat) (r:R),m.L.getLast? =some r->i≠t->j<Lay.ZX r.kk.toNat (size/8)->c' ((9+i*Rm+j:Nat):Int)=c ((9+i*Rm+j:Nat):Int):=fun i j r hr hit hj=>by
  have h1:=h.kk r hr;have h2:=(h.log.last hr).1;have hkr:Lay.ZX r.kk.toNat (size/8)<=Rm:=by rw[← hR];exact iZp (by omega)
  apply hs;unfold inX exX;simp only[hR];rintro⟨a,b⟩;rcases Nat.lt_or_gt_of_ne hit with hlt|hlt
  ·have:(i+1)*Rm<=t*Rm:=Nat.mul_le_mul_right _ hlt;rw[Nat.succ_mul]at this;omega
  ·have:(t+1)*Rm<=i*Rm:=Nat.mul_le_mul_right _ hlt;rw[Nat.succ_mul]at this;omega
 refine h.sam (fun i hi=>hs _ ?_) (fun r hr hkd j hj=>?_) fun r hr hkd p hp' j hj=>?_
 ·unfold inX exX;rintro⟨a,b⟩;have:(0:Int)<=(t*Lay.ZX m.most (size/8):Nat):=Int.natCast_nonneg _;simp only at a;omega
 ·have:=ext 0 j r hr (fun e=>ht r hr hkd e.symm) hj;rw[Nat.zero_mul,Nat.add_zero]at this;exact this
 ·rw[hR];exact ext p.o j r hr (fun e=>ho r hr hkd p hp' e.symm) hj
def Mn.r (m:Mn):R:=m.L.getLast?.getD bZl
theorem Mn.r_some {m:Mn}{r:R}(h:m.L.getLast? =some r):m.r=r:=by unfold Mn.r;rw[h];rfl
theorem Mn.r_or (m:Mn):(m.L=[]/\m.r=bZl)∨m.L.getLast? =some m.r:=by
 cases h:m.L.getLast? with
 |none=>exact .inl ⟨List.getLast?_eq_none_iff.1 h,by unfold Mn.r;rw[h];rfl⟩
 |some r=>exact .inr (by rw[Mn.r_some h])
theorem Mn.r_kd {m:Mn}(h:m.r.kd≠0:=by omega):m.L.getLast? =some m.r:=by
 rcases m.r_or with⟨_,e⟩|e
 ·rw[e]at h;exact absurd rfl h
 ·exact e
def Mn.add (m:Mn)(r:R):Mn:={ m with L:=m.L++[r]}
theorem Mn.add_r (m:Mn)(r:R):(m.add r).r=r:=by unfold Mn.r Mn.add;simp
theorem Mn.add_last (m:Mn)(r:R):(m.add r).L.getLast? =some r:=by unfold Mn.add;simp
structure Small (B:Nat)(m:Mn):Prop where
 len:m.L.length<=B
 ld:m.r.ld<=B
theorem Small.add {B:Nat}{m:Mn}(h:Small B m){r:R}(hr:r.ld<=B+1):Small (B+1) (m.add r):=⟨by unfold Mn.add;have:=h.len;simp;omega,by rw[Mn.add_r];exact hr⟩
def Mn.seq (m:Mn):Nat:=m.L.length+1
theorem Mn.seq_r {sec size:Nat}{m:Mn}{c:Cn}(h:Holds sec size m c):m.r.s+1=m.seq:=by
 rcases m.r_or with⟨e1,e2⟩|e
 ·rw[e2];unfold Mn.seq;rw[e1];rfl
 ·have:=(h.log.last e).2.2;unfold Mn.seq;omega
def cZl (m:Mn)(k:Nat):R:=⟨m.seq,1,k,0,0,m.r.ld+1,0,0⟩
def cZ2 (m:Mn)(k:Nat)(l:List UInt64):R:=⟨m.seq,2,k,0,0,m.r.ld,eZX l,0⟩
def bZB (m:Mn)(d:Bool):R:=⟨m.seq,3,m.r.kk,if d=true then 1 else 0,0,m.r.ld,m.r.inp,0⟩
def aZV (m:Mn)(per:Nat):R:=⟨m.seq,4,m.r.kk,m.r.dir,m.r.ps+1,m.r.ld,m.r.inp,eZX (apL ((aZv m per m.r).take (m.r.ps.toNat+1)) m.inp)⟩
section
variable {sec size : Nat} {m : Mn} {c : Cn} (h : Holds sec size m c) {B : Nat} (hs : Small B m) (hB : B <= 1000000)
include h hs hB
theorem wZx {k:Nat}(hk:k<=m.most):(cZl m k).good/\(cZl m k).u32/\cZQ m.L.getLast? (cZl m k)=true/\Holds sec size (m.add (cZl m k)) (bZD c (aZX 1 8 m.seq) ((cZl m k).form size)):=by
 have hg:=bZ4 h.good;have hl:=hs.len;have hd:=hs.ld;have hsq:m.seq=m.L.length+1:=rfl;have g:(cZl m k).good:=⟨by show 1<=m.seq;omega,by show m.seq<_;omega,by show(0:Int)<=k;omega,by show(k:Int)<=32;omega,.inl rfl,.inl ⟨rfl,rfl,rfl,rfl,rfl⟩⟩;have u:(cZl m k).u32:=⟨by show m.r.ld+1<_;omega,by show 0<_;omega,by show 0<_;omega⟩;have may:cZQ m.L.getLast? (cZl m k)=true:=by
  have hsr:=Mn.seq_r h;rcases m.r_or with⟨e1,e2⟩|e
  ·rw[e1];exact decide_eq_true ⟨by show m.seq=1;rw[hsq,e1];rfl,rfl⟩
  ·rw[e];exact decide_eq_true ⟨(h.log.last e).1,g,by show m.seq=_;omega,.inl rfl⟩
 exact⟨g,u,may,h.app g u may (by show(k:Int)<=m.most;omega) (fun h2=>absurd h2 (show ¬(2:Int)<=1 by omega)) (fun h4=>absurd h4 (show ¬(1:Int)=4 by omega))⟩
theorem vZO {k:Nat}(hk:m.r.kd=1)(hkk:m.r.kk=k){l:List UInt64}(hl:l.length=2^k)(hcan:∀ w∈l,w.toNat<18446744069414584321)(hw:cws c (size/8) 9 (2^k)=l):
  (cZ2 m k l).good/\(cZ2 m k l).u32/\cZQ m.L.getLast? (cZ2 m k l)=true/\Holds sec size ({ m with inp:=l}.add (cZ2 m k l)) (bZD c (aZX 1 8 m.seq) ((cZ2 m k l).form size)):=by
 have hg:=bZ4 h.good;have hlen:=hs.len;have hd:=hs.ld;have hsq:m.seq=m.L.length+1:=rfl;have e:=Mn.r_kd (m:=m);have hkm:=h.kk _ e;have hm:Holds sec size { m with inp:=l} c:=⟨h.sup,h.good,h.least,h.log,h.ring,h.kk,fun r hr h2=>by
  have e1:m.L.getLast? =some r:=hr;rw[e]at e1;cases e1;omega,fun r hr h4=>by
  have e1:m.L.getLast? =some r:=hr;rw[e]at e1;cases e1;omega⟩
 have g:(cZ2 m k l).good:=⟨by show 1<=m.seq;omega,by show m.seq<_;omega,by show(0:Int)<=k;omega,by show(k:Int)<=32;omega,.inl rfl,.inr (.inl ⟨rfl,rfl,rfl,rfl⟩)⟩;have u:(cZ2 m k l).u32:=⟨by show m.r.ld<_;omega,pZ1 l,by show 0<_;omega⟩;have may:cZQ m.L.getLast? (cZ2 m k l)=true:=by
  have hsr:=Mn.seq_r h;rw[e];exact decide_eq_true ⟨(h.log.last e).1,g,by show m.seq=_;omega,.inr (.inl ⟨rfl,hk,rfl,hkk⟩)⟩
 exact⟨g,u,may,hm.app g u may (by show(k:Int)<=m.most;omega) (fun _=>⟨by show l.length=2^((k:Int).toNat);rw[Int.toNat_natCast];exact hl,hcan,rfl,by show cws c _ 9 (2^((k:Int).toNat))=l;rw[Int.toNat_natCast];exact hw⟩) (fun h4=>absurd h4 (show ¬(2:Int)=4 by omega))⟩
theorem wZo (hk:2<=m.r.kd)(d:Bool):(bZB m d).good/\(bZB m d).u32/\cZQ m.L.getLast? (bZB m d)=true/\Holds sec size (m.add (bZB m d)) (bZD c (aZX 1 8 m.seq) ((bZB m d).form size)):=by
 have hg:=bZ4 h.good;have hlen:=hs.len;have hd:=hs.ld;have hsq:m.seq=m.L.length+1:=rfl;have e:=Mn.r_kd (m:=m);have hkm:=h.kk _ e;have hr:=h.log.last e;have hi:=h.inp _ e hk;have g:(bZB m d).good:=⟨by show 1<=m.seq;omega,by show m.seq<_;omega,hr.1.2.2.1,hr.1.2.2.2.1,by show(if d=true then(1:Int)else 0)=0∨(if d=true then(1:Int)else 0)=1;cases d<;>simp,.inr (.inr (.inl ⟨rfl,rfl⟩))⟩;have u:(bZB m d).u32:=⟨by show m.r.ld<_;omega,hr.2.1.inp,by show 0<_;omega⟩;have may:cZQ m.L.getLast? (bZB m d)=true:=by
  have hsr:=Mn.seq_r h;rw[e];exact decide_eq_true ⟨hr.1,g,by show m.seq=_;omega,.inr (.inr (.inl ⟨rfl,by omega,rfl,rfl,rfl,rfl⟩))⟩
 exact⟨g,u,may,h.app g u may hkm (fun _=>⟨hi.len,hi.can,hi.sum,hi.ws⟩) (fun h4=>absurd h4 (show ¬(3:Int)=4 by omega))⟩
end
theorem fZZ (d:Bool)(k per words:Nat):1<=(aZW d k per words).length/\(aZW d k per words).length<=5:=by
 unfold aZW hZB;split<;>simp
theorem lZ0 (d:Bool)(k per words:Nat):∀ i p,(aZW d k per words)[i]? =some p->(1<=p.o/\p.o<=3/\p.o≠p.f)/\(i=0->p.f=0)/\∀ q,(aZW d k per words)[i-1]? =some q->1<=i->p.f=q.o:=by
 intro i p hp;unfold aZW at hp⊢;split at hp
 ·rename_i hb
  rw[if_pos hb];rcases i with _|i
  ·cases hp;exact⟨⟨by show 1<=3;omega,by show 3<=3;omega,by show(3:Nat)≠0;omega⟩,fun _=>rfl,fun q _ h=>by omega⟩
  ·simp at hp
 ·rename_i hb
  rw[if_neg hb];unfold hZB at hp⊢;rcases i with _|_|_|_|_|i
  all_goals first|(cases hp;exact⟨⟨by simp,by simp,by simp⟩,fun h=>by first|rfl|omega,fun q hq h=>by first|omega|(cases hq;rfl)⟩)|simp at hp
theorem sZN (m:Mn)(per:Nat)(r q:R)(h1:q.dir=r.dir)(h2:q.kk=r.kk)(x:R):aZv (m.add x) per q=aZv m per r:=by
 unfold aZv dZi Mn.add;rw[h1,h2]
theorem R.ps_nn {r:R}(h:r.good):0<=r.ps:=by
 obtain⟨_,_,_,_,_,h|h|h|h⟩:=h<;>omega
section
variable {sec size : Nat} {m : Mn} {c : Cn} (h : Holds sec size m c) {B : Nat} (hs : Small B m) (hB : B <= 1000000)
include h hs hB
theorem vZ1 (hk:3<=m.r.kd){p:Pz}(hp:(aZv m (size/8) m.r)[m.r.ps.toNat]? =some p)(hw:cws c (size/8) (9+p.o*Lay.ZX m.most (size/8)) (2^m.r.kk.toNat)=apL ((aZv m (size/8) m.r).take (m.r.ps.toNat+1)) m.inp):
  (aZV m (size/8)).good/\(aZV m (size/8)).u32/\cZQ m.L.getLast? (aZV m (size/8))=true/\Holds sec size (m.add (aZV m (size/8))) (bZD c (aZX 1 8 m.seq) ((aZV m (size/8)).form size)):=by
 have hg:=bZ4 h.good;have hlen:=hs.len;have hd:=hs.ld;have hsq:m.seq=m.L.length+1:=rfl;have e:=Mn.r_kd (m:=m);have hkm:=h.kk _ e;have hr:=h.log.last e;have hi:=h.inp _ e (by omega);have hps:=R.ps_nn hr.1;have hlt:=(List.getElem?_eq_some_iff.1 hp).1;have hl5:=(fZZ (dZi m.r) m.r.kk.toNat (size/8) m.arena).2;have hl5:(aZv m (size/8) m.r).length<=5:=hl5;have g:(aZV m (size/8)).good:=⟨by show 1<=m.seq;omega,by show m.seq<_;omega,hr.1.2.2.1,hr.1.2.2.2.1,hr.1.2.2.2.2.1,.inr (.inr (.inr ⟨rfl,by show 1<=m.r.ps+1;omega,by show m.r.ps+1<=7;omega⟩))⟩;have u:(aZV m (size/8)).u32:=⟨by show m.r.ld<_;omega,hr.2.1.inp,pZ1 _⟩;have may:cZQ m.L.getLast? (aZV m (size/8))=true:=by
  have hsr:=Mn.seq_r h;rw[e];exact decide_eq_true ⟨hr.1,g,by show m.seq=_;omega,.inr (.inr (.inr ⟨rfl,hk,rfl,rfl,rfl,rfl,rfl⟩))⟩
 have ept:(aZV m (size/8)).ps.toNat=m.r.ps.toNat+1:=by show(m.r.ps+1).toNat=_;omega
 have epl:aZv m (size/8) (aZV m (size/8))=aZv m (size/8) m.r:=rfl;refine⟨g,u,may,h.app g u may hkm (fun _=>⟨hi.len,hi.can,hi.sum,hi.ws⟩) fun _=>⟨?_,fun q hq=>?_,?_⟩⟩
 ·rw[ept,epl];omega
 ·rw[ept,epl,Nat.add_sub_cancel,hp]at hq;cases hq;rw[ept,epl];exact hw
 ·rw[ept,epl];rfl
theorem xZv (hk:3<=m.r.kd){p:Pz}(hp:(aZv m (size/8) m.r)[m.r.ps.toNat]? =some p):
  cws c (size/8) (9+p.f*Lay.ZX m.most (size/8)) (2^m.r.kk.toNat)=apL ((aZv m (size/8) m.r).take m.r.ps.toNat) m.inp/\(if m.r.ps=0 then m.r.inp else m.r.out)=eZX (apL ((aZv m (size/8) m.r).take m.r.ps.toNat) m.inp)/\
  (∀ q,m.r.kd=4->(aZv m (size/8) m.r)[m.r.ps.toNat-1]? =some q->p.o≠q.o):=by
 have e:=Mn.r_kd (m:=m);have hr:=h.log.last e;have hi:=h.inp _ e (by omega);have ends:=lZ0 (dZi m.r) m.r.kk.toNat (size/8) m.arena _ p hp;have hps:=R.ps_nn hr.1;have h4:m.r.kd=3/\m.r.ps=0∨m.r.kd=4/\1<=m.r.ps:=by
  obtain⟨_,_,_,_,_,h|h|h|h⟩:=hr.1<;>omega
 rcases h4 with⟨k3,p0⟩|⟨k4,p1⟩
 ·have:m.r.ps.toNat=0:=by omega
  rw[this]at ends hp⊢;rw[ends.2.1 rfl,Nat.zero_mul,Nat.add_zero,if_pos p0];refine⟨hi.ws,hi.sum,fun q hq=>by omega⟩
 ·have ho:=h.out _ e k4;have hlt:=(List.getElem?_eq_some_iff.1 hp).1;have hq:(aZv m (size/8) m.r)[m.r.ps.toNat-1]? =some (aZv m (size/8) m.r)[m.r.ps.toNat-1]:=List.getElem?_eq_getElem (by omega);have hf:=ends.2.2 _ hq (by omega);rw[if_neg (by omega),hf];refine⟨ho.ws _ hq,ho.sum,fun q _ hq'=>?_⟩;rw[hq]at hq';cases hq';rw[← hf];exact ends.1.2.2
end
end Eng
namespace Str
open Go Go.Hw Go.Form W Dsk Are
section
variable {p q dp ap bp bq bt b rb mb : Nat} {d : D} {x y : X} {cap peak : Int} {bufs : List (Nat × Nat × Option Addr)} {ws : List UInt64}
end
structure uZT (d d':D)(x y:X)(i k:Nat):Prop where
 ok:Ok d'
 calm:Calm d'
 size:d'.size=d.size
 sec:d'.sec=d.sec
 rd:d'.rd<=d.rd+1000*i
 wr:d'.wr<=d.wr+1000*i
 src:∀ j,j<x.w->pw d' x j=pw d x j
 dst:∀ j,j<k->pw d' y j=pw d x j
theorem uZT.per {d d':D}{x y:X}{i k:Nat}(h:uZT d d' x y i k):D.per d'=D.per d:=by unfold D.per;rw[h.size]
theorem lZl {P:Program}{g:FuncId}{t:TypeId}{k:IntKind}{n:Int}{K:Value->Prop}(h:bZA P g=[t])(hu:P.underlying t=some (.int k))(hk:K (.int k n)):DR P (bZA P g) (.int k n) K:=by
 rw[h];show DT P t _ K
 unfold DT;rw[hu];simpa using hk
section
variable {p q dp ap bp bq bt b rb mb vb : Nat} {d : D} {x y : X} {cap peak P1 : Int} {bufs : List (Nat × Nat × Option Addr)}
theorem vZU {per left:Nat}{l:Int}(h:l=left):(if(per:Int)<l then(per:Int)else l)=((if per<left then per else left:Nat):Int):=by
 subst h;by_cases c:per<left
 ·rw[if_pos c,if_pos (by omega)]
 ·rw[if_neg c,if_neg (by omega)]
end
section
variable {p q dp ap : Nat} {d : D} {x y : X} {cap peak : Int} {bufs : List (Nat × Nat × Option Addr)}
end
theorem xZ2 (a b c d e:Value):((#[]++ #[a,b,c])++ #[d,e]:Array Value)=#[a,b,c,d,e]:=rfl
section
variable {p dp ap bp : Nat} {d : D} {x : X} {cap peak : Int} {bufs : List (Nat × Nat × Option Addr)} {B : As}
def lZG (p dp ap bp b rb mb vb:Nat)(d:D)(x:X)(cap pk:Int)(bufs:List (Nat×Nat×OA))(per:Nat)(ws:List UInt64)(B:As):List As:=
 [pts p (ZJ dp ap x),Dk dp d,Ar ap cap pk (bufs++[(b,per,some (O rb))]),pts rb (.row (Zb ws) 108 mb),pts bp (Is #[V p] 270),B,pts vb (.row [V b] 331 1)]
theorem pZD (K:VK)(f:FuncId)(C:Array Value)(hok:Ok d)(hcap:(D.per d:Int)<=cap-ZH bufs){H:Hp}
  (hs:Sep [pts p (ZJ dp ap x),Dk dp d,Ar ap cap peak bufs,pts bp (Is #[V p] 270),B] H)
  (k:∀ b rb vb H,(∀ z∈bufs,z.1≠b)->Sep (lZG p dp ap bp b rb (D.per d) vb d x cap (mx peak (ZH bufs+D.per d)) bufs (D.per d) (List.replicate (D.per d) 0) B) H->
   ∃ t,ZL.l6 K t (Io p) f #[] C (Io b) 0 (x.w:Int) (x.f:Int) (Io ap) (Io vb) 1 1 H):
  Za prog 233 #[V p,.func (.func f) #[] C] H K:=by
 have hp:=Ok.per_le hok;apply ZL.ok;unfold ZL;simp only[HS];have rest:∀(b rb:Nat) (H:Hp),(∀ y∈bufs,y.1≠b)->Sep [Ar ap cap (if ZH bufs+D.per d>peak then ZH bufs+D.per d else peak) (bufs++[(b,D.per d,some (O rb))]),pts rb (.row (bZm (D.per d)) 108 (D.per d)),pts p (ZJ dp ap x),Dk dp d,pts bp (Is #[V p] 270),B] H->
   ZL.j2 K (Io p) f #[] C (Io b) 0 H:=fun b rb H hbm hs=>by
  unfold ZL.j2;refine Zr rfl ?_;simp only[HS];refine hs.ld 2 rfl rfl ?_;simp only[HV];refine hs.nw fun vb H hs=>?_
  refine ZS.use (gZN hs 2 rfl) ?_;simp only[HV];refine hs.ld 2 rfl rfl ?_;simp only[HV];have hz:bZm (D.per d)=Zb (List.replicate (D.per d) 0):=by
   unfold bZm;rw[bZC];unfold Zb;rw[List.map_replicate];rfl
  rw[hz]at hs;exact k b rb vb H hbm (hs.re [2,3,0,1,4,5,6] rfl)
 have fresh:∀{L:List As} {H:Hp} (b rb:Nat) (pk:Int),Sep L H->L[0]? =some (Ar ap cap pk (bufs++[(b,D.per d,some (O rb))]))->∀ y∈bufs,y.1≠b:=fun b rb pk hs h0 y hy e=>by
  obtain⟨mp,cl,tk,hA⟩:=Sep.ar hs 0 h0;have:=hA.bn;rw[List.map_append,List.nodup_append]at this;exact this.2.2 y.1 (List.mem_map_of_mem hy) b (by simp) e
 refine⟨?_,?_⟩
 ·refine hs.ld 0 rfl rfl ?_;simp only[HV];refine Za.use (fZi hs 0 1 rfl rfl hok) ?_
  try simp only[HV]
  refine(eZ6 (a:=ap) (cap:=cap) (peak:=peak) (bufs:=bufs) (n:=D.per d) (by omega) hcap).use hs [2] rfl rfl ?_;rintro _ _ H ⟨b,rb,rfl,rfl⟩ hs;simp only[HV];exact rest b rb H (fresh b rb _ hs rfl) hs
 ·refine Za.use (fZi hs 0 1 rfl rfl hok) ?_
  try simp only[HV]
  refine hs.ld 0 rfl rfl ?_;simp only[HV];refine(eZ6 (a:=ap) (cap:=cap) (peak:=peak) (bufs:=bufs) (n:=D.per d) (by omega) hcap).use hs [2] rfl rfl ?_;rintro _ _ H ⟨b,rb,rfl,rfl⟩ hs;simp only[HV];exact rest b rb H (fresh b rb _ hs rfl) hs
end
section
variable {p dp ap bp bw b rb mb : Nat} {d : D} {x : X} {cap peak : Int} {bufs : List (Nat × Nat × Option Addr)}
end
section
variable {p dp ap bp bw b rb mb vb : Nat} {d : D} {x : X} {cap peak pk : Int} {bufs : List (Nat × Nat × Option Addr)}
end
section
variable {p dp ap bp bc b rb mb vb : Nat} {d : D} {x : X} {cap peak pk : Int} {bufs : List (Nat × Nat × Option Addr)}
def ctr (bc:Nat)(ws:List UInt64):As:=pts bc (CrcP.counter (Go.Crc.sum (form ws)) (8*ws.length))
def uZD (bp bc:Nat):Array Value:=#[V bp,V bc]
end
def nS (per w:Nat):Nat:=(w+per-1)/per
theorem uZ4 {per w i:Nat}(hp:1<=per:=by omega):i<nS per w↔i*per<w:=by
 unfold nS;rw[Nat.lt_iff_add_one_le,Nat.le_div_iff_mul_le (by omega),Nat.succ_mul];omega
section
variable {p dp ap bp bc b rb mb vb : Nat} {d : D} {x : X} {cap peak pk : Int} {bufs : List (Nat × Nat × Option Addr)}
theorem wZT {ws pre:List UInt64}(hok:Ok d)(hl:d.down=false)(ho:d.rd<=4611685000000000000)(s n:Nat)(hs1:s<d.sec)(hn2:n<=D.per d)(hpre:pre.length<=1000000000)
  (hbm:(b,D.per d,some (O rb))∈bufs) (hws:ws.length=D.per d):
  Tr prog 234 #[I s,I n,V b,V bp,V bc]
   [pts p (ZJ dp ap x),Dk dp d,Ar ap cap peak bufs,pts rb (.row (Zb ws) 108 mb),pts bp (Is #[V p] 270),ctr bc pre] fun v M=>
   (d.fuse≠1/\v= I 0/\M=[pts p (ZJ dp ap x),Dk dp (D.mr d),Ar ap cap peak bufs,pts rb (.row (Zb (aZL (d.now s))) 108 mb),pts bp (Is #[V p] 270),ctr bc (pre++(aZL (d.now s)).take n)])∨
   (d.fuse=1/\v= I 8/\M=[pts p (ZJ dp ap x),Dk dp (D.dead d),Ar ap cap peak bufs,pts rb (.row (Zb ws) 108 mb),pts bp (Is #[V p] 270),ctr bc pre]):=fun H hs=>by
 have hp:=Ok.per_le hok;have hwl:(aZL (d.now (s:Int))).length=D.per d:=by rw[dZm,hok.now];rfl
 have htl:((aZL (d.now (s:Int))).take n).length=n:=by rw[List.length_take];omega
 apply dZw.ok;unfold dZw
 try simp only[HS]
 refine hs.ld 4 rfl rfl ?_;simp only[HV]
 try simp only[HS]
 refine(oZT (p:=p) (ap:=ap) (x:=x) (cap:=cap) (peak:=peak) (b:=b) (rb:=rb) (m:=mb) hok hl (by omega) (s:Int) (Int.natCast_nonneg _) (Int.ofNat_lt.2 hs1) hbm (xs:=Zb ws) (by rw[Zq];exact hws)).use hs [0,1,2,3] rfl rfl ?_;rintro _ _ H (⟨hf,rfl,rfl⟩|⟨hf,rfl,rfl⟩) hs
 ·simp only[HV];refine Zt rfl ?_;refine Za.use (eZJ hs 2 rfl hbm) ?_;simp only[HV];refine mZd rfl (by omega) ?_;rw[pZi,Nat.sub_zero,Nat.sub_zero];have hcell:Cells H (Io rb) (Zb ((aZL (d.now (s:Int))).take n)):=by
   have:=Cells.row (hs.get 3 (b:=rb) (o:=.row (Zb (aZL (d.now (s:Int)))) 108 mb) rfl) 0 n;rw[List.drop_zero]at this;rw[show Zb ((aZL (d.now (s:Int))).take n)=(Zb (aZL (d.now (s:Int)))).take n by unfold Zb;rw[List.map_take]];exact this
  have hs:Sep [pts p (ZJ dp ap x),Dk dp (D.mr d),Ar ap cap peak bufs,pts rb (.row (Zb (aZL (d.now (s:Int)))) 108 mb),pts bp (Is #[V p] 270),pts bc (CrcP.counter (Go.Crc.sum (form pre)) (8*pre.length))] H:=hs;refine Za.use (CrcP.pZy bc (Go.Crc.sum (form pre)) (8*pre.length) (Io rb) n (D.per d) ((aZL (d.now (s:Int))).take n) htl.symm H (hs.get 5 rfl) hcell (by omega) (by omega)) ?_;have hs2:=hs.put 5 (CrcP.counter (Go.Crc.more (Go.Crc.sum (form pre)) (form ((aZL (d.now (s:Int))).take n))) (8*pre.length+8*n)) rfl;refine⟨_,.inl ⟨hf,by first|rfl|trivial,rfl⟩,?_⟩;have e:ctr bc (pre++(aZL (d.now (s:Int))).take n)=pts bc (CrcP.counter (Go.Crc.more (Go.Crc.sum (form pre)) (form ((aZL (d.now (s:Int))).take n))) (8*pre.length+8*n)):=by
   unfold ctr;rw[List.length_append,htl,Nat.mul_add];have:form (pre++(aZL (d.now (s:Int))).take n)=form pre++form ((aZL (d.now (s:Int))).take n):=by unfold form;rw[List.flatMap_append]
   rw[this];unfold Go.Crc.sum;rw[Go.Crc.more_append]
  rw[e];exact hs2
 ·simp only[HV];refine Zu (by decide) ?_;exact⟨_,.inr ⟨hf,by first|rfl|trivial,rfl⟩,hs⟩
def uZE (p dp ap:Nat)(d:D)(x:X)(cap pk:Int)(bufs:List (Nat×Nat×OA))(v:Value)(M:List As):Prop:=
 ((d.fuse=0∨nS (D.per d) x.w<d.fuse)/\v= .tuple #[Ii ((Go.Crc.sum (form (pws d x 0 x.w))).toNat:Int),I 0]/\M=[pts p (ZJ dp ap x),Dk dp (D.rdG d (nS (D.per d) x.w)),Ar ap cap pk bufs])∨
 (∃ j,j<nS (D.per d) x.w/\d.fuse=j+1/\v= .tuple #[Ii 0,I 8]/\M=[pts p (ZJ dp ap x),Dk dp (D.dead (D.rdG d j)),Ar ap cap pk bufs])
theorem qZW (K:VK)(hok:Ok d)(hl:d.down=false)(hbm:∀ z∈bufs,z.1≠b)(hx:On d x)(ho:d.rd<=3000000000000000000)
  (hK:∀ H,(d.fuse=0∨nS (D.per d) x.w<d.fuse)->Sep [pts p (ZJ dp ap x),Dk dp (D.rdG d (nS (D.per d) x.w)),Ar ap cap pk bufs,ctr bc (pws d x 0 x.w)] H->K (I 0) H)
  (hD:∀ j H pre,j<nS (D.per d) x.w->d.fuse=j+1->Sep [pts p (ZJ dp ap x),Dk dp (D.dead (D.rdG d j)),Ar ap cap pk bufs,ctr bc pre] H->K (I 8) H):
  ∀(t i:Nat) (ws:List UInt64) (H:Hp),x.w<=(i+t)*D.per d->i<=nS (D.per d) x.w->(d.fuse=0∨i<d.fuse)->ws.length=D.per d->
   Sep (lZG p dp ap bp b rb mb vb (D.rdG d i) x cap pk bufs (D.per d) ws (ctr bc (pws d x 0 (if i*D.per d<x.w then i*D.per d else x.w)))) H->
   ZL.l6 K (t+2) (Io p) 234 #[] (uZD bp bc) (Io b) 0 ((x.w:Int)-((i*D.per d:Nat):Int)) ((x.f+i:Nat):Int) (Io ap) (Io vb) 1 1 H:=fun t=>by
 have hp:=Ok.per_le hok;have hsec:=hok.sec;have hroom:x.s*D.per d<=1048576*512:=Nat.mul_le_mul (by have:=hx.fit;omega) (by omega);have h4:=hx.room;have hw1:=hx.w1;have hfit:=hx.fit;have fin:∀(i:Nat) (ws:List UInt64) (H:Hp),x.w<=i*D.per d->i<=nS (D.per d) x.w->(d.fuse=0∨i<d.fuse)->Sep (lZG p dp ap bp b rb mb vb (D.rdG d i) x cap pk bufs (D.per d) ws (ctr bc (pws d x 0 (if i*D.per d<x.w then i*D.per d else x.w)))) H->
   aZZ prog 257 #[V ap,.slice (Io vb) 1 1] H fun _ H9=>K (I 0) H9:=fun i ws H hi hie hfu hs=>by
  have e:i=nS (D.per d) x.w:=by
   rcases Nat.lt_or_ge i (nS (D.per d) x.w)with h|h
   ·have:=(uZ4).1 h;omega
   ·omega
  rw[if_neg (by omega)]at hs;unfold lZG at hs;refine(cZx vb b (D.per d) (Io rb) hbm).use hs [2,6] rfl rfl ?_;rintro _ _ H ⟨rfl,rfl⟩ hs;subst e;exact hK H hfu (hs.re [1,2,0,5] rfl)
 induction t with
 |zero=>
  intro i ws H hi hie hfu hws hs;rw[Nat.add_zero]at hi;unfold ZL.l6;exact Zg (by omega) (fin i ws H hi hie hfu hs)
 |succ t ih=>
  intro i ws H hi hie hfu hws hs;by_cases hlt:i*D.per d<x.w
  ·have his:i<x.s:=by
    apply Nat.lt_of_mul_lt_mul_right (a:=D.per d);omega
   have hin:=(uZ4 (per:=D.per d) (w:=x.w) (i:=i)).2 hlt;have hokj:=Ok.rdG hok i;have hlj:(D.rdG d i).down=false:=hl;generalize hnv:(if D.per d<x.w-i*D.per d then D.per d else x.w-i*D.per d)=n;have hn1:1<=n/\n<=D.per d/\i*D.per d+n<=x.w:=by rw[← hnv];split<;>omega
   rw[if_pos hlt]at hs;unfold lZG at hs;unfold ZL.l6;refine Zm (by omega) (Zt rfl ?_)
   try simp only[HS]
   refine Za.use (fZi hs 0 1 rfl rfl hokj) ?_
   try simp only[HV]
   rw[show D.per (D.rdG d i)=D.per d from rfl];refine aZE (by kernel_rfl) ?_;unfold uZD;rw[xZ2,vZU (left:=x.w-i*D.per d) (by omega),hnv];have hs1:x.f+i<(D.rdG d i).sec:=by show _<d.sec;omega
   have ho1:(D.rdG d i).rd<=4611685000000000000:=by show d.rd+i<=_;omega
   have hpl:(pws d x 0 (i*D.per d)).length<=1000000000:=by rw[eZk];omega
   refine(wZT (p:=p) (dp:=dp) (ap:=ap) (bp:=bp) (bc:=bc) (b:=b) (rb:=rb) (mb:=mb) (d:=D.rdG d i) (x:=x) (cap:=cap) (peak:=pk) (bufs:=bufs++[(b,D.per d,some (O rb))]) (ws:=ws) (pre:=pws d x 0 (i*D.per d)) hokj hlj ho1 (x.f+i) n hs1 hn1.2.1 hpl (List.mem_append_right _ (List.mem_singleton.2 rfl)) hws).use hs [0,1,2,3,4,5] rfl rfl ?_;have hwl:(aZL (d.now ((x.f+i:Nat):Int))).length=D.per d:=by rw[dZm,hok.now];rfl
   have e1:i64.wrap ((x.w:Int)-((i*D.per d:Nat):Int)-(D.per d:Int))=(x.w:Int)-(((i+1)*D.per d:Nat):Int):=by
    rw[ZM,Nat.succ_mul];omega
   have e2:i64.wrap (((x.f+i:Nat):Int)+1)=((x.f+(i+1):Nat):Int):=by
    rw[ZM];omega
   rintro _ _ H (⟨hf,rfl,rfl⟩|⟨hf,rfl,rfl⟩) hs
   ·refine lZl (t:=63) (by kernel_rfl) (by kernel_rfl) ?_;rw[pZa]at hs;simp only[HV];refine Za.use (fZi hs 0 1 rfl rfl (Ok.rdG hok (i+1))) ?_
    try simp only[HV]
    rw[show D.per (D.rdG d (i+1))=D.per d from rfl,e1,e2];have hnext:i*D.per d+n=(if(i+1)*D.per d<x.w then(i+1)*D.per d else x.w):=by
     rw[Nat.succ_mul,←hnv];split<;>split<;>omega
    have hpc:(aZL (d.now ((x.f+i:Nat):Int))).take n=pws d x (i*D.per d) n:=by
     have:=kZD hok x (fr:=i*D.per d) (k:=n) (by rw[Nat.mul_mod_left];omega);rw[Nat.mul_div_cancel _ (by omega),Nat.mul_mod_left,List.drop_zero]at this;exact this
    have hpa:pws d x 0 (i*D.per d)++(aZL (d.now ((x.f+i:Nat):Int))).take n=pws d x 0 (i*D.per d+n):=by
     rw[qZf,Nat.zero_add,hpc]
    have hf':d.fuse-i≠1:=hf;refine ih (i+1) (aZL (d.now ((x.f+i:Nat):Int))) H (by rw[show i+1+t=i+(t+1) by omega];exact hi) (by omega) (by omega) hwl ?_;rw[← hnext,←hpa];exact hs
   ·refine lZl (t:=63) (by kernel_rfl) (by kernel_rfl) ?_;simp only[HV];have hf':d.fuse-i=1:=hf;have hokd:Ok (D.dead (D.rdG d i)):=Ok.dead hokj;refine Za.use (fZi hs 0 1 rfl rfl hokd) ?_
    try simp only[HV]
    rw[show D.per (D.dead (D.rdG d i))=D.per d from rfl,e1,e2];unfold ZL.l6;have give:aZZ prog 257 #[V ap,.slice (Io vb) 1 1] H fun _ H9=>K (I 8) H9:=by
     refine(cZx vb b (D.per d) (Io rb) hbm).use hs [2,6] rfl rfl ?_;rintro _ _ H ⟨rfl,rfl⟩ hs;exact hD i H _ hin (by omega) (hs.re [1,2,0,5] rfl)
    by_cases hgt:(x.w:Int)-(((i+1)*D.per d:Nat):Int)>0
    ·exact Zm hgt (Zu (by decide) give)
    ·exact Zg hgt give
  ·unfold ZL.l6;exact Zg (by omega) (fin i ws H (by omega) hie hfu hs)
theorem mZr (hok:Ok d)(hl:d.down=false)(hx:On d x)(ho:d.rd<=3000000000000000000)(hcap:(D.per d:Int)<=cap-ZH bufs):
  Tr prog 166 #[V p] [pts p (ZJ dp ap x),Dk dp d,Ar ap cap peak bufs] (uZE p dp ap d x cap (mx peak (ZH bufs+D.per d)) bufs):=fun H hs=>by
 have hp:=Ok.per_le hok;apply eZb.ok;unfold eZb;refine hs.nw fun bp H hs=>?_
 refine hs.nw fun bc H hs=>?_
 refine hs.ld 3 rfl rfl ?_;simp only[HV];have h0:ctr bc []=pts bc (Is #[Ii 0,I 0] 329):=by
  unfold ctr CrcP.counter;rfl
 have hs:Sep [pts p (ZJ dp ap x),Dk dp d,Ar ap cap peak bufs,pts bp (Is #[V p] 270),ctr bc []] H:=by rw[h0];exact hs
 refine pZD (peak:=peak) (bufs:=bufs) (cap:=cap) (B:=ctr bc []) _ 234 (uZD bp bc) hok hcap hs fun b rb vb H hbm hs=>?_
 have e9:(x.w:Int)-((0*D.per d:Nat):Int)=x.w:=by rw[Nat.zero_mul];omega
 have e0:(if 0*D.per d<x.w then 0*D.per d else x.w)=0:=by rw[Nat.zero_mul,if_pos (show 0<x.w from hx.w1)]
 refine⟨x.w+2,?_⟩;have t:=qZW (p:=p) (dp:=dp) (ap:=ap) (bp:=bp) (bc:=bc) (b:=b) (rb:=rb) (mb:=D.per d) (vb:=vb) (d:=d) (x:=x) (cap:=cap) (pk:=mx peak (ZH bufs+D.per d)) (bufs:=bufs)
  (fun v2 H3=>DI .i64 v2 fun x1=>BIf (x1 !=(0:Int)) (∃ M,uZE p dp ap d x cap (mx peak (ZH bufs+D.per d)) bufs (.tuple #[Ii 0,I x1]:Value) M/\Sep M H3)
   (Za prog 238 #[.pointer (some (O bc))] H3 fun v3 H4=>DI .u32 v3 fun x2=>∃ M,uZE p dp ap d x cap (mx peak (ZH bufs+D.per d)) bufs (.tuple #[Ii x2,I 0]:Value) M/\Sep M H4))
  hok hl hbm hx ho (fun H hfu hs=>by
   simp only[HV];refine Zr rfl ?_;have hs:Sep [pts p (ZJ dp ap x),Dk dp (D.rdG d (nS (D.per d) x.w)),Ar ap cap (mx peak (ZH bufs+D.per d)) bufs,pts bc (CrcP.counter (Go.Crc.sum (form (pws d x 0 x.w))) (8*(pws d x 0 x.w).length))] H:=hs;refine Za.use (CrcP.vZk bc _ _ H (hs.get 3 rfl)) ?_
   try simp only[HV]
   exact⟨_,.inl ⟨hfu,rfl,rfl⟩,hs.re [0,1,2] rfl⟩) (fun j H pre hj hfu hs=>by
   simp only[HV];refine Zz (by decide) ?_;exact⟨_,.inr ⟨j,hj,hfu,rfl,rfl⟩,hs.re [0,1,2] rfl⟩) x.w 0 (List.replicate (D.per d) 0) H (by rw[Nat.zero_add];exact Nat.le_mul_of_pos_right _ (by omega)) (Nat.zero_le _) (by omega) (by simp)
 rw[e0,e9]at t;exact t hs
end
end Str
namespace W
open Go Go.Hw
theorem dZW :prog.follows .mixedOrders=true:=by kernel_rfl
def fZ9 (A1:OA)(n1 m1:Nat)(x1:Int)(H:Hp)(K:VK):Prop:=
 Hz 147 #[I (n1:Int)] H fun v1 H1=>iZt v1 fun x2 c1=>(BIf (!c1) (K (.tuple #[I 0,I 0,I 4]) H1) (BIf (decide (x2>x1)) (K (.tuple #[I 0,I 0,I 14]) H1) (Hz 146 #[.slice A1 n1 m1] H1 fun v4 H2=>iZt v4 fun x3 c2=>(BIf (!c2) (K (.tuple #[I 0,I x3,I 3]) H2) (K (.tuple #[I x2,I 0,I 0]) H2)))))
theorem fZ9.ok A1 n1 m1 x1 H K (h:fZ9 A1 n1 m1 x1 H K):Za prog 131 #[.slice A1 n1 m1,I x1] H K:=
 okN dZW Tryz.func131 rfl rfl h
def fZF (x1 x2 x3 x4:Int)(H:Hp)(K:VK):Prop:=
 HcB 196 #[I x1,I x3] H fun c1 H1=>BIf (!c1) (K (.tuple #[.slice none 0 0,I 1]) H1) (BIf (decide (x2<0)) (K (.tuple #[.slice none 0 0,I 18]) H1) (BIf (decide (x2>1)) (K (.tuple #[.slice none 0 0,I 18]) H1) (HcI 197 #[I x1,I x3] H1 fun x5 H2=>BIf (decide (x4<x5)) (K (.tuple #[.slice none 0 0,I 6]) H2) (HcB 198 #[I x1,I x3,I x4] H2 fun c2 H3=>BIf c2 (BIf (decide (x1<=(20:Int))) ((0<=(u64.wrap x1)/\HcW 200 #[I x1,I x2] H3 fun x6 H4=>HcA 199 #[.agg #[I 1,I (aZR .i64 1 (u64.wrap x1))],I 0,I 3,I x2,I (-1),U x6] H4 fun y1 H5=>eZq y1.toList fun x7 x8 x9 x10 x11 x12 x13 x14=>(Nw H5 (.row [I x7,I x8,I x9,I x10,U x11,I x12,I x13,I x14] 221 8) fun b1 H6=>K (.tuple #[.slice (Io b1) 1 1,I 0]) H6))) (HcS 201 #[I x1,I x2] H3 fun A1 n1 m1 H7=>K (.tuple #[.slice A1 n1 m1,I 0]) H7)) (HcS 201 #[I x1,I x2] H3 fun A2 n2 m2 H8=>K (.tuple #[.slice A2 n2 m2,I 0]) H8)))))
theorem fZF.ok x1 x2 x3 x4 H K (h:fZF x1 x2 x3 x4 H K):Za prog 144 #[I x1,I x2,I x3,I x4] H K:=
 okN dZW Tryz.func144 rfl rfl h
def gZa (x1 x2:Int)(H:Hp)(K:VK):Prop:=
 HcB 196 #[I x1,I x2] H fun c1 H1=>BIf (!c1) (K (.tuple #[I 0,I 1]) H1) (HcI 197 #[I x1,I x2] H1 fun x3 H2=>K (.tuple #[I x3,I 0]) H2)
theorem gZa.ok x1 x2 H K (h:gZa x1 x2 H K):Za prog 182 #[I x1,I x2] H K:=
 okN dZW Tryz.func182 rfl rfl h
def gZV (x1 x2:Int)(H:Hp)(K:VK):Prop:=
 BIf (decide (x1>=0)) (BIf (decide (x1<=(32:Int))) (BIf (decide (x2>=4)) (BIf (decide (x2<=(512:Int))) (K (.bool ((aZD .i64 x2 (i64.wrap (x2-1)))==0)) H) (K (.bool false) H)) (K (.bool false) H)) (K (.bool false) H)) (K (.bool false) H)
theorem gZV.ok x1 x2 H K (h:gZV x1 x2 H K):Za prog 196 #[I x1,I x2] H K:=
 okN dZW Tryz.func196 rfl rfl h
def gZc (x1 x2:Int)(H:Hp)(K:VK):Prop:=
 ((2:Int)≠0/\i64=i64/\(0<=(u64.wrap (i64.wrap (Int.tdiv (i64.wrap (x1+1)) 2)))/\K (I (i64.wrap ((aZR .i64 2 (u64.wrap (i64.wrap (Int.tdiv (i64.wrap (x1+1)) 2))))+x2))) H))
theorem gZc.ok x1 x2 H K (h:gZc x1 x2 H K):Za prog 197 #[I x1,I x2] H K:=
 okN dZW Tryz.func197 rfl rfl h
def gZb (x1 x2 x3:Int)(H:Hp)(K:VK):Prop:=
 HcB 196 #[I x1,I x2] H fun c1 H1=>BIf c1 ((0<=(u64.wrap x1)/\K (.bool (decide ((i64.wrap ((aZR .i64 2 (u64.wrap x1))+x2))<=x3))) H1)) (K (.bool false) H1)
theorem gZb.ok x1 x2 x3 H K (h:gZb x1 x2 x3 H K):Za prog 198 #[I x1,I x2,I x3] H K:=
 okN dZW Tryz.func198 rfl rfl h
def fZG (x1 x2 x3 x4 x5 x6 x7:Int)(H:Hp)(K:VK):Prop:=
 Nw H (Is #[I x1,I x2] 217) fun b1 H1=>Nw H1 (Is #[I 0,I 0,I 0,I 0,U 0,I 0,I 0,I 0] 221) fun b2 H2=>LdA H2 (O b1) 2 fun l1=>iZX l1.toArray.toList fun x8 x9=>(StA H2 (O b2) #[I x8,I x9,I x5,I x6,U x7,I 2,I x3,I x4] 8 fun H3=>LdA H3 (O b2) 8 fun l4=>K (.agg l4.toArray) H3)
theorem fZG.ok x1 x2 x3 x4 x5 x6 x7 H K (h:fZG x1 x2 x3 x4 x5 x6 x7 H K):Za prog 199 #[.agg #[I x1,I x2],I x3,I x4,I x5,I x6,U x7] H K:=
 okN dZW Tryz.func199 rfl rfl h
def gZd (x1 x2:Int)(H:Hp)(K:VK):Prop:=
 BIf (x2==0) (K (U 1) H) (Hz 118 #[I x1] H fun v1 H1=>hZi v1 fun x3 x4=>(K (U x3) H1))
theorem gZd.ok x1 x2 H K (h:gZd x1 x2 H K):Za prog 200 #[I x1,I x2] H K:=
 okN dZW Tryz.func200 rfl rfl h
def gZW (x1 x2:Int)(H:Hp)(K:VK):Prop:=
 Hz 263 #[I x1] H fun v1 H1=>gZC v1 fun y1 x3=>(Nw H1 (Is #[I 0,I 0] 217) fun b1 H2=>StA H2 (O b1) y1 2 fun H3=>LdA H3 (O b1) 2 fun l4=>HcA 264 #[.agg l4.toArray] H3 fun y2 H4=>Nw H4 (Is #[I 0,I 0] 217) fun b2 H5=>StA H5 (O b2) y2 2 fun H6=>LdA H6 (O b1) 2 fun l5=>QcA 265 #[.agg l5.toArray,I 0,I 1] H6 fun y3=>LdA H6 (O b2) 2 fun l6=>QcA 199 #[.agg l6.toArray,I 1,I 2,I x2,I x1,U 1] H6 fun y4=>LdA H6 (O b2) 2 fun l7=>QcA 265 #[.agg l7.toArray,I 2,I 1] H6 fun y5=>LdA H6 (O b1) 2 fun l8=>QcW 200 #[I x1,I x2] H6 fun x4=>QcA 199 #[.agg l8.toArray,I 1,I 2,I x2,I (-1),U x4] H6 fun y6=>LdA H6 (O b1) 2 fun l9=>QcA 265 #[.agg l9.toArray,I 2,I 3] H6 fun y7=>eZq y3.toList fun x5 x6 x7 x8 x9 x10 x11 x12=>(eZq y4.toList fun x13 x14 x15 x16 x17 x18 x19 x20=>(eZq y5.toList fun x21 x22 x23 x24 x25 x26 x27 x28=>(eZq y6.toList fun x29 x30 x31 x32 x33 x34 x35 x36=>(eZq y7.toList fun x37 x38 x39 x40 x41 x42 x43 x44=>(Nw H6 (.row [I x5,I x6,I x7,I x8,U x9,I x10,I x11,I x12,I x13,I x14,I x15,I x16,U x17,I x18,I x19,I x20,I x21,I x22,I x23,I x24,U x25,I x26,I x27,I x28,I x29,I x30,I x31,I x32,U x33,I x34,I x35,I x36,I x37,I x38,I x39,I x40,U x41,I x42,I x43,I x44] 221 40) fun b3 H7=>K (.slice (Io b3) 5 5) H7))))))
theorem gZW.ok x1 x2 H K (h:gZW x1 x2 H K):Za prog 201 #[I x1,I x2] H K:=
 ok0 (fun i=>match Nat.beq i 3 with|true=>some ([],[0,1,2,3,4,5,6,7,8,9,10,11,12,13,14,15],16)|false=>none) dZW Tryz.func201 rfl rfl h
def gZX (x1 x2 x3 x4:Int)(H:Hp)(K:VK):Prop:=
 Nw H (Is #[I x1,I x2] 217) fun b1 H1=>Nw H1 (Is #[I 0,I 0,I 0,I 0,U 0,I 0,I 0,I 0] 221) fun b2 H2=>LdA H2 (O b1) 2 fun l1=>iZX l1.toArray.toList fun x5 x6=>(StA H2 (O b2) #[I x5,I x6,I 0,I (-1),U 1,I 1,I x3,I x4] 8 fun H3=>LdA H3 (O b2) 8 fun l4=>K (.agg l4.toArray) H3)
theorem gZX.ok x1 x2 x3 x4 H K (h:gZX x1 x2 x3 x4 H K):Za prog 265 #[.agg #[I x1,I x2],I x3,I x4] H K:=
 okN dZW Tryz.func265 rfl rfl h
end W
namespace Pln
open Go Go.Hw W Shp Fft Ker Pas Str Dsk Trn
theorem qZs :∀ k:Nat,k<61->aZR .i64 2 (k:Int)=((2*2^k:Nat):Int):=by decide +kernel
theorem cZA {k:Nat}(hk:k<=32:=by omega):2^k<=4294967296:=Nat.pow_le_pow_right (n:=2) (by omega) hk
theorem fZY {per:Nat}(hp:cZR (per:Int)=true):4<=per/\per<=512:=by have:=fZh hp;omega
section
variable {k per words : Nat} (hk : k <= 32) (hp : cZR (per : Int) = true)
include hk
theorem oZQ (hp:per<=512)(H:Hp):Za prog 197 #[I (k:Int),I (per:Int)] H (RetE (I (bZM k per:Int)) H):=by
 have h1:=cZA (k:=(k+1)/2);apply gZc.ok;unfold gZc;rw[ZM (x:=(k:Int)+1),show Int.tdiv ((k:Int)+1) 2=(((k+1)/2:Nat):Int)from rfl,bZc,bZ5,qZs _ (by omega),ZM];refine⟨by decide,by simp,by omega,?_⟩;exact RetE.of (by unfold bZM;rw[Int.natCast_add])
include hp
theorem fZf (H:Hp):Za prog 196 #[I (k:Int),I (per:Int)] H (RetE (.bool true) H):=by
 have h:=fZY hp;apply gZV.ok;unfold gZV;refine Zm (by omega) (Zm (by omega) (Zm (by omega) (Zm (by omega) ?_)));rw[(mZC (p:=(per:Int))).2 hp];exact RetE.mk _ _
theorem tZF (H:Hp):Za prog 182 #[I (k:Int),I (per:Int)] H (RetE (.tuple #[I (bZM k per:Int),I 0]) H):=by
 have h:=fZY hp;apply gZa.ok;unfold gZa;refine Za.use (fZf hk hp H) ?_
 try simp only[HV]
 refine Za.use (oZQ hk (by omega) H) ?_
 try simp only[HV]
 exact RetE.mk _ _
theorem tZL (hw:words<=16777216)(H:Hp):Za prog 198 #[I (k:Int),I (per:Int),I (words:Int)] H (RetE (.bool (decide (2*2^k+per<=words))) H):=by
 have h:=fZY hp;have h1:=cZA hk;apply gZb.ok;unfold gZb;refine Za.use (fZf hk hp H) ?_
 try simp only[HV]
 rw[bZ5,qZs _ (by omega),ZM];refine⟨by omega,?_⟩;exact RetE.of (by congr 1;rw[decide_eq_decide];omega)
end
theorem pZh {k:Nat}(hk:k<=32)(d:Bool)(H:Hp):Za prog 200 #[I (k:Int),I (if d=true then 1 else 0)] H (RetE (U ((eZ3 d k).toNat:Int)) H):=by
 apply gZd.ok;unfold gZd;cases d with
 |false=>exact Zt rfl (RetE.mk _ _)
 |true=>
  refine Zu (by decide) ?_;refine Za.use (oZu hk H) ?_
  try simp only[HV]
  exact RetE.of (by unfold eZ3;rw[if_pos rfl,mZg])
theorem mZQ (a b f o:Int)(H:Hp):Za prog 265 #[.agg #[I a,I b],I f,I o] H (RetE (.agg #[I a,I b,I 0,I (-1),U 1,I 1,I f,I o]) H):=Za.ret (by
 apply gZX.ok;unfold gZX;refine(Sep.start H).nw fun b1 H1 hs=>?_
 refine hs.nw fun b2 H1 hs=>?_
 refine hs.ldw 1 rfl rfl ?_;simp only[HV];refine hs.stw 2 rfl rfl rfl rfl fun H1 hs=>?_
 refine hs.ldw 2 rfl rfl ?_;exact hs.fin 0 rfl _)
theorem jZs (a b f o di tw sh:Int)(H:Hp):Za prog 199 #[.agg #[I a,I b],I f,I o,I di,I tw,U sh] H (RetE (.agg #[I a,I b,I di,I tw,U sh,I 2,I f,I o]) H):=Za.ret (by
 apply fZG.ok;unfold fZG;refine(Sep.start H).nw fun b1 H1 hs=>?_
 refine hs.nw fun b2 H1 hs=>?_
 refine hs.ldw 1 rfl rfl ?_;simp only[HV];refine hs.stw 2 rfl rfl rfl rfl fun H1 hs=>?_
 refine hs.ldw 2 rfl rfl ?_;exact hs.fin 0 rfl _)
theorem rZY (a b:Int)(H:Hp):Za prog 264 #[.agg #[I a,I b]] H (RetE (.agg #[I b,I a]) H):=Za.ret (by
 apply eZ9.ok;unfold eZ9;refine(Sep.start H).nw fun b1 H1 hs=>?_
 refine hs.nw fun b2 H1 hs=>?_
 refine hs.ldf 1 rfl rfl ?_;simp only[HV];refine hs.ldf 1 rfl rfl ?_;simp only[HV];refine hs.stw 2 rfl rfl rfl rfl fun H1 hs=>?_
 refine hs.ldw 2 rfl rfl ?_;exact hs.fin 0 rfl _)
theorem uZv {k a:Nat}(hk:k<=32)(ha:a<=k)(H:Hp):Za prog 328 #[I (k:Int),I (a:Int)] H (RetE (.agg #[I ((2^a:Nat):Int),I ((2^(k-a):Nat):Int)]) H):=Za.ret (by
 apply fZJ.ok;unfold fZJ;refine(Sep.start H).nw fun b1 H1 hs=>?_
 rw[ZM (x:=(k:Int)-a),show(k:Int)-a=((k-a:Nat):Int) by omega,bZ5,bZ5,Lay.gZM (by omega),Lay.gZM (by omega)];refine⟨by omega,by omega,?_⟩;refine hs.stw 1 rfl rfl rfl rfl fun H1 hs=>?_
 refine hs.ldw 1 rfl rfl ?_;exact hs.fin 0 rfl _)
theorem uZr {k:Nat}(hk:k<=32)(H:Hp):Za prog 327 #[I (k:Int)] H (RetE (.bool true) H):=by
 apply gZj.ok;unfold gZj;refine Zm (by omega) ?_;rw[decide_eq_true (by omega)];exact RetE.mk _ _
theorem vZp {k:Nat}(hk:k<=32)(H:Hp):Za prog 263 #[I (k:Int)] H (RetE (.tuple #[.agg #[I ((2^(k/2):Nat):Int),I ((2^(k-k/2):Nat):Int)],I 0]) H):=Za.ret (by
 apply gZg.ok;unfold gZg;refine(Sep.start H).nw fun b1 H1 hs=>?_
 refine Za.use (uZr hk H1) ?_
 try simp only[HV]
 rw[show Int.tdiv (k:Int) 2=((k/2:Nat):Int)from rfl,bZc];refine⟨by decide,by simp,?_⟩;refine Za.use (uZv hk (a:=k/2) (by omega) H1) ?_
 try simp only[HV]
 refine hs.stw 1 rfl rfl rfl rfl fun H1 hs=>?_
 refine hs.ldw 1 rfl rfl ?_;exact hs.fin 0 rfl _)
def bZx (ps:List Pz):List Value:=ps.flatMap fun p=>p.c.toList
theorem nZv :∀ ps:List Pz,(bZx ps).length=ps.length*8
 | []=>rfl
 |p::ps=>by
  show(p.c.toList++bZx ps).length=_
  rw[List.length_append,nZv ps,List.length_cons,Nat.succ_mul];have:p.c.toList.length=8:=rfl;omega
theorem nZu :∀(ps:List Pz) (i:Nat) (p:Pz),ps[i]? =some p->((bZx ps).drop (i*8)).take 8=p.c.toList
 | [],i,p,h=>by simp at h
 |q::ps,0,p,h=>by
  cases h;show((q.c.toList++bZx ps).drop (0*8)).take 8=_
  rw[Nat.zero_mul,List.drop_zero,List.take_append_of_le_length (by show 8<=8;omega)];rfl
 |q::ps,i+1,p,h=>by
  show((q.c.toList++bZx ps).drop ((i+1)*8)).take 8=_
  have e:(i+1)*8=q.c.toList.length+i*8:=by have:q.c.toList.length=8:=rfl;omega
  rw[e,List.drop_append,List.drop_eq_nil_of_le (by omega),List.nil_append,Nat.add_sub_cancel_left];exact nZu ps i p (by simpa using h)
theorem vZQ {k:Nat}(hk:k<=32)(d:Bool):Tr prog 201 #[I (k:Int),I (if d=true then 1 else 0)] [] fun v M=>∃ b,v= .slice (Io b) 5 5/\M=[pts b (.row (bZx (hZB d k)) 221 40)]:=fun H hs=>by
 apply gZW.ok;unfold gZW;refine Za.use (vZp hk H) ?_
 try simp only[HV]
 refine hs.nw fun b1 H hs=>?_
 refine hs.stw 0 rfl rfl rfl rfl fun H hs=>?_;refine hs.ldw 0 rfl rfl ?_;refine Za.use (rZY _ _ H) ?_
 try simp only[HV]
 refine hs.nw fun b2 H hs=>?_
 refine hs.stw 1 rfl rfl rfl rfl fun H hs=>?_;refine hs.ldw 0 rfl rfl ?_;refine ZS.use (mZQ _ _ 0 1 H) ?_
 try simp only[HV]
 refine hs.ldw 1 rfl rfl ?_;refine ZS.use (jZs _ _ 1 2 (if d=true then 1 else 0) (k:Int) 1 H) ?_
 try simp only[HV]
 refine hs.ldw 1 rfl rfl ?_;refine ZS.use (mZQ _ _ 2 1 H) ?_
 try simp only[HV]
 refine hs.ldw 0 rfl rfl ?_;refine ZS.use (pZh hk d H) ?_
 try simp only[HV]
 refine ZS.use (jZs _ _ 1 2 (if d=true then 1 else 0) (-1) ((eZ3 d k).toNat:Int) H) ?_
 try simp only[HV]
 refine hs.ldw 0 rfl rfl ?_;refine ZS.use (mZQ _ _ 2 3 H) ?_
 try simp only[HV]
 refine hs.nw fun b3 H hs=>?_
 exact⟨_,⟨b3,rfl,rfl⟩,hs.re [2] rfl⟩
def qZb (d:Bool)(k per words:Nat)(v:Value)(M:List As):Prop:=∃ b,v= .tuple #[.slice (Io b) (aZW d k per words).length (aZW d k per words).length,I 0]/\M=[pts b (.row (bZx (aZW d k per words)) 221 ((aZW d k per words).length*8))]
theorem rZT {k per words:Nat}(hk:k<=32)(hp:cZR (per:Int)=true)(hw:bZM k per<=words/\words<=16777216)(d:Bool):
  Tr prog 144 #[I (k:Int),I (if d=true then 1 else 0),I (per:Int),I (words:Int)] [] (qZb d k per words):=fun H hs=>by
 have h:=fZY hp;have h1:=cZA hk;apply fZF.ok;unfold fZF;refine Za.use (fZf hk hp H) ?_
 try simp only[HV]
 refine Zg (by cases d<;>decide) (Zg (by cases d<;>decide) ?_);refine Za.use (oZQ hk h.2 H) ?_
 try simp only[HV]
 refine Zg (by omega) ?_;refine Za.use (tZL hk hp hw.2 H) ?_
 try simp only[HV]
 have long:jZS k per words=false->Za prog 201 #[I (k:Int),I (if d=true then 1 else 0)] H fun v14 H7=>DSl v14 fun A1 n1 m1=>∃ M,qZb d k per words (.tuple #[.slice A1 n1 m1,I 0]) M/\Sep M H7:=fun hb=>by
  refine(vZQ hk d).use hs [] rfl rfl ?_;rintro _ _ H1 ⟨b,rfl,rfl⟩ hs;simp only[HV];have e:aZW d k per words=hZB d k:=by unfold aZW;rw[if_neg (by rw[hb];simp)]
  exact⟨_,⟨b,by rw[e];rfl,rfl⟩,by rw[e];exact hs⟩
 by_cases hs1:2*2^k+per<=words
 ·refine Zm hs1 ?_;by_cases hk2:k<=20
  ·refine Zm (by omega) ?_;rw[bZ5,Lay.gZM (by omega)];refine⟨by omega,?_⟩;refine Za.use (pZh hk d H) ?_
   try simp only[HV]
   refine Za.use (jZs _ _ 0 3 (if d=true then 1 else 0) (-1) ((eZ3 d k).toNat:Int) H) ?_
   try simp only[HV]
   refine hs.nw fun b1 H hs=>?_
   have e:aZW d k per words=[jZT d k]:=by unfold aZW;rw[if_pos (show jZS k per words=true from decide_eq_true ⟨hk2,hs1⟩)]
   exact⟨_,⟨b1,by rw[e];rfl,rfl⟩,by rw[e];exact hs⟩
  ·refine Zg (by omega) (long (decide_eq_false (by omega)))
 ·exact Zg hs1 (long (decide_eq_false (by omega)))
end Pln
namespace W
open Go Go.Hw
theorem gZH :prog.follows .mixedOrders=true:=by kernel_rfl
def cZi.j6 (K:VK)(p5 p6:OA)(x6:Int)(a1 a2:Addr)(p7 p8:OA)(H:Hp):=
 Hz 166 #[.pointer p7] H fun v7 H4=>iZZ v7 fun x7 x8=>(BIf (x8 !=0) (K (.tuple #[Ii 0,I x8]) H4) (BIf (x7 !=x6) (K (.tuple #[Ii 0,I 9]) H4) (LdA H4 a2 8 fun l10=>LeI H4 (a1.add 1) fun x9=>Hz 169 #[.pointer p7,.pointer p8,.agg l10.toArray,.pointer p6,I x9] H4 fun v11 H5=>iZZ v11 fun x10 x11=>(BIf (x11 !=0) (K (.tuple #[Ii 0,I x11]) H5) (HcI 127 #[.pointer p5] H5 fun x12 H6=>BIf (x12 !=0) (K (.tuple #[Ii 0,I x12]) H6) (K (.tuple #[Ii x10,I 0]) H6))))))
def cZi (p1 p2:OA)(y1:Array Value)(x1:Int)(y2:Array Value)(x2:Int)(H:Hp)(K:VK):Prop:=
 Nw H (Is y1 153) fun b1 H1=>Nw H1 (Is y2 221) fun b2 H2=>LdA H2 (O b1) 17 fun l1=>LdA H2 (O b2) 8 fun l2=>Hz 168 #[.pointer p1,.pointer p2,.agg l1.toArray,I x1,.agg l2.toArray] H2 fun v1 H3=>uZZ v1 fun p3 p4 x3=>(BIf (x3 !=0) (K (.tuple #[Ii 0,I x3]) H3) (LeI H3 ((O b2).add 5) fun x4=>BIf (x4 !=1) (LeI H3 ((O b2).add 5) fun x5=>BIf (x5 !=2) (K (.tuple #[Ii 0,I 18]) H3) (cZi.j6 K p1 p2 x2 (O b1) (O b2) p3 p4 H3)) (cZi.j6 K p1 p2 x2 (O b1) (O b2) p3 p4 H3)))
def cZi.Λ (K:VK):Zs:=⟨fun i=>match Nat.beq i 6 with|true=>some (fun E D H=>eP E 0 fun p5=>eP E 1 fun p6=>eI E 5 .u32 fun x6=>eN E 8 fun a1=>eN E 10 fun a2=>eP E 14 fun p7=>eP E 15 fun p8=>Zj D (cZi.j6 K p5 p6 x6 a1 a2 p7 p8 H))|false=>none,fun i=>none,(fun _=>none)⟩
theorem cZi.ok p1 p2 y1 x1 y2 x2 H K (h:cZi p1 p2 y1 x1 y2 x2 H K):Za prog 109 #[.pointer p1,.pointer p2,.agg y1,I x1,.agg y2,Ii x2] H K:=
 okL (Λ:=(cZi.Λ K)) gZH Tryz.func109 rfl rfl h (oC (fun E D H h=>by
   obtain⟨p5,e0,g2⟩:=GP h;obtain⟨p6,e1,g4⟩:=GP g2;obtain⟨x6,e5,g6⟩:=GI g4;obtain⟨a1,e8,g9⟩:=GN g6;obtain⟨a2,e10,g12⟩:=GN g9;obtain⟨p7,e14,g14⟩:=GP g12;obtain⟨p8,e15,g16⟩:=GP g14;obtain⟨rfl,h'⟩:=Zj.out g16;exact okJ (Λ:=(cZi.Λ K)) gZH [] (Zc.cons e0 (Zc.cons e1 (Zc.cons e5 (Zc.cons e8 (Zc.cons e10 (Zc.cons e14 (Zc.cons e15 (Zc.nil _)))))))) h' oN) oN)
def gZR (p1 p2:OA)(y1:Array Value)(x1 x2:Int)(H:Hp)(K:VK):Prop:=
 Nw H (Is y1 153) fun b1 H1=>LdA H1 (O b1) 17 fun l1=>Hz 231 #[.agg l1.toArray,I x1,I x2] H1 fun v1 H2=>gZC v1 fun y2 x3=>(Nw H2 (Is #[I 0,I 0,I 0] 150) fun b2 H3=>StA H3 (O b2) y2 3 fun H4=>BIf (x3 !=0) (K (.tuple #[.pointer none,I x3]) H4) (LdA H4 (O b2) 3 fun l5=>Hz 232 #[.pointer p1,.pointer p2,.agg l5.toArray] H4 fun v4 H5=>eZd v4 fun p3 x4=>(K (.tuple #[.pointer p3,I x4]) H5)))
theorem gZR.ok p1 p2 y1 x1 x2 H K (h:gZR p1 p2 y1 x1 x2 H K):Za prog 165 #[.pointer p1,.pointer p2,.agg y1,I x1,I x2] H K:=
 okN gZH Tryz.func165 rfl rfl h
def gZS (p1 p2:OA)(y1:Array Value)(x1:Int)(y2:Array Value)(H:Hp)(K:VK):Prop:=
 Nw H (Is y1 153) fun b1 H1=>Nw H1 (Is y2 221) fun b2 H2=>LdA H2 (O b1) 17 fun l1=>LeI H2 ((O b2).add 6) fun x2=>Hz 165 #[.pointer p1,.pointer p2,.agg l1.toArray,I x2,I x1] H2 fun v2 H3=>eZd v2 fun p3 x3=>(BIf (x3==0) (LdA H3 (O b1) 17 fun l5=>LeI H3 ((O b2).add 7) fun x4=>Hz 165 #[.pointer p1,.pointer p2,.agg l5.toArray,I x4,I x1] H3 fun v6 H4=>eZd v6 fun p4 x5=>(K (.tuple #[.pointer p3,.pointer p4,I x5]) H4)) (K (.tuple #[.pointer p3,.pointer none,I x3]) H3))
theorem gZS.ok p1 p2 y1 x1 y2 H K (h:gZS p1 p2 y1 x1 y2 H K):Za prog 168 #[.pointer p1,.pointer p2,.agg y1,I x1,.agg y2] H K:=
 okN gZH Tryz.func168 rfl rfl h
def hZo (p1 p2:OA)(y1:Array Value)(p3:OA)(x1:Int)(H:Hp)(K:VK):Prop:=
 Nw H (Is y1 221) fun b1 H1=>LeI H1 ((O b1).add 5) fun x2=>BIf (x2==1) (LdA H1 (((O b1).add 0).add 0) 2 fun l1=>Hz 239 #[.pointer p1,.pointer p2,.agg l1.toArray,.pointer p3,I x1] H1 fun v2 H2=>iZZ v2 fun x3 x4=>(K (.tuple #[Ii x3,I x4]) H2)) (BIf (x2==2) (LdA H1 ((O b1).add 0) 5 fun l5=>Hz 240 #[.pointer p1,.pointer p2,.agg l5.toArray,.pointer p3,I x1] H1 fun v5 H3=>iZZ v5 fun x5 x6=>(K (.tuple #[Ii x5,I x6]) H3)) (K (.tuple #[Ii 0,I 18]) H1))
theorem hZo.ok p1 p2 y1 p3 x1 H K (h:hZo p1 p2 y1 p3 x1 H K):Za prog 169 #[.pointer p1,.pointer p2,.agg y1,.pointer p3,I x1] H K:=
 okN gZH Tryz.func169 rfl rfl h
def bZK.q1 (H3:Hp)(b2:Nat)(K:VK):Prop:=
 StA H3 (O b2) #[I 0,I 0,I 0] 3 fun H4=>LdA H4 (O b2) 3 fun l2=>K (.tuple #[.agg l2.toArray,I 1]) H4
def bZK (y1:Array Value)(x1 x2:Int)(H:Hp)(K:VK):Prop:=
 Nw H (Is y1 153) fun b1 H1=>Nw H1 (Is #[I 0,I 0,I 0] 150) fun b2 H2=>LdA H2 (O b1) 17 fun l1=>HcB 295 #[.agg l1.toArray] H2 fun c1 H3=>BIf (!c1) (bZK.q1 H3 b2 K) (BIf (decide (x1<0)) (bZK.q1 H3 b2 K) (BIf (decide (x1>=4)) (bZK.q1 H3 b2 K) (BIf (decide (x2<0)) (bZK.q1 H3 b2 K) (LeI H3 ((O b1).add 0) fun x3=>BIf (decide (x2>x3)) (bZK.q1 H3 b2 K) ((0<=(u64.wrap x2)/\ixI x1 4 (LeI H3 ((((O b1).add 5).add (x1.toNat*3)).add 0) fun x4=>LeI H3 ((O b1).add 1) fun x5=>(x5≠0/\i64=i64/\StA H3 (O b2) #[I x4,I (i64.wrap ((i64.wrap (Int.tdiv (i64.wrap ((aZR .i64 1 (u64.wrap x2))-1)) x5))+1)),I (aZR .i64 1 (u64.wrap x2))] 3 fun H9=>LdA H9 (O b2) 3 fun l7=>K (.tuple #[.agg l7.toArray,I 0]) H9))))))))
theorem bZK.ok y1 x1 x2 H K (h:bZK y1 x1 x2 H K):Za prog 231 #[.agg y1,I x1,I x2] H K:=
 ok0 (fun i=>match Nat.beq i 4 with|true=>some ([],[0,1,2,3,4,5,6,7,8,9,10,11,12],13)|false=>none) gZH Tryz.func231 rfl rfl h
end W
namespace Eng
open Go Go.Hw Go.Form W Shp Dsk Str Are Trn Pas Pln
theorem xZP :iZM prog 153 17:=⟨by kernel_rfl,by kernel_rfl,by kernel_rfl,by kernel_rfl⟩
def qZZ (k p:Nat):List Int:=
 let r:Int:=Lay.ZX k p
 let w:Int:=(2^k:Nat)
 [(k:Int),(p:Int),1,8,((8*p:Nat):Int),9,r,w,9+r,r,w,9+2*r,r,w,9+3*r,r,w]
theorem qZ9 {per:Nat}(h:cZR (per:Int)=true):per=4∨per=8∨per=16∨per=32∨per=64∨per=128∨per=256∨per=512:=by
 unfold cZR at h;simp only[Bool.or_eq_true,beq_iff_eq]at h;omega
theorem qZd {per:Nat}(h:cZR (per:Int)=true):Lay.aZg ((per*8:Nat):Int)=per:=by
 rcases qZ9 h with e|e|e|e|e|e|e|e<;>subst e<;>decide
theorem nZw {s:Nat}(h:0<Lay.aZg s):cZR ((s/8:Nat):Int)=true:=by
 have:s=32∨s=64∨s=128∨s=256∨s=512∨s=1024∨s=2048∨s=4096:=by
  unfold Lay.aZg at h
  repeat' split at h
  all_goals omega
 rcases this with e|e|e|e|e|e|e|e<;>subst e<;>decide
theorem lZ7 {k p:Nat}(hk:k<=32):Lay.ZX k p<=4294967296:=by
 have:=cZA hk;unfold Lay.ZX;have:=Nat.div_le_self (2^k-1) p;have:=Nat.two_pow_pos k;omega
section
variable {most per : Nat} (hm : most <= 32) (hp : cZR (per : Int) = true)
include hm hp
theorem lZS :∀ x∈qZZ most per,-9223372036854775808<=x/\x<=9223372036854775807:=by
 have h1:=lZ7 (p:=per) hm;have h2:=cZA hm;have h3:=fZY hp;intro x hx;unfold qZZ at hx;generalize Lay.ZX most per=rr at*;generalize 2^most=ww at*;simp only[List.mem_cons,List.not_mem_nil,or_false]at hx;omega
theorem bZ2 (H:Hp):Za prog 295 #[.agg (Lay.dZk most per)] H (RetE (.bool true) H):=Za.ret (by
 have h3:=fZY hp;apply fZA.ok;unfold fZA;refine(Sep.start H).nw fun b1 H1 hs=>?_
 refine hs.ldf 1 rfl rfl ?_;simp only[HV];refine hs.ldf 1 rfl rfl ?_;simp only[HV];rw[if_neg (by omega),ZM (x:=(per:Int)*8)];refine ZS.use (Lay.lZY ((per:Int)*8) H1) ?_
 try simp only[HV]
 have e:Lay.aZg ((per:Int)*8)=per:=qZd hp;rw[e];refine ZS.use (Lay.fZf (most:Int) (per:Int) H1) ?_
 try simp only[HV]
 rw[decide_eq_true (by omega)];refine aZE rfl ?_;refine hs.ldw 1 rfl rfl ?_;refine hs.ldf 1 rfl rfl ?_;simp only[HV];refine hs.ldf 1 rfl rfl ?_;simp only[HV];refine ZS.use (Lay.sZz hm (p:=per) (by omega) (by omega) H1) ?_
 try simp only[HV]
 refine vZm xZP (a:=qZZ most per) (b:=qZZ most per) rfl rfl (lZS hm hp) (lZS hm hp) rfl rfl ?_;rw[decide_eq_true rfl];exact hs.fin 0 rfl _)
theorem rZK {i k:Nat}(hi:i<4)(hk:k<=most)(H:Hp):Za prog 231 #[.agg (Lay.dZk most per),I (i:Int),I (k:Int)] H
  (RetE (.tuple #[.agg #[I (((exX most per i k).f:Nat):Int),I (((exX most per i k).s:Nat):Int),I (((exX most per i k).w:Nat):Int)],I 0]) H):=Za.ret (by
 have h3:=fZY hp;have h1:=cZA (k:=k);have h4:=Nat.two_pow_pos k;have h5:=lZ7 (p:=per) hm;apply bZK.ok;unfold bZK bZK.q1;refine(Sep.start H).nw fun b1 H1 hs=>?_
 refine hs.nw fun b2 H1 hs=>?_
 refine hs.ldw 1 rfl rfl ?_;rw[Array.toArray_toList];refine Za.use (bZ2 hm hp H1) ?_
 try simp only[HV]
 refine Zg (by omega) (Zg (by omega) (Zg (by omega) ?_));refine hs.ldf 1 (v:=I most) rfl rfl ?_;simp only[HV];refine Zg (by omega) ⟨by rw[bZ5];omega,by omega,by omega,?_⟩;rw[Int.toNat_natCast]
 try simp only[HS]
 refine hs.ld 1 (v:=I (Lay.exF (Lay.ZX most per) i)) rfl (by rw[mZA,Array.getElem?_toList];exact Lay.sZy most per i hi) ?_;simp only[HV];refine hs.ld 1 (v:=I per) rfl rfl ?_;simp only[HV];rw[bZ5 (n:=k),Lay.gZM (by omega),ZM (x:=((2^k:Nat):Int)-1),show((2^k:Nat):Int)-1=((2^k-1:Nat):Int) by omega,
  show Int.tdiv ((2^k-1:Nat):Int) (per:Int)=(((2^k-1)/per:Nat):Int)from rfl]
 have h6:=Nat.div_le_self (2^k-1) per;rw[bZc (Nat.le_trans h6 (by omega)),ZM (x:=(((2^k-1)/per:Nat):Int)+1) (by generalize(2^k-1)/per=q at *;omega) (by generalize(2^k-1)/per=q at *;omega)];refine⟨by omega,by simp,?_⟩;refine hs.stw 2 rfl rfl rfl rfl fun H1 hs=>?_
 refine hs.ldw 2 rfl rfl ?_;have e1:Lay.exF (Lay.ZX most per) i=(((exX most per i k).f:Nat):Int):=by unfold Lay.exF exX;simp
 rw[e1];exact hs.fin 0 rfl _)
end
structure iZe (d:D)(most:Nat):Prop where
 m:most<=32
 p:cZR (D.per d:Int)=true
 fit:Lay.bZT most (D.per d)<=d.sec
theorem iZe.on {d:D}{most:Nat}(h:iZe d most)(hok:Ok d){i k:Nat}(hi:i<4)(hk:k<=most):On d (exX most (D.per d) i k):=by
 have h1:=(Ok.per_le hok).1;have h2:=iZp (p:=D.per d) hk;have h3:=h.fit;have h4:=kZj (k:=k) (p:=D.per d) (by omega);have h5:=Nat.two_pow_pos k;unfold Lay.bZT at h3;have h6:i*Lay.ZX most (D.per d)<=3*Lay.ZX most (D.per d):=Nat.mul_le_mul_right _ (by omega);exact⟨h5,Nat.le_add_left 1 ((2^k-1)/D.per d),by show 9+i*Lay.ZX most (D.per d)+Lay.ZX k (D.per d)<=d.sec;omega,h4⟩
theorem iZe.prog {d d':D}{most:Nat}(h:iZe d most)(h1:d'.sec=d.sec)(h2:d'.size=d.size):iZe d' most:=by
 have e:D.per d'=D.per d:=by unfold D.per;rw[h2]
 exact⟨h.m,by rw[e];exact h.p,by rw[e,h1];exact h.fit⟩
theorem sZe {most per i j k:Nat}(hk:k<=most)(hij:i≠j):(exX most per i k).f+(exX most per i k).s<=(exX most per j k).f∨(exX most per j k).f+(exX most per j k).s<=(exX most per i k).f:=by
 have h2:=iZp (p:=per) hk;show 9+i*Lay.ZX most per+Lay.ZX k per<=9+j*Lay.ZX most per∨9+j*Lay.ZX most per+Lay.ZX k per<=9+i*Lay.ZX most per
 rcases Nat.lt_or_gt_of_ne hij with h|h
 ·left;have:(i+1)*Lay.ZX most per<=j*Lay.ZX most per:=Nat.mul_le_mul_right _ h;rw[Nat.succ_mul]at this;omega
 ·right;have:(j+1)*Lay.ZX most per<=i*Lay.ZX most per:=Nat.mul_le_mul_right _ h;rw[Nat.succ_mul]at this;omega
section
variable {dp ap : Nat} {d : D} {most : Nat} (hok : Ok d) (hl : iZe d most)
include hok hl
theorem jZ5 {i k:Nat}(hi:i<4)(hk:k<=most):Tr prog 165 #[V dp,V ap,.agg (Lay.dZk most (D.per d)),I (i:Int),I (k:Int)] [Dk dp d] fun v M=>
  ∃ p,v= .tuple #[V p,I 0]/\M=[Dk dp d,pts p (ZJ dp ap (exX most (D.per d) i k))]:=fun H hs=>by
 apply gZR.ok;unfold gZR;refine hs.nw fun b1 H hs=>?_
 refine hs.ldw 1 rfl rfl ?_;rw[Array.toArray_toList];refine Za.use (rZK hl.m hl.p hi hk H) ?_
 try simp only[HV]
 refine hs.nw fun b2 H hs=>?_
 refine hs.stw 2 rfl rfl rfl rfl fun H hs=>?_;refine Zr rfl ?_;refine hs.ldw 2 rfl rfl ?_;refine(dZC (dp:=dp) (ap:=ap) hok (exX most (D.per d) i k) (hl.on hok hi hk)).use hs [0] rfl rfl ?_;rintro _ _ H ⟨p,rfl,rfl⟩ hs;simp only[HV];exact⟨_,⟨p,rfl,rfl⟩,hs.re [0,1] rfl⟩
theorem vZE {pz:Pz}{k:Nat}(hf:pz.f<4)(ho:pz.o<4)(hk:k<=most):Tr prog 168 #[V dp,V ap,.agg (Lay.dZk most (D.per d)),I (k:Int),.agg pz.c] [Dk dp d] fun v M=>
  ∃ p q,v= .tuple #[V p,V q,I 0]/\M=[Dk dp d,pts p (ZJ dp ap (exX most (D.per d) pz.f k)),pts q (ZJ dp ap (exX most (D.per d) pz.o k))]:=fun H hs=>by
 apply gZS.ok;unfold gZS;refine hs.nw fun b1 H hs=>?_
 refine hs.nw fun b2 H hs=>?_
 refine hs.ldw 1 rfl rfl ?_;rw[Array.toArray_toList];refine hs.ldf 2 (v:=I (pz.f:Int)) rfl rfl ?_;simp only[HV];refine(jZ5 (dp:=dp) (ap:=ap) hok hl hf hk).use hs [0] rfl rfl ?_;rintro _ _ H ⟨p,rfl,rfl⟩ hs;simp only[HV];refine Zt rfl ?_;refine hs.ldw 2 rfl rfl ?_;rw[Array.toArray_toList];refine hs.ldf 3 (v:=I (pz.o:Int)) rfl rfl ?_;simp only[HV];refine(jZ5 (dp:=dp) (ap:=ap) hok hl ho hk).use hs [0] rfl rfl ?_;rintro _ _ H ⟨q,rfl,rfl⟩ hs;simp only[HV];exact⟨_,⟨p,q,rfl,rfl⟩,hs.re [0,2,1] rfl⟩
end
structure oZq (pz:Pz)(k per cap:Nat):Prop where
 f:pz.f<4
 o:pz.o<4
 fo:pz.f≠pz.o
 k:pz.j.ea+pz.j.eb=k
 tn:pz.t=true->2^pz.j.ea+per<=cap
 rw:pz.t=false->pz.j.eb<=20/\-1<=pz.j.tw/\pz.j.tw<=32/\per+2*2^pz.j.eb<=cap
def jZ2 (per cap f o:Nat)(pz:Pz)(r w:Nat):Prop:=
 (pz.t=true/\∃ j,cZD ((2^pz.j.ea:Nat):Int) ((2^pz.j.eb:Nat):Int) per cap j/\r=rT per f o (2^pz.j.ea) (2^pz.j.eb) (2^j) (2^pz.j.eb/2^j)/\w=wT per o (2^pz.j.ea) (2^j) (2^pz.j.eb/2^j))∨
 (pz.t=false/\∃ j,dZ0 pz.j.ea ((cap-per)/2^pz.j.eb) j/\r=rP per f o (2^j*2^pz.j.eb) (2^pz.j.ea/2^j)/\w=wP per o (2^j*2^pz.j.eb) (2^pz.j.ea/2^j))
section
variable {p q dp ap : Nat} {x y : X} {cap : Nat} {peak : Int} {TT : As} {k : Nat} {pz : Pz}
def yZa (p q dp ap:Nat)(x y:X)(cap:Nat)(pz:Pz)(TT:As)(d:D)(v:Value)(M:List As):Prop:=
 ∃ peak':Int,peak'<=cap/\∃ r w,jZ2 (D.per d) cap x.f y.f pz r w/\
  ((∃ d',Prog (inX y) d d' r w/\pws d' y 0 y.w=pz.ap (pws d x 0 x.w)/\v= .tuple #[Ii ((Go.Crc.sum (form (pz.ap (pws d x 0 x.w)))).toNat:Int),I 0]/\M=[pts p (ZJ dp ap x),pts q (ZJ dp ap y),Dk dp d',Ar ap cap peak' [],TT])∨
  (∃ d',cZB (inX y) d d'/\d.fuse<=r+w/\v= .tuple #[Ii 0,I 8]/\M=[pts p (ZJ dp ap x),pts q (ZJ dp ap y),Dk dp d',Ar ap cap peak' [],TT]))
theorem iZ8 {a b c:Int}(h1:a<=c)(h2:b<=c):mx a b<=c:=by unfold mx;split<;>assumption
theorem xZs {d:D}(hT:∀ H,TT H->T64 H)(hok:Ok d)(hl:d.down=false)(hx:On d x)(hy:On d y)(ho:d.rd<=1000000000000/\d.wr<=1000000000000)(hk32:k<=32)(hxw:x.w=2^k)(hyw:y.w=2^k)(hdis:x.f+x.s<=y.f∨y.f+y.s<=x.f)
  (hper:cZR (D.per d:Int)=true) (hcap:cap<=16777216) (hpk:peak<=cap) (hz:oZq pz k (D.per d) cap):
  Tr prog 169 #[V p,V q,.agg pz.c,V ap,I (D.per d:Int)]
   [pts p (ZJ dp ap x),pts q (ZJ dp ap y),Dk dp d,Ar ap cap peak [],TT] (yZa p q dp ap x y cap pz TT d):=fun H hs=>by
 have hp:=Ok.per_le hok;have hkk:=hz.k;have hpow:2^pz.j.ea*2^pz.j.eb=2^k:=by rw[← Nat.pow_add,hkk]
 have hxw2:x.w=2^pz.j.ea*2^pz.j.eb:=hxw.trans hpow.symm;have hyw2:y.w=2^pz.j.ea*2^pz.j.eb:=hyw.trans hpow.symm;apply hZo.ok;unfold hZo;refine hs.nw fun b1 H hs=>?_
 refine hs.ldf 5 (v:=I (if pz.t=true then 1 else 2)) rfl rfl ?_;simp only[HV];cases ht:pz.t with
 |true=>
  refine Zt rfl ?_
  try simp only[HS]
  refine hs.lda 5 (off:=0) (n:=2) rfl (by show 0+2<=8;omega) ?_;have ea:((pz.c.toList.drop 0).take 2).toArray=#[I ((2^pz.j.ea:Nat):Int),I ((2^pz.j.eb:Nat):Int)]:=rfl;rw[ea];have htn:=hz.tn ht;obtain⟨j,hj1,hj⟩:=cZD.ex (ea:=pz.j.ea) (eb:=pz.j.eb) (per:=(D.per d:Int)) (free:=(cap:Int));have hjs:cZD ((2^pz.j.ea:Nat):Int) ((2^pz.j.eb:Nat):Int) (D.per d) ((cap:Int)-ZH []) j:=by rw[bZ8,Int.sub_zero];exact hj
  have hfit:=hj.fit;have hdv:2^pz.j.eb/2^j*2^j=2^pz.j.eb:=(div_pow hj1).symm;refine(Trn.oZs (p:=p) (q:=q) (dp:=dp) (ap:=ap) (x:=x) (y:=y) (cap:=cap) (peak:=peak) (bufs:=[]) hT hok hl hx hy (by omega) (by omega) hxw2 hyw2 hdis hper (by omega) (by decide) hjs).use hs [0,1,2,3,4] rfl rfl ?_;rintro v _ H ⟨M0,hq,rfl⟩ hs;have hpk2:mx peak (ZH []+((2^j*2^pz.j.ea:Nat):Int)+(D.per d:Int))<=cap:=iZ8 hpk (by rw[bZ8];rw[Int.natCast_mul];omega);have hap:pz.ap (pws d x 0 x.w)=trW d x (2^pz.j.ea) (2^pz.j.eb):=by unfold Pz.ap;rw[if_pos ht,wZp,hxw2]
  rcases hq with⟨d',hI,rfl,rfl⟩|⟨d',hD,hfu,rfl,rfl⟩
  ·simp only[HV];refine⟨_,⟨_,hpk2,_,_,.inl ⟨ht,j,hj,rfl,rfl⟩,.inl ⟨d',hI.pg,?_,by rw[hap],rfl⟩⟩,hs.re [0,1,2,3,4] rfl⟩;rw[hap];have hlen:=mZP d x (2^pz.j.ea) (2^pz.j.eb);rw[hyw2];refine(qZg fun k hk=>hI.dst k ?_);rw[hdv,Nat.mul_comm];exact hk
  ·simp only[HV];exact⟨_,⟨_,hpk2,_,_,.inl ⟨ht,j,hj,rfl,rfl⟩,.inr ⟨d',hD,hfu,rfl,rfl⟩⟩,hs.re [0,1,2,3,4] rfl⟩
 |false=>
  refine Zu (by decide) (Zt rfl ?_)
  try simp only[HS]
  refine hs.lda 5 (off:=0) (n:=5) rfl (by show 0+5<=8;omega) ?_;have ea:((pz.c.toList.drop 0).take 5).toArray=pz.j.a:=rfl;rw[ea];obtain⟨h20,htw1,htw2,hcp⟩:=hz.rw ht;have hpb:=Nat.two_pow_pos pz.j.eb;have hq2:2<=(cap-D.per d)/2^pz.j.eb:=(Nat.le_div_iff_mul_le hpb).2 (by omega);obtain⟨j,hj⟩:=dZ0.ex (ea:=pz.j.ea) hq2;have hjs:dZ0 pz.j.ea (((cap:Int)-ZH []-(D.per d:Int)).toNat/2^pz.j.eb) j:=by
   have:((cap:Int)-ZH []-(D.per d:Int)).toNat=cap-D.per d:=by rw[bZ8];omega
   rw[this];exact hj
  have hfit:(2^j+1)*2^pz.j.eb<=cap-D.per d:=(Nat.le_div_iff_mul_le hpb).1 hj.fit;rw[Nat.succ_mul]at hfit;refine(Pas.oZs (p:=p) (q:=q) (dp:=dp) (ap:=ap) (x:=x) (y:=y) (cap:=cap) (peak:=peak) (bufs:=[]) (j:=pz.j) hT hok hl hx hy (by omega) (by omega) h20 ⟨htw1,htw2⟩ hxw2 hyw2 hdis hper (by omega) (by decide) (by rw[bZ8];omega) hjs).use hs [0,1,2,3,4] rfl rfl ?_;rintro v _ H ⟨M0,hq,rfl⟩ hs;have hpk2:mx peak (ZH []+((2^j*2^pz.j.eb:Nat):Int)+((2^pz.j.eb:Nat):Int)+(D.per d:Int))<=cap:=iZ8 hpk (by rw[bZ8];omega);have hap:pz.ap (pws d x 0 x.w)=cZO pz.j d x (2^pz.j.ea):=by unfold Pz.ap;rw[if_neg (by rw[ht];simp),rZz,hxw2]
  rcases hq with⟨d',hI,rfl,rfl⟩|⟨d',hD,hfu,rfl,rfl⟩
  ·simp only[HV];refine⟨_,⟨_,hpk2,_,_,.inr ⟨ht,j,hj,rfl,rfl⟩,.inl ⟨d',hI.pg,?_,by rw[hap],rfl⟩⟩,hs.re [0,1,2,3,4] rfl⟩;rw[hap];have hlen:=jZM pz.j d x (2^pz.j.ea);rw[hyw2,←hlen];have hdv:2^pz.j.ea/2^j*2^j=2^pz.j.ea:=(div_pow hj.le).symm;have key:=qZg (d:=d') (x:=y) (n:=(cZO pz.j d x (2^pz.j.ea)).length) (f:=fun k=>((cZO pz.j d x (2^pz.j.ea))[k]?).getD 0) fun k hk=>by
    have:=hI.dst k (by rw[hdv,←hlen];exact hk);rw[hdv]at this;exact this
   rw[key];exact sZW _
  ·simp only[HV];exact⟨_,⟨_,hpk2,_,_,.inr ⟨ht,j,hj,rfl,rfl⟩,.inr ⟨d',hD,hfu,rfl,rfl⟩⟩,hs.re [0,1,2,3,4] rfl⟩
end
theorem oZI {d:D}{x:X}(hx:On d x):∀ i,inX x i->0<=i/\i<d.sec:=fun i hi=>by
 have:=hx.fit;unfold inX at hi;omega
def doP (dp ap:Nat)(d:D)(c:Cn)(most k:Nat)(pz:Pz)(cap:Nat)(TT:As)(v:Value)(M:List As):Prop:=
 ∃ peak':Int,peak'<=cap/\∃ r w,jZ2 (D.per d) cap (exX most (D.per d) pz.f k).f (exX most (D.per d) pz.o k).f pz r w/\
  ((∃ d' c',bZL d d' (nS (D.per d) (2^k)+r) w 1/\Clean d' c'/\Sam (inX (exX most (D.per d) pz.o k)) c c'/\cws c' (D.per d) (exX most (D.per d) pz.o k).f (2^k)=pz.ap (cws c (D.per d) (exX most (D.per d) pz.f k).f (2^k))/\
    v= .tuple #[Ii (eZX (pz.ap (cws c (D.per d) (exX most (D.per d) pz.f k).f (2^k))):Int),I 0]/\M=[Dk dp d',Ar ap cap peak' [],TT])∨
  (∃ d',Cut d d' (nS (D.per d) (2^k)+r+w+1)/\Left d' (fun c'=>Sam (inX (exX most (D.per d) pz.o k)) c c')/\v= .tuple #[Ii 0,I 8]/\M=[Dk dp d',Ar ap cap peak' [],TT]))
theorem xZG {dp ap:Nat}{d:D}{c:Cn}{most k:Nat}{pz:Pz}{cap:Nat}{peak:Int}{TT:As}(hT:∀ H,TT H->T64 H)(hc:Clean d c)(hl:iZe d most)(hk:k<=most)(ho:d.rd<=100000000000/\d.wr<=100000000000/\d.sy<=100000000000)
  (hcap:cap<=16777216) (hpk:peak<=cap) (hz:oZq pz k (D.per d) cap):
  Tr prog 109 #[V dp,V ap,.agg (Lay.dZk most (D.per d)),I (k:Int),.agg pz.c,Ii (eZX (cws c (D.per d) (exX most (D.per d) pz.f k).f (2^k)):Int)]
   [Dk dp d,Ar ap cap peak [],TT] (doP dp ap d c most k pz cap TT):=fun H hs=>by
 have hok:=hc.ok;have hp:=Ok.per_le hok;have hm:=hl.m;have hx:=hl.on hok hz.f hk;have hy:=hl.on hok hz.o hk;have hcp:D.per d<=cap:=by
  cases ht:pz.t with
  |true=>have:=hz.tn ht;have:=Nat.two_pow_pos pz.j.ea;omega
  |false=>have:=hz.rw ht;have:=Nat.two_pow_pos pz.j.eb;omega
 apply cZi.ok;unfold cZi;refine hs.nw fun b1 H hs=>?_
 refine hs.nw fun b2 H hs=>?_
 refine hs.ldw 3 rfl rfl ?_;refine hs.ldw 4 rfl rfl ?_;rw[Array.toArray_toList,Array.toArray_toList];refine(vZE (dp:=dp) (ap:=ap) hok hl hz.f hz.o hk).use hs [0] rfl rfl ?_;rintro _ _ H ⟨p,q,rfl,rfl⟩ hs;simp only[HV];refine Zr rfl ?_;have hs:Sep [Dk dp d,pts p (ZJ dp ap (exX most (D.per d) pz.f k)),pts q (ZJ dp ap (exX most (D.per d) pz.o k)),Ar ap cap peak [],TT,pts b1 (Is (Lay.dZk most (D.per d)) 153),pts b2 (Is pz.c 221)] H:=hs;have j6:cZi.j6 (fun v H'=>∃ M,doP dp ap d c most k pz cap TT v M/\Sep M H') (Io dp) (Io ap) (eZX (cws c (D.per d) (exX most (D.per d) pz.f k).f (2^k)):Int) (O b1) (O b2) (Io p) (Io q) H:=by
  have hwx:(exX most (D.per d) pz.f k).w=2^k:=rfl;have hwy:(exX most (D.per d) pz.o k).w=2^k:=rfl;have hxy:=sZe (most:=most) (per:=D.per d) hk hz.fo;have hcost:∃ r w,jZ2 (D.per d) cap (exX most (D.per d) pz.f k).f (exX most (D.per d) pz.o k).f pz r w:=by
   have hkk:=hz.k;cases ht:pz.t with
   |true=>
    have htn:=hz.tn ht;obtain⟨j,_,hj⟩:=cZD.ex (ea:=pz.j.ea) (eb:=pz.j.eb) (per:=(D.per d:Int)) (free:=(cap:Int));exact⟨_,_,.inl ⟨ht,j,hj,rfl,rfl⟩⟩
   |false=>
    obtain⟨_,_,_,hcp⟩:=hz.rw ht;obtain⟨j,hj⟩:=dZ0.ex (ea:=pz.j.ea) ((Nat.le_div_iff_mul_le (Nat.two_pow_pos pz.j.eb)).2 (by omega):2<=(cap-D.per d)/2^pz.j.eb);exact⟨_,_,.inr ⟨ht,j,hj,rfl,rfl⟩⟩
  generalize hX:exX most (D.per d) pz.f k=x at*;generalize hY:exX most (D.per d) pz.o k=y at*;unfold cZi.j6;refine(mZr (p:=p) (dp:=dp) (ap:=ap) (x:=x) (cap:=cap) (peak:=peak) (bufs:=[]) hok hc.down hx (by omega) (by rw[bZ8];omega)).use hs [1,0,3] rfl rfl ?_;have hw0:=gZJ hc.now x (2^k);have hpk1:mx peak (ZH []+(D.per d:Int))<=cap:=iZ8 hpk (by rw[bZ8];omega);rintro _ _ H (⟨hf,rfl,rfl⟩|⟨j,hj,hf,rfl,rfl⟩) hs
  ·have hsum:((Go.Crc.sum (form (pws d x 0 x.w))).toNat:Int)=(eZX (cws c (D.per d) x.f (2^k)):Int):=by rw[hwx,hw0];rfl
   rw[hsum];simp only[HV];refine Zr rfl (Zr rfl ?_);rw[hwx]at hs hf;generalize hN:nS (D.per d) (2^k)=N at hs hf;have hcN:=hc.rdG N;have hwN:=bZL.rdG hf;have hs:Sep [pts p (ZJ dp ap x),Dk dp (D.rdG d N),Ar ap cap (mx peak (ZH []+(D.per d:Int))) [],pts q (ZJ dp ap y),TT,pts b1 (Is (Lay.dZk most (D.per d)) 153),pts b2 (Is pz.c 221)] H:=hs;refine hs.ldw 6 rfl rfl ?_;rw[Array.toArray_toList]
   try simp only[HS]
   refine hs.ld 5 (v:=I (D.per d:Int)) rfl rfl ?_;simp only[HV];have hwr:(D.rdG d N).wr=d.wr:=rfl;have hrd:(D.rdG d N).rd=d.rd+N:=rfl;have hNs:N<=4294967296:=by
    rw[← hN];have h2k:=cZA (k:=k);unfold nS;exact Nat.le_trans (Nat.div_le_of_le_mul (by
     have:2^k+D.per d-1<=2^k*D.per d:=by
      have h1:=Nat.two_pow_pos k;obtain⟨a,ha⟩:∃ a,2^k=a+1:=⟨2^k-1,by omega⟩;obtain⟨b,hb⟩:∃ b,D.per d=b+1:=⟨D.per d-1,by omega⟩;rw[ha,hb,Nat.mul_add,Nat.add_mul];omega
     rw[Nat.mul_comm];exact this)) h2k
   have hpx:pws (D.rdG d N) x 0 x.w=cws c (D.per d) x.f (2^k):=by rw[hwx];exact gZJ hcN.now x (2^k)
   refine(xZs (p:=p) (q:=q) (dp:=dp) (ap:=ap) (x:=x) (y:=y) (cap:=cap) (peak:=mx peak (ZH []+(D.per d:Int))) (TT:=TT) (k:=k) (pz:=pz) (d:=D.rdG d N) hT hcN.ok hcN.down ⟨hx.w1,hx.s1,hx.fit,hx.room⟩ ⟨hy.w1,hy.s1,hy.fit,hy.room⟩ (by omega) (by omega) hwx hwy hxy hl.p hcap hpk1 hz).use hs [0,3,1,2,4] rfl rfl ?_;rintro v M H ⟨peak',hpk',r,w,hcost',hq⟩ hs;rw[hpx]at hq;rcases hq with⟨d',hP,hw',rfl,rfl⟩|⟨d',hD,hfu,rfl,rfl⟩
   ·have h2:=hP.sy;simp only[HV];refine Zr rfl ?_;refine(hZK (p:=dp) (d:=d') hP.ok (by rw[h2];show d.sy<=_;omega)).use hs [2] rfl rfl ?_;rintro _ _ H ⟨rfl,rfl⟩ hs;rcases hcN.sync hP (oZI (d:=D.rdG d N) ⟨hy.w1,hy.s1,hy.fit,hy.room⟩)with⟨e,hw2,hc2⟩|⟨e,hcut,hleft⟩
    ·rw[e];simp only[HV];refine Zr rfl ?_;have hgo:=hwN.trans hw2;have hsam:Sam (inX y) c d'.now:=fun i hi=>(hcN.prog hP i).2 hi
     refine⟨_,⟨peak',hpk',r,w,by rw[hX,hY];exact hcost',.inl ⟨_,_,by rw[hN];simpa using hgo,hc2,by rw[hY];exact hsam,?_,by rw[hX];rfl,rfl⟩⟩,hs.re [0,3,4] rfl⟩;rw[hX,hY,←hw',hwy];have e2:D.per d'=D.per d:=hP.per;rw[← e2];exact(gZJ (fun _=>rfl) y (2^k)).symm
    ·rw[e];simp only[HV];refine Zz (by decide) ?_;have hgo:=hwN.cut hcut;exact⟨_,⟨peak',hpk',r,w,by rw[hX,hY];exact hcost',.inr ⟨_,by rw[hN];exact hgo.more (by omega),by rw[hY];exact hleft.mono fun _ h=>h.2,rfl,rfl⟩⟩,hs.re [0,3,4] rfl⟩
   ·simp only[HV];refine Zz (by decide) ?_;have hf1:1<=(D.rdG d N).fuse:=by have h1:=hD.cnt;have h2:=hD.rd;have h3:=hD.wr;omega
    have hcut:=hcN.deadCut hD (oZI (d:=D.rdG d N) ⟨hy.w1,hy.s1,hy.fit,hy.room⟩) hfu hf1;have hgo:=hwN.cut hcut;exact⟨_,⟨peak',hpk',r,w,by rw[hX,hY];exact hcost',.inr ⟨_,by rw[hN];exact hgo.more (by omega),by rw[hY];exact hcN.deadLeft hD,rfl,rfl⟩⟩,hs.re [2,3,4] rfl⟩
  ·simp only[HV];refine Zz (by decide) ?_;obtain⟨r,w,hcost⟩:=hcost;rw[hwx]at hj;have hcut:=Cut.rdG hc hf hj;refine⟨_,⟨_,hpk1,r,w,by rw[hX,hY];exact hcost,.inr ⟨_,hcut.more (by omega),?_,rfl,rfl⟩⟩,hs.re [1,2,4] rfl⟩;exact(Left.rdG hc j).mono fun c' e=>by rw[e];exact fun _ _=>rfl
 refine hs.ldf 6 (v:=I (if pz.t=true then 1 else 2)) rfl rfl ?_;simp only[HV];cases ht:pz.t with
 |true=>exact Zr rfl j6
 |false=>
  refine Zz (by decide) ?_;refine hs.ldf 6 (v:=I (if pz.t=true then 1 else 2)) rfl rfl ?_;rw[ht];simp only[HV];exact Zr rfl j6
end Eng
namespace W
open Go Go.Hw
theorem cZI :prog.follows .mixedOrders=true:=by kernel_rfl
def ZT.j6 (K:VK)(x13 x14 x15:Int)(H:Hp):=
 ((2:Int)≠0/\i64=i64/\HcI 167 #[I (i64.wrap (Int.tdiv x13 2))] H fun x16 H5=>((2:Int)≠0/\i64=i64/\HcI 167 #[I (i64.wrap (x13-(i64.wrap (Int.tdiv x13 2))))] H5 fun x17 H6=>Nw H6 (Is #[I 0,I 0] 217) fun b2 H7=>StA H7 (O b2) #[I x16,I x17] 2 fun H8=>LeI H8 ((O b2).add 1) fun x18=>LeI H8 ((O b2).add 0) fun x19=>Nw H8 (Is #[I 0,I 0] 217) fun b3 H9=>StA H9 (O b3) #[I x18,I x19] 2 fun H10=>LdA H10 (O b2) 2 fun l1=>iZX l1.toArray.toList fun x20 x21=>(LdA H10 (O b3) 2 fun l4=>iZX l4.toArray.toList fun x22 x23=>(LdA H10 (O b3) 2 fun l7=>iZX l7.toArray.toList fun x24 x25=>(LdA H10 (O b2) 2 fun l10=>iZX l10.toArray.toList fun x26 x27=>(LdA H10 (O b2) 2 fun l13=>iZX l13.toArray.toList fun x28 x29=>(Nw H10 (.row [I x20,I x21,I 0,I (-1),U 1,I 1,I 0,I 1,I x22,I x23,I x14,I x13,U 1,I 2,I 1,I 2,I x24,I x25,I 0,I (-1),U 1,I 1,I 2,I 1,I x26,I x27,I x14,I (-1),U x15,I 2,I 1,I 2,I x28,I x29,I 0,I (-1),U 1,I 1,I 2,I 3] 221 40) fun b4 H11=>K (.slice (Io b4) 5 5) H11)))))))
def ZT.j4 (K:VK)(x6 x7 x8 x9 x10:Int)(H:Hp):=
 BIf (decide (x6<=(20:Int))) (HcI 167 #[I x6] H fun x11 H2=>BIf (decide ((i64.wrap ((i64.wrap (2*x11))+x8))<=x9)) (HcI 167 #[I x6] H2 fun x12 H3=>Nw H3 (.row [I 1,I x12,I x7,I (-1),U x10,I 2,I 0,I 3] 221 8) fun b1 H4=>K (.slice (Io b1) 1 1) H4) (ZT.j6 K x6 x7 x10 H2)) (ZT.j6 K x6 x7 x10 H)
def ZT (x1 x2 x3 x4:Int)(H:Hp)(K:VK):Prop:=
 BIf (x2==1) (HcW 113 #[I x1] H fun x5 H1=>ZT.j4 K x1 x2 x3 x4 x5 H1) (ZT.j4 K x1 x2 x3 x4 1 H)
def ZT.Λ (K:VK):Zs:=⟨fun i=>match Nat.beq i 6 with|true=>some (fun E D H=>eI E 0 .i64 fun x13=>eI E 1 .i64 fun x14=>eI E 9 .u64 fun x15=>Zj D (ZT.j6 K x13 x14 x15 H))|false=>match Nat.beq i 4 with|true=>some (fun E D H=>eI E 0 .i64 fun x6=>eI E 1 .i64 fun x7=>eI E 2 .i64 fun x8=>eI E 3 .i64 fun x9=>eI E 9 .u64 fun x10=>Zj D (ZT.j4 K x6 x7 x8 x9 x10 H))|false=>none,fun i=>none,(fun _=>none)⟩
theorem ZT.ok x1 x2 x3 x4 H K (h:ZT x1 x2 x3 x4 H K):Za prog 105 #[I x1,I x2,I x3,I x4] H K:=
 okL (Λ:=(ZT.Λ K)) cZI Tryz.func105 rfl rfl h (oC (fun E D H h=>by
   obtain⟨x6,e0,g2⟩:=GI h;obtain⟨x7,e1,g4⟩:=GI g2;obtain⟨x8,e2,g6⟩:=GI g4;obtain⟨x9,e3,g8⟩:=GI g6;obtain⟨x10,e9,g10⟩:=GI g8;obtain⟨rfl,h'⟩:=Zj.out g10;exact okJ (Λ:=(ZT.Λ K)) cZI [] (Zc.cons e0 (Zc.cons e1 (Zc.cons e2 (Zc.cons e3 (Zc.cons e9 (Zc.nil _)))))) h' (oC (fun E D H h=>by
     obtain⟨x13,e0,g2⟩:=GI h;obtain⟨x14,e1,g4⟩:=GI g2;obtain⟨x15,e9,g6⟩:=GI g4;obtain⟨rfl,h'⟩:=Zj.out g6;exact okJ (Λ:=(ZT.Λ K)) cZI [] (Zc.cons e0 (Zc.cons e1 (Zc.cons e9 (Zc.nil _)))) h' oN) oN)) oN)
def dZc (x1 x2:Int)(H:Hp)(K:VK):Prop:=
 ((2:Int)≠0/\i64=i64/\HcI 167 #[I (i64.wrap (Int.tdiv (i64.wrap (x1+1)) 2))] H fun x3 H1=>K (I (i64.wrap ((i64.wrap (2*x3))+x2))) H1)
theorem dZc.ok x1 x2 H K (h:dZc x1 x2 H K):Za prog 108 #[I x1,I x2] H K:=
 okN cZI Tryz.func108 rfl rfl h
def aZb.l3 (K:VK):Nat->Int->Int->Int->Hp->Prop
 |0,_,_,_,_=>False
 |k+1,x2,x3,x4,H=>
  let R3:=aZb.l3 K k
  BIf (decide (x4<x2)) (R3 x2 (i64.wrap (2*x3)) (i64.wrap (x4+1)) H) (K (I x3) H)
def aZb (x1:Int)(H:Hp)(K:VK):Prop:=
 (∃ k,aZb.l3 K k x1 1 0 H)
def aZb.l3.L (K:VK)(k:Nat):Mid:=fun E D H=>
 eI E 0 .i64 fun x2=>eI E 3 .i64 fun x3=>eI E 4 .i64 fun x4=>Zj D (aZb.l3 K k x2 x3 x4 H)
def aZb.Λ3 (_:VK)(_R3:Int->Int->Int->Hp->Prop):Zs:=Zs.none (fun _=>none)
def aZb.Λ (K:VK):Zs:=⟨fun i=>none,fun i=>match Nat.beq i 3 with|true=>some (fun E D H=>∃ k,aZb.l3.L K k E D H)|false=>none,(fun _=>none)⟩
theorem aZb.ok x1 H K (h:aZb x1 H K):Za prog 167 #[I x1] H K:=
 okL (Λ:=(aZb.Λ K)) cZI Tryz.func167 rfl rfl h (oC (fun E D H h=>by
   refine Safe.loop' (aZb.l3.L K) (fun E D H h=>?_) (fun k E D H h=>?_) E D H h
   ·obtain⟨w0,e0,g1⟩:=DG.out h;obtain⟨x2,rfl,g2⟩:=DI.out g1;obtain⟨w3,e3,g3⟩:=DG.out g2;obtain⟨x3,rfl,g4⟩:=DI.out g3;obtain⟨w4,e4,g5⟩:=DG.out g4;obtain⟨x4,rfl,g6⟩:=DI.out g5;obtain⟨rfl,h'⟩:=Zj.out g6;exact h'
   ·obtain⟨x2,e0,g2⟩:=GI h;obtain⟨x3,e3,g4⟩:=GI g2;obtain⟨x4,e4,g6⟩:=GI g4;obtain⟨rfl,h'⟩:=Zj.out g6;exact okJ (Λ:=(aZb.Λ3 K (aZb.l3 K k))) cZI [] (Zc.cons e0 (Zc.cons e3 (Zc.cons e4 (Zc.nil _)))) h' oN) oN)
end W
namespace Eng
open Go Go.Hw Go.Form W Shp Dsk Str Are Trn Pas Pln
theorem lZv (H:Hp)(A B:OA)(n m m':Nat)(ws:List UInt64)(hn:n=ws.length)(hl:n<=1000000000)(ha:Cells H A (Zb ws))(hb:Cells H B (Zb ws)):
  ∀(t i:Nat),i+t=n->aZk.l4 (RetE (.bool true) H) (t+1) A n m B n m' (i:Int) H
 |0,i,h=>by
  unfold aZk.l4;exact Zg (by omega) (RetE.mk _ _)
 |t+1,i,h=>by
  unfold aZk.l4;refine Zm (by omega) ?_;have hg:(Zb ws)[i]? =some (U ((ws[i]'(by omega)).toNat:Int)):=by
   rw[aZ5,List.getElem?_eq_getElem (by omega)];rfl
  refine ha.read hg rfl (by rw[Zq];omega) ?_;simp only[HV];refine hb.read hg rfl (by rw[Zq];omega) ?_;simp only[HV];refine Zr rfl ?_;rw[ZM (x:=(i:Int)+1)];exact lZv H A B n m m' ws hn hl ha hb t (i+1) (by omega)
theorem oZt (A B:OA)(n n' m m':Nat)(ws:List UInt64)(hn:n=ws.length)(hn':n'=ws.length)(hl:n<=1000000000)(H:Hp)(ha:Cells H A (Zb ws))(hb:Cells H B (Zb ws)):
  Za prog 20 #[.slice A n m,.slice B n' m'] H (RetE (.bool true) H):=by
 obtain rfl:n'=n:=by omega
 apply aZk.ok;unfold aZk;refine Zr rfl ⟨n'+1,?_⟩;exact lZv H A B n' m m' ws hn hl ha hb n' 0 (by omega)
theorem lZ1 (H:Hp)(k:Nat)(hk:k<=40):∀(t i:Nat),i+t=k->aZb.l3 (RetE (I ((2^k:Nat):Int)) H) (t+1) (k:Int) ((2^i:Nat):Int) (i:Int) H
 |0,i,h=>by
  unfold aZb.l3;obtain rfl:i=k:=by omega
  exact Zg (by omega) (RetE.mk _ _)
 |t+1,i,h=>by
  unfold aZb.l3;refine Zm (by omega) ?_;have h2:2^i<=2^40:=Nat.pow_le_pow_right (by omega) (by omega);have h0:=Int.natCast_nonneg (2^i);have e:i64.wrap ((2:Int)*((2^i:Nat):Int))=((2^(i+1):Nat):Int):=by
   rw[ZM,Nat.pow_succ];omega
  rw[e,ZM (x:=(i:Int)+1)];exact lZ1 H k hk t (i+1) (by omega)
theorem hZ1 (k:Nat)(hk:k<=40)(H:Hp):Za prog 167 #[I (k:Int)] H (RetE (I ((2^k:Nat):Int)) H):=by
 apply aZb.ok;unfold aZb;exact⟨k+1,lZ1 H k hk k 0 (by omega)⟩
theorem sZQ (k per:Nat)(hk:k<=32)(hp:per<=512)(H:Hp):Za prog 108 #[I (k:Int),I (per:Int)] H (RetE (I (bZM k per:Int)) H):=by
 have h1:=cZA (k:=(k+1)/2);have h0:=Int.natCast_nonneg (2^((k+1)/2));apply dZc.ok;unfold dZc;rw[ZM (x:=(k:Int)+1),show Int.tdiv ((k:Int)+1) 2=(((k+1)/2:Nat):Int)from rfl,bZc];refine⟨by decide,by simp,?_⟩;refine Za.use (hZ1 ((k+1)/2) (by omega) H) ?_;simp only[HV];rw[ZM (x:=(2:Int)*_),ZM];exact RetE.of (by unfold bZM;rw[Int.natCast_add];rfl)
theorem mZR {k:Nat}(h:k<=6):2^k<=64:=Nat.pow_le_pow_right (n:=2) (by omega) h
theorem oZ5 {d:Bool}{k per words:Nat}(hk:k<=32)(hw:bZM k per<=words):∀ p∈aZW d k per words,oZq p k per words:=by
 intro p hp;unfold aZW at hp;unfold bZM at hw;split at hp
 ·rename_i hb
  have hb:=of_decide_eq_true hb;rw[List.mem_singleton.1 hp];exact⟨by show 0<4;omega,by show 3<4;omega,by show(0:Nat)≠3;omega,by show 0+k=k;omega,fun h=>(by cases h),fun _=>⟨hb.1,by show(-1:Int)<=-1;omega,by show(-1:Int)<=32;omega,by show per+2*2^k<=_;omega⟩⟩
 ·have ha:k-k/2=(k+1)/2:=by omega
  have h1:2^(k/2)<=2^((k+1)/2):=Nat.pow_le_pow_right (by omega) (by omega);have hz:∀(ea eb f o:Nat) (t d:Bool) (tw:Int) (sh:UInt64),f<4->o<4->f≠o->ea+eb=k->ea<=(k+1)/2->eb<=(k+1)/2->-1<=tw->tw<=32->oZq ⟨t,⟨ea,eb,d,tw,sh⟩,f,o⟩ k per words:=fun ea eb f o t d tw sh h1 h2 h3 h4 h5 h6 h7 h8=>by
   have q1:2^ea<=2^((k+1)/2):=Nat.pow_le_pow_right (by omega) h5;have q2:2^eb<=2^((k+1)/2):=Nat.pow_le_pow_right (by omega) h6;exact⟨h1,h2,h3,h4,fun _=>by show 2^ea+per<=words;omega,fun _=>⟨by show eb<=20;omega,h7,h8,by show per+2*2^eb<=words;omega⟩⟩
  unfold hZB at hp;simp only[List.mem_cons,List.not_mem_nil,or_false]at hp;rcases hp with e|e|e|e|e<;>rw[e]<;>exact hz _ _ _ _ _ _ _ _ (by omega) (by omega) (by omega) (by omega) (by omega) (by omega) (by omega) (by omega)
theorem lZF (a b:Nat):a/b*b<=a:=Nat.div_mul_le_self a b
theorem tZB {per cap f o k:Nat}{pz:Pz}{r w:Nat}(h:jZ2 per cap f o pz r w)(hk:pz.j.ea+pz.j.eb=k):r<=2*2^k/\w<=2^k:=by
 have hpow:2^pz.j.ea*2^pz.j.eb=2^k:=by rw[← Nat.pow_add,hk]
 rcases h with⟨_,j,hj,rfl,rfl⟩|⟨_,j,hj,rfl,rfl⟩
 ·have h1:=rZe per f o (2^pz.j.ea) (2^pz.j.eb) (2^j) (2^pz.j.eb/2^j);have h2:=rZy per o (2^pz.j.ea) (2^j) (2^pz.j.eb/2^j);have h3:2^pz.j.eb/2^j*(2^j*2^pz.j.ea)<=2^k:=by
   rw[← Nat.mul_assoc,←hpow,Nat.mul_comm (2^pz.j.ea)];exact Nat.mul_le_mul_right _ (lZF _ _)
  have h4:2^pz.j.eb/2^j*(2*(2^j*2^pz.j.ea))=2*(2^pz.j.eb/2^j*(2^j*2^pz.j.ea)):=by rw[Nat.mul_left_comm]
  exact⟨by omega,by omega⟩
 ·have h1:=rZc per f o (2^j*2^pz.j.eb) (2^pz.j.ea/2^j);have h2:=rZx per o (2^j*2^pz.j.eb) (2^pz.j.ea/2^j);have h3:2^pz.j.ea/2^j*(2^j*2^pz.j.eb)<=2^k:=by
   rw[← Nat.mul_assoc,←hpow];exact Nat.mul_le_mul_right _ (lZF _ _)
  have h4:2^pz.j.ea/2^j*(2*(2^j*2^pz.j.eb))=2*(2^pz.j.ea/2^j*(2^j*2^pz.j.eb)):=by rw[Nat.mul_left_comm]
  exact⟨by omega,by omega⟩
theorem kZd {per w:Nat}(hp:1<=per)(hw:1<=w):nS per w<=w:=by
 unfold nS;refine Nat.div_le_of_le_mul ?_;obtain⟨a,rfl⟩:∃ a,w=a+1:=⟨w-1,by omega⟩;obtain⟨b,rfl⟩:∃ b,per=b+1:=⟨per-1,by omega⟩;rw[Nat.mul_add,Nat.add_mul];omega
theorem wZC (x:X){d:D}(hok:Ok d)(src:List UInt64):pws (eZn d x src.length 0 src) x 0 src.length=src:=by
 apply List.ext_getElem?;intro i;unfold pws;rw[List.getElem?_map];by_cases h:i<src.length
 ·rw[List.getElem?_range h];show some (pw _ x (0+i))=_
  rw[Nat.zero_add,mZT x hok 0 src i,if_pos ⟨by omega,by omega⟩,Nat.sub_zero,List.getElem?_eq_getElem h];rfl
 ·rw[List.getElem?_eq_none (by rw[List.length_range];omega),List.getElem?_eq_none (by omega)];rfl
theorem qZ8 {L:List As}{H:Hp}(hs:Sep L H)(i:Nat){b n m:Nat}{xs:List Value}{e:TypeId}{s:Nat}(hi:L[i]? =some (pts b (.row xs e m)))(hx:xs.length=n*s)(hm:m=n*s):Sep (L.set i (Own e s (Io b) n n xs)) H:=
 hs.turn i hi fun H1 hH=>⟨hx,.inr ⟨b,m,rfl,hH,by first|omega|exact hm|exact hm.symm|exact⟨hm,Nat.le_refl _⟩⟩⟩
end Eng
end Go.Proofs.YtlgnlghmbcpmhaaGreatDoor
