import Derived.Test.YtlgnlghmbcpmhaaGreatDoorProg
import Derived.Test.YtlgnlghmbcpmhaaGreatDoorPkEngineCrashes7
set_option maxRecDepth 100000
set_option linter.unusedSimpArgs false
set_option linter.unusedVariables false
set_option linter.unnecessarySimpa false
set_option linter.unusedSectionVars false
open Go.IntKind (i64 u64)
namespace Go.Proofs.YtlgnlghmbcpmhaaGreatDoor
open Tryz (prog)
namespace Eng
open Go Go.Hw Go.Form Dsk Str Rec Srt Rng Pln Trn
theorem vw {k p:Nat}(hp:1<=p):2^k<=Lay.bS k p*p:=by
 have h1:=Nat.two_pow_pos k;have h2:=Nat.div_add_mod (2^k-1) p;have h3:=Nat.mod_lt (2^k-1) (show p>0 by omega);unfold Lay.bS;rw[Nat.add_mul,Nat.mul_comm,Nat.one_mul];omega
theorem r7 {k m p:Nat}(h:k<=m):Lay.bS k p<=Lay.bS m p:=by
 have h1:2^k<=2^m:=Nat.pow_le_pow_right (by omega) h;unfold Lay.bS;have:=Nat.div_le_div_right (c:=p) (show 2^k-1<=2^m-1 by omega);omega
theorem lY {s:Nat}(h:0<Lay.cc s):Lay.cc s=s/8/\4<=s/8/\s/8<=512/\8*(s/8)=s:=by
 have:s=32\/s=64\/s=128\/s=256\/s=512\/s=1024\/s=2048\/s=4096:=by
  unfold Lay.cc at h
  repeat' split at h
  all_goals omega
 rcases this with e|e|e|e|e|e|e|e<;>subst e<;>decide
theorem gk {m sec s:Nat}{ar:Int}(h:Sup.fh (m:Int) sec s ar=true):m<=32/\0<Lay.cc s/\Lay.fI m (s/8)<=sec/\1<=ar/\ar<=16777216:=by
 have h1:=of_decide_eq_true h;have h3:=h1.2.2.1;have h2:=lY h3;rw[h2.1,Int.toNat_natCast]at h1;exact⟨by omega,h3,by omega,h1.2.2.2.2⟩
theorem DL {c c':Cn}{aa aA i k:Nat}(hp:1<=aa)(h:∀ j:Nat,j<Lay.bS k aa->c' ((9+i*Lay.bS aA aa+j:Nat):Int)=c ((9+i*Lay.bS aA aa+j:Nat):Int)):
  kF c' aa (9+i*Lay.bS aA aa) (2^k)=kF c aa (9+i*Lay.bS aA aa) (2^k):=yW hp (vw hp) h
theorem Holds.aa {sec size:Nat}{m:Mn}{c:Cn}(h:Holds sec size m c):4<=size/8/\size/8<=512/\8*(size/8)=size:=(lY (gk h.dc).2.1).2
theorem Holds.Of {sec size:Nat}{m:Mn}{c c':Cn}(h:Holds sec size m c)(h0:∀ i:Nat,i<=8->c' (i:Int)=c (i:Int))
  (h1:∀ r,m.L.getLast? =some r->2<=r.kd->∀ j:Nat,j<Lay.bS r.kk.toNat (size/8)->c' ((9+j:Nat):Int)=c ((9+j:Nat):Int))
  (h2:∀ r,m.L.getLast? =some r->r.kd=4->∀ p,(cE m (size/8) r)[r.ps.toNat-1]? =some p->∀ j:Nat,j<Lay.bS r.kk.toNat (size/8)->c' ((9+p.o*Lay.bS m.aA (size/8)+j:Nat):Int)=c ((9+p.o*Lay.bS m.aA (size/8)+j:Nat):Int)):Holds sec size m c':=by
 have hp:=h.aa;refine⟨(h0 0 (by omega)).trans h.sup,h.dc,h.least,h.log,fun i hi=>(h0 (1+i) (by omega)).trans (h.ring i hi),h.kk,fun r hr hk=>?_,fun r hr hk=>?_⟩
 .have q:=h.da r hr hk;refine⟨q.len,q.can,q.sum,?_⟩;rw[yW (f:=9) (by omega) (vw (show 1<=size/8 by omega)) (h1 r hr hk)];exact q.ws
 .have q:=h.out r hr hk;refine⟨q.ps,fun p hp'=>?_,q.sum⟩;rw[DL (by omega) (h2 r hr hk p hp')];exact q.ws p hp'
theorem EF {c:Cn}{s:Nat}{b:List UInt8}{j:Nat}(hj:9<=j:=by omega):fp c (dF 1 8 s) b (j:Int)=c (j:Int):=by
 have:=rB (f:=1) (n:=8) (s:=s);exact sY _ _
theorem xl.wi {m:Mn}{aa:Nat}{c:Cn}{r:R}(h:xl m aa c r)(hp:1<=aa)(s:Nat)(b:List UInt8):xl m aa (fp c (dF 1 8 s) b) r:=
 ⟨h.len,h.can,h.sum,by rw[yW (f:=9) hp (vw hp) (fun j _=>EF)];exact h.ws⟩
theorem xp.wi {m:Mn}{aa:Nat}{c:Cn}{r:R}(h:xp m aa c r)(hp:1<=aa)(s:Nat)(b:List UInt8):xp m aa (fp c (dF 1 8 s) b) r:=
 ⟨h.ps,fun p hp'=>by rw[DL hp (fun j _=>EF)];exact h.ws p hp',h.sum⟩
theorem Holds.app {sec size:Nat}{m:Mn}{c:Cn}(h:Holds sec size m c){r:R}(hg:r.dc)(hu:r.u32)(hm:iv m.L.getLast? r=true)(hkk:r.kk<=m.aA)
  (hi:2<=r.kd->xl m (size/8) c r) (ho:r.kd=4->xp m (size/8) c r):Holds sec size { m with L:=m.L++[r]} (fp c (dF 1 8 r.s) (r.form size)):=by
 have hp:=h.aa;have hsl:=rB (f:=1) (n:=8) (s:=r.s);have hl:∀ x,(m.L++[r]).getLast? =some x->x=r:=fun x hx=>by
  rw[List.getLast?_append]at hx;have:r=x:=by simpa using hx
  exact this.symm
 refine⟨?_,h.dc,h.least,h.log.snoc hg hu hm,h.ring.wi r,fun x hx=>?_,fun x hx hk=>?_,fun x hx hk=>?_⟩
 .rw[sY _ _];exact h.sup
 .rw[hl x hx];exact hkk
 .obtain rfl:=hl x hx;have q:=(hi hk).wi (show 1<=size/8 by omega) x.s (x.form size);exact⟨q.len,q.can,q.sum,q.ws⟩
 .obtain rfl:=hl x hx;have q:=(ho hk).wi (show 1<=size/8 by omega) x.s (x.form size);exact⟨q.ps,q.ws,q.sum⟩
theorem Holds.target {sec size:Nat}{m:Mn}{c c':Cn}(h:Holds sec size m c){t k:Nat}(hk:k<=m.aA)(ht:∀ r,m.L.getLast? =some r->2<=r.kd->t≠0)
  (ho:∀ r,m.L.getLast? =some r->r.kd=4->∀ p,(cE m (size/8) r)[r.ps.toNat-1]? =some p->t≠p.o) (hs:qO (jd (eY m.aA (size/8) t k)) c c'):Holds sec size m c':=by
 have hp:=h.aa;have hrk:Lay.bS k (size/8)<=Lay.bS m.aA (size/8):=r7 hk;generalize hR:Lay.bS m.aA (size/8)=Rm at hrk;have ext:∀(i j:Nat) (r:R),m.L.getLast? =some r->i≠t->j<Lay.bS r.kk.toNat (size/8)->c' ((9+i*Rm+j:Nat):Int)=c ((9+i*Rm+j:Nat):Int):=fun i j r hr hit hj=>by
  have h1:=h.kk r hr;have h2:=(h.log.last hr).1;have hkr:Lay.bS r.kk.toNat (size/8)<=Rm:=by rw[<- hR];exact r7 (by omega)
  apply hs;unfold jd eY;simp only[hR];rintro⟨a,b⟩;rcases Nat.lt_or_gt_of_ne hit with hlt|hlt
  .have:(i+1)*Rm<=t*Rm:=Nat.mul_le_mul_right _ hlt;rw[Nat.succ_mul]at this;omega
  .have:(t+1)*Rm<=i*Rm:=Nat.mul_le_mul_right _ hlt;rw[Nat.succ_mul]at this;omega
 refine h.Of (fun i hi=>hs _ ?_) (fun r hr hkd j hj=>?_) fun r hr hkd p hp' j hj=>?_
 .unfold jd eY;rintro⟨a,b⟩;have:(0:Int)<=(t*Lay.bS m.aA (size/8):Nat):=Int.natCast_nonneg _;simp only at a;omega
 .have:=ext 0 j r hr (fun e=>ht r hr hkd e.symm) hj;rw[Nat.zero_mul,Nat.add_zero]at this;exact this
 .rw[hR];exact ext p.o j r hr (fun e=>ho r hr hkd p hp' e.symm) hj
def Mn.r (m:Mn):R:=m.L.getLast?.getD eH
theorem Mn.M1 {m:Mn}{r:R}(h:m.L.getLast? =some r):m.r=r:=by unfold Mn.r;rw[h];rfl
theorem Mn.Fu (m:Mn):(m.L=[]/\m.r=eH)\/m.L.getLast? =some m.r:=by
 cases h:m.L.getLast? with
 |none=>exact .inl ⟨List.getLast?_eq_none_iff.1 h,by unfold Mn.r;rw[h];rfl⟩
 |some r=>exact .inr (by rw[Mn.M1 h])
theorem Mn.rm {m:Mn}(h:m.r.kd≠0:=by omega):m.L.getLast? =some m.r:=by
 rcases m.Fu with⟨_,e⟩|e
 .rw[e]at h;exact absurd rfl h
 .exact e
def Mn.add (m:Mn)(r:R):Mn:={ m with L:=m.L++[r]}
theorem Mn.fg (m:Mn)(r:R):(m.add r).r=r:=by unfold Mn.r Mn.add;simp
theorem Mn.BL (m:Mn)(r:R):(m.add r).L.getLast? =some r:=by unfold Mn.add;simp
structure Small (B:Nat)(m:Mn):Prop where
 len:m.L.length<=B
 ld:m.r.ld<=B
theorem Small.add {B:Nat}{m:Mn}(h:Small B m){r:R}(hr:r.ld<=B+1):Small (B+1) (m.add r):=⟨by unfold Mn.add;have:=h.len;simp;omega,by rw[Mn.fg];exact hr⟩
def Mn.seq (m:Mn):Nat:=m.L.length+1
theorem Mn.r9 {sec size:Nat}{m:Mn}{c:Cn}(h:Holds sec size m c):m.r.s+1=m.seq:=by
 rcases m.Fu with⟨e1,e2⟩|e
 .rw[e2];unfold Mn.seq;rw[e1];rfl
 .have:=(h.log.last e).2.2;unfold Mn.seq;omega
def fL (m:Mn)(k:Nat):R:=⟨m.seq,1,k,0,0,m.r.ld+1,0,0⟩
def gX (m:Mn)(k:Nat)(l:List UInt64):R:=⟨m.seq,2,k,0,0,m.r.ld,lT l,0⟩
def eG (m:Mn)(d:Bool):R:=⟨m.seq,3,m.r.kk,if d=true then 1 else 0,0,m.r.ld,m.r.da,0⟩
def dk (m:Mn)(aa:Nat):R:=⟨m.seq,4,m.r.kk,m.r.dir,m.r.ps+1,m.r.ld,m.r.da,lT (pT ((cE m aa m.r).take (m.r.ps.toNat+1)) m.da)⟩
section
variable {sec size : Nat} {m : Mn} {c : Cn} (h : Holds sec size m c) {B : Nat} (hs : Small B m) (hB : B <= 1000000)
include h hs hB
theorem LQ {k:Nat}(hk:k<=m.aA):(fL m k).dc/\(fL m k).u32/\iv m.L.getLast? (fL m k)=true/\Holds sec size (m.add (fL m k)) (fp c (dF 1 8 m.seq) ((fL m k).form size)):=by
 have hg:=gk h.dc;have hl:=hs.len;have hd:=hs.ld;have hsq:m.seq=m.L.length+1:=rfl;have g:(fL m k).dc:=⟨by show 1<=m.seq;omega,by show m.seq<_;omega,by show(0:Int)<=k;omega,by show(k:Int)<=32;omega,.inl rfl,.inl ⟨rfl,rfl,rfl,rfl,rfl⟩⟩;have u:(fL m k).u32:=⟨by show m.r.ld+1<_;omega,by show 0<_;omega,by show 0<_;omega⟩;have may:iv m.L.getLast? (fL m k)=true:=by
  have hsr:=Mn.r9 h;rcases m.Fu with⟨e1,e2⟩|e
  .rw[e1];exact decide_eq_true ⟨by show m.seq=1;rw[hsq,e1];rfl,rfl⟩
  .rw[e];exact decide_eq_true ⟨(h.log.last e).1,g,by show m.seq=_;omega,.inl rfl⟩
 exact⟨g,u,may,h.app g u may (by show(k:Int)<=m.aA;omega) (fun h2=>absurd h2 (show ¬(2:Int)<=1 by omega)) (fun h4=>absurd h4 (show ¬(1:Int)=4 by omega))⟩
theorem K4 {k:Nat}(hk:m.r.kd=1)(hkk:m.r.kk=k){l:List UInt64}(hl:l.length=2^k)(hcan:∀ w∈l,w.toNat<18446744069414584321)(hw:kF c (size/8) 9 (2^k)=l):
  (gX m k l).dc/\(gX m k l).u32/\iv m.L.getLast? (gX m k l)=true/\Holds sec size ({ m with da:=l}.add (gX m k l)) (fp c (dF 1 8 m.seq) ((gX m k l).form size)):=by
 have hg:=gk h.dc;have hlen:=hs.len;have hd:=hs.ld;have hsq:m.seq=m.L.length+1:=rfl;have e:=Mn.rm (m:=m);have hkm:=h.kk _ e;have hm:Holds sec size { m with da:=l} c:=⟨h.sup,h.dc,h.least,h.log,h.ring,h.kk,fun r hr h2=>by
  have e1:m.L.getLast? =some r:=hr;rw[e]at e1;cases e1;omega,fun r hr h4=>by
  have e1:m.L.getLast? =some r:=hr;rw[e]at e1;cases e1;omega⟩
 have g:(gX m k l).dc:=⟨by show 1<=m.seq;omega,by show m.seq<_;omega,by show(0:Int)<=k;omega,by show(k:Int)<=32;omega,.inl rfl,.inr (.inl ⟨rfl,rfl,rfl,rfl⟩)⟩;have u:(gX m k l).u32:=⟨by show m.r.ld<_;omega,DE l,by show 0<_;omega⟩;have may:iv m.L.getLast? (gX m k l)=true:=by
  have hsr:=Mn.r9 h;rw[e];exact decide_eq_true ⟨(h.log.last e).1,g,by show m.seq=_;omega,.inr (.inl ⟨rfl,hk,rfl,hkk⟩)⟩
 exact⟨g,u,may,hm.app g u may (by show(k:Int)<=m.aA;omega) (fun _=>⟨by show l.length=2^((k:Int).toNat);rw[Int.toNat_natCast];exact hl,hcan,rfl,by show kF c _ 9 (2^((k:Int).toNat))=l;rw[Int.toNat_natCast];exact hw⟩) (fun h4=>absurd h4 (show ¬(2:Int)=4 by omega))⟩
theorem LH (hk:2<=m.r.kd)(d:Bool):(eG m d).dc/\(eG m d).u32/\iv m.L.getLast? (eG m d)=true/\Holds sec size (m.add (eG m d)) (fp c (dF 1 8 m.seq) ((eG m d).form size)):=by
 have hg:=gk h.dc;have hlen:=hs.len;have hd:=hs.ld;have hsq:m.seq=m.L.length+1:=rfl;have e:=Mn.rm (m:=m);have hkm:=h.kk _ e;have hr:=h.log.last e;have hi:=h.da _ e hk;have g:(eG m d).dc:=⟨by show 1<=m.seq;omega,by show m.seq<_;omega,hr.1.2.2.1,hr.1.2.2.2.1,by show(if d=true then(1:Int)else 0)=0\/(if d=true then(1:Int)else 0)=1;cases d<;>simp,.inr (.inr (.inl ⟨rfl,rfl⟩))⟩;have u:(eG m d).u32:=⟨by show m.r.ld<_;omega,hr.2.1.da,by show 0<_;omega⟩;have may:iv m.L.getLast? (eG m d)=true:=by
  have hsr:=Mn.r9 h;rw[e];exact decide_eq_true ⟨hr.1,g,by show m.seq=_;omega,.inr (.inr (.inl ⟨rfl,by omega,rfl,rfl,rfl,rfl⟩))⟩
 exact⟨g,u,may,h.app g u may hkm (fun _=>⟨hi.len,hi.can,hi.sum,hi.ws⟩) (fun h4=>absurd h4 (show ¬(3:Int)=4 by omega))⟩
end
theorem kP (d:Bool)(k aa words:Nat):1<=(dz d k aa words).length/\(dz d k aa words).length<=5:=by
 unfold dz qy;split<;>simp
theorem yd (d:Bool)(k aa words:Nat):∀ i p,(dz d k aa words)[i]? =some p->(1<=p.o/\p.o<=3/\p.o≠p.f)/\(i=0->p.f=0)/\∀ q,(dz d k aa words)[i-1]? =some q->1<=i->p.f=q.o:=by
 intro i p hp;unfold dz at hp⊢;split at hp
 .rename_i hb
  rw[if_pos hb];rcases i with _|i
  .cases hp;exact⟨⟨by show 1<=3;omega,by show 3<=3;omega,by show(3:Nat)≠0;omega⟩,fun _=>rfl,fun q _ h=>by omega⟩
  .simp at hp
 .rename_i hb
  rw[if_neg hb];unfold qy at hp⊢;rcases i with _|_|_|_|_|i
  all_goals first|(cases hp;exact⟨⟨by simp,by simp,by simp⟩,fun h=>by first|rfl|omega,fun q hq h=>by first|omega|(cases hq;rfl)⟩)|simp at hp
theorem Am (m:Mn)(aa:Nat)(r q:R)(h1:q.dir=r.dir)(h2:q.kk=r.kk)(x:R):cE (m.add x) aa q=cE m aa r:=by
 unfold cE iN Mn.add;rw[h1,h2]
theorem R.Fo {r:R}(h:r.dc):0<=r.ps:=by
 obtain⟨_,_,_,_,_,h|h|h|h⟩:=h<;>omega
section
variable {sec size : Nat} {m : Mn} {c : Cn} (h : Holds sec size m c) {B : Nat} (hs : Small B m) (hB : B <= 1000000)
include h hs hB
theorem Li (hk:3<=m.r.kd){p:Pz}(hp:(cE m (size/8) m.r)[m.r.ps.toNat]? =some p)(hw:kF c (size/8) (9+p.o*Lay.bS m.aA (size/8)) (2^m.r.kk.toNat)=pT ((cE m (size/8) m.r).take (m.r.ps.toNat+1)) m.da):
  (dk m (size/8)).dc/\(dk m (size/8)).u32/\iv m.L.getLast? (dk m (size/8))=true/\Holds sec size (m.add (dk m (size/8))) (fp c (dF 1 8 m.seq) ((dk m (size/8)).form size)):=by
 have hg:=gk h.dc;have hlen:=hs.len;have hd:=hs.ld;have hsq:m.seq=m.L.length+1:=rfl;have e:=Mn.rm (m:=m);have hkm:=h.kk _ e;have hr:=h.log.last e;have hi:=h.da _ e (by omega);have hps:=R.Fo hr.1;have hlt:=(List.getElem?_eq_some_iff.1 hp).1;have hl5:=(kP (iN m.r) m.r.kk.toNat (size/8) m.aO).2;have hl5:(cE m (size/8) m.r).length<=5:=hl5;have g:(dk m (size/8)).dc:=⟨by show 1<=m.seq;omega,by show m.seq<_;omega,hr.1.2.2.1,hr.1.2.2.2.1,hr.1.2.2.2.2.1,.inr (.inr (.inr ⟨rfl,by show 1<=m.r.ps+1;omega,by show m.r.ps+1<=7;omega⟩))⟩;have u:(dk m (size/8)).u32:=⟨by show m.r.ld<_;omega,hr.2.1.da,DE _⟩;have may:iv m.L.getLast? (dk m (size/8))=true:=by
  have hsr:=Mn.r9 h;rw[e];exact decide_eq_true ⟨hr.1,g,by show m.seq=_;omega,.inr (.inr (.inr ⟨rfl,hk,rfl,rfl,rfl,rfl,rfl⟩))⟩
 have ept:(dk m (size/8)).ps.toNat=m.r.ps.toNat+1:=by show(m.r.ps+1).toNat=_;omega
 have epl:cE m (size/8) (dk m (size/8))=cE m (size/8) m.r:=rfl;refine⟨g,u,may,h.app g u may hkm (fun _=>⟨hi.len,hi.can,hi.sum,hi.ws⟩) fun _=>⟨?_,fun q hq=>?_,?_⟩⟩
 .rw[ept,epl];omega
 .rw[ept,epl,Nat.add_sub_cancel,hp]at hq;cases hq;rw[ept,epl];exact hw
 .rw[ept,epl];rfl
theorem M' (hk:3<=m.r.kd){p:Pz}(hp:(cE m (size/8) m.r)[m.r.ps.toNat]? =some p):
  kF c (size/8) (9+p.f*Lay.bS m.aA (size/8)) (2^m.r.kk.toNat)=pT ((cE m (size/8) m.r).take m.r.ps.toNat) m.da/\(if m.r.ps=0 then m.r.da else m.r.out)=lT (pT ((cE m (size/8) m.r).take m.r.ps.toNat) m.da)/\
  (∀ q,m.r.kd=4->(cE m (size/8) m.r)[m.r.ps.toNat-1]? =some q->p.o≠q.o):=by
 have e:=Mn.rm (m:=m);have hr:=h.log.last e;have hi:=h.da _ e (by omega);have ends:=yd (iN m.r) m.r.kk.toNat (size/8) m.aO _ p hp;have hps:=R.Fo hr.1;have h4:m.r.kd=3/\m.r.ps=0\/m.r.kd=4/\1<=m.r.ps:=by
  obtain⟨_,_,_,_,_,h|h|h|h⟩:=hr.1<;>omega
 rcases h4 with⟨k3,p0⟩|⟨k4,p1⟩
 .have:m.r.ps.toNat=0:=by omega
  rw[this]at ends hp⊢;rw[ends.2.1 rfl,Nat.zero_mul,Nat.add_zero,if_pos p0];refine⟨hi.ws,hi.sum,fun q hq=>by omega⟩
 .have ho:=h.out _ e k4;have hlt:=(List.getElem?_eq_some_iff.1 hp).1;have hq:(cE m (size/8) m.r)[m.r.ps.toNat-1]? =some (cE m (size/8) m.r)[m.r.ps.toNat-1]:=List.getElem?_eq_getElem (by omega);have hf:=ends.2.2 _ hq (by omega);rw[if_neg (by omega),hf];refine⟨ho.ws _ hq,ho.sum,fun q _ hq'=>?_⟩;rw[hq]at hq';cases hq';rw[<- hf];exact ends.1.2.2
end
end Eng
namespace Str
open Go Go.Hw Go.Form W Dsk Are
section
variable {p q dp ap bp bq bt b rb mb : Nat} {d : D} {x y : X} {cap aj : Int} {bufs : List (Nat × Nat × Option Addr)} {ws : List UInt64}
end
structure JS (d d':D)(x y:X)(i k:Nat):Prop where
 ok:Ok d'
 calm:Calm d'
 size:d'.size=d.size
 sec:d'.sec=d.sec
 rd:d'.rd<=d.rd+1000*i
 wr:d'.wr<=d.wr+1000*i
 src:∀ j,j<x.w->pw d' x j=pw d x j
 dst:∀ j,j<k->pw d' y j=pw d x j
theorem JS.aa {d d':D}{x y:X}{i k:Nat}(h:JS d d' x y i k):D.aa d'=D.aa d:=by unfold D.aa;rw[h.size]
theorem xh {P:Program}{g:FuncId}{t:TypeId}{k:IntKind}{n:Int}{K:Value->Prop}(h:fj P g=[t])(hu:P.underlying t=some (.int k))(hk:K (.int k n)):DR P (fj P g) (.int k n) K:=by
 rw[h];show DT P t _ K
 unfold DT;rw[hu];simpa using hk
section
variable {p q dp ap bp bq bt b rb mb vb : Nat} {d : D} {x y : X} {cap aj P1 : Int} {bufs : List (Nat × Nat × Option Addr)}
theorem Lb {aa left:Nat}{l:Int}(h:l=left):(if(aa:Int)<l then(aa:Int)else l)=((if aa<left then aa else left:Nat):Int):=by
 subst h;by_cases c:aa<left
 .rw[if_pos c,if_pos (by omega)]
 .rw[if_neg c,if_neg (by omega)]
end
section
variable {p q dp ap : Nat} {d : D} {x y : X} {cap aj : Int} {bufs : List (Nat × Nat × Option Addr)}
end
theorem NS (a b c d e:Value):((#[]++ #[a,b,c])++ #[d,e]:Array Value)=#[a,b,c,d,e]:=rfl
section
variable {p dp ap bp : Nat} {d : D} {x : X} {cap aj : Int} {bufs : List (Nat × Nat × Option Addr)} {B : As}
def xG (p dp ap bp b rb mb vb:Nat)(d:D)(x:X)(cap pk:Int)(bufs:List (Nat×Nat×OA))(aa:Nat)(ws:List UInt64)(B:As):List As:=
 [af p (bh dp ap x),Dk dp d,Ar ap cap pk (bufs++[(b,aa,some (O rb))]),af rb (.row (ah ws) 108 mb),af bp (Oq #[V p] 270),B,af vb (.row [V b] 331 1)]
theorem C0 (K:VK)(f:FuncId)(C:Array Value)(hok:Ok d)(hcap:(D.aa d:Int)<=cap-bf bufs){H:Hp}
  (hs:Sep [af p (bh dp ap x),Dk dp d,Ar ap cap aj bufs,af bp (Oq #[V p] 270),B] H)
  (k:∀ b rb vb H,(∀ z∈bufs,z.1≠b)->Sep (xG p dp ap bp b rb (D.aa d) vb d x cap (mx aj (bf bufs+D.aa d)) bufs (D.aa d) (List.replicate (D.aa d) 0) B) H->
   ∃ t,bk.l6 K t (Oo p) f #[] C (Oo b) 0 (x.w:Int) (x.f:Int) (Oo ap) (Oo vb) 1 1 H):
  ae prog 233 #[V p,.func (.func f) #[] C] H K:=by
 have hp:=Ok.eB hok;apply bk.ok;unfold bk;simp only[HS];have rest:∀(b rb:Nat) (H:Hp),(∀ y∈bufs,y.1≠b)->Sep [Ar ap cap (if bf bufs+D.aa d>aj then bf bufs+D.aa d else aj) (bufs++[(b,D.aa d,some (O rb))]),af rb (.row (eK (D.aa d)) 108 (D.aa d)),af p (bh dp ap x),Dk dp d,af bp (Oq #[V p] 270),B] H->
   bk.j2 K (Oo p) f #[] C (Oo b) 0 H:=fun b rb H hbm hs=>by
  unfold bk.j2;refine aH rfl ?_;simp only[HS];refine hs.ld 2 rfl rfl ?_;simp only[HV];refine hs.nw fun vb H hs=>?_
  refine bN.use (ph hs 2 rfl) ?_;simp only[HV];refine hs.ld 2 rfl rfl ?_;simp only[HV];have hz:eK (D.aa d)=ah (List.replicate (D.aa d) 0):=by
   unfold eK;rw[fm];unfold ah;rw[List.map_replicate];rfl
  rw[hz]at hs;exact k b rb vb H hbm (hs.re [2,3,0,1,4,5,6] rfl)
 have fresh:∀{L:List As} {H:Hp} (b rb:Nat) (pk:Int),Sep L H->L[0]? =some (Ar ap cap pk (bufs++[(b,D.aa d,some (O rb))]))->∀ y∈bufs,y.1≠b:=fun b rb pk hs h0 y hy e=>by
  obtain⟨mp,cl,tk,hA⟩:=Sep.ar hs 0 h0;have:=hA.bn;rw[List.map_append,List.nodup_append]at this;exact this.2.2 y.1 (List.mem_map_of_mem hy) b (by simp) e
 refine⟨?_,?_⟩
 .refine hs.ld 0 rfl rfl ?_;simp only[HV];refine ae.use (mH hs 0 1 rfl rfl hok) ?_
  try simp only[HV]
  refine(ml (a:=ap) (cap:=cap) (aj:=aj) (bufs:=bufs) (n:=D.aa d) (by omega) hcap).use hs [2] rfl rfl ?_;rintro _ _ H ⟨b,rb,rfl,rfl⟩ hs;simp only[HV];exact rest b rb H (fresh b rb _ hs rfl) hs
 .refine ae.use (mH hs 0 1 rfl rfl hok) ?_
  try simp only[HV]
  refine hs.ld 0 rfl rfl ?_;simp only[HV];refine(ml (a:=ap) (cap:=cap) (aj:=aj) (bufs:=bufs) (n:=D.aa d) (by omega) hcap).use hs [2] rfl rfl ?_;rintro _ _ H ⟨b,rb,rfl,rfl⟩ hs;simp only[HV];exact rest b rb H (fresh b rb _ hs rfl) hs
end
section
variable {p dp ap bp bw b rb mb : Nat} {d : D} {x : X} {cap aj : Int} {bufs : List (Nat × Nat × Option Addr)}
end
section
variable {p dp ap bp bw b rb mb vb : Nat} {d : D} {x : X} {cap aj pk : Int} {bufs : List (Nat × Nat × Option Addr)}
end
section
variable {p dp ap bp bc b rb mb vb : Nat} {d : D} {x : X} {cap aj pk : Int} {bufs : List (Nat × Nat × Option Addr)}
def sD (bc:Nat)(ws:List UInt64):As:=af bc (CrcP.counter (Go.Crc.sum (form ws)) (8*ws.length))
def Jz (bp bc:Nat):Array Value:=#[V bp,V bc]
end
def nS (aa w:Nat):Nat:=(w+aa-1)/aa
theorem J9 {aa w i:Nat}(hp:1<=aa:=by omega):i<nS aa w↔i*aa<w:=by
 unfold nS;rw[Nat.lt_iff_add_one_le,Nat.le_div_iff_mul_le (by omega),Nat.succ_mul];omega
section
variable {p dp ap bp bc b rb mb vb : Nat} {d : D} {x : X} {cap aj pk : Int} {bufs : List (Nat × Nat × Option Addr)}
theorem Mh {ws pre:List UInt64}(hok:Ok d)(hl:d.down=false)(ho:d.rd<=4611685000000000000)(s n:Nat)(hs1:s<d.sec)(hn2:n<=D.aa d)(hpre:pre.length<=1000000000)
  (hbm:(b,D.aa d,some (O rb))∈bufs) (hws:ws.length=D.aa d):
  Tr prog 234 #[I s,I n,V b,V bp,V bc]
   [af p (bh dp ap x),Dk dp d,Ar ap cap aj bufs,af rb (.row (ah ws) 108 mb),af bp (Oq #[V p] 270),sD bc pre] fun v M=>
   (d.aI≠1/\v= I 0/\M=[af p (bh dp ap x),Dk dp (D.mr d),Ar ap cap aj bufs,af rb (.row (ah (dr (d.now s))) 108 mb),af bp (Oq #[V p] 270),sD bc (pre++(dr (d.now s)).take n)])\/
   (d.aI=1/\v= I 8/\M=[af p (bh dp ap x),Dk dp (D.dead d),Ar ap cap aj bufs,af rb (.row (ah ws) 108 mb),af bp (Oq #[V p] 270),sD bc pre]):=fun H hs=>by
 have hp:=Ok.eB hok;have hwl:(dr (d.now (s:Int))).length=D.aa d:=by rw[ja,hok.now];rfl
 have htl:((dr (d.now (s:Int))).take n).length=n:=by rw[List.length_take];omega
 apply jr.ok;unfold jr
 try simp only[HS]
 refine hs.ld 4 rfl rfl ?_;simp only[HV]
 try simp only[HS]
 refine(B9 (p:=p) (ap:=ap) (x:=x) (cap:=cap) (aj:=aj) (b:=b) (rb:=rb) (m:=mb) hok hl (by omega) (s:Int) (Int.natCast_nonneg _) (Int.ofNat_lt.2 hs1) hbm (xs:=ah ws) (by rw[aG];exact hws)).use hs [0,1,2,3] rfl rfl ?_;rintro _ _ H (⟨hf,rfl,rfl⟩|⟨hf,rfl,rfl⟩) hs
 .simp only[HV];refine aL rfl ?_;refine ae.use (lz hs 2 rfl hbm) ?_;simp only[HV];refine yy rfl (by omega) ?_;rw[CD,Nat.sub_zero,Nat.sub_zero];have hcell:Cells H (Oo rb) (ah ((dr (d.now (s:Int))).take n)):=by
   have:=Cells.row (hs.get 3 (b:=rb) (o:=.row (ah (dr (d.now (s:Int)))) 108 mb) rfl) 0 n;rw[List.drop_zero]at this;rw[show ah ((dr (d.now (s:Int))).take n)=(ah (dr (d.now (s:Int)))).take n by unfold ah;rw[List.map_take]];exact this
  have hs:Sep [af p (bh dp ap x),Dk dp (D.mr d),Ar ap cap aj bufs,af rb (.row (ah (dr (d.now (s:Int)))) 108 mb),af bp (Oq #[V p] 270),af bc (CrcP.counter (Go.Crc.sum (form pre)) (8*pre.length))] H:=hs;refine ae.use (CrcP.CV bc (Go.Crc.sum (form pre)) (8*pre.length) (Oo rb) n (D.aa d) ((dr (d.now (s:Int))).take n) htl.symm H (hs.get 5 rfl) hcell (by omega) (by omega)) ?_;have hs2:=hs.put 5 (CrcP.counter (Go.Crc.more (Go.Crc.sum (form pre)) (form ((dr (d.now (s:Int))).take n))) (8*pre.length+8*n)) rfl;refine⟨_,.inl ⟨hf,by first|rfl|trivial,rfl⟩,?_⟩;have e:sD bc (pre++(dr (d.now (s:Int))).take n)=af bc (CrcP.counter (Go.Crc.more (Go.Crc.sum (form pre)) (form ((dr (d.now (s:Int))).take n))) (8*pre.length+8*n)):=by
   unfold sD;rw[List.length_append,htl,Nat.mul_add];have:form (pre++(dr (d.now (s:Int))).take n)=form pre++form ((dr (d.now (s:Int))).take n):=by unfold form;rw[List.flatMap_append]
   rw[this];unfold Go.Crc.sum;rw[Go.Crc.sq]
  rw[e];exact hs2
 .simp only[HV];refine aK (by decide) ?_;exact⟨_,.inr ⟨hf,by first|rfl|trivial,rfl⟩,hs⟩
def JA (p dp ap:Nat)(d:D)(x:X)(cap pk:Int)(bufs:List (Nat×Nat×OA))(v:Value)(M:List As):Prop:=
 ((d.aI=0\/nS (D.aa d) x.w<d.aI)/\v= .tuple #[Ot ((Go.Crc.sum (form (dV d x 0 x.w))).toNat:Int),I 0]/\M=[af p (bh dp ap x),Dk dp (D.bO d (nS (D.aa d) x.w)),Ar ap cap pk bufs])\/
 (∃ j,j<nS (D.aa d) x.w/\d.aI=j+1/\v= .tuple #[Ot 0,I 8]/\M=[af p (bh dp ap x),Dk dp (D.dead (D.bO d j)),Ar ap cap pk bufs])
theorem E5 (K:VK)(hok:Ok d)(hl:d.down=false)(hbm:∀ z∈bufs,z.1≠b)(hx:On d x)(ho:d.rd<=3000000000000000000)
  (hK:∀ H,(d.aI=0\/nS (D.aa d) x.w<d.aI)->Sep [af p (bh dp ap x),Dk dp (D.bO d (nS (D.aa d) x.w)),Ar ap cap pk bufs,sD bc (dV d x 0 x.w)] H->K (I 0) H)
  (hD:∀ j H pre,j<nS (D.aa d) x.w->d.aI=j+1->Sep [af p (bh dp ap x),Dk dp (D.dead (D.bO d j)),Ar ap cap pk bufs,sD bc pre] H->K (I 8) H):
  ∀(t i:Nat) (ws:List UInt64) (H:Hp),x.w<=(i+t)*D.aa d->i<=nS (D.aa d) x.w->(d.aI=0\/i<d.aI)->ws.length=D.aa d->
   Sep (xG p dp ap bp b rb mb vb (D.bO d i) x cap pk bufs (D.aa d) ws (sD bc (dV d x 0 (if i*D.aa d<x.w then i*D.aa d else x.w)))) H->
   bk.l6 K (t+2) (Oo p) 234 #[] (Jz bp bc) (Oo b) 0 ((x.w:Int)-((i*D.aa d:Nat):Int)) ((x.f+i:Nat):Int) (Oo ap) (Oo vb) 1 1 H:=fun t=>by
 have hp:=Ok.eB hok;have hsec:=hok.sec;have hroom:x.s*D.aa d<=1048576*512:=Nat.mul_le_mul (by have:=hx.fit;omega) (by omega);have h4:=hx.room;have hw1:=hx.w1;have hfit:=hx.fit;have fin:∀(i:Nat) (ws:List UInt64) (H:Hp),x.w<=i*D.aa d->i<=nS (D.aa d) x.w->(d.aI=0\/i<d.aI)->Sep (xG p dp ap bp b rb mb vb (D.bO d i) x cap pk bufs (D.aa d) ws (sD bc (dV d x 0 (if i*D.aa d<x.w then i*D.aa d else x.w)))) H->
   dJ prog 257 #[V ap,.slice (Oo vb) 1 1] H fun _ H9=>K (I 0) H9:=fun i ws H hi hie hfu hs=>by
  have e:i=nS (D.aa d) x.w:=by
   rcases Nat.lt_or_ge i (nS (D.aa d) x.w)with h|h
   .have:=(J9).1 h;omega
   .omega
  rw[if_neg (by omega)]at hs;unfold xG at hs;refine(gP vb b (D.aa d) (Oo rb) hbm).use hs [2,6] rfl rfl ?_;rintro _ _ H ⟨rfl,rfl⟩ hs;subst e;exact hK H hfu (hs.re [1,2,0,5] rfl)
 induction t with
 |zero=>
  intro i ws H hi hie hfu hws hs;rw[Nat.add_zero]at hi;unfold bk.l6;exact aw (by omega) (fin i ws H hi hie hfu hs)
 |succ t ih=>
  intro i ws H hi hie hfu hws hs;by_cases hlt:i*D.aa d<x.w
  .have his:i<x.s:=by
    apply Nat.lt_of_mul_lt_mul_right (a:=D.aa d);omega
   have hin:=(J9 (aa:=D.aa d) (w:=x.w) (i:=i)).2 hlt;have hokj:=Ok.bO hok i;have hlj:(D.bO d i).down=false:=hl;generalize hnv:(if D.aa d<x.w-i*D.aa d then D.aa d else x.w-i*D.aa d)=n;have hn1:1<=n/\n<=D.aa d/\i*D.aa d+n<=x.w:=by rw[<- hnv];split<;>omega
   rw[if_pos hlt]at hs;unfold xG at hs;unfold bk.l6;refine aC (by omega) (aL rfl ?_)
   try simp only[HS]
   refine ae.use (mH hs 0 1 rfl rfl hokj) ?_
   try simp only[HV]
   rw[show D.aa (D.bO d i)=D.aa d from rfl];refine cV (by kernel_rfl) ?_;unfold Jz;rw[NS,Lb (left:=x.w-i*D.aa d) (by omega),hnv];have hs1:x.f+i<(D.bO d i).sec:=by show _<d.sec;omega
   have ho1:(D.bO d i).rd<=4611685000000000000:=by show d.rd+i<=_;omega
   have hpl:(dV d x 0 (i*D.aa d)).length<=1000000000:=by rw[kK];omega
   refine(Mh (p:=p) (dp:=dp) (ap:=ap) (bp:=bp) (bc:=bc) (b:=b) (rb:=rb) (mb:=mb) (d:=D.bO d i) (x:=x) (cap:=cap) (aj:=pk) (bufs:=bufs++[(b,D.aa d,some (O rb))]) (ws:=ws) (pre:=dV d x 0 (i*D.aa d)) hokj hlj ho1 (x.f+i) n hs1 hn1.2.1 hpl (List.mem_append_right _ (List.mem_singleton.2 rfl)) hws).use hs [0,1,2,3,4,5] rfl rfl ?_;have hwl:(dr (d.now ((x.f+i:Nat):Int))).length=D.aa d:=by rw[ja,hok.now];rfl
   have e1:i64.wrap ((x.w:Int)-((i*D.aa d:Nat):Int)-(D.aa d:Int))=(x.w:Int)-(((i+1)*D.aa d:Nat):Int):=by
    rw[bu,Nat.succ_mul];omega
   have e2:i64.wrap (((x.f+i:Nat):Int)+1)=((x.f+(i+1):Nat):Int):=by
    rw[bu];omega
   rintro _ _ H (⟨hf,rfl,rfl⟩|⟨hf,rfl,rfl⟩) hs
   .refine xh (t:=63) (by kernel_rfl) (by kernel_rfl) ?_;rw[Cs]at hs;simp only[HV];refine ae.use (mH hs 0 1 rfl rfl (Ok.bO hok (i+1))) ?_
    try simp only[HV]
    rw[show D.aa (D.bO d (i+1))=D.aa d from rfl,e1,e2];have hnext:i*D.aa d+n=(if(i+1)*D.aa d<x.w then(i+1)*D.aa d else x.w):=by
     rw[Nat.succ_mul,<-hnv];split<;>split<;>omega
    have hpc:(dr (d.now ((x.f+i:Nat):Int))).take n=dV d x (i*D.aa d) n:=by
     have:=vU hok x (fr:=i*D.aa d) (k:=n) (by rw[Nat.mul_mod_left];omega);rw[Nat.mul_div_cancel _ (by omega),Nat.mul_mod_left,List.drop_zero]at this;exact this
    have hpa:dV d x 0 (i*D.aa d)++(dr (d.now ((x.f+i:Nat):Int))).take n=dV d x 0 (i*D.aa d+n):=by
     rw[D8,Nat.zero_add,hpc]
    have hf':d.aI-i≠1:=hf;refine ih (i+1) (dr (d.now ((x.f+i:Nat):Int))) H (by rw[show i+1+t=i+(t+1) by omega];exact hi) (by omega) (by omega) hwl ?_;rw[<- hnext,<-hpa];exact hs
   .refine xh (t:=63) (by kernel_rfl) (by kernel_rfl) ?_;simp only[HV];have hf':d.aI-i=1:=hf;have hokd:Ok (D.dead (D.bO d i)):=Ok.dead hokj;refine ae.use (mH hs 0 1 rfl rfl hokd) ?_
    try simp only[HV]
    rw[show D.aa (D.dead (D.bO d i))=D.aa d from rfl,e1,e2];unfold bk.l6;have give:dJ prog 257 #[V ap,.slice (Oo vb) 1 1] H fun _ H9=>K (I 8) H9:=by
     refine(gP vb b (D.aa d) (Oo rb) hbm).use hs [2,6] rfl rfl ?_;rintro _ _ H ⟨rfl,rfl⟩ hs;exact hD i H _ hin (by omega) (hs.re [1,2,0,5] rfl)
    by_cases hgt:(x.w:Int)-(((i+1)*D.aa d:Nat):Int)>0
    .exact aC hgt (aK (by decide) give)
    .exact aw hgt give
  .unfold bk.l6;exact aw (by omega) (fin i ws H (by omega) hie hfu hs)
theorem yQ (hok:Ok d)(hl:d.down=false)(hx:On d x)(ho:d.rd<=3000000000000000000)(hcap:(D.aa d:Int)<=cap-bf bufs):
  Tr prog 166 #[V p] [af p (bh dp ap x),Dk dp d,Ar ap cap aj bufs] (JA p dp ap d x cap (mx aj (bf bufs+D.aa d)) bufs):=fun H hs=>by
 have hp:=Ok.eB hok;apply kx.ok;unfold kx;refine hs.nw fun bp H hs=>?_
 refine hs.nw fun bc H hs=>?_
 refine hs.ld 3 rfl rfl ?_;simp only[HV];have h0:sD bc []=af bc (Oq #[Ot 0,I 0] 329):=by
  unfold sD CrcP.counter;rfl
 have hs:Sep [af p (bh dp ap x),Dk dp d,Ar ap cap aj bufs,af bp (Oq #[V p] 270),sD bc []] H:=by rw[h0];exact hs
 refine C0 (aj:=aj) (bufs:=bufs) (cap:=cap) (B:=sD bc []) _ 234 (Jz bp bc) hok hcap hs fun b rb vb H hbm hs=>?_
 have e9:(x.w:Int)-((0*D.aa d:Nat):Int)=x.w:=by rw[Nat.zero_mul];omega
 have e0:(if 0*D.aa d<x.w then 0*D.aa d else x.w)=0:=by rw[Nat.zero_mul,if_pos (show 0<x.w from hx.w1)]
 refine⟨x.w+2,?_⟩;have t:=E5 (p:=p) (dp:=dp) (ap:=ap) (bp:=bp) (bc:=bc) (b:=b) (rb:=rb) (mb:=D.aa d) (vb:=vb) (d:=d) (x:=x) (cap:=cap) (pk:=mx aj (bf bufs+D.aa d)) (bufs:=bufs)
  (fun v2 H3=>DI .i64 v2 fun x1=>ao (x1 !=(0:Int)) (∃ M,JA p dp ap d x cap (mx aj (bf bufs+D.aa d)) bufs (.tuple #[Ot 0,I x1]:Value) M/\Sep M H3)
   (ae prog 238 #[.pointer (some (O bc))] H3 fun v3 H4=>DI .u32 v3 fun x2=>∃ M,JA p dp ap d x cap (mx aj (bf bufs+D.aa d)) bufs (.tuple #[Ot x2,I 0]:Value) M/\Sep M H4))
  hok hl hbm hx ho (fun H hfu hs=>by
   simp only[HV];refine aH rfl ?_;have hs:Sep [af p (bh dp ap x),Dk dp (D.bO d (nS (D.aa d) x.w)),Ar ap cap (mx aj (bf bufs+D.aa d)) bufs,af bc (CrcP.counter (Go.Crc.sum (form (dV d x 0 x.w))) (8*(dV d x 0 x.w).length))] H:=hs;refine ae.use (CrcP.Ky bc _ _ H (hs.get 3 rfl)) ?_
   try simp only[HV]
   exact⟨_,.inl ⟨hfu,rfl,rfl⟩,hs.re [0,1,2] rfl⟩) (fun j H pre hj hfu hs=>by
   simp only[HV];refine aT (by decide) ?_;exact⟨_,.inr ⟨j,hj,hfu,rfl,rfl⟩,hs.re [0,1,2] rfl⟩) x.w 0 (List.replicate (D.aa d) 0) H (by rw[Nat.zero_add];exact Nat.le_mul_of_pos_right _ (by omega)) (Nat.zero_le _) (by omega) (by simp)
 rw[e0,e9]at t;exact t hs
end
end Str
namespace W
open Go Go.Hw
theorem j0 :prog.follows .mixedOrders=true:=by kernel_rfl
def om (A1:OA)(n1 m1:Nat)(x1:Int)(H:Hp)(K:VK):Prop:=
 Hz 147 #[I (n1:Int)] H fun v1 H1=>sf v1 fun x2 c1=>(ao (!c1) (K (.tuple #[I 0,I 0,I 4]) H1) (ao (decide (x2>x1)) (K (.tuple #[I 0,I 0,I 14]) H1) (Hz 146 #[.slice A1 n1 m1] H1 fun v4 H2=>sf v4 fun x3 c2=>(ao (!c2) (K (.tuple #[I 0,I x3,I 3]) H2) (K (.tuple #[I x2,I 0,I 0]) H2)))))
theorem om.ok A1 n1 m1 x1 H K (h:om A1 n1 m1 x1 H K):ae prog 131 #[.slice A1 n1 m1,I x1] H K:=
 cg j0 Tryz.func131 rfl rfl h
def nr (x1 x2 x3 x4:Int)(H:Hp)(K:VK):Prop:=
 fS 196 #[I x1,I x3] H fun c1 H1=>ao (!c1) (K (.tuple #[.slice none 0 0,I 1]) H1) (ao (decide (x2<0)) (K (.tuple #[.slice none 0 0,I 18]) H1) (ao (decide (x2>1)) (K (.tuple #[.slice none 0 0,I 18]) H1) (cF 197 #[I x1,I x3] H1 fun x5 H2=>ao (decide (x4<x5)) (K (.tuple #[.slice none 0 0,I 6]) H2) (fS 198 #[I x1,I x3,I x4] H2 fun c2 H3=>ao c2 (ao (decide (x1<=(20:Int))) ((0<=(u64.wrap x1)/\fe 200 #[I x1,I x2] H3 fun x6 H4=>qg 199 #[.agg #[I 1,I (dA .i64 1 (u64.wrap x1))],I 0,I 3,I x2,I (-1),U x6] H4 fun y1 H5=>kR y1.toList fun x7 x8 x9 x10 x11 x12 x13 x14=>(Nw H5 (.row [I x7,I x8,I x9,I x10,U x11,I x12,I x13,I x14] 221 8) fun b1 H6=>K (.tuple #[.slice (Oo b1) 1 1,I 0]) H6))) (jF 201 #[I x1,I x2] H3 fun A1 n1 m1 H7=>K (.tuple #[.slice A1 n1 m1,I 0]) H7)) (jF 201 #[I x1,I x2] H3 fun A2 n2 m2 H8=>K (.tuple #[.slice A2 n2 m2,I 0]) H8)))))
theorem nr.ok x1 x2 x3 x4 H K (h:nr x1 x2 x3 x4 H K):ae prog 144 #[I x1,I x2,I x3,I x4] H K:=
 cg j0 Tryz.func144 rfl rfl h
def oo (x1 x2:Int)(H:Hp)(K:VK):Prop:=
 fS 196 #[I x1,I x2] H fun c1 H1=>ao (!c1) (K (.tuple #[I 0,I 1]) H1) (cF 197 #[I x1,I x2] H1 fun x3 H2=>K (.tuple #[I x3,I 0]) H2)
theorem oo.ok x1 x2 H K (h:oo x1 x2 H K):ae prog 182 #[I x1,I x2] H K:=
 cg j0 Tryz.func182 rfl rfl h
def py (x1 x2:Int)(H:Hp)(K:VK):Prop:=
 ao (decide (x1>=0)) (ao (decide (x1<=(32:Int))) (ao (decide (x2>=4)) (ao (decide (x2<=(512:Int))) (K (.bool ((cU .i64 x2 (i64.wrap (x2-1)))==0)) H) (K (.bool false) H)) (K (.bool false) H)) (K (.bool false) H)) (K (.bool false) H)
theorem py.ok x1 x2 H K (h:py x1 x2 H K):ae prog 196 #[I x1,I x2] H K:=
 cg j0 Tryz.func196 rfl rfl h
def ou (x1 x2:Int)(H:Hp)(K:VK):Prop:=
 ((2:Int)≠0/\i64=i64/\(0<=(u64.wrap (i64.wrap (Int.tdiv (i64.wrap (x1+1)) 2)))/\K (I (i64.wrap ((dA .i64 2 (u64.wrap (i64.wrap (Int.tdiv (i64.wrap (x1+1)) 2))))+x2))) H))
theorem ou.ok x1 x2 H K (h:ou x1 x2 H K):ae prog 197 #[I x1,I x2] H K:=
 cg j0 Tryz.func197 rfl rfl h
def oq (x1 x2 x3:Int)(H:Hp)(K:VK):Prop:=
 fS 196 #[I x1,I x2] H fun c1 H1=>ao c1 ((0<=(u64.wrap x1)/\K (.bool (decide ((i64.wrap ((dA .i64 2 (u64.wrap x1))+x2))<=x3))) H1)) (K (.bool false) H1)
theorem oq.ok x1 x2 x3 H K (h:oq x1 x2 x3 H K):ae prog 198 #[I x1,I x2,I x3] H K:=
 cg j0 Tryz.func198 rfl rfl h
def nt (x1 x2 x3 x4 x5 x6 x7:Int)(H:Hp)(K:VK):Prop:=
 Nw H (Oq #[I x1,I x2] 217) fun b1 H1=>Nw H1 (Oq #[I 0,I 0,I 0,I 0,U 0,I 0,I 0,I 0] 221) fun b2 H2=>aJ H2 (O b1) 2 fun l1=>tc l1.toArray.toList fun x8 x9=>(bR H2 (O b2) #[I x8,I x9,I x5,I x6,U x7,I 2,I x3,I x4] 8 fun H3=>aJ H3 (O b2) 8 fun l4=>K (.agg l4.toArray) H3)
theorem nt.ok x1 x2 x3 x4 x5 x6 x7 H K (h:nt x1 x2 x3 x4 x5 x6 x7 H K):ae prog 199 #[.agg #[I x1,I x2],I x3,I x4,I x5,I x6,U x7] H K:=
 cg j0 Tryz.func199 rfl rfl h
def ov (x1 x2:Int)(H:Hp)(K:VK):Prop:=
 ao (x2==0) (K (U 1) H) (Hz 118 #[I x1] H fun v1 H1=>pZ v1 fun x3 x4=>(K (U x3) H1))
theorem ov.ok x1 x2 H K (h:ov x1 x2 H K):ae prog 200 #[I x1,I x2] H K:=
 cg j0 Tryz.func200 rfl rfl h
def pA (x1 x2:Int)(H:Hp)(K:VK):Prop:=
 Hz 263 #[I x1] H fun v1 H1=>o5 v1 fun y1 x3=>(Nw H1 (Oq #[I 0,I 0] 217) fun b1 H2=>bR H2 (O b1) y1 2 fun H3=>aJ H3 (O b1) 2 fun l4=>qg 264 #[.agg l4.toArray] H3 fun y2 H4=>Nw H4 (Oq #[I 0,I 0] 217) fun b2 H5=>bR H5 (O b2) y2 2 fun H6=>aJ H6 (O b1) 2 fun l5=>Ds 265 #[.agg l5.toArray,I 0,I 1] H6 fun y3=>aJ H6 (O b2) 2 fun l6=>Ds 199 #[.agg l6.toArray,I 1,I 2,I x2,I x1,U 1] H6 fun y4=>aJ H6 (O b2) 2 fun l7=>Ds 265 #[.agg l7.toArray,I 2,I 1] H6 fun y5=>aJ H6 (O b1) 2 fun l8=>tN 200 #[I x1,I x2] H6 fun x4=>Ds 199 #[.agg l8.toArray,I 1,I 2,I x2,I (-1),U x4] H6 fun y6=>aJ H6 (O b1) 2 fun l9=>Ds 265 #[.agg l9.toArray,I 2,I 3] H6 fun y7=>kR y3.toList fun x5 x6 x7 x8 x9 x10 x11 x12=>(kR y4.toList fun x13 x14 x15 x16 x17 x18 x19 x20=>(kR y5.toList fun x21 x22 x23 x24 x25 x26 x27 x28=>(kR y6.toList fun x29 x30 x31 x32 x33 x34 x35 x36=>(kR y7.toList fun x37 x38 x39 x40 x41 x42 x43 x44=>(Nw H6 (.row [I x5,I x6,I x7,I x8,U x9,I x10,I x11,I x12,I x13,I x14,I x15,I x16,U x17,I x18,I x19,I x20,I x21,I x22,I x23,I x24,U x25,I x26,I x27,I x28,I x29,I x30,I x31,I x32,U x33,I x34,I x35,I x36,I x37,I x38,I x39,I x40,U x41,I x42,I x43,I x44] 221 40) fun b3 H7=>K (.slice (Oo b3) 5 5) H7))))))
theorem pA.ok x1 x2 H K (h:pA x1 x2 H K):ae prog 201 #[I x1,I x2] H K:=
 mY (fun i=>match Nat.beq i 3 with|true=>some ([],[0,1,2,3,4,5,6,7,8,9,10,11,12,13,14,15],16)|false=>none) j0 Tryz.func201 rfl rfl h
def pB (x1 x2 x3 x4:Int)(H:Hp)(K:VK):Prop:=
 Nw H (Oq #[I x1,I x2] 217) fun b1 H1=>Nw H1 (Oq #[I 0,I 0,I 0,I 0,U 0,I 0,I 0,I 0] 221) fun b2 H2=>aJ H2 (O b1) 2 fun l1=>tc l1.toArray.toList fun x5 x6=>(bR H2 (O b2) #[I x5,I x6,I 0,I (-1),U 1,I 1,I x3,I x4] 8 fun H3=>aJ H3 (O b2) 8 fun l4=>K (.agg l4.toArray) H3)
theorem pB.ok x1 x2 x3 x4 H K (h:pB x1 x2 x3 x4 H K):ae prog 265 #[.agg #[I x1,I x2],I x3,I x4] H K:=
 cg j0 Tryz.func265 rfl rfl h
end W
namespace Pln
open Go Go.Hw W Shp Fft Ker Pas Str Dsk Trn
theorem Es :∀ k:Nat,k<61->dA .i64 2 (k:Int)=((2*2^k:Nat):Int):=by decide +kernel
theorem gV {k:Nat}(hk:k<=32:=by omega):2^k<=4294967296:=Nat.pow_le_pow_right (n:=2) (by omega) hk
theorem nU {aa:Nat}(hp:iw (aa:Int)=true):4<=aa/\aa<=512:=by have:=mF hp;omega
section
variable {k aa words : Nat} (hk : k <= 32) (hp : iw (aa : Int) = true)
include hk
theorem B6 (hp:aa<=512)(H:Hp):ae prog 197 #[I (k:Int),I (aa:Int)] H (RetE (I (fB k aa:Int)) H):=by
 have h1:=gV (k:=(k+1)/2);apply ou.ok;unfold ou;rw[bu (x:=(k:Int)+1),show Int.tdiv ((k:Int)+1) 2=(((k+1)/2:Nat):Int)from rfl,ed,fW,Es _ (by omega),bu];refine⟨by decide,by simp,by omega,?_⟩;exact RetE.of (by unfold fB;rw[Int.natCast_add])
include hp
theorem mD (H:Hp):ae prog 196 #[I (k:Int),I (aa:Int)] H (RetE (.bool true) H):=by
 have h:=nU hp;apply py.ok;unfold py;refine aC (by omega) (aC (by omega) (aC (by omega) (aC (by omega) ?_)));rw[(zc (p:=(aa:Int))).2 hp];exact RetE.mk _ _
theorem Iz (H:Hp):ae prog 182 #[I (k:Int),I (aa:Int)] H (RetE (.tuple #[I (fB k aa:Int),I 0]) H):=by
 have h:=nU hp;apply oo.ok;unfold oo;refine ae.use (mD hk hp H) ?_
 try simp only[HV]
 refine ae.use (B6 hk (by omega) H) ?_
 try simp only[HV]
 exact RetE.mk _ _
theorem IF (hw:words<=16777216)(H:Hp):ae prog 198 #[I (k:Int),I (aa:Int),I (words:Int)] H (RetE (.bool (decide (2*2^k+aa<=words))) H):=by
 have h:=nU hp;have h1:=gV hk;apply oq.ok;unfold oq;refine ae.use (mD hk hp H) ?_
 try simp only[HV]
 rw[fW,Es _ (by omega),bu];refine⟨by omega,?_⟩;exact RetE.of (by congr 1;rw[decide_eq_decide];omega)
end
theorem CC {k:Nat}(hk:k<=32)(d:Bool)(H:Hp):ae prog 200 #[I (k:Int),I (if d=true then 1 else 0)] H (RetE (U ((me d k).toNat:Int)) H):=by
 apply ov.ok;unfold ov;cases d with
 |false=>exact aL rfl (RetE.mk _ _)
 |true=>
  refine aK (by decide) ?_;refine ae.use (BF hk H) ?_
  try simp only[HV]
  exact RetE.of (by unfold me;rw[if_pos rfl,yD])
theorem zq (a b f o:Int)(H:Hp):ae prog 265 #[.agg #[I a,I b],I f,I o] H (RetE (.agg #[I a,I b,I 0,I (-1),U 1,I 1,I f,I o]) H):=ae.ret (by
 apply pB.ok;unfold pB;refine(Sep.start H).nw fun b1 H1 hs=>?_
 refine hs.nw fun b2 H1 hs=>?_
 refine hs.bd 1 rfl rfl ?_;simp only[HV];refine hs.dW 2 rfl rfl rfl rfl fun H1 hs=>?_
 refine hs.bd 2 rfl rfl ?_;exact hs.fin 0 rfl _)
theorem uc (a b f o di tw sh:Int)(H:Hp):ae prog 199 #[.agg #[I a,I b],I f,I o,I di,I tw,U sh] H (RetE (.agg #[I a,I b,I di,I tw,U sh,I 2,I f,I o]) H):=ae.ret (by
 apply nt.ok;unfold nt;refine(Sep.start H).nw fun b1 H1 hs=>?_
 refine hs.nw fun b2 H1 hs=>?_
 refine hs.bd 1 rfl rfl ?_;simp only[HV];refine hs.dW 2 rfl rfl rfl rfl fun H1 hs=>?_
 refine hs.bd 2 rfl rfl ?_;exact hs.fin 0 rfl _)
theorem Gn (a b:Int)(H:Hp):ae prog 264 #[.agg #[I a,I b]] H (RetE (.agg #[I b,I a]) H):=ae.ret (by
 apply mu.ok;unfold mu;refine(Sep.start H).nw fun b1 H1 hs=>?_
 refine hs.nw fun b2 H1 hs=>?_
 refine hs.cC 1 rfl rfl ?_;simp only[HV];refine hs.cC 1 rfl rfl ?_;simp only[HV];refine hs.dW 2 rfl rfl rfl rfl fun H1 hs=>?_
 refine hs.bd 2 rfl rfl ?_;exact hs.fin 0 rfl _)
theorem Jr {k a:Nat}(hk:k<=32)(ha:a<=k)(H:Hp):ae prog 328 #[I (k:Int),I (a:Int)] H (RetE (.agg #[I ((2^a:Nat):Int),I ((2^(k-a):Nat):Int)]) H):=ae.ret (by
 apply ny.ok;unfold ny;refine(Sep.start H).nw fun b1 H1 hs=>?_
 rw[bu (x:=(k:Int)-a),show(k:Int)-a=((k-a:Nat):Int) by omega,fW,fW,Lay.pf (by omega),Lay.pf (by omega)];refine⟨by omega,by omega,?_⟩;refine hs.dW 1 rfl rfl rfl rfl fun H1 hs=>?_
 refine hs.bd 1 rfl rfl ?_;exact hs.fin 0 rfl _)
theorem Jn {k:Nat}(hk:k<=32)(H:Hp):ae prog 327 #[I (k:Int)] H (RetE (.bool true) H):=by
 apply oF.ok;unfold oF;refine aC (by omega) ?_;rw[decide_eq_true (by omega)];exact RetE.mk _ _
theorem KC {k:Nat}(hk:k<=32)(H:Hp):ae prog 263 #[I (k:Int)] H (RetE (.tuple #[.agg #[I ((2^(k/2):Nat):Int),I ((2^(k-k/2):Nat):Int)],I 0]) H):=ae.ret (by
 apply oB.ok;unfold oB;refine(Sep.start H).nw fun b1 H1 hs=>?_
 refine ae.use (Jn hk H1) ?_
 try simp only[HV]
 rw[show Int.tdiv (k:Int) 2=((k/2:Nat):Int)from rfl,ed];refine⟨by decide,by simp,?_⟩;refine ae.use (Jr hk (a:=k/2) (by omega) H1) ?_
 try simp only[HV]
 refine hs.dW 1 rfl rfl rfl rfl fun H1 hs=>?_
 refine hs.bd 1 rfl rfl ?_;exact hs.fin 0 rfl _)
def fb (ps:List Pz):List Value:=ps.flatMap fun p=>p.c.toList
theorem Aj :∀ ps:List Pz,(fb ps).length=ps.length*8
 | []=>rfl
 |p::ps=>by
  show(p.c.toList++fb ps).length=_
  rw[List.length_append,Aj ps,List.length_cons,Nat.succ_mul];have:p.c.toList.length=8:=rfl;omega
theorem Ai :∀(ps:List Pz) (i:Nat) (p:Pz),ps[i]? =some p->((fb ps).drop (i*8)).take 8=p.c.toList
 | [],i,p,h=>by simp at h
 |q::ps,0,p,h=>by
  cases h;show((q.c.toList++fb ps).drop (0*8)).take 8=_
  rw[Nat.zero_mul,List.drop_zero,List.take_append_of_le_length (by show 8<=8;omega)];rfl
 |q::ps,i+1,p,h=>by
  show((q.c.toList++fb ps).drop ((i+1)*8)).take 8=_
  have e:(i+1)*8=q.c.toList.length+i*8:=by have:q.c.toList.length=8:=rfl;omega
  rw[e,List.drop_append,List.drop_eq_nil_of_le (by omega),List.nil_append,Nat.add_sub_cancel_left];exact Ai ps i p (by simpa using h)
theorem K6 {k:Nat}(hk:k<=32)(d:Bool):Tr prog 201 #[I (k:Int),I (if d=true then 1 else 0)] [] fun v M=>∃ b,v= .slice (Oo b) 5 5/\M=[af b (.row (fb (qy d k)) 221 40)]:=fun H hs=>by
 apply pA.ok;unfold pA;refine ae.use (KC hk H) ?_
 try simp only[HV]
 refine hs.nw fun b1 H hs=>?_
 refine hs.dW 0 rfl rfl rfl rfl fun H hs=>?_;refine hs.bd 0 rfl rfl ?_;refine ae.use (Gn _ _ H) ?_
 try simp only[HV]
 refine hs.nw fun b2 H hs=>?_
 refine hs.dW 1 rfl rfl rfl rfl fun H hs=>?_;refine hs.bd 0 rfl rfl ?_;refine bN.use (zq _ _ 0 1 H) ?_
 try simp only[HV]
 refine hs.bd 1 rfl rfl ?_;refine bN.use (uc _ _ 1 2 (if d=true then 1 else 0) (k:Int) 1 H) ?_
 try simp only[HV]
 refine hs.bd 1 rfl rfl ?_;refine bN.use (zq _ _ 2 1 H) ?_
 try simp only[HV]
 refine hs.bd 0 rfl rfl ?_;refine bN.use (CC hk d H) ?_
 try simp only[HV]
 refine bN.use (uc _ _ 1 2 (if d=true then 1 else 0) (-1) ((me d k).toNat:Int) H) ?_
 try simp only[HV]
 refine hs.bd 0 rfl rfl ?_;refine bN.use (zq _ _ 2 3 H) ?_
 try simp only[HV]
 refine hs.nw fun b3 H hs=>?_
 exact⟨_,⟨b3,rfl,rfl⟩,hs.re [2] rfl⟩
def D4 (d:Bool)(k aa words:Nat)(v:Value)(M:List As):Prop:=∃ b,v= .tuple #[.slice (Oo b) (dz d k aa words).length (dz d k aa words).length,I 0]/\M=[af b (.row (fb (dz d k aa words)) 221 ((dz d k aa words).length*8))]
theorem Gi {k aa words:Nat}(hk:k<=32)(hp:iw (aa:Int)=true)(hw:fB k aa<=words/\words<=16777216)(d:Bool):
  Tr prog 144 #[I (k:Int),I (if d=true then 1 else 0),I (aa:Int),I (words:Int)] [] (D4 d k aa words):=fun H hs=>by
 have h:=nU hp;have h1:=gV hk;apply nr.ok;unfold nr;refine ae.use (mD hk hp H) ?_
 try simp only[HV]
 refine aw (by cases d<;>decide) (aw (by cases d<;>decide) ?_);refine ae.use (B6 hk h.2 H) ?_
 try simp only[HV]
 refine aw (by omega) ?_;refine ae.use (IF hk hp hw.2 H) ?_
 try simp only[HV]
 have long:uS k aa words=false->ae prog 201 #[I (k:Int),I (if d=true then 1 else 0)] H fun v14 H7=>aF v14 fun A1 n1 m1=>∃ M,D4 d k aa words (.tuple #[.slice A1 n1 m1,I 0]) M/\Sep M H7:=fun hb=>by
  refine(K6 hk d).use hs [] rfl rfl ?_;rintro _ _ H1 ⟨b,rfl,rfl⟩ hs;simp only[HV];have e:dz d k aa words=qy d k:=by unfold dz;rw[if_neg (by rw[hb];simp)]
  exact⟨_,⟨b,by rw[e];rfl,rfl⟩,by rw[e];exact hs⟩
 by_cases hs1:2*2^k+aa<=words
 .refine aC hs1 ?_;by_cases hk2:k<=20
  .refine aC (by omega) ?_;rw[fW,Lay.pf (by omega)];refine⟨by omega,?_⟩;refine ae.use (CC hk d H) ?_
   try simp only[HV]
   refine ae.use (uc _ _ 0 3 (if d=true then 1 else 0) (-1) ((me d k).toNat:Int) H) ?_
   try simp only[HV]
   refine hs.nw fun b1 H hs=>?_
   have e:dz d k aa words=[uT d k]:=by unfold dz;rw[if_pos (show uS k aa words=true from decide_eq_true ⟨hk2,hs1⟩)]
   exact⟨_,⟨b1,by rw[e];rfl,rfl⟩,by rw[e];exact hs⟩
  .refine aw (by omega) (long (decide_eq_false (by omega)))
 .exact aw hs1 (long (decide_eq_false (by omega)))
end Pln
namespace W
open Go Go.Hw
theorem pa :prog.follows .mixedOrders=true:=by kernel_rfl
def gx.j6 (K:VK)(p5 p6:OA)(x6:Int)(a1 a2:Addr)(p7 p8:OA)(H:Hp):=
 Hz 166 #[.pointer p7] H fun v7 H4=>tf v7 fun x7 x8=>(ao (x8 !=0) (K (.tuple #[Ot 0,I x8]) H4) (ao (x7 !=x6) (K (.tuple #[Ot 0,I 9]) H4) (aJ H4 a2 8 fun l10=>aM H4 (a1.add 1) fun x9=>Hz 169 #[.pointer p7,.pointer p8,.agg l10.toArray,.pointer p6,I x9] H4 fun v11 H5=>tf v11 fun x10 x11=>(ao (x11 !=0) (K (.tuple #[Ot 0,I x11]) H5) (cF 127 #[.pointer p5] H5 fun x12 H6=>ao (x12 !=0) (K (.tuple #[Ot 0,I x12]) H6) (K (.tuple #[Ot x10,I 0]) H6))))))
def gx (p1 p2:OA)(y1:Array Value)(x1:Int)(y2:Array Value)(x2:Int)(H:Hp)(K:VK):Prop:=
 Nw H (Oq y1 153) fun b1 H1=>Nw H1 (Oq y2 221) fun b2 H2=>aJ H2 (O b1) 17 fun l1=>aJ H2 (O b2) 8 fun l2=>Hz 168 #[.pointer p1,.pointer p2,.agg l1.toArray,I x1,.agg l2.toArray] H2 fun v1 H3=>J3 v1 fun p3 p4 x3=>(ao (x3 !=0) (K (.tuple #[Ot 0,I x3]) H3) (aM H3 ((O b2).add 5) fun x4=>ao (x4 !=1) (aM H3 ((O b2).add 5) fun x5=>ao (x5 !=2) (K (.tuple #[Ot 0,I 18]) H3) (gx.j6 K p1 p2 x2 (O b1) (O b2) p3 p4 H3)) (gx.j6 K p1 p2 x2 (O b1) (O b2) p3 p4 H3)))
def gx.Λ (K:VK):aN:=⟨fun i=>match Nat.beq i 6 with|true=>some (fun E D H=>eP E 0 fun p5=>eP E 1 fun p6=>eI E 5 .u32 fun x6=>eN E 8 fun a1=>eN E 10 fun a2=>eP E 14 fun p7=>eP E 15 fun p8=>az D (gx.j6 K p5 p6 x6 a1 a2 p7 p8 H))|false=>none,fun i=>none,(fun _=>none)⟩
theorem gx.ok p1 p2 y1 x1 y2 x2 H K (h:gx p1 p2 y1 x1 y2 x2 H K):ae prog 109 #[.pointer p1,.pointer p2,.agg y1,I x1,.agg y2,Ot x2] H K:=
 dX (Λ:=(gx.Λ K)) pa Tryz.func109 rfl rfl h (oC (fun E D H h=>by
   obtain⟨p5,e0,g2⟩:=GP h;obtain⟨p6,e1,g4⟩:=GP g2;obtain⟨x6,e5,g6⟩:=GI g4;obtain⟨a1,e8,g9⟩:=GN g6;obtain⟨a2,e10,g12⟩:=GN g9;obtain⟨p7,e14,g14⟩:=GP g12;obtain⟨p8,e15,g16⟩:=GP g14;obtain⟨rfl,h'⟩:=az.out g16;exact cY (Λ:=(gx.Λ K)) pa [] (ag.cons e0 (ag.cons e1 (ag.cons e5 (ag.cons e8 (ag.cons e10 (ag.cons e14 (ag.cons e15 (ag.nil _)))))))) h' oN) oN)
def pq (p1 p2:OA)(y1:Array Value)(x1 x2:Int)(H:Hp)(K:VK):Prop:=
 Nw H (Oq y1 153) fun b1 H1=>aJ H1 (O b1) 17 fun l1=>Hz 231 #[.agg l1.toArray,I x1,I x2] H1 fun v1 H2=>o5 v1 fun y2 x3=>(Nw H2 (Oq #[I 0,I 0,I 0] 150) fun b2 H3=>bR H3 (O b2) y2 3 fun H4=>ao (x3 !=0) (K (.tuple #[.pointer none,I x3]) H4) (aJ H4 (O b2) 3 fun l5=>Hz 232 #[.pointer p1,.pointer p2,.agg l5.toArray] H4 fun v4 H5=>kA v4 fun p3 x4=>(K (.tuple #[.pointer p3,I x4]) H5)))
theorem pq.ok p1 p2 y1 x1 x2 H K (h:pq p1 p2 y1 x1 x2 H K):ae prog 165 #[.pointer p1,.pointer p2,.agg y1,I x1,I x2] H K:=
 cg pa Tryz.func165 rfl rfl h
def pr (p1 p2:OA)(y1:Array Value)(x1:Int)(y2:Array Value)(H:Hp)(K:VK):Prop:=
 Nw H (Oq y1 153) fun b1 H1=>Nw H1 (Oq y2 221) fun b2 H2=>aJ H2 (O b1) 17 fun l1=>aM H2 ((O b2).add 6) fun x2=>Hz 165 #[.pointer p1,.pointer p2,.agg l1.toArray,I x2,I x1] H2 fun v2 H3=>kA v2 fun p3 x3=>(ao (x3==0) (aJ H3 (O b1) 17 fun l5=>aM H3 ((O b2).add 7) fun x4=>Hz 165 #[.pointer p1,.pointer p2,.agg l5.toArray,I x4,I x1] H3 fun v6 H4=>kA v6 fun p4 x5=>(K (.tuple #[.pointer p3,.pointer p4,I x5]) H4)) (K (.tuple #[.pointer p3,.pointer none,I x3]) H3))
theorem pr.ok p1 p2 y1 x1 y2 H K (h:pr p1 p2 y1 x1 y2 H K):ae prog 168 #[.pointer p1,.pointer p2,.agg y1,I x1,.agg y2] H K:=
 cg pa Tryz.func168 rfl rfl h
def qj (p1 p2:OA)(y1:Array Value)(p3:OA)(x1:Int)(H:Hp)(K:VK):Prop:=
 Nw H (Oq y1 221) fun b1 H1=>aM H1 ((O b1).add 5) fun x2=>ao (x2==1) (aJ H1 (((O b1).add 0).add 0) 2 fun l1=>Hz 239 #[.pointer p1,.pointer p2,.agg l1.toArray,.pointer p3,I x1] H1 fun v2 H2=>tf v2 fun x3 x4=>(K (.tuple #[Ot x3,I x4]) H2)) (ao (x2==2) (aJ H1 ((O b1).add 0) 5 fun l5=>Hz 240 #[.pointer p1,.pointer p2,.agg l5.toArray,.pointer p3,I x1] H1 fun v5 H3=>tf v5 fun x5 x6=>(K (.tuple #[Ot x5,I x6]) H3)) (K (.tuple #[Ot 0,I 18]) H1))
theorem qj.ok p1 p2 y1 p3 x1 H K (h:qj p1 p2 y1 p3 x1 H K):ae prog 169 #[.pointer p1,.pointer p2,.agg y1,.pointer p3,I x1] H K:=
 cg pa Tryz.func169 rfl rfl h
def fy.q1 (H3:Hp)(b2:Nat)(K:VK):Prop:=
 bR H3 (O b2) #[I 0,I 0,I 0] 3 fun H4=>aJ H4 (O b2) 3 fun l2=>K (.tuple #[.agg l2.toArray,I 1]) H4
def fy (y1:Array Value)(x1 x2:Int)(H:Hp)(K:VK):Prop:=
 Nw H (Oq y1 153) fun b1 H1=>Nw H1 (Oq #[I 0,I 0,I 0] 150) fun b2 H2=>aJ H2 (O b1) 17 fun l1=>fS 295 #[.agg l1.toArray] H2 fun c1 H3=>ao (!c1) (fy.q1 H3 b2 K) (ao (decide (x1<0)) (fy.q1 H3 b2 K) (ao (decide (x1>=4)) (fy.q1 H3 b2 K) (ao (decide (x2<0)) (fy.q1 H3 b2 K) (aM H3 ((O b1).add 0) fun x3=>ao (decide (x2>x3)) (fy.q1 H3 b2 K) ((0<=(u64.wrap x2)/\cX x1 4 (aM H3 ((((O b1).add 5).add (x1.toNat*3)).add 0) fun x4=>aM H3 ((O b1).add 1) fun x5=>(x5≠0/\i64=i64/\bR H3 (O b2) #[I x4,I (i64.wrap ((i64.wrap (Int.tdiv (i64.wrap ((dA .i64 1 (u64.wrap x2))-1)) x5))+1)),I (dA .i64 1 (u64.wrap x2))] 3 fun H9=>aJ H9 (O b2) 3 fun l7=>K (.tuple #[.agg l7.toArray,I 0]) H9))))))))
theorem fy.ok y1 x1 x2 H K (h:fy y1 x1 x2 H K):ae prog 231 #[.agg y1,I x1,I x2] H K:=
 mY (fun i=>match Nat.beq i 4 with|true=>some ([],[0,1,2,3,4,5,6,7,8,9,10,11,12],13)|false=>none) pa Tryz.func231 rfl rfl h
end W
namespace Eng
open Go Go.Hw Go.Form W Shp Dsk Str Are Trn Pas Pln
theorem Nv :vr prog 153 17:=⟨by kernel_rfl,by kernel_rfl,by kernel_rfl,by kernel_rfl⟩
def E9 (k p:Nat):List Int:=
 let r:Int:=Lay.bS k p
 let w:Int:=(2^k:Nat)
 [(k:Int),(p:Int),1,8,((8*p:Nat):Int),9,r,w,9+r,r,w,9+2*r,r,w,9+3*r,r,w]
theorem Fl {aa:Nat}(h:iw (aa:Int)=true):aa=4\/aa=8\/aa=16\/aa=32\/aa=64\/aa=128\/aa=256\/aa=512:=by
 unfold iw at h;simp only[Bool.or_eq_true,beq_iff_eq]at h;omega
theorem D6 {aa:Nat}(h:iw (aa:Int)=true):Lay.cc ((aa*8:Nat):Int)=aa:=by
 rcases Fl h with e|e|e|e|e|e|e|e<;>subst e<;>decide
theorem Ak {s:Nat}(h:0<Lay.cc s):iw ((s/8:Nat):Int)=true:=by
 have:s=32\/s=64\/s=128\/s=256\/s=512\/s=1024\/s=2048\/s=4096:=by
  unfold Lay.cc at h
  repeat' split at h
  all_goals omega
 rcases this with e|e|e|e|e|e|e|e<;>subst e<;>decide
theorem yl {k p:Nat}(hk:k<=32):Lay.bS k p<=4294967296:=by
 have:=gV hk;unfold Lay.bS;have:=Nat.div_le_self (2^k-1) p;have:=Nat.two_pow_pos k;omega
section
variable {aA aa : Nat} (hm : aA <= 32) (hp : iw (aa : Int) = true)
include hm hp
theorem xV :∀ x∈E9 aA aa,-9223372036854775808<=x/\x<=9223372036854775807:=by
 have h1:=yl (p:=aa) hm;have h2:=gV hm;have h3:=nU hp;intro x hx;unfold E9 at hx;generalize Lay.bS aA aa=rr at*;generalize 2^aA=ww at*;simp only[List.mem_cons,List.not_mem_nil,or_false]at hx;omega
theorem fT (H:Hp):ae prog 295 #[.agg (Lay.i6 aA aa)] H (RetE (.bool true) H):=ae.ret (by
 have h3:=nU hp;apply nj.ok;unfold nj;refine(Sep.start H).nw fun b1 H1 hs=>?_
 refine hs.cC 1 rfl rfl ?_;simp only[HV];refine hs.cC 1 rfl rfl ?_;simp only[HV];rw[if_neg (by omega),bu (x:=(aa:Int)*8)];refine bN.use (Lay.yb ((aa:Int)*8) H1) ?_
 try simp only[HV]
 have e:Lay.cc ((aa:Int)*8)=aa:=D6 hp;rw[e];refine bN.use (Lay.mD (aA:Int) (aa:Int) H1) ?_
 try simp only[HV]
 rw[decide_eq_true (by omega)];refine cV rfl ?_;refine hs.bd 1 rfl rfl ?_;refine hs.cC 1 rfl rfl ?_;simp only[HV];refine hs.cC 1 rfl rfl ?_;simp only[HV];refine bN.use (Lay.G5 hm (p:=aa) (by omega) (by omega) H1) ?_
 try simp only[HV]
 refine Dl Nv (a:=E9 aA aa) (b:=E9 aA aa) rfl rfl (xV hm hp) (xV hm hp) rfl rfl ?_;rw[decide_eq_true rfl];exact hs.fin 0 rfl _)
theorem F8 {i k:Nat}(hi:i<4)(hk:k<=aA)(H:Hp):ae prog 231 #[.agg (Lay.i6 aA aa),I (i:Int),I (k:Int)] H
  (RetE (.tuple #[.agg #[I (((eY aA aa i k).f:Nat):Int),I (((eY aA aa i k).s:Nat):Int),I (((eY aA aa i k).w:Nat):Int)],I 0]) H):=ae.ret (by
 have h3:=nU hp;have h1:=gV (k:=k);have h4:=Nat.two_pow_pos k;have h5:=yl (p:=aa) hm;apply fy.ok;unfold fy fy.q1;refine(Sep.start H).nw fun b1 H1 hs=>?_
 refine hs.nw fun b2 H1 hs=>?_
 refine hs.bd 1 rfl rfl ?_;rw[Array.toArray_toList];refine ae.use (fT hm hp H1) ?_
 try simp only[HV]
 refine aw (by omega) (aw (by omega) (aw (by omega) ?_));refine hs.cC 1 (v:=I aA) rfl rfl ?_;simp only[HV];refine aw (by omega) ⟨by rw[fW];omega,by omega,by omega,?_⟩;rw[Int.toNat_natCast]
 try simp only[HS]
 refine hs.ld 1 (v:=I (Lay.DK (Lay.bS aA aa) i)) rfl (by rw[za,Array.getElem?_toList];exact Lay.G4 aA aa i hi) ?_;simp only[HV];refine hs.ld 1 (v:=I aa) rfl rfl ?_;simp only[HV];rw[fW (n:=k),Lay.pf (by omega),bu (x:=((2^k:Nat):Int)-1),show((2^k:Nat):Int)-1=((2^k-1:Nat):Int) by omega,
  show Int.tdiv ((2^k-1:Nat):Int) (aa:Int)=(((2^k-1)/aa:Nat):Int)from rfl]
 have h6:=Nat.div_le_self (2^k-1) aa;rw[ed (Nat.le_trans h6 (by omega)),bu (x:=(((2^k-1)/aa:Nat):Int)+1) (by generalize(2^k-1)/aa=q at *;omega) (by generalize(2^k-1)/aa=q at *;omega)];refine⟨by omega,by simp,?_⟩;refine hs.dW 2 rfl rfl rfl rfl fun H1 hs=>?_
 refine hs.bd 2 rfl rfl ?_;have e1:Lay.DK (Lay.bS aA aa) i=(((eY aA aa i k).f:Nat):Int):=by unfold Lay.DK eY;simp
 rw[e1];exact hs.fin 0 rfl _)
end
structure rK (d:D)(aA:Nat):Prop where
 m:aA<=32
 p:iw (D.aa d:Int)=true
 fit:Lay.fI aA (D.aa d)<=d.sec
theorem rK.on {d:D}{aA:Nat}(h:rK d aA)(hok:Ok d){i k:Nat}(hi:i<4)(hk:k<=aA):On d (eY aA (D.aa d) i k):=by
 have h1:=(Ok.eB hok).1;have h2:=r7 (p:=D.aa d) hk;have h3:=h.fit;have h4:=vw (k:=k) (p:=D.aa d) (by omega);have h5:=Nat.two_pow_pos k;unfold Lay.fI at h3;have h6:i*Lay.bS aA (D.aa d)<=3*Lay.bS aA (D.aa d):=Nat.mul_le_mul_right _ (by omega);exact⟨h5,Nat.le_add_left 1 ((2^k-1)/D.aa d),by show 9+i*Lay.bS aA (D.aa d)+Lay.bS k (D.aa d)<=d.sec;omega,h4⟩
theorem rK.prog {d d':D}{aA:Nat}(h:rK d aA)(h1:d'.sec=d.sec)(h2:d'.size=d.size):rK d' aA:=by
 have e:D.aa d'=D.aa d:=by unfold D.aa;rw[h2]
 exact⟨h.m,by rw[e];exact h.p,by rw[e,h1];exact h.fit⟩
theorem GH {aA aa i j k:Nat}(hk:k<=aA)(hij:i≠j):(eY aA aa i k).f+(eY aA aa i k).s<=(eY aA aa j k).f\/(eY aA aa j k).f+(eY aA aa j k).s<=(eY aA aa i k).f:=by
 have h2:=r7 (p:=aa) hk;show 9+i*Lay.bS aA aa+Lay.bS k aa<=9+j*Lay.bS aA aa\/9+j*Lay.bS aA aa+Lay.bS k aa<=9+i*Lay.bS aA aa
 rcases Nat.lt_or_gt_of_ne hij with h|h
 .left;have:(i+1)*Lay.bS aA aa<=j*Lay.bS aA aa:=Nat.mul_le_mul_right _ h;rw[Nat.succ_mul]at this;omega
 .right;have:(j+1)*Lay.bS aA aa<=i*Lay.bS aA aa:=Nat.mul_le_mul_right _ h;rw[Nat.succ_mul]at this;omega
section
variable {dp ap : Nat} {d : D} {aA : Nat} (hok : Ok d) (hl : rK d aA)
include hok hl
theorem vg {i k:Nat}(hi:i<4)(hk:k<=aA):Tr prog 165 #[V dp,V ap,.agg (Lay.i6 aA (D.aa d)),I (i:Int),I (k:Int)] [Dk dp d] fun v M=>
  ∃ p,v= .tuple #[V p,I 0]/\M=[Dk dp d,af p (bh dp ap (eY aA (D.aa d) i k))]:=fun H hs=>by
 apply pq.ok;unfold pq;refine hs.nw fun b1 H hs=>?_
 refine hs.bd 1 rfl rfl ?_;rw[Array.toArray_toList];refine ae.use (F8 hl.m hl.p hi hk H) ?_
 try simp only[HV]
 refine hs.nw fun b2 H hs=>?_
 refine hs.dW 2 rfl rfl rfl rfl fun H hs=>?_;refine aH rfl ?_;refine hs.bd 2 rfl rfl ?_;refine(jH (dp:=dp) (ap:=ap) hok (eY aA (D.aa d) i k) (hl.on hok hi hk)).use hs [0] rfl rfl ?_;rintro _ _ H ⟨p,rfl,rfl⟩ hs;simp only[HV];exact⟨_,⟨p,rfl,rfl⟩,hs.re [0,1] rfl⟩
theorem KR {pz:Pz}{k:Nat}(hf:pz.f<4)(ho:pz.o<4)(hk:k<=aA):Tr prog 168 #[V dp,V ap,.agg (Lay.i6 aA (D.aa d)),I (k:Int),.agg pz.c] [Dk dp d] fun v M=>
  ∃ p q,v= .tuple #[V p,V q,I 0]/\M=[Dk dp d,af p (bh dp ap (eY aA (D.aa d) pz.f k)),af q (bh dp ap (eY aA (D.aa d) pz.o k))]:=fun H hs=>by
 apply pr.ok;unfold pr;refine hs.nw fun b1 H hs=>?_
 refine hs.nw fun b2 H hs=>?_
 refine hs.bd 1 rfl rfl ?_;rw[Array.toArray_toList];refine hs.cC 2 (v:=I (pz.f:Int)) rfl rfl ?_;simp only[HV];refine(vg (dp:=dp) (ap:=ap) hok hl hf hk).use hs [0] rfl rfl ?_;rintro _ _ H ⟨p,rfl,rfl⟩ hs;simp only[HV];refine aL rfl ?_;refine hs.bd 2 rfl rfl ?_;rw[Array.toArray_toList];refine hs.cC 3 (v:=I (pz.o:Int)) rfl rfl ?_;simp only[HV];refine(vg (dp:=dp) (ap:=ap) hok hl ho hk).use hs [0] rfl rfl ?_;rintro _ _ H ⟨q,rfl,rfl⟩ hs;simp only[HV];exact⟨_,⟨p,q,rfl,rfl⟩,hs.re [0,2,1] rfl⟩
end
structure BB (pz:Pz)(k aa cap:Nat):Prop where
 f:pz.f<4
 o:pz.o<4
 fo:pz.f≠pz.o
 k:pz.j.ea+pz.j.eb=k
 tn:pz.t=true->2^pz.j.ea+aa<=cap
 rw:pz.t=false->pz.j.eb<=20/\-1<=pz.j.tw/\pz.j.tw<=32/\aa+2*2^pz.j.eb<=cap
def u9 (aa cap f o:Nat)(pz:Pz)(r w:Nat):Prop:=
 (pz.t=true/\∃ j,gZ ((2^pz.j.ea:Nat):Int) ((2^pz.j.eb:Nat):Int) aa cap j/\r=rT aa f o (2^pz.j.ea) (2^pz.j.eb) (2^j) (2^pz.j.eb/2^j)/\w=wT aa o (2^pz.j.ea) (2^j) (2^pz.j.eb/2^j))\/
 (pz.t=false/\∃ j,ke pz.j.ea ((cap-aa)/2^pz.j.eb) j/\r=rP aa f o (2^j*2^pz.j.eb) (2^pz.j.ea/2^j)/\w=wP aa o (2^j*2^pz.j.eb) (2^pz.j.ea/2^j))
section
variable {p q dp ap : Nat} {x y : X} {cap : Nat} {aj : Int} {TT : As} {k : Nat} {pz : Pz}
def N1 (p q dp ap:Nat)(x y:X)(cap:Nat)(pz:Pz)(TT:As)(d:D)(v:Value)(M:List As):Prop:=
 ∃ peak':Int,peak'<=cap/\∃ r w,u9 (D.aa d) cap x.f y.f pz r w/\
  ((∃ d',Prog (jd y) d d' r w/\dV d' y 0 y.w=pz.ap (dV d x 0 x.w)/\v= .tuple #[Ot ((Go.Crc.sum (form (pz.ap (dV d x 0 x.w)))).toNat:Int),I 0]/\M=[af p (bh dp ap x),af q (bh dp ap y),Dk dp d',Ar ap cap peak' [],TT])\/
  (∃ d',gW (jd y) d d'/\d.aI<=r+w/\v= .tuple #[Ot 0,I 8]/\M=[af p (bh dp ap x),af q (bh dp ap y),Dk dp d',Ar ap cap peak' [],TT]))
theorem tx {a b c:Int}(h1:a<=c)(h2:b<=c):mx a b<=c:=by unfold mx;split<;>assumption
theorem M8 {d:D}(hT:∀ H,TT H->T64 H)(hok:Ok d)(hl:d.down=false)(hx:On d x)(hy:On d y)(ho:d.rd<=1000000000000/\d.wr<=1000000000000)(hk32:k<=32)(hxw:x.w=2^k)(hyw:y.w=2^k)(hdis:x.f+x.s<=y.f\/y.f+y.s<=x.f)
  (hper:iw (D.aa d:Int)=true) (hcap:cap<=16777216) (hpk:aj<=cap) (hz:BB pz k (D.aa d) cap):
  Tr prog 169 #[V p,V q,.agg pz.c,V ap,I (D.aa d:Int)]
   [af p (bh dp ap x),af q (bh dp ap y),Dk dp d,Ar ap cap aj [],TT] (N1 p q dp ap x y cap pz TT d):=fun H hs=>by
 have hp:=Ok.eB hok;have hkk:=hz.k;have hpow:2^pz.j.ea*2^pz.j.eb=2^k:=by rw[<- Nat.pow_add,hkk]
 have hxw2:x.w=2^pz.j.ea*2^pz.j.eb:=hxw.trans hpow.symm;have hyw2:y.w=2^pz.j.ea*2^pz.j.eb:=hyw.trans hpow.symm;apply qj.ok;unfold qj;refine hs.nw fun b1 H hs=>?_
 refine hs.cC 5 (v:=I (if pz.t=true then 1 else 2)) rfl rfl ?_;simp only[HV];cases ht:pz.t with
 |true=>
  refine aL rfl ?_
  try simp only[HS]
  refine hs.mO 5 (off:=0) (n:=2) rfl (by show 0+2<=8;omega) ?_;have ea:((pz.c.toList.drop 0).take 2).toArray=#[I ((2^pz.j.ea:Nat):Int),I ((2^pz.j.eb:Nat):Int)]:=rfl;rw[ea];have htn:=hz.tn ht;obtain⟨j,hj1,hj⟩:=gZ.ex (ea:=pz.j.ea) (eb:=pz.j.eb) (aa:=(D.aa d:Int)) (free:=(cap:Int));have hjs:gZ ((2^pz.j.ea:Nat):Int) ((2^pz.j.eb:Nat):Int) (D.aa d) ((cap:Int)-bf []) j:=by rw[gf,Int.sub_zero];exact hj
  have hfit:=hj.fit;have hdv:2^pz.j.eb/2^j*2^j=2^pz.j.eb:=(div_pow hj1).symm;refine(Trn.BD (p:=p) (q:=q) (dp:=dp) (ap:=ap) (x:=x) (y:=y) (cap:=cap) (aj:=aj) (bufs:=[]) hT hok hl hx hy (by omega) (by omega) hxw2 hyw2 hdis hper (by omega) (by decide) hjs).use hs [0,1,2,3,4] rfl rfl ?_;rintro v _ H ⟨M0,hq,rfl⟩ hs;have hpk2:mx aj (bf []+((2^j*2^pz.j.ea:Nat):Int)+(D.aa d:Int))<=cap:=tx hpk (by rw[gf];rw[Int.natCast_mul];omega);have hap:pz.ap (dV d x 0 x.w)=rD d x (2^pz.j.ea) (2^pz.j.eb):=by unfold Pz.ap;rw[if_pos ht,LI,hxw2]
  rcases hq with⟨d',hI,rfl,rfl⟩|⟨d',hD,hfu,rfl,rfl⟩
  .simp only[HV];refine⟨_,⟨_,hpk2,_,_,.inl ⟨ht,j,hj,rfl,rfl⟩,.inl ⟨d',hI.pg,?_,by rw[hap],rfl⟩⟩,hs.re [0,1,2,3,4] rfl⟩;rw[hap];have hlen:=zo d x (2^pz.j.ea) (2^pz.j.eb);rw[hyw2];refine(D9 fun k hk=>hI.dst k ?_);rw[hdv,Nat.mul_comm];exact hk
  .simp only[HV];exact⟨_,⟨_,hpk2,_,_,.inl ⟨ht,j,hj,rfl,rfl⟩,.inr ⟨d',hD,hfu,rfl,rfl⟩⟩,hs.re [0,1,2,3,4] rfl⟩
 |false=>
  refine aK (by decide) (aL rfl ?_)
  try simp only[HS]
  refine hs.mO 5 (off:=0) (n:=5) rfl (by show 0+5<=8;omega) ?_;have ea:((pz.c.toList.drop 0).take 5).toArray=pz.j.a:=rfl;rw[ea];obtain⟨h20,htw1,htw2,hcp⟩:=hz.rw ht;have hpb:=Nat.two_pow_pos pz.j.eb;have hq2:2<=(cap-D.aa d)/2^pz.j.eb:=(Nat.le_div_iff_mul_le hpb).2 (by omega);obtain⟨j,hj⟩:=ke.ex (ea:=pz.j.ea) hq2;have hjs:ke pz.j.ea (((cap:Int)-bf []-(D.aa d:Int)).toNat/2^pz.j.eb) j:=by
   have:((cap:Int)-bf []-(D.aa d:Int)).toNat=cap-D.aa d:=by rw[gf];omega
   rw[this];exact hj
  have hfit:(2^j+1)*2^pz.j.eb<=cap-D.aa d:=(Nat.le_div_iff_mul_le hpb).1 hj.fit;rw[Nat.succ_mul]at hfit;refine(Pas.BD (p:=p) (q:=q) (dp:=dp) (ap:=ap) (x:=x) (y:=y) (cap:=cap) (aj:=aj) (bufs:=[]) (j:=pz.j) hT hok hl hx hy (by omega) (by omega) h20 ⟨htw1,htw2⟩ hxw2 hyw2 hdis hper (by omega) (by decide) (by rw[gf];omega) hjs).use hs [0,1,2,3,4] rfl rfl ?_;rintro v _ H ⟨M0,hq,rfl⟩ hs;have hpk2:mx aj (bf []+((2^j*2^pz.j.eb:Nat):Int)+((2^pz.j.eb:Nat):Int)+(D.aa d:Int))<=cap:=tx hpk (by rw[gf];omega);have hap:pz.ap (dV d x 0 x.w)=ir pz.j d x (2^pz.j.ea):=by unfold Pz.ap;rw[if_neg (by rw[ht];simp),FQ,hxw2]
  rcases hq with⟨d',hI,rfl,rfl⟩|⟨d',hD,hfu,rfl,rfl⟩
  .simp only[HV];refine⟨_,⟨_,hpk2,_,_,.inr ⟨ht,j,hj,rfl,rfl⟩,.inl ⟨d',hI.pg,?_,by rw[hap],rfl⟩⟩,hs.re [0,1,2,3,4] rfl⟩;rw[hap];have hlen:=uL pz.j d x (2^pz.j.ea);rw[hyw2,<-hlen];have hdv:2^pz.j.ea/2^j*2^j=2^pz.j.ea:=(div_pow hj.le).symm;have key:=D9 (d:=d') (x:=y) (n:=(ir pz.j d x (2^pz.j.ea)).length) (f:=fun k=>((ir pz.j d x (2^pz.j.ea))[k]?).getD 0) fun k hk=>by
    have:=hI.dst k (by rw[hdv,<-hlen];exact hk);rw[hdv]at this;exact this
   rw[key];exact Hx _
  .simp only[HV];exact⟨_,⟨_,hpk2,_,_,.inr ⟨ht,j,hj,rfl,rfl⟩,.inr ⟨d',hD,hfu,rfl,rfl⟩⟩,hs.re [0,1,2,3,4] rfl⟩
end
theorem BW {d:D}{x:X}(hx:On d x):∀ i,jd x i->0<=i/\i<d.sec:=fun i hi=>by
 have:=hx.fit;unfold jd at hi;omega
def NK (dp ap:Nat)(d:D)(c:Cn)(aA k:Nat)(pz:Pz)(cap:Nat)(TT:As)(v:Value)(M:List As):Prop:=
 ∃ peak':Int,peak'<=cap/\∃ r w,u9 (D.aa d) cap (eY aA (D.aa d) pz.f k).f (eY aA (D.aa d) pz.o k).f pz r w/\
  ((∃ d' c',fA d d' (nS (D.aa d) (2^k)+r) w 1/\Clean d' c'/\qO (jd (eY aA (D.aa d) pz.o k)) c c'/\kF c' (D.aa d) (eY aA (D.aa d) pz.o k).f (2^k)=pz.ap (kF c (D.aa d) (eY aA (D.aa d) pz.f k).f (2^k))/\
    v= .tuple #[Ot (lT (pz.ap (kF c (D.aa d) (eY aA (D.aa d) pz.f k).f (2^k))):Int),I 0]/\M=[Dk dp d',Ar ap cap peak' [],TT])\/
  (∃ d',gp d d' (nS (D.aa d) (2^k)+r+w+1)/\Left d' (fun c'=>qO (jd (eY aA (D.aa d) pz.o k)) c c')/\v= .tuple #[Ot 0,I 8]/\M=[Dk dp d',Ar ap cap peak' [],TT]))
theorem Nl {dp ap:Nat}{d:D}{c:Cn}{aA k:Nat}{pz:Pz}{cap:Nat}{aj:Int}{TT:As}(hT:∀ H,TT H->T64 H)(hc:Clean d c)(hl:rK d aA)(hk:k<=aA)(ho:d.rd<=100000000000/\d.wr<=100000000000/\d.sy<=100000000000)
  (hcap:cap<=16777216) (hpk:aj<=cap) (hz:BB pz k (D.aa d) cap):
  Tr prog 109 #[V dp,V ap,.agg (Lay.i6 aA (D.aa d)),I (k:Int),.agg pz.c,Ot (lT (kF c (D.aa d) (eY aA (D.aa d) pz.f k).f (2^k)):Int)]
   [Dk dp d,Ar ap cap aj [],TT] (NK dp ap d c aA k pz cap TT):=fun H hs=>by
 have hok:=hc.ok;have hp:=Ok.eB hok;have hm:=hl.m;have hx:=hl.on hok hz.f hk;have hy:=hl.on hok hz.o hk;have hcp:D.aa d<=cap:=by
  cases ht:pz.t with
  |true=>have:=hz.tn ht;have:=Nat.two_pow_pos pz.j.ea;omega
  |false=>have:=hz.rw ht;have:=Nat.two_pow_pos pz.j.eb;omega
 apply gx.ok;unfold gx;refine hs.nw fun b1 H hs=>?_
 refine hs.nw fun b2 H hs=>?_
 refine hs.bd 3 rfl rfl ?_;refine hs.bd 4 rfl rfl ?_;rw[Array.toArray_toList,Array.toArray_toList];refine(KR (dp:=dp) (ap:=ap) hok hl hz.f hz.o hk).use hs [0] rfl rfl ?_;rintro _ _ H ⟨p,q,rfl,rfl⟩ hs;simp only[HV];refine aH rfl ?_;have hs:Sep [Dk dp d,af p (bh dp ap (eY aA (D.aa d) pz.f k)),af q (bh dp ap (eY aA (D.aa d) pz.o k)),Ar ap cap aj [],TT,af b1 (Oq (Lay.i6 aA (D.aa d)) 153),af b2 (Oq pz.c 221)] H:=hs;have j6:gx.j6 (fun v H'=>∃ M,NK dp ap d c aA k pz cap TT v M/\Sep M H') (Oo dp) (Oo ap) (lT (kF c (D.aa d) (eY aA (D.aa d) pz.f k).f (2^k)):Int) (O b1) (O b2) (Oo p) (Oo q) H:=by
  have hwx:(eY aA (D.aa d) pz.f k).w=2^k:=rfl;have hwy:(eY aA (D.aa d) pz.o k).w=2^k:=rfl;have hxy:=GH (aA:=aA) (aa:=D.aa d) hk hz.fo;have hcost:∃ r w,u9 (D.aa d) cap (eY aA (D.aa d) pz.f k).f (eY aA (D.aa d) pz.o k).f pz r w:=by
   have hkk:=hz.k;cases ht:pz.t with
   |true=>
    have htn:=hz.tn ht;obtain⟨j,_,hj⟩:=gZ.ex (ea:=pz.j.ea) (eb:=pz.j.eb) (aa:=(D.aa d:Int)) (free:=(cap:Int));exact⟨_,_,.inl ⟨ht,j,hj,rfl,rfl⟩⟩
   |false=>
    obtain⟨_,_,_,hcp⟩:=hz.rw ht;obtain⟨j,hj⟩:=ke.ex (ea:=pz.j.ea) ((Nat.le_div_iff_mul_le (Nat.two_pow_pos pz.j.eb)).2 (by omega):2<=(cap-D.aa d)/2^pz.j.eb);exact⟨_,_,.inr ⟨ht,j,hj,rfl,rfl⟩⟩
  generalize hX:eY aA (D.aa d) pz.f k=x at*;generalize hY:eY aA (D.aa d) pz.o k=y at*;unfold gx.j6;refine(yQ (p:=p) (dp:=dp) (ap:=ap) (x:=x) (cap:=cap) (aj:=aj) (bufs:=[]) hok hc.down hx (by omega) (by rw[gf];omega)).use hs [1,0,3] rfl rfl ?_;have hw0:=pc hc.now x (2^k);have hpk1:mx aj (bf []+(D.aa d:Int))<=cap:=tx hpk (by rw[gf];omega);rintro _ _ H (⟨hf,rfl,rfl⟩|⟨j,hj,hf,rfl,rfl⟩) hs
  .have hsum:((Go.Crc.sum (form (dV d x 0 x.w))).toNat:Int)=(lT (kF c (D.aa d) x.f (2^k)):Int):=by rw[hwx,hw0];rfl
   rw[hsum];simp only[HV];refine aH rfl (aH rfl ?_);rw[hwx]at hs hf;generalize hN:nS (D.aa d) (2^k)=N at hs hf;have hcN:=hc.bO N;have hwN:=fA.bO hf;have hs:Sep [af p (bh dp ap x),Dk dp (D.bO d N),Ar ap cap (mx aj (bf []+(D.aa d:Int))) [],af q (bh dp ap y),TT,af b1 (Oq (Lay.i6 aA (D.aa d)) 153),af b2 (Oq pz.c 221)] H:=hs;refine hs.bd 6 rfl rfl ?_;rw[Array.toArray_toList]
   try simp only[HS]
   refine hs.ld 5 (v:=I (D.aa d:Int)) rfl rfl ?_;simp only[HV];have hwr:(D.bO d N).wr=d.wr:=rfl;have hrd:(D.bO d N).rd=d.rd+N:=rfl;have hNs:N<=4294967296:=by
    rw[<- hN];have h2k:=gV (k:=k);unfold nS;exact Nat.le_trans (Nat.div_le_of_le_mul (by
     have:2^k+D.aa d-1<=2^k*D.aa d:=by
      have h1:=Nat.two_pow_pos k;obtain⟨a,ha⟩:∃ a,2^k=a+1:=⟨2^k-1,by omega⟩;obtain⟨b,hb⟩:∃ b,D.aa d=b+1:=⟨D.aa d-1,by omega⟩;rw[ha,hb,Nat.mul_add,Nat.add_mul];omega
     rw[Nat.mul_comm];exact this)) h2k
   have hpx:dV (D.bO d N) x 0 x.w=kF c (D.aa d) x.f (2^k):=by rw[hwx];exact pc hcN.now x (2^k)
   refine(M8 (p:=p) (q:=q) (dp:=dp) (ap:=ap) (x:=x) (y:=y) (cap:=cap) (aj:=mx aj (bf []+(D.aa d:Int))) (TT:=TT) (k:=k) (pz:=pz) (d:=D.bO d N) hT hcN.ok hcN.down ⟨hx.w1,hx.s1,hx.fit,hx.room⟩ ⟨hy.w1,hy.s1,hy.fit,hy.room⟩ (by omega) (by omega) hwx hwy hxy hl.p hcap hpk1 hz).use hs [0,3,1,2,4] rfl rfl ?_;rintro v M H ⟨peak',hpk',r,w,hcost',hq⟩ hs;rw[hpx]at hq;rcases hq with⟨d',hP,hw',rfl,rfl⟩|⟨d',hD,hfu,rfl,rfl⟩
   .have h2:=hP.sy;simp only[HV];refine aH rfl ?_;refine(qI (p:=dp) (d:=d') hP.ok (by rw[h2];show d.sy<=_;omega)).use hs [2] rfl rfl ?_;rintro _ _ H ⟨rfl,rfl⟩ hs;rcases hcN.sync hP (BW (d:=D.bO d N) ⟨hy.w1,hy.s1,hy.fit,hy.room⟩)with⟨e,hw2,hc2⟩|⟨e,hcut,hleft⟩
    .rw[e];simp only[HV];refine aH rfl ?_;have hgo:=hwN.trans hw2;have hsam:qO (jd y) c d'.now:=fun i hi=>(hcN.prog hP i).2 hi
     refine⟨_,⟨peak',hpk',r,w,by rw[hX,hY];exact hcost',.inl ⟨_,_,by rw[hN];simpa using hgo,hc2,by rw[hY];exact hsam,?_,by rw[hX];rfl,rfl⟩⟩,hs.re [0,3,4] rfl⟩;rw[hX,hY,<-hw',hwy];have e2:D.aa d'=D.aa d:=hP.aa;rw[<- e2];exact(pc (fun _=>rfl) y (2^k)).symm
    .rw[e];simp only[HV];refine aT (by decide) ?_;have hgo:=hwN.cut hcut;exact⟨_,⟨peak',hpk',r,w,by rw[hX,hY];exact hcost',.inr ⟨_,by rw[hN];exact hgo.more (by omega),by rw[hY];exact hleft.mono fun _ h=>h.2,rfl,rfl⟩⟩,hs.re [0,3,4] rfl⟩
   .simp only[HV];refine aT (by decide) ?_;have hf1:1<=(D.bO d N).aI:=by have h1:=hD.tP;have h2:=hD.rd;have h3:=hD.wr;omega
    have hcut:=hcN.yX hD (BW (d:=D.bO d N) ⟨hy.w1,hy.s1,hy.fit,hy.room⟩) hfu hf1;have hgo:=hwN.cut hcut;exact⟨_,⟨peak',hpk',r,w,by rw[hX,hY];exact hcost',.inr ⟨_,by rw[hN];exact hgo.more (by omega),by rw[hY];exact hcN.wB hD,rfl,rfl⟩⟩,hs.re [2,3,4] rfl⟩
  .simp only[HV];refine aT (by decide) ?_;obtain⟨r,w,hcost⟩:=hcost;rw[hwx]at hj;have hcut:=gp.bO hc hf hj;refine⟨_,⟨_,hpk1,r,w,by rw[hX,hY];exact hcost,.inr ⟨_,hcut.more (by omega),?_,rfl,rfl⟩⟩,hs.re [1,2,4] rfl⟩;exact(Left.bO hc j).mono fun c' e=>by rw[e];exact fun _ _=>rfl
 refine hs.cC 6 (v:=I (if pz.t=true then 1 else 2)) rfl rfl ?_;simp only[HV];cases ht:pz.t with
 |true=>exact aH rfl j6
 |false=>
  refine aT (by decide) ?_;refine hs.cC 6 (v:=I (if pz.t=true then 1 else 2)) rfl rfl ?_;rw[ht];simp only[HV];exact aH rfl j6
end Eng
namespace W
open Go Go.Hw
theorem ie :prog.follows .mixedOrders=true:=by kernel_rfl
def bL.j6 (K:VK)(x13 x14 x15:Int)(H:Hp):=
 ((2:Int)≠0/\i64=i64/\cF 167 #[I (i64.wrap (Int.tdiv x13 2))] H fun x16 H5=>((2:Int)≠0/\i64=i64/\cF 167 #[I (i64.wrap (x13-(i64.wrap (Int.tdiv x13 2))))] H5 fun x17 H6=>Nw H6 (Oq #[I 0,I 0] 217) fun b2 H7=>bR H7 (O b2) #[I x16,I x17] 2 fun H8=>aM H8 ((O b2).add 1) fun x18=>aM H8 ((O b2).add 0) fun x19=>Nw H8 (Oq #[I 0,I 0] 217) fun b3 H9=>bR H9 (O b3) #[I x18,I x19] 2 fun H10=>aJ H10 (O b2) 2 fun l1=>tc l1.toArray.toList fun x20 x21=>(aJ H10 (O b3) 2 fun l4=>tc l4.toArray.toList fun x22 x23=>(aJ H10 (O b3) 2 fun l7=>tc l7.toArray.toList fun x24 x25=>(aJ H10 (O b2) 2 fun l10=>tc l10.toArray.toList fun x26 x27=>(aJ H10 (O b2) 2 fun l13=>tc l13.toArray.toList fun x28 x29=>(Nw H10 (.row [I x20,I x21,I 0,I (-1),U 1,I 1,I 0,I 1,I x22,I x23,I x14,I x13,U 1,I 2,I 1,I 2,I x24,I x25,I 0,I (-1),U 1,I 1,I 2,I 1,I x26,I x27,I x14,I (-1),U x15,I 2,I 1,I 2,I x28,I x29,I 0,I (-1),U 1,I 1,I 2,I 3] 221 40) fun b4 H11=>K (.slice (Oo b4) 5 5) H11)))))))
def bL.j4 (K:VK)(x6 x7 x8 x9 x10:Int)(H:Hp):=
 ao (decide (x6<=(20:Int))) (cF 167 #[I x6] H fun x11 H2=>ao (decide ((i64.wrap ((i64.wrap (2*x11))+x8))<=x9)) (cF 167 #[I x6] H2 fun x12 H3=>Nw H3 (.row [I 1,I x12,I x7,I (-1),U x10,I 2,I 0,I 3] 221 8) fun b1 H4=>K (.slice (Oo b1) 1 1) H4) (bL.j6 K x6 x7 x10 H2)) (bL.j6 K x6 x7 x10 H)
def bL (x1 x2 x3 x4:Int)(H:Hp)(K:VK):Prop:=
 ao (x2==1) (fe 113 #[I x1] H fun x5 H1=>bL.j4 K x1 x2 x3 x4 x5 H1) (bL.j4 K x1 x2 x3 x4 1 H)
def bL.Λ (K:VK):aN:=⟨fun i=>match Nat.beq i 6 with|true=>some (fun E D H=>eI E 0 .i64 fun x13=>eI E 1 .i64 fun x14=>eI E 9 .u64 fun x15=>az D (bL.j6 K x13 x14 x15 H))|false=>match Nat.beq i 4 with|true=>some (fun E D H=>eI E 0 .i64 fun x6=>eI E 1 .i64 fun x7=>eI E 2 .i64 fun x8=>eI E 3 .i64 fun x9=>eI E 9 .u64 fun x10=>az D (bL.j4 K x6 x7 x8 x9 x10 H))|false=>none,fun i=>none,(fun _=>none)⟩
theorem bL.ok x1 x2 x3 x4 H K (h:bL x1 x2 x3 x4 H K):ae prog 105 #[I x1,I x2,I x3,I x4] H K:=
 dX (Λ:=(bL.Λ K)) ie Tryz.func105 rfl rfl h (oC (fun E D H h=>by
   obtain⟨x6,e0,g2⟩:=GI h;obtain⟨x7,e1,g4⟩:=GI g2;obtain⟨x8,e2,g6⟩:=GI g4;obtain⟨x9,e3,g8⟩:=GI g6;obtain⟨x10,e9,g10⟩:=GI g8;obtain⟨rfl,h'⟩:=az.out g10;exact cY (Λ:=(bL.Λ K)) ie [] (ag.cons e0 (ag.cons e1 (ag.cons e2 (ag.cons e3 (ag.cons e9 (ag.nil _)))))) h' (oC (fun E D H h=>by
     obtain⟨x13,e0,g2⟩:=GI h;obtain⟨x14,e1,g4⟩:=GI g2;obtain⟨x15,e9,g6⟩:=GI g4;obtain⟨rfl,h'⟩:=az.out g6;exact cY (Λ:=(bL.Λ K)) ie [] (ag.cons e0 (ag.cons e1 (ag.cons e9 (ag.nil _)))) h' oN) oN)) oN)
def iU (x1 x2:Int)(H:Hp)(K:VK):Prop:=
 ((2:Int)≠0/\i64=i64/\cF 167 #[I (i64.wrap (Int.tdiv (i64.wrap (x1+1)) 2))] H fun x3 H1=>K (I (i64.wrap ((i64.wrap (2*x3))+x2))) H1)
theorem iU.ok x1 x2 H K (h:iU x1 x2 H K):ae prog 108 #[I x1,I x2] H K:=
 cg ie Tryz.func108 rfl rfl h
def bX.l3 (K:VK):Nat->Int->Int->Int->Hp->Prop
 |0,_,_,_,_=>False
 |k+1,x2,x3,x4,H=>
  let R3:=bX.l3 K k
  ao (decide (x4<x2)) (R3 x2 (i64.wrap (2*x3)) (i64.wrap (x4+1)) H) (K (I x3) H)
def bX (x1:Int)(H:Hp)(K:VK):Prop:=
 (∃ k,bX.l3 K k x1 1 0 H)
def bX.l3.L (K:VK)(k:Nat):dm:=fun E D H=>
 eI E 0 .i64 fun x2=>eI E 3 .i64 fun x3=>eI E 4 .i64 fun x4=>az D (bX.l3 K k x2 x3 x4 H)
def bX.Λ3 (_:VK)(_R3:Int->Int->Int->Hp->Prop):aN:=aN.none (fun _=>none)
def bX.Λ (K:VK):aN:=⟨fun i=>none,fun i=>match Nat.beq i 3 with|true=>some (fun E D H=>∃ k,bX.l3.L K k E D H)|false=>none,(fun _=>none)⟩
theorem bX.ok x1 H K (h:bX x1 H K):ae prog 167 #[I x1] H K:=
 dX (Λ:=(bX.Λ K)) ie Tryz.func167 rfl rfl h (oC (fun E D H h=>by
   refine Safe.c0 (bX.l3.L K) (fun E D H h=>?_) (fun k E D H h=>?_) E D H h
   .obtain⟨w0,e0,g1⟩:=DG.out h;obtain⟨x2,rfl,g2⟩:=DI.out g1;obtain⟨w3,e3,g3⟩:=DG.out g2;obtain⟨x3,rfl,g4⟩:=DI.out g3;obtain⟨w4,e4,g5⟩:=DG.out g4;obtain⟨x4,rfl,g6⟩:=DI.out g5;obtain⟨rfl,h'⟩:=az.out g6;exact h'
   .obtain⟨x2,e0,g2⟩:=GI h;obtain⟨x3,e3,g4⟩:=GI g2;obtain⟨x4,e4,g6⟩:=GI g4;obtain⟨rfl,h'⟩:=az.out g6;exact cY (Λ:=(bX.Λ3 K (bX.l3 K k))) ie [] (ag.cons e0 (ag.cons e3 (ag.cons e4 (ag.nil _)))) h' oN) oN)
end W
namespace Eng
open Go Go.Hw Go.Form W Shp Dsk Str Are Trn Pas Pln
theorem xt (H:Hp)(A B:OA)(n m m':Nat)(ws:List UInt64)(hn:n=ws.length)(hl:n<=1000000000)(ha:Cells H A (ah ws))(hb:Cells H B (ah ws)):
  ∀(t i:Nat),i+t=n->cn.l4 (RetE (.bool true) H) (t+1) A n m B n m' (i:Int) H
 |0,i,h=>by
  unfold cn.l4;exact aw (by omega) (RetE.mk _ _)
 |t+1,i,h=>by
  unfold cn.l4;refine aC (by omega) ?_;have hg:(ah ws)[i]? =some (U ((ws[i]'(by omega)).toNat:Int)):=by
   rw[dO,List.getElem?_eq_getElem (by omega)];rfl
  refine ha.read hg rfl (by rw[aG];omega) ?_;simp only[HV];refine hb.read hg rfl (by rw[aG];omega) ?_;simp only[HV];refine aH rfl ?_;rw[bu (x:=(i:Int)+1)];exact xt H A B n m m' ws hn hl ha hb t (i+1) (by omega)
theorem BE (A B:OA)(n n' m m':Nat)(ws:List UInt64)(hn:n=ws.length)(hn':n'=ws.length)(hl:n<=1000000000)(H:Hp)(ha:Cells H A (ah ws))(hb:Cells H B (ah ws)):
  ae prog 20 #[.slice A n m,.slice B n' m'] H (RetE (.bool true) H):=by
 obtain rfl:n'=n:=by omega
 apply cn.ok;unfold cn;refine aH rfl ⟨n'+1,?_⟩;exact xt H A B n' m m' ws hn hl ha hb n' 0 (by omega)
theorem ye (H:Hp)(k:Nat)(hk:k<=40):∀(t i:Nat),i+t=k->bX.l3 (RetE (I ((2^k:Nat):Int)) H) (t+1) (k:Int) ((2^i:Nat):Int) (i:Int) H
 |0,i,h=>by
  unfold bX.l3;obtain rfl:i=k:=by omega
  exact aw (by omega) (RetE.mk _ _)
 |t+1,i,h=>by
  unfold bX.l3;refine aC (by omega) ?_;have h2:2^i<=2^40:=Nat.pow_le_pow_right (by omega) (by omega);have h0:=Int.natCast_nonneg (2^i);have e:i64.wrap ((2:Int)*((2^i:Nat):Int))=((2^(i+1):Nat):Int):=by
   rw[bu,Nat.pow_succ];omega
  rw[e,bu (x:=(i:Int)+1)];exact ye H k hk t (i+1) (by omega)
theorem rj (k:Nat)(hk:k<=40)(H:Hp):ae prog 167 #[I (k:Int)] H (RetE (I ((2^k:Nat):Int)) H):=by
 apply bX.ok;unfold bX;exact⟨k+1,ye H k hk k 0 (by omega)⟩
theorem Hn (k aa:Nat)(hk:k<=32)(hp:aa<=512)(H:Hp):ae prog 108 #[I (k:Int),I (aa:Int)] H (RetE (I (fB k aa:Int)) H):=by
 have h1:=gV (k:=(k+1)/2);have h0:=Int.natCast_nonneg (2^((k+1)/2));apply iU.ok;unfold iU;rw[bu (x:=(k:Int)+1),show Int.tdiv ((k:Int)+1) 2=(((k+1)/2:Nat):Int)from rfl,ed];refine⟨by decide,by simp,?_⟩;refine ae.use (rj ((k+1)/2) (by omega) H) ?_;simp only[HV];rw[bu (x:=(2:Int)*_),bu];exact RetE.of (by unfold fB;rw[Int.natCast_add];rfl)
theorem zr {k:Nat}(h:k<=6):2^k<=64:=Nat.pow_le_pow_right (n:=2) (by omega) h
theorem Cm {d:Bool}{k aa words:Nat}(hk:k<=32)(hw:fB k aa<=words):∀ p∈dz d k aa words,BB p k aa words:=by
 intro p hp;unfold dz at hp;unfold fB at hw;split at hp
 .rename_i hb
  have hb:=of_decide_eq_true hb;rw[List.mem_singleton.1 hp];exact⟨by show 0<4;omega,by show 3<4;omega,by show(0:Nat)≠3;omega,by show 0+k=k;omega,fun h=>(by cases h),fun _=>⟨hb.1,by show(-1:Int)<=-1;omega,by show(-1:Int)<=32;omega,by show aa+2*2^k<=_;omega⟩⟩
 .have ha:k-k/2=(k+1)/2:=by omega
  have h1:2^(k/2)<=2^((k+1)/2):=Nat.pow_le_pow_right (by omega) (by omega);have hz:∀(ea eb f o:Nat) (t d:Bool) (tw:Int) (sh:UInt64),f<4->o<4->f≠o->ea+eb=k->ea<=(k+1)/2->eb<=(k+1)/2->-1<=tw->tw<=32->BB ⟨t,⟨ea,eb,d,tw,sh⟩,f,o⟩ k aa words:=fun ea eb f o t d tw sh h1 h2 h3 h4 h5 h6 h7 h8=>by
   have q1:2^ea<=2^((k+1)/2):=Nat.pow_le_pow_right (by omega) h5;have q2:2^eb<=2^((k+1)/2):=Nat.pow_le_pow_right (by omega) h6;exact⟨h1,h2,h3,h4,fun _=>by show 2^ea+aa<=words;omega,fun _=>⟨by show eb<=20;omega,h7,h8,by show aa+2*2^eb<=words;omega⟩⟩
  unfold qy at hp;simp only[List.mem_cons,List.not_mem_nil,or_false]at hp;rcases hp with e|e|e|e|e<;>rw[e]<;>exact hz _ _ _ _ _ _ _ _ (by omega) (by omega) (by omega) (by omega) (by omega) (by omega) (by omega) (by omega)
theorem xF (a b:Nat):a/b*b<=a:=Nat.div_mul_le_self a b
theorem Iv {aa cap f o k:Nat}{pz:Pz}{r w:Nat}(h:u9 aa cap f o pz r w)(hk:pz.j.ea+pz.j.eb=k):r<=2*2^k/\w<=2^k:=by
 have hpow:2^pz.j.ea*2^pz.j.eb=2^k:=by rw[<- Nat.pow_add,hk]
 rcases h with⟨_,j,hj,rfl,rfl⟩|⟨_,j,hj,rfl,rfl⟩
 .have h1:=Ft aa f o (2^pz.j.ea) (2^pz.j.eb) (2^j) (2^pz.j.eb/2^j);have h2:=FP aa o (2^pz.j.ea) (2^j) (2^pz.j.eb/2^j);have h3:2^pz.j.eb/2^j*(2^j*2^pz.j.ea)<=2^k:=by
   rw[<- Nat.mul_assoc,<-hpow,Nat.mul_comm (2^pz.j.ea)];exact Nat.mul_le_mul_right _ (xF _ _)
  have h4:2^pz.j.eb/2^j*(2*(2^j*2^pz.j.ea))=2*(2^pz.j.eb/2^j*(2^j*2^pz.j.ea)):=by rw[Nat.mul_left_comm]
  exact⟨by omega,by omega⟩
 .have h1:=Fq aa f o (2^j*2^pz.j.eb) (2^pz.j.ea/2^j);have h2:=FO aa o (2^j*2^pz.j.eb) (2^pz.j.ea/2^j);have h3:2^pz.j.ea/2^j*(2^j*2^pz.j.eb)<=2^k:=by
   rw[<- Nat.mul_assoc,<-hpow];exact Nat.mul_le_mul_right _ (xF _ _)
  have h4:2^pz.j.ea/2^j*(2*(2^j*2^pz.j.eb))=2*(2^pz.j.ea/2^j*(2^j*2^pz.j.eb)):=by rw[Nat.mul_left_comm]
  exact⟨by omega,by omega⟩
theorem vo {aa w:Nat}(hp:1<=aa)(hw:1<=w):nS aa w<=w:=by
 unfold nS;refine Nat.div_le_of_le_mul ?_;obtain⟨a,rfl⟩:∃ a,w=a+1:=⟨w-1,by omega⟩;obtain⟨b,rfl⟩:∃ b,aa=b+1:=⟨aa-1,by omega⟩;rw[Nat.mul_add,Nat.add_mul];omega
theorem LW (x:X){d:D}(hok:Ok d)(src:List UInt64):dV (kO d x src.length 0 src) x 0 src.length=src:=by
 apply List.ext_getElem?;intro i;unfold dV;rw[List.getElem?_map];by_cases h:i<src.length
 .rw[List.getElem?_range h];show some (pw _ x (0+i))=_
  rw[Nat.zero_add,zt x hok 0 src i,if_pos ⟨by omega,by omega⟩,Nat.sub_zero,List.getElem?_eq_getElem h];rfl
 .rw[List.getElem?_eq_none (by rw[List.length_range];omega),List.getElem?_eq_none (by omega)];rfl
theorem Fk {L:List As}{H:Hp}(hs:Sep L H)(i:Nat){b n m:Nat}{xs:List Value}{e:TypeId}{s:Nat}(hi:L[i]? =some (af b (.row xs e m)))(hx:xs.length=n*s)(hm:m=n*s):Sep (L.set i (bH e s (Oo b) n n xs)) H:=
 hs.jE i hi fun H1 hH=>⟨hx,.inr ⟨b,m,rfl,hH,by first|omega|exact hm|exact hm.symm|exact⟨hm,Nat.le_refl _⟩⟩⟩
end Eng
end Go.Proofs.YtlgnlghmbcpmhaaGreatDoor
