import Derived.Test.YtgfildcgihbdaaaGreatDoorProg
import Derived.Test.YtgfildcgihbdaaaGreatDoorPkWholeCost7
set_option maxRecDepth 100000
set_option linter.unusedSimpArgs false
set_option linter.unusedVariables false
set_option linter.unnecessarySimpa false
set_option linter.unusedSectionVars false
open Go.IntKind (i64 u64)
namespace Go.Proofs.YtgfildcgihbdaaaGreatDoor
open Tryz (prog)
namespace Eng
open Go Go.Hw Go.Form Dsk Str Rec Srt Rng Pln Trn
def Mn.r (m:Mn):R:=m.L.getLast?.getD bZh
theorem Mn.r_some {m:Mn}{r:R}(h:m.L.getLast? =some r):m.r=r:=by unfold Mn.r;rw[h];rfl
theorem Mn.r_or (m:Mn):(m.L=[]∧m.r=bZh)∨m.L.getLast? =some m.r:=by
 cases h:m.L.getLast? with
 |none=>exact .inl ⟨List.getLast?_eq_none_iff.1 h,by unfold Mn.r;rw[h];rfl⟩
 |some r=>exact .inr (by rw[Mn.r_some h])
theorem Mn.r_kd {m:Mn}(h:m.r.kd≠0):m.L.getLast? =some m.r:=by
 rcases m.r_or with⟨_,e⟩|e
 ·rw[e]at h;exact absurd rfl h
 ·exact e
def Mn.add (m:Mn)(r:R):Mn:={ m with L:=m.L++[r]}
theorem Mn.add_r (m:Mn)(r:R):(m.add r).r=r:=by unfold Mn.r Mn.add;simp
theorem Mn.add_last (m:Mn)(r:R):(m.add r).L.getLast? =some r:=by unfold Mn.add;simp
structure Small (B:Nat)(m:Mn):Prop where
 len:m.L.length≤B
 ld:m.r.ld≤B
theorem Small.add {B:Nat}{m:Mn}(h:Small B m){r:R}(hr:r.ld≤B+1):Small (B+1) (m.add r):=⟨by unfold Mn.add;have:=h.len;simp;omega,by rw[Mn.add_r];exact hr⟩
def Mn.seq (m:Mn):Nat:=m.L.length+1
theorem Mn.seq_r {sec size:Nat}{m:Mn}{c:Cn}(h:Holds sec size m c):m.r.s+1=m.seq:=by
 rcases m.r_or with⟨e1,e2⟩|e
 ·rw[e2];unfold Mn.seq;rw[e1];rfl
 ·have:=(h.log.last e).2.2;unfold Mn.seq;omega
def cZl (m:Mn)(k:Nat):R:=⟨m.seq,1,k,0,0,m.r.ld+1,0,0⟩
def cZ2 (m:Mn)(k:Nat)(l:List UInt64):R:=⟨m.seq,2,k,0,0,m.r.ld,eZJ l,0⟩
def cZQ (m:Mn)(d:Bool):R:=⟨m.seq,3,m.r.kk,if d=true then 1 else 0,0,m.r.ld,m.r.inp,0⟩
def bZC (m:Mn)(per:Nat):R:=⟨m.seq,4,m.r.kk,m.r.dir,m.r.ps+1,m.r.ld,m.r.inp,eZJ (apL ((aZ4 m per m.r).take (m.r.ps.toNat+1)) m.inp)⟩
section
variable {sec size : Nat} {m : Mn} {c : Cn} (h : Holds sec size m c) {B : Nat} (hs : Small B m) (hB : B ≤ 1000000)
include h hs hB
theorem wZg {k:Nat}(hk:k≤m.most):(cZl m k).good∧(cZl m k).u32∧cZG m.L.getLast? (cZl m k)=true∧Holds sec size (m.add (cZl m k)) (bZx c (aZS 1 8 m.seq) ((cZl m k).form size)):=by
 have hg:=cZ7 h.good;have hl:=hs.len;have hd:=hs.ld;have hsq:m.seq=m.L.length+1:=rfl;have g:(cZl m k).good:=⟨by show 1≤m.seq;omega,by show m.seq<_;omega,by show(0:Int)≤k;omega,by show(k:Int)≤32;omega,.inl rfl,.inl ⟨rfl,rfl,rfl,rfl,rfl⟩⟩;have u:(cZl m k).u32:=⟨by show m.r.ld+1<_;omega,by show 0<_;omega,by show 0<_;omega⟩;have may:cZG m.L.getLast? (cZl m k)=true:=by
  have hsr:=Mn.seq_r h;rcases m.r_or with⟨e1,e2⟩|e
  ·rw[e1];exact decide_eq_true ⟨by show m.seq=1;rw[hsq,e1];rfl,rfl⟩
  ·rw[e];exact decide_eq_true ⟨(h.log.last e).1,g,by show m.seq=_;omega,.inl rfl⟩
 exact⟨g,u,may,h.app g u may (by show(k:Int)≤m.most;omega) (fun h2=>absurd h2 (show ¬(2:Int)≤1 by omega)) (fun h4=>absurd h4 (show ¬(1:Int)=4 by omega))⟩
theorem vZD {k:Nat}(hk:m.r.kd=1)(hkk:m.r.kk=k){l:List UInt64}(hl:l.length=2^k)(hcan:∀ w∈l,w.toNat<18446744069414584321)(hw:cws c (size/8) 9 (2^k)=l):
  (cZ2 m k l).good∧(cZ2 m k l).u32∧cZG m.L.getLast? (cZ2 m k l)=true∧Holds sec size ({ m with inp:=l}.add (cZ2 m k l)) (bZx c (aZS 1 8 m.seq) ((cZ2 m k l).form size)):=by
 have hg:=cZ7 h.good;have hlen:=hs.len;have hd:=hs.ld;have hsq:m.seq=m.L.length+1:=rfl;have e:=Mn.r_kd (m:=m) (by omega);have hkm:=h.kk _ e;have hm:Holds sec size { m with inp:=l} c:=⟨h.sup,h.good,h.least,h.log,h.ring,h.kk,fun r hr h2=>by
  have e1:m.L.getLast? =some r:=hr;rw[e]at e1;cases e1;omega,fun r hr h4=>by
  have e1:m.L.getLast? =some r:=hr;rw[e]at e1;cases e1;omega⟩
 have g:(cZ2 m k l).good:=⟨by show 1≤m.seq;omega,by show m.seq<_;omega,by show(0:Int)≤k;omega,by show(k:Int)≤32;omega,.inl rfl,.inr (.inl ⟨rfl,rfl,rfl,rfl⟩)⟩;have u:(cZ2 m k l).u32:=⟨by show m.r.ld<_;omega,pZN l,by show 0<_;omega⟩;have may:cZG m.L.getLast? (cZ2 m k l)=true:=by
  have hsr:=Mn.seq_r h;rw[e];exact decide_eq_true ⟨(h.log.last e).1,g,by show m.seq=_;omega,.inr (.inl ⟨rfl,hk,rfl,hkk⟩)⟩
 exact⟨g,u,may,hm.app g u may (by show(k:Int)≤m.most;omega) (fun _=>⟨by show l.length=2^((k:Int).toNat);rw[Int.toNat_natCast];exact hl,hcan,rfl,by show cws c _ 9 (2^((k:Int).toNat))=l;rw[Int.toNat_natCast];exact hw⟩) (fun h4=>absurd h4 (show ¬(2:Int)=4 by omega))⟩
theorem vZ8 (hk:2≤m.r.kd)(d:Bool):(cZQ m d).good∧(cZQ m d).u32∧cZG m.L.getLast? (cZQ m d)=true∧Holds sec size (m.add (cZQ m d)) (bZx c (aZS 1 8 m.seq) ((cZQ m d).form size)):=by
 have hg:=cZ7 h.good;have hlen:=hs.len;have hd:=hs.ld;have hsq:m.seq=m.L.length+1:=rfl;have e:=Mn.r_kd (m:=m) (by omega);have hkm:=h.kk _ e;have hr:=h.log.last e;have hi:=h.inp _ e hk;have g:(cZQ m d).good:=⟨by show 1≤m.seq;omega,by show m.seq<_;omega,hr.1.2.2.1,hr.1.2.2.2.1,by show(if d=true then(1:Int)else 0)=0∨(if d=true then(1:Int)else 0)=1;cases d<;>simp,.inr (.inr (.inl ⟨rfl,rfl⟩))⟩;have u:(cZQ m d).u32:=⟨by show m.r.ld<_;omega,hr.2.1.inp,by show 0<_;omega⟩;have may:cZG m.L.getLast? (cZQ m d)=true:=by
  have hsr:=Mn.seq_r h;rw[e];exact decide_eq_true ⟨hr.1,g,by show m.seq=_;omega,.inr (.inr (.inl ⟨rfl,by omega,rfl,rfl,rfl,rfl⟩))⟩
 exact⟨g,u,may,h.app g u may hkm (fun _=>⟨hi.len,hi.can,hi.sum,hi.ws⟩) (fun h4=>absurd h4 (show ¬(3:Int)=4 by omega))⟩
end
theorem cZ6 (d:Bool)(k per words:Nat):1≤(aZb d k per words).length∧(aZb d k per words).length≤5:=by
 unfold aZb gZf;split<;>simp
theorem lZM (d:Bool)(k per words:Nat):∀ i p,(aZb d k per words)[i]? =some p→(1≤p.o∧p.o≤3∧p.o≠p.f)∧(i=0→p.f=0)∧∀ q,(aZb d k per words)[i-1]? =some q→1≤i→p.f=q.o:=by
 intro i p hp;unfold aZb at hp⊢;split at hp
 ·rename_i hb
  rw[if_pos hb];rcases i with _|i
  ·cases hp;exact⟨⟨by show 1≤3;omega,by show 3≤3;omega,by show(3:Nat)≠0;omega⟩,fun _=>rfl,fun q _ h=>by omega⟩
  ·simp at hp
 ·rename_i hb
  rw[if_neg hb];unfold gZf at hp⊢;rcases i with _|_|_|_|_|i
  all_goals first|(cases hp;exact⟨⟨by simp,by simp,by simp⟩,fun h=>by first|rfl|omega,fun q hq h=>by first|omega|(cases hq;rfl)⟩)|simp at hp
theorem R.ps_nn {r:R}(h:r.good):0≤r.ps:=by
 obtain⟨_,_,_,_,_,h|h|h|h⟩:=h<;>omega
section
variable {sec size : Nat} {m : Mn} {c : Cn} (h : Holds sec size m c) {B : Nat} (hs : Small B m) (hB : B ≤ 1000000)
include h hs hB
theorem vZN (hk:3≤m.r.kd){p:Pz}(hp:(aZ4 m (size/8) m.r)[m.r.ps.toNat]? =some p)(hw:cws c (size/8) (9+p.o*Lay.ZF m.most (size/8)) (2^m.r.kk.toNat)=apL ((aZ4 m (size/8) m.r).take (m.r.ps.toNat+1)) m.inp):
  (bZC m (size/8)).good∧(bZC m (size/8)).u32∧cZG m.L.getLast? (bZC m (size/8))=true∧Holds sec size (m.add (bZC m (size/8))) (bZx c (aZS 1 8 m.seq) ((bZC m (size/8)).form size)):=by
 have hg:=cZ7 h.good;have hlen:=hs.len;have hd:=hs.ld;have hsq:m.seq=m.L.length+1:=rfl;have e:=Mn.r_kd (m:=m) (by omega);have hkm:=h.kk _ e;have hr:=h.log.last e;have hi:=h.inp _ e (by omega);have hps:=R.ps_nn hr.1;have hlt:=(List.getElem?_eq_some_iff.1 hp).1;have hl5:=(cZ6 (fZE m.r) m.r.kk.toNat (size/8) m.arena).2;have hl5:(aZ4 m (size/8) m.r).length≤5:=hl5;have g:(bZC m (size/8)).good:=⟨by show 1≤m.seq;omega,by show m.seq<_;omega,hr.1.2.2.1,hr.1.2.2.2.1,hr.1.2.2.2.2.1,.inr (.inr (.inr ⟨rfl,by show 1≤m.r.ps+1;omega,by show m.r.ps+1≤7;omega⟩))⟩;have u:(bZC m (size/8)).u32:=⟨by show m.r.ld<_;omega,hr.2.1.inp,pZN _⟩;have may:cZG m.L.getLast? (bZC m (size/8))=true:=by
  have hsr:=Mn.seq_r h;rw[e];exact decide_eq_true ⟨hr.1,g,by show m.seq=_;omega,.inr (.inr (.inr ⟨rfl,hk,rfl,rfl,rfl,rfl,rfl⟩))⟩
 have ept:(bZC m (size/8)).ps.toNat=m.r.ps.toNat+1:=by show(m.r.ps+1).toNat=_;omega
 have epl:aZ4 m (size/8) (bZC m (size/8))=aZ4 m (size/8) m.r:=rfl;refine⟨g,u,may,h.app g u may hkm (fun _=>⟨hi.len,hi.can,hi.sum,hi.ws⟩) fun _=>⟨?_,fun q hq=>?_,?_⟩⟩
 ·rw[ept,epl];omega
 ·rw[ept,epl,Nat.add_sub_cancel,hp]at hq;cases hq;rw[ept,epl];exact hw
 ·rw[ept,epl];rfl
theorem xZb (hk:3≤m.r.kd){p:Pz}(hp:(aZ4 m (size/8) m.r)[m.r.ps.toNat]? =some p):
  cws c (size/8) (9+p.f*Lay.ZF m.most (size/8)) (2^m.r.kk.toNat)=apL ((aZ4 m (size/8) m.r).take m.r.ps.toNat) m.inp∧(if m.r.ps=0 then m.r.inp else m.r.out)=eZJ (apL ((aZ4 m (size/8) m.r).take m.r.ps.toNat) m.inp)∧
  (∀ q,m.r.kd=4→(aZ4 m (size/8) m.r)[m.r.ps.toNat-1]? =some q→p.o≠q.o):=by
 have e:=Mn.r_kd (m:=m) (by omega);have hr:=h.log.last e;have hi:=h.inp _ e (by omega);have ends:=lZM (fZE m.r) m.r.kk.toNat (size/8) m.arena _ p hp;have hps:=R.ps_nn hr.1;have h4:m.r.kd=3∧m.r.ps=0∨m.r.kd=4∧1≤m.r.ps:=by
  obtain⟨_,_,_,_,_,h|h|h|h⟩:=hr.1<;>omega
 rcases h4 with⟨k3,p0⟩|⟨k4,p1⟩
 ·have:m.r.ps.toNat=0:=by omega
  rw[this]at ends hp⊢;rw[ends.2.1 rfl,Nat.zero_mul,Nat.add_zero,if_pos p0];refine⟨hi.ws,hi.sum,fun q hq=>by omega⟩
 ·have ho:=h.out _ e k4;have hlt:=(List.getElem?_eq_some_iff.1 hp).1;have hq:(aZ4 m (size/8) m.r)[m.r.ps.toNat-1]? =some (aZ4 m (size/8) m.r)[m.r.ps.toNat-1]:=List.getElem?_eq_getElem (by omega);have hf:=ends.2.2 _ hq (by omega);rw[if_neg (by omega),hf];refine⟨ho.ws _ hq,ho.sum,fun q _ hq'=>?_⟩;rw[hq]at hq';cases hq';rw[← hf];exact ends.1.2.2
end
end Eng
namespace Str
open Go Go.Hw Go.Form W Dsk Are
section
variable {p q dp ap bp bq bt b rb mb : Nat} {d : D} {x y : X} {cap peak : Int} {bufs : List (Nat × Nat × Option Addr)} {ws : List UInt64}
end
structure uZI (d d':D)(x y:X)(i k:Nat):Prop where
 ok:Ok d'
 calm:Calm d'
 size:d'.size=d.size
 sec:d'.sec=d.sec
 rd:d'.rd≤d.rd+1000*i
 wr:d'.wr≤d.wr+1000*i
 src:∀ j,j<x.w→pw d' x j=pw d x j
 dst:∀ j,j<k→pw d' y j=pw d x j
theorem uZI.per {d d':D}{x y:X}{i k:Nat}(h:uZI d d' x y i k):D.per d'=D.per d:=by unfold D.per;rw[h.size]
theorem kZ7 {P:Program}{g:FuncId}{t:TypeId}{k:IntKind}{n:Int}{K:Value→Prop}(h:bZv P g=[t])(hu:P.underlying t=some (.int k))(hk:K (.int k n)):DR P (bZv P g) (.int k n) K:=by
 rw[h];show DT P t _ K
 unfold DT;rw[hu];simpa using hk
section
variable {p q dp ap bp bq bt b rb mb vb : Nat} {d : D} {x y : X} {cap peak P1 : Int} {bufs : List (Nat × Nat × Option Addr)}
theorem vZI {per left:Nat}{l:Int}(h:l=left):(if(per:Int)<l then(per:Int)else l)=((if per<left then per else left:Nat):Int):=by
 subst h;by_cases c:per<left
 ·rw[if_pos c,if_pos (by omega)]
 ·rw[if_neg c,if_neg (by omega)]
end
section
variable {p q dp ap : Nat} {d : D} {x y : X} {cap peak : Int} {bufs : List (Nat × Nat × Option Addr)}
end
theorem xZI (a b c d e:Value):((#[]++ #[a,b,c])++ #[d,e]:Array Value)=#[a,b,c,d,e]:=rfl
section
variable {p dp ap bp : Nat} {d : D} {x : X} {cap peak : Int} {bufs : List (Nat × Nat × Option Addr)} {B : As}
def lZq (p dp ap bp b rb mb vb:Nat)(d:D)(x:X)(cap pk:Int)(bufs:List (Nat×Nat×OA))(per:Nat)(ws:List UInt64)(B:As):List As:=
 [pts p (ZI dp ap x),Dk dp d,Ar ap cap pk (bufs++[(b,per,some ⟨rb,0,none⟩)]),pts rb (.row (Zc ws) 82 mb),pts bp (.obj (.cells #[.pointer (some ⟨p,0,none⟩)] 153)),B,pts vb (.row [.pointer (some ⟨b,0,none⟩)] 195 1)]
theorem pZk (K:VK)(f:FuncId)(C:Array Value)(hok:Ok d)(hcap:(D.per d:Int)≤cap-ZE bufs){H:Hp}
  (hs:Sep [pts p (ZI dp ap x),Dk dp d,Ar ap cap peak bufs,pts bp (.obj (.cells #[.pointer (some ⟨p,0,none⟩)] 153)),B] H)
  (k:∀ b rb vb H,(∀ z∈bufs,z.1≠b)→Sep (lZq p dp ap bp b rb (D.per d) vb d x cap (mx peak (ZE bufs+D.per d)) bufs (D.per d) (List.replicate (D.per d) 0) B) H→
   ∃ t,ZK.l6 K t (some ⟨p,0,none⟩) f #[] C (some ⟨b,0,none⟩) 0 (x.w:Int) (x.f:Int) (some ⟨ap,0,none⟩) (some ⟨vb,0,none⟩) 1 1 H):
  Za prog 121 #[.pointer (some ⟨p,0,none⟩),.func (.func f) #[] C] H K:=by
 have hp:=Ok.per_le hok;apply ZK.ok;unfold ZK;simp only[HS];have rest:∀(b rb:Nat) (H:Hp),(∀ y∈bufs,y.1≠b)→Sep [Ar ap cap (if ZE bufs+D.per d>peak then ZE bufs+D.per d else peak) (bufs++[(b,D.per d,some ⟨rb,0,none⟩)]),pts rb (.row (bZj (D.per d)) 82 (D.per d)),pts p (ZI dp ap x),Dk dp d,pts bp (.obj (.cells #[.pointer (some ⟨p,0,none⟩)] 153)),B] H→
   ZK.j2 K (some ⟨p,0,none⟩) f #[] C (some ⟨b,0,none⟩) 0 H:=fun b rb H hbm hs=>by
  unfold ZK.j2;refine Zq rfl ?_;simp only[HS];refine hs.ld 2 rfl rfl ?_;simp only[HV];refine hs.nw fun vb H hs=>?_
  refine ZQ.use (gZB hs 2 rfl) ?_;simp only[HV];refine hs.ld 2 rfl rfl ?_;simp only[HV];have hz:bZj (D.per d)=Zc (List.replicate (D.per d) 0):=by
   unfold bZj;rw[bZw];unfold Zc;rw[List.map_replicate];rfl
  rw[hz]at hs;exact k b rb vb H hbm (hs.re [2,3,0,1,4,5,6] rfl)
 have fresh:∀{L:List As} {H:Hp} (b rb:Nat) (pk:Int),Sep L H→L[0]? =some (Ar ap cap pk (bufs++[(b,D.per d,some ⟨rb,0,none⟩)]))→∀ y∈bufs,y.1≠b:=fun b rb pk hs h0 y hy e=>by
  obtain⟨mp,cl,tk,hA⟩:=Sep.ar hs 0 h0;have:=hA.bn;rw[List.map_append,List.nodup_append]at this;exact this.2.2 y.1 (List.mem_map_of_mem hy) b (by simp) e
 refine⟨?_,?_⟩
 ·refine hs.ld 0 rfl rfl ?_;simp only[HV];refine Za.use (eZ3 hs 0 1 rfl rfl hok) ?_
  try simp only[HV]
  refine(eZR (a:=ap) (cap:=cap) (peak:=peak) (bufs:=bufs) (n:=D.per d) (by omega) hcap).use hs [2] rfl rfl ?_;rintro _ _ H ⟨b,rb,rfl,rfl⟩ hs;simp only[HV];exact rest b rb H (fresh b rb _ hs rfl) hs
 ·refine Za.use (eZ3 hs 0 1 rfl rfl hok) ?_
  try simp only[HV]
  refine hs.ld 0 rfl rfl ?_;simp only[HV];refine(eZR (a:=ap) (cap:=cap) (peak:=peak) (bufs:=bufs) (n:=D.per d) (by omega) hcap).use hs [2] rfl rfl ?_;rintro _ _ H ⟨b,rb,rfl,rfl⟩ hs;simp only[HV];exact rest b rb H (fresh b rb _ hs rfl) hs
end
section
variable {p dp ap bp bw b rb mb : Nat} {d : D} {x : X} {cap peak : Int} {bufs : List (Nat × Nat × Option Addr)}
end
section
variable {p dp ap bp bw b rb mb vb : Nat} {d : D} {x : X} {cap peak pk : Int} {bufs : List (Nat × Nat × Option Addr)}
end
section
variable {p dp ap bp bc b rb mb vb : Nat} {d : D} {x : X} {cap peak pk : Int} {bufs : List (Nat × Nat × Option Addr)}
def ctr (bc:Nat)(ws:List UInt64):As:=pts bc (CrcP.counter (Go.Crc.sum (form ws)) (8*ws.length))
def uZr (bp bc:Nat):Array Value:=#[.pointer (some ⟨bp,0,none⟩),.pointer (some ⟨bc,0,none⟩)]
end
def nS (per w:Nat):Nat:=(w+per-1)/per
theorem uZT {per w i:Nat}(hp:1≤per):i<nS per w↔i*per<w:=by
 unfold nS;rw[Nat.lt_iff_add_one_le,Nat.le_div_iff_mul_le (by omega),Nat.succ_mul];omega
section
variable {p dp ap bp bc b rb mb vb : Nat} {d : D} {x : X} {cap peak pk : Int} {bufs : List (Nat × Nat × Option Addr)}
theorem wZC {ws pre:List UInt64}(hok:Ok d)(hl:d.down=false)(ho:d.rd≤4611685000000000000)(s n:Nat)(hs1:s<d.sec)(hn2:n≤D.per d)(hpre:pre.length≤1000000000)
  (hbm:(b,D.per d,some ⟨rb,0,none⟩)∈bufs) (hws:ws.length=D.per d):
  Tr prog 122 #[.int .i64 s,.int .i64 n,.pointer (some ⟨b,0,none⟩),.pointer (some ⟨bp,0,none⟩),.pointer (some ⟨bc,0,none⟩)]
   [pts p (ZI dp ap x),Dk dp d,Ar ap cap peak bufs,pts rb (.row (Zc ws) 82 mb),pts bp (.obj (.cells #[.pointer (some ⟨p,0,none⟩)] 153)),ctr bc pre] fun v M=>
   (d.fuse≠1∧v= .int .i64 0∧M=[pts p (ZI dp ap x),Dk dp (D.mr d),Ar ap cap peak bufs,pts rb (.row (Zc (aZG (d.now s))) 82 mb),pts bp (.obj (.cells #[.pointer (some ⟨p,0,none⟩)] 153)),ctr bc (pre++(aZG (d.now s)).take n)])∨
   (d.fuse=1∧v= .int .i64 8∧M=[pts p (ZI dp ap x),Dk dp (D.dead d),Ar ap cap peak bufs,pts rb (.row (Zc ws) 82 mb),pts bp (.obj (.cells #[.pointer (some ⟨p,0,none⟩)] 153)),ctr bc pre]):=fun H hs=>by
 have hp:=Ok.per_le hok;have hwl:(aZG (d.now (s:Int))).length=D.per d:=by rw[cZ3,hok.now];rfl
 have htl:((aZG (d.now (s:Int))).take n).length=n:=by rw[List.length_take];omega
 apply dZi.ok;unfold dZi
 try simp only[HS]
 refine hs.ld 4 rfl rfl ?_;simp only[HV]
 try simp only[HS]
 refine(oZy (p:=p) (ap:=ap) (x:=x) (cap:=cap) (peak:=peak) (b:=b) (rb:=rb) (m:=mb) hok hl (by omega) (s:Int) (Int.natCast_nonneg _) (Int.ofNat_lt.2 hs1) hbm (xs:=Zc ws) (by rw[Zr];exact hws)).use hs [0,1,2,3] rfl rfl ?_;rintro _ _ H (⟨hf,rfl,rfl⟩|⟨hf,rfl,rfl⟩) hs
 ·simp only[HV];refine ZS rfl ?_;refine Za.use (eZu hs 2 rfl hbm) ?_;simp only[HV];refine lZX rfl (by omega) ?_;rw[oZ1,Nat.sub_zero,Nat.sub_zero];have hcell:Cells H (some ⟨rb,0,none⟩) (Zc ((aZG (d.now (s:Int))).take n)):=by
   have:=Cells.row (hs.get 3 (b:=rb) (o:=.row (Zc (aZG (d.now (s:Int)))) 82 mb) rfl) 0 n;rw[List.drop_zero]at this;rw[show Zc ((aZG (d.now (s:Int))).take n)=(Zc (aZG (d.now (s:Int)))).take n by unfold Zc;rw[List.map_take]];exact this
  have hs:Sep [pts p (ZI dp ap x),Dk dp (D.mr d),Ar ap cap peak bufs,pts rb (.row (Zc (aZG (d.now (s:Int)))) 82 mb),pts bp (.obj (.cells #[.pointer (some ⟨p,0,none⟩)] 153)),pts bc (CrcP.counter (Go.Crc.sum (form pre)) (8*pre.length))] H:=hs;refine Za.use (CrcP.pZf bc (Go.Crc.sum (form pre)) (8*pre.length) (some ⟨rb,0,none⟩) n (D.per d) ((aZG (d.now (s:Int))).take n) htl.symm H (hs.get 5 rfl) hcell (by omega) (by omega)) ?_;have hs2:=hs.put 5 (CrcP.counter (Go.Crc.more (Go.Crc.sum (form pre)) (form ((aZG (d.now (s:Int))).take n))) (8*pre.length+8*n)) rfl;refine⟨_,.inl ⟨hf,by first|rfl|trivial,rfl⟩,?_⟩;have e:ctr bc (pre++(aZG (d.now (s:Int))).take n)=pts bc (CrcP.counter (Go.Crc.more (Go.Crc.sum (form pre)) (form ((aZG (d.now (s:Int))).take n))) (8*pre.length+8*n)):=by
   unfold ctr;rw[List.length_append,htl,Nat.mul_add];have:form (pre++(aZG (d.now (s:Int))).take n)=form pre++form ((aZG (d.now (s:Int))).take n):=by unfold form;rw[List.flatMap_append]
   rw[this];unfold Go.Crc.sum;rw[Go.Crc.more_append]
  rw[e];exact hs2
 ·simp only[HV];refine aZg (by decide) ?_;exact⟨_,.inr ⟨hf,by first|rfl|trivial,rfl⟩,hs⟩
def uZs (p dp ap:Nat)(d:D)(x:X)(cap pk:Int)(bufs:List (Nat×Nat×OA))(v:Value)(M:List As):Prop:=
 ((d.fuse=0∨nS (D.per d) x.w<d.fuse)∧v= .tuple #[.int .u32 ((Go.Crc.sum (form (pws d x 0 x.w))).toNat:Int),.int .i64 0]∧M=[pts p (ZI dp ap x),Dk dp (D.rdG d (nS (D.per d) x.w)),Ar ap cap pk bufs])∨
 (∃ j,j<nS (D.per d) x.w∧d.fuse=j+1∧v= .tuple #[.int .u32 0,.int .i64 8]∧M=[pts p (ZI dp ap x),Dk dp (D.dead (D.rdG d j)),Ar ap cap pk bufs])
theorem qZK (K:VK)(hok:Ok d)(hl:d.down=false)(hbm:∀ z∈bufs,z.1≠b)(hx:On d x)(ho:d.rd≤3000000000000000000)
  (hK:∀ H,(d.fuse=0∨nS (D.per d) x.w<d.fuse)→Sep [pts p (ZI dp ap x),Dk dp (D.rdG d (nS (D.per d) x.w)),Ar ap cap pk bufs,ctr bc (pws d x 0 x.w)] H→K (.int .i64 0) H)
  (hD:∀ j H pre,j<nS (D.per d) x.w→d.fuse=j+1→Sep [pts p (ZI dp ap x),Dk dp (D.dead (D.rdG d j)),Ar ap cap pk bufs,ctr bc pre] H→K (.int .i64 8) H):
  ∀(t i:Nat) (ws:List UInt64) (H:Hp),x.w≤(i+t)*D.per d→i≤nS (D.per d) x.w→(d.fuse=0∨i<d.fuse)→ws.length=D.per d→
   Sep (lZq p dp ap bp b rb mb vb (D.rdG d i) x cap pk bufs (D.per d) ws (ctr bc (pws d x 0 (if i*D.per d<x.w then i*D.per d else x.w)))) H→
   ZK.l6 K (t+2) (some ⟨p,0,none⟩) 122 #[] (uZr bp bc) (some ⟨b,0,none⟩) 0 ((x.w:Int)-((i*D.per d:Nat):Int)) ((x.f+i:Nat):Int) (some ⟨ap,0,none⟩) (some ⟨vb,0,none⟩) 1 1 H:=fun t=>by
 have hp:=Ok.per_le hok;have hsec:=hok.sec;have hroom:x.s*D.per d≤1048576*512:=Nat.mul_le_mul (by have:=hx.fit;omega) (by omega);have h4:=hx.room;have hw1:=hx.w1;have hfit:=hx.fit;have fin:∀(i:Nat) (ws:List UInt64) (H:Hp),x.w≤i*D.per d→i≤nS (D.per d) x.w→(d.fuse=0∨i<d.fuse)→Sep (lZq p dp ap bp b rb mb vb (D.rdG d i) x cap pk bufs (D.per d) ws (ctr bc (pws d x 0 (if i*D.per d<x.w then i*D.per d else x.w)))) H→
   aZU prog 117 #[.pointer (some ⟨ap,0,none⟩),.slice (some ⟨vb,0,none⟩) 1 1] H fun _ H9=>K (.int .i64 0) H9:=fun i ws H hi hie hfu hs=>by
  have e:i=nS (D.per d) x.w:=by
   rcases Nat.lt_or_ge i (nS (D.per d) x.w)with h|h
   ·have:=(uZT (by omega)).1 h;omega
   ·omega
  rw[if_neg (by omega)]at hs;unfold lZq at hs;refine(cZo vb b (D.per d) (some ⟨rb,0,none⟩) hbm).use hs [2,6] rfl rfl ?_;rintro _ _ H ⟨rfl,rfl⟩ hs;subst e;exact hK H hfu (hs.re [1,2,0,5] rfl)
 induction t with
 |zero=>
  intro i ws H hi hie hfu hws hs;rw[Nat.add_zero]at hi;unfold ZK.l6;exact Zh (by omega) (fin i ws H hi hie hfu hs)
 |succ t ih=>
  intro i ws H hi hie hfu hws hs;by_cases hlt:i*D.per d<x.w
  ·have his:i<x.s:=by
    apply Nat.lt_of_mul_lt_mul_right (a:=D.per d);omega
   have hin:=(uZT (per:=D.per d) (w:=x.w) (i:=i) (by omega)).2 hlt;have hokj:=Ok.rdG hok i;have hlj:(D.rdG d i).down=false:=hl;generalize hnv:(if D.per d<x.w-i*D.per d then D.per d else x.w-i*D.per d)=n;have hn1:1≤n∧n≤D.per d∧i*D.per d+n≤x.w:=by rw[← hnv];split<;>omega
   rw[if_pos hlt]at hs;unfold lZq at hs;unfold ZK.l6;refine Zn (by omega) (ZS rfl ?_)
   try simp only[HS]
   refine Za.use (eZ3 hs 0 1 rfl rfl hokj) ?_
   try simp only[HV]
   rw[show D.per (D.rdG d i)=D.per d from rfl];refine aZx (by kernel_rfl) ?_;unfold uZr;rw[xZI,vZI (left:=x.w-i*D.per d) (by omega),hnv];have hs1:x.f+i<(D.rdG d i).sec:=by show _<d.sec;omega
   have ho1:(D.rdG d i).rd≤4611685000000000000:=by show d.rd+i≤_;omega
   have hpl:(pws d x 0 (i*D.per d)).length≤1000000000:=by rw[dZZ];omega
   refine(wZC (p:=p) (dp:=dp) (ap:=ap) (bp:=bp) (bc:=bc) (b:=b) (rb:=rb) (mb:=mb) (d:=D.rdG d i) (x:=x) (cap:=cap) (peak:=pk) (bufs:=bufs++[(b,D.per d,some ⟨rb,0,none⟩)]) (ws:=ws) (pre:=pws d x 0 (i*D.per d)) hokj hlj ho1 (x.f+i) n hs1 hn1.2.1 hpl (List.mem_append_right _ (List.mem_singleton.2 rfl)) hws).use hs [0,1,2,3,4,5] rfl rfl ?_;have hwl:(aZG (d.now ((x.f+i:Nat):Int))).length=D.per d:=by rw[cZ3,hok.now];rfl
   have e1:i64.wrap ((x.w:Int)-((i*D.per d:Nat):Int)-(D.per d:Int))=(x.w:Int)-(((i+1)*D.per d:Nat):Int):=by
    rw[ZG (by omega) (by omega),Nat.succ_mul];omega
   have e2:i64.wrap (((x.f+i:Nat):Int)+1)=((x.f+(i+1):Nat):Int):=by
    rw[ZG (by omega) (by omega)];omega
   rintro _ _ H (⟨hf,rfl,rfl⟩|⟨hf,rfl,rfl⟩) hs
   ·refine kZ7 (t:=40) (by kernel_rfl) (by kernel_rfl) ?_;rw[oZQ]at hs;simp only[HV];refine Za.use (eZ3 hs 0 1 rfl rfl (Ok.rdG hok (i+1))) ?_
    try simp only[HV]
    rw[show D.per (D.rdG d (i+1))=D.per d from rfl,e1,e2];have hnext:i*D.per d+n=(if(i+1)*D.per d<x.w then(i+1)*D.per d else x.w):=by
     rw[Nat.succ_mul,←hnv];split<;>split<;>omega
    have hpc:(aZG (d.now ((x.f+i:Nat):Int))).take n=pws d x (i*D.per d) n:=by
     have:=kZu hok x (fr:=i*D.per d) (k:=n) (by rw[Nat.mul_mod_left];omega);rw[Nat.mul_div_cancel _ (by omega),Nat.mul_mod_left,List.drop_zero]at this;exact this
    have hpa:pws d x 0 (i*D.per d)++(aZG (d.now ((x.f+i:Nat):Int))).take n=pws d x 0 (i*D.per d+n):=by
     rw[pZ4,Nat.zero_add,hpc]
    have hf':d.fuse-i≠1:=hf;refine ih (i+1) (aZG (d.now ((x.f+i:Nat):Int))) H (by rw[show i+1+t=i+(t+1) by omega];exact hi) (by omega) (by omega) hwl ?_;rw[← hnext,←hpa];exact hs
   ·refine kZ7 (t:=40) (by kernel_rfl) (by kernel_rfl) ?_;simp only[HV];have hf':d.fuse-i=1:=hf;have hokd:Ok (D.dead (D.rdG d i)):=Ok.dead hokj;refine Za.use (eZ3 hs 0 1 rfl rfl hokd) ?_
    try simp only[HV]
    rw[show D.per (D.dead (D.rdG d i))=D.per d from rfl,e1,e2];unfold ZK.l6;have give:aZU prog 117 #[.pointer (some ⟨ap,0,none⟩),.slice (some ⟨vb,0,none⟩) 1 1] H fun _ H9=>K (.int .i64 8) H9:=by
     refine(cZo vb b (D.per d) (some ⟨rb,0,none⟩) hbm).use hs [2,6] rfl rfl ?_;rintro _ _ H ⟨rfl,rfl⟩ hs;exact hD i H _ hin (by omega) (hs.re [1,2,0,5] rfl)
    by_cases hgt:(x.w:Int)-(((i+1)*D.per d:Nat):Int)>0
    ·exact Zn hgt (aZg (by decide) give)
    ·exact Zh hgt give
  ·unfold ZK.l6;exact Zh (by omega) (fin i ws H (by omega) hie hfu hs)
theorem mZb (hok:Ok d)(hl:d.down=false)(hx:On d x)(ho:d.rd≤3000000000000000000)(hcap:(D.per d:Int)≤cap-ZE bufs):
  Tr prog 84 #[.pointer (some ⟨p,0,none⟩)] [pts p (ZI dp ap x),Dk dp d,Ar ap cap peak bufs] (uZs p dp ap d x cap (mx peak (ZE bufs+D.per d)) bufs):=fun H hs=>by
 have hp:=Ok.per_le hok;apply dZT.ok;unfold dZT;refine hs.nw fun bp H hs=>?_
 refine hs.nw fun bc H hs=>?_
 refine hs.ld 3 rfl rfl ?_;simp only[HV];have h0:ctr bc []=pts bc (.obj (.cells #[.int .u32 0,.int .i64 0] 208)):=by
  unfold ctr CrcP.counter;rfl
 have hs:Sep [pts p (ZI dp ap x),Dk dp d,Ar ap cap peak bufs,pts bp (.obj (.cells #[.pointer (some ⟨p,0,none⟩)] 153)),ctr bc []] H:=by rw[h0];exact hs
 refine pZk (peak:=peak) (bufs:=bufs) (cap:=cap) (B:=ctr bc []) _ 122 (uZr bp bc) hok hcap hs fun b rb vb H hbm hs=>?_
 have e9:(x.w:Int)-((0*D.per d:Nat):Int)=x.w:=by rw[Nat.zero_mul];omega
 have e0:(if 0*D.per d<x.w then 0*D.per d else x.w)=0:=by rw[Nat.zero_mul,if_pos (show 0<x.w from hx.w1)]
 refine⟨x.w+2,?_⟩;have t:=qZK (p:=p) (dp:=dp) (ap:=ap) (bp:=bp) (bc:=bc) (b:=b) (rb:=rb) (mb:=D.per d) (vb:=vb) (d:=d) (x:=x) (cap:=cap) (pk:=mx peak (ZE bufs+D.per d)) (bufs:=bufs)
  (fun v2 H3=>DI .i64 v2 fun x1=>BIf (x1 !=(0:Int)) (∃ M,uZs p dp ap d x cap (mx peak (ZE bufs+D.per d)) bufs (.tuple #[.int .u32 0,.int .i64 x1]:Value) M∧Sep M H3)
   (Za prog 124 #[.pointer (some (⟨bc,0,none⟩:Addr))] H3 fun v3 H4=>DI .u32 v3 fun x2=>∃ M,uZs p dp ap d x cap (mx peak (ZE bufs+D.per d)) bufs (.tuple #[.int .u32 x2,.int .i64 0]:Value) M∧Sep M H4))
  hok hl hbm hx ho (fun H hfu hs=>by
   simp only[HV];refine Zq rfl ?_;have hs:Sep [pts p (ZI dp ap x),Dk dp (D.rdG d (nS (D.per d) x.w)),Ar ap cap (mx peak (ZE bufs+D.per d)) bufs,pts bc (CrcP.counter (Go.Crc.sum (form (pws d x 0 x.w))) (8*(pws d x 0 x.w).length))] H:=hs;refine Za.use (CrcP.uZ9 bc _ _ H (hs.get 3 rfl)) ?_
   try simp only[HV]
   exact⟨_,.inl ⟨hfu,rfl,rfl⟩,hs.re [0,1,2] rfl⟩) (fun j H pre hj hfu hs=>by
   simp only[HV];refine ZA (by decide) ?_;exact⟨_,.inr ⟨j,hj,hfu,rfl,rfl⟩,hs.re [0,1,2] rfl⟩) x.w 0 (List.replicate (D.per d) 0) H (by rw[Nat.zero_add];exact Nat.le_mul_of_pos_right _ (by omega)) (Nat.zero_le _) (by omega) (by simp)
 rw[e0,e9]at t;exact t hs
end
end Str
namespace W
open Go Go.Hw
theorem dZa :prog.follows .mixedOrders=true:=by kernel_rfl
def cZc.j6 (K:VK)(p5 p6:OA)(x6:Int)(a1 a2:Addr)(p7 p8:OA)(H:Hp):=
 Hz 84 #[.pointer p7] H fun v7 H4=>iZR v7 fun x7 x8=>(BIf (x8 !=0) (K (.tuple #[.int .u32 0,.int .i64 x8]) H4) (BIf (x7 !=x6) (K (.tuple #[.int .u32 0,.int .i64 9]) H4) (LdA H4 a2 8 fun l10=>LeI H4 (a1.add 1) fun x9=>Hz 88 #[.pointer p7,.pointer p8,.agg l10.toArray,.pointer p6,.int .i64 x9] H4 fun v11 H5=>iZR v11 fun x10 x11=>(BIf (x11 !=0) (K (.tuple #[.int .u32 0,.int .i64 x11]) H5) (HcI 47 #[.pointer p5] H5 fun x12 H6=>BIf (x12 !=0) (K (.tuple #[.int .u32 0,.int .i64 x12]) H6) (K (.tuple #[.int .u32 x10,.int .i64 0]) H6))))))
def cZc (p1 p2:OA)(y1:Array Value)(x1:Int)(y2:Array Value)(x2:Int)(H:Hp)(K:VK):Prop:=
 Nw H (.obj (.cells y1 90)) fun b1 H1=>Nw H1 (.obj (.cells y2 126)) fun b2 H2=>LdA H2 ⟨b1,0,none⟩ 17 fun l1=>LdA H2 ⟨b2,0,none⟩ 8 fun l2=>Hz 87 #[.pointer p1,.pointer p2,.agg l1.toArray,.int .i64 x1,.agg l2.toArray] H2 fun v1 H3=>uZN v1 fun p3 p4 x3=>(BIf (x3 !=0) (K (.tuple #[.int .u32 0,.int .i64 x3]) H3) (LeI H3 ((⟨b2,0,none⟩:Addr).add 5) fun x4=>BIf (x4 !=1) (LeI H3 ((⟨b2,0,none⟩:Addr).add 5) fun x5=>BIf (x5 !=2) (K (.tuple #[.int .u32 0,.int .i64 18]) H3) (cZc.j6 K p1 p2 x2 ⟨b1,0,none⟩ ⟨b2,0,none⟩ p3 p4 H3)) (cZc.j6 K p1 p2 x2 ⟨b1,0,none⟩ ⟨b2,0,none⟩ p3 p4 H3)))
def cZc.Λ (K:VK):Zt:=⟨fun i=>match Nat.beq i 6 with|true=>some (fun E D H=>eP E 0 fun p5=>eP E 1 fun p6=>eI E 5 .u32 fun x6=>eN E 8 fun a1=>eN E 10 fun a2=>eP E 14 fun p7=>eP E 15 fun p8=>Zk D (cZc.j6 K p5 p6 x6 a1 a2 p7 p8 H))|false=>none,fun i=>none,(fun _=>none)⟩
theorem cZc.ok p1 p2 y1 x1 y2 x2 H K (h:cZc p1 p2 y1 x1 y2 x2 H K):Za prog 61 #[.pointer p1,.pointer p2,.agg y1,.int .i64 x1,.agg y2,.int .u32 x2] H K:=
 okL (Λ:=(cZc.Λ K)) dZa Tryz.func61 rfl rfl h (oC (fun E D H h=>by
   obtain⟨p5,e0,g2⟩:=GP h;obtain⟨p6,e1,g4⟩:=GP g2;obtain⟨x6,e5,g6⟩:=GI g4;obtain⟨a1,e8,g9⟩:=GN g6;obtain⟨a2,e10,g12⟩:=GN g9;obtain⟨p7,e14,g14⟩:=GP g12;obtain⟨p8,e15,g16⟩:=GP g14;obtain⟨rfl,h'⟩:=Zk.out g16;exact okJ (Λ:=(cZc.Λ K)) dZa [] (Zb.cons e0 (Zb.cons e1 (Zb.cons e5 (Zb.cons e8 (Zb.cons e10 (Zb.cons e14 (Zb.cons e15 (Zb.nil _)))))))) h' oN) oN)
def gZG (p1 p2:OA)(y1:Array Value)(x1 x2:Int)(H:Hp)(K:VK):Prop:=
 Nw H (.obj (.cells y1 90)) fun b1 H1=>LdA H1 ⟨b1,0,none⟩ 17 fun l1=>Hz 112 #[.agg l1.toArray,.int .i64 x1,.int .i64 x2] H1 fun v1 H2=>cZ9 v1 fun y2 x3=>(Nw H2 (.obj (.cells #[.int .i64 0,.int .i64 0,.int .i64 0] 87)) fun b2 H3=>StA H3 ⟨b2,0,none⟩ y2 3 fun H4=>BIf (x3 !=0) (K (.tuple #[.pointer none,.int .i64 x3]) H4) (LdA H4 ⟨b2,0,none⟩ 3 fun l5=>Hz 113 #[.pointer p1,.pointer p2,.agg l5.toArray] H4 fun v4 H5=>dZV v4 fun p3 x4=>(K (.tuple #[.pointer p3,.int .i64 x4]) H5)))
theorem gZG.ok p1 p2 y1 x1 x2 H K (h:gZG p1 p2 y1 x1 x2 H K):Za prog 82 #[.pointer p1,.pointer p2,.agg y1,.int .i64 x1,.int .i64 x2] H K:=
 okN dZa Tryz.func82 rfl rfl h
def aZV.j13 (K:VK)(a5 a6:Addr)(x14:Int)(a7:Addr)(H:Hp):=
 BIf (x14 !=0) (StA H a5 #[.int .i64 0,.int .i64 0,.int .i64 0] 3 fun H14=>LdA H14 a5 3 fun l22=>K (.tuple #[.agg l22.toArray,.int .i64 x14]) H14) (LdA H a7 3 fun l17=>LeI H (a6.add 1) fun x15=>gZD l17.toArray.toList fun x16 x17 x18=>(Nw H (.row [.int .i64 x16,.int .i64 x17,.int .i64 x18,.int .i64 x15,.int .i64 0,.int .i64 1] 39 6) fun b6 H15=>HcA 131 #[.slice (some ⟨b6,0,none⟩) 2 2] H15 fun y7 H16=>StA H16 a5 y7 3 fun H17=>LdA H17 a5 3 fun l23=>K (.tuple #[.agg l23.toArray,.int .i64 0]) H17))
def aZV.j4 (K:VK)(x7:Int)(a1 a2 a3 a4:Addr)(x8:Int)(H:Hp):=
 BIf (x8 !=0) (StA H a3 #[.int .i64 0,.int .i64 0,.int .i64 0] 3 fun H8=>LdA H8 a3 3 fun l21=>K (.tuple #[.agg l21.toArray,.int .i64 x8]) H8) (Nw H (.obj (.cells #[.int .i64 0,.int .i64 0,.int .i64 0] 39)) fun b5 H9=>LeI H9 (a2.add 5) fun x9=>BIf (x9==1) (LdA H9 ((a2.add 0).add 0) 2 fun l9=>LeI H9 (a1.add 1) fun x10=>Hz 129 #[.agg l9.toArray,.int .i64 x10,.int .i64 x7] H9 fun v11 H10=>cZ9 v11 fun y5 x11=>(StA H10 ⟨b5,0,none⟩ y5 3 fun H11=>aZV.j13 K a3 a4 x11 ⟨b5,0,none⟩ H11)) (BIf (x9==2) (LdA H9 ((a2.add 0).add 0) 2 fun l13=>LeI H9 (a1.add 1) fun x12=>Hz 130 #[.agg l13.toArray,.int .i64 x12,.int .i64 x7] H9 fun v15 H12=>cZ9 v15 fun y6 x13=>(StA H12 ⟨b5,0,none⟩ y6 3 fun H13=>aZV.j13 K a3 a4 x13 ⟨b5,0,none⟩ H13)) (aZV.j13 K a3 a4 18 ⟨b5,0,none⟩ H9)))
def aZV (y1:Array Value)(x1:Int)(y2:Array Value)(x2:Int)(H:Hp)(K:VK):Prop:=
 Nw H (.obj (.cells y1 90)) fun b1 H1=>Nw H1 (.obj (.cells y2 126)) fun b2 H2=>Nw H2 (.obj (.cells #[.int .i64 0,.int .i64 0,.int .i64 0] 39)) fun b3 H3=>LdA H3 ⟨b1,0,none⟩ 17 fun l1=>LeI H3 ((⟨b2,0,none⟩:Addr).add 6) fun x3=>Hz 112 #[.agg l1.toArray,.int .i64 x3,.int .i64 x1] H3 fun v2 H4=>cZ9 v2 fun y3 x4=>(Nw H4 (.obj (.cells #[.int .i64 0,.int .i64 0,.int .i64 0] 87)) fun b4 H5=>StA H5 ⟨b4,0,none⟩ y3 3 fun H6=>BIf (x4==0) (LdA H6 ⟨b1,0,none⟩ 17 fun l5=>LeI H6 ((⟨b2,0,none⟩:Addr).add 7) fun x5=>Hz 112 #[.agg l5.toArray,.int .i64 x5,.int .i64 x1] H6 fun v6 H7=>cZ9 v6 fun y4 x6=>(aZV.j4 K x2 ⟨b1,0,none⟩ ⟨b2,0,none⟩ ⟨b3,0,none⟩ ⟨b4,0,none⟩ x6 H7)) (aZV.j4 K x2 ⟨b1,0,none⟩ ⟨b2,0,none⟩ ⟨b3,0,none⟩ ⟨b4,0,none⟩ x4 H6))
def aZV.Λ (K:VK):Zt:=⟨fun i=>match Nat.beq i 13 with|true=>some (fun E D H=>eN E 8 fun a5=>eN E 10 fun a6=>eI E 11 .i64 fun x14=>eN E 12 fun a7=>Zk D (aZV.j13 K a5 a6 x14 a7 H))|false=>match Nat.beq i 4 with|true=>some (fun E D H=>eI E 3 .i64 fun x7=>eN E 4 fun a1=>eN E 6 fun a2=>eN E 8 fun a3=>eN E 10 fun a4=>eI E 11 .i64 fun x8=>Zk D (aZV.j4 K x7 a1 a2 a3 a4 x8 H))|false=>none,fun i=>none,(fun _=>none)⟩
theorem aZV.ok y1 x1 y2 x2 H K (h:aZV y1 x1 y2 x2 H K):Za prog 86 #[.agg y1,.int .i64 x1,.agg y2,.int .i64 x2] H K:=
 okL (Λ:=(aZV.Λ K)) dZa Tryz.func86 rfl rfl h (oC (fun E D H h=>by
   obtain⟨x7,e3,g2⟩:=GI h;obtain⟨a1,e4,g5⟩:=GN g2;obtain⟨a2,e6,g8⟩:=GN g5;obtain⟨a3,e8,g11⟩:=GN g8;obtain⟨a4,e10,g14⟩:=GN g11;obtain⟨x8,e11,g16⟩:=GI g14;obtain⟨rfl,h'⟩:=Zk.out g16;exact okJ (Λ:=(aZV.Λ K)) dZa [] (Zb.cons e3 (Zb.cons e4 (Zb.cons e6 (Zb.cons e8 (Zb.cons e10 (Zb.cons e11 (Zb.nil _))))))) h' (oC (fun E D H h=>by
     obtain⟨a5,e8,g3⟩:=GN h;obtain⟨a6,e10,g6⟩:=GN g3;obtain⟨x14,e11,g8⟩:=GI g6;obtain⟨a7,e12,g11⟩:=GN g8;obtain⟨rfl,h'⟩:=Zk.out g11;exact okJ (Λ:=(aZV.Λ K)) dZa [] (Zb.cons e8 (Zb.cons e10 (Zb.cons e11 (Zb.cons e12 (Zb.nil _))))) h' oN) oN)) oN)
def gZH (p1 p2:OA)(y1:Array Value)(x1:Int)(y2:Array Value)(H:Hp)(K:VK):Prop:=
 Nw H (.obj (.cells y1 90)) fun b1 H1=>Nw H1 (.obj (.cells y2 126)) fun b2 H2=>LdA H2 ⟨b1,0,none⟩ 17 fun l1=>LeI H2 ((⟨b2,0,none⟩:Addr).add 6) fun x2=>Hz 82 #[.pointer p1,.pointer p2,.agg l1.toArray,.int .i64 x2,.int .i64 x1] H2 fun v2 H3=>dZV v2 fun p3 x3=>(BIf (x3==0) (LdA H3 ⟨b1,0,none⟩ 17 fun l5=>LeI H3 ((⟨b2,0,none⟩:Addr).add 7) fun x4=>Hz 82 #[.pointer p1,.pointer p2,.agg l5.toArray,.int .i64 x4,.int .i64 x1] H3 fun v6 H4=>dZV v6 fun p4 x5=>(K (.tuple #[.pointer p3,.pointer p4,.int .i64 x5]) H4)) (K (.tuple #[.pointer p3,.pointer none,.int .i64 x3]) H3))
theorem gZH.ok p1 p2 y1 x1 y2 H K (h:gZH p1 p2 y1 x1 y2 H K):Za prog 87 #[.pointer p1,.pointer p2,.agg y1,.int .i64 x1,.agg y2] H K:=
 okN dZa Tryz.func87 rfl rfl h
def hZe (p1 p2:OA)(y1:Array Value)(p3:OA)(x1:Int)(H:Hp)(K:VK):Prop:=
 Nw H (.obj (.cells y1 126)) fun b1 H1=>LeI H1 ((⟨b1,0,none⟩:Addr).add 5) fun x2=>BIf (x2==1) (LdA H1 (((⟨b1,0,none⟩:Addr).add 0).add 0) 2 fun l1=>Hz 132 #[.pointer p1,.pointer p2,.agg l1.toArray,.pointer p3,.int .i64 x1] H1 fun v2 H2=>iZR v2 fun x3 x4=>(K (.tuple #[.int .u32 x3,.int .i64 x4]) H2)) (BIf (x2==2) (LdA H1 ((⟨b1,0,none⟩:Addr).add 0) 5 fun l5=>Hz 133 #[.pointer p1,.pointer p2,.agg l5.toArray,.pointer p3,.int .i64 x1] H1 fun v5 H3=>iZR v5 fun x5 x6=>(K (.tuple #[.int .u32 x5,.int .i64 x6]) H3)) (K (.tuple #[.int .u32 0,.int .i64 18]) H1))
theorem hZe.ok p1 p2 y1 p3 x1 H K (h:hZe p1 p2 y1 p3 x1 H K):Za prog 88 #[.pointer p1,.pointer p2,.agg y1,.pointer p3,.int .i64 x1] H K:=
 okN dZa Tryz.func88 rfl rfl h
def bZF.q1 (H3:Hp)(b2:Nat)(K:VK):Prop:=
 StA H3 ⟨b2,0,none⟩ #[.int .i64 0,.int .i64 0,.int .i64 0] 3 fun H4=>LdA H4 ⟨b2,0,none⟩ 3 fun l2=>K (.tuple #[.agg l2.toArray,.int .i64 1]) H4
def bZF (y1:Array Value)(x1 x2:Int)(H:Hp)(K:VK):Prop:=
 Nw H (.obj (.cells y1 90)) fun b1 H1=>Nw H1 (.obj (.cells #[.int .i64 0,.int .i64 0,.int .i64 0] 87)) fun b2 H2=>LdA H2 ⟨b1,0,none⟩ 17 fun l1=>HcB 156 #[.agg l1.toArray] H2 fun c1 H3=>BIf (!c1) (bZF.q1 H3 b2 K) (BIf (decide (x1<0)) (bZF.q1 H3 b2 K) (BIf (decide (x1≥4)) (bZF.q1 H3 b2 K) (BIf (decide (x2<0)) (bZF.q1 H3 b2 K) (LeI H3 ((⟨b1,0,none⟩:Addr).add 0) fun x3=>BIf (decide (x2>x3)) (bZF.q1 H3 b2 K) ((0≤(u64.wrap x2)∧ixI x1 4 (LeI H3 ((((⟨b1,0,none⟩:Addr).add 5).add (x1.toNat*3)).add 0) fun x4=>LeI H3 ((⟨b1,0,none⟩:Addr).add 1) fun x5=>(x5≠0∧i64=i64∧StA H3 ⟨b2,0,none⟩ #[.int .i64 x4,.int .i64 (i64.wrap ((i64.wrap (Int.tdiv (i64.wrap ((aZE .i64 1 (u64.wrap x2))-1)) x5))+1)),.int .i64 (aZE .i64 1 (u64.wrap x2))] 3 fun H9=>LdA H9 ⟨b2,0,none⟩ 3 fun l7=>K (.tuple #[.agg l7.toArray,.int .i64 0]) H9))))))))
theorem bZF.ok y1 x1 x2 H K (h:bZF y1 x1 x2 H K):Za prog 112 #[.agg y1,.int .i64 x1,.int .i64 x2] H K:=
 ok0 (fun i=>match Nat.beq i 4 with|true=>some ([],[0,1,2,3,4,5,6,7,8,9,10,11,12],13)|false=>none) dZa Tryz.func112 rfl rfl h
def aZN.l2 (K:VK):Nat→Addr→OA→Nat→Nat→Int→Int→Hp→Prop
 |0,_,_,_,_,_,_,_=>False
 |k+1,a1,A2,n2,m2,x1,x2,H=>
  let R2:=aZN.l2 K k
  BIf (decide (x2<x1)) (ixI x2 n2 (NN A2 fun a2=>LdA H (a2.add (x2.toNat*3)) 3 fun l1=>Nw H (.obj (.cells #[.int .i64 0,.int .i64 0,.int .i64 0] 39)) fun b2 H2=>StA H2 ⟨b2,0,none⟩ l1.toArray 3 fun H3=>LeI H3 (a1.add 0) fun x3=>LeI H3 ((⟨b2,0,none⟩:Addr).add 0) fun x4=>LeI H3 (a1.add 1) fun x5=>LeI H3 ((⟨b2,0,none⟩:Addr).add 1) fun x6=>LeI H3 (a1.add 2) fun x7=>LeI H3 ((⟨b2,0,none⟩:Addr).add 2) fun x8=>StA H3 a1 #[.int .i64 (i64.wrap (x3+x4)),.int .i64 (i64.wrap (x5+x6)),.int .i64 (i64.wrap (x7+x8))] 3 fun H4=>R2 a1 A2 n2 m2 x1 (i64.wrap (x2+1)) H4)) (LdA H a1 3 fun l2=>StA H a1 l2.toArray 3 fun H5=>LdA H5 a1 3 fun l3=>K (.agg l3.toArray) H5)
def aZN (A1:OA)(n1 m1:Nat)(H:Hp)(K:VK):Prop:=
 Nw H (.obj (.cells #[.int .i64 0,.int .i64 0,.int .i64 0] 39)) fun b1 H1=>(∃ k,aZN.l2 K k ⟨b1,0,none⟩ A1 n1 m1 (n1:Int) 0 H1)
def aZN.l2.L (K:VK)(k:Nat):Mid:=fun E D H=>
 eN E 2 fun a1=>DG (E.get? 5) fun w5=>DSl w5 fun A2 n2 m2=>eI E 6 .i64 fun x1=>eI E 7 .i64 fun x2=>Zk D (aZN.l2 K k a1 A2 n2 m2 x1 x2 H)
def aZN.Λ2 (_:VK)(_R2:Addr→OA→Nat→Nat→Int→Int→Hp→Prop):Zt:=Zt.none (fun _=>none)
def aZN.Λ (K:VK):Zt:=⟨fun i=>none,fun i=>match Nat.beq i 2 with|true=>some (fun E D H=>∃ k,aZN.l2.L K k E D H)|false=>none,(fun _=>none)⟩
theorem aZN.ok A1 n1 m1 H K (h:aZN A1 n1 m1 H K):Za prog 131 #[.slice A1 n1 m1] H K:=
 okL (Λ:=(aZN.Λ K)) dZa Tryz.func131 rfl rfl h (oC (fun E D H h=>by
   refine Safe.loop' (aZN.l2.L K) (fun E D H h=>?_) (fun k E D H h=>?_) E D H h
   ·obtain⟨w2,e2,g1⟩:=DG.out h;obtain⟨pw2,rfl,g2⟩:=DP.out g1;obtain⟨a1,rfl,g3⟩:=NN.out g2;obtain⟨w5,e5,g4⟩:=DG.out g3;obtain⟨A2,n2,m2,rfl,g5⟩:=DSl.out g4;obtain⟨w6,e6,g6⟩:=DG.out g5;obtain⟨x1,rfl,g7⟩:=DI.out g6;obtain⟨w7,e7,g8⟩:=DG.out g7;obtain⟨x2,rfl,g9⟩:=DI.out g8;obtain⟨rfl,h'⟩:=Zk.out g9;exact h'
   ·obtain⟨a1,e2,g3⟩:=GN h;obtain⟨w5,e5,g4⟩:=DG.out g3;obtain⟨A2,n2,m2,rfl,g5⟩:=DSl.out g4;obtain⟨x1,e6,g7⟩:=GI g5;obtain⟨x2,e7,g9⟩:=GI g7;obtain⟨rfl,h'⟩:=Zk.out g9;exact okJ (Λ:=(aZN.Λ2 K (aZN.l2 K k))) dZa [] (Zb.cons e2 (Zb.cons e5 (Zb.cons e6 (Zb.cons e7 (Zb.nil _))))) h' oN) oN)
end W
namespace Eng
open Go Go.Hw Go.Form W Shp Dsk Str Are Trn Pas Pln
theorem xZw :pZ2 prog 90 17:=⟨by kernel_rfl,by kernel_rfl,by kernel_rfl,by kernel_rfl⟩
def qZO (k p:Nat):List Int:=
 let r:Int:=Lay.ZF k p
 let w:Int:=(2^k:Nat)
 [(k:Int),(p:Int),1,8,((8*p:Nat):Int),9,r,w,9+r,r,w,9+2*r,r,w,9+3*r,r,w]
theorem lZJ {per:Nat}(h:bZ8 (per:Int)=true):per=4∨per=8∨per=16∨per=32∨per=64∨per=128∨per=256∨per=512:=by
 unfold bZ8 at h;simp only[Bool.or_eq_true,beq_iff_eq]at h;omega
theorem pZ1 {per:Nat}(h:bZ8 (per:Int)=true):Lay.ZD ((per*8:Nat):Int)=per:=by
 rcases lZJ h with e|e|e|e|e|e|e|e<;>subst e<;>decide
theorem iZd {s:Nat}(h:0<Lay.ZD s):bZ8 ((s/8:Nat):Int)=true:=by
 have:s=32∨s=64∨s=128∨s=256∨s=512∨s=1024∨s=2048∨s=4096:=by
  unfold Lay.ZD at h
  repeat' split at h
  all_goals omega
 rcases this with e|e|e|e|e|e|e|e<;>subst e<;>decide
theorem lZR {k p:Nat}(hk:k≤32):Lay.ZF k p≤4294967296:=by
 have:=cZI hk;unfold Lay.ZF;have:=Nat.div_le_self (2^k-1) p;have:=Nat.two_pow_pos k;omega
section
variable {most per : Nat} (hm : most ≤ 32) (hp : bZ8 (per : Int) = true)
include hm hp
theorem lZB :∀ x∈qZO most per,-9223372036854775808≤x∧x≤9223372036854775807:=by
 have h1:=lZR (p:=per) hm;have h2:=cZI hm;have h3:=eZ2 hp;intro x hx;unfold qZO at hx;generalize Lay.ZF most per=rr at*;generalize 2^most=ww at*;simp only[List.mem_cons,List.not_mem_nil,or_false]at hx;omega
theorem bZR (H:Hp):Za prog 156 #[.agg (Lay.bZJ most per)] H (RetE (.bool true) H):=Za.ret (by
 have h3:=eZ2 hp;apply fZn.ok;unfold fZn;refine(Sep.start H).nw fun b1 H1 hs=>?_
 refine hs.ldf 1 rfl rfl ?_;simp only[HV];refine hs.ldf 1 rfl rfl ?_;simp only[HV];rw[if_neg (by omega),ZG (x:=(per:Int)*8) (by omega) (by omega)];refine ZQ.use (Lay.lZK ((per:Int)*8) H1) ?_
 try simp only[HV]
 have e:Lay.ZD ((per:Int)*8)=per:=pZ1 hp;rw[e];refine ZQ.use (Lay.eZ0 (most:Int) (per:Int) H1) ?_
 try simp only[HV]
 rw[decide_eq_true (by omega)];refine aZx rfl ?_;refine hs.ldw 1 rfl rfl ?_;refine hs.ldf 1 rfl rfl ?_;simp only[HV];refine hs.ldf 1 rfl rfl ?_;simp only[HV];refine ZQ.use (Lay.sZl hm (p:=per) (by omega) (by omega) H1) ?_
 try simp only[HV]
 refine vZc xZw (a:=qZO most per) (b:=qZO most per) rfl rfl (lZB hm hp) (lZB hm hp) rfl rfl ?_;rw[decide_eq_true rfl];exact hs.fin 0 rfl _)
theorem jZi {i k:Nat}(hi:i<4)(hk:k≤most)(H:Hp):Za prog 112 #[.agg (Lay.bZJ most per),.int .i64 (i:Int),.int .i64 (k:Int)] H
  (RetE (.tuple #[.agg #[.int .i64 (((exX most per i k).f:Nat):Int),.int .i64 (((exX most per i k).s:Nat):Int),.int .i64 (((exX most per i k).w:Nat):Int)],.int .i64 0]) H):=Za.ret (by
 have h3:=eZ2 hp;have h1:=cZI (k:=k) (by omega);have h4:=Nat.two_pow_pos k;have h5:=lZR (p:=per) hm;apply bZF.ok;unfold bZF bZF.q1;refine(Sep.start H).nw fun b1 H1 hs=>?_
 refine hs.nw fun b2 H1 hs=>?_
 refine hs.ldw 1 rfl rfl ?_;rw[Array.toArray_toList];refine Za.use (bZR hm hp H1) ?_
 try simp only[HV]
 refine Zh (by omega) (Zh (by omega) (Zh (by omega) ?_));refine hs.ldf 1 (v:=.int .i64 most) rfl rfl ?_;simp only[HV];refine Zh (by omega) ⟨by rw[cZg (by omega)];omega,by omega,by omega,?_⟩;rw[Int.toNat_natCast]
 try simp only[HS]
 refine hs.ld 1 (v:=.int .i64 (Lay.exF (Lay.ZF most per) i)) rfl (by rw[mZk,Array.getElem?_toList];exact Lay.sZk most per i hi) ?_;simp only[HV];refine hs.ld 1 (v:=.int .i64 per) rfl rfl ?_;simp only[HV];rw[cZg (n:=k) (by omega),Lay.gZz (by omega),ZG (x:=((2^k:Nat):Int)-1) (by omega) (by omega),show((2^k:Nat):Int)-1=((2^k-1:Nat):Int) by omega,
  show Int.tdiv ((2^k-1:Nat):Int) (per:Int)=(((2^k-1)/per:Nat):Int)from rfl]
 have h6:=Nat.div_le_self (2^k-1) per;rw[aZJ (Nat.le_trans h6 (by omega)),ZG (x:=(((2^k-1)/per:Nat):Int)+1) (by generalize(2^k-1)/per=q at *;omega) (by generalize(2^k-1)/per=q at *;omega)];refine⟨by omega,by simp,?_⟩;refine hs.stw 2 rfl rfl rfl rfl fun H1 hs=>?_
 refine hs.ldw 2 rfl rfl ?_;have e1:Lay.exF (Lay.ZF most per) i=(((exX most per i k).f:Nat):Int):=by unfold Lay.exF exX;simp
 rw[e1];exact hs.fin 0 rfl _)
end
structure hZ3 (d:D)(most:Nat):Prop where
 m:most≤32
 p:bZ8 (D.per d:Int)=true
 fit:Lay.bZs most (D.per d)≤d.sec
theorem hZ3.on {d:D}{most:Nat}(h:hZ3 d most)(hok:Ok d){i k:Nat}(hi:i<4)(hk:k≤most):On d (exX most (D.per d) i k):=by
 have h1:=(Ok.per_le hok).1;have h2:=iZf (p:=D.per d) hk;have h3:=h.fit;have h4:=kZd (k:=k) (p:=D.per d) (by omega);have h5:=Nat.two_pow_pos k;unfold Lay.bZs at h3;have h6:i*Lay.ZF most (D.per d)≤3*Lay.ZF most (D.per d):=Nat.mul_le_mul_right _ (by omega);exact⟨h5,Nat.le_add_left 1 ((2^k-1)/D.per d),by show 9+i*Lay.ZF most (D.per d)+Lay.ZF k (D.per d)≤d.sec;omega,h4⟩
theorem hZ3.prog {d d':D}{most:Nat}(h:hZ3 d most)(h1:d'.sec=d.sec)(h2:d'.size=d.size):hZ3 d' most:=by
 have e:D.per d'=D.per d:=by unfold D.per;rw[h2]
 exact⟨h.m,by rw[e];exact h.p,by rw[e,h1];exact h.fit⟩
theorem rZX {most per i j k:Nat}(hk:k≤most)(hij:i≠j):(exX most per i k).f+(exX most per i k).s≤(exX most per j k).f∨(exX most per j k).f+(exX most per j k).s≤(exX most per i k).f:=by
 have h2:=iZf (p:=per) hk;show 9+i*Lay.ZF most per+Lay.ZF k per≤9+j*Lay.ZF most per∨9+j*Lay.ZF most per+Lay.ZF k per≤9+i*Lay.ZF most per
 rcases Nat.lt_or_gt_of_ne hij with h|h
 ·left;have:(i+1)*Lay.ZF most per≤j*Lay.ZF most per:=Nat.mul_le_mul_right _ h;rw[Nat.succ_mul]at this;omega
 ·right;have:(j+1)*Lay.ZF most per≤i*Lay.ZF most per:=Nat.mul_le_mul_right _ h;rw[Nat.succ_mul]at this;omega
section
variable {dp ap : Nat} {d : D} {most : Nat} (hok : Ok d) (hl : hZ3 d most)
include hok hl
theorem jZ1 {i k:Nat}(hi:i<4)(hk:k≤most):Tr prog 82 #[.pointer (some ⟨dp,0,none⟩),.pointer (some ⟨ap,0,none⟩),.agg (Lay.bZJ most (D.per d)),.int .i64 (i:Int),.int .i64 (k:Int)] [Dk dp d] fun v M=>
  ∃ p,v= .tuple #[.pointer (some ⟨p,0,none⟩),.int .i64 0]∧M=[Dk dp d,pts p (ZI dp ap (exX most (D.per d) i k))]:=fun H hs=>by
 apply gZG.ok;unfold gZG;refine hs.nw fun b1 H hs=>?_
 refine hs.ldw 1 rfl rfl ?_;rw[Array.toArray_toList];refine Za.use (jZi hl.m hl.p hi hk H) ?_
 try simp only[HV]
 refine hs.nw fun b2 H hs=>?_
 refine hs.stw 2 rfl rfl rfl rfl fun H hs=>?_;refine Zq rfl ?_;refine hs.ldw 2 rfl rfl ?_;refine(dZp (dp:=dp) (ap:=ap) hok (exX most (D.per d) i k) (hl.on hok hi hk)).use hs [0] rfl rfl ?_;rintro _ _ H ⟨p,rfl,rfl⟩ hs;simp only[HV];exact⟨_,⟨p,rfl,rfl⟩,hs.re [0,1] rfl⟩
theorem vZt {pz:Pz}{k:Nat}(hf:pz.f<4)(ho:pz.o<4)(hk:k≤most):Tr prog 87 #[.pointer (some ⟨dp,0,none⟩),.pointer (some ⟨ap,0,none⟩),.agg (Lay.bZJ most (D.per d)),.int .i64 (k:Int),.agg pz.c] [Dk dp d] fun v M=>
  ∃ p q,v= .tuple #[.pointer (some ⟨p,0,none⟩),.pointer (some ⟨q,0,none⟩),.int .i64 0]∧M=[Dk dp d,pts p (ZI dp ap (exX most (D.per d) pz.f k)),pts q (ZI dp ap (exX most (D.per d) pz.o k))]:=fun H hs=>by
 apply gZH.ok;unfold gZH;refine hs.nw fun b1 H hs=>?_
 refine hs.nw fun b2 H hs=>?_
 refine hs.ldw 1 rfl rfl ?_;rw[Array.toArray_toList];refine hs.ldf 2 (v:=.int .i64 (pz.f:Int)) rfl rfl ?_;simp only[HV];refine(jZ1 (dp:=dp) (ap:=ap) hok hl hf hk).use hs [0] rfl rfl ?_;rintro _ _ H ⟨p,rfl,rfl⟩ hs;simp only[HV];refine ZS rfl ?_;refine hs.ldw 2 rfl rfl ?_;rw[Array.toArray_toList];refine hs.ldf 3 (v:=.int .i64 (pz.o:Int)) rfl rfl ?_;simp only[HV];refine(jZ1 (dp:=dp) (ap:=ap) hok hl ho hk).use hs [0] rfl rfl ?_;rintro _ _ H ⟨q,rfl,rfl⟩ hs;simp only[HV];exact⟨_,⟨p,q,rfl,rfl⟩,hs.re [0,2,1] rfl⟩
end
structure jZj (pz:Pz)(k per cap:Nat):Prop where
 f:pz.f<4
 o:pz.o<4
 fo:pz.f≠pz.o
 k:pz.j.ea+pz.j.eb=k
 tn:pz.t=true→2^pz.j.ea+per≤cap
 rw:pz.t=false→pz.j.eb≤20∧-1≤pz.j.tw∧pz.j.tw≤32∧per+2*2^pz.j.eb≤cap
def eZA (per cap f o:Nat)(pz:Pz)(r w:Nat):Prop:=
 (pz.t=true∧∃ j,cZb ((2^pz.j.ea:Nat):Int) ((2^pz.j.eb:Nat):Int) per cap j∧r=rT per f o (2^pz.j.ea) (2^pz.j.eb) (2^j) (2^pz.j.eb/2^j)∧w=wT per o (2^pz.j.ea) (2^j) (2^pz.j.eb/2^j))∨
 (pz.t=false∧∃ j,dZg pz.j.ea ((cap-per)/2^pz.j.eb) j∧r=rP per f o (2^j*2^pz.j.eb) (2^pz.j.ea/2^j)∧w=wP per o (2^j*2^pz.j.eb) (2^pz.j.ea/2^j))
section
variable {p q dp ap : Nat} {x y : X} {cap : Nat} {peak : Int} {TT : As} {k : Nat} {pz : Pz}
def xZO (p q dp ap:Nat)(x y:X)(cap:Nat)(pz:Pz)(TT:As)(d:D)(v:Value)(M:List As):Prop:=
 ∃ peak':Int,peak'≤cap∧∃ r w,eZA (D.per d) cap x.f y.f pz r w∧
  ((∃ d',Prog (inX y) d d' r w∧pws d' y 0 y.w=pz.ap (pws d x 0 x.w)∧v= .tuple #[.int .u32 ((Go.Crc.sum (form (pz.ap (pws d x 0 x.w)))).toNat:Int),.int .i64 0]∧M=[pts p (ZI dp ap x),pts q (ZI dp ap y),Dk dp d',Ar ap cap peak' [],TT])∨
  (∃ d',cZr (inX y) d d'∧d.fuse≤r+w∧v= .tuple #[.int .u32 0,.int .i64 8]∧M=[pts p (ZI dp ap x),pts q (ZI dp ap y),Dk dp d',Ar ap cap peak' [],TT]))
theorem iZ2 {a b c:Int}(h1:a≤c)(h2:b≤c):mx a b≤c:=by unfold mx;split<;>assumption
theorem wZ9 {d:D}(hT:∀ H,TT H→T64 H)(hok:Ok d)(hl:d.down=false)(hx:On d x)(hy:On d y)(ho:d.rd≤1000000000000∧d.wr≤1000000000000)(hk32:k≤32)(hxw:x.w=2^k)(hyw:y.w=2^k)(hdis:x.f+x.s≤y.f∨y.f+y.s≤x.f)
  (hper:bZ8 (D.per d:Int)=true) (hcap:cap≤16777216) (hpk:peak≤cap) (hz:jZj pz k (D.per d) cap):
  Tr prog 88 #[.pointer (some ⟨p,0,none⟩),.pointer (some ⟨q,0,none⟩),.agg pz.c,.pointer (some ⟨ap,0,none⟩),.int .i64 (D.per d:Int)]
   [pts p (ZI dp ap x),pts q (ZI dp ap y),Dk dp d,Ar ap cap peak [],TT] (xZO p q dp ap x y cap pz TT d):=fun H hs=>by
 have hp:=Ok.per_le hok;have hkk:=hz.k;have hpow:2^pz.j.ea*2^pz.j.eb=2^k:=by rw[← Nat.pow_add,hkk]
 have hxw2:x.w=2^pz.j.ea*2^pz.j.eb:=hxw.trans hpow.symm;have hyw2:y.w=2^pz.j.ea*2^pz.j.eb:=hyw.trans hpow.symm;apply hZe.ok;unfold hZe;refine hs.nw fun b1 H hs=>?_
 refine hs.ldf 5 (v:=.int .i64 (if pz.t=true then 1 else 2)) rfl rfl ?_;simp only[HV];cases ht:pz.t with
 |true=>
  refine ZS rfl ?_
  try simp only[HS]
  refine hs.lda 5 (off:=0) (n:=2) rfl (by show 0+2≤8;omega) ?_;have ea:((pz.c.toList.drop 0).take 2).toArray=#[.int .i64 ((2^pz.j.ea:Nat):Int),.int .i64 ((2^pz.j.eb:Nat):Int)]:=rfl;rw[ea];have htn:=hz.tn ht;obtain⟨j,hj1,hj⟩:=cZb.ex (ea:=pz.j.ea) (eb:=pz.j.eb) (per:=(D.per d:Int)) (free:=(cap:Int)) (by omega) (by omega);have hjs:cZb ((2^pz.j.ea:Nat):Int) ((2^pz.j.eb:Nat):Int) (D.per d) ((cap:Int)-ZE []) j:=by rw[bZX,Int.sub_zero];exact hj
  have hfit:=hj.fit;have hdv:2^pz.j.eb/2^j*2^j=2^pz.j.eb:=(div_pow hj1).symm;refine(Trn.nZ5 (p:=p) (q:=q) (dp:=dp) (ap:=ap) (x:=x) (y:=y) (cap:=cap) (peak:=peak) (bufs:=[]) hT hok hl hx hy (by omega) (by omega) hxw2 hyw2 hdis hper (by omega) (by decide) hjs).use hs [0,1,2,3,4] rfl rfl ?_;rintro v _ H ⟨M0,hq,rfl⟩ hs;have hpk2:mx peak (ZE []+((2^j*2^pz.j.ea:Nat):Int)+(D.per d:Int))≤cap:=iZ2 hpk (by rw[bZX];rw[Int.natCast_mul];omega);have hap:pz.ap (pws d x 0 x.w)=trW d x (2^pz.j.ea) (2^pz.j.eb):=by unfold Pz.ap;rw[if_pos ht,vZ9,hxw2]
  rcases hq with⟨d',hI,rfl,rfl⟩|⟨d',hD,hfu,rfl,rfl⟩
  ·simp only[HV];refine⟨_,⟨_,hpk2,_,_,.inl ⟨ht,j,hj,rfl,rfl⟩,.inl ⟨d',hI.pg,?_,by rw[hap],rfl⟩⟩,hs.re [0,1,2,3,4] rfl⟩;rw[hap];have hlen:=mZu d x (2^pz.j.ea) (2^pz.j.eb);rw[hyw2];refine(pZ5 fun k hk=>hI.dst k ?_);rw[hdv,Nat.mul_comm];exact hk
  ·simp only[HV];exact⟨_,⟨_,hpk2,_,_,.inl ⟨ht,j,hj,rfl,rfl⟩,.inr ⟨d',hD,hfu,rfl,rfl⟩⟩,hs.re [0,1,2,3,4] rfl⟩
 |false=>
  refine aZg (by decide) (ZS rfl ?_)
  try simp only[HS]
  refine hs.lda 5 (off:=0) (n:=5) rfl (by show 0+5≤8;omega) ?_;have ea:((pz.c.toList.drop 0).take 5).toArray=pz.j.a:=rfl;rw[ea];obtain⟨h20,htw1,htw2,hcp⟩:=hz.rw ht;have hpb:=Nat.two_pow_pos pz.j.eb;have hq2:2≤(cap-D.per d)/2^pz.j.eb:=(Nat.le_div_iff_mul_le hpb).2 (by omega);obtain⟨j,hj⟩:=dZg.ex (ea:=pz.j.ea) hq2;have hjs:dZg pz.j.ea (((cap:Int)-ZE []-(D.per d:Int)).toNat/2^pz.j.eb) j:=by
   have:((cap:Int)-ZE []-(D.per d:Int)).toNat=cap-D.per d:=by rw[bZX];omega
   rw[this];exact hj
  have hfit:(2^j+1)*2^pz.j.eb≤cap-D.per d:=(Nat.le_div_iff_mul_le hpb).1 hj.fit;rw[Nat.succ_mul]at hfit;refine(Pas.nZ5 (p:=p) (q:=q) (dp:=dp) (ap:=ap) (x:=x) (y:=y) (cap:=cap) (peak:=peak) (bufs:=[]) (j:=pz.j) hT hok hl hx hy (by omega) (by omega) h20 ⟨htw1,htw2⟩ hxw2 hyw2 hdis hper (by omega) (by decide) (by rw[bZX];omega) hjs).use hs [0,1,2,3,4] rfl rfl ?_;rintro v _ H ⟨M0,hq,rfl⟩ hs;have hpk2:mx peak (ZE []+((2^j*2^pz.j.eb:Nat):Int)+((2^pz.j.eb:Nat):Int)+(D.per d:Int))≤cap:=iZ2 hpk (by rw[bZX];omega);have hap:pz.ap (pws d x 0 x.w)=cZE pz.j d x (2^pz.j.ea):=by unfold Pz.ap;rw[if_neg (by rw[ht];simp),rZn,hxw2]
  rcases hq with⟨d',hI,rfl,rfl⟩|⟨d',hD,hfu,rfl,rfl⟩
  ·simp only[HV];refine⟨_,⟨_,hpk2,_,_,.inr ⟨ht,j,hj,rfl,rfl⟩,.inl ⟨d',hI.pg,?_,by rw[hap],rfl⟩⟩,hs.re [0,1,2,3,4] rfl⟩;rw[hap];have hlen:=jZI pz.j d x (2^pz.j.ea);rw[hyw2,←hlen];have hdv:2^pz.j.ea/2^j*2^j=2^pz.j.ea:=(div_pow hj.le).symm;have key:=pZ5 (d:=d') (x:=y) (n:=(cZE pz.j d x (2^pz.j.ea)).length) (f:=fun k=>((cZE pz.j d x (2^pz.j.ea))[k]?).getD 0) fun k hk=>by
    have:=hI.dst k (by rw[hdv,←hlen];exact hk);rw[hdv]at this;exact this
   rw[key];exact sZH _
  ·simp only[HV];exact⟨_,⟨_,hpk2,_,_,.inr ⟨ht,j,hj,rfl,rfl⟩,.inr ⟨d',hD,hfu,rfl,rfl⟩⟩,hs.re [0,1,2,3,4] rfl⟩
end
theorem oZn {d:D}{x:X}(hx:On d x):∀ i,inX x i→0≤i∧i<d.sec:=fun i hi=>by
 have:=hx.fit;unfold inX at hi;omega
def doP (dp ap:Nat)(d:D)(c:Cn)(most k:Nat)(pz:Pz)(cap:Nat)(TT:As)(v:Value)(M:List As):Prop:=
 ∃ peak':Int,peak'≤cap∧∃ r w,eZA (D.per d) cap (exX most (D.per d) pz.f k).f (exX most (D.per d) pz.o k).f pz r w∧
  ((∃ d' c',bZA d d' (nS (D.per d) (2^k)+r) w 1∧Clean d' c'∧Sam (inX (exX most (D.per d) pz.o k)) c c'∧cws c' (D.per d) (exX most (D.per d) pz.o k).f (2^k)=pz.ap (cws c (D.per d) (exX most (D.per d) pz.f k).f (2^k))∧
    v= .tuple #[.int .u32 (eZJ (pz.ap (cws c (D.per d) (exX most (D.per d) pz.f k).f (2^k))):Int),.int .i64 0]∧M=[Dk dp d',Ar ap cap peak' [],TT])∨
  (∃ d',Cut d d' (nS (D.per d) (2^k)+r+w+1)∧Left d' (fun c'=>Sam (inX (exX most (D.per d) pz.o k)) c c')∧v= .tuple #[.int .u32 0,.int .i64 8]∧M=[Dk dp d',Ar ap cap peak' [],TT]))
theorem xZm {dp ap:Nat}{d:D}{c:Cn}{most k:Nat}{pz:Pz}{cap:Nat}{peak:Int}{TT:As}(hT:∀ H,TT H→T64 H)(hc:Clean d c)(hl:hZ3 d most)(hk:k≤most)(ho:d.rd≤100000000000∧d.wr≤100000000000∧d.sy≤100000000000)
  (hcap:cap≤16777216) (hpk:peak≤cap) (hz:jZj pz k (D.per d) cap):
  Tr prog 61 #[.pointer (some ⟨dp,0,none⟩),.pointer (some ⟨ap,0,none⟩),.agg (Lay.bZJ most (D.per d)),.int .i64 (k:Int),.agg pz.c,.int .u32 (eZJ (cws c (D.per d) (exX most (D.per d) pz.f k).f (2^k)):Int)]
   [Dk dp d,Ar ap cap peak [],TT] (doP dp ap d c most k pz cap TT):=fun H hs=>by
 have hok:=hc.ok;have hp:=Ok.per_le hok;have hm:=hl.m;have hx:=hl.on hok hz.f hk;have hy:=hl.on hok hz.o hk;have hcp:D.per d≤cap:=by
  cases ht:pz.t with
  |true=>have:=hz.tn ht;have:=Nat.two_pow_pos pz.j.ea;omega
  |false=>have:=hz.rw ht;have:=Nat.two_pow_pos pz.j.eb;omega
 apply cZc.ok;unfold cZc;refine hs.nw fun b1 H hs=>?_
 refine hs.nw fun b2 H hs=>?_
 refine hs.ldw 3 rfl rfl ?_;refine hs.ldw 4 rfl rfl ?_;rw[Array.toArray_toList,Array.toArray_toList];refine(vZt (dp:=dp) (ap:=ap) hok hl hz.f hz.o hk).use hs [0] rfl rfl ?_;rintro _ _ H ⟨p,q,rfl,rfl⟩ hs;simp only[HV];refine Zq rfl ?_;have hs:Sep [Dk dp d,pts p (ZI dp ap (exX most (D.per d) pz.f k)),pts q (ZI dp ap (exX most (D.per d) pz.o k)),Ar ap cap peak [],TT,pts b1 (.obj (.cells (Lay.bZJ most (D.per d)) 90)),pts b2 (.obj (.cells pz.c 126))] H:=hs;have j6:cZc.j6 (fun v H'=>∃ M,doP dp ap d c most k pz cap TT v M∧Sep M H') (some ⟨dp,0,none⟩) (some ⟨ap,0,none⟩) (eZJ (cws c (D.per d) (exX most (D.per d) pz.f k).f (2^k)):Int) ⟨b1,0,none⟩ ⟨b2,0,none⟩ (some ⟨p,0,none⟩) (some ⟨q,0,none⟩) H:=by
  have hwx:(exX most (D.per d) pz.f k).w=2^k:=rfl;have hwy:(exX most (D.per d) pz.o k).w=2^k:=rfl;have hxy:=rZX (most:=most) (per:=D.per d) hk hz.fo;have hcost:∃ r w,eZA (D.per d) cap (exX most (D.per d) pz.f k).f (exX most (D.per d) pz.o k).f pz r w:=by
   have hkk:=hz.k;cases ht:pz.t with
   |true=>
    have htn:=hz.tn ht;obtain⟨j,_,hj⟩:=cZb.ex (ea:=pz.j.ea) (eb:=pz.j.eb) (per:=(D.per d:Int)) (free:=(cap:Int)) (by omega) (by omega);exact⟨_,_,.inl ⟨ht,j,hj,rfl,rfl⟩⟩
   |false=>
    obtain⟨_,_,_,hcp⟩:=hz.rw ht;obtain⟨j,hj⟩:=dZg.ex (ea:=pz.j.ea) ((Nat.le_div_iff_mul_le (Nat.two_pow_pos pz.j.eb)).2 (by omega):2≤(cap-D.per d)/2^pz.j.eb);exact⟨_,_,.inr ⟨ht,j,hj,rfl,rfl⟩⟩
  generalize hX:exX most (D.per d) pz.f k=x at*;generalize hY:exX most (D.per d) pz.o k=y at*;unfold cZc.j6;refine(mZb (p:=p) (dp:=dp) (ap:=ap) (x:=x) (cap:=cap) (peak:=peak) (bufs:=[]) hok hc.down hx (by omega) (by rw[bZX];omega)).use hs [1,0,3] rfl rfl ?_;have hw0:=gZy hc.now x (2^k);have hpk1:mx peak (ZE []+(D.per d:Int))≤cap:=iZ2 hpk (by rw[bZX];omega);rintro _ _ H (⟨hf,rfl,rfl⟩|⟨j,hj,hf,rfl,rfl⟩) hs
  ·have hsum:((Go.Crc.sum (form (pws d x 0 x.w))).toNat:Int)=(eZJ (cws c (D.per d) x.f (2^k)):Int):=by rw[hwx,hw0];rfl
   rw[hsum];simp only[HV];refine Zq rfl (Zq rfl ?_);rw[hwx]at hs hf;generalize hN:nS (D.per d) (2^k)=N at hs hf;have hcN:=hc.rdG N;have hwN:=bZA.rdG hf;have hs:Sep [pts p (ZI dp ap x),Dk dp (D.rdG d N),Ar ap cap (mx peak (ZE []+(D.per d:Int))) [],pts q (ZI dp ap y),TT,pts b1 (.obj (.cells (Lay.bZJ most (D.per d)) 90)),pts b2 (.obj (.cells pz.c 126))] H:=hs;refine hs.ldw 6 rfl rfl ?_;rw[Array.toArray_toList]
   try simp only[HS]
   refine hs.ld 5 (v:=.int .i64 (D.per d:Int)) rfl rfl ?_;simp only[HV];have hwr:(D.rdG d N).wr=d.wr:=rfl;have hrd:(D.rdG d N).rd=d.rd+N:=rfl;have hNs:N≤4294967296:=by
    rw[← hN];have h2k:=cZI (k:=k) (by omega);unfold nS;exact Nat.le_trans (Nat.div_le_of_le_mul (by
     have:2^k+D.per d-1≤2^k*D.per d:=by
      have h1:=Nat.two_pow_pos k;obtain⟨a,ha⟩:∃ a,2^k=a+1:=⟨2^k-1,by omega⟩;obtain⟨b,hb⟩:∃ b,D.per d=b+1:=⟨D.per d-1,by omega⟩;rw[ha,hb,Nat.mul_add,Nat.add_mul];omega
     rw[Nat.mul_comm];exact this)) h2k
   have hpx:pws (D.rdG d N) x 0 x.w=cws c (D.per d) x.f (2^k):=by rw[hwx];exact gZy hcN.now x (2^k)
   refine(wZ9 (p:=p) (q:=q) (dp:=dp) (ap:=ap) (x:=x) (y:=y) (cap:=cap) (peak:=mx peak (ZE []+(D.per d:Int))) (TT:=TT) (k:=k) (pz:=pz) (d:=D.rdG d N) hT hcN.ok hcN.down ⟨hx.w1,hx.s1,hx.fit,hx.room⟩ ⟨hy.w1,hy.s1,hy.fit,hy.room⟩ (by omega) (by omega) hwx hwy hxy hl.p hcap hpk1 hz).use hs [0,3,1,2,4] rfl rfl ?_;rintro v M H ⟨peak',hpk',r,w,hcost',hq⟩ hs;rw[hpx]at hq;rcases hq with⟨d',hP,hw',rfl,rfl⟩|⟨d',hD,hfu,rfl,rfl⟩
   ·have h2:=hP.sy;simp only[HV];refine Zq rfl ?_;refine(hZz (p:=dp) (d:=d') hP.ok (by rw[h2];show d.sy≤_;omega)).use hs [2] rfl rfl ?_;rintro _ _ H ⟨rfl,rfl⟩ hs;rcases hcN.sync hP (oZn (d:=D.rdG d N) ⟨hy.w1,hy.s1,hy.fit,hy.room⟩)with⟨e,hw2,hc2⟩|⟨e,hcut,hleft⟩
    ·rw[e];simp only[HV];refine Zq rfl ?_;have hgo:=hwN.trans hw2;have hsam:Sam (inX y) c d'.now:=fun i hi=>(hcN.prog hP i).2 hi
     refine⟨_,⟨peak',hpk',r,w,by rw[hX,hY];exact hcost',.inl ⟨_,_,by rw[hN];simpa using hgo,hc2,by rw[hY];exact hsam,?_,by rw[hX];rfl,rfl⟩⟩,hs.re [0,3,4] rfl⟩;rw[hX,hY,←hw',hwy];have e2:D.per d'=D.per d:=hP.per;rw[← e2];exact(gZy (fun _=>rfl) y (2^k)).symm
    ·rw[e];simp only[HV];refine ZA (by decide) ?_;have hgo:=hwN.cut hcut;exact⟨_,⟨peak',hpk',r,w,by rw[hX,hY];exact hcost',.inr ⟨_,by rw[hN];exact hgo.more (by omega),by rw[hY];exact hleft.mono fun _ h=>h.2,rfl,rfl⟩⟩,hs.re [0,3,4] rfl⟩
   ·simp only[HV];refine ZA (by decide) ?_;have hf1:1≤(D.rdG d N).fuse:=by have h1:=hD.cnt;have h2:=hD.rd;have h3:=hD.wr;omega
    have hcut:=hcN.deadCut hD (oZn (d:=D.rdG d N) ⟨hy.w1,hy.s1,hy.fit,hy.room⟩) hfu hf1;have hgo:=hwN.cut hcut;exact⟨_,⟨peak',hpk',r,w,by rw[hX,hY];exact hcost',.inr ⟨_,by rw[hN];exact hgo.more (by omega),by rw[hY];exact hcN.deadLeft hD,rfl,rfl⟩⟩,hs.re [2,3,4] rfl⟩
  ·simp only[HV];refine ZA (by decide) ?_;obtain⟨r,w,hcost⟩:=hcost;rw[hwx]at hj;have hcut:=Cut.rdG hc hf hj;refine⟨_,⟨_,hpk1,r,w,by rw[hX,hY];exact hcost,.inr ⟨_,hcut.more (by omega),?_,rfl,rfl⟩⟩,hs.re [1,2,4] rfl⟩;exact(Left.rdG hc j).mono fun c' e=>by rw[e];exact fun _ _=>rfl
 refine hs.ldf 6 (v:=.int .i64 (if pz.t=true then 1 else 2)) rfl rfl ?_;simp only[HV];cases ht:pz.t with
 |true=>exact Zq rfl j6
 |false=>
  refine ZA (by decide) ?_;refine hs.ldf 6 (v:=.int .i64 (if pz.t=true then 1 else 2)) rfl rfl ?_;rw[ht];simp only[HV];exact Zq rfl j6
end Eng
namespace W
open Go Go.Hw
theorem fZF :prog.follows .mixedOrders=true:=by kernel_rfl
def cZV (x1 x2:Int)(H:Hp)(K:VK):Prop:=
 ((2:Int)≠0∧i64=i64∧HcI 38 #[.int .i64 (i64.wrap (Int.tdiv (i64.wrap (x1+1)) 2))] H fun x3 H1=>K (.int .i64 (i64.wrap ((i64.wrap (2*x3))+x2))) H1)
theorem cZV.ok x1 x2 H K (h:cZV x1 x2 H K):Za prog 9 #[.int .i64 x1,.int .i64 x2] H K:=
 okN fZF Tryz.func9 rfl rfl h
def ZT.l3 (K:VK):Nat→Int→Int→Int→Hp→Prop
 |0,_,_,_,_=>False
 |k+1,x2,x3,x4,H=>
  let R3:=ZT.l3 K k
  BIf (decide (x4<x2)) (R3 x2 (i64.wrap (2*x3)) (i64.wrap (x4+1)) H) (K (.int .i64 x3) H)
def ZT (x1:Int)(H:Hp)(K:VK):Prop:=
 (∃ k,ZT.l3 K k x1 1 0 H)
def ZT.l3.L (K:VK)(k:Nat):Mid:=fun E D H=>
 eI E 0 .i64 fun x2=>eI E 3 .i64 fun x3=>eI E 4 .i64 fun x4=>Zk D (ZT.l3 K k x2 x3 x4 H)
def ZT.Λ3 (_:VK)(_R3:Int→Int→Int→Hp→Prop):Zt:=Zt.none (fun _=>none)
def ZT.Λ (K:VK):Zt:=⟨fun i=>none,fun i=>match Nat.beq i 3 with|true=>some (fun E D H=>∃ k,ZT.l3.L K k E D H)|false=>none,(fun _=>none)⟩
theorem ZT.ok x1 H K (h:ZT x1 H K):Za prog 38 #[.int .i64 x1] H K:=
 okL (Λ:=(ZT.Λ K)) fZF Tryz.func38 rfl rfl h (oC (fun E D H h=>by
   refine Safe.loop' (ZT.l3.L K) (fun E D H h=>?_) (fun k E D H h=>?_) E D H h
   ·obtain⟨w0,e0,g1⟩:=DG.out h;obtain⟨x2,rfl,g2⟩:=DI.out g1;obtain⟨w3,e3,g3⟩:=DG.out g2;obtain⟨x3,rfl,g4⟩:=DI.out g3;obtain⟨w4,e4,g5⟩:=DG.out g4;obtain⟨x4,rfl,g6⟩:=DI.out g5;obtain⟨rfl,h'⟩:=Zk.out g6;exact h'
   ·obtain⟨x2,e0,g2⟩:=GI h;obtain⟨x3,e3,g4⟩:=GI g2;obtain⟨x4,e4,g6⟩:=GI g4;obtain⟨rfl,h'⟩:=Zk.out g6;exact okJ (Λ:=(ZT.Λ3 K (ZT.l3 K k))) fZF [] (Zb.cons e0 (Zb.cons e3 (Zb.cons e4 (Zb.nil _)))) h' oN) oN)
end W
namespace Eng
open Go Go.Hw Go.Form W Shp Dsk Str Are Trn Pas Pln
theorem lZN (H:Hp)(k:Nat)(hk:k≤40):∀(t i:Nat),i+t=k→ZT.l3 (RetE (.int .i64 ((2^k:Nat):Int)) H) (t+1) (k:Int) ((2^i:Nat):Int) (i:Int) H
 |0,i,h=>by
  unfold ZT.l3;obtain rfl:i=k:=by omega
  exact Zh (by omega) (RetE.mk _ _)
 |t+1,i,h=>by
  unfold ZT.l3;refine Zn (by omega) ?_;have h2:2^i≤2^40:=Nat.pow_le_pow_right (by omega) (by omega);have h0:=Int.natCast_nonneg (2^i);have e:i64.wrap ((2:Int)*((2^i:Nat):Int))=((2^(i+1):Nat):Int):=by
   rw[ZG (by omega) (by omega),Nat.pow_succ];omega
  rw[e,ZG (x:=(i:Int)+1) (by omega) (by omega)];exact lZN H k hk t (i+1) (by omega)
theorem tZ6 (k:Nat)(hk:k≤40)(H:Hp):Za prog 38 #[.int .i64 (k:Int)] H (RetE (.int .i64 ((2^k:Nat):Int)) H):=by
 apply ZT.ok;unfold ZT;exact⟨k+1,lZN H k hk k 0 (by omega)⟩
theorem sZF (k per:Nat)(hk:k≤32)(hp:per≤512)(H:Hp):Za prog 9 #[.int .i64 (k:Int),.int .i64 (per:Int)] H (RetE (.int .i64 (aZR k per:Int)) H):=by
 have h1:=cZI (k:=(k+1)/2) (by omega);have h0:=Int.natCast_nonneg (2^((k+1)/2));apply cZV.ok;unfold cZV;rw[ZG (x:=(k:Int)+1) (by omega) (by omega),show Int.tdiv ((k:Int)+1) 2=(((k+1)/2:Nat):Int)from rfl,aZJ (by omega)];refine⟨by decide,by simp,?_⟩;refine Za.use (tZ6 ((k+1)/2) (by omega) H) ?_;simp only[HV];rw[ZG (x:=(2:Int)*_) (by omega) (by omega),ZG (by omega) (by omega)];exact RetE.of (by unfold aZR;rw[Int.natCast_add];rfl)
theorem iZr {k:Nat}(h:k≤6):2^k≤64:=Nat.pow_le_pow_right (n:=2) (by omega) h
theorem iZ5 {d:Bool}{k per words:Nat}(hk:k≤32)(hw:aZR k per≤words):∀ p∈aZb d k per words,jZj p k per words:=by
 intro p hp;unfold aZb at hp;unfold aZR at hw;split at hp
 ·rename_i hb
  have hb:=of_decide_eq_true hb;rw[List.mem_singleton.1 hp];exact⟨by show 0<4;omega,by show 3<4;omega,by show(0:Nat)≠3;omega,by show 0+k=k;omega,fun h=>(by cases h),fun _=>⟨hb.1,by show(-1:Int)≤-1;omega,by show(-1:Int)≤32;omega,by show per+2*2^k≤_;omega⟩⟩
 ·have ha:k-k/2=(k+1)/2:=by omega
  have h1:2^(k/2)≤2^((k+1)/2):=Nat.pow_le_pow_right (by omega) (by omega);have hz:∀(ea eb f o:Nat) (t d:Bool) (tw:Int) (sh:UInt64),f<4→o<4→f≠o→ea+eb=k→ea≤(k+1)/2→eb≤(k+1)/2→-1≤tw→tw≤32→jZj ⟨t,⟨ea,eb,d,tw,sh⟩,f,o⟩ k per words:=fun ea eb f o t d tw sh h1 h2 h3 h4 h5 h6 h7 h8=>by
   have q1:2^ea≤2^((k+1)/2):=Nat.pow_le_pow_right (by omega) h5;have q2:2^eb≤2^((k+1)/2):=Nat.pow_le_pow_right (by omega) h6;exact⟨h1,h2,h3,h4,fun _=>by show 2^ea+per≤words;omega,fun _=>⟨by show eb≤20;omega,h7,h8,by show per+2*2^eb≤words;omega⟩⟩
  unfold gZf at hp;simp only[List.mem_cons,List.not_mem_nil,or_false]at hp;rcases hp with e|e|e|e|e<;>rw[e]<;>exact hz _ _ _ _ _ _ _ _ (by omega) (by omega) (by omega) (by omega) (by omega) (by omega) (by omega) (by omega)
theorem lZp (a b:Nat):a/b*b≤a:=Nat.div_mul_le_self a b
theorem hZG {per cap f o k:Nat}{pz:Pz}{r w:Nat}(h:eZA per cap f o pz r w)(hk:pz.j.ea+pz.j.eb=k):r≤2*2^k∧w≤2^k:=by
 have hpow:2^pz.j.ea*2^pz.j.eb=2^k:=by rw[← Nat.pow_add,hk]
 rcases h with⟨_,j,hj,rfl,rfl⟩|⟨_,j,hj,rfl,rfl⟩
 ·have h1:=qZ3 per f o (2^pz.j.ea) (2^pz.j.eb) (2^j) (2^pz.j.eb/2^j);have h2:=rZm per o (2^pz.j.ea) (2^j) (2^pz.j.eb/2^j);have h3:2^pz.j.eb/2^j*(2^j*2^pz.j.ea)≤2^k:=by
   rw[← Nat.mul_assoc,←hpow,Nat.mul_comm (2^pz.j.ea)];exact Nat.mul_le_mul_right _ (lZp _ _)
  have h4:2^pz.j.eb/2^j*(2*(2^j*2^pz.j.ea))=2*(2^pz.j.eb/2^j*(2^j*2^pz.j.ea)):=by rw[Nat.mul_left_comm]
  exact⟨by omega,by omega⟩
 ·have h1:=qZ2 per f o (2^j*2^pz.j.eb) (2^pz.j.ea/2^j);have h2:=rZl per o (2^j*2^pz.j.eb) (2^pz.j.ea/2^j);have h3:2^pz.j.ea/2^j*(2^j*2^pz.j.eb)≤2^k:=by
   rw[← Nat.mul_assoc,←hpow];exact Nat.mul_le_mul_right _ (lZp _ _)
  have h4:2^pz.j.ea/2^j*(2*(2^j*2^pz.j.eb))=2*(2^pz.j.ea/2^j*(2^j*2^pz.j.eb)):=by rw[Nat.mul_left_comm]
  exact⟨by omega,by omega⟩
theorem lZH {per w:Nat}(hp:1≤per)(hw:1≤w):nS per w≤w:=by
 unfold nS;refine Nat.div_le_of_le_mul ?_;obtain⟨a,rfl⟩:∃ a,w=a+1:=⟨w-1,by omega⟩;obtain⟨b,rfl⟩:∃ b,per=b+1:=⟨per-1,by omega⟩;rw[Nat.mul_add,Nat.add_mul];omega
theorem wZn (x:X){d:D}(hok:Ok d)(src:List UInt64):pws (dZ3 d x src.length 0 src) x 0 src.length=src:=by
 apply List.ext_getElem?;intro i;unfold pws;rw[List.getElem?_map];by_cases h:i<src.length
 ·rw[List.getElem?_range h];show some (pw _ x (0+i))=_
  rw[Nat.zero_add,mZw x hok 0 src i,if_pos ⟨by omega,by omega⟩,Nat.sub_zero,List.getElem?_eq_getElem h];rfl
 ·rw[List.getElem?_eq_none (by rw[List.length_range];omega),List.getElem?_eq_none (by omega)];rfl
theorem lZI {L:List As}{H:Hp}(hs:Sep L H)(i:Nat){b n m:Nat}{xs:List Value}{e:TypeId}{s:Nat}(hi:L[i]? =some (pts b (.row xs e m)))(hx:xs.length=n*s)(hm:m=n*s):Sep (L.set i (Own e s (some ⟨b,0,none⟩) n n xs)) H:=
 hs.turn i hi fun H1 hH=>⟨hx,.inr ⟨b,m,rfl,hH,by first|omega|exact hm|exact hm.symm|exact⟨hm,Nat.le_refl _⟩⟩⟩
end Eng
namespace Eng
open Go Go.Hw Go.Form W Shp Dsk Str Are Trn Ker Fft Pas Pln
end Eng
namespace Trn
open Go Go.Hw Go.Crc Go.Form W Shp Str Dsk Are
theorem rZ3 (e eb j f m:Nat)(hj:j≤eb):∀ i,gR (2^e) f (2^eb) (m*2^j) (2^j) i=i*m1 (2^j/2^e)
 |0=>by simp[gR]
 |i+1=>by
  rw[hZA,rZ3 e eb j f m hj i,Nat.succ_mul,(Pas.gZx e j f (i*2^eb+m*2^j) (Nat.dvd_add (Nat.dvd_mul_left_of_dvd (Nat.pow_dvd_pow 2 hj) i) (Nat.dvd_mul_left _ _))).1]
theorem sZG (e ea eb j f f':Nat)(hj:j≤eb):∀ m,rT (2^e) f f' (2^ea) (2^eb) (2^j) m=m*(2^ea*m1 (2^j/2^e))+(if 2^j*2^ea<2^e then m else 0)
 |0=>by simp[rT]
 |m+1=>by
  rw[hZC,sZG e ea eb j f f' hj m,rZ3 e eb j f m hj,Nat.succ_mul];have h:=(Pas.gZx e (j+ea) f' (m*2^(j+ea)) (Nat.dvd_mul_left _ _)).2;rw[Nat.mul_assoc,←Nat.pow_add,h];split<;>omega
theorem sZ5 (e ea j f':Nat):∀ m,wT (2^e) f' (2^ea) (2^j) m=m*m1 (2^j*2^ea/2^e)
 |0=>by simp[wT]
 |m+1=>by
  rw[hZF,sZ5 e ea j f' m,Nat.succ_mul];have h:=(Pas.gZx e (j+ea) f' (m*2^(j+ea)) (Nat.dvd_mul_left _ _)).1;rw[Nat.mul_assoc,←Nat.pow_add,h]
theorem tZo {per ea eb j:Nat}(hper:per≤1000){N R W:Nat}(hs1:2^j*2^ea≤1000000)(hR:R+N≤1000000000000){b1 b2 b3:Nat}{H0 H:Hp}(hs:Sep [own H0,pts b1 (.obj (.cells #[.int .i64 ((2^ea:Nat):Int),.int .i64 ((2^eb:Nat):Int)] 122)),pts b2 (opO 0 0),pts b3 (opO R W)] H):
  aZC.j6 (Ret (.tuple #[.agg #[.int .i64 ((R+(if 2^j*2^ea<per then N else 0):Nat):Int),.int .i64 (W:Int),.int .i64 0],.int .i64 0]) H0) (per:Int) ⟨b1,0,none⟩ ⟨b2,0,none⟩ ((2^j:Nat):Int) (N:Int) ⟨b3,0,none⟩ H:=by
 unfold aZC.j6
 first|refine hs.ldf 1 rfl rfl ?_|refine hs.ldg 1 rfl rfl ?_
 try simp only[HV]
 rw[← Int.natCast_mul,aZJ (by omega)];by_cases h4:2^j*2^ea<per
 ·rw[if_pos h4];refine Zn (by omega) ?_
  first|refine hs.ldf 3 rfl rfl ?_|refine hs.ldg 3 rfl rfl ?_
  try simp only[HV]
  rw[← Int.natCast_add,aZJ (by omega)];refine hs.stf 3 rfl (Nat.lt_of_sub_eq_succ rfl) rfl fun H hs=>?_;refine hs.ldw 3 rfl rfl ?_;refine hs.stw 2 rfl rfl rfl rfl fun H1 hs=>?_
  refine hs.ldw 2 rfl rfl ?_;exact hs.fin 0 rfl _
 ·rw[if_neg h4];refine Zh (by omega) ?_;refine hs.ldw 3 rfl rfl ?_;refine hs.stw 2 rfl rfl rfl rfl fun H1 hs=>?_
  refine hs.ldw 2 rfl rfl ?_;exact hs.fin 0 rfl _
theorem tZn {per ea eb j:Nat}{free:Int}(hpB:bZ8 (per:Int)=true)(hab:ea+eb≤32)(hj:cZb ((2^ea:Nat):Int) ((2^eb:Nat):Int) per free j)(h2:((2^ea:Nat):Int)≤free-per)(hf:free≤1000)(H:Hp)(hT:T64 H):
  Za prog 129 #[.agg #[.int .i64 ((2^ea:Nat):Int),.int .i64 ((2^eb:Nat):Int)],.int .i64 (per:Int),.int .i64 free] H
   (RetE (.tuple #[.agg #[.int .i64 ((2^eb/2^j*(2^ea*m1 (2^j/per))+(if 2^j*2^ea<per then 2^eb/2^j else 0):Nat):Int),.int .i64 ((2^eb/2^j*m1 (2^j*2^ea/per):Nat):Int),.int .i64 0],.int .i64 0]) H):=Za.ret (by
 have hpr:=eZl hpB;have q1:=pow_pos ea;have q3:=pow_pos j;have hjb:=hj.ge;have hfit:=hj.fit;rw[← Int.natCast_mul]at hfit;have hsz:=size_le hab;have hdiv:=div_pow hjb;apply aZC.ok;unfold aZC aZC.q2 aZC.q1;refine(Sep.start H).nw fun b1 H1 hs=>?_
 refine hs.nw fun b2 H1 hs=>?_
 refine hs.ldw 1 rfl rfl ?_;refine Za.use (pZw _ _ (per:Int) free ⟨by omega,by omega⟩ (by omega) H1 (hT.le (hs.ow 0 rfl)) (fZK hab) hpB (by omega) h2 hj) ?_;simp only[HV]
 first|refine hs.ldf 1 rfl rfl ?_|refine hs.ldg 1 rfl rfl ?_
 try simp only[HV]
 have hN:2^eb/2^j≤2^eb:=Nat.div_le_self _ _;have hN2:2^eb/2^j*2^ea*2^j≤4294967296:=by
  rw[Nat.mul_right_comm,←hdiv,Nat.mul_comm];exact hsz
 have hN4:2^eb/2^j*(2^j*2^ea)≤4294967296:=by
  rw[Nat.mul_comm (2^j),←Nat.mul_assoc];exact hN2
 have eN:Int.tdiv ((2^eb:Nat):Int) ((2^j:Nat):Int)=((2^eb/2^j:Nat):Int):=rfl;have e4:Int.tdiv ((2^j:Nat):Int) (per:Int)=((2^j/per:Nat):Int):=rfl;have e5:Int.tdiv ((2^j*2^ea:Nat):Int) (per:Int)=((2^j*2^ea/per:Nat):Int):=rfl;have q5:2^eb≤2^32:=aZF (by omega);have q6:2^j≤2^32:=aZF (by omega);have l1:2^eb/2^j*(2^ea*m1 (2^j/per))≤4294967296:=
  Nat.le_trans (by rw[← Nat.mul_assoc];exact Nat.mul_le_mul_left _ (Pas.oZA q3 (by omega))) hN2
 have l2:2^eb/2^j*m1 (2^j*2^ea/per)≤4294967296:=
  Nat.le_trans (Nat.mul_le_mul_left _ (Pas.oZA (Nat.mul_pos q3 q1) (by omega))) hN4
 have l3:2^eb/2^j*2^ea≤4294967296:=Nat.le_trans (Nat.le_mul_of_pos_right _ q3) hN2;have d1:2^j/per≤2^j:=Nat.div_le_self _ _;have d2:2^j*2^ea/per≤2^j*2^ea:=Nat.div_le_self _ _;have eA:i64.wrap (Int.tdiv ((2^eb:Nat):Int) ((2^j:Nat):Int))=((2^eb/2^j:Nat):Int):=by rw[eN,aZJ (by omega)]
 have eB:i64.wrap (Int.tdiv ((2^j:Nat):Int) (per:Int))=((2^j/per:Nat):Int):=by rw[e4,aZJ (by omega)]
 have eC:i64.wrap (Int.tdiv (i64.wrap (((2^j:Nat):Int)*((2^ea:Nat):Int))) (per:Int))=((2^j*2^ea/per:Nat):Int):=by
  rw[← Int.natCast_mul,aZJ (n:=2^j*2^ea) (by omega),e5,aZJ (by omega)]
 have eR:i64.wrap (i64.wrap (((2^eb/2^j:Nat):Int)*((2^ea:Nat):Int))*((m1 (2^j/per):Nat):Int))=((2^eb/2^j*(2^ea*m1 (2^j/per)):Nat):Int):=by
  rw[← Int.natCast_mul,aZJ (n:=2^eb/2^j*2^ea) (by omega),←Int.natCast_mul,Nat.mul_assoc,aZJ (by omega)]
 have eW:i64.wrap (((2^eb/2^j:Nat):Int)*((m1 (2^j*2^ea/per):Nat):Int))=((2^eb/2^j*m1 (2^j*2^ea/per):Nat):Int):=by
  rw[← Int.natCast_mul,aZJ (by omega)]
 have leaf:∀{H1 b3} (hs:Sep [own H,pts b1 (.obj (.cells #[.int .i64 ((2^ea:Nat):Int),.int .i64 ((2^eb:Nat):Int)] 122)),pts b2 (opO 0 0),pts b3 (opO 0 0)] H1),
   StA H1 (⟨b3,0,none⟩:Addr) #[.int .i64 ((2^eb/2^j*(2^ea*m1 (2^j/per)):Nat):Int),.int .i64 ((2^eb/2^j*m1 (2^j*2^ea/per):Nat):Int),.int .i64 0] 3 fun H6=>aZC.j6 (Ret (.tuple #[.agg #[.int .i64 ((2^eb/2^j*(2^ea*m1 (2^j/per))+(if 2^j*2^ea<per then 2^eb/2^j else 0):Nat):Int),.int .i64 ((2^eb/2^j*m1 (2^j*2^ea/per):Nat):Int),.int .i64 0],.int .i64 0]) H) (per:Int) ⟨b1,0,none⟩ ⟨b2,0,none⟩ ((2^j:Nat):Int) ((2^eb/2^j:Nat):Int) ⟨b3,0,none⟩ H6:=fun hs=>by
  refine hs.stw 3 rfl rfl rfl rfl fun H1 hs=>?_
  exact tZo (by omega) (by omega) (by omega) hs
 have z1:((2^j:Nat):Int)≠0:=by omega
 have z4:(per:Int)≠0:=by omega
 refine⟨z1,by simp,z4,by simp,?_,?_,?_⟩
 ·first|refine hs.ldf 1 rfl rfl ?_|refine hs.ldg 1 rfl rfl ?_
  try simp only[HV]
  refine⟨?_,?_⟩
  ·first|refine hs.ldf 1 rfl rfl ?_|refine hs.ldg 1 rfl rfl ?_
   try simp only[HV]
   refine⟨z4,by simp,hs.nw fun b3 H1 hs=>?_⟩;simp only[eA,eB,eC,jZ7,eR,eW];exact leaf hs
  ·refine hs.nw fun b3 H1 hs=>?_
   first|refine hs.ldf 1 rfl rfl ?_|refine hs.ldg 1 rfl rfl ?_
   try simp only[HV]
   refine⟨z4,by simp,?_⟩;simp only[eA,eB,eC,jZ7,eR,eW];exact leaf hs
 ·first|refine hs.ldf 1 rfl rfl ?_|refine hs.ldg 1 rfl rfl ?_
  try simp only[HV]
  refine⟨z4,by simp,?_,?_⟩
  ·first|refine hs.ldf 1 rfl rfl ?_|refine hs.ldg 1 rfl rfl ?_
   try simp only[HV]
   refine hs.nw fun b3 H1 hs=>?_
   simp only[eA,eB,eC,jZ7,eR,eW];exact leaf hs
  ·refine hs.nw fun b3 H1 hs=>?_
   first|refine hs.ldf 1 rfl rfl ?_|refine hs.ldg 1 rfl rfl ?_
   try simp only[HV]
   simp only[eA,eB,eC,jZ7,eR,eW];exact leaf hs
 ·refine hs.nw fun b3 H1 hs=>⟨?_,?_⟩
  ·first|refine hs.ldf 1 rfl rfl ?_|refine hs.ldg 1 rfl rfl ?_
   try simp only[HV]
   first|refine hs.ldf 1 rfl rfl ?_|refine hs.ldg 1 rfl rfl ?_
   try simp only[HV]
   refine⟨z4,by simp,?_⟩;simp only[eA,eB,eC,jZ7,eR,eW];exact leaf hs
  ·first|refine hs.ldf 1 rfl rfl ?_|refine hs.ldg 1 rfl rfl ?_
   try simp only[HV]
   refine⟨z4,by simp,?_⟩
   first|refine hs.ldf 1 rfl rfl ?_|refine hs.ldg 1 rfl rfl ?_
   try simp only[HV]
   simp only[eA,eB,eC,jZ7,eR,eW];exact leaf hs)
end Trn
namespace Eng
open Go Go.Hw Go.Form W Shp Dsk Str Are Trn Pas Pln
theorem eZA.unique {per cap f o:Nat}{pz:Pz}{r w r' w':Nat}(h:eZA per cap f o pz r w)(h':eZA per cap f o pz r' w'):r=r'∧w=w':=by
 rcases h with⟨t,j,hj,rfl,rfl⟩|⟨t,j,hj,rfl,rfl⟩<;>rcases h' with⟨t',j',hj',rfl,rfl⟩|⟨t',j',hj',rfl,rfl⟩
 ·obtain rfl:=hj.unique (by have:=Int.natCast_pos.2 (Nat.two_pow_pos pz.j.ea);omega) hj';exact⟨rfl,rfl⟩
 ·rw[t]at t';cases t'
 ·rw[t]at t';cases t'
 ·obtain rfl:=hj.unique hj';exact⟨rfl,rfl⟩
abbrev O3 :=Nat×Nat×Nat
def aZk (o:O3):List Value:=[.int .i64 (o.1:Int),.int .i64 (o.2.1:Int),.int .i64 (o.2.2:Int)]
def eZd (a o:O3):O3:=(a.1+o.1,a.2.1+o.2.1,a.2.2+o.2.2)
def eZn (l:List O3):O3:=l.foldl eZd (0,0,0)
def smO (B:Nat)(o:O3):Prop:=o.1≤B∧o.2.1≤B∧o.2.2≤B
theorem lZ1 (H0:Hp){b1:Nat}(A:OA)(n m:Nat)(l:List O3)(hn:l.length=n)(hl:n≤1000)(hB:∀ o∈l,smO 1000000000 o)(hc:cZu 3 H0 A (l.map aZk)):
  ∀(t j:Nat) (a:O3) (H:Hp),j+t=n→smO (1000000000*j) a→(l.drop j).foldl eZd a=eZn l→Sep [own H0,pts b1 (.obj (.cells (aZk a).toArray 39))] H→
   aZN.l2 (Ret (.agg (aZk (eZn l)).toArray) H0) (t+1) ⟨b1,0,none⟩ A n m (n:Int) (j:Int) H
 |0,j,a,H,hj,ha,hs1,hs=>by
  unfold aZN.l2;refine Zh (by omega) ?_;rw[List.drop_eq_nil_of_le (by omega)]at hs1;have e:a=eZn l:=hs1;rw[e]at hs;refine hs.ldw 1 rfl rfl ?_;refine hs.stw 1 (y:=(aZk (eZn l)).toArray) rfl rfl rfl rfl fun H hs=>?_;refine hs.ldw 1 rfl rfl ?_;exact hs.fin 0 rfl _
 |t+1,j,a,H,hj,ha,hs1,hs=>by
  have hjl:j<l.length:=by omega
  have hrow:(l.map aZk)[j]? =some (aZk (l[j]'hjl)):=by rw[List.getElem?_map,List.getElem?_eq_getElem hjl];rfl
  have hBj:=hB _ (List.getElem_mem hjl);rw[List.drop_eq_getElem_cons hjl,List.foldl_cons]at hs1;unfold aZN.l2;refine Zn (by omega) ?_;refine cZu.rdA (hc.le (hs.ow 0 rfl)) hrow rfl rfl (by rw[List.length_map];omega) ?_;generalize l[j]'hjl=o at hBj hs1;obtain⟨o1,o2,o3⟩:=o;obtain⟨a1,a2,a3⟩:=a;obtain⟨q1,q2,q3⟩:=hBj;obtain⟨p1,p2,p3⟩:=ha;simp only at q1 q2 q3 p1 p2 p3;refine hs.nw fun b2 H hs=>?_
  refine hs.stw 2 (y:=(aZk (o1,o2,o3)).toArray) rfl rfl rfl rfl fun H hs=>?_
  try simp only[HS]
  refine hs.ld 1 (v:=.int .i64 (a1:Int)) rfl rfl ?_;simp only[HV];refine hs.ld 2 (v:=.int .i64 (o1:Int)) rfl rfl ?_;simp only[HV];refine hs.ld 1 (v:=.int .i64 (a2:Int)) rfl rfl ?_;simp only[HV];refine hs.ld 2 (v:=.int .i64 (o2:Int)) rfl rfl ?_;simp only[HV];refine hs.ld 1 (v:=.int .i64 (a3:Int)) rfl rfl ?_;simp only[HV];refine hs.ld 2 (v:=.int .i64 (o3:Int)) rfl rfl ?_;simp only[HV];rw[ZG (x:=(a1:Int)+o1) (by omega) (by omega),ZG (x:=(a2:Int)+o2) (by omega) (by omega),ZG (x:=(a3:Int)+o3) (by omega) (by omega),ZG (x:=(j:Int)+1) (by omega) (by omega)];refine hs.stw 1 rfl rfl rfl rfl fun H hs=>?_;refine lZ1 H0 A n m l hn hl hB hc t (j+1) (eZd (a1,a2,a3) (o1,o2,o3)) H (by omega) ⟨by show a1+o1≤_;omega,by show a2+o2≤_;omega,by show a3+o3≤_;omega⟩ hs1 ?_;have hs:=hs.re [0,1] rfl;exact hs
theorem uZx (A:OA)(n m:Nat)(l:List O3)(hn:l.length=n)(hl:n≤1000)(hB:∀ o∈l,smO 1000000000 o)(H:Hp)(hc:cZu 3 H A (l.map aZk)):
  Za prog 131 #[.slice A n m] H (RetE (.agg (aZk (eZn l)).toArray) H):=by
 apply Za.ret;apply aZN.ok;unfold aZN;refine(Sep.start H).nw fun b1 H1 hs=>⟨n+1,?_⟩
 exact lZ1 H A n m l hn hl hB hc n 0 (0,0,0) H1 (by omega) ⟨by show 0≤_;omega,by show 0≤_;omega,by show 0≤_;omega⟩ rfl hs
theorem mZM {most k words per:Nat}{pz:Pz}(hp4:bZ8 (per:Int)=true)(hm:most≤32)(hk:k≤most)(hk6:k≤6)(hz:jZj pz k per words)(hw:words≤1000)(H:Hp)(hT:T64 H):
  ∃ r w,eZA per words (exX most per pz.f k).f (exX most per pz.o k).f pz r w∧Za prog 86 #[.agg (Lay.bZJ most per),.int .i64 (k:Int),.agg pz.c,.int .i64 (words:Int)] H (RetE (.tuple #[.agg (aZk (r+Lay.ZF k per,w,1)).toArray,.int .i64 0]) H):=by
 have hpn:=eZ2 hp4;obtain⟨q,hq⟩:∃ q,per=2^q:=by
  rcases lZJ hp4 with e|e|e|e|e|e|e|e
  ·exact⟨2,e⟩
  ·exact⟨3,e⟩
  ·exact⟨4,e⟩
  ·exact⟨5,e⟩
  ·exact⟨6,e⟩
  ·exact⟨7,e⟩
  ·exact⟨8,e⟩
  ·exact⟨9,e⟩
 have hkk:=hz.k;have hroom:Lay.ZF k per≤64:=by
  have h1:=iZr hk6;have h2:(2^k-1)/per≤2^k-1:=Nat.div_le_self _ _;unfold Lay.ZF;omega
 have e1:=fun H=>jZi (most:=most) (per:=per) hm hp4 (i:=pz.f) (k:=k) hz.f hk H
 have e2:=fun H=>jZi (most:=most) (per:=per) hm hp4 (i:=pz.o) (k:=k) hz.o hk H
 obtain⟨r,w,hc,hb,hcall⟩:∃ r w,eZA per words (exX most per pz.f k).f (exX most per pz.o k).f pz r w∧(r≤1000000∧w≤1000000)∧∀ H,T64 H→Za prog (if pz.t=true then 129 else 130) #[.agg #[.int .i64 ((2^pz.j.ea:Nat):Int),.int .i64 ((2^pz.j.eb:Nat):Int)],.int .i64 (per:Int),.int .i64 (words:Int)] H (RetE (.tuple #[.agg (aZk (r,w,0)).toArray,.int .i64 0]) H):=by
  cases ht:pz.t with
  |true=>
   have htn:=hz.tn ht;obtain⟨j,hje,hj⟩:=cZb.ex (ea:=pz.j.ea) (eb:=pz.j.eb) (per:=per) (free:=(words:Int)) (by omega) (by omega);have hP:eZA per words (exX most per pz.f k).f (exX most per pz.o k).f pz _ _:=.inl ⟨ht,j,hj,rfl,rfl⟩;have hle:=hZG hP hkk;have h6:=iZr hk6;refine⟨_,_,hP,by omega,fun H hT=>?_⟩;have er:=Trn.sZG q pz.j.ea pz.j.eb j (exX most per pz.f k).f (exX most per pz.o k).f hje (2^pz.j.eb/2^j);have ew:=Trn.sZ5 q pz.j.ea j (exX most per pz.o k).f (2^pz.j.eb/2^j);rw[← hq]at er ew;rw[if_pos rfl,er,ew];exact Trn.tZn hp4 (by omega) hj (by omega) (by omega) H hT
  |false=>
   obtain⟨h20,h3,h4,h5⟩:=hz.rw ht;obtain⟨j,hj⟩:=dZg.ex (ea:=pz.j.ea) (q:=(words-per)/2^pz.j.eb) ((Nat.le_div_iff_mul_le (Nat.two_pow_pos _)).2 (by omega));have hP:eZA per words (exX most per pz.f k).f (exX most per pz.o k).f pz _ _:=.inr ⟨ht,j,hj,rfl,rfl⟩;have hle:=hZG hP hkk;have h6:=iZr hk6;refine⟨_,_,hP,by omega,fun H hT=>?_⟩;rw[if_neg (by decide)];have hcost:=Pas.vZa (ea:=pz.j.ea) (eb:=pz.j.eb) (jb:=j) (per:=per) (free:=(words:Int)) (by omega) (by omega) (by omega) ⟨by rw[fZK (by omega)],by have:=Nat.pow_le_pow_right (n:=2) (by omega) h20;omega,hp4,by omega,by omega⟩ (by rw[show((words:Int)-(per:Int)).toNat=words-per by omega];exact hj) H hT;have er:rP per (exX most per pz.f k).f (exX most per pz.o k).f (2^j*2^pz.j.eb) (2^pz.j.ea/2^j)=cR per (2^j*2^pz.j.eb) (2^pz.j.ea/2^j):=by
    rw[← Nat.pow_add,hq];exact uZW q _ _ _ _
   have ew:wP per (exX most per pz.o k).f (2^j*2^pz.j.eb) (2^pz.j.ea/2^j)=cW per (2^j*2^pz.j.eb) (2^pz.j.ea/2^j):=by
    rw[← Nat.pow_add,hq];exact uZ7 q _ _ _
   rw[er,ew];exact hcost
 refine⟨r,w,hc,Za.ret ?_⟩;apply aZV.ok;unfold aZV;refine(Sep.start H).nw fun b1 H1 hs=>?_
 refine hs.nw fun b2 H1 hs=>?_
 refine hs.nw fun b3 H1 hs=>?_
 have hs:Sep [own H,pts b1 (.obj (.cells (Lay.bZJ most per) 90)),pts b2 (.obj (.cells pz.c 126)),pts b3 (.obj (.cells (aZk (0,0,0)).toArray 39))] H1:=hs;refine hs.ldw 1 rfl rfl ?_
 try simp only[Array.toArray_toList]
 try simp only[HS]
 refine hs.ld 2 (v:=.int .i64 (pz.f:Int)) rfl rfl ?_;simp only[HV];refine Za.use (e1 H1) ?_;simp only[HV];refine hs.nw fun b4 H1 hs=>?_
 refine hs.stw 4 rfl rfl rfl rfl fun H1 hs=>?_
 refine ZS rfl ?_;refine hs.ldw 1 rfl rfl ?_
 try simp only[Array.toArray_toList]
 try simp only[HS]
 refine hs.ld 2 (v:=.int .i64 (pz.o:Int)) rfl rfl ?_;simp only[HV];refine Za.use (e2 H1) ?_;simp only[HV];unfold aZV.j4;refine Zq rfl ?_;refine hs.nw fun b5 H1 hs=>?_
 try simp only[HS]
 refine hs.ld 2 (v:=.int .i64 (if pz.t=true then 1 else 2)) rfl rfl ?_;simp only[HV];have hs:Sep [own H,pts b1 (.obj (.cells (Lay.bZJ most per) 90)),pts b2 (.obj (.cells pz.c 126)),pts b3 (.obj (.cells (aZk (0,0,0)).toArray 39)),pts b4 (.obj (.cells #[.int .i64 (((exX most per pz.f k).f:Nat):Int),.int .i64 (((exX most per pz.f k).s:Nat):Int),.int .i64 (((exX most per pz.f k).w:Nat):Int)] 87)),pts b5 (.obj (.cells (aZk (0,0,0)).toArray 39))] H1:=hs;have j13:∀ H1,Sep [own H,pts b1 (.obj (.cells (Lay.bZJ most per) 90)),pts b2 (.obj (.cells pz.c 126)),pts b3 (.obj (.cells (aZk (0,0,0)).toArray 39)),pts b4 (.obj (.cells #[.int .i64 (((exX most per pz.f k).f:Nat):Int),.int .i64 (((exX most per pz.f k).s:Nat):Int),.int .i64 (((exX most per pz.f k).w:Nat):Int)] 87)),pts b5 (.obj (.cells (aZk (r,w,0)).toArray 39))] H1→
   aZV.j13 (Ret (.tuple #[.agg (aZk (r+Lay.ZF k per,w,1)).toArray,.int .i64 0]) H) ⟨b3,0,none⟩ ⟨b4,0,none⟩ 0 ⟨b5,0,none⟩ H1:=fun H1 hs=>by
  unfold aZV.j13;refine Zq rfl ?_;refine hs.ldw 5 rfl rfl ?_
  try simp only[HS]
  refine hs.ld 4 (v:=.int .i64 ((Lay.ZF k per:Nat):Int)) rfl rfl ?_;simp only[HV];unfold aZk;simp only[HV];refine hs.nw fun b6 H1 hs=>?_
  have hcell:cZu 3 H1 (some ⟨b6,0,none⟩) ([(r,w,0),(Lay.ZF k per,0,1)].map aZk):=fun i x hi=>by
   have hrow:Cells H1 (some ⟨b6,0,none⟩) [.int .i64 (r:Int),.int .i64 (w:Int),.int .i64 0,.int .i64 ((Lay.ZF k per:Nat):Int),.int .i64 0,.int .i64 1]:=by
    have:=Cells.row (hs.get 6 (b:=b6) rfl) 0 6
    rwa [List.drop_zero,List.take_of_length_le (show 6≤6 by omega)]at this
   have get:∀ q v,([.int .i64 (r:Int),.int .i64 (w:Int),.int .i64 0,.int .i64 ((Lay.ZF k per:Nat):Int),.int .i64 0,.int .i64 1]:List Value)[q]? =some v→H1.cell? ((⟨b6,0,none⟩:Addr).add q)=some v:=fun q v h=>by
    obtain⟨a,ha,hc⟩:=hrow q v h;cases ha;exact hc
   rcases i with _|_|i
   ·cases hi;refine⟨_,rfl,fun j v hj=>?_⟩;rcases j with _|_|_|j
    ·cases hj;exact get 0 _ rfl
    ·cases hj;exact get 1 _ rfl
    ·cases hj;exact get 2 _ rfl
    ·cases hj
   ·cases hi;refine⟨_,rfl,fun j v hj=>?_⟩;rcases j with _|_|_|j
    ·cases hj;exact get 3 _ rfl
    ·cases hj;exact get 4 _ rfl
    ·cases hj;exact get 5 _ rfl
    ·cases hj
   ·cases hi
  refine Za.use (uZx (some ⟨b6,0,none⟩) 2 2 [(r,w,0),(Lay.ZF k per,0,1)] rfl (by omega) (fun o ho=>?_) H1 hcell) ?_
  ·simp only[List.mem_cons,List.not_mem_nil,or_false]at ho;rcases ho with rfl|rfl
   ·exact⟨by show r≤_;omega,by show w≤_;omega,by show 0≤_;omega⟩
   ·exact⟨by show Lay.ZF k per≤_;omega,by show 0≤_;omega,by show 1≤_;omega⟩
  simp only[HV];refine hs.stw 3 rfl rfl rfl rfl fun H1 hs=>?_
  refine hs.ldw 3 rfl rfl ?_;have e:eZn [(r,w,0),(Lay.ZF k per,0,1)]=(r+Lay.ZF k per,w,1):=by
   show(0+r+Lay.ZF k per,0+w+0,0+0+1)=_
   simp
  rw[e];exact hs.fin 0 rfl _
 cases ht:pz.t with
 |true=>
  rw[ht]at hcall;refine ZS rfl ?_
  try simp only[HS]
  refine hs.lda 2 (off:=0) (n:=2) rfl (by show 0+2≤8;omega) ?_
  try simp only[HS]
  refine hs.ld 1 (v:=.int .i64 (per:Int)) rfl rfl ?_;simp only[HV];refine Za.use (hcall H1 (hT.le (hs.ow 0 rfl))) ?_;simp only[HV];refine hs.stw 5 rfl rfl rfl rfl fun H1 hs=>?_
  exact j13 H1 hs
 |false=>
  rw[ht]at hcall;refine aZg (by decide) (ZS rfl ?_)
  try simp only[HS]
  refine hs.lda 2 (off:=0) (n:=2) rfl (by show 0+2≤8;omega) ?_
  try simp only[HS]
  refine hs.ld 1 (v:=.int .i64 (per:Int)) rfl rfl ?_;simp only[HV];refine Za.use (hcall H1 (hT.le (hs.ow 0 rfl))) ?_;simp only[HV];refine hs.stw 5 rfl rfl rfl rfl fun H1 hs=>?_
  exact j13 H1 hs
theorem kZO {s:Nat}:∀(rows:List (List Value)) (i j:Nat) (r:List Value) (v:Value),(∀ r∈rows,r.length=s)→rows[i]? =some r→r[j]? =some v→rows.flatten[i*s+j]? =some v
 | [],i,j,r,v,_,hi,_=>by simp at hi
 |x::rows,0,j,r,v,hl,hi,hj=>by
  have e:x=r:=by simpa using hi
  have hlt:=(List.getElem?_eq_some_iff.1 hj).1;rw[List.flatten_cons,Nat.zero_mul,Nat.zero_add,e,List.getElem?_append_left hlt];exact hj
 |x::rows,i+1,j,r,v,hl,hi,hj=>by
  have hx:=hl x (by simp);rw[List.flatten_cons,List.getElem?_append_right (by rw[hx,Nat.succ_mul];omega),hx,show(i+1)*s+j-s=i*s+j by rw[Nat.succ_mul];omega];exact kZO rows i j r v (fun r hr=>hl r (List.mem_cons_of_mem _ hr)) (by simpa using hi) hj
theorem mZJ {s:Nat}(hs:0<s){H:Hp}{A:OA}{rows:List (List Value)}(hl:∀ r∈rows,r.length=s)(hc:Cells H A rows.flatten):cZu s H A rows:=fun i r hi=>by
 have hr:=hl r (List.mem_of_getElem? hi);have h0:r[0]? =some (r[0]'(by omega)):=List.getElem?_eq_getElem (by omega);obtain⟨a,ha,_⟩:=hc _ _ (kZO rows i 0 r _ hl hi h0);refine⟨a,ha,fun j v hj=>?_⟩;obtain⟨a',ha',h⟩:=hc _ _ (kZO rows i j r v hl hi hj);rw[ha]at ha';cases ha';exact h
def uZJ (most k words:Nat)(ps:List Pz)(cs:List O3):Prop:=cs.length=ps.length∧∀(i:Nat) (pz:Pz) (o:O3),ps[i]? =some pz→cs[i]? =some o→∃ r w,eZA 4 words (exX most 4 pz.f k).f (exX most 4 pz.o k).f pz r w∧o=(r+Lay.ZF k 4,w,1)∧smO 1000000000 o
theorem uZJ.small {most k words:Nat}{ps:List Pz}{cs:List O3}(h:uZJ most k words ps cs):∀ o∈cs,smO 1000000000 o:=fun o ho=>by
 obtain⟨i,hi,rfl⟩:=List.getElem_of_mem ho;have hp:i<ps.length:=by rw[← h.1];exact hi
 obtain⟨_,_,_,_,hs⟩:=h.2 i _ _ (List.getElem?_eq_getElem hp) (List.getElem?_eq_getElem hi);exact hs
theorem qZ0 {e:TypeId}{s:Nat}{A:OA}{n m:Nat}{xs:List Value}{H:Hp}(h:Own e s A n m xs H):Cells H A xs:=by
 obtain⟨h1,⟨rfl,rfl,rfl⟩|⟨b,mm,rfl,h4,_⟩⟩:=h
 ·rw[Nat.zero_mul]at h1;rw[List.length_eq_zero_iff.1 h1];exact Cells.nil _ _
 ·have:=Cells.row h4 0 xs.length
  rwa [List.drop_zero,List.take_length]at this
theorem oZe :bZi prog 39=some (3,24,some #[.int .i64 0,.int .i64 0,.int .i64 0]):=by kernel_rfl
section
variable {most k words : Nat} (hm : most ≤ 32) (hk : k ≤ most) (hk6 : k ≤ 6) (hw : words ≤ 1000) {H0 : Hp} (hT : T64 H0)
include hm hk hk6 hw hT
end
end Eng
namespace W
open Go Go.Hw
theorem cZC :prog.follows .mixedOrders=true:=by kernel_rfl
def aZM.l2 (K:VK):Nat→Addr→OA→Nat→Nat→Int→Int→Hp→Prop
 |0,_,_,_,_,_,_,_=>False
 |k+1,a1,A2,n2,m2,x1,x2,H=>
  let R2:=aZM.l2 K k
  BIf (decide (x2<x1)) (ixI x2 n2 (NN A2 fun a2=>LdA H (a2.add (x2.toNat*3)) 3 fun l1=>Nw H (.obj (.cells #[.int .i64 0,.int .i64 0,.int .i64 0] 39)) fun b2 H2=>StA H2 ⟨b2,0,none⟩ l1.toArray 3 fun H3=>LeI H3 (a1.add 0) fun x3=>LeI H3 ((⟨b2,0,none⟩:Addr).add 0) fun x4=>St H3 ((a1.add 0).add 0) (.int .i64 (i64.wrap (x3+x4))) fun H4=>LeI H4 (a1.add 1) fun x5=>LeI H4 ((⟨b2,0,none⟩:Addr).add 1) fun x6=>St H4 ((a1.add 1).add 0) (.int .i64 (i64.wrap (x5+x6))) fun H5=>LeI H5 (a1.add 2) fun x7=>LeI H5 ((⟨b2,0,none⟩:Addr).add 2) fun x8=>St H5 ((a1.add 2).add 0) (.int .i64 (i64.wrap (x7+x8))) fun H6=>R2 a1 A2 n2 m2 x1 (i64.wrap (x2+1)) H6)) (LdA H a1 3 fun l2=>StA H a1 l2.toArray 3 fun H7=>LdA H7 a1 3 fun l3=>K (.agg l3.toArray) H7)
def aZM (A1:OA)(n1 m1:Nat)(H:Hp)(K:VK):Prop:=
 Nw H (.obj (.cells #[.int .i64 0,.int .i64 0,.int .i64 0] 39)) fun b1 H1=>(∃ k,aZM.l2 K k ⟨b1,0,none⟩ A1 n1 m1 (n1:Int) 0 H1)
def aZM.l2.L (K:VK)(k:Nat):Mid:=fun E D H=>
 eN E 2 fun a1=>DG (E.get? 5) fun w5=>DSl w5 fun A2 n2 m2=>eI E 6 .i64 fun x1=>eI E 7 .i64 fun x2=>Zk D (aZM.l2 K k a1 A2 n2 m2 x1 x2 H)
def aZM.Λ2 (_:VK)(_R2:Addr→OA→Nat→Nat→Int→Int→Hp→Prop):Zt:=Zt.none (fun _=>none)
def aZM.Λ (K:VK):Zt:=⟨fun i=>none,fun i=>match Nat.beq i 2 with|true=>some (fun E D H=>∃ k,aZM.l2.L K k E D H)|false=>none,(fun _=>none)⟩
theorem aZM.ok A1 n1 m1 H K (h:aZM A1 n1 m1 H K):Za prog 24 #[.slice A1 n1 m1] H K:=
 okL (Λ:=(aZM.Λ K)) cZC Tryz.func24 rfl rfl h (oC (fun E D H h=>by
   refine Safe.loop' (aZM.l2.L K) (fun E D H h=>?_) (fun k E D H h=>?_) E D H h
   ·obtain⟨w2,e2,g1⟩:=DG.out h;obtain⟨pw2,rfl,g2⟩:=DP.out g1;obtain⟨a1,rfl,g3⟩:=NN.out g2;obtain⟨w5,e5,g4⟩:=DG.out g3;obtain⟨A2,n2,m2,rfl,g5⟩:=DSl.out g4;obtain⟨w6,e6,g6⟩:=DG.out g5;obtain⟨x1,rfl,g7⟩:=DI.out g6;obtain⟨w7,e7,g8⟩:=DG.out g7;obtain⟨x2,rfl,g9⟩:=DI.out g8;obtain⟨rfl,h'⟩:=Zk.out g9;exact h'
   ·obtain⟨a1,e2,g3⟩:=GN h;obtain⟨w5,e5,g4⟩:=DG.out g3;obtain⟨A2,n2,m2,rfl,g5⟩:=DSl.out g4;obtain⟨x1,e6,g7⟩:=GI g5;obtain⟨x2,e7,g9⟩:=GI g7;obtain⟨rfl,h'⟩:=Zk.out g9;exact okJ (Λ:=(aZM.Λ2 K (aZM.l2 K k))) cZC [] (Zb.cons e2 (Zb.cons e5 (Zb.cons e6 (Zb.cons e7 (Zb.nil _))))) h' oN) oN)
def dZ8 (x1 x2 x3 x4:Int)(H:Hp)(K:VK):Prop:=
 Nw H (.obj (.cells #[.int .i64 x1,.int .i64 x2,.int .i64 x3,.int .i64 x4] 27)) fun b1 H1=>Nw H1 (.obj (.cells #[.int .i64 0,.int .i64 0,.int .i64 0] 39)) fun b2 H2=>LdA H2 ⟨b1,0,none⟩ 4 fun l1=>Hz 39 #[.agg l1.toArray,.int .i64 0] H2 fun v1 H3=>cZ9 v1 fun y1 x5=>(Nw H3 (.obj (.cells #[.int .i64 0,.int .i64 0,.int .i64 0,.int .i64 0,.int .i64 0,.int .i64 0,.int .i64 0,.int .i64 0,.int .i64 0,.int .i64 0,.int .i64 0,.int .i64 0,.int .i64 0,.int .i64 0,.int .i64 0,.int .i64 0,.int .i64 0] 90)) fun b3 H4=>StA H4 ⟨b3,0,none⟩ y1 17 fun H5=>BIf (x5 !=0) (StA H5 ⟨b2,0,none⟩ #[.int .i64 0,.int .i64 0,.int .i64 0] 3 fun H6=>LdA H6 ⟨b2,0,none⟩ 3 fun l5=>K (.tuple #[.agg l5.toArray,.int .i64 x5]) H6) (StA H5 ⟨b2,0,none⟩ #[.int .i64 9,.int .i64 0,.int .i64 0] 3 fun H7=>LdA H7 ⟨b2,0,none⟩ 3 fun l6=>K (.tuple #[.agg l6.toArray,.int .i64 0]) H7))
theorem dZ8.ok x1 x2 x3 x4 H K (h:dZ8 x1 x2 x3 x4 H K):Za prog 27 #[.agg #[.int .i64 x1,.int .i64 x2,.int .i64 x3,.int .i64 x4]] H K:=
 okN cZC Tryz.func27 rfl rfl h
def aZi.l8 (K:VK):Nat→Int→Addr→Addr→OA→Nat→Nat→Addr→OA→Nat→Nat→Int→Int→Hp→Prop
 |0,_,_,_,_,_,_,_,_,_,_,_,_,_=>False
 |k+1,x9,a1,a2,A2,n2,m2,a3,A3,n3,m3,x10,x11,H=>
  let R8:=aZi.l8 K k
  BIf (decide (x11<x10)) (ixI x11 n3 (NN A3 fun a4=>LdA H (a4.add (x11.toNat*3)) 3 fun l5=>Nw H (.obj (.cells #[.int .i64 0,.int .i64 0,.int .i64 0] 39)) fun b4 H8=>StA H8 ⟨b4,0,none⟩ l5.toArray 3 fun H9=>LdA H9 ⟨b4,0,none⟩ 3 fun l6=>QcI 34 #[.agg l6.toArray] H9 fun x12=>LdA H9 a3 3 fun l7=>QcI 34 #[.agg l7.toArray] H9 fun x13=>BIf (decide (x12>x13)) (LdA H9 ⟨b4,0,none⟩ 3 fun l8=>StA H9 a3 l8.toArray 3 fun H10=>R8 x9 a1 a2 A2 n2 m2 a3 A3 n3 m3 x10 (i64.wrap (x11+1)) H10) (R8 x9 a1 a2 A2 n2 m2 a3 A3 n3 m3 x10 (i64.wrap (x11+1)) H9))) (LdA H a1 4 fun l9=>Hz 27 #[.agg l9.toArray] H fun v6 H11=>cZ9 v6 fun y1 x14=>(Nw H11 (.obj (.cells #[.int .i64 0,.int .i64 0,.int .i64 0] 39)) fun b5 H12=>StA H12 ⟨b5,0,none⟩ y1 3 fun H13=>LdA H13 ⟨0,0,none⟩ 3 fun l13=>LdA H13 a3 3 fun l14=>QcA 63 #[.agg l14.toArray,.int .i64 x9] H13 fun y2=>LdA H13 ⟨b5,0,none⟩ 3 fun l15=>QcA 63 #[.agg l15.toArray,.int .i64 x9] H13 fun y3=>gZD l13.toArray.toList fun x15 x16 x17=>(gZD y2.toList fun x18 x19 x20=>(gZD y3.toList fun x21 x22 x23=>(Nw H13 (.row [.int .i64 x15,.int .i64 x16,.int .i64 x17,.int .i64 x18,.int .i64 x19,.int .i64 x20,.int .i64 x21,.int .i64 x22,.int .i64 x23] 39 9) fun b6 H14=>cZ8 prog 39 (.slice A2 n2 m2) (.slice (some ⟨b6,0,none⟩) 3 3) H14 fun v20 H15=>DSl v20 fun A4 n4 m4=>HcA 24 #[.slice A4 n4 m4] H15 fun y4 H16=>StA H16 a2 y4 3 fun H17=>LdA H17 a2 3 fun l28=>K (.tuple #[.agg l28.toArray,.int .i64 0]) H17)))))
def aZi.q1 (H3:Hp)(b2:Nat)(K:VK):Prop:=
 StA H3 ⟨b2,0,none⟩ #[.int .i64 0,.int .i64 0,.int .i64 0] 3 fun H5=>LdA H5 ⟨b2,0,none⟩ 3 fun l26=>K (.tuple #[.agg l26.toArray,.int .i64 1]) H5
def aZi (x1 x2 x3 x4 x5 x6 x7:Int)(H:Hp)(K:VK):Prop:=
 Nw H (.obj (.cells #[.int .i64 x1,.int .i64 x2,.int .i64 x3,.int .i64 x4] 27)) fun b1 H1=>Nw H1 (.obj (.cells #[.int .i64 0,.int .i64 0,.int .i64 0] 39)) fun b2 H2=>LdA H2 ⟨b1,0,none⟩ 4 fun l1=>Hz 60 #[.agg l1.toArray,.int .i64 x5,.int .i64 x6] H2 fun v1 H3=>dZ7 v1 fun A1 n1 m1 x8=>(BIf (x8 !=0) (StA H3 ⟨b2,0,none⟩ #[.int .i64 0,.int .i64 0,.int .i64 0] 3 fun H4=>LdA H4 ⟨b2,0,none⟩ 3 fun l25=>K (.tuple #[.agg l25.toArray,.int .i64 x8]) H4) (BIf (decide (x7<0)) (aZi.q1 H3 b2 K) (BIf (decide (x7>1048576)) (aZi.q1 H3 b2 K) (Nw H3 (.obj (.cells #[.int .i64 0,.int .i64 0,.int .i64 0] 39)) fun b3 H7=>(∃ k,aZi.l8 K k x7 ⟨b1,0,none⟩ ⟨b2,0,none⟩ A1 n1 m1 ⟨b3,0,none⟩ A1 n1 m1 (n1:Int) 0 H7)))))
def aZi.l8.L (K:VK)(k:Nat):Mid:=fun E D H=>
 eI E 3 .i64 fun x9=>eN E 4 fun a1=>eN E 8 fun a2=>DG (E.get? 10) fun w10=>DSl w10 fun A2 n2 m2=>eN E 12 fun a3=>DG (E.get? 37) fun w37=>DSl w37 fun A3 n3 m3=>eI E 38 .i64 fun x10=>eI E 39 .i64 fun x11=>Zk D (aZi.l8 K k x9 a1 a2 A2 n2 m2 a3 A3 n3 m3 x10 x11 H)
def aZi.Λ8 (_:VK)(_R8:Int→Addr→Addr→OA→Nat→Nat→Addr→OA→Nat→Nat→Int→Int→Hp→Prop):Zt:=Zt.none (fun i=>match Nat.beq i 14 with|true=>some ([0],[1,2,3,4,5,6,7],8)|false=>none)
def aZi.Λ (K:VK):Zt:=⟨fun i=>none,fun i=>match Nat.beq i 8 with|true=>some (fun E D H=>∃ k,aZi.l8.L K k E D H)|false=>none,(fun i=>match Nat.beq i 14 with|true=>some ([0],[1,2,3,4,5,6,7],8)|false=>none)⟩
theorem aZi.ok x1 x2 x3 x4 x5 x6 x7 H K (h:aZi x1 x2 x3 x4 x5 x6 x7 H K):Za prog 29 #[.agg #[.int .i64 x1,.int .i64 x2,.int .i64 x3,.int .i64 x4],.int .i64 x5,.int .i64 x6,.int .i64 x7] H K:=
 okL (Λ:=(aZi.Λ K)) cZC Tryz.func29 rfl rfl h (oC (fun E D H h=>by
   refine Safe.loop' (aZi.l8.L K) (fun E D H h=>?_) (fun k E D H h=>?_) E D H h
   ·obtain⟨w3,e3,g1⟩:=DG.out h;obtain⟨x9,rfl,g2⟩:=DI.out g1;obtain⟨w4,e4,g3⟩:=DG.out g2;obtain⟨pw4,rfl,g4⟩:=DP.out g3;obtain⟨a1,rfl,g5⟩:=NN.out g4;obtain⟨w8,e8,g6⟩:=DG.out g5;obtain⟨pw8,rfl,g7⟩:=DP.out g6;obtain⟨a2,rfl,g8⟩:=NN.out g7;obtain⟨w10,e10,g9⟩:=DG.out g8;obtain⟨A2,n2,m2,rfl,g10⟩:=DSl.out g9;obtain⟨w12,e12,g11⟩:=DG.out g10;obtain⟨pw12,rfl,g12⟩:=DP.out g11;obtain⟨a3,rfl,g13⟩:=NN.out g12;obtain⟨w37,e37,g14⟩:=DG.out g13;obtain⟨A3,n3,m3,rfl,g15⟩:=DSl.out g14;obtain⟨w38,e38,g16⟩:=DG.out g15;obtain⟨x10,rfl,g17⟩:=DI.out g16;obtain⟨w39,e39,g18⟩:=DG.out g17;obtain⟨x11,rfl,g19⟩:=DI.out g18;obtain⟨rfl,h'⟩:=Zk.out g19;exact h'
   ·obtain⟨x9,e3,g2⟩:=GI h;obtain⟨a1,e4,g5⟩:=GN g2;obtain⟨a2,e8,g8⟩:=GN g5;obtain⟨w10,e10,g9⟩:=DG.out g8;obtain⟨A2,n2,m2,rfl,g10⟩:=DSl.out g9;obtain⟨a3,e12,g13⟩:=GN g10;obtain⟨w37,e37,g14⟩:=DG.out g13;obtain⟨A3,n3,m3,rfl,g15⟩:=DSl.out g14;obtain⟨x10,e38,g17⟩:=GI g15;obtain⟨x11,e39,g19⟩:=GI g17;obtain⟨rfl,h'⟩:=Zk.out g19;exact okJ (Λ:=(aZi.Λ8 K (aZi.l8 K k))) cZC [] (Zb.cons e3 (Zb.cons e4 (Zb.cons e8 (Zb.cons e10 (Zb.cons e12 (Zb.cons e37 (Zb.cons e38 (Zb.cons e39 (Zb.nil _))))))))) h' oN) oN)
def fZQ (x1 x2 x3:Int)(H:Hp)(K:VK):Prop:=
 Nw H (.obj (.cells #[.int .i64 x1,.int .i64 x2,.int .i64 x3] 39)) fun b1 H1=>LeI H1 ((⟨b1,0,none⟩:Addr).add 0) fun x4=>LeI H1 ((⟨b1,0,none⟩:Addr).add 1) fun x5=>LeI H1 ((⟨b1,0,none⟩:Addr).add 2) fun x6=>K (.int .i64 (i64.wrap ((i64.wrap (x4+x5))+x6))) H1
theorem fZQ.ok x1 x2 x3 H K (h:fZQ x1 x2 x3 H K):Za prog 34 #[.agg #[.int .i64 x1,.int .i64 x2,.int .i64 x3]] H K:=
 okN cZC Tryz.func34 rfl rfl h
def bZK.q1 (H5:Hp)(b2:Nat)(K:VK):Prop:=
 StA H5 ⟨b2,0,none⟩ #[.int .i64 0,.int .i64 0,.int .i64 0,.int .i64 0,.int .i64 0,.int .i64 0,.int .i64 0,.int .i64 0,.int .i64 0,.int .i64 0,.int .i64 0,.int .i64 0,.int .i64 0,.int .i64 0,.int .i64 0,.int .i64 0,.int .i64 0] 17 fun H6=>LdA H6 ⟨b2,0,none⟩ 17 fun l6=>K (.tuple #[.agg l6.toArray,.int .i64 1]) H6
def bZK (x1 x2 x3 x4 x5:Int)(H:Hp)(K:VK):Prop:=
 Nw H (.obj (.cells #[.int .i64 x1,.int .i64 x2,.int .i64 x3,.int .i64 x4] 27)) fun b1 H1=>Nw H1 (.obj (.cells #[.int .i64 0,.int .i64 0,.int .i64 0,.int .i64 0,.int .i64 0,.int .i64 0,.int .i64 0,.int .i64 0,.int .i64 0,.int .i64 0,.int .i64 0,.int .i64 0,.int .i64 0,.int .i64 0,.int .i64 0,.int .i64 0,.int .i64 0] 90)) fun b2 H2=>LdA H2 ⟨b1,0,none⟩ 4 fun l1=>Hz 69 #[.agg l1.toArray] H2 fun v1 H3=>cZ9 v1 fun y1 x6=>(Nw H3 (.obj (.cells #[.int .i64 0,.int .i64 0,.int .i64 0,.int .i64 0,.int .i64 0,.int .i64 0,.int .i64 0,.int .i64 0,.int .i64 0,.int .i64 0,.int .i64 0,.int .i64 0,.int .i64 0,.int .i64 0,.int .i64 0,.int .i64 0,.int .i64 0] 90)) fun b3 H4=>StA H4 ⟨b3,0,none⟩ y1 17 fun H5=>BIf (x6 !=0) (bZK.q1 H5 b2 K) (BIf (decide (x5<0)) (bZK.q1 H5 b2 K) (LeI H5 ((⟨b1,0,none⟩:Addr).add 0) fun x7=>BIf (decide (x5>x7)) (bZK.q1 H5 b2 K) (LdA H5 ⟨b3,0,none⟩ 17 fun l5=>StA H5 ⟨b2,0,none⟩ l5.toArray 17 fun H9=>LdA H9 ⟨b2,0,none⟩ 17 fun l9=>K (.tuple #[.agg l9.toArray,.int .i64 0]) H9))))
theorem bZK.ok x1 x2 x3 x4 x5 H K (h:bZK x1 x2 x3 x4 x5 H K):Za prog 39 #[.agg #[.int .i64 x1,.int .i64 x2,.int .i64 x3,.int .i64 x4],.int .i64 x5] H K:=
 okN cZC Tryz.func39 rfl rfl h
def aZy.l9 (K:VK):Nat→Int→Addr→Addr→OA→Nat→Nat→OA→Nat→Nat→Int→Int→Hp→Prop
 |0,_,_,_,_,_,_,_,_,_,_,_,_=>False
 |k+1,x11,a1,a2,A2,n2,m2,A3,n3,m3,x12,x13,H=>
  let R9:=aZy.l9 K k
  BIf (decide (x13<x12)) (ixI x13 n3 (NN A3 fun a3=>LdA H (a3.add (x13.toNat*8)) 8 fun l8=>Nw H (.obj (.cells #[.int .i64 0,.int .i64 0,.int .i64 0,.int .i64 0,.int .u64 0,.int .i64 0,.int .i64 0,.int .i64 0] 126)) fun b3 H6=>StA H6 ⟨b3,0,none⟩ l8.toArray 8 fun H7=>LdA H7 a2 17 fun l9=>LdA H7 ⟨b3,0,none⟩ 8 fun l10=>LeI H7 (a1.add 3) fun x14=>Hz 86 #[.agg l9.toArray,.int .i64 x11,.agg l10.toArray,.int .i64 x14] H7 fun v10 H8=>cZ9 v10 fun y2 x15=>(Nw H8 (.obj (.cells #[.int .i64 0,.int .i64 0,.int .i64 0] 39)) fun b4 H9=>StA H9 ⟨b4,0,none⟩ y2 3 fun H10=>BIf (x15 !=0) (K (.tuple #[.slice none 0 0,.int .i64 x15]) H10) (LdA H10 ⟨b4,0,none⟩ 3 fun l14=>LdA H10 ⟨0,0,none⟩ 3 fun l15=>gZD l14.toArray.toList fun x16 x17 x18=>(gZD l15.toArray.toList fun x19 x20 x21=>(Nw H10 (.row [.int .i64 x16,.int .i64 x17,.int .i64 x18,.int .i64 x19,.int .i64 x20,.int .i64 x21] 39 6) fun b5 H11=>HcA 24 #[.slice (some ⟨b5,0,none⟩) 2 2] H11 fun y3 H12=>gZD y3.toList fun x22 x23 x24=>(Nw H12 (.row [.int .i64 x22,.int .i64 x23,.int .i64 x24] 39 3) fun b6 H13=>cZ8 prog 39 (.slice A2 n2 m2) (.slice (some ⟨b6,0,none⟩) 1 1) H13 fun v23 H14=>DSl v23 fun A4 n4 m4=>R9 x11 a1 a2 A4 n4 m4 A3 n3 m3 x12 (i64.wrap (x13+1)) H14))))))) (K (.tuple #[.slice A2 n2 m2,.int .i64 0]) H)
def aZy (x1 x2 x3 x4 x5 x6:Int)(H:Hp)(K:VK):Prop:=
 Nw H (.obj (.cells #[.int .i64 x1,.int .i64 x2,.int .i64 x3,.int .i64 x4] 27)) fun b1 H1=>LdA H1 ⟨b1,0,none⟩ 4 fun l1=>Hz 39 #[.agg l1.toArray,.int .i64 x5] H1 fun v1 H2=>cZ9 v1 fun y1 x7=>(Nw H2 (.obj (.cells #[.int .i64 0,.int .i64 0,.int .i64 0,.int .i64 0,.int .i64 0,.int .i64 0,.int .i64 0,.int .i64 0,.int .i64 0,.int .i64 0,.int .i64 0,.int .i64 0,.int .i64 0,.int .i64 0,.int .i64 0,.int .i64 0,.int .i64 0] 90)) fun b2 H3=>StA H3 ⟨b2,0,none⟩ y1 17 fun H4=>BIf (x7 !=0) (K (.tuple #[.slice none 0 0,.int .i64 x7]) H4) (LeI H4 ((⟨b2,0,none⟩:Addr).add 1) fun x8=>LeI H4 ((⟨b1,0,none⟩:Addr).add 3) fun x9=>Hz 85 #[.int .i64 x5,.int .i64 x6,.int .i64 x8,.int .i64 x9] H4 fun v6 H5=>dZ7 v6 fun A1 n1 m1 x10=>(BIf (x10 !=0) (K (.tuple #[.slice none 0 0,.int .i64 x10]) H5) ((∃ k,aZy.l9 K k x5 ⟨b1,0,none⟩ ⟨b2,0,none⟩ none 0 0 A1 n1 m1 (n1:Int) 0 H5)))))
def aZy.l9.L (K:VK)(k:Nat):Mid:=fun E D H=>
 eI E 1 .i64 fun x11=>eN E 3 fun a1=>eN E 8 fun a2=>DG (E.get? 11) fun w11=>DSl w11 fun A2 n2 m2=>DG (E.get? 38) fun w38=>DSl w38 fun A3 n3 m3=>eI E 39 .i64 fun x12=>eI E 40 .i64 fun x13=>Zk D (aZy.l9 K k x11 a1 a2 A2 n2 m2 A3 n3 m3 x12 x13 H)
def aZy.Λ9 (_:VK)(_R9:Int→Addr→Addr→OA→Nat→Nat→OA→Nat→Nat→Int→Int→Hp→Prop):Zt:=Zt.none (fun _=>none)
def aZy.Λ (K:VK):Zt:=⟨fun i=>none,fun i=>match Nat.beq i 9 with|true=>some (fun E D H=>∃ k,aZy.l9.L K k E D H)|false=>none,(fun _=>none)⟩
theorem aZy.ok x1 x2 x3 x4 x5 x6 H K (h:aZy x1 x2 x3 x4 x5 x6 H K):Za prog 60 #[.agg #[.int .i64 x1,.int .i64 x2,.int .i64 x3,.int .i64 x4],.int .i64 x5,.int .i64 x6] H K:=
 okL (Λ:=(aZy.Λ K)) cZC Tryz.func60 rfl rfl h (oC (fun E D H h=>by
   refine Safe.loop' (aZy.l9.L K) (fun E D H h=>?_) (fun k E D H h=>?_) E D H h
   ·obtain⟨w1,e1,g1⟩:=DG.out h;obtain⟨x11,rfl,g2⟩:=DI.out g1;obtain⟨w3,e3,g3⟩:=DG.out g2;obtain⟨pw3,rfl,g4⟩:=DP.out g3;obtain⟨a1,rfl,g5⟩:=NN.out g4;obtain⟨w8,e8,g6⟩:=DG.out g5;obtain⟨pw8,rfl,g7⟩:=DP.out g6;obtain⟨a2,rfl,g8⟩:=NN.out g7;obtain⟨w11,e11,g9⟩:=DG.out g8;obtain⟨A2,n2,m2,rfl,g10⟩:=DSl.out g9;obtain⟨w38,e38,g11⟩:=DG.out g10;obtain⟨A3,n3,m3,rfl,g12⟩:=DSl.out g11;obtain⟨w39,e39,g13⟩:=DG.out g12;obtain⟨x12,rfl,g14⟩:=DI.out g13;obtain⟨w40,e40,g15⟩:=DG.out g14;obtain⟨x13,rfl,g16⟩:=DI.out g15;obtain⟨rfl,h'⟩:=Zk.out g16;exact h'
   ·obtain⟨x11,e1,g2⟩:=GI h;obtain⟨a1,e3,g5⟩:=GN g2;obtain⟨a2,e8,g8⟩:=GN g5;obtain⟨w11,e11,g9⟩:=DG.out g8;obtain⟨A2,n2,m2,rfl,g10⟩:=DSl.out g9;obtain⟨w38,e38,g11⟩:=DG.out g10;obtain⟨A3,n3,m3,rfl,g12⟩:=DSl.out g11;obtain⟨x12,e39,g14⟩:=GI g12;obtain⟨x13,e40,g16⟩:=GI g14;obtain⟨rfl,h'⟩:=Zk.out g16;exact okJ (Λ:=(aZy.Λ9 K (aZy.l9 K k))) cZC [] (Zb.cons e1 (Zb.cons e3 (Zb.cons e8 (Zb.cons e11 (Zb.cons e38 (Zb.cons e39 (Zb.cons e40 (Zb.nil _)))))))) h' oN) oN)
def fZk (x1 x2 x3 x4:Int)(H:Hp)(K:VK):Prop:=
 Nw H (.obj (.cells #[.int .i64 x1,.int .i64 x2,.int .i64 x3] 39)) fun b1 H1=>Nw H1 (.obj (.cells #[.int .i64 0,.int .i64 0,.int .i64 0] 39)) fun b2 H2=>LeI H2 ((⟨b1,0,none⟩:Addr).add 0) fun x5=>LeI H2 ((⟨b1,0,none⟩:Addr).add 1) fun x6=>LeI H2 ((⟨b1,0,none⟩:Addr).add 2) fun x7=>StA H2 ⟨b2,0,none⟩ #[.int .i64 (i64.wrap (x4*x5)),.int .i64 (i64.wrap (x4*x6)),.int .i64 (i64.wrap (x4*x7))] 3 fun H3=>LdA H3 ⟨b2,0,none⟩ 3 fun l1=>K (.agg l1.toArray) H3
theorem fZk.ok x1 x2 x3 x4 H K (h:fZk x1 x2 x3 x4 H K):Za prog 63 #[.agg #[.int .i64 x1,.int .i64 x2,.int .i64 x3],.int .i64 x4] H K:=
 okN cZC Tryz.func63 rfl rfl h
end W
namespace Eng
open Go Go.Hw Go.Form W Shp Dsk Str Are Trn Pas Pln
def eZN :O3:=(8,1,1)
def Rcd (H:Hp):Prop:=Cells H (some ⟨0,0,none⟩) (aZk eZN)
theorem Rcd.le {H H':Hp}(h:Rcd H)(k:H.le H'):Rcd H':=Cells.le h k
theorem oZg {H:Hp}{a:Addr}:∀(vs:List Value) (i:Nat),(∀ j v,vs[j]? =some v→H.cell? (a.add (i+j))=some v)→H.cells? a i vs.length=some vs
 | [],_,_=>rfl
 |v::vs,i,h=>by
  have h0:=h 0 v rfl;have ih:=oZg vs (i+1) fun j u hj=>by
   have:=h (j+1) u (by simpa using hj)
   rwa [show i+(j+1)=i+1+j by omega]at this
  show H.cells? a i (vs.length+1)=_
  unfold Hp.cells?;rw[Nat.add_zero]at h0;rw[h0,ih]
theorem Rcd.ld {H:Hp}(h:Rcd H){K:List Value→Prop}(k:K (aZk eZN)):LdA H ⟨0,0,none⟩ 3 K:=by
 unfold LdA;have e:=oZg (H:=H) (a:=⟨0,0,none⟩) (aZk eZN) 0 fun j v hj=>by
  obtain⟨a',ha,hc⟩:=h j v hj;cases ha;rw[Nat.zero_add];exact hc
 rw[show 3=(aZk eZN).length from rfl,e];exact k
abbrev gZ9 (o:O3):AO:=.obj (.cells (aZk o).toArray 39)
def aZB (o:O3):Nat:=o.1+o.2.1+o.2.2
def gZv (n:Nat)(o:O3):O3:=(n*o.1,n*o.2.1,n*o.2.2)
theorem mZG (H0:Hp){b1:Nat}(A:OA)(n m:Nat)(l:List O3)(hn:l.length=n)(hl:n≤1000)(hB:∀ o∈l,smO 1000000000 o)(hc:cZu 3 H0 A (l.map aZk)):
  ∀(t j:Nat) (a:O3) (H:Hp),j+t=n→smO (1000000000*j) a→(l.drop j).foldl eZd a=eZn l→Sep [own H0,pts b1 (gZ9 a)] H→
   aZM.l2 (Ret (.agg (aZk (eZn l)).toArray) H0) (t+1) ⟨b1,0,none⟩ A n m (n:Int) (j:Int) H
 |0,j,a,H,hj,ha,hs1,hs=>by
  unfold aZM.l2;refine Zh (by omega) ?_;rw[List.drop_eq_nil_of_le (by omega)]at hs1;have e:a=eZn l:=hs1;rw[e]at hs;refine hs.ldw 1 rfl rfl ?_;refine hs.stw 1 (y:=(aZk (eZn l)).toArray) rfl rfl rfl rfl fun H hs=>?_;refine hs.ldw 1 rfl rfl ?_;exact hs.fin 0 rfl _
 |t+1,j,a,H,hj,ha,hs1,hs=>by
  have hjl:j<l.length:=by omega
  have hrow:(l.map aZk)[j]? =some (aZk (l[j]'hjl)):=by rw[List.getElem?_map,List.getElem?_eq_getElem hjl];rfl
  have hBj:=hB _ (List.getElem_mem hjl);rw[List.drop_eq_getElem_cons hjl,List.foldl_cons]at hs1;unfold aZM.l2;refine Zn (by omega) ?_;refine cZu.rdA (hc.le (hs.ow 0 rfl)) hrow rfl rfl (by rw[List.length_map];omega) ?_;generalize l[j]'hjl=o at hBj hs1;obtain⟨o1,o2,o3⟩:=o;obtain⟨a1,a2,a3⟩:=a;obtain⟨q1,q2,q3⟩:=hBj;obtain⟨p1,p2,p3⟩:=ha;simp only at q1 q2 q3 p1 p2 p3;refine hs.nw fun b2 H hs=>?_
  refine hs.stw 2 (y:=(aZk (o1,o2,o3)).toArray) rfl rfl rfl rfl fun H hs=>?_
  try simp only[HS]
  refine hs.ld 1 (v:=.int .i64 (a1:Int)) rfl rfl ?_;simp only[HV];refine hs.ld 2 (v:=.int .i64 (o1:Int)) rfl rfl ?_;simp only[HV];rw[ZG (x:=(a1:Int)+o1) (by omega) (by omega)];refine hs.st 1 rfl (by show 0<3;omega) rfl fun H hs=>?_;refine hs.ld 1 (v:=.int .i64 (a2:Int)) rfl rfl ?_;simp only[HV];refine hs.ld 2 (v:=.int .i64 (o2:Int)) rfl rfl ?_;simp only[HV];rw[ZG (x:=(a2:Int)+o2) (by omega) (by omega)];refine hs.st 1 rfl (by show 1<3;omega) rfl fun H hs=>?_;refine hs.ld 1 (v:=.int .i64 (a3:Int)) rfl rfl ?_;simp only[HV];refine hs.ld 2 (v:=.int .i64 (o3:Int)) rfl rfl ?_;simp only[HV];rw[ZG (x:=(a3:Int)+o3) (by omega) (by omega),ZG (x:=(j:Int)+1) (by omega) (by omega)];refine hs.st 1 rfl (by show 2<3;omega) rfl fun H hs=>?_;refine mZG H0 A n m l hn hl hB hc t (j+1) (eZd (a1,a2,a3) (o1,o2,o3)) H (by omega) ⟨by show a1+o1≤_;omega,by show a2+o2≤_;omega,by show a3+o3≤_;omega⟩ hs1 ?_;have hs:=hs.re [0,1] rfl;exact hs
theorem pZK (A:OA)(n m:Nat)(l:List O3)(hn:l.length=n)(hl:n≤1000)(hB:∀ o∈l,smO 1000000000 o)(H:Hp)(hc:cZu 3 H A (l.map aZk)):
  Za prog 24 #[.slice A n m] H (RetE (.agg (aZk (eZn l)).toArray) H):=by
 apply Za.ret;apply aZM.ok;unfold aZM;refine(Sep.start H).nw fun b1 H1 hs=>⟨n+1,?_⟩
 exact mZG H A n m l hn hl hB hc n 0 (0,0,0) H1 (by omega) ⟨by show 0≤_;omega,by show 0≤_;omega,by show 0≤_;omega⟩ rfl hs
theorem iZv (o:O3)(ho:smO 1000000000000 o)(H:Hp):Za prog 34 #[.agg (aZk o).toArray] H (RetE (.int .i64 (aZB o:Int)) H):=by
 obtain⟨o1,o2,o3⟩:=o;obtain⟨q1,q2,q3⟩:=ho;simp only at q1 q2 q3;apply Za.ret;apply fZQ.ok;unfold fZQ;refine(Sep.start H).nw fun b1 H1 hs=>?_
 have hs:Sep [own H,pts b1 (gZ9 (o1,o2,o3))] H1:=hs
 try simp only[HS]
 refine hs.ld 1 (v:=.int .i64 (o1:Int)) rfl rfl ?_;simp only[HV];refine hs.ld 1 (v:=.int .i64 (o2:Int)) rfl rfl ?_;simp only[HV];refine hs.ld 1 (v:=.int .i64 (o3:Int)) rfl rfl ?_;simp only[HV];rw[ZG (x:=(o1:Int)+o2) (by omega) (by omega),ZG (x:=(o1:Int)+o2+o3) (by omega) (by omega),show(o1:Int)+o2+o3=((aZB (o1,o2,o3):Nat):Int) by show _=((o1+o2+o3:Nat):Int);omega];exact hs.fin 0 rfl _
theorem pZV (n:Nat)(hn:n≤1000)(o:O3)(ho:smO 1000000 o)(H:Hp):Za prog 63 #[.agg (aZk o).toArray,.int .i64 (n:Int)] H (RetE (.agg (aZk (gZv n o)).toArray) H):=by
 obtain⟨o1,o2,o3⟩:=o;obtain⟨q1,q2,q3⟩:=ho;simp only at q1 q2 q3;have e:∀ x:Nat,x≤1000000→i64.wrap ((n:Int)*(x:Int))=((n*x:Nat):Int):=fun x hx=>by
  have h:n*x≤1000*1000000:=Nat.mul_le_mul hn hx;rw[← Int.natCast_mul,aZJ (n:=n*x) (by omega)]
 apply Za.ret;apply fZk.ok;unfold fZk;refine(Sep.start H).nw fun b1 H1 hs=>?_
 refine hs.nw fun b2 H1 hs=>?_
 have hs:Sep [own H,pts b1 (gZ9 (o1,o2,o3)),pts b2 (gZ9 (0,0,0))] H1:=hs
 try simp only[HS]
 refine hs.ld 1 (v:=.int .i64 (o1:Int)) rfl rfl ?_;simp only[HV];refine hs.ld 1 (v:=.int .i64 (o2:Int)) rfl rfl ?_;simp only[HV];refine hs.ld 1 (v:=.int .i64 (o3:Int)) rfl rfl ?_;simp only[HV];rw[e o1 q1,e o2 q2,e o3 q3];refine hs.stw 2 (y:=(aZk (gZv n (o1,o2,o3))).toArray) rfl rfl rfl rfl fun H1 hs=>?_
 refine hs.ldw 2 rfl rfl ?_;exact hs.fin 0 rfl _
section
variable {most k : Nat} {sec s ar : Int} (hg : Sup.aZ3 most sec s ar = true) (hk : k ≤ most)
include hg hk
theorem lZj (H:Hp):Za prog 39 #[.agg (Sup.bZo most sec s ar),.int .i64 (k:Int)] H (RetE (.tuple #[.agg (Lay.bZJ most (Lay.ZD s)),.int .i64 0]) H):=by
 apply Za.ret;apply bZK.ok;unfold bZK bZK.q1;refine(Sep.start H).nw fun b1 H1 hs=>?_
 refine hs.nw fun b2 H1 hs=>?_
 have hs:Sep [own H,pts b1 (.obj (.cells (Sup.bZo most sec s ar) 27)),pts b2 (.obj (.cells Lay.mZi 90))] H1:=hs;refine hs.ldw 1 rfl rfl ?_
 try simp only[Array.toArray_toList]
 refine Za.use (Sup.mZz most sec s ar H1) ?_;rw[if_pos hg,Int.toNat_natCast];simp only[HV];refine hs.nw fun b3 H1 hs=>?_
 refine hs.stw 3 (y:=Lay.bZJ most (Lay.ZD s)) rfl rfl rfl rfl fun H1 hs=>?_
 refine Zq rfl (Zh (by omega) ?_)
 try simp only[HS]
 refine hs.ld 1 (v:=.int .i64 (most:Int)) rfl rfl ?_;simp only[HV];refine Zh (by omega) ?_;refine hs.ldw 3 rfl rfl ?_
 try simp only[Array.toArray_toList]
 refine hs.stw 2 (y:=Lay.bZJ most (Lay.ZD s)) rfl rfl rfl rfl fun H1 hs=>?_
 refine hs.ldw 2 rfl rfl ?_;exact hs.fin 0 rfl _
omit hk in
theorem pZj (H:Hp):Za prog 27 #[.agg (Sup.bZo most sec s ar)] H (RetE (.tuple #[.agg (aZk (9,0,0)).toArray,.int .i64 0]) H):=by
 apply Za.ret;apply dZ8.ok;unfold dZ8;refine(Sep.start H).nw fun b1 H1 hs=>?_
 refine hs.nw fun b2 H1 hs=>?_
 have hs:Sep [own H,pts b1 (.obj (.cells (Sup.bZo most sec s ar) 27)),pts b2 (gZ9 (0,0,0))] H1:=hs;refine hs.ldw 1 rfl rfl ?_
 try simp only[Array.toArray_toList]
 refine Za.use (lZj (k:=0) hg (Nat.zero_le _) H1) ?_;simp only[HV];refine hs.nw fun b3 H1 hs=>?_
 refine hs.stw 3 (y:=Lay.bZJ most (Lay.ZD s)) rfl rfl rfl rfl fun H1 hs=>?_
 refine Zq rfl ?_;refine hs.stw 2 (y:=(aZk (9,0,0)).toArray) rfl rfl rfl rfl fun H1 hs=>?_
 refine hs.ldw 2 rfl rfl ?_;exact hs.fin 0 rfl _
omit hg hk in
theorem tZ0 {per:Nat}(hp:1≤per)(k:Nat):nS per (2^k)=Lay.ZF k per:=by
 have:=Nat.two_pow_pos k;unfold nS Lay.ZF;rw[show 2^k+per-1=(2^k-1)+per by omega,Nat.add_div_right _ (by omega)]
omit hg hk in
theorem wZM {H:Hp}{b n:Nat}{e:TypeId}{os:List O3}{m:Nat}(h:H b=some (.row (os.map aZk).flatten e m)):cZu 3 H (some ⟨b,0,none⟩) (os.map aZk):=
 mZJ (by omega) (fun r hr=>by obtain⟨o,_,rfl⟩:=List.mem_map.1 hr;rfl) (by
  have:=Cells.row h 0 (os.map aZk).flatten.length
  rwa [List.drop_zero,List.take_length]at this)
end
def dZ5 (most k per words:Nat)(ps:List Pz)(cs:List O3):Prop:=cs.length=ps.length∧∀(i:Nat) (pz:Pz) (o:O3),ps[i]? =some pz→cs[i]? =some o→∃ r w,eZA per words (exX most per pz.f k).f (exX most per pz.o k).f pz r w∧o=(r+Lay.ZF k per+8,w+1,2)∧smO 10000 o
theorem dZ5.small {most k per words:Nat}{ps:List Pz}{cs:List O3}(h:dZ5 most k per words ps cs):∀ o∈cs,smO 10000 o:=fun o ho=>by
 obtain⟨i,hi,rfl⟩:=List.getElem_of_mem ho;have hp:i<ps.length:=by rw[← h.1];exact hi
 obtain⟨_,_,_,_,hs⟩:=h.2 i _ _ (List.getElem?_eq_getElem hp) (List.getElem?_eq_getElem hi);exact hs
theorem uZZ {k per:Nat}(hk6:k≤6):Lay.ZF k per≤64:=by
 have h1:=iZr hk6;have h2:(2^k-1)/per≤2^k-1:=Nat.div_le_self _ _;unfold Lay.ZF;omega
theorem dZ5.ex {most k per words:Nat}(hp4:bZ8 (per:Int)=true)(hm:most≤32)(hk:k≤most)(hk6:k≤6)(hw:words≤1000){H:Hp}(hT:T64 H):∀ ps:List Pz,(∀ p∈ps,jZj p k per words)→∃ cs,dZ5 most k per words ps cs
 | [],_=>⟨[],rfl,fun i pz o h=>by simp at h⟩
 |p::ps,h=>by
  obtain⟨cs,hc⟩:=dZ5.ex hp4 hm hk hk6 hw hT ps (fun q hq=>h q (List.mem_cons_of_mem _ hq));have hz:=h p List.mem_cons_self;obtain⟨r,w,hP,_⟩:=mZM hp4 hm hk hk6 hz hw H hT;have hle:=hZG hP hz.k;have h6:=iZr hk6;have hro:=uZZ (k:=k) (per:=per) hk6;refine⟨(r+Lay.ZF k per+8,w+1,2)::cs,by simp[hc.1],fun i pz o hi ho=>?_⟩;cases i with
  |zero=>cases hi;cases ho;exact⟨r,w,hP,rfl,by show r+Lay.ZF k per+8≤_;omega,by show w+1≤_;omega,by show 2≤_;omega⟩
  |succ i=>exact hc.2 i pz o hi ho
theorem sZY (a b:O3):eZn [a,b]=(a.1+b.1,a.2.1+b.2.1,a.2.2+b.2.2):=by
 show(0+a.1+b.1,0+a.2.1+b.2.1,0+a.2.2+b.2.2)=_
 simp
theorem smO.mono {B B':Nat}{o:O3}(h:smO B o)(k:B≤B'):smO B' o:=⟨Nat.le_trans h.1 k,Nat.le_trans h.2.1 k,Nat.le_trans h.2.2 k⟩
theorem wZ1 {A:OA}{n m:Nat}{cs:List O3}{H:Hp}(h:Own 39 3 A n m (cs.map aZk).flatten H):cZu 3 H A (cs.map aZk):=
 mZJ (by omega) (fun r hr=>by obtain⟨o,_,rfl⟩:=List.mem_map.1 hr;rfl) (qZ0 h)
def mxO (a o:O3):O3:=if aZB o>aZB a then o else a
def cZF (cs:List O3):O3:=cs.foldl mxO (0,0,0)
theorem wZX (cs:List O3):∀ a:O3,aZB a≤aZB (cs.foldl mxO a)∧∀ o∈cs,aZB o≤aZB (cs.foldl mxO a):=by
 induction cs with
 |nil=>exact fun a=>⟨Nat.le_refl _,fun o ho=>by cases ho⟩
 |cons c cs ih=>
  intro a;obtain⟨h1,h2⟩:=ih (mxO a c);have h3:aZB a≤aZB (mxO a c)∧aZB c≤aZB (mxO a c):=by unfold mxO;split<;>omega
  refine⟨Nat.le_trans h3.1 h1,fun o ho=>?_⟩;rcases List.mem_cons.1 ho with rfl|ho
  ·exact Nat.le_trans h3.2 h1
  ·exact h2 o ho
theorem vZH {cs:List O3}{o:O3}(h:o∈cs):aZB o≤aZB (cZF cs):=(wZX cs _).2 o h
theorem sZt {B:Nat}:∀(cs:List O3) (a:O3),smO B a→(∀ o∈cs,smO B o)→smO B (cs.foldl mxO a)
 | [],a,h,_=>h
 |c::cs,a,h,hc=>sZt cs (mxO a c) (by unfold mxO;split;exact hc c List.mem_cons_self;exact h) (fun o ho=>hc o (List.mem_cons_of_mem _ ho))
section
variable {most k : Nat} {sec : Int} {s words : Nat} (hg : Sup.aZ3 most sec s words = true) (hk : k ≤ most) (hk6 : k ≤ 6) (hw : aZR k (Lay.ZD s) ≤ words ∧ words ≤ 1000) (d : Bool) {cs : List O3} (hC : dZ5 most k (Lay.ZD s) words (aZb d k (Lay.ZD s) words) cs) {TT : As} (hT : ∀ H, TT H → T64 H ∧ Rcd H)
abbrev jZa (most:Nat)(sec:Int)(s words:Nat):AO:=.obj (.cells (Sup.bZo most sec s words) 27)
def sZX (cs:List O3)(TT:As)(v:Value)(M:List As):Prop:=∃ A m,v= .tuple #[.slice A cs.length m,.int .i64 0]∧M=[Own 39 3 A cs.length m (cs.map aZk).flatten,TT]
include hT hk hk6 hw hC in
theorem lZZ (hm:most≤32)(hp4:bZ8 ((Lay.ZD s:Nat):Int)=true)(hps:∀ p∈aZb d k (Lay.ZD s) words,jZj p k (Lay.ZD s) words){A3:OA}{m3 b1 b2:Nat}:∀(t j:Nat) (A2:OA) (m2:Nat) (H:Hp),j+t=cs.length→
  Sep [TT,pts b1 (jZa most sec s words),pts b2 (.obj (.cells (Lay.bZJ most (Lay.ZD s)) 90)),Own 126 8 A3 cs.length m3 (bZq (aZb d k (Lay.ZD s) words)),Own 39 3 A2 j m2 ((cs.take j).map aZk).flatten] H→
   aZy.l9 (fun v H=>∃ M,sZX cs TT v M∧Sep M H) (t+1) (k:Int) ⟨b1,0,none⟩ ⟨b2,0,none⟩ A2 j m2 A3 cs.length m3 (cs.length:Int) (j:Int) H
 |0,j,A2,m2,H,hj,hs=>by
  have ej:j=cs.length:=by omega
  subst ej;rw[List.take_length]at hs;unfold aZy.l9;refine Zh (by omega) ?_;exact⟨_,⟨A2,m2,rfl,rfl⟩,hs.re [4,0] rfl⟩
 |t+1,j,A2,m2,H,hj,hs=>by
  have hjl:j<cs.length:=by omega
  have hjp:j<(aZb d k (Lay.ZD s) words).length:=by rw[← hC.1];exact hjl
  have hg':(aZb d k (Lay.ZD s) words)[j]? =some ((aZb d k (Lay.ZD s) words)[j]'hjp):=List.getElem?_eq_getElem hjp;have hz:=hps _ (List.getElem_mem hjp);have h5:=(cZ6 d k (Lay.ZD s) words).2;have h5':=hC.1;obtain⟨r',w',hP',ho,hsm⟩:=hC.2 j _ _ hg' (List.getElem?_eq_getElem hjl);have htk:cs.take (j+1)=cs.take j++[cs[j]'hjl]:=List.take_succ_eq_append_getElem hjl;unfold aZy.l9;refine Zn (by omega) ?_;refine(hs.own 3 rfl).rdA (x:=(j:Int)) (j:=j) rfl hjl (jZD _ _ _ hg') ?_;generalize(aZb d k (Lay.ZD s) words)[j]'hjp=pz at hz hP';generalize cs[j]'hjl=o at ho hsm htk;refine hs.nw fun b4 H hs=>?_
  refine hs.stw 5 (y:=pz.c) rfl rfl rfl rfl fun H hs=>?_;refine hs.ldw 2 rfl rfl ?_;refine hs.ldw 5 rfl rfl ?_
  try simp only[Array.toArray_toList]
  try simp only[HS]
  refine hs.ld 1 (v:=.int .i64 (words:Int)) rfl rfl ?_;simp only[HV];obtain⟨H9,h9,h9'⟩:=hs.see 0 rfl;have hTR:=hT _ h9;obtain⟨r,w,hc,hcall⟩:=mZM hp4 hm hk hk6 hz hw.2 H (hTR.1.le h9');obtain⟨rfl,rfl⟩:=hc.unique hP';refine Za.use hcall ?_;simp only[HV];refine hs.nw fun b5 H hs=>?_
  refine hs.stw 6 (y:=(aZk (r+Lay.ZF k (Lay.ZD s),w,1)).toArray) rfl rfl rfl rfl fun H hs=>?_;refine Zq rfl ?_;refine hs.ldw 6 rfl rfl ?_;obtain⟨H9,h9,h9'⟩:=hs.see 0 rfl;have hTR:=hT _ h9;refine(hTR.2.le h9').ld ?_;unfold eZN aZk;simp only[HV];refine hs.nw fun b6 H hs=>?_
  have hcp:=hZG hc hz.k;have h6:=iZr hk6;have hroom:=uZZ (k:=k) (per:=Lay.ZD s) hk6;have hcell:=wZM (os:=[(r+Lay.ZF k (Lay.ZD s),w,1),eZN]) (n:=0) (hs.get 7 (b:=b6) rfl);refine Za.use (pZK (some ⟨b6,0,none⟩) 2 2 [(r+Lay.ZF k (Lay.ZD s),w,1),eZN] rfl (by omega) (fun o ho=>?_) H hcell) ?_
  ·simp only[List.mem_cons,List.not_mem_nil,or_false]at ho;rcases ho with rfl|rfl
   ·exact⟨by show r+Lay.ZF k (Lay.ZD s)≤_;omega,by show w≤_;omega,by show 1≤_;omega⟩
   ·exact⟨by decide,by decide,by decide⟩
  have e:eZn [(r+Lay.ZF k (Lay.ZD s),w,1),eZN]=o:=by rw[sZY,ho];rfl
  rw[e];obtain⟨o1,o2,o3⟩:=o;simp only[HV];unfold aZk;simp only[HV];have hs:Sep [TT,pts b1 (jZa most sec s words),pts b2 (.obj (.cells (Lay.bZJ most (Lay.ZD s)) 90)),Own 126 8 A3 cs.length m3 (bZq (aZb d k (Lay.ZD s) words)),Own 39 3 A2 j m2 ((cs.take j).map aZk).flatten] H:=hs.re [0,1,2,3,4] rfl;refine hs.appS 4 rfl oZe rfl (by omega) (by omega) rfl rfl (by omega) (by omega) fun A' m' H hs=>?_
  simp only[HV];rw[ZG (x:=(j:Int)+1) (by omega) (by omega)];refine lZZ hm hp4 hps t (j+1) A' m' H (by omega) ?_;rw[htk,List.map_append,List.flatten_append];exact hs
include hg hk hk6 hw hC hT in
theorem uZo :Tr prog 60 #[.agg (Sup.bZo most sec s words),.int .i64 (k:Int),.int .i64 (if d=true then 1 else 0)] [TT] (sZX cs TT):=fun H hs=>by
 have hgg:=hg;unfold Sup.aZ3 at hgg;simp only[decide_eq_true_eq]at hgg;obtain⟨_,hm,hpp,_⟩:=hgg;have hsz:=dZ4 hpp;have hp4:bZ8 ((Lay.ZD s:Nat):Int)=true:=by rw[hsz.1];exact iZd hpp
 apply aZy.ok;unfold aZy;refine hs.nw fun b1 H hs=>?_
 have hs:Sep [TT,pts b1 (jZa most sec s words)] H:=hs;refine hs.ldw 1 rfl rfl ?_
 try simp only[Array.toArray_toList]
 refine Za.use (lZj hg hk H) ?_;simp only[HV];refine hs.nw fun b2 H hs=>?_
 refine hs.stw 2 (y:=Lay.bZJ most (Lay.ZD s)) rfl rfl rfl rfl fun H hs=>?_;refine Zq rfl ?_
 try simp only[HS]
 refine hs.ld 2 (v:=.int .i64 ((Lay.ZD s:Nat):Int)) rfl rfl ?_;simp only[HV];refine hs.ld 1 (v:=.int .i64 (words:Int)) rfl rfl ?_;simp only[HV];refine(mZB (k:=k) (per:=Lay.ZD s) (words:=words) (by omega) hp4 ⟨hw.1,by omega⟩ d).use hs [] rfl rfl ?_;rintro _ _ H ⟨bp,rfl,rfl⟩ hs;simp only[HV];refine Zq rfl ⟨cs.length+1,?_⟩;have hs:Sep [pts bp (.row (bZq (aZb d k (Lay.ZD s) words)) 126 ((aZb d k (Lay.ZD s) words).length*8)),TT,pts b1 (jZa most sec s words),pts b2 (.obj (.cells (Lay.bZJ most (Lay.ZD s)) 90))] H:=hs;have hs:=lZI hs 0 (n:=(aZb d k (Lay.ZD s) words).length) (s:=8) rfl (jZE _) rfl;have hs:Sep (Own 39 3 .none 0 0 []::[Own 126 8 (some ⟨bp,0,none⟩) (aZb d k (Lay.ZD s) words).length (aZb d k (Lay.ZD s) words).length (bZq (aZb d k (Lay.ZD s) words)),TT,pts b1 (jZa most sec s words),pts b2 (.obj (.cells (Lay.bZJ most (Lay.ZD s)) 90))]) H:=⟨fun _=>none,H,fun _ _ h=>(nomatch h),Hp.le_refl _,fun _=>.inl rfl,Own.none _ _ _,hs⟩;rw[← hC.1]at hs⊢;exact lZZ hk hk6 hw d hC hT (by omega) hp4 (iZ5 (by omega) hw.1) cs.length 0 .none 0 H (by omega) (hs.re [2,3,4,1,0] rfl)
end
section
variable {most k : Nat} {sec : Int} {s words : Nat} (hg : Sup.aZ3 most sec s words = true) (hk : k ≤ most) (hk6 : k ≤ 6) (hw : aZR k (Lay.ZD s) ≤ words ∧ words ≤ 1000) (d : Bool) {cs : List O3} (hC : dZ5 most k (Lay.ZD s) words (aZb d k (Lay.ZD s) words) cs) (H : Hp) (hT : T64 H) (hr : Rcd H)
include hg hk hk6 hw hC hT hr
def dZe (cs:List O3)(n:Nat):O3:=eZn (cs++[eZN,gZv n (cZF cs),gZv n (9,0,0)])
theorem jZc {n:Nat}(hn:n≤1000){A:OA}{m b1 b2 b3:Nat}:∀(t j:Nat) (a:O3) (H1:Hp),j+t=cs.length→smO 10000 a→(cs.drop j).foldl mxO a=cZF cs→
  Sep [Own 39 3 A cs.length m (cs.map aZk).flatten,own H,pts b1 (jZa most sec s words),pts b2 (gZ9 (0,0,0)),pts b3 (gZ9 a)] H1→
   aZi.l8 (Ret (.tuple #[.agg (aZk (dZe cs n)).toArray,.int .i64 0]) H) (t+1) (n:Int) ⟨b1,0,none⟩ ⟨b2,0,none⟩ A cs.length m ⟨b3,0,none⟩ A cs.length m (cs.length:Int) (j:Int) H1
 |0,j,a,H1,hj,ha,he,hs=>by
  have h5:=(cZ6 d k (Lay.ZD s) words).2;have h5':=hC.1;rw[List.drop_eq_nil_of_le (by omega)]at he;have he:a=cZF cs:=he;subst he;unfold aZi.l8;refine Zh (by omega) ?_;refine hs.ldw 2 rfl rfl ?_
  try simp only[Array.toArray_toList]
  refine Za.use (pZj hg H1) ?_;simp only[HV];refine hs.nw fun b5 H1 hs=>?_
  refine hs.stw 5 (y:=(aZk (9,0,0)).toArray) rfl rfl rfl rfl fun H1 hs=>?_
  refine(hr.le (hs.ow 1 rfl)).ld ?_;refine hs.ldw 4 rfl rfl ?_
  try simp only[Array.toArray_toList]
  refine ZQ.use (pZV n hn (cZF cs) (ha.mono (by omega)) H1) ?_;simp only[HV];refine hs.ldw 5 rfl rfl ?_
  try simp only[Array.toArray_toList]
  refine ZQ.use (pZV n hn (9,0,0) ⟨by decide,by decide,by decide⟩ H1) ?_;simp only[HV];have hm1:smO 1000000000 (gZv n (cZF cs)):=⟨Nat.le_trans (Nat.mul_le_mul hn ha.1) (by omega),Nat.le_trans (Nat.mul_le_mul hn ha.2.1) (by omega),Nat.le_trans (Nat.mul_le_mul hn ha.2.2) (by omega)⟩;have hm2:smO 1000000000 (gZv n (9,0,0)):=⟨by show n*9≤_;omega,by show n*0≤_;omega,by show n*0≤_;omega⟩;unfold dZe;generalize gZv n (cZF cs)=q1 at hm1;generalize gZv n (9,0,0)=q2 at hm2;obtain⟨u1,u2,u3⟩:=q1;obtain⟨v1,v2,v3⟩:=q2;unfold eZN aZk;simp only[HV];refine hs.nw fun b6 H1 hs=>?_
  have hcells:=fZJ (hs.get 6 (b:=b6) rfl) 0 9 0 (by show 0+0+9≤9;omega);refine hs.app 0 (k:=3) (ys:=([eZN,(u1,u2,u3),(v1,v2,v3)].map aZk).flatten) rfl oZe rfl (by omega) (by omega) rfl ?_ rfl rfl (by omega) (by omega) fun A' m' H1 hs=>?_
  ·exact hcells
  simp only[HV];have hs:Sep [Own 39 3 A' (cs.length+3) m' ((cs++[eZN,(u1,u2,u3),(v1,v2,v3)]).map aZk).flatten,own H,pts b1 (jZa most sec s words),pts b2 (gZ9 (0,0,0))] H1:=by
   rw[List.map_append,List.flatten_append];exact hs.re [0,1,2,3] rfl
  refine Za.use (pZK A' (cs.length+3) m' (cs++[eZN,(u1,u2,u3),(v1,v2,v3)]) (by simp) (by omega) (fun o ho=>?_) H1 (wZ1 (hs.own 0 rfl))) ?_
  ·rcases List.mem_append.1 ho with h|h
   ·exact(hC.small o h).mono (by omega)
   ·simp only[List.mem_cons,List.not_mem_nil,or_false]at h;rcases h with rfl|rfl|rfl
    ·exact⟨by decide,by decide,by decide⟩
    ·exact hm1
    ·exact hm2
  simp only[HV];refine hs.stw 3 (y:=(aZk (eZn (cs++[eZN,(u1,u2,u3),(v1,v2,v3)]))).toArray) rfl rfl rfl rfl fun H1 hs=>?_
  refine hs.ldw 3 rfl rfl ?_;exact hs.fin 1 rfl _
 |t+1,j,a,H1,hj,ha,he,hs=>by
  have h5:=(cZ6 d k (Lay.ZD s) words).2;have h5':=hC.1;have hjl:j<cs.length:=by omega
  have hrow:(cs.map aZk)[j]? =some (aZk (cs[j]'hjl)):=by rw[List.getElem?_map,List.getElem?_eq_getElem hjl];rfl
  have hsm:=hC.small _ (List.getElem_mem hjl);rw[List.drop_eq_getElem_cons hjl,List.foldl_cons]at he;unfold aZi.l8;refine Zn (by omega) ?_;refine cZu.rdA (wZ1 (hs.own 0 rfl)) hrow rfl rfl (by rw[List.length_map];omega) ?_;generalize cs[j]'hjl=o at hsm he;refine hs.nw fun b4 H1 hs=>?_
  refine hs.stw 5 (y:=(aZk o).toArray) rfl rfl rfl rfl fun H1 hs=>?_
  refine hs.ldw 5 rfl rfl ?_
  try simp only[Array.toArray_toList]
  refine ZQ.use (iZv o (hsm.mono (by omega)) H1) ?_;simp only[HV];refine hs.ldw 4 rfl rfl ?_
  try simp only[Array.toArray_toList]
  refine ZQ.use (iZv a (ha.mono (by omega)) H1) ?_;simp only[HV];rw[ZG (x:=(j:Int)+1) (by omega) (by omega)];by_cases hgt:aZB o>aZB a
  ·have hmx:mxO a o=o:=by unfold mxO;rw[if_pos hgt]
   rw[hmx]at he;refine Zn (by omega) ?_;refine hs.ldw 5 rfl rfl ?_;refine hs.stw 4 (y:=(aZk o).toArray) rfl rfl rfl rfl fun H1 hs=>?_
   exact jZc hn t (j+1) o H1 (by omega) hsm he (hs.re [0,1,2,3,4] rfl)
  ·have hmx:mxO a o=a:=by unfold mxO;rw[if_neg hgt]
   rw[hmx]at he;refine Zh (by omega) ?_;exact jZc hn t (j+1) a H1 (by omega) ha he (hs.re [0,1,2,3,4] rfl)
theorem rZL {n:Nat}(hn:n≤1000):Za prog 29 #[.agg (Sup.bZo most sec s words),.int .i64 (k:Int),.int .i64 (if d=true then 1 else 0),.int .i64 (n:Int)] H (RetE (.tuple #[.agg (aZk (dZe cs n)).toArray,.int .i64 0]) H):=by
 apply Za.ret;apply aZi.ok;unfold aZi aZi.q1;refine(Sep.start H).nw fun b1 H1 hs=>?_
 refine hs.nw fun b2 H1 hs=>?_
 have hs:Sep [own H,pts b1 (jZa most sec s words),pts b2 (gZ9 (0,0,0))] H1:=hs;refine hs.ldw 1 rfl rfl ?_
 try simp only[Array.toArray_toList]
 refine(uZo hg hk hk6 hw d hC (TT:=own H) (fun H' h=>⟨hT.le h,hr.le h⟩)).use hs [0] rfl rfl ?_;rintro _ _ H1 ⟨A,m,rfl,rfl⟩ hs;simp only[HV];have hs:Sep [Own 39 3 A cs.length m (cs.map aZk).flatten,own H,pts b1 (jZa most sec s words),pts b2 (gZ9 (0,0,0))] H1:=hs;refine Zq rfl (Zh (by omega) (Zh (by omega) ?_));refine hs.nw fun b3 H1 hs=>⟨cs.length+1,?_⟩
 exact jZc hg hk hk6 hw d hC H hT hr hn cs.length 0 (0,0,0) H1 (by omega) ⟨by decide,by decide,by decide⟩ rfl hs
end
end Eng
end Go.Proofs.YtgfildcgihbdaaaGreatDoor
