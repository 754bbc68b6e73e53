import Derived.Lib.LaidTab
import Derived.Stop.LaidErr
import Derived.Test.YtlgnlghmbcpmhaaGreatDoorProg
import Derived.Shelf.Strconv.Itoa2
import Derived.Shelf.Strconv.Itoa1
import Derived.Shelf.Strconv.Itoa0
import Derived.Shelf.Strings.Trim
import Derived.Test.YtlgnlghmbcpmhaaGreatDoorPkEngineCrashes3
set_option maxRecDepth 100000
set_option linter.unusedSimpArgs false
set_option linter.unusedVariables false
set_option linter.unnecessarySimpa false
set_option linter.unusedSectionVars false
open Go.IntKind (i64 u32 u64 u8)
namespace Go.Proofs.YtlgnlghmbcpmhaaGreatDoor
namespace Dsk
open Go Go.Hw Go.Form W
structure Calm (d:D):Prop where
 down:d.down=false
 aI:d.aI=0
structure Next (d d':D):Prop where
 ok:Ok d'
 tQ:sw d'
 sec:d'.sec=d.sec
 size:d'.size=d.size
 rd:d'.rd<=d.rd+1
 wr:d'.wr<=d.wr+1
 sy:d'.sy<=d.sy+1
section
variable {d : D} (h : Ok d) (hd : sw d)
include h hd
theorem Next.refl :Next d d:=⟨h,hd,rfl,rfl,by omega,by omega,by omega⟩
theorem Next.bC :Next d d.bC:=by
 have hb:=gr d;refine⟨Ok.bC h,fun k hk=>?_,hb.2.2.2.2.1,hb.2.2.2.1,by rw[hb.1];omega,by rw[hb.2.1];omega,by rw[hb.2.2.1];omega⟩;rw[hb.2.2.2.2.2.2.1]at hk;rw[hb.2.2.2.2.1];exact hd k hk
theorem Next.read :Next d { d.bC with rd:=d.rd+1}:=by
 have hb:=Next.bC h hd;exact⟨⟨hb.ok.sec,hb.ok.size,hb.ok.lk,hb.ok.aa,hb.ok.safe,hb.ok.cache,hb.ok.fz⟩,hb.tQ,hb.sec,hb.size,Nat.le_refl _,hb.wr,hb.sy⟩
theorem Next.write (i:Int)(bs:List UInt8):Next d (d.bJ i bs):=by
 have hb:=gr d;have h1:=Ok.bJ h i bs;have h2:=sw.bJ hd i bs;have hn:=Next.bC h hd;unfold D.bJ at h1 h2⊢;split
 .exact Next.refl h hd
 .rename_i c1
  rw[if_neg c1]at h1 h2;split
  .exact Next.refl h hd
  .rename_i c2
   rw[if_neg c2]at h1 h2;split
   .exact hn
   .rename_i c3
    rw[if_neg c3]at h1 h2;exact⟨h1,h2,hn.sec,hn.size,hn.rd,Nat.le_refl _,hn.sy⟩
theorem Next.sync :Next d d.fK:=by
 have hn:=Next.bC h hd;have hb:=gr d;unfold D.fK;split
 .exact Next.refl h hd
 .split
  .exact hn
  .refine⟨⟨hn.ok.sec,hn.ok.size,hn.ok.lk,hn.ok.aa,fun k b hk=>?_,fun k b hk=>(by cases hk),hn.ok.fz⟩,fun k hk=>(by cases hk),hn.sec,hn.size,hn.rd,hn.wr,Nat.le_refl _⟩;have hk':lr d.safe d.cache k=some b:=hk;show b.length=d.bC.size
   rw[hb.2.2.2.1];unfold lr at hk';split at hk'
   .rename_i b' hc;cases hk';exact h.cache k b hc
   .exact h.safe k b hk'
theorem Next.rS :Next d { d with down:=true,aI:=0}:=⟨Ok.rS h,hd,rfl,rfl,Nat.le_succ _,Nat.le_succ _,Nat.le_succ _⟩
end
def Dj (d d':D)(a:Act)(e:Int):Prop:=Calm d->a.k<=2->Calm d'/\d'.safe=d.safe/\
 ((0<=a.k/\a.k<=1/\e=0)->(0<=a.i/\a.i<d.sec)/\d'.cache=ig d.cache a.i (laidB a.b))/\(¬ (0<=a.k/\a.k<=1/\e=0)->d'.cache=d.cache)
theorem Calm.dG {d:D}(h:Calm d):d.dG=false:=by unfold D.dG;rw[h.aI];rfl
theorem Calm.bC {d:D}(h:Calm d):d.bC=d:=by unfold D.bC;rw[if_pos h.aI]
theorem Dj.same {d:D}{a:Act}{e:Int}(h:¬(0<=a.k/\a.k<=1/\e=0)):Dj d d a e:=fun hc _=>⟨hc,rfl,fun h'=>absurd h' h,fun _=>rfl⟩
theorem Dj.write {d:D}{a:Act}(hz:d.size=32)(hk:0<=a.k/\a.k<=1):Dj d (d.bJ a.i (laidB a.b)) a (d.dx a.i 32):=fun hc _=>by
 have hl:=G1 a.b;by_cases h0:d.kE a.i=0
 .have e1:d.dx a.i 32=0:=by
   unfold D.dx;rw[if_neg (by rw[h0];simp),if_neg (by omega),hc.dG];rfl
  have e2:d.bJ a.i (laidB a.b)=d.wrote a.i (laidB a.b):=by
   unfold D.bJ;rw[if_neg (by rw[h0];simp),if_neg (by omega),hc.dG];rfl
  rw[e1,e2];have hb:=hc.bC;have hr:=Gy h0;unfold D.wrote;rw[hb];exact⟨⟨hc.down,hc.aI⟩,rfl,fun _=>⟨⟨hr.1,hr.2.1⟩,rfl⟩,fun h=>absurd ⟨hk.1,hk.2,rfl⟩ h⟩
 .have e1:d.dx a.i 32=d.kE a.i:=by unfold D.dx;rw[if_pos h0]
  have e2:d.bJ a.i (laidB a.b)=d:=by unfold D.bJ;rw[if_pos h0]
  rw[e1,e2];exact⟨hc,rfl,fun h=>absurd h.2.2 h0,fun _=>rfl⟩
theorem Dj.read {d:D}{a:Act}{e:Int}(hk:a.k=2):Dj d { d.bC with rd:=d.rd+1} a e:=fun hc _=>by
 rw[hc.bC];exact⟨⟨hc.down,hc.aI⟩,rfl,fun h=>by omega,fun _=>rfl⟩
end Dsk
namespace Eng
open Go Go.Hw Go.Form Dsk Str
abbrev Cn :=Int->List UInt8
structure Clean (d:D)(c:Cn):Prop where
 ok:Ok d
 down:d.down=false
 cache:∀ i,d.cache i=none
 sat:∀ i,d.sat i=c i
theorem Clean.now {d:D}{c:Cn}(h:Clean d c)(i:Int):d.now i=c i:=by
 unfold D.now;rw[h.cache];exact h.sat i
theorem Clean.tQ {d:D}{c:Cn}(h:Clean d c):sw d:=fun k hk=>by rw[h.cache]at hk;cases hk
structure fA (d d':D)(r w s:Nat):Prop where
 aI:d'.aI=d.aI-(r+w+s)
 go:d.aI=0\/r+w+s<d.aI
 sec:d'.sec=d.sec
 size:d'.size=d.size
 rd:d'.rd=d.rd+r
 wr:d'.wr=d.wr+w
 sy:d'.sy=d.sy+s
structure gp (d d':D)(n:Nat):Prop where
 ok:Ok d'
 tQ:sw d'
 down:d'.down=true
 aI:d'.aI=0
 sec:d'.sec=d.sec
 size:d'.size=d.size
 tP:d'.rd+d'.wr+d'.sy+1=d.rd+d.wr+d.sy+d.aI
 rd:d.rd<=d'.rd
 wr:d.wr<=d'.wr
 sy:d.sy<=d'.sy
 le:d.aI<=n
 pos:1<=d.aI
def Left (d:D)(P:Cn->Prop):Prop:=∀ c':Cn,(∀ i,c' i=d.sat i\/c' i=d.now i)->P c'
theorem Left.mono {d:D}{P Q:Cn->Prop}(h:Left d P)(k:∀ c,P c->Q c):Left d Q:=fun c' hc=>k _ (h c' hc)
theorem fA.trans {d d1 d2:D}{r w s r' w' s':Nat}(h:fA d d1 r w s)(k:fA d1 d2 r' w' s'):fA d d2 (r+r') (w+w') (s+s'):=by
 have h1:=h.aI;have h2:=k.aI;have h3:=h.go;have h4:=k.go;have h5:=h.rd;have h6:=k.rd;have h7:=h.wr;have h8:=k.wr;have h9:=h.sy;have h10:=k.sy;exact⟨by omega,by omega,k.sec.trans h.sec,k.size.trans h.size,by omega,by omega,by omega⟩
theorem fA.cut {d d1 d2:D}{r w s n:Nat}(h:fA d d1 r w s)(k:gp d1 d2 n):gp d d2 (r+w+s+n):=by
 have h1:=h.aI;have h3:=h.go;have h4:=k.pos;have h5:=h.rd;have h6:=k.rd;have h7:=h.wr;have h8:=k.wr;have h9:=h.sy;have h10:=k.sy;have h11:=k.tP;have h12:=k.le;exact⟨k.ok,k.tQ,k.down,k.aI,k.sec.trans h.sec,k.size.trans h.size,by omega,by omega,by omega,by omega,by omega,by omega⟩
theorem gp.more {d d':D}{n m:Nat}(h:gp d d' n)(k:n<=m):gp d d' m:={ h with le:=Nat.le_trans h.le k}
theorem fA.aa {d d':D}{r w s:Nat}(h:fA d d' r w s):D.aa d'=D.aa d:=by unfold D.aa;rw[h.size]
theorem fA.calm {d d':D}{r w s:Nat}(h:fA d d' r w s)(hf:d.aI=0):d'.aI=0:=by rw[h.aI];omega
theorem gp.calm {d d':D}{n:Nat}(h:gp d d' n)(hf:d.aI=0):False:=by have:=h.pos;omega
def qO (S:Int->Prop)(c c':Cn):Prop:=∀ i,¬S i->c' i=c i
theorem Clean.bO {d:D}{c:Cn}(h:Clean d c)(t:Nat):Clean (D.bO d t) c:=⟨Ok.bO h.ok t,h.down,h.cache,h.sat⟩
theorem fA.bO {d:D}{t:Nat}(hf:d.aI=0\/t<d.aI):fA d (D.bO d t) t 0 0:=⟨by show d.aI-t=_;omega,by omega,rfl,rfl,rfl,rfl,rfl⟩
theorem gp.bO {d:D}{c:Cn}(h:Clean d c){j n:Nat}(hf:d.aI=j+1)(hn:j<n):gp d (D.dead (D.bO d j)) n:=by
 refine⟨Ok.dead (Ok.bO h.ok j),h.tQ,rfl,rfl,rfl,rfl,?_,?_,Nat.le_refl _,Nat.le_refl _,by omega,by omega⟩
 .show d.rd+j+d.wr+d.sy+1=_;omega
 .show d.rd<=d.rd+j;omega
theorem Left.bO {d:D}{c:Cn}(h:Clean d c)(j:Nat):Left (D.dead (D.bO d j)) fun c'=>c'=c:=fun c' hc=>funext fun i=>by
 rcases hc i with e|e
 .exact e.trans (h.sat i)
 .exact e.trans (h.now i)
section
variable {S : Int -> Prop} {d d1 : D} {c : Cn} {r w : Nat}
theorem Clean.prog (h:Clean d c)(p:Prog S d d1 r w)(i:Int):d1.sat i=c i/\(¬S i->d1.now i=c i):=by
 have e1:d1.sat i=c i:=by rw[<- h.sat];unfold D.sat;rw[p.safe,p.size]
 refine⟨e1,fun hi=>?_⟩;unfold D.now;rw[p.cache i hi,h.cache];exact e1
theorem Clean.dead (h:Clean d c)(p:gW S d d1)(i:Int):d1.sat i=c i/\(¬S i->d1.now i=c i):=by
 have e1:d1.sat i=c i:=by rw[<- h.sat];unfold D.sat;rw[p.safe,p.size]
 refine⟨e1,fun hi=>?_⟩;unfold D.now;rw[p.cache i hi,h.cache];exact e1
theorem Clean.Lj (h:Clean d c)(p:Prog S d d1 r w)(hS:∀ i,S i->0<=i/\i<d.sec):sw d1:=fun k hk=>by
 by_cases hs:S k
 .have:=hS k hs;rw[p.sec];exact this
 .rw[p.cache k hs,h.cache]at hk;cases hk
theorem Clean.yX (h:Clean d c)(p:gW S d d1)(hS:∀ i,S i->0<=i/\i<d.sec){n:Nat}(hn:d.aI<=n)(hf:1<=d.aI):gp d d1 n:=by
 have h1:=p.tP;have h2:=p.sy;refine⟨p.ok,fun k hk=>?_,p.down,p.aI,p.sec,p.size,by omega,p.rd,p.wr,by omega,hn,hf⟩;by_cases hs:S k
 .have:=hS k hs;rw[p.sec];exact this
 .rw[p.cache k hs,h.cache]at hk;cases hk
theorem Clean.wB (h:Clean d c)(p:gW S d d1):Left d1 fun c'=>qO S c c':=fun c' hc i hi=>by
 obtain⟨h1,h2⟩:=h.dead p i;rcases hc i with e|e
 .exact e.trans h1
 .exact e.trans (h2 hi)
theorem Clean.sync (h:Clean d c)(p:Prog S d d1 r w)(hS:∀ i,S i->0<=i/\i<d.sec):
  (d1.iM=0/\fA d d1.fK r w 1/\Clean d1.fK d1.now)\/(d1.iM=8/\gp d d1.fK (r+w+1)/\Left d1.fK fun c'=>(∀ i,c' i=c i\/c' i=d1.now i)/\qO S c c'):=by
 have hdom:=h.Lj p hS;have hn:=Next.sync p.ok hdom;have hb:=gr d1;have p1:=p.aI;have p2:=p.go;have p3:=p.rd;have p4:=p.wr;have p5:=p.sy;have hdn:¬d1.down=true:=by rw[p.down];simp
 by_cases hf:d1.aI=1
 .right;have eE:d1.iM=8:=by unfold D.iM D.dG;rw[if_neg hdn,if_pos (by simp[hf])]
  have eD:d1.fK=D.dead d1:=by
   unfold D.fK D.dG;rw[if_neg hdn,if_pos (by simp[hf]),lS hf]
  rw[eE,eD];refine⟨rfl,⟨Ok.dead p.ok,hdom,rfl,rfl,p.sec,p.size,?_,?_,?_,?_,by omega,by omega⟩,fun c' hc=>⟨fun i=>?_,fun i hi=>?_⟩⟩
  .show d1.rd+d1.wr+d1.sy+1=_;omega
  .show d.rd<=d1.rd;omega
  .show d.wr<=d1.wr;omega
  .show d.sy<=d1.sy;omega
  .rcases hc i with e|e
   .exact .inl (e.trans (h.prog p i).1)
   .exact .inr e
  .rcases hc i with e|e
   .exact e.trans (h.prog p i).1
   .exact e.trans ((h.prog p i).2 hi)
 .left;have hbn:d1.dG=false:=by unfold D.dG;exact decide_eq_false hf
  have hbt:=kX p.down hf;have eE:d1.iM=0:=by unfold D.iM;rw[hbn,p.down];rfl
  have eD:d1.fK=d1.synced:=by unfold D.fK;rw[hbn,p.down];rfl
  rw[eD]at hn⊢;refine⟨eE,⟨?_,by omega,(hn.sec).trans p.sec,(hn.size).trans p.size,?_,?_,?_⟩,⟨hn.ok,?_,fun i=>rfl,fun i=>?_⟩⟩
  .show d1.bC.aI=_;rw[hbt];show d1.aI-1=_;omega
  .show d1.bC.rd=_;rw[hb.1];omega
  .show d1.bC.wr=_;rw[hb.2.1];omega
  .show d1.sy+1=_;omega
  .show d1.bC.down=false;rw[hbt];exact p.down
  .show(lr d1.safe d1.cache i).getD (List.replicate d1.bC.size 0)=_
   rw[hb.2.2.2.1];unfold D.now D.sat lr;cases d1.cache i<;>rfl
end
theorem Left.jB {d:D}{P:Cn->Prop}(h:Left d P)(hok:Ok d){ks:List Int}(hk:KeysOf (eW d.cache) ks)(dI:List Bool):∃ c',P c'/\Clean (D.jB d ks dI) c':=by
 refine⟨(D.jB d ks dI).sat,h _ fun i=>?_,⟨Ok.jB hok hk dI,rfl,fun _=>rfl,fun _=>rfl⟩⟩;have hmem:∀ k∈ks,(d.cache k).isSome=true:=fun k hk'=>by
  have:=(hk.mem k).1 hk';rw[se]at this;exact this
 show(mC d.cache d.safe ks dI i).getD (List.replicate d.size 0)=_\/_
 rcases wt ks dI d.safe hmem i with e|⟨e1,e2⟩
 .left;rw[e];rfl
 .right;show(mC d.cache d.safe ks dI i).getD (List.replicate d.size 0)=_
  rw[e2];unfold D.now;cases hc:d.cache i with
  |none=>rw[hc]at e1;cases e1
  |some b=>rfl
theorem Clean.rS {d:D}{c:Cn}(h:Clean d c):Left { d with down:=true,aI:=0} fun c'=>c'=c:=fun c' hc=>funext fun i=>by
 rcases hc i with e|e
 .exact e.trans (h.sat i)
 .exact e.trans (h.now i)
theorem Clean.pJ {d:D}{c:Cn}(h:Clean d c)(n:Nat)(hn:n<=9223372036854775807):Clean { d with aI:=n} c:=⟨Ok.pJ h.ok n hn,h.down,h.cache,h.sat⟩
theorem Clean.fresh {sec size:Nat}(h1:1<=sec/\sec<=1048576)(h2:0<Lay.cc size)(h3:sec*size<=67108864):Clean (D.fresh sec size) fun _=>List.replicate size 0:=
 ⟨Ok.fresh h1 h2 h3,rfl,fun _=>rfl,fun _=>rfl⟩
end Eng
end Go.Proofs.YtlgnlghmbcpmhaaGreatDoor
namespace Go.Hw
open Go
theorem Io {P:Program}{e:TypeId}{s x:Value}{H:Hp}{K:VK}(h:gC P e s x H fun v H'=>(∀ A n m,v= .slice A n m->n<=m)->K v H'):gC P e s x H K:=by
 unfold gC at h⊢;split at h
 .split at h
  .obtain⟨n,ys,h1,h2,h3,h4,h5,h6,h7,h8,h9⟩:=h;refine⟨n,ys,h1,h2,h3,h4,h5,h6,h7,h8,h9.imp ?_ ?_⟩
   .rintro⟨e1,e2,e3,k0,k⟩;refine⟨e1,e2,e3,fun h0=>k0 h0 (fun A n m e=>by cases e;exact Nat.le_refl _),fun hp c hc b hb=>k hp c hc b hb (fun A n m e=>by cases e;exact hc)⟩
   .rintro⟨b0,xs,m,e1,e2,e3,e4,k⟩;exact⟨b0,xs,m,e1,e2,e3,e4,fun c m' hc hl b hb=>k c m' hc hl b hb (fun A n m e=>by cases e;exact hl)⟩
  .exact h
 .exact h
theorem Gf {P:Program}{e:TypeId}{s:Value}{x:Nat->Value}{H:Hp}{o:AO}{K:VK}(h:Nw H o fun b H'=>gC P e s (x b) H' fun v H'=>(∀ A n m,v= .slice A n m->n<=m)->K v H'):Nw H o fun b H'=>gC P e s (x b) H' K:=fun b hb=>Io (h b hb)
theorem D3 {L:List As}{H:Hp}(hs:Sep L H)(i:Nat){b n m:Nat}{xs:List Value}{e:TypeId}{s:Nat}(hi:L[i]? =some (af b (.row xs e m)))(hx:xs.length=n*s)(hm:m=n*s):Sep (L.set i (bH e s (Oo b) n n xs)) H:=
 hs.jE i hi fun H1 hH=>⟨hx,.inr ⟨b,m,rfl,hH,by omega⟩⟩
end Go.Hw
namespace Go.Hw
open Go Go.RowKit
def flatF :Nat->DataW Unit->List Value
 |0,_=>[]
 |_+1,.lit (.int k n)=>[.int k n]
 |_+1,.lit (.string bs)=>[.string ⟨bs.toArray⟩]
 |_+1,.lit (.bool b)=>[.bool b]
 |f+1,.agg ds=>(ds.map (flatF f)).flatten
 |_+1,_=>[]
def xC (P:Program):List Field->Nat->Option Nat
 | [],o=>some o
 |f::l,o=>if f.offset=o then xC P l (o+P.cellsOf f.type)else none
def uo (P:Program):Nat->TypeId->Bool
 |0,_=>false
 |f+1,t=>
  match P.underlying t with
  |some (.int _)=>true
  |some .string=>true
  |some .bool=>true
  |some (.array n e)=>uo P f e&&(P.cellsOf t==n*P.cellsOf e)
  |some (.struct fs)=>fs.toList.all (fun x=>uo P f x.type)&&(xC P fs.toList 0==some (P.cellsOf t))
  |_=>false
theorem chunks {α:Type}(k:Nat):∀(n:Nat) (cs:List α) (ys:List (List α)),cs.length=n*k->ys.length=n->(∀ i,(h:i<ys.length)->(cs.drop (i*k)).take k=ys[i])->cs=ys.flatten
 |0,cs,ys,hl,hy,_=>by
  rw[Nat.zero_mul]at hl;rw[List.length_eq_zero_iff.1 hl,List.length_eq_zero_iff.1 hy];rfl
 |n+1,cs,[],_,hy,_=>by simp at hy
 |n+1,cs,y::ys,hl,hy,h=>by
  have h0:=h 0 (by simp);rw[Nat.zero_mul,List.drop_zero,List.getElem_cons_zero]at h0;have ih:=chunks k n (cs.drop k) ys (by rw[List.length_drop,hl,Nat.succ_mul];omega) (by simpa using hy) fun i hi=>by
   have:=h (i+1) (by simpa using hi);rw[List.getElem_cons_succ]at this;rw[List.drop_drop,<-this,Nat.succ_mul,Nat.add_comm]
  rw[List.flatten_cons,<-ih,<-h0,List.take_append_drop]
theorem xD {P:Program}:∀(l:List Field) (ys:List (List Value)) (o e:Nat) (cs:List Value),xC P l o=some e->cs.length=e->ys.length=l.length->
  (∀(i:Nat) (f:Field),l[i]? =some f->∃ y,ys[i]? =some y/\(cs.drop f.offset).take (P.cellsOf f.type)=y)->cs.drop o=ys.flatten
 | [],ys,o,e,cs,h,hl,hy,_=>by
  unfold xC at h;cases h;rw[List.drop_eq_nil_of_le (by omega),List.length_eq_zero_iff.1 hy];rfl
 |f::l,[],o,e,cs,h,hl,hy,_=>by simp at hy
 |f::l,y::ys,o,e,cs,h,hl,hy,hh=>by
  unfold xC at h;split at h
  .rename_i ho
   obtain⟨y',e1,e2⟩:=hh 0 f (by simp);simp only[List.getElem?_cons_zero,Option.some.injEq]at e1;subst e1;have ih:=xD l ys _ e cs h hl (by simpa using hy) fun i f' hf=>by
    have:=hh (i+1) f' (by simpa using hf);simpa using this
   rw[List.flatten_cons,<-ih,<-e2,ho,<-List.drop_drop,List.take_append_drop]
  .cases h
theorem qW {enc:TypeId×Value->Unit}{P:Program}{w:World}{base:Nat}{sp:Nat->Bool}{held:Bool}:∀(f:Nat) {fuel:Nat} {t:TypeId} {cs:List Value} {d:DataW Unit} {p:List MemPlace},
  uo P f t=true->DataW.trod enc P w base sp held fuel t cs=some (d,p)->cs=flatF f d
 |0,_,_,_,_,_,h,_=>by cases h
 |f+1,fuel,t,cs,d,p,h,ht=>by
  unfold uo at h;split at h
  .rename_i k hu
   obtain⟨n,rfl,e,_⟩:=DataW.trod_int hu ht;cases e;rfl
  .rename_i hu
   obtain⟨s,rfl,e,_⟩:=DataW.trod_string hu ht;cases e;simp[flatF]
  .rename_i hu
   obtain⟨b,rfl,e⟩:=DataW.trod_bool hu ht;cases e;rfl
  .rename_i n e hu
   simp only[Bool.and_eq_true,beq_iff_eq]at h;obtain⟨xs,m,_,ex,hl,hn,hel⟩:=DataW.trod_array hu ht;cases ex;show cs=(((xs.map (·.1))).map (flatF f)).flatten
   refine chunks (P.cellsOf e) n cs _ (by rw[hl,h.2]) (by simpa using hn) fun i hi=>?_
   have hi':i<xs.length:=by simpa using hi
   have h1:=hel i (by omega);rw[List.getElem?_eq_getElem hi']at h1;have:=qW f (d:=xs[i].1) (p:=xs[i].2) h.1 h1;rw[this];simp
  .rename_i fs hu
   simp only[Bool.and_eq_true,beq_iff_eq]at h;obtain⟨xs,m,_,ex,hl,hn,hel⟩:=DataW.trod_struct hu ht;cases ex;show cs=(((xs.map (·.1))).map (flatF f)).flatten
   have:=xD fs.toList (((xs.map (·.1))).map (flatF f)) 0 _ cs h.2 hl (by simpa using hn) fun i fd hi=>by
    have hi2:fs[i]? =some fd:=by simpa using hi
    have h1:=hel i fd hi2;have hi':i<xs.length:=by
     rw[hn];exact(Array.getElem?_eq_some_iff.1 hi2).1
    rw[List.getElem?_eq_getElem hi']at h1;have hall:=List.all_eq_true.1 h.1 fd (List.mem_of_getElem? hi);exact⟨flatF f xs[i].1,by simp[hi'],qW f (d:=xs[i].1) (p:=xs[i].2) hall h1⟩
   rw[List.drop_zero]at this;exact this
  .cases h
theorem laid_at {P:Program}{W:World}{name:String}{d:DataW Unit}{g:Nat}{t:TypeId}(hg:P.globalNamed name=some g)(hty:(P.globals[g]?).map (·.type)=some t)(ho:uo P 9 t=true):
  ∀{l:List (String×DataW Unit)} (i:Nat),laidMet P l W->l[i]? =some (name,d)->Cells (Full W) (Oo g) (flatF 9 d)
 | [],i,_,h=>by simp at h
 |x::l,0,hL,h=>by
  simp only[List.getElem?_cons_zero,Option.some.injEq]at h;subst h;obtain⟨ps,⟨g',t',cs,fuel,p,q,hg',ht',hvar,hd,_,_⟩,_⟩:=hL;obtain rfl:=Option.some.inj (hg.symm.trans hg');obtain rfl:=Option.some.inj (hty.symm.trans ht');have e:=qW 9 ho hd;intro j v hj;refine⟨_,rfl,?_⟩;rw[<- e]at hj;have:=World.var?_cell hg hvar j;rw[Addr.bm,Nat.zero_add];refine Full.cell ?_;rw[this];simpa using hj
 |x::l,i+1,hL,h=>laid_at hg hty ho i hL.tail (by simpa using h)
theorem Cells.block {H:Hp}{g:Nat}{v:Value}{vs:List Value}(h:Cells H (Oo g) (v::vs)):∃ o,H g=some o:=by
 obtain⟨a,ha,hc⟩:=h 0 v rfl;cases ha;unfold Hp.cell? at hc;rw[Addr.bm]at hc;cases e:H g with
 |none=>simp only[e]at hc;cases hc
 |some o=>exact⟨o,rfl⟩
section
variable {L : List As} {H : Hp}
theorem Sep.cC (h:Sep L H)(i:Nat){b j:Nat}{c:Array Value}{e:TypeId}{v:Value}{K:Value->Prop}(hi:L[i]? =some (af b (Oq c e)))(hv:uz c.toList j=some v)(k:K v):Ld H ((O b).add j) K:=by
 rw[Addr.bm,Nat.zero_add];exact h.ld i hi hv k
theorem Sep.kH (h:Sep L H)(i:Nat){b j k:Nat}{c:Array Value}{e:TypeId}{v:Value}{K:Value->Prop}(hi:L[i]? =some (af b (Oq c e)))(hv:uz c.toList (j+k)=some v)(kk:K v):Ld H (((O b).add j).add k) K:=by
 rw[Addr.bm,Addr.bm,Nat.zero_add];exact h.ld i hi hv kk
theorem Sep.Ko (h:Sep L H)(i:Nat){b j:Nat}{c:Array Value}{e:TypeId}{v:Value}{K:Hp->Prop}(hi:L[i]? =some (af b (Oq c e)))(hj:j<c.size)(hv:v.oneCell'=true)
  (k:∀ H',Sep (L.set i (af b (Oq (c.setIfInBounds j v) e))) H'->K H'):St H (((O b).add j).add 0) v K:=by
 rw[Addr.bm,Addr.bm,Nat.zero_add,Nat.add_zero];exact h.st i hi hj hv k
end
end Go.Hw
namespace Go.Proofs.YtlgnlghmbcpmhaaGreatDoor
open Tryz (prog)
namespace W
open Go Go.Hw
theorem fv :prog.follows .mixedOrders=true:=by kernel_rfl
def gQ.q1 (H7:Hp)(b1:Nat)(K:VK):Prop:=
 bR H7 (O b1) #[U 0,I 0,I 0,I 0,I 0,Ot 0,Ot 0,Ot 0] 8 fun H8=>aJ H8 (O b1) 8 fun l7=>K (.tuple #[.agg l7.toArray,I 10]) H8
def gQ (A1:OA)(n1 m1:Nat)(H:Hp)(K:VK):Prop:=
 Nw H (Oq #[U 0,I 0,I 0,I 0,I 0,Ot 0,Ot 0,Ot 0] 110) fun b1 H1=>fS 222 #[I (n1:Int)] H1 fun c1 H2=>ao (!c1) (bR H2 (O b1) #[U 0,I 0,I 0,I 0,I 0,Ot 0,Ot 0,Ot 0] 8 fun H3=>aJ H3 (O b1) 8 fun l6=>K (.tuple #[.agg l6.toArray,I 15]) H3) (Hz 223 #[.slice A1 n1 m1] H2 fun v2 H4=>IJ v2 fun A2 n2 m2 c2=>(qg 224 #[.slice A2 n2 m2] H4 fun y1 H5=>Nw H5 (Oq #[U 0,I 0,I 0,I 0,I 0,Ot 0,Ot 0,Ot 0] 110) fun b2 H6=>bR H6 (O b2) y1 8 fun H7=>cX 0 n2 (NN A2 fun a1=>eo H7 (a1.add ((0:Int).toNat*1)) fun x1=>(0<=(48:Int)/\ao ((cT .u64 x1 48) !=21061) (gQ.q1 H7 b1 K) (ao (!c2) (gQ.q1 H7 b1 K) (cX 3 n2 (NN A2 fun a2=>eo H7 (a2.add ((3:Int).toNat*1)) fun x2=>mP n2 m2 none (some 3) fun n3 n4=>tN 225 #[.slice (jk A2 m2 n3 1) (n4-n3) (m2-n3)] H7 fun x3=>ao (x2 !=x3) (bR H7 (O b1) #[U 0,I 0,I 0,I 0,I 0,Ot 0,Ot 0,Ot 0] 8 fun H10=>aJ H10 (O b1) 8 fun l9=>K (.tuple #[.agg l9.toArray,I 9]) H10) (aJ H7 (O b2) 8 fun l4=>fS 162 #[.agg l4.toArray] H7 fun c3 H11=>ao (!c3) (bR H11 (O b1) #[U 0,I 0,I 0,I 0,I 0,Ot 0,Ot 0,Ot 0] 8 fun H12=>aJ H12 (O b1) 8 fun l10=>K (.tuple #[.agg l10.toArray,I 1]) H12) (aJ H11 (O b2) 8 fun l5=>bR H11 (O b1) l5.toArray 8 fun H13=>aJ H13 (O b1) 8 fun l11=>K (.tuple #[.agg l11.toArray,I 0]) H13)))))))))
theorem gQ.ok A1 n1 m1 H K (h:gQ A1 n1 m1 H K):ae prog 157 #[.slice A1 n1 m1] H K:=
 cg fv Tryz.func157 rfl rfl h
def eT.j10 (K:VK)(a1:Addr)(H:Hp):=
 aM H (a1.add 4) fun x8=>ao (x8==0) (aM H (a1.add 3) fun x9=>ao (x9==0) (jA H (a1.add 7) fun x10=>K (.bool (x10==0)) H) (K (.bool false) H)) (K (.bool false) H)
def eT (y1:Array Value)(H:Hp)(K:VK):Prop:=
 Nw H (Oq y1 110) fun b1 H1=>eo H1 ((O b1).add 0) fun x1=>ao (decide (x1<1)) (K (.bool false) H1) (eo H1 ((O b1).add 0) fun x2=>ao (decide (x2>=281474976710656)) (K (.bool false) H1) (aM H1 ((O b1).add 2) fun x3=>ao (decide (x3<0)) (K (.bool false) H1) (aM H1 ((O b1).add 2) fun x4=>ao (decide (x4>32)) (K (.bool false) H1) (aM H1 ((O b1).add 3) fun x5=>fS 229 #[I x5] H1 fun c1 H2=>ao (!c1) (K (.bool false) H2) (aM H2 ((O b1).add 1) fun x6=>ao (x6==1) (jA H2 ((O b1).add 6) fun x7=>ao (x7 !=0) (K (.bool false) H2) (eT.j10 K (O b1) H2)) (ao (x6==2) (eT.j10 K (O b1) H2) (ao (x6==3) (aM H2 ((O b1).add 4) fun x11=>K (.bool (x11==0)) H2) (ao (x6==4) (aM H2 ((O b1).add 4) fun x12=>ao (decide (x12>=1)) (aM H2 ((O b1).add 4) fun x13=>K (.bool (decide (x13<=(7:Int)))) H2) (K (.bool false) H2)) (K (.bool false) H2)))))))))
def eT.Λ (K:VK):aN:=⟨fun i=>match Nat.beq i 10 with|true=>some (fun E D H=>eN E 1 fun a1=>az D (eT.j10 K a1 H))|false=>none,fun i=>none,(fun _=>none)⟩
theorem eT.ok y1 H K (h:eT y1 H K):ae prog 162 #[.agg y1] H K:=
 dX (Λ:=(eT.Λ K)) fv Tryz.func162 rfl rfl h (oC (fun E D H h=>by
   obtain⟨a1,e1,g3⟩:=GN h;obtain⟨rfl,h'⟩:=az.out g3;exact cY (Λ:=(eT.Λ K)) fv [] (ag.cons e1 (ag.nil _)) h' oN) oN)
def mq (y1 y2:Array Value)(H:Hp)(K:VK):Prop:=
 Nw H (Oq y1 110) fun b1 H1=>Nw H1 (Oq y2 110) fun b2 H2=>aJ H2 (O b1) 8 fun l1=>fS 162 #[.agg l1.toArray] H2 fun c1 H3=>ao (!c1) (K (.bool false) H3) (aJ H3 (O b2) 8 fun l2=>fS 162 #[.agg l2.toArray] H3 fun c2 H4=>ao (!c2) (K (.bool false) H4) (eo H4 ((O b2).add 0) fun x1=>eo H4 ((O b1).add 0) fun x2=>ao (x1 !=(u64.wrap (x2+1))) (K (.bool false) H4) (aM H4 ((O b2).add 1) fun x3=>ao (x3==1) (K (.bool true) H4) (ao (x3==2) (aM H4 ((O b1).add 1) fun x4=>ao (x4==1) (jA H4 ((O b1).add 5) fun x5=>jA H4 ((O b2).add 5) fun x6=>ao (x5==x6) (aM H4 ((O b1).add 2) fun x7=>aM H4 ((O b2).add 2) fun x8=>K (.bool (x7==x8)) H4) (K (.bool false) H4)) (K (.bool false) H4)) (ao (x3==3) (aM H4 ((O b1).add 1) fun x9=>ao (x9 !=1) (aJ H4 (O b1) 8 fun l3=>aJ H4 (O b2) 8 fun l4=>fS 272 #[.agg l3.toArray,.agg l4.toArray] H4 fun c3 H5=>ao c3 (jA H5 ((O b2).add 7) fun x10=>K (.bool (x10==0)) H5) (K (.bool false) H5)) (K (.bool false) H4)) (aM H4 ((O b1).add 1) fun x11=>ao (decide (x11>=3)) (aJ H4 (O b1) 8 fun l5=>aJ H4 (O b2) 8 fun l6=>fS 272 #[.agg l5.toArray,.agg l6.toArray] H4 fun c4 H6=>ao c4 (aM H6 ((O b1).add 3) fun x12=>aM H6 ((O b2).add 3) fun x13=>ao (x12==x13) (aM H6 ((O b2).add 4) fun x14=>aM H6 ((O b1).add 4) fun x15=>K (.bool (x14==(i64.wrap (x15+1)))) H6) (K (.bool false) H6)) (K (.bool false) H6)) (K (.bool false) H4)))))))
theorem mq.ok y1 y2 H K (h:mq y1 y2 H K):ae prog 215 #[.agg y1,.agg y2] H K:=
 cg fv Tryz.func215 rfl rfl h
def iI (x1:Int)(H:Hp)(K:VK):Prop:=
 Hz 251 #[I 0,I x1] H fun v1 H1=>ua v1 fun x2 x3=>(K (.bool (x3==0)) H1)
theorem iI.ok x1 H K (h:iI x1 H K):ae prog 222 #[I x1] H K:=
 cg fv Tryz.func222 rfl rfl h
def dC.l2 (K:VK):Nat->OA->Nat->Nat->OA->Nat->Nat->Int->Hp->Prop
 |0,_,_,_,_,_,_,_,_=>False
 |k+1,A2,n2,m2,A3,n3,m3,x1,H=>
  let R2:=dC.l2 K k
  ao (decide (x1<4)) (Hz 192 #[.slice A2 n2 m2,I x1] H fun v1 H1=>pZ v1 fun x2 x3=>(Nw H1 (.row [U x2] 108 1) fun b1 H2=>gC prog 108 (.slice A3 n3 m3) (.slice (Oo b1) 1 1) H2 fun v4 H3=>aF v4 fun A4 n4 m4=>R2 A2 n2 m2 A4 n4 m4 (i64.wrap (x1+1)) H3)) (mP n2 m2 (some 32) none fun n5 n6=>JR H (jk A2 m2 n5 1) (n6-n5) fun s1=>N8 145 #[.string s1,.string (⟨#[0]⟩)] H fun s2 H4=>K (.tuple #[.slice A3 n3 m3,.bool (s2.toList==((⟨#[]⟩):ByteArray).toList)]) H4)
def dC (A1:OA)(n1 m1:Nat)(H:Hp)(K:VK):Prop:=
 (∃ k,dC.l2 K k A1 n1 m1 none 0 0 0 H)
def dC.l2.L (K:VK)(k:Nat):dm:=fun E D H=>
 DG (E.get? 0) fun w0=>aF w0 fun A2 n2 m2=>DG (E.get? 2) fun w2=>aF w2 fun A3 n3 m3=>eI E 7 .i64 fun x1=>az D (dC.l2 K k A2 n2 m2 A3 n3 m3 x1 H)
def dC.Λ2 (_:VK)(_R2:OA->Nat->Nat->OA->Nat->Nat->Int->Hp->Prop):aN:=aN.none (fun _=>none)
def dC.Λ (K:VK):aN:=⟨fun i=>none,fun i=>match Nat.beq i 2 with|true=>some (fun E D H=>∃ k,dC.l2.L K k E D H)|false=>none,(fun _=>none)⟩
theorem dC.ok A1 n1 m1 H K (h:dC A1 n1 m1 H K):ae prog 223 #[.slice A1 n1 m1] H K:=
 dX (Λ:=(dC.Λ K)) fv Tryz.func223 rfl rfl h (oC (fun E D H h=>by
   refine Safe.c0 (dC.l2.L K) (fun E D H h=>?_) (fun k E D H h=>?_) E D H h
   .obtain⟨w0,e0,g1⟩:=DG.out h;obtain⟨A2,n2,m2,rfl,g2⟩:=aF.out g1;obtain⟨w2,e2,g3⟩:=DG.out g2;obtain⟨A3,n3,m3,rfl,g4⟩:=aF.out g3;obtain⟨w7,e7,g5⟩:=DG.out g4;obtain⟨x1,rfl,g6⟩:=DI.out g5;obtain⟨rfl,h'⟩:=az.out g6;exact h'
   .obtain⟨w0,e0,g1⟩:=DG.out h;obtain⟨A2,n2,m2,rfl,g2⟩:=aF.out g1;obtain⟨w2,e2,g3⟩:=DG.out g2;obtain⟨A3,n3,m3,rfl,g4⟩:=aF.out g3;obtain⟨x1,e7,g6⟩:=GI g4;obtain⟨rfl,h'⟩:=az.out g6;exact cY (Λ:=(dC.Λ2 K (dC.l2 K k))) fv [] (ag.cons e0 (ag.cons e2 (ag.cons e7 (ag.nil _)))) h' oN) oN)
def pC (A1:OA)(n1 m1:Nat)(H:Hp)(K:VK):Prop:=
 Nw H (Oq #[U 0,I 0,I 0,I 0,I 0,Ot 0,Ot 0,Ot 0] 110) fun b1 H1=>cX 0 n1 (NN A1 fun a1=>eo H1 (a1.add ((0:Int).toNat*1)) fun x1=>cX 1 n1 (NN A1 fun a2=>eo H1 (a2.add ((1:Int).toNat*1)) fun x2=>cX 1 n1 (NN A1 fun a3=>eo H1 (a3.add ((1:Int).toNat*1)) fun x3=>(0<=(8:Int)/\cX 1 n1 (NN A1 fun a4=>eo H1 (a4.add ((1:Int).toNat*1)) fun x4=>(0<=(16:Int)/\cX 1 n1 (NN A1 fun a5=>eo H1 (a5.add ((1:Int).toNat*1)) fun x5=>(0<=(24:Int)/\cX 1 n1 (NN A1 fun a6=>eo H1 (a6.add ((1:Int).toNat*1)) fun x6=>(0<=(32:Int)/\cX 2 n1 (NN A1 fun a7=>eo H1 (a7.add ((2:Int).toNat*1)) fun x7=>(0<=(32:Int)/\cX 2 n1 (NN A1 fun a8=>eo H1 (a8.add ((2:Int).toNat*1)) fun x8=>bR H1 (O b1) #[U (cU .u64 x1 281474976710655),I (i64.wrap (cU .u64 x2 255)),I (i64.wrap (cU .u64 (cT .u64 x4 16) 255)),I (i64.wrap (cU .u64 (cT .u64 x3 8) 255)),I (i64.wrap (cU .u64 (cT .u64 x5 24) 255)),Ot (u32.wrap (cT .u64 x6 32)),Ot (u32.wrap (cT .u64 x7 32)),Ot (u32.wrap x8)] 8 fun H2=>aJ H2 (O b1) 8 fun l1=>K (.agg l1.toArray) H2)))))))))))))
theorem pC.ok A1 n1 m1 H K (h:pC A1 n1 m1 H K):ae prog 224 #[.slice A1 n1 m1] H K:=
 mY (fun i=>match Nat.beq i 1 with|true=>some ([],[0,1,2,3,4,5,6,7,8,9,10,11,12,13,14,15,16,17,18,19,20,21,22,23,24,25,26,27,28,29,30,31,32,33,34,35,36,37,38,39,40,41],42)|false=>none) fv Tryz.func224 rfl rfl h
def nv (A1:OA)(n1 m1:Nat)(H:Hp)(K:VK):Prop:=
 zx 149 #[.slice A1 n1 m1] H fun x1 H1=>Nw H1 (.row [U (u64.wrap (lQ .u32 u32.max x1)),U 32,U (u64.wrap x1),U 0] 387 4) fun b1 H2=>fe 284 #[.slice (Oo b1) 2 2] H2 fun x2 H3=>K (U x2) H3
theorem nv.ok A1 n1 m1 H K (h:nv A1 n1 m1 H K):ae prog 225 #[.slice A1 n1 m1] H K:=
 cg fv Tryz.func225 rfl rfl h
def jR (x1:Int)(H:Hp)(K:VK):Prop:=
 ao (x1==0) (K (.bool true) H) (K (.bool (x1==1)) H)
theorem jR.ok x1 H K (h:jR x1 H K):ae prog 229 #[I x1] H K:=
 cg fv Tryz.func229 rfl rfl h
def kC (y1:Array Value)(x1:Int)(H:Hp)(K:VK):Prop:=
 Nw H (Oq y1 110) fun b1 H1=>aJ H1 (O b1) 8 fun l1=>fS 162 #[.agg l1.toArray] H1 fun c1 H2=>ao (!c1) (K (.tuple #[.slice none 0 0,I 1]) H2) (fS 222 #[I x1] H2 fun c2 H3=>ao (!c2) (K (.tuple #[.slice none 0 0,I 1]) H3) (aJ H3 (O b1) 8 fun l2=>jF 308 #[.agg l2.toArray] H3 fun A1 n1 m1 H4=>lj prog 5 x1 x1 H4 fun v4 H5=>aF v4 fun A2 n2 m2=>fe 225 #[.slice A1 n1 m1] H5 fun x2 H6=>Nw H6 (.row [U x2] 108 1) fun b2 H7=>gC prog 108 (.slice A1 n1 m1) (.slice (Oo b2) 1 1) H7 fun v6 H8=>aF v6 fun A3 n3 m3=>jF 214 #[.slice A3 n3 m3] H8 fun A4 n4 m4 H9=>rI prog 5 (.slice A2 n2 m2) (.slice A4 n4 m4) H9 fun v8 H10=>DI .i64 v8 fun x3=>K (.tuple #[.slice A2 n2 m2,I 0]) H10))
theorem kC.ok y1 x1 H K (h:kC y1 x1 H K):ae prog 241 #[.agg y1,I x1] H K:=
 cg fv Tryz.func241 rfl rfl h
def nu (y1 y2:Array Value)(H:Hp)(K:VK):Prop:=
 Nw H (Oq y1 110) fun b1 H1=>Nw H1 (Oq y2 110) fun b2 H2=>jA H2 ((O b1).add 5) fun x1=>jA H2 ((O b2).add 5) fun x2=>ao (x1==x2) (aM H2 ((O b1).add 2) fun x3=>aM H2 ((O b2).add 2) fun x4=>ao (x3==x4) (jA H2 ((O b1).add 6) fun x5=>jA H2 ((O b2).add 6) fun x6=>K (.bool (x5==x6)) H2) (K (.bool false) H2)) (K (.bool false) H2)
theorem nu.ok y1 y2 H K (h:nu y1 y2 H K):ae prog 272 #[.agg y1,.agg y2] H K:=
 cg fv Tryz.func272 rfl rfl h
def dt.l3 (K:VK):Nat->Int->OA->Nat->Nat->Int->Int->Hp->Prop
 |0,_,_,_,_,_,_,_=>False
 |k+1,x1,A2,n2,m2,x2,x3,H=>
  let R3:=dt.l3 K k
  ao (decide (x3<x2)) (cX x3 n2 (NN A2 fun a1=>aJ H (a1.add (x3.toNat*2)) 2 fun l1=>Nw H (Oq #[U 0,U 0] 387) fun b1 H1=>bR H1 (O b1) l1.toArray 2 fun H2=>eo H2 ((O b1).add 0) fun x4=>eo H2 ((O b1).add 1) fun x5=>(0<=x5/\R3 (lP .u64 x1 (dA .u64 x4 x5)) A2 n2 m2 x2 (i64.wrap (x3+1)) H2))) (K (U x1) H)
def dt (A1:OA)(n1 m1:Nat)(H:Hp)(K:VK):Prop:=
 (∃ k,dt.l3 K k 0 A1 n1 m1 (n1:Int) 0 H)
def dt.l3.L (K:VK)(k:Nat):dm:=fun E D H=>
 eI E 3 .u64 fun x1=>DG (E.get? 6) fun w6=>aF w6 fun A2 n2 m2=>eI E 7 .i64 fun x2=>eI E 8 .i64 fun x3=>az D (dt.l3 K k x1 A2 n2 m2 x2 x3 H)
def dt.Λ3 (_:VK)(_R3:Int->OA->Nat->Nat->Int->Int->Hp->Prop):aN:=aN.none (fun _=>none)
def dt.Λ (K:VK):aN:=⟨fun i=>none,fun i=>match Nat.beq i 3 with|true=>some (fun E D H=>∃ k,dt.l3.L K k E D H)|false=>none,(fun _=>none)⟩
theorem dt.ok A1 n1 m1 H K (h:dt A1 n1 m1 H K):ae prog 284 #[.slice A1 n1 m1] H K:=
 dX (Λ:=(dt.Λ K)) fv Tryz.func284 rfl rfl h (oC (fun E D H h=>by
   refine Safe.c0 (dt.l3.L K) (fun E D H h=>?_) (fun k E D H h=>?_) E D H h
   .obtain⟨w3,e3,g1⟩:=DG.out h;obtain⟨x1,rfl,g2⟩:=DI.out g1;obtain⟨w6,e6,g3⟩:=DG.out g2;obtain⟨A2,n2,m2,rfl,g4⟩:=aF.out g3;obtain⟨w7,e7,g5⟩:=DG.out g4;obtain⟨x2,rfl,g6⟩:=DI.out g5;obtain⟨w8,e8,g7⟩:=DG.out g6;obtain⟨x3,rfl,g8⟩:=DI.out g7;obtain⟨rfl,h'⟩:=az.out g8;exact h'
   .obtain⟨x1,e3,g2⟩:=GI h;obtain⟨w6,e6,g3⟩:=DG.out g2;obtain⟨A2,n2,m2,rfl,g4⟩:=aF.out g3;obtain⟨x2,e7,g6⟩:=GI g4;obtain⟨x3,e8,g8⟩:=GI g6;obtain⟨rfl,h'⟩:=az.out g8;exact cY (Λ:=(dt.Λ3 K (dt.l3 K k))) fv [] (ag.cons e3 (ag.cons e6 (ag.cons e7 (ag.cons e8 (ag.nil _))))) h' oN) oN)
def cW.q1 (b4:Nat)(H4:Hp)(x9 x10:Int)(K:VK):Prop:=
 tN 284 #[.slice (Oo b4) 2 2] H4 fun x11=>Nw H4 (.row [U x9,U x10,U x11] 108 3) fun b5 H5=>K (.slice (Oo b5) 3 3) H5
def cW.q2 (H6:Hp)(x2 x3 x4 x5 x6:Int)(b6:Nat)(x9:Int)(K:VK):Prop:=
 Nw H6 (.row [U (u64.wrap x2),U 32,U (u64.wrap x3),U 24,U (u64.wrap x4),U 16,U (u64.wrap x5),U 8,U (u64.wrap x6),U 0] 387 10) fun b7 H7=>tN 284 #[.slice (Oo b7) 5 5] H7 fun x12=>cW.q1 b6 H7 x9 x12 K
def cW.q3 (H13:Hp)(x1:Int)(b9 b13:Nat)(K:VK):Prop:=
 Nw H13 (.row [U 21061,U 48,U x1,U 0] 387 4) fun b14 H14=>tN 284 #[.slice (Oo b14) 2 2] H14 fun x17=>tN 284 #[.slice (Oo b9) 5 5] H14 fun x18=>cW.q1 b13 H14 x17 x18 K
def cW.q4 (b3:Nat)(H3:Hp)(x7 x8 x9:Int)(K:VK):Prop:=
 tN 284 #[.slice (Oo b3) 5 5] H3 fun x10=>Nw H3 (.row [U (u64.wrap x7),U 32,U (u64.wrap x8),U 0] 387 4) fun b4 H4=>cW.q1 b4 H4 x9 x10 K
def cW (y1:Array Value)(H:Hp)(K:VK):Prop:=
 Nw H (Oq y1 110) fun b1 H1=>eo H1 ((O b1).add 0) fun x1=>jA H1 ((O b1).add 5) fun x2=>aM H1 ((O b1).add 4) fun x3=>aM H1 ((O b1).add 2) fun x4=>aM H1 ((O b1).add 3) fun x5=>aM H1 ((O b1).add 1) fun x6=>jA H1 ((O b1).add 6) fun x7=>jA H1 ((O b1).add 7) fun x8=>(Nw H1 (.row [U 21061,U 48,U x1,U 0] 387 4) fun b2 H2=>tN 284 #[.slice (Oo b2) 2 2] H2 fun x9=>(Nw H2 (.row [U (u64.wrap x2),U 32,U (u64.wrap x3),U 24,U (u64.wrap x4),U 16,U (u64.wrap x5),U 8,U (u64.wrap x6),U 0] 387 10) fun b3 H3=>cW.q4 b3 H3 x7 x8 x9 K)/\(Nw H2 (.row [U (u64.wrap x7),U 32,U (u64.wrap x8),U 0] 387 4) fun b6 H6=>cW.q2 H6 x2 x3 x4 x5 x6 b6 x9 K))/\(Nw H1 (.row [U (u64.wrap x2),U 32,U (u64.wrap x3),U 24,U (u64.wrap x4),U 16,U (u64.wrap x5),U 8,U (u64.wrap x6),U 0] 387 10) fun b9 H9=>(Nw H9 (.row [U 21061,U 48,U x1,U 0] 387 4) fun b10 H10=>tN 284 #[.slice (Oo b10) 2 2] H10 fun x14=>cW.q4 b9 H10 x7 x8 x14 K)/\(Nw H9 (.row [U (u64.wrap x7),U 32,U (u64.wrap x8),U 0] 387 4) fun b13 H13=>cW.q3 H13 x1 b9 b13 K))/\(Nw H1 (.row [U (u64.wrap x7),U 32,U (u64.wrap x8),U 0] 387 4) fun b16 H16=>(Nw H16 (.row [U 21061,U 48,U x1,U 0] 387 4) fun b17 H17=>tN 284 #[.slice (Oo b17) 2 2] H17 fun x20=>cW.q2 H17 x2 x3 x4 x5 x6 b16 x20 K)/\(Nw H16 (.row [U (u64.wrap x2),U 32,U (u64.wrap x3),U 24,U (u64.wrap x4),U 16,U (u64.wrap x5),U 8,U (u64.wrap x6),U 0] 387 10) fun b20 H20=>cW.q3 H20 x1 b20 b16 K))
theorem cW.ok y1 H K (h:cW y1 H K):ae prog 308 #[.agg y1] H K:=
 mY (fun i=>match Nat.beq i 1 with|true=>some ([2,5,7,8,11,12,15,16,19,20,23,24,27,29,30,33,34,37],[0,0,2,6,15,31,0,64,192,448,0,1024,3072,7168,0,16384,49152,114688,0,262144,786432,1835008,0,4194304,12582912,29360128,67108800,134217727,0,268435456,805306368,1879048192,0,4294967296,12884901888,30064771072,68451041280,137438953471,274877906943,549755813887],0)|false=>none) fv Tryz.func308 rfl rfl h
end W
namespace Rec
open Go Go.Hw W
structure R where
 s:Nat
 kd:Int
 kk:Int
 dir:Int
 ps:Int
 ld:Nat
 da:Nat
 out:Nat
def R.c (r:R):Array Value:=#[U (r.s:Int),I r.kd,I r.kk,I r.dir,I r.ps,Ot (r.ld:Int),Ot (r.da:Int),Ot (r.out:Int)]
def fw (r:R):AO:=Oq r.c 110
abbrev R.dc (r:R):Prop:=1<=r.s/\r.s<281474976710656/\0<=r.kk/\r.kk<=32/\(r.dir=0\/r.dir=1)/\
 ((r.kd=1/\r.da=0/\r.ps=0/\r.dir=0/\r.out=0)\/(r.kd=2/\r.ps=0/\r.dir=0/\r.out=0)\/(r.kd=3/\r.ps=0)\/(r.kd=4/\1<=r.ps/\r.ps<=7))
theorem BR (x:Int)(H:Hp):ae prog 229 #[I x] H (RetE (.bool (decide (x=0\/x=1))) H):=by
 apply jR.ok;unfold jR;by_cases h:x=0
 .rw[decide_eq_true (.inl h)];exact aL h (RetE.mk _ _)
 .refine aK h ⟨?_,rfl⟩;by_cases h1:x=1
  .rw[decide_eq_true (.inr h1),h1];rfl
  .rw[decide_eq_false (by omega),beq_eq_false_iff_ne.2 h1]
section
variable {r : R} {H0 H : Hp} {b1 : Nat}
theorem mZ (hs:Sep [own H0,af b1 (fw r)] H)(h:¬r.dc):lG (.bool (decide r.dc)) H0 (.bool false) H:=by
 rw[decide_eq_false h];exact hs.fin 0 rfl _
theorem Fj (hs:Sep [own H0,af b1 (fw r)] H){b:Bool}(h:b=true↔r.dc):lG (.bool (decide r.dc)) H0 (.bool b) H:=by
 have:decide r.dc=b:=by
  cases b with
  |true=>exact decide_eq_true (h.1 rfl)
  |false=>exact decide_eq_false fun g=>by have:=h.2 g;cases this
 rw[this];exact hs.fin 0 rfl _
theorem Bu (hs:Sep [own H0,af b1 (fw r)] H)(h:(r.ps=0/\r.dir=0/\r.out=0)↔r.dc):eT.j10 (lG (.bool (decide r.dc)) H0) (O b1) H:=by
 unfold eT.j10;refine hs.cC 1 rfl rfl ?_;simp only[HV];by_cases h1:r.ps=0
 .refine aL h1 ?_;refine hs.cC 1 rfl rfl ?_;simp only[HV];by_cases h2:r.dir=0
  .refine aL h2 ?_;refine hs.cC 1 rfl rfl ?_;simp only[HV];refine Fj hs ?_;rw[<- h,beq_iff_eq];omega
  .exact aK h2 (mZ hs fun g=>h2 (h.2 g).2.1)
 .exact aK h1 (mZ hs fun g=>h1 (h.2 g).1)
end
theorem fT (r:R)(H:Hp):ae prog 162 #[.agg r.c] H (RetE (.bool (decide r.dc)) H):=ae.ret (by
 apply eT.ok;unfold eT;refine(Sep.start H).nw fun b1 H1 hs=>?_
 have hs:Sep [own H,af b1 (fw r)] H1:=hs;refine hs.cC 1 rfl rfl ?_;simp only[HV];by_cases h1:(r.s:Int)<1
 .exact aC h1 (mZ hs fun g=>by have:=g.1;omega)
 refine aw h1 ?_;refine hs.cC 1 rfl rfl ?_;simp only[HV];by_cases h2:(r.s:Int)>=281474976710656
 .exact aC h2 (mZ hs fun g=>by have:=g.2.1;omega)
 refine aw h2 ?_;refine hs.cC 1 rfl rfl ?_;simp only[HV];by_cases h3:r.kk<0
 .exact aC h3 (mZ hs fun g=>by have:=g.2.2.1;omega)
 refine aw h3 ?_;refine hs.cC 1 rfl rfl ?_;simp only[HV];by_cases h4:r.kk>32
 .exact aC h4 (mZ hs fun g=>by have:=g.2.2.2.1;omega)
 refine aw h4 ?_;refine hs.cC 1 rfl rfl ?_;simp only[HV];refine ae.use (BR r.dir H1) ?_;simp only[HV];by_cases h5:r.dir=0\/r.dir=1
 case neg=>
  rw[decide_eq_false h5];exact cV rfl (mZ hs fun g=>h5 g.2.2.2.2.1)
 rw[decide_eq_true h5];refine bQ rfl ?_;have hd:∀{P:Prop},(P↔((r.kd=1/\r.da=0/\r.ps=0/\r.dir=0/\r.out=0)\/(r.kd=2/\r.ps=0/\r.dir=0/\r.out=0)\/(r.kd=3/\r.ps=0)\/(r.kd=4/\1<=r.ps/\r.ps<=7)))->(P↔r.dc):=fun h=>by
  rw[h];exact⟨fun g=>⟨by omega,by omega,by omega,by omega,h5,g⟩,fun g=>g.2.2.2.2.2⟩
 refine hs.cC 1 rfl rfl ?_;simp only[HV];by_cases k1:r.kd=1
 .refine aL k1 ?_;refine hs.cC 1 rfl rfl ?_;simp only[HV];by_cases h6:(r.da:Int)=0
  .exact aH h6 (Bu hs (hd (by omega)))
  .exact aT h6 (mZ hs fun g=>by have:=g.2.2.2.2.2;omega)
 refine aK k1 ?_;by_cases k2:r.kd=2
 .exact aL k2 (Bu hs (hd (by omega)))
 refine aK k2 ?_;by_cases k3:r.kd=3
 .refine aL k3 ?_;refine hs.cC 1 rfl rfl ?_;simp only[HV];refine Fj hs (hd ?_);rw[beq_iff_eq];omega
 refine aK k3 ?_;by_cases k4:r.kd=4
 .refine aL k4 ?_;refine hs.cC 1 rfl rfl ?_;simp only[HV];by_cases h7:r.ps>=1
  .refine aC h7 ?_;refine hs.cC 1 rfl rfl ?_;simp only[HV];refine Fj hs (hd ?_);rw[decide_eq_true_eq];omega
  .exact aw h7 (mZ hs fun g=>by have:=g.2.2.2.2.2;omega)
 .exact aK k4 (mZ hs fun g=>by have:=g.2.2.2.2.2;omega))
end Rec
namespace W
open Go Go.Hw
theorem fR :prog.follows .mixedOrders=true:=by kernel_rfl
def eC (A1:OA)(n1 m1:Nat)(fd1:FuncId)(F1 C1:Array Value)(H:Hp)(K:VK):Prop:=
 cF 227 #[U (u64.wrap (n1:Int))] H fun x1 H1=>Hz 226 #[.slice A1 n1 m1,I 0,I (n1:Int),I x1,.func (.func fd1) F1 C1] H1 fun v2 H2=>K (.tuple #[]) H2
theorem eC.ok A1 n1 m1 fd1 F1 C1 H K (h:eC A1 n1 m1 fd1 F1 C1 H K):ae prog 159 #[.slice A1 n1 m1,.func (.func fd1) F1 C1] H K:=
 cg fR Tryz.func159 rfl rfl h
def aW.l2 (K:VK):Nat->OA->Nat->Nat->FuncId->Array Value->Array Value->Int->Int->Hp->Prop
 |0,_,_,_,_,_,_,_,_,_=>False
 |k+1,A2,n2,m2,fd2,F2,C2,x1,x2,H=>
  let R2:=aW.l2 K k
  ao (decide (x2<x1)) (cX x2 n2 (NN A2 fun a1=>eo H (a1.add (x2.toNat*1)) fun x3=>kf prog fd2 ((F2++ #[U x3])++C2) H fun v2 H1=>DR prog (fj prog fd2) v2 fun v3=>DB v3 fun c1=>ao c1 (K (I x2) H1) (R2 A2 n2 m2 fd2 F2 C2 x1 (i64.wrap (x2+1)) H1))) (K (I (-1)) H)
def aW (A1:OA)(n1 m1:Nat)(fd1:FuncId)(F1 C1:Array Value)(H:Hp)(K:VK):Prop:=
 (∃ k,aW.l2 K k A1 n1 m1 fd1 F1 C1 (n1:Int) 0 H)
def aW.l2.L (K:VK)(k:Nat):dm:=fun E D H=>
 DG (E.get? 0) fun w0=>aF w0 fun A2 n2 m2=>DG (E.get? 1) fun w1=>jc w1 fun fd2 F2 C2=>eI E 7 .i64 fun x1=>eI E 8 .i64 fun x2=>az D (aW.l2 K k A2 n2 m2 fd2 F2 C2 x1 x2 H)
def aW.Λ2 (_:VK)(_R2:OA->Nat->Nat->FuncId->Array Value->Array Value->Int->Int->Hp->Prop):aN:=aN.none (fun _=>none)
def aW.Λ (K:VK):aN:=⟨fun i=>none,fun i=>match Nat.beq i 2 with|true=>some (fun E D H=>∃ k,aW.l2.L K k E D H)|false=>none,(fun _=>none)⟩
theorem aW.ok A1 n1 m1 fd1 F1 C1 H K (h:aW A1 n1 m1 fd1 F1 C1 H K):ae prog 209 #[.slice A1 n1 m1,.func (.func fd1) F1 C1] H K:=
 dX (Λ:=(aW.Λ K)) fR Tryz.func209 rfl rfl h (oC (fun E D H h=>by
   refine Safe.c0 (aW.l2.L K) (fun E D H h=>?_) (fun k E D H h=>?_) E D H h
   .obtain⟨w0,e0,g1⟩:=DG.out h;obtain⟨A2,n2,m2,rfl,g2⟩:=aF.out g1;obtain⟨w1,e1,g3⟩:=DG.out g2;obtain⟨fd2,F2,C2,rfl,g4⟩:=jc.out g3;obtain⟨w7,e7,g5⟩:=DG.out g4;obtain⟨x1,rfl,g6⟩:=DI.out g5;obtain⟨w8,e8,g7⟩:=DG.out g6;obtain⟨x2,rfl,g8⟩:=DI.out g7;obtain⟨rfl,h'⟩:=az.out g8;exact h'
   .obtain⟨w0,e0,g1⟩:=DG.out h;obtain⟨A2,n2,m2,rfl,g2⟩:=aF.out g1;obtain⟨w1,e1,g3⟩:=DG.out g2;obtain⟨fd2,F2,C2,rfl,g4⟩:=jc.out g3;obtain⟨x1,e7,g6⟩:=GI g4;obtain⟨x2,e8,g8⟩:=GI g6;obtain⟨rfl,h'⟩:=az.out g8;exact cY (Λ:=(aW.Λ2 K (aW.l2 K k))) fR [] (ag.cons e0 (ag.cons e1 (ag.cons e7 (ag.cons e8 (ag.nil _))))) h' oN) oN)
def au.j20 (K:VK)(R2:OA->Nat->Nat->Int->Int->Int->FuncId->Array Value->Array Value->Bool->Bool->Hp->Prop)(A6:OA)(n6 m6:Nat)(x26 x27 x28:Int)(fd6:FuncId)(F6 C6:Array Value)(x29 x30:Int)(H:Hp):=
 Hz 292 #[.slice A6 n6 m6,I x26,I x27,I x30,.func (.func fd6) F6 C6] H fun v12 H9=>sf v12 fun x31 c10=>(((8:Int)≠0/\i64=i64/\ao (decide ((i64.wrap (x31-x26))<(i64.wrap (x27-x31)))) (Hz 226 #[.slice A6 n6 m6,I x26,I x31,I x28,.func (.func fd6) F6 C6] H9 fun v15 H10=>R2 A6 n6 m6 (i64.wrap (x31+1)) x27 x28 fd6 F6 C6 (decide ((i64.wrap (x31-x26))>=(i64.wrap (Int.tdiv x29 8)))) c10 H10) (Hz 226 #[.slice A6 n6 m6,I (i64.wrap (x31+1)),I x27,I x28,.func (.func fd6) F6 C6] H9 fun v16 H11=>R2 A6 n6 m6 x26 x31 x28 fd6 F6 C6 (decide ((i64.wrap (x27-x31))>=(i64.wrap (Int.tdiv x29 8)))) c10 H11)))
def au.j17 (K:VK)(R2:OA->Nat->Nat->Int->Int->Int->FuncId->Array Value->Array Value->Bool->Bool->Hp->Prop)(A5:OA)(n5 m5:Nat)(x19 x20 x21:Int)(fd5:FuncId)(F5 C5:Array Value)(c8 c9:Bool)(x22 x23:Int)(H:Hp):=
 ao (decide (x19>0)) (cX (i64.wrap (x19-1)) n5 (NN A5 fun a1=>aJ H (a1.add ((i64.wrap (x19-1)).toNat*8)) 8 fun l4=>cX x23 n5 (NN A5 fun a2=>aJ H (a2.add (x23.toNat*8)) 8 fun l5=>kf prog fd5 ((F5++ #[.agg l4.toArray,.agg l5.toArray])++C5) H fun v9 H7=>DR prog (fj prog fd5) v9 fun v10=>DI .i64 v10 fun x24=>ao (!(decide (x24<0))) (cF 291 #[.slice A5 n5 m5,I x19,I x20,I x23,.func (.func fd5) F5 C5] H7 fun x25 H8=>R2 A5 n5 m5 x25 x20 x21 fd5 F5 C5 c8 c9 H8) (au.j20 K R2 A5 n5 m5 x19 x20 x21 fd5 F5 C5 x22 x23 H7)))) (au.j20 K R2 A5 n5 m5 x19 x20 x21 fd5 F5 C5 x22 x23 H)
def au.j15 (K:VK)(R2:OA->Nat->Nat->Int->Int->Int->FuncId->Array Value->Array Value->Bool->Bool->Hp->Prop)(A4:OA)(n4 m4:Nat)(x13 x14 x15:Int)(fd4:FuncId)(F4 C4:Array Value)(c5 c6:Bool)(x16 x17 x18:Int)(H:Hp):=
 ao c5 (ao c6 (ao (x18==1) (fS 290 #[.slice A4 n4 m4,I x13,I x14,.func (.func fd4) F4 C4] H fun c7 H6=>ao c7 (K (.tuple #[]) H6) (au.j17 K R2 A4 n4 m4 x13 x14 x15 fd4 F4 C4 c5 c6 x16 x17 H6)) (au.j17 K R2 A4 n4 m4 x13 x14 x15 fd4 F4 C4 c5 c6 x16 x17 H)) (au.j17 K R2 A4 n4 m4 x13 x14 x15 fd4 F4 C4 c5 c6 x16 x17 H)) (au.j17 K R2 A4 n4 m4 x13 x14 x15 fd4 F4 C4 c5 c6 x16 x17 H)
def au.j10 (K:VK)(R2:OA->Nat->Nat->Int->Int->Int->FuncId->Array Value->Array Value->Bool->Bool->Hp->Prop)(A3:OA)(n3 m3:Nat)(x7 x8 x9:Int)(fd3:FuncId)(F3 C3:Array Value)(c3 c4:Bool)(x10:Int)(H:Hp):=
 Hz 288 #[.slice A3 n3 m3,I x7,I x8,.func (.func fd3) F3 C3] H fun v4 H4=>ua v4 fun x11 x12=>(ao (x12==2) (Hz 289 #[.slice A3 n3 m3,I x7,I x8,.func (.func fd3) F3 C3] H4 fun v7 H5=>au.j15 K R2 A3 n3 m3 x7 x8 x9 fd3 F3 C3 c3 c4 x10 (i64.wrap ((i64.wrap (x8-1))-(i64.wrap (x11-x7)))) 1 H5) (au.j15 K R2 A3 n3 m3 x7 x8 x9 fd3 F3 C3 c3 c4 x10 x11 x12 H4))
def au.l2 (K:VK):Nat->OA->Nat->Nat->Int->Int->Int->FuncId->Array Value->Array Value->Bool->Bool->Hp->Prop
 |0,_,_,_,_,_,_,_,_,_,_,_,_=>False
 |k+1,A2,n2,m2,x4,x5,x6,fd2,F2,C2,c1,c2,H=>
  let R2:=au.l2 K k
  ao (decide ((i64.wrap (x5-x4))<=12)) (Hz 285 #[.slice A2 n2 m2,I x4,I x5,.func (.func fd2) F2 C2] H fun v1 H1=>K (.tuple #[]) H1) (ao (x6==0) (Hz 286 #[.slice A2 n2 m2,I x4,I x5,.func (.func fd2) F2 C2] H fun v2 H2=>K (.tuple #[]) H2) (ao (!c1) (Hz 287 #[.slice A2 n2 m2,I x4,I x5,.func (.func fd2) F2 C2] H fun v3 H3=>au.j10 K R2 A2 n2 m2 x4 x5 (i64.wrap (x6-1)) fd2 F2 C2 c1 c2 (i64.wrap (x5-x4)) H3) (au.j10 K R2 A2 n2 m2 x4 x5 x6 fd2 F2 C2 c1 c2 (i64.wrap (x5-x4)) H)))
def au (A1:OA)(n1 m1:Nat)(x1 x2 x3:Int)(fd1:FuncId)(F1 C1:Array Value)(H:Hp)(K:VK):Prop:=
 (∃ k,au.l2 K k A1 n1 m1 x1 x2 x3 fd1 F1 C1 true true H)
def au.l2.L (K:VK)(k:Nat):dm:=fun E D H=>
 DG (E.get? 0) fun w0=>aF w0 fun A2 n2 m2=>eI E 1 .i64 fun x4=>eI E 2 .i64 fun x5=>eI E 3 .i64 fun x6=>DG (E.get? 4) fun w4=>jc w4 fun fd2 F2 C2=>DG (E.get? 10) fun w10=>DB w10 fun c1=>DG (E.get? 11) fun w11=>DB w11 fun c2=>az D (au.l2 K k A2 n2 m2 x4 x5 x6 fd2 F2 C2 c1 c2 H)
def au.Λ2 (K:VK)(R2:OA→Nat→Nat→Int→Int→Int→FuncId→Array Value→Array Value→Bool→Bool→Hp→Prop):aN:=⟨fun i=>match Nat.beq i 20 with|true=>some (fun E D H=>DG (E.get? 0) fun w0=>aF w0 fun A6 n6 m6=>eI E 1 .i64 fun x26=>eI E 2 .i64 fun x27=>eI E 3 .i64 fun x28=>DG (E.get? 4) fun w4=>jc w4 fun fd6 F6 C6=>eI E 12 .i64 fun x29=>eI E 13 .i64 fun x30=>az D (au.j20 K R2 A6 n6 m6 x26 x27 x28 fd6 F6 C6 x29 x30 H))|false=>match Nat.beq i 17 with|true=>some (fun E D H=>DG (E.get? 0) fun w0=>aF w0 fun A5 n5 m5=>eI E 1 .i64 fun x19=>eI E 2 .i64 fun x20=>eI E 3 .i64 fun x21=>DG (E.get? 4) fun w4=>jc w4 fun fd5 F5 C5=>DG (E.get? 10) fun w10=>DB w10 fun c8=>DG (E.get? 11) fun w11=>DB w11 fun c9=>eI E 12 .i64 fun x22=>eI E 13 .i64 fun x23=>az D (au.j17 K R2 A5 n5 m5 x19 x20 x21 fd5 F5 C5 c8 c9 x22 x23 H))|false=>match Nat.beq i 15 with|true=>some (fun E D H=>DG (E.get? 0) fun w0=>aF w0 fun A4 n4 m4=>eI E 1 .i64 fun x13=>eI E 2 .i64 fun x14=>eI E 3 .i64 fun x15=>DG (E.get? 4) fun w4=>jc w4 fun fd4 F4 C4=>DG (E.get? 10) fun w10=>DB w10 fun c5=>DG (E.get? 11) fun w11=>DB w11 fun c6=>eI E 12 .i64 fun x16=>eI E 13 .i64 fun x17=>eI E 14 .i64 fun x18=>az D (au.j15 K R2 A4 n4 m4 x13 x14 x15 fd4 F4 C4 c5 c6 x16 x17 x18 H))|false=>match Nat.beq i 10 with|true=>some (fun E D H=>DG (E.get? 0) fun w0=>aF w0 fun A3 n3 m3=>eI E 1 .i64 fun x7=>eI E 2 .i64 fun x8=>eI E 3 .i64 fun x9=>DG (E.get? 4) fun w4=>jc w4 fun fd3 F3 C3=>DG (E.get? 10) fun w10=>DB w10 fun c3=>DG (E.get? 11) fun w11=>DB w11 fun c4=>eI E 12 .i64 fun x10=>az D (au.j10 K R2 A3 n3 m3 x7 x8 x9 fd3 F3 C3 c3 c4 x10 H))|false=>none,fun i=>none,(fun i=>match Nat.beq i 17 with|true=>some ([],[0,1,2,3,4,5,6,7,8,9,10,11,12],13)|false=>none)⟩
def au.Λ (K:VK):aN:=⟨fun i=>none,fun i=>match Nat.beq i 2 with|true=>some (fun E D H=>∃ k,au.l2.L K k E D H)|false=>none,(fun i=>match Nat.beq i 17 with|true=>some ([],[0,1,2,3,4,5,6,7,8,9,10,11,12],13)|false=>none)⟩
theorem au.ok A1 n1 m1 x1 x2 x3 fd1 F1 C1 H K (h:au A1 n1 m1 x1 x2 x3 fd1 F1 C1 H K):ae prog 226 #[.slice A1 n1 m1,I x1,I x2,I x3,.func (.func fd1) F1 C1] H K:=
 dX (Λ:=(au.Λ K)) fR Tryz.func226 rfl rfl h (oC (fun E D H h=>by
   refine Safe.c0 (au.l2.L K) (fun E D H h=>?_) (fun k E D H h=>?_) E D H h
   .obtain⟨w0,e0,g1⟩:=DG.out h;obtain⟨A2,n2,m2,rfl,g2⟩:=aF.out g1;obtain⟨w1,e1,g3⟩:=DG.out g2;obtain⟨x4,rfl,g4⟩:=DI.out g3;obtain⟨w2,e2,g5⟩:=DG.out g4;obtain⟨x5,rfl,g6⟩:=DI.out g5;obtain⟨w3,e3,g7⟩:=DG.out g6;obtain⟨x6,rfl,g8⟩:=DI.out g7;obtain⟨w4,e4,g9⟩:=DG.out g8;obtain⟨fd2,F2,C2,rfl,g10⟩:=jc.out g9;obtain⟨w10,e10,g11⟩:=DG.out g10;obtain⟨c1,rfl,g12⟩:=DB.out g11;obtain⟨w11,e11,g13⟩:=DG.out g12;obtain⟨c2,rfl,g14⟩:=DB.out g13;obtain⟨rfl,h'⟩:=az.out g14;exact h'
   .obtain⟨w0,e0,g1⟩:=DG.out h;obtain⟨A2,n2,m2,rfl,g2⟩:=aF.out g1;obtain⟨x4,e1,g4⟩:=GI g2;obtain⟨x5,e2,g6⟩:=GI g4;obtain⟨x6,e3,g8⟩:=GI g6;obtain⟨w4,e4,g9⟩:=DG.out g8;obtain⟨fd2,F2,C2,rfl,g10⟩:=jc.out g9;obtain⟨w10,e10,g11⟩:=DG.out g10;obtain⟨c1,rfl,g12⟩:=DB.out g11;obtain⟨w11,e11,g13⟩:=DG.out g12;obtain⟨c2,rfl,g14⟩:=DB.out g13;obtain⟨rfl,h'⟩:=az.out g14;exact cY (Λ:=(au.Λ2 K (au.l2 K k))) fR [] (ag.cons e0 (ag.cons e1 (ag.cons e2 (ag.cons e3 (ag.cons e4 (ag.cons e10 (ag.cons e11 (ag.nil _)))))))) h' (oC (fun E D H h=>by
      obtain⟨w0,e0,g1⟩:=DG.out h;obtain⟨A3,n3,m3,rfl,g2⟩:=aF.out g1;obtain⟨x7,e1,g4⟩:=GI g2;obtain⟨x8,e2,g6⟩:=GI g4;obtain⟨x9,e3,g8⟩:=GI g6;obtain⟨w4,e4,g9⟩:=DG.out g8;obtain⟨fd3,F3,C3,rfl,g10⟩:=jc.out g9;obtain⟨w10,e10,g11⟩:=DG.out g10;obtain⟨c3,rfl,g12⟩:=DB.out g11;obtain⟨w11,e11,g13⟩:=DG.out g12;obtain⟨c4,rfl,g14⟩:=DB.out g13;obtain⟨x10,e12,g16⟩:=GI g14;obtain⟨rfl,h'⟩:=az.out g16;exact cY (Λ:=(au.Λ2 K (au.l2 K k))) fR [] (ag.cons e0 (ag.cons e1 (ag.cons e2 (ag.cons e3 (ag.cons e4 (ag.cons e10 (ag.cons e11 (ag.cons e12 (ag.nil _))))))))) h' (oC (fun E D H h=>by
        obtain⟨w0,e0,g1⟩:=DG.out h;obtain⟨A4,n4,m4,rfl,g2⟩:=aF.out g1;obtain⟨x13,e1,g4⟩:=GI g2;obtain⟨x14,e2,g6⟩:=GI g4;obtain⟨x15,e3,g8⟩:=GI g6;obtain⟨w4,e4,g9⟩:=DG.out g8;obtain⟨fd4,F4,C4,rfl,g10⟩:=jc.out g9;obtain⟨w10,e10,g11⟩:=DG.out g10;obtain⟨c5,rfl,g12⟩:=DB.out g11;obtain⟨w11,e11,g13⟩:=DG.out g12;obtain⟨c6,rfl,g14⟩:=DB.out g13;obtain⟨x16,e12,g16⟩:=GI g14;obtain⟨x17,e13,g18⟩:=GI g16;obtain⟨x18,e14,g20⟩:=GI g18;obtain⟨rfl,h'⟩:=az.out g20;exact cY (Λ:=(au.Λ2 K (au.l2 K k))) fR [] (ag.cons e0 (ag.cons e1 (ag.cons e2 (ag.cons e3 (ag.cons e4 (ag.cons e10 (ag.cons e11 (ag.cons e12 (ag.cons e13 (ag.cons e14 (ag.nil _))))))))))) h' (oC (fun E D H h=>by
          obtain⟨w0,e0,g1⟩:=DG.out h;obtain⟨A5,n5,m5,rfl,g2⟩:=aF.out g1;obtain⟨x19,e1,g4⟩:=GI g2;obtain⟨x20,e2,g6⟩:=GI g4;obtain⟨x21,e3,g8⟩:=GI g6;obtain⟨w4,e4,g9⟩:=DG.out g8;obtain⟨fd5,F5,C5,rfl,g10⟩:=jc.out g9;obtain⟨w10,e10,g11⟩:=DG.out g10;obtain⟨c8,rfl,g12⟩:=DB.out g11;obtain⟨w11,e11,g13⟩:=DG.out g12;obtain⟨c9,rfl,g14⟩:=DB.out g13;obtain⟨x22,e12,g16⟩:=GI g14;obtain⟨x23,e13,g18⟩:=GI g16;obtain⟨rfl,h'⟩:=az.out g18;exact cY (Λ:=(au.Λ2 K (au.l2 K k))) fR [] (ag.cons e0 (ag.cons e1 (ag.cons e2 (ag.cons e3 (ag.cons e4 (ag.cons e10 (ag.cons e11 (ag.cons e12 (ag.cons e13 (ag.nil _)))))))))) h' (oC (fun E D H h=>by
            obtain⟨w0,e0,g1⟩:=DG.out h;obtain⟨A6,n6,m6,rfl,g2⟩:=aF.out g1;obtain⟨x26,e1,g4⟩:=GI g2;obtain⟨x27,e2,g6⟩:=GI g4;obtain⟨x28,e3,g8⟩:=GI g6;obtain⟨w4,e4,g9⟩:=DG.out g8;obtain⟨fd6,F6,C6,rfl,g10⟩:=jc.out g9;obtain⟨x29,e12,g12⟩:=GI g10;obtain⟨x30,e13,g14⟩:=GI g12;obtain⟨rfl,h'⟩:=az.out g14;exact cY (Λ:=(au.Λ2 K (au.l2 K k))) fR [] (ag.cons e0 (ag.cons e1 (ag.cons e2 (ag.cons e3 (ag.cons e4 (ag.cons e12 (ag.cons e13 (ag.nil _)))))))) h' oN) oN)) oN)) oN)) oN)) oN)
def av.l4 (K:VK)(R1:OA->Nat->Nat->Int->Int->FuncId->Array Value->Array Value->Int->Hp->Prop):Nat->OA->Nat->Nat->Int->Int->FuncId->Array Value->Array Value->Int->Int->Hp->Prop
 |0,_,_,_,_,_,_,_,_,_,_,_=>False
 |k+1,A3,n3,m3,x6,x7,fd3,F3,C3,x8,x9,H=>
  let R4:=av.l4 K R1 k
  ao (decide (x9>x6)) (cX x9 n3 (NN A3 fun a1=>aJ H (a1.add (x9.toNat*8)) 8 fun l1=>cX (i64.wrap (x9-1)) n3 (NN A3 fun a2=>aJ H (a2.add ((i64.wrap (x9-1)).toNat*8)) 8 fun l2=>kf prog fd3 ((F3++ #[.agg l1.toArray,.agg l2.toArray])++C3) H fun v1 H1=>DR prog (fj prog fd3) v1 fun v2=>DI .i64 v2 fun x10=>ao (decide (x10<0)) (cX (i64.wrap (x9-1)) n3 (NN A3 fun a3=>cX x9 n3 (NN A3 fun a4=>(aJ H1 (a3.add ((i64.wrap (x9-1)).toNat*8)) 8 fun l3=>aJ H1 (a4.add (x9.toNat*8)) 8 fun l4=>cX x9 n3 (NN A3 fun a5=>bR H1 (a5.add (x9.toNat*8)) l3.toArray 8 fun H2=>cX (i64.wrap (x9-1)) n3 (NN A3 fun a6=>bR H2 (a6.add ((i64.wrap (x9-1)).toNat*8)) l4.toArray 8 fun H3=>R4 A3 n3 m3 x6 x7 fd3 F3 C3 x8 (i64.wrap (x9-1)) H3)))/\(aJ H1 (a4.add (x9.toNat*8)) 8 fun l5=>aJ H1 (a3.add ((i64.wrap (x9-1)).toNat*8)) 8 fun l6=>cX x9 n3 (NN A3 fun a7=>bR H1 (a7.add (x9.toNat*8)) l6.toArray 8 fun H4=>cX (i64.wrap (x9-1)) n3 (NN A3 fun a8=>bR H4 (a8.add ((i64.wrap (x9-1)).toNat*8)) l5.toArray 8 fun H5=>R4 A3 n3 m3 x6 x7 fd3 F3 C3 x8 (i64.wrap (x9-1)) H5)))))) (R1 A3 n3 m3 x6 x7 fd3 F3 C3 (i64.wrap (x8+1)) H1)))) (R1 A3 n3 m3 x6 x7 fd3 F3 C3 (i64.wrap (x8+1)) H)
def av.l1 (K:VK):Nat->OA->Nat->Nat->Int->Int->FuncId->Array Value->Array Value->Int->Hp->Prop
 |0,_,_,_,_,_,_,_,_,_,_=>False
 |k+1,A2,n2,m2,x3,x4,fd2,F2,C2,x5,H=>
  let R1:=av.l1 K k
  ao (decide (x5<x4)) ((∃ k,av.l4 K R1 k A2 n2 m2 x3 x4 fd2 F2 C2 x5 x5 H)) (K (.tuple #[]) H)
def av (A1:OA)(n1 m1:Nat)(x1 x2:Int)(fd1:FuncId)(F1 C1:Array Value)(H:Hp)(K:VK):Prop:=
 (∃ k,av.l1 K k A1 n1 m1 x1 x2 fd1 F1 C1 (i64.wrap (x1+1)) H)
def av.l1.L (K:VK)(k:Nat):dm:=fun E D H=>
 DG (E.get? 0) fun w0=>aF w0 fun A2 n2 m2=>eI E 1 .i64 fun x3=>eI E 2 .i64 fun x4=>DG (E.get? 3) fun w3=>jc w3 fun fd2 F2 C2=>eI E 8 .i64 fun x5=>az D (av.l1 K k A2 n2 m2 x3 x4 fd2 F2 C2 x5 H)
def av.l4.L (K:VK)(R1:OA->Nat->Nat->Int->Int->FuncId->Array Value->Array Value->Int->Hp->Prop)(k:Nat):dm:=fun E D H=>
 DG (E.get? 0) fun w0=>aF w0 fun A3 n3 m3=>eI E 1 .i64 fun x6=>eI E 2 .i64 fun x7=>DG (E.get? 3) fun w3=>jc w3 fun fd3 F3 C3=>eI E 8 .i64 fun x8=>eI E 9 .i64 fun x9=>az D (av.l4 K R1 k A3 n3 m3 x6 x7 fd3 F3 C3 x8 x9 H)
def av.Λ4 (_:VK)(_R1:OA→Nat→Nat→Int→Int→FuncId→Array Value→Array Value→Int→Hp→Prop)(_R4:OA→Nat→Nat→Int→Int→FuncId→Array Value→Array Value→Int→Int→Hp→Prop):aN:=aN.none (fun i=>match Nat.beq i 6 with|true=>some ([],[0,0,0,0,8,0,0,64,224,480,0,0,3072,7168,16355,32739,65535,131071],0)|false=>match Nat.beq i 4 with|true=>some ([],[0,1,2,3,4,5,6,7,8,9,10,11,12,13],14)|false=>none)
def av.Λ1 (K:VK)(R1:OA→Nat→Nat→Int→Int→FuncId→Array Value→Array Value→Int→Hp→Prop):aN:=⟨fun i=>none,fun i=>match Nat.beq i 4 with|true=>some (fun E D H=>∃ k,av.l4.L K R1 k E D H)|false=>none,(fun i=>match Nat.beq i 6 with|true=>some ([],[0,0,0,0,8,0,0,64,224,480,0,0,3072,7168,16355,32739,65535,131071],0)|false=>match Nat.beq i 4 with|true=>some ([],[0,1,2,3,4,5,6,7,8,9,10,11,12,13],14)|false=>none)⟩
def av.Λ (K:VK):aN:=⟨fun i=>none,fun i=>match Nat.beq i 1 with|true=>some (fun E D H=>∃ k,av.l1.L K k E D H)|false=>none,(fun i=>match Nat.beq i 6 with|true=>some ([],[0,0,0,0,8,0,0,64,224,480,0,0,3072,7168,16355,32739,65535,131071],0)|false=>match Nat.beq i 4 with|true=>some ([],[0,1,2,3,4,5,6,7,8,9,10,11,12,13],14)|false=>none)⟩
theorem av.ok A1 n1 m1 x1 x2 fd1 F1 C1 H K (h:av A1 n1 m1 x1 x2 fd1 F1 C1 H K):ae prog 285 #[.slice A1 n1 m1,I x1,I x2,.func (.func fd1) F1 C1] H K:=
 dX (Λ:=(av.Λ K)) fR Tryz.func285 rfl rfl h (oC (fun E D H h=>by
   refine Safe.c0 (av.l1.L K) (fun E D H h=>?_) (fun k E D H h=>?_) E D H h
   .obtain⟨w0,e0,g1⟩:=DG.out h;obtain⟨A2,n2,m2,rfl,g2⟩:=aF.out g1;obtain⟨w1,e1,g3⟩:=DG.out g2;obtain⟨x3,rfl,g4⟩:=DI.out g3;obtain⟨w2,e2,g5⟩:=DG.out g4;obtain⟨x4,rfl,g6⟩:=DI.out g5;obtain⟨w3,e3,g7⟩:=DG.out g6;obtain⟨fd2,F2,C2,rfl,g8⟩:=jc.out g7;obtain⟨w8,e8,g9⟩:=DG.out g8;obtain⟨x5,rfl,g10⟩:=DI.out g9;obtain⟨rfl,h'⟩:=az.out g10;exact h'
   .obtain⟨w0,e0,g1⟩:=DG.out h;obtain⟨A2,n2,m2,rfl,g2⟩:=aF.out g1;obtain⟨x3,e1,g4⟩:=GI g2;obtain⟨x4,e2,g6⟩:=GI g4;obtain⟨w3,e3,g7⟩:=DG.out g6;obtain⟨fd2,F2,C2,rfl,g8⟩:=jc.out g7;obtain⟨x5,e8,g10⟩:=GI g8;obtain⟨rfl,h'⟩:=az.out g10;exact cY (Λ:=(av.Λ1 K (av.l1 K k))) fR [] (ag.cons e0 (ag.cons e1 (ag.cons e2 (ag.cons e3 (ag.cons e8 (ag.nil _)))))) h' (oC (fun E D H h=>by
      refine Safe.c0 (av.l4.L K (av.l1 K k)) (fun E D H h=>?_) (fun k E D H h=>?_) E D H h
      .obtain⟨w0,e0,g1⟩:=DG.out h;obtain⟨A3,n3,m3,rfl,g2⟩:=aF.out g1;obtain⟨w1,e1,g3⟩:=DG.out g2;obtain⟨x6,rfl,g4⟩:=DI.out g3;obtain⟨w2,e2,g5⟩:=DG.out g4;obtain⟨x7,rfl,g6⟩:=DI.out g5;obtain⟨w3,e3,g7⟩:=DG.out g6;obtain⟨fd3,F3,C3,rfl,g8⟩:=jc.out g7;obtain⟨w8,e8,g9⟩:=DG.out g8;obtain⟨x8,rfl,g10⟩:=DI.out g9;obtain⟨w9,e9,g11⟩:=DG.out g10;obtain⟨x9,rfl,g12⟩:=DI.out g11;obtain⟨rfl,h'⟩:=az.out g12;exact h'
      .obtain⟨w0,e0,g1⟩:=DG.out h;obtain⟨A3,n3,m3,rfl,g2⟩:=aF.out g1;obtain⟨x6,e1,g4⟩:=GI g2;obtain⟨x7,e2,g6⟩:=GI g4;obtain⟨w3,e3,g7⟩:=DG.out g6;obtain⟨fd3,F3,C3,rfl,g8⟩:=jc.out g7;obtain⟨x8,e8,g10⟩:=GI g8;obtain⟨x9,e9,g12⟩:=GI g10;obtain⟨rfl,h'⟩:=az.out g12;exact cY (Λ:=(av.Λ4 K (av.l1 K k) (av.l4 K (av.l1 K k) k))) fR [] (ag.cons e0 (ag.cons e1 (ag.cons e2 (ag.cons e3 (ag.cons e8 (ag.cons e9 (ag.nil _))))))) h' oN) oN)) oN)
theorem Cb :prog.follows .mixedOrders=true:=by kernel_rfl
def iX (x1 x2:Int)(H:Hp)(K:VK):Prop:=
 fS 228 #[U x1] H fun c1 H1=>fS 228 #[U x2] H1 fun c2 H2=>ao c1 (ao c2 (K (I 0) H2) (K (I (-1)) H2)) (ao c2 (K (I 1) H2) (ao (decide (x1<x2)) (K (I (-1)) H2) (ao (decide (x1>x2)) (K (I 1) H2) (K (I 0) H2))))
theorem iX.ok x1 x2 H K (h:iX x1 x2 H K):ae prog 161 #[U x1,U x2] H K:=
 cg Cb Tryz.func161 rfl rfl h
def jM (x1:Int)(H:Hp)(K:VK):Prop:=
 K (.bool (x1 !=x1)) H
theorem jM.ok x1 H K (h:jM x1 H K):ae prog 228 #[U x1] H K:=
 cg Cb Tryz.func228 rfl rfl h
theorem iP :prog.follows .mixedOrders=true:=by kernel_rfl
def fN.q1 (H2:Hp)(b1:Nat)(K:VK)(x1:Int):=
 bR H2 (O b1) #[U 0,I 0,I 0,I 0,I 0,Ot 0,Ot 0,Ot 0] 8 fun H3=>aJ H3 (O b1) 8 fun l5=>K (.tuple #[.agg l5.toArray,.bool false,I x1]) H3
def fN (p1:OA)(H:Hp)(K:VK):Prop:=
 Nw H (Oq #[U 0,I 0,I 0,I 0,I 0,Ot 0,Ot 0,Ot 0] 110) fun b1 H1=>Hz 98 #[.pointer p1] H1 fun v1 H2=>kB v1 fun A1 n1 m1 x1=>(ao (x1 !=0) (fN.q1 H2 b1 K x1) (ao ((n1:Int)==0) (fN.q1 H2 b1 K x1) (cX (i64.wrap ((n1:Int)-1)) n1 (NN A1 fun a1=>aJ H2 (a1.add ((i64.wrap ((n1:Int)-1)).toNat*8)) 8 fun l4=>bR H2 (O b1) l4.toArray 8 fun H5=>aJ H5 (O b1) 8 fun l7=>K (.tuple #[.agg l7.toArray,.bool true,I 0]) H5))))
theorem fN.ok p1 H K (h:fN p1 H K):ae prog 82 #[.pointer p1] H K:=
 cg iP Tryz.func82 rfl rfl h
def bx.j5 (K:VK)(R2:OA->OA->Nat->Nat->Int->Int->Hp->Prop)(p5 A4:OA)(n4 m4:Nat)(x8:Int)(A5:OA)(n5 m5:Nat)(x9 x10 x11:Int)(H:Hp):=
 ao (x9 !=0) (K (.tuple #[.slice none 0 0,I x9]) H) (Hz 157 #[.slice A5 n5 m5] H fun v12 H3=>o5 v12 fun y1 x12=>(Nw H3 (Oq #[U 0,I 0,I 0,I 0,I 0,Ot 0,Ot 0,Ot 0] 110) fun b1 H4=>bR H4 (O b1) y1 8 fun H5=>ao (x12==0) (eo H5 ((O b1).add 0) fun x13=>fc 158 #[.pointer p5,U x13] H5 fun x14=>NN p5 fun a4=>aM H5 ((a4.add 0).add 0) fun x15=>ao (x14==(i64.wrap (x15+x8))) (aJ H5 (O b1) 8 fun l10=>xm l10.toArray.toList fun x16 x17 x18 x19 x20 x21 x22 x23=>(Nw H5 (.row [U x16,I x17,I x18,I x19,I x20,Ot x21,Ot x22,Ot x23] 110 8) fun b2 H6=>gC prog 110 (.slice A4 n4 m4) (.slice (Oo b2) 1 1) H6 fun v26 H7=>aF v26 fun A6 n6 m6=>R2 p5 A6 n6 m6 x10 (i64.wrap (x11+1)) H7)) (R2 p5 A4 n4 m4 x10 (i64.wrap (x11+1)) H5)) (R2 p5 A4 n4 m4 x10 (i64.wrap (x11+1)) H5)))
def bx.l2 (K:VK):Nat->OA->OA->Nat->Nat->Int->Int->Hp->Prop
 |0,_,_,_,_,_,_,_=>False
 |k+1,p2,A1,n1,m1,x2,x3,H=>
  let R2:=bx.l2 K k
  ao (decide (x3<x2)) (NN p2 fun a2=>NN p2 fun a3=>(bA H (a2.add 3) fun p3=>aM H ((a3.add 0).add 0) fun x4=>Hz 46 #[.pointer p3,I (i64.wrap (x4+x3))] H fun v4 H1=>kB v4 fun A2 n2 m2 x5=>(bx.j5 K R2 p2 A1 n1 m1 x3 A2 n2 m2 x5 x2 x3 H1))/\(aM H ((a3.add 0).add 0) fun x6=>bA H (a2.add 3) fun p4=>Hz 46 #[.pointer p4,I (i64.wrap (x6+x3))] H fun v9 H2=>kB v9 fun A3 n3 m3 x7=>(bx.j5 K R2 p2 A1 n1 m1 x3 A3 n3 m3 x7 x2 x3 H2))) (Hz 159 #[.slice A1 n1 m1,.func (.func 160) #[] #[]] H fun v27 H8=>K (.tuple #[.slice A1 n1 m1,I 0]) H8)
def bx (p1:OA)(H:Hp)(K:VK):Prop:=
 NN p1 fun a1=>aM H ((a1.add 0).add 1) fun x1=>(∃ k,bx.l2 K k p1 none 0 0 x1 0 H)
def bx.l2.L (K:VK)(k:Nat):dm:=fun E D H=>
 eP E 0 fun p2=>DG (E.get? 2) fun w2=>aF w2 fun A1 n1 m1=>eI E 13 .i64 fun x2=>eI E 14 .i64 fun x3=>az D (bx.l2 K k p2 A1 n1 m1 x2 x3 H)
def bx.Λ2 (K:VK)(R2:OA→OA→Nat→Nat→Int→Int→Hp→Prop):aN:=⟨fun i=>match Nat.beq i 5 with|true=>some (fun E D H=>eP E 0 fun p5=>DG (E.get? 2) fun w2=>aF w2 fun A4 n4 m4=>eI E 4 .i64 fun x8=>DG (E.get? 5) fun w5=>aF w5 fun A5 n5 m5=>eI E 6 .i64 fun x9=>eI E 13 .i64 fun x10=>eI E 14 .i64 fun x11=>az D (bx.j5 K R2 p5 A4 n4 m4 x8 A5 n5 m5 x9 x10 x11 H))|false=>none,fun i=>none,(fun i=>match Nat.beq i 4 with|true=>some ([],[0,1,3,7,0,16,48,112,240,0,1008,2047,4095,8191,8191,16383,65535],0)|false=>none)⟩
def bx.Λ (K:VK):aN:=⟨fun i=>none,fun i=>match Nat.beq i 2 with|true=>some (fun E D H=>∃ k,bx.l2.L K k E D H)|false=>none,(fun i=>match Nat.beq i 4 with|true=>some ([],[0,1,3,7,0,16,48,112,240,0,1008,2047,4095,8191,8191,16383,65535],0)|false=>none)⟩
theorem bx.ok p1 H K (h:bx p1 H K):ae prog 98 #[.pointer p1] H K:=
 dX (Λ:=(bx.Λ K)) iP Tryz.func98 rfl rfl h (oC (fun E D H h=>by
   refine Safe.c0 (bx.l2.L K) (fun E D H h=>?_) (fun k E D H h=>?_) E D H h
   .obtain⟨w0,e0,g1⟩:=DG.out h;obtain⟨p2,rfl,g2⟩:=DP.out g1;obtain⟨w2,e2,g3⟩:=DG.out g2;obtain⟨A1,n1,m1,rfl,g4⟩:=aF.out g3;obtain⟨w13,e13,g5⟩:=DG.out g4;obtain⟨x2,rfl,g6⟩:=DI.out g5;obtain⟨w14,e14,g7⟩:=DG.out g6;obtain⟨x3,rfl,g8⟩:=DI.out g7;obtain⟨rfl,h'⟩:=az.out g8;exact h'
   .obtain⟨p2,e0,g2⟩:=GP h;obtain⟨w2,e2,g3⟩:=DG.out g2;obtain⟨A1,n1,m1,rfl,g4⟩:=aF.out g3;obtain⟨x2,e13,g6⟩:=GI g4;obtain⟨x3,e14,g8⟩:=GI g6;obtain⟨rfl,h'⟩:=az.out g8;exact cY (Λ:=(bx.Λ2 K (bx.l2 K k))) iP [] (ag.cons e0 (ag.cons e2 (ag.cons e13 (ag.cons e14 (ag.nil _))))) h' (oC (fun E D H h=>by
      obtain⟨p5,e0,g2⟩:=GP h;obtain⟨w2,e2,g3⟩:=DG.out g2;obtain⟨A4,n4,m4,rfl,g4⟩:=aF.out g3;obtain⟨x8,e4,g6⟩:=GI g4;obtain⟨w5,e5,g7⟩:=DG.out g6;obtain⟨A5,n5,m5,rfl,g8⟩:=aF.out g7;obtain⟨x9,e6,g10⟩:=GI g8;obtain⟨x10,e13,g12⟩:=GI g10;obtain⟨x11,e14,g14⟩:=GI g12;obtain⟨rfl,h'⟩:=az.out g14;exact cY (Λ:=(bx.Λ2 K (bx.l2 K k))) iP [] (ag.cons e0 (ag.cons e2 (ag.cons e4 (ag.cons e5 (ag.cons e6 (ag.cons e13 (ag.cons e14 (ag.nil _)))))))) h' oN) oN)) oN)
def bB.l2.q1 (p4:OA)(x5 x3:Int)(A1:OA)(n1 m1:Nat)(H1:Hp)(K:VK)(R2:OA->Int->Int->Hp->Prop)(p2:OA)(x2:Int):=
 cF 47 #[.pointer p4,I (i64.wrap (x5+x3)),.slice A1 n1 m1] H1 fun x6 H2=>ao (x6 !=0) (K (I x6) H2) (R2 p2 x2 (i64.wrap (x3+1)) H2)
def bB.l2 (K:VK):Nat->OA->Int->Int->Hp->Prop
 |0,_,_,_,_=>False
 |k+1,p2,x2,x3,H=>
  let R2:=bB.l2 K k
  ao (decide (x3<x2)) (NN p2 fun a2=>NN p2 fun a3=>NN p2 fun a4=>bA H (a4.add 3) fun p3=>NN p3 fun a5=>fc 124 #[.pointer (some (a5.add 0))] H fun x4=>(bA H (a2.add 3) fun p4=>(aM H ((a3.add 0).add 0) fun x5=>lj prog 5 x4 x4 H fun v6 H1=>aF v6 fun A1 n1 m1=>bB.l2.q1 p4 x5 x3 A1 n1 m1 H1 K R2 p2 x2)/\(lj prog 5 x4 x4 H fun v8 H3=>aF v8 fun A2 n2 m2=>aM H3 ((a3.add 0).add 0) fun x7=>bB.l2.q1 p4 x7 x3 A2 n2 m2 H3 K R2 p2 x2))/\(aM H ((a3.add 0).add 0) fun x9=>(bA H (a2.add 3) fun p5=>lj prog 5 x4 x4 H fun v13 H5=>aF v13 fun A3 n3 m3=>bB.l2.q1 p5 x9 x3 A3 n3 m3 H5 K R2 p2 x2)/\(lj prog 5 x4 x4 H fun v15 H7=>aF v15 fun A4 n4 m4=>bA H7 (a2.add 3) fun p6=>bB.l2.q1 p6 x9 x3 A4 n4 m4 H7 K R2 p2 x2))/\(lj prog 5 x4 x4 H fun v18 H9=>aF v18 fun A5 n5 m5=>bA H9 (a2.add 3) fun p7=>aM H9 ((a3.add 0).add 0) fun x12=>bB.l2.q1 p7 x12 x3 A5 n5 m5 H9 K R2 p2 x2)) (NN p2 fun a6=>bA H (a6.add 3) fun p8=>cF 127 #[.pointer p8] H fun x14 H11=>K (I x14) H11)
def bB (p1:OA)(H:Hp)(K:VK):Prop:=
 NN p1 fun a1=>aM H ((a1.add 0).add 1) fun x1=>(∃ k,bB.l2 K k p1 x1 0 H)
def bB.l2.L (K:VK)(k:Nat):dm:=fun E D H=>
 eP E 0 fun p2=>eI E 9 .i64 fun x2=>eI E 10 .i64 fun x3=>az D (bB.l2 K k p2 x2 x3 H)
def bB.Λ2 (_:VK)(_R2:OA→Int→Int→Hp→Prop):aN:=aN.none (fun i=>match Nat.beq i 4 with|true=>some ([3,8,14,17],[0,1,3,7,0,16,48,112,240,0,1008,0,2048,6144,14336,30720,63488,129024,260096,524287,1048575],0)|false=>none)
def bB.Λ (K:VK):aN:=⟨fun i=>none,fun i=>match Nat.beq i 2 with|true=>some (fun E D H=>∃ k,bB.l2.L K k E D H)|false=>none,(fun i=>match Nat.beq i 4 with|true=>some ([3,8,14,17],[0,1,3,7,0,16,48,112,240,0,1008,0,2048,6144,14336,30720,63488,129024,260096,524287,1048575],0)|false=>none)⟩
theorem bB.ok p1 H K (h:bB p1 H K):ae prog 128 #[.pointer p1] H K:=
 dX (Λ:=(bB.Λ K)) iP Tryz.func128 rfl rfl h (oC (fun E D H h=>by
   refine Safe.c0 (bB.l2.L K) (fun E D H h=>?_) (fun k E D H h=>?_) E D H h
   .obtain⟨w0,e0,g1⟩:=DG.out h;obtain⟨p2,rfl,g2⟩:=DP.out g1;obtain⟨w9,e9,g3⟩:=DG.out g2;obtain⟨x2,rfl,g4⟩:=DI.out g3;obtain⟨w10,e10,g5⟩:=DG.out g4;obtain⟨x3,rfl,g6⟩:=DI.out g5;obtain⟨rfl,h'⟩:=az.out g6;exact h'
   .obtain⟨p2,e0,g2⟩:=GP h;obtain⟨x2,e9,g4⟩:=GI g2;obtain⟨x3,e10,g6⟩:=GI g4;obtain⟨rfl,h'⟩:=az.out g6;exact cY (Λ:=(bB.Λ2 K (bB.l2 K k))) iP [] (ag.cons e0 (ag.cons e9 (ag.cons e10 (ag.nil _)))) h' oN) oN)
def qq (p1:OA)(x1 x2 x3:Int)(H:Hp)(K:VK):Prop:=
 Nw H (Oq #[I x1,I x2,I x3] 150) fun b1 H1=>ao p1.isNone (K (.tuple #[.pointer none,I 1]) H1) (aM H1 ((O b1).add 1) fun x4=>ao (decide (x4<2)) (K (.tuple #[.pointer none,I 2]) H1) (aM H1 ((O b1).add 0) fun x5=>ao (decide (x5<0)) (K (.tuple #[.pointer none,I 2]) H1) (aM H1 ((O b1).add 0) fun x6=>NN p1 fun a1=>fc 123 #[.pointer (some (a1.add 0))] H1 fun x7=>ao (decide (x6>=x7)) (K (.tuple #[.pointer none,I 2]) H1) (aM H1 ((O b1).add 1) fun x8=>NN p1 fun a2=>fc 123 #[.pointer (some (a2.add 0))] H1 fun x9=>aM H1 ((O b1).add 0) fun x10=>ao (decide (x8>(i64.wrap (x9-x10)))) (K (.tuple #[.pointer none,I 2]) H1) (aJ H1 (O b1) 3 fun l1=>EP l1.toArray.toList fun x11 x12 x13=>(Nw H1 (Oq #[I x11,I x12,I x13,.pointer p1] 260) fun b2 H2=>K (.tuple #[V b2,I 0]) H2))))))
theorem qq.ok p1 x1 x2 x3 H K (h:qq p1 x1 x2 x3 H K):ae prog 142 #[.pointer p1,.agg #[I x1,I x2,I x3]] H K:=
 cg iP Tryz.func142 rfl rfl h
def kU (p1:OA)(x1:Int)(H:Hp)(K:VK):Prop:=
 NN p1 fun a1=>aM H ((a1.add 0).add 0) fun x2=>NN p1 fun a2=>aM H ((a2.add 0).add 1) fun x3=>((u64.wrap x3)≠0/\u64=u64/\K (I (i64.wrap (x2+(i64.wrap (Int.tmod (u64.wrap (x1-1)) (u64.wrap x3)))))) H)
theorem kU.ok p1 x1 H K (h:kU p1 x1 H K):ae prog 158 #[.pointer p1,U x1] H K:=
 cg iP Tryz.func158 rfl rfl h
def jS (y1 y2:Array Value)(H:Hp)(K:VK):Prop:=
 Nw H (Oq y1 110) fun b1 H1=>Nw H1 (Oq y2 110) fun b2 H2=>eo H2 ((O b1).add 0) fun x1=>eo H2 ((O b2).add 0) fun x2=>cF 161 #[U x1,U x2] H2 fun x3 H3=>K (I x3) H3
theorem jS.ok y1 y2 H K (h:jS y1 y2 H K):ae prog 160 #[.agg y1,.agg y2] H K:=
 cg iP Tryz.func160 rfl rfl h
def bj.j9 (K:VK)(p5:OA)(a5:Addr)(A5:OA)(n5 m5:Nat)(H:Hp):=
 NN p5 fun a6=>bA H (a6.add 3) fun p6=>eo H (a5.add 0) fun x13=>fc 158 #[.pointer p5,U x13] H fun x14=>cF 47 #[.pointer p6,I x14,.slice A5 n5 m5] H fun x15 H12=>ao (x15 !=0) (K (I x15) H12) (NN p5 fun a7=>bA H12 (a7.add 3) fun p7=>cF 127 #[.pointer p7] H12 fun x16 H13=>K (I x16) H13)
def bj.j2 (K:VK)(p4:OA)(a4:Addr)(A4:OA)(n4 m4:Nat)(x7:Int)(H:Hp):=
 ao (x7 !=0) (K (I 10) H) (Hz 82 #[.pointer p4] H fun v15 H8=>ET v15 fun y2 c1 x8=>(Nw H8 (Oq #[U 0,I 0,I 0,I 0,I 0,Ot 0,Ot 0,Ot 0] 110) fun b2 H9=>bR H9 (O b2) y2 8 fun H10=>ao (x8 !=0) (K (I x8) H10) (ao c1 (aJ H10 (O b2) 8 fun l17=>aJ H10 a4 8 fun l18=>fS 215 #[.agg l17.toArray,.agg l18.toArray] H10 fun c2 H11=>ao (!c2) (K (I 5) H11) (ao (!c1) (eo H11 (a4.add 0) fun x9=>ao (x9 !=1) (K (I 5) H11) (aM H11 (a4.add 1) fun x11=>ao (x11 !=1) (K (I 5) H11) (bj.j9 K p4 a4 A4 n4 m4 H11))) (bj.j9 K p4 a4 A4 n4 m4 H11))) (ao (!c1) (eo H10 (a4.add 0) fun x10=>ao (x10 !=1) (K (I 5) H10) (aM H10 (a4.add 1) fun x12=>ao (x12 !=1) (K (I 5) H10) (bj.j9 K p4 a4 A4 n4 m4 H10))) (bj.j9 K p4 a4 A4 n4 m4 H10)))))
def bj.q1 (l1:List Value)(x1:Int)(H2:Hp)(K:VK)(p1:OA)(b1:Nat):=
 Hz 241 #[.agg l1.toArray,I x1] H2 fun v3 H3=>kB v3 fun A1 n1 m1 x2=>(bj.j2 K p1 (O b1) A1 n1 m1 x2 H3)
def bj (p1:OA)(y1:Array Value)(H:Hp)(K:VK):Prop:=
 Nw H (Oq y1 110) fun b1 H1=>NN p1 fun a1=>(aJ H1 (O b1) 8 fun l1=>bA H1 (a1.add 3) fun p2=>NN p2 fun a2=>cF 124 #[.pointer (some (a2.add 0))] H1 fun x1 H2=>bj.q1 l1 x1 H2 K p1 b1)/\(bA H1 (a1.add 3) fun p3=>NN p3 fun a3=>(aJ H1 (O b1) 8 fun l5=>cF 124 #[.pointer (some (a3.add 0))] H1 fun x3 H4=>bj.q1 l5 x3 H4 K p1 b1)/\(cF 124 #[.pointer (some (a3.add 0))] H1 fun x5 H6=>aJ H6 (O b1) 8 fun l9=>bj.q1 l9 x5 H6 K p1 b1))
def bj.Λ (K:VK):aN:=⟨fun i=>match Nat.beq i 9 with|true=>some (fun E D H=>eP E 0 fun p5=>eN E 3 fun a5=>DG (E.get? 5) fun w5=>aF w5 fun A5 n5 m5=>az D (bj.j9 K p5 a5 A5 n5 m5 H))|false=>match Nat.beq i 2 with|true=>some (fun E D H=>eP E 0 fun p4=>eN E 3 fun a4=>DG (E.get? 5) fun w5=>aF w5 fun A4 n4 m4=>eI E 6 .i64 fun x7=>az D (bj.j2 K p4 a4 A4 n4 m4 x7 H))|false=>none,fun i=>none,(fun i=>match Nat.beq i 9 with|true=>some ([],[0,1,2,3,4,5,6,7,8],9)|false=>match Nat.beq i 1 with|true=>some ([],[0,0,2,6,14,30,62,126,255,511,1023,1023,2047,8191],0)|false=>none)⟩
theorem bj.ok p1 y1 H K (h:bj p1 y1 H K):ae prog 170 #[.pointer p1,.agg y1] H K:=
 dX (Λ:=(bj.Λ K)) iP Tryz.func170 rfl rfl h (oC (fun E D H h=>by
   obtain⟨p4,e0,g2⟩:=GP h;obtain⟨a4,e3,g5⟩:=GN g2;obtain⟨w5,e5,g6⟩:=DG.out g5;obtain⟨A4,n4,m4,rfl,g7⟩:=aF.out g6;obtain⟨x7,e6,g9⟩:=GI g7;obtain⟨rfl,h'⟩:=az.out g9;exact cY (Λ:=(bj.Λ K)) iP [] (ag.cons e0 (ag.cons e3 (ag.cons e5 (ag.cons e6 (ag.nil _))))) h' (oC (fun E D H h=>by
     obtain⟨p5,e0,g2⟩:=GP h;obtain⟨a5,e3,g5⟩:=GN g2;obtain⟨w5,e5,g6⟩:=DG.out g5;obtain⟨A5,n5,m5,rfl,g7⟩:=aF.out g6;obtain⟨rfl,h'⟩:=az.out g7;exact cY (Λ:=(bj.Λ K)) iP [] (ag.cons e0 (ag.cons e3 (ag.cons e5 (ag.nil _)))) h' oN) oN)) oN)
end W
namespace Lib2
open Go Go.Proofs Go.Shelf Go.RowKit
def I4 :Go.Shelf.Ren:=⟨fun|129=>294|n=>n,fun|53=>108|3=>3|4=>4|46=>213|5=>5|9=>9|n=>n,fun|n=>n⟩
theorem NV :Go.Proofs.Lays.n129 prog I4 where
 mixed:=by kernel_rfl
 f129:=Tryz.func294.trans (congrArg some (by kernel_rfl))
 t3:=Tryz.underlying3
 a3:=Tryz.isAgg3
 z3:=Tryz.sizeOf3
 v3:=Tryz.zeroValue3
 t4:=Tryz.underlying4
 a4:=Tryz.isAgg4
 z4:=Tryz.sizeOf4
 v4:=Tryz.zeroValue4
 t5:=Tryz.underlying5
 a5:=Tryz.isAgg5
 z5:=Tryz.sizeOf5
 v5:=Tryz.zeroValue5
 t9:=Tryz.underlying9
 a9:=Tryz.isAgg9
 z9:=Tryz.sizeOf9
 v9:=Tryz.zeroValue9
 t46:=Tryz.underlying213
 a46:=Tryz.isAgg213
 z46:=Tryz.sizeOf213
 v46:=Tryz.zeroValue213
 t53:=Tryz.underlying108
 a53:=Tryz.isAgg108
 z53:=Tryz.sizeOf108
 v53:=Tryz.zeroValue108
end Lib2
end Go.Proofs.YtlgnlghmbcpmhaaGreatDoor
namespace Go.Hw
open Go Go.Proofs Go.Proofs.YtlgnlghmbcpmhaaGreatDoor.Lib2 Go.RowKit Go.Shelf
theorem IA (x:Nat)(hx:x<18446744073709551616)(H:Hp):ae Tryz.prog 294 #[U (x:Int)] H (RetE (I (Lib.bitLen x:Int)) H):=fun w hw=>by
 refine(Any.bits_Len64 NV (x:Int) w (by omega) (by omega)).mono ?_;rintro e w' ⟨rfl,rfl⟩;exact⟨_,H,rfl,⟨by rw[Int.toNat_natCast],rfl⟩,At.refl hw⟩
end Go.Hw
namespace Go.Proofs.YtlgnlghmbcpmhaaGreatDoor
open Tryz (prog)
namespace Srt
open Go Go.Hw W Rec
theorem Sep.NQ {L:List As}{H:Hp}(h:Hw.Sep L H)(i:Nat){e:TypeId}{s:Nat}{A:OA}{n m:Nat}{xs:List Value}(hi:L[i]? =some (bH e s A n m xs)){x:Int}{j:Nat}(hx:x=j)(hj:j<n){y:Array Value}(hy:y.size=s)(hv:y.toList.all (fun v=>v.oneCell')=true){K:Hp->Prop}
  (k:∀ H',Hw.Sep (L.set i (bH e s A n m (setAt xs (j*s) y.toList))) H'->K H'):cX x n (NN A fun a=>bR H (a.add (x.toNat*s)) y s K):=by
 subst hx;refine⟨by omega,by omega,?_⟩;rcases h.Kv i hi with⟨_,h0,_⟩|⟨b,mm,rfl,hmm,hlx,hs⟩
 .omega
 rw[dQ,Addr.bm,Int.toNat_natCast,Nat.zero_add];have hlt:i<L.length:=(List.getElem?_eq_some_iff.1 hi).1;have hb:H b=some (.row xs e mm):=hs.get i (by rw[List.getElem?_set_self hlt]);have hjs:j*s+s<=n*s:=by
  have:=Nat.mul_le_mul_right s (show j+1<=n by omega)
  rwa [Nat.succ_mul]at this
 have hyl:y.toList.length=s:=by rw[Array.length_toList];exact hy
 refine⟨hy,?_⟩;rw[wO y.toList 0 H xs hb (by omega) (fun v hq=>List.all_eq_true.1 hv v hq)];refine k _ ?_;have hs2:=hs.put i (.row (setAt xs (j*s+0) y.toList) e mm) (by rw[List.getElem?_set_self hlt]);have hs3:=hs2.jE i (by rw[List.getElem?_set_self (by rw[List.length_set];exact hlt)]) (B:=bH e s (Oo b) n m (setAt xs (j*s) y.toList)) (fun H1 h1=>⟨by rw[iy];exact hlx,.inr ⟨b,mm,rfl,by rw[Nat.add_zero]at h1;exact h1,hmm⟩⟩);rw[List.set_set,List.set_set]at hs3;exact hs3
def gJ (l:List R):List Value:=l.flatMap fun r=>r.c.toList
theorem rq :∀(l:List R) (j:Nat) (h:j<l.length),((gJ l).drop (j*8)).take 8=l[j].c.toList
 |r::l,0,_=>by
  show((r.c.toList++gJ l).drop (0*8)).take 8=_
  rw[Nat.zero_mul,List.drop_zero];exact List.take_left' rfl
 |r::l,j+1,h=>by
  have ih:=rq l j (by simpa using h);show((r.c.toList++gJ l).drop ((j+1)*8)).take 8=_
  rw[show(j+1)*8=r.c.toList.length+j*8 by rw[show r.c.toList.length=8 from rfl];omega,<-List.drop_drop,List.drop_left];exact ih
theorem wS :∀(l:List R) (j:Nat) (q:R) (h:j<l.length),setAt (gJ l) (j*8) q.c.toList=gJ (l.set j q)
 |r::l,0,q,_=>by
  show setAt (r.c.toList++gJ l) (0*8) q.c.toList=q.c.toList++gJ l
  unfold setAt;rw[Nat.zero_mul,List.take_zero,List.nil_append,Nat.zero_add];congr 1
 |r::l,j+1,q,h=>by
  have ih:=wS l j q (by simpa using h);show setAt (r.c.toList++gJ l) ((j+1)*8) q.c.toList=r.c.toList++gJ (l.set j q)
  rw[<- ih];unfold setAt;have e:(j+1)*8=r.c.toList.length+j*8:=by rw[show r.c.toList.length=8 from rfl];omega
  rw[e,List.take_length_add_append,Nat.add_assoc,List.drop_length_add_append];simp
theorem mI (r:R):r.c.toList.all (fun v=>v.oneCell')=true:=rfl
def dR :R:=⟨0,0,0,0,0,0,0,0⟩
def sB (l:List R):Nat->List R
 |0=>l
 |j+1=>if(l.getD (j+1) dR).s<(l.getD j dR).s then sB ((l.set (j+1) (l.getD j dR)).set j (l.getD (j+1) dR)) j else l
theorem KJ (j:Nat):∀ l,(sB l j).length=l.length:=by
 induction j with
 |zero=>intro l;rfl
 |succ j ih=>
  intro l;unfold sB;split
  .rw[ih];simp
  .rfl
def gj (l:List R):Nat->List R
 |0=>l
 |i+1=>gj l i|>fun q=>sB q (i+1)
theorem BX (x:Int)(H:Hp):ae prog 228 #[U x] H (RetE (.bool false) H):=by
 apply jM.ok;unfold jM;simp only[bne_self_eq_false];exact RetE.mk _ _
def E3 (a b:Nat):Int:=if a<b then -1 else if b<a then 1 else 0
theorem Mw (a b:Nat)(H:Hp):ae prog 161 #[U (a:Int),U (b:Int)] H (RetE (I (E3 a b)) H):=by
 apply iX.ok;unfold iX;refine ae.use (BX _ H) ?_;simp only[HV];refine ae.use (BX _ H) ?_;simp only[HV];unfold E3;by_cases h1:a<b
 .rw[if_pos h1];exact aC (by omega) (RetE.mk _ _)
 .rw[if_neg h1];refine aw (by omega) ?_;by_cases h2:b<a
  .rw[if_pos h2];exact aC (by omega) (RetE.mk _ _)
  .rw[if_neg h2];exact aw (by omega) (RetE.mk _ _)
theorem K3 (a b:R)(H:Hp):ae prog 160 #[.agg a.c,.agg b.c] H (RetE (I (E3 a.s b.s)) H):=ae.ret (by
 apply jS.ok;unfold jS;refine(Sep.start H).nw fun b1 H1 hs=>?_
 refine hs.nw fun b2 H1 hs=>?_
 refine hs.cC 1 rfl rfl ?_;simp only[HV];refine hs.cC 2 rfl rfl ?_;simp only[HV];refine ae.use (Mw a.s b.s H1) ?_;simp only[HV];exact hs.fin 0 rfl _)
theorem getD_at (l:List R){j:Nat}(h:j<l.length):l.getD j dR=l[j]:=by
 rw[List.getD_eq_getElem?_getD,List.getElem?_eq_getElem h];rfl
theorem zT (A:OA)(n m i:Nat)(hn:n<=1000)(K:VK)(R1:OA->Nat->Nat->Int->Int->FuncId->Array Value->Array Value->Int->Hp->Prop)(fin:List R)
  (k:∀ H',Hw.Sep [bH 110 8 A n m (gJ fin)] H'->R1 A n m 0 (n:Int) 160 #[] #[] (i64.wrap ((i:Int)+1)) H'):
  ∀(j:Nat) (l:List R) (H:Hp),l.length=n->j<n->sB l j=fin->Hw.Sep [bH 110 8 A n m (gJ l)] H->
   av.l4 K R1 (j+1) A n m 0 (n:Int) 160 #[] #[] (i:Int) (j:Int) H
 |0,l,H,hl,hj,hf,hs=>by
  unfold av.l4;refine aw (by omega) ?_;have hf:l=fin:=hf;rw[hf]at hs;exact k H hs
 |j+1,l,H,hl,hj,hf,hs=>by
  unfold av.l4;refine aC (by omega) ?_;have hj1:j+1<l.length:=by omega
  have hj0:j<l.length:=by omega
  have ej:i64.wrap (((j+1:Nat):Int)-1)=(j:Int):=by rw[bu];omega
  rw[ej];have ho:=hs.own 0 rfl;refine ho.uG rfl hj (rq l (j+1) hj1) ?_;refine ho.uG (j:=j) rfl (by omega) (rq l j hj0) ?_;refine cV (by kernel_rfl) ?_;rw[Array.toArray_toList,Array.toArray_toList];refine ae.use (K3 l[j+1] l[j] H) ?_;have hr:fj prog 160=[3]:=by kernel_rfl
  rw[hr];have hdt:∀(x:Int) (K:Value->Prop),K (I x)->DR prog [3] (I x) K:=fun x K k=>by
   show DT prog 3 (I x) K
   unfold DT;rw[show prog.underlying 3=some (.int .i64) by kernel_rfl];exact k
  refine hdt _ _ ?_;simp only[HV];unfold sB at hf;rw[getD_at l hj1,getD_at l hj0]at hf;unfold E3;by_cases hlt:l[j+1].s<l[j].s
  .rw[if_pos hlt]at hf⊢;refine aC (by decide) ?_;have ix:∀{x:Int} {q:Nat} {P:Addr->Prop},x=q->q<n->(∀ b mm,A=some (O b)->P (O b))->cX x n (NN A P):=fun{x q P} hx hq hp=>by
    refine⟨by omega,by omega,?_⟩;rcases hs.Kv 0 rfl with⟨_,h0,_⟩|⟨b,mm,rfl,_,_,_⟩
    .omega
    .rw[dQ];exact hp b mm rfl
   refine ix (q:=j) rfl (by omega) fun b mm hA=>?_
   subst hA;refine⟨by omega,by omega,?_⟩;rw[dQ];have hw1:=wS l (j+1) l[j] hj1;have hw2:=wS (l.set (j+1) l[j]) j l[j+1] (by rw[List.length_set];exact hj0);have go:∀ H1,Hw.Sep [bH 110 8 (Oo b) n m (gJ l)] H1->
     cX ((j+1:Nat):Int) n (NN (some (O b)) fun a5=>bR H1 (a5.add (((j+1:Nat):Int).toNat*8)) l[j].c 8 fun H2=>cX (j:Int) n (NN (some (O b)) fun a6=>bR H2 (a6.add ((j:Int).toNat*8)) l[j+1].c 8 fun H3=>
      av.l4 K R1 (j+1) (Oo b) n m 0 (n:Int) 160 #[] #[] (i:Int) (j:Int) H3)):=fun H1 hs=>by
    refine Sep.NQ hs 0 rfl rfl hj rfl (mI _) fun H2 hs=>?_
    refine Sep.NQ hs 0 rfl rfl (show j<n by omega) rfl (mI _) fun H3 hs=>?_
    simp only[List.set_cons_zero]at hs;rw[hw1,hw2]at hs;exact zT (Oo b) n m i hn K R1 fin k j _ H3 (by simp;exact hl) (by omega) hf hs
   have rd:∀{q:Nat} (hq:q<l.length) {P:List Value->Prop},P l[q].c.toList->aJ H ((O b).add ((q:Int).toNat*8)) 8 P:=fun{q} hq {P} hp=>by
    have:=(hs.own 0 rfl).uG (x:=(q:Int)) (j:=q) rfl (by omega) (rq l q hq) (K:=P) hp;exact this.2.2
   refine⟨?_,?_⟩
   .refine rd hj0 (rd hj1 ?_);rw[Array.toArray_toList,Array.toArray_toList];exact go H hs
   .refine rd hj1 (rd hj0 ?_);rw[Array.toArray_toList,Array.toArray_toList];exact go H hs
  .rw[if_neg hlt]at hf⊢;refine aw (by split<;>decide) ?_;rw[hf]at hs;exact k H hs
end Srt
namespace W
open Go Go.Hw
theorem jW :prog.follows .mixedOrders=true:=by kernel_rfl
def gh (x1:Int)(H:Hp)(K:VK):Prop:=
 ao (x1==0) (K (I 64) H) ((0<=(58:Int)/\cX (cT .u64 (u64.wrap ((cU .u64 x1 (u64.wrap (0-x1)))*285870213051353865)) 58) 64 (JX H ((O 2).add ((cT .u64 (u64.wrap ((cU .u64 x1 (u64.wrap (0-x1)))*285870213051353865)) 58).toNat*1)) fun x2=>K (I (i64.wrap x2)) H)))
theorem gh.ok x1 H K (h:gh x1 H K):ae prog 212 #[U x1] H K:=
 cg jW Tryz.func212 rfl rfl h
def iG (x1:Int)(H:Hp)(K:VK):Prop:=
 cF 294 #[U x1] H fun x2 H1=>K (I x2) H1
theorem iG.ok x1 H K (h:iG x1 H K):ae prog 227 #[U x1] H K:=
 cg jW Tryz.func227 rfl rfl h
def kv (x1 x2:Int)(H:Hp)(K:VK):Prop:=
 (0<=(32:Int)/\(0<=(32:Int)/\(0<=(32:Int)/\(0<=(32:Int)/\(0<=(32:Int)/\K (.tuple #[U (u64.wrap ((u64.wrap ((u64.wrap ((cT .u64 x1 32)*(cT .u64 x2 32)))+(cT .u64 (u64.wrap ((u64.wrap ((cT .u64 x1 32)*(cU .u64 x2 4294967295)))+(cT .u64 (u64.wrap ((cU .u64 x1 4294967295)*(cU .u64 x2 4294967295))) 32))) 32)))+(cT .u64 (u64.wrap ((cU .u64 (u64.wrap ((u64.wrap ((cT .u64 x1 32)*(cU .u64 x2 4294967295)))+(cT .u64 (u64.wrap ((cU .u64 x1 4294967295)*(cU .u64 x2 4294967295))) 32))) 4294967295)+(u64.wrap ((cU .u64 x1 4294967295)*(cT .u64 x2 32))))) 32))),U (u64.wrap (x1*x2))]) H)))))
theorem kv.ok x1 x2 H K (h:kv x1 x2 H K):ae prog 250 #[U x1,U x2] H K:=
 cg jW Tryz.func250 rfl rfl h
def cL.j7 (K:VK)(x4 x5:Int)(H:Hp):=
 ao (decide (x4>=256)) ((0<=(8:Int)/\(0<=(u8.wrap (cT .u64 x4 8))/\DU ((⟨#[0,1,2,2,3,3,3,3,4,4,4,4,4,4,4,4,5,5,5,5,5,5,5,5,5,5,5,5,5,5,5,5,6,6,6,6,6,6,6,6,6,6,6,6,6,6,6,6,6,6,6,6,6,6,6,6,6,6,6,6,6,6,6,6,7,7,7,7,7,7,7,7,7,7,7,7,7,7,7,7,7,7,7,7,7,7,7,7,7,7,7,7,7,7,7,7,7,7,7,7,7,7,7,7,7,7,7,7,7,7,7,7,7,7,7,7,7,7,7,7,7,7,7,7,7,7,7,7,8,8,8,8,8,8,8,8,8,8,8,8,8,8,8,8,8,8,8,8,8,8,8,8,8,8,8,8,8,8,8,8,8,8,8,8,8,8,8,8,8,8,8,8,8,8,8,8,8,8,8,8,8,8,8,8,8,8,8,8,8,8,8,8,8,8,8,8,8,8,8,8,8,8,8,8,8,8,8,8,8,8,8,8,8,8,8,8,8,8,8,8,8,8,8,8,8,8,8,8,8,8,8,8,8,8,8,8,8,8,8,8,8,8,8,8,8,8,8,8,8,8,8,8,8,8,8,8]⟩):ByteArray) (u8.wrap (cT .u64 x4 8)).toNat fun x6=>K (I (i64.wrap ((i64.wrap (x5+8))+(i64.wrap x6)))) H))) ((0<=(u8.wrap x4)/\DU ((⟨#[0,1,2,2,3,3,3,3,4,4,4,4,4,4,4,4,5,5,5,5,5,5,5,5,5,5,5,5,5,5,5,5,6,6,6,6,6,6,6,6,6,6,6,6,6,6,6,6,6,6,6,6,6,6,6,6,6,6,6,6,6,6,6,6,7,7,7,7,7,7,7,7,7,7,7,7,7,7,7,7,7,7,7,7,7,7,7,7,7,7,7,7,7,7,7,7,7,7,7,7,7,7,7,7,7,7,7,7,7,7,7,7,7,7,7,7,7,7,7,7,7,7,7,7,7,7,7,7,8,8,8,8,8,8,8,8,8,8,8,8,8,8,8,8,8,8,8,8,8,8,8,8,8,8,8,8,8,8,8,8,8,8,8,8,8,8,8,8,8,8,8,8,8,8,8,8,8,8,8,8,8,8,8,8,8,8,8,8,8,8,8,8,8,8,8,8,8,8,8,8,8,8,8,8,8,8,8,8,8,8,8,8,8,8,8,8,8,8,8,8,8,8,8,8,8,8,8,8,8,8,8,8,8,8,8,8,8,8,8,8,8,8,8,8,8,8,8,8,8,8,8,8,8,8,8,8]⟩):ByteArray) (u8.wrap x4).toNat fun x7=>K (I (i64.wrap (x5+(i64.wrap x7)))) H))
def cL.j4 (K:VK)(x2 x3:Int)(H:Hp):=
 ao (decide (x2>=65536)) ((0<=(16:Int)/\cL.j7 K (cT .u64 x2 16) (i64.wrap (x3+16)) H)) (cL.j7 K x2 x3 H)
def cL (x1:Int)(H:Hp)(K:VK):Prop:=
 ao (decide (x1>=4294967296)) ((0<=(32:Int)/\cL.j4 K (cT .u64 x1 32) 32 H)) (cL.j4 K x1 0 H)
def cL.Λ (K:VK):aN:=⟨fun i=>match Nat.beq i 7 with|true=>some (fun E D H=>eI E 0 .u64 fun x4=>eI E 2 .i64 fun x5=>az D (cL.j7 K x4 x5 H))|false=>match Nat.beq i 4 with|true=>some (fun E D H=>eI E 0 .u64 fun x2=>eI E 2 .i64 fun x3=>az D (cL.j4 K x2 x3 H))|false=>none,fun i=>none,(fun _=>none)⟩
theorem cL.ok x1 H K (h:cL x1 H K):ae prog 294 #[U x1] H K:=
 dX (Λ:=(cL.Λ K)) jW Tryz.func294 rfl rfl h (oC (fun E D H h=>by
   obtain⟨x2,e0,g2⟩:=GI h;obtain⟨x3,e2,g4⟩:=GI g2;obtain⟨rfl,h'⟩:=az.out g4;exact cY (Λ:=(cL.Λ K)) jW [] (ag.cons e0 (ag.cons e2 (ag.nil _))) h' (oC (fun E D H h=>by
     obtain⟨x4,e0,g2⟩:=GI h;obtain⟨x5,e2,g4⟩:=GI g2;obtain⟨rfl,h'⟩:=az.out g4;exact cY (Λ:=(cL.Λ K)) jW [] (ag.cons e0 (ag.cons e2 (ag.nil _))) h' oN) oN)) oN)
def gy (x1:Int)(H:Hp)(K:VK):Prop:=
 cF 212 #[U x1] H fun x2 H1=>K (I x2) H1
theorem gy.ok x1 H K (h:gy x1 H K):ae prog 306 #[U x1] H K:=
 cg jW Tryz.func306 rfl rfl h
def iH (x1:Int)(H:Hp)(K:VK):Prop:=
 (0<=(1:Int)/\(0<=(1:Int)/\(0<=(2:Int)/\(0<=(2:Int)/\(0<=(4:Int)/\(0<=(4:Int)/\fe 376 #[U (lP .u64 (cU .u64 (cT .u64 (lP .u64 (cU .u64 (cT .u64 (lP .u64 (cU .u64 (cT .u64 x1 1) 6148914691236517205) (dA .u64 (cU .u64 x1 6148914691236517205) 1)) 2) 3689348814741910323) (dA .u64 (cU .u64 (lP .u64 (cU .u64 (cT .u64 x1 1) 6148914691236517205) (dA .u64 (cU .u64 x1 6148914691236517205) 1)) 3689348814741910323) 2)) 4) 1085102592571150095) (dA .u64 (cU .u64 (lP .u64 (cU .u64 (cT .u64 (lP .u64 (cU .u64 (cT .u64 x1 1) 6148914691236517205) (dA .u64 (cU .u64 x1 6148914691236517205) 1)) 2) 3689348814741910323) (dA .u64 (cU .u64 (lP .u64 (cU .u64 (cT .u64 x1 1) 6148914691236517205) (dA .u64 (cU .u64 x1 6148914691236517205) 1)) 3689348814741910323) 2)) 1085102592571150095) 4))] H fun x2 H1=>K (U x2) H1))))))
theorem iH.ok x1 H K (h:iH x1 H K):ae prog 375 #[U x1] H K:=
 cg jW Tryz.func375 rfl rfl h
def gn (x1:Int)(H:Hp)(K:VK):Prop:=
 (0<=(8:Int)/\(0<=(8:Int)/\(0<=(16:Int)/\(0<=(16:Int)/\(0<=(32:Int)/\(0<=(32:Int)/\K (U (lP .u64 (cT .u64 (lP .u64 (cU .u64 (cT .u64 (lP .u64 (cU .u64 (cT .u64 x1 8) 71777214294589695) (dA .u64 (cU .u64 x1 71777214294589695) 8)) 16) 281470681808895) (dA .u64 (cU .u64 (lP .u64 (cU .u64 (cT .u64 x1 8) 71777214294589695) (dA .u64 (cU .u64 x1 71777214294589695) 8)) 281470681808895) 16)) 32) (dA .u64 (lP .u64 (cU .u64 (cT .u64 (lP .u64 (cU .u64 (cT .u64 x1 8) 71777214294589695) (dA .u64 (cU .u64 x1 71777214294589695) 8)) 16) 281470681808895) (dA .u64 (cU .u64 (lP .u64 (cU .u64 (cT .u64 x1 8) 71777214294589695) (dA .u64 (cU .u64 x1 71777214294589695) 8)) 281470681808895) 16)) 32))) H))))))
theorem gn.ok x1 H K (h:gn x1 H K):ae prog 376 #[U x1] H K:=
 cg jW Tryz.func376 rfl rfl h
end W
namespace Srt
open Go Go.Hw W Rec
theorem lV :∀(i:Nat) (l:List R),(gj l i).length=l.length
 |0,_=>rfl
 |i+1,l=>by
  show(sB (gj l i) (i+1)).length=_
  rw[KJ,lV i l]
theorem zU (A:OA)(n m:Nat)(hn:n<=1000)(l:List R)(hl:l.length=n)(K:VK)(k:∀ H',Hw.Sep [bH 110 8 A n m (gJ (gj l (n-1)))] H'->K (.tuple #[]) H'):
  ∀(t i:Nat) (H:Hp),i+t=n-1->Hw.Sep [bH 110 8 A n m (gJ (gj l i))] H->
   av.l1 K (t+1) A n m 0 (n:Int) 160 #[] #[] ((i+1:Nat):Int) H
 |0,i,H,hi,hs=>by
  unfold av.l1;refine aw (by omega) ?_;obtain rfl:i=n-1:=by omega
  exact k H hs
 |t+1,i,H,hi,hs=>by
  unfold av.l1;refine aC (by omega) ⟨i+1+1,?_⟩;refine zT A n m (i+1) hn K _ (gj l (i+1)) (fun H' hs'=>?_) (i+1) (gj l i) H (by rw[lV];exact hl) (by omega) rfl hs;rw[bu,show((i+1:Nat):Int)+1=((i+1+1:Nat):Int) by omega];exact zU A n m hn l hl K k t (i+1) H' (by omega) hs'
theorem Bv (x:Nat)(hx:x<18446744073709551616)(H:Hp):ae prog 227 #[U (x:Int)] H (RetE (I (Go.Lib.bitLen x:Int)) H):=by
 apply iG.ok;unfold iG;refine ae.use (IA x hx H) ?_;simp only[HV];exact RetE.mk _ _
theorem CY (A:OA)(n m:Nat)(hn:n<=12)(l:List R)(hl:l.length=n):Tr prog 159 #[.slice A n m,.func (.func 160) #[] #[]]
  [bH 110 8 A n m (gJ l)] fun v M=>v= .tuple #[]/\M=[bH 110 8 A n m (gJ (gj l (n-1)))]:=fun H hs=>by
 apply eC.ok;unfold eC;rw[fW];refine ae.use (Bv n (by omega) H) ?_;simp only[HV];have hI:ae prog 285 #[.slice A n m,I 0,I (n:Int),.func (.func 160) #[] #[]] H (fun v H'=>v= .tuple #[]/\Hw.Sep [bH 110 8 A n m (gJ (gj l (n-1)))] H'):=by
  apply av.ok;unfold av;rw[show i64.wrap ((0:Int)+1)=((0+1:Nat):Int) by decide];exact⟨n-1+1,zU A n m (by omega) l hl _ (fun H' hs'=>⟨rfl,hs'⟩) (n-1) 0 H (by omega) hs⟩
 have hP:ae prog 226 #[.slice A n m,I 0,I (n:Int),I (Go.Lib.bitLen n:Int),.func (.func 160) #[] #[]] H (fun v H'=>v= .tuple #[]/\Hw.Sep [bH 110 8 A n m (gJ (gj l (n-1)))] H'):=by
  apply au.ok;unfold au;refine⟨1,?_⟩;unfold au.l2;refine aC (by rw[bu];omega) ?_;refine ae.mono hI ?_;rintro v H' ⟨rfl,h⟩;exact⟨rfl,h⟩
 refine ae.mono hP ?_;rintro v H' ⟨rfl,h⟩;exact⟨_,⟨by first|trivial|rfl,rfl⟩,h⟩
theorem swap_perm (l:List R){j:Nat}(h:j+1<l.length):((l.set (j+1) (l.getD j dR)).set j (l.getD (j+1) dR)).Perm l:=by
 induction l generalizing j with
 |nil=>simp at h
 |cons x l ih=>
  cases j with
  |zero=>
   cases l with
   |nil=>simp at h
   |cons y t=>exact List.Perm.swap x y t
  |succ j=>
   exact(ih (j:=j) (by simpa using h)).cons x
theorem IS (j:Nat):∀(l:List R),j<l.length->(sB l j).Perm l:=by
 induction j with
 |zero=>intro l _;exact List.Perm.refl _
 |succ j ih=>
  intro l h;unfold sB;split
  .refine(ih _ (by simp;omega)).trans (swap_perm l h)
  .exact List.Perm.refl _
theorem xU (l:List R):∀ i,i<l.length\/i=0->(gj l i).Perm l
 |0,_=>List.Perm.refl _
 |i+1,h=>by
  have ih:=xU l i (by omega);show(sB (gj l i) (i+1)).Perm l
  refine(IS (i+1) _ (by rw[lV];omega)).trans ih
end Srt
namespace Srt
open Go Go.Hw Rec
def G7 (a b:R):Prop:=a.s<=b.s
theorem DD :∀(j:Nat) (p r:List R) (x:R),p.length=j->∃ p',sB (p++x::r) j=p'++r/\p'.length=j+1/\(p.Pairwise G7->p'.Pairwise G7)/\p'.Perm (x::p)
 |0,p,r,x,h=>by
  rw[List.length_eq_zero_iff.1 h];exact⟨[x],rfl,rfl,fun _=>by simp,List.Perm.refl _⟩
 |j+1,p,r,x,h=>by
  obtain⟨q,y,rfl⟩:∃ q y,p=q++[y]:=⟨_,_,(List.dropLast_concat_getLast (by intro e;rw[e]at h;cases h)).symm⟩;have hq:q.length=j:=by simpa using h
  have e0:q++[y]++x::r=q++y::x::r:=by simp
  rw[e0];unfold sB;have g1:(q++y::x::r).getD (j+1) dR=x:=by rw[List.getD_eq_getElem?_getD,List.getElem?_append_right (by omega),hq,show j+1-j=1 by omega];rfl
  have g0:(q++y::x::r).getD j dR=y:=by rw[List.getD_eq_getElem?_getD,List.getElem?_append_right (by omega),hq,Nat.sub_self];rfl
  rw[g1,g0];by_cases hxy:x.s<y.s
  .rw[if_pos hxy];have es:((q++y::x::r).set (j+1) y).set j x=q++x::y::r:=by
    rw[List.set_append_right _ _ (by omega),hq,show j+1-j=1 by omega,List.set_append_right _ _ (by omega),hq,Nat.sub_self];rfl
   rw[es];obtain⟨p'',h1,h2,h3,h4⟩:=DD j q (y::r) x hq;refine⟨p''++[y],by rw[h1];simp,by simp[h2],fun hs=>?_,?_⟩
   .rw[List.pairwise_append]at hs⊢;obtain⟨s1,_,s3⟩:=hs;refine⟨h3 s1,by simp,fun a ha b hb=>?_⟩;have hb':b=y:=by simpa using hb
    subst hb';rcases List.mem_cons.1 (h4.mem_iff.1 ha)with rfl|ha
    .exact Nat.le_of_lt hxy
    .exact s3 a ha b (by simp)
   .have:(p''++[y]).Perm ((x::q)++[y]):=h4.append_right [y];simpa using this
  .rw[if_neg hxy];refine⟨q++[y,x],by simp,by simp[hq],fun hs=>?_,?_⟩
   .rw[List.pairwise_append]at hs⊢;obtain⟨s1,_,s3⟩:=hs;have hyx:G7 y x:=Nat.not_lt.1 hxy;refine⟨s1,by simp[hyx],fun a ha b hb=>?_⟩;have hay:=s3 a ha y (by simp);have:b=y\/b=x:=by simpa using hb
    rcases this with rfl|rfl
    .exact hay
    .exact Nat.le_trans hay hyx
   .have:(q++[y]++[x]).Perm (x::(q++[y])):=List.perm_append_comm;simpa using this
theorem zW :∀(i:Nat) (l:List R),i<l.length->∃ p r,gj l i=p++r/\p.length=i+1/\p.Pairwise G7
 |0,l,h=>by
  cases l with
  |nil=>simp at h
  |cons x t=>exact⟨[x],t,rfl,rfl,by simp⟩
 |i+1,l,h=>by
  obtain⟨p,r,h1,h2,h3⟩:=zW i l (by omega);have hlen:=lV i l;cases r with
  |nil=>
   rw[h1,List.append_nil,h2]at hlen;omega
  |cons x r=>
   obtain⟨p',g1,g2,g3,_⟩:=DD (i+1) p r x h2;refine⟨p',r,?_,g2,g3 h3⟩;show sB (gj l i) (i+1)=_
   rw[h1,g1]
theorem BZ (l:List R):(gj l (l.length-1)).Pairwise G7:=by
 by_cases h0:l=[]
 .subst h0;exact List.Pairwise.nil
 .have hp:0<l.length:=List.length_pos_iff.2 h0;obtain⟨p,r,h1,h2,h3⟩:=zW (l.length-1) l (by omega);have hlen:=lV (l.length-1) l;rw[h1]at hlen⊢;have:r=[]:=by
   rw[List.length_append,h2]at hlen;exact List.length_eq_zero_iff.1 (by omega)
  rw[this,List.append_nil];exact h3
theorem GX (l:List R):(gj l (l.length-1)).Perm l:=by
 by_cases h0:l=[]
 .subst h0;exact List.Perm.refl _
 .have hp:0<l.length:=List.length_pos_iff.2 h0;exact xU l _ (.inl (by omega))
end Srt
namespace Rec
open Go Go.Hw W
abbrev after (a b:R):Prop:=a.dc/\b.dc/\b.s=a.s+1/\(b.kd=1\/(b.kd=2/\a.kd=1/\a.ld=b.ld/\a.kk=b.kk)\/(b.kd=3/\a.kd≠1/\a.ld=b.ld/\a.kk=b.kk/\a.da=b.da/\b.out=0)\/
 (b.kd=4/\3<=a.kd/\a.ld=b.ld/\a.kk=b.kk/\a.da=b.da/\a.dir=b.dir/\b.ps=a.ps+1))
abbrev same (a b:R):Prop:=a.ld=b.ld/\a.kk=b.kk/\a.da=b.da
theorem Eo (a b:R)(H:Hp):ae prog 272 #[.agg a.c,.agg b.c] H (RetE (.bool (decide (same a b))) H):=ae.ret (by
 apply nu.ok;unfold nu;refine(Sep.start H).nw fun b1 H1 hs=>?_
 refine hs.nw fun b2 H1 hs=>?_
 have hs:Sep [own H,af b1 (fw a),af b2 (fw b)] H1:=hs;refine hs.cC 1 rfl rfl ?_;simp only[HV];refine hs.cC 2 rfl rfl ?_;simp only[HV];by_cases h1:(a.ld:Int)=(b.ld:Int)
 .refine aL h1 ?_;refine hs.cC 1 rfl rfl ?_;simp only[HV];refine hs.cC 2 rfl rfl ?_;simp only[HV];by_cases h2:a.kk=b.kk
  .refine aL h2 ?_;refine hs.cC 1 rfl rfl ?_;simp only[HV];refine hs.cC 2 rfl rfl ?_;simp only[HV];have:decide (same a b)=((a.da:Int)==(b.da:Int)):=by
    by_cases h3:(a.da:Int)=(b.da:Int)
    .rw[decide_eq_true ⟨by omega,h2,by omega⟩,h3];simp
    .rw[decide_eq_false (fun h=>by have:=h.2.2;omega),beq_eq_false_iff_ne.2 h3]
   rw[this];exact hs.fin 0 rfl _
  .rw[decide_eq_false (fun h=>h2 h.2.1)];exact aK h2 (hs.fin 0 rfl _)
 .rw[decide_eq_false (fun h=>h1 (by have:=h.1;omega))];exact aK h1 (hs.fin 0 rfl _))
section
variable {a b : R} {H0 H : Hp} {b1 b2 : Nat}
theorem xx (hs:Sep [own H0,af b1 (fw a),af b2 (fw b)] H)(h:¬after a b):lG (.bool (decide (after a b))) H0 (.bool false) H:=by
 rw[decide_eq_false h];exact hs.fin 0 rfl _
theorem AT (hs:Sep [own H0,af b1 (fw a),af b2 (fw b)] H){x:Bool}(h:x=true↔after a b):lG (.bool (decide (after a b))) H0 (.bool x) H:=by
 have:decide (after a b)=x:=by
  cases x with
  |true=>exact decide_eq_true (h.1 rfl)
  |false=>exact decide_eq_false fun g=>by have:=h.2 g;cases this
 rw[this];exact hs.fin 0 rfl _
end
theorem Im (a b:R)(H:Hp):ae prog 215 #[.agg a.c,.agg b.c] H (RetE (.bool (decide (after a b))) H):=ae.ret (by
 apply mq.ok;unfold mq;refine(Sep.start H).nw fun b1 H1 hs=>?_
 refine hs.nw fun b2 H1 hs=>?_
 have hs:Sep [own H,af b1 (fw a),af b2 (fw b)] H1:=hs;refine hs.bd 1 rfl rfl ?_;refine ae.use (fT a H1) ?_;simp only[HV];by_cases ga:a.dc
 case neg=>
  rw[decide_eq_false ga];exact cV rfl (xx hs fun h=>ga h.1)
 rw[decide_eq_true ga];refine bQ rfl ?_;refine hs.bd 2 rfl rfl ?_;refine ae.use (fT b H1) ?_;simp only[HV];by_cases gb:b.dc
 case neg=>
  rw[decide_eq_false gb];exact cV rfl (xx hs fun h=>gb h.2.1)
 rw[decide_eq_true gb];refine bQ rfl ?_;have ga':=ga;have gb':=gb;obtain⟨a1,a2,a3,a4,a5,a6⟩:=ga';obtain⟨c1,c2,c3,c4,c5,c6⟩:=gb';refine hs.cC 2 rfl rfl ?_;simp only[HV];refine hs.cC 1 rfl rfl ?_;simp only[HV];rw[i7 (x:=(a.s:Int)+1)];by_cases hsq:(b.s:Int)=(a.s:Int)+1
 case neg=>exact aT hsq (xx hs fun h=>hsq (by have:=h.2.2.1;omega))
 refine aH hsq ?_;have hd:∀{P:Prop},(P↔(b.kd=1\/(b.kd=2/\a.kd=1/\a.ld=b.ld/\a.kk=b.kk)\/(b.kd=3/\a.kd≠1/\a.ld=b.ld/\a.kk=b.kk/\a.da=b.da/\b.out=0)\/(b.kd=4/\3<=a.kd/\a.ld=b.ld/\a.kk=b.kk/\a.da=b.da/\a.dir=b.dir/\b.ps=a.ps+1)))->(P↔after a b):=fun h=>by
  rw[h];exact⟨fun g=>⟨ga,gb,by omega,g⟩,fun g=>g.2.2.2⟩
 have hn:¬(b.kd=1\/(b.kd=2/\a.kd=1/\a.ld=b.ld/\a.kk=b.kk)\/(b.kd=3/\a.kd≠1/\a.ld=b.ld/\a.kk=b.kk/\a.da=b.da/\b.out=0)\/(b.kd=4/\3<=a.kd/\a.ld=b.ld/\a.kk=b.kk/\a.da=b.da/\a.dir=b.dir/\b.ps=a.ps+1))->lG (.bool (decide (after a b))) H (.bool false) H1:=fun h=>xx hs fun g=>h g.2.2.2
 refine hs.cC 2 rfl rfl ?_;simp only[HV];by_cases k1:b.kd=1
 .exact aL k1 (AT hs (hd ⟨fun _=>.inl k1,fun _=>rfl⟩))
 refine aK k1 ?_;by_cases k2:b.kd=2
 .refine aL k2 ?_;refine hs.cC 1 rfl rfl ?_;simp only[HV];by_cases h1:a.kd=1
  .refine aL h1 ?_;refine hs.cC 1 rfl rfl ?_;simp only[HV];refine hs.cC 2 rfl rfl ?_;simp only[HV];by_cases h2:(a.ld:Int)=(b.ld:Int)
   .refine aL h2 ?_;refine hs.cC 1 rfl rfl ?_;simp only[HV];refine hs.cC 2 rfl rfl ?_;simp only[HV];refine AT hs (hd ?_);rw[beq_iff_eq];omega
   .exact aK h2 (hn (by omega))
  .exact aK h1 (hn (by omega))
 refine aK k2 ?_;by_cases k3:b.kd=3
 .refine aL k3 ?_;refine hs.cC 1 rfl rfl ?_;simp only[HV];by_cases h1:a.kd=1
  .exact aH h1 (hn (by omega))
  .refine aT h1 ?_;refine hs.bd 1 rfl rfl ?_;refine hs.bd 2 rfl rfl ?_;refine ae.use (Eo a b H1) ?_;simp only[HV];by_cases h2:same a b
   .rw[decide_eq_true h2];refine cV rfl ?_;obtain⟨e1,e2,e3⟩:=h2;refine hs.cC 2 rfl rfl ?_;simp only[HV];refine AT hs (hd ?_);rw[beq_iff_eq];omega
   .rw[decide_eq_false h2];refine bQ rfl (hn fun g=>h2 ?_);rcases g with g|g|g|g
    .omega
    .omega
    .exact⟨g.2.2.1,g.2.2.2.1,g.2.2.2.2.1⟩
    .omega
 refine aK k3 ?_;refine hs.cC 1 rfl rfl ?_;simp only[HV];by_cases h1:a.kd>=3
 .refine aC h1 ?_;refine hs.bd 1 rfl rfl ?_;refine hs.bd 2 rfl rfl ?_;refine ae.use (Eo a b H1) ?_;simp only[HV];by_cases h2:same a b
  .rw[decide_eq_true h2];refine cV rfl ?_;obtain⟨e1,e2,e3⟩:=h2;refine hs.cC 1 rfl rfl ?_;simp only[HV];refine hs.cC 2 rfl rfl ?_;simp only[HV];by_cases h3:a.dir=b.dir
   .refine aL h3 ?_;refine hs.cC 2 rfl rfl ?_;simp only[HV];refine hs.cC 1 rfl rfl ?_;simp only[HV];rw[bu (x:=a.ps+1)];refine AT hs (hd ?_);rw[beq_iff_eq];omega
   .exact aK h3 (hn (by omega))
  .rw[decide_eq_false h2];refine bQ rfl (hn fun g=>h2 ?_);rcases g with g|g|g|g
   .omega
   .omega
   .omega
   .exact⟨g.2.2.1,g.2.2.2.1,g.2.2.2.2.1⟩
 .exact aw h1 (hn (by omega)))
end Rec
end Go.Proofs.YtlgnlghmbcpmhaaGreatDoor
namespace Go.Crc
open Go
abbrev eX :=BitVec 32
def Jc :eX:=0x82f63b78#32
def kW (v:eX):eX:=(v>>>1)^^^(if v.getLsbD 0 then Jc else 0#32)
def it (f:eX->eX):Nat->eX->eX
 |0,v=>v
 |n+1,v=>it f n (f v)
def Bw (f:eX->eX):Prop:=∀ x y,f (x^^^y)=f x^^^f y
theorem Bw.it {f:eX->eX}(h:Bw f):∀ n,Bw (it f n)
 |0=>fun _ _=>rfl
 |n+1=>fun x y=>by simp only[Crc.it];rw[h,Bw.it h n]
theorem N7 (a b c d:eX):(a^^^b)^^^(c^^^d)=(a^^^c)^^^(b^^^d):=by
 rw[BitVec.xor_assoc,<-BitVec.xor_assoc b,BitVec.xor_comm b c,BitVec.xor_assoc c,<-BitVec.xor_assoc]
theorem B8 :Bw kW:=fun x y=>by
 unfold kW;rw[BitVec.ushiftRight_xor_distrib,BitVec.getLsbD_xor,N7];congr 1;cases x.getLsbD 0<;>cases y.getLsbD 0<;>simp
theorem EY {v:eX}(h:v.getLsbD 0=false):kW v=v>>>1:=by unfold kW;rw[h];simp
theorem B0 :∀(n:Nat) {v:eX},(∀ i,i<n->v.getLsbD i=false)->it kW n v=v>>>n
 |0,v,_=>by simp[it]
 |n+1,v,h=>by
  simp only[it];rw[EY (h 0 (by omega)),B0 n (fun i hi=>by rw[BitVec.getLsbD_ushiftRight];exact h _ (by omega))];rw[<- BitVec.shiftRight_add,Nat.add_comm]
theorem MR (v:eX):it kW 4 v=(v>>>4)^^^it kW 4 (v&&&15#32):=by
 have h1:v=(v&&& ~~~15#32)^^^(v&&&15#32):=by
  apply BitVec.eq_of_getLsbD_eq;intro i hi;simp only[BitVec.getLsbD_xor,BitVec.getLsbD_and,BitVec.getLsbD_not,hi,decide_true,Bool.true_and];cases v.getLsbD i<;>cases(15#32).getLsbD i<;>rfl
 have h2:it kW 4 (v&&& ~~~15#32)=(v&&& ~~~15#32)>>>4:=B0 4 (fun i hi=>by
  rw[BitVec.getLsbD_and];have:(~~~15#32).getLsbD i=false:=by
   rcases(by omega:i=0\/i=1\/i=2\/i=3)with rfl|rfl|rfl|rfl<;>decide
  rw[this,Bool.and_false])
 have h3:(v&&& ~~~15#32)>>>4=v>>>4:=by
  apply BitVec.eq_of_getLsbD_eq;intro i hi;simp only[BitVec.getLsbD_ushiftRight,BitVec.getLsbD_and,BitVec.getLsbD_not];by_cases h:4+i<32
  .have:(15#32).getLsbD (4+i)=false:=by
    rw[show(15#32:eX)=BitVec.ofNat 32 15 from rfl,BitVec.getLsbD_ofNat];have:Nat.testBit 15 (4+i)=false:=Nat.testBit_lt_two_pow (Nat.lt_of_lt_of_le (by decide:15<2^4) (Nat.pow_le_pow_right (by decide) (by omega)));rw[this,Bool.and_false]
   simp only[this,h,decide_true,Bool.true_and,Bool.not_false,Bool.and_true]
  .have:=BitVec.getLsbD_of_ge v (4+i) (by omega);rw[this];simp
 conv=>lhs;rw[h1]
 rw[Bw.it B8 4,h2,h3]
def low (c:UInt8):eX:=c.toBitVec.setWidth 32
def byte (v:eX)(c:UInt8):eX:=it kW 8 (v^^^low c)
def run (v:eX)(bs:List UInt8):eX:=bs.foldl byte v
def more (s:eX)(bs:List UInt8):eX:= ~~~ run (~~~ s) bs
def sum (bs:List UInt8):eX:=more 0#32 bs
theorem Fy (v:eX)(a b:List UInt8):run v (a++b)=run (run v a) b:=List.foldl_append
theorem sq (s:eX)(a b:List UInt8):more s (a++b)=more (more s a) b:=by
 unfold more;rw[Fy,BitVec.not_not]
end Go.Crc
namespace Go.Proofs.YtlgnlghmbcpmhaaGreatDoor
open Tryz (prog)
namespace W
open Go Go.Hw
theorem lC :prog.follows .mixedOrders=true:=by kernel_rfl
def ni (A1:OA)(n1 m1:Nat)(H:Hp)(K:VK):Prop:=
 jF 214 #[.slice A1 n1 m1] H fun A2 n2 m2 H1=>zx 213 #[.slice A2 n2 m2] H1 fun x1 H2=>K (Ot x1) H2
theorem ni.ok A1 n1 m1 H K (h:ni A1 n1 m1 H K):ae prog 149 #[.slice A1 n1 m1] H K:=
 cg lC Tryz.func149 rfl rfl h
def tg (A1:OA)(n1 m1:Nat)(H:Hp)(K:VK):Prop:=
 zx 270 #[Ot 0,.slice A1 n1 m1] H fun x1 H1=>K (Ot x1) H1
theorem tg.ok A1 n1 m1 H K (h:tg A1 n1 m1 H K):ae prog 213 #[.slice A1 n1 m1] H K:=
 cg lC Tryz.func213 rfl rfl h
def fF (p1 A1:OA)(n1 m1:Nat)(H:Hp)(K:VK):Prop:=
 jF 214 #[.slice A1 n1 m1] H fun A2 n2 m2 H1=>Hz 296 #[.pointer p1,.slice A2 n2 m2] H1 fun v2 H2=>K (.tuple #[]) H2
theorem fF.ok p1 A1 n1 m1 H K (h:fF p1 A1 n1 m1 H K):ae prog 236 #[.pointer p1,.slice A1 n1 m1] H K:=
 cg lC Tryz.func236 rfl rfl h
def gN (p1:OA)(H:Hp)(K:VK):Prop:=
 NN p1 fun a1=>jA H (a1.add 0) fun x1=>K (Ot x1) H
theorem gN.ok p1 H K (h:gN p1 H K):ae prog 238 #[.pointer p1] H K:=
 cg lC Tryz.func238 rfl rfl h
def ep.l4 (K:VK):Nat->Addr->Int->OA->Nat->Nat->Int->Int->Hp->Prop
 |0,_,_,_,_,_,_,_,_=>False
 |k+1,a1,x2,A2,n2,m2,x3,x4,H=>
  let R4:=ep.l4 K k
  ao (decide (x4<x3)) (cX x4 n2 (NN A2 fun a2=>JX H (a2.add (x4.toNat*1)) fun x5=>(0<=(4:Int)/\cX (cU .u32 (lQ .u32 x2 (u32.wrap x5)) 15) 16 (jA H (a1.add ((cU .u32 (lQ .u32 x2 (u32.wrap x5)) 15).toNat*1)) fun x6=>(0<=(4:Int)/\cX (cU .u32 (lQ .u32 (cT .u32 (lQ .u32 x2 (u32.wrap x5)) 4) x6) 15) 16 (jA H (a1.add ((cU .u32 (lQ .u32 (cT .u32 (lQ .u32 x2 (u32.wrap x5)) 4) x6) 15).toNat*1)) fun x7=>R4 a1 (lQ .u32 (cT .u32 (lQ .u32 (cT .u32 (lQ .u32 x2 (u32.wrap x5)) 4) x6) 4) x7) A2 n2 m2 x3 (i64.wrap (x4+1)) H)))))) (K (Ot (lQ .u32 u32.max x2)) H)
def ep (x1:Int)(A1:OA)(n1 m1:Nat)(H:Hp)(K:VK):Prop:=
 qg 332 #[] H fun y1 H1=>Nw H1 (Oq #[Ot 0,Ot 0,Ot 0,Ot 0,Ot 0,Ot 0,Ot 0,Ot 0,Ot 0,Ot 0,Ot 0,Ot 0,Ot 0,Ot 0,Ot 0,Ot 0] 428) fun b1 H2=>bR H2 (O b1) y1 16 fun H3=>(∃ k,ep.l4 K k (O b1) (lQ .u32 u32.max x1) A1 n1 m1 (n1:Int) 0 H3)
def ep.l4.L (K:VK)(k:Nat):dm:=fun E D H=>
 eN E 5 fun a1=>eI E 6 .u32 fun x2=>DG (E.get? 12) fun w12=>aF w12 fun A2 n2 m2=>eI E 13 .i64 fun x3=>eI E 14 .i64 fun x4=>az D (ep.l4 K k a1 x2 A2 n2 m2 x3 x4 H)
def ep.Λ4 (_:VK)(_R4:Addr->Int->OA->Nat->Nat->Int->Int->Hp->Prop):aN:=aN.none (fun _=>none)
def ep.Λ (K:VK):aN:=⟨fun i=>none,fun i=>match Nat.beq i 4 with|true=>some (fun E D H=>∃ k,ep.l4.L K k E D H)|false=>none,(fun _=>none)⟩
theorem ep.ok x1 A1 n1 m1 H K (h:ep x1 A1 n1 m1 H K):ae prog 270 #[Ot x1,.slice A1 n1 m1] H K:=
 dX (Λ:=(ep.Λ K)) lC Tryz.func270 rfl rfl h (oC (fun E D H h=>by
   refine Safe.c0 (ep.l4.L K) (fun E D H h=>?_) (fun k E D H h=>?_) E D H h
   .obtain⟨w5,e5,g1⟩:=DG.out h;obtain⟨pw5,rfl,g2⟩:=DP.out g1;obtain⟨a1,rfl,g3⟩:=NN.out g2;obtain⟨w6,e6,g4⟩:=DG.out g3;obtain⟨x2,rfl,g5⟩:=DI.out g4;obtain⟨w12,e12,g6⟩:=DG.out g5;obtain⟨A2,n2,m2,rfl,g7⟩:=aF.out g6;obtain⟨w13,e13,g8⟩:=DG.out g7;obtain⟨x3,rfl,g9⟩:=DI.out g8;obtain⟨w14,e14,g10⟩:=DG.out g9;obtain⟨x4,rfl,g11⟩:=DI.out g10;obtain⟨rfl,h'⟩:=az.out g11;exact h'
   .obtain⟨a1,e5,g3⟩:=GN h;obtain⟨x2,e6,g5⟩:=GI g3;obtain⟨w12,e12,g6⟩:=DG.out g5;obtain⟨A2,n2,m2,rfl,g7⟩:=aF.out g6;obtain⟨x3,e13,g9⟩:=GI g7;obtain⟨x4,e14,g11⟩:=GI g9;obtain⟨rfl,h'⟩:=az.out g11;exact cY (Λ:=(ep.Λ4 K (ep.l4 K k))) lC [] (ag.cons e5 (ag.cons e6 (ag.cons e12 (ag.cons e13 (ag.cons e14 (ag.nil _)))))) h' oN) oN)
def gM (p1 A1:OA)(n1 m1:Nat)(H:Hp)(K:VK):Prop:=
 NN p1 fun a1=>jA H (a1.add 0) fun x1=>zx 270 #[Ot x1,.slice A1 n1 m1] H fun x2 H1=>NN p1 fun a2=>St H1 ((a2.add 0).add 0) (Ot x2) fun H2=>NN p1 fun a3=>aM H2 (a3.add 1) fun x3=>NN p1 fun a4=>St H2 ((a4.add 1).add 0) (I (i64.wrap (x3+(n1:Int)))) fun H3=>K (.tuple #[]) H3
theorem gM.ok p1 A1 n1 m1 H K (h:gM p1 A1 n1 m1 H K):ae prog 296 #[.pointer p1,.slice A1 n1 m1] H K:=
 cg lC Tryz.func296 rfl rfl h
def bF.l6 (K:VK)(R2:Addr->Int->Hp->Prop):Nat->Addr->Int->Int->Int->Int->Hp->Prop
 |0,_,_,_,_,_,_=>False
 |k+1,a2,x2,x3,x4,x5,H=>
  let R6:=bF.l6 K R2 k
  ao (decide (x5<4)) ((0<=(1:Int)/\R6 a2 x2 (lQ .u32 (cT .u32 x3 1) (u32.wrap (2197175160*(cU .u32 x3 1)))) x4 (i64.wrap (x5+1)) H)) (cX x2 16 (St H ((a2.add (x2.toNat*1)).add 0) (Ot x3) fun H2=>R2 a2 (i64.wrap (x4+1)) H2))
def bF.l2 (K:VK):Nat->Addr->Int->Hp->Prop
 |0,_,_,_=>False
 |k+1,a1,x1,H=>
  let R2:=bF.l2 K k
  ao (decide (x1<16)) ((∃ k,bF.l6 K R2 k a1 x1 (u32.wrap x1) x1 0 H)) (aJ H a1 16 fun l1=>bR H a1 l1.toArray 16 fun H3=>aJ H3 a1 16 fun l2=>K (.agg l2.toArray) H3)
def bF (H:Hp)(K:VK):Prop:=
 Nw H (Oq #[Ot 0,Ot 0,Ot 0,Ot 0,Ot 0,Ot 0,Ot 0,Ot 0,Ot 0,Ot 0,Ot 0,Ot 0,Ot 0,Ot 0,Ot 0,Ot 0] 428) fun b1 H1=>(∃ k,bF.l2 K k (O b1) 0 H1)
def bF.l2.L (K:VK)(k:Nat):dm:=fun E D H=>
 eN E 0 fun a1=>eI E 3 .i64 fun x1=>az D (bF.l2 K k a1 x1 H)
def bF.l6.L (K:VK)(R2:Addr->Int->Hp->Prop)(k:Nat):dm:=fun E D H=>
 eN E 0 fun a2=>eI E 1 .i64 fun x2=>eI E 2 .u32 fun x3=>eI E 3 .i64 fun x4=>eI E 8 .i64 fun x5=>az D (bF.l6 K R2 k a2 x2 x3 x4 x5 H)
def bF.Λ6 (_:VK)(_R2:Addr->Int->Hp->Prop)(_R6:Addr->Int->Int->Int->Int->Hp->Prop):aN:=aN.none (fun _=>none)
def bF.Λ2 (K:VK)(R2:Addr→Int→Hp→Prop):aN:=⟨fun i=>none,fun i=>match Nat.beq i 6 with|true=>some (fun E D H=>∃ k,bF.l6.L K R2 k E D H)|false=>none,(fun _=>none)⟩
def bF.Λ (K:VK):aN:=⟨fun i=>none,fun i=>match Nat.beq i 2 with|true=>some (fun E D H=>∃ k,bF.l2.L K k E D H)|false=>none,(fun _=>none)⟩
theorem bF.ok H K (h:bF H K):ae prog 332 #[] H K:=
 dX (Λ:=(bF.Λ K)) lC Tryz.func332 rfl rfl h (oC (fun E D H h=>by
   refine Safe.c0 (bF.l2.L K) (fun E D H h=>?_) (fun k E D H h=>?_) E D H h
   .obtain⟨w0,e0,g1⟩:=DG.out h;obtain⟨pw0,rfl,g2⟩:=DP.out g1;obtain⟨a1,rfl,g3⟩:=NN.out g2;obtain⟨w3,e3,g4⟩:=DG.out g3;obtain⟨x1,rfl,g5⟩:=DI.out g4;obtain⟨rfl,h'⟩:=az.out g5;exact h'
   .obtain⟨a1,e0,g3⟩:=GN h;obtain⟨x1,e3,g5⟩:=GI g3;obtain⟨rfl,h'⟩:=az.out g5;exact cY (Λ:=(bF.Λ2 K (bF.l2 K k))) lC [] (ag.cons e0 (ag.cons e3 (ag.nil _))) h' (oC (fun E D H h=>by
      refine Safe.c0 (bF.l6.L K (bF.l2 K k)) (fun E D H h=>?_) (fun k E D H h=>?_) E D H h
      .obtain⟨w0,e0,g1⟩:=DG.out h;obtain⟨pw0,rfl,g2⟩:=DP.out g1;obtain⟨a2,rfl,g3⟩:=NN.out g2;obtain⟨w1,e1,g4⟩:=DG.out g3;obtain⟨x2,rfl,g5⟩:=DI.out g4;obtain⟨w2,e2,g6⟩:=DG.out g5;obtain⟨x3,rfl,g7⟩:=DI.out g6;obtain⟨w3,e3,g8⟩:=DG.out g7;obtain⟨x4,rfl,g9⟩:=DI.out g8;obtain⟨w8,e8,g10⟩:=DG.out g9;obtain⟨x5,rfl,g11⟩:=DI.out g10;obtain⟨rfl,h'⟩:=az.out g11;exact h'
      .obtain⟨a2,e0,g3⟩:=GN h;obtain⟨x2,e1,g5⟩:=GI g3;obtain⟨x3,e2,g7⟩:=GI g5;obtain⟨x4,e3,g9⟩:=GI g7;obtain⟨x5,e8,g11⟩:=GI g9;obtain⟨rfl,h'⟩:=az.out g11;exact cY (Λ:=(bF.Λ6 K (bF.l2 K k) (bF.l6 K (bF.l2 K k) k))) lC [] (ag.cons e0 (ag.cons e1 (ag.cons e2 (ag.cons e3 (ag.cons e8 (ag.nil _)))))) h' oN) oN)) oN)
end W
namespace CrcP
open Go Go.Hw Go.Crc W
theorem IR (v:eX):lQ .u32 (cT .u32 (v.toNat:Int) 1) (u32.wrap ((2197175160:Int)*cU .u32 (v.toNat:Int) 1))=((kW v).toNat:Int):=by
 rw[pO v (i:=1) (n:=1) rfl (by omega),show(1:Int)=((1#32:eX).toNat:Int)from rfl,J5];have:u32.wrap ((2197175160:Int)*((v&&&1#32).toNat:Int))=((if v.getLsbD 0 then Jc else 0#32).toNat:Int):=by
  have h1:v&&&1#32=if v.getLsbD 0 then 1#32 else 0#32:=by
   apply BitVec.eq_of_getLsbD_eq;intro i hi;rw[BitVec.getLsbD_and];cases i with
   |zero=>cases h:v.getLsbD 0<;>simp
   |succ i=>cases h:v.getLsbD 0<;>simp
  rw[h1];cases v.getLsbD 0<;>decide
 rw[this,tL];rfl
def yC (i:Nat):Value:=Ot ((it kW 4 (BitVec.ofNat 32 i)).toNat:Int)
theorem Ad (K:VK)(R2:Addr->Int->Hp->Prop)(b:Nat)(c:Array Value)(e:TypeId)(hc:c.size=16)(H:Hp)(hb:H b=some (Oq c e))(x2:Nat)(hx:x2<16)(x4:Int)(w:eX)
  (k:R2 (O b) (i64.wrap (x4+1)) (H.set b (Oq (c.setIfInBounds x2 (Ot (w.toNat:Int))) e))):
  ∀(d j:Nat) (v:eX),j+d=4->it kW d v=w->bF.l6 K R2 (d+1) (O b) x2 (v.toNat:Int) x4 j H
 |0,j,v,hj,hv=>by
  unfold bF.l6;refine aw (by omega) ?_;refine⟨by omega,by omega,?_⟩;simp only[Addr.bm,Int.toNat_natCast,Nat.mul_one,Nat.zero_add,Nat.add_zero];refine qQ hb (by omega) rfl ?_;obtain rfl:v=w:=hv;exact k
 |d+1,j,v,hj,hv=>by
  unfold bF.l6;refine aC (by omega) ?_;refine⟨by omega,?_⟩;rw[IR,bu];exact Ad K R2 b c e hc H hb x2 hx x4 w k d (j+1) (kW v) (by omega) hv
theorem Ae (K:VK)(b:Nat)(e:TypeId)(H0:Hp)(hn:H0 b=none)
  (k:∀ H,H0.le H->K (.agg ((List.range 16).map yC).toArray) H):∀(d i:Nat) (H:Hp),i+d=16->H=H0.set b (Oq (filled yC (Ot 0) 16 i) e)->bF.l2 K (d+1) (O b) (i:Int) H
 |0,i,H,hi,hH=>by
  obtain rfl:i=16:=by omega
  unfold bF.l2;refine aw (by omega) ?_;have hb:H b=some (Oq (filled yC (Ot 0) 16 16) e):=by rw[hH];exact Hp.bI _ _ _
  refine nO hb (mX _ _ _ _) ?_;refine yP hb (mX _ _ _ _) (by simp[mX]) ?_ ?_
  .rw[xL];intro v hv;simp at hv;obtain⟨a,_,rfl⟩:=hv;rfl
  refine nO (Hp.bI _ _ _) (by simp[mX]) ?_;rw[Array.toArray_toList,xL];refine k _ ?_;rw[hH,Hp.set_set];exact Hp.kI hn
 |d+1,i,H,hi,hH=>by
  unfold bF.l2;refine aC (by omega) ?_;refine⟨5,?_⟩;have hb:H b=some (Oq (filled yC (Ot 0) 16 i) e):=by rw[hH];exact Hp.bI _ _ _
  rw[show u32.wrap (i:Int)=((BitVec.ofNat 32 i).toNat:Int) by rw[BitVec.toNat_ofNat,Nat.mod_eq_of_lt (by omega)];exact CK];refine Ad K _ b _ e (mX _ _ _ _) H hb i (by omega) i _ ?_ 4 0 _ rfl rfl;rw[bu];refine Ae K b e H0 hn k d (i+1) _ (by omega) ?_;rw[hH,Hp.set_set];congr 3;exact E6 yC (Ot 0) (by omega)
theorem Ff (H:Hp):ae prog 332 #[] H (RetE (.agg ((List.range 16).map yC).toArray) H):=by
 apply ae.ret;apply bF.ok;unfold bF;intro b hb;refine⟨17,?_⟩;exact Ae _ b _ H hb (fun H' hl=>⟨rfl,hl⟩) 16 0 _ rfl rfl
theorem Cf (v:eX):(v>>>4)^^^it kW 4 (v&&&15#32)=it kW 4 v:=(MR v).symm
theorem J4 (v:eX):cU .u32 (v.toNat:Int) 15=((v&&&15#32).toNat:Int):=J5 v 15#32
theorem wq (v:eX):(v&&&15#32).toNat<16:=by
 rw[BitVec.toNat_and];exact Nat.lt_of_le_of_lt Nat.and_le_right (by decide)
theorem ED (v:eX):(((List.range 16).map yC).toArray)[(v&&&15#32).toNat]? =some (Ot ((it kW 4 (v&&&15#32)).toNat:Int)):=by
 have h:=wq v;simp only[List.getElem?_toArray,List.getElem?_map,List.getElem?_range h,Option.map_some];unfold yC;rw[BitVec.ofNat_toNat,BitVec.setWidth_eq]
theorem zA (K:VK)(t:Nat)(e:TypeId)(A:OA)(n m:Nat)(bs:List UInt8)(hn:n=bs.length)(hm:n<=9223372036854775807)(H:Hp)(ht:H t=some (Oq ((List.range 16).map yC).toArray e))(hb:Cells H A (aD bs))(w:eX)
  (k:K (Ot ((~~~ w).toNat:Int)) H):∀(d j:Nat) (v:eX),j+d=n->run v (bs.drop j)=w->ep.l4 K (d+1) (O t) (v.toNat:Int) A n m n (j:Int) H
 |0,j,v,hj,hv=>by
  unfold ep.l4;refine aw (by omega) ?_;rw[List.drop_eq_nil_of_le (by omega)]at hv;obtain rfl:v=w:=hv;rw[show u32.max=((BitVec.allOnes 32).toNat:Int)from rfl,tL,BitVec.allOnes_xor];exact k
 |d+1,j,v,hj,hv=>by
  unfold ep.l4;refine aC (by omega) ?_;have hlt:j<bs.length:=by omega
  refine hb.read (i:=j) (v:=.int .u8 (bs[j].toNat:Int)) (by rw[qT,List.getElem?_eq_getElem hlt];rfl) rfl (by rw[bz];omega) ?_;simp only[HV];refine⟨by omega,?_⟩;rw[show(bs[j].toNat:Int)=((bs[j].toBitVec).toNat:Int)from rfl,NW,tL,J4];refine⟨by omega,by have:=wq (v^^^BitVec.setWidth 32 bs[j].toBitVec);omega,?_⟩;simp only[Addr.bm,Int.toNat_natCast,Nat.mul_one,Nat.zero_add];refine eV ht (ED _) ?_;simp only[HV];refine⟨by omega,?_⟩;rw[pO _ (i:=4) (n:=4) rfl (by omega),tL,Cf,J4];refine⟨by omega,by have:=wq (it kW 4 (v^^^BitVec.setWidth 32 bs[j].toBitVec));omega,?_⟩;simp only[Addr.bm,Int.toNat_natCast,Nat.mul_one,Nat.zero_add];refine eV ht (ED _) ?_;simp only[HV];rw[pO _ (i:=4) (n:=4) rfl (by omega),tL,Cf,bu];refine zA K t e A n m bs hn hm H ht hb w k d (j+1) _ (by omega) ?_;rw[List.drop_eq_getElem_cons hlt]at hv;exact hv
theorem yM (s:eX)(A:OA)(n m:Nat)(bs:List UInt8)(hn:n=bs.length)(hm:n<=9223372036854775807)(H:Hp)(hb:Cells H A (aD bs)):
  ae prog 270 #[Ot (s.toNat:Int),.slice A n m] H (RetE (Ot ((more s bs).toNat:Int)) H):=by
 apply ae.ret;apply ep.ok;unfold ep;refine ae.use (Ff H) ?_
 try simp only[HV]
 intro b hbn;refine yP (Hp.bI _ _ _) rfl (by simp) ?_ ?_
 .intro v hv;simp at hv;obtain⟨a,_,rfl⟩:=hv;rfl
 rw[Hp.set_set];refine⟨n+1,?_⟩;rw[show u32.max=((BitVec.allOnes 32).toNat:Int)from rfl,tL,BitVec.allOnes_xor];refine zA _ b _ A n m bs hn hm _ (Hp.bI _ _ _) (hb.le (Hp.kI hbn)) (run (~~~ s) bs) ?_ n 0 _ (by omega) rfl;exact⟨rfl,Hp.kI hbn⟩
theorem lF (A:OA)(n m:Nat)(bs:List UInt8)(hn:n=bs.length)(hm:n<=9223372036854775807)(H:Hp)(hb:Cells H A (aD bs)):
  ae prog 213 #[.slice A n m] H (RetE (Ot ((sum bs).toNat:Int)) H):=by
 apply tg.ok;unfold tg;refine ae.use (yM 0#32 A n m bs hn hm H hb) ?_
 try simp only[HV]
 exact RetE.mk _ _
end CrcP
namespace CrcP
open Go Go.Hw Go.Crc Go.Form W
theorem td (A:OA)(n m:Nat)(l:List UInt64)(hn:n=l.length)(hm:n<=10000000000)(H:Hp)(hl:Cells H A (ah l)):
  ae prog 149 #[.slice A n m] H (RetE (Ot ((sum (form l)).toNat:Int)) H):=by
 apply ae.ret;apply ni.ok;unfold ni;refine(FormP.pR A n m l hn (by omega) H hl).mono ?_;rintro v H' ⟨b,hb,rfl,rfl⟩;simp only[HV];have hf:(form l).length=8*n:=by rw[ec,hn]
 refine ae.use (lF (Oo b) (8*n) (8*n) (form l) hf.symm (by omega) _ (by have:=Cells.row (Hp.bI H b (.row (aD (form l)) 5 (8*n))) 0 (8*n);rwa [List.drop_zero,List.take_of_length_le (by rw[bz,hf];omega)]at this)) ?_
 try simp only[HV]
 exact⟨rfl,Hp.kI hb⟩
end CrcP
namespace Rec
open Go Go.Hw Go.Form Go.Crc W
def vq (ps:List (Nat×Nat)):List Value:=ps.flatMap fun(p:Nat×Nat)=>[Value.int .u64 (p.1:Int),Value.int .u64 (p.2:Int)]
def eF (w:Nat):List (Nat×Nat)->Nat
 | []=>w
 |p::ps=>eF (w|||(p.1*2^p.2%2^64)) ps
theorem k6 :∀(ps:List (Nat×Nat)) (w:Nat),w<2^64->eF w ps<2^64
 | [],w,h=>h
 |p::ps,w,h=>k6 ps _ (Bf h (Nat.mod_lt _ (Nat.two_pow_pos 64)))
theorem Ah :∀(ps:List (Nat×Nat)) (j:Nat) (p:Nat×Nat),ps[j]? =some p->(vq ps)[j*2]? =some (U (p.1:Int))/\(vq ps)[j*2+1]? =some (U (p.2:Int))
 | [],j,p,h=>by simp at h
 |q::ps,0,p,h=>by
  simp at h;subst h;exact⟨rfl,rfl⟩
 |q::ps,j+1,p,h=>by
  have:=Ah ps j p (by simpa using h);rw[show(j+1)*2=j*2+2 by omega];exact this
theorem KD {H:Hp}{g off:Nat}{u v:Value}{K:List Value->Prop}(h1:H.cell? ⟨g,off,none⟩=some u)(h2:H.cell? ⟨g,off+1,none⟩=some v)(k:K [u,v]):aJ H ⟨g,off,none⟩ 2 K:=by
 have e0:(⟨g,off,none⟩:Addr).add 0=⟨g,off,none⟩:=by rw[Addr.bm];rfl
 have e1:(⟨g,off,none⟩:Addr).add (0+1)=⟨g,off+1,none⟩:=by rw[Addr.bm]
 unfold aJ Hp.cells? Hp.cells? Hp.cells?;rw[e0,e1,h1,h2];exact k
theorem zX {H0:Hp}{b:Nat}{ps:List (Nat×Nat)}(hc:Cells H0 (Oo b) (vq ps))(hp:∀ p∈ps,p.1<2^64/\p.2<=64)(hl:ps.length<=1000):
  ∀(t j w:Nat) (H:Hp),j+t=ps.length->w<2^64->Sep [own H0] H->dt.l3 (lG (U ((eF w (ps.drop j):Nat):Int)) H0) (t+1) (w:Int) (Oo b) ps.length ps.length (ps.length:Int) (j:Int) H
 |0,j,w,H,hj,hw,hs=>by
  unfold dt.l3;rw[List.drop_eq_nil_of_le (by omega)];exact aw (by omega) (hs.fin 0 rfl _)
 |t+1,j,w,H,hj,hw,hs=>by
  have hlt:j<ps.length:=by omega
  have hg:=Ah ps j _ (List.getElem?_eq_getElem hlt);obtain⟨hp1,hp2⟩:=hp _ (List.getElem_mem hlt);have hcH:=hc.le (hs.ow 0 rfl);unfold dt.l3;refine aC (by omega) ⟨by omega,by omega,?_⟩;rw[List.drop_eq_getElem_cons hlt];generalize ps[j]=p at*;simp only[dQ];rw[Int.toNat_natCast,Addr.bm,Nat.zero_add];have g1:H.cell? ⟨b,j*2,none⟩=some (U (p.1:Int)):=by
   obtain⟨a,ha,hc⟩:=hcH _ _ hg.1;cases ha;rw[Addr.bm,Nat.zero_add]at hc;exact hc
  have g2:H.cell? ⟨b,j*2+1,none⟩=some (U (p.2:Int)):=by
   obtain⟨a,ha,hc⟩:=hcH _ _ hg.2;cases ha;rw[Addr.bm,Nat.zero_add]at hc;exact hc
  refine KD g1 g2 ?_;refine hs.nw fun b1 H1 hs=>?_
  refine hs.dW 1 rfl rfl rfl rfl fun H1 hs=>?_
  refine hs.cC 1 rfl rfl ?_;simp only[HV];refine hs.cC 1 rfl rfl ?_;simp only[HV];refine⟨by omega,?_⟩;have hm:p.1*2^p.2%2^64<2^64:=Nat.mod_lt _ (Nat.two_pow_pos 64);rw[FC (x:=p.1) (i:=(p.2:Int)) (n:=p.2) rfl hp2,Ka hw hm,bu (x:=(j:Int)+1),show(j:Int)+1=((j+1:Nat):Int) by omega];exact zX hc hp hl t (j+1) _ H1 (by omega) (Bf hw hm) (hs.re [0] rfl)
theorem K0 {H:Hp}{b:Nat}(ps:List (Nat×Nat))(n:Nat)(hn:n=ps.length)(hc:Cells H (Oo b) (vq ps))(hp:∀ p∈ps,p.1<2^64/\p.2<=64)(hl:ps.length<=1000):
  ae prog 284 #[.slice (Oo b) n n] H (RetE (U ((eF 0 ps:Nat):Int)) H):=ae.ret (by
 subst hn;apply dt.ok;unfold dt;exact⟨ps.length+1,zX hc hp hl ps.length 0 0 H (by omega) (by decide) (Sep.start H)⟩)
def R.p1 (r:R):List (Nat×Nat):=[(21061,48),(r.s,0)]
def R.p2 (r:R):List (Nat×Nat):=[(r.ld,32),(r.ps.toNat,24),(r.kk.toNat,16),(r.dir.toNat,8),(r.kd.toNat,0)]
def R.p3 (r:R):List (Nat×Nat):=[(r.da,32),(r.out,0)]
def R.w3 (r:R):List UInt64:=[UInt64.ofNat (eF 0 r.p1),UInt64.ofNat (eF 0 r.p2),UInt64.ofNat (eF 0 r.p3)]
structure R.u32 (r:R):Prop where
 ld:r.ld<4294967296
 da:r.da<4294967296
 out:r.out<4294967296
def Cl (ps:List (Nat×Nat)):AO:=.row (vq ps) 387 (2*ps.length)
theorem jn {L:List As}{H:Hp}(hs:Sep L H)(i:Nat){b:Nat}{ps:List (Nat×Nat)}(hi:L[i]? =some (af b (Cl ps)))(n:Nat)(hn:n=ps.length)(hp:∀ p∈ps,p.1<2^64/\p.2<=64)(hl:n<=1000):
  ae prog 284 #[.slice (Oo b) n n] H (RetE (U ((eF 0 ps:Nat):Int)) H):=by
 refine K0 ps n hn ?_ hp (by omega);have:=Cells.row (hs.get i hi) 0 (vq ps).length;rw[List.drop_zero,List.take_of_length_le (Nat.le_refl _)]at this;exact this
theorem JG (r:R)(hg:r.dc)(hu:r.u32):Tr prog 308 #[.agg r.c] [] fun v M=>∃ b,v= .slice (Oo b) 3 3/\M=[af b (.row (ah r.w3) 108 3)]:=fun H hs=>by
 obtain⟨g1,g2,g3,g4,g5,g6⟩:=hg;obtain⟨u1,u2,u3⟩:=hu;have c1:∀ p∈r.p1,p.1<2^64/\p.2<=64:=fun p hp=>by
  simp only[R.p1,List.mem_cons,List.not_mem_nil,or_false]at hp;rcases hp with rfl|rfl<;>exact⟨by simp only[];omega,by simp only[];omega⟩
 have c2:∀ p∈r.p2,p.1<2^64/\p.2<=64:=fun p hp=>by
  simp only[R.p2,List.mem_cons,List.not_mem_nil,or_false]at hp;rcases hp with rfl|rfl|rfl|rfl|rfl<;>exact⟨by simp only[];omega,by simp only[];omega⟩
 have c3:∀ p∈r.p3,p.1<2^64/\p.2<=64:=fun p hp=>by
  simp only[R.p3,List.mem_cons,List.not_mem_nil,or_false]at hp;rcases hp with rfl|rfl<;>exact⟨by simp only[];omega,by simp only[];omega⟩
 apply cW.ok;unfold cW cW.q4 cW.q3 cW.q2 cW.q1;refine hs.nw fun b1 H hs=>?_
 have hs:Sep [af b1 (fw r)] H:=hs;refine hs.cC 0 rfl rfl ?_;simp only[HV];refine hs.cC 0 rfl rfl ?_;simp only[HV];refine hs.cC 0 rfl rfl ?_;simp only[HV];refine hs.cC 0 rfl rfl ?_;simp only[HV];refine hs.cC 0 rfl rfl ?_;simp only[HV];refine hs.cC 0 rfl rfl ?_;simp only[HV];refine hs.cC 0 rfl rfl ?_;simp only[HV];refine hs.cC 0 rfl rfl ?_;simp only[HV];have e1:u64.wrap (r.ld:Int)=(r.ld:Int):=fW;have e2:u64.wrap r.ps=(r.ps.toNat:Int):=by rw[i7];omega
 have e3:u64.wrap r.kk=(r.kk.toNat:Int):=by rw[i7];omega
 have e4:u64.wrap r.dir=(r.dir.toNat:Int):=by rw[i7];omega
 have e5:u64.wrap r.kd=(r.kd.toNat:Int):=by rw[i7];omega
 have e6:u64.wrap (r.da:Int)=(r.da:Int):=fW;have e7:u64.wrap (r.out:Int)=(r.out:Int):=fW;rw[e1,e2,e3,e4,e5,e6,e7];have done:∀{L:List As} {H:Hp},Sep L H->Nw H (.row [U ((eF 0 r.p1:Nat):Int),U ((eF 0 r.p2:Nat):Int),U ((eF 0 r.p3:Nat):Int)] 108 3) fun b5 H5=>∃ M,(∃ b,(.slice (Oo b5) 3 3:Value)= .slice (Oo b) 3 3/\M=[af b (.row (ah r.w3) 108 3)])/\Sep M H5:=fun{L H} hs=>by
  refine hs.nw fun b5 H5 hs=>⟨_,⟨b5,rfl,rfl⟩,?_⟩
  have hw:ah r.w3=[U ((eF 0 r.p1:Nat):Int),U ((eF 0 r.p2:Nat):Int),U ((eF 0 r.p3:Nat):Int)]:=by
   show [Value.int .u64 ((UInt64.ofNat (eF 0 r.p1)).toNat:Int),Value.int .u64 ((UInt64.ofNat (eF 0 r.p2)).toNat:Int),Value.int .u64 ((UInt64.ofNat (eF 0 r.p3)).toNat:Int)]=_
   rw[UInt64.toNat_ofNat_of_lt' (k6 r.p1 0 (by decide)),UInt64.toNat_ofNat_of_lt' (k6 r.p2 0 (by decide)),UInt64.toNat_ofNat_of_lt' (k6 r.p3 0 (by decide))]
  rw[hw];have hg:=hs.get L.length (b:=b5) (o:=.row [U ((eF 0 r.p1:Nat):Int),U ((eF 0 r.p2:Nat):Int),U ((eF 0 r.p3:Nat):Int)] 108 3) (by simp);exact⟨H5,fun _=>none,Hp.le_refl _,fun b o h=>(by cases h),fun b=>.inr rfl,hg,trivial⟩
 have n1:∀{L:List As} {H:Hp} {K:Nat->Hp->Prop},Sep L H->(∀ b H',Sep (L++[af b (Cl r.p1)]) H'->K b H')->Nw H (.row [U 21061,U 48,U (r.s:Int),U 0] 387 4) K:=fun hs k=>hs.nw k
 have n2:∀{L:List As} {H:Hp} {K:Nat->Hp->Prop},Sep L H->(∀ b H',Sep (L++[af b (Cl r.p2)]) H'->K b H')->Nw H (.row [U (r.ld:Int),U 32,U (r.ps.toNat:Int),U 24,U (r.kk.toNat:Int),U 16,U (r.dir.toNat:Int),U 8,U (r.kd.toNat:Int),U 0] 387 10) K:=fun hs k=>hs.nw k
 have n3:∀{L:List As} {H:Hp} {K:Nat->Hp->Prop},Sep L H->(∀ b H',Sep (L++[af b (Cl r.p3)]) H'->K b H')->Nw H (.row [U (r.da:Int),U 32,U (r.out:Int),U 0] 387 4) K:=fun hs k=>hs.nw k
 refine⟨n1 hs fun b2 H hs=>?_,n2 hs fun b2 H hs=>?_,n3 hs fun b2 H hs=>?_⟩
 .refine bN.use (jn hs 1 rfl 2 rfl c1 (by decide)) ?_;simp only[HV];refine⟨n2 hs fun b3 H hs=>?_,n3 hs fun b3 H hs=>n2 hs fun b4 H hs=>?_⟩
  .refine bN.use (jn hs 2 rfl 5 rfl c2 (by decide)) ?_;simp only[HV];refine n3 hs fun b4 H hs=>?_
   refine bN.use (jn hs 3 rfl 2 rfl c3 (by decide)) ?_;simp only[HV];exact done hs
  .refine bN.use (jn hs 3 rfl 5 rfl c2 (by decide)) ?_;simp only[HV];refine bN.use (jn hs 2 rfl 2 rfl c3 (by decide)) ?_;simp only[HV];exact done hs
 .refine⟨n1 hs fun b3 H hs=>?_,n3 hs fun b3 H hs=>n1 hs fun b4 H hs=>?_⟩
  .refine bN.use (jn hs 2 rfl 2 rfl c1 (by decide)) ?_;simp only[HV];refine bN.use (jn hs 1 rfl 5 rfl c2 (by decide)) ?_;simp only[HV];refine n3 hs fun b4 H hs=>?_
   refine bN.use (jn hs 3 rfl 2 rfl c3 (by decide)) ?_;simp only[HV];exact done hs
  .refine bN.use (jn hs 3 rfl 2 rfl c1 (by decide)) ?_;simp only[HV];refine bN.use (jn hs 1 rfl 5 rfl c2 (by decide)) ?_;simp only[HV];refine bN.use (jn hs 2 rfl 2 rfl c3 (by decide)) ?_;simp only[HV];exact done hs
 .refine⟨n1 hs fun b3 H hs=>?_,n2 hs fun b3 H hs=>n1 hs fun b4 H hs=>?_⟩
  .refine bN.use (jn hs 2 rfl 2 rfl c1 (by decide)) ?_;simp only[HV];refine n2 hs fun b4 H hs=>?_
   refine bN.use (jn hs 3 rfl 5 rfl c2 (by decide)) ?_;simp only[HV];refine bN.use (jn hs 1 rfl 2 rfl c3 (by decide)) ?_;simp only[HV];exact done hs
  .refine bN.use (jn hs 3 rfl 2 rfl c1 (by decide)) ?_;simp only[HV];refine bN.use (jn hs 2 rfl 5 rfl c2 (by decide)) ?_;simp only[HV];refine bN.use (jn hs 1 rfl 2 rfl c3 (by decide)) ?_;simp only[HV];exact done hs
end Rec
namespace Gen
open Go
def lD (xs:List Nat):List Value:=List.map (fun(x:Nat)=>Value.int .u64 (x:Int)) xs
theorem pL (xs:List Nat):(lD xs).length=xs.length:=by simp[lD]
theorem fH :Hw.eJ prog 108=some (1,8,some #[.int .u64 0]):=by kernel_rfl
end Gen
end Go.Proofs.YtlgnlghmbcpmhaaGreatDoor
namespace Go.Hw
open Go
end Go.Hw
namespace Go.Proofs.YtlgnlghmbcpmhaaGreatDoor
open Tryz (prog)
namespace Rec
open Go Go.Hw Go.Form Go.Crc W
theorem IU :eJ prog 108=some (1,8,some #[U 0]):=by kernel_rfl
theorem lA :eJ prog 5=some (1,1,some #[.int .u8 0]):=by kernel_rfl
def pM (l:List UInt64):List (Nat×Nat):=[(4294967295-(sum (form l)).toNat,32),((sum (form l)).toNat,0)]
theorem Ep (A:OA)(n m:Nat)(l:List UInt64)(hn:n=l.length)(hm:n<=1000)(H:Hp)(hl:Cells H A (ah l)):ae prog 225 #[.slice A n m] H (RetE (U ((eF 0 (pM l):Nat):Int)) H):=ae.ret (by
 apply nv.ok;unfold nv;have hs:=Sep.start H;refine ae.use (CrcP.td A n m l hn (by omega) H hl) ?_;simp only[HV];have hx:lQ .u32 u32.max ((sum (form l)).toNat:Int)=((4294967295-(sum (form l)).toNat:Nat):Int):=by
  rw[show u32.max=((BitVec.allOnes 32).toNat:Int)from rfl,tL,BitVec.allOnes_xor,BitVec.toNat_not]
 have hlt:=(sum (form l)).isLt;rw[hx,fW (n:=4294967295-(sum (form l)).toNat),fW (n:=(sum (form l)).toNat)];refine hs.nw fun b1 H1 hs=>?_
 have hs:Sep [own H,af b1 (Cl (pM l))] H1:=hs;refine ae.use (jn hs 1 rfl 2 rfl (fun p hp=>?_) (by decide)) ?_
 .simp only[pM,List.mem_cons,List.not_mem_nil,or_false]at hp;rcases hp with rfl|rfl<;>exact⟨by simp only[];omega,by simp only[];omega⟩
 simp only[HV];exact hs.fin 0 rfl _)
def R.w4 (r:R):List UInt64:=r.w3++[UInt64.ofNat (eF 0 (pM r.w3))]
theorem Ma (r:R)(hg:r.dc)(hu:r.u32)(size:Nat)(h32:32<=size)(h40:size<=4096)(hsz:(Lay.pn 0 size).2=0):
  Tr prog 241 #[.agg r.c,I (size:Int)] [] fun v M=>∃ b,v= .tuple #[.slice (Oo b) size size,I 0]/\
   M=[af b (.row (setAt (cZ [.int .u8 0] size) 0 (aD (form r.w4))) 5 (size*1))]:=fun H hs=>by
 apply kC.ok;unfold kC;refine hs.nw fun b1 H hs=>?_
 have hs:Sep [af b1 (fw r)] H:=hs;refine hs.bd 0 rfl rfl ?_;refine ae.use (fT r H) ?_;rw[decide_eq_true hg];simp only[HV];have hsec:ae prog 222 #[I (size:Int)] H (RetE (.bool true) H):=by
  apply iI.ok;unfold iI;refine ae.use (Lay.vf 0 size H) ?_;rw[hsz];simp only[HV];exact RetE.mk _ _
 refine ae.use hsec ?_;simp only[HV];refine hs.bd 0 rfl rfl ?_;refine(JG r hg hu).use hs [] rfl rfl ?_;rintro _ _ H ⟨b3,rfl,rfl⟩ hs;simp only[HV];refine hs.q8 lA rfl (n:=size) (m:=size) rfl rfl (Nat.le_refl _) (by omega) (by omega) fun bo H hs=>?_
 simp only[HV];have hs:Sep [af b3 (.row (ah r.w3) 108 3),af b1 (fw r),af bo (.row (cZ [.int .u8 0] size) 5 (size*1))] H:=hs;have hc:Cells H (Oo b3) (ah r.w3):=by
  have:=Cells.row (hs.get 0 rfl) 0 3;exact this
 refine ae.use (Ep (Oo b3) 3 3 r.w3 rfl (by omega) H hc) ?_;simp only[HV];have hs:=hs.jE 0 rfl (B:=bH 108 1 (Oo b3) 3 3 (ah r.w3)) (fun H1 h=>⟨rfl,.inr ⟨b3,3,rfl,h,Nat.le_refl _⟩⟩);refine hs.yU 0 rfl IU (by omega) rfl (by omega) (by omega) fun A' m' H hs=>?_
 simp only[HV];have hw:ah r.w3++[U ((eF 0 (pM r.w3):Nat):Int)]=ah r.w4:=by
  unfold R.w4 ah;rw[List.map_append];show _=_++[Value.int .u64 ((UInt64.ofNat (eF 0 (pM r.w3))).toNat:Int)]
  rw[UInt64.toNat_ofNat_of_lt' (k6 _ 0 (by decide))]
 rw[hw]at hs;have hc:Cells H A' (ah r.w4):=by
  obtain⟨hl,h⟩:=hs.own 0 rfl;rcases h with⟨_,h0,_⟩|⟨b,mm,rfl,hb,_⟩
  .omega
  .have:=Cells.row hb 0 4;exact this
 refine ae.mono (FormP.pR A' 4 m' r.w4 rfl (by omega) H hc) ?_;rintro _ _ ⟨b',hb',rfl,rfl⟩;have hs:=hs.new hb' (.row (aD (form r.w4)) 5 (8*4));generalize H.set b' (.row (aD (form r.w4)) 5 (8*4))=H at*;simp only[HV];have hlen:(aD (form r.w4)).length=32:=by rw[bz,ec];rfl
 have hmin:Nat.min 32 size=32:=Nat.min_eq_left h32;refine hs.cp 2 (b:=bo) (off:=0) (n:=size) (k:=32) (xs:=cZ [.int .u8 0] size) (e':=5) (m:=size*1) (ys:=aD (form r.w4)) rfl lA rfl ?_ ?_ (fun y hy=>?_) fun H hs=>?_
 .rw[hmin];have:=Cells.row (hs.get 3 rfl) 0 32;rw[List.drop_zero,List.take_of_length_le (by rw[hlen];exact Nat.le_refl _)]at this;exact sT this hlen.symm
 .rw[hlen,fm,List.length_replicate];omega
 .obtain⟨z,_,rfl⟩:=List.mem_map.1 hy;rfl
 simp only[HV];exact⟨_,⟨bo,rfl,rfl⟩,hs.re [2] rfl⟩
end Rec
namespace Lib2
open Go Go.Proofs Go.Shelf Go.RowKit
def HY :Go.Shelf.Ren:=⟨fun|160=>145|232=>203|231=>202|227=>204|234=>206|233=>205|236=>208|235=>207|228=>266|271=>269|151=>268|197=>267|120=>331|152=>330|260=>329|137=>354|119=>355|224=>356|225=>357|217=>364|266=>369|n=>n,fun|9=>9|4=>4|3=>3|5=>5|117=>306|116=>305|0=>0|124=>309|21=>21|105=>370|46=>213|119=>450|139=>453|138=>452|n=>n,fun|3=>4|4=>5|n=>n⟩
theorem NG :Go.Proofs.Lays.n160 prog HY where
 mixed:=by kernel_rfl
 f119:=Tryz.func355.trans (congrArg some (by kernel_rfl))
 f120:=Tryz.func331.trans (congrArg some (by kernel_rfl))
 f137:=Tryz.func354.trans (congrArg some (by kernel_rfl))
 f151:=Tryz.func268.trans (congrArg some (by kernel_rfl))
 f152:=Tryz.func330.trans (congrArg some (by kernel_rfl))
 f160:=Tryz.func145.trans (congrArg some (by kernel_rfl))
 f197:=Tryz.func267.trans (congrArg some (by kernel_rfl))
 f217:=Tryz.func364.trans (congrArg some (by kernel_rfl))
 f224:=Tryz.func356.trans (congrArg some (by kernel_rfl))
 f225:=Tryz.func357.trans (congrArg some (by kernel_rfl))
 f227:=Tryz.func204.trans (congrArg some (by kernel_rfl))
 f228:=Tryz.func266.trans (congrArg some (by kernel_rfl))
 f231:=Tryz.func202.trans (congrArg some (by kernel_rfl))
 f232:=Tryz.func203.trans (congrArg some (by kernel_rfl))
 f233:=Tryz.func205.trans (congrArg some (by kernel_rfl))
 f234:=Tryz.func206.trans (congrArg some (by kernel_rfl))
 f235:=Tryz.func207.trans (congrArg some (by kernel_rfl))
 f236:=Tryz.func208.trans (congrArg some (by kernel_rfl))
 f260:=Tryz.func329.trans (congrArg some (by kernel_rfl))
 f266:=Tryz.func369.trans (congrArg some (by kernel_rfl))
 f271:=Tryz.func269.trans (congrArg some (by kernel_rfl))
 t0:=Tryz.underlying0
 a0:=Tryz.isAgg0
 z0:=Tryz.sizeOf0
 v0:=Tryz.zeroValue0
 t3:=Tryz.underlying3
 a3:=Tryz.isAgg3
 z3:=Tryz.sizeOf3
 v3:=Tryz.zeroValue3
 t4:=Tryz.underlying4
 a4:=Tryz.isAgg4
 z4:=Tryz.sizeOf4
 v4:=Tryz.zeroValue4
 t5:=Tryz.underlying5
 a5:=Tryz.isAgg5
 z5:=Tryz.sizeOf5
 v5:=Tryz.zeroValue5
 t9:=Tryz.underlying9
 a9:=Tryz.isAgg9
 z9:=Tryz.sizeOf9
 v9:=Tryz.zeroValue9
 t21:=Tryz.underlying21
 a21:=Tryz.isAgg21
 z21:=Tryz.sizeOf21
 v21:=Tryz.zeroValue21
 t46:=Tryz.underlying213
 a46:=Tryz.isAgg213
 z46:=Tryz.sizeOf213
 v46:=Tryz.zeroValue213
 t105:=Tryz.underlying370
 a105:=Tryz.isAgg370
 z105:=Tryz.sizeOf370
 v105:=Tryz.zeroValue370
 t116:=Tryz.underlying305
 a116:=Tryz.isAgg305
 z116:=Tryz.sizeOf305
 t117:=Tryz.underlying306
 a117:=Tryz.isAgg306
 z117:=Tryz.sizeOf306
 v117:=Tryz.zeroValue306
 t119:=Tryz.underlying450
 a119:=Tryz.isAgg450
 z119:=Tryz.sizeOf450
 t124:=Tryz.underlying309
 a124:=Tryz.isAgg309
 z124:=Tryz.sizeOf309
 v124:=Tryz.zeroValue309
 t138:=Tryz.underlying452
 a138:=Tryz.isAgg452
 z138:=Tryz.sizeOf452
 v138:=Tryz.zeroValue452
 t139:=Tryz.underlying453
 a139:=Tryz.isAgg453
 z139:=Tryz.sizeOf453
 v139:=Tryz.zeroValue453
 g3:=by kernel_rfl
 g4:=by kernel_rfl
end Lib2
end Go.Proofs.YtlgnlghmbcpmhaaGreatDoor
namespace Go.Hw
open Go Go.Proofs Go.Proofs.YtlgnlghmbcpmhaaGreatDoor.Lib2 Go.RowKit Go.Shelf
theorem KG (s:ByteArray)(c:UInt8)(hc:c.toNat<128)(hs:s.size<=9223372036854775807)(H:Hp):
  ae Tryz.prog 145 #[.string s,.string ⟨#[c]⟩] H (RetE (.string ⟨(Lib.trimB s.data.toList c).toArray⟩) H):=fun w hw=>by
 refine(Any.strings_Trim_one NG s c hc w hs).mono ?_;rintro e w' ⟨rfl,h⟩;refine⟨_,H,rfl,⟨rfl,rfl⟩,?_⟩;rcases h with rfl|rfl
 .exact At.refl hw
 .exact⟨hw,Nat.le_refl _,rfl,rfl,rfl,fun _ _ h=>⟨h,rfl⟩⟩
theorem GC (p:UInt8->Bool):∀ l:List UInt8,l.dropWhile p=[]↔∀ x∈l,p x=true
 | []=>by simp
 |z::l=>by
  rw[List.dropWhile_cons];by_cases hz:p z=true
  .rw[if_pos hz,GC p l];constructor
   .intro h x hx;rcases List.mem_cons.1 hx with rfl|hx
    .exact hz
    .exact h x hx
   .intro h x hx;exact h x (List.mem_cons_of_mem _ hx)
  .rw[if_neg hz];constructor
   .intro h;cases h
   .intro h;exact absurd (h z (by simp)) hz
theorem GB (p:UInt8->Bool):∀ l:List UInt8,(∀ x∈l.dropWhile p,p x=true)->∀ x∈l,p x=true
 | [],_=>by simp
 |z::l,h=>by
  rw[List.dropWhile_cons]at h;by_cases hz:p z=true
  .rw[if_pos hz]at h;intro x hx;rcases List.mem_cons.1 hx with rfl|hx
   .exact hz
   .exact GB p l h x hx
  .rw[if_neg hz]at h;exact absurd (h z (by simp)) hz
theorem Ay (l:List UInt8)(c:UInt8):Lib.trimB l c=[]↔∀ x∈l,x=c:=by
 unfold Lib.trimB Lib.trimLeftB Lib.trimRightB;rw[GC];constructor
 .intro h x hx;have:=GB (· ==c) l.reverse (fun y hy=>h y (by simpa using hy)) x (by simpa using hx);simpa using this
 .intro h x hx;have:=(List.dropWhile_sublist (· ==c)).subset (List.mem_reverse.1 hx);simpa using h x (List.mem_reverse.1 this)
end Go.Hw
namespace Go.Proofs.YtlgnlghmbcpmhaaGreatDoor
namespace Rec
open Go Go.Hw Go.Form Go.Crc W
def r6 (a b c:Nat):R:=⟨a%281474976710656,((b%256:Nat):Int),((b/65536%256:Nat):Int),((b/256%256:Nat):Int),((b/16777216%256:Nat):Int),b/4294967296,c/4294967296,c%4294967296⟩
theorem MO {x:Nat}(hx:x<2^64):cU .u64 (x:Int) 281474976710655=((x%281474976710656:Nat):Int):=by
 rw[show(281474976710655:Int)=((281474976710655:Nat):Int)from rfl,yT hx,show 281474976710655=2^48-1 from rfl,Nat.and_two_pow_sub_one_eq_mod]
theorem Bc {x:Nat}(hx:x<2^64:=by omega):cU .u64 (x:Int) 255=((x%256:Nat):Int):=by
 rw[show(255:Int)=((255:Nat):Int)from rfl,yT hx,show 255=2^8-1 from rfl,Nat.and_two_pow_sub_one_eq_mod]
theorem N3 (x:Nat):u32.wrap (x:Int)=((x%4294967296:Nat):Int):=by
 simp only[IntKind.wrap,IntKind.bits,IntKind.signed,Bool.false_and,Bool.false_eq_true,if_false];omega
theorem Be (A:OA)(n m a b c:Nat)(ws:List Nat)(hn:n=(a::b::c::ws).length)(ha:a<2^64)(hb:b<2^64)(hc:c<2^64)(H:Hp)(hl:Cells H A (Gen.lD (a::b::c::ws))):
  ae Tryz.prog 224 #[.slice A n m] H (RetE (.agg (r6 a b c).c) H):=ae.ret (by
 apply pC.ok;unfold pC;have hlen:(Gen.lD (a::b::c::ws)).length<=n:=by rw[Gen.pL,hn];exact Nat.le_refl _
 refine(Sep.start H).nw fun b1 H1 hs=>?_
 have hl1:=hl.le (hs.ow 0 rfl);have r0:(Gen.lD (a::b::c::ws))[0]? =some (U (a:Int)):=rfl;have r1:(Gen.lD (a::b::c::ws))[1]? =some (U (b:Int)):=rfl;have r2:(Gen.lD (a::b::c::ws))[2]? =some (U (c:Int)):=rfl;refine hl1.read r0 rfl hlen ?_;simp only[HV];refine hl1.read r1 rfl hlen ?_;simp only[HV];refine hl1.read r1 rfl hlen ?_;simp only[HV];refine⟨by decide,?_⟩;refine hl1.read r1 rfl hlen ?_;simp only[HV];refine⟨by decide,?_⟩;refine hl1.read r1 rfl hlen ?_;simp only[HV];refine⟨by decide,?_⟩;refine hl1.read r1 rfl hlen ?_;simp only[HV];refine⟨by decide,?_⟩;refine hl1.read r2 rfl hlen ?_;simp only[HV];refine⟨by decide,?_⟩;refine hl1.read r2 rfl hlen ?_;simp only[HV];have s8:cT .u64 (b:Int) 8=((b/256:Nat):Int):=rz (k:=.u64) (a:=b) (i:=8) (n:=8) rfl (by decide);have s16:cT .u64 (b:Int) 16=((b/65536:Nat):Int):=rz (k:=.u64) (a:=b) (i:=16) (n:=16) rfl (by decide);have s24:cT .u64 (b:Int) 24=((b/16777216:Nat):Int):=rz (k:=.u64) (a:=b) (i:=24) (n:=24) rfl (by decide);have s32:cT .u64 (b:Int) 32=((b/4294967296:Nat):Int):=rz (k:=.u64) (a:=b) (i:=32) (n:=32) rfl (by decide);have t32:cT .u64 (c:Int) 32=((c/4294967296:Nat):Int):=rz (k:=.u64) (a:=c) (i:=32) (n:=32) rfl (by decide);rw[s8,s16,s24,s32,t32,MO ha,Bc hb,Bc (x:=b/65536),Bc (x:=b/256),Bc (x:=b/16777216),ed (n:=b%256),ed (n:=b/65536%256),ed (n:=b/256%256),ed (n:=b/16777216%256),
  CK (n:=b/4294967296),CK (n:=c/4294967296),N3 c]
 refine hs.dW 1 rfl rfl rfl rfl fun H1 hs=>?_
 refine hs.bd 1 rfl rfl ?_;exact hs.fin 0 rfl _)
def u4 (bs:List UInt8)(n:Nat):List Nat:=(List.range n).map fun i=>aP bs (8*i)
theorem JJ (bs:List UInt8)(n:Nat):u4 bs (n+1)=u4 bs n++[aP bs (8*n)]:=by
 unfold u4;rw[List.range_succ,List.map_append];rfl
def oR (bs:List UInt8):Bool:=decide (∀ x∈bs.drop 32,x=0)
theorem BO (K:VK){A:OA}{n m:Nat}{bs:List UInt8}{R:As}(hR:∀ H,R H->Cells H A (aD bs))(hn:n=bs.length)(hnm:n<=m)(h32:32<=n)(hbig:n<=1000000)
  (hK:∀ A' m' H,4<=m'->Sep [R,bH 108 1 A' 4 m' (Gen.lD (u4 bs 4))] H->K (.tuple #[.slice A' 4 m',.bool (oR bs)]) H):
  ∀(t i:Nat) (A':OA) (m':Nat) (H:Hp),i+t=4->i<=m'->Sep [R,bH 108 1 A' i m' (Gen.lD (u4 bs i))] H->dC.l2 K (t+1) A n m A' i m' (i:Int) H
 |0,i,A',m',H,hi,hm',hs=>by
  obtain rfl:i=4:=by omega
  have hc:Cells H A (aD bs):=by
   obtain⟨H1,h1,hle⟩:=hs.fE 0 rfl;exact(hR H1 h1).le hle
  unfold dC.l2;refine aw (by decide) ?_;refine rA (l:=32) rfl h32 ?_;have h1:Cells H (jk A m 32 1) (aD (bs.drop 32)):=by
   have:=hc.shift (m:=m) (l:=32) (by rw[bz];omega);rw[show(aD bs).drop 32=aD (bs.drop 32) by unfold aD;rw[List.map_drop]]at this;exact this
  refine FU h1 (by rw[List.length_drop];omega) ?_;refine ae.use (KG ⟨(bs.drop 32).toArray⟩ 0 (by decide) (by show(bs.drop 32).toArray.size<=_;simp;omega) H) ?_;simp only[HV];have he:((⟨(Go.Lib.trimB (bs.drop 32) 0).toArray⟩:ByteArray).toList==(⟨#[]⟩:ByteArray).toList)=oR bs:=by
   rw[ByteArray.toList_mk,show(⟨#[]⟩:ByteArray).toList=[]from ByteArray.toList_mk []];unfold oR;by_cases h:Go.Lib.trimB (bs.drop 32) 0=[]
   .rw[h,decide_eq_true ((Ay _ _).1 h)];rfl
   .rw[decide_eq_false (fun g=>h ((Ay _ _).2 g)),beq_eq_false_iff_ne.2 h]
  rw[he];exact hK A' m' H hm' hs
 |t+1,i,A',m',H,hi,hm',hs=>by
  have hc:Cells H A (aD bs):=by
   obtain⟨H1,h1,hle⟩:=hs.fE 0 rfl;exact(hR H1 h1).le hle
  unfold dC.l2;refine aC (by omega) ?_;refine ae.use (FormP.yR A n m hnm (by omega) bs hn i (by omega) H hc) ?_;simp only[HV];refine Gf ?_;refine hs.yU 1 rfl Gen.fH (by omega) rfl (by omega) (by omega) fun A2 m2 H hs hcap=>?_
  simp only[HV];rw[bu (x:=(i:Int)+1),show(i:Int)+1=((i+1:Nat):Int) by omega];refine BO K hR hn hnm h32 hbig hK t (i+1) A2 m2 H (by omega) (hcap _ _ _ rfl) ?_;rw[JJ,show Gen.lD (u4 bs i++[aP bs (8*i)])=Gen.lD (u4 bs i)++[.int .u64 ((aP bs (8*i):Nat):Int)] by unfold Gen.lD;rw[List.map_append];rfl];exact hs
theorem Mq {A:OA}{n m:Nat}{bs:List UInt8}{R:As}(hR:∀ H,R H->Cells H A (aD bs))(hn:n=bs.length)(hnm:n<=m)(h32:32<=n)(hbig:n<=1000000):
  Tr Tryz.prog 223 #[.slice A n m] [R] fun v M=>∃ A' m',4<=m'/\v= .tuple #[.slice A' 4 m',.bool (oR bs)]/\M=[R,bH 108 1 A' 4 m' (Gen.lD (u4 bs 4))]:=fun H hs=>by
 apply dC.ok;unfold dC;have e0:Sep [R,bH 108 1 none 0 0 (Gen.lD (u4 bs 0))] H:=by
  have:Sep (bH 108 1 none 0 0 []::[R]) H:=⟨fun _=>none,H,fun _ _ h=>(nomatch h),Hp.le_refl _,fun _=>.inl rfl,bH.none _ _ _,hs⟩;exact this.re [1,0] rfl
 refine⟨5,?_⟩;refine BO _ hR hn hnm h32 hbig (fun A' m' H hm' hs=>?_) 4 0 none 0 H rfl (Nat.le_refl _) e0;exact⟨_,⟨A',m',hm',rfl,rfl⟩,hs⟩
end Rec
end Go.Proofs.YtlgnlghmbcpmhaaGreatDoor
