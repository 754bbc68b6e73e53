import Derived.Lib.LaidTab
import Derived.Stop.LaidErr
import Derived.Test.YtahjgjaenegpgaaGreatDoorProg
import Derived.Shelf.Strconv.Itoa0
import Derived.Shelf.Strings.Trim
import Derived.Test.YtahjgjaenegpgaaGreatDoorPkEngineSolves3
set_option maxRecDepth 100000
set_option linter.unusedSimpArgs false
set_option linter.unusedVariables false
set_option linter.unnecessarySimpa false
set_option linter.unusedSectionVars false
namespace Go.Proofs.YtahjgjaenegpgaaGreatDoor.Eng
open Go Go.Hw Go.Form Dsk Str
abbrev Cn :=Int→List UInt8
structure Clean (d:D)(c:Cn):Prop where
 ok:Ok d
 down:d.down=false
 cache:∀ i,d.cache i=none
 sat:∀ i,d.sat i=c i
theorem Clean.now {d:D}{c:Cn}(h:Clean d c)(i:Int):d.now i=c i:=by
 unfold D.now;rw[h.cache];exact h.sat i
theorem Clean.dom {d:D}{c:Cn}(h:Clean d c):Dom d:=fun k hk=>by rw[h.cache]at hk;cases hk
structure bZQ (d d':D)(r w s:Nat):Prop where
 fuse:d'.fuse=d.fuse-(r+w+s)
 go:d.fuse=0∨r+w+s<d.fuse
 sec:d'.sec=d.sec
 size:d'.size=d.size
 rd:d'.rd=d.rd+r
 wr:d'.wr=d.wr+w
 sy:d'.sy=d.sy+s
structure Cut (d d':D)(n:Nat):Prop where
 ok:Ok d'
 dom:Dom d'
 down:d'.down=true
 fuse:d'.fuse=0
 sec:d'.sec=d.sec
 size:d'.size=d.size
 cnt:d'.rd+d'.wr+d'.sy+1=d.rd+d.wr+d.sy+d.fuse
 rd:d.rd≤d'.rd
 wr:d.wr≤d'.wr
 sy:d.sy≤d'.sy
 le:d.fuse≤n
 pos:1≤d.fuse
def Left (d:D)(P:Cn→Prop):Prop:=∀ c':Cn,(∀ i,c' i=d.sat i∨c' i=d.now i)→P c'
theorem Left.mono {d:D}{P Q:Cn→Prop}(h:Left d P)(k:∀ c,P c→Q c):Left d Q:=fun c' hc=>k _ (h c' hc)
theorem bZQ.trans {d d1 d2:D}{r w s r' w' s':Nat}(h:bZQ d d1 r w s)(k:bZQ d1 d2 r' w' s'):bZQ d d2 (r+r') (w+w') (s+s'):=by
 have h1:=h.fuse;have h2:=k.fuse;have h3:=h.go;have h4:=k.go;have h5:=h.rd;have h6:=k.rd;have h7:=h.wr;have h8:=k.wr;have h9:=h.sy;have h10:=k.sy;exact⟨by omega,by omega,k.sec.trans h.sec,k.size.trans h.size,by omega,by omega,by omega⟩
theorem bZQ.cut {d d1 d2:D}{r w s n:Nat}(h:bZQ d d1 r w s)(k:Cut d1 d2 n):Cut d d2 (r+w+s+n):=by
 have h1:=h.fuse;have h3:=h.go;have h4:=k.pos;have h5:=h.rd;have h6:=k.rd;have h7:=h.wr;have h8:=k.wr;have h9:=h.sy;have h10:=k.sy;have h11:=k.cnt;have h12:=k.le;exact⟨k.ok,k.dom,k.down,k.fuse,k.sec.trans h.sec,k.size.trans h.size,by omega,by omega,by omega,by omega,by omega,by omega⟩
theorem Cut.more {d d':D}{n m:Nat}(h:Cut d d' n)(k:n≤m):Cut d d' m:={ h with le:=Nat.le_trans h.le k}
theorem bZQ.per {d d':D}{r w s:Nat}(h:bZQ d d' r w s):D.per d'=D.per d:=by unfold D.per;rw[h.size]
theorem bZQ.calm {d d':D}{r w s:Nat}(h:bZQ d d' r w s)(hf:d.fuse=0):d'.fuse=0:=by rw[h.fuse];omega
theorem Cut.calm {d d':D}{n:Nat}(h:Cut d d' n)(hf:d.fuse=0):False:=by have:=h.pos;omega
def Sam (S:Int→Prop)(c c':Cn):Prop:=∀ i,¬S i→c' i=c i
theorem Clean.rdG {d:D}{c:Cn}(h:Clean d c)(t:Nat):Clean (D.rdG d t) c:=⟨Ok.rdG h.ok t,h.down,h.cache,h.sat⟩
theorem bZQ.rdG {d:D}{t:Nat}(hf:d.fuse=0∨t<d.fuse):bZQ d (D.rdG d t) t 0 0:=⟨by show d.fuse-t=_;omega,by omega,rfl,rfl,rfl,rfl,rfl⟩
theorem Cut.rdG {d:D}{c:Cn}(h:Clean d c){j n:Nat}(hf:d.fuse=j+1)(hn:j<n):Cut d (D.dead (D.rdG d j)) n:=by
 refine⟨Ok.dead (Ok.rdG h.ok j),h.dom,rfl,rfl,rfl,rfl,?_,?_,Nat.le_refl _,Nat.le_refl _,by omega,by omega⟩
 ·show d.rd+j+d.wr+d.sy+1=_;omega
 ·show d.rd≤d.rd+j;omega
theorem Left.rdG {d:D}{c:Cn}(h:Clean d c)(j:Nat):Left (D.dead (D.rdG d j)) fun c'=>c'=c:=fun c' hc=>funext fun i=>by
 rcases hc i with e|e
 ·exact e.trans (h.sat i)
 ·exact e.trans (h.now i)
section
variable {S : Int → Prop} {d d1 : D} {c : Cn} {r w : Nat}
theorem Clean.prog (h:Clean d c)(p:Prog S d d1 r w)(i:Int):d1.sat i=c i∧(¬S i→d1.now i=c i):=by
 have e1:d1.sat i=c i:=by rw[← h.sat];unfold D.sat;rw[p.safe,p.size]
 refine⟨e1,fun hi=>?_⟩;unfold D.now;rw[p.cache i hi,h.cache];exact e1
theorem Clean.dead (h:Clean d c)(p:cZz S d d1)(i:Int):d1.sat i=c i∧(¬S i→d1.now i=c i):=by
 have e1:d1.sat i=c i:=by rw[← h.sat];unfold D.sat;rw[p.safe,p.size]
 refine⟨e1,fun hi=>?_⟩;unfold D.now;rw[p.cache i hi,h.cache];exact e1
theorem Clean.progDom (h:Clean d c)(p:Prog S d d1 r w)(hS:∀ i,S i→0≤i∧i<d.sec):Dom d1:=fun k hk=>by
 by_cases hs:S k
 ·have:=hS k hs;rw[p.sec];exact this
 ·rw[p.cache k hs,h.cache]at hk;cases hk
theorem Clean.deadCut (h:Clean d c)(p:cZz S d d1)(hS:∀ i,S i→0≤i∧i<d.sec){n:Nat}(hn:d.fuse≤n)(hf:1≤d.fuse):Cut d d1 n:=by
 have h1:=p.cnt;have h2:=p.sy;refine⟨p.ok,fun k hk=>?_,p.down,p.fuse,p.sec,p.size,by omega,p.rd,p.wr,by omega,hn,hf⟩;by_cases hs:S k
 ·have:=hS k hs;rw[p.sec];exact this
 ·rw[p.cache k hs,h.cache]at hk;cases hk
theorem Clean.deadLeft (h:Clean d c)(p:cZz S d d1):Left d1 fun c'=>Sam S c c':=fun c' hc i hi=>by
 obtain⟨h1,h2⟩:=h.dead p i;rcases hc i with e|e
 ·exact e.trans h1
 ·exact e.trans (h2 hi)
theorem Clean.sync (h:Clean d c)(p:Prog S d d1 r w)(hS:∀ i,S i→0≤i∧i<d.sec):
  (d1.syncE=0∧bZQ d d1.syncD r w 1∧Clean d1.syncD d1.now)∨(d1.syncE=8∧Cut d d1.syncD (r+w+1)∧Left d1.syncD fun c'=>(∀ i,c' i=c i∨c' i=d1.now i)∧Sam S c c'):=by
 have hdom:=h.progDom p hS;have hn:=Next.sync p.ok hdom;have hb:=cZd d1;have p1:=p.fuse;have p2:=p.go;have p3:=p.rd;have p4:=p.wr;have p5:=p.sy;have hdn:¬d1.down=true:=by rw[p.down];simp
 by_cases hf:d1.fuse=1
 ·right;have eE:d1.syncE=8:=by unfold D.syncE D.burns;rw[if_neg hdn,if_pos (by simp[hf])]
  have eD:d1.syncD=D.dead d1:=by
   unfold D.syncD D.burns;rw[if_neg hdn,if_pos (by simp[hf]),eZP hf]
  rw[eE,eD];refine⟨rfl,⟨Ok.dead p.ok,hdom,rfl,rfl,p.sec,p.size,?_,?_,?_,?_,by omega,by omega⟩,fun c' hc=>⟨fun i=>?_,fun i hi=>?_⟩⟩
  ·show d1.rd+d1.wr+d1.sy+1=_;omega
  ·show d.rd≤d1.rd;omega
  ·show d.wr≤d1.wr;omega
  ·show d.sy≤d1.sy;omega
  ·rcases hc i with e|e
   ·exact .inl (e.trans (h.prog p i).1)
   ·exact .inr e
  ·rcases hc i with e|e
   ·exact e.trans (h.prog p i).1
   ·exact e.trans ((h.prog p i).2 hi)
 ·left;have hbn:d1.burns=false:=by unfold D.burns;exact decide_eq_false hf
  have hbt:=eZp p.down hf;have eE:d1.syncE=0:=by unfold D.syncE;rw[hbn,p.down];rfl
  have eD:d1.syncD=d1.synced:=by unfold D.syncD;rw[hbn,p.down];rfl
  rw[eD]at hn⊢;refine⟨eE,⟨?_,by omega,(hn.sec).trans p.sec,(hn.size).trans p.size,?_,?_,?_⟩,⟨hn.ok,?_,fun i=>rfl,fun i=>?_⟩⟩
  ·show d1.burnt.fuse=_;rw[hbt];show d1.fuse-1=_;omega
  ·show d1.burnt.rd=_;rw[hb.1];omega
  ·show d1.burnt.wr=_;rw[hb.2.1];omega
  ·show d1.sy+1=_;omega
  ·show d1.burnt.down=false;rw[hbt];exact p.down
  ·show(eZA d1.safe d1.cache i).getD (List.replicate d1.burnt.size 0)=_
   rw[hb.2.2.2.1];unfold D.now D.sat eZA;cases d1.cache i<;>rfl
end
theorem Left.boot {d:D}{P:Cn→Prop}(h:Left d P)(hok:Ok d){ks:List Int}(hk:KeysOf (bZy d.cache) ks)(keep:List Bool):∃ c',P c'∧Clean (D.boot d ks keep) c':=by
 refine⟨(D.boot d ks keep).sat,h _ fun i=>?_,⟨Ok.boot hok hk keep,rfl,fun _=>rfl,fun _=>rfl⟩⟩;have hmem:∀ k∈ks,(d.cache k).isSome=true:=fun k hk'=>by
  have:=(hk.mem k).1 hk';rw[iZc]at this;exact this
 show(eZ7 d.cache d.safe ks keep i).getD (List.replicate d.size 0)=_∨_
 rcases kZD ks keep d.safe hmem i with e|⟨e1,e2⟩
 ·left;rw[e];rfl
 ·right;show(eZ7 d.cache d.safe ks keep i).getD (List.replicate d.size 0)=_
  rw[e2];unfold D.now;cases hc:d.cache i with
  |none=>rw[hc]at e1;cases e1
  |some b=>rfl
theorem Clean.crash {d:D}{c:Cn}(h:Clean d c):Left { d with down:=true,fuse:=0} fun c'=>c'=c:=fun c' hc=>funext fun i=>by
 rcases hc i with e|e
 ·exact e.trans (h.sat i)
 ·exact e.trans (h.now i)
theorem Clean.fused {d:D}{c:Cn}(h:Clean d c)(n:Nat)(hn:n≤9223372036854775807):Clean { d with fuse:=n} c:=⟨Ok.fused h.ok n hn,h.down,h.cache,h.sat⟩
theorem Clean.fresh {sec size:Nat}(h1:1≤sec∧sec≤1048576)(h2:0<Lay.aZL size)(h3:sec*size≤67108864):Clean (D.fresh sec size) fun _=>List.replicate size 0:=
 ⟨Ok.fresh h1 h2 h3,rfl,fun _=>rfl,fun _=>rfl⟩
end Go.Proofs.YtahjgjaenegpgaaGreatDoor.Eng
namespace Go.Hw
open Go
theorem sZW {P:Program}{e:TypeId}{s x:Value}{H:Hp}{K:Value→Hp→Prop}(h:cZ7 P e s x H fun v H'=>(∀ A n m,v= .slice A n m→n≤m)→K v H'):cZ7 P e s x H K:=by
 unfold cZ7 at h⊢;split at h
 ·split at h
  ·obtain⟨n,ys,h1,h2,h3,h4,h5,h6,h7,h8,h9⟩:=h;refine⟨n,ys,h1,h2,h3,h4,h5,h6,h7,h8,h9.imp ?_ ?_⟩
   ·rintro⟨e1,e2,e3,k0,k⟩;refine⟨e1,e2,e3,fun h0=>k0 h0 (fun A n m e=>by cases e;exact Nat.le_refl _),fun hp c hc b hb=>k hp c hc b hb (fun A n m e=>by cases e;exact hc)⟩
   ·rintro⟨b0,xs,m,e1,e2,e3,e4,k⟩;exact⟨b0,xs,m,e1,e2,e3,e4,fun c m' hc hl b hb=>k c m' hc hl b hb (fun A n m e=>by cases e;exact hl)⟩
  ·exact h
 ·exact h
theorem rZn {P:Program}{e:TypeId}{s:Value}{x:Nat→Value}{H:Hp}{o:AO}{K:Value→Hp→Prop}(h:Nw H o fun b H'=>cZ7 P e s (x b) H' fun v H'=>(∀ A n m,v= .slice A n m→n≤m)→K v H'):Nw H o fun b H'=>cZ7 P e s (x b) H' K:=fun b hb=>sZW (h b hb)
theorem vZk {L:List As}{H:Hp}(hs:Sep L H)(i:Nat){b n m:Nat}{xs:List Value}{e:TypeId}{s:Nat}(hi:L[i]? =some (pts b (.row xs e m)))(hx:xs.length=n*s)(hm:m=n*s):Sep (L.set i (Own e s (some ⟨b,0,none⟩) n n xs)) H:=
 hs.turn i hi fun H1 hH=>⟨hx,.inr ⟨b,m,rfl,hH,by omega⟩⟩
end Go.Hw
namespace Go.Hw
open Go Go.RowKit
def flatF :Nat→DataW Unit→List Value
 |0,_=>[]
 |_+1,.lit (.int k n)=>[.int k n]
 |_+1,.lit (.string bs)=>[.string ⟨bs.toArray⟩]
 |_+1,.lit (.bool b)=>[.bool b]
 |f+1,.agg ds=>(ds.map (flatF f)).flatten
 |_+1,_=>[]
def lZf (P:Program):List Field→Nat→Option Nat
 | [],o=>some o
 |f::l,o=>if f.offset=o then lZf P l (o+P.cellsOf f.type)else none
def jZk (P:Program):Nat→TypeId→Bool
 |0,_=>false
 |f+1,t=>
  match P.underlying t with
  |some (.int _)=>true
  |some .string=>true
  |some .bool=>true
  |some (.array n e)=>jZk P f e&&(P.cellsOf t==n*P.cellsOf e)
  |some (.struct fs)=>fs.toList.all (fun x=>jZk P f x.type)&&(lZf P fs.toList 0==some (P.cellsOf t))
  |_=>false
theorem chunks {α:Type}(k:Nat):∀(n:Nat) (cs:List α) (ys:List (List α)),cs.length=n*k→ys.length=n→(∀ i,(h:i<ys.length)→(cs.drop (i*k)).take k=ys[i])→cs=ys.flatten
 |0,cs,ys,hl,hy,_=>by
  rw[Nat.zero_mul]at hl;rw[List.length_eq_zero_iff.1 hl,List.length_eq_zero_iff.1 hy];rfl
 |n+1,cs,[],_,hy,_=>by simp at hy
 |n+1,cs,y::ys,hl,hy,h=>by
  have h0:=h 0 (by simp);rw[Nat.zero_mul,List.drop_zero,List.getElem_cons_zero]at h0;have ih:=chunks k n (cs.drop k) ys (by rw[List.length_drop,hl,Nat.succ_mul];omega) (by simpa using hy) fun i hi=>by
   have:=h (i+1) (by simpa using hi);rw[List.getElem_cons_succ]at this;rw[List.drop_drop,←this,Nat.succ_mul,Nat.add_comm]
  rw[List.flatten_cons,←ih,←h0,List.take_append_drop]
theorem lZg {P:Program}:∀(l:List Field) (ys:List (List Value)) (o e:Nat) (cs:List Value),lZf P l o=some e→cs.length=e→ys.length=l.length→
  (∀(i:Nat) (f:Field),l[i]? =some f→∃ y,ys[i]? =some y∧(cs.drop f.offset).take (P.cellsOf f.type)=y)→cs.drop o=ys.flatten
 | [],ys,o,e,cs,h,hl,hy,_=>by
  unfold lZf at h;cases h;rw[List.drop_eq_nil_of_le (by omega),List.length_eq_zero_iff.1 hy];rfl
 |f::l,[],o,e,cs,h,hl,hy,_=>by simp at hy
 |f::l,y::ys,o,e,cs,h,hl,hy,hh=>by
  unfold lZf at h;split at h
  ·rename_i ho
   obtain⟨y',e1,e2⟩:=hh 0 f (by simp);simp only[List.getElem?_cons_zero,Option.some.injEq]at e1;subst e1;have ih:=lZg l ys _ e cs h hl (by simpa using hy) fun i f' hf=>by
    have:=hh (i+1) f' (by simpa using hf);simpa using this
   rw[List.flatten_cons,←ih,←e2,ho,←List.drop_drop,List.take_append_drop]
  ·cases h
theorem hZI {enc:TypeId×Value→Unit}{P:Program}{w:World}{base:Nat}{sp:Nat→Bool}{held:Bool}:∀(f:Nat) {fuel:Nat} {t:TypeId} {cs:List Value} {d:DataW Unit} {p:List MemPlace},
  jZk P f t=true→DataW.trod enc P w base sp held fuel t cs=some (d,p)→cs=flatF f d
 |0,_,_,_,_,_,h,_=>by cases h
 |f+1,fuel,t,cs,d,p,h,ht=>by
  unfold jZk at h;split at h
  ·rename_i k hu
   obtain⟨n,rfl,e,_⟩:=DataW.trod_int hu ht;cases e;rfl
  ·rename_i hu
   obtain⟨s,rfl,e,_⟩:=DataW.trod_string hu ht;cases e;simp[flatF]
  ·rename_i hu
   obtain⟨b,rfl,e⟩:=DataW.trod_bool hu ht;cases e;rfl
  ·rename_i n e hu
   simp only[Bool.and_eq_true,beq_iff_eq]at h;obtain⟨xs,m,_,ex,hl,hn,hel⟩:=DataW.trod_array hu ht;cases ex;show cs=(((xs.map (·.1))).map (flatF f)).flatten
   refine chunks (P.cellsOf e) n cs _ (by rw[hl,h.2]) (by simpa using hn) fun i hi=>?_
   have hi':i<xs.length:=by simpa using hi
   have h1:=hel i (by omega);rw[List.getElem?_eq_getElem hi']at h1;have:=hZI f (d:=xs[i].1) (p:=xs[i].2) h.1 h1;rw[this];simp
  ·rename_i fs hu
   simp only[Bool.and_eq_true,beq_iff_eq]at h;obtain⟨xs,m,_,ex,hl,hn,hel⟩:=DataW.trod_struct hu ht;cases ex;show cs=(((xs.map (·.1))).map (flatF f)).flatten
   have:=lZg fs.toList (((xs.map (·.1))).map (flatF f)) 0 _ cs h.2 hl (by simpa using hn) fun i fd hi=>by
    have hi2:fs[i]? =some fd:=by simpa using hi
    have h1:=hel i fd hi2;have hi':i<xs.length:=by
     rw[hn];exact(Array.getElem?_eq_some_iff.1 hi2).1
    rw[List.getElem?_eq_getElem hi']at h1;have hall:=List.all_eq_true.1 h.1 fd (List.mem_of_getElem? hi);exact⟨flatF f xs[i].1,by simp[hi'],hZI f (d:=xs[i].1) (p:=xs[i].2) hall h1⟩
   rw[List.drop_zero]at this;exact this
  ·cases h
theorem laid_at {P:Program}{W:World}{name:String}{d:DataW Unit}{g:Nat}{t:TypeId}(hg:P.globalNamed name=some g)(hty:(P.globals[g]?).map (·.type)=some t)(ho:jZk P 9 t=true):
  ∀{l:List (String×DataW Unit)} (i:Nat),laidMet P l W→l[i]? =some (name,d)→Cells (Full W) (some ⟨g,0,none⟩) (flatF 9 d)
 | [],i,_,h=>by simp at h
 |x::l,0,hL,h=>by
  simp only[List.getElem?_cons_zero,Option.some.injEq]at h;subst h;obtain⟨ps,⟨g',t',cs,fuel,p,q,hg',ht',hvar,hd,_,_⟩,_⟩:=hL;obtain rfl:=Option.some.inj (hg.symm.trans hg');obtain rfl:=Option.some.inj (hty.symm.trans ht');have e:=hZI 9 ho hd;intro j v hj;refine⟨_,rfl,?_⟩;rw[← e]at hj;have:=World.var?_cell hg hvar j;rw[Addr.add_lit',Nat.zero_add];refine Full.cell ?_;rw[this];simpa using hj
 |x::l,i+1,hL,h=>laid_at hg hty ho i hL.tail (by simpa using h)
theorem Cells.block {H:Hp}{g:Nat}{v:Value}{vs:List Value}(h:Cells H (some ⟨g,0,none⟩) (v::vs)):∃ o,H g=some o:=by
 obtain⟨a,ha,hc⟩:=h 0 v rfl;cases ha;unfold Hp.cell? at hc;rw[Addr.add_lit']at hc;cases e:H g with
 |none=>simp only[e]at hc;cases hc
 |some o=>exact⟨o,rfl⟩
section
variable {L : List As} {H : Hp}
theorem Sep.ldf (h:Sep L H)(i:Nat){b j:Nat}{c:Array Value}{e:TypeId}{v:Value}{K:Value→Prop}(hi:L[i]? =some (pts b (.obj (.cells c e))))(hv:jZp c.toList j=some v)(k:K v):Ld H ((⟨b,0,none⟩:Addr).add j) K:=by
 rw[Addr.add_lit',Nat.zero_add];exact h.ld i hi hv k
theorem Sep.ldg (h:Sep L H)(i:Nat){b j k:Nat}{c:Array Value}{e:TypeId}{v:Value}{K:Value→Prop}(hi:L[i]? =some (pts b (.obj (.cells c e))))(hv:jZp c.toList (j+k)=some v)(kk:K v):Ld H (((⟨b,0,none⟩:Addr).add j).add k) K:=by
 rw[Addr.add_lit',Addr.add_lit',Nat.zero_add];exact h.ld i hi hv kk
theorem Sep.stf (h:Sep L H)(i:Nat){b j:Nat}{c:Array Value}{e:TypeId}{v:Value}{K:Hp→Prop}(hi:L[i]? =some (pts b (.obj (.cells c e))))(hj:j<c.size)(hv:v.oneCell'=true)
  (k:∀ H',Sep (L.set i (pts b (.obj (.cells (c.setIfInBounds j v) e)))) H'→K H'):St H (((⟨b,0,none⟩:Addr).add j).add 0) v K:=by
 rw[Addr.add_lit',Addr.add_lit',Nat.zero_add,Nat.add_zero];exact h.st i hi hj hv k
end
end Go.Hw
namespace Go.Proofs.YtahjgjaenegpgaaGreatDoor.W
open Go Go.Hw
theorem bZI :Tryz.prog.follows .mixedOrders=true:=by kernel_rfl
def cZx.q1 (H7:Hp)(b1:Nat)(K:Value→Hp→Prop):Prop:=
 StA H7 ⟨b1,0,none⟩ #[.int .u64 0,.int .i64 0,.int .i64 0,.int .i64 0,.int .i64 0,.int .u32 0,.int .u32 0,.int .u32 0] 8 fun H8=>LdA H8 ⟨b1,0,none⟩ 8 fun l7=>K (.tuple #[.agg l7.toArray,.int .i64 10]) H8
def cZx (A1:Option Addr)(n1:Nat)(m1:Nat)(H:Hp)(K:Value→Hp→Prop):Prop:=
 Nw H (.obj (.cells #[.int .u64 0,.int .i64 0,.int .i64 0,.int .i64 0,.int .i64 0,.int .u32 0,.int .u32 0,.int .u32 0] 93)) fun b1 H1=>HcB 152 #[.int .i64 (n1:Int)] H1 fun c1 H2=>BIf (!c1) (StA H2 ⟨b1,0,none⟩ #[.int .u64 0,.int .i64 0,.int .i64 0,.int .i64 0,.int .i64 0,.int .u32 0,.int .u32 0,.int .u32 0] 8 fun H3=>LdA H3 ⟨b1,0,none⟩ 8 fun l6=>K (.tuple #[.agg l6.toArray,.int .i64 15]) H3) (Hz 153 #[.slice A1 n1 m1] H2 fun v2 H4=>tZg v2 fun A2 n2 m2 c2=>(HcA 154 #[.slice A2 n2 m2] H4 fun y1 H5=>Nw H5 (.obj (.cells #[.int .u64 0,.int .i64 0,.int .i64 0,.int .i64 0,.int .i64 0,.int .u32 0,.int .u32 0,.int .u32 0] 93)) fun b2 H6=>StA H6 ⟨b2,0,none⟩ y1 8 fun H7=>ixI 0 n2 (NN A2 fun a1=>LeW H7 (a1.add ((0:Int).toNat*1)) fun x1=>(0≤(48:Int)∧BIf ((aZE .u64 x1 48) !=21061) (cZx.q1 H7 b1 K) (BIf (!c2) (cZx.q1 H7 b1 K) (ixI 3 n2 (NN A2 fun a2=>LeW H7 (a2.add ((3:Int).toNat*1)) fun x2=>slB n2 m2 none (some 3) fun n3 n4=>QcW 155 #[.slice (slA A2 m2 n3 1) (n4-n3) (m2-n3)] H7 fun x3=>BIf (x2 !=x3) (StA H7 ⟨b1,0,none⟩ #[.int .u64 0,.int .i64 0,.int .i64 0,.int .i64 0,.int .i64 0,.int .u32 0,.int .u32 0,.int .u32 0] 8 fun H10=>LdA H10 ⟨b1,0,none⟩ 8 fun l9=>K (.tuple #[.agg l9.toArray,.int .i64 9]) H10) (LdA H7 ⟨b2,0,none⟩ 8 fun l4=>HcB 156 #[.agg l4.toArray] H7 fun c3 H11=>BIf (!c3) (StA H11 ⟨b1,0,none⟩ #[.int .u64 0,.int .i64 0,.int .i64 0,.int .i64 0,.int .i64 0,.int .u32 0,.int .u32 0,.int .u32 0] 8 fun H12=>LdA H12 ⟨b1,0,none⟩ 8 fun l10=>K (.tuple #[.agg l10.toArray,.int .i64 1]) H12) (LdA H11 ⟨b2,0,none⟩ 8 fun l5=>StA H11 ⟨b1,0,none⟩ l5.toArray 8 fun H13=>LdA H13 ⟨b1,0,none⟩ 8 fun l11=>K (.tuple #[.agg l11.toArray,.int .i64 0]) H13)))))))))
theorem cZx.ok (A1:Option Addr)(n1:Nat)(m1:Nat)(H:Hp)(K:Value→Hp→Prop)(h:cZx A1 n1 m1 H K):Zc Tryz.prog 108 #[.slice A1 n1 m1] H K:=
 Zr Tryz.func108 rfl (nbl rfl) (Zf (Λ:=Zn.none (fun _=>none)) bZI _ _ _ _ _ (Eq.mp (by kernel_rfl) h) (Zt _ _ _ _ _))
def eZb (y1:Array Value)(x1:Int)(H:Hp)(K:Value→Hp→Prop):Prop:=
 Nw H (.obj (.cells y1 93)) fun b1 H1=>LdA H1 ⟨b1,0,none⟩ 8 fun l1=>HcB 156 #[.agg l1.toArray] H1 fun c1 H2=>BIf (!c1) (K (.tuple #[.slice none 0 0,.int .i64 1]) H2) (HcB 152 #[.int .i64 x1] H2 fun c2 H3=>BIf (!c2) (K (.tuple #[.slice none 0 0,.int .i64 1]) H3) (LdA H3 ⟨b1,0,none⟩ 8 fun l2=>HcS 178 #[.agg l2.toArray] H3 fun A1 n1 m1 H4=>MkS Tryz.prog 5 x1 x1 H4 fun v4 H5=>DSl v4 fun A2 n2 m2=>HcW 155 #[.slice A1 n1 m1] H5 fun x2 H6=>Nw H6 (.row [.int .u64 x2] 84 1) fun b2 H7=>cZ7 Tryz.prog 84 (.slice A1 n1 m1) (.slice (some ⟨b2,0,none⟩) 1 1) H7 fun v6 H8=>DSl v6 fun A3 n3 m3=>HcS 140 #[.slice A3 n3 m3] H8 fun A4 n4 m4 H9=>CpK Tryz.prog 5 (.slice A2 n2 m2) (.slice A4 n4 m4) H9 fun v8 H10=>DI .i64 v8 fun x3=>K (.tuple #[.slice A2 n2 m2,.int .i64 0]) H10))
theorem eZb.ok (y1:Array Value)(x1:Int)(H:Hp)(K:Value→Hp→Prop)(h:eZb y1 x1 H K):Zc Tryz.prog 133 #[.agg y1,.int .i64 x1] H K:=
 Zr Tryz.func133 rfl (nbl rfl) (Zf (Λ:=Zn.none (fun _=>none)) bZI _ _ _ _ _ (Eq.mp (by kernel_rfl) h) (Zt _ _ _ _ _))
def eZ1 (y1:Array Value)(y2:Array Value)(H:Hp)(K:Value→Hp→Prop):Prop:=
 Nw H (.obj (.cells y1 93)) fun b1 H1=>Nw H1 (.obj (.cells y2 93)) fun b2 H2=>LdA H2 ⟨b1,0,none⟩ 8 fun l1=>HcB 156 #[.agg l1.toArray] H2 fun c1 H3=>BIf (!c1) (K (.bool false) H3) (LdA H3 ⟨b2,0,none⟩ 8 fun l2=>HcB 156 #[.agg l2.toArray] H3 fun c2 H4=>BIf (!c2) (K (.bool false) H4) (LeW H4 ((⟨b2,0,none⟩:Addr).add 0) fun x1=>LeW H4 ((⟨b1,0,none⟩:Addr).add 0) fun x2=>BIf (x1 !=(IntKind.u64.wrap (x2+1))) (K (.bool false) H4) (LeI H4 ((⟨b2,0,none⟩:Addr).add 1) fun x3=>BIf (x3==1) (K (.bool true) H4) (BIf (x3==2) (LeI H4 ((⟨b1,0,none⟩:Addr).add 1) fun x4=>BIf (x4==1) (LeU H4 ((⟨b1,0,none⟩:Addr).add 5) fun x5=>LeU H4 ((⟨b2,0,none⟩:Addr).add 5) fun x6=>BIf (x5==x6) (LeI H4 ((⟨b1,0,none⟩:Addr).add 2) fun x7=>LeI H4 ((⟨b2,0,none⟩:Addr).add 2) fun x8=>K (.bool (x7==x8)) H4) (K (.bool false) H4)) (K (.bool false) H4)) (BIf (x3==3) (LeI H4 ((⟨b1,0,none⟩:Addr).add 1) fun x9=>BIf (x9 !=1) (LdA H4 ⟨b1,0,none⟩ 8 fun l3=>LdA H4 ⟨b2,0,none⟩ 8 fun l4=>HcB 179 #[.agg l3.toArray,.agg l4.toArray] H4 fun c3 H5=>BIf c3 (LeU H5 ((⟨b2,0,none⟩:Addr).add 7) fun x10=>K (.bool (x10==0)) H5) (K (.bool false) H5)) (K (.bool false) H4)) (LeI H4 ((⟨b1,0,none⟩:Addr).add 1) fun x11=>BIf (decide (x11≥3)) (LdA H4 ⟨b1,0,none⟩ 8 fun l5=>LdA H4 ⟨b2,0,none⟩ 8 fun l6=>HcB 179 #[.agg l5.toArray,.agg l6.toArray] H4 fun c4 H6=>BIf c4 (LeI H6 ((⟨b1,0,none⟩:Addr).add 3) fun x12=>LeI H6 ((⟨b2,0,none⟩:Addr).add 3) fun x13=>BIf (x12==x13) (LeI H6 ((⟨b2,0,none⟩:Addr).add 4) fun x14=>LeI H6 ((⟨b1,0,none⟩:Addr).add 4) fun x15=>K (.bool (x14==(IntKind.i64.wrap (x15+1)))) H6) (K (.bool false) H6)) (K (.bool false) H6)) (K (.bool false) H4)))))))
theorem eZ1.ok (y1:Array Value)(y2:Array Value)(H:Hp)(K:Value→Hp→Prop)(h:eZ1 y1 y2 H K):Zc Tryz.prog 134 #[.agg y1,.agg y2] H K:=
 Zr Tryz.func134 rfl (nbl rfl) (Zf (Λ:=Zn.none (fun _=>none)) bZI _ _ _ _ _ (Eq.mp (by kernel_rfl) h) (Zt _ _ _ _ _))
def cZ1 (x1:Int)(H:Hp)(K:Value→Hp→Prop):Prop:=
 Hz 137 #[.int .i64 0,.int .i64 x1] H fun v1 H1=>jZb v1 fun x2 x3=>(K (.bool (x3==0)) H1)
theorem cZ1.ok (x1:Int)(H:Hp)(K:Value→Hp→Prop)(h:cZ1 x1 H K):Zc Tryz.prog 152 #[.int .i64 x1] H K:=
 Zr Tryz.func152 rfl (nbl rfl) (Zf (Λ:=Zn.none (fun _=>none)) bZI _ _ _ _ _ (Eq.mp (by kernel_rfl) h) (Zt _ _ _ _ _))
def aZ0.l2 (K:Value→Hp→Prop):Nat→Option Addr→Nat→Nat→Option Addr→Nat→Nat→Int→Hp→Prop
 |0,_,_,_,_,_,_,_,_=>False
 |k+1,A2,n2,m2,A3,n3,m3,x1,H=>
  let R2:=aZ0.l2 K k
  BIf (decide (x1<4)) (Hz 103 #[.slice A2 n2 m2,.int .i64 x1] H fun v1 H1=>gZ6 v1 fun x2 x3=>(Nw H1 (.row [.int .u64 x2] 84 1) fun b1 H2=>cZ7 Tryz.prog 84 (.slice A3 n3 m3) (.slice (some ⟨b1,0,none⟩) 1 1) H2 fun v4 H3=>DSl v4 fun A4 n4 m4=>R2 A2 n2 m2 A4 n4 m4 (IntKind.i64.wrap (x1+1)) H3)) (slB n2 m2 (some 32) none fun n5 n6=>BsK H (slA A2 m2 n5 1) (n6-n5) fun s1=>HcT 196 #[.string s1,.string (⟨#[0]⟩)] H fun s2 H4=>K (.tuple #[.slice A3 n3 m3,.bool (s2.toList==((⟨#[]⟩):ByteArray).toList)]) H4)
def aZ0 (A1:Option Addr)(n1:Nat)(m1:Nat)(H:Hp)(K:Value→Hp→Prop):Prop:=
 (∃ k,aZ0.l2 K k A1 n1 m1 none 0 0 0 H)
def aZ0.l2.L (K:Value→Hp→Prop)(k:Nat):Mid:=fun E D H=>
 DG (E.get? 0) fun w0=>DSl w0 fun A2 n2 m2=>DG (E.get? 2) fun w2=>DSl w2 fun A3 n3 m3=>eI E 7 .i64 fun x1=>Zo D (aZ0.l2 K k A2 n2 m2 A3 n3 m3 x1 H)
def aZ0.Λ2 (_:Value→Hp→Prop)(_R2:Option Addr→Nat→Nat→Option Addr→Nat→Nat→Int→Hp→Prop):Zn:=Zn.none (fun _=>none)
def aZ0.Λ (K:Value→Hp→Prop):Zn:=⟨fun i=>none,fun i=>match Nat.beq i 2 with|true=>some (fun E D H=>∃ k,aZ0.l2.L K k E D H)|false=>none,(fun _=>none)⟩
theorem aZ0.ok (A1:Option Addr)(n1:Nat)(m1:Nat)(H:Hp)(K:Value→Hp→Prop)(h:aZ0 A1 n1 m1 H K):Zc Tryz.prog 153 #[.slice A1 n1 m1] H K:=
 Zr Tryz.func153 rfl (nbl rfl) (Zf (Λ:=(aZ0.Λ K)) bZI _ _ _ _ _ (Eq.mp (by kernel_rfl) h) (Zb Za rfl (Zb (Zb Za rfl (Zu (ZZ rfl (fun E D H h=>by
   refine Safe.loop' (aZ0.l2.L K) (fun E D H h=>?_) (fun k E D H h=>?_) E D H h
   ·obtain⟨w0,e0,g1⟩:=DG.out h;obtain⟨A2,n2,m2,rfl,g2⟩:=DSl.out g1;obtain⟨w2,e2,g3⟩:=DG.out g2;obtain⟨A3,n3,m3,rfl,g4⟩:=DSl.out g3;obtain⟨w7,e7,g5⟩:=DG.out g4;obtain⟨x1,rfl,g6⟩:=DI.out g5;obtain⟨rfl,h'⟩:=Zo.out g6;exact h'
   ·obtain⟨w0,e0,g1⟩:=DG.out h;obtain⟨A2,n2,m2,rfl,g2⟩:=DSl.out g1;obtain⟨w2,e2,g3⟩:=DG.out g2;obtain⟨A3,n3,m3,rfl,g4⟩:=DSl.out g3;obtain⟨x1,e7,g6⟩:=GI g4;obtain⟨rfl,h'⟩:=Zo.out g6;exact(Zf (Λ:=(aZ0.Λ2 K (aZ0.l2 K k))) bZI _ _ [(0,.slice A2 n2 m2),(2,.slice A3 n3 m3),(7,.int .i64 x1)] [] H (Eq.mp (by kernel_rfl) h') (Zb Za rfl (Zb (Zk Zl ZS) rfl (Zb (Zu (Zb Za rfl (Zb Za rfl Za))) rfl Za)))).weaken (Ze.cons e0 (Ze.cons e2 (Ze.cons e7 (Ze.nil _)))) (Hp.le_refl _))))) rfl (Zb Za rfl Zy))))
def gZO (A1:Option Addr)(n1:Nat)(m1:Nat)(H:Hp)(K:Value→Hp→Prop):Prop:=
 Nw H (.obj (.cells #[.int .u64 0,.int .i64 0,.int .i64 0,.int .i64 0,.int .i64 0,.int .u32 0,.int .u32 0,.int .u32 0] 93)) fun b1 H1=>ixI 0 n1 (NN A1 fun a1=>LeW H1 (a1.add ((0:Int).toNat*1)) fun x1=>ixI 1 n1 (NN A1 fun a2=>LeW H1 (a2.add ((1:Int).toNat*1)) fun x2=>ixI 1 n1 (NN A1 fun a3=>LeW H1 (a3.add ((1:Int).toNat*1)) fun x3=>(0≤(8:Int)∧ixI 1 n1 (NN A1 fun a4=>LeW H1 (a4.add ((1:Int).toNat*1)) fun x4=>(0≤(16:Int)∧ixI 1 n1 (NN A1 fun a5=>LeW H1 (a5.add ((1:Int).toNat*1)) fun x5=>(0≤(24:Int)∧ixI 1 n1 (NN A1 fun a6=>LeW H1 (a6.add ((1:Int).toNat*1)) fun x6=>(0≤(32:Int)∧ixI 2 n1 (NN A1 fun a7=>LeW H1 (a7.add ((2:Int).toNat*1)) fun x7=>(0≤(32:Int)∧ixI 2 n1 (NN A1 fun a8=>LeW H1 (a8.add ((2:Int).toNat*1)) fun x8=>StA H1 ⟨b1,0,none⟩ #[.int .u64 (aZF .u64 x1 281474976710655),.int .i64 (IntKind.i64.wrap (aZF .u64 x2 255)),.int .i64 (IntKind.i64.wrap (aZF .u64 (aZE .u64 x4 16) 255)),.int .i64 (IntKind.i64.wrap (aZF .u64 (aZE .u64 x3 8) 255)),.int .i64 (IntKind.i64.wrap (aZF .u64 (aZE .u64 x5 24) 255)),.int .u32 (IntKind.u32.wrap (aZE .u64 x6 32)),.int .u32 (IntKind.u32.wrap (aZE .u64 x7 32)),.int .u32 (IntKind.u32.wrap x8)] 8 fun H2=>LdA H2 ⟨b1,0,none⟩ 8 fun l1=>K (.agg l1.toArray) H2)))))))))))))
theorem gZO.ok (A1:Option Addr)(n1:Nat)(m1:Nat)(H:Hp)(K:Value→Hp→Prop)(h:gZO A1 n1 m1 H K):Zc Tryz.prog 154 #[.slice A1 n1 m1] H K:=
 Zr Tryz.func154 rfl (nbl rfl) (Zf (Λ:=Zn.none (fun i=>match Nat.beq i 1 with|true=>some ([],[0,1,2,3,4,5,6,7,8,9,10,11,12,13,14,15,16,17,18,19,20,21,22,23,24,25,26,27,28,29,30,31,32,33,34,35,36,37,38,39,40,41],42)|false=>none)) bZI _ _ _ _ _ (Eq.mp (by kernel_rfl) h) (Zt _ _ _ _ _))
def fZz (A1:Option Addr)(n1:Nat)(m1:Nat)(H:Hp)(K:Value→Hp→Prop):Prop:=
 HcU 105 #[.slice A1 n1 m1] H fun x1 H1=>Nw H1 (.row [.int .u64 (IntKind.u64.wrap (eZO .u32 IntKind.u32.max x1)),.int .u64 32,.int .u64 (IntKind.u64.wrap x1),.int .u64 0] 288 4) fun b1 H2=>HcW 197 #[.slice (some ⟨b1,0,none⟩) 2 2] H2 fun x2 H3=>K (.int .u64 x2) H3
theorem fZz.ok (A1:Option Addr)(n1:Nat)(m1:Nat)(H:Hp)(K:Value→Hp→Prop)(h:fZz A1 n1 m1 H K):Zc Tryz.prog 155 #[.slice A1 n1 m1] H K:=
 Zr Tryz.func155 rfl (nbl rfl) (Zf (Λ:=Zn.none (fun _=>none)) bZI _ _ _ _ _ (Eq.mp (by kernel_rfl) h) (Zt _ _ _ _ _))
def bZx.j10 (K:Value→Hp→Prop)(a1:Addr)(H:Hp):Prop:=
 LeI H (a1.add 4) fun x8=>BIf (x8==0) (LeI H (a1.add 3) fun x9=>BIf (x9==0) (LeU H (a1.add 7) fun x10=>K (.bool (x10==0)) H) (K (.bool false) H)) (K (.bool false) H)
def bZx (y1:Array Value)(H:Hp)(K:Value→Hp→Prop):Prop:=
 Nw H (.obj (.cells y1 93)) fun b1 H1=>LeW H1 ((⟨b1,0,none⟩:Addr).add 0) fun x1=>BIf (decide (x1<1)) (K (.bool false) H1) (LeW H1 ((⟨b1,0,none⟩:Addr).add 0) fun x2=>BIf (decide (x2≥281474976710656)) (K (.bool false) H1) (LeI H1 ((⟨b1,0,none⟩:Addr).add 2) fun x3=>BIf (decide (x3<0)) (K (.bool false) H1) (LeI H1 ((⟨b1,0,none⟩:Addr).add 2) fun x4=>BIf (decide (x4>32)) (K (.bool false) H1) (LeI H1 ((⟨b1,0,none⟩:Addr).add 3) fun x5=>HcB 198 #[.int .i64 x5] H1 fun c1 H2=>BIf (!c1) (K (.bool false) H2) (LeI H2 ((⟨b1,0,none⟩:Addr).add 1) fun x6=>BIf (x6==1) (LeU H2 ((⟨b1,0,none⟩:Addr).add 6) fun x7=>BIf (x7 !=0) (K (.bool false) H2) (bZx.j10 K ⟨b1,0,none⟩ H2)) (BIf (x6==2) (bZx.j10 K ⟨b1,0,none⟩ H2) (BIf (x6==3) (LeI H2 ((⟨b1,0,none⟩:Addr).add 4) fun x11=>K (.bool (x11==0)) H2) (BIf (x6==4) (LeI H2 ((⟨b1,0,none⟩:Addr).add 4) fun x12=>BIf (decide (x12≥1)) (LeI H2 ((⟨b1,0,none⟩:Addr).add 4) fun x13=>K (.bool (decide (x13≤(7:Int)))) H2) (K (.bool false) H2)) (K (.bool false) H2)))))))))
def bZx.Λ (K:Value→Hp→Prop):Zn:=⟨fun i=>match Nat.beq i 10 with|true=>some (fun E D H=>eN E 1 fun a1=>Zo D (bZx.j10 K a1 H))|false=>none,fun i=>none,(fun _=>none)⟩
theorem bZx.ok (y1:Array Value)(H:Hp)(K:Value→Hp→Prop)(h:bZx y1 H K):Zc Tryz.prog 156 #[.agg y1] H K:=
 Zr Tryz.func156 rfl (nbl rfl) (Zf (Λ:=(bZx.Λ K)) bZI _ _ _ _ _ (Eq.mp (by kernel_rfl) h) (Zb Za rfl (Zb (Zb Za rfl (Zk (Zb Za rfl Zy) Zl)) rfl (Zb (Zb Za rfl (Zu (Zb (Zu (Zb (Zu (aZH (Zu (Zb (Zu (Zb (Zb (Zb Za rfl (Zk ZS Zl)) rfl (Zb (Zb Za rfl (Zk ZS Zl)) rfl (Zb (Zb Za rfl (Zk ZS Zl)) rfl (Zb Za rfl (Zk ZS Zl))))) rfl ZS)) rfl (Zb Za rfl (Zk (Zb Za rfl Zy) Zl)))) rfl (fun E D H h=>by
   obtain⟨a1,e1,g3⟩:=GN h;obtain⟨rfl,h'⟩:=Zo.out g3;exact(Zf (Λ:=(bZx.Λ K)) bZI _ _ [(1,.pointer (some a1))] [] H (Eq.mp (by kernel_rfl) h') (Zb (Zb Za rfl Zy) rfl ZS)).weaken (Ze.cons e1 (Ze.nil _)) (Hp.le_refl _)))) rfl (Zb (Zb Za rfl Zy) rfl ZS))) rfl (Zb (Zb Za rfl Zy) rfl ZS)))) rfl (Zb Za rfl Zy)))))
def aZJ.q1 (b4:Nat)(H4:Hp)(x9:Int)(x10:Int)(K:Value→Hp→Prop):Prop:=
 QcW 197 #[.slice (some ⟨b4,0,none⟩) 2 2] H4 fun x11=>Nw H4 (.row [.int .u64 x9,.int .u64 x10,.int .u64 x11] 84 3) fun b5 H5=>K (.slice (some ⟨b5,0,none⟩) 3 3) H5
def aZJ.q2 (H6:Hp)(x2:Int)(x3:Int)(x4:Int)(x5:Int)(x6:Int)(b6:Nat)(x9:Int)(K:Value→Hp→Prop):Prop:=
 Nw H6 (.row [.int .u64 (IntKind.u64.wrap x2),.int .u64 32,.int .u64 (IntKind.u64.wrap x3),.int .u64 24,.int .u64 (IntKind.u64.wrap x4),.int .u64 16,.int .u64 (IntKind.u64.wrap x5),.int .u64 8,.int .u64 (IntKind.u64.wrap x6),.int .u64 0] 288 10) fun b7 H7=>QcW 197 #[.slice (some ⟨b7,0,none⟩) 5 5] H7 fun x12=>aZJ.q1 b6 H7 x9 x12 K
def aZJ.q3 (H13:Hp)(x1:Int)(b9:Nat)(b13:Nat)(K:Value→Hp→Prop):Prop:=
 Nw H13 (.row [.int .u64 21061,.int .u64 48,.int .u64 x1,.int .u64 0] 288 4) fun b14 H14=>QcW 197 #[.slice (some ⟨b14,0,none⟩) 2 2] H14 fun x17=>QcW 197 #[.slice (some ⟨b9,0,none⟩) 5 5] H14 fun x18=>aZJ.q1 b13 H14 x17 x18 K
def aZJ.q4 (b3:Nat)(H3:Hp)(x7:Int)(x8:Int)(x9:Int)(K:Value→Hp→Prop):Prop:=
 QcW 197 #[.slice (some ⟨b3,0,none⟩) 5 5] H3 fun x10=>Nw H3 (.row [.int .u64 (IntKind.u64.wrap x7),.int .u64 32,.int .u64 (IntKind.u64.wrap x8),.int .u64 0] 288 4) fun b4 H4=>aZJ.q1 b4 H4 x9 x10 K
def aZJ (y1:Array Value)(H:Hp)(K:Value→Hp→Prop):Prop:=
 Nw H (.obj (.cells y1 93)) fun b1 H1=>LeW H1 ((⟨b1,0,none⟩:Addr).add 0) fun x1=>LeU H1 ((⟨b1,0,none⟩:Addr).add 5) fun x2=>LeI H1 ((⟨b1,0,none⟩:Addr).add 4) fun x3=>LeI H1 ((⟨b1,0,none⟩:Addr).add 2) fun x4=>LeI H1 ((⟨b1,0,none⟩:Addr).add 3) fun x5=>LeI H1 ((⟨b1,0,none⟩:Addr).add 1) fun x6=>LeU H1 ((⟨b1,0,none⟩:Addr).add 6) fun x7=>LeU H1 ((⟨b1,0,none⟩:Addr).add 7) fun x8=>(Nw H1 (.row [.int .u64 21061,.int .u64 48,.int .u64 x1,.int .u64 0] 288 4) fun b2 H2=>QcW 197 #[.slice (some ⟨b2,0,none⟩) 2 2] H2 fun x9=>(Nw H2 (.row [.int .u64 (IntKind.u64.wrap x2),.int .u64 32,.int .u64 (IntKind.u64.wrap x3),.int .u64 24,.int .u64 (IntKind.u64.wrap x4),.int .u64 16,.int .u64 (IntKind.u64.wrap x5),.int .u64 8,.int .u64 (IntKind.u64.wrap x6),.int .u64 0] 288 10) fun b3 H3=>aZJ.q4 b3 H3 x7 x8 x9 K)∧(Nw H2 (.row [.int .u64 (IntKind.u64.wrap x7),.int .u64 32,.int .u64 (IntKind.u64.wrap x8),.int .u64 0] 288 4) fun b6 H6=>aZJ.q2 H6 x2 x3 x4 x5 x6 b6 x9 K))∧(Nw H1 (.row [.int .u64 (IntKind.u64.wrap x2),.int .u64 32,.int .u64 (IntKind.u64.wrap x3),.int .u64 24,.int .u64 (IntKind.u64.wrap x4),.int .u64 16,.int .u64 (IntKind.u64.wrap x5),.int .u64 8,.int .u64 (IntKind.u64.wrap x6),.int .u64 0] 288 10) fun b9 H9=>(Nw H9 (.row [.int .u64 21061,.int .u64 48,.int .u64 x1,.int .u64 0] 288 4) fun b10 H10=>QcW 197 #[.slice (some ⟨b10,0,none⟩) 2 2] H10 fun x14=>aZJ.q4 b9 H10 x7 x8 x14 K)∧(Nw H9 (.row [.int .u64 (IntKind.u64.wrap x7),.int .u64 32,.int .u64 (IntKind.u64.wrap x8),.int .u64 0] 288 4) fun b13 H13=>aZJ.q3 H13 x1 b9 b13 K))∧(Nw H1 (.row [.int .u64 (IntKind.u64.wrap x7),.int .u64 32,.int .u64 (IntKind.u64.wrap x8),.int .u64 0] 288 4) fun b16 H16=>(Nw H16 (.row [.int .u64 21061,.int .u64 48,.int .u64 x1,.int .u64 0] 288 4) fun b17 H17=>QcW 197 #[.slice (some ⟨b17,0,none⟩) 2 2] H17 fun x20=>aZJ.q2 H17 x2 x3 x4 x5 x6 b16 x20 K)∧(Nw H16 (.row [.int .u64 (IntKind.u64.wrap x2),.int .u64 32,.int .u64 (IntKind.u64.wrap x3),.int .u64 24,.int .u64 (IntKind.u64.wrap x4),.int .u64 16,.int .u64 (IntKind.u64.wrap x5),.int .u64 8,.int .u64 (IntKind.u64.wrap x6),.int .u64 0] 288 10) fun b20 H20=>aZJ.q3 H20 x1 b20 b16 K))
theorem aZJ.ok (y1:Array Value)(H:Hp)(K:Value→Hp→Prop)(h:aZJ y1 H K):Zc Tryz.prog 178 #[.agg y1] H K:=
 Zr Tryz.func178 rfl (nbl rfl) (Zf (Λ:=Zn.none (fun i=>match Nat.beq i 1 with|true=>some ([2,5,7,8,11,12,15,16,19,20,23,24,27,29,30,33,34,37],[0,0,2,6,15,31,0,64,192,448,0,1024,3072,7168,0,16384,49152,114688,0,262144,786432,1835008,0,4194304,12582912,29360128,67108800,134217727,0,268435456,805306368,1879048192,0,4294967296,12884901888,30064771072,68451041280,137438953471,274877906943,549755813887],0)|false=>none)) bZI _ _ _ _ _ (Eq.mp (by kernel_rfl) h) (Zt _ _ _ _ _))
def fZy (y1:Array Value)(y2:Array Value)(H:Hp)(K:Value→Hp→Prop):Prop:=
 Nw H (.obj (.cells y1 93)) fun b1 H1=>Nw H1 (.obj (.cells y2 93)) fun b2 H2=>LeU H2 ((⟨b1,0,none⟩:Addr).add 5) fun x1=>LeU H2 ((⟨b2,0,none⟩:Addr).add 5) fun x2=>BIf (x1==x2) (LeI H2 ((⟨b1,0,none⟩:Addr).add 2) fun x3=>LeI H2 ((⟨b2,0,none⟩:Addr).add 2) fun x4=>BIf (x3==x4) (LeU H2 ((⟨b1,0,none⟩:Addr).add 6) fun x5=>LeU H2 ((⟨b2,0,none⟩:Addr).add 6) fun x6=>K (.bool (x5==x6)) H2) (K (.bool false) H2)) (K (.bool false) H2)
theorem fZy.ok (y1:Array Value)(y2:Array Value)(H:Hp)(K:Value→Hp→Prop)(h:fZy y1 y2 H K):Zc Tryz.prog 179 #[.agg y1,.agg y2] H K:=
 Zr Tryz.func179 rfl (nbl rfl) (Zf (Λ:=Zn.none (fun _=>none)) bZI _ _ _ _ _ (Eq.mp (by kernel_rfl) h) (Zt _ _ _ _ _))
def aZT.l3 (K:Value→Hp→Prop):Nat→Int→Option Addr→Nat→Nat→Int→Int→Hp→Prop
 |0,_,_,_,_,_,_,_=>False
 |k+1,x1,A2,n2,m2,x2,x3,H=>
  let R3:=aZT.l3 K k
  BIf (decide (x3<x2)) (ixI x3 n2 (NN A2 fun a1=>LdA H (a1.add (x3.toNat*2)) 2 fun l1=>Nw H (.obj (.cells #[.int .u64 0,.int .u64 0] 288)) fun b1 H1=>StA H1 ⟨b1,0,none⟩ l1.toArray 2 fun H2=>LeW H2 ((⟨b1,0,none⟩:Addr).add 0) fun x4=>LeW H2 ((⟨b1,0,none⟩:Addr).add 1) fun x5=>(0≤x5∧R3 (bOr .u64 x1 (aZY .u64 x4 x5)) A2 n2 m2 x2 (IntKind.i64.wrap (x3+1)) H2))) (K (.int .u64 x1) H)
def aZT (A1:Option Addr)(n1:Nat)(m1:Nat)(H:Hp)(K:Value→Hp→Prop):Prop:=
 (∃ k,aZT.l3 K k 0 A1 n1 m1 (n1:Int) 0 H)
def aZT.l3.L (K:Value→Hp→Prop)(k:Nat):Mid:=fun E D H=>
 eI E 3 .u64 fun x1=>DG (E.get? 6) fun w6=>DSl w6 fun A2 n2 m2=>eI E 7 .i64 fun x2=>eI E 8 .i64 fun x3=>Zo D (aZT.l3 K k x1 A2 n2 m2 x2 x3 H)
def aZT.Λ3 (_:Value→Hp→Prop)(_R3:Int→Option Addr→Nat→Nat→Int→Int→Hp→Prop):Zn:=Zn.none (fun _=>none)
def aZT.Λ (K:Value→Hp→Prop):Zn:=⟨fun i=>none,fun i=>match Nat.beq i 3 with|true=>some (fun E D H=>∃ k,aZT.l3.L K k E D H)|false=>none,(fun _=>none)⟩
theorem aZT.ok (A1:Option Addr)(n1:Nat)(m1:Nat)(H:Hp)(K:Value→Hp→Prop)(h:aZT A1 n1 m1 H K):Zc Tryz.prog 197 #[.slice A1 n1 m1] H K:=
 Zr Tryz.func197 rfl (nbl rfl) (Zf (Λ:=(aZT.Λ K)) bZI _ _ _ _ _ (Eq.mp (by kernel_rfl) h) (Zb Za rfl (Zb Za rfl (Zb (Zb Za rfl (Zu (ZZ rfl (fun E D H h=>by
   refine Safe.loop' (aZT.l3.L K) (fun E D H h=>?_) (fun k E D H h=>?_) E D H h
   ·obtain⟨w3,e3,g1⟩:=DG.out h;obtain⟨x1,rfl,g2⟩:=DI.out g1;obtain⟨w6,e6,g3⟩:=DG.out g2;obtain⟨A2,n2,m2,rfl,g4⟩:=DSl.out g3;obtain⟨w7,e7,g5⟩:=DG.out g4;obtain⟨x2,rfl,g6⟩:=DI.out g5;obtain⟨w8,e8,g7⟩:=DG.out g6;obtain⟨x3,rfl,g8⟩:=DI.out g7;obtain⟨rfl,h'⟩:=Zo.out g8;exact h'
   ·obtain⟨x1,e3,g2⟩:=GI h;obtain⟨w6,e6,g3⟩:=DG.out g2;obtain⟨A2,n2,m2,rfl,g4⟩:=DSl.out g3;obtain⟨x2,e7,g6⟩:=GI g4;obtain⟨x3,e8,g8⟩:=GI g6;obtain⟨rfl,h'⟩:=Zo.out g8;exact(Zf (Λ:=(aZT.Λ3 K (aZT.l3 K k))) bZI _ _ [(3,.int .u64 x1),(6,.slice A2 n2 m2),(7,.int .i64 x2),(8,.int .i64 x3)] [] H (Eq.mp (by kernel_rfl) h') (Zb Za rfl (Zb (Zk Zl ZS) rfl (Zb (Zu (Zb Za rfl Za)) rfl Za)))).weaken (Ze.cons e3 (Ze.cons e6 (Ze.cons e7 (Ze.cons e8 (Ze.nil _))))) (Hp.le_refl _))))) rfl (Zb Za rfl Zy)))))
def dZK (x1:Int)(H:Hp)(K:Value→Hp→Prop):Prop:=
 BIf (x1==0) (K (.bool true) H) (K (.bool (x1==1)) H)
theorem dZK.ok (x1:Int)(H:Hp)(K:Value→Hp→Prop)(h:dZK x1 H K):Zc Tryz.prog 198 #[.int .i64 x1] H K:=
 Zr Tryz.func198 rfl (nbl rfl) (Zf (Λ:=Zn.none (fun _=>none)) bZI _ _ _ _ _ (Eq.mp (by kernel_rfl) h) (Zt _ _ _ _ _))
end Go.Proofs.YtahjgjaenegpgaaGreatDoor.W
namespace Go.Proofs.YtahjgjaenegpgaaGreatDoor.Rec
open Go Go.Hw W
structure R where
 s:Nat
 kd:Int
 kk:Int
 dir:Int
 ps:Int
 ld:Nat
 inp:Nat
 out:Nat
def R.c (r:R):Array Value:=#[.int .u64 (r.s:Int),.int .i64 r.kd,.int .i64 r.kk,.int .i64 r.dir,.int .i64 r.ps,.int .u32 (r.ld:Int),.int .u32 (r.inp:Int),.int .u32 (r.out:Int)]
def bZJ (r:R):AO:=.obj (.cells r.c 93)
abbrev R.good (r:R):Prop:=1≤r.s∧r.s<281474976710656∧0≤r.kk∧r.kk≤32∧(r.dir=0∨r.dir=1)∧
 ((r.kd=1∧r.inp=0∧r.ps=0∧r.dir=0∧r.out=0)∨(r.kd=2∧r.ps=0∧r.dir=0∧r.out=0)∨(r.kd=3∧r.ps=0)∨(r.kd=4∧1≤r.ps∧r.ps≤7))
theorem nZ7 (x:Int)(H:Hp):Zc Tryz.prog 198 #[.int .i64 x] H (RetE (.bool (decide (x=0∨x=1))) H):=by
 apply dZK.ok;unfold dZK;by_cases h:x=0
 ·rw[decide_eq_true (.inl h)];exact aZb h (RetE.mk _ _)
 ·refine aZm h ⟨?_,rfl⟩;by_cases h1:x=1
  ·rw[decide_eq_true (.inr h1),h1];rfl
  ·rw[decide_eq_false (by omega),beq_eq_false_iff_ne.2 h1]
section
variable {r : R} {H0 H : Hp} {b1 : Nat}
theorem fZm (hs:Sep [own H0,pts b1 (bZJ r)] H)(h:¬r.good):Ret (.bool (decide r.good)) H0 (.bool false) H:=by
 rw[decide_eq_false h];exact hs.fin 0 rfl _
theorem qZG (hs:Sep [own H0,pts b1 (bZJ r)] H){b:Bool}(h:b=true↔r.good):Ret (.bool (decide r.good)) H0 (.bool b) H:=by
 have:decide r.good=b:=by
  cases b with
  |true=>exact decide_eq_true (h.1 rfl)
  |false=>exact decide_eq_false fun g=>by have:=h.2 g;cases this
 rw[this];exact hs.fin 0 rfl _
theorem nZQ (hs:Sep [own H0,pts b1 (bZJ r)] H)(h:(r.ps=0∧r.dir=0∧r.out=0)↔r.good):bZx.j10 (Ret (.bool (decide r.good)) H0) ⟨b1,0,none⟩ H:=by
 unfold bZx.j10;refine hs.ldf 1 rfl rfl ?_;simp only[HV];by_cases h1:r.ps=0
 ·refine aZb h1 ?_;refine hs.ldf 1 rfl rfl ?_;simp only[HV];by_cases h2:r.dir=0
  ·refine aZb h2 ?_;refine hs.ldf 1 rfl rfl ?_;simp only[HV];refine qZG hs ?_;rw[← h,beq_iff_eq];omega
  ·exact aZm h2 (fZm hs fun g=>h2 (h.2 g).2.1)
 ·exact aZm h1 (fZm hs fun g=>h1 (h.2 g).1)
end
theorem bZZ (r:R)(H:Hp):Zc Tryz.prog 156 #[.agg r.c] H (RetE (.bool (decide r.good)) H):=Zc.ret (by
 apply bZx.ok;unfold bZx;refine(Sep.start H).nw fun b1 H1 hs=>?_
 have hs:Sep [own H,pts b1 (bZJ r)] H1:=hs;refine hs.ldf 1 rfl rfl ?_;simp only[HV];by_cases h1:(r.s:Int)<1
 ·exact Zw h1 (fZm hs fun g=>by have:=g.1;omega)
 refine Zm h1 ?_;refine hs.ldf 1 rfl rfl ?_;simp only[HV];by_cases h2:(r.s:Int)≥281474976710656
 ·exact Zw h2 (fZm hs fun g=>by have:=g.2.1;omega)
 refine Zm h2 ?_;refine hs.ldf 1 rfl rfl ?_;simp only[HV];by_cases h3:r.kk<0
 ·exact Zw h3 (fZm hs fun g=>by have:=g.2.2.1;omega)
 refine Zm h3 ?_;refine hs.ldf 1 rfl rfl ?_;simp only[HV];by_cases h4:r.kk>32
 ·exact Zw h4 (fZm hs fun g=>by have:=g.2.2.2.1;omega)
 refine Zm h4 ?_;refine hs.ldf 1 rfl rfl ?_;simp only[HV];refine Zc.use (nZ7 r.dir H1) ?_;simp only[HV];by_cases h5:r.dir=0∨r.dir=1
 case neg=>
  rw[decide_eq_false h5];exact aZN rfl (fZm hs fun g=>h5 g.2.2.2.2.1)
 rw[decide_eq_true h5];refine aZu rfl ?_;have hd:∀{P:Prop},(P↔((r.kd=1∧r.inp=0∧r.ps=0∧r.dir=0∧r.out=0)∨(r.kd=2∧r.ps=0∧r.dir=0∧r.out=0)∨(r.kd=3∧r.ps=0)∨(r.kd=4∧1≤r.ps∧r.ps≤7)))→(P↔r.good):=fun h=>by
  rw[h];exact⟨fun g=>⟨by omega,by omega,by omega,by omega,h5,g⟩,fun g=>g.2.2.2.2.2⟩
 refine hs.ldf 1 rfl rfl ?_;simp only[HV];by_cases k1:r.kd=1
 ·refine aZb k1 ?_;refine hs.ldf 1 rfl rfl ?_;simp only[HV];by_cases h6:(r.inp:Int)=0
  ·exact ZB h6 (nZQ hs (hd (by omega)))
  ·exact ZK h6 (fZm hs fun g=>by have:=g.2.2.2.2.2;omega)
 refine aZm k1 ?_;by_cases k2:r.kd=2
 ·exact aZb k2 (nZQ hs (hd (by omega)))
 refine aZm k2 ?_;by_cases k3:r.kd=3
 ·refine aZb k3 ?_;refine hs.ldf 1 rfl rfl ?_;simp only[HV];refine qZG hs (hd ?_);rw[beq_iff_eq];omega
 refine aZm k3 ?_;by_cases k4:r.kd=4
 ·refine aZb k4 ?_;refine hs.ldf 1 rfl rfl ?_;simp only[HV];by_cases h7:r.ps≥1
  ·refine Zw h7 ?_;refine hs.ldf 1 rfl rfl ?_;simp only[HV];refine qZG hs (hd ?_);rw[decide_eq_true_eq];omega
  ·exact Zm h7 (fZm hs fun g=>by have:=g.2.2.2.2.2;omega)
 ·exact aZm k4 (fZm hs fun g=>by have:=g.2.2.2.2.2;omega))
end Go.Proofs.YtahjgjaenegpgaaGreatDoor.Rec
namespace Go.Proofs.YtahjgjaenegpgaaGreatDoor.W
open Go Go.Hw
theorem bZY :Tryz.prog.follows .mixedOrders=true:=by kernel_rfl
def bZo (A1:Option Addr)(n1:Nat)(m1:Nat)(fd1:FuncId)(F1:Array Value)(C1:Array Value)(H:Hp)(K:Value→Hp→Prop):Prop:=
 HcI 148 #[.int .u64 (IntKind.u64.wrap (n1:Int))] H fun x1 H1=>Hz 157 #[.slice A1 n1 m1,.int .i64 0,.int .i64 (n1:Int),.int .i64 x1,.func (.func fd1) F1 C1] H1 fun v2 H2=>K (.tuple #[]) H2
theorem bZo.ok (A1:Option Addr)(n1:Nat)(m1:Nat)(fd1:FuncId)(F1:Array Value)(C1:Array Value)(H:Hp)(K:Value→Hp→Prop)(h:bZo A1 n1 m1 fd1 F1 C1 H K):Zc Tryz.prog 110 #[.slice A1 n1 m1,.func (.func fd1) F1 C1] H K:=
 Zr Tryz.func110 rfl (nbl rfl) (Zf (Λ:=Zn.none (fun _=>none)) bZY _ _ _ _ _ (Eq.mp (by kernel_rfl) h) (Zt _ _ _ _ _))
def ZH.l2 (K:Value→Hp→Prop):Nat→Option Addr→Nat→Nat→FuncId→Array Value→Array Value→Int→Int→Hp→Prop
 |0,_,_,_,_,_,_,_,_,_=>False
 |k+1,A2,n2,m2,fd2,F2,C2,x1,x2,H=>
  let R2:=ZH.l2 K k
  BIf (decide (x2<x1)) (ixI x2 n2 (NN A2 fun a1=>LeW H (a1.add (x2.toNat*1)) fun x3=>dZW Tryz.prog fd2 ((F2++ #[.int .u64 x3])++C2) H fun v2 H1=>DR Tryz.prog (bZC Tryz.prog fd2) v2 fun v3=>DB v3 fun c1=>BIf c1 (K (.int .i64 x2) H1) (R2 A2 n2 m2 fd2 F2 C2 x1 (IntKind.i64.wrap (x2+1)) H1))) (K (.int .i64 (-1)) H)
def ZH (A1:Option Addr)(n1:Nat)(m1:Nat)(fd1:FuncId)(F1:Array Value)(C1:Array Value)(H:Hp)(K:Value→Hp→Prop):Prop:=
 (∃ k,ZH.l2 K k A1 n1 m1 fd1 F1 C1 (n1:Int) 0 H)
def ZH.l2.L (K:Value→Hp→Prop)(k:Nat):Mid:=fun E D H=>
 DG (E.get? 0) fun w0=>DSl w0 fun A2 n2 m2=>DG (E.get? 1) fun w1=>DFn w1 fun fd2 F2 C2=>eI E 7 .i64 fun x1=>eI E 8 .i64 fun x2=>Zo D (ZH.l2 K k A2 n2 m2 fd2 F2 C2 x1 x2 H)
def ZH.Λ2 (_:Value→Hp→Prop)(_R2:Option Addr→Nat→Nat→FuncId→Array Value→Array Value→Int→Int→Hp→Prop):Zn:=Zn.none (fun _=>none)
def ZH.Λ (K:Value→Hp→Prop):Zn:=⟨fun i=>none,fun i=>match Nat.beq i 2 with|true=>some (fun E D H=>∃ k,ZH.l2.L K k E D H)|false=>none,(fun _=>none)⟩
theorem ZH.ok (A1:Option Addr)(n1:Nat)(m1:Nat)(fd1:FuncId)(F1:Array Value)(C1:Array Value)(H:Hp)(K:Value→Hp→Prop)(h:ZH A1 n1 m1 fd1 F1 C1 H K):Zc Tryz.prog 142 #[.slice A1 n1 m1,.func (.func fd1) F1 C1] H K:=
 Zr Tryz.func142 rfl (nbl rfl) (Zf (Λ:=(ZH.Λ K)) bZY _ _ _ _ _ (Eq.mp (by kernel_rfl) h) (Zb Za rfl (Zb (Zb Za rfl (Zu (ZZ rfl (fun E D H h=>by
   refine Safe.loop' (ZH.l2.L K) (fun E D H h=>?_) (fun k E D H h=>?_) E D H h
   ·obtain⟨w0,e0,g1⟩:=DG.out h;obtain⟨A2,n2,m2,rfl,g2⟩:=DSl.out g1;obtain⟨w1,e1,g3⟩:=DG.out g2;obtain⟨fd2,F2,C2,rfl,g4⟩:=DFn.out g3;obtain⟨w7,e7,g5⟩:=DG.out g4;obtain⟨x1,rfl,g6⟩:=DI.out g5;obtain⟨w8,e8,g7⟩:=DG.out g6;obtain⟨x2,rfl,g8⟩:=DI.out g7;obtain⟨rfl,h'⟩:=Zo.out g8;exact h'
   ·obtain⟨w0,e0,g1⟩:=DG.out h;obtain⟨A2,n2,m2,rfl,g2⟩:=DSl.out g1;obtain⟨w1,e1,g3⟩:=DG.out g2;obtain⟨fd2,F2,C2,rfl,g4⟩:=DFn.out g3;obtain⟨x1,e7,g6⟩:=GI g4;obtain⟨x2,e8,g8⟩:=GI g6;obtain⟨rfl,h'⟩:=Zo.out g8;exact(Zf (Λ:=(ZH.Λ2 K (ZH.l2 K k))) bZY _ _ [(0,.slice A2 n2 m2),(1,.func (.func fd2) F2 C2),(7,.int .i64 x1),(8,.int .i64 x2)] [] H (Eq.mp (by kernel_rfl) h') (Zb Za rfl (Zb (Zk Zl ZS) rfl (Zb (Zu (Zb Za rfl (Zb Za rfl (Zk (Zb Za rfl Zy) Zl)))) rfl Za)))).weaken (Ze.cons e0 (Ze.cons e1 (Ze.cons e7 (Ze.cons e8 (Ze.nil _))))) (Hp.le_refl _))))) rfl (Zb Za rfl Zy))))
def Zi.j20 (K:Value→Hp→Prop)(R2:Option Addr→Nat→Nat→Int→Int→Int→FuncId→Array Value→Array Value→Bool→Bool→Hp→Prop)(A6:Option Addr)(n6:Nat)(m6:Nat)(x26:Int)(x27:Int)(x28:Int)(fd6:FuncId)(F6:Array Value)(C6:Array Value)(x29:Int)(x30:Int)(H:Hp):Prop:=
 Hz 206 #[.slice A6 n6 m6,.int .i64 x26,.int .i64 x27,.int .i64 x30,.func (.func fd6) F6 C6] H fun v12 H9=>iZe v12 fun x31 c10=>(((8:Int)≠0∧IntKind.i64=IntKind.i64∧BIf (decide ((IntKind.i64.wrap (x31-x26))<(IntKind.i64.wrap (x27-x31)))) (Hz 157 #[.slice A6 n6 m6,.int .i64 x26,.int .i64 x31,.int .i64 x28,.func (.func fd6) F6 C6] H9 fun v15 H10=>R2 A6 n6 m6 (IntKind.i64.wrap (x31+1)) x27 x28 fd6 F6 C6 (decide ((IntKind.i64.wrap (x31-x26))≥(IntKind.i64.wrap (Int.tdiv x29 8)))) c10 H10) (Hz 157 #[.slice A6 n6 m6,.int .i64 (IntKind.i64.wrap (x31+1)),.int .i64 x27,.int .i64 x28,.func (.func fd6) F6 C6] H9 fun v16 H11=>R2 A6 n6 m6 x26 x31 x28 fd6 F6 C6 (decide ((IntKind.i64.wrap (x27-x31))≥(IntKind.i64.wrap (Int.tdiv x29 8)))) c10 H11)))
def Zi.j17 (K:Value→Hp→Prop)(R2:Option Addr→Nat→Nat→Int→Int→Int→FuncId→Array Value→Array Value→Bool→Bool→Hp→Prop)(A5:Option Addr)(n5:Nat)(m5:Nat)(x19:Int)(x20:Int)(x21:Int)(fd5:FuncId)(F5:Array Value)(C5:Array Value)(c8:Bool)(c9:Bool)(x22:Int)(x23:Int)(H:Hp):Prop:=
 BIf (decide (x19>0)) (ixI (IntKind.i64.wrap (x19-1)) n5 (NN A5 fun a1=>LdA H (a1.add ((IntKind.i64.wrap (x19-1)).toNat*8)) 8 fun l4=>ixI x23 n5 (NN A5 fun a2=>LdA H (a2.add (x23.toNat*8)) 8 fun l5=>dZW Tryz.prog fd5 ((F5++ #[.agg l4.toArray,.agg l5.toArray])++C5) H fun v9 H7=>DR Tryz.prog (bZC Tryz.prog fd5) v9 fun v10=>DI .i64 v10 fun x24=>BIf (!(decide (x24<0))) (HcI 205 #[.slice A5 n5 m5,.int .i64 x19,.int .i64 x20,.int .i64 x23,.func (.func fd5) F5 C5] H7 fun x25 H8=>R2 A5 n5 m5 x25 x20 x21 fd5 F5 C5 c8 c9 H8) (Zi.j20 K R2 A5 n5 m5 x19 x20 x21 fd5 F5 C5 x22 x23 H7)))) (Zi.j20 K R2 A5 n5 m5 x19 x20 x21 fd5 F5 C5 x22 x23 H)
def Zi.j15 (K:Value→Hp→Prop)(R2:Option Addr→Nat→Nat→Int→Int→Int→FuncId→Array Value→Array Value→Bool→Bool→Hp→Prop)(A4:Option Addr)(n4:Nat)(m4:Nat)(x13:Int)(x14:Int)(x15:Int)(fd4:FuncId)(F4:Array Value)(C4:Array Value)(c5:Bool)(c6:Bool)(x16:Int)(x17:Int)(x18:Int)(H:Hp):Prop:=
 BIf c5 (BIf c6 (BIf (x18==1) (HcB 204 #[.slice A4 n4 m4,.int .i64 x13,.int .i64 x14,.func (.func fd4) F4 C4] H fun c7 H6=>BIf c7 (K (.tuple #[]) H6) (Zi.j17 K R2 A4 n4 m4 x13 x14 x15 fd4 F4 C4 c5 c6 x16 x17 H6)) (Zi.j17 K R2 A4 n4 m4 x13 x14 x15 fd4 F4 C4 c5 c6 x16 x17 H)) (Zi.j17 K R2 A4 n4 m4 x13 x14 x15 fd4 F4 C4 c5 c6 x16 x17 H)) (Zi.j17 K R2 A4 n4 m4 x13 x14 x15 fd4 F4 C4 c5 c6 x16 x17 H)
def Zi.j10 (K:Value→Hp→Prop)(R2:Option Addr→Nat→Nat→Int→Int→Int→FuncId→Array Value→Array Value→Bool→Bool→Hp→Prop)(A3:Option Addr)(n3:Nat)(m3:Nat)(x7:Int)(x8:Int)(x9:Int)(fd3:FuncId)(F3:Array Value)(C3:Array Value)(c3:Bool)(c4:Bool)(x10:Int)(H:Hp):Prop:=
 Hz 202 #[.slice A3 n3 m3,.int .i64 x7,.int .i64 x8,.func (.func fd3) F3 C3] H fun v4 H4=>jZb v4 fun x11 x12=>(BIf (x12==2) (Hz 203 #[.slice A3 n3 m3,.int .i64 x7,.int .i64 x8,.func (.func fd3) F3 C3] H4 fun v7 H5=>Zi.j15 K R2 A3 n3 m3 x7 x8 x9 fd3 F3 C3 c3 c4 x10 (IntKind.i64.wrap ((IntKind.i64.wrap (x8-1))-(IntKind.i64.wrap (x11-x7)))) 1 H5) (Zi.j15 K R2 A3 n3 m3 x7 x8 x9 fd3 F3 C3 c3 c4 x10 x11 x12 H4))
def Zi.l2 (K:Value→Hp→Prop):Nat→Option Addr→Nat→Nat→Int→Int→Int→FuncId→Array Value→Array Value→Bool→Bool→Hp→Prop
 |0,_,_,_,_,_,_,_,_,_,_,_,_=>False
 |k+1,A2,n2,m2,x4,x5,x6,fd2,F2,C2,c1,c2,H=>
  let R2:=Zi.l2 K k
  BIf (decide ((IntKind.i64.wrap (x5-x4))≤12)) (Hz 199 #[.slice A2 n2 m2,.int .i64 x4,.int .i64 x5,.func (.func fd2) F2 C2] H fun v1 H1=>K (.tuple #[]) H1) (BIf (x6==0) (Hz 200 #[.slice A2 n2 m2,.int .i64 x4,.int .i64 x5,.func (.func fd2) F2 C2] H fun v2 H2=>K (.tuple #[]) H2) (BIf (!c1) (Hz 201 #[.slice A2 n2 m2,.int .i64 x4,.int .i64 x5,.func (.func fd2) F2 C2] H fun v3 H3=>Zi.j10 K R2 A2 n2 m2 x4 x5 (IntKind.i64.wrap (x6-1)) fd2 F2 C2 c1 c2 (IntKind.i64.wrap (x5-x4)) H3) (Zi.j10 K R2 A2 n2 m2 x4 x5 x6 fd2 F2 C2 c1 c2 (IntKind.i64.wrap (x5-x4)) H)))
def Zi (A1:Option Addr)(n1:Nat)(m1:Nat)(x1:Int)(x2:Int)(x3:Int)(fd1:FuncId)(F1:Array Value)(C1:Array Value)(H:Hp)(K:Value→Hp→Prop):Prop:=
 (∃ k,Zi.l2 K k A1 n1 m1 x1 x2 x3 fd1 F1 C1 true true H)
def Zi.l2.L (K:Value→Hp→Prop)(k:Nat):Mid:=fun E D H=>
 DG (E.get? 0) fun w0=>DSl w0 fun A2 n2 m2=>eI E 1 .i64 fun x4=>eI E 2 .i64 fun x5=>eI E 3 .i64 fun x6=>DG (E.get? 4) fun w4=>DFn w4 fun fd2 F2 C2=>DG (E.get? 10) fun w10=>DB w10 fun c1=>DG (E.get? 11) fun w11=>DB w11 fun c2=>Zo D (Zi.l2 K k A2 n2 m2 x4 x5 x6 fd2 F2 C2 c1 c2 H)
def Zi.Λ2 (K:Value→Hp→Prop)(R2:Option Addr→Nat→Nat→Int→Int→Int→FuncId→Array Value→Array Value→Bool→Bool→Hp→Prop):Zn:=⟨fun i=>match Nat.beq i 20 with|true=>some (fun E D H=>DG (E.get? 0) fun w0=>DSl w0 fun A6 n6 m6=>eI E 1 .i64 fun x26=>eI E 2 .i64 fun x27=>eI E 3 .i64 fun x28=>DG (E.get? 4) fun w4=>DFn w4 fun fd6 F6 C6=>eI E 12 .i64 fun x29=>eI E 13 .i64 fun x30=>Zo D (Zi.j20 K R2 A6 n6 m6 x26 x27 x28 fd6 F6 C6 x29 x30 H))|false=>match Nat.beq i 17 with|true=>some (fun E D H=>DG (E.get? 0) fun w0=>DSl w0 fun A5 n5 m5=>eI E 1 .i64 fun x19=>eI E 2 .i64 fun x20=>eI E 3 .i64 fun x21=>DG (E.get? 4) fun w4=>DFn w4 fun fd5 F5 C5=>DG (E.get? 10) fun w10=>DB w10 fun c8=>DG (E.get? 11) fun w11=>DB w11 fun c9=>eI E 12 .i64 fun x22=>eI E 13 .i64 fun x23=>Zo D (Zi.j17 K R2 A5 n5 m5 x19 x20 x21 fd5 F5 C5 c8 c9 x22 x23 H))|false=>match Nat.beq i 15 with|true=>some (fun E D H=>DG (E.get? 0) fun w0=>DSl w0 fun A4 n4 m4=>eI E 1 .i64 fun x13=>eI E 2 .i64 fun x14=>eI E 3 .i64 fun x15=>DG (E.get? 4) fun w4=>DFn w4 fun fd4 F4 C4=>DG (E.get? 10) fun w10=>DB w10 fun c5=>DG (E.get? 11) fun w11=>DB w11 fun c6=>eI E 12 .i64 fun x16=>eI E 13 .i64 fun x17=>eI E 14 .i64 fun x18=>Zo D (Zi.j15 K R2 A4 n4 m4 x13 x14 x15 fd4 F4 C4 c5 c6 x16 x17 x18 H))|false=>match Nat.beq i 10 with|true=>some (fun E D H=>DG (E.get? 0) fun w0=>DSl w0 fun A3 n3 m3=>eI E 1 .i64 fun x7=>eI E 2 .i64 fun x8=>eI E 3 .i64 fun x9=>DG (E.get? 4) fun w4=>DFn w4 fun fd3 F3 C3=>DG (E.get? 10) fun w10=>DB w10 fun c3=>DG (E.get? 11) fun w11=>DB w11 fun c4=>eI E 12 .i64 fun x10=>Zo D (Zi.j10 K R2 A3 n3 m3 x7 x8 x9 fd3 F3 C3 c3 c4 x10 H))|false=>none,fun i=>none,(fun i=>match Nat.beq i 17 with|true=>some ([],[0,1,2,3,4,5,6,7,8,9,10,11,12],13)|false=>none)⟩
def Zi.Λ (K:Value→Hp→Prop):Zn:=⟨fun i=>none,fun i=>match Nat.beq i 2 with|true=>some (fun E D H=>∃ k,Zi.l2.L K k E D H)|false=>none,(fun i=>match Nat.beq i 17 with|true=>some ([],[0,1,2,3,4,5,6,7,8,9,10,11,12],13)|false=>none)⟩
theorem Zi.ok (A1:Option Addr)(n1:Nat)(m1:Nat)(x1:Int)(x2:Int)(x3:Int)(fd1:FuncId)(F1:Array Value)(C1:Array Value)(H:Hp)(K:Value→Hp→Prop)(h:Zi A1 n1 m1 x1 x2 x3 fd1 F1 C1 H K):Zc Tryz.prog 157 #[.slice A1 n1 m1,.int .i64 x1,.int .i64 x2,.int .i64 x3,.func (.func fd1) F1 C1] H K:=
 Zr Tryz.func157 rfl (nbl rfl) (Zf (Λ:=(Zi.Λ K)) bZY _ _ _ _ _ (Eq.mp (by kernel_rfl) h) (Zb Za rfl (Zb Za rfl (Zu (ZZ rfl (fun E D H h=>by
   refine Safe.loop' (Zi.l2.L K) (fun E D H h=>?_) (fun k E D H h=>?_) E D H h
   ·obtain⟨w0,e0,g1⟩:=DG.out h;obtain⟨A2,n2,m2,rfl,g2⟩:=DSl.out g1;obtain⟨w1,e1,g3⟩:=DG.out g2;obtain⟨x4,rfl,g4⟩:=DI.out g3;obtain⟨w2,e2,g5⟩:=DG.out g4;obtain⟨x5,rfl,g6⟩:=DI.out g5;obtain⟨w3,e3,g7⟩:=DG.out g6;obtain⟨x6,rfl,g8⟩:=DI.out g7;obtain⟨w4,e4,g9⟩:=DG.out g8;obtain⟨fd2,F2,C2,rfl,g10⟩:=DFn.out g9;obtain⟨w10,e10,g11⟩:=DG.out g10;obtain⟨c1,rfl,g12⟩:=DB.out g11;obtain⟨w11,e11,g13⟩:=DG.out g12;obtain⟨c2,rfl,g14⟩:=DB.out g13;obtain⟨rfl,h'⟩:=Zo.out g14;exact h'
   ·obtain⟨w0,e0,g1⟩:=DG.out h;obtain⟨A2,n2,m2,rfl,g2⟩:=DSl.out g1;obtain⟨x4,e1,g4⟩:=GI g2;obtain⟨x5,e2,g6⟩:=GI g4;obtain⟨x6,e3,g8⟩:=GI g6;obtain⟨w4,e4,g9⟩:=DG.out g8;obtain⟨fd2,F2,C2,rfl,g10⟩:=DFn.out g9;obtain⟨w10,e10,g11⟩:=DG.out g10;obtain⟨c1,rfl,g12⟩:=DB.out g11;obtain⟨w11,e11,g13⟩:=DG.out g12;obtain⟨c2,rfl,g14⟩:=DB.out g13;obtain⟨rfl,h'⟩:=Zo.out g14;exact(Zf (Λ:=(Zi.Λ2 K (Zi.l2 K k))) bZY _ _ [(0,.slice A2 n2 m2),(1,.int .i64 x4),(2,.int .i64 x5),(3,.int .i64 x6),(4,.func (.func fd2) F2 C2),(10,.bool c1),(11,.bool c2)] [] H (Eq.mp (by kernel_rfl) h') (Zu (Zb Za rfl (Zb (Zb Za rfl (Zk (Zb Za rfl Zy) Zl)) rfl (Zb (Zb Za rfl (Zk (Zb Za rfl Zy) Zl)) rfl (aZH (Zb Za rfl (Zk (Zb Za rfl Za) Zl)) rfl (fun E D H h=>by
      obtain⟨w0,e0,g1⟩:=DG.out h;obtain⟨A3,n3,m3,rfl,g2⟩:=DSl.out g1;obtain⟨x7,e1,g4⟩:=GI g2;obtain⟨x8,e2,g6⟩:=GI g4;obtain⟨x9,e3,g8⟩:=GI g6;obtain⟨w4,e4,g9⟩:=DG.out g8;obtain⟨fd3,F3,C3,rfl,g10⟩:=DFn.out g9;obtain⟨w10,e10,g11⟩:=DG.out g10;obtain⟨c3,rfl,g12⟩:=DB.out g11;obtain⟨w11,e11,g13⟩:=DG.out g12;obtain⟨c4,rfl,g14⟩:=DB.out g13;obtain⟨x10,e12,g16⟩:=GI g14;obtain⟨rfl,h'⟩:=Zo.out g16;exact(Zf (Λ:=(Zi.Λ2 K (Zi.l2 K k))) bZY _ _ [(0,.slice A3 n3 m3),(1,.int .i64 x7),(2,.int .i64 x8),(3,.int .i64 x9),(4,.func (.func fd3) F3 C3),(10,.bool c3),(11,.bool c4),(12,.int .i64 x10)] [] H (Eq.mp (by kernel_rfl) h') (Zb Za rfl (aZH (Zb Za rfl (Zk (Zb Za rfl (Zb Za rfl Za)) Zl)) rfl (fun E D H h=>by
        obtain⟨w0,e0,g1⟩:=DG.out h;obtain⟨A4,n4,m4,rfl,g2⟩:=DSl.out g1;obtain⟨x13,e1,g4⟩:=GI g2;obtain⟨x14,e2,g6⟩:=GI g4;obtain⟨x15,e3,g8⟩:=GI g6;obtain⟨w4,e4,g9⟩:=DG.out g8;obtain⟨fd4,F4,C4,rfl,g10⟩:=DFn.out g9;obtain⟨w10,e10,g11⟩:=DG.out g10;obtain⟨c5,rfl,g12⟩:=DB.out g11;obtain⟨w11,e11,g13⟩:=DG.out g12;obtain⟨c6,rfl,g14⟩:=DB.out g13;obtain⟨x16,e12,g16⟩:=GI g14;obtain⟨x17,e13,g18⟩:=GI g16;obtain⟨x18,e14,g20⟩:=GI g18;obtain⟨rfl,h'⟩:=Zo.out g20;exact(Zf (Λ:=(Zi.Λ2 K (Zi.l2 K k))) bZY _ _ [(0,.slice A4 n4 m4),(1,.int .i64 x13),(2,.int .i64 x14),(3,.int .i64 x15),(4,.func (.func fd4) F4 C4),(10,.bool c5),(11,.bool c6),(12,.int .i64 x16),(13,.int .i64 x17),(14,.int .i64 x18)] [] H (Eq.mp (by kernel_rfl) h') (aZH (Zb Za rfl (Zk (Zb Za rfl (Zk Zy Zl)) Zl)) rfl (fun E D H h=>by
          obtain⟨w0,e0,g1⟩:=DG.out h;obtain⟨A5,n5,m5,rfl,g2⟩:=DSl.out g1;obtain⟨x19,e1,g4⟩:=GI g2;obtain⟨x20,e2,g6⟩:=GI g4;obtain⟨x21,e3,g8⟩:=GI g6;obtain⟨w4,e4,g9⟩:=DG.out g8;obtain⟨fd5,F5,C5,rfl,g10⟩:=DFn.out g9;obtain⟨w10,e10,g11⟩:=DG.out g10;obtain⟨c8,rfl,g12⟩:=DB.out g11;obtain⟨w11,e11,g13⟩:=DG.out g12;obtain⟨c9,rfl,g14⟩:=DB.out g13;obtain⟨x22,e12,g16⟩:=GI g14;obtain⟨x23,e13,g18⟩:=GI g16;obtain⟨rfl,h'⟩:=Zo.out g18;exact(Zf (Λ:=(Zi.Λ2 K (Zi.l2 K k))) bZY _ _ [(0,.slice A5 n5 m5),(1,.int .i64 x19),(2,.int .i64 x20),(3,.int .i64 x21),(4,.func (.func fd5) F5 C5),(10,.bool c8),(11,.bool c9),(12,.int .i64 x22),(13,.int .i64 x23)] [] H (Eq.mp (by kernel_rfl) h') (aZH (Zb Za rfl (Zk (Zb Za rfl (Zb Za rfl ZS)) Zl)) rfl (fun E D H h=>by
            obtain⟨w0,e0,g1⟩:=DG.out h;obtain⟨A6,n6,m6,rfl,g2⟩:=DSl.out g1;obtain⟨x26,e1,g4⟩:=GI g2;obtain⟨x27,e2,g6⟩:=GI g4;obtain⟨x28,e3,g8⟩:=GI g6;obtain⟨w4,e4,g9⟩:=DG.out g8;obtain⟨fd6,F6,C6,rfl,g10⟩:=DFn.out g9;obtain⟨x29,e12,g12⟩:=GI g10;obtain⟨x30,e13,g14⟩:=GI g12;obtain⟨rfl,h'⟩:=Zo.out g14;exact(Zf (Λ:=(Zi.Λ2 K (Zi.l2 K k))) bZY _ _ [(0,.slice A6 n6 m6),(1,.int .i64 x26),(2,.int .i64 x27),(3,.int .i64 x28),(4,.func (.func fd6) F6 C6),(12,.int .i64 x29),(13,.int .i64 x30)] [] H (Eq.mp (by kernel_rfl) h') (Zb Za rfl (Zb Za rfl (Zb Za rfl (Zb Za rfl (Zb Za rfl (Zk (Zb Za rfl (Zb Za rfl Za)) (Zb Za rfl (Zb Za rfl Za))))))))).weaken (Ze.cons e0 (Ze.cons e1 (Ze.cons e2 (Ze.cons e3 (Ze.cons e4 (Ze.cons e12 (Ze.cons e13 (Ze.nil _)))))))) (Hp.le_refl _)))).weaken (Ze.cons e0 (Ze.cons e1 (Ze.cons e2 (Ze.cons e3 (Ze.cons e4 (Ze.cons e10 (Ze.cons e11 (Ze.cons e12 (Ze.cons e13 (Ze.nil _)))))))))) (Hp.le_refl _)))).weaken (Ze.cons e0 (Ze.cons e1 (Ze.cons e2 (Ze.cons e3 (Ze.cons e4 (Ze.cons e10 (Ze.cons e11 (Ze.cons e12 (Ze.cons e13 (Ze.cons e14 (Ze.nil _))))))))))) (Hp.le_refl _))))).weaken (Ze.cons e0 (Ze.cons e1 (Ze.cons e2 (Ze.cons e3 (Ze.cons e4 (Ze.cons e10 (Ze.cons e11 (Ze.cons e12 (Ze.nil _))))))))) (Hp.le_refl _)))))))).weaken (Ze.cons e0 (Ze.cons e1 (Ze.cons e2 (Ze.cons e3 (Ze.cons e4 (Ze.cons e10 (Ze.cons e11 (Ze.nil _)))))))) (Hp.le_refl _)))))))
def Zj.l4 (K:Value→Hp→Prop)(R1:Option Addr→Nat→Nat→Int→Int→FuncId→Array Value→Array Value→Int→Hp→Prop):Nat→Option Addr→Nat→Nat→Int→Int→FuncId→Array Value→Array Value→Int→Int→Hp→Prop
 |0,_,_,_,_,_,_,_,_,_,_,_=>False
 |k+1,A3,n3,m3,x6,x7,fd3,F3,C3,x8,x9,H=>
  let R4:=Zj.l4 K R1 k
  BIf (decide (x9>x6)) (ixI x9 n3 (NN A3 fun a1=>LdA H (a1.add (x9.toNat*8)) 8 fun l1=>ixI (IntKind.i64.wrap (x9-1)) n3 (NN A3 fun a2=>LdA H (a2.add ((IntKind.i64.wrap (x9-1)).toNat*8)) 8 fun l2=>dZW Tryz.prog fd3 ((F3++ #[.agg l1.toArray,.agg l2.toArray])++C3) H fun v1 H1=>DR Tryz.prog (bZC Tryz.prog fd3) v1 fun v2=>DI .i64 v2 fun x10=>BIf (decide (x10<0)) (ixI (IntKind.i64.wrap (x9-1)) n3 (NN A3 fun a3=>ixI x9 n3 (NN A3 fun a4=>(LdA H1 (a3.add ((IntKind.i64.wrap (x9-1)).toNat*8)) 8 fun l3=>LdA H1 (a4.add (x9.toNat*8)) 8 fun l4=>ixI x9 n3 (NN A3 fun a5=>StA H1 (a5.add (x9.toNat*8)) l3.toArray 8 fun H2=>ixI (IntKind.i64.wrap (x9-1)) n3 (NN A3 fun a6=>StA H2 (a6.add ((IntKind.i64.wrap (x9-1)).toNat*8)) l4.toArray 8 fun H3=>R4 A3 n3 m3 x6 x7 fd3 F3 C3 x8 (IntKind.i64.wrap (x9-1)) H3)))∧(LdA H1 (a4.add (x9.toNat*8)) 8 fun l5=>LdA H1 (a3.add ((IntKind.i64.wrap (x9-1)).toNat*8)) 8 fun l6=>ixI x9 n3 (NN A3 fun a7=>StA H1 (a7.add (x9.toNat*8)) l6.toArray 8 fun H4=>ixI (IntKind.i64.wrap (x9-1)) n3 (NN A3 fun a8=>StA H4 (a8.add ((IntKind.i64.wrap (x9-1)).toNat*8)) l5.toArray 8 fun H5=>R4 A3 n3 m3 x6 x7 fd3 F3 C3 x8 (IntKind.i64.wrap (x9-1)) H5)))))) (R1 A3 n3 m3 x6 x7 fd3 F3 C3 (IntKind.i64.wrap (x8+1)) H1)))) (R1 A3 n3 m3 x6 x7 fd3 F3 C3 (IntKind.i64.wrap (x8+1)) H)
def Zj.l1 (K:Value→Hp→Prop):Nat→Option Addr→Nat→Nat→Int→Int→FuncId→Array Value→Array Value→Int→Hp→Prop
 |0,_,_,_,_,_,_,_,_,_,_=>False
 |k+1,A2,n2,m2,x3,x4,fd2,F2,C2,x5,H=>
  let R1:=Zj.l1 K k
  BIf (decide (x5<x4)) ((∃ k,Zj.l4 K R1 k A2 n2 m2 x3 x4 fd2 F2 C2 x5 x5 H)) (K (.tuple #[]) H)
def Zj (A1:Option Addr)(n1:Nat)(m1:Nat)(x1:Int)(x2:Int)(fd1:FuncId)(F1:Array Value)(C1:Array Value)(H:Hp)(K:Value→Hp→Prop):Prop:=
 (∃ k,Zj.l1 K k A1 n1 m1 x1 x2 fd1 F1 C1 (IntKind.i64.wrap (x1+1)) H)
def Zj.l1.L (K:Value→Hp→Prop)(k:Nat):Mid:=fun E D H=>
 DG (E.get? 0) fun w0=>DSl w0 fun A2 n2 m2=>eI E 1 .i64 fun x3=>eI E 2 .i64 fun x4=>DG (E.get? 3) fun w3=>DFn w3 fun fd2 F2 C2=>eI E 8 .i64 fun x5=>Zo D (Zj.l1 K k A2 n2 m2 x3 x4 fd2 F2 C2 x5 H)
def Zj.l4.L (K:Value→Hp→Prop)(R1:Option Addr→Nat→Nat→Int→Int→FuncId→Array Value→Array Value→Int→Hp→Prop)(k:Nat):Mid:=fun E D H=>
 DG (E.get? 0) fun w0=>DSl w0 fun A3 n3 m3=>eI E 1 .i64 fun x6=>eI E 2 .i64 fun x7=>DG (E.get? 3) fun w3=>DFn w3 fun fd3 F3 C3=>eI E 8 .i64 fun x8=>eI E 9 .i64 fun x9=>Zo D (Zj.l4 K R1 k A3 n3 m3 x6 x7 fd3 F3 C3 x8 x9 H)
def Zj.Λ4 (_:Value→Hp→Prop)(_R1:Option Addr→Nat→Nat→Int→Int→FuncId→Array Value→Array Value→Int→Hp→Prop)(_R4:Option Addr→Nat→Nat→Int→Int→FuncId→Array Value→Array Value→Int→Int→Hp→Prop):Zn:=Zn.none (fun i=>match Nat.beq i 6 with|true=>some ([],[0,0,0,0,8,0,0,64,224,480,0,0,3072,7168,16355,32739,65535,131071],0)|false=>match Nat.beq i 4 with|true=>some ([],[0,1,2,3,4,5,6,7,8,9,10,11,12,13],14)|false=>none)
def Zj.Λ1 (K:Value→Hp→Prop)(R1:Option Addr→Nat→Nat→Int→Int→FuncId→Array Value→Array Value→Int→Hp→Prop):Zn:=⟨fun i=>none,fun i=>match Nat.beq i 4 with|true=>some (fun E D H=>∃ k,Zj.l4.L K R1 k E D H)|false=>none,(fun i=>match Nat.beq i 6 with|true=>some ([],[0,0,0,0,8,0,0,64,224,480,0,0,3072,7168,16355,32739,65535,131071],0)|false=>match Nat.beq i 4 with|true=>some ([],[0,1,2,3,4,5,6,7,8,9,10,11,12,13],14)|false=>none)⟩
def Zj.Λ (K:Value→Hp→Prop):Zn:=⟨fun i=>none,fun i=>match Nat.beq i 1 with|true=>some (fun E D H=>∃ k,Zj.l1.L K k E D H)|false=>none,(fun i=>match Nat.beq i 6 with|true=>some ([],[0,0,0,0,8,0,0,64,224,480,0,0,3072,7168,16355,32739,65535,131071],0)|false=>match Nat.beq i 4 with|true=>some ([],[0,1,2,3,4,5,6,7,8,9,10,11,12,13],14)|false=>none)⟩
theorem Zj.ok (A1:Option Addr)(n1:Nat)(m1:Nat)(x1:Int)(x2:Int)(fd1:FuncId)(F1:Array Value)(C1:Array Value)(H:Hp)(K:Value→Hp→Prop)(h:Zj A1 n1 m1 x1 x2 fd1 F1 C1 H K):Zc Tryz.prog 199 #[.slice A1 n1 m1,.int .i64 x1,.int .i64 x2,.func (.func fd1) F1 C1] H K:=
 Zr Tryz.func199 rfl (nbl rfl) (Zf (Λ:=(Zj.Λ K)) bZY _ _ _ _ _ (Eq.mp (by kernel_rfl) h) (Zb Za rfl (Zu (ZZ rfl (fun E D H h=>by
   refine Safe.loop' (Zj.l1.L K) (fun E D H h=>?_) (fun k E D H h=>?_) E D H h
   ·obtain⟨w0,e0,g1⟩:=DG.out h;obtain⟨A2,n2,m2,rfl,g2⟩:=DSl.out g1;obtain⟨w1,e1,g3⟩:=DG.out g2;obtain⟨x3,rfl,g4⟩:=DI.out g3;obtain⟨w2,e2,g5⟩:=DG.out g4;obtain⟨x4,rfl,g6⟩:=DI.out g5;obtain⟨w3,e3,g7⟩:=DG.out g6;obtain⟨fd2,F2,C2,rfl,g8⟩:=DFn.out g7;obtain⟨w8,e8,g9⟩:=DG.out g8;obtain⟨x5,rfl,g10⟩:=DI.out g9;obtain⟨rfl,h'⟩:=Zo.out g10;exact h'
   ·obtain⟨w0,e0,g1⟩:=DG.out h;obtain⟨A2,n2,m2,rfl,g2⟩:=DSl.out g1;obtain⟨x3,e1,g4⟩:=GI g2;obtain⟨x4,e2,g6⟩:=GI g4;obtain⟨w3,e3,g7⟩:=DG.out g6;obtain⟨fd2,F2,C2,rfl,g8⟩:=DFn.out g7;obtain⟨x5,e8,g10⟩:=GI g8;obtain⟨rfl,h'⟩:=Zo.out g10;exact(Zf (Λ:=(Zj.Λ1 K (Zj.l1 K k))) bZY _ _ [(0,.slice A2 n2 m2),(1,.int .i64 x3),(2,.int .i64 x4),(3,.func (.func fd2) F2 C2),(8,.int .i64 x5)] [] H (Eq.mp (by kernel_rfl) h') (Zb (Zb Za rfl (Zk Zl ZS)) rfl (Zb (Zu (Zb Za rfl (Zu (ZZ rfl (fun E D H h=>by
      refine Safe.loop' (Zj.l4.L K (Zj.l1 K k)) (fun E D H h=>?_) (fun k E D H h=>?_) E D H h
      ·obtain⟨w0,e0,g1⟩:=DG.out h;obtain⟨A3,n3,m3,rfl,g2⟩:=DSl.out g1;obtain⟨w1,e1,g3⟩:=DG.out g2;obtain⟨x6,rfl,g4⟩:=DI.out g3;obtain⟨w2,e2,g5⟩:=DG.out g4;obtain⟨x7,rfl,g6⟩:=DI.out g5;obtain⟨w3,e3,g7⟩:=DG.out g6;obtain⟨fd3,F3,C3,rfl,g8⟩:=DFn.out g7;obtain⟨w8,e8,g9⟩:=DG.out g8;obtain⟨x8,rfl,g10⟩:=DI.out g9;obtain⟨w9,e9,g11⟩:=DG.out g10;obtain⟨x9,rfl,g12⟩:=DI.out g11;obtain⟨rfl,h'⟩:=Zo.out g12;exact h'
      ·obtain⟨w0,e0,g1⟩:=DG.out h;obtain⟨A3,n3,m3,rfl,g2⟩:=DSl.out g1;obtain⟨x6,e1,g4⟩:=GI g2;obtain⟨x7,e2,g6⟩:=GI g4;obtain⟨w3,e3,g7⟩:=DG.out g6;obtain⟨fd3,F3,C3,rfl,g8⟩:=DFn.out g7;obtain⟨x8,e8,g10⟩:=GI g8;obtain⟨x9,e9,g12⟩:=GI g10;obtain⟨rfl,h'⟩:=Zo.out g12;exact(Zf (Λ:=(Zj.Λ4 K (Zj.l1 K k) (Zj.l4 K (Zj.l1 K k) k))) bZY _ _ [(0,.slice A3 n3 m3),(1,.int .i64 x6),(2,.int .i64 x7),(3,.func (.func fd3) F3 C3),(8,.int .i64 x8),(9,.int .i64 x9)] [] H (Eq.mp (by kernel_rfl) h') (Zb (Zb Za rfl (Zk Zl ZS)) rfl (Zb (Zu Za) rfl Za))).weaken (Ze.cons e0 (Ze.cons e1 (Ze.cons e2 (Ze.cons e3 (Ze.cons e8 (Ze.cons e9 (Ze.nil _))))))) (Hp.le_refl _)))))) rfl Za))).weaken (Ze.cons e0 (Ze.cons e1 (Ze.cons e2 (Ze.cons e3 (Ze.cons e8 (Ze.nil _)))))) (Hp.le_refl _))))))
end Go.Proofs.YtahjgjaenegpgaaGreatDoor.W
namespace Go.Proofs.YtahjgjaenegpgaaGreatDoor.W
open Go Go.Hw
theorem oZq :Tryz.prog.follows .mixedOrders=true:=by kernel_rfl
def dZc (x1:Int)(x2:Int)(H:Hp)(K:Value→Hp→Prop):Prop:=
 HcB 158 #[.int .u64 x1] H fun c1 H1=>HcB 158 #[.int .u64 x2] H1 fun c2 H2=>BIf c1 (BIf c2 (K (.int .i64 0) H2) (K (.int .i64 (-1)) H2)) (BIf c2 (K (.int .i64 1) H2) (BIf (decide (x1<x2)) (K (.int .i64 (-1)) H2) (BIf (decide (x1>x2)) (K (.int .i64 1) H2) (K (.int .i64 0) H2))))
theorem dZc.ok (x1:Int)(x2:Int)(H:Hp)(K:Value→Hp→Prop)(h:dZc x1 x2 H K):Zc Tryz.prog 112 #[.int .u64 x1,.int .u64 x2] H K:=
 Zr Tryz.func112 rfl (nbl rfl) (Zf (Λ:=Zn.none (fun _=>none)) oZq _ _ _ _ _ (Eq.mp (by kernel_rfl) h) (Zt _ _ _ _ _))
def dZG (x1:Int)(H:Hp)(K:Value→Hp→Prop):Prop:=
 K (.bool (x1 !=x1)) H
theorem dZG.ok (x1:Int)(H:Hp)(K:Value→Hp→Prop)(h:dZG x1 H K):Zc Tryz.prog 158 #[.int .u64 x1] H K:=
 Zr Tryz.func158 rfl (nbl rfl) (Zf (Λ:=Zn.none (fun _=>none)) oZq _ _ _ _ _ (Eq.mp (by kernel_rfl) h) (Zt _ _ _ _ _))
end Go.Proofs.YtahjgjaenegpgaaGreatDoor.W
namespace Go.Proofs.YtahjgjaenegpgaaGreatDoor.W
open Go Go.Hw
theorem cZ5 :Tryz.prog.follows .mixedOrders=true:=by kernel_rfl
def bZU.q1 (H2:Hp)(b1:Nat)(K:Value→Hp→Prop)(x1:Int):Prop:=
 StA H2 ⟨b1,0,none⟩ #[.int .u64 0,.int .i64 0,.int .i64 0,.int .i64 0,.int .i64 0,.int .u32 0,.int .u32 0,.int .u32 0] 8 fun H3=>LdA H3 ⟨b1,0,none⟩ 8 fun l5=>K (.tuple #[.agg l5.toArray,.bool false,.int .i64 x1]) H3
def bZU (p1:Option Addr)(H:Hp)(K:Value→Hp→Prop):Prop:=
 Nw H (.obj (.cells #[.int .u64 0,.int .i64 0,.int .i64 0,.int .i64 0,.int .i64 0,.int .u32 0,.int .u32 0,.int .u32 0] 93)) fun b1 H1=>Hz 76 #[.pointer p1] H1 fun v1 H2=>eZa v1 fun A1 n1 m1 x1=>(BIf (x1 !=0) (bZU.q1 H2 b1 K x1) (BIf ((n1:Int)==0) (bZU.q1 H2 b1 K x1) (ixI (IntKind.i64.wrap ((n1:Int)-1)) n1 (NN A1 fun a1=>LdA H2 (a1.add ((IntKind.i64.wrap ((n1:Int)-1)).toNat*8)) 8 fun l4=>StA H2 ⟨b1,0,none⟩ l4.toArray 8 fun H5=>LdA H5 ⟨b1,0,none⟩ 8 fun l7=>K (.tuple #[.agg l7.toArray,.bool true,.int .i64 0]) H5))))
theorem bZU.ok (p1:Option Addr)(H:Hp)(K:Value→Hp→Prop)(h:bZU p1 H K):Zc Tryz.prog 41 #[.pointer p1] H K:=
 Zr Tryz.func41 rfl (nbl rfl) (Zf (Λ:=Zn.none (fun _=>none)) cZ5 _ _ _ _ _ (Eq.mp (by kernel_rfl) h) (Zt _ _ _ _ _))
def ZW.l2.q1 (p4:Option Addr)(x5:Int)(x3:Int)(A1:Option Addr)(n1:Nat)(m1:Nat)(H1:Hp)(K:Value→Hp→Prop)(R2:Option Addr→Int→Int→Hp→Prop)(p2:Option Addr)(x2:Int):Prop:=
 HcI 53 #[.pointer p4,.int .i64 (IntKind.i64.wrap (x5+x3)),.slice A1 n1 m1] H1 fun x6 H2=>BIf (x6 !=0) (K (.int .i64 x6) H2) (R2 p2 x2 (IntKind.i64.wrap (x3+1)) H2)
def ZW.l2 (K:Value→Hp→Prop):Nat→Option Addr→Int→Int→Hp→Prop
 |0,_,_,_,_=>False
 |k+1,p2,x2,x3,H=>
  let R2:=ZW.l2 K k
  BIf (decide (x3<x2)) (NN p2 fun a2=>NN p2 fun a3=>NN p2 fun a4=>LeP H (a4.add 3) fun p3=>NN p3 fun a5=>QcI 51 #[.pointer (some (a5.add 0))] H fun x4=>(LeP H (a2.add 3) fun p4=>(LeI H ((a3.add 0).add 0) fun x5=>MkS Tryz.prog 5 x4 x4 H fun v6 H1=>DSl v6 fun A1 n1 m1=>ZW.l2.q1 p4 x5 x3 A1 n1 m1 H1 K R2 p2 x2)∧(MkS Tryz.prog 5 x4 x4 H fun v8 H3=>DSl v8 fun A2 n2 m2=>LeI H3 ((a3.add 0).add 0) fun x7=>ZW.l2.q1 p4 x7 x3 A2 n2 m2 H3 K R2 p2 x2))∧(LeI H ((a3.add 0).add 0) fun x9=>(LeP H (a2.add 3) fun p5=>MkS Tryz.prog 5 x4 x4 H fun v13 H5=>DSl v13 fun A3 n3 m3=>ZW.l2.q1 p5 x9 x3 A3 n3 m3 H5 K R2 p2 x2)∧(MkS Tryz.prog 5 x4 x4 H fun v15 H7=>DSl v15 fun A4 n4 m4=>LeP H7 (a2.add 3) fun p6=>ZW.l2.q1 p6 x9 x3 A4 n4 m4 H7 K R2 p2 x2))∧(MkS Tryz.prog 5 x4 x4 H fun v18 H9=>DSl v18 fun A5 n5 m5=>LeP H9 (a2.add 3) fun p7=>LeI H9 ((a3.add 0).add 0) fun x12=>ZW.l2.q1 p7 x12 x3 A5 n5 m5 H9 K R2 p2 x2)) (NN p2 fun a6=>LeP H (a6.add 3) fun p8=>HcI 55 #[.pointer p8] H fun x14 H11=>K (.int .i64 x14) H11)
def ZW (p1:Option Addr)(H:Hp)(K:Value→Hp→Prop):Prop:=
 NN p1 fun a1=>LeI H ((a1.add 0).add 1) fun x1=>(∃ k,ZW.l2 K k p1 x1 0 H)
def ZW.l2.L (K:Value→Hp→Prop)(k:Nat):Mid:=fun E D H=>
 eP E 0 fun p2=>eI E 9 .i64 fun x2=>eI E 10 .i64 fun x3=>Zo D (ZW.l2 K k p2 x2 x3 H)
def ZW.Λ2 (_:Value→Hp→Prop)(_R2:Option Addr→Int→Int→Hp→Prop):Zn:=Zn.none (fun i=>match Nat.beq i 4 with|true=>some ([3,8,14,17],[0,1,3,7,0,16,48,112,240,0,1008,0,2048,6144,14336,30720,63488,129024,260096,524287,1048575],0)|false=>none)
def ZW.Λ (K:Value→Hp→Prop):Zn:=⟨fun i=>none,fun i=>match Nat.beq i 2 with|true=>some (fun E D H=>∃ k,ZW.l2.L K k E D H)|false=>none,(fun i=>match Nat.beq i 4 with|true=>some ([3,8,14,17],[0,1,3,7,0,16,48,112,240,0,1008,0,2048,6144,14336,30720,63488,129024,260096,524287,1048575],0)|false=>none)⟩
theorem ZW.ok (p1:Option Addr)(H:Hp)(K:Value→Hp→Prop)(h:ZW p1 H K):Zc Tryz.prog 56 #[.pointer p1] H K:=
 Zr Tryz.func56 rfl (nbl rfl) (Zf (Λ:=(ZW.Λ K)) cZ5 _ _ _ _ _ (Eq.mp (by kernel_rfl) h) (Zb Za rfl (Zb (Zb Za rfl (Zu (ZZ rfl (fun E D H h=>by
   refine Safe.loop' (ZW.l2.L K) (fun E D H h=>?_) (fun k E D H h=>?_) E D H h
   ·obtain⟨w0,e0,g1⟩:=DG.out h;obtain⟨p2,rfl,g2⟩:=DP.out g1;obtain⟨w9,e9,g3⟩:=DG.out g2;obtain⟨x2,rfl,g4⟩:=DI.out g3;obtain⟨w10,e10,g5⟩:=DG.out g4;obtain⟨x3,rfl,g6⟩:=DI.out g5;obtain⟨rfl,h'⟩:=Zo.out g6;exact h'
   ·obtain⟨p2,e0,g2⟩:=GP h;obtain⟨x2,e9,g4⟩:=GI g2;obtain⟨x3,e10,g6⟩:=GI g4;obtain⟨rfl,h'⟩:=Zo.out g6;exact(Zf (Λ:=(ZW.Λ2 K (ZW.l2 K k))) cZ5 _ _ [(0,.pointer p2),(9,.int .i64 x2),(10,.int .i64 x3)] [] H (Eq.mp (by kernel_rfl) h') (Zb Za rfl (Zb (Zk Zl ZS) rfl (Zb (Zu (Zb Za rfl (Zb Za rfl (Zb Za rfl (Zk (Zb Za rfl Zy) Zl))))) rfl Za)))).weaken (Ze.cons e0 (Ze.cons e9 (Ze.cons e10 (Ze.nil _)))) (Hp.le_refl _))))) rfl (Zb Za rfl Zy))))
def hZj (p1:Option Addr)(x1:Int)(x2:Int)(x3:Int)(H:Hp)(K:Value→Hp→Prop):Prop:=
 Nw H (.obj (.cells #[.int .i64 x1,.int .i64 x2,.int .i64 x3] 98)) fun b1 H1=>BIf p1.isNone (K (.tuple #[.pointer none,.int .i64 1]) H1) (LeI H1 ((⟨b1,0,none⟩:Addr).add 1) fun x4=>BIf (decide (x4<2)) (K (.tuple #[.pointer none,.int .i64 2]) H1) (LeI H1 ((⟨b1,0,none⟩:Addr).add 0) fun x5=>BIf (decide (x5<0)) (K (.tuple #[.pointer none,.int .i64 2]) H1) (LeI H1 ((⟨b1,0,none⟩:Addr).add 0) fun x6=>NN p1 fun a1=>QcI 50 #[.pointer (some (a1.add 0))] H1 fun x7=>BIf (decide (x6≥x7)) (K (.tuple #[.pointer none,.int .i64 2]) H1) (LeI H1 ((⟨b1,0,none⟩:Addr).add 1) fun x8=>NN p1 fun a2=>QcI 50 #[.pointer (some (a2.add 0))] H1 fun x9=>LeI H1 ((⟨b1,0,none⟩:Addr).add 0) fun x10=>BIf (decide (x8>(IntKind.i64.wrap (x9-x10)))) (K (.tuple #[.pointer none,.int .i64 2]) H1) (LdA H1 ⟨b1,0,none⟩ 3 fun l1=>qZh l1.toArray.toList fun x11 x12 x13=>(Nw H1 (.obj (.cells #[.int .i64 x11,.int .i64 x12,.int .i64 x13,.pointer p1] 173)) fun b2 H2=>K (.tuple #[.pointer (some ⟨b2,0,none⟩),.int .i64 0]) H2))))))
theorem hZj.ok (p1:Option Addr)(x1:Int)(x2:Int)(x3:Int)(H:Hp)(K:Value→Hp→Prop)(h:hZj p1 x1 x2 x3 H K):Zc Tryz.prog 74 #[.pointer p1,.agg #[.int .i64 x1,.int .i64 x2,.int .i64 x3]] H K:=
 Zr Tryz.func74 rfl (nbl rfl) (Zf (Λ:=Zn.none (fun _=>none)) cZ5 _ _ _ _ _ (Eq.mp (by kernel_rfl) h) (Zt _ _ _ _ _))
def ZU.j5 (K:Value→Hp→Prop)(R2:Option Addr→Option Addr→Nat→Nat→Int→Int→Hp→Prop)(p5:Option Addr)(A4:Option Addr)(n4:Nat)(m4:Nat)(x8:Int)(A5:Option Addr)(n5:Nat)(m5:Nat)(x9:Int)(x10:Int)(x11:Int)(H:Hp):Prop:=
 BIf (x9 !=0) (K (.tuple #[.slice none 0 0,.int .i64 x9]) H) (Hz 108 #[.slice A5 n5 m5] H fun v12 H3=>fZW v12 fun y1 x12=>(Nw H3 (.obj (.cells #[.int .u64 0,.int .i64 0,.int .i64 0,.int .i64 0,.int .i64 0,.int .u32 0,.int .u32 0,.int .u32 0] 93)) fun b1 H4=>StA H4 ⟨b1,0,none⟩ y1 8 fun H5=>BIf (x12==0) (LeW H5 ((⟨b1,0,none⟩:Addr).add 0) fun x13=>QcI 109 #[.pointer p5,.int .u64 x13] H5 fun x14=>NN p5 fun a4=>LeI H5 ((a4.add 0).add 0) fun x15=>BIf (x14==(IntKind.i64.wrap (x15+x8))) (LdA H5 ⟨b1,0,none⟩ 8 fun l10=>kZ4 l10.toArray.toList fun x16 x17 x18 x19 x20 x21 x22 x23=>(Nw H5 (.row [.int .u64 x16,.int .i64 x17,.int .i64 x18,.int .i64 x19,.int .i64 x20,.int .u32 x21,.int .u32 x22,.int .u32 x23] 93 8) fun b2 H6=>cZ7 Tryz.prog 93 (.slice A4 n4 m4) (.slice (some ⟨b2,0,none⟩) 1 1) H6 fun v26 H7=>DSl v26 fun A6 n6 m6=>R2 p5 A6 n6 m6 x10 (IntKind.i64.wrap (x11+1)) H7)) (R2 p5 A4 n4 m4 x10 (IntKind.i64.wrap (x11+1)) H5)) (R2 p5 A4 n4 m4 x10 (IntKind.i64.wrap (x11+1)) H5)))
def ZU.l2 (K:Value→Hp→Prop):Nat→Option Addr→Option Addr→Nat→Nat→Int→Int→Hp→Prop
 |0,_,_,_,_,_,_,_=>False
 |k+1,p2,A1,n1,m1,x2,x3,H=>
  let R2:=ZU.l2 K k
  BIf (decide (x3<x2)) (NN p2 fun a2=>NN p2 fun a3=>(LeP H (a2.add 3) fun p3=>LeI H ((a3.add 0).add 0) fun x4=>Hz 70 #[.pointer p3,.int .i64 (IntKind.i64.wrap (x4+x3))] H fun v4 H1=>eZa v4 fun A2 n2 m2 x5=>(ZU.j5 K R2 p2 A1 n1 m1 x3 A2 n2 m2 x5 x2 x3 H1))∧(LeI H ((a3.add 0).add 0) fun x6=>LeP H (a2.add 3) fun p4=>Hz 70 #[.pointer p4,.int .i64 (IntKind.i64.wrap (x6+x3))] H fun v9 H2=>eZa v9 fun A3 n3 m3 x7=>(ZU.j5 K R2 p2 A1 n1 m1 x3 A3 n3 m3 x7 x2 x3 H2))) (Hz 110 #[.slice A1 n1 m1,.func (.func 111) #[] #[]] H fun v27 H8=>K (.tuple #[.slice A1 n1 m1,.int .i64 0]) H8)
def ZU (p1:Option Addr)(H:Hp)(K:Value→Hp→Prop):Prop:=
 NN p1 fun a1=>LeI H ((a1.add 0).add 1) fun x1=>(∃ k,ZU.l2 K k p1 none 0 0 x1 0 H)
def ZU.l2.L (K:Value→Hp→Prop)(k:Nat):Mid:=fun E D H=>
 eP E 0 fun p2=>DG (E.get? 2) fun w2=>DSl w2 fun A1 n1 m1=>eI E 13 .i64 fun x2=>eI E 14 .i64 fun x3=>Zo D (ZU.l2 K k p2 A1 n1 m1 x2 x3 H)
def ZU.Λ2 (K:Value→Hp→Prop)(R2:Option Addr→Option Addr→Nat→Nat→Int→Int→Hp→Prop):Zn:=⟨fun i=>match Nat.beq i 5 with|true=>some (fun E D H=>eP E 0 fun p5=>DG (E.get? 2) fun w2=>DSl w2 fun A4 n4 m4=>eI E 4 .i64 fun x8=>DG (E.get? 5) fun w5=>DSl w5 fun A5 n5 m5=>eI E 6 .i64 fun x9=>eI E 13 .i64 fun x10=>eI E 14 .i64 fun x11=>Zo D (ZU.j5 K R2 p5 A4 n4 m4 x8 A5 n5 m5 x9 x10 x11 H))|false=>none,fun i=>none,(fun i=>match Nat.beq i 4 with|true=>some ([],[0,1,3,7,0,16,48,112,240,0,1008,2047,4095,8191,8191,16383,65535],0)|false=>none)⟩
def ZU.Λ (K:Value→Hp→Prop):Zn:=⟨fun i=>none,fun i=>match Nat.beq i 2 with|true=>some (fun E D H=>∃ k,ZU.l2.L K k E D H)|false=>none,(fun i=>match Nat.beq i 4 with|true=>some ([],[0,1,3,7,0,16,48,112,240,0,1008,2047,4095,8191,8191,16383,65535],0)|false=>none)⟩
theorem ZU.ok (p1:Option Addr)(H:Hp)(K:Value→Hp→Prop)(h:ZU p1 H K):Zc Tryz.prog 76 #[.pointer p1] H K:=
 Zr Tryz.func76 rfl (nbl rfl) (Zf (Λ:=(ZU.Λ K)) cZ5 _ _ _ _ _ (Eq.mp (by kernel_rfl) h) (Zb Za rfl (Zb (Zb Za rfl (Zu (ZZ rfl (fun E D H h=>by
   refine Safe.loop' (ZU.l2.L K) (fun E D H h=>?_) (fun k E D H h=>?_) E D H h
   ·obtain⟨w0,e0,g1⟩:=DG.out h;obtain⟨p2,rfl,g2⟩:=DP.out g1;obtain⟨w2,e2,g3⟩:=DG.out g2;obtain⟨A1,n1,m1,rfl,g4⟩:=DSl.out g3;obtain⟨w13,e13,g5⟩:=DG.out g4;obtain⟨x2,rfl,g6⟩:=DI.out g5;obtain⟨w14,e14,g7⟩:=DG.out g6;obtain⟨x3,rfl,g8⟩:=DI.out g7;obtain⟨rfl,h'⟩:=Zo.out g8;exact h'
   ·obtain⟨p2,e0,g2⟩:=GP h;obtain⟨w2,e2,g3⟩:=DG.out g2;obtain⟨A1,n1,m1,rfl,g4⟩:=DSl.out g3;obtain⟨x2,e13,g6⟩:=GI g4;obtain⟨x3,e14,g8⟩:=GI g6;obtain⟨rfl,h'⟩:=Zo.out g8;exact(Zf (Λ:=(ZU.Λ2 K (ZU.l2 K k))) cZ5 _ _ [(0,.pointer p2),(2,.slice A1 n1 m1),(13,.int .i64 x2),(14,.int .i64 x3)] [] H (Eq.mp (by kernel_rfl) h') (Zb Za rfl (Zb (Zk Zl ZS) rfl (Zb (Zu (Zb Za rfl (aZH Za rfl (fun E D H h=>by
      obtain⟨p5,e0,g2⟩:=GP h;obtain⟨w2,e2,g3⟩:=DG.out g2;obtain⟨A4,n4,m4,rfl,g4⟩:=DSl.out g3;obtain⟨x8,e4,g6⟩:=GI g4;obtain⟨w5,e5,g7⟩:=DG.out g6;obtain⟨A5,n5,m5,rfl,g8⟩:=DSl.out g7;obtain⟨x9,e6,g10⟩:=GI g8;obtain⟨x10,e13,g12⟩:=GI g10;obtain⟨x11,e14,g14⟩:=GI g12;obtain⟨rfl,h'⟩:=Zo.out g14;exact(Zf (Λ:=(ZU.Λ2 K (ZU.l2 K k))) cZ5 _ _ [(0,.pointer p5),(2,.slice A4 n4 m4),(4,.int .i64 x8),(5,.slice A5 n5 m5),(6,.int .i64 x9),(13,.int .i64 x10),(14,.int .i64 x11)] [] H (Eq.mp (by kernel_rfl) h') (Zb (Zb Za rfl (Zk (Zb Za rfl Zy) Zl)) rfl (Zb Za rfl (Zb Za rfl (Zk Za Zl))))).weaken (Ze.cons e0 (Ze.cons e2 (Ze.cons e4 (Ze.cons e5 (Ze.cons e6 (Ze.cons e13 (Ze.cons e14 (Ze.nil _)))))))) (Hp.le_refl _))))) rfl Za)))).weaken (Ze.cons e0 (Ze.cons e2 (Ze.cons e13 (Ze.cons e14 (Ze.nil _))))) (Hp.le_refl _))))) rfl (Zb Za rfl (Zb Za rfl Zy)))))
def ZQ.j9 (K:Value→Hp→Prop)(p5:Option Addr)(a5:Addr)(A5:Option Addr)(n5:Nat)(m5:Nat)(H:Hp):Prop:=
 NN p5 fun a6=>LeP H (a6.add 3) fun p6=>LeW H (a5.add 0) fun x13=>QcI 109 #[.pointer p5,.int .u64 x13] H fun x14=>HcI 53 #[.pointer p6,.int .i64 x14,.slice A5 n5 m5] H fun x15 H12=>BIf (x15 !=0) (K (.int .i64 x15) H12) (NN p5 fun a7=>LeP H12 (a7.add 3) fun p7=>HcI 55 #[.pointer p7] H12 fun x16 H13=>K (.int .i64 x16) H13)
def ZQ.j2 (K:Value→Hp→Prop)(p4:Option Addr)(a4:Addr)(A4:Option Addr)(n4:Nat)(m4:Nat)(x7:Int)(H:Hp):Prop:=
 BIf (x7 !=0) (K (.int .i64 10) H) (Hz 41 #[.pointer p4] H fun v15 H8=>qZl v15 fun y2 c1 x8=>(Nw H8 (.obj (.cells #[.int .u64 0,.int .i64 0,.int .i64 0,.int .i64 0,.int .i64 0,.int .u32 0,.int .u32 0,.int .u32 0] 93)) fun b2 H9=>StA H9 ⟨b2,0,none⟩ y2 8 fun H10=>BIf (x8 !=0) (K (.int .i64 x8) H10) (BIf c1 (LdA H10 ⟨b2,0,none⟩ 8 fun l17=>LdA H10 a4 8 fun l18=>HcB 134 #[.agg l17.toArray,.agg l18.toArray] H10 fun c2 H11=>BIf (!c2) (K (.int .i64 5) H11) (BIf (!c1) (LeW H11 (a4.add 0) fun x9=>BIf (x9 !=1) (K (.int .i64 5) H11) (LeI H11 (a4.add 1) fun x11=>BIf (x11 !=1) (K (.int .i64 5) H11) (ZQ.j9 K p4 a4 A4 n4 m4 H11))) (ZQ.j9 K p4 a4 A4 n4 m4 H11))) (BIf (!c1) (LeW H10 (a4.add 0) fun x10=>BIf (x10 !=1) (K (.int .i64 5) H10) (LeI H10 (a4.add 1) fun x12=>BIf (x12 !=1) (K (.int .i64 5) H10) (ZQ.j9 K p4 a4 A4 n4 m4 H10))) (ZQ.j9 K p4 a4 A4 n4 m4 H10)))))
def ZQ.q1 (l1:List Value)(x1:Int)(H2:Hp)(K:Value→Hp→Prop)(p1:Option Addr)(b1:Nat):Prop:=
 Hz 133 #[.agg l1.toArray,.int .i64 x1] H2 fun v3 H3=>eZa v3 fun A1 n1 m1 x2=>(ZQ.j2 K p1 ⟨b1,0,none⟩ A1 n1 m1 x2 H3)
def ZQ (p1:Option Addr)(y1:Array Value)(H:Hp)(K:Value→Hp→Prop):Prop:=
 Nw H (.obj (.cells y1 93)) fun b1 H1=>NN p1 fun a1=>(LdA H1 ⟨b1,0,none⟩ 8 fun l1=>LeP H1 (a1.add 3) fun p2=>NN p2 fun a2=>HcI 51 #[.pointer (some (a2.add 0))] H1 fun x1 H2=>ZQ.q1 l1 x1 H2 K p1 b1)∧(LeP H1 (a1.add 3) fun p3=>NN p3 fun a3=>(LdA H1 ⟨b1,0,none⟩ 8 fun l5=>HcI 51 #[.pointer (some (a3.add 0))] H1 fun x3 H4=>ZQ.q1 l5 x3 H4 K p1 b1)∧(HcI 51 #[.pointer (some (a3.add 0))] H1 fun x5 H6=>LdA H6 ⟨b1,0,none⟩ 8 fun l9=>ZQ.q1 l9 x5 H6 K p1 b1))
def ZQ.Λ (K:Value→Hp→Prop):Zn:=⟨fun i=>match Nat.beq i 9 with|true=>some (fun E D H=>eP E 0 fun p5=>eN E 3 fun a5=>DG (E.get? 5) fun w5=>DSl w5 fun A5 n5 m5=>Zo D (ZQ.j9 K p5 a5 A5 n5 m5 H))|false=>match Nat.beq i 2 with|true=>some (fun E D H=>eP E 0 fun p4=>eN E 3 fun a4=>DG (E.get? 5) fun w5=>DSl w5 fun A4 n4 m4=>eI E 6 .i64 fun x7=>Zo D (ZQ.j2 K p4 a4 A4 n4 m4 x7 H))|false=>none,fun i=>none,(fun i=>match Nat.beq i 9 with|true=>some ([],[0,1,2,3,4,5,6,7,8],9)|false=>match Nat.beq i 1 with|true=>some ([],[0,0,2,6,14,30,62,126,255,511,1023,1023,2047,8191],0)|false=>none)⟩
theorem ZQ.ok (p1:Option Addr)(y1:Array Value)(H:Hp)(K:Value→Hp→Prop)(h:ZQ p1 y1 H K):Zc Tryz.prog 84 #[.pointer p1,.agg y1] H K:=
 Zr Tryz.func84 rfl (nbl rfl) (Zf (Λ:=(ZQ.Λ K)) cZ5 _ _ _ _ _ (Eq.mp (by kernel_rfl) h) (Zb Za rfl (aZH Za rfl (fun E D H h=>by
   obtain⟨p4,e0,g2⟩:=GP h;obtain⟨a4,e3,g5⟩:=GN g2;obtain⟨w5,e5,g6⟩:=DG.out g5;obtain⟨A4,n4,m4,rfl,g7⟩:=DSl.out g6;obtain⟨x7,e6,g9⟩:=GI g7;obtain⟨rfl,h'⟩:=Zo.out g9;exact(Zf (Λ:=(ZQ.Λ K)) cZ5 _ _ [(0,.pointer p4),(3,.pointer (some a4)),(5,.slice A4 n4 m4),(6,.int .i64 x7)] [] H (Eq.mp (by kernel_rfl) h') (Zb (Zb Za rfl (Zk (Zb Za rfl Zy) Zl)) rfl (Zb Za rfl (aZH (Zu (Zb Za rfl (Zk (Zb Za rfl Zy) (Zb Za rfl (Zk (Zb Za rfl Zy) Zl))))) rfl (fun E D H h=>by
     obtain⟨p5,e0,g2⟩:=GP h;obtain⟨a5,e3,g5⟩:=GN g2;obtain⟨w5,e5,g6⟩:=DG.out g5;obtain⟨A5,n5,m5,rfl,g7⟩:=DSl.out g6;obtain⟨rfl,h'⟩:=Zo.out g7;exact(Zf (Λ:=(ZQ.Λ K)) cZ5 _ _ [(0,.pointer p5),(3,.pointer (some a5)),(5,.slice A5 n5 m5)] [] H (Eq.mp (by kernel_rfl) h') (Zb (Zb Za rfl (Zb Za rfl (Zk (Zb Za rfl Zy) Zl))) rfl (Zb Za rfl Zy))).weaken (Ze.cons e0 (Ze.cons e3 (Ze.cons e5 (Ze.nil _)))) (Hp.le_refl _)))))).weaken (Ze.cons e0 (Ze.cons e3 (Ze.cons e5 (Ze.cons e6 (Ze.nil _))))) (Hp.le_refl _)))))
def eZm (p1:Option Addr)(x1:Int)(H:Hp)(K:Value→Hp→Prop):Prop:=
 NN p1 fun a1=>LeI H ((a1.add 0).add 0) fun x2=>NN p1 fun a2=>LeI H ((a2.add 0).add 1) fun x3=>((IntKind.u64.wrap x3)≠0∧IntKind.u64=IntKind.u64∧K (.int .i64 (IntKind.i64.wrap (x2+(IntKind.i64.wrap (Int.tmod (IntKind.u64.wrap (x1-1)) (IntKind.u64.wrap x3)))))) H)
theorem eZm.ok (p1:Option Addr)(x1:Int)(H:Hp)(K:Value→Hp→Prop)(h:eZm p1 x1 H K):Zc Tryz.prog 109 #[.pointer p1,.int .u64 x1] H K:=
 Zr Tryz.func109 rfl (nbl rfl) (Zf (Λ:=Zn.none (fun _=>none)) cZ5 _ _ _ _ _ (Eq.mp (by kernel_rfl) h) (Zt _ _ _ _ _))
def dZL (y1:Array Value)(y2:Array Value)(H:Hp)(K:Value→Hp→Prop):Prop:=
 Nw H (.obj (.cells y1 93)) fun b1 H1=>Nw H1 (.obj (.cells y2 93)) fun b2 H2=>LeW H2 ((⟨b1,0,none⟩:Addr).add 0) fun x1=>LeW H2 ((⟨b2,0,none⟩:Addr).add 0) fun x2=>HcI 112 #[.int .u64 x1,.int .u64 x2] H2 fun x3 H3=>K (.int .i64 x3) H3
theorem dZL.ok (y1:Array Value)(y2:Array Value)(H:Hp)(K:Value→Hp→Prop)(h:dZL y1 y2 H K):Zc Tryz.prog 111 #[.agg y1,.agg y2] H K:=
 Zr Tryz.func111 rfl (nbl rfl) (Zf (Λ:=Zn.none (fun _=>none)) cZ5 _ _ _ _ _ (Eq.mp (by kernel_rfl) h) (Zt _ _ _ _ _))
end Go.Proofs.YtahjgjaenegpgaaGreatDoor.W
namespace Go.Proofs.YtahjgjaenegpgaaGreatDoor.Lib2
open Go Go.Proofs Go.Shelf Go.RowKit
def tZz :Go.Shelf.Ren:=⟨fun|129=>194|n=>n,fun|53=>84|3=>3|4=>4|46=>86|5=>5|9=>9|n=>n,fun|n=>n⟩
theorem xZe :Go.Proofs.Lays.n129 Tryz.prog tZz where
 mixed:=by kernel_rfl
 f129:=Tryz.func194.trans (congrArg some (by kernel_rfl))
 t3:=Tryz.underlying3
 a3:=Tryz.isAgg3
 z3:=Tryz.sizeOf3
 v3:=Tryz.zeroValue3
 t4:=Tryz.underlying4
 a4:=Tryz.isAgg4
 z4:=Tryz.sizeOf4
 v4:=Tryz.zeroValue4
 t5:=Tryz.underlying5
 a5:=Tryz.isAgg5
 z5:=Tryz.sizeOf5
 v5:=Tryz.zeroValue5
 t9:=Tryz.underlying9
 a9:=Tryz.isAgg9
 z9:=Tryz.sizeOf9
 v9:=Tryz.zeroValue9
 t46:=Tryz.underlying86
 a46:=Tryz.isAgg86
 z46:=Tryz.sizeOf86
 v46:=Tryz.zeroValue86
 t53:=Tryz.underlying84
 a53:=Tryz.isAgg84
 z53:=Tryz.sizeOf84
 v53:=Tryz.zeroValue84
end Go.Proofs.YtahjgjaenegpgaaGreatDoor.Lib2
namespace Go.Hw
open Go Go.Proofs Go.Proofs.YtahjgjaenegpgaaGreatDoor.Lib2 Go.RowKit Go.Shelf
theorem sZ8 (x:Nat)(hx:x<18446744073709551616)(H:Hp):Zc Tryz.prog 194 #[.int .u64 (x:Int)] H (RetE (.int .i64 (Lib.bitLen x:Int)) H):=fun w hw=>by
 refine(Any.bits_Len64 xZe (x:Int) w (by omega) (by omega)).mono ?_;rintro e w' ⟨rfl,rfl⟩;exact⟨_,H,rfl,⟨by rw[Int.toNat_natCast],rfl⟩,At.refl hw⟩
end Go.Hw
namespace Go.Proofs.YtahjgjaenegpgaaGreatDoor.Srt
open Go Go.Hw W Rec
theorem Sep.wrR {L:List As}{H:Hp}(h:Hw.Sep L H)(i:Nat){e:TypeId}{s:Nat}{A:Option Addr}{n m:Nat}{xs:List Value}(hi:L[i]? =some (Own e s A n m xs)){x:Int}{j:Nat}(hx:x=j)(hj:j<n){y:Array Value}(hy:y.size=s)(hv:y.toList.all (fun v=>v.oneCell')=true){K:Hp→Prop}
  (k:∀ H',Hw.Sep (L.set i (Own e s A n m (setAt xs (j*s) y.toList))) H'→K H'):ixI x n (NN A fun a=>StA H (a.add (x.toNat*s)) y s K):=by
 subst hx;refine⟨by omega,by omega,?_⟩;rcases h.unown i hi with⟨_,h0,_⟩|⟨b,mm,rfl,hmm,hlx,hs⟩
 ·omega
 rw[aZ5,Addr.add_lit',Int.toNat_natCast,Nat.zero_add];have hlt:i<L.length:=(List.getElem?_eq_some_iff.1 hi).1;have hb:H b=some (.row xs e mm):=hs.get i (by rw[List.getElem?_set_self hlt]);have hjs:j*s+s≤n*s:=by
  have:=Nat.mul_le_mul_right s (show j+1≤n by omega)
  rwa [Nat.succ_mul]at this
 have hyl:y.toList.length=s:=by rw[Array.length_toList];exact hy
 refine⟨hy,?_⟩;rw[kZN y.toList 0 H xs hb (by omega) (fun v hq=>List.all_eq_true.1 hv v hq)];refine k _ ?_;have hs2:=hs.put i (.row (setAt xs (j*s+0) y.toList) e mm) (by rw[List.getElem?_set_self hlt]);have hs3:=hs2.turn i (by rw[List.getElem?_set_self (by rw[List.length_set];exact hlt)]) (B:=Own e s (some ⟨b,0,none⟩) n m (setAt xs (j*s) y.toList)) (fun H1 h1=>⟨by rw[cZS (by omega)];exact hlx,.inr ⟨b,mm,rfl,by rw[Nat.add_zero]at h1;exact h1,hmm⟩⟩);rw[List.set_set,List.set_set]at hs3;exact hs3
def cZr (l:List R):List Value:=l.flatMap fun r=>r.c.toList
theorem hZM :∀(l:List R) (j:Nat) (h:j<l.length),((cZr l).drop (j*8)).take 8=l[j].c.toList
 |r::l,0,_=>by
  show((r.c.toList++cZr l).drop (0*8)).take 8=_
  rw[Nat.zero_mul,List.drop_zero];exact List.take_left' rfl
 |r::l,j+1,h=>by
  have ih:=hZM l j (by simpa using h);show((r.c.toList++cZr l).drop ((j+1)*8)).take 8=_
  rw[show(j+1)*8=r.c.toList.length+j*8 by rw[show r.c.toList.length=8 from rfl];omega,←List.drop_drop,List.drop_left];exact ih
theorem kZP :∀(l:List R) (j:Nat) (q:R) (h:j<l.length),setAt (cZr l) (j*8) q.c.toList=cZr (l.set j q)
 |r::l,0,q,_=>by
  show setAt (r.c.toList++cZr l) (0*8) q.c.toList=q.c.toList++cZr l
  unfold setAt;rw[Nat.zero_mul,List.take_zero,List.nil_append,Nat.zero_add];congr 1
 |r::l,j+1,q,h=>by
  have ih:=kZP l j q (by simpa using h);show setAt (r.c.toList++cZr l) ((j+1)*8) q.c.toList=r.c.toList++cZr (l.set j q)
  rw[← ih];unfold setAt;have e:(j+1)*8=r.c.toList.length+j*8:=by rw[show r.c.toList.length=8 from rfl];omega
  rw[e,List.take_length_add_append,Nat.add_assoc,List.drop_length_add_append];simp
theorem fZb (r:R):r.c.toList.all (fun v=>v.oneCell')=true:=rfl
def dR :R:=⟨0,0,0,0,0,0,0,0⟩
def bub (l:List R):Nat→List R
 |0=>l
 |j+1=>if(l.getD (j+1) dR).s<(l.getD j dR).s then bub ((l.set (j+1) (l.getD j dR)).set j (l.getD (j+1) dR)) j else l
theorem uZV (j:Nat):∀ l,(bub l j).length=l.length:=by
 induction j with
 |zero=>intro l;rfl
 |succ j ih=>
  intro l;unfold bub;split
  ·rw[ih];simp
  ·rfl
def bZ8 (l:List R):Nat→List R
 |0=>l
 |i+1=>bZ8 l i|>fun q=>bub q (i+1)
theorem oZd (x:Int)(H:Hp):Zc Tryz.prog 158 #[.int .u64 x] H (RetE (.bool false) H):=by
 apply dZG.ok;unfold dZG;simp only[bne_self_eq_false];exact RetE.mk _ _
def qZs (a b:Nat):Int:=if a<b then -1 else if b<a then 1 else 0
theorem wZg (a b:Nat)(H:Hp):Zc Tryz.prog 112 #[.int .u64 (a:Int),.int .u64 (b:Int)] H (RetE (.int .i64 (qZs a b)) H):=by
 apply dZc.ok;unfold dZc;refine Zc.use (oZd _ H) ?_;simp only[HV];refine Zc.use (oZd _ H) ?_;simp only[HV];unfold qZs;by_cases h1:a<b
 ·rw[if_pos h1];exact Zw (by omega) (RetE.mk _ _)
 ·rw[if_neg h1];refine Zm (by omega) ?_;by_cases h2:b<a
  ·rw[if_pos h2];exact Zw (by omega) (RetE.mk _ _)
  ·rw[if_neg h2];exact Zm (by omega) (RetE.mk _ _)
theorem vZb (a b:R)(H:Hp):Zc Tryz.prog 111 #[.agg a.c,.agg b.c] H (RetE (.int .i64 (qZs a.s b.s)) H):=Zc.ret (by
 apply dZL.ok;unfold dZL;refine(Sep.start H).nw fun b1 H1 hs=>?_
 refine hs.nw fun b2 H1 hs=>?_
 refine hs.ldf 1 rfl rfl ?_;simp only[HV];refine hs.ldf 2 rfl rfl ?_;simp only[HV];refine Zc.use (wZg a.s b.s H1) ?_;simp only[HV];exact hs.fin 0 rfl _)
end Go.Proofs.YtahjgjaenegpgaaGreatDoor.Srt
namespace Go.Proofs.YtahjgjaenegpgaaGreatDoor.Srt
open Go Go.Hw W Rec
theorem pZx (l:List R){j:Nat}(h:j<l.length):l.getD j dR=l[j]:=by
 rw[List.getD_eq_getElem?_getD,List.getElem?_eq_getElem h];rfl
theorem mZK (A:Option Addr)(n m:Nat)(i:Nat)(hn:n≤1000)(K:Value→Hp→Prop)(R1:Option Addr→Nat→Nat→Int→Int→FuncId→Array Value→Array Value→Int→Hp→Prop)(fin:List R)
  (k:∀ H',Hw.Sep [Own 93 8 A n m (cZr fin)] H'→R1 A n m 0 (n:Int) 111 #[] #[] (IntKind.i64.wrap ((i:Int)+1)) H'):
  ∀(j:Nat) (l:List R) (H:Hp),l.length=n→j<n→bub l j=fin→Hw.Sep [Own 93 8 A n m (cZr l)] H→
   Zj.l4 K R1 (j+1) A n m 0 (n:Int) 111 #[] #[] (i:Int) (j:Int) H
 |0,l,H,hl,hj,hf,hs=>by
  unfold Zj.l4;refine Zm (by omega) ?_;have hf:l=fin:=hf;rw[hf]at hs;exact k H hs
 |j+1,l,H,hl,hj,hf,hs=>by
  unfold Zj.l4;refine Zw (by omega) ?_;have hj1:j+1<l.length:=by omega
  have hj0:j<l.length:=by omega
  have ej:IntKind.i64.wrap (((j+1:Nat):Int)-1)=(j:Int):=by rw[ZV (by omega) (by omega)];omega
  rw[ej];have ho:=hs.own 0 rfl;refine ho.rdA rfl hj (hZM l (j+1) hj1) ?_;refine ho.rdA (j:=j) rfl (by omega) (hZM l j hj0) ?_;refine aZN (by kernel_rfl) ?_;rw[Array.toArray_toList,Array.toArray_toList];refine Zc.use (vZb l[j+1] l[j] H) ?_;have hr:bZC Tryz.prog 111=[3]:=by kernel_rfl
  rw[hr];have hdt:∀(x:Int) (K:Value→Prop),K (.int .i64 x)→DR Tryz.prog [3] (.int .i64 x) K:=fun x K k=>by
   show DT Tryz.prog 3 (.int .i64 x) K
   unfold DT;rw[show Tryz.prog.underlying 3=some (.int .i64) by kernel_rfl];exact k
  refine hdt _ _ ?_;simp only[HV];unfold bub at hf;rw[pZx l hj1,pZx l hj0]at hf;unfold qZs;by_cases hlt:l[j+1].s<l[j].s
  ·rw[if_pos hlt]at hf⊢;refine Zw (by decide) ?_;have ix:∀{x:Int} {q:Nat} {P:Addr→Prop},x=q→q<n→(∀ b mm,A=some ⟨b,0,none⟩→P ⟨b,0,none⟩)→ixI x n (NN A P):=fun{x q P} hx hq hp=>by
    refine⟨by omega,by omega,?_⟩;rcases hs.unown 0 rfl with⟨_,h0,_⟩|⟨b,mm,rfl,_,_,_⟩
    ·omega
    ·rw[aZ5];exact hp b mm rfl
   refine ix (q:=j) rfl (by omega) fun b mm hA=>?_
   subst hA;refine⟨by omega,by omega,?_⟩;rw[aZ5];have hw1:=kZP l (j+1) l[j] hj1;have hw2:=kZP (l.set (j+1) l[j]) j l[j+1] (by rw[List.length_set];exact hj0);have go:∀ H1,Hw.Sep [Own 93 8 (some ⟨b,0,none⟩) n m (cZr l)] H1→
     ixI ((j+1:Nat):Int) n (NN (some (⟨b,0,none⟩:Addr)) fun a5=>StA H1 (a5.add (((j+1:Nat):Int).toNat*8)) l[j].c 8 fun H2=>ixI (j:Int) n (NN (some (⟨b,0,none⟩:Addr)) fun a6=>StA H2 (a6.add ((j:Int).toNat*8)) l[j+1].c 8 fun H3=>
      Zj.l4 K R1 (j+1) (some ⟨b,0,none⟩) n m 0 (n:Int) 111 #[] #[] (i:Int) (j:Int) H3)):=fun H1 hs=>by
    refine Sep.wrR hs 0 rfl rfl hj rfl (fZb _) fun H2 hs=>?_
    refine Sep.wrR hs 0 rfl rfl (show j<n by omega) rfl (fZb _) fun H3 hs=>?_
    simp only[List.set_cons_zero]at hs;rw[hw1,hw2]at hs;exact mZK (some ⟨b,0,none⟩) n m i hn K R1 fin k j _ H3 (by simp;exact hl) (by omega) hf hs
   have rd:∀{q:Nat} (hq:q<l.length) {P:List Value→Prop},P l[q].c.toList→LdA H ((⟨b,0,none⟩:Addr).add ((q:Int).toNat*8)) 8 P:=fun{q} hq {P} hp=>by
    have:=(hs.own 0 rfl).rdA (x:=(q:Int)) (j:=q) rfl (by omega) (hZM l q hq) (K:=P) hp;exact this.2.2
   refine⟨?_,?_⟩
   ·refine rd hj0 (rd hj1 ?_);rw[Array.toArray_toList,Array.toArray_toList];exact go H hs
   ·refine rd hj1 (rd hj0 ?_);rw[Array.toArray_toList,Array.toArray_toList];exact go H hs
  ·rw[if_neg hlt]at hf⊢;refine Zm (by split<;>decide) ?_;rw[hf]at hs;exact k H hs
end Go.Proofs.YtahjgjaenegpgaaGreatDoor.Srt
namespace Go.Proofs.YtahjgjaenegpgaaGreatDoor.W
open Go Go.Hw
theorem dZO :Tryz.prog.follows .mixedOrders=true:=by kernel_rfl
def bZ6 (x1:Int)(H:Hp)(K:Value→Hp→Prop):Prop:=
 BIf (x1==0) (K (.int .i64 64) H) ((0≤(58:Int)∧ixI (aZE .u64 (IntKind.u64.wrap ((aZF .u64 x1 (IntKind.u64.wrap (0-x1)))*285870213051353865)) 58) 64 (LeV H ((⟨0,0,none⟩:Addr).add ((aZE .u64 (IntKind.u64.wrap ((aZF .u64 x1 (IntKind.u64.wrap (0-x1)))*285870213051353865)) 58).toNat*1)) fun x2=>K (.int .i64 (IntKind.i64.wrap x2)) H)))
theorem bZ6.ok (x1:Int)(H:Hp)(K:Value→Hp→Prop)(h:bZ6 x1 H K):Zc Tryz.prog 141 #[.int .u64 x1] H K:=
 Zr Tryz.func141 rfl (nbl rfl) (Zf (Λ:=Zn.none (fun _=>none)) dZO _ _ _ _ _ (Eq.mp (by kernel_rfl) h) (Zt _ _ _ _ _))
def cZZ (x1:Int)(H:Hp)(K:Value→Hp→Prop):Prop:=
 HcI 194 #[.int .u64 x1] H fun x2 H1=>K (.int .i64 x2) H1
theorem cZZ.ok (x1:Int)(H:Hp)(K:Value→Hp→Prop)(h:cZZ x1 H K):Zc Tryz.prog 148 #[.int .u64 x1] H K:=
 Zr Tryz.func148 rfl (nbl rfl) (Zf (Λ:=Zn.none (fun _=>none)) dZO _ _ _ _ _ (Eq.mp (by kernel_rfl) h) (Zt _ _ _ _ _))
def cZk (x1:Int)(H:Hp)(K:Value→Hp→Prop):Prop:=
 HcI 141 #[.int .u64 x1] H fun x2 H1=>K (.int .i64 x2) H1
theorem cZk.ok (x1:Int)(H:Hp)(K:Value→Hp→Prop)(h:cZk x1 H K):Zc Tryz.prog 176 #[.int .u64 x1] H K:=
 Zr Tryz.func176 rfl (nbl rfl) (Zf (Λ:=Zn.none (fun _=>none)) dZO _ _ _ _ _ (Eq.mp (by kernel_rfl) h) (Zt _ _ _ _ _))
def aZB.j7 (K:Value→Hp→Prop)(x4:Int)(x5:Int)(H:Hp):Prop:=
 BIf (decide (x4≥256)) ((0≤(8:Int)∧(0≤(IntKind.u8.wrap (aZE .u64 x4 8))∧ixB ((⟨#[0,1,2,2,3,3,3,3,4,4,4,4,4,4,4,4,5,5,5,5,5,5,5,5,5,5,5,5,5,5,5,5,6,6,6,6,6,6,6,6,6,6,6,6,6,6,6,6,6,6,6,6,6,6,6,6,6,6,6,6,6,6,6,6,7,7,7,7,7,7,7,7,7,7,7,7,7,7,7,7,7,7,7,7,7,7,7,7,7,7,7,7,7,7,7,7,7,7,7,7,7,7,7,7,7,7,7,7,7,7,7,7,7,7,7,7,7,7,7,7,7,7,7,7,7,7,7,7,8,8,8,8,8,8,8,8,8,8,8,8,8,8,8,8,8,8,8,8,8,8,8,8,8,8,8,8,8,8,8,8,8,8,8,8,8,8,8,8,8,8,8,8,8,8,8,8,8,8,8,8,8,8,8,8,8,8,8,8,8,8,8,8,8,8,8,8,8,8,8,8,8,8,8,8,8,8,8,8,8,8,8,8,8,8,8,8,8,8,8,8,8,8,8,8,8,8,8,8,8,8,8,8,8,8,8,8,8,8,8,8,8,8,8,8,8,8,8,8,8,8,8,8,8,8,8,8]⟩):ByteArray) (IntKind.u8.wrap (aZE .u64 x4 8)).toNat fun x6=>K (.int .i64 (IntKind.i64.wrap ((IntKind.i64.wrap (x5+8))+(IntKind.i64.wrap x6)))) H))) ((0≤(IntKind.u8.wrap x4)∧ixB ((⟨#[0,1,2,2,3,3,3,3,4,4,4,4,4,4,4,4,5,5,5,5,5,5,5,5,5,5,5,5,5,5,5,5,6,6,6,6,6,6,6,6,6,6,6,6,6,6,6,6,6,6,6,6,6,6,6,6,6,6,6,6,6,6,6,6,7,7,7,7,7,7,7,7,7,7,7,7,7,7,7,7,7,7,7,7,7,7,7,7,7,7,7,7,7,7,7,7,7,7,7,7,7,7,7,7,7,7,7,7,7,7,7,7,7,7,7,7,7,7,7,7,7,7,7,7,7,7,7,7,8,8,8,8,8,8,8,8,8,8,8,8,8,8,8,8,8,8,8,8,8,8,8,8,8,8,8,8,8,8,8,8,8,8,8,8,8,8,8,8,8,8,8,8,8,8,8,8,8,8,8,8,8,8,8,8,8,8,8,8,8,8,8,8,8,8,8,8,8,8,8,8,8,8,8,8,8,8,8,8,8,8,8,8,8,8,8,8,8,8,8,8,8,8,8,8,8,8,8,8,8,8,8,8,8,8,8,8,8,8,8,8,8,8,8,8,8,8,8,8,8,8,8,8,8,8,8,8]⟩):ByteArray) (IntKind.u8.wrap x4).toNat fun x7=>K (.int .i64 (IntKind.i64.wrap (x5+(IntKind.i64.wrap x7)))) H))
def aZB.j4 (K:Value→Hp→Prop)(x2:Int)(x3:Int)(H:Hp):Prop:=
 BIf (decide (x2≥65536)) ((0≤(16:Int)∧aZB.j7 K (aZE .u64 x2 16) (IntKind.i64.wrap (x3+16)) H)) (aZB.j7 K x2 x3 H)
def aZB (x1:Int)(H:Hp)(K:Value→Hp→Prop):Prop:=
 BIf (decide (x1≥4294967296)) ((0≤(32:Int)∧aZB.j4 K (aZE .u64 x1 32) 32 H)) (aZB.j4 K x1 0 H)
def aZB.Λ (K:Value→Hp→Prop):Zn:=⟨fun i=>match Nat.beq i 7 with|true=>some (fun E D H=>eI E 0 .u64 fun x4=>eI E 2 .i64 fun x5=>Zo D (aZB.j7 K x4 x5 H))|false=>match Nat.beq i 4 with|true=>some (fun E D H=>eI E 0 .u64 fun x2=>eI E 2 .i64 fun x3=>Zo D (aZB.j4 K x2 x3 H))|false=>none,fun i=>none,(fun _=>none)⟩
theorem aZB.ok (x1:Int)(H:Hp)(K:Value→Hp→Prop)(h:aZB x1 H K):Zc Tryz.prog 194 #[.int .u64 x1] H K:=
 Zr Tryz.func194 rfl (nbl rfl) (Zf (Λ:=(aZB.Λ K)) dZO _ _ _ _ _ (Eq.mp (by kernel_rfl) h) (Zb Za rfl (aZH (Zb Za rfl (Zk (Zb Za rfl Za) Zl)) rfl (fun E D H h=>by
   obtain⟨x2,e0,g2⟩:=GI h;obtain⟨x3,e2,g4⟩:=GI g2;obtain⟨rfl,h'⟩:=Zo.out g4;exact(Zf (Λ:=(aZB.Λ K)) dZO _ _ [(0,.int .u64 x2),(2,.int .i64 x3)] [] H (Eq.mp (by kernel_rfl) h') (aZH (Zb Za rfl (Zk (Zb Za rfl Za) Zl)) rfl (fun E D H h=>by
     obtain⟨x4,e0,g2⟩:=GI h;obtain⟨x5,e2,g4⟩:=GI g2;obtain⟨rfl,h'⟩:=Zo.out g4;exact(Zf (Λ:=(aZB.Λ K)) dZO _ _ [(0,.int .u64 x4),(2,.int .i64 x5)] [] H (Eq.mp (by kernel_rfl) h') (Zb (Zb Za rfl (Zk (Zb Za rfl Za) Zl)) rfl (Zb Za rfl Zy))).weaken (Ze.cons e0 (Ze.cons e2 (Ze.nil _))) (Hp.le_refl _)))).weaken (Ze.cons e0 (Ze.cons e2 (Ze.nil _))) (Hp.le_refl _)))))
def dZ6 (x1:Int)(x2:Int)(H:Hp)(K:Value→Hp→Prop):Prop:=
 (0≤(32:Int)∧(0≤(32:Int)∧(0≤(32:Int)∧(0≤(32:Int)∧(0≤(32:Int)∧K (.tuple #[.int .u64 (IntKind.u64.wrap ((IntKind.u64.wrap ((IntKind.u64.wrap ((aZE .u64 x1 32)*(aZE .u64 x2 32)))+(aZE .u64 (IntKind.u64.wrap ((IntKind.u64.wrap ((aZE .u64 x1 32)*(aZF .u64 x2 4294967295)))+(aZE .u64 (IntKind.u64.wrap ((aZF .u64 x1 4294967295)*(aZF .u64 x2 4294967295))) 32))) 32)))+(aZE .u64 (IntKind.u64.wrap ((aZF .u64 (IntKind.u64.wrap ((IntKind.u64.wrap ((aZE .u64 x1 32)*(aZF .u64 x2 4294967295)))+(aZE .u64 (IntKind.u64.wrap ((aZF .u64 x1 4294967295)*(aZF .u64 x2 4294967295))) 32))) 4294967295)+(IntKind.u64.wrap ((aZF .u64 x1 4294967295)*(aZE .u64 x2 32))))) 32))),.int .u64 (IntKind.u64.wrap (x1*x2))]) H)))))
theorem dZ6.ok (x1:Int)(x2:Int)(H:Hp)(K:Value→Hp→Prop)(h:dZ6 x1 x2 H K):Zc Tryz.prog 266 #[.int .u64 x1,.int .u64 x2] H K:=
 Zr Tryz.func266 rfl (nbl rfl) (Zf (Λ:=Zn.none (fun _=>none)) dZO _ _ _ _ _ (Eq.mp (by kernel_rfl) h) (Zt _ _ _ _ _))
def cZ0 (x1:Int)(H:Hp)(K:Value→Hp→Prop):Prop:=
 (0≤(1:Int)∧(0≤(1:Int)∧(0≤(2:Int)∧(0≤(2:Int)∧(0≤(4:Int)∧(0≤(4:Int)∧HcW 271 #[.int .u64 (bOr .u64 (aZF .u64 (aZE .u64 (bOr .u64 (aZF .u64 (aZE .u64 (bOr .u64 (aZF .u64 (aZE .u64 x1 1) 6148914691236517205) (aZY .u64 (aZF .u64 x1 6148914691236517205) 1)) 2) 3689348814741910323) (aZY .u64 (aZF .u64 (bOr .u64 (aZF .u64 (aZE .u64 x1 1) 6148914691236517205) (aZY .u64 (aZF .u64 x1 6148914691236517205) 1)) 3689348814741910323) 2)) 4) 1085102592571150095) (aZY .u64 (aZF .u64 (bOr .u64 (aZF .u64 (aZE .u64 (bOr .u64 (aZF .u64 (aZE .u64 x1 1) 6148914691236517205) (aZY .u64 (aZF .u64 x1 6148914691236517205) 1)) 2) 3689348814741910323) (aZY .u64 (aZF .u64 (bOr .u64 (aZF .u64 (aZE .u64 x1 1) 6148914691236517205) (aZY .u64 (aZF .u64 x1 6148914691236517205) 1)) 3689348814741910323) 2)) 1085102592571150095) 4))] H fun x2 H1=>K (.int .u64 x2) H1))))))
theorem cZ0.ok (x1:Int)(H:Hp)(K:Value→Hp→Prop)(h:cZ0 x1 H K):Zc Tryz.prog 267 #[.int .u64 x1] H K:=
 Zr Tryz.func267 rfl (nbl rfl) (Zf (Λ:=Zn.none (fun _=>none)) dZO _ _ _ _ _ (Eq.mp (by kernel_rfl) h) (Zt _ _ _ _ _))
def cZb (x1:Int)(H:Hp)(K:Value→Hp→Prop):Prop:=
 (0≤(8:Int)∧(0≤(8:Int)∧(0≤(16:Int)∧(0≤(16:Int)∧(0≤(32:Int)∧(0≤(32:Int)∧K (.int .u64 (bOr .u64 (aZE .u64 (bOr .u64 (aZF .u64 (aZE .u64 (bOr .u64 (aZF .u64 (aZE .u64 x1 8) 71777214294589695) (aZY .u64 (aZF .u64 x1 71777214294589695) 8)) 16) 281470681808895) (aZY .u64 (aZF .u64 (bOr .u64 (aZF .u64 (aZE .u64 x1 8) 71777214294589695) (aZY .u64 (aZF .u64 x1 71777214294589695) 8)) 281470681808895) 16)) 32) (aZY .u64 (bOr .u64 (aZF .u64 (aZE .u64 (bOr .u64 (aZF .u64 (aZE .u64 x1 8) 71777214294589695) (aZY .u64 (aZF .u64 x1 71777214294589695) 8)) 16) 281470681808895) (aZY .u64 (aZF .u64 (bOr .u64 (aZF .u64 (aZE .u64 x1 8) 71777214294589695) (aZY .u64 (aZF .u64 x1 71777214294589695) 8)) 281470681808895) 16)) 32))) H))))))
theorem cZb.ok (x1:Int)(H:Hp)(K:Value→Hp→Prop)(h:cZb x1 H K):Zc Tryz.prog 271 #[.int .u64 x1] H K:=
 Zr Tryz.func271 rfl (nbl rfl) (Zf (Λ:=Zn.none (fun _=>none)) dZO _ _ _ _ _ (Eq.mp (by kernel_rfl) h) (Zt _ _ _ _ _))
end Go.Proofs.YtahjgjaenegpgaaGreatDoor.W
namespace Go.Proofs.YtahjgjaenegpgaaGreatDoor.Srt
open Go Go.Hw W Rec
theorem eZS :∀(i:Nat) (l:List R),(bZ8 l i).length=l.length
 |0,_=>rfl
 |i+1,l=>by
  show(bub (bZ8 l i) (i+1)).length=_
  rw[uZV,eZS i l]
theorem mZL (A:Option Addr)(n m:Nat)(hn:n≤1000)(l:List R)(hl:l.length=n)(K:Value→Hp→Prop)(k:∀ H',Hw.Sep [Own 93 8 A n m (cZr (bZ8 l (n-1)))] H'→K (.tuple #[]) H'):
  ∀(t i:Nat) (H:Hp),i+t=n-1→Hw.Sep [Own 93 8 A n m (cZr (bZ8 l i))] H→
   Zj.l1 K (t+1) A n m 0 (n:Int) 111 #[] #[] ((i+1:Nat):Int) H
 |0,i,H,hi,hs=>by
  unfold Zj.l1;refine Zm (by omega) ?_;obtain rfl:i=n-1:=by omega
  exact k H hs
 |t+1,i,H,hi,hs=>by
  unfold Zj.l1;refine Zw (by omega) ⟨i+1+1,?_⟩;refine mZK A n m (i+1) hn K _ (bZ8 l (i+1)) (fun H' hs'=>?_) (i+1) (bZ8 l i) H (by rw[eZS];exact hl) (by omega) rfl hs;rw[ZV (by omega) (by omega),show((i+1:Nat):Int)+1=((i+1+1:Nat):Int) by omega];exact mZL A n m hn l hl K k t (i+1) H' (by omega) hs'
theorem nZR (x:Nat)(hx:x<18446744073709551616)(H:Hp):Zc Tryz.prog 148 #[.int .u64 (x:Int)] H (RetE (.int .i64 (Go.Lib.bitLen x:Int)) H):=by
 apply cZZ.ok;unfold cZZ;refine Zc.use (sZ8 x hx H) ?_;simp only[HV];exact RetE.mk _ _
theorem oZ4 (A:Option Addr)(n m:Nat)(hn:n≤12)(l:List R)(hl:l.length=n):Tr Tryz.prog 110 #[.slice A n m,.func (.func 111) #[] #[]]
  [Own 93 8 A n m (cZr l)] fun v M=>v= .tuple #[]∧M=[Own 93 8 A n m (cZr (bZ8 l (n-1)))]:=fun H hs=>by
 apply bZo.ok;unfold bZo;rw[bZ1 (by omega)];refine Zc.use (nZR n (by omega) H) ?_;simp only[HV];have hI:Zc Tryz.prog 199 #[.slice A n m,.int .i64 0,.int .i64 (n:Int),.func (.func 111) #[] #[]] H (fun v H'=>v= .tuple #[]∧Hw.Sep [Own 93 8 A n m (cZr (bZ8 l (n-1)))] H'):=by
  apply Zj.ok;unfold Zj;rw[show IntKind.i64.wrap ((0:Int)+1)=((0+1:Nat):Int) by decide];exact⟨n-1+1,mZL A n m (by omega) l hl _ (fun H' hs'=>⟨rfl,hs'⟩) (n-1) 0 H (by omega) hs⟩
 have hP:Zc Tryz.prog 157 #[.slice A n m,.int .i64 0,.int .i64 (n:Int),.int .i64 (Go.Lib.bitLen n:Int),.func (.func 111) #[] #[]] H (fun v H'=>v= .tuple #[]∧Hw.Sep [Own 93 8 A n m (cZr (bZ8 l (n-1)))] H'):=by
  apply Zi.ok;unfold Zi;refine⟨1,?_⟩;unfold Zi.l2;refine Zw (by rw[ZV (by omega) (by omega)];omega) ?_;refine Zc.mono hI ?_;rintro v H' ⟨rfl,h⟩;exact⟨rfl,h⟩
 refine Zc.mono hP ?_;rintro v H' ⟨rfl,h⟩;exact⟨_,⟨by first|trivial|rfl,rfl⟩,h⟩
theorem swap_perm (l:List R){j:Nat}(h:j+1<l.length):((l.set (j+1) (l.getD j dR)).set j (l.getD (j+1) dR)).Perm l:=by
 induction l generalizing j with
 |nil=>simp at h
 |cons x l ih=>
  cases j with
  |zero=>
   cases l with
   |nil=>simp at h
   |cons y t=>exact List.Perm.swap x y t
  |succ j=>
   exact(ih (j:=j) (by simpa using h)).cons x
theorem tZo (j:Nat):∀(l:List R),j<l.length→(bub l j).Perm l:=by
 induction j with
 |zero=>intro l _;exact List.Perm.refl _
 |succ j ih=>
  intro l h;unfold bub;split
  ·refine(ih _ (by simp;omega)).trans (swap_perm l h)
  ·exact List.Perm.refl _
theorem lZt (l:List R):∀ i,i<l.length∨i=0→(bZ8 l i).Perm l
 |0,_=>List.Perm.refl _
 |i+1,h=>by
  have ih:=lZt l i (by omega);show(bub (bZ8 l i) (i+1)).Perm l
  refine(tZo (i+1) _ (by rw[eZS];omega)).trans ih
end Go.Proofs.YtahjgjaenegpgaaGreatDoor.Srt
namespace Go.Proofs.YtahjgjaenegpgaaGreatDoor.Srt
open Go Go.Hw Rec
def leR (a b:R):Prop:=a.s≤b.s
theorem pZr :∀(j:Nat) (p r:List R) (x:R),p.length=j→∃ p',bub (p++x::r) j=p'++r∧p'.length=j+1∧(p.Pairwise leR→p'.Pairwise leR)∧p'.Perm (x::p)
 |0,p,r,x,h=>by
  rw[List.length_eq_zero_iff.1 h];exact⟨[x],rfl,rfl,fun _=>by simp,List.Perm.refl _⟩
 |j+1,p,r,x,h=>by
  obtain⟨q,y,rfl⟩:∃ q y,p=q++[y]:=⟨_,_,(List.dropLast_concat_getLast (by intro e;rw[e]at h;cases h)).symm⟩;have hq:q.length=j:=by simpa using h
  have e0:q++[y]++x::r=q++y::x::r:=by simp
  rw[e0];unfold bub;have g1:(q++y::x::r).getD (j+1) dR=x:=by rw[List.getD_eq_getElem?_getD,List.getElem?_append_right (by omega),hq,show j+1-j=1 by omega];rfl
  have g0:(q++y::x::r).getD j dR=y:=by rw[List.getD_eq_getElem?_getD,List.getElem?_append_right (by omega),hq,Nat.sub_self];rfl
  rw[g1,g0];by_cases hxy:x.s<y.s
  ·rw[if_pos hxy];have es:((q++y::x::r).set (j+1) y).set j x=q++x::y::r:=by
    rw[List.set_append_right _ _ (by omega),hq,show j+1-j=1 by omega,List.set_append_right _ _ (by omega),hq,Nat.sub_self];rfl
   rw[es];obtain⟨p'',h1,h2,h3,h4⟩:=pZr j q (y::r) x hq;refine⟨p''++[y],by rw[h1];simp,by simp[h2],fun hs=>?_,?_⟩
   ·rw[List.pairwise_append]at hs⊢;obtain⟨s1,_,s3⟩:=hs;refine⟨h3 s1,by simp,fun a ha b hb=>?_⟩;have hb':b=y:=by simpa using hb
    subst hb';rcases List.mem_cons.1 (h4.mem_iff.1 ha)with rfl|ha
    ·exact Nat.le_of_lt hxy
    ·exact s3 a ha b (by simp)
   ·have:(p''++[y]).Perm ((x::q)++[y]):=h4.append_right [y];simpa using this
  ·rw[if_neg hxy];refine⟨q++[y,x],by simp,by simp[hq],fun hs=>?_,?_⟩
   ·rw[List.pairwise_append]at hs⊢;obtain⟨s1,_,s3⟩:=hs;have hyx:leR y x:=Nat.not_lt.1 hxy;refine⟨s1,by simp[hyx],fun a ha b hb=>?_⟩;have hay:=s3 a ha y (by simp);have:b=y∨b=x:=by simpa using hb
    rcases this with rfl|rfl
    ·exact hay
    ·exact Nat.le_trans hay hyx
   ·have:(q++[y]++[x]).Perm (x::(q++[y])):=List.perm_append_comm;simpa using this
theorem mZN :∀(i:Nat) (l:List R),i<l.length→∃ p r,bZ8 l i=p++r∧p.length=i+1∧p.Pairwise leR
 |0,l,h=>by
  cases l with
  |nil=>simp at h
  |cons x t=>exact⟨[x],t,rfl,rfl,by simp⟩
 |i+1,l,h=>by
  obtain⟨p,r,h1,h2,h3⟩:=mZN i l (by omega);have hlen:=eZS i l;cases r with
  |nil=>
   rw[h1,List.append_nil,h2]at hlen;omega
  |cons x r=>
   obtain⟨p',g1,g2,g3,_⟩:=pZr (i+1) p r x h2;refine⟨p',r,?_,g2,g3 h3⟩;show bub (bZ8 l i) (i+1)=_
   rw[h1,g1]
theorem oZf (l:List R):(bZ8 l (l.length-1)).Pairwise leR:=by
 by_cases h0:l=[]
 ·subst h0;exact List.Pairwise.nil
 ·have hp:0<l.length:=List.length_pos_iff.2 h0;obtain⟨p,r,h1,h2,h3⟩:=mZN (l.length-1) l (by omega);have hlen:=eZS (l.length-1) l;rw[h1]at hlen⊢;have:r=[]:=by
   rw[List.length_append,h2]at hlen;exact List.length_eq_zero_iff.1 (by omega)
  rw[this,List.append_nil];exact h3
theorem rZV (l:List R):(bZ8 l (l.length-1)).Perm l:=by
 by_cases h0:l=[]
 ·subst h0;exact List.Perm.refl _
 ·have hp:0<l.length:=List.length_pos_iff.2 h0;exact lZt l _ (.inl (by omega))
end Go.Proofs.YtahjgjaenegpgaaGreatDoor.Srt
namespace Go.Proofs.YtahjgjaenegpgaaGreatDoor.Rec
open Go Go.Hw W
abbrev after (a b:R):Prop:=a.good∧b.good∧b.s=a.s+1∧(b.kd=1∨(b.kd=2∧a.kd=1∧a.ld=b.ld∧a.kk=b.kk)∨(b.kd=3∧a.kd≠1∧a.ld=b.ld∧a.kk=b.kk∧a.inp=b.inp∧b.out=0)∨
 (b.kd=4∧3≤a.kd∧a.ld=b.ld∧a.kk=b.kk∧a.inp=b.inp∧a.dir=b.dir∧b.ps=a.ps+1))
abbrev same (a b:R):Prop:=a.ld=b.ld∧a.kk=b.kk∧a.inp=b.inp
theorem pZS (a b:R)(H:Hp):Zc Tryz.prog 179 #[.agg a.c,.agg b.c] H (RetE (.bool (decide (same a b))) H):=Zc.ret (by
 apply fZy.ok;unfold fZy;refine(Sep.start H).nw fun b1 H1 hs=>?_
 refine hs.nw fun b2 H1 hs=>?_
 have hs:Sep [own H,pts b1 (bZJ a),pts b2 (bZJ b)] H1:=hs;refine hs.ldf 1 rfl rfl ?_;simp only[HV];refine hs.ldf 2 rfl rfl ?_;simp only[HV];by_cases h1:(a.ld:Int)=(b.ld:Int)
 ·refine aZb h1 ?_;refine hs.ldf 1 rfl rfl ?_;simp only[HV];refine hs.ldf 2 rfl rfl ?_;simp only[HV];by_cases h2:a.kk=b.kk
  ·refine aZb h2 ?_;refine hs.ldf 1 rfl rfl ?_;simp only[HV];refine hs.ldf 2 rfl rfl ?_;simp only[HV];have:decide (same a b)=((a.inp:Int)==(b.inp:Int)):=by
    by_cases h3:(a.inp:Int)=(b.inp:Int)
    ·rw[decide_eq_true ⟨by omega,h2,by omega⟩,h3];simp
    ·rw[decide_eq_false (fun h=>by have:=h.2.2;omega),beq_eq_false_iff_ne.2 h3]
   rw[this];exact hs.fin 0 rfl _
  ·rw[decide_eq_false (fun h=>h2 h.2.1)];exact aZm h2 (hs.fin 0 rfl _)
 ·rw[decide_eq_false (fun h=>h1 (by have:=h.1;omega))];exact aZm h1 (hs.fin 0 rfl _))
section
variable {a b : R} {H0 H : Hp} {b1 b2 : Nat}
theorem lZb (hs:Sep [own H0,pts b1 (bZJ a),pts b2 (bZJ b)] H)(h:¬after a b):Ret (.bool (decide (after a b))) H0 (.bool false) H:=by
 rw[decide_eq_false h];exact hs.fin 0 rfl _
theorem nZv (hs:Sep [own H0,pts b1 (bZJ a),pts b2 (bZJ b)] H){x:Bool}(h:x=true↔after a b):Ret (.bool (decide (after a b))) H0 (.bool x) H:=by
 have:decide (after a b)=x:=by
  cases x with
  |true=>exact decide_eq_true (h.1 rfl)
  |false=>exact decide_eq_false fun g=>by have:=h.2 g;cases this
 rw[this];exact hs.fin 0 rfl _
end
theorem sZV (a b:R)(H:Hp):Zc Tryz.prog 134 #[.agg a.c,.agg b.c] H (RetE (.bool (decide (after a b))) H):=Zc.ret (by
 apply eZ1.ok;unfold eZ1;refine(Sep.start H).nw fun b1 H1 hs=>?_
 refine hs.nw fun b2 H1 hs=>?_
 have hs:Sep [own H,pts b1 (bZJ a),pts b2 (bZJ b)] H1:=hs;refine hs.ldw 1 rfl rfl ?_;refine Zc.use (bZZ a H1) ?_;simp only[HV];by_cases ga:a.good
 case neg=>
  rw[decide_eq_false ga];exact aZN rfl (lZb hs fun h=>ga h.1)
 rw[decide_eq_true ga];refine aZu rfl ?_;refine hs.ldw 2 rfl rfl ?_;refine Zc.use (bZZ b H1) ?_;simp only[HV];by_cases gb:b.good
 case neg=>
  rw[decide_eq_false gb];exact aZN rfl (lZb hs fun h=>gb h.2.1)
 rw[decide_eq_true gb];refine aZu rfl ?_;have ga':=ga;have gb':=gb;obtain⟨a1,a2,a3,a4,a5,a6⟩:=ga';obtain⟨c1,c2,c3,c4,c5,c6⟩:=gb';refine hs.ldf 2 rfl rfl ?_;simp only[HV];refine hs.ldf 1 rfl rfl ?_;simp only[HV];rw[dZj (x:=(a.s:Int)+1) (by omega) (by omega)];by_cases hsq:(b.s:Int)=(a.s:Int)+1
 case neg=>exact ZK hsq (lZb hs fun h=>hsq (by have:=h.2.2.1;omega))
 refine ZB hsq ?_;have hd:∀{P:Prop},(P↔(b.kd=1∨(b.kd=2∧a.kd=1∧a.ld=b.ld∧a.kk=b.kk)∨(b.kd=3∧a.kd≠1∧a.ld=b.ld∧a.kk=b.kk∧a.inp=b.inp∧b.out=0)∨(b.kd=4∧3≤a.kd∧a.ld=b.ld∧a.kk=b.kk∧a.inp=b.inp∧a.dir=b.dir∧b.ps=a.ps+1)))→(P↔after a b):=fun h=>by
  rw[h];exact⟨fun g=>⟨ga,gb,by omega,g⟩,fun g=>g.2.2.2⟩
 have hn:¬(b.kd=1∨(b.kd=2∧a.kd=1∧a.ld=b.ld∧a.kk=b.kk)∨(b.kd=3∧a.kd≠1∧a.ld=b.ld∧a.kk=b.kk∧a.inp=b.inp∧b.out=0)∨(b.kd=4∧3≤a.kd∧a.ld=b.ld∧a.kk=b.kk∧a.inp=b.inp∧a.dir=b.dir∧b.ps=a.ps+1))→Ret (.bool (decide (after a b))) H (.bool false) H1:=fun h=>lZb hs fun g=>h g.2.2.2
 refine hs.ldf 2 rfl rfl ?_;simp only[HV];by_cases k1:b.kd=1
 ·exact aZb k1 (nZv hs (hd ⟨fun _=>.inl k1,fun _=>rfl⟩))
 refine aZm k1 ?_;by_cases k2:b.kd=2
 ·refine aZb k2 ?_;refine hs.ldf 1 rfl rfl ?_;simp only[HV];by_cases h1:a.kd=1
  ·refine aZb h1 ?_;refine hs.ldf 1 rfl rfl ?_;simp only[HV];refine hs.ldf 2 rfl rfl ?_;simp only[HV];by_cases h2:(a.ld:Int)=(b.ld:Int)
   ·refine aZb h2 ?_;refine hs.ldf 1 rfl rfl ?_;simp only[HV];refine hs.ldf 2 rfl rfl ?_;simp only[HV];refine nZv hs (hd ?_);rw[beq_iff_eq];omega
   ·exact aZm h2 (hn (by omega))
  ·exact aZm h1 (hn (by omega))
 refine aZm k2 ?_;by_cases k3:b.kd=3
 ·refine aZb k3 ?_;refine hs.ldf 1 rfl rfl ?_;simp only[HV];by_cases h1:a.kd=1
  ·exact ZB h1 (hn (by omega))
  ·refine ZK h1 ?_;refine hs.ldw 1 rfl rfl ?_;refine hs.ldw 2 rfl rfl ?_;refine Zc.use (pZS a b H1) ?_;simp only[HV];by_cases h2:same a b
   ·rw[decide_eq_true h2];refine aZN rfl ?_;obtain⟨e1,e2,e3⟩:=h2;refine hs.ldf 2 rfl rfl ?_;simp only[HV];refine nZv hs (hd ?_);rw[beq_iff_eq];omega
   ·rw[decide_eq_false h2];refine aZu rfl (hn fun g=>h2 ?_);rcases g with g|g|g|g
    ·omega
    ·omega
    ·exact⟨g.2.2.1,g.2.2.2.1,g.2.2.2.2.1⟩
    ·omega
 refine aZm k3 ?_;refine hs.ldf 1 rfl rfl ?_;simp only[HV];by_cases h1:a.kd≥3
 ·refine Zw h1 ?_;refine hs.ldw 1 rfl rfl ?_;refine hs.ldw 2 rfl rfl ?_;refine Zc.use (pZS a b H1) ?_;simp only[HV];by_cases h2:same a b
  ·rw[decide_eq_true h2];refine aZN rfl ?_;obtain⟨e1,e2,e3⟩:=h2;refine hs.ldf 1 rfl rfl ?_;simp only[HV];refine hs.ldf 2 rfl rfl ?_;simp only[HV];by_cases h3:a.dir=b.dir
   ·refine aZb h3 ?_;refine hs.ldf 2 rfl rfl ?_;simp only[HV];refine hs.ldf 1 rfl rfl ?_;simp only[HV];rw[ZV (x:=a.ps+1) (by omega) (by omega)];refine nZv hs (hd ?_);rw[beq_iff_eq];omega
   ·exact aZm h3 (hn (by omega))
  ·rw[decide_eq_false h2];refine aZu rfl (hn fun g=>h2 ?_);rcases g with g|g|g|g
   ·omega
   ·omega
   ·omega
   ·exact⟨g.2.2.1,g.2.2.2.1,g.2.2.2.2.1⟩
 ·exact Zm h1 (hn (by omega)))
end Go.Proofs.YtahjgjaenegpgaaGreatDoor.Rec
namespace Go.Crc
open Go
abbrev W32 :=BitVec 32
def tZI :W32:=0x82f63b78#32
def eZo (v:W32):W32:=(v>>>1)^^^(if v.getLsbD 0 then tZI else 0#32)
def it (f:W32→W32):Nat→W32→W32
 |0,v=>v
 |n+1,v=>it f n (f v)
def Lin (f:W32→W32):Prop:=∀ x y,f (x^^^y)=f x^^^f y
theorem Lin.it {f:W32→W32}(h:Lin f):∀ n,Lin (it f n)
 |0=>fun _ _=>rfl
 |n+1=>fun x y=>by simp only[Crc.it];rw[h,Lin.it h n]
theorem xZn (a b c d:W32):(a^^^b)^^^(c^^^d)=(a^^^c)^^^(b^^^d):=by
 rw[BitVec.xor_assoc,←BitVec.xor_assoc b,BitVec.xor_comm b c,BitVec.xor_assoc c,←BitVec.xor_assoc]
theorem oZn :Lin eZo:=fun x y=>by
 unfold eZo;rw[BitVec.ushiftRight_xor_distrib,BitVec.getLsbD_xor,xZn];congr 1;cases x.getLsbD 0<;>cases y.getLsbD 0<;>simp
theorem qZq {v:W32}(h:v.getLsbD 0=false):eZo v=v>>>1:=by unfold eZo;rw[h];simp
theorem oZg :∀(n:Nat) {v:W32},(∀ i,i<n→v.getLsbD i=false)→it eZo n v=v>>>n
 |0,v,_=>by simp[it]
 |n+1,v,h=>by
  simp only[it];rw[qZq (h 0 (by omega)),oZg n (fun i hi=>by rw[BitVec.getLsbD_ushiftRight];exact h _ (by omega))];rw[← BitVec.shiftRight_add,Nat.add_comm]
theorem wZr (v:W32):it eZo 4 v=(v>>>4)^^^it eZo 4 (v&&&15#32):=by
 have h1:v=(v&&& ~~~15#32)^^^(v&&&15#32):=by
  apply BitVec.eq_of_getLsbD_eq;intro i hi;simp only[BitVec.getLsbD_xor,BitVec.getLsbD_and,BitVec.getLsbD_not,hi,decide_true,Bool.true_and];cases v.getLsbD i<;>cases(15#32).getLsbD i<;>rfl
 have h2:it eZo 4 (v&&& ~~~15#32)=(v&&& ~~~15#32)>>>4:=oZg 4 (fun i hi=>by
  rw[BitVec.getLsbD_and];have:(~~~15#32).getLsbD i=false:=by
   rcases(by omega:i=0∨i=1∨i=2∨i=3)with rfl|rfl|rfl|rfl<;>decide
  rw[this,Bool.and_false])
 have h3:(v&&& ~~~15#32)>>>4=v>>>4:=by
  apply BitVec.eq_of_getLsbD_eq;intro i hi;simp only[BitVec.getLsbD_ushiftRight,BitVec.getLsbD_and,BitVec.getLsbD_not];by_cases h:4+i<32
  ·have:(15#32).getLsbD (4+i)=false:=by
    rw[show(15#32:W32)=BitVec.ofNat 32 15 from rfl,BitVec.getLsbD_ofNat];have:Nat.testBit 15 (4+i)=false:=Nat.testBit_lt_two_pow (Nat.lt_of_lt_of_le (by decide:15<2^4) (Nat.pow_le_pow_right (by decide) (by omega)));rw[this,Bool.and_false]
   simp only[this,h,decide_true,Bool.true_and,Bool.not_false,Bool.and_true]
  ·have:=BitVec.getLsbD_of_ge v (4+i) (by omega);rw[this];simp
 conv=>lhs;rw[h1]
 rw[Lin.it oZn 4,h2,h3]
def low (c:UInt8):W32:=c.toBitVec.setWidth 32
def byte (v:W32)(c:UInt8):W32:=it eZo 8 (v^^^low c)
def run (v:W32)(bs:List UInt8):W32:=bs.foldl byte v
def more (s:W32)(bs:List UInt8):W32:= ~~~ run (~~~ s) bs
def sum (bs:List UInt8):W32:=more 0#32 bs
theorem qZS (v:W32)(a b:List UInt8):run v (a++b)=run (run v a) b:=List.foldl_append
theorem more_append (s:W32)(a b:List UInt8):more s (a++b)=more (more s a) b:=by
 unfold more;rw[qZS,BitVec.not_not]
end Go.Crc
namespace Go.Proofs.YtahjgjaenegpgaaGreatDoor.W
open Go Go.Hw
theorem eZF :Tryz.prog.follows .mixedOrders=true:=by kernel_rfl
def fZq (A1:Option Addr)(n1:Nat)(m1:Nat)(H:Hp)(K:Value→Hp→Prop):Prop:=
 HcS 140 #[.slice A1 n1 m1] H fun A2 n2 m2 H1=>HcU 151 #[.slice A2 n2 m2] H1 fun x1 H2=>K (.int .u32 x1) H2
theorem fZq.ok (A1:Option Addr)(n1:Nat)(m1:Nat)(H:Hp)(K:Value→Hp→Prop)(h:fZq A1 n1 m1 H K):Zc Tryz.prog 105 #[.slice A1 n1 m1] H K:=
 Zr Tryz.func105 rfl (nbl rfl) (Zf (Λ:=Zn.none (fun _=>none)) eZF _ _ _ _ _ (Eq.mp (by kernel_rfl) h) (Zt _ _ _ _ _))
def bZO (p1:Option Addr)(A1:Option Addr)(n1:Nat)(m1:Nat)(H:Hp)(K:Value→Hp→Prop):Prop:=
 HcS 140 #[.slice A1 n1 m1] H fun A2 n2 m2 H1=>Hz 164 #[.pointer p1,.slice A2 n2 m2] H1 fun v2 H2=>K (.tuple #[]) H2
theorem bZO.ok (p1:Option Addr)(A1:Option Addr)(n1:Nat)(m1:Nat)(H:Hp)(K:Value→Hp→Prop)(h:bZO p1 A1 n1 m1 H K):Zc Tryz.prog 124 #[.pointer p1,.slice A1 n1 m1] H K:=
 Zr Tryz.func124 rfl (nbl rfl) (Zf (Λ:=Zn.none (fun _=>none)) eZF _ _ _ _ _ (Eq.mp (by kernel_rfl) h) (Zt _ _ _ _ _))
def cZv (p1:Option Addr)(H:Hp)(K:Value→Hp→Prop):Prop:=
 NN p1 fun a1=>LeU H (a1.add 0) fun x1=>K (.int .u32 x1) H
theorem cZv.ok (p1:Option Addr)(H:Hp)(K:Value→Hp→Prop)(h:cZv p1 H K):Zc Tryz.prog 126 #[.pointer p1] H K:=
 Zr Tryz.func126 rfl (nbl rfl) (Zf (Λ:=Zn.none (fun _=>none)) eZF _ _ _ _ _ (Eq.mp (by kernel_rfl) h) (Zt _ _ _ _ _))
def iZK (A1:Option Addr)(n1:Nat)(m1:Nat)(H:Hp)(K:Value→Hp→Prop):Prop:=
 HcU 195 #[.int .u32 0,.slice A1 n1 m1] H fun x1 H1=>K (.int .u32 x1) H1
theorem iZK.ok (A1:Option Addr)(n1:Nat)(m1:Nat)(H:Hp)(K:Value→Hp→Prop)(h:iZK A1 n1 m1 H K):Zc Tryz.prog 151 #[.slice A1 n1 m1] H K:=
 Zr Tryz.func151 rfl (nbl rfl) (Zf (Λ:=Zn.none (fun _=>none)) eZF _ _ _ _ _ (Eq.mp (by kernel_rfl) h) (Zt _ _ _ _ _))
def cZu (p1:Option Addr)(A1:Option Addr)(n1:Nat)(m1:Nat)(H:Hp)(K:Value→Hp→Prop):Prop:=
 NN p1 fun a1=>LeU H (a1.add 0) fun x1=>HcU 195 #[.int .u32 x1,.slice A1 n1 m1] H fun x2 H1=>NN p1 fun a2=>St H1 ((a2.add 0).add 0) (.int .u32 x2) fun H2=>NN p1 fun a3=>LeI H2 (a3.add 1) fun x3=>NN p1 fun a4=>St H2 ((a4.add 1).add 0) (.int .i64 (IntKind.i64.wrap (x3+(n1:Int)))) fun H3=>K (.tuple #[]) H3
theorem cZu.ok (p1:Option Addr)(A1:Option Addr)(n1:Nat)(m1:Nat)(H:Hp)(K:Value→Hp→Prop)(h:cZu p1 A1 n1 m1 H K):Zc Tryz.prog 164 #[.pointer p1,.slice A1 n1 m1] H K:=
 Zr Tryz.func164 rfl (nbl rfl) (Zf (Λ:=Zn.none (fun _=>none)) eZF _ _ _ _ _ (Eq.mp (by kernel_rfl) h) (Zt _ _ _ _ _))
def bZj.l4 (K:Value→Hp→Prop):Nat→Addr→Int→Option Addr→Nat→Nat→Int→Int→Hp→Prop
 |0,_,_,_,_,_,_,_,_=>False
 |k+1,a1,x2,A2,n2,m2,x3,x4,H=>
  let R4:=bZj.l4 K k
  BIf (decide (x4<x3)) (ixI x4 n2 (NN A2 fun a2=>LeV H (a2.add (x4.toNat*1)) fun x5=>(0≤(4:Int)∧ixI (aZF .u32 (eZO .u32 x2 (IntKind.u32.wrap x5)) 15) 16 (LeU H (a1.add ((aZF .u32 (eZO .u32 x2 (IntKind.u32.wrap x5)) 15).toNat*1)) fun x6=>(0≤(4:Int)∧ixI (aZF .u32 (eZO .u32 (aZE .u32 (eZO .u32 x2 (IntKind.u32.wrap x5)) 4) x6) 15) 16 (LeU H (a1.add ((aZF .u32 (eZO .u32 (aZE .u32 (eZO .u32 x2 (IntKind.u32.wrap x5)) 4) x6) 15).toNat*1)) fun x7=>R4 a1 (eZO .u32 (aZE .u32 (eZO .u32 (aZE .u32 (eZO .u32 x2 (IntKind.u32.wrap x5)) 4) x6) 4) x7) A2 n2 m2 x3 (IntKind.i64.wrap (x4+1)) H)))))) (K (.int .u32 (eZO .u32 IntKind.u32.max x2)) H)
def bZj (x1:Int)(A1:Option Addr)(n1:Nat)(m1:Nat)(H:Hp)(K:Value→Hp→Prop):Prop:=
 HcA 219 #[] H fun y1 H1=>Nw H1 (.obj (.cells #[.int .u32 0,.int .u32 0,.int .u32 0,.int .u32 0,.int .u32 0,.int .u32 0,.int .u32 0,.int .u32 0,.int .u32 0,.int .u32 0,.int .u32 0,.int .u32 0,.int .u32 0,.int .u32 0,.int .u32 0,.int .u32 0] 309)) fun b1 H2=>StA H2 ⟨b1,0,none⟩ y1 16 fun H3=>(∃ k,bZj.l4 K k ⟨b1,0,none⟩ (eZO .u32 IntKind.u32.max x1) A1 n1 m1 (n1:Int) 0 H3)
def bZj.l4.L (K:Value→Hp→Prop)(k:Nat):Mid:=fun E D H=>
 eN E 5 fun a1=>eI E 6 .u32 fun x2=>DG (E.get? 12) fun w12=>DSl w12 fun A2 n2 m2=>eI E 13 .i64 fun x3=>eI E 14 .i64 fun x4=>Zo D (bZj.l4 K k a1 x2 A2 n2 m2 x3 x4 H)
def bZj.Λ4 (_:Value→Hp→Prop)(_R4:Addr→Int→Option Addr→Nat→Nat→Int→Int→Hp→Prop):Zn:=Zn.none (fun _=>none)
def bZj.Λ (K:Value→Hp→Prop):Zn:=⟨fun i=>none,fun i=>match Nat.beq i 4 with|true=>some (fun E D H=>∃ k,bZj.l4.L K k E D H)|false=>none,(fun _=>none)⟩
theorem bZj.ok (x1:Int)(A1:Option Addr)(n1:Nat)(m1:Nat)(H:Hp)(K:Value→Hp→Prop)(h:bZj x1 A1 n1 m1 H K):Zc Tryz.prog 195 #[.int .u32 x1,.slice A1 n1 m1] H K:=
 Zr Tryz.func195 rfl (nbl rfl) (Zf (Λ:=(bZj.Λ K)) eZF _ _ _ _ _ (Eq.mp (by kernel_rfl) h) (Zb Za rfl (Zb Za rfl (Zb Za rfl (Zb (Zb Za rfl (Zu (ZZ rfl (fun E D H h=>by
   refine Safe.loop' (bZj.l4.L K) (fun E D H h=>?_) (fun k E D H h=>?_) E D H h
   ·obtain⟨w5,e5,g1⟩:=DG.out h;obtain⟨pw5,rfl,g2⟩:=DP.out g1;obtain⟨a1,rfl,g3⟩:=NN.out g2;obtain⟨w6,e6,g4⟩:=DG.out g3;obtain⟨x2,rfl,g5⟩:=DI.out g4;obtain⟨w12,e12,g6⟩:=DG.out g5;obtain⟨A2,n2,m2,rfl,g7⟩:=DSl.out g6;obtain⟨w13,e13,g8⟩:=DG.out g7;obtain⟨x3,rfl,g9⟩:=DI.out g8;obtain⟨w14,e14,g10⟩:=DG.out g9;obtain⟨x4,rfl,g11⟩:=DI.out g10;obtain⟨rfl,h'⟩:=Zo.out g11;exact h'
   ·obtain⟨a1,e5,g3⟩:=GN h;obtain⟨x2,e6,g5⟩:=GI g3;obtain⟨w12,e12,g6⟩:=DG.out g5;obtain⟨A2,n2,m2,rfl,g7⟩:=DSl.out g6;obtain⟨x3,e13,g9⟩:=GI g7;obtain⟨x4,e14,g11⟩:=GI g9;obtain⟨rfl,h'⟩:=Zo.out g11;exact(Zf (Λ:=(bZj.Λ4 K (bZj.l4 K k))) eZF _ _ [(5,.pointer (some a1)),(6,.int .u32 x2),(12,.slice A2 n2 m2),(13,.int .i64 x3),(14,.int .i64 x4)] [] H (Eq.mp (by kernel_rfl) h') (Zb Za rfl (Zb (Zk Zl ZS) rfl (Zb (Zu (Zb Za rfl (Zb Za rfl (Zb Za rfl Za)))) rfl Za)))).weaken (Ze.cons e5 (Ze.cons e6 (Ze.cons e12 (Ze.cons e13 (Ze.cons e14 (Ze.nil _)))))) (Hp.le_refl _))))) rfl (Zb Za rfl Zy))))))
def ZY.l6 (K:Value→Hp→Prop)(R2:Addr→Int→Hp→Prop):Nat→Addr→Int→Int→Int→Int→Hp→Prop
 |0,_,_,_,_,_,_=>False
 |k+1,a2,x2,x3,x4,x5,H=>
  let R6:=ZY.l6 K R2 k
  BIf (decide (x5<4)) ((0≤(1:Int)∧R6 a2 x2 (eZO .u32 (aZE .u32 x3 1) (IntKind.u32.wrap (2197175160*(aZF .u32 x3 1)))) x4 (IntKind.i64.wrap (x5+1)) H)) (ixI x2 16 (St H ((a2.add (x2.toNat*1)).add 0) (.int .u32 x3) fun H2=>R2 a2 (IntKind.i64.wrap (x4+1)) H2))
def ZY.l2 (K:Value→Hp→Prop):Nat→Addr→Int→Hp→Prop
 |0,_,_,_=>False
 |k+1,a1,x1,H=>
  let R2:=ZY.l2 K k
  BIf (decide (x1<16)) ((∃ k,ZY.l6 K R2 k a1 x1 (IntKind.u32.wrap x1) x1 0 H)) (LdA H a1 16 fun l1=>StA H a1 l1.toArray 16 fun H3=>LdA H3 a1 16 fun l2=>K (.agg l2.toArray) H3)
def ZY (H:Hp)(K:Value→Hp→Prop):Prop:=
 Nw H (.obj (.cells #[.int .u32 0,.int .u32 0,.int .u32 0,.int .u32 0,.int .u32 0,.int .u32 0,.int .u32 0,.int .u32 0,.int .u32 0,.int .u32 0,.int .u32 0,.int .u32 0,.int .u32 0,.int .u32 0,.int .u32 0,.int .u32 0] 309)) fun b1 H1=>(∃ k,ZY.l2 K k ⟨b1,0,none⟩ 0 H1)
def ZY.l2.L (K:Value→Hp→Prop)(k:Nat):Mid:=fun E D H=>
 eN E 0 fun a1=>eI E 3 .i64 fun x1=>Zo D (ZY.l2 K k a1 x1 H)
def ZY.l6.L (K:Value→Hp→Prop)(R2:Addr→Int→Hp→Prop)(k:Nat):Mid:=fun E D H=>
 eN E 0 fun a2=>eI E 1 .i64 fun x2=>eI E 2 .u32 fun x3=>eI E 3 .i64 fun x4=>eI E 8 .i64 fun x5=>Zo D (ZY.l6 K R2 k a2 x2 x3 x4 x5 H)
def ZY.Λ6 (_:Value→Hp→Prop)(_R2:Addr→Int→Hp→Prop)(_R6:Addr→Int→Int→Int→Int→Hp→Prop):Zn:=Zn.none (fun _=>none)
def ZY.Λ2 (K:Value→Hp→Prop)(R2:Addr→Int→Hp→Prop):Zn:=⟨fun i=>none,fun i=>match Nat.beq i 6 with|true=>some (fun E D H=>∃ k,ZY.l6.L K R2 k E D H)|false=>none,(fun _=>none)⟩
def ZY.Λ (K:Value→Hp→Prop):Zn:=⟨fun i=>none,fun i=>match Nat.beq i 2 with|true=>some (fun E D H=>∃ k,ZY.l2.L K k E D H)|false=>none,(fun _=>none)⟩
theorem ZY.ok (H:Hp)(K:Value→Hp→Prop)(h:ZY H K):Zc Tryz.prog 219 #[] H K:=
 Zr Tryz.func219 rfl (nbl rfl) (Zf (Λ:=(ZY.Λ K)) eZF _ _ _ _ _ (Eq.mp (by kernel_rfl) h) (Zb Za rfl (Zb (Zb Za rfl (Zu (ZZ rfl (fun E D H h=>by
   refine Safe.loop' (ZY.l2.L K) (fun E D H h=>?_) (fun k E D H h=>?_) E D H h
   ·obtain⟨w0,e0,g1⟩:=DG.out h;obtain⟨pw0,rfl,g2⟩:=DP.out g1;obtain⟨a1,rfl,g3⟩:=NN.out g2;obtain⟨w3,e3,g4⟩:=DG.out g3;obtain⟨x1,rfl,g5⟩:=DI.out g4;obtain⟨rfl,h'⟩:=Zo.out g5;exact h'
   ·obtain⟨a1,e0,g3⟩:=GN h;obtain⟨x1,e3,g5⟩:=GI g3;obtain⟨rfl,h'⟩:=Zo.out g5;exact(Zf (Λ:=(ZY.Λ2 K (ZY.l2 K k))) eZF _ _ [(0,.pointer (some a1)),(3,.int .i64 x1)] [] H (Eq.mp (by kernel_rfl) h') (Zb Za rfl (Zb (Zk Zl ZS) rfl (Zb (Zu (Zb Za rfl (Zb Za rfl (Zb (Zb Za rfl (Zu (ZZ rfl (fun E D H h=>by
      refine Safe.loop' (ZY.l6.L K (ZY.l2 K k)) (fun E D H h=>?_) (fun k E D H h=>?_) E D H h
      ·obtain⟨w0,e0,g1⟩:=DG.out h;obtain⟨pw0,rfl,g2⟩:=DP.out g1;obtain⟨a2,rfl,g3⟩:=NN.out g2;obtain⟨w1,e1,g4⟩:=DG.out g3;obtain⟨x2,rfl,g5⟩:=DI.out g4;obtain⟨w2,e2,g6⟩:=DG.out g5;obtain⟨x3,rfl,g7⟩:=DI.out g6;obtain⟨w3,e3,g8⟩:=DG.out g7;obtain⟨x4,rfl,g9⟩:=DI.out g8;obtain⟨w8,e8,g10⟩:=DG.out g9;obtain⟨x5,rfl,g11⟩:=DI.out g10;obtain⟨rfl,h'⟩:=Zo.out g11;exact h'
      ·obtain⟨a2,e0,g3⟩:=GN h;obtain⟨x2,e1,g5⟩:=GI g3;obtain⟨x3,e2,g7⟩:=GI g5;obtain⟨x4,e3,g9⟩:=GI g7;obtain⟨x5,e8,g11⟩:=GI g9;obtain⟨rfl,h'⟩:=Zo.out g11;exact(Zf (Λ:=(ZY.Λ6 K (ZY.l2 K k) (ZY.l6 K (ZY.l2 K k) k))) eZF _ _ [(0,.pointer (some a2)),(1,.int .i64 x2),(2,.int .u32 x3),(3,.int .i64 x4),(8,.int .i64 x5)] [] H (Eq.mp (by kernel_rfl) h') (Zb Za rfl (Zb (Zk Zl ZS) rfl (Zb (Zu Za) rfl Za)))).weaken (Ze.cons e0 (Ze.cons e1 (Ze.cons e2 (Ze.cons e3 (Ze.cons e8 (Ze.nil _)))))) (Hp.le_refl _))))) rfl Za)))) rfl Za)))).weaken (Ze.cons e0 (Ze.cons e3 (Ze.nil _))) (Hp.le_refl _))))) rfl (Zb Za rfl Zy))))
end Go.Proofs.YtahjgjaenegpgaaGreatDoor.W
namespace Go.Proofs.YtahjgjaenegpgaaGreatDoor.CrcP
open Go Go.Hw Go.Crc W
theorem tZn (v:W32):eZO .u32 (aZE .u32 (v.toNat:Int) 1) (IntKind.u32.wrap ((2197175160:Int)*aZF .u32 (v.toNat:Int) 1))=((eZo v).toNat:Int):=by
 rw[gZZ v (i:=1) (n:=1) rfl (by omega),show(1:Int)=((1#32:W32).toNat:Int)from rfl,uZt];have:IntKind.u32.wrap ((2197175160:Int)*((v&&&1#32).toNat:Int))=((if v.getLsbD 0 then tZI else 0#32).toNat:Int):=by
  have h1:v&&&1#32=if v.getLsbD 0 then 1#32 else 0#32:=by
   apply BitVec.eq_of_getLsbD_eq;intro i hi;rw[BitVec.getLsbD_and];cases i with
   |zero=>cases h:v.getLsbD 0<;>simp
   |succ i=>cases h:v.getLsbD 0<;>simp
  rw[h1];cases v.getLsbD 0<;>decide
 rw[this,iZ2];rfl
def tbl (i:Nat):Value:=.int .u32 ((it eZo 4 (BitVec.ofNat 32 i)).toNat:Int)
theorem mZU (K:Value→Hp→Prop)(R2:Addr→Int→Hp→Prop)(b:Nat)(c:Array Value)(e:TypeId)(hc:c.size=16)(H:Hp)(hb:H b=some (.obj (.cells c e)))(x2:Nat)(hx:x2<16)(x4:Int)(w:W32)
  (k:R2 ⟨b,0,none⟩ (IntKind.i64.wrap (x4+1)) (H.set b (.obj (.cells (c.setIfInBounds x2 (.int .u32 (w.toNat:Int))) e)))):
  ∀(d j:Nat) (v:W32),j+d=4→it eZo d v=w→ZY.l6 K R2 (d+1) ⟨b,0,none⟩ x2 (v.toNat:Int) x4 j H
 |0,j,v,hj,hv=>by
  unfold ZY.l6;refine Zm (by omega) ?_;refine⟨by omega,by omega,?_⟩;simp only[Addr.add_lit',Int.toNat_natCast,Nat.mul_one,Nat.zero_add,Nat.add_zero];refine hZD hb (by omega) rfl ?_;obtain rfl:v=w:=hv;exact k
 |d+1,j,v,hj,hv=>by
  unfold ZY.l6;refine Zw (by omega) ?_;refine⟨by omega,?_⟩;rw[tZn,ZV (by omega) (by omega)];exact mZU K R2 b c e hc H hb x2 hx x4 w k d (j+1) (eZo v) (by omega) hv
theorem mZV (K:Value→Hp→Prop)(b:Nat)(e:TypeId)(H0:Hp)(hn:H0 b=none)
  (k:∀ H,H0.le H→K (.agg ((List.range 16).map tbl).toArray) H):∀(d i:Nat) (H:Hp),i+d=16→H=H0.set b (.obj (.cells (filled tbl (.int .u32 0) 16 i) e))→ZY.l2 K (d+1) ⟨b,0,none⟩ (i:Int) H
 |0,i,H,hi,hH=>by
  obtain rfl:i=16:=by omega
  unfold ZY.l2;refine Zm (by omega) ?_;have hb:H b=some (.obj (.cells (filled tbl (.int .u32 0) 16 16) e)):=by rw[hH];exact Hp.set_same _ _ _
  refine fZL hb (fZl _ _ _ _) ?_;refine lZ0 hb (fZl _ _ _ _) (by simp[fZl]) ?_ ?_
  ·rw[lZm];intro v hv;simp at hv;obtain⟨a,_,rfl⟩:=hv;rfl
  refine fZL (Hp.set_same _ _ _) (by simp[fZl]) ?_;rw[Array.toArray_toList,lZm];refine k _ ?_;rw[hH,Hp.set_set];exact Hp.le_set hn
 |d+1,i,H,hi,hH=>by
  unfold ZY.l2;refine Zw (by omega) ?_;refine⟨5,?_⟩;have hb:H b=some (.obj (.cells (filled tbl (.int .u32 0) 16 i) e)):=by rw[hH];exact Hp.set_same _ _ _
  rw[show IntKind.u32.wrap (i:Int)=((BitVec.ofNat 32 i).toNat:Int) by rw[BitVec.toNat_ofNat,Nat.mod_eq_of_lt (by omega)];exact oZS (by omega)];refine mZU K _ b _ e (fZl _ _ _ _) H hb i (by omega) i _ ?_ 4 0 _ rfl rfl;rw[ZV (by omega) (by omega)];refine mZV K b e H0 hn k d (i+1) _ (by omega) ?_;rw[hH,Hp.set_set];congr 3;exact qZw tbl (.int .u32 0) (by omega)
theorem qZD (H:Hp):Zc Tryz.prog 219 #[] H (RetE (.agg ((List.range 16).map tbl).toArray) H):=by
 apply Zc.ret;apply ZY.ok;unfold ZY;intro b hb;refine⟨17,?_⟩;exact mZV _ b _ H hb (fun H' hl=>⟨rfl,hl⟩) 16 0 _ rfl rfl
theorem oZu (v:W32):(v>>>4)^^^it eZo 4 (v&&&15#32)=it eZo 4 v:=(wZr v).symm
theorem uZs (v:W32):aZF .u32 (v.toNat:Int) 15=((v&&&15#32).toNat:Int):=uZt v 15#32
theorem kZC (v:W32):(v&&&15#32).toNat<16:=by
 rw[BitVec.toNat_and];exact Nat.lt_of_le_of_lt Nat.and_le_right (by decide)
theorem pZ4 (v:W32):(((List.range 16).map tbl).toArray)[(v&&&15#32).toNat]? =some (.int .u32 ((it eZo 4 (v&&&15#32)).toNat:Int)):=by
 have h:=kZC v;simp only[List.getElem?_toArray,List.getElem?_map,List.getElem?_range h,Option.map_some];unfold tbl;rw[BitVec.ofNat_toNat,BitVec.setWidth_eq]
theorem mZu (K:Value→Hp→Prop)(t:Nat)(e:TypeId)(A:Option Addr)(n m:Nat)(bs:List UInt8)(hn:n=bs.length)(hm:n≤9223372036854775807)(H:Hp)(ht:H t=some (.obj (.cells ((List.range 16).map tbl).toArray e)))(hb:Cells H A (Zx bs))(w:W32)
  (k:K (.int .u32 ((~~~ w).toNat:Int)) H):∀(d j:Nat) (v:W32),j+d=n→run v (bs.drop j)=w→bZj.l4 K (d+1) ⟨t,0,none⟩ (v.toNat:Int) A n m n (j:Int) H
 |0,j,v,hj,hv=>by
  unfold bZj.l4;refine Zm (by omega) ?_;rw[List.drop_eq_nil_of_le (by omega)]at hv;obtain rfl:v=w:=hv;rw[show IntKind.u32.max=((BitVec.allOnes 32).toNat:Int)from rfl,iZ2,BitVec.allOnes_xor];exact k
 |d+1,j,v,hj,hv=>by
  unfold bZj.l4;refine Zw (by omega) ?_;have hlt:j<bs.length:=by omega
  refine hb.read (i:=j) (v:=.int .u8 (bs[j].toNat:Int)) (by rw[hZF,List.getElem?_eq_getElem hlt];rfl) rfl (by rw[ZT];omega) ?_;simp only[HV];refine⟨by omega,?_⟩;rw[show(bs[j].toNat:Int)=((bs[j].toBitVec).toNat:Int)from rfl,xZf,iZ2,uZs];refine⟨by omega,by have:=kZC (v^^^BitVec.setWidth 32 bs[j].toBitVec);omega,?_⟩;simp only[Addr.add_lit',Int.toNat_natCast,Nat.mul_one,Nat.zero_add];refine bZt ht (pZ4 _) ?_;simp only[HV];refine⟨by omega,?_⟩;rw[gZZ _ (i:=4) (n:=4) rfl (by omega),iZ2,oZu,uZs];refine⟨by omega,by have:=kZC (it eZo 4 (v^^^BitVec.setWidth 32 bs[j].toBitVec));omega,?_⟩;simp only[Addr.add_lit',Int.toNat_natCast,Nat.mul_one,Nat.zero_add];refine bZt ht (pZ4 _) ?_;simp only[HV];rw[gZZ _ (i:=4) (n:=4) rfl (by omega),iZ2,oZu,ZV (by omega) (by omega)];refine mZu K t e A n m bs hn hm H ht hb w k d (j+1) _ (by omega) ?_;rw[List.drop_eq_getElem_cons hlt]at hv;exact hv
theorem lZY (s:W32)(A:Option Addr)(n m:Nat)(bs:List UInt8)(hn:n=bs.length)(hm:n≤9223372036854775807)(H:Hp)(hb:Cells H A (Zx bs)):
  Zc Tryz.prog 195 #[.int .u32 (s.toNat:Int),.slice A n m] H (RetE (.int .u32 ((more s bs).toNat:Int)) H):=by
 apply Zc.ret;apply bZj.ok;unfold bZj;refine Zc.use (qZD H) ?_
 try simp only[HV]
 intro b hbn;refine lZ0 (Hp.set_same _ _ _) rfl (by simp) ?_ ?_
 ·intro v hv;simp at hv;obtain⟨a,_,rfl⟩:=hv;rfl
 rw[Hp.set_set];refine⟨n+1,?_⟩;rw[show IntKind.u32.max=((BitVec.allOnes 32).toNat:Int)from rfl,iZ2,BitVec.allOnes_xor];refine mZu _ b _ A n m bs hn hm _ (Hp.set_same _ _ _) (hb.le (Hp.le_set hbn)) (run (~~~ s) bs) ?_ n 0 _ (by omega) rfl;exact⟨rfl,Hp.le_set hbn⟩
theorem eZJ (A:Option Addr)(n m:Nat)(bs:List UInt8)(hn:n=bs.length)(hm:n≤9223372036854775807)(H:Hp)(hb:Cells H A (Zx bs)):
  Zc Tryz.prog 151 #[.slice A n m] H (RetE (.int .u32 ((sum bs).toNat:Int)) H):=by
 apply iZK.ok;unfold iZK;refine Zc.use (lZY 0#32 A n m bs hn hm H hb) ?_
 try simp only[HV]
 exact RetE.mk _ _
end Go.Proofs.YtahjgjaenegpgaaGreatDoor.CrcP
namespace Go.Proofs.YtahjgjaenegpgaaGreatDoor.CrcP
open Go Go.Hw Go.Crc Go.Form W
theorem iZI (A:Option Addr)(n m:Nat)(l:List UInt64)(hn:n=l.length)(hm:n≤10000000000)(H:Hp)(hl:Cells H A (Zd l)):
  Zc Tryz.prog 105 #[.slice A n m] H (RetE (.int .u32 ((sum (form l)).toNat:Int)) H):=by
 apply Zc.ret;apply fZq.ok;unfold fZq;refine(FormP.Put_ok A n m l hn (by omega) H hl).mono ?_;rintro v H' ⟨b,hb,rfl,rfl⟩;simp only[HV];have hf:(form l).length=8*n:=by rw[bZh,hn]
 refine Zc.use (eZJ (some ⟨b,0,none⟩) (8*n) (8*n) (form l) hf.symm (by omega) _ (by have:=Cells.row (Hp.set_same H b (.row (Zx (form l)) 5 (8*n))) 0 (8*n);rwa [List.drop_zero,List.take_of_length_le (by rw[ZT,hf];omega)]at this)) ?_
 try simp only[HV]
 exact⟨rfl,Hp.le_set hb⟩
end Go.Proofs.YtahjgjaenegpgaaGreatDoor.CrcP
namespace Go.Proofs.YtahjgjaenegpgaaGreatDoor.Rec
open Go Go.Hw Go.Form Go.Crc W
def jZX (ps:List (Nat×Nat)):List Value:=ps.flatMap fun(p:Nat×Nat)=>[Value.int .u64 (p.1:Int),Value.int .u64 (p.2:Int)]
def bZp (w:Nat):List (Nat×Nat)→Nat
 | []=>w
 |p::ps=>bZp (w|||(p.1*2^p.2%2^64)) ps
theorem eZt :∀(ps:List (Nat×Nat)) (w:Nat),w<2^64→bZp w ps<2^64
 | [],w,h=>h
 |p::ps,w,h=>eZt ps _ (nZG h (Nat.mod_lt _ (Nat.two_pow_pos 64)))
theorem mZY :∀(ps:List (Nat×Nat)) (j:Nat) (p:Nat×Nat),ps[j]? =some p→(jZX ps)[j*2]? =some (.int .u64 (p.1:Int))∧(jZX ps)[j*2+1]? =some (.int .u64 (p.2:Int))
 | [],j,p,h=>by simp at h
 |q::ps,0,p,h=>by
  simp at h;subst h;exact⟨rfl,rfl⟩
 |q::ps,j+1,p,h=>by
  have:=mZY ps j p (by simpa using h);rw[show(j+1)*2=j*2+2 by omega];exact this
theorem uZP {H:Hp}{g off:Nat}{u v:Value}{K:List Value→Prop}(h1:H.cell? ⟨g,off,none⟩=some u)(h2:H.cell? ⟨g,off+1,none⟩=some v)(k:K [u,v]):LdA H ⟨g,off,none⟩ 2 K:=by
 have e0:(⟨g,off,none⟩:Addr).add 0=⟨g,off,none⟩:=by rw[Addr.add_lit'];rfl
 have e1:(⟨g,off,none⟩:Addr).add (0+1)=⟨g,off+1,none⟩:=by rw[Addr.add_lit']
 unfold LdA Hp.cells? Hp.cells? Hp.cells?;rw[e0,e1,h1,h2];exact k
theorem mZO {H0:Hp}{b:Nat}{ps:List (Nat×Nat)}(hc:Cells H0 (some ⟨b,0,none⟩) (jZX ps))(hp:∀ p∈ps,p.1<2^64∧p.2≤64)(hl:ps.length≤1000):
  ∀(t j:Nat) (w:Nat) (H:Hp),j+t=ps.length→w<2^64→Sep [own H0] H→aZT.l3 (Ret (.int .u64 ((bZp w (ps.drop j):Nat):Int)) H0) (t+1) (w:Int) (some ⟨b,0,none⟩) ps.length ps.length (ps.length:Int) (j:Int) H
 |0,j,w,H,hj,hw,hs=>by
  unfold aZT.l3;rw[List.drop_eq_nil_of_le (by omega)];exact Zm (by omega) (hs.fin 0 rfl _)
 |t+1,j,w,H,hj,hw,hs=>by
  have hlt:j<ps.length:=by omega
  have hg:=mZY ps j _ (List.getElem?_eq_getElem hlt);obtain⟨hp1,hp2⟩:=hp _ (List.getElem_mem hlt);have hcH:=hc.le (hs.ow 0 rfl);unfold aZT.l3;refine Zw (by omega) ⟨by omega,by omega,?_⟩;rw[List.drop_eq_getElem_cons hlt];generalize ps[j]=p at*;simp only[aZ5];rw[Int.toNat_natCast,Addr.add_lit',Nat.zero_add];have g1:H.cell? ⟨b,j*2,none⟩=some (.int .u64 (p.1:Int)):=by
   obtain⟨a,ha,hc⟩:=hcH _ _ hg.1;cases ha;rw[Addr.add_lit',Nat.zero_add]at hc;exact hc
  have g2:H.cell? ⟨b,j*2+1,none⟩=some (.int .u64 (p.2:Int)):=by
   obtain⟨a,ha,hc⟩:=hcH _ _ hg.2;cases ha;rw[Addr.add_lit',Nat.zero_add]at hc;exact hc
  refine uZP g1 g2 ?_;refine hs.nw fun b1 H1 hs=>?_
  refine hs.stw 1 rfl rfl rfl rfl fun H1 hs=>?_
  refine hs.ldf 1 rfl rfl ?_;simp only[HV];refine hs.ldf 1 rfl rfl ?_;simp only[HV];refine⟨by omega,?_⟩;have hm:p.1*2^p.2%2^64<2^64:=Nat.mod_lt _ (Nat.two_pow_pos 64);rw[qZV (x:=p.1) (i:=(p.2:Int)) (n:=p.2) rfl hp2,orN hw hm,ZV (x:=(j:Int)+1) (by omega) (by omega),show(j:Int)+1=((j+1:Nat):Int) by omega];exact mZO hc hp hl t (j+1) _ H1 (by omega) (nZG hw hm) (hs.re [0] rfl)
theorem vZa {H:Hp}{b:Nat}(ps:List (Nat×Nat))(n:Nat)(hn:n=ps.length)(hc:Cells H (some ⟨b,0,none⟩) (jZX ps))(hp:∀ p∈ps,p.1<2^64∧p.2≤64)(hl:ps.length≤1000):
  Zc Tryz.prog 197 #[.slice (some ⟨b,0,none⟩) n n] H (RetE (.int .u64 ((bZp 0 ps:Nat):Int)) H):=Zc.ret (by
 subst hn;apply aZT.ok;unfold aZT;exact⟨ps.length+1,mZO hc hp hl ps.length 0 0 H (by omega) (by decide) (Sep.start H)⟩)
def R.p1 (r:R):List (Nat×Nat):=[(21061,48),(r.s,0)]
def R.p2 (r:R):List (Nat×Nat):=[(r.ld,32),(r.ps.toNat,24),(r.kk.toNat,16),(r.dir.toNat,8),(r.kd.toNat,0)]
def R.p3 (r:R):List (Nat×Nat):=[(r.inp,32),(r.out,0)]
def R.w3 (r:R):List UInt64:=[UInt64.ofNat (bZp 0 r.p1),UInt64.ofNat (bZp 0 r.p2),UInt64.ofNat (bZp 0 r.p3)]
structure R.u32 (r:R):Prop where
 ld:r.ld<4294967296
 inp:r.inp<4294967296
 out:r.out<4294967296
def oZy (ps:List (Nat×Nat)):AO:=.row (jZX ps) 288 (2*ps.length)
theorem jn {L:List As}{H:Hp}(hs:Sep L H)(i:Nat){b:Nat}{ps:List (Nat×Nat)}(hi:L[i]? =some (pts b (oZy ps)))(n:Nat)(hn:n=ps.length)(hp:∀ p∈ps,p.1<2^64∧p.2≤64)(hl:n≤1000):
  Zc Tryz.prog 197 #[.slice (some ⟨b,0,none⟩) n n] H (RetE (.int .u64 ((bZp 0 ps:Nat):Int)) H):=by
 refine vZa ps n hn ?_ hp (by omega);have:=Cells.row (hs.get i hi) 0 (jZX ps).length;rw[List.drop_zero,List.take_of_length_le (Nat.le_refl _)]at this;exact this
theorem uZc (r:R)(hg:r.good)(hu:r.u32):Tr Tryz.prog 178 #[.agg r.c] [] fun v M=>∃ b,v= .slice (some ⟨b,0,none⟩) 3 3∧M=[pts b (.row (Zd r.w3) 84 3)]:=fun H hs=>by
 obtain⟨g1,g2,g3,g4,g5,g6⟩:=hg;obtain⟨u1,u2,u3⟩:=hu;have c1:∀ p∈r.p1,p.1<2^64∧p.2≤64:=fun p hp=>by
  simp only[R.p1,List.mem_cons,List.not_mem_nil,or_false]at hp;rcases hp with rfl|rfl<;>exact⟨by simp only[];omega,by simp only[];omega⟩
 have c2:∀ p∈r.p2,p.1<2^64∧p.2≤64:=fun p hp=>by
  simp only[R.p2,List.mem_cons,List.not_mem_nil,or_false]at hp;rcases hp with rfl|rfl|rfl|rfl|rfl<;>exact⟨by simp only[];omega,by simp only[];omega⟩
 have c3:∀ p∈r.p3,p.1<2^64∧p.2≤64:=fun p hp=>by
  simp only[R.p3,List.mem_cons,List.not_mem_nil,or_false]at hp;rcases hp with rfl|rfl<;>exact⟨by simp only[];omega,by simp only[];omega⟩
 apply aZJ.ok;unfold aZJ aZJ.q4 aZJ.q3 aZJ.q2 aZJ.q1;refine hs.nw fun b1 H hs=>?_
 have hs:Sep [pts b1 (bZJ r)] H:=hs;refine hs.ldf 0 rfl rfl ?_;simp only[HV];refine hs.ldf 0 rfl rfl ?_;simp only[HV];refine hs.ldf 0 rfl rfl ?_;simp only[HV];refine hs.ldf 0 rfl rfl ?_;simp only[HV];refine hs.ldf 0 rfl rfl ?_;simp only[HV];refine hs.ldf 0 rfl rfl ?_;simp only[HV];refine hs.ldf 0 rfl rfl ?_;simp only[HV];refine hs.ldf 0 rfl rfl ?_;simp only[HV];have e1:IntKind.u64.wrap (r.ld:Int)=(r.ld:Int):=bZ1 (by omega);have e2:IntKind.u64.wrap r.ps=(r.ps.toNat:Int):=by rw[dZj (by omega) (by omega)];omega
 have e3:IntKind.u64.wrap r.kk=(r.kk.toNat:Int):=by rw[dZj (by omega) (by omega)];omega
 have e4:IntKind.u64.wrap r.dir=(r.dir.toNat:Int):=by rw[dZj (by omega) (by omega)];omega
 have e5:IntKind.u64.wrap r.kd=(r.kd.toNat:Int):=by rw[dZj (by omega) (by omega)];omega
 have e6:IntKind.u64.wrap (r.inp:Int)=(r.inp:Int):=bZ1 (by omega);have e7:IntKind.u64.wrap (r.out:Int)=(r.out:Int):=bZ1 (by omega);rw[e1,e2,e3,e4,e5,e6,e7];have done:∀{L:List As} {H:Hp},Sep L H→Nw H (.row [.int .u64 ((bZp 0 r.p1:Nat):Int),.int .u64 ((bZp 0 r.p2:Nat):Int),.int .u64 ((bZp 0 r.p3:Nat):Int)] 84 3) fun b5 H5=>∃ M,(∃ b,(.slice (some ⟨b5,0,none⟩) 3 3:Value)= .slice (some ⟨b,0,none⟩) 3 3∧M=[pts b (.row (Zd r.w3) 84 3)])∧Sep M H5:=fun{L H} hs=>by
  refine hs.nw fun b5 H5 hs=>⟨_,⟨b5,rfl,rfl⟩,?_⟩
  have hw:Zd r.w3=[.int .u64 ((bZp 0 r.p1:Nat):Int),.int .u64 ((bZp 0 r.p2:Nat):Int),.int .u64 ((bZp 0 r.p3:Nat):Int)]:=by
   show [Value.int .u64 ((UInt64.ofNat (bZp 0 r.p1)).toNat:Int),Value.int .u64 ((UInt64.ofNat (bZp 0 r.p2)).toNat:Int),Value.int .u64 ((UInt64.ofNat (bZp 0 r.p3)).toNat:Int)]=_
   rw[UInt64.toNat_ofNat_of_lt' (eZt r.p1 0 (by decide)),UInt64.toNat_ofNat_of_lt' (eZt r.p2 0 (by decide)),UInt64.toNat_ofNat_of_lt' (eZt r.p3 0 (by decide))]
  rw[hw];have hg:=hs.get L.length (b:=b5) (o:=.row [.int .u64 ((bZp 0 r.p1:Nat):Int),.int .u64 ((bZp 0 r.p2:Nat):Int),.int .u64 ((bZp 0 r.p3:Nat):Int)] 84 3) (by simp);exact⟨H5,fun _=>none,Hp.le_refl _,fun b o h=>(by cases h),fun b=>.inr rfl,hg,trivial⟩
 have n1:∀{L:List As} {H:Hp} {K:Nat→Hp→Prop},Sep L H→(∀ b H',Sep (L++[pts b (oZy r.p1)]) H'→K b H')→Nw H (.row [.int .u64 21061,.int .u64 48,.int .u64 (r.s:Int),.int .u64 0] 288 4) K:=fun hs k=>hs.nw k
 have n2:∀{L:List As} {H:Hp} {K:Nat→Hp→Prop},Sep L H→(∀ b H',Sep (L++[pts b (oZy r.p2)]) H'→K b H')→Nw H (.row [.int .u64 (r.ld:Int),.int .u64 32,.int .u64 (r.ps.toNat:Int),.int .u64 24,.int .u64 (r.kk.toNat:Int),.int .u64 16,.int .u64 (r.dir.toNat:Int),.int .u64 8,.int .u64 (r.kd.toNat:Int),.int .u64 0] 288 10) K:=fun hs k=>hs.nw k
 have n3:∀{L:List As} {H:Hp} {K:Nat→Hp→Prop},Sep L H→(∀ b H',Sep (L++[pts b (oZy r.p3)]) H'→K b H')→Nw H (.row [.int .u64 (r.inp:Int),.int .u64 32,.int .u64 (r.out:Int),.int .u64 0] 288 4) K:=fun hs k=>hs.nw k
 refine⟨n1 hs fun b2 H hs=>?_,n2 hs fun b2 H hs=>?_,n3 hs fun b2 H hs=>?_⟩
 ·refine aZc.use (jn hs 1 rfl 2 rfl c1 (by decide)) ?_;simp only[HV];refine⟨n2 hs fun b3 H hs=>?_,n3 hs fun b3 H hs=>n2 hs fun b4 H hs=>?_⟩
  ·refine aZc.use (jn hs 2 rfl 5 rfl c2 (by decide)) ?_;simp only[HV];refine n3 hs fun b4 H hs=>?_
   refine aZc.use (jn hs 3 rfl 2 rfl c3 (by decide)) ?_;simp only[HV];exact done hs
  ·refine aZc.use (jn hs 3 rfl 5 rfl c2 (by decide)) ?_;simp only[HV];refine aZc.use (jn hs 2 rfl 2 rfl c3 (by decide)) ?_;simp only[HV];exact done hs
 ·refine⟨n1 hs fun b3 H hs=>?_,n3 hs fun b3 H hs=>n1 hs fun b4 H hs=>?_⟩
  ·refine aZc.use (jn hs 2 rfl 2 rfl c1 (by decide)) ?_;simp only[HV];refine aZc.use (jn hs 1 rfl 5 rfl c2 (by decide)) ?_;simp only[HV];refine n3 hs fun b4 H hs=>?_
   refine aZc.use (jn hs 3 rfl 2 rfl c3 (by decide)) ?_;simp only[HV];exact done hs
  ·refine aZc.use (jn hs 3 rfl 2 rfl c1 (by decide)) ?_;simp only[HV];refine aZc.use (jn hs 1 rfl 5 rfl c2 (by decide)) ?_;simp only[HV];refine aZc.use (jn hs 2 rfl 2 rfl c3 (by decide)) ?_;simp only[HV];exact done hs
 ·refine⟨n1 hs fun b3 H hs=>?_,n2 hs fun b3 H hs=>n1 hs fun b4 H hs=>?_⟩
  ·refine aZc.use (jn hs 2 rfl 2 rfl c1 (by decide)) ?_;simp only[HV];refine n2 hs fun b4 H hs=>?_
   refine aZc.use (jn hs 3 rfl 5 rfl c2 (by decide)) ?_;simp only[HV];refine aZc.use (jn hs 1 rfl 2 rfl c3 (by decide)) ?_;simp only[HV];exact done hs
  ·refine aZc.use (jn hs 3 rfl 2 rfl c1 (by decide)) ?_;simp only[HV];refine aZc.use (jn hs 2 rfl 5 rfl c2 (by decide)) ?_;simp only[HV];refine aZc.use (jn hs 1 rfl 2 rfl c3 (by decide)) ?_;simp only[HV];exact done hs
end Go.Proofs.YtahjgjaenegpgaaGreatDoor.Rec
namespace Go.Proofs.YtahjgjaenegpgaaGreatDoor.Gen
open Go
def eZH (xs:List Nat):List Value:=List.map (fun(x:Nat)=>Value.int .u64 (x:Int)) xs
theorem gZW (xs:List Nat):(eZH xs).length=xs.length:=by simp[eZH]
theorem bZR :Hw.bZv Tryz.prog 84=some (1,8,some #[.int .u64 0]):=by kernel_rfl
end Go.Proofs.YtahjgjaenegpgaaGreatDoor.Gen
namespace Go.Hw
open Go
end Go.Hw
namespace Go.Proofs.YtahjgjaenegpgaaGreatDoor.Rec
open Go Go.Hw Go.Form Go.Crc W
theorem tZq :bZv Tryz.prog 84=some (1,8,some #[.int .u64 0]):=by kernel_rfl
theorem eZE :bZv Tryz.prog 5=some (1,1,some #[.int .u8 0]):=by kernel_rfl
def gZX (l:List UInt64):List (Nat×Nat):=[(4294967295-(sum (form l)).toNat,32),((sum (form l)).toNat,0)]
theorem pZT (A:Option Addr)(n m:Nat)(l:List UInt64)(hn:n=l.length)(hm:n≤1000)(H:Hp)(hl:Cells H A (Zd l)):Zc Tryz.prog 155 #[.slice A n m] H (RetE (.int .u64 ((bZp 0 (gZX l):Nat):Int)) H):=Zc.ret (by
 apply fZz.ok;unfold fZz;have hs:=Sep.start H;refine Zc.use (CrcP.iZI A n m l hn (by omega) H hl) ?_;simp only[HV];have hx:eZO .u32 IntKind.u32.max ((sum (form l)).toNat:Int)=((4294967295-(sum (form l)).toNat:Nat):Int):=by
  rw[show IntKind.u32.max=((BitVec.allOnes 32).toNat:Int)from rfl,iZ2,BitVec.allOnes_xor,BitVec.toNat_not]
 have hlt:=(sum (form l)).isLt;rw[hx,bZ1 (n:=4294967295-(sum (form l)).toNat) (by omega),bZ1 (n:=(sum (form l)).toNat) (by omega)];refine hs.nw fun b1 H1 hs=>?_
 have hs:Sep [own H,pts b1 (oZy (gZX l))] H1:=hs;refine Zc.use (jn hs 1 rfl 2 rfl (fun p hp=>?_) (by decide)) ?_
 ·simp only[gZX,List.mem_cons,List.not_mem_nil,or_false]at hp;rcases hp with rfl|rfl<;>exact⟨by simp only[];omega,by simp only[];omega⟩
 simp only[HV];exact hs.fin 0 rfl _)
def R.w4 (r:R):List UInt64:=r.w3++[UInt64.ofNat (bZp 0 (gZX r.w3))]
theorem vZ4 (r:R)(hg:r.good)(hu:r.u32)(size:Nat)(h32:32≤size)(h40:size≤4096)(hsz:(Lay.gZF 0 size).2=0):
  Tr Tryz.prog 133 #[.agg r.c,.int .i64 (size:Int)] [] fun v M=>∃ b,v= .tuple #[.slice (some ⟨b,0,none⟩) size size,.int .i64 0]∧
   M=[pts b (.row (setAt (aZK [.int .u8 0] size) 0 (Zx (form r.w4))) 5 (size*1))]:=fun H hs=>by
 apply eZb.ok;unfold eZb;refine hs.nw fun b1 H hs=>?_
 have hs:Sep [pts b1 (bZJ r)] H:=hs;refine hs.ldw 0 rfl rfl ?_;refine Zc.use (bZZ r H) ?_;rw[decide_eq_true hg];simp only[HV];have hsec:Zc Tryz.prog 152 #[.int .i64 (size:Int)] H (RetE (.bool true) H):=by
  apply cZ1.ok;unfold cZ1;refine Zc.use (Lay.jZN 0 size H) ?_;rw[hsz];simp only[HV];exact RetE.mk _ _
 refine Zc.use hsec ?_;simp only[HV];refine hs.ldw 0 rfl rfl ?_;refine(uZc r hg hu).use hs [] rfl rfl ?_;rintro _ _ H ⟨b3,rfl,rfl⟩ hs;simp only[HV];refine hs.mks eZE rfl (n:=size) (m:=size) rfl rfl (Nat.le_refl _) (by omega) (by omega) fun bo H hs=>?_
 simp only[HV];have hs:Sep [pts b3 (.row (Zd r.w3) 84 3),pts b1 (bZJ r),pts bo (.row (aZK [.int .u8 0] size) 5 (size*1))] H:=hs;have hc:Cells H (some ⟨b3,0,none⟩) (Zd r.w3):=by
  have:=Cells.row (hs.get 0 rfl) 0 3;exact this
 refine Zc.use (pZT (some ⟨b3,0,none⟩) 3 3 r.w3 rfl (by omega) H hc) ?_;simp only[HV];have hs:=hs.turn 0 rfl (B:=Own 84 1 (some ⟨b3,0,none⟩) 3 3 (Zd r.w3)) (fun H1 h=>⟨rfl,.inr ⟨b3,3,rfl,h,Nat.le_refl _⟩⟩);refine hs.app1 0 rfl tZq (by omega) rfl (by omega) (by omega) fun A' m' H hs=>?_
 simp only[HV];have hw:Zd r.w3++[.int .u64 ((bZp 0 (gZX r.w3):Nat):Int)]=Zd r.w4:=by
  unfold R.w4 Zd;rw[List.map_append];show _=_++[Value.int .u64 ((UInt64.ofNat (bZp 0 (gZX r.w3))).toNat:Int)]
  rw[UInt64.toNat_ofNat_of_lt' (eZt _ 0 (by decide))]
 rw[hw]at hs;have hc:Cells H A' (Zd r.w4):=by
  obtain⟨hl,h⟩:=hs.own 0 rfl;rcases h with⟨_,h0,_⟩|⟨b,mm,rfl,hb,_⟩
  ·omega
  ·have:=Cells.row hb 0 4;exact this
 refine Zc.mono (FormP.Put_ok A' 4 m' r.w4 rfl (by omega) H hc) ?_;rintro _ _ ⟨b',hb',rfl,rfl⟩;have hs:=hs.new hb' (.row (Zx (form r.w4)) 5 (8*4));generalize H.set b' (.row (Zx (form r.w4)) 5 (8*4))=H at*;simp only[HV];have hlen:(Zx (form r.w4)).length=32:=by rw[ZT,bZh];rfl
 have hmin:Nat.min 32 size=32:=Nat.min_eq_left h32;refine hs.cp 2 (b:=bo) (off:=0) (n:=size) (k:=32) (xs:=aZK [.int .u8 0] size) (e':=5) (m:=size*1) (ys:=Zx (form r.w4)) rfl eZE rfl ?_ ?_ (fun y hy=>?_) fun H hs=>?_
 ·rw[hmin];have:=Cells.row (hs.get 3 rfl) 0 32;rw[List.drop_zero,List.take_of_length_le (by rw[hlen];exact Nat.le_refl _)]at this;exact iZz this hlen.symm
 ·rw[hlen,bZD,List.length_replicate];omega
 ·obtain⟨z,_,rfl⟩:=List.mem_map.1 hy;rfl
 simp only[HV];exact⟨_,⟨bo,rfl,rfl⟩,hs.re [2] rfl⟩
end Go.Proofs.YtahjgjaenegpgaaGreatDoor.Rec
namespace Go.Proofs.YtahjgjaenegpgaaGreatDoor.Lib2
open Go Go.Proofs Go.Shelf Go.RowKit
def sZJ :Go.Shelf.Ren:=⟨fun|160=>196|232=>221|231=>220|227=>222|234=>224|233=>223|236=>226|235=>225|228=>238|271=>241|151=>240|197=>239|120=>252|152=>251|260=>250|137=>262|119=>263|224=>264|225=>265|217=>270|266=>274|n=>n,fun|9=>9|4=>4|3=>3|5=>5|117=>314|116=>313|0=>0|124=>317|21=>21|105=>332|46=>86|119=>349|139=>352|138=>351|n=>n,fun|3=>2|4=>3|n=>n⟩
theorem wZ7 :Go.Proofs.Lays.n160 Tryz.prog sZJ where
 mixed:=by kernel_rfl
 f119:=Tryz.func263.trans (congrArg some (by kernel_rfl))
 f120:=Tryz.func252.trans (congrArg some (by kernel_rfl))
 f137:=Tryz.func262.trans (congrArg some (by kernel_rfl))
 f151:=Tryz.func240.trans (congrArg some (by kernel_rfl))
 f152:=Tryz.func251.trans (congrArg some (by kernel_rfl))
 f160:=Tryz.func196.trans (congrArg some (by kernel_rfl))
 f197:=Tryz.func239.trans (congrArg some (by kernel_rfl))
 f217:=Tryz.func270.trans (congrArg some (by kernel_rfl))
 f224:=Tryz.func264.trans (congrArg some (by kernel_rfl))
 f225:=Tryz.func265.trans (congrArg some (by kernel_rfl))
 f227:=Tryz.func222.trans (congrArg some (by kernel_rfl))
 f228:=Tryz.func238.trans (congrArg some (by kernel_rfl))
 f231:=Tryz.func220.trans (congrArg some (by kernel_rfl))
 f232:=Tryz.func221.trans (congrArg some (by kernel_rfl))
 f233:=Tryz.func223.trans (congrArg some (by kernel_rfl))
 f234:=Tryz.func224.trans (congrArg some (by kernel_rfl))
 f235:=Tryz.func225.trans (congrArg some (by kernel_rfl))
 f236:=Tryz.func226.trans (congrArg some (by kernel_rfl))
 f260:=Tryz.func250.trans (congrArg some (by kernel_rfl))
 f266:=Tryz.func274.trans (congrArg some (by kernel_rfl))
 f271:=Tryz.func241.trans (congrArg some (by kernel_rfl))
 t0:=Tryz.underlying0
 a0:=Tryz.isAgg0
 z0:=Tryz.sizeOf0
 v0:=Tryz.zeroValue0
 t3:=Tryz.underlying3
 a3:=Tryz.isAgg3
 z3:=Tryz.sizeOf3
 v3:=Tryz.zeroValue3
 t4:=Tryz.underlying4
 a4:=Tryz.isAgg4
 z4:=Tryz.sizeOf4
 v4:=Tryz.zeroValue4
 t5:=Tryz.underlying5
 a5:=Tryz.isAgg5
 z5:=Tryz.sizeOf5
 v5:=Tryz.zeroValue5
 t9:=Tryz.underlying9
 a9:=Tryz.isAgg9
 z9:=Tryz.sizeOf9
 v9:=Tryz.zeroValue9
 t21:=Tryz.underlying21
 a21:=Tryz.isAgg21
 z21:=Tryz.sizeOf21
 v21:=Tryz.zeroValue21
 t46:=Tryz.underlying86
 a46:=Tryz.isAgg86
 z46:=Tryz.sizeOf86
 v46:=Tryz.zeroValue86
 t105:=Tryz.underlying332
 a105:=Tryz.isAgg332
 z105:=Tryz.sizeOf332
 v105:=Tryz.zeroValue332
 t116:=Tryz.underlying313
 a116:=Tryz.isAgg313
 z116:=Tryz.sizeOf313
 t117:=Tryz.underlying314
 a117:=Tryz.isAgg314
 z117:=Tryz.sizeOf314
 v117:=Tryz.zeroValue314
 t119:=Tryz.underlying349
 a119:=Tryz.isAgg349
 z119:=Tryz.sizeOf349
 t124:=Tryz.underlying317
 a124:=Tryz.isAgg317
 z124:=Tryz.sizeOf317
 v124:=Tryz.zeroValue317
 t138:=Tryz.underlying351
 a138:=Tryz.isAgg351
 z138:=Tryz.sizeOf351
 v138:=Tryz.zeroValue351
 t139:=Tryz.underlying352
 a139:=Tryz.isAgg352
 z139:=Tryz.sizeOf352
 v139:=Tryz.zeroValue352
 g3:=by kernel_rfl
 g4:=by kernel_rfl
end Go.Proofs.YtahjgjaenegpgaaGreatDoor.Lib2
namespace Go.Hw
open Go Go.Proofs Go.Proofs.YtahjgjaenegpgaaGreatDoor.Lib2 Go.RowKit Go.Shelf
theorem uZS (s:ByteArray)(c:UInt8)(hc:c.toNat<128)(hs:s.size≤9223372036854775807)(H:Hp):
  Zc Tryz.prog 196 #[.string s,.string ⟨#[c]⟩] H (RetE (.string ⟨(Lib.trimB s.data.toList c).toArray⟩) H):=fun w hw=>by
 refine(Any.strings_Trim_one wZ7 s c hc w hs).mono ?_;rintro e w' ⟨rfl,h⟩;refine⟨_,H,rfl,⟨rfl,rfl⟩,?_⟩;rcases h with rfl|rfl
 ·exact At.refl hw
 ·exact⟨hw,Nat.le_refl _,rfl,rfl,rfl,fun _ _ h=>⟨h,rfl⟩⟩
theorem rZF (p:UInt8→Bool):∀ l:List UInt8,l.dropWhile p=[]↔∀ x∈l,p x=true
 | []=>by simp
 |z::l=>by
  rw[List.dropWhile_cons];by_cases hz:p z=true
  ·rw[if_pos hz,rZF p l];constructor
   ·intro h x hx;rcases List.mem_cons.1 hx with rfl|hx
    ·exact hz
    ·exact h x hx
   ·intro h x hx;exact h x (List.mem_cons_of_mem _ hx)
  ·rw[if_neg hz];constructor
   ·intro h;cases h
   ·intro h;exact absurd (h z (by simp)) hz
theorem rZE (p:UInt8→Bool):∀ l:List UInt8,(∀ x∈l.dropWhile p,p x=true)→∀ x∈l,p x=true
 | [],_=>by simp
 |z::l,h=>by
  rw[List.dropWhile_cons]at h;by_cases hz:p z=true
  ·rw[if_pos hz]at h;intro x hx;rcases List.mem_cons.1 hx with rfl|hx
   ·exact hz
   ·exact rZE p l h x hx
  ·rw[if_neg hz]at h;exact absurd (h z (by simp)) hz
theorem nZc (l:List UInt8)(c:UInt8):Lib.trimB l c=[]↔∀ x∈l,x=c:=by
 unfold Lib.trimB Lib.trimLeftB Lib.trimRightB;rw[rZF];constructor
 ·intro h x hx;have:=rZE (· ==c) l.reverse (fun y hy=>h y (by simpa using hy)) x (by simpa using hx);simpa using this
 ·intro h x hx;have:=(List.dropWhile_sublist (· ==c)).subset (List.mem_reverse.1 hx);simpa using h x (List.mem_reverse.1 this)
end Go.Hw
