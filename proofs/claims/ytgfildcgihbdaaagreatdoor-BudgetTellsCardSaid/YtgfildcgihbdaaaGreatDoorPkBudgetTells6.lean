import Derived.Test.YtgfildcgihbdaaaGreatDoorProg
import Derived.Shelf.Strconv.Itoa0
import Derived.Shelf.Strings.Trim
import Derived.Test.YtgfildcgihbdaaaGreatDoorPkBudgetTells5
set_option maxRecDepth 100000
set_option linter.unusedSimpArgs false
set_option linter.unusedVariables false
set_option linter.unnecessarySimpa false
set_option linter.unusedSectionVars false
open Go.IntKind (i64 u32 u64)
namespace Go.Proofs.YtgfildcgihbdaaaGreatDoor.Dsk
open Go Go.Hw Go.Form W
def eZj (s c:Int→Option (List UInt8)):Int→Option (List UInt8):=fun i=>match c i with|some b=>some b|none=>s i
theorem born_inj {l:List (Int×Value×Nat)}(h:(l.map (·.2.2)).Nodup){x y:Int×Value×Nat}(hx:x∈l)(hy:y∈l)(e:x.2.2=y.2.2):x=y:=by
 induction l with
 |nil=>simp at hx
 |cons z l ih=>
  simp only[List.map_cons,List.nodup_cons]at h;rcases List.mem_cons.1 hx with ex|hx'
  ·rcases List.mem_cons.1 hy with ey|hy'
   ·rw[ex,ey]
   ·exact absurd (by rw[← ex,e];exact List.mem_map_of_mem hy') h.1
  ·rcases List.mem_cons.1 hy with ey|hy'
   ·exact absurd (by rw[← ey,←e];exact List.mem_map_of_mem hx') h.1
   ·exact ih h.2 hx' hy'
theorem qZh (K:VK){r1 r2 it cl:Nat}{c s:Int→Option (List UInt8)}{l:List (Int×Value×Nat)}(hok:OkK l cl (bZ4 c))
  (hK:∀ H,Sep [Mp r1 (bZ4 (eZj s c)),pts r2 (dZk l cl)] H→K (.tuple #[]) H):
  ∀(t:Nat) (sj:Int→Option (List UInt8)) (seen:Array Nat) (last:Nat) (H:Hp),(bZK l seen).length≤t→(∀ x∈l,x.2.2<last)→(∀ i,(∀ x∈bZK l seen,x.1≠i)→sj i=eZj s c i)→
   Sep [Mp r1 (bZ4 sj),pts r2 (dZk l cl),pts it (eZb r2 cl seen last)] H→Zo.l1 K (t+1) (some r1) (.pointer (some ⟨it,0,none⟩)) H:=fun t=>by
 induction t with
 |zero=>
  intro sj seen last H ht hlast hsj hs;unfold Zo.l1;have h0:bZK l seen=[]:=List.length_eq_zero_iff.1 (by omega);refine rZV (hs.get 2 rfl) (hs.get 1 rfl) hok.bl hlast (fun x hx=>by rw[h0]at hx;simp at hx) (fun _=>?_);simp only[Ex,List.getElem?_toArray,List.getElem?_cons_zero,jZG,iZZ];refine hK H ?_;have:sj=eZj s c:=funext fun i=>hsj i (fun x hx=>by rw[h0]at hx;simp at hx)
  rw[← this];exact hs.re [0,1] rfl
 |succ t ih=>
  intro sj seen last H ht hlast hsj hs;unfold Zo.l1;refine rZV (hs.get 2 rfl) (hs.get 1 rfl) hok.bl hlast (fun x hx=>?_) (fun h0=>?_)
  ·simp only[Ex,List.getElem?_toArray,List.getElem?_cons_zero,jZG,nZG];have hxl:x∈l:=(List.mem_filter.1 hx).1;have hs:=hs.put 2 (eZb r2 cl (seen.push x.2.2) cl) rfl;refine uZV (hs.get 2 rfl) (hs.get 1 rfl) hxl (by simp) hok.bn ?_;simp only[Ex,List.getElem?_toArray,List.getElem?_cons_zero,List.getElem?_cons_succ];have hg:bZ4 c x.1=some x.2.1:=by rw[← hok.get,tZi hok.nd hxl]
   obtain⟨b,hcb,hxb⟩:∃ b,c x.1=some b∧x.2.1=mZg b:=by
    unfold bZ4 at hg;cases hc:c x.1 with
    |none=>rw[hc]at hg;cases hg
    |some b=>rw[hc]at hg;exact⟨b,rfl,(Option.some.inj hg).symm⟩
   rw[hxb];show DI .i64 (.int .i64 x.1) fun x1=>DS (.string ⟨b.toArray⟩) _
   simp only[HV];refine hs.upd jZ0 iZs 0 rfl fun H hs=>?_;rw[show(Value.string ⟨b.toArray⟩)=mZg b from rfl,sZv]at hs;have hlt:=qZK hx;refine ih (cZT sj x.1 b) (seen.push x.2.2) cl H (by omega) hok.bl (fun i hi=>?_) hs;by_cases e:i=x.1
   ·subst e;unfold eZj cZT;rw[hcb];simp
   ·unfold cZT;rw[if_neg e];refine hsj i fun y hy ey=>?_
    obtain⟨hyl,hys⟩:=List.mem_filter.1 hy;have hne:y.2.2≠x.2.2:=fun e2=>e (by rw[← ey,born_inj hok.bn hyl hxl e2])
    refine hi y (List.mem_filter.2 ⟨hyl,?_⟩) ey;rw[Array.contains_push];simp only[Bool.not_eq_true',Bool.or_eq_false_iff]at hys⊢;exact⟨hys,by simpa using hne⟩
  ·simp only[Ex,List.getElem?_toArray,List.getElem?_cons_zero,jZG,iZZ];refine hK H ?_;have:sj=eZj s c:=funext fun i=>hsj i (fun x hx=>by rw[h0]at hx;simp at hx)
   rw[← this];exact hs.re [0,1] rfl
theorem tZq (r1 r2:Nat)(s c:Int→Option (List UInt8)):Tr Tryz.prog 76 #[.map (some r1),.map (some r2)] [Mp r1 (bZ4 s),Mp r2 (bZ4 c)] fun v M=>
  v= .tuple #[]∧M=[Mp r1 (bZ4 (eZj s c)),Mp r2 (bZ4 c)]:=fun H hs=>by
 have hs0:=hs;obtain⟨H1,⟨l,clock,hr1,hok⟩,hle⟩:=hs.see 1 rfl;apply Zo.ok;unfold Zo;refine vZf iZs (hle _ _ hr1) fun it hit=>?_
 have hs1:Sep [Mp r1 (bZ4 s),pts r2 (dZk l clock)] H:=hs.turn' 1 rfl fun H2 hle2 hA=>by
  obtain⟨l2,clock2,h2,_⟩:=hA;have e1:=hle2 _ _ h2;have e2:=hle _ _ hr1;rw[e1]at e2;show H2 r2=some (dZk l clock)
  rw[h2,e2]
 have hs2:=hs1.new hit (eZb r2 clock #[] clock);refine⟨l.length+1,?_⟩;refine qZh _ (s:=s) hok (fun H hs=>⟨_,⟨rfl,rfl⟩,hs.turn 1 rfl fun H2 hA=>⟨l,clock,hA,hok⟩⟩) l.length s #[] clock _ ?_ hok.bl (fun i hi=>?_) hs2
 ·unfold bZK;exact List.length_filter_le _ _
 ·unfold eZj;have hn:c i=none:=by
   have:cZ6 l i=none:=mZC.2 fun x hx=>hi x (by unfold bZK;simp[hx])
   rw[hok.get]at this;unfold bZ4 at this;cases hc:c i with
   |none=>rfl
   |some b=>rw[hc]at this;cases this
  rw[hn]
def D.synced (d:D):D:={ d.burnt with sy:=d.sy+1,safe:=eZj d.safe d.cache,cache:=fun _=>none}
def D.syncE (d:D):Int:=if d.down then 8 else if d.burns then 8 else 0
def D.syncD (d:D):D:=if d.down then d else if d.burns then d.burnt else d.synced
theorem hZp {p:Nat}{d:D}(hok:Ok d)(ho:d.sy≤4611686018427387904):Tr Tryz.prog 47 #[.pointer (some ⟨p,0,none⟩)] [Dk p d] fun v M=>v= .int .i64 d.syncE∧M=[Dk p d.syncD]:=fun H hs=>by
 have hf:=hok.fz;obtain⟨r1,r2,r3,hp⟩:=Dk.see hs 0 rfl;apply dZ5.ok;unfold dZ5;simp only[HS];refine bZq hp (v:=.bool d.down) rfl ?_;simp only[HV];cases hdn:d.down with
 |true=>exact aZt rfl ⟨_,⟨by simp[D.syncE,hdn],by simp[D.syncD,hdn]⟩,hs⟩
 |false=>
  refine aZb rfl ?_;refine(kZt hf).use hs [0] rfl rfl ?_;rintro _ _ H ⟨rfl,rfl⟩ hs;simp only[HV];cases hb:d.burns with
  |true=>exact aZt rfl ⟨_,⟨by simp[D.syncE,hdn,hb],by simp[D.syncD,hdn,hb];rfl⟩,hs⟩
  |false=>
   refine aZb rfl ?_;have hbr:=bZ8 d;obtain⟨r1,r2,r3,hs⟩:=Dk.open hs
   try simp only[HS]
   refine hs.ld 0 rfl rfl ?_;simp only[HV];refine hs.st 0 rfl (by show 5<10;omega) rfl fun H hs=>?_;rw[hbr.2.2.1]at hs;rw[ZL (x:=(d.sy:Int)+1) (by omega) (by omega)]at hs;refine hs.ld 0 rfl rfl ?_;simp only[HV];refine hs.ld 0 rfl rfl ?_;simp only[HV];rw[hbr.2.2.2.2.2.1,hbr.2.2.2.2.2.2.1]at hs;refine(tZq r1 r3 d.safe d.cache).use hs [1,3] rfl rfl ?_;rintro _ _ H ⟨rfl,rfl⟩ hs
   try simp only[HV]
   refine hs.ld 2 rfl rfl ?_;simp only[HV];refine hs.clearK jZ0 iZs 1 rfl fun H hs=>?_;refine⟨_,⟨by simp[D.syncE,hdn,hb],by simp[D.syncD,hdn,hb];rfl⟩,?_⟩;exact Dk.shut (d:=d.synced) (r1:=r1) (r2:=r2) (r3:=r3) (hs.re [2,0,3,1] rfl)
end Go.Proofs.YtgfildcgihbdaaaGreatDoor.Dsk
namespace Go.Proofs.YtgfildcgihbdaaaGreatDoor.Dsk
open Go Go.Hw Go.Form W
theorem cZi.rdA {s:Nat}{H:Hp}{A:OA}{rows:List (List Value)}(h:cZi s H A rows){i:Nat}{r:List Value}(hi:rows[i]? =some r)(hr:r.length=s){x:Int}(hx:x=i){n:Nat}(hn:rows.length≤n){K:List Value→Prop}(k:K r):
  ixI x n (NN A fun a=>LdA H (a.add (x.toNat*s)) s K):=by
 obtain⟨a,rfl,hc⟩:=h i r hi;subst hx;have:=(List.getElem?_eq_some_iff.1 hi).1;refine⟨by omega,by omega,?_⟩;rw[Int.toNat_natCast];have hcells:Cells H (some (a.add (i*s))) r:=fun j v hj=>⟨_,rfl,by rw[add_add];exact hc j v hj⟩
 have:=hcells.cells?;rw[hr]at this;show LdA H (a.add (i*s)) s K
 unfold LdA;rw[this];exact k
structure Act where
 k:Int
 i:Int
 A:OA
 n:Nat
 m:Nat
 b:List UInt8
 A':OA
 n':Nat
 m':Nat
 ks:List Bool
def laidB (bs:List UInt8):List UInt8:=bs.take 32++List.replicate (32-bs.length) 0
theorem rZK (bs:List UInt8):(laidB bs).length=32:=by
 unfold laidB;rw[List.length_append,List.length_take,List.length_replicate];omega
end Go.Proofs.YtgfildcgihbdaaaGreatDoor.Dsk
namespace Go.Proofs.YtgfildcgihbdaaaGreatDoor.Dsk
open Go Go.Hw Go.Form W
structure Calm (d:D):Prop where
 down:d.down=false
 fuse:d.fuse=0
structure Next (d d':D):Prop where
 ok:Ok d'
 dom:Dom d'
 sec:d'.sec=d.sec
 size:d'.size=d.size
 rd:d'.rd≤d.rd+1
 wr:d'.wr≤d.wr+1
 sy:d'.sy≤d.sy+1
section
variable {d : D} (h : Ok d) (hd : Dom d)
include h hd
theorem Next.refl :Next d d:=⟨h,hd,rfl,rfl,by omega,by omega,by omega⟩
theorem Next.burnt :Next d d.burnt:=by
 have hb:=bZ8 d;refine⟨Ok.burnt h,fun k hk=>?_,hb.2.2.2.2.1,hb.2.2.2.1,by rw[hb.1];omega,by rw[hb.2.1];omega,by rw[hb.2.2.1];omega⟩;rw[hb.2.2.2.2.2.2.1]at hk;rw[hb.2.2.2.2.1];exact hd k hk
theorem Next.read :Next d { d.burnt with rd:=d.rd+1}:=by
 have hb:=Next.burnt h hd;exact⟨⟨hb.ok.sec,hb.ok.size,hb.ok.big,hb.ok.per,hb.ok.safe,hb.ok.cache,hb.ok.fz⟩,hb.dom,hb.sec,hb.size,Nat.le_refl _,hb.wr,hb.sy⟩
theorem Next.write (i:Int)(bs:List UInt8):Next d (d.writeD i bs):=by
 have hb:=bZ8 d;have h1:=Ok.writeD h i bs;have h2:=Dom.writeD hd i bs;have hn:=Next.burnt h hd;unfold D.writeD at h1 h2⊢;split
 ·exact Next.refl h hd
 ·rename_i c1
  rw[if_neg c1]at h1 h2;split
  ·exact Next.refl h hd
  ·rename_i c2
   rw[if_neg c2]at h1 h2;split
   ·exact hn
   ·rename_i c3
    rw[if_neg c3]at h1 h2;exact⟨h1,h2,hn.sec,hn.size,hn.rd,Nat.le_refl _,hn.sy⟩
theorem Next.sync :Next d d.syncD:=by
 have hn:=Next.burnt h hd;have hb:=bZ8 d;unfold D.syncD;split
 ·exact Next.refl h hd
 ·split
  ·exact hn
  ·refine⟨⟨hn.ok.sec,hn.ok.size,hn.ok.big,hn.ok.per,fun k b hk=>?_,fun k b hk=>(by cases hk),hn.ok.fz⟩,fun k hk=>(by cases hk),hn.sec,hn.size,hn.rd,hn.wr,Nat.le_refl _⟩;have hk':eZj d.safe d.cache k=some b:=hk;show b.length=d.burnt.size
   rw[hb.2.2.2.1];unfold eZj at hk';split at hk'
   ·rename_i b' hc;cases hk';exact h.cache k b hc
   ·exact h.safe k b hk'
end
def Eff (d d':D)(a:Act)(e:Int):Prop:=Calm d→a.k≤2→Calm d'∧d'.safe=d.safe∧
 ((0≤a.k∧a.k≤1∧e=0)→(0≤a.i∧a.i<d.sec)∧d'.cache=cZT d.cache a.i (laidB a.b))∧(¬ (0≤a.k∧a.k≤1∧e=0)→d'.cache=d.cache)
theorem Calm.burns {d:D}(h:Calm d):d.burns=false:=by unfold D.burns;rw[h.fuse];rfl
theorem Calm.burnt {d:D}(h:Calm d):d.burnt=d:=by unfold D.burnt;rw[if_pos h.fuse]
theorem Eff.same {d:D}{a:Act}{e:Int}(h:¬(0≤a.k∧a.k≤1∧e=0)):Eff d d a e:=fun hc _=>⟨hc,rfl,fun h'=>absurd h' h,fun _=>rfl⟩
theorem Eff.write {d:D}{a:Act}(hz:d.size=32)(hk:0≤a.k∧a.k≤1):Eff d (d.writeD a.i (laidB a.b)) a (d.writeE a.i 32):=fun hc _=>by
 have hl:=rZK a.b;by_cases h0:d.chk a.i=0
 ·have e1:d.writeE a.i 32=0:=by
   unfold D.writeE;rw[if_neg (by rw[h0];simp),if_neg (by omega),hc.burns];rfl
  have e2:d.writeD a.i (laidB a.b)=d.wrote a.i (laidB a.b):=by
   unfold D.writeD;rw[if_neg (by rw[h0];simp),if_neg (by omega),hc.burns];rfl
  rw[e1,e2];have hb:=hc.burnt;have hr:=rZk h0;unfold D.wrote;rw[hb];exact⟨⟨hc.down,hc.fuse⟩,rfl,fun _=>⟨⟨hr.1,hr.2.1⟩,rfl⟩,fun h=>absurd ⟨hk.1,hk.2,rfl⟩ h⟩
 ·have e1:d.writeE a.i 32=d.chk a.i:=by unfold D.writeE;rw[if_pos h0]
  have e2:d.writeD a.i (laidB a.b)=d:=by unfold D.writeD;rw[if_pos h0]
  rw[e1,e2];exact⟨hc,rfl,fun h=>absurd h.2.2 h0,fun _=>rfl⟩
theorem Eff.read {d:D}{a:Act}{e:Int}(hk:a.k=2):Eff d { d.burnt with rd:=d.rd+1} a e:=fun hc _=>by
 rw[hc.burnt];exact⟨⟨hc.down,hc.fuse⟩,rfl,fun h=>by omega,fun _=>rfl⟩
end Go.Proofs.YtgfildcgihbdaaaGreatDoor.Dsk
namespace Go.Proofs.YtgfildcgihbdaaaGreatDoor.Eng
open Go Go.Hw Go.Form Dsk Str
abbrev Cn :=Int→List UInt8
structure Clean (d:D)(c:Cn):Prop where
 ok:Ok d
 down:d.down=false
 cache:∀ i,d.cache i=none
 sat:∀ i,d.sat i=c i
theorem Clean.now {d:D}{c:Cn}(h:Clean d c)(i:Int):d.now i=c i:=by
 unfold D.now;rw[h.cache];exact h.sat i
theorem Clean.dom {d:D}{c:Cn}(h:Clean d c):Dom d:=fun k hk=>by rw[h.cache]at hk;cases hk
structure bZB (d d':D)(r w s:Nat):Prop where
 fuse:d'.fuse=d.fuse-(r+w+s)
 go:d.fuse=0∨r+w+s<d.fuse
 sec:d'.sec=d.sec
 size:d'.size=d.size
 rd:d'.rd=d.rd+r
 wr:d'.wr=d.wr+w
 sy:d'.sy=d.sy+s
structure Cut (d d':D)(n:Nat):Prop where
 ok:Ok d'
 dom:Dom d'
 down:d'.down=true
 fuse:d'.fuse=0
 sec:d'.sec=d.sec
 size:d'.size=d.size
 cnt:d'.rd+d'.wr+d'.sy+1=d.rd+d.wr+d.sy+d.fuse
 rd:d.rd≤d'.rd
 wr:d.wr≤d'.wr
 sy:d.sy≤d'.sy
 le:d.fuse≤n
 pos:1≤d.fuse
def Left (d:D)(P:Cn→Prop):Prop:=∀ c':Cn,(∀ i,c' i=d.sat i∨c' i=d.now i)→P c'
theorem Left.mono {d:D}{P Q:Cn→Prop}(h:Left d P)(k:∀ c,P c→Q c):Left d Q:=fun c' hc=>k _ (h c' hc)
theorem bZB.trans {d d1 d2:D}{r w s r' w' s':Nat}(h:bZB d d1 r w s)(k:bZB d1 d2 r' w' s'):bZB d d2 (r+r') (w+w') (s+s'):=by
 have h1:=h.fuse;have h2:=k.fuse;have h3:=h.go;have h4:=k.go;have h5:=h.rd;have h6:=k.rd;have h7:=h.wr;have h8:=k.wr;have h9:=h.sy;have h10:=k.sy;exact⟨by omega,by omega,k.sec.trans h.sec,k.size.trans h.size,by omega,by omega,by omega⟩
theorem bZB.cut {d d1 d2:D}{r w s n:Nat}(h:bZB d d1 r w s)(k:Cut d1 d2 n):Cut d d2 (r+w+s+n):=by
 have h1:=h.fuse;have h3:=h.go;have h4:=k.pos;have h5:=h.rd;have h6:=k.rd;have h7:=h.wr;have h8:=k.wr;have h9:=h.sy;have h10:=k.sy;have h11:=k.cnt;have h12:=k.le;exact⟨k.ok,k.dom,k.down,k.fuse,k.sec.trans h.sec,k.size.trans h.size,by omega,by omega,by omega,by omega,by omega,by omega⟩
theorem Cut.more {d d':D}{n m:Nat}(h:Cut d d' n)(k:n≤m):Cut d d' m:={ h with le:=Nat.le_trans h.le k}
theorem bZB.per {d d':D}{r w s:Nat}(h:bZB d d' r w s):D.per d'=D.per d:=by unfold D.per;rw[h.size]
theorem bZB.calm {d d':D}{r w s:Nat}(h:bZB d d' r w s)(hf:d.fuse=0):d'.fuse=0:=by rw[h.fuse];omega
theorem Cut.calm {d d':D}{n:Nat}(h:Cut d d' n)(hf:d.fuse=0):False:=by have:=h.pos;omega
def Sam (S:Int→Prop)(c c':Cn):Prop:=∀ i,¬S i→c' i=c i
theorem Clean.rdG {d:D}{c:Cn}(h:Clean d c)(t:Nat):Clean (D.rdG d t) c:=⟨Ok.rdG h.ok t,h.down,h.cache,h.sat⟩
theorem bZB.rdG {d:D}{t:Nat}(hf:d.fuse=0∨t<d.fuse):bZB d (D.rdG d t) t 0 0:=⟨by show d.fuse-t=_;omega,by omega,rfl,rfl,rfl,rfl,rfl⟩
theorem Cut.rdG {d:D}{c:Cn}(h:Clean d c){j n:Nat}(hf:d.fuse=j+1)(hn:j<n):Cut d (D.dead (D.rdG d j)) n:=by
 refine⟨Ok.dead (Ok.rdG h.ok j),h.dom,rfl,rfl,rfl,rfl,?_,?_,Nat.le_refl _,Nat.le_refl _,by omega,by omega⟩
 ·show d.rd+j+d.wr+d.sy+1=_;omega
 ·show d.rd≤d.rd+j;omega
theorem Left.rdG {d:D}{c:Cn}(h:Clean d c)(j:Nat):Left (D.dead (D.rdG d j)) fun c'=>c'=c:=fun c' hc=>funext fun i=>by
 rcases hc i with e|e
 ·exact e.trans (h.sat i)
 ·exact e.trans (h.now i)
section
variable {S : Int → Prop} {d d1 : D} {c : Cn} {r w : Nat}
theorem Clean.prog (h:Clean d c)(p:Prog S d d1 r w)(i:Int):d1.sat i=c i∧(¬S i→d1.now i=c i):=by
 have e1:d1.sat i=c i:=by rw[← h.sat];unfold D.sat;rw[p.safe,p.size]
 refine⟨e1,fun hi=>?_⟩;unfold D.now;rw[p.cache i hi,h.cache];exact e1
theorem Clean.dead (h:Clean d c)(p:cZu S d d1)(i:Int):d1.sat i=c i∧(¬S i→d1.now i=c i):=by
 have e1:d1.sat i=c i:=by rw[← h.sat];unfold D.sat;rw[p.safe,p.size]
 refine⟨e1,fun hi=>?_⟩;unfold D.now;rw[p.cache i hi,h.cache];exact e1
theorem Clean.progDom (h:Clean d c)(p:Prog S d d1 r w)(hS:∀ i,S i→0≤i∧i<d.sec):Dom d1:=fun k hk=>by
 by_cases hs:S k
 ·have:=hS k hs;rw[p.sec];exact this
 ·rw[p.cache k hs,h.cache]at hk;cases hk
theorem Clean.deadCut (h:Clean d c)(p:cZu S d d1)(hS:∀ i,S i→0≤i∧i<d.sec){n:Nat}(hn:d.fuse≤n)(hf:1≤d.fuse):Cut d d1 n:=by
 have h1:=p.cnt;have h2:=p.sy;refine⟨p.ok,fun k hk=>?_,p.down,p.fuse,p.sec,p.size,by omega,p.rd,p.wr,by omega,hn,hf⟩;by_cases hs:S k
 ·have:=hS k hs;rw[p.sec];exact this
 ·rw[p.cache k hs,h.cache]at hk;cases hk
theorem Clean.deadLeft (h:Clean d c)(p:cZu S d d1):Left d1 fun c'=>Sam S c c':=fun c' hc i hi=>by
 obtain⟨h1,h2⟩:=h.dead p i;rcases hc i with e|e
 ·exact e.trans h1
 ·exact e.trans (h2 hi)
theorem Clean.sync (h:Clean d c)(p:Prog S d d1 r w)(hS:∀ i,S i→0≤i∧i<d.sec):
  (d1.syncE=0∧bZB d d1.syncD r w 1∧Clean d1.syncD d1.now)∨(d1.syncE=8∧Cut d d1.syncD (r+w+1)∧Left d1.syncD fun c'=>(∀ i,c' i=c i∨c' i=d1.now i)∧Sam S c c'):=by
 have hdom:=h.progDom p hS;have hn:=Next.sync p.ok hdom;have hb:=bZ8 d1;have p1:=p.fuse;have p2:=p.go;have p3:=p.rd;have p4:=p.wr;have p5:=p.sy;have hdn:¬d1.down=true:=by rw[p.down];simp
 by_cases hf:d1.fuse=1
 ·right;have eE:d1.syncE=8:=by unfold D.syncE D.burns;rw[if_neg hdn,if_pos (by simp[hf])]
  have eD:d1.syncD=D.dead d1:=by
   unfold D.syncD D.burns;rw[if_neg hdn,if_pos (by simp[hf]),eZB hf]
  rw[eE,eD];refine⟨rfl,⟨Ok.dead p.ok,hdom,rfl,rfl,p.sec,p.size,?_,?_,?_,?_,by omega,by omega⟩,fun c' hc=>⟨fun i=>?_,fun i hi=>?_⟩⟩
  ·show d1.rd+d1.wr+d1.sy+1=_;omega
  ·show d.rd≤d1.rd;omega
  ·show d.wr≤d1.wr;omega
  ·show d.sy≤d1.sy;omega
  ·rcases hc i with e|e
   ·exact .inl (e.trans (h.prog p i).1)
   ·exact .inr e
  ·rcases hc i with e|e
   ·exact e.trans (h.prog p i).1
   ·exact e.trans ((h.prog p i).2 hi)
 ·left;have hbn:d1.burns=false:=by unfold D.burns;exact decide_eq_false hf
  have hbt:=dZ9 p.down hf;have eE:d1.syncE=0:=by unfold D.syncE;rw[hbn,p.down];rfl
  have eD:d1.syncD=d1.synced:=by unfold D.syncD;rw[hbn,p.down];rfl
  rw[eD]at hn⊢;refine⟨eE,⟨?_,by omega,(hn.sec).trans p.sec,(hn.size).trans p.size,?_,?_,?_⟩,⟨hn.ok,?_,fun i=>rfl,fun i=>?_⟩⟩
  ·show d1.burnt.fuse=_;rw[hbt];show d1.fuse-1=_;omega
  ·show d1.burnt.rd=_;rw[hb.1];omega
  ·show d1.burnt.wr=_;rw[hb.2.1];omega
  ·show d1.sy+1=_;omega
  ·show d1.burnt.down=false;rw[hbt];exact p.down
  ·show(eZj d1.safe d1.cache i).getD (List.replicate d1.burnt.size 0)=_
   rw[hb.2.2.2.1];unfold D.now D.sat eZj;cases d1.cache i<;>rfl
end
theorem Left.boot {d:D}{P:Cn→Prop}(h:Left d P)(hok:Ok d){ks:List Int}(hk:KeysOf (bZ4 d.cache) ks)(keep:List Bool):∃ c',P c'∧Clean (D.boot d ks keep) c':=by
 refine⟨(D.boot d ks keep).sat,h _ fun i=>?_,⟨Ok.boot hok hk keep,rfl,fun _=>rfl,fun _=>rfl⟩⟩;have hmem:∀ k∈ks,(d.cache k).isSome=true:=fun k hk'=>by
  have:=(hk.mem k).1 hk';rw[mZX]at this;exact this
 show(hZe d.cache d.safe ks keep i).getD (List.replicate d.size 0)=_∨_
 rcases kZs ks keep d.safe hmem i with e|⟨e1,e2⟩
 ·left;rw[e];rfl
 ·right;show(hZe d.cache d.safe ks keep i).getD (List.replicate d.size 0)=_
  rw[e2];unfold D.now;cases hc:d.cache i with
  |none=>rw[hc]at e1;cases e1
  |some b=>rfl
theorem Clean.crash {d:D}{c:Cn}(h:Clean d c):Left { d with down:=true,fuse:=0} fun c'=>c'=c:=fun c' hc=>funext fun i=>by
 rcases hc i with e|e
 ·exact e.trans (h.sat i)
 ·exact e.trans (h.now i)
theorem Clean.fresh {sec size:Nat}(h1:1≤sec∧sec≤1048576)(h2:0<Lay.Zs size)(h3:sec*size≤67108864):Clean (D.fresh sec size) fun _=>List.replicate size 0:=
 ⟨Ok.fresh h1 h2 h3,rfl,fun _=>rfl,fun _=>rfl⟩
end Go.Proofs.YtgfildcgihbdaaaGreatDoor.Eng
namespace Go.Hw
open Go
theorem sZJ {P:Program}{e:TypeId}{s x:Value}{H:Hp}{K:VK}(h:cZP P e s x H fun v H'=>(∀ A n m,v= .slice A n m→n≤m)→K v H'):cZP P e s x H K:=by
 unfold cZP at h⊢;split at h
 ·split at h
  ·obtain⟨n,ys,h1,h2,h3,h4,h5,h6,h7,h8,h9⟩:=h;refine⟨n,ys,h1,h2,h3,h4,h5,h6,h7,h8,h9.imp ?_ ?_⟩
   ·rintro⟨e1,e2,e3,k0,k⟩;refine⟨e1,e2,e3,fun h0=>k0 h0 (fun A n m e=>by cases e;exact Nat.le_refl _),fun hp c hc b hb=>k hp c hc b hb (fun A n m e=>by cases e;exact hc)⟩
   ·rintro⟨b0,xs,m,e1,e2,e3,e4,k⟩;exact⟨b0,xs,m,e1,e2,e3,e4,fun c m' hc hl b hb=>k c m' hc hl b hb (fun A n m e=>by cases e;exact hl)⟩
  ·exact h
 ·exact h
theorem qZ4 {P:Program}{e:TypeId}{s:Value}{x:Nat→Value}{H:Hp}{o:AO}{K:VK}(h:Nw H o fun b H'=>cZP P e s (x b) H' fun v H'=>(∀ A n m,v= .slice A n m→n≤m)→K v H'):Nw H o fun b H'=>cZP P e s (x b) H' K:=fun b hb=>sZJ (h b hb)
theorem vZa {L:List As}{H:Hp}(hs:Sep L H)(i:Nat){b n m:Nat}{xs:List Value}{e:TypeId}{s:Nat}(hi:L[i]? =some (pts b (.row xs e m)))(hx:xs.length=n*s)(hm:m=n*s):Sep (L.set i (Own e s (some ⟨b,0,none⟩) n n xs)) H:=
 hs.turn i hi fun H1 hH=>⟨hx,.inr ⟨b,m,rfl,hH,by omega⟩⟩
end Go.Hw
namespace Go.Proofs.YtgfildcgihbdaaaGreatDoor.W
open Go Go.Hw
theorem bZw :Tryz.prog.follows .mixedOrders=true:=by kernel_rfl
def dZU (y1:Array Value)(x1:Int)(H:Hp)(K:VK):Prop:=
 Nw H (.obj (.cells y1 102)) fun b1 H1=>LdA H1 ⟨b1,0,none⟩ 8 fun l1=>HcB 151 #[.agg l1.toArray] H1 fun c1 H2=>BIf (!c1) (K (.tuple #[.slice none 0 0,.int .i64 1]) H2) (HcB 152 #[.int .i64 x1] H2 fun c2 H3=>BIf (!c2) (K (.tuple #[.slice none 0 0,.int .i64 1]) H3) (LdA H3 ⟨b1,0,none⟩ 8 fun l2=>HcS 153 #[.agg l2.toArray] H3 fun A1 n1 m1 H4=>MkS Tryz.prog 5 x1 x1 H4 fun v4 H5=>DSl v4 fun A2 n2 m2=>HcW 154 #[.slice A1 n1 m1] H5 fun x2 H6=>Nw H6 (.row [.int .u64 x2] 82 1) fun b2 H7=>cZP Tryz.prog 82 (.slice A1 n1 m1) (.slice (some ⟨b2,0,none⟩) 1 1) H7 fun v6 H8=>DSl v6 fun A3 n3 m3=>HcS 103 #[.slice A3 n3 m3] H8 fun A4 n4 m4 H9=>CpK Tryz.prog 5 (.slice A2 n2 m2) (.slice A4 n4 m4) H9 fun v8 H10=>DI .i64 v8 fun x3=>K (.tuple #[.slice A2 n2 m2,.int .i64 0]) H10))
theorem dZU.ok y1 x1 H K (h:dZU y1 x1 H K):Za Tryz.prog 109 #[.agg y1,.int .i64 x1] H K:=
 okN bZw Tryz.func109 rfl rfl h
def eZK (y1 y2:Array Value)(H:Hp)(K:VK):Prop:=
 Nw H (.obj (.cells y1 102)) fun b1 H1=>Nw H1 (.obj (.cells y2 102)) fun b2 H2=>LdA H2 ⟨b1,0,none⟩ 8 fun l1=>HcB 151 #[.agg l1.toArray] H2 fun c1 H3=>BIf (!c1) (K (.bool false) H3) (LdA H3 ⟨b2,0,none⟩ 8 fun l2=>HcB 151 #[.agg l2.toArray] H3 fun c2 H4=>BIf (!c2) (K (.bool false) H4) (LeW H4 ((⟨b2,0,none⟩:Addr).add 0) fun x1=>LeW H4 ((⟨b1,0,none⟩:Addr).add 0) fun x2=>BIf (x1 !=(u64.wrap (x2+1))) (K (.bool false) H4) (LeI H4 ((⟨b2,0,none⟩:Addr).add 1) fun x3=>BIf (x3==1) (K (.bool true) H4) (BIf (x3==2) (LeI H4 ((⟨b1,0,none⟩:Addr).add 1) fun x4=>BIf (x4==1) (LeU H4 ((⟨b1,0,none⟩:Addr).add 5) fun x5=>LeU H4 ((⟨b2,0,none⟩:Addr).add 5) fun x6=>BIf (x5==x6) (LeI H4 ((⟨b1,0,none⟩:Addr).add 2) fun x7=>LeI H4 ((⟨b2,0,none⟩:Addr).add 2) fun x8=>K (.bool (x7==x8)) H4) (K (.bool false) H4)) (K (.bool false) H4)) (BIf (x3==3) (LeI H4 ((⟨b1,0,none⟩:Addr).add 1) fun x9=>BIf (x9 !=1) (LdA H4 ⟨b1,0,none⟩ 8 fun l3=>LdA H4 ⟨b2,0,none⟩ 8 fun l4=>HcB 155 #[.agg l3.toArray,.agg l4.toArray] H4 fun c3 H5=>BIf c3 (LeU H5 ((⟨b2,0,none⟩:Addr).add 7) fun x10=>K (.bool (x10==0)) H5) (K (.bool false) H5)) (K (.bool false) H4)) (LeI H4 ((⟨b1,0,none⟩:Addr).add 1) fun x11=>BIf (decide (x11≥3)) (LdA H4 ⟨b1,0,none⟩ 8 fun l5=>LdA H4 ⟨b2,0,none⟩ 8 fun l6=>HcB 155 #[.agg l5.toArray,.agg l6.toArray] H4 fun c4 H6=>BIf c4 (LeI H6 ((⟨b1,0,none⟩:Addr).add 3) fun x12=>LeI H6 ((⟨b2,0,none⟩:Addr).add 3) fun x13=>BIf (x12==x13) (LeI H6 ((⟨b2,0,none⟩:Addr).add 4) fun x14=>LeI H6 ((⟨b1,0,none⟩:Addr).add 4) fun x15=>K (.bool (x14==(i64.wrap (x15+1)))) H6) (K (.bool false) H6)) (K (.bool false) H6)) (K (.bool false) H4)))))))
theorem eZK.ok y1 y2 H K (h:eZK y1 y2 H K):Za Tryz.prog 110 #[.agg y1,.agg y2] H K:=
 okN bZw Tryz.func110 rfl rfl h
def cZr.q1 (H7:Hp)(b1:Nat)(K:VK):Prop:=
 StA H7 ⟨b1,0,none⟩ #[.int .u64 0,.int .i64 0,.int .i64 0,.int .i64 0,.int .i64 0,.int .u32 0,.int .u32 0,.int .u32 0] 8 fun H8=>LdA H8 ⟨b1,0,none⟩ 8 fun l7=>K (.tuple #[.agg l7.toArray,.int .i64 10]) H8
def cZr (A1:OA)(n1 m1:Nat)(H:Hp)(K:VK):Prop:=
 Nw H (.obj (.cells #[.int .u64 0,.int .i64 0,.int .i64 0,.int .i64 0,.int .i64 0,.int .u32 0,.int .u32 0,.int .u32 0] 102)) fun b1 H1=>HcB 152 #[.int .i64 (n1:Int)] H1 fun c1 H2=>BIf (!c1) (StA H2 ⟨b1,0,none⟩ #[.int .u64 0,.int .i64 0,.int .i64 0,.int .i64 0,.int .i64 0,.int .u32 0,.int .u32 0,.int .u32 0] 8 fun H3=>LdA H3 ⟨b1,0,none⟩ 8 fun l6=>K (.tuple #[.agg l6.toArray,.int .i64 15]) H3) (Hz 177 #[.slice A1 n1 m1] H2 fun v2 H4=>sZ1 v2 fun A2 n2 m2 c2=>(HcA 178 #[.slice A2 n2 m2] H4 fun y1 H5=>Nw H5 (.obj (.cells #[.int .u64 0,.int .i64 0,.int .i64 0,.int .i64 0,.int .i64 0,.int .u32 0,.int .u32 0,.int .u32 0] 102)) fun b2 H6=>StA H6 ⟨b2,0,none⟩ y1 8 fun H7=>ixI 0 n2 (NN A2 fun a1=>LeW H7 (a1.add ((0:Int).toNat*1)) fun x1=>(0≤(48:Int)∧BIf ((aZn .u64 x1 48) !=21061) (cZr.q1 H7 b1 K) (BIf (!c2) (cZr.q1 H7 b1 K) (ixI 3 n2 (NN A2 fun a2=>LeW H7 (a2.add ((3:Int).toNat*1)) fun x2=>slB n2 m2 none (some 3) fun n3 n4=>QcW 154 #[.slice (slA A2 m2 n3 1) (n4-n3) (m2-n3)] H7 fun x3=>BIf (x2 !=x3) (StA H7 ⟨b1,0,none⟩ #[.int .u64 0,.int .i64 0,.int .i64 0,.int .i64 0,.int .i64 0,.int .u32 0,.int .u32 0,.int .u32 0] 8 fun H10=>LdA H10 ⟨b1,0,none⟩ 8 fun l9=>K (.tuple #[.agg l9.toArray,.int .i64 9]) H10) (LdA H7 ⟨b2,0,none⟩ 8 fun l4=>HcB 151 #[.agg l4.toArray] H7 fun c3 H11=>BIf (!c3) (StA H11 ⟨b1,0,none⟩ #[.int .u64 0,.int .i64 0,.int .i64 0,.int .i64 0,.int .i64 0,.int .u32 0,.int .u32 0,.int .u32 0] 8 fun H12=>LdA H12 ⟨b1,0,none⟩ 8 fun l10=>K (.tuple #[.agg l10.toArray,.int .i64 1]) H12) (LdA H11 ⟨b2,0,none⟩ 8 fun l5=>StA H11 ⟨b1,0,none⟩ l5.toArray 8 fun H13=>LdA H13 ⟨b1,0,none⟩ 8 fun l11=>K (.tuple #[.agg l11.toArray,.int .i64 0]) H13)))))))))
theorem cZr.ok A1 n1 m1 H K (h:cZr A1 n1 m1 H K):Za Tryz.prog 138 #[.slice A1 n1 m1] H K:=
 okN bZw Tryz.func138 rfl rfl h
def bZm.j10 (K:VK)(a1:Addr)(H:Hp):=
 LeI H (a1.add 4) fun x8=>BIf (x8==0) (LeI H (a1.add 3) fun x9=>BIf (x9==0) (LeU H (a1.add 7) fun x10=>K (.bool (x10==0)) H) (K (.bool false) H)) (K (.bool false) H)
def bZm (y1:Array Value)(H:Hp)(K:VK):Prop:=
 Nw H (.obj (.cells y1 102)) fun b1 H1=>LeW H1 ((⟨b1,0,none⟩:Addr).add 0) fun x1=>BIf (decide (x1<1)) (K (.bool false) H1) (LeW H1 ((⟨b1,0,none⟩:Addr).add 0) fun x2=>BIf (decide (x2≥281474976710656)) (K (.bool false) H1) (LeI H1 ((⟨b1,0,none⟩:Addr).add 2) fun x3=>BIf (decide (x3<0)) (K (.bool false) H1) (LeI H1 ((⟨b1,0,none⟩:Addr).add 2) fun x4=>BIf (decide (x4>32)) (K (.bool false) H1) (LeI H1 ((⟨b1,0,none⟩:Addr).add 3) fun x5=>HcB 186 #[.int .i64 x5] H1 fun c1 H2=>BIf (!c1) (K (.bool false) H2) (LeI H2 ((⟨b1,0,none⟩:Addr).add 1) fun x6=>BIf (x6==1) (LeU H2 ((⟨b1,0,none⟩:Addr).add 6) fun x7=>BIf (x7 !=0) (K (.bool false) H2) (bZm.j10 K ⟨b1,0,none⟩ H2)) (BIf (x6==2) (bZm.j10 K ⟨b1,0,none⟩ H2) (BIf (x6==3) (LeI H2 ((⟨b1,0,none⟩:Addr).add 4) fun x11=>K (.bool (x11==0)) H2) (BIf (x6==4) (LeI H2 ((⟨b1,0,none⟩:Addr).add 4) fun x12=>BIf (decide (x12≥1)) (LeI H2 ((⟨b1,0,none⟩:Addr).add 4) fun x13=>K (.bool (decide (x13≤(7:Int)))) H2) (K (.bool false) H2)) (K (.bool false) H2)))))))))
def bZm.Λ (K:VK):Zu:=⟨fun i=>match Nat.beq i 10 with|true=>some (fun E D H=>eN E 1 fun a1=>Zk D (bZm.j10 K a1 H))|false=>none,fun i=>none,(fun _=>none)⟩
theorem bZm.ok y1 H K (h:bZm y1 H K):Za Tryz.prog 151 #[.agg y1] H K:=
 okL (Λ:=(bZm.Λ K)) bZw Tryz.func151 rfl rfl h (oC (fun E D H h=>by
   obtain⟨a1,e1,g3⟩:=GN h;obtain⟨rfl,h'⟩:=Zk.out g3;exact okJ (Λ:=(bZm.Λ K)) bZw [] (Zb.cons e1 (Zb.nil _)) h' oN) oN)
def cZN (x1:Int)(H:Hp)(K:VK):Prop:=
 Hz 97 #[.int .i64 0,.int .i64 x1] H fun v1 H1=>kZq v1 fun x2 x3=>(K (.bool (x3==0)) H1)
theorem cZN.ok x1 H K (h:cZN x1 H K):Za Tryz.prog 152 #[.int .i64 x1] H K:=
 okN bZw Tryz.func152 rfl rfl h
def aZq.q1 (b4:Nat)(H4:Hp)(x9 x10:Int)(K:VK):Prop:=
 QcW 187 #[.slice (some ⟨b4,0,none⟩) 2 2] H4 fun x11=>Nw H4 (.row [.int .u64 x9,.int .u64 x10,.int .u64 x11] 82 3) fun b5 H5=>K (.slice (some ⟨b5,0,none⟩) 3 3) H5
def aZq.q2 (H6:Hp)(x2 x3 x4 x5 x6:Int)(b6:Nat)(x9:Int)(K:VK):Prop:=
 Nw H6 (.row [.int .u64 (u64.wrap x2),.int .u64 32,.int .u64 (u64.wrap x3),.int .u64 24,.int .u64 (u64.wrap x4),.int .u64 16,.int .u64 (u64.wrap x5),.int .u64 8,.int .u64 (u64.wrap x6),.int .u64 0] 280 10) fun b7 H7=>QcW 187 #[.slice (some ⟨b7,0,none⟩) 5 5] H7 fun x12=>aZq.q1 b6 H7 x9 x12 K
def aZq.q3 (H13:Hp)(x1:Int)(b9 b13:Nat)(K:VK):Prop:=
 Nw H13 (.row [.int .u64 21061,.int .u64 48,.int .u64 x1,.int .u64 0] 280 4) fun b14 H14=>QcW 187 #[.slice (some ⟨b14,0,none⟩) 2 2] H14 fun x17=>QcW 187 #[.slice (some ⟨b9,0,none⟩) 5 5] H14 fun x18=>aZq.q1 b13 H14 x17 x18 K
def aZq.q4 (b3:Nat)(H3:Hp)(x7 x8 x9:Int)(K:VK):Prop:=
 QcW 187 #[.slice (some ⟨b3,0,none⟩) 5 5] H3 fun x10=>Nw H3 (.row [.int .u64 (u64.wrap x7),.int .u64 32,.int .u64 (u64.wrap x8),.int .u64 0] 280 4) fun b4 H4=>aZq.q1 b4 H4 x9 x10 K
def aZq (y1:Array Value)(H:Hp)(K:VK):Prop:=
 Nw H (.obj (.cells y1 102)) fun b1 H1=>LeW H1 ((⟨b1,0,none⟩:Addr).add 0) fun x1=>LeU H1 ((⟨b1,0,none⟩:Addr).add 5) fun x2=>LeI H1 ((⟨b1,0,none⟩:Addr).add 4) fun x3=>LeI H1 ((⟨b1,0,none⟩:Addr).add 2) fun x4=>LeI H1 ((⟨b1,0,none⟩:Addr).add 3) fun x5=>LeI H1 ((⟨b1,0,none⟩:Addr).add 1) fun x6=>LeU H1 ((⟨b1,0,none⟩:Addr).add 6) fun x7=>LeU H1 ((⟨b1,0,none⟩:Addr).add 7) fun x8=>(Nw H1 (.row [.int .u64 21061,.int .u64 48,.int .u64 x1,.int .u64 0] 280 4) fun b2 H2=>QcW 187 #[.slice (some ⟨b2,0,none⟩) 2 2] H2 fun x9=>(Nw H2 (.row [.int .u64 (u64.wrap x2),.int .u64 32,.int .u64 (u64.wrap x3),.int .u64 24,.int .u64 (u64.wrap x4),.int .u64 16,.int .u64 (u64.wrap x5),.int .u64 8,.int .u64 (u64.wrap x6),.int .u64 0] 280 10) fun b3 H3=>aZq.q4 b3 H3 x7 x8 x9 K)∧(Nw H2 (.row [.int .u64 (u64.wrap x7),.int .u64 32,.int .u64 (u64.wrap x8),.int .u64 0] 280 4) fun b6 H6=>aZq.q2 H6 x2 x3 x4 x5 x6 b6 x9 K))∧(Nw H1 (.row [.int .u64 (u64.wrap x2),.int .u64 32,.int .u64 (u64.wrap x3),.int .u64 24,.int .u64 (u64.wrap x4),.int .u64 16,.int .u64 (u64.wrap x5),.int .u64 8,.int .u64 (u64.wrap x6),.int .u64 0] 280 10) fun b9 H9=>(Nw H9 (.row [.int .u64 21061,.int .u64 48,.int .u64 x1,.int .u64 0] 280 4) fun b10 H10=>QcW 187 #[.slice (some ⟨b10,0,none⟩) 2 2] H10 fun x14=>aZq.q4 b9 H10 x7 x8 x14 K)∧(Nw H9 (.row [.int .u64 (u64.wrap x7),.int .u64 32,.int .u64 (u64.wrap x8),.int .u64 0] 280 4) fun b13 H13=>aZq.q3 H13 x1 b9 b13 K))∧(Nw H1 (.row [.int .u64 (u64.wrap x7),.int .u64 32,.int .u64 (u64.wrap x8),.int .u64 0] 280 4) fun b16 H16=>(Nw H16 (.row [.int .u64 21061,.int .u64 48,.int .u64 x1,.int .u64 0] 280 4) fun b17 H17=>QcW 187 #[.slice (some ⟨b17,0,none⟩) 2 2] H17 fun x20=>aZq.q2 H17 x2 x3 x4 x5 x6 b16 x20 K)∧(Nw H16 (.row [.int .u64 (u64.wrap x2),.int .u64 32,.int .u64 (u64.wrap x3),.int .u64 24,.int .u64 (u64.wrap x4),.int .u64 16,.int .u64 (u64.wrap x5),.int .u64 8,.int .u64 (u64.wrap x6),.int .u64 0] 280 10) fun b20 H20=>aZq.q3 H20 x1 b20 b16 K))
theorem aZq.ok y1 H K (h:aZq y1 H K):Za Tryz.prog 153 #[.agg y1] H K:=
 ok0 (fun i=>match Nat.beq i 1 with|true=>some ([2,5,7,8,11,12,15,16,19,20,23,24,27,29,30,33,34,37],[0,0,2,6,15,31,0,64,192,448,0,1024,3072,7168,0,16384,49152,114688,0,262144,786432,1835008,0,4194304,12582912,29360128,67108800,134217727,0,268435456,805306368,1879048192,0,4294967296,12884901888,30064771072,68451041280,137438953471,274877906943,549755813887],0)|false=>none) bZw Tryz.func153 rfl rfl h
def fZo (A1:OA)(n1 m1:Nat)(H:Hp)(K:VK):Prop:=
 HcU 104 #[.slice A1 n1 m1] H fun x1 H1=>Nw H1 (.row [.int .u64 (u64.wrap (eZA .u32 u32.max x1)),.int .u64 32,.int .u64 (u64.wrap x1),.int .u64 0] 280 4) fun b1 H2=>HcW 187 #[.slice (some ⟨b1,0,none⟩) 2 2] H2 fun x2 H3=>K (.int .u64 x2) H3
theorem fZo.ok A1 n1 m1 H K (h:fZo A1 n1 m1 H K):Za Tryz.prog 154 #[.slice A1 n1 m1] H K:=
 okN bZw Tryz.func154 rfl rfl h
def fZn (y1 y2:Array Value)(H:Hp)(K:VK):Prop:=
 Nw H (.obj (.cells y1 102)) fun b1 H1=>Nw H1 (.obj (.cells y2 102)) fun b2 H2=>LeU H2 ((⟨b1,0,none⟩:Addr).add 5) fun x1=>LeU H2 ((⟨b2,0,none⟩:Addr).add 5) fun x2=>BIf (x1==x2) (LeI H2 ((⟨b1,0,none⟩:Addr).add 2) fun x3=>LeI H2 ((⟨b2,0,none⟩:Addr).add 2) fun x4=>BIf (x3==x4) (LeU H2 ((⟨b1,0,none⟩:Addr).add 6) fun x5=>LeU H2 ((⟨b2,0,none⟩:Addr).add 6) fun x6=>K (.bool (x5==x6)) H2) (K (.bool false) H2)) (K (.bool false) H2)
theorem fZn.ok y1 y2 H K (h:fZn y1 y2 H K):Za Tryz.prog 155 #[.agg y1,.agg y2] H K:=
 okN bZw Tryz.func155 rfl rfl h
def aZO.l2 (K:VK):Nat→OA→Nat→Nat→OA→Nat→Nat→Int→Hp→Prop
 |0,_,_,_,_,_,_,_,_=>False
 |k+1,A2,n2,m2,A3,n3,m3,x1,H=>
  let R2:=aZO.l2 K k
  BIf (decide (x1<4)) (Hz 136 #[.slice A2 n2 m2,.int .i64 x1] H fun v1 H1=>gZV v1 fun x2 x3=>(Nw H1 (.row [.int .u64 x2] 82 1) fun b1 H2=>cZP Tryz.prog 82 (.slice A3 n3 m3) (.slice (some ⟨b1,0,none⟩) 1 1) H2 fun v4 H3=>DSl v4 fun A4 n4 m4=>R2 A2 n2 m2 A4 n4 m4 (i64.wrap (x1+1)) H3)) (slB n2 m2 (some 32) none fun n5 n6=>BsK H (slA A2 m2 n5 1) (n6-n5) fun s1=>HcT 194 #[.string s1,.string (⟨#[0]⟩)] H fun s2 H4=>K (.tuple #[.slice A3 n3 m3,.bool (s2.toList==((⟨#[]⟩):ByteArray).toList)]) H4)
def aZO (A1:OA)(n1 m1:Nat)(H:Hp)(K:VK):Prop:=
 (∃ k,aZO.l2 K k A1 n1 m1 none 0 0 0 H)
def aZO.l2.L (K:VK)(k:Nat):Mid:=fun E D H=>
 DG (E.get? 0) fun w0=>DSl w0 fun A2 n2 m2=>DG (E.get? 2) fun w2=>DSl w2 fun A3 n3 m3=>eI E 7 .i64 fun x1=>Zk D (aZO.l2 K k A2 n2 m2 A3 n3 m3 x1 H)
def aZO.Λ2 (_:VK)(_R2:OA→Nat→Nat→OA→Nat→Nat→Int→Hp→Prop):Zu:=Zu.none (fun _=>none)
def aZO.Λ (K:VK):Zu:=⟨fun i=>none,fun i=>match Nat.beq i 2 with|true=>some (fun E D H=>∃ k,aZO.l2.L K k E D H)|false=>none,(fun _=>none)⟩
theorem aZO.ok A1 n1 m1 H K (h:aZO A1 n1 m1 H K):Za Tryz.prog 177 #[.slice A1 n1 m1] H K:=
 okL (Λ:=(aZO.Λ K)) bZw Tryz.func177 rfl rfl h (oC (fun E D H h=>by
   refine Safe.loop' (aZO.l2.L K) (fun E D H h=>?_) (fun k E D H h=>?_) E D H h
   ·obtain⟨w0,e0,g1⟩:=DG.out h;obtain⟨A2,n2,m2,rfl,g2⟩:=DSl.out g1;obtain⟨w2,e2,g3⟩:=DG.out g2;obtain⟨A3,n3,m3,rfl,g4⟩:=DSl.out g3;obtain⟨w7,e7,g5⟩:=DG.out g4;obtain⟨x1,rfl,g6⟩:=DI.out g5;obtain⟨rfl,h'⟩:=Zk.out g6;exact h'
   ·obtain⟨w0,e0,g1⟩:=DG.out h;obtain⟨A2,n2,m2,rfl,g2⟩:=DSl.out g1;obtain⟨w2,e2,g3⟩:=DG.out g2;obtain⟨A3,n3,m3,rfl,g4⟩:=DSl.out g3;obtain⟨x1,e7,g6⟩:=GI g4;obtain⟨rfl,h'⟩:=Zk.out g6;exact okJ (Λ:=(aZO.Λ2 K (aZO.l2 K k))) bZw [] (Zb.cons e0 (Zb.cons e2 (Zb.cons e7 (Zb.nil _)))) h' oN) oN)
def gZC (A1:OA)(n1 m1:Nat)(H:Hp)(K:VK):Prop:=
 Nw H (.obj (.cells #[.int .u64 0,.int .i64 0,.int .i64 0,.int .i64 0,.int .i64 0,.int .u32 0,.int .u32 0,.int .u32 0] 102)) fun b1 H1=>ixI 0 n1 (NN A1 fun a1=>LeW H1 (a1.add ((0:Int).toNat*1)) fun x1=>ixI 1 n1 (NN A1 fun a2=>LeW H1 (a2.add ((1:Int).toNat*1)) fun x2=>ixI 1 n1 (NN A1 fun a3=>LeW H1 (a3.add ((1:Int).toNat*1)) fun x3=>(0≤(8:Int)∧ixI 1 n1 (NN A1 fun a4=>LeW H1 (a4.add ((1:Int).toNat*1)) fun x4=>(0≤(16:Int)∧ixI 1 n1 (NN A1 fun a5=>LeW H1 (a5.add ((1:Int).toNat*1)) fun x5=>(0≤(24:Int)∧ixI 1 n1 (NN A1 fun a6=>LeW H1 (a6.add ((1:Int).toNat*1)) fun x6=>(0≤(32:Int)∧ixI 2 n1 (NN A1 fun a7=>LeW H1 (a7.add ((2:Int).toNat*1)) fun x7=>(0≤(32:Int)∧ixI 2 n1 (NN A1 fun a8=>LeW H1 (a8.add ((2:Int).toNat*1)) fun x8=>StA H1 ⟨b1,0,none⟩ #[.int .u64 (aZo .u64 x1 281474976710655),.int .i64 (i64.wrap (aZo .u64 x2 255)),.int .i64 (i64.wrap (aZo .u64 (aZn .u64 x4 16) 255)),.int .i64 (i64.wrap (aZo .u64 (aZn .u64 x3 8) 255)),.int .i64 (i64.wrap (aZo .u64 (aZn .u64 x5 24) 255)),.int .u32 (u32.wrap (aZn .u64 x6 32)),.int .u32 (u32.wrap (aZn .u64 x7 32)),.int .u32 (u32.wrap x8)] 8 fun H2=>LdA H2 ⟨b1,0,none⟩ 8 fun l1=>K (.agg l1.toArray) H2)))))))))))))
theorem gZC.ok A1 n1 m1 H K (h:gZC A1 n1 m1 H K):Za Tryz.prog 178 #[.slice A1 n1 m1] H K:=
 ok0 (fun i=>match Nat.beq i 1 with|true=>some ([],[0,1,2,3,4,5,6,7,8,9,10,11,12,13,14,15,16,17,18,19,20,21,22,23,24,25,26,27,28,29,30,31,32,33,34,35,36,37,38,39,40,41],42)|false=>none) bZw Tryz.func178 rfl rfl h
def dZu (x1:Int)(H:Hp)(K:VK):Prop:=
 BIf (x1==0) (K (.bool true) H) (K (.bool (x1==1)) H)
theorem dZu.ok x1 H K (h:dZu x1 H K):Za Tryz.prog 186 #[.int .i64 x1] H K:=
 okN bZw Tryz.func186 rfl rfl h
def aZF.l3 (K:VK):Nat→Int→OA→Nat→Nat→Int→Int→Hp→Prop
 |0,_,_,_,_,_,_,_=>False
 |k+1,x1,A2,n2,m2,x2,x3,H=>
  let R3:=aZF.l3 K k
  BIf (decide (x3<x2)) (ixI x3 n2 (NN A2 fun a1=>LdA H (a1.add (x3.toNat*2)) 2 fun l1=>Nw H (.obj (.cells #[.int .u64 0,.int .u64 0] 280)) fun b1 H1=>StA H1 ⟨b1,0,none⟩ l1.toArray 2 fun H2=>LeW H2 ((⟨b1,0,none⟩:Addr).add 0) fun x4=>LeW H2 ((⟨b1,0,none⟩:Addr).add 1) fun x5=>(0≤x5∧R3 (bOr .u64 x1 (aZB .u64 x4 x5)) A2 n2 m2 x2 (i64.wrap (x3+1)) H2))) (K (.int .u64 x1) H)
def aZF (A1:OA)(n1 m1:Nat)(H:Hp)(K:VK):Prop:=
 (∃ k,aZF.l3 K k 0 A1 n1 m1 (n1:Int) 0 H)
def aZF.l3.L (K:VK)(k:Nat):Mid:=fun E D H=>
 eI E 3 .u64 fun x1=>DG (E.get? 6) fun w6=>DSl w6 fun A2 n2 m2=>eI E 7 .i64 fun x2=>eI E 8 .i64 fun x3=>Zk D (aZF.l3 K k x1 A2 n2 m2 x2 x3 H)
def aZF.Λ3 (_:VK)(_R3:Int→OA→Nat→Nat→Int→Int→Hp→Prop):Zu:=Zu.none (fun _=>none)
def aZF.Λ (K:VK):Zu:=⟨fun i=>none,fun i=>match Nat.beq i 3 with|true=>some (fun E D H=>∃ k,aZF.l3.L K k E D H)|false=>none,(fun _=>none)⟩
theorem aZF.ok A1 n1 m1 H K (h:aZF A1 n1 m1 H K):Za Tryz.prog 187 #[.slice A1 n1 m1] H K:=
 okL (Λ:=(aZF.Λ K)) bZw Tryz.func187 rfl rfl h (oC (fun E D H h=>by
   refine Safe.loop' (aZF.l3.L K) (fun E D H h=>?_) (fun k E D H h=>?_) E D H h
   ·obtain⟨w3,e3,g1⟩:=DG.out h;obtain⟨x1,rfl,g2⟩:=DI.out g1;obtain⟨w6,e6,g3⟩:=DG.out g2;obtain⟨A2,n2,m2,rfl,g4⟩:=DSl.out g3;obtain⟨w7,e7,g5⟩:=DG.out g4;obtain⟨x2,rfl,g6⟩:=DI.out g5;obtain⟨w8,e8,g7⟩:=DG.out g6;obtain⟨x3,rfl,g8⟩:=DI.out g7;obtain⟨rfl,h'⟩:=Zk.out g8;exact h'
   ·obtain⟨x1,e3,g2⟩:=GI h;obtain⟨w6,e6,g3⟩:=DG.out g2;obtain⟨A2,n2,m2,rfl,g4⟩:=DSl.out g3;obtain⟨x2,e7,g6⟩:=GI g4;obtain⟨x3,e8,g8⟩:=GI g6;obtain⟨rfl,h'⟩:=Zk.out g8;exact okJ (Λ:=(aZF.Λ3 K (aZF.l3 K k))) bZw [] (Zb.cons e3 (Zb.cons e6 (Zb.cons e7 (Zb.cons e8 (Zb.nil _))))) h' oN) oN)
end Go.Proofs.YtgfildcgihbdaaaGreatDoor.W
namespace Go.Proofs.YtgfildcgihbdaaaGreatDoor.Rec
open Go Go.Hw W
structure R where
 s:Nat
 kd:Int
 kk:Int
 dir:Int
 ps:Int
 ld:Nat
 inp:Nat
 out:Nat
def R.c (r:R):Array Value:=#[.int .u64 (r.s:Int),.int .i64 r.kd,.int .i64 r.kk,.int .i64 r.dir,.int .i64 r.ps,.int .u32 (r.ld:Int),.int .u32 (r.inp:Int),.int .u32 (r.out:Int)]
def bZy (r:R):AO:=.obj (.cells r.c 102)
abbrev R.good (r:R):Prop:=1≤r.s∧r.s<281474976710656∧0≤r.kk∧r.kk≤32∧(r.dir=0∨r.dir=1)∧
 ((r.kd=1∧r.inp=0∧r.ps=0∧r.dir=0∧r.out=0)∨(r.kd=2∧r.ps=0∧r.dir=0∧r.out=0)∨(r.kd=3∧r.ps=0)∨(r.kd=4∧1≤r.ps∧r.ps≤7))
theorem nZ0 (x:Int)(H:Hp):Za Tryz.prog 186 #[.int .i64 x] H (RetE (.bool (decide (x=0∨x=1))) H):=by
 apply dZu.ok;unfold dZu;by_cases h:x=0
 ·rw[decide_eq_true (.inl h)];exact ZT h (RetE.mk _ _)
 ·refine aZg h ⟨?_,rfl⟩;by_cases h1:x=1
  ·rw[decide_eq_true (.inr h1),h1];rfl
  ·rw[decide_eq_false (by omega),beq_eq_false_iff_ne.2 h1]
section
variable {r : R} {H0 H : Hp} {b1 : Nat}
theorem eZ6 (hs:Sep [own H0,pts b1 (bZy r)] H)(h:¬r.good):Ret (.bool (decide r.good)) H0 (.bool false) H:=by
 rw[decide_eq_false h];exact hs.fin 0 rfl _
theorem qZo (hs:Sep [own H0,pts b1 (bZy r)] H){b:Bool}(h:b=true↔r.good):Ret (.bool (decide r.good)) H0 (.bool b) H:=by
 have:decide r.good=b:=by
  cases b with
  |true=>exact decide_eq_true (h.1 rfl)
  |false=>exact decide_eq_false fun g=>by have:=h.2 g;cases this
 rw[this];exact hs.fin 0 rfl _
theorem nZJ (hs:Sep [own H0,pts b1 (bZy r)] H)(h:(r.ps=0∧r.dir=0∧r.out=0)↔r.good):bZm.j10 (Ret (.bool (decide r.good)) H0) ⟨b1,0,none⟩ H:=by
 unfold bZm.j10;refine hs.ldf 1 rfl rfl ?_;simp only[HV];by_cases h1:r.ps=0
 ·refine ZT h1 ?_;refine hs.ldf 1 rfl rfl ?_;simp only[HV];by_cases h2:r.dir=0
  ·refine ZT h2 ?_;refine hs.ldf 1 rfl rfl ?_;simp only[HV];refine qZo hs ?_;rw[← h,beq_iff_eq];omega
  ·exact aZg h2 (eZ6 hs fun g=>h2 (h.2 g).2.1)
 ·exact aZg h1 (eZ6 hs fun g=>h1 (h.2 g).1)
end
theorem bZR (r:R)(H:Hp):Za Tryz.prog 151 #[.agg r.c] H (RetE (.bool (decide r.good)) H):=Za.ret (by
 apply bZm.ok;unfold bZm;refine(Sep.start H).nw fun b1 H1 hs=>?_
 have hs:Sep [own H,pts b1 (bZy r)] H1:=hs;refine hs.ldf 1 rfl rfl ?_;simp only[HV];by_cases h1:(r.s:Int)<1
 ·exact Zm h1 (eZ6 hs fun g=>by have:=g.1;omega)
 refine Zh h1 ?_;refine hs.ldf 1 rfl rfl ?_;simp only[HV];by_cases h2:(r.s:Int)≥281474976710656
 ·exact Zm h2 (eZ6 hs fun g=>by have:=g.2.1;omega)
 refine Zh h2 ?_;refine hs.ldf 1 rfl rfl ?_;simp only[HV];by_cases h3:r.kk<0
 ·exact Zm h3 (eZ6 hs fun g=>by have:=g.2.2.1;omega)
 refine Zh h3 ?_;refine hs.ldf 1 rfl rfl ?_;simp only[HV];by_cases h4:r.kk>32
 ·exact Zm h4 (eZ6 hs fun g=>by have:=g.2.2.2.1;omega)
 refine Zh h4 ?_;refine hs.ldf 1 rfl rfl ?_;simp only[HV];refine Za.use (nZ0 r.dir H1) ?_;simp only[HV];by_cases h5:r.dir=0∨r.dir=1
 case neg=>
  rw[decide_eq_false h5];exact aZt rfl (eZ6 hs fun g=>h5 g.2.2.2.2.1)
 rw[decide_eq_true h5];refine aZb rfl ?_;have hd:∀{P:Prop},(P↔((r.kd=1∧r.inp=0∧r.ps=0∧r.dir=0∧r.out=0)∨(r.kd=2∧r.ps=0∧r.dir=0∧r.out=0)∨(r.kd=3∧r.ps=0)∨(r.kd=4∧1≤r.ps∧r.ps≤7)))→(P↔r.good):=fun h=>by
  rw[h];exact⟨fun g=>⟨by omega,by omega,by omega,by omega,h5,g⟩,fun g=>g.2.2.2.2.2⟩
 refine hs.ldf 1 rfl rfl ?_;simp only[HV];by_cases k1:r.kd=1
 ·refine ZT k1 ?_;refine hs.ldf 1 rfl rfl ?_;simp only[HV];by_cases h6:(r.inp:Int)=0
  ·exact Zq h6 (nZJ hs (hd (by omega)))
  ·exact ZC h6 (eZ6 hs fun g=>by have:=g.2.2.2.2.2;omega)
 refine aZg k1 ?_;by_cases k2:r.kd=2
 ·exact ZT k2 (nZJ hs (hd (by omega)))
 refine aZg k2 ?_;by_cases k3:r.kd=3
 ·refine ZT k3 ?_;refine hs.ldf 1 rfl rfl ?_;simp only[HV];refine qZo hs (hd ?_);rw[beq_iff_eq];omega
 refine aZg k3 ?_;by_cases k4:r.kd=4
 ·refine ZT k4 ?_;refine hs.ldf 1 rfl rfl ?_;simp only[HV];by_cases h7:r.ps≥1
  ·refine Zm h7 ?_;refine hs.ldf 1 rfl rfl ?_;simp only[HV];refine qZo hs (hd ?_);rw[decide_eq_true_eq];omega
  ·exact Zh h7 (eZ6 hs fun g=>by have:=g.2.2.2.2.2;omega)
 ·exact aZg k4 (eZ6 hs fun g=>by have:=g.2.2.2.2.2;omega))
end Go.Proofs.YtgfildcgihbdaaaGreatDoor.Rec
namespace Go.Proofs.YtgfildcgihbdaaaGreatDoor.W
open Go Go.Hw
theorem bZQ :Tryz.prog.follows .mixedOrders=true:=by kernel_rfl
def Zz.l2 (K:VK):Nat→OA→Nat→Nat→FuncId→Array Value→Array Value→Int→Int→Hp→Prop
 |0,_,_,_,_,_,_,_,_,_=>False
 |k+1,A2,n2,m2,fd2,F2,C2,x1,x2,H=>
  let R2:=Zz.l2 K k
  BIf (decide (x2<x1)) (ixI x2 n2 (NN A2 fun a1=>LeW H (a1.add (x2.toNat*1)) fun x3=>dZJ Tryz.prog fd2 ((F2++ #[.int .u64 x3])++C2) H fun v2 H1=>DR Tryz.prog (bZr Tryz.prog fd2) v2 fun v3=>DB v3 fun c1=>BIf c1 (K (.int .i64 x2) H1) (R2 A2 n2 m2 fd2 F2 C2 x1 (i64.wrap (x2+1)) H1))) (K (.int .i64 (-1)) H)
def Zz (A1:OA)(n1 m1:Nat)(fd1:FuncId)(F1 C1:Array Value)(H:Hp)(K:VK):Prop:=
 (∃ k,Zz.l2 K k A1 n1 m1 fd1 F1 C1 (n1:Int) 0 H)
def Zz.l2.L (K:VK)(k:Nat):Mid:=fun E D H=>
 DG (E.get? 0) fun w0=>DSl w0 fun A2 n2 m2=>DG (E.get? 1) fun w1=>DFn w1 fun fd2 F2 C2=>eI E 7 .i64 fun x1=>eI E 8 .i64 fun x2=>Zk D (Zz.l2 K k A2 n2 m2 fd2 F2 C2 x1 x2 H)
def Zz.Λ2 (_:VK)(_R2:OA→Nat→Nat→FuncId→Array Value→Array Value→Int→Int→Hp→Prop):Zu:=Zu.none (fun _=>none)
def Zz.Λ (K:VK):Zu:=⟨fun i=>none,fun i=>match Nat.beq i 2 with|true=>some (fun E D H=>∃ k,Zz.l2.L K k E D H)|false=>none,(fun _=>none)⟩
theorem Zz.ok A1 n1 m1 fd1 F1 C1 H K (h:Zz A1 n1 m1 fd1 F1 C1 H K):Za Tryz.prog 106 #[.slice A1 n1 m1,.func (.func fd1) F1 C1] H K:=
 okL (Λ:=(Zz.Λ K)) bZQ Tryz.func106 rfl rfl h (oC (fun E D H h=>by
   refine Safe.loop' (Zz.l2.L K) (fun E D H h=>?_) (fun k E D H h=>?_) E D H h
   ·obtain⟨w0,e0,g1⟩:=DG.out h;obtain⟨A2,n2,m2,rfl,g2⟩:=DSl.out g1;obtain⟨w1,e1,g3⟩:=DG.out g2;obtain⟨fd2,F2,C2,rfl,g4⟩:=DFn.out g3;obtain⟨w7,e7,g5⟩:=DG.out g4;obtain⟨x1,rfl,g6⟩:=DI.out g5;obtain⟨w8,e8,g7⟩:=DG.out g6;obtain⟨x2,rfl,g8⟩:=DI.out g7;obtain⟨rfl,h'⟩:=Zk.out g8;exact h'
   ·obtain⟨w0,e0,g1⟩:=DG.out h;obtain⟨A2,n2,m2,rfl,g2⟩:=DSl.out g1;obtain⟨w1,e1,g3⟩:=DG.out g2;obtain⟨fd2,F2,C2,rfl,g4⟩:=DFn.out g3;obtain⟨x1,e7,g6⟩:=GI g4;obtain⟨x2,e8,g8⟩:=GI g6;obtain⟨rfl,h'⟩:=Zk.out g8;exact okJ (Λ:=(Zz.Λ2 K (Zz.l2 K k))) bZQ [] (Zb.cons e0 (Zb.cons e1 (Zb.cons e7 (Zb.cons e8 (Zb.nil _))))) h' oN) oN)
def bZc (A1:OA)(n1 m1:Nat)(fd1:FuncId)(F1 C1:Array Value)(H:Hp)(K:VK):Prop:=
 HcI 148 #[.int .u64 (u64.wrap (n1:Int))] H fun x1 H1=>Hz 179 #[.slice A1 n1 m1,.int .i64 0,.int .i64 (n1:Int),.int .i64 x1,.func (.func fd1) F1 C1] H1 fun v2 H2=>K (.tuple #[]) H2
theorem bZc.ok A1 n1 m1 fd1 F1 C1 H K (h:bZc A1 n1 m1 fd1 F1 C1 H K):Za Tryz.prog 139 #[.slice A1 n1 m1,.func (.func fd1) F1 C1] H K:=
 okN bZQ Tryz.func139 rfl rfl h
def Zf.j20 (K:VK)(R2:OA→Nat→Nat→Int→Int→Int→FuncId→Array Value→Array Value→Bool→Bool→Hp→Prop)(A6:OA)(n6 m6:Nat)(x26 x27 x28:Int)(fd6:FuncId)(F6 C6:Array Value)(x29 x30:Int)(H:Hp):=
 Hz 202 #[.slice A6 n6 m6,.int .i64 x26,.int .i64 x27,.int .i64 x30,.func (.func fd6) F6 C6] H fun v12 H9=>gZU v12 fun x31 c10=>(((8:Int)≠0∧i64=i64∧BIf (decide ((i64.wrap (x31-x26))<(i64.wrap (x27-x31)))) (Hz 179 #[.slice A6 n6 m6,.int .i64 x26,.int .i64 x31,.int .i64 x28,.func (.func fd6) F6 C6] H9 fun v15 H10=>R2 A6 n6 m6 (i64.wrap (x31+1)) x27 x28 fd6 F6 C6 (decide ((i64.wrap (x31-x26))≥(i64.wrap (Int.tdiv x29 8)))) c10 H10) (Hz 179 #[.slice A6 n6 m6,.int .i64 (i64.wrap (x31+1)),.int .i64 x27,.int .i64 x28,.func (.func fd6) F6 C6] H9 fun v16 H11=>R2 A6 n6 m6 x26 x31 x28 fd6 F6 C6 (decide ((i64.wrap (x27-x31))≥(i64.wrap (Int.tdiv x29 8)))) c10 H11)))
def Zf.j17 (K:VK)(R2:OA→Nat→Nat→Int→Int→Int→FuncId→Array Value→Array Value→Bool→Bool→Hp→Prop)(A5:OA)(n5 m5:Nat)(x19 x20 x21:Int)(fd5:FuncId)(F5 C5:Array Value)(c8 c9:Bool)(x22 x23:Int)(H:Hp):=
 BIf (decide (x19>0)) (ixI (i64.wrap (x19-1)) n5 (NN A5 fun a1=>LdA H (a1.add ((i64.wrap (x19-1)).toNat*8)) 8 fun l4=>ixI x23 n5 (NN A5 fun a2=>LdA H (a2.add (x23.toNat*8)) 8 fun l5=>dZJ Tryz.prog fd5 ((F5++ #[.agg l4.toArray,.agg l5.toArray])++C5) H fun v9 H7=>DR Tryz.prog (bZr Tryz.prog fd5) v9 fun v10=>DI .i64 v10 fun x24=>BIf (!(decide (x24<0))) (HcI 201 #[.slice A5 n5 m5,.int .i64 x19,.int .i64 x20,.int .i64 x23,.func (.func fd5) F5 C5] H7 fun x25 H8=>R2 A5 n5 m5 x25 x20 x21 fd5 F5 C5 c8 c9 H8) (Zf.j20 K R2 A5 n5 m5 x19 x20 x21 fd5 F5 C5 x22 x23 H7)))) (Zf.j20 K R2 A5 n5 m5 x19 x20 x21 fd5 F5 C5 x22 x23 H)
def Zf.j15 (K:VK)(R2:OA→Nat→Nat→Int→Int→Int→FuncId→Array Value→Array Value→Bool→Bool→Hp→Prop)(A4:OA)(n4 m4:Nat)(x13 x14 x15:Int)(fd4:FuncId)(F4 C4:Array Value)(c5 c6:Bool)(x16 x17 x18:Int)(H:Hp):=
 BIf c5 (BIf c6 (BIf (x18==1) (HcB 200 #[.slice A4 n4 m4,.int .i64 x13,.int .i64 x14,.func (.func fd4) F4 C4] H fun c7 H6=>BIf c7 (K (.tuple #[]) H6) (Zf.j17 K R2 A4 n4 m4 x13 x14 x15 fd4 F4 C4 c5 c6 x16 x17 H6)) (Zf.j17 K R2 A4 n4 m4 x13 x14 x15 fd4 F4 C4 c5 c6 x16 x17 H)) (Zf.j17 K R2 A4 n4 m4 x13 x14 x15 fd4 F4 C4 c5 c6 x16 x17 H)) (Zf.j17 K R2 A4 n4 m4 x13 x14 x15 fd4 F4 C4 c5 c6 x16 x17 H)
def Zf.j10 (K:VK)(R2:OA→Nat→Nat→Int→Int→Int→FuncId→Array Value→Array Value→Bool→Bool→Hp→Prop)(A3:OA)(n3 m3:Nat)(x7 x8 x9:Int)(fd3:FuncId)(F3 C3:Array Value)(c3 c4:Bool)(x10:Int)(H:Hp):=
 Hz 198 #[.slice A3 n3 m3,.int .i64 x7,.int .i64 x8,.func (.func fd3) F3 C3] H fun v4 H4=>kZq v4 fun x11 x12=>(BIf (x12==2) (Hz 199 #[.slice A3 n3 m3,.int .i64 x7,.int .i64 x8,.func (.func fd3) F3 C3] H4 fun v7 H5=>Zf.j15 K R2 A3 n3 m3 x7 x8 x9 fd3 F3 C3 c3 c4 x10 (i64.wrap ((i64.wrap (x8-1))-(i64.wrap (x11-x7)))) 1 H5) (Zf.j15 K R2 A3 n3 m3 x7 x8 x9 fd3 F3 C3 c3 c4 x10 x11 x12 H4))
def Zf.l2 (K:VK):Nat→OA→Nat→Nat→Int→Int→Int→FuncId→Array Value→Array Value→Bool→Bool→Hp→Prop
 |0,_,_,_,_,_,_,_,_,_,_,_,_=>False
 |k+1,A2,n2,m2,x4,x5,x6,fd2,F2,C2,c1,c2,H=>
  let R2:=Zf.l2 K k
  BIf (decide ((i64.wrap (x5-x4))≤12)) (Hz 195 #[.slice A2 n2 m2,.int .i64 x4,.int .i64 x5,.func (.func fd2) F2 C2] H fun v1 H1=>K (.tuple #[]) H1) (BIf (x6==0) (Hz 196 #[.slice A2 n2 m2,.int .i64 x4,.int .i64 x5,.func (.func fd2) F2 C2] H fun v2 H2=>K (.tuple #[]) H2) (BIf (!c1) (Hz 197 #[.slice A2 n2 m2,.int .i64 x4,.int .i64 x5,.func (.func fd2) F2 C2] H fun v3 H3=>Zf.j10 K R2 A2 n2 m2 x4 x5 (i64.wrap (x6-1)) fd2 F2 C2 c1 c2 (i64.wrap (x5-x4)) H3) (Zf.j10 K R2 A2 n2 m2 x4 x5 x6 fd2 F2 C2 c1 c2 (i64.wrap (x5-x4)) H)))
def Zf (A1:OA)(n1 m1:Nat)(x1 x2 x3:Int)(fd1:FuncId)(F1 C1:Array Value)(H:Hp)(K:VK):Prop:=
 (∃ k,Zf.l2 K k A1 n1 m1 x1 x2 x3 fd1 F1 C1 true true H)
def Zf.l2.L (K:VK)(k:Nat):Mid:=fun E D H=>
 DG (E.get? 0) fun w0=>DSl w0 fun A2 n2 m2=>eI E 1 .i64 fun x4=>eI E 2 .i64 fun x5=>eI E 3 .i64 fun x6=>DG (E.get? 4) fun w4=>DFn w4 fun fd2 F2 C2=>DG (E.get? 10) fun w10=>DB w10 fun c1=>DG (E.get? 11) fun w11=>DB w11 fun c2=>Zk D (Zf.l2 K k A2 n2 m2 x4 x5 x6 fd2 F2 C2 c1 c2 H)
def Zf.Λ2 (K:VK)(R2:OA→Nat→Nat→Int→Int→Int→FuncId→Array Value→Array Value→Bool→Bool→Hp→Prop):Zu:=⟨fun i=>match Nat.beq i 20 with|true=>some (fun E D H=>DG (E.get? 0) fun w0=>DSl w0 fun A6 n6 m6=>eI E 1 .i64 fun x26=>eI E 2 .i64 fun x27=>eI E 3 .i64 fun x28=>DG (E.get? 4) fun w4=>DFn w4 fun fd6 F6 C6=>eI E 12 .i64 fun x29=>eI E 13 .i64 fun x30=>Zk D (Zf.j20 K R2 A6 n6 m6 x26 x27 x28 fd6 F6 C6 x29 x30 H))|false=>match Nat.beq i 17 with|true=>some (fun E D H=>DG (E.get? 0) fun w0=>DSl w0 fun A5 n5 m5=>eI E 1 .i64 fun x19=>eI E 2 .i64 fun x20=>eI E 3 .i64 fun x21=>DG (E.get? 4) fun w4=>DFn w4 fun fd5 F5 C5=>DG (E.get? 10) fun w10=>DB w10 fun c8=>DG (E.get? 11) fun w11=>DB w11 fun c9=>eI E 12 .i64 fun x22=>eI E 13 .i64 fun x23=>Zk D (Zf.j17 K R2 A5 n5 m5 x19 x20 x21 fd5 F5 C5 c8 c9 x22 x23 H))|false=>match Nat.beq i 15 with|true=>some (fun E D H=>DG (E.get? 0) fun w0=>DSl w0 fun A4 n4 m4=>eI E 1 .i64 fun x13=>eI E 2 .i64 fun x14=>eI E 3 .i64 fun x15=>DG (E.get? 4) fun w4=>DFn w4 fun fd4 F4 C4=>DG (E.get? 10) fun w10=>DB w10 fun c5=>DG (E.get? 11) fun w11=>DB w11 fun c6=>eI E 12 .i64 fun x16=>eI E 13 .i64 fun x17=>eI E 14 .i64 fun x18=>Zk D (Zf.j15 K R2 A4 n4 m4 x13 x14 x15 fd4 F4 C4 c5 c6 x16 x17 x18 H))|false=>match Nat.beq i 10 with|true=>some (fun E D H=>DG (E.get? 0) fun w0=>DSl w0 fun A3 n3 m3=>eI E 1 .i64 fun x7=>eI E 2 .i64 fun x8=>eI E 3 .i64 fun x9=>DG (E.get? 4) fun w4=>DFn w4 fun fd3 F3 C3=>DG (E.get? 10) fun w10=>DB w10 fun c3=>DG (E.get? 11) fun w11=>DB w11 fun c4=>eI E 12 .i64 fun x10=>Zk D (Zf.j10 K R2 A3 n3 m3 x7 x8 x9 fd3 F3 C3 c3 c4 x10 H))|false=>none,fun i=>none,(fun i=>match Nat.beq i 17 with|true=>some ([],[0,1,2,3,4,5,6,7,8,9,10,11,12],13)|false=>none)⟩
def Zf.Λ (K:VK):Zu:=⟨fun i=>none,fun i=>match Nat.beq i 2 with|true=>some (fun E D H=>∃ k,Zf.l2.L K k E D H)|false=>none,(fun i=>match Nat.beq i 17 with|true=>some ([],[0,1,2,3,4,5,6,7,8,9,10,11,12],13)|false=>none)⟩
theorem Zf.ok A1 n1 m1 x1 x2 x3 fd1 F1 C1 H K (h:Zf A1 n1 m1 x1 x2 x3 fd1 F1 C1 H K):Za Tryz.prog 179 #[.slice A1 n1 m1,.int .i64 x1,.int .i64 x2,.int .i64 x3,.func (.func fd1) F1 C1] H K:=
 okL (Λ:=(Zf.Λ K)) bZQ Tryz.func179 rfl rfl h (oC (fun E D H h=>by
   refine Safe.loop' (Zf.l2.L K) (fun E D H h=>?_) (fun k E D H h=>?_) E D H h
   ·obtain⟨w0,e0,g1⟩:=DG.out h;obtain⟨A2,n2,m2,rfl,g2⟩:=DSl.out g1;obtain⟨w1,e1,g3⟩:=DG.out g2;obtain⟨x4,rfl,g4⟩:=DI.out g3;obtain⟨w2,e2,g5⟩:=DG.out g4;obtain⟨x5,rfl,g6⟩:=DI.out g5;obtain⟨w3,e3,g7⟩:=DG.out g6;obtain⟨x6,rfl,g8⟩:=DI.out g7;obtain⟨w4,e4,g9⟩:=DG.out g8;obtain⟨fd2,F2,C2,rfl,g10⟩:=DFn.out g9;obtain⟨w10,e10,g11⟩:=DG.out g10;obtain⟨c1,rfl,g12⟩:=DB.out g11;obtain⟨w11,e11,g13⟩:=DG.out g12;obtain⟨c2,rfl,g14⟩:=DB.out g13;obtain⟨rfl,h'⟩:=Zk.out g14;exact h'
   ·obtain⟨w0,e0,g1⟩:=DG.out h;obtain⟨A2,n2,m2,rfl,g2⟩:=DSl.out g1;obtain⟨x4,e1,g4⟩:=GI g2;obtain⟨x5,e2,g6⟩:=GI g4;obtain⟨x6,e3,g8⟩:=GI g6;obtain⟨w4,e4,g9⟩:=DG.out g8;obtain⟨fd2,F2,C2,rfl,g10⟩:=DFn.out g9;obtain⟨w10,e10,g11⟩:=DG.out g10;obtain⟨c1,rfl,g12⟩:=DB.out g11;obtain⟨w11,e11,g13⟩:=DG.out g12;obtain⟨c2,rfl,g14⟩:=DB.out g13;obtain⟨rfl,h'⟩:=Zk.out g14;exact okJ (Λ:=(Zf.Λ2 K (Zf.l2 K k))) bZQ [] (Zb.cons e0 (Zb.cons e1 (Zb.cons e2 (Zb.cons e3 (Zb.cons e4 (Zb.cons e10 (Zb.cons e11 (Zb.nil _)))))))) h' (oC (fun E D H h=>by
      obtain⟨w0,e0,g1⟩:=DG.out h;obtain⟨A3,n3,m3,rfl,g2⟩:=DSl.out g1;obtain⟨x7,e1,g4⟩:=GI g2;obtain⟨x8,e2,g6⟩:=GI g4;obtain⟨x9,e3,g8⟩:=GI g6;obtain⟨w4,e4,g9⟩:=DG.out g8;obtain⟨fd3,F3,C3,rfl,g10⟩:=DFn.out g9;obtain⟨w10,e10,g11⟩:=DG.out g10;obtain⟨c3,rfl,g12⟩:=DB.out g11;obtain⟨w11,e11,g13⟩:=DG.out g12;obtain⟨c4,rfl,g14⟩:=DB.out g13;obtain⟨x10,e12,g16⟩:=GI g14;obtain⟨rfl,h'⟩:=Zk.out g16;exact okJ (Λ:=(Zf.Λ2 K (Zf.l2 K k))) bZQ [] (Zb.cons e0 (Zb.cons e1 (Zb.cons e2 (Zb.cons e3 (Zb.cons e4 (Zb.cons e10 (Zb.cons e11 (Zb.cons e12 (Zb.nil _))))))))) h' (oC (fun E D H h=>by
        obtain⟨w0,e0,g1⟩:=DG.out h;obtain⟨A4,n4,m4,rfl,g2⟩:=DSl.out g1;obtain⟨x13,e1,g4⟩:=GI g2;obtain⟨x14,e2,g6⟩:=GI g4;obtain⟨x15,e3,g8⟩:=GI g6;obtain⟨w4,e4,g9⟩:=DG.out g8;obtain⟨fd4,F4,C4,rfl,g10⟩:=DFn.out g9;obtain⟨w10,e10,g11⟩:=DG.out g10;obtain⟨c5,rfl,g12⟩:=DB.out g11;obtain⟨w11,e11,g13⟩:=DG.out g12;obtain⟨c6,rfl,g14⟩:=DB.out g13;obtain⟨x16,e12,g16⟩:=GI g14;obtain⟨x17,e13,g18⟩:=GI g16;obtain⟨x18,e14,g20⟩:=GI g18;obtain⟨rfl,h'⟩:=Zk.out g20;exact okJ (Λ:=(Zf.Λ2 K (Zf.l2 K k))) bZQ [] (Zb.cons e0 (Zb.cons e1 (Zb.cons e2 (Zb.cons e3 (Zb.cons e4 (Zb.cons e10 (Zb.cons e11 (Zb.cons e12 (Zb.cons e13 (Zb.cons e14 (Zb.nil _))))))))))) h' (oC (fun E D H h=>by
          obtain⟨w0,e0,g1⟩:=DG.out h;obtain⟨A5,n5,m5,rfl,g2⟩:=DSl.out g1;obtain⟨x19,e1,g4⟩:=GI g2;obtain⟨x20,e2,g6⟩:=GI g4;obtain⟨x21,e3,g8⟩:=GI g6;obtain⟨w4,e4,g9⟩:=DG.out g8;obtain⟨fd5,F5,C5,rfl,g10⟩:=DFn.out g9;obtain⟨w10,e10,g11⟩:=DG.out g10;obtain⟨c8,rfl,g12⟩:=DB.out g11;obtain⟨w11,e11,g13⟩:=DG.out g12;obtain⟨c9,rfl,g14⟩:=DB.out g13;obtain⟨x22,e12,g16⟩:=GI g14;obtain⟨x23,e13,g18⟩:=GI g16;obtain⟨rfl,h'⟩:=Zk.out g18;exact okJ (Λ:=(Zf.Λ2 K (Zf.l2 K k))) bZQ [] (Zb.cons e0 (Zb.cons e1 (Zb.cons e2 (Zb.cons e3 (Zb.cons e4 (Zb.cons e10 (Zb.cons e11 (Zb.cons e12 (Zb.cons e13 (Zb.nil _)))))))))) h' (oC (fun E D H h=>by
            obtain⟨w0,e0,g1⟩:=DG.out h;obtain⟨A6,n6,m6,rfl,g2⟩:=DSl.out g1;obtain⟨x26,e1,g4⟩:=GI g2;obtain⟨x27,e2,g6⟩:=GI g4;obtain⟨x28,e3,g8⟩:=GI g6;obtain⟨w4,e4,g9⟩:=DG.out g8;obtain⟨fd6,F6,C6,rfl,g10⟩:=DFn.out g9;obtain⟨x29,e12,g12⟩:=GI g10;obtain⟨x30,e13,g14⟩:=GI g12;obtain⟨rfl,h'⟩:=Zk.out g14;exact okJ (Λ:=(Zf.Λ2 K (Zf.l2 K k))) bZQ [] (Zb.cons e0 (Zb.cons e1 (Zb.cons e2 (Zb.cons e3 (Zb.cons e4 (Zb.cons e12 (Zb.cons e13 (Zb.nil _)))))))) h' oN) oN)) oN)) oN)) oN)) oN)
def Zg.l4 (K:VK)(R1:OA→Nat→Nat→Int→Int→FuncId→Array Value→Array Value→Int→Hp→Prop):Nat→OA→Nat→Nat→Int→Int→FuncId→Array Value→Array Value→Int→Int→Hp→Prop
 |0,_,_,_,_,_,_,_,_,_,_,_=>False
 |k+1,A3,n3,m3,x6,x7,fd3,F3,C3,x8,x9,H=>
  let R4:=Zg.l4 K R1 k
  BIf (decide (x9>x6)) (ixI x9 n3 (NN A3 fun a1=>LdA H (a1.add (x9.toNat*8)) 8 fun l1=>ixI (i64.wrap (x9-1)) n3 (NN A3 fun a2=>LdA H (a2.add ((i64.wrap (x9-1)).toNat*8)) 8 fun l2=>dZJ Tryz.prog fd3 ((F3++ #[.agg l1.toArray,.agg l2.toArray])++C3) H fun v1 H1=>DR Tryz.prog (bZr Tryz.prog fd3) v1 fun v2=>DI .i64 v2 fun x10=>BIf (decide (x10<0)) (ixI (i64.wrap (x9-1)) n3 (NN A3 fun a3=>ixI x9 n3 (NN A3 fun a4=>(LdA H1 (a3.add ((i64.wrap (x9-1)).toNat*8)) 8 fun l3=>LdA H1 (a4.add (x9.toNat*8)) 8 fun l4=>ixI x9 n3 (NN A3 fun a5=>StA H1 (a5.add (x9.toNat*8)) l3.toArray 8 fun H2=>ixI (i64.wrap (x9-1)) n3 (NN A3 fun a6=>StA H2 (a6.add ((i64.wrap (x9-1)).toNat*8)) l4.toArray 8 fun H3=>R4 A3 n3 m3 x6 x7 fd3 F3 C3 x8 (i64.wrap (x9-1)) H3)))∧(LdA H1 (a4.add (x9.toNat*8)) 8 fun l5=>LdA H1 (a3.add ((i64.wrap (x9-1)).toNat*8)) 8 fun l6=>ixI x9 n3 (NN A3 fun a7=>StA H1 (a7.add (x9.toNat*8)) l6.toArray 8 fun H4=>ixI (i64.wrap (x9-1)) n3 (NN A3 fun a8=>StA H4 (a8.add ((i64.wrap (x9-1)).toNat*8)) l5.toArray 8 fun H5=>R4 A3 n3 m3 x6 x7 fd3 F3 C3 x8 (i64.wrap (x9-1)) H5)))))) (R1 A3 n3 m3 x6 x7 fd3 F3 C3 (i64.wrap (x8+1)) H1)))) (R1 A3 n3 m3 x6 x7 fd3 F3 C3 (i64.wrap (x8+1)) H)
def Zg.l1 (K:VK):Nat→OA→Nat→Nat→Int→Int→FuncId→Array Value→Array Value→Int→Hp→Prop
 |0,_,_,_,_,_,_,_,_,_,_=>False
 |k+1,A2,n2,m2,x3,x4,fd2,F2,C2,x5,H=>
  let R1:=Zg.l1 K k
  BIf (decide (x5<x4)) ((∃ k,Zg.l4 K R1 k A2 n2 m2 x3 x4 fd2 F2 C2 x5 x5 H)) (K (.tuple #[]) H)
def Zg (A1:OA)(n1 m1:Nat)(x1 x2:Int)(fd1:FuncId)(F1 C1:Array Value)(H:Hp)(K:VK):Prop:=
 (∃ k,Zg.l1 K k A1 n1 m1 x1 x2 fd1 F1 C1 (i64.wrap (x1+1)) H)
def Zg.l1.L (K:VK)(k:Nat):Mid:=fun E D H=>
 DG (E.get? 0) fun w0=>DSl w0 fun A2 n2 m2=>eI E 1 .i64 fun x3=>eI E 2 .i64 fun x4=>DG (E.get? 3) fun w3=>DFn w3 fun fd2 F2 C2=>eI E 8 .i64 fun x5=>Zk D (Zg.l1 K k A2 n2 m2 x3 x4 fd2 F2 C2 x5 H)
def Zg.l4.L (K:VK)(R1:OA→Nat→Nat→Int→Int→FuncId→Array Value→Array Value→Int→Hp→Prop)(k:Nat):Mid:=fun E D H=>
 DG (E.get? 0) fun w0=>DSl w0 fun A3 n3 m3=>eI E 1 .i64 fun x6=>eI E 2 .i64 fun x7=>DG (E.get? 3) fun w3=>DFn w3 fun fd3 F3 C3=>eI E 8 .i64 fun x8=>eI E 9 .i64 fun x9=>Zk D (Zg.l4 K R1 k A3 n3 m3 x6 x7 fd3 F3 C3 x8 x9 H)
def Zg.Λ4 (_:VK)(_R1:OA→Nat→Nat→Int→Int→FuncId→Array Value→Array Value→Int→Hp→Prop)(_R4:OA→Nat→Nat→Int→Int→FuncId→Array Value→Array Value→Int→Int→Hp→Prop):Zu:=Zu.none (fun i=>match Nat.beq i 6 with|true=>some ([],[0,0,0,0,8,0,0,64,224,480,0,0,3072,7168,16355,32739,65535,131071],0)|false=>match Nat.beq i 4 with|true=>some ([],[0,1,2,3,4,5,6,7,8,9,10,11,12,13],14)|false=>none)
def Zg.Λ1 (K:VK)(R1:OA→Nat→Nat→Int→Int→FuncId→Array Value→Array Value→Int→Hp→Prop):Zu:=⟨fun i=>none,fun i=>match Nat.beq i 4 with|true=>some (fun E D H=>∃ k,Zg.l4.L K R1 k E D H)|false=>none,(fun i=>match Nat.beq i 6 with|true=>some ([],[0,0,0,0,8,0,0,64,224,480,0,0,3072,7168,16355,32739,65535,131071],0)|false=>match Nat.beq i 4 with|true=>some ([],[0,1,2,3,4,5,6,7,8,9,10,11,12,13],14)|false=>none)⟩
def Zg.Λ (K:VK):Zu:=⟨fun i=>none,fun i=>match Nat.beq i 1 with|true=>some (fun E D H=>∃ k,Zg.l1.L K k E D H)|false=>none,(fun i=>match Nat.beq i 6 with|true=>some ([],[0,0,0,0,8,0,0,64,224,480,0,0,3072,7168,16355,32739,65535,131071],0)|false=>match Nat.beq i 4 with|true=>some ([],[0,1,2,3,4,5,6,7,8,9,10,11,12,13],14)|false=>none)⟩
theorem Zg.ok A1 n1 m1 x1 x2 fd1 F1 C1 H K (h:Zg A1 n1 m1 x1 x2 fd1 F1 C1 H K):Za Tryz.prog 195 #[.slice A1 n1 m1,.int .i64 x1,.int .i64 x2,.func (.func fd1) F1 C1] H K:=
 okL (Λ:=(Zg.Λ K)) bZQ Tryz.func195 rfl rfl h (oC (fun E D H h=>by
   refine Safe.loop' (Zg.l1.L K) (fun E D H h=>?_) (fun k E D H h=>?_) E D H h
   ·obtain⟨w0,e0,g1⟩:=DG.out h;obtain⟨A2,n2,m2,rfl,g2⟩:=DSl.out g1;obtain⟨w1,e1,g3⟩:=DG.out g2;obtain⟨x3,rfl,g4⟩:=DI.out g3;obtain⟨w2,e2,g5⟩:=DG.out g4;obtain⟨x4,rfl,g6⟩:=DI.out g5;obtain⟨w3,e3,g7⟩:=DG.out g6;obtain⟨fd2,F2,C2,rfl,g8⟩:=DFn.out g7;obtain⟨w8,e8,g9⟩:=DG.out g8;obtain⟨x5,rfl,g10⟩:=DI.out g9;obtain⟨rfl,h'⟩:=Zk.out g10;exact h'
   ·obtain⟨w0,e0,g1⟩:=DG.out h;obtain⟨A2,n2,m2,rfl,g2⟩:=DSl.out g1;obtain⟨x3,e1,g4⟩:=GI g2;obtain⟨x4,e2,g6⟩:=GI g4;obtain⟨w3,e3,g7⟩:=DG.out g6;obtain⟨fd2,F2,C2,rfl,g8⟩:=DFn.out g7;obtain⟨x5,e8,g10⟩:=GI g8;obtain⟨rfl,h'⟩:=Zk.out g10;exact okJ (Λ:=(Zg.Λ1 K (Zg.l1 K k))) bZQ [] (Zb.cons e0 (Zb.cons e1 (Zb.cons e2 (Zb.cons e3 (Zb.cons e8 (Zb.nil _)))))) h' (oC (fun E D H h=>by
      refine Safe.loop' (Zg.l4.L K (Zg.l1 K k)) (fun E D H h=>?_) (fun k E D H h=>?_) E D H h
      ·obtain⟨w0,e0,g1⟩:=DG.out h;obtain⟨A3,n3,m3,rfl,g2⟩:=DSl.out g1;obtain⟨w1,e1,g3⟩:=DG.out g2;obtain⟨x6,rfl,g4⟩:=DI.out g3;obtain⟨w2,e2,g5⟩:=DG.out g4;obtain⟨x7,rfl,g6⟩:=DI.out g5;obtain⟨w3,e3,g7⟩:=DG.out g6;obtain⟨fd3,F3,C3,rfl,g8⟩:=DFn.out g7;obtain⟨w8,e8,g9⟩:=DG.out g8;obtain⟨x8,rfl,g10⟩:=DI.out g9;obtain⟨w9,e9,g11⟩:=DG.out g10;obtain⟨x9,rfl,g12⟩:=DI.out g11;obtain⟨rfl,h'⟩:=Zk.out g12;exact h'
      ·obtain⟨w0,e0,g1⟩:=DG.out h;obtain⟨A3,n3,m3,rfl,g2⟩:=DSl.out g1;obtain⟨x6,e1,g4⟩:=GI g2;obtain⟨x7,e2,g6⟩:=GI g4;obtain⟨w3,e3,g7⟩:=DG.out g6;obtain⟨fd3,F3,C3,rfl,g8⟩:=DFn.out g7;obtain⟨x8,e8,g10⟩:=GI g8;obtain⟨x9,e9,g12⟩:=GI g10;obtain⟨rfl,h'⟩:=Zk.out g12;exact okJ (Λ:=(Zg.Λ4 K (Zg.l1 K k) (Zg.l4 K (Zg.l1 K k) k))) bZQ [] (Zb.cons e0 (Zb.cons e1 (Zb.cons e2 (Zb.cons e3 (Zb.cons e8 (Zb.cons e9 (Zb.nil _))))))) h' oN) oN)) oN)
end Go.Proofs.YtgfildcgihbdaaaGreatDoor.W
namespace Go.Proofs.YtgfildcgihbdaaaGreatDoor.W
open Go Go.Hw
theorem oZi :Tryz.prog.follows .mixedOrders=true:=by kernel_rfl
def cZZ (x1 x2:Int)(H:Hp)(K:VK):Prop:=
 HcB 180 #[.int .u64 x1] H fun c1 H1=>HcB 180 #[.int .u64 x2] H1 fun c2 H2=>BIf c1 (BIf c2 (K (.int .i64 0) H2) (K (.int .i64 (-1)) H2)) (BIf c2 (K (.int .i64 1) H2) (BIf (decide (x1<x2)) (K (.int .i64 (-1)) H2) (BIf (decide (x1>x2)) (K (.int .i64 1) H2) (K (.int .i64 0) H2))))
theorem cZZ.ok x1 x2 H K (h:cZZ x1 x2 H K):Za Tryz.prog 141 #[.int .u64 x1,.int .u64 x2] H K:=
 okN oZi Tryz.func141 rfl rfl h
def dZq (x1:Int)(H:Hp)(K:VK):Prop:=
 K (.bool (x1 !=x1)) H
theorem dZq.ok x1 H K (h:dZq x1 H K):Za Tryz.prog 180 #[.int .u64 x1] H K:=
 okN oZi Tryz.func180 rfl rfl h
end Go.Proofs.YtgfildcgihbdaaaGreatDoor.W
namespace Go.Proofs.YtgfildcgihbdaaaGreatDoor.W
open Go Go.Hw
theorem cZR :Tryz.prog.follows .mixedOrders=true:=by kernel_rfl
def ZP.l2.q1 (p4:OA)(x5 x3:Int)(A1:OA)(n1 m1:Nat)(H1:Hp)(K:VK)(R2:OA→Int→Int→Hp→Prop)(p2:OA)(x2:Int):=
 HcI 45 #[.pointer p4,.int .i64 (i64.wrap (x5+x3)),.slice A1 n1 m1] H1 fun x6 H2=>BIf (x6 !=0) (K (.int .i64 x6) H2) (R2 p2 x2 (i64.wrap (x3+1)) H2)
def ZP.l2 (K:VK):Nat→OA→Int→Int→Hp→Prop
 |0,_,_,_,_=>False
 |k+1,p2,x2,x3,H=>
  let R2:=ZP.l2 K k
  BIf (decide (x3<x2)) (NN p2 fun a2=>NN p2 fun a3=>NN p2 fun a4=>LeP H (a4.add 3) fun p3=>NN p3 fun a5=>QcI 42 #[.pointer (some (a5.add 0))] H fun x4=>(LeP H (a2.add 3) fun p4=>(LeI H ((a3.add 0).add 0) fun x5=>MkS Tryz.prog 5 x4 x4 H fun v6 H1=>DSl v6 fun A1 n1 m1=>ZP.l2.q1 p4 x5 x3 A1 n1 m1 H1 K R2 p2 x2)∧(MkS Tryz.prog 5 x4 x4 H fun v8 H3=>DSl v8 fun A2 n2 m2=>LeI H3 ((a3.add 0).add 0) fun x7=>ZP.l2.q1 p4 x7 x3 A2 n2 m2 H3 K R2 p2 x2))∧(LeI H ((a3.add 0).add 0) fun x9=>(LeP H (a2.add 3) fun p5=>MkS Tryz.prog 5 x4 x4 H fun v13 H5=>DSl v13 fun A3 n3 m3=>ZP.l2.q1 p5 x9 x3 A3 n3 m3 H5 K R2 p2 x2)∧(MkS Tryz.prog 5 x4 x4 H fun v15 H7=>DSl v15 fun A4 n4 m4=>LeP H7 (a2.add 3) fun p6=>ZP.l2.q1 p6 x9 x3 A4 n4 m4 H7 K R2 p2 x2))∧(MkS Tryz.prog 5 x4 x4 H fun v18 H9=>DSl v18 fun A5 n5 m5=>LeP H9 (a2.add 3) fun p7=>LeI H9 ((a3.add 0).add 0) fun x12=>ZP.l2.q1 p7 x12 x3 A5 n5 m5 H9 K R2 p2 x2)) (NN p2 fun a6=>LeP H (a6.add 3) fun p8=>HcI 47 #[.pointer p8] H fun x14 H11=>K (.int .i64 x14) H11)
def ZP (p1:OA)(H:Hp)(K:VK):Prop:=
 NN p1 fun a1=>LeI H ((a1.add 0).add 1) fun x1=>(∃ k,ZP.l2 K k p1 x1 0 H)
def ZP.l2.L (K:VK)(k:Nat):Mid:=fun E D H=>
 eP E 0 fun p2=>eI E 9 .i64 fun x2=>eI E 10 .i64 fun x3=>Zk D (ZP.l2 K k p2 x2 x3 H)
def ZP.Λ2 (_:VK)(_R2:OA→Int→Int→Hp→Prop):Zu:=Zu.none (fun i=>match Nat.beq i 4 with|true=>some ([3,8,14,17],[0,1,3,7,0,16,48,112,240,0,1008,0,2048,6144,14336,30720,63488,129024,260096,524287,1048575],0)|false=>none)
def ZP.Λ (K:VK):Zu:=⟨fun i=>none,fun i=>match Nat.beq i 2 with|true=>some (fun E D H=>∃ k,ZP.l2.L K k E D H)|false=>none,(fun i=>match Nat.beq i 4 with|true=>some ([3,8,14,17],[0,1,3,7,0,16,48,112,240,0,1008,0,2048,6144,14336,30720,63488,129024,260096,524287,1048575],0)|false=>none)⟩
theorem ZP.ok p1 H K (h:ZP p1 H K):Za Tryz.prog 48 #[.pointer p1] H K:=
 okL (Λ:=(ZP.Λ K)) cZR Tryz.func48 rfl rfl h (oC (fun E D H h=>by
   refine Safe.loop' (ZP.l2.L K) (fun E D H h=>?_) (fun k E D H h=>?_) E D H h
   ·obtain⟨w0,e0,g1⟩:=DG.out h;obtain⟨p2,rfl,g2⟩:=DP.out g1;obtain⟨w9,e9,g3⟩:=DG.out g2;obtain⟨x2,rfl,g4⟩:=DI.out g3;obtain⟨w10,e10,g5⟩:=DG.out g4;obtain⟨x3,rfl,g6⟩:=DI.out g5;obtain⟨rfl,h'⟩:=Zk.out g6;exact h'
   ·obtain⟨p2,e0,g2⟩:=GP h;obtain⟨x2,e9,g4⟩:=GI g2;obtain⟨x3,e10,g6⟩:=GI g4;obtain⟨rfl,h'⟩:=Zk.out g6;exact okJ (Λ:=(ZP.Λ2 K (ZP.l2 K k))) cZR [] (Zb.cons e0 (Zb.cons e9 (Zb.cons e10 (Zb.nil _)))) h' oN) oN)
def bZM.q1 (H2:Hp)(b1:Nat)(K:VK)(x1:Int):=
 StA H2 ⟨b1,0,none⟩ #[.int .u64 0,.int .i64 0,.int .i64 0,.int .i64 0,.int .i64 0,.int .u32 0,.int .u32 0,.int .u32 0] 8 fun H3=>LdA H3 ⟨b1,0,none⟩ 8 fun l5=>K (.tuple #[.agg l5.toArray,.bool false,.int .i64 x1]) H3
def bZM (p1:OA)(H:Hp)(K:VK):Prop:=
 Nw H (.obj (.cells #[.int .u64 0,.int .i64 0,.int .i64 0,.int .i64 0,.int .i64 0,.int .u32 0,.int .u32 0,.int .u32 0] 102)) fun b1 H1=>Hz 93 #[.pointer p1] H1 fun v1 H2=>dZD v1 fun A1 n1 m1 x1=>(BIf (x1 !=0) (bZM.q1 H2 b1 K x1) (BIf ((n1:Int)==0) (bZM.q1 H2 b1 K x1) (ixI (i64.wrap ((n1:Int)-1)) n1 (NN A1 fun a1=>LdA H2 (a1.add ((i64.wrap ((n1:Int)-1)).toNat*8)) 8 fun l4=>StA H2 ⟨b1,0,none⟩ l4.toArray 8 fun H5=>LdA H5 ⟨b1,0,none⟩ 8 fun l7=>K (.tuple #[.agg l7.toArray,.bool true,.int .i64 0]) H5))))
theorem bZM.ok p1 H K (h:bZM p1 H K):Za Tryz.prog 65 #[.pointer p1] H K:=
 okN cZR Tryz.func65 rfl rfl h
def hZa (p1:OA)(x1 x2 x3:Int)(H:Hp)(K:VK):Prop:=
 Nw H (.obj (.cells #[.int .i64 x1,.int .i64 x2,.int .i64 x3] 87)) fun b1 H1=>BIf p1.isNone (K (.tuple #[.pointer none,.int .i64 1]) H1) (LeI H1 ((⟨b1,0,none⟩:Addr).add 1) fun x4=>BIf (decide (x4<2)) (K (.tuple #[.pointer none,.int .i64 2]) H1) (LeI H1 ((⟨b1,0,none⟩:Addr).add 0) fun x5=>BIf (decide (x5<0)) (K (.tuple #[.pointer none,.int .i64 2]) H1) (LeI H1 ((⟨b1,0,none⟩:Addr).add 0) fun x6=>NN p1 fun a1=>QcI 41 #[.pointer (some (a1.add 0))] H1 fun x7=>BIf (decide (x6≥x7)) (K (.tuple #[.pointer none,.int .i64 2]) H1) (LeI H1 ((⟨b1,0,none⟩:Addr).add 1) fun x8=>NN p1 fun a2=>QcI 41 #[.pointer (some (a2.add 0))] H1 fun x9=>LeI H1 ((⟨b1,0,none⟩:Addr).add 0) fun x10=>BIf (decide (x8>(i64.wrap (x9-x10)))) (K (.tuple #[.pointer none,.int .i64 2]) H1) (LdA H1 ⟨b1,0,none⟩ 3 fun l1=>dZ1 l1.toArray.toList fun x11 x12 x13=>(Nw H1 (.obj (.cells #[.int .i64 x11,.int .i64 x12,.int .i64 x13,.pointer p1] 146)) fun b2 H2=>K (.tuple #[.pointer (some ⟨b2,0,none⟩),.int .i64 0]) H2))))))
theorem hZa.ok p1 x1 x2 x3 H K (h:hZa p1 x1 x2 x3 H K):Za Tryz.prog 72 #[.pointer p1,.agg #[.int .i64 x1,.int .i64 x2,.int .i64 x3]] H K:=
 okN cZR Tryz.func72 rfl rfl h
def ZJ.j9 (K:VK)(p5:OA)(a5:Addr)(A5:OA)(n5 m5:Nat)(H:Hp):=
 NN p5 fun a6=>LeP H (a6.add 3) fun p6=>LeW H (a5.add 0) fun x13=>QcI 111 #[.pointer p5,.int .u64 x13] H fun x14=>HcI 45 #[.pointer p6,.int .i64 x14,.slice A5 n5 m5] H fun x15 H12=>BIf (x15 !=0) (K (.int .i64 x15) H12) (NN p5 fun a7=>LeP H12 (a7.add 3) fun p7=>HcI 47 #[.pointer p7] H12 fun x16 H13=>K (.int .i64 x16) H13)
def ZJ.j2 (K:VK)(p4:OA)(a4:Addr)(A4:OA)(n4 m4:Nat)(x7:Int)(H:Hp):=
 BIf (x7 !=0) (K (.int .i64 10) H) (Hz 65 #[.pointer p4] H fun v15 H8=>pZ0 v15 fun y2 c1 x8=>(Nw H8 (.obj (.cells #[.int .u64 0,.int .i64 0,.int .i64 0,.int .i64 0,.int .i64 0,.int .u32 0,.int .u32 0,.int .u32 0] 102)) fun b2 H9=>StA H9 ⟨b2,0,none⟩ y2 8 fun H10=>BIf (x8 !=0) (K (.int .i64 x8) H10) (BIf c1 (LdA H10 ⟨b2,0,none⟩ 8 fun l17=>LdA H10 a4 8 fun l18=>HcB 110 #[.agg l17.toArray,.agg l18.toArray] H10 fun c2 H11=>BIf (!c2) (K (.int .i64 5) H11) (BIf (!c1) (LeW H11 (a4.add 0) fun x9=>BIf (x9 !=1) (K (.int .i64 5) H11) (LeI H11 (a4.add 1) fun x11=>BIf (x11 !=1) (K (.int .i64 5) H11) (ZJ.j9 K p4 a4 A4 n4 m4 H11))) (ZJ.j9 K p4 a4 A4 n4 m4 H11))) (BIf (!c1) (LeW H10 (a4.add 0) fun x10=>BIf (x10 !=1) (K (.int .i64 5) H10) (LeI H10 (a4.add 1) fun x12=>BIf (x12 !=1) (K (.int .i64 5) H10) (ZJ.j9 K p4 a4 A4 n4 m4 H10))) (ZJ.j9 K p4 a4 A4 n4 m4 H10)))))
def ZJ.q1 (l1:List Value)(x1:Int)(H2:Hp)(K:VK)(p1:OA)(b1:Nat):=
 Hz 109 #[.agg l1.toArray,.int .i64 x1] H2 fun v3 H3=>dZD v3 fun A1 n1 m1 x2=>(ZJ.j2 K p1 ⟨b1,0,none⟩ A1 n1 m1 x2 H3)
def ZJ (p1:OA)(y1:Array Value)(H:Hp)(K:VK):Prop:=
 Nw H (.obj (.cells y1 102)) fun b1 H1=>NN p1 fun a1=>(LdA H1 ⟨b1,0,none⟩ 8 fun l1=>LeP H1 (a1.add 3) fun p2=>NN p2 fun a2=>HcI 42 #[.pointer (some (a2.add 0))] H1 fun x1 H2=>ZJ.q1 l1 x1 H2 K p1 b1)∧(LeP H1 (a1.add 3) fun p3=>NN p3 fun a3=>(LdA H1 ⟨b1,0,none⟩ 8 fun l5=>HcI 42 #[.pointer (some (a3.add 0))] H1 fun x3 H4=>ZJ.q1 l5 x3 H4 K p1 b1)∧(HcI 42 #[.pointer (some (a3.add 0))] H1 fun x5 H6=>LdA H6 ⟨b1,0,none⟩ 8 fun l9=>ZJ.q1 l9 x5 H6 K p1 b1))
def ZJ.Λ (K:VK):Zu:=⟨fun i=>match Nat.beq i 9 with|true=>some (fun E D H=>eP E 0 fun p5=>eN E 3 fun a5=>DG (E.get? 5) fun w5=>DSl w5 fun A5 n5 m5=>Zk D (ZJ.j9 K p5 a5 A5 n5 m5 H))|false=>match Nat.beq i 2 with|true=>some (fun E D H=>eP E 0 fun p4=>eN E 3 fun a4=>DG (E.get? 5) fun w5=>DSl w5 fun A4 n4 m4=>eI E 6 .i64 fun x7=>Zk D (ZJ.j2 K p4 a4 A4 n4 m4 x7 H))|false=>none,fun i=>none,(fun i=>match Nat.beq i 9 with|true=>some ([],[0,1,2,3,4,5,6,7,8],9)|false=>match Nat.beq i 1 with|true=>some ([],[0,0,2,6,14,30,62,126,255,511,1023,1023,2047,8191],0)|false=>none)⟩
theorem ZJ.ok p1 y1 H K (h:ZJ p1 y1 H K):Za Tryz.prog 81 #[.pointer p1,.agg y1] H K:=
 okL (Λ:=(ZJ.Λ K)) cZR Tryz.func81 rfl rfl h (oC (fun E D H h=>by
   obtain⟨p4,e0,g2⟩:=GP h;obtain⟨a4,e3,g5⟩:=GN g2;obtain⟨w5,e5,g6⟩:=DG.out g5;obtain⟨A4,n4,m4,rfl,g7⟩:=DSl.out g6;obtain⟨x7,e6,g9⟩:=GI g7;obtain⟨rfl,h'⟩:=Zk.out g9;exact okJ (Λ:=(ZJ.Λ K)) cZR [] (Zb.cons e0 (Zb.cons e3 (Zb.cons e5 (Zb.cons e6 (Zb.nil _))))) h' (oC (fun E D H h=>by
     obtain⟨p5,e0,g2⟩:=GP h;obtain⟨a5,e3,g5⟩:=GN g2;obtain⟨w5,e5,g6⟩:=DG.out g5;obtain⟨A5,n5,m5,rfl,g7⟩:=DSl.out g6;obtain⟨rfl,h'⟩:=Zk.out g7;exact okJ (Λ:=(ZJ.Λ K)) cZR [] (Zb.cons e0 (Zb.cons e3 (Zb.cons e5 (Zb.nil _)))) h' oN) oN)) oN)
def ZN.j5 (K:VK)(R2:OA→OA→Nat→Nat→Int→Int→Hp→Prop)(p5 A4:OA)(n4 m4:Nat)(x8:Int)(A5:OA)(n5 m5:Nat)(x9 x10 x11:Int)(H:Hp):=
 BIf (x9 !=0) (K (.tuple #[.slice none 0 0,.int .i64 x9]) H) (Hz 138 #[.slice A5 n5 m5] H fun v12 H3=>bZS v12 fun y1 x12=>(Nw H3 (.obj (.cells #[.int .u64 0,.int .i64 0,.int .i64 0,.int .i64 0,.int .i64 0,.int .u32 0,.int .u32 0,.int .u32 0] 102)) fun b1 H4=>StA H4 ⟨b1,0,none⟩ y1 8 fun H5=>BIf (x12==0) (LeW H5 ((⟨b1,0,none⟩:Addr).add 0) fun x13=>QcI 111 #[.pointer p5,.int .u64 x13] H5 fun x14=>NN p5 fun a4=>LeI H5 ((a4.add 0).add 0) fun x15=>BIf (x14==(i64.wrap (x15+x8))) (LdA H5 ⟨b1,0,none⟩ 8 fun l10=>kZZ l10.toArray.toList fun x16 x17 x18 x19 x20 x21 x22 x23=>(Nw H5 (.row [.int .u64 x16,.int .i64 x17,.int .i64 x18,.int .i64 x19,.int .i64 x20,.int .u32 x21,.int .u32 x22,.int .u32 x23] 102 8) fun b2 H6=>cZP Tryz.prog 102 (.slice A4 n4 m4) (.slice (some ⟨b2,0,none⟩) 1 1) H6 fun v26 H7=>DSl v26 fun A6 n6 m6=>R2 p5 A6 n6 m6 x10 (i64.wrap (x11+1)) H7)) (R2 p5 A4 n4 m4 x10 (i64.wrap (x11+1)) H5)) (R2 p5 A4 n4 m4 x10 (i64.wrap (x11+1)) H5)))
def ZN.l2 (K:VK):Nat→OA→OA→Nat→Nat→Int→Int→Hp→Prop
 |0,_,_,_,_,_,_,_=>False
 |k+1,p2,A1,n1,m1,x2,x3,H=>
  let R2:=ZN.l2 K k
  BIf (decide (x3<x2)) (NN p2 fun a2=>NN p2 fun a3=>(LeP H (a2.add 3) fun p3=>LeI H ((a3.add 0).add 0) fun x4=>Hz 91 #[.pointer p3,.int .i64 (i64.wrap (x4+x3))] H fun v4 H1=>dZD v4 fun A2 n2 m2 x5=>(ZN.j5 K R2 p2 A1 n1 m1 x3 A2 n2 m2 x5 x2 x3 H1))∧(LeI H ((a3.add 0).add 0) fun x6=>LeP H (a2.add 3) fun p4=>Hz 91 #[.pointer p4,.int .i64 (i64.wrap (x6+x3))] H fun v9 H2=>dZD v9 fun A3 n3 m3 x7=>(ZN.j5 K R2 p2 A1 n1 m1 x3 A3 n3 m3 x7 x2 x3 H2))) (Hz 139 #[.slice A1 n1 m1,.func (.func 140) #[] #[]] H fun v27 H8=>K (.tuple #[.slice A1 n1 m1,.int .i64 0]) H8)
def ZN (p1:OA)(H:Hp)(K:VK):Prop:=
 NN p1 fun a1=>LeI H ((a1.add 0).add 1) fun x1=>(∃ k,ZN.l2 K k p1 none 0 0 x1 0 H)
def ZN.l2.L (K:VK)(k:Nat):Mid:=fun E D H=>
 eP E 0 fun p2=>DG (E.get? 2) fun w2=>DSl w2 fun A1 n1 m1=>eI E 13 .i64 fun x2=>eI E 14 .i64 fun x3=>Zk D (ZN.l2 K k p2 A1 n1 m1 x2 x3 H)
def ZN.Λ2 (K:VK)(R2:OA→OA→Nat→Nat→Int→Int→Hp→Prop):Zu:=⟨fun i=>match Nat.beq i 5 with|true=>some (fun E D H=>eP E 0 fun p5=>DG (E.get? 2) fun w2=>DSl w2 fun A4 n4 m4=>eI E 4 .i64 fun x8=>DG (E.get? 5) fun w5=>DSl w5 fun A5 n5 m5=>eI E 6 .i64 fun x9=>eI E 13 .i64 fun x10=>eI E 14 .i64 fun x11=>Zk D (ZN.j5 K R2 p5 A4 n4 m4 x8 A5 n5 m5 x9 x10 x11 H))|false=>none,fun i=>none,(fun i=>match Nat.beq i 4 with|true=>some ([],[0,1,3,7,0,16,48,112,240,0,1008,2047,4095,8191,8191,16383,65535],0)|false=>none)⟩
def ZN.Λ (K:VK):Zu:=⟨fun i=>none,fun i=>match Nat.beq i 2 with|true=>some (fun E D H=>∃ k,ZN.l2.L K k E D H)|false=>none,(fun i=>match Nat.beq i 4 with|true=>some ([],[0,1,3,7,0,16,48,112,240,0,1008,2047,4095,8191,8191,16383,65535],0)|false=>none)⟩
theorem ZN.ok p1 H K (h:ZN p1 H K):Za Tryz.prog 93 #[.pointer p1] H K:=
 okL (Λ:=(ZN.Λ K)) cZR Tryz.func93 rfl rfl h (oC (fun E D H h=>by
   refine Safe.loop' (ZN.l2.L K) (fun E D H h=>?_) (fun k E D H h=>?_) E D H h
   ·obtain⟨w0,e0,g1⟩:=DG.out h;obtain⟨p2,rfl,g2⟩:=DP.out g1;obtain⟨w2,e2,g3⟩:=DG.out g2;obtain⟨A1,n1,m1,rfl,g4⟩:=DSl.out g3;obtain⟨w13,e13,g5⟩:=DG.out g4;obtain⟨x2,rfl,g6⟩:=DI.out g5;obtain⟨w14,e14,g7⟩:=DG.out g6;obtain⟨x3,rfl,g8⟩:=DI.out g7;obtain⟨rfl,h'⟩:=Zk.out g8;exact h'
   ·obtain⟨p2,e0,g2⟩:=GP h;obtain⟨w2,e2,g3⟩:=DG.out g2;obtain⟨A1,n1,m1,rfl,g4⟩:=DSl.out g3;obtain⟨x2,e13,g6⟩:=GI g4;obtain⟨x3,e14,g8⟩:=GI g6;obtain⟨rfl,h'⟩:=Zk.out g8;exact okJ (Λ:=(ZN.Λ2 K (ZN.l2 K k))) cZR [] (Zb.cons e0 (Zb.cons e2 (Zb.cons e13 (Zb.cons e14 (Zb.nil _))))) h' (oC (fun E D H h=>by
      obtain⟨p5,e0,g2⟩:=GP h;obtain⟨w2,e2,g3⟩:=DG.out g2;obtain⟨A4,n4,m4,rfl,g4⟩:=DSl.out g3;obtain⟨x8,e4,g6⟩:=GI g4;obtain⟨w5,e5,g7⟩:=DG.out g6;obtain⟨A5,n5,m5,rfl,g8⟩:=DSl.out g7;obtain⟨x9,e6,g10⟩:=GI g8;obtain⟨x10,e13,g12⟩:=GI g10;obtain⟨x11,e14,g14⟩:=GI g12;obtain⟨rfl,h'⟩:=Zk.out g14;exact okJ (Λ:=(ZN.Λ2 K (ZN.l2 K k))) cZR [] (Zb.cons e0 (Zb.cons e2 (Zb.cons e4 (Zb.cons e5 (Zb.cons e6 (Zb.cons e13 (Zb.cons e14 (Zb.nil _)))))))) h' oN) oN)) oN)
def dZ6 (p1:OA)(x1:Int)(H:Hp)(K:VK):Prop:=
 NN p1 fun a1=>LeI H ((a1.add 0).add 0) fun x2=>NN p1 fun a2=>LeI H ((a2.add 0).add 1) fun x3=>((u64.wrap x3)≠0∧u64=u64∧K (.int .i64 (i64.wrap (x2+(i64.wrap (Int.tmod (u64.wrap (x1-1)) (u64.wrap x3)))))) H)
theorem dZ6.ok p1 x1 H K (h:dZ6 p1 x1 H K):Za Tryz.prog 111 #[.pointer p1,.int .u64 x1] H K:=
 okN cZR Tryz.func111 rfl rfl h
def dZv (y1 y2:Array Value)(H:Hp)(K:VK):Prop:=
 Nw H (.obj (.cells y1 102)) fun b1 H1=>Nw H1 (.obj (.cells y2 102)) fun b2 H2=>LeW H2 ((⟨b1,0,none⟩:Addr).add 0) fun x1=>LeW H2 ((⟨b2,0,none⟩:Addr).add 0) fun x2=>HcI 141 #[.int .u64 x1,.int .u64 x2] H2 fun x3 H3=>K (.int .i64 x3) H3
theorem dZv.ok y1 y2 H K (h:dZv y1 y2 H K):Za Tryz.prog 140 #[.agg y1,.agg y2] H K:=
 okN cZR Tryz.func140 rfl rfl h
end Go.Proofs.YtgfildcgihbdaaaGreatDoor.W
namespace Go.Proofs.YtgfildcgihbdaaaGreatDoor.Lib2
open Go Go.Proofs Go.Shelf Go.RowKit
def tZo :Go.Shelf.Ren:=⟨fun|129=>184|n=>n,fun|53=>82|3=>3|4=>4|46=>110|5=>5|9=>9|n=>n,fun|n=>n⟩
theorem wZ4 :Go.Proofs.Lays.n129 Tryz.prog tZo where
 mixed:=by kernel_rfl
 f129:=Tryz.func184.trans (congrArg some (by kernel_rfl))
 t3:=Tryz.underlying3
 a3:=Tryz.isAgg3
 z3:=Tryz.sizeOf3
 v3:=Tryz.zeroValue3
 t4:=Tryz.underlying4
 a4:=Tryz.isAgg4
 z4:=Tryz.sizeOf4
 v4:=Tryz.zeroValue4
 t5:=Tryz.underlying5
 a5:=Tryz.isAgg5
 z5:=Tryz.sizeOf5
 v5:=Tryz.zeroValue5
 t9:=Tryz.underlying9
 a9:=Tryz.isAgg9
 z9:=Tryz.sizeOf9
 v9:=Tryz.zeroValue9
 t46:=Tryz.underlying110
 a46:=Tryz.isAgg110
 z46:=Tryz.sizeOf110
 v46:=Tryz.zeroValue110
 t53:=Tryz.underlying82
 a53:=Tryz.isAgg82
 z53:=Tryz.sizeOf82
 v53:=Tryz.zeroValue82
end Go.Proofs.YtgfildcgihbdaaaGreatDoor.Lib2
namespace Go.Hw
open Go Go.Proofs Go.Proofs.YtgfildcgihbdaaaGreatDoor.Lib2 Go.RowKit Go.Shelf
theorem sZU (x:Nat)(hx:x<18446744073709551616)(H:Hp):Za Tryz.prog 184 #[.int .u64 (x:Int)] H (RetE (.int .i64 (Lib.bitLen x:Int)) H):=fun w hw=>by
 refine(Any.bits_Len64 wZ4 (x:Int) w (by omega) (by omega)).mono ?_;rintro e w' ⟨rfl,rfl⟩;exact⟨_,H,rfl,⟨by rw[Int.toNat_natCast],rfl⟩,At.refl hw⟩
end Go.Hw
namespace Go.Proofs.YtgfildcgihbdaaaGreatDoor.Srt
open Go Go.Hw W Rec
theorem Sep.wrR {L:List As}{H:Hp}(h:Hw.Sep L H)(i:Nat){e:TypeId}{s:Nat}{A:OA}{n m:Nat}{xs:List Value}(hi:L[i]? =some (Own e s A n m xs)){x:Int}{j:Nat}(hx:x=j)(hj:j<n){y:Array Value}(hy:y.size=s)(hv:y.toList.all (fun v=>v.oneCell')=true){K:Hp→Prop}
  (k:∀ H',Hw.Sep (L.set i (Own e s A n m (setAt xs (j*s) y.toList))) H'→K H'):ixI x n (NN A fun a=>StA H (a.add (x.toNat*s)) y s K):=by
 subst hx;refine⟨by omega,by omega,?_⟩;rcases h.unown i hi with⟨_,h0,_⟩|⟨b,mm,rfl,hmm,hlx,hs⟩
 ·omega
 rw[aZZ,Addr.add_lit',Int.toNat_natCast,Nat.zero_add];have hlt:i<L.length:=(List.getElem?_eq_some_iff.1 hi).1;have hb:H b=some (.row xs e mm):=hs.get i (by rw[List.getElem?_set_self hlt]);have hjs:j*s+s≤n*s:=by
  have:=Nat.mul_le_mul_right s (show j+1≤n by omega)
  rwa [Nat.succ_mul]at this
 have hyl:y.toList.length=s:=by rw[Array.length_toList];exact hy
 refine⟨hy,?_⟩;rw[kZH y.toList 0 H xs hb (by omega) (fun v hq=>List.all_eq_true.1 hv v hq)];refine k _ ?_;have hs2:=hs.put i (.row (setAt xs (j*s+0) y.toList) e mm) (by rw[List.getElem?_set_self hlt]);have hs3:=hs2.turn i (by rw[List.getElem?_set_self (by rw[List.length_set];exact hlt)]) (B:=Own e s (some ⟨b,0,none⟩) n m (setAt xs (j*s) y.toList)) (fun H1 h1=>⟨by rw[cZH (by omega)];exact hlx,.inr ⟨b,mm,rfl,by rw[Nat.add_zero]at h1;exact h1,hmm⟩⟩);rw[List.set_set,List.set_set]at hs3;exact hs3
def cZm (l:List R):List Value:=l.flatMap fun r=>r.c.toList
theorem hZJ :∀(l:List R) (j:Nat) (h:j<l.length),((cZm l).drop (j*8)).take 8=l[j].c.toList
 |r::l,0,_=>by
  show((r.c.toList++cZm l).drop (0*8)).take 8=_
  rw[Nat.zero_mul,List.drop_zero];exact List.take_left' rfl
 |r::l,j+1,h=>by
  have ih:=hZJ l j (by simpa using h);show((r.c.toList++cZm l).drop ((j+1)*8)).take 8=_
  rw[show(j+1)*8=r.c.toList.length+j*8 by rw[show r.c.toList.length=8 from rfl];omega,←List.drop_drop,List.drop_left];exact ih
theorem kZJ :∀(l:List R) (j:Nat) (q:R) (h:j<l.length),setAt (cZm l) (j*8) q.c.toList=cZm (l.set j q)
 |r::l,0,q,_=>by
  show setAt (r.c.toList++cZm l) (0*8) q.c.toList=q.c.toList++cZm l
  unfold setAt;rw[Nat.zero_mul,List.take_zero,List.nil_append,Nat.zero_add];congr 1
 |r::l,j+1,q,h=>by
  have ih:=kZJ l j q (by simpa using h);show setAt (r.c.toList++cZm l) ((j+1)*8) q.c.toList=r.c.toList++cZm (l.set j q)
  rw[← ih];unfold setAt;have e:(j+1)*8=r.c.toList.length+j*8:=by rw[show r.c.toList.length=8 from rfl];omega
  rw[e,List.take_length_add_append,Nat.add_assoc,List.drop_length_add_append];simp
theorem eZU (r:R):r.c.toList.all (fun v=>v.oneCell')=true:=rfl
def dR :R:=⟨0,0,0,0,0,0,0,0⟩
def bub (l:List R):Nat→List R
 |0=>l
 |j+1=>if(l.getD (j+1) dR).s<(l.getD j dR).s then bub ((l.set (j+1) (l.getD j dR)).set j (l.getD (j+1) dR)) j else l
theorem uZN (j:Nat):∀ l,(bub l j).length=l.length:=by
 induction j with
 |zero=>intro l;rfl
 |succ j ih=>
  intro l;unfold bub;split
  ·rw[ih];simp
  ·rfl
def bZ2 (l:List R):Nat→List R
 |0=>l
 |i+1=>bZ2 l i|>fun q=>bub q (i+1)
theorem nZ6 (x:Int)(H:Hp):Za Tryz.prog 180 #[.int .u64 x] H (RetE (.bool false) H):=by
 apply dZq.ok;unfold dZq;simp only[bne_self_eq_false];exact RetE.mk _ _
def pZ9 (a b:Nat):Int:=if a<b then -1 else if b<a then 1 else 0
theorem wZb (a b:Nat)(H:Hp):Za Tryz.prog 141 #[.int .u64 (a:Int),.int .u64 (b:Int)] H (RetE (.int .i64 (pZ9 a b)) H):=by
 apply cZZ.ok;unfold cZZ;refine Za.use (nZ6 _ H) ?_;simp only[HV];refine Za.use (nZ6 _ H) ?_;simp only[HV];unfold pZ9;by_cases h1:a<b
 ·rw[if_pos h1];exact Zm (by omega) (RetE.mk _ _)
 ·rw[if_neg h1];refine Zh (by omega) ?_;by_cases h2:b<a
  ·rw[if_pos h2];exact Zm (by omega) (RetE.mk _ _)
  ·rw[if_neg h2];exact Zh (by omega) (RetE.mk _ _)
theorem lZ3 (a b:R)(H:Hp):Za Tryz.prog 140 #[.agg a.c,.agg b.c] H (RetE (.int .i64 (pZ9 a.s b.s)) H):=Za.ret (by
 apply dZv.ok;unfold dZv;refine(Sep.start H).nw fun b1 H1 hs=>?_
 refine hs.nw fun b2 H1 hs=>?_
 refine hs.ldf 1 rfl rfl ?_;simp only[HV];refine hs.ldf 2 rfl rfl ?_;simp only[HV];refine Za.use (wZb a.s b.s H1) ?_;simp only[HV];exact hs.fin 0 rfl _)
end Go.Proofs.YtgfildcgihbdaaaGreatDoor.Srt
namespace Go.Proofs.YtgfildcgihbdaaaGreatDoor.Srt
open Go Go.Hw W Rec
theorem pZo (l:List R){j:Nat}(h:j<l.length):l.getD j dR=l[j]:=by
 rw[List.getD_eq_getElem?_getD,List.getElem?_eq_getElem h];rfl
theorem mZE (A:OA)(n m i:Nat)(hn:n≤1000)(K:VK)(R1:OA→Nat→Nat→Int→Int→FuncId→Array Value→Array Value→Int→Hp→Prop)(fin:List R)
  (k:∀ H',Hw.Sep [Own 102 8 A n m (cZm fin)] H'→R1 A n m 0 (n:Int) 140 #[] #[] (i64.wrap ((i:Int)+1)) H'):
  ∀(j:Nat) (l:List R) (H:Hp),l.length=n→j<n→bub l j=fin→Hw.Sep [Own 102 8 A n m (cZm l)] H→
   Zg.l4 K R1 (j+1) A n m 0 (n:Int) 140 #[] #[] (i:Int) (j:Int) H
 |0,l,H,hl,hj,hf,hs=>by
  unfold Zg.l4;refine Zh (by omega) ?_;have hf:l=fin:=hf;rw[hf]at hs;exact k H hs
 |j+1,l,H,hl,hj,hf,hs=>by
  unfold Zg.l4;refine Zm (by omega) ?_;have hj1:j+1<l.length:=by omega
  have hj0:j<l.length:=by omega
  have ej:i64.wrap (((j+1:Nat):Int)-1)=(j:Int):=by rw[ZL (by omega) (by omega)];omega
  rw[ej];have ho:=hs.own 0 rfl;refine ho.rdA rfl hj (hZJ l (j+1) hj1) ?_;refine ho.rdA (j:=j) rfl (by omega) (hZJ l j hj0) ?_;refine aZt (by kernel_rfl) ?_;rw[Array.toArray_toList,Array.toArray_toList];refine Za.use (lZ3 l[j+1] l[j] H) ?_;have hr:bZr Tryz.prog 140=[3]:=by kernel_rfl
  rw[hr];have hdt:∀(x:Int) (K:Value→Prop),K (.int .i64 x)→DR Tryz.prog [3] (.int .i64 x) K:=fun x K k=>by
   show DT Tryz.prog 3 (.int .i64 x) K
   unfold DT;rw[show Tryz.prog.underlying 3=some (.int .i64) by kernel_rfl];exact k
  refine hdt _ _ ?_;simp only[HV];unfold bub at hf;rw[pZo l hj1,pZo l hj0]at hf;unfold pZ9;by_cases hlt:l[j+1].s<l[j].s
  ·rw[if_pos hlt]at hf⊢;refine Zm (by decide) ?_;have ix:∀{x:Int} {q:Nat} {P:Addr→Prop},x=q→q<n→(∀ b mm,A=some ⟨b,0,none⟩→P ⟨b,0,none⟩)→ixI x n (NN A P):=fun{x q P} hx hq hp=>by
    refine⟨by omega,by omega,?_⟩;rcases hs.unown 0 rfl with⟨_,h0,_⟩|⟨b,mm,rfl,_,_,_⟩
    ·omega
    ·rw[aZZ];exact hp b mm rfl
   refine ix (q:=j) rfl (by omega) fun b mm hA=>?_
   subst hA;refine⟨by omega,by omega,?_⟩;rw[aZZ];have hw1:=kZJ l (j+1) l[j] hj1;have hw2:=kZJ (l.set (j+1) l[j]) j l[j+1] (by rw[List.length_set];exact hj0);have go:∀ H1,Hw.Sep [Own 102 8 (some ⟨b,0,none⟩) n m (cZm l)] H1→
     ixI ((j+1:Nat):Int) n (NN (some (⟨b,0,none⟩:Addr)) fun a5=>StA H1 (a5.add (((j+1:Nat):Int).toNat*8)) l[j].c 8 fun H2=>ixI (j:Int) n (NN (some (⟨b,0,none⟩:Addr)) fun a6=>StA H2 (a6.add ((j:Int).toNat*8)) l[j+1].c 8 fun H3=>
      Zg.l4 K R1 (j+1) (some ⟨b,0,none⟩) n m 0 (n:Int) 140 #[] #[] (i:Int) (j:Int) H3)):=fun H1 hs=>by
    refine Sep.wrR hs 0 rfl rfl hj rfl (eZU _) fun H2 hs=>?_
    refine Sep.wrR hs 0 rfl rfl (show j<n by omega) rfl (eZU _) fun H3 hs=>?_
    simp only[List.set_cons_zero]at hs;rw[hw1,hw2]at hs;exact mZE (some ⟨b,0,none⟩) n m i hn K R1 fin k j _ H3 (by simp;exact hl) (by omega) hf hs
   have rd:∀{q:Nat} (hq:q<l.length) {P:List Value→Prop},P l[q].c.toList→LdA H ((⟨b,0,none⟩:Addr).add ((q:Int).toNat*8)) 8 P:=fun{q} hq {P} hp=>by
    have:=(hs.own 0 rfl).rdA (x:=(q:Int)) (j:=q) rfl (by omega) (hZJ l q hq) (K:=P) hp;exact this.2.2
   refine⟨?_,?_⟩
   ·refine rd hj0 (rd hj1 ?_);rw[Array.toArray_toList,Array.toArray_toList];exact go H hs
   ·refine rd hj1 (rd hj0 ?_);rw[Array.toArray_toList,Array.toArray_toList];exact go H hs
  ·rw[if_neg hlt]at hf⊢;refine Zh (by split<;>decide) ?_;rw[hf]at hs;exact k H hs
end Go.Proofs.YtgfildcgihbdaaaGreatDoor.Srt
namespace Go.Proofs.YtgfildcgihbdaaaGreatDoor.Srt
open Go Go.Hw W Rec
theorem eZD :∀(i:Nat) (l:List R),(bZ2 l i).length=l.length
 |0,_=>rfl
 |i+1,l=>by
  show(bub (bZ2 l i) (i+1)).length=_
  rw[uZN,eZD i l]
theorem mZF (A:OA)(n m:Nat)(hn:n≤1000)(l:List R)(hl:l.length=n)(K:VK)(k:∀ H',Hw.Sep [Own 102 8 A n m (cZm (bZ2 l (n-1)))] H'→K (.tuple #[]) H'):
  ∀(t i:Nat) (H:Hp),i+t=n-1→Hw.Sep [Own 102 8 A n m (cZm (bZ2 l i))] H→
   Zg.l1 K (t+1) A n m 0 (n:Int) 140 #[] #[] ((i+1:Nat):Int) H
 |0,i,H,hi,hs=>by
  unfold Zg.l1;refine Zh (by omega) ?_;obtain rfl:i=n-1:=by omega
  exact k H hs
 |t+1,i,H,hi,hs=>by
  unfold Zg.l1;refine Zm (by omega) ⟨i+1+1,?_⟩;refine mZE A n m (i+1) hn K _ (bZ2 l (i+1)) (fun H' hs'=>?_) (i+1) (bZ2 l i) H (by rw[eZD];exact hl) (by omega) rfl hs;rw[ZL (by omega) (by omega),show((i+1:Nat):Int)+1=((i+1+1:Nat):Int) by omega];exact mZF A n m hn l hl K k t (i+1) H' (by omega) hs'
theorem nZK (x:Nat)(hx:x<18446744073709551616)(H:Hp):Za Tryz.prog 148 #[.int .u64 (x:Int)] H (RetE (.int .i64 (Go.Lib.bitLen x:Int)) H):=by
 apply cZL.ok;unfold cZL;refine Za.use (sZU x hx H) ?_;simp only[HV];exact RetE.mk _ _
theorem oZW (A:OA)(n m:Nat)(hn:n≤12)(l:List R)(hl:l.length=n):Tr Tryz.prog 139 #[.slice A n m,.func (.func 140) #[] #[]]
  [Own 102 8 A n m (cZm l)] fun v M=>v= .tuple #[]∧M=[Own 102 8 A n m (cZm (bZ2 l (n-1)))]:=fun H hs=>by
 apply bZc.ok;unfold bZc;rw[bZ5 (by omega)];refine Za.use (nZK n (by omega) H) ?_;simp only[HV];have hI:Za Tryz.prog 195 #[.slice A n m,.int .i64 0,.int .i64 (n:Int),.func (.func 140) #[] #[]] H (fun v H'=>v= .tuple #[]∧Hw.Sep [Own 102 8 A n m (cZm (bZ2 l (n-1)))] H'):=by
  apply Zg.ok;unfold Zg;rw[show i64.wrap ((0:Int)+1)=((0+1:Nat):Int) by decide];exact⟨n-1+1,mZF A n m (by omega) l hl _ (fun H' hs'=>⟨rfl,hs'⟩) (n-1) 0 H (by omega) hs⟩
 have hP:Za Tryz.prog 179 #[.slice A n m,.int .i64 0,.int .i64 (n:Int),.int .i64 (Go.Lib.bitLen n:Int),.func (.func 140) #[] #[]] H (fun v H'=>v= .tuple #[]∧Hw.Sep [Own 102 8 A n m (cZm (bZ2 l (n-1)))] H'):=by
  apply Zf.ok;unfold Zf;refine⟨1,?_⟩;unfold Zf.l2;refine Zm (by rw[ZL (by omega) (by omega)];omega) ?_;refine Za.mono hI ?_;rintro v H' ⟨rfl,h⟩;exact⟨rfl,h⟩
 refine Za.mono hP ?_;rintro v H' ⟨rfl,h⟩;exact⟨_,⟨by first|trivial|rfl,rfl⟩,h⟩
theorem swap_perm (l:List R){j:Nat}(h:j+1<l.length):((l.set (j+1) (l.getD j dR)).set j (l.getD (j+1) dR)).Perm l:=by
 induction l generalizing j with
 |nil=>simp at h
 |cons x l ih=>
  cases j with
  |zero=>
   cases l with
   |nil=>simp at h
   |cons y t=>exact List.Perm.swap x y t
  |succ j=>
   exact(ih (j:=j) (by simpa using h)).cons x
theorem tZb (j:Nat):∀(l:List R),j<l.length→(bub l j).Perm l:=by
 induction j with
 |zero=>intro l _;exact List.Perm.refl _
 |succ j ih=>
  intro l h;unfold bub;split
  ·refine(ih _ (by simp;omega)).trans (swap_perm l h)
  ·exact List.Perm.refl _
theorem lZo (l:List R):∀ i,i<l.length∨i=0→(bZ2 l i).Perm l
 |0,_=>List.Perm.refl _
 |i+1,h=>by
  have ih:=lZo l i (by omega);show(bub (bZ2 l i) (i+1)).Perm l
  refine(tZb (i+1) _ (by rw[eZD];omega)).trans ih
end Go.Proofs.YtgfildcgihbdaaaGreatDoor.Srt
namespace Go.Proofs.YtgfildcgihbdaaaGreatDoor.Srt
open Go Go.Hw Rec
def leR (a b:R):Prop:=a.s≤b.s
theorem pZj :∀(j:Nat) (p r:List R) (x:R),p.length=j→∃ p',bub (p++x::r) j=p'++r∧p'.length=j+1∧(p.Pairwise leR→p'.Pairwise leR)∧p'.Perm (x::p)
 |0,p,r,x,h=>by
  rw[List.length_eq_zero_iff.1 h];exact⟨[x],rfl,rfl,fun _=>by simp,List.Perm.refl _⟩
 |j+1,p,r,x,h=>by
  obtain⟨q,y,rfl⟩:∃ q y,p=q++[y]:=⟨_,_,(List.dropLast_concat_getLast (by intro e;rw[e]at h;cases h)).symm⟩;have hq:q.length=j:=by simpa using h
  have e0:q++[y]++x::r=q++y::x::r:=by simp
  rw[e0];unfold bub;have g1:(q++y::x::r).getD (j+1) dR=x:=by rw[List.getD_eq_getElem?_getD,List.getElem?_append_right (by omega),hq,show j+1-j=1 by omega];rfl
  have g0:(q++y::x::r).getD j dR=y:=by rw[List.getD_eq_getElem?_getD,List.getElem?_append_right (by omega),hq,Nat.sub_self];rfl
  rw[g1,g0];by_cases hxy:x.s<y.s
  ·rw[if_pos hxy];have es:((q++y::x::r).set (j+1) y).set j x=q++x::y::r:=by
    rw[List.set_append_right _ _ (by omega),hq,show j+1-j=1 by omega,List.set_append_right _ _ (by omega),hq,Nat.sub_self];rfl
   rw[es];obtain⟨p'',h1,h2,h3,h4⟩:=pZj j q (y::r) x hq;refine⟨p''++[y],by rw[h1];simp,by simp[h2],fun hs=>?_,?_⟩
   ·rw[List.pairwise_append]at hs⊢;obtain⟨s1,_,s3⟩:=hs;refine⟨h3 s1,by simp,fun a ha b hb=>?_⟩;have hb':b=y:=by simpa using hb
    subst hb';rcases List.mem_cons.1 (h4.mem_iff.1 ha)with rfl|ha
    ·exact Nat.le_of_lt hxy
    ·exact s3 a ha b (by simp)
   ·have:(p''++[y]).Perm ((x::q)++[y]):=h4.append_right [y];simpa using this
  ·rw[if_neg hxy];refine⟨q++[y,x],by simp,by simp[hq],fun hs=>?_,?_⟩
   ·rw[List.pairwise_append]at hs⊢;obtain⟨s1,_,s3⟩:=hs;have hyx:leR y x:=Nat.not_lt.1 hxy;refine⟨s1,by simp[hyx],fun a ha b hb=>?_⟩;have hay:=s3 a ha y (by simp);have:b=y∨b=x:=by simpa using hb
    rcases this with rfl|rfl
    ·exact hay
    ·exact Nat.le_trans hay hyx
   ·have:(q++[y]++[x]).Perm (x::(q++[y])):=List.perm_append_comm;simpa using this
theorem mZH :∀(i:Nat) (l:List R),i<l.length→∃ p r,bZ2 l i=p++r∧p.length=i+1∧p.Pairwise leR
 |0,l,h=>by
  cases l with
  |nil=>simp at h
  |cons x t=>exact⟨[x],t,rfl,rfl,by simp⟩
 |i+1,l,h=>by
  obtain⟨p,r,h1,h2,h3⟩:=mZH i l (by omega);have hlen:=eZD i l;cases r with
  |nil=>
   rw[h1,List.append_nil,h2]at hlen;omega
  |cons x r=>
   obtain⟨p',g1,g2,g3,_⟩:=pZj (i+1) p r x h2;refine⟨p',r,?_,g2,g3 h3⟩;show bub (bZ2 l i) (i+1)=_
   rw[h1,g1]
theorem nZ8 (l:List R):(bZ2 l (l.length-1)).Pairwise leR:=by
 by_cases h0:l=[]
 ·subst h0;exact List.Pairwise.nil
 ·have hp:0<l.length:=List.length_pos_iff.2 h0;obtain⟨p,r,h1,h2,h3⟩:=mZH (l.length-1) l (by omega);have hlen:=eZD (l.length-1) l;rw[h1]at hlen⊢;have:r=[]:=by
   rw[List.length_append,h2]at hlen;exact List.length_eq_zero_iff.1 (by omega)
  rw[this,List.append_nil];exact h3
theorem rZF (l:List R):(bZ2 l (l.length-1)).Perm l:=by
 by_cases h0:l=[]
 ·subst h0;exact List.Perm.refl _
 ·have hp:0<l.length:=List.length_pos_iff.2 h0;exact lZo l _ (.inl (by omega))
end Go.Proofs.YtgfildcgihbdaaaGreatDoor.Srt
namespace Go.Proofs.YtgfildcgihbdaaaGreatDoor.Rec
open Go Go.Hw W
abbrev after (a b:R):Prop:=a.good∧b.good∧b.s=a.s+1∧(b.kd=1∨(b.kd=2∧a.kd=1∧a.ld=b.ld∧a.kk=b.kk)∨(b.kd=3∧a.kd≠1∧a.ld=b.ld∧a.kk=b.kk∧a.inp=b.inp∧b.out=0)∨
 (b.kd=4∧3≤a.kd∧a.ld=b.ld∧a.kk=b.kk∧a.inp=b.inp∧a.dir=b.dir∧b.ps=a.ps+1))
abbrev same (a b:R):Prop:=a.ld=b.ld∧a.kk=b.kk∧a.inp=b.inp
theorem pZG (a b:R)(H:Hp):Za Tryz.prog 155 #[.agg a.c,.agg b.c] H (RetE (.bool (decide (same a b))) H):=Za.ret (by
 apply fZn.ok;unfold fZn;refine(Sep.start H).nw fun b1 H1 hs=>?_
 refine hs.nw fun b2 H1 hs=>?_
 have hs:Sep [own H,pts b1 (bZy a),pts b2 (bZy b)] H1:=hs;refine hs.ldf 1 rfl rfl ?_;simp only[HV];refine hs.ldf 2 rfl rfl ?_;simp only[HV];by_cases h1:(a.ld:Int)=(b.ld:Int)
 ·refine ZT h1 ?_;refine hs.ldf 1 rfl rfl ?_;simp only[HV];refine hs.ldf 2 rfl rfl ?_;simp only[HV];by_cases h2:a.kk=b.kk
  ·refine ZT h2 ?_;refine hs.ldf 1 rfl rfl ?_;simp only[HV];refine hs.ldf 2 rfl rfl ?_;simp only[HV];have:decide (same a b)=((a.inp:Int)==(b.inp:Int)):=by
    by_cases h3:(a.inp:Int)=(b.inp:Int)
    ·rw[decide_eq_true ⟨by omega,h2,by omega⟩,h3];simp
    ·rw[decide_eq_false (fun h=>by have:=h.2.2;omega),beq_eq_false_iff_ne.2 h3]
   rw[this];exact hs.fin 0 rfl _
  ·rw[decide_eq_false (fun h=>h2 h.2.1)];exact aZg h2 (hs.fin 0 rfl _)
 ·rw[decide_eq_false (fun h=>h1 (by have:=h.1;omega))];exact aZg h1 (hs.fin 0 rfl _))
section
variable {a b : R} {H0 H : Hp} {b1 b2 : Nat}
theorem kZ5 (hs:Sep [own H0,pts b1 (bZy a),pts b2 (bZy b)] H)(h:¬after a b):Ret (.bool (decide (after a b))) H0 (.bool false) H:=by
 rw[decide_eq_false h];exact hs.fin 0 rfl _
theorem nZj (hs:Sep [own H0,pts b1 (bZy a),pts b2 (bZy b)] H){x:Bool}(h:x=true↔after a b):Ret (.bool (decide (after a b))) H0 (.bool x) H:=by
 have:decide (after a b)=x:=by
  cases x with
  |true=>exact decide_eq_true (h.1 rfl)
  |false=>exact decide_eq_false fun g=>by have:=h.2 g;cases this
 rw[this];exact hs.fin 0 rfl _
end
theorem sZI (a b:R)(H:Hp):Za Tryz.prog 110 #[.agg a.c,.agg b.c] H (RetE (.bool (decide (after a b))) H):=Za.ret (by
 apply eZK.ok;unfold eZK;refine(Sep.start H).nw fun b1 H1 hs=>?_
 refine hs.nw fun b2 H1 hs=>?_
 have hs:Sep [own H,pts b1 (bZy a),pts b2 (bZy b)] H1:=hs;refine hs.ldw 1 rfl rfl ?_;refine Za.use (bZR a H1) ?_;simp only[HV];by_cases ga:a.good
 case neg=>
  rw[decide_eq_false ga];exact aZt rfl (kZ5 hs fun h=>ga h.1)
 rw[decide_eq_true ga];refine aZb rfl ?_;refine hs.ldw 2 rfl rfl ?_;refine Za.use (bZR b H1) ?_;simp only[HV];by_cases gb:b.good
 case neg=>
  rw[decide_eq_false gb];exact aZt rfl (kZ5 hs fun h=>gb h.2.1)
 rw[decide_eq_true gb];refine aZb rfl ?_;have ga':=ga;have gb':=gb;obtain⟨a1,a2,a3,a4,a5,a6⟩:=ga';obtain⟨c1,c2,c3,c4,c5,c6⟩:=gb';refine hs.ldf 2 rfl rfl ?_;simp only[HV];refine hs.ldf 1 rfl rfl ?_;simp only[HV];rw[eZh (x:=(a.s:Int)+1) (by omega) (by omega)];by_cases hsq:(b.s:Int)=(a.s:Int)+1
 case neg=>exact ZC hsq (kZ5 hs fun h=>hsq (by have:=h.2.2.1;omega))
 refine Zq hsq ?_;have hd:∀{P:Prop},(P↔(b.kd=1∨(b.kd=2∧a.kd=1∧a.ld=b.ld∧a.kk=b.kk)∨(b.kd=3∧a.kd≠1∧a.ld=b.ld∧a.kk=b.kk∧a.inp=b.inp∧b.out=0)∨(b.kd=4∧3≤a.kd∧a.ld=b.ld∧a.kk=b.kk∧a.inp=b.inp∧a.dir=b.dir∧b.ps=a.ps+1)))→(P↔after a b):=fun h=>by
  rw[h];exact⟨fun g=>⟨ga,gb,by omega,g⟩,fun g=>g.2.2.2⟩
 have hn:¬(b.kd=1∨(b.kd=2∧a.kd=1∧a.ld=b.ld∧a.kk=b.kk)∨(b.kd=3∧a.kd≠1∧a.ld=b.ld∧a.kk=b.kk∧a.inp=b.inp∧b.out=0)∨(b.kd=4∧3≤a.kd∧a.ld=b.ld∧a.kk=b.kk∧a.inp=b.inp∧a.dir=b.dir∧b.ps=a.ps+1))→Ret (.bool (decide (after a b))) H (.bool false) H1:=fun h=>kZ5 hs fun g=>h g.2.2.2
 refine hs.ldf 2 rfl rfl ?_;simp only[HV];by_cases k1:b.kd=1
 ·exact ZT k1 (nZj hs (hd ⟨fun _=>.inl k1,fun _=>rfl⟩))
 refine aZg k1 ?_;by_cases k2:b.kd=2
 ·refine ZT k2 ?_;refine hs.ldf 1 rfl rfl ?_;simp only[HV];by_cases h1:a.kd=1
  ·refine ZT h1 ?_;refine hs.ldf 1 rfl rfl ?_;simp only[HV];refine hs.ldf 2 rfl rfl ?_;simp only[HV];by_cases h2:(a.ld:Int)=(b.ld:Int)
   ·refine ZT h2 ?_;refine hs.ldf 1 rfl rfl ?_;simp only[HV];refine hs.ldf 2 rfl rfl ?_;simp only[HV];refine nZj hs (hd ?_);rw[beq_iff_eq];omega
   ·exact aZg h2 (hn (by omega))
  ·exact aZg h1 (hn (by omega))
 refine aZg k2 ?_;by_cases k3:b.kd=3
 ·refine ZT k3 ?_;refine hs.ldf 1 rfl rfl ?_;simp only[HV];by_cases h1:a.kd=1
  ·exact Zq h1 (hn (by omega))
  ·refine ZC h1 ?_;refine hs.ldw 1 rfl rfl ?_;refine hs.ldw 2 rfl rfl ?_;refine Za.use (pZG a b H1) ?_;simp only[HV];by_cases h2:same a b
   ·rw[decide_eq_true h2];refine aZt rfl ?_;obtain⟨e1,e2,e3⟩:=h2;refine hs.ldf 2 rfl rfl ?_;simp only[HV];refine nZj hs (hd ?_);rw[beq_iff_eq];omega
   ·rw[decide_eq_false h2];refine aZb rfl (hn fun g=>h2 ?_);rcases g with g|g|g|g
    ·omega
    ·omega
    ·exact⟨g.2.2.1,g.2.2.2.1,g.2.2.2.2.1⟩
    ·omega
 refine aZg k3 ?_;refine hs.ldf 1 rfl rfl ?_;simp only[HV];by_cases h1:a.kd≥3
 ·refine Zm h1 ?_;refine hs.ldw 1 rfl rfl ?_;refine hs.ldw 2 rfl rfl ?_;refine Za.use (pZG a b H1) ?_;simp only[HV];by_cases h2:same a b
  ·rw[decide_eq_true h2];refine aZt rfl ?_;obtain⟨e1,e2,e3⟩:=h2;refine hs.ldf 1 rfl rfl ?_;simp only[HV];refine hs.ldf 2 rfl rfl ?_;simp only[HV];by_cases h3:a.dir=b.dir
   ·refine ZT h3 ?_;refine hs.ldf 2 rfl rfl ?_;simp only[HV];refine hs.ldf 1 rfl rfl ?_;simp only[HV];rw[ZL (x:=a.ps+1) (by omega) (by omega)];refine nZj hs (hd ?_);rw[beq_iff_eq];omega
   ·exact aZg h3 (hn (by omega))
  ·rw[decide_eq_false h2];refine aZb rfl (hn fun g=>h2 ?_);rcases g with g|g|g|g
   ·omega
   ·omega
   ·omega
   ·exact⟨g.2.2.1,g.2.2.2.1,g.2.2.2.2.1⟩
 ·exact Zh h1 (hn (by omega)))
end Go.Proofs.YtgfildcgihbdaaaGreatDoor.Rec
namespace Go.Proofs.YtgfildcgihbdaaaGreatDoor.Rec
open Go Go.Hw Go.Form Go.Crc W
def jZR (ps:List (Nat×Nat)):List Value:=ps.flatMap fun(p:Nat×Nat)=>[Value.int .u64 (p.1:Int),Value.int .u64 (p.2:Int)]
def bZd (w:Nat):List (Nat×Nat)→Nat
 | []=>w
 |p::ps=>bZd (w|||(p.1*2^p.2%2^64)) ps
theorem eZc :∀(ps:List (Nat×Nat)) (w:Nat),w<2^64→bZd w ps<2^64
 | [],w,h=>h
 |p::ps,w,h=>eZc ps _ (nZx h (Nat.mod_lt _ (Nat.two_pow_pos 64)))
theorem mZR :∀(ps:List (Nat×Nat)) (j:Nat) (p:Nat×Nat),ps[j]? =some p→(jZR ps)[j*2]? =some (.int .u64 (p.1:Int))∧(jZR ps)[j*2+1]? =some (.int .u64 (p.2:Int))
 | [],j,p,h=>by simp at h
 |q::ps,0,p,h=>by
  simp at h;subst h;exact⟨rfl,rfl⟩
 |q::ps,j+1,p,h=>by
  have:=mZR ps j p (by simpa using h);rw[show(j+1)*2=j*2+2 by omega];exact this
theorem uZB {H:Hp}{g off:Nat}{u v:Value}{K:List Value→Prop}(h1:H.cell? ⟨g,off,none⟩=some u)(h2:H.cell? ⟨g,off+1,none⟩=some v)(k:K [u,v]):LdA H ⟨g,off,none⟩ 2 K:=by
 have e0:(⟨g,off,none⟩:Addr).add 0=⟨g,off,none⟩:=by rw[Addr.add_lit'];rfl
 have e1:(⟨g,off,none⟩:Addr).add (0+1)=⟨g,off+1,none⟩:=by rw[Addr.add_lit']
 unfold LdA Hp.cells? Hp.cells? Hp.cells?;rw[e0,e1,h1,h2];exact k
theorem mZI {H0:Hp}{b:Nat}{ps:List (Nat×Nat)}(hc:Cells H0 (some ⟨b,0,none⟩) (jZR ps))(hp:∀ p∈ps,p.1<2^64∧p.2≤64)(hl:ps.length≤1000):
  ∀(t j w:Nat) (H:Hp),j+t=ps.length→w<2^64→Sep [own H0] H→aZF.l3 (Ret (.int .u64 ((bZd w (ps.drop j):Nat):Int)) H0) (t+1) (w:Int) (some ⟨b,0,none⟩) ps.length ps.length (ps.length:Int) (j:Int) H
 |0,j,w,H,hj,hw,hs=>by
  unfold aZF.l3;rw[List.drop_eq_nil_of_le (by omega)];exact Zh (by omega) (hs.fin 0 rfl _)
 |t+1,j,w,H,hj,hw,hs=>by
  have hlt:j<ps.length:=by omega
  have hg:=mZR ps j _ (List.getElem?_eq_getElem hlt);obtain⟨hp1,hp2⟩:=hp _ (List.getElem_mem hlt);have hcH:=hc.le (hs.ow 0 rfl);unfold aZF.l3;refine Zm (by omega) ⟨by omega,by omega,?_⟩;rw[List.drop_eq_getElem_cons hlt];generalize ps[j]=p at*;simp only[aZZ];rw[Int.toNat_natCast,Addr.add_lit',Nat.zero_add];have g1:H.cell? ⟨b,j*2,none⟩=some (.int .u64 (p.1:Int)):=by
   obtain⟨a,ha,hc⟩:=hcH _ _ hg.1;cases ha;rw[Addr.add_lit',Nat.zero_add]at hc;exact hc
  have g2:H.cell? ⟨b,j*2+1,none⟩=some (.int .u64 (p.2:Int)):=by
   obtain⟨a,ha,hc⟩:=hcH _ _ hg.2;cases ha;rw[Addr.add_lit',Nat.zero_add]at hc;exact hc
  refine uZB g1 g2 ?_;refine hs.nw fun b1 H1 hs=>?_
  refine hs.stw 1 rfl rfl rfl rfl fun H1 hs=>?_
  refine hs.ldf 1 rfl rfl ?_;simp only[HV];refine hs.ldf 1 rfl rfl ?_;simp only[HV];refine⟨by omega,?_⟩;have hm:p.1*2^p.2%2^64<2^64:=Nat.mod_lt _ (Nat.two_pow_pos 64);rw[qZB (x:=p.1) (i:=(p.2:Int)) (n:=p.2) rfl hp2,orN hw hm,ZL (x:=(j:Int)+1) (by omega) (by omega),show(j:Int)+1=((j+1:Nat):Int) by omega];exact mZI hc hp hl t (j+1) _ H1 (by omega) (nZx hw hm) (hs.re [0] rfl)
theorem uZ3 {H:Hp}{b:Nat}(ps:List (Nat×Nat))(n:Nat)(hn:n=ps.length)(hc:Cells H (some ⟨b,0,none⟩) (jZR ps))(hp:∀ p∈ps,p.1<2^64∧p.2≤64)(hl:ps.length≤1000):
  Za Tryz.prog 187 #[.slice (some ⟨b,0,none⟩) n n] H (RetE (.int .u64 ((bZd 0 ps:Nat):Int)) H):=Za.ret (by
 subst hn;apply aZF.ok;unfold aZF;exact⟨ps.length+1,mZI hc hp hl ps.length 0 0 H (by omega) (by decide) (Sep.start H)⟩)
def R.p1 (r:R):List (Nat×Nat):=[(21061,48),(r.s,0)]
def R.p2 (r:R):List (Nat×Nat):=[(r.ld,32),(r.ps.toNat,24),(r.kk.toNat,16),(r.dir.toNat,8),(r.kd.toNat,0)]
def R.p3 (r:R):List (Nat×Nat):=[(r.inp,32),(r.out,0)]
def R.w3 (r:R):List UInt64:=[UInt64.ofNat (bZd 0 r.p1),UInt64.ofNat (bZd 0 r.p2),UInt64.ofNat (bZd 0 r.p3)]
structure R.u32 (r:R):Prop where
 ld:r.ld<4294967296
 inp:r.inp<4294967296
 out:r.out<4294967296
def oZr (ps:List (Nat×Nat)):AO:=.row (jZR ps) 280 (2*ps.length)
theorem jn {L:List As}{H:Hp}(hs:Sep L H)(i:Nat){b:Nat}{ps:List (Nat×Nat)}(hi:L[i]? =some (pts b (oZr ps)))(n:Nat)(hn:n=ps.length)(hp:∀ p∈ps,p.1<2^64∧p.2≤64)(hl:n≤1000):
  Za Tryz.prog 187 #[.slice (some ⟨b,0,none⟩) n n] H (RetE (.int .u64 ((bZd 0 ps:Nat):Int)) H):=by
 refine uZ3 ps n hn ?_ hp (by omega);have:=Cells.row (hs.get i hi) 0 (jZR ps).length;rw[List.drop_zero,List.take_of_length_le (Nat.le_refl _)]at this;exact this
theorem tZV (r:R)(hg:r.good)(hu:r.u32):Tr Tryz.prog 153 #[.agg r.c] [] fun v M=>∃ b,v= .slice (some ⟨b,0,none⟩) 3 3∧M=[pts b (.row (Zd r.w3) 82 3)]:=fun H hs=>by
 obtain⟨g1,g2,g3,g4,g5,g6⟩:=hg;obtain⟨u1,u2,u3⟩:=hu;have c1:∀ p∈r.p1,p.1<2^64∧p.2≤64:=fun p hp=>by
  simp only[R.p1,List.mem_cons,List.not_mem_nil,or_false]at hp;rcases hp with rfl|rfl<;>exact⟨by simp only[];omega,by simp only[];omega⟩
 have c2:∀ p∈r.p2,p.1<2^64∧p.2≤64:=fun p hp=>by
  simp only[R.p2,List.mem_cons,List.not_mem_nil,or_false]at hp;rcases hp with rfl|rfl|rfl|rfl|rfl<;>exact⟨by simp only[];omega,by simp only[];omega⟩
 have c3:∀ p∈r.p3,p.1<2^64∧p.2≤64:=fun p hp=>by
  simp only[R.p3,List.mem_cons,List.not_mem_nil,or_false]at hp;rcases hp with rfl|rfl<;>exact⟨by simp only[];omega,by simp only[];omega⟩
 apply aZq.ok;unfold aZq aZq.q4 aZq.q3 aZq.q2 aZq.q1;refine hs.nw fun b1 H hs=>?_
 have hs:Sep [pts b1 (bZy r)] H:=hs;refine hs.ldf 0 rfl rfl ?_;simp only[HV];refine hs.ldf 0 rfl rfl ?_;simp only[HV];refine hs.ldf 0 rfl rfl ?_;simp only[HV];refine hs.ldf 0 rfl rfl ?_;simp only[HV];refine hs.ldf 0 rfl rfl ?_;simp only[HV];refine hs.ldf 0 rfl rfl ?_;simp only[HV];refine hs.ldf 0 rfl rfl ?_;simp only[HV];refine hs.ldf 0 rfl rfl ?_;simp only[HV];have e1:u64.wrap (r.ld:Int)=(r.ld:Int):=bZ5 (by omega);have e2:u64.wrap r.ps=(r.ps.toNat:Int):=by rw[eZh (by omega) (by omega)];omega
 have e3:u64.wrap r.kk=(r.kk.toNat:Int):=by rw[eZh (by omega) (by omega)];omega
 have e4:u64.wrap r.dir=(r.dir.toNat:Int):=by rw[eZh (by omega) (by omega)];omega
 have e5:u64.wrap r.kd=(r.kd.toNat:Int):=by rw[eZh (by omega) (by omega)];omega
 have e6:u64.wrap (r.inp:Int)=(r.inp:Int):=bZ5 (by omega);have e7:u64.wrap (r.out:Int)=(r.out:Int):=bZ5 (by omega);rw[e1,e2,e3,e4,e5,e6,e7];have done:∀{L:List As} {H:Hp},Sep L H→Nw H (.row [.int .u64 ((bZd 0 r.p1:Nat):Int),.int .u64 ((bZd 0 r.p2:Nat):Int),.int .u64 ((bZd 0 r.p3:Nat):Int)] 82 3) fun b5 H5=>∃ M,(∃ b,(.slice (some ⟨b5,0,none⟩) 3 3:Value)= .slice (some ⟨b,0,none⟩) 3 3∧M=[pts b (.row (Zd r.w3) 82 3)])∧Sep M H5:=fun{L H} hs=>by
  refine hs.nw fun b5 H5 hs=>⟨_,⟨b5,rfl,rfl⟩,?_⟩
  have hw:Zd r.w3=[.int .u64 ((bZd 0 r.p1:Nat):Int),.int .u64 ((bZd 0 r.p2:Nat):Int),.int .u64 ((bZd 0 r.p3:Nat):Int)]:=by
   show [Value.int .u64 ((UInt64.ofNat (bZd 0 r.p1)).toNat:Int),Value.int .u64 ((UInt64.ofNat (bZd 0 r.p2)).toNat:Int),Value.int .u64 ((UInt64.ofNat (bZd 0 r.p3)).toNat:Int)]=_
   rw[UInt64.toNat_ofNat_of_lt' (eZc r.p1 0 (by decide)),UInt64.toNat_ofNat_of_lt' (eZc r.p2 0 (by decide)),UInt64.toNat_ofNat_of_lt' (eZc r.p3 0 (by decide))]
  rw[hw];have hg:=hs.get L.length (b:=b5) (o:=.row [.int .u64 ((bZd 0 r.p1:Nat):Int),.int .u64 ((bZd 0 r.p2:Nat):Int),.int .u64 ((bZd 0 r.p3:Nat):Int)] 82 3) (by simp);exact⟨H5,fun _=>none,Hp.le_refl _,fun b o h=>(by cases h),fun b=>.inr rfl,hg,trivial⟩
 have n1:∀{L:List As} {H:Hp} {K:Nat→Hp→Prop},Sep L H→(∀ b H',Sep (L++[pts b (oZr r.p1)]) H'→K b H')→Nw H (.row [.int .u64 21061,.int .u64 48,.int .u64 (r.s:Int),.int .u64 0] 280 4) K:=fun hs k=>hs.nw k
 have n2:∀{L:List As} {H:Hp} {K:Nat→Hp→Prop},Sep L H→(∀ b H',Sep (L++[pts b (oZr r.p2)]) H'→K b H')→Nw H (.row [.int .u64 (r.ld:Int),.int .u64 32,.int .u64 (r.ps.toNat:Int),.int .u64 24,.int .u64 (r.kk.toNat:Int),.int .u64 16,.int .u64 (r.dir.toNat:Int),.int .u64 8,.int .u64 (r.kd.toNat:Int),.int .u64 0] 280 10) K:=fun hs k=>hs.nw k
 have n3:∀{L:List As} {H:Hp} {K:Nat→Hp→Prop},Sep L H→(∀ b H',Sep (L++[pts b (oZr r.p3)]) H'→K b H')→Nw H (.row [.int .u64 (r.inp:Int),.int .u64 32,.int .u64 (r.out:Int),.int .u64 0] 280 4) K:=fun hs k=>hs.nw k
 refine⟨n1 hs fun b2 H hs=>?_,n2 hs fun b2 H hs=>?_,n3 hs fun b2 H hs=>?_⟩
 ·refine ZM.use (jn hs 1 rfl 2 rfl c1 (by decide)) ?_;simp only[HV];refine⟨n2 hs fun b3 H hs=>?_,n3 hs fun b3 H hs=>n2 hs fun b4 H hs=>?_⟩
  ·refine ZM.use (jn hs 2 rfl 5 rfl c2 (by decide)) ?_;simp only[HV];refine n3 hs fun b4 H hs=>?_
   refine ZM.use (jn hs 3 rfl 2 rfl c3 (by decide)) ?_;simp only[HV];exact done hs
  ·refine ZM.use (jn hs 3 rfl 5 rfl c2 (by decide)) ?_;simp only[HV];refine ZM.use (jn hs 2 rfl 2 rfl c3 (by decide)) ?_;simp only[HV];exact done hs
 ·refine⟨n1 hs fun b3 H hs=>?_,n3 hs fun b3 H hs=>n1 hs fun b4 H hs=>?_⟩
  ·refine ZM.use (jn hs 2 rfl 2 rfl c1 (by decide)) ?_;simp only[HV];refine ZM.use (jn hs 1 rfl 5 rfl c2 (by decide)) ?_;simp only[HV];refine n3 hs fun b4 H hs=>?_
   refine ZM.use (jn hs 3 rfl 2 rfl c3 (by decide)) ?_;simp only[HV];exact done hs
  ·refine ZM.use (jn hs 3 rfl 2 rfl c1 (by decide)) ?_;simp only[HV];refine ZM.use (jn hs 1 rfl 5 rfl c2 (by decide)) ?_;simp only[HV];refine ZM.use (jn hs 2 rfl 2 rfl c3 (by decide)) ?_;simp only[HV];exact done hs
 ·refine⟨n1 hs fun b3 H hs=>?_,n2 hs fun b3 H hs=>n1 hs fun b4 H hs=>?_⟩
  ·refine ZM.use (jn hs 2 rfl 2 rfl c1 (by decide)) ?_;simp only[HV];refine n2 hs fun b4 H hs=>?_
   refine ZM.use (jn hs 3 rfl 5 rfl c2 (by decide)) ?_;simp only[HV];refine ZM.use (jn hs 1 rfl 2 rfl c3 (by decide)) ?_;simp only[HV];exact done hs
  ·refine ZM.use (jn hs 3 rfl 2 rfl c1 (by decide)) ?_;simp only[HV];refine ZM.use (jn hs 2 rfl 5 rfl c2 (by decide)) ?_;simp only[HV];refine ZM.use (jn hs 1 rfl 2 rfl c3 (by decide)) ?_;simp only[HV];exact done hs
end Go.Proofs.YtgfildcgihbdaaaGreatDoor.Rec
namespace Go.Proofs.YtgfildcgihbdaaaGreatDoor.Gen
open Go
def eZp (xs:List Nat):List Value:=List.map (fun(x:Nat)=>Value.int .u64 (x:Int)) xs
theorem gZK (xs:List Nat):(eZp xs).length=xs.length:=by simp[eZp]
theorem bZW :Hw.bZf Tryz.prog 82=some (1,8,some #[.int .u64 0]):=by kernel_rfl
end Go.Proofs.YtgfildcgihbdaaaGreatDoor.Gen
namespace Go.Hw
open Go
end Go.Hw
namespace Go.Proofs.YtgfildcgihbdaaaGreatDoor.Rec
open Go Go.Hw Go.Form Go.Crc W
theorem tZd :bZf Tryz.prog 82=some (1,8,some #[.int .u64 0]):=by kernel_rfl
theorem eZn :bZf Tryz.prog 5=some (1,1,some #[.int .u8 0]):=by kernel_rfl
def gZL (l:List UInt64):List (Nat×Nat):=[(4294967295-(sum (form l)).toNat,32),((sum (form l)).toNat,0)]
theorem pZH (A:OA)(n m:Nat)(l:List UInt64)(hn:n=l.length)(hm:n≤1000)(H:Hp)(hl:Cells H A (Zd l)):Za Tryz.prog 154 #[.slice A n m] H (RetE (.int .u64 ((bZd 0 (gZL l):Nat):Int)) H):=Za.ret (by
 apply fZo.ok;unfold fZo;have hs:=Sep.start H;refine Za.use (CrcP.iZy A n m l hn (by omega) H hl) ?_;simp only[HV];have hx:eZA .u32 u32.max ((sum (form l)).toNat:Int)=((4294967295-(sum (form l)).toNat:Nat):Int):=by
  rw[show u32.max=((BitVec.allOnes 32).toNat:Int)from rfl,iZW,BitVec.allOnes_xor,BitVec.toNat_not]
 have hlt:=(sum (form l)).isLt;rw[hx,bZ5 (n:=4294967295-(sum (form l)).toNat) (by omega),bZ5 (n:=(sum (form l)).toNat) (by omega)];refine hs.nw fun b1 H1 hs=>?_
 have hs:Sep [own H,pts b1 (oZr (gZL l))] H1:=hs;refine Za.use (jn hs 1 rfl 2 rfl (fun p hp=>?_) (by decide)) ?_
 ·simp only[gZL,List.mem_cons,List.not_mem_nil,or_false]at hp;rcases hp with rfl|rfl<;>exact⟨by simp only[];omega,by simp only[];omega⟩
 simp only[HV];exact hs.fin 0 rfl _)
def R.w4 (r:R):List UInt64:=r.w3++[UInt64.ofNat (bZd 0 (gZL r.w3))]
theorem vZR (r:R)(hg:r.good)(hu:r.u32)(size:Nat)(h32:32≤size)(h40:size≤4096)(hsz:(Lay.gZs 0 size).2=0):
  Tr Tryz.prog 109 #[.agg r.c,.int .i64 (size:Int)] [] fun v M=>∃ b,v= .tuple #[.slice (some ⟨b,0,none⟩) size size,.int .i64 0]∧
   M=[pts b (.row (setAt (aZs [.int .u8 0] size) 0 (Zn (form r.w4))) 5 (size*1))]:=fun H hs=>by
 apply dZU.ok;unfold dZU;refine hs.nw fun b1 H hs=>?_
 have hs:Sep [pts b1 (bZy r)] H:=hs;refine hs.ldw 0 rfl rfl ?_;refine Za.use (bZR r H) ?_;rw[decide_eq_true hg];simp only[HV];have hsec:Za Tryz.prog 152 #[.int .i64 (size:Int)] H (RetE (.bool true) H):=by
  apply cZN.ok;unfold cZN;refine Za.use (Lay.jZH 0 size H) ?_;rw[hsz];simp only[HV];exact RetE.mk _ _
 refine Za.use hsec ?_;simp only[HV];refine hs.ldw 0 rfl rfl ?_;refine(tZV r hg hu).use hs [] rfl rfl ?_;rintro _ _ H ⟨b3,rfl,rfl⟩ hs;simp only[HV];refine hs.mks eZn rfl (n:=size) (m:=size) rfl rfl (Nat.le_refl _) (by omega) (by omega) fun bo H hs=>?_
 simp only[HV];have hs:Sep [pts b3 (.row (Zd r.w3) 82 3),pts b1 (bZy r),pts bo (.row (aZs [.int .u8 0] size) 5 (size*1))] H:=hs;have hc:Cells H (some ⟨b3,0,none⟩) (Zd r.w3):=by
  have:=Cells.row (hs.get 0 rfl) 0 3;exact this
 refine Za.use (pZH (some ⟨b3,0,none⟩) 3 3 r.w3 rfl (by omega) H hc) ?_;simp only[HV];have hs:=hs.turn 0 rfl (B:=Own 82 1 (some ⟨b3,0,none⟩) 3 3 (Zd r.w3)) (fun H1 h=>⟨rfl,.inr ⟨b3,3,rfl,h,Nat.le_refl _⟩⟩);refine hs.app1 0 rfl tZd (by omega) rfl (by omega) (by omega) fun A' m' H hs=>?_
 simp only[HV];have hw:Zd r.w3++[.int .u64 ((bZd 0 (gZL r.w3):Nat):Int)]=Zd r.w4:=by
  unfold R.w4 Zd;rw[List.map_append];show _=_++[Value.int .u64 ((UInt64.ofNat (bZd 0 (gZL r.w3))).toNat:Int)]
  rw[UInt64.toNat_ofNat_of_lt' (eZc _ 0 (by decide))]
 rw[hw]at hs;have hc:Cells H A' (Zd r.w4):=by
  obtain⟨hl,h⟩:=hs.own 0 rfl;rcases h with⟨_,h0,_⟩|⟨b,mm,rfl,hb,_⟩
  ·omega
  ·have:=Cells.row hb 0 4;exact this
 refine Za.mono (FormP.Put_ok A' 4 m' r.w4 rfl (by omega) H hc) ?_;rintro _ _ ⟨b',hb',rfl,rfl⟩;have hs:=hs.new hb' (.row (Zn (form r.w4)) 5 (8*4));generalize H.set b' (.row (Zn (form r.w4)) 5 (8*4))=H at*;simp only[HV];have hlen:(Zn (form r.w4)).length=32:=by rw[ZO,aZ6];rfl
 have hmin:Nat.min 32 size=32:=Nat.min_eq_left h32;refine hs.cp 2 (b:=bo) (off:=0) (n:=size) (k:=32) (xs:=aZs [.int .u8 0] size) (e':=5) (m:=size*1) (ys:=Zn (form r.w4)) rfl eZn rfl ?_ ?_ (fun y hy=>?_) fun H hs=>?_
 ·rw[hmin];have:=Cells.row (hs.get 3 rfl) 0 32;rw[List.drop_zero,List.take_of_length_le (by rw[hlen];exact Nat.le_refl _)]at this;exact iZp this hlen.symm
 ·rw[hlen,bZs,List.length_replicate];omega
 ·obtain⟨z,_,rfl⟩:=List.mem_map.1 hy;rfl
 simp only[HV];exact⟨_,⟨bo,rfl,rfl⟩,hs.re [2] rfl⟩
end Go.Proofs.YtgfildcgihbdaaaGreatDoor.Rec
namespace Go.Proofs.YtgfildcgihbdaaaGreatDoor.Lib2
open Go Go.Proofs Go.Shelf Go.RowKit
def sZr :Go.Shelf.Ren:=⟨fun|160=>194|232=>221|231=>220|227=>222|234=>224|233=>223|236=>226|235=>225|228=>243|271=>246|151=>245|197=>244|120=>260|152=>259|260=>258|137=>265|119=>266|224=>267|225=>268|217=>272|266=>274|n=>n,fun|9=>9|4=>4|3=>3|5=>5|117=>320|116=>319|0=>0|124=>323|21=>21|105=>337|46=>110|119=>355|139=>358|138=>357|n=>n,fun|3=>3|4=>4|n=>n⟩
theorem wZY :Go.Proofs.Lays.n160 Tryz.prog sZr where
 mixed:=by kernel_rfl
 f119:=Tryz.func266.trans (congrArg some (by kernel_rfl))
 f120:=Tryz.func260.trans (congrArg some (by kernel_rfl))
 f137:=Tryz.func265.trans (congrArg some (by kernel_rfl))
 f151:=Tryz.func245.trans (congrArg some (by kernel_rfl))
 f152:=Tryz.func259.trans (congrArg some (by kernel_rfl))
 f160:=Tryz.func194.trans (congrArg some (by kernel_rfl))
 f197:=Tryz.func244.trans (congrArg some (by kernel_rfl))
 f217:=Tryz.func272.trans (congrArg some (by kernel_rfl))
 f224:=Tryz.func267.trans (congrArg some (by kernel_rfl))
 f225:=Tryz.func268.trans (congrArg some (by kernel_rfl))
 f227:=Tryz.func222.trans (congrArg some (by kernel_rfl))
 f228:=Tryz.func243.trans (congrArg some (by kernel_rfl))
 f231:=Tryz.func220.trans (congrArg some (by kernel_rfl))
 f232:=Tryz.func221.trans (congrArg some (by kernel_rfl))
 f233:=Tryz.func223.trans (congrArg some (by kernel_rfl))
 f234:=Tryz.func224.trans (congrArg some (by kernel_rfl))
 f235:=Tryz.func225.trans (congrArg some (by kernel_rfl))
 f236:=Tryz.func226.trans (congrArg some (by kernel_rfl))
 f260:=Tryz.func258.trans (congrArg some (by kernel_rfl))
 f266:=Tryz.func274.trans (congrArg some (by kernel_rfl))
 f271:=Tryz.func246.trans (congrArg some (by kernel_rfl))
 t0:=Tryz.underlying0
 a0:=Tryz.isAgg0
 z0:=Tryz.sizeOf0
 v0:=Tryz.zeroValue0
 t3:=Tryz.underlying3
 a3:=Tryz.isAgg3
 z3:=Tryz.sizeOf3
 v3:=Tryz.zeroValue3
 t4:=Tryz.underlying4
 a4:=Tryz.isAgg4
 z4:=Tryz.sizeOf4
 v4:=Tryz.zeroValue4
 t5:=Tryz.underlying5
 a5:=Tryz.isAgg5
 z5:=Tryz.sizeOf5
 v5:=Tryz.zeroValue5
 t9:=Tryz.underlying9
 a9:=Tryz.isAgg9
 z9:=Tryz.sizeOf9
 v9:=Tryz.zeroValue9
 t21:=Tryz.underlying21
 a21:=Tryz.isAgg21
 z21:=Tryz.sizeOf21
 v21:=Tryz.zeroValue21
 t46:=Tryz.underlying110
 a46:=Tryz.isAgg110
 z46:=Tryz.sizeOf110
 v46:=Tryz.zeroValue110
 t105:=Tryz.underlying337
 a105:=Tryz.isAgg337
 z105:=Tryz.sizeOf337
 v105:=Tryz.zeroValue337
 t116:=Tryz.underlying319
 a116:=Tryz.isAgg319
 z116:=Tryz.sizeOf319
 t117:=Tryz.underlying320
 a117:=Tryz.isAgg320
 z117:=Tryz.sizeOf320
 v117:=Tryz.zeroValue320
 t119:=Tryz.underlying355
 a119:=Tryz.isAgg355
 z119:=Tryz.sizeOf355
 t124:=Tryz.underlying323
 a124:=Tryz.isAgg323
 z124:=Tryz.sizeOf323
 v124:=Tryz.zeroValue323
 t138:=Tryz.underlying357
 a138:=Tryz.isAgg357
 z138:=Tryz.sizeOf357
 v138:=Tryz.zeroValue357
 t139:=Tryz.underlying358
 a139:=Tryz.isAgg358
 z139:=Tryz.sizeOf358
 v139:=Tryz.zeroValue358
 g3:=by kernel_rfl
 g4:=by kernel_rfl
end Go.Proofs.YtgfildcgihbdaaaGreatDoor.Lib2
namespace Go.Hw
open Go Go.Proofs Go.Proofs.YtgfildcgihbdaaaGreatDoor.Lib2 Go.RowKit Go.Shelf
theorem uZG (s:ByteArray)(c:UInt8)(hc:c.toNat<128)(hs:s.size≤9223372036854775807)(H:Hp):
  Za Tryz.prog 194 #[.string s,.string ⟨#[c]⟩] H (RetE (.string ⟨(Lib.trimB s.data.toList c).toArray⟩) H):=fun w hw=>by
 refine(Any.strings_Trim_one wZY s c hc w hs).mono ?_;rintro e w' ⟨rfl,h⟩;refine⟨_,H,rfl,⟨rfl,rfl⟩,?_⟩;rcases h with rfl|rfl
 ·exact At.refl hw
 ·exact⟨hw,Nat.le_refl _,rfl,rfl,rfl,fun _ _ h=>⟨h,rfl⟩⟩
theorem rZn (p:UInt8→Bool):∀ l:List UInt8,l.dropWhile p=[]↔∀ x∈l,p x=true
 | []=>by simp
 |z::l=>by
  rw[List.dropWhile_cons];by_cases hz:p z=true
  ·rw[if_pos hz,rZn p l];constructor
   ·intro h x hx;rcases List.mem_cons.1 hx with rfl|hx
    ·exact hz
    ·exact h x hx
   ·intro h x hx;exact h x (List.mem_cons_of_mem _ hx)
  ·rw[if_neg hz];constructor
   ·intro h;cases h
   ·intro h;exact absurd (h z (by simp)) hz
theorem rZm (p:UInt8→Bool):∀ l:List UInt8,(∀ x∈l.dropWhile p,p x=true)→∀ x∈l,p x=true
 | [],_=>by simp
 |z::l,h=>by
  rw[List.dropWhile_cons]at h;by_cases hz:p z=true
  ·rw[if_pos hz]at h;intro x hx;rcases List.mem_cons.1 hx with rfl|hx
   ·exact hz
   ·exact rZm p l h x hx
  ·rw[if_neg hz]at h;exact absurd (h z (by simp)) hz
theorem mZ1 (l:List UInt8)(c:UInt8):Lib.trimB l c=[]↔∀ x∈l,x=c:=by
 unfold Lib.trimB Lib.trimLeftB Lib.trimRightB;rw[rZn];constructor
 ·intro h x hx;have:=rZm (· ==c) l.reverse (fun y hy=>h y (by simpa using hy)) x (by simpa using hx);simpa using this
 ·intro h x hx;have:=(List.dropWhile_sublist (· ==c)).subset (List.mem_reverse.1 hx);simpa using h x (List.mem_reverse.1 this)
end Go.Hw
namespace Go.Proofs.YtgfildcgihbdaaaGreatDoor.Rec
open Go Go.Hw Go.Form Go.Crc W
def hZZ (a b c:Nat):R:=⟨a%281474976710656,((b%256:Nat):Int),((b/65536%256:Nat):Int),((b/256%256:Nat):Int),((b/16777216%256:Nat):Int),b/4294967296,c/4294967296,c%4294967296⟩
theorem wZl {x:Nat}(hx:x<2^64):aZo .u64 (x:Int) 281474976710655=((x%281474976710656:Nat):Int):=by
 rw[show(281474976710655:Int)=((281474976710655:Nat):Int)from rfl,lZX hx (by omega),show 281474976710655=2^48-1 from rfl,Nat.and_two_pow_sub_one_eq_mod]
theorem nZt {x:Nat}(hx:x<2^64):aZo .u64 (x:Int) 255=((x%256:Nat):Int):=by
 rw[show(255:Int)=((255:Nat):Int)from rfl,lZX hx (by omega),show 255=2^8-1 from rfl,Nat.and_two_pow_sub_one_eq_mod]
theorem xZa (x:Nat):u32.wrap (x:Int)=((x%4294967296:Nat):Int):=by
 simp only[IntKind.wrap,IntKind.bits,IntKind.signed,Bool.false_and,Bool.false_eq_true,if_false];omega
theorem nZw (A:OA)(n m a b c:Nat)(ws:List Nat)(hn:n=(a::b::c::ws).length)(ha:a<2^64)(hb:b<2^64)(hc:c<2^64)(H:Hp)(hl:Cells H A (Gen.eZp (a::b::c::ws))):
  Za Tryz.prog 178 #[.slice A n m] H (RetE (.agg (hZZ a b c).c) H):=Za.ret (by
 apply gZC.ok;unfold gZC;have hlen:(Gen.eZp (a::b::c::ws)).length≤n:=by rw[Gen.gZK,hn];exact Nat.le_refl _
 refine(Sep.start H).nw fun b1 H1 hs=>?_
 have hl1:=hl.le (hs.ow 0 rfl);have r0:(Gen.eZp (a::b::c::ws))[0]? =some (.int .u64 (a:Int)):=rfl;have r1:(Gen.eZp (a::b::c::ws))[1]? =some (.int .u64 (b:Int)):=rfl;have r2:(Gen.eZp (a::b::c::ws))[2]? =some (.int .u64 (c:Int)):=rfl;refine hl1.read r0 rfl hlen ?_;simp only[HV];refine hl1.read r1 rfl hlen ?_;simp only[HV];refine hl1.read r1 rfl hlen ?_;simp only[HV];refine⟨by decide,?_⟩;refine hl1.read r1 rfl hlen ?_;simp only[HV];refine⟨by decide,?_⟩;refine hl1.read r1 rfl hlen ?_;simp only[HV];refine⟨by decide,?_⟩;refine hl1.read r1 rfl hlen ?_;simp only[HV];refine⟨by decide,?_⟩;refine hl1.read r2 rfl hlen ?_;simp only[HV];refine⟨by decide,?_⟩;refine hl1.read r2 rfl hlen ?_;simp only[HV];have s8:aZn .u64 (b:Int) 8=((b/256:Nat):Int):=hZK (k:=.u64) (a:=b) (i:=8) (n:=8) rfl (by decide);have s16:aZn .u64 (b:Int) 16=((b/65536:Nat):Int):=hZK (k:=.u64) (a:=b) (i:=16) (n:=16) rfl (by decide);have s24:aZn .u64 (b:Int) 24=((b/16777216:Nat):Int):=hZK (k:=.u64) (a:=b) (i:=24) (n:=24) rfl (by decide);have s32:aZn .u64 (b:Int) 32=((b/4294967296:Nat):Int):=hZK (k:=.u64) (a:=b) (i:=32) (n:=32) rfl (by decide);have t32:aZn .u64 (c:Int) 32=((c/4294967296:Nat):Int):=hZK (k:=.u64) (a:=c) (i:=32) (n:=32) rfl (by decide);rw[s8,s16,s24,s32,t32,wZl ha,nZt hb,nZt (x:=b/65536) (by omega),nZt (x:=b/256) (by omega),nZt (x:=b/16777216) (by omega),aZu (n:=b%256) (by omega),aZu (n:=b/65536%256) (by omega),aZu (n:=b/256%256) (by omega),aZu (n:=b/16777216%256) (by omega),
  oZM (n:=b/4294967296) (by omega),oZM (n:=c/4294967296) (by omega),xZa c]
 refine hs.stw 1 rfl rfl rfl rfl fun H1 hs=>?_
 refine hs.ldw 1 rfl rfl ?_;exact hs.fin 0 rfl _)
def wds (bs:List UInt8)(n:Nat):List Nat:=(List.range n).map fun i=>Zt bs (8*i)
theorem tZX (bs:List UInt8)(n:Nat):wds bs (n+1)=wds bs n++[Zt bs (8*n)]:=by
 unfold wds;rw[List.range_succ,List.map_append];rfl
def gZa (bs:List UInt8):Bool:=decide (∀ x∈bs.drop 32,x=0)
theorem nZU (K:VK){A:OA}{n m:Nat}{bs:List UInt8}{R:As}(hR:∀ H,R H→Cells H A (Zn bs))(hn:n=bs.length)(hnm:n≤m)(h32:32≤n)(hbig:n≤1000000)
  (hK:∀ A' m' H,4≤m'→Sep [R,Own 82 1 A' 4 m' (Gen.eZp (wds bs 4))] H→K (.tuple #[.slice A' 4 m',.bool (gZa bs)]) H):
  ∀(t i:Nat) (A':OA) (m':Nat) (H:Hp),i+t=4→i≤m'→Sep [R,Own 82 1 A' i m' (Gen.eZp (wds bs i))] H→aZO.l2 K (t+1) A n m A' i m' (i:Int) H
 |0,i,A',m',H,hi,hm',hs=>by
  obtain rfl:i=4:=by omega
  have hc:Cells H A (Zn bs):=by
   obtain⟨H1,h1,hle⟩:=hs.see 0 rfl;exact(hR H1 h1).le hle
  unfold aZO.l2;refine Zh (by decide) ?_;refine hZL (l:=32) rfl h32 ?_;have h1:Cells H (slA A m 32 1) (Zn (bs.drop 32)):=by
   have:=hc.shift (m:=m) (l:=32) (by rw[ZO];omega);rw[show(Zn bs).drop 32=Zn (bs.drop 32) by unfold Zn;rw[List.map_drop]]at this;exact this
  refine qZR h1 (by rw[List.length_drop];omega) ?_;refine Za.use (uZG ⟨(bs.drop 32).toArray⟩ 0 (by decide) (by show(bs.drop 32).toArray.size≤_;simp;omega) H) ?_;simp only[HV];have he:((⟨(Go.Lib.trimB (bs.drop 32) 0).toArray⟩:ByteArray).toList==(⟨#[]⟩:ByteArray).toList)=gZa bs:=by
   rw[ByteArray.toList_mk,show(⟨#[]⟩:ByteArray).toList=[]from ByteArray.toList_mk []];unfold gZa;by_cases h:Go.Lib.trimB (bs.drop 32) 0=[]
   ·rw[h,decide_eq_true ((mZ1 _ _).1 h)];rfl
   ·rw[decide_eq_false (fun g=>h ((mZ1 _ _).2 g)),beq_eq_false_iff_ne.2 h]
  rw[he];exact hK A' m' H hm' hs
 |t+1,i,A',m',H,hi,hm',hs=>by
  have hc:Cells H A (Zn bs):=by
   obtain⟨H1,h1,hle⟩:=hs.see 0 rfl;exact(hR H1 h1).le hle
  unfold aZO.l2;refine Zm (by omega) ?_;refine Za.use (FormP.Word_ok A n m hnm (by omega) bs hn i (by omega) H hc) ?_;simp only[HV];refine qZ4 ?_;refine hs.app1 1 rfl Gen.bZW (by omega) rfl (by omega) (by omega) fun A2 m2 H hs hcap=>?_
  simp only[HV];rw[ZL (x:=(i:Int)+1) (by omega) (by omega),show(i:Int)+1=((i+1:Nat):Int) by omega];refine nZU K hR hn hnm h32 hbig hK t (i+1) A2 m2 H (by omega) (hcap _ _ _ rfl) ?_;rw[tZX,show Gen.eZp (wds bs i++[Zt bs (8*i)])=Gen.eZp (wds bs i)++[.int .u64 ((Zt bs (8*i):Nat):Int)] by unfold Gen.eZp;rw[List.map_append];rfl];exact hs
theorem vZ0 {A:OA}{n m:Nat}{bs:List UInt8}{R:As}(hR:∀ H,R H→Cells H A (Zn bs))(hn:n=bs.length)(hnm:n≤m)(h32:32≤n)(hbig:n≤1000000):
  Tr Tryz.prog 177 #[.slice A n m] [R] fun v M=>∃ A' m',4≤m'∧v= .tuple #[.slice A' 4 m',.bool (gZa bs)]∧M=[R,Own 82 1 A' 4 m' (Gen.eZp (wds bs 4))]:=fun H hs=>by
 apply aZO.ok;unfold aZO;have e0:Sep [R,Own 82 1 none 0 0 (Gen.eZp (wds bs 0))] H:=by
  have:Sep (Own 82 1 none 0 0 []::[R]) H:=⟨fun _=>none,H,fun _ _ h=>(nomatch h),Hp.le_refl _,fun _=>.inl rfl,Own.none _ _ _,hs⟩;exact this.re [1,0] rfl
 refine⟨5,?_⟩;refine nZU _ hR hn hnm h32 hbig (fun A' m' H hm' hs=>?_) 4 0 none 0 H rfl (Nat.le_refl _) e0;exact⟨_,⟨A',m',hm',rfl,rfl⟩,hs⟩
end Go.Proofs.YtgfildcgihbdaaaGreatDoor.Rec
namespace Go.Proofs.YtgfildcgihbdaaaGreatDoor.Rec
open Go Go.Hw Go.Form Go.Crc W
def secB (n:Int):Bool:=decide ((Lay.gZs 0 n).2=0)
theorem hZ1 (x:Int)(H:Hp):Za Tryz.prog 152 #[.int .i64 x] H (RetE (.bool (secB x)) H):=by
 apply cZN.ok;unfold cZN;refine Za.use (Lay.jZH 0 x H) ?_;simp only[HV];refine⟨?_,rfl⟩;unfold secB;by_cases h:(Lay.gZs 0 x).2=0
 ·rw[decide_eq_true h,h];rfl
 ·rw[decide_eq_false h,beq_eq_false_iff_ne.2 h]
def bZe :R:=⟨0,0,0,0,0,0,0,0⟩
def w3U (bs:List UInt8):List UInt64:=[UInt64.ofNat (Zt bs 0),UInt64.ofNat (Zt bs 8),UInt64.ofNat (Zt bs 16)]
def aZ2 (bs:List UInt8):R×Int:=
 if secB (bs.length:Int)=true then
  if Zt bs 0/281474976710656=21061∧gZa bs=true then
   if Zt bs 24=bZd 0 (gZL (w3U bs))then
    if(hZZ (Zt bs 0) (Zt bs 8) (Zt bs 16)).good then(hZZ (Zt bs 0) (Zt bs 8) (Zt bs 16),0)else(bZe,1)
   else(bZe,9)
  else(bZe,10)
 else(bZe,15)
theorem cZU (bs:List UInt8)(o:Nat):Zt bs o<2^64:=pZp (by simp;omega)
set_option maxHeartbeats 1000000 in
theorem iZd (A:OA)(n m:Nat)(bs:List UInt8)(hn:n=bs.length)(hnm:n≤m)(hbig:n≤1000000)(h32:secB (n:Int)=true→32≤n)(H:Hp)(hc:Cells H A (Zn bs)):
  Za Tryz.prog 138 #[.slice A n m] H (RetE (.tuple #[.agg (aZ2 bs).1.c,.int .i64 (aZ2 bs).2]) H):=Za.ret (by
 apply cZr.ok;unfold cZr cZr.q1 aZ2;rw[← hn];refine(Sep.start H).nw fun b1 H1 hs=>?_
 have hs:Sep [own H,pts b1 (bZy bZe)] H1:=hs;refine Za.use (hZ1 n H1) ?_;simp only[HV];by_cases hsec:secB (n:Int)=true
 case neg=>
  rw[if_neg hsec,show secB (n:Int)=false by simpa using hsec];refine aZt rfl ?_;refine hs.stw 1 rfl rfl rfl rfl fun H1 hs=>?_
  refine hs.ldw 1 rfl rfl ?_;exact hs.fin 0 rfl _
 rw[if_pos hsec,hsec];refine aZb rfl ?_;refine(vZ0 (R:=own H) (fun H' h=>hc.le h) hn hnm (h32 hsec) hbig).use hs [0] rfl rfl ?_;rintro _ _ H1 ⟨A',m',hm',rfl,rfl⟩ hs;simp only[HV];have hA:Cells H1 A' (Gen.eZp (wds bs 4)):=by
  obtain⟨hl,h⟩:=hs.own 1 rfl;rcases h with⟨_,h0,_⟩|⟨b,mm,rfl,hb,_⟩
  ·omega
  ·have:=Cells.row hb 0 4;exact this
 have hw:wds bs 4=[Zt bs 0,Zt bs 8,Zt bs 16,Zt bs 24]:=rfl;rw[hw]at hA hs;refine Za.use (nZw A' 4 m' (Zt bs 0) (Zt bs 8) (Zt bs 16) [Zt bs 24] rfl (cZU _ _) (cZU _ _) (cZU _ _) H1 hA) ?_;simp only[HV];refine hs.nw fun b2 H1 hs=>?_
 refine hs.stw 3 rfl rfl rfl rfl fun H1 hs=>?_
 have hs:Sep [own H,Own 82 1 A' 4 m' (Gen.eZp [Zt bs 0,Zt bs 8,Zt bs 16,Zt bs 24]),pts b1 (bZy bZe),pts b2 (bZy (hZZ (Zt bs 0) (Zt bs 8) (Zt bs 16)))] H1:=hs;have hA:Cells H1 A' (Gen.eZp [Zt bs 0,Zt bs 8,Zt bs 16,Zt bs 24]):=by
  obtain⟨hl,h⟩:=hs.own 1 rfl;rcases h with⟨_,h0,_⟩|⟨b,mm,rfl,hb,_⟩
  ·omega
  ·have:=Cells.row hb 0 4;exact this
 refine hA.read (i:=0) rfl rfl (by rw[Gen.gZK];exact Nat.le_refl _) ?_;simp only[HV];refine⟨by decide,?_⟩;have s48:aZn .u64 ((Zt bs 0:Nat):Int) 48=((Zt bs 0/281474976710656:Nat):Int):=hZK (k:=.u64) (a:=Zt bs 0) (i:=48) (n:=48) rfl (by decide);rw[s48];by_cases hmg:Zt bs 0/281474976710656=21061
 case neg=>
  rw[if_neg (fun h=>hmg h.1)];refine ZC (by omega) ?_;refine hs.stw 2 rfl rfl rfl rfl fun H1 hs=>?_
  refine hs.ldw 2 rfl rfl ?_;exact hs.fin 0 rfl _
 refine Zq (by omega) ?_;by_cases hno:gZa bs=true
 case neg=>
  rw[if_neg (fun h=>hno h.2),show gZa bs=false by simpa using hno];refine aZt rfl ?_;refine hs.stw 2 rfl rfl rfl rfl fun H1 hs=>?_
  refine hs.ldw 2 rfl rfl ?_;exact hs.fin 0 rfl _
 rw[if_pos ⟨hmg,hno⟩,hno];refine aZb rfl ?_;refine hA.read (i:=3) rfl rfl (by rw[Gen.gZK];exact Nat.le_refl _) ?_;simp only[HV];refine lZJ (r:=3) rfl (by omega) ?_;have hU:Cells H1 (slA A' m' 0 1) (Zd (w3U bs)):=by
  have:=(hA.shift (m:=m') (l:=0) (by rw[Gen.gZK];exact hm')).take 3;have e:Zd (w3U bs)=((Gen.eZp [Zt bs 0,Zt bs 8,Zt bs 16,Zt bs 24]).drop 0).take 3:=by
   show [Value.int .u64 ((UInt64.ofNat (Zt bs 0)).toNat:Int),Value.int .u64 ((UInt64.ofNat (Zt bs 8)).toNat:Int),Value.int .u64 ((UInt64.ofNat (Zt bs 16)).toNat:Int)]=_
   rw[UInt64.toNat_ofNat_of_lt' (cZU bs 0),UInt64.toNat_ofNat_of_lt' (cZU bs 8),UInt64.toNat_ofNat_of_lt' (cZU bs 16)];rfl
  rw[e];exact this
 refine ZM.use (pZH (slA A' m' 0 1) 3 (m'-0) (w3U bs) rfl (by omega) H1 hU) ?_;simp only[HV];by_cases hsl:Zt bs 24=bZd 0 (gZL (w3U bs))
 case neg=>
  rw[if_neg hsl];refine ZC (by omega) ?_;refine hs.stw 2 rfl rfl rfl rfl fun H1 hs=>?_
  refine hs.ldw 2 rfl rfl ?_;exact hs.fin 0 rfl _
 rw[if_pos hsl];refine Zq (by omega) ?_;refine hs.ldw 3 rfl rfl ?_;refine Za.use (bZR (hZZ (Zt bs 0) (Zt bs 8) (Zt bs 16)) H1) ?_;simp only[HV];by_cases hg:(hZZ (Zt bs 0) (Zt bs 8) (Zt bs 16)).good
 ·rw[if_pos hg,decide_eq_true hg];refine aZb rfl ?_;refine hs.ldw 3 rfl rfl ?_;refine hs.stw 2 rfl rfl rfl rfl fun H1 hs=>?_
  refine hs.ldw 2 rfl rfl ?_;exact hs.fin 0 rfl _
 ·rw[if_neg hg,decide_eq_false hg];refine aZt rfl ?_;refine hs.stw 2 rfl rfl rfl rfl fun H1 hs=>?_
  refine hs.ldw 2 rfl rfl ?_;exact hs.fin 0 rfl _)
end Go.Proofs.YtgfildcgihbdaaaGreatDoor.Rec
namespace Go.Proofs.YtgfildcgihbdaaaGreatDoor.W
open Go Go.Hw
theorem cZs :Tryz.prog.follows .mixedOrders=true:=by kernel_rfl
def fZq (p1:OA)(x1 x2 x3 x4:Int)(H:Hp)(K:VK):Prop:=
 Nw H (.obj (.cells #[.int .i64 x1,.int .i64 x2,.int .i64 x3,.int .i64 x4] 27)) fun b1 H1=>LdA H1 ⟨b1,0,none⟩ 4 fun l1=>Hz 77 #[.agg l1.toArray] H1 fun v1 H2=>dZD v1 fun A1 n1 m1 x5=>(BIf (x5 !=0) (K (.int .i64 1) H2) (LdA H2 ⟨b1,0,none⟩ 4 fun l5=>HcB 78 #[.pointer p1,.agg l5.toArray] H2 fun c1 H3=>BIf (!c1) (K (.int .i64 1) H3) (HcI 45 #[.pointer p1,.int .i64 0,.slice A1 n1 m1] H3 fun x6 H4=>BIf (x6 !=0) (K (.int .i64 x6) H4) (HcI 47 #[.pointer p1] H4 fun x7 H5=>K (.int .i64 x7) H5))))
theorem fZq.ok p1 x1 x2 x3 x4 H K (h:fZq p1 x1 x2 x3 x4 H K):Za Tryz.prog 50 #[.pointer p1,.agg #[.int .i64 x1,.int .i64 x2,.int .i64 x3,.int .i64 x4]] H K:=
 okN cZs Tryz.func50 rfl rfl h
def dZV (p1:OA)(H:Hp)(K:VK):Prop:=
 Nw H (.obj (.cells #[.int .i64 0,.int .i64 0,.int .i64 0,.int .i64 0] 27)) fun b1 H1=>Hz 91 #[.pointer p1,.int .i64 0] H1 fun v1 H2=>dZD v1 fun A1 n1 m1 x1=>(BIf (x1 !=0) (StA H2 ⟨b1,0,none⟩ #[.int .i64 0,.int .i64 0,.int .i64 0,.int .i64 0] 4 fun H3=>LdA H3 ⟨b1,0,none⟩ 4 fun l9=>K (.tuple #[.agg l9.toArray,.int .i64 x1]) H3) (Hz 92 #[.slice A1 n1 m1] H2 fun v4 H4=>bZS v4 fun y1 x2=>(Nw H4 (.obj (.cells #[.int .i64 0,.int .i64 0,.int .i64 0,.int .i64 0] 27)) fun b2 H5=>StA H5 ⟨b2,0,none⟩ y1 4 fun H6=>BIf (x2 !=0) (StA H6 ⟨b1,0,none⟩ #[.int .i64 0,.int .i64 0,.int .i64 0,.int .i64 0] 4 fun H7=>LdA H7 ⟨b1,0,none⟩ 4 fun l10=>K (.tuple #[.agg l10.toArray,.int .i64 x2]) H7) (LdA H6 ⟨b2,0,none⟩ 4 fun l7=>HcB 78 #[.pointer p1,.agg l7.toArray] H6 fun c1 H8=>BIf (!c1) (StA H8 ⟨b1,0,none⟩ #[.int .i64 0,.int .i64 0,.int .i64 0,.int .i64 0] 4 fun H9=>LdA H9 ⟨b1,0,none⟩ 4 fun l11=>K (.tuple #[.agg l11.toArray,.int .i64 1]) H9) (LdA H8 ⟨b2,0,none⟩ 4 fun l8=>StA H8 ⟨b1,0,none⟩ l8.toArray 4 fun H10=>LdA H10 ⟨b1,0,none⟩ 4 fun l12=>K (.tuple #[.agg l12.toArray,.int .i64 0]) H10)))))
theorem dZV.ok p1 H K (h:dZV p1 H K):Za Tryz.prog 64 #[.pointer p1] H K:=
 okN cZs Tryz.func64 rfl rfl h
def eZM (x1 x2 x3 x4:Int)(H:Hp)(K:VK):Prop:=
 Nw H (.obj (.cells #[.int .i64 x1,.int .i64 x2,.int .i64 x3,.int .i64 x4] 27)) fun b1 H1=>Nw H1 (.obj (.cells #[.int .i64 0,.int .i64 0,.int .i64 0,.int .i64 0,.int .i64 0,.int .i64 0,.int .i64 0,.int .i64 0,.int .i64 0,.int .i64 0,.int .i64 0,.int .i64 0,.int .i64 0,.int .i64 0,.int .i64 0,.int .i64 0,.int .i64 0] 90)) fun b2 H2=>LdA H2 ⟨b1,0,none⟩ 4 fun l1=>HcB 96 #[.agg l1.toArray] H2 fun c1 H3=>BIf (!c1) (StA H3 ⟨b2,0,none⟩ #[.int .i64 0,.int .i64 0,.int .i64 0,.int .i64 0,.int .i64 0,.int .i64 0,.int .i64 0,.int .i64 0,.int .i64 0,.int .i64 0,.int .i64 0,.int .i64 0,.int .i64 0,.int .i64 0,.int .i64 0,.int .i64 0,.int .i64 0] 17 fun H4=>LdA H4 ⟨b2,0,none⟩ 17 fun l5=>K (.tuple #[.agg l5.toArray,.int .i64 1]) H4) (LeI H3 ((⟨b1,0,none⟩:Addr).add 0) fun x5=>LeI H3 ((⟨b1,0,none⟩:Addr).add 1) fun x6=>LeI H3 ((⟨b1,0,none⟩:Addr).add 2) fun x7=>Hz 70 #[.int .i64 x5,.int .i64 x6,.int .i64 x7] H3 fun v5 H5=>bZS v5 fun y1 x8=>(StA H5 ⟨b2,0,none⟩ y1 17 fun H6=>LdA H6 ⟨b2,0,none⟩ 17 fun l6=>K (.tuple #[.agg l6.toArray,.int .i64 x8]) H6))
theorem eZM.ok x1 x2 x3 x4 H K (h:eZM x1 x2 x3 x4 H K):Za Tryz.prog 69 #[.agg #[.int .i64 x1,.int .i64 x2,.int .i64 x3,.int .i64 x4]] H K:=
 okN cZs Tryz.func69 rfl rfl h
def eZl (x1 x2 x3 x4:Int)(H:Hp)(K:VK):Prop:=
 Nw H (.obj (.cells #[.int .i64 x1,.int .i64 x2,.int .i64 x3,.int .i64 x4] 27)) fun b1 H1=>LdA H1 ⟨b1,0,none⟩ 4 fun l1=>HcB 96 #[.agg l1.toArray] H1 fun c1 H2=>BIf (!c1) (K (.tuple #[.slice none 0 0,.int .i64 1]) H2) (LdA H2 ⟨b1,0,none⟩ 4 fun l2=>QcW 102 #[.agg l2.toArray] H2 fun x5=>LeI H2 ((⟨b1,0,none⟩:Addr).add 1) fun x6=>LeI H2 ((⟨b1,0,none⟩:Addr).add 3) fun x7=>Nw H2 (.row [.int .u64 x5,.int .u64 (u64.wrap x6),.int .u64 (u64.wrap x7)] 82 3) fun b2 H3=>LeI H3 ((⟨b1,0,none⟩:Addr).add 2) fun x8=>MkS Tryz.prog 5 x8 x8 H3 fun v6 H4=>DSl v6 fun A1 n1 m1=>HcU 104 #[.slice (some ⟨b2,0,none⟩) 3 3] H4 fun x9 H5=>Nw H5 (.row [.int .u64 (u64.wrap x9)] 82 1) fun b3 H6=>cZP Tryz.prog 82 (.slice (some ⟨b2,0,none⟩) 3 3) (.slice (some ⟨b3,0,none⟩) 1 1) H6 fun v8 H7=>DSl v8 fun A2 n2 m2=>HcS 103 #[.slice A2 n2 m2] H7 fun A3 n3 m3 H8=>CpK Tryz.prog 5 (.slice A1 n1 m1) (.slice A3 n3 m3) H8 fun v10 H9=>DI .i64 v10 fun x10=>K (.tuple #[.slice A1 n1 m1,.int .i64 0]) H9)
theorem eZl.ok x1 x2 x3 x4 H K (h:eZl x1 x2 x3 x4 H K):Za Tryz.prog 77 #[.agg #[.int .i64 x1,.int .i64 x2,.int .i64 x3,.int .i64 x4]] H K:=
 ok0 (fun i=>match Nat.beq i 3 with|true=>some ([],[0,1,2,3,4,5,6,7],8)|false=>none) cZs Tryz.func77 rfl rfl h
def hZb (p1:OA)(x1 x2 x3 x4:Int)(H:Hp)(K:VK):Prop:=
 Nw H (.obj (.cells #[.int .i64 x1,.int .i64 x2,.int .i64 x3,.int .i64 x4] 27)) fun b1 H1=>LeI H1 ((⟨b1,0,none⟩:Addr).add 1) fun x5=>NN p1 fun a1=>QcI 41 #[.pointer (some (a1.add 0))] H1 fun x6=>BIf (x5==x6) (LeI H1 ((⟨b1,0,none⟩:Addr).add 2) fun x7=>NN p1 fun a2=>QcI 42 #[.pointer (some (a2.add 0))] H1 fun x8=>K (.bool (x7==x8)) H1) (K (.bool false) H1)
theorem hZb.ok p1 x1 x2 x3 x4 H K (h:hZb p1 x1 x2 x3 x4 H K):Za Tryz.prog 78 #[.pointer p1,.agg #[.int .i64 x1,.int .i64 x2,.int .i64 x3,.int .i64 x4]] H K:=
 okN cZs Tryz.func78 rfl rfl h
def aZk.l5.q1 (H9:Hp)(a1:Addr)(K:VK):Prop:=
 StA H9 a1 #[.int .i64 0,.int .i64 0,.int .i64 0,.int .i64 0] 4 fun H13=>LdA H13 a1 4 fun l11=>K (.tuple #[.agg l11.toArray,.int .i64 1]) H13
def aZk.l5 (K:VK):Nat→OA→Nat→Nat→Addr→Addr→Int→Hp→Prop
 |0,_,_,_,_,_,_,_=>False
 |k+1,A2,n2,m2,a1,a2,x1,H=>
  let R5:=aZk.l5 K k
  BIf (decide (x1<4)) (Hz 136 #[.slice A2 n2 m2,.int .i64 x1] H fun v2 H5=>gZV v2 fun x2 x3=>(ixI x1 4 (St H5 ((a2.add (x1.toNat*1)).add 0) (.int .u64 x2) fun H6=>R5 A2 n2 m2 a1 a2 (i64.wrap (x1+1)) H6))) (ixI 0 4 (LeW H (a2.add ((0:Int).toNat*1)) fun x4=>(0≤(16:Int)∧ixI 0 4 (LeW H (a2.add ((0:Int).toNat*1)) fun x5=>(0≤(aZo .u64 x5 63)∧ixI 1 4 (LeW H (a2.add ((1:Int).toNat*1)) fun x6=>ixI 2 4 (LeW H (a2.add ((2:Int).toNat*1)) fun x7=>Nw H (.obj (.cells #[.int .i64 0,.int .i64 0,.int .i64 0,.int .i64 0] 27)) fun b3 H7=>StA H7 ⟨b3,0,none⟩ #[.int .i64 (i64.wrap (aZo .u64 (aZn .u64 x4 16) 65535)),.int .i64 (i64.wrap x6),.int .i64 (aZB .i64 1 (aZo .u64 x5 63)),.int .i64 (i64.wrap x7)] 4 fun H8=>ixI 0 4 (LeW H8 (a2.add ((0:Int).toNat*1)) fun x8=>(0≤(32:Int)∧BIf ((aZn .u64 x8 32) !=1094861123) (StA H8 a1 #[.int .i64 0,.int .i64 0,.int .i64 0,.int .i64 0] 4 fun H10=>LdA H10 a1 4 fun l8=>K (.tuple #[.agg l8.toArray,.int .i64 10]) H10) (HcB 137 #[.slice A2 n2 m2] H8 fun c2 H9=>BIf (!c2) (StA H9 a1 #[.int .i64 0,.int .i64 0,.int .i64 0,.int .i64 0] 4 fun H11=>LdA H11 a1 4 fun l9=>K (.tuple #[.agg l9.toArray,.int .i64 10]) H11) (ixI 3 4 (LeW H9 (a2.add ((3:Int).toNat*1)) fun x9=>slB 4 4 none (some 3) fun n3 n4=>QcU 104 #[.slice (slA (some a2) 4 n3 1) (n4-n3) (4-n3)] H9 fun x10=>BIf (x9 !=(u64.wrap x10)) (StA H9 a1 #[.int .i64 0,.int .i64 0,.int .i64 0,.int .i64 0] 4 fun H12=>LdA H12 a1 4 fun l10=>K (.tuple #[.agg l10.toArray,.int .i64 9]) H12) (LdA H9 ⟨b3,0,none⟩ 4 fun l4=>QcB 96 #[.agg l4.toArray] H9 fun c3=>BIf (!c3) (aZk.l5.q1 H9 a1 K) (LdA H9 ⟨b3,0,none⟩ 4 fun l5=>QcW 102 #[.agg l5.toArray] H9 fun x11=>ixI 0 4 (LeW H9 (a2.add ((0:Int).toNat*1)) fun x12=>BIf (x11 !=x12) (aZk.l5.q1 H9 a1 K) (LeI H9 ((⟨b3,0,none⟩:Addr).add 2) fun x13=>BIf (x13 !=(n2:Int)) (aZk.l5.q1 H9 a1 K) (LdA H9 ⟨b3,0,none⟩ 4 fun l6=>StA H9 a1 l6.toArray 4 fun H16=>LdA H16 a1 4 fun l14=>K (.tuple #[.agg l14.toArray,.int .i64 0]) H16)))))))))))))))))
def aZk (A1:OA)(n1 m1:Nat)(H:Hp)(K:VK):Prop:=
 Nw H (.obj (.cells #[.int .i64 0,.int .i64 0,.int .i64 0,.int .i64 0] 27)) fun b1 H1=>HcB 135 #[.slice A1 n1 m1] H1 fun c1 H2=>BIf (!c1) (StA H2 ⟨b1,0,none⟩ #[.int .i64 0,.int .i64 0,.int .i64 0,.int .i64 0] 4 fun H3=>LdA H3 ⟨b1,0,none⟩ 4 fun l7=>K (.tuple #[.agg l7.toArray,.int .i64 15]) H3) (Nw H2 (.obj (.cells #[.int .u64 0,.int .u64 0,.int .u64 0,.int .u64 0] 223)) fun b2 H4=>(∃ k,aZk.l5 K k A1 n1 m1 ⟨b1,0,none⟩ ⟨b2,0,none⟩ 0 H4))
def aZk.l5.L (K:VK)(k:Nat):Mid:=fun E D H=>
 DG (E.get? 0) fun w0=>DSl w0 fun A2 n2 m2=>eN E 2 fun a1=>eN E 4 fun a2=>eI E 13 .i64 fun x1=>Zk D (aZk.l5 K k A2 n2 m2 a1 a2 x1 H)
def aZk.Λ5 (_:VK)(_R5:OA→Nat→Nat→Addr→Addr→Int→Hp→Prop):Zu:=Zu.none (fun _=>none)
def aZk.Λ (K:VK):Zu:=⟨fun i=>none,fun i=>match Nat.beq i 5 with|true=>some (fun E D H=>∃ k,aZk.l5.L K k E D H)|false=>none,(fun _=>none)⟩
theorem aZk.ok A1 n1 m1 H K (h:aZk A1 n1 m1 H K):Za Tryz.prog 92 #[.slice A1 n1 m1] H K:=
 okL (Λ:=(aZk.Λ K)) cZs Tryz.func92 rfl rfl h (oC (fun E D H h=>by
   refine Safe.loop' (aZk.l5.L K) (fun E D H h=>?_) (fun k E D H h=>?_) E D H h
   ·obtain⟨w0,e0,g1⟩:=DG.out h;obtain⟨A2,n2,m2,rfl,g2⟩:=DSl.out g1;obtain⟨w2,e2,g3⟩:=DG.out g2;obtain⟨pw2,rfl,g4⟩:=DP.out g3;obtain⟨a1,rfl,g5⟩:=NN.out g4;obtain⟨w4,e4,g6⟩:=DG.out g5;obtain⟨pw4,rfl,g7⟩:=DP.out g6;obtain⟨a2,rfl,g8⟩:=NN.out g7;obtain⟨w13,e13,g9⟩:=DG.out g8;obtain⟨x1,rfl,g10⟩:=DI.out g9;obtain⟨rfl,h'⟩:=Zk.out g10;exact h'
   ·obtain⟨w0,e0,g1⟩:=DG.out h;obtain⟨A2,n2,m2,rfl,g2⟩:=DSl.out g1;obtain⟨a1,e2,g5⟩:=GN g2;obtain⟨a2,e4,g8⟩:=GN g5;obtain⟨x1,e13,g10⟩:=GI g8;obtain⟨rfl,h'⟩:=Zk.out g10;exact okJ (Λ:=(aZk.Λ5 K (aZk.l5 K k))) cZs [] (Zb.cons e0 (Zb.cons e2 (Zb.cons e4 (Zb.cons e13 (Zb.nil _))))) h' oN) oN)
def fZ1 (x1 x2 x3 x4:Int)(H:Hp)(K:VK):Prop:=
 Nw H (.obj (.cells #[.int .i64 x1,.int .i64 x2,.int .i64 x3,.int .i64 x4] 27)) fun b1 H1=>LeI H1 ((⟨b1,0,none⟩:Addr).add 0) fun x5=>LeI H1 ((⟨b1,0,none⟩:Addr).add 1) fun x6=>LeI H1 ((⟨b1,0,none⟩:Addr).add 2) fun x7=>Hz 70 #[.int .i64 x5,.int .i64 x6,.int .i64 x7] H1 fun v4 H2=>bZS v4 fun y1 x8=>(Nw H2 (.obj (.cells #[.int .i64 0,.int .i64 0,.int .i64 0,.int .i64 0,.int .i64 0,.int .i64 0,.int .i64 0,.int .i64 0,.int .i64 0,.int .i64 0,.int .i64 0,.int .i64 0,.int .i64 0,.int .i64 0,.int .i64 0,.int .i64 0,.int .i64 0] 90)) fun b2 H3=>StA H3 ⟨b2,0,none⟩ y1 17 fun H4=>BIf (x8==0) (LeI H4 ((⟨b1,0,none⟩:Addr).add 3) fun x9=>BIf (decide (x9≥1)) (LeI H4 ((⟨b1,0,none⟩:Addr).add 3) fun x10=>K (.bool (decide (x10≤(16777216:Int)))) H4) (K (.bool false) H4)) (K (.bool false) H4))
theorem fZ1.ok x1 x2 x3 x4 H K (h:fZ1 x1 x2 x3 x4 H K):Za Tryz.prog 96 #[.agg #[.int .i64 x1,.int .i64 x2,.int .i64 x3,.int .i64 x4]] H K:=
 okN cZs Tryz.func96 rfl rfl h
def fZr (x1 x2 x3 x4:Int)(H:Hp)(K:VK):Prop:=
 Nw H (.obj (.cells #[.int .i64 x1,.int .i64 x2,.int .i64 x3,.int .i64 x4] 27)) fun b1 H1=>LeI H1 ((⟨b1,0,none⟩:Addr).add 0) fun x5=>(0≤(16:Int)∧LeI H1 ((⟨b1,0,none⟩:Addr).add 2) fun x6=>QcI 148 #[.int .u64 (u64.wrap x6)] H1 fun x7=>K (.int .u64 (bOr .u64 (bOr .u64 4702392716946833408 (aZB .u64 (u64.wrap x5) 16)) (u64.wrap (i64.wrap (x7-1))))) H1)
theorem fZr.ok x1 x2 x3 x4 H K (h:fZr x1 x2 x3 x4 H K):Za Tryz.prog 102 #[.agg #[.int .i64 x1,.int .i64 x2,.int .i64 x3,.int .i64 x4]] H K:=
 okN cZs Tryz.func102 rfl rfl h
def eZN (A1:OA)(n1 m1:Nat)(H:Hp)(K:VK):Prop:=
 Hz 97 #[.int .i64 0,.int .i64 (n1:Int)] H fun v1 H1=>kZq v1 fun x1 x2=>(K (.bool (x2==0)) H1)
theorem eZN.ok A1 n1 m1 H K (h:eZN A1 n1 m1 H K):Za Tryz.prog 135 #[.slice A1 n1 m1] H K:=
 okN cZs Tryz.func135 rfl rfl h
def aZy.l2 (K:VK):Nat→OA→Nat→Nat→Int→Int→Hp→Prop
 |0,_,_,_,_,_,_=>False
 |k+1,A2,n4,m2,x1,x2,H=>
  let R2:=aZy.l2 K k
  BIf (decide (x2<x1)) (ixI x2 n4 (NN A2 fun a1=>LeV H (a1.add (x2.toNat*1)) fun x3=>BIf (x3 !=0) (K (.bool false) H) (R2 A2 n4 m2 x1 (i64.wrap (x2+1)) H))) (K (.bool true) H)
def aZy (A1:OA)(n1 m1:Nat)(H:Hp)(K:VK):Prop:=
 slB n1 m1 (some 32) none fun n2 n3=>(∃ k,aZy.l2 K k (slA A1 m1 n2 1) (n3-n2) (m1-n2) ((n3-n2:Nat):Int) 0 H)
def aZy.l2.L (K:VK)(k:Nat):Mid:=fun E D H=>
 DG (E.get? 6) fun w6=>DSl w6 fun A2 n4 m2=>eI E 7 .i64 fun x1=>eI E 8 .i64 fun x2=>Zk D (aZy.l2 K k A2 n4 m2 x1 x2 H)
def aZy.Λ2 (_:VK)(_R2:OA→Nat→Nat→Int→Int→Hp→Prop):Zu:=Zu.none (fun _=>none)
def aZy.Λ (K:VK):Zu:=⟨fun i=>none,fun i=>match Nat.beq i 2 with|true=>some (fun E D H=>∃ k,aZy.l2.L K k E D H)|false=>none,(fun _=>none)⟩
theorem aZy.ok A1 n1 m1 H K (h:aZy A1 n1 m1 H K):Za Tryz.prog 137 #[.slice A1 n1 m1] H K:=
 okL (Λ:=(aZy.Λ K)) cZs Tryz.func137 rfl rfl h (oC (fun E D H h=>by
   refine Safe.loop' (aZy.l2.L K) (fun E D H h=>?_) (fun k E D H h=>?_) E D H h
   ·obtain⟨w6,e6,g1⟩:=DG.out h;obtain⟨A2,n4,m2,rfl,g2⟩:=DSl.out g1;obtain⟨w7,e7,g3⟩:=DG.out g2;obtain⟨x1,rfl,g4⟩:=DI.out g3;obtain⟨w8,e8,g5⟩:=DG.out g4;obtain⟨x2,rfl,g6⟩:=DI.out g5;obtain⟨rfl,h'⟩:=Zk.out g6;exact h'
   ·obtain⟨w6,e6,g1⟩:=DG.out h;obtain⟨A2,n4,m2,rfl,g2⟩:=DSl.out g1;obtain⟨x1,e7,g4⟩:=GI g2;obtain⟨x2,e8,g6⟩:=GI g4;obtain⟨rfl,h'⟩:=Zk.out g6;exact okJ (Λ:=(aZy.Λ2 K (aZy.l2 K k))) cZs [] (Zb.cons e6 (Zb.cons e7 (Zb.cons e8 (Zb.nil _)))) h' oN) oN)
end Go.Proofs.YtgfildcgihbdaaaGreatDoor.W
namespace Go.Proofs.YtgfildcgihbdaaaGreatDoor.W
open Go Go.Hw
theorem hZF :Tryz.prog.follows .mixedOrders=true:=by kernel_rfl
def aZe.l3 (K:VK):Nat→Int→Int→Int→Int→Hp→Prop
 |0,_,_,_,_,_=>False
 |k+1,x3,x4,x5,x6,H=>
  let R3:=aZe.l3 K k
  BIf (decide (x6<x3)) (R3 x3 x4 (i64.wrap (2*x5)) (i64.wrap (x6+1)) H) (((8:Int)≠0∧i64=i64∧BIf (decide (x5≤(i64.wrap (Int.tdiv x4 8)))) (K (.int .i64 13) H) (((i64.wrap (Int.tdiv x4 8))≠0∧i64=i64∧K (.int .i64 (i64.wrap (9+(i64.wrap (4*(i64.wrap (Int.tdiv x5 (i64.wrap (Int.tdiv x4 8))))))))) H))))
def aZe (x1 x2:Int)(H:Hp)(K:VK):Prop:=
 (∃ k,aZe.l3 K k x1 x2 1 0 H)
def aZe.l3.L (K:VK)(k:Nat):Mid:=fun E D H=>
 eI E 0 .i64 fun x3=>eI E 1 .i64 fun x4=>eI E 5 .i64 fun x5=>eI E 6 .i64 fun x6=>Zk D (aZe.l3 K k x3 x4 x5 x6 H)
def aZe.Λ3 (_:VK)(_R3:Int→Int→Int→Int→Hp→Prop):Zu:=Zu.none (fun _=>none)
def aZe.Λ (K:VK):Zu:=⟨fun i=>none,fun i=>match Nat.beq i 3 with|true=>some (fun E D H=>∃ k,aZe.l3.L K k E D H)|false=>none,(fun _=>none)⟩
theorem aZe.ok x1 x2 H K (h:aZe x1 x2 H K):Za Tryz.prog 8 #[.int .i64 x1,.int .i64 x2] H K:=
 okL (Λ:=(aZe.Λ K)) hZF Tryz.func8 rfl rfl h (oC (fun E D H h=>by
   refine Safe.loop' (aZe.l3.L K) (fun E D H h=>?_) (fun k E D H h=>?_) E D H h
   ·obtain⟨w0,e0,g1⟩:=DG.out h;obtain⟨x3,rfl,g2⟩:=DI.out g1;obtain⟨w1,e1,g3⟩:=DG.out g2;obtain⟨x4,rfl,g4⟩:=DI.out g3;obtain⟨w5,e5,g5⟩:=DG.out g4;obtain⟨x5,rfl,g6⟩:=DI.out g5;obtain⟨w6,e6,g7⟩:=DG.out g6;obtain⟨x6,rfl,g8⟩:=DI.out g7;obtain⟨rfl,h'⟩:=Zk.out g8;exact h'
   ·obtain⟨x3,e0,g2⟩:=GI h;obtain⟨x4,e1,g4⟩:=GI g2;obtain⟨x5,e5,g6⟩:=GI g4;obtain⟨x6,e6,g8⟩:=GI g6;obtain⟨rfl,h'⟩:=Zk.out g8;exact okJ (Λ:=(aZe.Λ3 K (aZe.l3 K k))) hZF [] (Zb.cons e0 (Zb.cons e1 (Zb.cons e5 (Zb.cons e6 (Zb.nil _))))) h' oN) oN)
end Go.Proofs.YtgfildcgihbdaaaGreatDoor.W
