import Derived.WalkKit
import Derived.Deep.Quiet
import Derived.Deep.LoopGhost
import Derived.Deep.AppendSrc
import Derived.StillTail
import Derived.Defers
set_option maxRecDepth 100000
set_option linter.unusedSimpArgs false
set_option linter.unusedVariables false
set_option linter.unnecessarySimpa false
set_option linter.unusedSectionVars false
open Go.IntKind (i64 u32 u64 u8)
namespace Go.Hw
open Go
inductive AO where
 |obj (o:Obj)
 |row (xs:List Value) (elem:TypeId) (n:Nat)
def AO.holds :AO->Obj->Prop
 | .obj o,o'=>o'=o
 | .row xs e n,o'=>∃(sp:List Value) (lo hi:Nat),o'= .cells (xs++sp).toArray e (lo,hi)/\(xs++sp).length=n/\(lo=hi\/n<=lo)
abbrev Hp :=Nat->Option AO
abbrev O (p:Nat):Addr:=⟨p,0,none⟩
abbrev Oo (p:Nat):Option Addr:=some ⟨p,0,none⟩
abbrev V (p:Nat):Value:=.pointer (some ⟨p,0,none⟩)
abbrev I (x:Int):Value:=.int .i64 x
abbrev U (x:Int):Value:=.int .u64 x
abbrev Oi (x:Int):Value:=.int .u32 x
abbrev Oa (a:Array Value)(t:TypeId):AO:=.obj (.cells a t)
abbrev OA:=Option Addr
abbrev VK:=Value->Hp->Prop
def Hp.set (H:Hp)(b:Nat)(o:AO):Hp:=fun i=>if i=b then some o else H i
def Hp.erase (H:Hp)(b:Nat):Hp:=fun i=>if i=b then none else H i
def Hp.le (H H':Hp):Prop:=∀ b o,H b=some o->H' b=some o
theorem Hp.bB (H:Hp)(b:Nat)(o:AO):H.set b o b=some o:=by simp[Hp.set]
theorem Hp.bK (H:Hp){b c:Nat}(o:AO)(h:c≠b):H.set b o c=H c:=by simp[Hp.set,h]
def Hp.cell? (H:Hp)(a:Addr):Option Value:=
 match H a.block with
 |some (.obj (.cells c _ _))=>if a.spot.isSome then none else c[a.off]?
 |some (.row xs _ _)=>if a.spot.isSome then none else xs[a.off]?
 |_=>none
def Hp.put? (H:Hp)(a:Addr)(v:Value):Option Hp:=
 match H a.block with
 |some (.obj (.cells c e (lo,hi)))=>if a.spot.isSome=false/\a.off<c.size/\¬(lo<=a.off/\a.off<hi)/\v.oneCell'=true then some (H.set a.block (.obj (.cells (c.setIfInBounds a.off v) e (lo,hi))))else none
 |some (.row xs e n)=>if a.spot.isSome=false/\a.off<xs.length/\v.oneCell'=true then some (H.set a.block (.row (xs.set a.off v) e n))else none
 |_=>none
def Fits (H:Hp)(w:World):Prop:=∀ b o,H b=some o->∃ o',w.heap[b]? =some o'/\o.holds o'
structure At (H0:Hp)(w0:World)(H:Hp)(w:World):Prop where
 fits:Fits H w
 size:w0.heap.size<=w.heap.size
 os:w.os=w0.os
 tape:w.tape=w0.tape
 output:w.output=w0.output
 rH:∀ b,b<w0.heap.size->H0 b=none->H b=none/\w.heap[b]? =w0.heap[b]?
theorem At.refl {H:Hp}{w:World}(h:Fits H w):At H w H w:=⟨h,Nat.le_refl _,rfl,rfl,rfl,fun _ _ h=>⟨h,rfl⟩⟩
theorem At.trans {H0 H1 H2:Hp}{w0 w1 w2:World}(h:At H0 w0 H1 w1)(k:At H1 w1 H2 w2):At H0 w0 H2 w2:=
 ⟨k.fits,Nat.le_trans h.size k.size,k.os.trans h.os,k.tape.trans h.tape,k.output.trans h.output,fun b hb h0=>by
  obtain⟨h1,e1⟩:=h.rH b hb h0;obtain⟨h2,e2⟩:=k.rH b (Nat.lt_of_lt_of_le hb h.size) h1;exact⟨h2,e2.trans e1⟩⟩
theorem At.weaken {H0 H H':Hp}{w0 w:World}(h:At H0 w0 H w)(k:H'.le H):At H0 w0 H' w:=
 ⟨fun b o hb=>h.fits b o (k b o hb),h.size,h.os,h.tape,h.output,fun b hb h0=>by
  obtain⟨h1,e1⟩:=h.rH b hb h0;refine⟨?_,e1⟩;cases h2:H' b with
  |none=>rfl
  |some o=>rw[k b o h2]at h1;cases h1⟩
theorem Fits.cell? {H:Hp}{w:World}{a:Addr}{v:Value}(h:Fits H w)(hc:H.cell? a=some v):w.cell? a=some v:=by
 unfold Hp.cell? at hc;split at hc
 .rename_i c e f hb
  obtain⟨o',ho,hh⟩:=h _ _ hb;cases hh;unfold World.cell?;rw[ho];simpa using hc
 .rename_i xs e n hb
  obtain⟨o',ho,sp,lo,hi,rfl,hl,_⟩:=h _ _ hb;unfold World.cell?;rw[ho];by_cases hs:a.spot.isSome=true
  .simp[hs]at hc
  .simp only[hs,Bool.false_eq_true,if_false]at hc⊢;have hlt:a.off<xs.length:=(List.getElem?_eq_some_iff.1 hc).1;simp only[List.getElem?_toArray];rw[List.getElem?_append_left hlt];exact hc
 .cases hc
theorem getElem?_modify_self {α:Type}{xs:Array α}{i:Nat}{f:α->α}{x:α}(h:xs[i]? =some x):(xs.modify i f)[i]? =some (f x):=by
 rw[Array.getElem?_modify,if_pos rfl,h];rfl
theorem At.jy {H0 H:Hp}{w0 w w':World}{b:Nat}{o o':AO}{x':Obj}(h:At H0 w0 H w)(hb:H b=some o)(hx':w'.heap[b]? =some x')(ho':o'.holds x')(hs:w'.heap.size=w.heap.size)
  (hos:w'.os=w.os) (ht:w'.tape=w.tape) (hou:w'.output=w.output) (hot:∀ c,c≠b->w'.heap[c]? =w.heap[c]?):At H0 w0 (H.set b o') w':=by
 refine⟨fun c q hq=>?_,by rw[hs];exact h.size,hos.trans h.os,ht.trans h.tape,hou.trans h.output,fun c hc h0=>?_⟩
 .by_cases e:c=b
  .subst e;rw[Hp.bB]at hq;cases hq;exact⟨x',hx',ho'⟩
  .rw[Hp.bK _ _ e]at hq;obtain⟨z,hz,hz'⟩:=h.fits c q hq;exact⟨z,by rw[hot c e];exact hz,hz'⟩
 .obtain⟨h1,e1⟩:=h.rH c hc h0;have e:c≠b:=fun e=>by subst e;rw[hb]at h1;cases h1
  exact⟨by rw[Hp.bK _ _ e];exact h1,by rw[hot c e];exact e1⟩
theorem At.new {H0 H:Hp}{w0 w:World}{o:AO}{x:Obj}(h:At H0 w0 H w)(ho:o.holds x):H w.heap.size=none/\At H0 w0 (H.set w.heap.size o) (w.alloc x):=by
 have hn:H w.heap.size=none:=by
  cases e:H w.heap.size with
  |none=>rfl
  |some q=>
   obtain⟨z,hz,_⟩:=h.fits _ _ e;simp at hz
 refine⟨hn,fun c q hq=>?_,by have:=h.size;have e:(w.alloc x).heap.size=w.heap.size+1:=World.size_alloc w x;omega,h.os,h.tape,h.output,fun c hc h0=>?_⟩
 .by_cases e:c=w.heap.size
  .subst e;rw[Hp.bB]at hq;cases hq;exact⟨x,by show(w.heap.push x)[w.heap.size]? =_;simp,ho⟩
  .rw[Hp.bK _ _ e]at hq;obtain⟨z,hz,hz'⟩:=h.fits c q hq;refine⟨z,?_,hz'⟩;have hlt:c<w.heap.size:=(Array.getElem?_eq_some_iff.1 hz).1;show(w.heap.push x)[c]? =_
   rw[Array.getElem?_push,if_neg (by omega)];exact hz
 .obtain⟨h1,e1⟩:=h.rH c hc h0;have e:c≠w.heap.size:=by have:=h.size;omega
  refine⟨by rw[Hp.bK _ _ e];exact h1,?_⟩;show(w.heap.push x)[c]? =_
  rw[Array.getElem?_push,if_neg e];exact e1
theorem At.drew {H0 H:Hp}{w0 w:World}(h:At H0 w0 H w):At H0 w0 H { w with drawn:=w.drawn+1}:=
 ⟨h.fits,h.size,h.os,h.tape,h.output,h.rH⟩
theorem heap_setCell_other (w:World)(a:Addr)(v:Value)(c:Nat)(h:c≠a.block):(w.setCell a v).heap[c]? =w.heap[c]? :=by
 simp only[World.setCell,Array.getElem?_modify];rw[if_neg (fun e=>h e.symm)]
theorem At.put {H0 H H':Hp}{w0 w:World}{a:Addr}{v:Value}(h:At H0 w0 H w)(hp:H.put? a v=some H'):
  (∃ u,w.cell? a=some u)/\w.frozen? a=false/\v.oneCell'=true/\At H0 w0 H' (w.setCell a v):=by
 unfold Hp.put? at hp;split at hp
 .rename_i c e lo hi hb
  split at hp
  .rename_i hc
   obtain⟨h1,h2,h3,h4⟩:=hc;cases hp;obtain⟨o',ho,hh⟩:=h.fits _ _ hb;cases hh;refine⟨⟨c[a.off],?_⟩,?_,h4,?_⟩
   .unfold World.cell?;rw[ho];simp[h1,h2]
   .unfold World.frozen?;rw[ho];simp;omega
   .refine h.jy hb (x':=.cells (c.setIfInBounds a.off v) e (lo,hi)) ?_ rfl (by simp[World.setCell]) rfl rfl rfl (fun q hq=>heap_setCell_other _ _ _ _ hq);unfold World.setCell;refine(getElem?_modify_self ho).trans ?_;simp[h1]
  .cases hp
 .rename_i xs e n hb
  split at hp
  .rename_i hc
   obtain⟨h1,h2,h4⟩:=hc;cases hp;obtain⟨o',ho,sp,lo,hi,rfl,hl,hf⟩:=h.fits _ _ hb;have hlen:a.off<(xs++sp).length:=by rw[List.length_append];omega
   refine⟨⟨(xs++sp)[a.off],?_⟩,?_,h4,?_⟩
   .unfold World.cell?;rw[ho];simp[h1]
   .unfold World.frozen?;rw[ho];simp;omega
   .refine h.jy hb (x':=.cells ((xs.set a.off v)++sp).toArray e (lo,hi)) ?_ ⟨sp,lo,hi,rfl,by simpa using hl,hf⟩ (by simp[World.setCell]) rfl rfl rfl (fun q hq=>heap_setCell_other _ _ _ _ hq);unfold World.setCell;refine(getElem?_modify_self ho).trans ?_;simp only[h1,Bool.false_eq_true,if_false];congr 2;rw[List.setIfInBounds_toArray,List.set_append_left _ _ h2]
  .cases hp
 .cases hp
def aq (c:Bool)(X Y:Prop):Prop:=match c with|true=>X|false=>Y
def kn :IntKind->Nat
 | .i8=>0| .i16=>1| .i32=>2| .i64=>3| .u8=>4| .u16=>5| .u32=>6| .u64=>7
def DI (k:IntKind)(v:Value)(K:Int→Prop):Prop:=match v with| .int k' n=>aq (Nat.beq (kn k') (kn k)) (K n) False|_=>False
theorem DI.out {k:IntKind}{v:Value}{K:Int->Prop}(h:DI k v K):∃ n,v= .int k n/\K n:=by
 cases v<;>first|exact h.elim|skip
 rename_i k' n
 cases k<;>cases k'<;>first|exact⟨_,rfl,h⟩|exact h.elim
theorem El (k:IntKind)(n:Int)(K:Int->Prop):DI k (.int k n) K=K n:=by cases k<;>rfl
def DB (v:Value)(K:Bool→Prop):Prop:=match v with| .bool b=>K b|_=>False
def DS (v:Value)(K:ByteArray→Prop):Prop:=match v with| .string s=>K s|_=>False
def DP (v:Value)(K:OA→Prop):Prop:=match v with| .pointer p=>K p|_=>False
def aE (v:Value)(K:OA→Nat→Nat→Prop):Prop:=match v with| .slice a n c=>K a n c|_=>False
def DM (v:Value)(K:Option Nat→Prop):Prop:=match v with| .map r=>K r|_=>False
def Ld (H:Hp)(a:Addr)(K:Value→Prop):Prop:=match H.cell? a with|some v=>K v|none=>False
def St (H:Hp)(a:Addr)(v:Value)(K:Hp→Prop):Prop:=match H.put? a v with|some H'=>K H'|none=>False
def Nw (H:Hp)(o:AO)(K:Nat->Hp->Prop):Prop:=∀ b,H b=none->K b (H.set b o)
def NN (p:OA)(K:Addr→Prop):Prop:=match p with|some a=>K a|none=>False
def Sh (H:Hp)(r:Nat)(K:Option (TypeId×Nat)->Prop):Prop:=
 match H r with
 |some (.obj (.cells c e _))=>K (some (e,c.size))
 |some (.obj _)=>K none
 |some (.row _ e n)=>K (some (e,n))
 |none=>False
def CY (H:Hp)(r:Nat)(K:Obj->Prop):Prop:=
 match H r with
 |some (.obj (.cells ..))=>False
 |some (.obj o)=>K o
 |_=>False
def Ks (H:Hp)(r:Nat)(o:Obj)(K:Hp->Prop):Prop:=
 match H r with
 |some (.obj (.cells ..))=>False
 |some (.obj _)=>K (H.set r (.obj o))
 |_=>False
def Fr (H:Hp)(a:Addr)(K:Bool->Prop):Prop:=
 match H a.block with
 |some (.obj (.cells _ _ (lo,hi)))=>K (lo<=a.off&&a.off<hi)
 |some (.row _ _ n)=>a.off<n/\K false
 |_=>False
def Fz (H:Hp)(a:Addr)(n:Nat)(K:Hp->Prop):Prop:=
 n=1/\match H a.block with
 |some (.row _ _ m)=>a.off=m/\K H
 |_=>False
theorem Fits.shape {H:Hp}{w:World}{r:Nat}{K:Option (TypeId×Nat)->Prop}(h:Fits H w)(hk:Sh H r K):K (w.shape? r):=by
 unfold Sh at hk;split at hk
 .rename_i c e f hb
  obtain⟨o',ho,hh⟩:=h _ _ hb;cases hh;unfold World.shape?;rw[ho];exact hk
 .rename_i o hno hb
  obtain⟨o',ho,hh⟩:=h _ _ hb;cases hh;unfold World.shape?;rw[ho];split
  .rename_i hc;cases hc;exact(hno _ _ _ rfl).elim
  .exact hk
 .rename_i xs e n hb
  obtain⟨o',ho,sp,lo,hi,rfl,hl,_⟩:=h _ _ hb;unfold World.shape?;rw[ho];simpa [hl]using hk
 .exact hk.elim
theorem Fits.frozen {H:Hp}{w:World}{a:Addr}{K:Bool->Prop}(h:Fits H w)(hk:Fr H a K):K (w.frozen? a):=by
 unfold Fr at hk;split at hk
 .rename_i c e lo hi hb
  obtain⟨o',ho,hh⟩:=h _ _ hb;cases hh;unfold World.frozen?;rw[ho];exact hk
 .rename_i xs e n hb
  obtain⟨o',ho,sp,lo,hi,rfl,hl,hf⟩:=h _ _ hb;unfold World.frozen?;rw[ho];obtain⟨h1,h2⟩:=hk;have:(decide (lo<=a.off)&&decide (a.off<hi))=false:=by simp;omega
  simp only[this];exact h2
 .exact hk.elim
theorem Sh.fix {H:Hp}{r:Nat}{K:Option (TypeId×Nat)->Prop}(hk:Sh H r K):∃ s,K s/\∀ w,Fits H w->w.shape? r=s:=by
 by_cases h:∃ s,∀ w,Fits H w->w.shape? r=s
 .obtain⟨s,hs⟩:=h;by_cases hw:∃ w,Fits H w
  .obtain⟨w,hw⟩:=hw;exact⟨s,hs w hw▸hw.shape hk,hs⟩
  .unfold Sh at hk;split at hk
   .exact⟨_,hk,fun w h'=>(hw ⟨w,h'⟩).elim⟩
   .exact⟨_,hk,fun w h'=>(hw ⟨w,h'⟩).elim⟩
   .exact⟨_,hk,fun w h'=>(hw ⟨w,h'⟩).elim⟩
   .exact hk.elim
 .exfalso;unfold Sh at hk;split at hk
  .rename_i c e f hb
   exact h ⟨some (e,c.size),fun w hw=>hw.shape (K:=fun s=>s=some (e,c.size)) (by unfold Sh;rw[hb])⟩
  .rename_i o hno hb
   refine h ⟨none,fun w hw=>hw.shape (K:=fun s=>s=none) (by unfold Sh;rw[hb];split<;>simp_all)⟩
  .rename_i xs e n hb
   exact h ⟨some (e,n),fun w hw=>hw.shape (K:=fun s=>s=some (e,n)) (by unfold Sh;rw[hb])⟩
  .exact hk
theorem Fr.fix {H:Hp}{a:Addr}{K:Bool->Prop}(hk:Fr H a K):∃ s,K s/\∀ w,Fits H w->w.frozen? a=s:=by
 unfold Fr at hk;split at hk
 .rename_i c e lo hi hb
  exact⟨_,hk,fun w hw=>hw.frozen (K:=fun s=>s=(decide (lo<=a.off)&&decide (a.off<hi))) (by unfold Fr;rw[hb])⟩
 .rename_i xs e n hb
  exact⟨false,hk.2,fun w hw=>hw.frozen (K:=fun s=>s=false) (by unfold Fr;rw[hb];exact⟨hk.1,rfl⟩)⟩
 .exact hk.elim
def rv {α:Type}(P:Program):Sem α->Hp->(α->Prop)->Prop
 | .pure a,_,K=>K a
 | .load _ a k,H,K=>Ld H a fun v=>rv P (k v) H K
 | .shape r k,H,K=>Sh H r fun s=>rv P (k s) H K
 | .frozen a k,H,K=>Fr H a fun b=>rv P (k b) H K
 | .getObj r k,H,K=>CY H r fun o=>rv P (k o) H K
 | .program k,H,K=>rv P (k P) H K
 | .mark _ k,H,K=>rv P k H K
 |_,_,_=>False
def ef {α:Type}(P:Program):Sem α->Hp->(α->Hp->Prop)->Prop
 | .pure a,H,K=>K a H
 | .load _ a k,H,K=>Ld H a fun v=>ef P (k v) H K
 | .store _ a v k,H,K=>St H a v fun H'=>ef P k H' K
 | .new o k,H,K=>Nw H (.obj o) fun b H'=>ef P (k b) H' K
 | .shape r k,H,K=>Sh H r fun s=>ef P (k s) H K
 | .freeze a n k,H,K=>Fz H a n fun H'=>ef P k H' K
 | .frozen a k,H,K=>Fr H a fun b=>ef P (k b) H K
 | .getObj r k,H,K=>CY H r fun o=>ef P (k o) H K
 | .setObj r o k,H,K=>Ks H r o fun H'=>ef P k H' K
 | .program k,H,K=>ef P (k P) H K
 | .mark _ k,H,K=>ef P k H K
 |_,_,_=>False
theorem sw {α:Type}{P:Program}(s:Sem α):∀{H:Hp} {K:α->Prop},rv P s H K->∃ a,K a/\∀ w,Fits H w->s.run P w= .ok a w:=by
 induction s with
 |pure a=>intro H K h;exact⟨a,h,fun _ _=>rfl⟩
 |load m a k ih=>
  intro H K h;unfold rv Ld at h;split at h
  .rename_i v hv
   obtain⟨b,hk,hr⟩:=ih v h;exact⟨b,hk,fun w hw=>by simp only[Sem.run,hw.cell? hv];exact hr w hw⟩
  .exact h.elim
 |shape r k ih=>
  intro H K h;unfold rv at h;obtain⟨s,hs,he⟩:=Sh.fix h;obtain⟨b,hk,hr⟩:=ih s hs;exact⟨b,hk,fun w hw=>by simp only[Sem.run,he w hw];exact hr w hw⟩
 |frozen a k ih=>
  intro H K h;unfold rv at h;obtain⟨s,hs,he⟩:=Fr.fix h;obtain⟨b,hk,hr⟩:=ih s hs;exact⟨b,hk,fun w hw=>by simp only[Sem.run,he w hw];exact hr w hw⟩
 |getObj r k ih=>
  intro H K h;unfold rv CY at h;split at h
  .exact h.elim
  .rename_i o hno hb
   obtain⟨b,hk,hr⟩:=ih _ h;refine⟨b,hk,fun w hw=>?_⟩;obtain⟨o',ho,hh⟩:=hw _ _ hb;cases hh;cases o<;>first|(exact(hno _ _ _ rfl).elim)|(simp only[Sem.run,ho];exact hr w hw)
  .exact h.elim
 |program k ih=>
  intro H K h;obtain⟨b,hk,hr⟩:=ih _ h;exact⟨b,hk,hr⟩
 |mark m k ih=>
  intro H K h;obtain⟨b,hk,hr⟩:=ih h;exact⟨b,hk,hr⟩
 |store m a v k ih=>intro H K h;exact h.elim
 |new o k ih=>intro H K h;exact h.elim
 |freeze a n k ih=>intro H K h;exact h.elim
 |setObj r o k ih=>intro H K h;exact h.elim
 |choose q k ih=>intro H K h;exact h.elim
 |sys c k ih=>intro H K h;exact h.elim
 |halt x=>intro H K h;exact h.elim
theorem sd {α:Type}{P:Program}(s:Sem α):∀{H0 H:Hp} {w0 w:World} {K:α->Hp->Prop},ef P s H K->At H0 w0 H w->∃ a H' w',s.run P w= .ok a w'/\K a H'/\At H0 w0 H' w':=by
 induction s with
 |pure a=>intro H0 H w0 w K h hA;exact⟨a,H,w,rfl,h,hA⟩
 |load m a k ih=>
  intro H0 H w0 w K h hA;unfold ef Ld at h;split at h
  .rename_i v hv
   obtain⟨b,H',w',hr,hk⟩:=ih v h hA;refine⟨b,H',w',?_,hk⟩;simp only[Sem.run,hA.fits.cell? hv];exact hr
  .exact h.elim
 |store m a v k ih=>
  intro H0 H w0 w K h hA;unfold ef St at h;split at h
  .rename_i H1 hp
   obtain⟨⟨u,hu⟩,hf,h1,hA'⟩:=hA.put hp;obtain⟨b,H',w',hr,hk⟩:=ih h hA';refine⟨b,H',w',?_,hk⟩;cases v<;>simp only[Value.oneCell',Bool.false_eq_true]at h1<;>simp only[Sem.run,hu,hf]<;>exact hr
  .exact h.elim
 |new o k ih=>
  intro H0 H w0 w K h hA;unfold ef Nw at h;obtain⟨hn,hA'⟩:=hA.new (o:=.obj o) (x:=o) rfl;obtain⟨b,H',w',hr,hk⟩:=ih _ (h _ hn) hA';exact⟨b,H',w',hr,hk⟩
 |shape r k ih=>
  intro H0 H w0 w K h hA;unfold ef at h;obtain⟨b,H',w',hr,hk⟩:=ih _ (hA.fits.shape h) hA;exact⟨b,H',w',hr,hk⟩
 |freeze a n k ih=>
  intro H0 H w0 w K h hA;unfold ef Fz at h;obtain⟨rfl,h⟩:=h;split at h
  .rename_i xs e m hb
   obtain⟨hoff,h⟩:=h;obtain⟨o',ho,sp,lo,hi,rfl,hl,hf⟩:=hA.fits _ _ hb;have hA':At H0 w0 H (w.freeze a 1):=by
    have:=hA.jy (w':=w.freeze a 1) hb (o':=.row xs e m) (x':=.cells (xs++sp).toArray e (if lo==hi then(a.off,a.off+1)else(min lo a.off,max hi (a.off+1)))) ?_ ?_ ?_ rfl rfl rfl ?_
    .have hH:H.set a.block (.row xs e m)=H:=by
      funext c;by_cases e:c=a.block
      .subst e;rw[Hp.bB,hb]
      .rw[Hp.bK _ _ e]
     rwa [hH]at this
    .simp only[World.freeze,Nat.one_ne_zero,if_false];refine(getElem?_modify_self ho).trans ?_;rfl
    .by_cases e:lo=hi
     .subst e;exact⟨sp,a.off,a.off+1,by simp,hl,.inr (by omega)⟩
     .have:(lo==hi)=false:=by simpa using e
      refine⟨sp,min lo a.off,max hi (a.off+1),by simp[this],hl,.inr ?_⟩;have:=hf.resolve_left e;omega
    .simp[World.freeze]
    .intro c hc;simp only[World.freeze,Nat.one_ne_zero,if_false];rw[Array.getElem?_modify,if_neg (fun e=>hc e.symm)]
   obtain⟨b,H',w',hr,hk⟩:=ih h hA';exact⟨b,H',w',hr,hk⟩
  .exact h.elim
 |frozen a k ih=>
  intro H0 H w0 w K h hA;unfold ef at h;obtain⟨b,H',w',hr,hk⟩:=ih _ (hA.fits.frozen h) hA;exact⟨b,H',w',hr,hk⟩
 |getObj r k ih=>
  intro H0 H w0 w K h hA;unfold ef CY at h;split at h
  .exact h.elim
  .rename_i o hno hb
   obtain⟨o',ho,hh⟩:=hA.fits _ _ hb;cases hh;obtain⟨b,H',w',hr,hk⟩:=ih _ h hA;refine⟨b,H',w',?_,hk⟩;cases o<;>first|(exact(hno _ _ _ rfl).elim)|(simp only[Sem.run,ho];exact hr)
  .exact h.elim
 |setObj r o k ih=>
  intro H0 H w0 w K h hA;unfold ef Ks at h;split at h
  .exact h.elim
  .rename_i q hno hb
   obtain⟨o',ho,hh⟩:=hA.fits _ _ hb;cases hh;have hlt:r<w.heap.size:=(Array.getElem?_eq_some_iff.1 ho).1;have hA':At H0 w0 (H.set r (.obj o)) { w with heap:=w.heap.setIfInBounds r o}:=
    hA.jy hb (x':=o) (by simp[hlt]) rfl (by simp) rfl rfl rfl (fun c hc=>by simp[Array.getElem?_setIfInBounds_ne (Ne.symm hc)])
   obtain⟨b,H',w',hr,hk⟩:=ih h hA';refine⟨b,H',w',?_,hk⟩;cases q<;>first|(exact(hno _ _ _ rfl).elim)|(simp only[Sem.run,ho];exact hr)
  .exact h.elim
 |choose q k ih=>intro H0 H w0 w K h _;exact h.elim
 |sys c k ih=>intro H0 H w0 w K h _;exact h.elim
 |program k ih=>
  intro H0 H w0 w K h hA;unfold ef at h;obtain⟨b,H',w',hr,hk⟩:=ih _ h hA;exact⟨b,H',w',hr,hk⟩
 |mark m k ih=>
  intro H0 H w0 w K h hA;unfold ef at h;obtain⟨b,H',w',hr,hk⟩:=ih h hA;exact⟨b,H',w',hr,hk⟩
 |halt x=>intro H0 H w0 w K h _;exact h.elim
end Go.Hw
namespace Go.Hw
open Go
def aa (P:Program)(f:FuncId)(args:Array Value)(H:Hp)(R:VK):Prop:=
 ∀ w,Fits H w->Calls P f args w fun e w'=>∃ v H',e= .returned v/\R v H'/\At H w H' w'
theorem aa.mono {P:Program}{f:FuncId}{args:Array Value}{H:Hp}{R R':VK}(h:aa P f args H R)(k:∀ v H',R v H'->R' v H'):aa P f args H R':=
 fun w hw=>(h w hw).mono fun _ _ ⟨v,H',e,r,a⟩=>⟨v,H',e,k v H' r,a⟩
theorem aa.forget {P:Program}{f:FuncId}{args:Array Value}{H:Hp}{R:VK}(h:aa P f args H fun v H'=>∃ H'',H''.le H'/\R v H''):aa P f args H R:=
 fun w hw=>(h w hw).mono fun _ _ ⟨v,_,e,⟨H'',l,r⟩,a⟩=>⟨v,H'',e,r,a.weaken l⟩
def bD (P:Program)(f:FuncId)(args:Array Value)(H:Hp)(K:Value->Prop):Prop:=∃ v,K v/\aa P f args H fun v' H'=>v'=v/\H.le H'
abbrev Env :=List (Nat×Value)
def Env.get? :Env->Nat->Option Value
 | [],_=>none
 |(t',v)::r,t=>match Nat.beq t t' with|true=>some v|false=>Env.get? r t
def Env.ev (E:Env):Operand->Option Value
 | .tmp t=>E.get? t
 | .const v=>some v
 | .global g=>some (V g)
 | .func f=>some (.func (.func f) #[] #[])
def Env.at (E:Env)(x:Operand):Value:=match E.ev x with|some v=>v|none=>undef
def da (E:Env)(n:Nat)(a:Act):Prop:=a.tmps.size=n/\∀ t v,E.get? t=some v->a.tmps.getD t undef=v
theorem da.weaken {E E':Env}{n:Nat}{a:Act}(h:da E n a)(k:∀ t v,E'.get? t=some v->E.get? t=some v):da E' n a:=
 ⟨h.1,fun t v ht=>h.2 t v (k t v ht)⟩
theorem da.ev {E:Env}{n:Nat}{a:Act}{x:Operand}{v:Value}(h:da E n a)(hx:E.ev x=some v):a.eval x=v:=by
 cases x with
 |tmp t=>exact h.2 t v hx
 |const c=>simpa [Env.ev,Act.eval]using hx
 |global g=>simpa [Env.ev,Act.eval]using hx
 |func f=>simpa [Env.ev,Act.eval]using hx
theorem da.put {E:Env}{n d:Nat}{a:Act}(h:da E n a)(hd:d<n)(v:Value):da ((d,v)::E) n (a.put (some d) v):=by
 refine⟨by simp[Act.put,h.1],fun t u ht=>?_⟩;unfold Env.get? at ht;have hsz:d<a.tmps.size:=by rw[h.1];exact hd
 split at ht
 .rename_i hb
  cases ht;obtain rfl:=Nat.eq_of_beq_eq_true hb;simp[Act.put,hsz]
 .rename_i hb
  have hne:t≠d:=fun e=>by rw[e,Nat.beq_refl]at hb;cases hb
  have:=h.2 t u ht;simp only[Act.put];rw[<- this];simp only[Array.getD_eq_getD_getElem?];rw[Array.getElem?_setIfInBounds_ne (Ne.symm hne)]
def fZ (n:Nat)(dst:Option Tmp)(v:Value)(E:Env)(K:Env->Prop):Prop:=
 match dst with
 |some d=>match Nat.blt d n with|true=>K ((d,v)::E)|false=>False
 |none=>K E
theorem fZ.sound {n:Nat}{dst:Option Tmp}{v:Value}{E:Env}{K:Env->Prop}{a:Act}(h:fZ n dst v E K)(ha:da E n a):∃ E',K E'/\da E' n (a.put dst v):=by
 unfold fZ at h;split at h
 .rename_i d
  split at h
  .rename_i hb
   exact⟨_,h,ha.put (by have:=hb;simp[Nat.blt]at this;omega) v⟩
  .exact h.elim
 .exact⟨E,h,ha⟩
inductive Lf where
 |int (k:IntKind)|bool|str|ptr|sl|map|any
def Dt (l:Lf)(v:Value)(K:Value->Prop):Prop:=
 match l with
 | .int k=>DI k v fun n=>K (.int k n)
 | .bool=>DB v fun b=>K (.bool b)
 | .str=>DS v fun s=>K (.string s)
 | .ptr=>DP v fun p=>K (.pointer p)
 | .sl=>aE v fun a n c=>K (.slice a n c)
 | .map=>DM v fun r=>K (.map r)
 | .any=>K v
theorem Dt.out {l:Lf}{v:Value}{K:Value->Prop}(h:Dt l v K):K v:=by
 cases l<;>cases v<;>first|exact h|exact h.elim|skip
 rename_i k' k2 n'
 obtain⟨n,hn,h⟩:=DI.out (show DI k' (.int k2 n') (fun n=>K (.int k' n))from h);rw[hn];exact h
def zo (P:Program):Nat->TypeId->List Lf
 |0,_=>[.any]
 |f+1,t=>
  match P.underlying t with
  |some (.int k)=>[.int k]
  |some .bool=>[.bool]
  |some .string=>[.str]
  |some (.pointer _)=>[.ptr]
  |some (.slice _)=>[.sl]
  |some (.map ..)=>[.map]
  |some (.struct fs)=>fs.toList.flatMap fun x=>zo P f x.type
  |some (.array n e)=>(List.replicate n (zo P f e)).flatten
  |_=>[.any]
def az (l:List Value)(K:Value→List Value→Prop):Prop:=match l with|v::r=>K v r| []=>False
def bF (l:List Value)(K:Prop):Prop:=match l with| []=>K|_=>False
def vw :List Lf->List Value->(List Value->Prop)->Prop
 | [],vs,K=>bF vs (K [])
 |l::ls,vs,K=>az vs fun v r=>Dt l v fun v'=>vw ls r fun vs'=>K (v'::vs')
theorem vw.out :∀{ls:List Lf} {vs:List Value} {K:List Value->Prop},vw ls vs K->K vs
 | [],[],_,h=>h
 |_::ls,v::vs,K,h=>vw.out (K:=fun vs'=>K (v::vs')) (Dt.out (K:=fun v'=>vw ls vs fun vs'=>K (v'::vs')) h)
 | [],_::_,_,h=>h.elim
 |_::_,[],_,h=>h.elim
def DA (v:Value)(K:Array Value→Prop):Prop:=match v with| .agg cs=>K cs|_=>False
def eF (v:Value)(K:List Value→Prop):Prop:=match v with| .tuple vs=>K vs.toList|_=>False
def DT (P:Program)(t:TypeId)(v:Value)(K:Value->Prop):Prop:=
 match P.underlying t with
 |some (.struct _)=>DA v fun cs=>K (.agg cs)
 |some (.array ..)=>DA v fun cs=>K (.agg cs)
 |some (.int k)=>DI k v fun n=>K (.int k n)
 |some .bool=>DB v fun b=>K (.bool b)
 |some .string=>DS v fun s=>K (.string s)
 |some (.pointer _)=>DP v fun p=>K (.pointer p)
 |some (.slice _)=>aE v fun a n c=>K (.slice a n c)
 |some (.map ..)=>DM v fun r=>K (.map r)
 |_=>K v
theorem DA.out {v:Value}{K:Array Value->Prop}(h:DA v K):∃ cs,v= .agg cs/\K cs:=by
 cases v<;>first|exact h.elim|exact⟨_,rfl,h⟩
theorem DT.out {P:Program}{t:TypeId}{v:Value}{K:Value->Prop}(h:DT P t v K):K v:=by
 unfold DT at h;split at h
 .obtain⟨cs,rfl,h⟩:=DA.out h;exact h
 .obtain⟨cs,rfl,h⟩:=DA.out h;exact h
 .exact Dt.out (l:=.int _) h
 .exact Dt.out (l:=.bool) h
 .exact Dt.out (l:=.str) h
 .exact Dt.out (l:=.ptr) h
 .exact Dt.out (l:=.sl) h
 .exact Dt.out (l:=.map) h
 .exact h
def zG (P:Program):List TypeId->List Value->(List Value->Prop)->Prop
 | [],vs,K=>bF vs (K [])
 |t::ts,vs,K=>az vs fun v r=>DT P t v fun v'=>zG P ts r fun vs'=>K (v'::vs')
theorem zG.out {P:Program}:∀{ts:List TypeId} {vs:List Value} {K:List Value->Prop},zG P ts vs K->K vs
 | [],[],_,h=>h
 |_::ts,v::vs,K,h=>zG.out (K:=fun vs'=>K (v::vs')) (DT.out (K:=fun v'=>zG P ts vs fun vs'=>K (v'::vs')) h)
 | [],_::_,_,h=>h.elim
 |_::_,[],_,h=>h.elim
def DR (P:Program)(ts:List TypeId)(v:Value)(K:Value->Prop):Prop:=
 match ts with
 | []=>K v
 | [t]=>DT P t v K
 |ts=>eF v fun vs=>zG P ts vs fun l=>K (.tuple l.toArray)
theorem DR.out {P:Program}{ts:List TypeId}{v:Value}{K:Value->Prop}(h:DR P ts v K):K v:=by
 unfold DR at h;split at h
 .exact h
 .exact DT.out h
 .cases v<;>first|exact h.elim|skip
  simpa using zG.out h
def DE (c:Bool)(x y:Value):Value:=
 match x,y with
 | .bool a,.bool b=>.bool (bif c then a else b)
 |_,_=>bif c then x else y
theorem Hl (c:Bool)(x y:Value):DE c x y=if c then x else y:=by
 unfold DE;split<;>cases c<;>simp
def cD (k:IntKind)(a b:Int):Int:=k.wrap ((BitVec.ofInt k.bits a&&&BitVec.ofInt k.bits b).toNat:Int)
def kT (k:IntKind)(a b:Int):Int:=k.wrap ((BitVec.ofInt k.bits a|||BitVec.ofInt k.bits b).toNat:Int)
def kU (k:IntKind)(a b:Int):Int:=k.wrap ((BitVec.ofInt k.bits a^^^BitVec.ofInt k.bits b).toNat:Int)
def cT (k:IntKind)(x y:Int):Int:=k.wrap (x*2^(min y.toNat k.bits))
def cB (k:IntKind)(x y:Int):Int:=x.fdiv (2^(min y.toNat k.bits))
def iG (a:OA)(m l size:Nat):OA:=if m=l then a else a.map (·.add (l*size))
def zH (P:Program)(op:BinOp)(t:TypeId)(x y:Value)(K:Bool->Prop):Prop:=
 ∃ b:Bool,K b/\∀(xo yo:Operand) (w:World),(do eqGuard op t xo yo x y;binOp op t x y:Sem Value).run P w= .ok (.bool b) w
def zn (P:Program)(t:TypeId):Bool:=match P.underlying t with|some (.pointer _)=>true|_=>false
def Dm (P:Program)(t:TypeId):Bool:=match P.underlying t with|some (.slice _)=>true|_=>false
def valueOf (K:Value->Prop):Next->Prop
 | .value v=>K v
 |_=>False
def Dx (P:Program)(op:BinOp)(t:TypeId)(x y:Value)(gen:Prop)(K:Value->Prop):Prop:=
 match op,x,y with
 | .quo,.int k a,.int k' b=>b≠0/\k=k'/\K (.int k (k.wrap (a.tdiv b)))
 | .rem,.int k a,.int k' b=>b≠0/\k=k'/\K (.int k (a.tmod b))
 | .shl,.int k a,.int _ b=>0<=b/\K (.int k (cT k a b))
 | .shr,.int k a,.int _ b=>0<=b/\K (.int k (cB k a b))
 | .add,.string a,.string b=>a.size+b.size<=4611686018427387904/\K (.string (a++b))
 | .eql,.pointer p,.pointer q=>match q with|none=>aq (zn P t) (K (.bool p.isNone)) False|some _=>zH P op t x y fun b=>K (.bool b)
 | .neq,.pointer p,.pointer q=>match q with|none=>aq (zn P t) (K (.bool (!p.isNone))) False|some _=>zH P op t x y fun b=>K (.bool b)
 | .eql,.slice a _ _,.slice b _ _=>match b with|none=>aq (Dm P t) (K (.bool a.isNone)) False|some _=>False
 | .neq,.slice a _ _,.slice b _ _=>match b with|none=>aq (Dm P t) (K (.bool (!a.isNone))) False|some _=>False
 | .eql,.agg _,.agg _=>zH P op t x y fun b=>K (.bool b)
 | .neq,.agg _,.agg _=>zH P op t x y fun b=>K (.bool b)
 |_,_,_=>gen
def cz (i:Int)(len:Nat)(K:Prop):Prop:=0<=i/\i<len/\K
def Au (cs:Array Value)(i:Nat)(K:Value→Prop):Prop:=match cs[i]? with|some v=>K v|none=>False
def Cf (s:ByteArray)(i:Nat)(K:Int→Prop):Prop:=match s[i]? with|some b=>K (b.toNat:Int)|none=>False
def lO (len cap:Nat)(lo hi:Option Int)(K:Nat->Nat->Prop):Prop:=
 match hi with
 |some h=>0<=h/\h<=cap/\(match lo with|some l=>0<=l/\l<=(h.toNat:Int)/\K l.toNat h.toNat|none=>K 0 h.toNat)
 |none=>match lo with|some l=>0<=l/\l<=(len:Int)/\K l.toNat len|none=>K 0 len
def vf :Option Value->Option (Option Int)
 |none=>some none
 |some (.int _ n)=>some (some n)
 |some _=>none
def xq (P:Program)(t:TypeId)(x:Value)(lo hi mx:Option Value)(K:Value->Prop):Prop:=
 match mx,vf lo,vf hi with
 |none,some lo,some hi=>
  match P.underlying t,x with
  |some .string,.string s=>lO s.size s.size lo hi fun l h=>K (.string (s.extract l h))
  |some (.slice e),.slice a len cap=>match P.info? e with
   |some i=>lO len cap lo hi fun l h=>K (.slice (iG a cap l i.size) (h-l) (cap-l))
   |none=>False
  |some (.array n e),.pointer p=>match P.info? e with
   |some i=>NN p fun a=>lO n n lo hi fun l h=>K (.slice (iG (some a) n l i.size) (h-l) (n-l))
   |none=>False
  |_,_=>False
 |_,_,_=>False
def ry (H:Hp)(a:Addr):List UInt8->Nat->Prop
 | [],_=>True
 |b::l,i=>H.cell? (a.add i)=some (.int .u8 b.toNat)/\ry H a l (i+1)
def Ii (H:Hp)(a:OA)(n:Nat)(K:ByteArray->Prop):Prop:=
 ∃ s:ByteArray,K s∧s.size=n∧match a with|none=>n=0|some ad=>ry H ad s.data.toList 0
def sR (P:Program)(s:Sem Value)(H:Hp)(K:Value->Prop):Prop:=∃ v,K v/\∀ w,Fits H w->s.run P w= .ok v w
def Ex (v:Value)(i:Nat)(K:Value→Prop):Prop:=match v with| .tuple vs=>(match vs[i]? with|some u=>K u|none=>False)|_=>False
def Ik (P:Program)(e:TypeId)(ok:Bool)(v:Value)(K:Value->Prop):Prop:=
 match ok with
 |true=>eF v fun l=>az l fun v1 l1=>DT P e v1 fun v1=>az l1 fun v2 l2=>DB v2 fun b=>bF l2 (K (.tuple #[v1,.bool b]))
 |false=>DT P e v K
theorem Ik.out {P:Program}{e:TypeId}{ok:Bool}{v:Value}{K:Value->Prop}(h:Ik P e ok v K):K v:=by
 unfold Ik at h;split at h
 .cases v<;>first|exact h.elim|skip
  rename_i vs
  obtain⟨vs⟩:=vs;simp only[eF,az]at h
  match vs,h with
  | [],h=>exact h.elim
  | [a],h=>
   have h1:=DT.out h;exact h1.elim
  |a::b::r,h=>
   have h1:=DT.out h;simp only at h1;have h2:DB b fun c=>bF r (K (.tuple #[a,.bool c])):=h1
   cases b<;>first|exact h2.elim|skip
   match r,h2 with
   | [],h2=>exact h2
   |_::_,h2=>exact h2.elim
 .exact h.out
def Hp.cells? (H:Hp)(a:Addr):(i n:Nat)->Option (List Value)
 |_,0=>some []
 |i,n+1=>match H.cell? (a.add i)with
  |some v=>match H.cells? a (i+1) n with|some l=>some (v::l)|none=>none
  |none=>none
def aY (H:Hp)(a:Addr)(n:Nat)(K:List Value→Prop):Prop:=match H.cells? a 0 n with|some l=>K l|none=>False
def Et (P:Program)(t:TypeId)(a:Addr)(H:Hp)(K:Value->Prop):Prop:=
 match P.underlying t with
 |some (.array ..)=>match P.info? t with
  |some i=>aY H a i.size fun l=>K (.agg l.toArray)
  |none=>False
 |some (.struct _)=>match P.info? t with
  |some i=>aY H a i.size fun l=>K (.agg l.toArray)
  |none=>False
 |_=>rv P (loadVar t a) H fun v=>DT P t v K
def Xp (P:Program)(t:TypeId)(v:Value)(K:Value->Prop):Prop:=
 match P.underlying t,v with
 |some (.struct _),.agg cs=>vw (zo P 9 t) cs.toList fun l=>K (.agg l.toArray)
 |some (.array ..),.agg cs=>vw (zo P 9 t) cs.toList fun l=>K (.agg l.toArray)
 |_,_=>K v
theorem Xp.out {P:Program}{t:TypeId}{v:Value}{K:Value->Prop}(h:Xp P t v K):K v:=by
 unfold Xp at h;split at h
 .simpa using vw.out h
 .simpa using vw.out h
 .exact h
def oa (P:Program)(ty:Nat->TypeId):List (Nat×Value)->(List (Nat×Value)->Prop)->Prop
 | [],K=>K []
 |(i,v)::r,K=>Xp P (ty i) v fun v'=>oa P ty r fun r'=>K ((i,v')::r')
theorem oa.out {P:Program}{ty:Nat->TypeId}:∀{ps:List (Nat×Value)} {K:List (Nat×Value)->Prop},oa P ty ps K->K ps
 | [],_,h=>h
 |(i,v)::r,K,h=>oa.out (K:=fun r'=>K ((i,v)::r')) (Xp.out (K:=fun v'=>oa P ty r fun r'=>K ((i,v')::r')) h)
def K4 (P:Program)(t:TypeId)(i:Nat):TypeId:=
 match P.underlying t with
 |some (.struct fs)=>match fs[i]? with|some f=>f.type|none=>0
 |some (.array _ e)=>e
 |some (.slice e)=>e
 |_=>0
def tg (P:Program)(o:Oper)(ρ:Operand->Value)(H:Hp)(K:Value->Prop):Prop:=
 match o.op with
 | .move x=>K (ρ x)
 | .assign x=>K (ρ x)
 | .pick c a b=>match ρ c with| .bool c=>K (DE c (ρ a) (ρ b))|_=>False
 | .load t x=>match ρ x with
  | .pointer p=>NN p fun a=>Et P t a H K
  |_=>False
 | .extract t i=>Ex (ρ t) i fun u=>DT P o.type u K
 | .lookup t x k ok=>match P.underlying t with
  |some (.map _ e)=>sR P (Instr.lookup t (ρ x) (ρ k) ok) H fun v=>Ik P e ok v K
  |_=>False
 | .nilCheck x=>match ρ x with
  | .pointer p=>NN p fun a=>K (.pointer (some a))
  | .func (.func g) f c=>K (.func (.func g) f c)
  |_=>False
 | .binOp op t x y _=>Dx P op t (ρ x) (ρ y) (rv P (execOp ρ o) H (valueOf K)) K
 | .indexAddr t x ix=>match ρ ix with
  | .int _ i=>match P.underlying t,ρ x with
   |some (.slice e),.slice a len _=>match P.info? e with
    |some j=>cz i len (NN a fun a=>K (.pointer (some (a.add (i.toNat*j.size)))))
    |none=>False
   |some (.array len e),.pointer p=>match P.info? e with
    |some j=>NN p fun a=>cz i len (K (.pointer (some (a.add (i.toNat*j.size)))))
    |none=>False
   |_,_=>False
  |_=>False
 | .index t x ix=>match ρ ix with
  | .int _ i=>match P.underlying t,ρ x with
   |some .string,.string s=>0<=i/\Cf s i.toNat fun b=>K (.int .u8 b)
   |some (.array len e),.agg cs=>match P.underlying e,P.info? e with
    |some (.struct _),some j=>cz i len (K (.agg (cs.extract (i.toNat*j.size) (i.toNat*j.size+j.size))))
    |some (.array ..),some j=>cz i len (K (.agg (cs.extract (i.toNat*j.size) (i.toNat*j.size+j.size))))
    |some _,some j=>cz i len (Au cs (i.toNat*j.size) fun v=>DT P e v K)
    |_,_=>False
   |_,_=>False
  |_=>False
 | .slice t x lo hi mx=>xq P t (ρ x) (lo.map ρ) (hi.map ρ) (mx.map ρ) K
 | .field t x f=>match P.underlying t,ρ x with
  |some (.struct fs),.agg cs=>match fs[f]? with
   |some fd=>match P.underlying fd.type,P.info? fd.type with
    |some (.struct _),some j=>K (.agg (cs.extract fd.offset (fd.offset+j.size)))
    |some (.array ..),some j=>K (.agg (cs.extract fd.offset (fd.offset+j.size)))
    |some _,some _=>Au cs fd.offset fun v=>DT P fd.type v K
    |_,_=>False
   |none=>False
  |_,_=>False
 | .build t parts=>oa P (K4 P t) (parts.toList.map fun(i,x)=>(i,ρ x)) fun ps=>rv P (Instr.build t ps.toArray) H K
 | .convert s d x=>match P.underlying s,P.underlying d,ρ x with
  |some (.slice e),some .string,.slice a n _=>match P.underlying e with
   |some (.int .u8)=>Ii H a n fun s=>K (.string s)
   |_=>False
  |_,_,_=>rv P (execOp ρ o) H (valueOf K)
 | .fieldAddr s x f=>match ρ x with
  | .pointer p=>NN p fun a=>rv P (Instr.fieldAt s (.pointer (some a)) f) H K
  |_=>False
 |_=>rv P (execOp ρ o) H (valueOf K)
def Ce :Oper->Bool:=fun o=>match o.op with
 | .move _| .assign _| .pick .. | .load .. | .nilCheck _| .binOp .. | .unOp .. | .indexAddr .. | .index .. | .slice .. | .field .. | .fieldAddr .. | .extract .. | .build .. | .makeFunc .. | .lookup .. =>true
 | .call { callee:=.builtin .len,..}| .call { callee:=.builtin .min,..}| .call { callee:=.builtin .max,..}=>true
 |_=>false
theorem xY {P:Program}{H:Hp}{w:World}(hw:Fits H w)(a:Addr):∀(l:List UInt8) (i:Nat) (acc:Array Value),ry H a l i->
  (loadCellsFrom a i l.length acc).run P w= .ok (acc++(l.map fun b=>Value.int .u8 (b.toNat:Int)).toArray) w
 | [],i,acc,_=>by simp[loadCellsFrom]
 |b::l,i,acc,h=>by
  obtain⟨h1,h2⟩:=h;simp only[List.length_cons,loadCellsFrom,Sem.run_bind,run_load,hw.cell? h1,Result.andThen_ok];rw[xY hw a l (i+1) _ h2];simp
theorem uB {P:Program}(w:World)(g:Value->ByteArray->Sem (ForInStep ByteArray))(hg:∀(b:UInt8) r,g (.int .u8 (b.toNat:Int)) r=pure (ForInStep.yield (r.push b))):∀(l:List UInt8) (s:ByteArray),
  (forIn (l.map fun b=>Value.int .u8 (b.toNat:Int)) s g:Sem ByteArray).run P w= .ok (l.foldl ByteArray.push s) w
 | [],s=>by simp
 |b::l,s=>by
  simp only[List.map_cons,List.forIn_cons,Sem.run_bind,hg,Sem.run_pure,Result.andThen_ok,List.foldl_cons];exact uB w g hg l _
theorem foldl_push (l:List UInt8):∀(s:ByteArray),l.foldl ByteArray.push s=⟨(s.data.toList++l).toArray⟩:=by
 induction l with
 |nil=>intro s;simp
 |cons b l ih=>intro s;rw[List.foldl_cons,ih];simp[ByteArray.push]
theorem o4 {P:Program}{H:Hp}{w:World}(hw:Fits H w)(a:Addr):∀(n i:Nat) (acc:Array Value) (l:List Value),H.cells? a i n=some l->(loadCellsFrom a i n acc).run P w= .ok (acc++l.toArray) w
 |0,i,acc,l,h=>by simp[Hp.cells?]at h;subst h;simp[loadCellsFrom]
 |n+1,i,acc,l,h=>by
  unfold Hp.cells? at h;split at h
  .rename_i v hv
   split at h
   .rename_i l' hl
    cases h;simp only[loadCellsFrom,Sem.run_bind,run_load,hw.cell? hv,Result.andThen_ok];rw[o4 hw a n (i+1) _ _ hl];simp
   .cases h
  .cases h
theorem Et.sound {P:Program}{t:TypeId}{a:Addr}{H:Hp}{K:Value->Prop}(h:Et P t a H K):∃ v,K v/\∀ w,Fits H w->(loadVar t a).run P w= .ok v w:=by
 unfold Et at h;split at h
 .rename_i n e hu
  split at h
  .rename_i i hi
   unfold aY at h;split at h
   .rename_i l hl
    refine⟨_,h,fun w hw=>?_⟩;have hag:(isAgg t).run P w= .ok true w:=by simp[isAgg,underlying,hu]
    have hsz:(sizeOf t).run P w= .ok i.size w:=by simp[sizeOf,typeInfo,hi]
    simp only[loadVar,Sem.run_bind,hag,Result.andThen_ok,if_true,hsz,loadCells,o4 hw _ _ _ _ _ hl];simp
   .exact h.elim
  .exact h.elim
 .rename_i fs hu
  split at h
  .rename_i i hi
   unfold aY at h;split at h
   .rename_i l hl
    refine⟨_,h,fun w hw=>?_⟩;have hag:(isAgg t).run P w= .ok true w:=by simp[isAgg,underlying,hu]
    have hsz:(sizeOf t).run P w= .ok i.size w:=by simp[sizeOf,typeInfo,hi]
    simp only[loadVar,Sem.run_bind,hag,Result.andThen_ok,if_true,hsz,loadCells,o4 hw _ _ _ _ _ hl];simp
   .exact h.elim
  .exact h.elim
 .obtain⟨v,hk,hr⟩:=sw _ h;exact⟨v,hk.out,hr⟩
theorem vn {P:Program}{s:Sem Next}{H:Hp}{K:Value->Prop}(h:rv P s H (valueOf K)):∃ v,K v/\∀ w,Fits H w->s.run P w= .ok (.value v) w:=by
 obtain⟨nx,hk,hr⟩:=sw s h;cases nx<;>first|exact hk.elim|exact⟨_,hk,hr⟩
theorem NN.out {p:OA}{K:Addr->Prop}(h:NN p K):∃ a,p=some a/\K a:=by
 cases p with
 |none=>exact h.elim
 |some a=>exact⟨a,rfl,h⟩
theorem aq.out {c:Bool}{X Y:Prop}(h:aq c X Y):(c=true/\X)\/(c=false/\Y):=by
 cases c
 .exact .inr ⟨rfl,h⟩
 .exact .inl ⟨rfl,h⟩
theorem aN {P:Program}{t:TypeId}{d:TypeDesc}(h:P.underlying t=some d)(w:World):(underlying t).run P w= .ok d w:=by
 simp[underlying,h]
theorem iI {P:Program}{t:TypeId}{d:TypeInfo}(h:P.info? t=some d)(w:World):(typeInfo t).run P w= .ok d w:=by
 simp[typeInfo,h]
theorem fk {P:Program}{t:TypeId}{d:TypeInfo}(h:P.info? t=some d)(w:World):(sizeOf t).run P w= .ok d.size w:=by
 simp[sizeOf,iI h]
theorem ym {P:Program}{t:TypeId}(h:zn P t=true):∃ e,P.underlying t=some (.pointer e):=by
 unfold zn at h;split at h
 .exact⟨_,‹_›⟩
 .cases h
theorem Ao {P:Program}{t:TypeId}(h:Dm P t=true):∃ e,P.underlying t=some (.slice e):=by
 unfold Dm at h;split at h
 .exact⟨_,‹_›⟩
 .cases h
theorem qL {P:Program}(op:BinOp)(t:TypeId)(x y:Operand)(p q:OA)(w:World):(eqGuard op t x y (.pointer p) (.pointer q)).run P w= .ok () w:=by
 unfold eqGuard;cases op<;>simp
theorem rA {P:Program}(op:BinOp)(t:TypeId)(x y:Operand)(p q:OA)(n c n' c':Nat)(w:World):(eqGuard op t x y (.slice p n c) (.slice q n' c')).run P w= .ok () w:=by
 unfold eqGuard;cases op<;>simp
theorem kN {P:Program}(op:BinOp)(t:TypeId)(x y:Operand)(k k':IntKind)(a b:Int)(w:World):(eqGuard op t x y (.int k a) (.int k' b)).run P w= .ok () w:=by
 unfold eqGuard;cases op<;>simp
theorem vR {P:Program}(op:BinOp)(t:TypeId)(x y:Operand)(a b:ByteArray)(w:World):(eqGuard op t x y (.string a) (.string b)).run P w= .ok () w:=by
 unfold eqGuard;cases op<;>simp
theorem sH {P:Program}{t e:TypeId}(h:P.underlying t=some (.pointer e))(p:OA)(w:World):(Op.equal t (.pointer p) (.pointer none)).run P w= .ok p.isNone w:=by
 unfold Op.equal Op.maxDepth Op.equalIn;cases p<;>simp[aN h]
theorem sY {P:Program}{t e:TypeId}(h:P.underlying t=some (.slice e))(p:OA)(n c n' c':Nat)(w:World):(Op.equal t (.slice p n c) (.slice none n' c')).run P w= .ok p.isNone w:=by
 unfold Op.equal Op.maxDepth Op.equalIn;cases p<;>simp[aN h]
theorem JR {P:Program}{t:TypeId}{xo yo:Operand}{k k':IntKind}{a b:Int}(h:0<=b)(w:World):
  (do eqGuard .shl t xo yo (.int k a) (.int k' b);binOp .shl t (.int k a) (.int k' b):Sem Value).run P w= .ok (.int k (cT k a b)) w:=by
 have hn:=Int.not_lt.2 h;simp[kN,binOp,Op.shift,cT,hn]
theorem JS {P:Program}{t:TypeId}{xo yo:Operand}{k k':IntKind}{a b:Int}(h:0<=b)(w:World):
  (do eqGuard .shr t xo yo (.int k a) (.int k' b);binOp .shr t (.int k a) (.int k' b):Sem Value).run P w= .ok (.int k (cB k a b)) w:=by
 have hn:=Int.not_lt.2 h;simp[kN,binOp,Op.shift,cB,hn]
theorem JQ {P:Program}{t:TypeId}{xo yo:Operand}{a b:ByteArray}(h:a.size+b.size<=4611686018427387904)(w:World):
  (do eqGuard .add t xo yo (.string a) (.string b);binOp .add t (.string a) (.string b):Sem Value).run P w= .ok (.string (a++b)) w:=by
 have hn:¬((a.size+b.size:Nat):Int)>i64.max:=by rw[show i64.max=9223372036854775807 from rfl];omega
 simp only[Sem.run_bind,vR,Result.andThen_ok,binOp,Op.stringOp];rw[if_neg hn];rfl
theorem BQ {P:Program}{op:BinOp}{t:TypeId}{x y:Value}{gen:Prop}{K:Value->Prop}{H:Hp}{xo yo:Operand}
  (hg:gen->∃ v,K v/\∀ w,Fits H w->(do eqGuard op t xo yo x y;binOp op t x y:Sem Value).run P w= .ok v w) (h:Dx P op t x y gen K):
  ∃ v,K v/\∀ w,Fits H w->(do eqGuard op t xo yo x y;binOp op t x y:Sem Value).run P w= .ok v w:=by
 unfold Dx at h;split at h
 .obtain⟨h0,rfl,hk⟩:=h;exact⟨_,hk,fun w _=>by simp[kN,binOp,Op.intDiv,h0]⟩
 .obtain⟨h0,rfl,hk⟩:=h;exact⟨_,hk,fun w _=>by simp[kN,binOp,Op.intDiv,h0]⟩
 .obtain⟨h0,hk⟩:=h;exact⟨_,hk,fun w _=>JR h0 w⟩
 .obtain⟨h0,hk⟩:=h;exact⟨_,hk,fun w _=>JS h0 w⟩
 .obtain⟨h0,hk⟩:=h;exact⟨_,hk,fun w _=>JQ h0 w⟩
 .split at h
  .rcases aq.out h with⟨hp,hk⟩|⟨_,hk⟩
   .obtain⟨e,he⟩:=ym hp;exact⟨_,hk,fun w _=>by simp[qL,binOp,sH he]⟩
   .exact hk.elim
  .obtain⟨b,hk,hr⟩:=h;exact⟨_,hk,fun w _=>hr _ _ w⟩
 .split at h
  .rcases aq.out h with⟨hp,hk⟩|⟨_,hk⟩
   .obtain⟨e,he⟩:=ym hp;exact⟨_,hk,fun w _=>by simp[qL,binOp,sH he]⟩
   .exact hk.elim
  .obtain⟨b,hk,hr⟩:=h;exact⟨_,hk,fun w _=>hr _ _ w⟩
 .split at h
  .rcases aq.out h with⟨hp,hk⟩|⟨_,hk⟩
   .obtain⟨e,he⟩:=Ao hp;exact⟨_,hk,fun w _=>by simp[rA,binOp,sY he]⟩
   .exact hk.elim
  .exact h.elim
 .split at h
  .rcases aq.out h with⟨hp,hk⟩|⟨_,hk⟩
   .obtain⟨e,he⟩:=Ao hp;exact⟨_,hk,fun w _=>by simp[rA,binOp,sY he]⟩
   .exact hk.elim
  .exact h.elim
 .obtain⟨b,hk,hr⟩:=h;exact⟨_,hk,fun w _=>hr _ _ w⟩
 .obtain⟨b,hk,hr⟩:=h;exact⟨_,hk,fun w _=>hr _ _ w⟩
 .exact hg h
theorem lH {P:Program}{k:IntKind}{i:Int}{y:Nat}{c:BoundsCode}(h0:0<=i)(h1:i<=y)(w:World):(Instr.sliceBound (.int k i) y c).run P w= .ok i.toNat w:=by
 simp[Instr.sliceBound,asIntOf,h0,h1]
theorem tD {P:Program}{s:Bool}{len cap:Nat}{lo hi:Option Value}{lo' hi':Option Int}{K:Nat->Nat->Prop}(hl:vf lo=some lo')(hh:vf hi=some hi')(h:lO len cap lo' hi' K):
  ∃ l r,K l r/\∀ w,(Instr.sliceBounds s len cap lo hi none).run P w= .ok (l,r,cap) w:=by
 unfold lO at h;cases hi with
 |none=>
  cases hh;cases lo with
  |none=>cases hl;exact⟨_,_,h,fun w=>by simp[Instr.sliceBounds]⟩
  |some v=>
   cases v<;>simp only[vf,Option.some.injEq,reduceCtorEq]at hl;subst hl;obtain⟨h0,h1,hk⟩:=h;exact⟨_,_,hk,fun w=>by simp[Instr.sliceBounds,lH h0 h1]⟩
 |some u=>
  cases u<;>simp only[vf,Option.some.injEq,reduceCtorEq]at hh;subst hh;obtain⟨h2,h3,h⟩:=h;cases lo with
  |none=>cases hl;exact⟨_,_,h,fun w=>by simp[Instr.sliceBounds,lH h2 h3]⟩
  |some v=>
   cases v<;>simp only[vf,Option.some.injEq,reduceCtorEq]at hl;subst hl;obtain⟨h0,h1,hk⟩:=h;exact⟨_,_,hk,fun w=>by simp[Instr.sliceBounds,lH h2 h3,lH h0 h1]⟩
theorem zc {P:Program}{t:TypeId}{x:Value}{lo hi mx:Option Value}{K:Value->Prop}(h:xq P t x lo hi mx K):
  ∃ v,K v/\∀ w,(Instr.sliceAt t x lo hi mx).run P w= .ok v w:=by
 unfold xq at h;split at h
 .rename_i lo' hi' hl hh
  split at h
  .rename_i s hu
   obtain⟨l,r,hk,hr⟩:=tD (P:=P) (s:=false) hl hh h;exact⟨_,hk,fun w=>by simp[Instr.sliceAt,Instr.slice,aN hu,hr]⟩
  .rename_i e a len cap hu
   split at h
   .rename_i i hi
    obtain⟨l,r,hk,hr⟩:=tD (P:=P) (s:=true) hl hh h;exact⟨_,hk,fun w=>by simp[Instr.sliceAt,Instr.slice,aN hu,hr,fk hi,iG]⟩
   .exact h.elim
  .rename_i n e p hu
   split at h
   .rename_i i hi
    obtain⟨a,rfl,h'⟩:=NN.out h;obtain⟨l,r,hk,hr⟩:=tD (P:=P) (s:=false) hl hh h';refine⟨_,hk,fun w=>?_⟩;simp[Instr.sliceAt,Instr.sureAddr,aN hu,hr,fk hi,iG];split<;>rfl
   .exact h.elim
  .exact h.elim
 .exact h.elim
theorem List.qa (l:List Value):(#[]++l.toArray)=l.toArray:=by simp
theorem uo {P:Program}{H:Hp}{w:World}(hw:Fits H w){a:OA}{n c:Nat}{s:ByteArray}(hs:s.size=n)(h:match a with|none=>n=0|some ad=>ry H ad s.data.toList 0):
  (Conv.bytesToString (.slice a n c)).run P w= .ok (.string s) w:=by
 cases a with
 |none=>
  simp only at h;have:s=ByteArray.empty:=by
   have hd:s.data.size=0:=(show s.data.size=s.size from rfl).trans (hs.trans h);cases s with|mk d=>rw[Array.size_eq_zero_iff]at hd;subst hd;rfl
  subst this;rfl
 |some ad=>
  simp only at h;have hb:=xY (P:=P) hw ad s.data.toList 0 #[] h;have hn:s.data.toList.length=n:=(Array.length_toList).trans hs;rw[hn]at hb;simp only[Conv.bytesToString,loadCells,Sem.run_bind,hb,Result.andThen_ok];rw[List.qa,List.forIn_toArray,uB w _ (fun b r=>by simp)];simp only[Result.andThen_ok,Sem.run_pure,foldl_push];simp
theorem qQ {P:Program}{o:Oper}{ρ:Operand->Value}{H:Hp}{K:Value->Prop}(h:tg P o ρ H K):∃ v,K v/\∀ w,Fits H w->(execOp ρ o).run P w= .ok (.value v) w:=by
 unfold tg at h;split at h
 .rename_i x hop;exact⟨_,h,fun w _=>by simp[execOp,hop]⟩
 .rename_i x hop;exact⟨_,h,fun w _=>by simp[execOp,hop]⟩
 .rename_i c a b hop
  split at h
  .rename_i c' hc
   exact⟨_,h,fun w _=>by simp[execOp,hop,hc,asBool,Hl]⟩
  .exact h.elim
 .rename_i t x hop
  split at h
  .rename_i p hx
   obtain⟨a,rfl,h⟩:=NN.out h;obtain⟨v,hk,hr⟩:=h.sound;exact⟨v,hk,fun w hw=>by simp[execOp,hop,hx,Instr.loadAt,Instr.sureAddr,hr w hw]⟩
  .exact h.elim
 .rename_i x i hop
  unfold Ex at h;split at h
  .rename_i vs hx
   split at h
   .rename_i u hu
    exact⟨u,h.out,fun w _=>by simp[execOp,hop,hx,Instr.extract,hu]⟩
   .exact h.elim
  .exact h.elim
 .rename_i t x k ok hop
  split at h
  .obtain⟨v,hk,hr⟩:=h;exact⟨v,hk.out,fun w hw=>by simp[execOp,hop,hr w hw]⟩
  .exact h.elim
 .rename_i x hop
  split at h
  .rename_i p hx
   obtain⟨a,rfl,h⟩:=NN.out h;exact⟨_,h,fun w _=>by simp[execOp,hop,hx]⟩
  .rename_i g f c hx
   exact⟨_,h,fun w _=>by simp[execOp,hop,hx]⟩
  .exact h.elim
 .rename_i op t x y yt hop
  obtain⟨v,hk,hr⟩:=BQ (H:=H) (xo:=x) (yo:=y) (fun hg=>by
   obtain⟨v,hk,hr⟩:=vn hg;refine⟨v,hk,fun w hw=>?_⟩;have:=hr w hw;simp only[execOp,hop,Sem.run_bind]at this⊢;cases h1:(eqGuard op t x y (ρ x) (ρ y)).run P w with
   |halt e w'=>rw[h1]at this;simp at this
   |ok u w'=>
    rw[h1]at this;simp only[Result.andThen_ok]at this⊢;cases h2:(binOp op t (ρ x) (ρ y)).run P w' with
    |halt e w'=>rw[h2]at this;simp at this
    |ok u w'=>rw[h2]at this;simp at this;obtain⟨rfl,rfl⟩:=this;rfl) h
  refine⟨v,hk,fun w hw=>?_⟩;have:=hr w hw;simp only[execOp,hop];rw[Sem.run_bind,this];rfl
 .rename_i t x ix hop
  split at h
  .rename_i k i hi
   split at h
   .rename_i e a len cap hu hx
    split at h
    .rename_i j hj
     obtain⟨h0,h1,h⟩:=h;obtain⟨a,rfl,h⟩:=NN.out h;exact⟨_,h,fun w _=>by simp[execOp,hop,hi,hx,Instr.indexAt,asIntOf,aN hu,fk hj,h0,h1]⟩
    .exact h.elim
   .rename_i len e p hu hx
    split at h
    .rename_i j hj
     obtain⟨a,rfl,h⟩:=NN.out h;obtain⟨h0,h1,h⟩:=h;exact⟨_,h,fun w _=>by simp[execOp,hop,hi,hx,Instr.indexAt,Instr.sureAddr,asIntOf,aN hu,fk hj,h0,h1]⟩
    .exact h.elim
   .exact h.elim
  .exact h.elim
 .rename_i t x ix hop
  split at h
  .rename_i k i hi
   split at h
   .rename_i s hu hx
    obtain⟨h0,h⟩:=h;unfold Cf at h;split at h
    .rename_i b hb
     exact⟨_,h,fun w _=>by simp[execOp,hop,hi,hx,Instr.index,asIntOf,aN hu,h0,hb]⟩
    .exact h.elim
   .rename_i len e cs hu hx
    split at h
    .rename_i fs j hs hj
     obtain⟨h0,h1,h⟩:=h;exact⟨_,h,fun w _=>by simp[execOp,hop,hi,hx,Instr.index,asIntOf,aN hu,h0,h1,part,isAgg,aN hs,fk hj]⟩
    .rename_i m e' j hs hj
     obtain⟨h0,h1,h⟩:=h;exact⟨_,h,fun w _=>by simp[execOp,hop,hi,hx,Instr.index,asIntOf,aN hu,h0,h1,part,isAgg,aN hs,fk hj]⟩
    .rename_i d j hn1 hn2 hs hj
     obtain⟨h0,h1,h⟩:=h;unfold Au at h;split at h
     .rename_i v hv
      refine⟨_,h.out,fun w _=>?_⟩;have hag:(isAgg e).run P w= .ok false w:=by
       simp only[isAgg,Sem.run_bind,aN hs,Result.andThen_ok];cases d<;>first|rfl|exact(hn1 _ rfl).elim|exact(hn2 _ _ rfl).elim
      simp[execOp,hop,hi,hx,Instr.index,asIntOf,aN hu,h0,h1,part,hag,fk hj,hv]
     .exact h.elim
    .exact h.elim
   .exact h.elim
  .exact h.elim
 .rename_i t x lo hi mx hop
  obtain⟨v,hk,hr⟩:=zc h;exact⟨v,hk,fun w _=>by simp[execOp,hop,hr]⟩
 .rename_i t x f hop
  split at h
  .rename_i fs cs hu hx
   split at h
   .rename_i fd hf
    split at h
    .rename_i fs' j hs hj
     exact⟨_,h,fun w _=>by simp[execOp,hop,hx,Instr.field,aN hu,hf,asAgg,part,isAgg,aN hs,fk hj]⟩
    .rename_i m e' j hs hj
     exact⟨_,h,fun w _=>by simp[execOp,hop,hx,Instr.field,aN hu,hf,asAgg,part,isAgg,aN hs,fk hj]⟩
    .rename_i d j hn1 hn2 hs hj
     unfold Au at h;split at h
     .rename_i v hv
      refine⟨_,h.out,fun w _=>?_⟩;have hag:(isAgg fd.type).run P w= .ok false w:=by
       simp only[isAgg,Sem.run_bind,aN hs,Result.andThen_ok];cases d<;>first|rfl|exact(hn1 _ rfl).elim|exact(hn2 _ _ rfl).elim
      simp[execOp,hop,hx,Instr.field,aN hu,hf,asAgg,part,hag,hv]
     .exact h.elim
    .exact h.elim
   .exact h.elim
  .exact h.elim
 .rename_i t parts hop
  obtain⟨v,hk,hr⟩:=sw _ h.out;refine⟨v,hk,fun w hw=>?_⟩;have:=hr w hw;have e:∀ g:Nat×Operand->Nat×Value,(parts.toList.map g).toArray=parts.map g:=fun g=>by apply Array.ext';simp
  rw[e]at this;simp only[execOp,hop,Sem.run_bind,this];rfl
 .rename_i s d x hop
  split at h
  .rename_i e a n c h1 h2 h3
   split at h
   .rename_i h4
    obtain⟨s',hk,hs,hb⟩:=h;refine⟨_,hk,fun w hw=>?_⟩;simp only[execOp,hop,h3,convert,Sem.run_bind,aN h1,aN h2,Result.andThen_ok,aN h4,uo hw hs hb];rfl
   .exact h.elim
  .exact vn h
 .rename_i s x f hop
  split at h
  .rename_i p hx
   obtain⟨a,rfl,h⟩:=NN.out h;obtain⟨v,hk,hr⟩:=sw _ h;refine⟨v,hk,fun w hw=>?_⟩;simp only[execOp,hop,hx,Sem.run_bind,hr w hw];rfl
  .exact h.elim
 .exact vn h
end Go.Hw
namespace Go.Hw
open Go
def cI (z:List Value):Nat->List Value
 |0=>[]
 |n+1=>z++cI z n
theorem fg (z:List Value):∀ n,(cI z n).length=n*z.length
 |0=>by simp[cI]
 |n+1=>by simp[cI,fg z n,Nat.succ_mul];omega
theorem rm (z:List Value):∀ a b,cI z (a+b)=cI z a++cI z b
 |0,b=>by simp[cI]
 |a+1,b=>by rw[Nat.add_right_comm];simp[cI,rm z a b]
theorem eR (v:Value):∀ n,cI [v] n=List.replicate n v
 |0=>rfl
 |n+1=>by simp[cI,eR v n,List.replicate_succ]
theorem rj (z:Array Value):∀ n:Nat,(List.range (n*z.size)).map (fun x=>z[x%z.size]!)=cI z.toList n
 |0=>by simp[cI]
 |n+1=>by
  rw[Nat.succ_mul,Nat.add_comm (n*z.size) z.size,List.range_add,List.map_append];congr 1
  .apply List.ext_getElem
   .simp
   .intro i h1 h2;simp at h1 h2;simp[Nat.mod_eq_of_lt h2,h2]
  .rw[List.map_map,<-rj z n];apply List.map_congr_left;intro x _;simp
theorem uK (z:Array Value)(m n:Nat)(h:z.size=m):((Array.range (n*m)).map (fun x=>z[x%z.size]!))=(cI z.toList n).toArray:=by
 subst h;rw[<- rj];apply Array.ext';simp
theorem lY {P:Program}(e:TypeId)(c:Array Value)(w:World):(newRow e c).run P w= .ok ⟨w.heap.size,0,none⟩ (w.alloc (.cells c e)):=by
 simp[newRow]
def jA (P:Program)(e:TypeId)(l c:Int)(H:Hp)(K:VK):Prop:=
 match P.info? e with
 |some i=>match i.zero with
  |some z=>match Nat.beq z.cells.size i.size with
   |true=>0<=l/\l<=c/\(i.bytes:Int)*c<=140737488355328/\c<=9223372036854775807/\Nw H (.row (cI z.cells.toList l.toNat) e (c.toNat*i.size)) fun b H'=>K (.slice (Oo b) l.toNat c.toNat) H'
   |false=>False
  |none=>False
 |none=>False
theorem uT {x:Int}(h0: -9223372036854775808<=x:=by omega)(h1:x<=9223372036854775807:=by omega):i64.wrap x=x:=by
 exact IntWalk.i64_in x ⟨h0,h1⟩
theorem Ev {P:Program}{t e:TypeId}{l c:Int}{k k':IntKind}{H0 H:Hp}{w0 w:World}{K:VK}(hu:P.underlying t=some (.slice e))(h:jA P e l c H K)(hA:At H0 w0 H w):
  ∃ v H' w',(Instr.makeSlice t (.int k l) (.int k' c)).run P w= .ok v w'/\K v H'/\At H0 w0 H' w':=by
 unfold jA at h;cases hi:P.info? e with
 |none=>rw[hi]at h;exact h.elim
 |some i=>
 rw[hi]at h;simp only at h;cases hz:i.zero with
 |none=>rw[hz]at h;exact h.elim
 |some z=>
 rw[hz]at h;simp only at h;cases hb:Nat.beq z.cells.size i.size with
 |false=>rw[hb]at h;exact h.elim
 |true=>
 rw[hb]at h;simp only at h;obtain⟨h0,h1,h2,h3,h⟩:=h;have hzs:z.cells.size=i.size:=Nat.eq_of_beq_eq_true hb;have hwl:=uT (x:=l);have hwc:=uT (x:=c);have hc:l.toNat+(c.toNat-l.toNat)=c.toNat:=by omega
 have hrow:(AO.row (cI z.cells.toList l.toNat) e (c.toNat*i.size)).holds (.cells (cI z.cells.toList c.toNat).toArray e):=by
  refine⟨cI z.cells.toList (c.toNat-l.toNat),0,0,by rw[<- rm,hc],?_,.inl rfl⟩;rw[<- rm,hc,fg];simp[hzs]
 obtain⟨hn,hA'⟩:=hA.new hrow;refine⟨_,_,_,?_,h _ hn,hA'⟩;have hbig:¬((i.bytes:Int)*c>281474976710656):=by omega
 have hlt:¬(c<0):=by omega
 have hll:¬(l<0):=by omega
 have hlc:¬(l>c):=by omega
 have hcond:(((decide (c<0)||decide ((i.bytes:Int)*c>281474976710656))||decide (l<0)||decide (l>c))=true)=False:=by simp[hlt,hll];omega
 simp only[Instr.makeSlice,Sem.run_bind,aN hu,Result.andThen_ok,asInt,asIntOf,Sem.run_pure,iI hi,hwl,hwc];simp only[show(2:Int)^48=281474976710656 from rfl];rw[if_neg (by rw[hcond];exact id)];simp only[run_askRoom,Result.andThen_ok,Sem.run_bind,fk hi];by_cases hz0:c.toNat*i.size=0
 .rw[if_pos hz0];simp only[Sem.run_bind,Sem.run_pure,Result.andThen_ok,lY];have:(Array.map (fun x=>(#[]:Array Value)[x%(#[]:Array Value).size]!) (Array.range (c.toNat*i.size)))=(cI z.cells.toList c.toNat).toArray:=by
   rw[hz0];have:(cI z.cells.toList c.toNat)=[]:=by
    apply List.eq_nil_of_length_eq_zero;rw[fg];simp[hzs,hz0]
   rw[this];simp
  rw[this]
 .rw[if_neg hz0];simp only[Sem.run_bind,zeroValue,iI hi,hz,Sem.run_pure,Result.andThen_ok,lY,uK _ _ _ hzs]
def Hp.puts? (H:Hp)(a:Addr):(i:Nat)->List Value->Option Hp
 |_,[]=>some H
 |i,v::l=>match H.put? (a.add i) v with|some H'=>H'.puts? a (i+1) l|none=>none
theorem vi {P:Program}{H0:Hp}{w0:World}(a:Addr):∀(l:List Value) (i:Nat) (H H':Hp) (w:World),At H0 w0 H w->H.puts? a i l=some H'->∃ w',(storeCells a l i).run P w= .ok () w'/\At H0 w0 H' w'
 | [],i,H,H',w,hA,h=>by simp[Hp.puts?]at h;subst h;exact⟨w,by simp[storeCells],hA⟩
 |v::l,i,H,H',w,hA,h=>by
  unfold Hp.puts? at h;split at h
  .rename_i H1 h1
   obtain⟨⟨u,hu⟩,hf,hv,hA'⟩:=hA.put h1;obtain⟨w',hr,hA''⟩:=vi a l (i+1) H1 H' _ hA' h;refine⟨w',?_,hA''⟩;simp only[storeCells,Sem.run_bind,run_store P w _ v _ hv,hu,hf,Bool.false_eq_true,if_false,Result.andThen_ok];exact hr
  .cases h
def s9 :Value->Option Nat
 | .slice _ n _=>some n
 | .string s=>some s.size
 |_=>none
def aC (l:List UInt8):List Value:=l.map fun b=>.int .u8 (b.toNat:Int)
def jx (H:Hp)(size n:Nat):Value->Option (List Value)
 | .slice (some a) _ _=>H.cells? a 0 (n*size)
 | .slice none _ _=>some []
 | .string s=>some (aC (s.extract 0 n).data.toList)
 |_=>none
theorem AC {P:Program}{x:Value}{n:Nat}(h:s9 x=some n)(w:World):(Builtin.lenOf x).run P w= .ok n w:=by
 cases x<;>simp_all [s9,Builtin.lenOf]
theorem xE {P:Program}{H:Hp}{w:World}(hw:Fits H w){size n:Nat}{x:Value}{ys:List Value}(h:jx H size n x=some ys):(Builtin.firstCells size n x).run P w= .ok ys.toArray w:=by
 unfold jx at h;split at h
 .simp only[Builtin.firstCells,loadCells];rw[o4 hw _ _ _ _ _ h];simp
 .cases h;simp[Builtin.firstCells]
 .cases h;simp only[Builtin.firstCells,Sem.run_pure,aC];congr 1;apply Array.ext';simp
 .cases h
def qC (P:Program)(e:TypeId)(d x:Value)(H:Hp)(K:VK):Prop:=
 match d with
 | .slice base dLen _=>
  match P.info? e with
  |some i=>∃ m ys H',s9 x=some m/\jx H i.size (Nat.min m dLen) x=some ys/\(match base with|some a=>H.puts? a 0 ys=some H'|none=>H'=H)/\K (I (Nat.min m dLen:Nat)) H'
  |none=>False
 |_=>False
theorem Ek {P:Program}{t t' ty e:TypeId}{d x:Value}{H0 H:Hp}{w0 w:World}{K:VK}(hu:P.underlying t=some (.slice e))(h:qC P e d x H K)(hA:At H0 w0 H w):
  ∃ v H' w',(Builtin.copy_ #[t,t'] ty #[d,x]).run P w= .ok v w'/\K v H'/\At H0 w0 H' w':=by
 unfold qC at h;cases d<;>try exact h.elim
 rename_i base dLen cap
 simp only at h;cases hi:P.info? e with
 |none=>rw[hi]at h;exact h.elim
 |some i=>
 rw[hi]at h;obtain⟨m,ys,H',hm,hs,hb,hk⟩:=h;have hrun:∀ w',(Builtin.copy_ #[t,t'] ty #[.slice base dLen cap,x]).run P w= .ok (goInt (Nat.min m dLen:Nat)) w'↔((match base with|some a=>storeCells a ys|none=>pure ():Sem Unit) >>= fun _=>pure (goInt (Nat.min m dLen:Nat))).run P w= .ok (goInt (Nat.min m dLen:Nat)) w':=by
  intro w';have hs':=xE (P:=P) hA.fits hs;cases base<;>simp[Builtin.copy_,aN hu,AC hm,fk hi,hs']
 cases base with
 |none=>
  simp only at hb;subst hb;exact⟨_,_,w,(hrun w).2 (by simp),hk,hA⟩
 |some a=>
  simp only at hb;obtain⟨w',hr,hA'⟩:=vi (P:=P) a ys 0 H H' w hA hb;exact⟨_,_,w',(hrun w').2 (by simp[hr]),hk,hA'⟩
def Ku (e:TypeId)(s:ByteArray)(H:Hp)(K:VK):Prop:=
 s.size<=4611686018427387904/\∀ c,s.size<=c->Nw H (.row (aC s.data.toList) e c) fun b H'=>K (.slice (Oo b) s.size c) H'
theorem ED {P:Program}{e:TypeId}{s:ByteArray}{H0 H:Hp}{w0 w:World}{K:VK}(h:Ku e s H K)(hA:At H0 w0 H w):
  ∃ v H' w',(Conv.stringToBytes e s).run P w= .ok v w'/\K v H'/\At H0 w0 H' w':=by
 obtain⟨hs,h⟩:=h;have hq:(Question.appendCap s.size 0 e).forced=false:=rfl
 let c:=(Question.appendCap s.size 0 e).cut (w.tape w.drawn (Question.appendCap s.size 0 e))
 have hc:s.size<=c:=by simp only[c,Question.cut];omega
 have hA1:=hA.drew
 let row:=aC s.data.toList++List.replicate (c-s.size) (Value.int .u8 0)
 have hlen:row.length=c:=by simp only[row,aC,List.length_append,List.length_map,Array.length_toList,List.length_replicate];have:s.data.size=s.size:=rfl;omega
 have hrow:(AO.row (aC s.data.toList) e c).holds (.cells row.toArray e):=⟨_,0,0,rfl,hlen,.inl rfl⟩;obtain⟨hn,hA2⟩:=hA1.new hrow;obtain⟨u,H',w',hr,hk,hA3⟩:=sd (P:=P) (markStringish ⟨w.heap.size,0,none⟩) (K:=fun _ H'=>H'=H.set w.heap.size (.row (aC s.data.toList) e c)) (by
  simp only[markStringish,shape,bind,Sem.bind,ef,Sh,Hp.bB,freeze,Fz,pure,and_self]) hA2
 subst hk;refine⟨_,_,w',?_,h c hc _ hn,hA3⟩;have hcells:(Array.map (fun b=>Value.int u8 (b.toNat:Int)) s.data++Array.replicate (c-s.size) (Value.int u8 0))=row.toArray:=by
  apply Array.ext';simp[row,aC]
 simp only[Conv.stringToBytes,Sem.run_bind,run_choose,hq,Bool.false_eq_true,if_false,Result.andThen_ok];rw[show(Question.appendCap s.size 0 e).cut (w.tape w.drawn (Question.appendCap s.size 0 e))=c from rfl,hcells];simp only[lY,Result.andThen_ok];rw[hr];rfl
def jq (P:Program)(e:TypeId)(s x:Value)(H:Hp)(K:VK):Prop:=
 match s with
 | .slice base len cap=>
  match P.info? e with
  |some i=>∃ n ys,s9 x=some n/\jx H i.size n x=some ys/\ys.length=n*i.size/\ys.all (·.oneCell')=true/\i.bytes<=1073741824/\(len+n)*i.bytes<=35184372088832/\(len+n)<=35184372088832/\(∃ z,i.zero=some z/\z.cells.size=i.size)/\
   ((base=none/\len=0/\cap=0/\(n=0->K (.slice none 0 0) H)/\(0<n->∀ c,n<=c->Nw H (.row ys e (c*i.size)) fun b H'=>K (.slice (Oo b) n c) H'))\/
   ∃ b0 xs m,base=some (O b0)/\H b0=some (.row xs e m)/\xs.length=len*i.size/\cap*i.size<=m/\
    ∀ c m',c*i.size<=m'->len+n<=c->Nw (H.erase b0) (.row (xs++ys) e m') fun b H'=>K (.slice (Oo b) (len+n) c) H')
  |none=>False
 |_=>False
theorem JE (need cap:Nat)(h:cap<need):Builtin.nextslicecap need cap<=2*need+1024:=by
 have hg:∀ r c,c<need->Builtin.growBy need r c<=2*need+1024:=by
  intro r
  induction r with
  |zero=>intro c hc;simp only[Builtin.growBy];omega
  |succ r ih=>
   intro c hc;simp only[Builtin.growBy];rw[if_neg (by omega)];by_cases h2:c+(c+768)/4<need
   .exact ih _ h2
   .have:Builtin.growBy need r (c+(c+768)/4)=c+(c+768)/4:=by
     cases r with
     |zero=>rfl
     |succ r=>simp only[Builtin.growBy];rw[if_pos (by omega)]
    rw[this];omega
 have:=hg 4 cap h;unfold Builtin.nextslicecap;split
 .omega
 .split<;>omega
theorem tB (b:Nat)(e:TypeId)(fr:Nat×Nat):∀(vs xs sp:List Value) (w:World),w.heap[b]? =some (.cells (xs++sp).toArray e fr)->vs.length<=sp.length->
  (w.setCells b xs.length vs).heap[b]? =some (.cells (xs++vs++sp.drop vs.length).toArray e fr)/\(w.setCells b xs.length vs).heap.size=w.heap.size/\(w.setCells b xs.length vs).os=w.os/\(w.setCells b xs.length vs).tape=w.tape/\
  (w.setCells b xs.length vs).output=w.output/\∀ c,c≠b->(w.setCells b xs.length vs).heap[c]? =w.heap[c]?
 | [],xs,sp,w,h,_=>⟨by simpa [World.setCells]using h,rfl,rfl,rfl,rfl,fun _ _=>rfl⟩
 |v::vs,xs,[],w,h,hl=>by simp at hl
 |v::vs,xs,s::sp,w,h,hl=>by
  have h1:(w.setCell ⟨b,xs.length,none⟩ v).heap[b]? =some (.cells ((xs++[v])++sp).toArray e fr):=by
   unfold World.setCell;refine(getElem?_modify_self h).trans ?_;simp
  have h2:=tB b e fr vs (xs++[v]) sp (w.setCell ⟨b,xs.length,none⟩ v) h1 (by simpa using hl);simp only[List.length_append,List.length_singleton]at h2;simp only[World.setCells];obtain⟨q1,q2,q3,q4,q5,q6⟩:=h2;refine⟨by rw[q1];simp,by rw[q2];simp,q3,q4,q5,fun c hc=>(q6 c hc).trans (heap_setCell_other _ _ _ _ hc)⟩
theorem G4 (H:Hp)(b:Nat):(H.erase b).le H:=fun c o h=>by
 unfold Hp.erase at h;split at h
 .cases h
 .exact h
theorem ET (H:Hp)(b:Nat)(o:AO):(H.erase b).set b o=H.set b o:=by
 funext c;unfold Hp.set Hp.erase;split<;>simp_all
theorem o3 {H:Hp}{b:Nat}{xs:List Value}{e:TypeId}{m:Nat}(h:H b=some (.row xs e m))(off:Nat):∀(n i:Nat),off+i+n<=xs.length->H.cells? ⟨b,off,none⟩ i n=some ((xs.drop (off+i)).take n)
 |0,i,_=>by simp[Hp.cells?]
 |n+1,i,hl=>by
  have hc:H.cell? (Addr.add ⟨b,off,none⟩ i)=some (xs[off+i]'(by omega)):=by
   have hb:(Addr.add ⟨b,off,none⟩ i)=⟨b,off+i,none⟩:=by unfold Addr.add;split<;>simp_all
   rw[hb];unfold Hp.cell?;simp[h]
  unfold Hp.cells?;rw[hc];simp only;rw[o3 h off n (i+1) (by omega)];simp only[Option.some.injEq];rw[List.drop_eq_getElem_cons (i:=off+i) (by omega),List.take_succ_cons];rfl
theorem tM (z:Array Value)(n:Nat):(Builtin.zeroCells z n).toList=cI z.toList n:=by
 rw[<- rj];simp[Builtin.zeroCells]
theorem CU {P:Program}{t t' ty e:TypeId}{s x:Value}{H0 H:Hp}{w0 w:World}{K:VK}(hu:P.underlying t=some (.slice e))
  (hu':(∃ e',P.underlying t'=some (.slice e'))\/P.underlying t'=some .string) (h:jq P e s x H K) (hA:At H0 w0 H w):
  ∃ v H' w',(Builtin.append_ #[t,t'] ty #[s,x]).run P w= .ok v w'/\K v H'/\At H0 w0 H' w':=by
 unfold jq at h;cases s<;>try exact h.elim
 rename_i base len cap
 simp only at h;cases hi:P.info? e with
 |none=>rw[hi]at h;exact h.elim
 |some i=>
 rw[hi]at h;obtain⟨n,ys,hn,hs,hyl,hone,hby,hbd,hbd2,⟨z,hz,hzs⟩,h⟩:=h;have hSrc:Src P i.size t' x n ys w:=⟨hu',fun w'=>AC hn w',xE hA.fits hs,xE (w:=w.drew) hA.fits hs,hyl,fun u hu=>(List.all_eq_true.1 hone) u hu⟩;have grow:∀ olds,cap<len+n->(Builtin.firstCells i.size len (.slice base len cap)).run P w.drew= .ok olds.toArray w.drew->∃ c,len+n<=c/\
   (Builtin.append_ #[t,t'] ty #[.slice base len cap,x]).run P w= .ok (.slice (some ⟨w.heap.size,0,none⟩) (len+n) c) (w.drew.alloc (.cells ((olds++ys).toArray++Builtin.zeroCells z.cells (c-(len+n))) e)):=by
  intro olds hlt hold;refine⟨_,grownCap_ge w (len+n) cap e,run_append_grow_src w t t' ty e i z hu hi hz base len cap olds hold x n ys hSrc hlt (by omega) ?_⟩;have h1:=JE (len+n) cap hlt;have h2:Builtin.nextslicecap (len+n) cap*i.bytes<=(2*(len+n)+1024)*i.bytes:=Nat.mul_le_mul_right _ h1;have h4:(2*(len+n)+1024)*i.bytes=2*((len+n)*i.bytes)+1024*i.bytes:=by rw[Nat.add_mul,Nat.mul_assoc]
  omega
 rcases h with⟨rfl,rfl,rfl,h1,h2⟩|⟨b0,xs,m,rfl,hb,hxl,hcm,h⟩
 .by_cases h0:n=0
  .subst h0;refine⟨.slice none 0 0,H,w,?_,h1 rfl,hA⟩;rcases hSrc.kind with⟨e',hk⟩|hk<;>simp[Builtin.append_,run_underlying hu,run_underlying hk,sizeOf,typeInfo,hi,hSrc.len,hSrc.cells]
  .obtain⟨c,hc,hr⟩:=grow [] (by omega) (by simp[Builtin.firstCells]);have hrow:(AO.row ys e (c*i.size)).holds (.cells (([]++ys).toArray++Builtin.zeroCells z.cells (c-(0+n))) e):=by
    refine⟨cI z.cells.toList (c-(0+n)),0,0,?_,?_,.inl rfl⟩
    .congr 1;apply Array.ext';simp[tM]
    .rw[List.length_append,fg,hyl];simp only[Array.length_toList,hzs];rw[<- Nat.add_mul];congr 1;omega
   obtain⟨hn',hA'⟩:=hA.drew.new hrow;refine⟨_,_,_,hr,?_,hA'⟩;have:=h2 (by omega) c (by omega) _ hn';rw[Nat.zero_add];exact this
 .have hbl:H.cells? (O b0) 0 (len*i.size)=some xs:=by
   rw[o3 hb 0 (len*i.size) 0 (by omega),<-hxl];simp
  by_cases hlt:cap<len+n
  .obtain⟨c,hc,hr⟩:=grow xs hlt (by simp only[Builtin.firstCells,loadCells];rw[o4 (P:=P) (w:=w.drew) (H:=H) hA.fits _ _ _ _ _ hbl];simp);have hrow:(AO.row (xs++ys) e (c*i.size)).holds (.cells ((xs++ys).toArray++Builtin.zeroCells z.cells (c-(len+n))) e):=by
    refine⟨cI z.cells.toList (c-(len+n)),0,0,?_,?_,.inl rfl⟩
    .congr 1;apply Array.ext';simp[tM]
    .rw[List.length_append,List.length_append,fg,hyl,hxl];simp only[Array.length_toList,hzs];rw[<- Nat.add_mul,<-Nat.add_mul];congr 1;omega
   obtain⟨hn',hA'⟩:=(hA.drew.weaken (G4 H b0)).new hrow;exact⟨_,_,_,hr,h c _ (Nat.le_refl _) hc _ hn',hA'⟩
  .obtain⟨o',ho,sp,lo,hi',rfl,hl,hf⟩:=hA.fits _ _ hb;have hroom:len+n<=cap:=by omega
   have hsz:(len+n)*i.size<=cap*i.size:=Nat.mul_le_mul_right _ hroom;rw[Nat.add_mul]at hsz;have hspl:ys.length<=sp.length:=by rw[List.length_append]at hl;omega
   have hr:=run_append_room_src w t t' ty e i hu hi b0 0 len cap x n ys hSrc hroom (fun j hj=>by
     unfold World.cell?;rw[ho];have:0+len*i.size+j<(xs++sp).length:=by omega
     simp;rw[List.length_append]at this;omega) (fun j hj=>by
     unfold World.frozen?;rw[ho];simp;omega)
   have hset:=tB b0 e (lo,hi') ys xs sp w ho hspl;rw[Nat.zero_add,<-hxl]at hr;have hA':=hA.jy (w':=w.setCells b0 xs.length ys) hb (o':=.row (xs++ys) e m) hset.1 ⟨sp.drop ys.length,lo,hi',rfl,by
    rw[List.length_append]at hl ⊢;rw[List.length_append,List.length_drop];omega,hf⟩ hset.2.1 hset.2.2.1 hset.2.2.2.1 hset.2.2.2.2.1 hset.2.2.2.2.2
   have hk:=h cap m hcm hroom b0 (by simp[Hp.erase]);rw[ET]at hk;exact⟨_,_,_,hr,hk,hA'⟩
end Go.Hw
namespace Go.Hw
open Go
abbrev de :=Env->List Deferred->Hp->Prop
abbrev fE :=Exit->Env->List Deferred->Hp->Prop
def mF (P:Program)(g:FuncId):Bool:=
 match P.funcs[g]? with
 | some fn => fn.body.isSome && !(fn.name == "runtime.NumGoroutine")
 |none=>false
def eM (P:Program)(g:FuncId):List TypeId:=match P.funcs[g]? with|some fn=>fn.resultTypes.toList|none=>[]
def wa (P:Program)(t:TypeId):Bool:=match P.underlying t with|some .string=>true|_=>false
def tX (P:Program)(t:TypeId):Bool:=match P.underlying t with|some (.slice _)=>true|_=>false
def qh (P:Program)(e:TypeId)(len:Nat)(parts:List (Nat×Value)):Option (List Value):=
 match P.info? e with
 |some i=>match i.zero with
  |some z=>match Nat.beq z.cells.size i.size,Nat.ble (len*i.size) 16777216 with
   |true,true=>(Instr.fill (fun j=>some (j*i.size,i.size)) (cI z.cells.toList len).toArray parts).map (·.toList)
   |_,_=>none
  |none=>none
 |none=>none
def known (E:Env)(o:Oper):Bool:=o.op.operands.toList.all fun x=>(E.ev x).isSome
def gA {α:Type}(P:Program)(s:Sem α)(H:Hp)(K:α->Hp->Prop):Prop:=∀ H0 w0 w,At H0 w0 H w->∃ a H' w',s.run P w= .ok a w'/\K a H'/\At H0 w0 H' w'
def Il (P:Program)(g:FuncId)(args:Array Value)(H:Hp)(K:VK):Prop:=gA P (callFunc g args) H fun nx H'=>match nx with| .value v=>K v H'|_=>False
def jD (P:Program)(g:FuncId)(args:Array Value)(H:Hp)(K:VK):Prop:=aq (mF P g) (aa P g args H K) (Il P g args H K)
def cK (H:Hp)(a:Addr)(cs:Array Value)(n:Nat)(K:Hp→Prop):Prop:=cs.size=n∧match H.puts? a 0 cs.toList with|some H'=>K H'|none=>False
def sf (P:Program)(t:TypeId):Bool:=match P.underlying t with|some (.array ..)=>true|some (.struct _)=>true|_=>false
def Cm (P:Program)(n:Nat)(o:Oper)(E:Env)(D:List Deferred)(H:Hp)(K:de):Prop:=
 match known E o with
 |false=>False
 |true=>
 let put (v:Value) (H':Hp):Prop:=fZ n o.dst v E fun E'=>K E' D H'
 match Ce o with
 |true=>tg P o E.at H fun v=>put v H
 |false=>
 match o.op with
 | .convert s d x=>match wa P s&&tX P d,P.underlying d,E.at x with
  |true,some (.slice e),.string b=>match P.underlying e with
   |some (.int .u8)=>Ku e b H fun v H'=>aE v fun a l c=>put (.slice a l c) H'
   |_=>False
  |true,_,_=>False
  |false,_,_=>match tX P s&&tX P d with
   |true=>gA P (convert s d (E.at x)) H fun v H'=>aE v fun a l c=>put (.slice a l c) H'
   |false=>tg P o E.at H fun v=>put v H
 | .makeSlice t l c=>match P.underlying t,E.at l,E.at c with
  |some (.slice e),.int _ l,.int _ c=>jA P e l c H fun v H'=>aE v fun a l c=>put (.slice a l c) H'
  |_,_,_=>False
 | .buildSlice t len parts=>match P.underlying t with
  |some (.slice e)=>oa P (fun _=>e) (parts.toList.map fun(i,x)=>(i,E.at x)) fun ps=>match qh P e len ps with
   |some xs=>match P.info? e with
    |some i=>Nw H (.row xs e (len*i.size)) fun b H'=>put (.slice (Oo b) len len) H'
    |none=>False
   |none=>False
  |_=>False
 | .call c=>match c.callee with
  | .value f=>match E.at f with
   | .func (.func g) first cap=>jD P g ((first++c.args.map E.at)++cap) H fun v H'=>DR P (eM P g) v fun v=>DT P o.type v fun v=>put v H'
   |_=>False
  | .builtin .append=>match c.argTypes.toList,c.args.toList with
   | [t,t'],[s,x]=>match P.underlying t with
    |some (.slice e)=>aq (tX P t'||wa P t') (jq P e (E.at s) (E.at x) H fun v H'=>aE v fun a l c=>put (.slice a l c) H') False
    |_=>False
   |_,_=>False
  | .builtin .copy=>match c.argTypes.toList,c.args.toList with
   | [t,_],[d,x]=>match P.underlying t with
    |some (.slice e)=>qC P e (E.at d) (E.at x) H fun v H'=>DI .i64 v fun x=>put (I x) H'
    |_=>False
   |_,_=>False
  | .builtin .clear=>gA P (Builtin.clear_ c.argTypes o.type (c.args.map E.at)) H put
  | .builtin .delete=>gA P (Builtin.delete_ c.argTypes o.type (c.args.map E.at)) H put
  | .builtin _=>ef P (execOp E.at o) H fun nx H'=>valueOf (fun v=>put v H') nx
  | .invoke .. =>False
 | .defer c=>match c.callee with
  | .value f=>match E.at f with
   | .func (.func g) first cap=>fZ n o.dst undef E fun E'=>K E' ({ target:=.fn (.func g) cap,args:=first++c.args.map E.at}::D) H
   |_=>False
  |_=>False
 | .select .. =>False
 | .mapUpdate t m k x=>gA P (Instr.mapUpdate t (E.at m) (E.at k) (E.at x)) H fun _ H'=>put undef H'
 | .insert t m k x=>gA P (Instr.mapUpdate t (E.at m) (E.at k) (E.at x)) H fun _ H'=>put undef H'
 | .range t x=>gA P (Instr.range t (E.at x)) H put
 | .next it b=>gA P (Instr.next (E.at it) b o.type) H put
 | .entry it=>gA P (Instr.entry (E.at it)) H put
 | .store t x y=>match E.at x with
  | .pointer p=>NN p fun ad=>match sf P t with
   |true=>match E.at y,P.info? t with
    | .agg cs,some i=>cK H ad cs i.size fun H'=>put undef H'
    |_,_=>False
   |false=>ef P (storeVar t ad (E.at y)) H fun _ H'=>put undef H'
  |_=>False
 |_=>ef P (execOp E.at o) H fun nx H'=>match nx with| .value v=>put v H'| .skip=>put undef H'|_=>False
def Holds (H0:Hp)(w0:World)(n:Nat)(K:de)(a:Act)(w:World):Prop:=∃ E D H,K E D H/\da E n a/\a.defers=D/\At H0 w0 H w
theorem fZ.holds {H0:Hp}{w0:World}{n:Nat}{dst:Option Tmp}{v:Value}{E:Env}{K:de}{D:List Deferred}{H:Hp}{a:Act}{w:World}(h:fZ n dst v E fun E'=>K E' D H)(ha:da E n a)(hd:a.defers=D)(hA:At H0 w0 H w):
  Holds H0 w0 n K (a.put dst v) w:=by
 obtain⟨E',hk,ha'⟩:=h.sound ha;refine⟨E',D,H,hk,ha',?_,hA⟩;cases dst<;>exact hd
theorem gh {E:Env}{n:Nat}{a:Act}{o:Oper}(h:known E o=true)(ha:da E n a)(hs:∀ cs b,o.op≠ .select cs b):execOp a.eval o=execOp E.at o:=by
 refine execOp_congr o hs fun x hx=>?_
 have:=List.all_eq_true.1 h x (by simpa using hx);obtain⟨v,hv⟩:=Option.isSome_iff_exists.1 this;rw[ha.ev hv];unfold Env.at;rw[hv]
theorem sV {P:Program}{g:FuncId}(h:mF P g=true)(args:Array Value)(w:World):(callFunc g args).run P w= .ok (.enter g args) w:=by
 unfold mF at h;split at h
 .rename_i fn hf
  rw[Bool.and_eq_true]at h;obtain⟨h1,h2⟩:=h;have h3 : (fn.name == "runtime.NumGoroutine") = false := by simpa using h2
  have h4:fn.body.isNone=false:=by cases hb:fn.body<;>simp_all
  simp only[callFunc,Sem.run_bind,run_program,Result.andThen_ok,hf,h3,h4,Bool.false_eq_true,if_false];rfl
 .cases h
theorem Fc {P:Program}{t:TypeId}(h:tX P t=true):∃ e,P.underlying t=some (.slice e):=by
 unfold tX at h;split at h
 .exact⟨_,‹_›⟩
 .cases h
theorem wb {P:Program}{t:TypeId}(h:wa P t=true):P.underlying t=some .string:=by
 unfold wa at h;split at h
 .assumption
 .cases h
theorem yd (place:Nat->Option (Nat×Nat)):∀(parts:List (Nat×Value)) (cells out:Array Value),Instr.fill place cells parts=some out->out.size=cells.size
 | [],cells,out,h=>by simp[Instr.fill]at h;rw[h]
 |(j,v)::rest,cells,out,h=>by
  unfold Instr.fill at h;split at h
  .cases h
  .split at h
   .cases h
   .rw[yd place rest _ out h];have:∀(l:List (Value×Nat)) (cs:Array Value) (off:Nat),(l.foldl (fun cs (x:Value×Nat)=>cs.setIfInBounds (off+x.2) x.1) cs).size=cs.size:=by
     intro l;induction l with
     |nil=>intro cs off;rfl
     |cons y l ih=>intro cs off;rw[List.foldl_cons,ih];simp
    rw[<- Array.foldl_toList];exact this _ _ _
theorem Ch {P:Program}{t e:TypeId}{len:Nat}{parts:Array (Nat×Value)}{xs:List Value}{i:TypeInfo}(hu:P.underlying t=some (.slice e))(hi:P.info? e=some i)(h:qh P e len parts.toList=some xs)(w:World):
  (Instr.buildSlice t len parts).run P w= .ok (.slice (some ⟨w.heap.size,0,none⟩) len len) (w.alloc (.cells xs.toArray e))/\xs.length=len*i.size:=by
 unfold qh at h;rw[hi]at h;simp only at h;cases hz:i.zero with
 |none=>rw[hz]at h;cases h
 |some z=>
 rw[hz]at h;simp only at h;cases hb:Nat.beq z.cells.size i.size with
 |false=>rw[hb]at h;simp at h
 |true=>
 cases hb2:Nat.ble (len*i.size) 16777216 with
 |false=>rw[hb,hb2]at h;simp at h
 |true=>
 rw[hb,hb2]at h;simp only at h;obtain⟨out,ho,rfl⟩:=Option.map_eq_some_iff.1 h;have hzs:z.cells.size=i.size:=Nat.eq_of_beq_eq_true hb;have hle:len*i.size<=16777216:=Nat.le_of_ble_eq_true hb2;have hsz:=yd _ _ _ _ ho;refine⟨?_,by rw[Array.length_toList,hsz,List.size_toArray,fg,Array.length_toList,hzs]⟩;simp only[Instr.buildSlice,Sem.run_bind,aN hu,Result.andThen_ok,fk hi];rw[if_neg (by omega)];by_cases h0:len*i.size=0
 .have hzr:(cI z.cells.toList len)=[]:=List.eq_nil_of_length_eq_zero (by rw[fg,Array.length_toList,hzs,h0]);rw[hzr]at ho;simp only[Sem.run_bind,h0,if_true,Sem.run_pure,Result.andThen_ok];rw[show(Array.map (fun x=>(#[]:Array Value)[x%(#[]:Array Value).size]!) (Array.range 0))=([]:List Value).toArray from by simp,ho];simp only[Sem.run_bind,lY,Result.andThen_ok,Sem.run_pure]
 .simp only[Sem.run_bind,h0,if_false,zeroValue,iI hi,hz,Sem.run_pure,Result.andThen_ok,uK _ _ _ hzs,ho,lY]
section
variable {P : Program} {ρ : Operand -> Value} {o : Oper} {w : World}
theorem pc {c:Call}{f:Operand}{g:FuncId}{first cap:Array Value}(ho:o.op= .call c)(hc:c.callee= .value f)(hf:ρ f= .func (.func g) first cap)(hg:mF P g=true):
  (execOp ρ o).run P w= .ok (.enter g ((first++c.args.map ρ)++cap)) w:=by
 simp only[execOp,ho,resolve,hc,hf,Deferred.ofValue,pure_bind,invoke];exact sV hg _ w
theorem kx {c:Call}{b:Builtin}(ho:o.op= .call c)(hc:c.callee= .builtin b):
  (execOp ρ o).run P w=(builtin b c.argTypes o.type (c.args.map fun| .const _=>true|_=>false) (c.args.map ρ)).run P w:=by
 simp only[execOp,ho,resolve,hc,pure_bind,invoke];rfl
theorem FT {c:Call}{f:Operand}{g:FuncId}{first cap:Array Value}(ho:o.op= .defer c)(hc:c.callee= .value f)(hf:ρ f= .func (.func g) first cap):
  (execOp ρ o).run P w= .ok (.defer { target:=.fn (.func g) cap,args:=first++c.args.map ρ}) w:=by
 simp only[execOp,ho,resolve,hc,hf,Deferred.ofValue,pure_bind];rfl
end
theorem yD {P:Program}{n:Nat}{o:Oper}{E:Env}{D:List Deferred}{H0 H:Hp}{w0 w:World}{K:de}{a:Act}{next:Act->World->Prop}{Q:Exit->Act->World->Prop}
  (h:Cm P n o E D H K) (ha:da E n a) (hd:a.defers=D) (hA:At H0 w0 H w) (hn:∀ a w,Holds H0 w0 n K a w->next a w):o.wp P a w next Q:=by
 unfold Cm at h;cases hk:known E o with
 |false=>rw[hk]at h;exact h.elim
 |true=>
 rw[hk]at h;simp only at h;by_cases hs:∃ cs b,o.op= .select cs b
 .obtain⟨cs,b,hs⟩:=hs;have hV:Ce o=false:=by unfold Ce;rw[hs]
  rw[hV]at h;simp only[hs]at h
 have hs':∀ cs b,o.op≠ .select cs b:=fun cs b e=>hs ⟨cs,b,e⟩
 have hval:∀{v:Value} {w':World} {H':Hp},(execOp E.at o).run P w= .ok (.value v) w'->(fZ n o.dst v E fun E'=>K E' D H')->At H0 w0 H' w'->o.wp P a w next Q:=by
  intro v w' H' hr hp hA';unfold Oper.wp;rw[gh hk ha hs',hr];exact hn _ _ (hp.holds ha hd hA')
 have hef:ef P (execOp E.at o) H (fun nx H'=>match nx with| .value v=>fZ n o.dst v E fun E'=>K E' D H'| .skip=>fZ n o.dst undef E fun E'=>K E' D H'|_=>False)→o.wp P a w next Q:=by
  intro h;obtain⟨nx,H',w',hr,hp,hA'⟩:=sd _ h hA;unfold Oper.wp;rw[gh hk ha hs',hr];cases nx<;>first|exact hp.elim|exact hn _ _ (fZ.holds hp ha hd hA')
 have hef2:ef P (execOp E.at o) H (fun nx H'=>valueOf (fun v=>fZ n o.dst v E fun E'=>K E' D H') nx)->o.wp P a w next Q:=by
  intro h;obtain⟨nx,H',w',hr,hp,hA'⟩:=sd _ h hA;cases nx<;>first|exact hp.elim|exact hval hr hp hA'
 have hopV:tg P o E.at H (fun v=>fZ n o.dst v E fun E'=>K E' D H)->o.wp P a w next Q:=by
  intro h;obtain⟨v,hp,hr⟩:=qQ h;exact hval (hr w hA.fits) hp hA
 cases hV:Ce o with
 |true=>rw[hV]at h;exact hopV h
 |false=>
 rw[hV]at h;simp only at h;split at h
 .rename_i s d x hop
  split at h
  .rename_i e b h1 h2 h3
   rw[Bool.and_eq_true]at h1;split at h
   .rename_i h4
    obtain⟨v,H',w',hr,hp,hA'⟩:=ED (P:=P) h hA;have hp':fZ n o.dst v E fun E'=>K E' D H':=Dt.out (l:=.sl) (K:=fun v=>fZ n o.dst v E fun E'=>K E' D H') hp
    refine hval ?_ hp' hA';simp only[execOp,hop,h3,convert,Sem.run_bind,aN (wb h1.1),aN h2,Result.andThen_ok,aN h4,hr];rfl
   .exact h.elim
  .exact h.elim
  .split at h
   .obtain⟨v,H',w',hr,hp,hA'⟩:=h H0 w0 w hA;have hp':fZ n o.dst v E fun E'=>K E' D H':=Dt.out (l:=.sl) (K:=fun v=>fZ n o.dst v E fun E'=>K E' D H') hp
    refine hval ?_ hp' hA';simp only[execOp,hop,Sem.run_bind,hr];rfl
   .exact hopV h
 .rename_i t l c hop
  split at h
  .rename_i e k l' k' c' hu hl hc
   obtain⟨v,H',w',hr,hp,hA'⟩:=Ev (k:=k) (k':=k') hu h hA;have hp':fZ n o.dst v E fun E'=>K E' D H':=Dt.out (l:=.sl) (K:=fun v=>fZ n o.dst v E fun E'=>K E' D H') hp
   refine hval ?_ hp' hA';simp only[execOp,hop,hl,hc,Sem.run_bind,hr];rfl
  .exact h.elim
 .rename_i t len parts hop
  split at h
  .rename_i e hu
   replace h:=h.out
   split at h
   .rename_i xs hx
    split at h
    .rename_i i hi
     have hx':qh P e len (parts.map fun(j,x)=>(j,E.at x)).toList=some xs:=by rw[<- hx];simp
     obtain⟨hr,hxl⟩:=Ch (w:=w) hu hi hx';have hrow:(AO.row xs e (len*i.size)).holds (.cells xs.toArray e):=⟨[],0,0,by simp,by simpa using hxl,.inl rfl⟩;obtain⟨hn',hA'⟩:=hA.new hrow;refine hval ?_ (h _ hn') hA';simp only[execOp,hop,Sem.run_bind,hr];rfl
    .exact h.elim
   .exact h.elim
  .exact h.elim
 .rename_i c hop
  split at h
  .rename_i f hc
   split at h
   .rename_i g first cap hf
    rcases aq.out h with⟨hg,h⟩|⟨_,h⟩
    .unfold Oper.wp;rw[gh hk ha hs',pc hop hc hf hg];refine(h w hA.fits).mono fun e w' hh=>?_
     obtain⟨v,H',rfl,hr,hA'⟩:=hh;exact hn _ _ (fZ.holds (DT.out hr.out) ha hd (hA.trans hA'))
    .obtain⟨nx,H',w',hr,hp,hA'⟩:=h H0 w0 w hA;cases nx<;>first|exact hp.elim|skip
     refine hval ?_ (DT.out (DR.out hp)) hA';simp only[execOp,hop,resolve,hc,hf,Deferred.ofValue,pure_bind,invoke];exact hr
   .exact h.elim
  .rename_i hc
   split at h
   .rename_i t t' s x h1 h2
    split at h
    .rename_i e hu
     rcases aq.out h with⟨hb,h⟩|⟨_,h⟩
     .have hu':(∃ e',P.underlying t'=some (.slice e'))\/P.underlying t'=some .string:=by
       rw[Bool.or_eq_true]at hb;exact hb.imp Fc wb
      obtain⟨v,H',w',hr,hp,hA'⟩:=CU (ty:=o.type) hu hu' h hA;have hp':fZ n o.dst v E fun E'=>K E' D H':=Dt.out (l:=.sl) (K:=fun v=>fZ n o.dst v E fun E'=>K E' D H') hp
      refine hval ?_ hp' hA';rw[kx hop hc];have e1:c.argTypes=#[t,t']:=by rw[<- Array.toArray_toList (xs:=c.argTypes),h1]
      have e2:c.args=#[s,x]:=by rw[<- Array.toArray_toList (xs:=c.args),h2]
      simp only[builtin,e1,e2,Sem.run_bind,List.map_toArray,List.map_cons,List.map_nil,hr];rfl
     .exact h.elim
    .exact h.elim
   .exact h.elim
  .rename_i hc
   split at h
   .rename_i t t' s x h1 h2
    split at h
    .rename_i e hu
     obtain⟨v,H',w',hr,hp,hA'⟩:=Ek (t':=t') (ty:=o.type) hu h hA;have hp':fZ n o.dst v E fun E'=>K E' D H':=Dt.out (l:=.int .i64) (K:=fun v=>fZ n o.dst v E fun E'=>K E' D H') hp
     refine hval ?_ hp' hA';rw[kx hop hc];have e1:c.argTypes=#[t,t']:=by rw[<- Array.toArray_toList (xs:=c.argTypes),h1]
     have e2:c.args=#[s,x]:=by rw[<- Array.toArray_toList (xs:=c.args),h2]
     simp only[builtin,e1,e2,Sem.run_bind,List.map_toArray,List.map_cons,List.map_nil,hr];rfl
    .exact h.elim
   .exact h.elim
  .rename_i hc
   obtain⟨v,H',w',hr,hp,hA'⟩:=h H0 w0 w hA;refine hval ?_ hp hA';rw[kx hop hc];simp only[builtin,Sem.run_bind,hr];rfl
  .rename_i hc
   obtain⟨v,H',w',hr,hp,hA'⟩:=h H0 w0 w hA;refine hval ?_ hp hA';rw[kx hop hc];simp only[builtin,Sem.run_bind,hr];rfl
  .exact hef2 h
  .exact h.elim
 .rename_i c hop
  split at h
  .rename_i f hc
   split at h
   .rename_i g first cap hf
    obtain⟨E',hK,ha'⟩:=h.sound ha;unfold Oper.wp;rw[gh hk ha hs',FT hop hc hf];refine hn _ _ ⟨E',_,H,hK,?_,?_,hA⟩
    .cases hdst:o.dst<;>(rw[hdst]at ha';exact ha')
    .rw[<- hd];cases o.dst<;>rfl
   .exact h.elim
  .exact h.elim
 .exact h.elim
 .rename_i t m k x hop
  obtain⟨v,H',w',hr,hp,hA'⟩:=h H0 w0 w hA;unfold Oper.wp;rw[gh hk ha hs',show(execOp E.at o).run P w= .ok .skip w' from by simp only[execOp,hop,Sem.run_bind,hr];rfl];exact hn _ _ (hp.holds ha hd hA')
 .rename_i t m k x hop
  obtain⟨v,H',w',hr,hp,hA'⟩:=h H0 w0 w hA;unfold Oper.wp;rw[gh hk ha hs',show(execOp E.at o).run P w= .ok .skip w' from by simp only[execOp,hop,Sem.run_bind,hr];rfl];exact hn _ _ (hp.holds ha hd hA')
 .rename_i t x hop
  obtain⟨v,H',w',hr,hp,hA'⟩:=h H0 w0 w hA;refine hval ?_ hp hA';simp only[execOp,hop,Sem.run_bind,hr];rfl
 .rename_i it b hop
  obtain⟨v,H',w',hr,hp,hA'⟩:=h H0 w0 w hA;refine hval ?_ hp hA';simp only[execOp,hop,Sem.run_bind,hr];rfl
 .rename_i it hop
  obtain⟨v,H',w',hr,hp,hA'⟩:=h H0 w0 w hA;refine hval ?_ hp hA';simp only[execOp,hop,Sem.run_bind,hr];rfl
 .rename_i t x y hop
  split at h
  .rename_i p hx
   obtain⟨ad,rfl,h⟩:=NN.out h;split at h
   .split at h
    .rename_i cs i hy hi
     obtain⟨hsz,h⟩:=h;split at h
     .rename_i H' hp
      obtain⟨w',hr,hA'⟩:=vi (P:=P) ad cs.toList 0 H H' w hA hp;unfold Oper.wp;rw[gh hk ha hs',show(execOp E.at o).run P w= .ok .skip w' from by
       simp only[execOp,hop,hx,hy,Instr.storeAt,Instr.sureAddr,storeVar,Value.cells,pure_bind,Sem.run_bind,fk hi,Result.andThen_ok];rw[if_neg (by simp[hsz])];simp only[hr,Result.andThen_ok];rfl]
      exact hn _ _ (h.holds ha hd hA')
     .exact h.elim
    .exact h.elim
   .obtain⟨u,H',w',hr,hp,hA'⟩:=sd _ h hA;unfold Oper.wp;rw[gh hk ha hs',show(execOp E.at o).run P w= .ok .skip w' from by
     simp only[execOp,hop,hx,Instr.storeAt,Instr.sureAddr,pure_bind,Sem.run_bind,hr,Result.andThen_ok];rfl]
    exact hn _ _ (fZ.holds hp ha hd hA')
  .exact h.elim
 .exact hef h
end Go.Hw
namespace Go.Hw
open Go
section
variable {P : Program} {ops : Array Oper} {md : Region.Mode} {C : World -> Prop}
def rR (P:Program)(md:Region.Mode)(ops:Array Oper)(C:World->Prop)(n:Nat)(L:Array Bool->Act->Prop):Nat->Array Bool->Act->Prop
 |0,listed,a=>L listed a
 |f+1,listed,a=>
  Region.ready md ops listed≠ []/\∀ i∈Region.ready md ops listed,i<n/\qOp P ops C i (rR P md ops C n L f (listed.setIfInBounds i true)) a
theorem rS {n g:Nat}{L:Array Bool->Act->Prop}{Q':Exit->Act->World->Prop}(hL:∀ listed a w,C w->L listed a->wpAny P md ops Q' g listed a w):
  ∀(f:Nat) (listed:Array Bool) (a:Act) (w:World),C w->rR P md ops C n L f listed a->wpAny P md ops Q' (f+g) listed a w
 |0,listed,a,w,hw,h=>by rw[Nat.zero_add];exact hL _ _ _ hw h
 |f+1,listed,a,w,hw,h=>by
  rw[show f+1+g=(f+g)+1 by omega];exact⟨fun h0=>absurd h0 h.1,fun i hi=>wpOp_of_qOp hw (fun a' w' hw' h'=>rS hL f _ a' w' hw' h') (h.2 i hi).2⟩
def wF (md:Region.Mode)(ops:Array Oper)(pre:List Nat)(n:Nat):Bool:=
 (List.range n).all fun i=>pre.contains i||(List.range (n+1)).any fun j=>decide (i<j)&&Region.waitsFor md ops j i
structure lT (md:Region.Mode)(ops:Array Oper)(pre:List Nat)(n:Nat)(listed:Array Bool):Prop where
 inv:HeadInv md ops n listed
 pre:∀ i∈pre,listed.getD i false=true
theorem lT.set {pre:List Nat}{n i:Nat}{listed:Array Bool}(h:lT md ops pre n listed)(hi:i∈Region.ready md ops listed)(hin:i<n):lT md ops pre n (listed.setIfInBounds i true):=
 ⟨h.inv.set hi hin,fun j hj=>getD_set_true (h.pre j hj)⟩
theorem uQ {pre:List Nat}{n:Nat}{listed:Array Bool}(hs:wF md ops pre n=true)(hc:Region.chainB md ops n=true)(hn:n<ops.size)(inv:lT md ops pre n listed):
  ∀(d i:Nat),n-i=d->i<n->listed.getD i true=false->∀ t,n<=t->t∉Region.ready md ops listed:=by
 intro d
 induction d using Nat.strongRecOn with
 |_ d ih=>
  intro i hd hi hun t ht hr;obtain⟨_,ot,hot,hall⟩:=mem_ready.1 hr;have htlt:t<ops.size:=(Array.getElem?_eq_some_iff.1 hot).1;by_cases htn:t=n
  .subst htn;have h1:=List.all_eq_true.1 hs i (List.mem_range.2 hi);rw[Bool.or_eq_true]at h1;rcases h1 with h1|h1
   .have:=inv.pre i (by simpa using h1);rw[getD_both hun]at this;cases this
   obtain⟨j,hj,hj2⟩:=List.any_eq_true.1 h1;simp only[Bool.and_eq_true,decide_eq_true_eq]at hj2;obtain⟨oj,hoj,e,he,hb,hon⟩:=Region.waitsFor_spec hj2.2;have hjle:j<=t:=by have:=List.mem_range.1 hj;omega
   by_cases hjt:j=t
   .subst hjt;have:oj=ot:=Option.some.inj (hoj.symm.trans hot);subst this;have h2:=hall e he hb;rw[hon,getD_both hun]at h2;cases h2
   .cases hl:listed.getD j false with
    |true=>
     have h2:=inv.inv.closed j oj hoj hl e he hb;rw[hon,getD_both hun]at h2;cases h2
    |false=>
     have hjs:j<listed.size:=by rw[inv.inv.size];omega
     exact ih (t-j) (by omega) j rfl (by omega) (getD_in hjs hl) t (Nat.le_refl _) hr
  .have h1:=List.all_eq_true.1 hc t (List.mem_range.2 htlt);simp only[Bool.or_eq_true,decide_eq_true_eq]at h1;rcases h1 with h1|h1
   .omega
   .obtain⟨o',ho',e,he,hb,hon⟩:=Region.waitsFor_spec h1;have:o'=ot:=Option.some.inj (ho'.symm.trans hot);subst this;have h2:=hall e he hb;rw[hon,getD_both (inv.inv.tail (t-1) (by omega) (by omega))]at h2;cases h2
theorem zd {n i:Nat}{oi:Oper}{v:Value}{L:Array Bool->Act->Prop}(hi:ops[i]? =some oi)(hsel:∀(j:Nat) (o:Oper) cs b,ops[j]? =some o->o.op≠ .select cs b)
  {pre:List Nat} (hs:wF md ops pre n=true) (hc:Region.chainB md ops n=true) (hn:n<ops.size) (hin:i<n)
  (hdone:∀ listed a,L listed a->∀ j∈Region.ready md ops listed,n<=j):
  ∀(f:Nat) (listed:Array Bool) (a:Act),lT md ops pre n listed->
   (∀ j oj,ops[j]? =some oj->j≠i->listed.getD j true=false->(∀ e∈oj.after,Region.binds md e=true->e.on≠i)->oi.apart ops oj=true)->
   i∈Region.ready md ops listed->YieldsIn P ops C oi v a->
   rR P md ops C n L f (listed.setIfInBounds i true) (a.put oi.dst v)->rR P md ops C n L (f+1) listed a:=by
 intro f
 induction f with
 |zero=>
  intro listed a inv _ hr hy H;have hun:=(mem_ready.1 hr).1;refine⟨fun h=>(by rw[h]at hr;cases hr),fun j hj=>?_⟩;have hjn:j<n:=by
   rcases Nat.lt_or_ge j n with h|h
   .exact h
   .exact absurd hj (uQ hs hc hn inv _ i rfl hin hun j h)
  refine⟨hjn,?_⟩;by_cases hji:j=i
  .subst hji;exact hy.qOp hi H
  .have:=hdone _ _ H j (ready_mono hj hji);omega
 |succ f ih=>
  intro listed a inv hfree hr hy H;have hun:=(mem_ready.1 hr).1;refine⟨fun h=>(by rw[h]at hr;cases hr),fun j hj=>?_⟩;have hjn:j<n:=by
   rcases Nat.lt_or_ge j n with h|h
   .exact h
   .exact absurd hj (uQ hs hc hn inv _ i rfl hin hun j h)
  refine⟨hjn,?_⟩;by_cases hji:j=i
  .subst hji;exact hy.qOp hi H
  .have h1:=(H.2 j (ready_mono hj hji)).2;obtain⟨hjun,oj,hoj,hall⟩:=mem_ready.1 hj;have hnot:∀ e∈oj.after,Region.binds md e=true->e.on≠i:=fun e he hb heq=>by
    have h1:=hall e he hb;rw[heq,getD_both hun]at h1;cases h1
   have h2:=qOp_put hoj (hfree j oj hoj hji hjun hnot) (fun cs b=>hsel i oi cs b hi) (fun cs b=>hsel j oj cs b hoj) hy h1;have hfree':∀ k ok,ops[k]? =some ok->k≠i->(listed.setIfInBounds j true).getD k true=false->
     (∀ e∈ok.after,Region.binds md e=true->e.on≠i)->oi.apart ops ok=true:=fun k ok hk hki hun hno=>by
    refine hfree k ok hk hki ?_ hno;by_cases hjk:j=k
    .subst hjk;exact hjun
    .rw[getD_set_ne true hjk]at hun;exact hun
   refine qOp_mono (fun a' h3=>ih (listed.setIfInBounds j true) a' (inv.set hj hjn) hfree' (ready_mono hr (Ne.symm hji)) h3.1 ?_) h2;rw[Array.setIfInBounds_comm _ _ hji];exact h3.2
def zm (md:Region.Mode)(ops:Array Oper)(n g:Nat):List Nat->Array Bool->Bool
 | [],listed=>Region.seqB md ops g n listed
 |i::r,listed=>Nat.blt i n&&(Region.ready md ops listed).contains i&&Region.free md ops listed i&&zm md ops n g r (listed.setIfInBounds i true)
theorem uS {n g:Nat}{Lq:Act->Prop}{pre:List Nat}(hsel:Region.noSelect ops=true)(hs:wF md ops pre n=true)(hc:Region.chainB md ops n=true)(hn:n<ops.size):
  ∀(is:List Nat) (l:List Oper) (listed:Array Bool) (a:Act),is.map (fun i=>ops[i]?)=l.map some->lT md ops pre n listed->
  zm md ops n g is listed=true->wpQuiet P ops C Lq l a->
  rR P md ops C n (fun listed' a'=>Region.seqB md ops g n listed'=true/\Lq a') is.length listed a
 | [],[],listed,a,_,_,hB,h=>⟨hB,h⟩
 | [],_::_,_,_,hl,_,_,_=>by simp at hl
 |_::_,[],_,_,hl,_,_,_=>by simp at hl
 |i::is,o::l,listed,a,hl,inv,hB,h=>by
  simp only[List.map_cons,List.cons.injEq]at hl;obtain⟨h0,hl⟩:=hl;simp only[zm,Bool.and_eq_true]at hB;obtain⟨⟨⟨hin,hr⟩,hf⟩,hB'⟩:=hB;have hin':i<n:=Nat.le_of_ble_eq_true hin;have hr':i∈Region.ready md ops listed:=by simpa using hr
  have hst:qOp P ops C i (wpQuiet P ops C Lq l) a:=by unfold qOp;simp only[h0];exact h
  obtain⟨v,hy,hK⟩:=yieldsIn_of_qOp h0 hst;exact zd h0 (Region.noSelect_spec hsel) hs hc hn hin' (fun listed' a' hL=>seqB_ready hL.1) is.length listed a inv (Region.free_spec h0 hf) hr' hy
   (uS hsel hs hc hn is l _ _ hl (inv.set hr' hin') hB' hK)
def Fb (ops:Array Oper)(i:Nat):Bool:=match ops[i]? with|some o=>(match o.op,o.guard with| .move _,none=>true|_,_=>false)|none=>false
def preB (md:Region.Mode)(ops:Array Oper)(n:Nat):List Nat->Array Bool->Bool
 | [],_=>true
 |i::r,listed=>Fb ops i&&Nat.blt i n&&(Region.ready md ops listed).contains i&&Region.free md ops listed i&&preB md ops n r (listed.setIfInBounds i true)
def jl :List Nat->Array Bool->Array Bool
 | [],listed=>listed
 |i::r,listed=>jl r (listed.setIfInBounds i true)
def nM (ops:Array Oper):List Nat->Act->Act
 | [],a=>a
 |i::r,a=>nM ops r (match ops[i]? with|some o=>(match o.op with| .move x=>a.put o.dst (a.eval x)|_=>a)|none=>a)
theorem yW {Q:Exit->Act->World->Prop}{n:Nat}(hQ:∀ c a w,¬Q (.panic c) a w)(hsel:Region.noSelect ops=true):∀(is:List Nat) (f:Nat) (listed:Array Bool) (a:Act) (w:World),preB md ops n is listed=true->
  wpAny P md ops Q f (jl is listed) (nM ops is a) w->wpAny P md ops Q (is.length+f) listed a w
 | [],f,listed,a,w,_,h=>by simpa [jl,nM]using h
 |i::is,f,listed,a,w,hB,h=>by
  simp only[preB,Bool.and_eq_true]at hB;obtain⟨⟨⟨⟨hm,_⟩,hr⟩,hf⟩,hB'⟩:=hB;have hr':i∈Region.ready md ops listed:=by simpa using hr
  unfold Fb at hm;split at hm
  .rename_i o ho
   split at hm
   .rename_i x hop hg
    rw[show(i::is).length+f=(is.length+f)+1 by simp;omega];have hy:Yields P ops o (a.eval x) a:=.inl ⟨by unfold Region.wanted;rw[hg],fun w=>by simp[execOp,hop]⟩;refine wpAny_first ho (Region.noSelect_spec hsel) (fun c a w h=>(hQ c _ w h).elim) _ listed a w (Region.free_spec ho hf) hr' hy ?_;have h':wpAny P md ops Q f (jl is (listed.setIfInBounds i true)) (nM ops is (a.put o.dst (a.eval x))) w:=by
     simpa [jl,nM,ho,hop]using h
    exact yW hQ hsel is f _ _ w hB' h'
   .cases hm
  .cases hm
theorem FG {n:Nat}:∀(is pre:List Nat) (listed:Array Bool),preB md ops n is listed=true->lT md ops pre n listed->lT md ops (pre++is) n (jl is listed)
 | [],pre,listed,_,h=>by simpa [jl]using h
 |i::is,pre,listed,hB,h=>by
  simp only[preB,Bool.and_eq_true]at hB;obtain⟨⟨⟨⟨hm,hlt⟩,hr⟩,hf⟩,hB'⟩:=hB;have hr':i∈Region.ready md ops listed:=by simpa using hr
  have hin:i<n:=Nat.le_of_ble_eq_true hlt;have h2:=h.set hr' hin;have h3:lT md ops (pre++[i]) n (listed.setIfInBounds i true):=⟨h2.inv,fun j hj=>by
   rcases List.mem_append.1 hj with hj|hj
   .exact h2.pre j hj
   .obtain rfl:j=i:=by simpa using hj
    have:j<listed.size:=by
     rw[h.inv.size];obtain⟨_,o,ho,_⟩:=mem_ready.1 hr';exact(Array.getElem?_eq_some_iff.1 ho).1
    simp[this]⟩
  have:=FG is (pre++[i]) _ hB' h3;simpa [jl]using this
def DZ (ops:Array Oper)(pre head:List Nat)(n:Nat):Bool:=
 Region.noSelect ops&&Nat.blt n ops.size&&Nat.beq (pre.length+head.length) n&&wF .any ops pre n&&Region.chainB .any ops n&&preB .any ops n pre (Array.replicate ops.size false)&&
  zm .any ops n (ops.size-n) head (jl pre (Array.replicate ops.size false))
theorem sC {id:Nat}{Q:Exit->Act->World->Prop}{a:Act}{w:World}(pre head:List Nat)(hl:List Oper)(n:Nat)(hQ:∀ c a w,¬Q (.panic c) a w)(hm:P.follows .mixedOrders=true)(hB:DZ ops pre head n=true)(hC:C { w with drawn:=w.drawn+1})
  (hh:head.map (fun i=>ops[i]?)=hl.map some)
  (h:wpQuiet P ops C (fun a'=>∀ w',C w'->wpList P ops Q (ops.toList.drop n) a' w') hl (nM ops pre a)):(Code.region id ops true).wp P Q a w:=by
 simp only[DZ,Bool.and_eq_true]at hB;obtain⟨⟨⟨⟨⟨⟨hsel,hn⟩,hlen⟩,hs⟩,hc⟩,hpre⟩,hlex⟩:=hB;have hn:n<ops.size:=Nat.le_of_ble_eq_true hn;have hlen:pre.length+head.length=n:=Nat.eq_of_beq_eq_true hlen;have hdl:(ops.toList.drop n).length=ops.size-n:=by simp
 have inv0:lT .any ops [] n (Array.replicate ops.size false):=
  ⟨⟨by simp,fun j oj _ hl=>(by rw[getD_replicate_false]at hl;cases hl),fun t _ ht=>getD_in (by simpa using ht) (getD_replicate_false _ _)⟩,fun _ h=>by cases h⟩
 have inv1:=FG pre [] _ hpre inv0;rw[List.nil_append]at inv1;have H:=uS (md:=.any) (g:=ops.size-n) hsel hs hc hn head hl _ _ hh inv1 hlex h;refine wp_region_any hm ?_;have:=rS (Q':=Q) (g:=ops.size-n) (fun listed a' w' hw' hL=>by
  have:=wpAny_of_seq (md:=.any) (Q':=Q) (ops.toList.drop n) n listed a' w' (fun j=>by simp[List.getElem?_drop]) (by rw[hdl];exact hL.1) (hL.2 w' hw')
  rwa [hdl]at this) _ _ _ _ hC H
 have h2:=yW (P:=P) (Q:=Q) hQ hsel pre _ _ a _ hpre this;rw[show pre.length+(head.length+(ops.size-n))=ops.size by omega]at h2;exact h2
end
end Go.Hw
namespace Go.Hw
open Go
def BG (c want:Bool)(X Y:Prop):Prop:=match want with|true=>aq c X Y|false=>aq c Y X
def gd (ops:Array Oper)(o:Oper)(E:Env)(X Y:Env->Prop):Prop:=
 match o.guard with
 |none=>X E
 |some (j,want)=>match (ops[j]?).bind (·.dst)with
  |some d=>match E.get? d with
   |some (.bool c)=>BG c want (X ((d,.bool want)::E)) (Y ((d,.bool (!want))::E))
   |some (.tuple _)=>Y E
   |_=>False
  |none=>Y E
theorem da.get {E:Env}{n:Nat}{a:Act}{d:Nat}{v:Value}(h:da E n a)(hd:E.get? d=some v):a.tmps.getD d undef=v:=h.2 d v hd
theorem da.qK {E:Env}{n:Nat}{a:Act}{d:Nat}{v:Value}(h:da E n a)(hd:a.tmps.getD d undef=v):da ((d,v)::E) n a:=by
 refine⟨h.1,fun t u ht=>?_⟩;unfold Env.get? at ht;split at ht
 .rename_i hb
  cases ht;obtain rfl:=Nat.eq_of_beq_eq_true hb;exact hd
 .exact h.2 t u ht
theorem oe {ops:Array Oper}{o:Oper}{E:Env}{X Y:Env->Prop}{n:Nat}{a:Act}(h:gd ops o E X Y)(ha:da E n a):
  (Region.wanted o (yielded ops a.tmps)=true/\∃ E',X E'/\da E' n a)\/(Region.wanted o (yielded ops a.tmps)=false/\∃ E',Y E'/\da E' n a):=by
 unfold gd at h;unfold Region.wanted;split at h
 .rename_i hg;rw[hg];exact .inl ⟨rfl,E,h,ha⟩
 .rename_i j want hg
  rw[hg];simp only;split at h
  .rename_i d hd
   have hy:yielded ops a.tmps j=match a.tmps[d]? with|some (.bool b)=>some b|_=>none:=by
    unfold yielded;rw[hd];rfl
   split at h
   .rename_i c hc
    have hget:=ha.get hc;have hsome:a.tmps[d]? =some (.bool c):=by
     rw[Array.getD_eq_getD_getElem?]at hget;cases hq:a.tmps[d]? with
     |none=>rw[hq]at hget;simp[undef]at hget
     |some v=>rw[hq]at hget;simp at hget;rw[hget]
    rw[hy,hsome];simp only;unfold BG at h;cases want<;>simp only at h<;>rcases aq.out h with⟨rfl,h⟩|⟨rfl,h⟩
    .exact .inr ⟨by simp,_,h,ha.qK hget⟩
    .exact .inl ⟨by simp,_,h,ha.qK hget⟩
    .exact .inl ⟨by simp,_,h,ha.qK hget⟩
    .exact .inr ⟨by simp,_,h,ha.qK hget⟩
   .rename_i vs hc
    have hget:=ha.get hc;have hnone:(match a.tmps[d]? with|some (.bool b)=>some b|_=>none:Option Bool)=none:=by
     rw[Array.getD_eq_getD_getElem?]at hget;cases hq:a.tmps[d]? with
     |none=>rfl
     |some v=>rw[hq]at hget;simp at hget;rw[hget]
    rw[hy,hnone];exact .inr ⟨by simp,E,h,ha⟩
   .exact h.elim
  .rename_i hd
   have hy:yielded ops a.tmps j=none:=by unfold yielded;rw[hd];rfl
   rw[hy];exact .inr ⟨by simp,E,h,ha⟩
def AP (P:Program)(n:Nat)(ops:Array Oper)(K:de):List Oper->de
 | [],E,D,H=>K E D H
 |o::r,E,D,H=>gd ops o E (fun E=>Cm P n o E D H (AP P n ops K r)) (fun E=>fZ n o.dst undef E fun E=>AP P n ops K r E D H)
theorem pF {P:Program}{n:Nat}{ops:Array Oper}{K:de}{H0:Hp}{w0:World}{Q:Exit->Act->World->Prop}(hq:∀ a w,Holds H0 w0 n K a w->Q .normal a w):
  ∀(l:List Oper) (a:Act) (w:World),Holds H0 w0 n (AP P n ops K l) a w->wpList P ops Q l a w
 | [],a,w,h=>hq a w h
 |o::r,a,w,⟨E,D,H,h,ha,hd,hA⟩=>by
  refine wpList_step fun K' hK'=>?_
  rcases oe h ha with⟨hw,E',h',ha'⟩|⟨hw,E',h',ha'⟩
  .rw[if_pos hw];exact yD h' ha' hd hA fun a w hh=>hK' a w (pF hq r a w hh)
  .rw[if_neg (by rw[hw];exact Bool.false_ne_true)];exact hK' _ _ (pF hq r _ _ (fZ.holds h' ha' hd hA))
def AN (P:Program)(o:Oper)(E:Env)(H:Hp)(K:Value->Prop):Prop:=
 match known E o with
 |false=>False
 |true=>
 match o.op with
 | .call c=>match c.callee with
  | .value f=>match E.at f with
   | .func (.func g) first cap=>aq (mF P g) (bD P g ((first++c.args.map E.at)++cap) H fun v=>DR P (eM P g) v K) False
   |_=>False
  |_=>tg P o E.at H K
 | .select .. =>False
 |_=>tg P o E.at H K
def AQ (P:Program)(n:Nat)(ops:Array Oper)(H:Hp)(K:Env->Prop):List Oper->Env->Prop
 | [],E=>K E
 |o::r,E=>gd ops o E (fun E=>AN P o E H fun v=>fZ n o.dst v E (AQ P n ops H K r)) (fun E=>fZ n o.dst undef E (AQ P n ops H K r))
theorem Fy {P:Program}{n:Nat}{o:Oper}{E:Env}{H0 H:Hp}{w0:World}{K:Value->Prop}{a:Act}{next:Act->Prop}(h:AN P o E H K)(ha:da E n a)
  (hn:∀ v,K v->next (a.put o.dst v)):o.quiet P a (fun w=>At H0 w0 H w) next:=by
 unfold AN at h;cases hk:known E o with
 |false=>rw[hk]at h;exact h.elim
 |true=>
 rw[hk]at h;simp only at h;have hopV:(∀ cs b,o.op≠ .select cs b)->tg P o E.at H K->o.quiet P a (fun w=>At H0 w0 H w) next:=by
  intro hs h;obtain⟨v,hp,hr⟩:=qQ h;refine⟨v,fun w hw=>?_,hn v hp⟩;unfold Oper.quietAt;rw[gh hk ha hs,hr w hw.fits];exact⟨rfl,rfl⟩
 split at h
 .rename_i c hop
  have hs:∀ cs b,o.op≠ .select cs b:=fun cs b e=>by rw[hop]at e;cases e
  split at h
  .rename_i f hc
   split at h
   .rename_i g first cap hf
    rcases aq.out h with⟨hg,h⟩|⟨_,h⟩
    .obtain⟨v,hv,hc'⟩:=h;refine⟨v,fun w hw=>?_,hn v hv.out⟩;unfold Oper.quietAt;rw[gh hk ha hs,pc hop hc hf hg];refine⟨rfl,(hc' w hw.fits).mono fun e w' hh=>?_⟩;obtain⟨v',H',rfl,⟨rfl,hle⟩,hA'⟩:=hh;exact⟨rfl,(hw.trans hA').weaken hle⟩
    .exact h.elim
   .exact h.elim
  .exact hopV hs h
 .exact h.elim
 .rename_i hns
  exact hopV (fun cs b e=>hns _ _ e) h
theorem pG {P:Program}{n:Nat}{ops:Array Oper}{H0 H:Hp}{w0:World}{K:Env->Prop}{D:List Deferred}{Q:Act->Prop}(hq:∀ a E,K E->da E n a->a.defers=D->Q a):
  ∀(l:List Oper) (a:Act) (E:Env),AQ P n ops H K l E->da E n a->a.defers=D->wpQuiet P ops (fun w=>At H0 w0 H w) Q l a
 | [],a,E,h,ha,hd=>hq a E h ha hd
 |o::r,a,E,h,ha,hd=>by
  unfold wpQuiet;rcases oe h ha with⟨hw,E',h',ha'⟩|⟨hw,E',h',ha'⟩
  .rw[if_pos hw];refine Fy h' ha' fun v hv=>?_
   obtain⟨E2,h2,ha2⟩:=hv.sound ha';exact pG hq r _ E2 h2 ha2 (by cases o.dst<;>exact hd)
  .rw[if_neg (by rw[hw];exact Bool.false_ne_true)];obtain⟨E2,h2,ha2⟩:=h'.sound ha';exact pG hq r _ E2 h2 ha2 (by cases o.dst<;>exact hd)
def BZ :Hp:=fun _=>none
theorem BZ.fits (w:World):Fits BZ w:=fun _ _ h=>by cases h
def lN :Oper->Bool:=fun o=>match o.op with
 | .move _| .assign _| .pick .. | .nilCheck _| .binOp .. | .unOp .. | .indexAddr .. | .index .. | .slice .. | .field .. | .fieldAddr .. | .extract .. | .build .. | .makeFunc .. =>true
 | .call { callee:=.builtin .len,..}| .call { callee:=.builtin .min,..}| .call { callee:=.builtin .max,..}=>true
 |_=>false
def vZ :Oper→Bool:=fun o=>match o.op with| .buildSlice .. =>true|_=>false
def zk (P:Program)(n:Nat)(ops:Array Oper)(o:Oper)(E:Env)(K:Env->Prop):Prop:=
 gd ops o E (fun E=>match known E o with|true=>tg P o E.at BZ fun v=>fZ n o.dst v E K|false=>False) (fun E=>fZ n o.dst undef E K)
def z6 (X:Nat->Prop):List Nat->Prop
 | []=>True
 | [i]=>X i
 |i::r=>X i/\z6 X r
theorem z6.out {X:Nat->Prop}:∀{l:List Nat},z6 X l->∀ i∈l,X i
 | [],_,_,h=>by simp at h
 | [i],h,j,hj=>by simp at hj;subst hj;exact h
 |i::k::r,h,j,hj=>by
  obtain⟨h1,h2⟩:=h;rcases List.mem_cons.1 hj with rfl|hj
  .exact h1
  .exact z6.out h2 j hj
def reach (ops:Array Oper)(i:Nat):Nat->Nat->Bool
 |0,_=>false
 |f+1,j=>match ops[j]? with
  |some o=>o.after.any fun e=>Region.binds .any e&&(e.on==i||reach ops i f e.on)
  |none=>false
def Ih (ops:Array Oper)(i j:Nat):Prop:=∃ f,reach ops i f j=true
def wL (tab:List Nat)(i j:Nat):Bool:=(tab.getD j 0).testBit i
def Fu (tab:List Nat)(j:Nat)(o:Oper):Nat:=o.after.toList.foldl (fun m e=>match Region.binds .any e&&Nat.blt e.on j with|true=>m|||((1<<<e.on)|||tab.getD e.on 0)|false=>m) 0
def zD (ops:Array Oper)(tab:List Nat):Bool:=(List.range ops.size).all fun j=>match ops[j]? with|some o=>Nat.beq (tab.getD j 0) (Fu tab j o)|none=>true
theorem wi (tab:List Nat)(j i:Nat):∀(l:List Edge) (m:Nat),(l.foldl (fun m e=>match Region.binds .any e&&Nat.blt e.on j with|true=>m|||((1<<<e.on)|||tab.getD e.on 0)|false=>m) m).testBit i=true→
  m.testBit i=true\/∃ e∈l,Region.binds .any e=true/\e.on<j/\(e.on=i\/wL tab i e.on=true)
 | [],m,h=>.inl h
 |e::l,m,h=>by
  rcases wi tab j i l _ h with h1|⟨e',he',hb⟩
  .simp only[]at h1;split at h1
   .rename_i hc
    simp only[Bool.and_eq_true]at hc;rw[Nat.testBit_or,Nat.testBit_or,Bool.or_eq_true,Bool.or_eq_true]at h1;rcases h1 with h1|h1|h1
    .exact .inl h1
    .refine .inr ⟨e,by simp,hc.1,?_,.inl ?_⟩
     .exact Nat.le_of_ble_eq_true hc.2
     .rw[Nat.one_shiftLeft,Nat.testBit_two_pow]at h1;simpa using h1
    .refine .inr ⟨e,by simp,hc.1,?_,.inr h1⟩;exact Nat.le_of_ble_eq_true hc.2
   .exact .inl h1
  .exact .inr ⟨e',by simp[he'],hb⟩
theorem yP {ops:Array Oper}{tab:List Nat}(ht:zD ops tab=true){i:Nat}:∀(n j:Nat),j<n->j<ops.size->wL tab i j=true->Ih ops i j
 |0,_,h,_,_=>by omega
 |n+1,j,hn,hj,hb=>by
  have h1:=List.all_eq_true.1 ht j (List.mem_range.2 hj);have hoj:ops[j]? =some ops[j]:=Array.getElem?_eq_getElem hj;rw[hoj]at h1;have h2:=Nat.eq_of_beq_eq_true h1;unfold wL at hb;rw[h2]at hb;unfold Fu at hb;rcases wi tab j i ops[j].after.toList 0 hb with h3|⟨e,he,hbi,hlt,h3⟩
  .simp at h3
  .have hany:∀ f,(e.on==i||reach ops i f e.on)=true->reach ops i (f+1) j=true:=fun f hf=>by
    unfold reach;rw[hoj];simp only;rw[Array.any_eq_true'];exact⟨e,Array.mem_toList_iff.1 he,by rw[hbi,hf];rfl⟩
   rcases h3 with h3|h3
   .exact⟨1,hany 0 (by rw[h3];simp)⟩
   .obtain⟨f,hf⟩:=yP ht n e.on (by omega) (by omega) h3;exact⟨f+1,hany f (by rw[hf];simp)⟩
def mV (ops:Array Oper)(listed:Array Bool):Prop:=∀(j:Nat) (o:Oper),ops[j]? =some o->listed.getD j false=true->∀ e∈o.after,Region.binds .any e=true->listed.getD e.on false=true
theorem mV.start (ops:Array Oper):mV ops (Array.replicate ops.size false):=fun j o ho h=>by
 have hlt:j<ops.size:=(Array.getElem?_eq_some_iff.1 ho).1;simp[hlt]at h
theorem Jr {listed:Array Bool}{j:Nat}(h:listed.getD j false=true):listed.getD j true=true:=by
 rcases Nat.lt_or_ge j listed.size with h'|h'
 .simp[h']at h ⊢;exact h
 .simp[Array.getElem?_eq_none h']at h
theorem mV.step {ops:Array Oper}{listed:Array Bool}(h:mV ops listed){i:Nat}(hi:i∈Region.ready .any ops listed):mV ops (listed.setIfInBounds i true):=fun j o ho hl e he hb=>by
 apply getD_set_true;by_cases hji:j=i
 .subst hji;obtain⟨_,o',ho',hall⟩:=mem_ready.1 hi;rw[ho]at ho';cases ho';exact hall e he hb
 .refine h j o ho ?_ e he hb;rw[getD_set_ne false (Ne.symm hji)]at hl;exact hl
theorem tp {ops:Array Oper}{listed:Array Bool}(hc:mV ops listed){i:Nat}:∀(f j:Nat),reach ops i f j=true->(∀ o,ops[j]? =some o->∀ e∈o.after,Region.binds .any e=true->listed.getD e.on false=true)->listed.getD i false=true
 |0,_,h,_=>by cases h
 |f+1,j,h,hj=>by
  unfold reach at h;split at h
  .rename_i o ho
   obtain⟨e,he,hb⟩:=Array.any_eq_true'.1 h;simp only[Bool.and_eq_true,Bool.or_eq_true,beq_iff_eq]at hb;have hl:=hj o ho e he hb.1;rcases hb.2 with e2|e2
   .rw[<- e2];exact hl
   .exact tp hc f e.on e2 fun o' ho' e' he' hb'=>hc e.on o' ho' hl e' he' hb'
  .cases h
def KY (ops:Array Oper)(tab qs:List Nat)(listed:Array Bool)(i:Nat):Bool:=
 match ops[i]? with
 |none=>false
 |some oi=>(lN oi||qs.contains i)&&(List.range ops.size).all fun j=>j==i||listed.getD j true||match ops[j]? with
   |some oj=>wL tab i j||(oi.apart ops oj&&(lN oi||lN oj||qs.contains j||vZ oj))
   |none=>true
def IG (ops:Array Oper)(tab qs:List Nat)(listed:Array Bool):Option Nat:=(Region.ready .any ops listed).find? fun i=>KY ops tab qs listed i
def nC (P:Program)(n:Nat)(ops:Array Oper)(tab qs:List Nat)(K:de):Nat->Array Bool->de
 |0,listed,E,D,H=>match Region.ready .any ops listed with| []=>K E D H|_=>False
 |f+1,listed,E,D,H=>match IG ops tab qs listed with
  |some i=>match ops[i]? with
   |some o=>match lN o with
    |true=>zk P n ops o E fun E=>nC P n ops tab qs K f (listed.setIfInBounds i true) E D H
    |false=>gd ops o E (fun E=>AN P o E H fun v=>fZ n o.dst v E fun E=>nC P n ops tab qs K f (listed.setIfInBounds i true) E D H) (fun E=>fZ n o.dst undef E fun E=>nC P n ops tab qs K f (listed.setIfInBounds i true) E D H)
   |none=>False
  |none=>match Region.ready .any ops listed with
   | []=>K E D H
   |i::r=>z6 (fun i=>match ops[i]? with
    |some o=>match lN o with
     |true=>zk P n ops o E fun E=>nC P n ops tab qs K f (listed.setIfInBounds i true) E D H
     |false=>gd ops o E (fun E=>match qs.contains i with
      |true=>AN P o E H fun v=>fZ n o.dst v E fun E=>nC P n ops tab qs K f (listed.setIfInBounds i true) E D H
      |false=>Cm P n o E D H fun E D H=>nC P n ops tab qs K f (listed.setIfInBounds i true) E D H) (fun E=>fZ n o.dst undef E fun E=>nC P n ops tab qs K f (listed.setIfInBounds i true) E D H)
    |none=>False) (i::r)
def Qt (P:Program)(H:Hp)(fr:Bool)(o:Oper)(a:Act)(v:Value):Prop:=
 match fr with
 |true=>∀ w,(execOp a.eval o).run P w= .ok (.value v) w
 |false=>∀ w,Fits H w->o.quietAt P a (fun w'=>At H w H w') w v
theorem KU {H:Hp}{b:Nat}{o:AO}(h:H b=none):H.le (H.set b o):=fun c q hq=>by
 unfold Hp.set;split
 .rename_i e;rw[e,h]at hq;cases hq
 .exact hq
theorem At.kV {H H':Hp}{w w':World}(hle:H.le H')(hf:Fits H' w)(h:At H w H w'):At H' w H' w':=by
 have hold:∀ b o,H' b=some o->∃ o',w'.heap[b]? =some o'/\o.holds o':=fun b o hb=>by
  cases e:H b with
  |some q=>
   have:=hle b q e;rw[hb]at this;cases this;exact h.fits b o e
  |none=>
   obtain⟨o',h1,h2⟩:=hf b o hb;exact⟨o',by rw[(h.rH b (Array.getElem?_eq_some_iff.1 h1).1 e).2];exact h1,h2⟩
 refine⟨hold,h.size,h.os,h.tape,h.output,fun b hb h0=>⟨h0,?_⟩⟩;have:H b=none:=by
  cases e:H b with
  |none=>rfl
  |some q=>rw[hle b q e]at h0;cases h0
 exact(h.rH b hb this).2
theorem Qt.mono {P:Program}{H H':Hp}{fr:Bool}{o:Oper}{a:Act}{v:Value}(hle:H.le H')(h:Qt P H fr o a v):Qt P H' fr o a v:=by
 cases fr with
 |true=>exact h
 |false=>
  intro w hw;have h1:=h w fun b o hb=>hw b o (hle b o hb)
  unfold Oper.quietAt at h1⊢;generalize(execOp a.eval o).run P w=r at*;cases r with
  |ok nx w'=>
   cases nx<;>simp only[Oper.quietUpon]at h1⊢ <;>first|exact h1|exact h1.elim|skip
   exact⟨h1.1,h1.2.mono fun e w'' ⟨he,hA⟩=>⟨he,hA.kV hle hw⟩⟩
  |halt x w'=>exact h1.elim
theorem Qt.same {P:Program}{H:Hp}{fr:Bool}{o:Oper}{a a':Act}{v:Value}(he:execOp a'.eval o=execOp a.eval o)(h:Qt P H fr o a v):Qt P H fr o a' v:=by
 cases fr with
 |true=>intro w;rw[he];exact h w
 |false=>intro w hw;unfold Oper.quietAt;rw[he];exact h w hw
def Mk (P:Program)(o:Oper)(a:Act)(ob:AO)(g:Nat->Value):Prop:=∀ w,∃ x,(execOp a.eval o).run P w= .ok (.value (g w.heap.size)) (w.alloc x)/\ob.holds x
theorem Mk.same {P:Program}{o:Oper}{a a':Act}{ob:AO}{g:Nat->Value}(he:execOp a'.eval o=execOp a.eval o)(h:Mk P o a ob g):Mk P o a' ob g:=fun w=>by rw[he];exact h w
def nY (P:Program)(ops:Array Oper)(qs:List Nat)(Q:Act->Hp->Prop)(H0:Hp)(w0:World):Nat->Array Bool->Act->Hp->Prop
 |0,listed,a,H=>Region.ready .any ops listed=[]/\Q a H
 |f+1,listed,a,H=>(Region.ready .any ops listed=[]->Q a H)/\∀ i∈Region.ready .any ops listed,∀ o,ops[i]? =some o->
   if Region.wanted o (yielded ops a.tmps)=true then
    if(lN o||qs.contains i)=true then ∃ v,Qt P H (lN o) o a v/\nY P ops qs Q H0 w0 f (listed.setIfInBounds i true) (a.put o.dst v) H
    else if vZ o=true then ∃(ob:AO) (g:Nat->Value),Mk P o a ob g/\∀ b,H b=none->nY P ops qs Q H0 w0 f (listed.setIfInBounds i true) (a.put o.dst (g b)) (H.set b ob)
    else ∀ w,At H0 w0 H w->o.wp P a w (fun a' w'=>∃ H',At H0 w0 H' w'/\nY P ops qs Q H0 w0 f (listed.setIfInBounds i true) a' H') (fun _ _ _=>False)
   else nY P ops qs Q H0 w0 f (listed.setIfInBounds i true) (a.put o.dst undef) H
theorem Ia {P:Program}{H0 H:Hp}{w0 w:World}{o:Oper}{fr:Bool}{a:Act}{v:Value}{K:Act->World->Prop}{Q:Exit->Act->World->Prop}(h:Qt P H fr o a v)(hA:At H0 w0 H w)(hk:∀ w',At H0 w0 H w'->K (a.put o.dst v) w'):o.wp P a w K Q:=by
 unfold Oper.wp;cases fr with
 |true=>rw[h w];exact hk w hA
 |false=>
  have h3:=h w hA.fits;unfold Oper.quietAt at h3;generalize(execOp a.eval o).run P w=r at*;cases r with
  |ok nx w'=>
   cases nx<;>simp only[Oper.quietUpon]at h3<;>simp only[Oper.upon]
   case value u=>obtain⟨e1,e2⟩:=h3;rw[e1,e2];exact hk _ hA
   case skip=>obtain⟨e1,e2⟩:=h3;rw[e1,<-e2];exact hk _ hA
   case enter f args=>
    obtain⟨e1,hc⟩:=h3;rw[e1];exact hc.mono fun e w'' ⟨he,hw''⟩=>by subst he;exact hk _ (hA.trans hw'')
  |halt x w'=>exact h3.elim
theorem Gi {P:Program}{o:Oper}{a:Act}{w:World}{K:Act->World->Prop}{Q:Exit->Act->World->Prop}(h:o.wp P a w K (fun _ _ _=>False)):o.wp P a w K Q:=by
 unfold Oper.wp at*;generalize(execOp a.eval o).run P w=r at*;cases r with
 |ok n w'=>
  cases n<;>simp only[Oper.upon]at h⊢ <;>first|exact h|exact Calls.mono h (fun e w'' he=>by cases e<;>first|exact he|exact(he:False).elim|(obtain⟨_,_,h2⟩:=he;exact(h2:False).elim))|exact h.elim
 |halt x w'=>cases x<;>simp only[Oper.upon]at h⊢ <;>first|exact h|exact h.elim
theorem nT {P:Program}{ops:Array Oper}{qs:List Nat}{Q:Act->Hp->Prop}{H0:Hp}{w0:World}{Q':Exit->Act->World->Prop}(hq:∀ a H w,Q a H->At H0 w0 H w->Q' .normal a w):
  ∀(f:Nat) (listed:Array Bool) (a:Act) (H:Hp) (w:World),nY P ops qs Q H0 w0 f listed a H->At H0 w0 H w->wpAny P .any ops Q' f listed a w
 |0,listed,a,H,w,h,hA=>⟨h.1,hq _ _ _ h.2 hA⟩
 |f+1,listed,a,H,w,h,hA=>by
  refine⟨fun h0=>hq _ _ _ (h.1 h0) hA,fun i hi=>?_⟩;obtain⟨_,o,ho,_⟩:=mem_ready.1 hi;have hX:=h.2 i hi o ho;unfold wpOp;rw[ho];simp only;split at hX
  .rename_i hw
   rw[if_pos hw];refine .inl ?_;split at hX
   .obtain⟨v,hv,hk⟩:=hX;exact Ia hv hA fun w' hA'=>nT hq f _ _ H w' hk hA'
   .split at hX
    .obtain⟨ob,g,hm,hk⟩:=hX;obtain⟨x,hr,hx⟩:=hm w;obtain⟨hn,hA'⟩:=hA.new hx;unfold Oper.wp;rw[hr];exact nT hq f _ _ _ _ (hk _ hn) hA'
    .exact Gi (Oper.wp_mono (fun a' w' ⟨H',hA',hk⟩=>nT hq f _ a' H' w' hk hA') (hX w hA))
  .rename_i hw
   rw[if_neg hw];exact nT hq f _ _ H w hX hA
section
variable {P : Program} {ops : Array Oper} {qs : List Nat} {Q : Act -> Hp -> Prop} {H0 : Hp} {w0 : World}
def Yv (P:Program)(ops:Array Oper)(H:Hp)(o:Oper)(a:Act)(v:Value):Prop:=
 (Region.wanted o (yielded ops a.tmps)=true/\Qt P H (lN o) o a v)\/(Region.wanted o (yielded ops a.tmps)=false/\v=undef)
theorem Yv.same {H H':Hp}{o:Oper}{a a':Act}{v:Value}(hy:Yv P ops H o a v)(hle:H.le H'\/lN o=true)(he:execOp a'.eval o=execOp a.eval o)(hw:Region.wanted o (yielded ops a'.tmps)=Region.wanted o (yielded ops a.tmps)):Yv P ops H' o a' v:=by
 unfold Yv at*;rw[hw];refine hy.imp (fun⟨h1,h2⟩=>⟨h1,?_⟩) id;rcases hle with hle|hf
 .exact(h2.mono hle).same he
 .rw[hf]at h2⊢;exact h2.same (H:=H) he
theorem Gh {i:Nat}{oi:Oper}{v:Value}(hi:ops[i]? =some oi)(hq:(lN oi||qs.contains i)=true)(hsel:∀(j:Nat) (o:Oper) cs b,ops[j]? =some o->o.op≠ .select cs b):
  ∀(fuel:Nat) (listed:Array Bool) (a:Act) (H:Hp),mV ops listed->
   (∀ j oj,ops[j]? =some oj->j≠i->listed.getD j true=false->Ih ops i j\/(oi.apart ops oj=true/\(lN oi||lN oj||qs.contains j||vZ oj)=true))->
   i∈Region.ready .any ops listed->Yv P ops H oi a v->
   nY P ops qs Q H0 w0 fuel (listed.setIfInBounds i true) (a.put oi.dst v) H->nY P ops qs Q H0 w0 (fuel+1) listed a H:=by
 have here:∀(f:Nat) (listed:Array Bool) (a:Act) (H:Hp),Yv P ops H oi a v->nY P ops qs Q H0 w0 f (listed.setIfInBounds i true) (a.put oi.dst v) H->∀ o,ops[i]? =some o->
   if Region.wanted o (yielded ops a.tmps)=true then
    if(lN o||qs.contains i)=true then ∃ v,Qt P H (lN o) o a v/\nY P ops qs Q H0 w0 f (listed.setIfInBounds i true) (a.put o.dst v) H
    else if vZ o=true then ∃(ob:AO) (g:Nat->Value),Mk P o a ob g/\∀ b,H b=none->nY P ops qs Q H0 w0 f (listed.setIfInBounds i true) (a.put o.dst (g b)) (H.set b ob)
    else ∀ w,At H0 w0 H w->o.wp P a w (fun a' w'=>∃ H',At H0 w0 H' w'/\nY P ops qs Q H0 w0 f (listed.setIfInBounds i true) a' H') (fun _ _ _=>False)
   else nY P ops qs Q H0 w0 f (listed.setIfInBounds i true) (a.put o.dst undef) H:=fun f listed a H hy hk o ho=>by
  rw[hi]at ho;cases ho;rcases hy with⟨h1,h2⟩|⟨h1,rfl⟩
  .rw[if_pos h1,if_pos hq];exact⟨v,h2,hk⟩
  .rw[if_neg (by rw[h1];exact Bool.false_ne_true)];exact hk
 intro fuel
 induction fuel with
 |zero=>
  intro listed a H _ _ hr hy hk;refine⟨fun h=>(by rw[h]at hr;cases hr),fun j hj=>?_⟩;by_cases hji:j=i
  .subst hji;exact here 0 listed a H hy hk
  .have:=ready_mono hj hji;rw[hk.1]at this;cases this
 |succ fuel ih=>
  intro listed a H hc hfree hr hy hk;refine⟨fun h=>(by rw[h]at hr;cases hr),fun j hj=>?_⟩;by_cases hji:j=i
  .subst hji;exact here _ listed a H hy hk
  .intro oj hoj;obtain⟨hjun,oj',hoj',hall⟩:=mem_ready.1 hj;rw[hoj]at hoj';cases hoj';have hiun:=(mem_ready.1 hr).1;obtain⟨hap,hcl⟩:=(hfree j oj hoj hji hjun).resolve_left fun hre=>by
    obtain⟨fu,hre⟩:=hre;have:=Jr (tp hc fu j hre fun o ho e he hb=>by rw[hoj]at ho;cases ho;exact hall e he hb);rw[hiun]at this;cases this
   obtain⟨h1,h2,h3⟩:=Oper.apart_spec hap;have hX:=hk.2 j (ready_mono hj hji) oj hoj;have esame:execOp (a.put oi.dst v).eval oj=execOp a.eval oj:=execOp_put oj (fun cs b=>hsel j oj cs b hoj) a oi.dst v h1;have fF:∀(u:Value) (H':Hp),H.le H'\/lN oi=true->Yv P ops H' oi (a.put oj.dst u) v:=fun u H' hle=>
    hy.same hle (execOp_put oi (fun cs b=>hsel i oi cs b hi) a oj.dst u h3) (wanted_put oi a oj.dst u h3)
   have hfree':∀ k ok,ops[k]? =some ok->k≠i->(listed.setIfInBounds j true).getD k true=false->Ih ops i k\/(oi.apart ops ok=true/\(lN oi||lN ok||qs.contains k||vZ ok)=true):=fun k ok hk hki hun=>by
    refine hfree k ok hk hki ?_;by_cases hjk:j=k
    .subst hjk;exact hjun
    .rw[getD_set_ne true hjk]at hun;exact hun
   have go:∀(u:Value) (H':Hp),H.le H'\/lN oi=true->nY P ops qs Q H0 w0 fuel ((listed.setIfInBounds i true).setIfInBounds j true) ((a.put oi.dst v).put oj.dst u) H'->nY P ops qs Q H0 w0 (fuel+1) (listed.setIfInBounds j true) (a.put oj.dst u) H':=fun u H' hle hk'=>by
    refine ih _ _ _ (hc.step hj) hfree' (ready_mono hr (Ne.symm hji)) (fF u H' hle) ?_;rw[Array.setIfInBounds_comm _ _ (Ne.symm hji),Act.put_comm a v u h2]at hk';exact hk'
   rw[wanted_put oj a oi.dst v h1]at hX;split at hX
   .rename_i hw
    rw[if_pos hw];split at hX
    .rename_i hqj
     rw[if_pos hqj];obtain⟨u,hu,hk'⟩:=hX;exact⟨u,hu.same esame.symm,go u H (.inl fun _ _ h=>h) hk'⟩
    .rename_i hqj
     rw[if_neg hqj];split at hX
     .rename_i hm
      rw[if_pos hm];obtain⟨ob,g,hmk,hk'⟩:=hX;exact⟨ob,g,hmk.same esame.symm,fun b hb=>go _ _ (.inl (KU hb)) (hk' b hb)⟩
     .rename_i hm
      rw[if_neg hm];have hfi:lN oi=true:=by
       simp only[Bool.or_eq_true]at hcl hqj;rcases hcl with((h|h)|h)|h
       .exact h
       .exact absurd (.inl h) hqj
       .exact absurd (.inr h) hqj
       .exact absurd h hm
      intro w hA;have hw':=hX w hA;unfold Oper.wp at hw'⊢;rw[esame]at hw';have keepD:∀(u:Value) (d:Deferred) (H':Hp),Yv P ops H' oi (({ a with defers:=d::a.defers}:Act).put oj.dst u) v:=fun u d H'=>by
       have:=hy.same (H':=H') (a':=({ a with defers:=d::a.defers}:Act).put oj.dst u) (.inr hfi)
        ((execOp_put oi (fun cs b=>hsel i oi cs b hi) _ oj.dst u h3).trans rfl) ((wanted_put oi _ oj.dst u h3).trans rfl)
       exact this
      generalize(execOp a.eval oj).run P w=r at*;cases r with
      |ok nx w'=>
       cases nx<;>simp only[Oper.upon]at hw'⊢
       case value u=>obtain⟨H',hA',hk'⟩:=hw';exact⟨H',hA',go u H' (.inr hfi) hk'⟩
       case skip=>obtain⟨H',hA',hk'⟩:=hw';exact⟨H',hA',go undef H' (.inr hfi) hk'⟩
       case defer d=>
        obtain⟨H',hA',hk'⟩:=hw';refine⟨H',hA',?_⟩;refine ih _ _ _ (hc.step hj) hfree' (ready_mono hr (Ne.symm hji)) (keepD undef d H') ?_;rw[Array.setIfInBounds_comm _ _ (Ne.symm hji)]at hk';rw[<- Act.put_comm _ v undef h2,<-Act.put_defers];exact hk'
       case enter f args=>
        refine Calls.mono hw' fun e w'' he=>?_
        cases e with
        |returned u=>obtain⟨H',hA',hk'⟩:=he;exact⟨H',hA',go u H' (.inr hfi) hk'⟩
        |panicked c=>exact he
        |outgrown=>exact he
       case row row args=>exact Rows.mono hw' fun u w'' he=>by obtain⟨H',hA',hk'⟩:=he;exact⟨H',hA',go u H' (.inr hfi) hk'⟩
      |halt x w'=>
       cases x<;>simp only[Oper.upon]at hw'⊢ <;>exact hw'
   .rename_i hw
    rw[if_neg hw];exact go undef H (.inl fun _ _ h=>h) hX
end
theorem Hj {ops:Array Oper}{tab qs:List Nat}{listed:Array Bool}{i:Nat}{oi:Oper}(ht:zD ops tab=true)(hi:ops[i]? =some oi)(h:KY ops tab qs listed i=true):
  (lN oi||qs.contains i)=true/\∀ j oj,ops[j]? =some oj->j≠i->listed.getD j true=false->Ih ops i j\/(oi.apart ops oj=true/\(lN oi||lN oj||qs.contains j||vZ oj)=true):=by
 unfold KY at h;rw[hi]at h;simp only[Bool.and_eq_true]at h;refine⟨h.1,fun j oj hj hji hun=>?_⟩;have h1:=List.all_eq_true.1 h.2 j (List.mem_range.2 (Array.getElem?_eq_some_iff.1 hj).1);rw[hj]at h1;simp only[Bool.or_eq_true,beq_iff_eq,hji,hun,Bool.false_eq_true,false_or,Bool.and_eq_true]at h1;simp only[Bool.or_eq_true];exact h1.imp (yP ht (j+1) j (by omega) (Array.getElem?_eq_some_iff.1 hj).1) id
theorem Fx {P:Program}{n:Nat}{o:Oper}{E:Env}{H:Hp}{K:Value->Prop}{a:Act}(h:AN P o E H K)(ha:da E n a):∃ v,Qt P H false o a v/\K v:=by
 unfold AN at h;cases hk:known E o with
 |false=>rw[hk]at h;exact h.elim
 |true=>
 rw[hk]at h;simp only at h;have hopV:(∀ cs b,o.op≠ .select cs b)->tg P o E.at H K->∃ v,Qt P H false o a v/\K v:=by
  intro hs h;obtain⟨v,hp,hr⟩:=qQ h;refine⟨v,fun w hw=>?_,hp⟩;unfold Oper.quietAt;rw[gh hk ha hs,hr w hw];exact⟨rfl,rfl⟩
 split at h
 .rename_i c hop
  have hs:∀ cs b,o.op≠ .select cs b:=fun cs b e=>by rw[hop]at e;cases e
  split at h
  .rename_i f hc
   split at h
   .rename_i g first cap hf
    rcases aq.out h with⟨hg,h⟩|⟨_,h⟩
    .obtain⟨v,hv,hc'⟩:=h;refine⟨v,fun w hw=>?_,hv.out⟩;unfold Oper.quietAt;rw[gh hk ha hs,pc hop hc hf hg];refine⟨rfl,(hc' w hw).mono fun e w' hh=>?_⟩;obtain⟨v',H',rfl,⟨rfl,hle⟩,hA'⟩:=hh;exact⟨rfl,hA'.weaken hle⟩
    .exact h.elim
   .exact h.elim
  .exact hopV hs h
 .exact h.elim
 .rename_i hns
  exact hopV (fun cs b e=>hns _ _ e) h
theorem FA {P:Program}{n:Nat}{o:Oper}{E:Env}{K:Value->Prop}{a:Act}(hs:∀ cs b,o.op≠ .select cs b)(hk:known E o=true)(h:tg P o E.at BZ K)(ha:da E n a):∃ v,Qt P BZ true o a v/\K v:=by
 obtain⟨v,hp,hr⟩:=qQ h;refine⟨v,fun w=>?_,hp⟩;rw[gh hk ha hs];exact hr w (BZ.fits w)
theorem KZ {P:Program}{n:Nat}{o:Oper}{E:Env}{D:List Deferred}{H:Hp}{K:de}{a:Act}(hm:vZ o=true)(h:Cm P n o E D H K)(ha:da E n a):
  ∃(ob:AO) (g:Nat->Value),Mk P o a ob g/\∀ b,H b=none->fZ n o.dst (g b) E fun E'=>K E' D (H.set b ob):=by
 unfold vZ at hm;split at hm
 .rename_i t len parts hop
  have hs':∀ cs b,o.op≠ .select cs b:=fun cs b e=>by rw[hop]at e;cases e
  unfold Cm at h;cases hk:known E o with
  |false=>rw[hk]at h;exact h.elim
  |true=>
  rw[hk]at h;have hV:Ce o=false:=by unfold Ce;rw[hop]
  rw[hV]at h;simp only[hop]at h;split at h
  .rename_i e hu
   replace h:=h.out
   split at h
   .rename_i xs hx
    split at h
    .rename_i i hi
     refine⟨.row xs e (len*i.size),fun b=>.slice (Oo b) len len,fun w=>?_,fun b hb=>h b hb⟩;have hx':qh P e len (parts.map fun(j,x)=>(j,E.at x)).toList=some xs:=by rw[<- hx];simp
     obtain⟨hr,hxl⟩:=Ch (w:=w) hu hi hx';have hrow:(AO.row xs e (len*i.size)).holds (.cells xs.toArray e):=⟨[],0,0,by simp,by simpa using hxl,.inl rfl⟩;refine⟨_,?_,hrow⟩;rw[gh hk ha hs'];simp only[execOp,hop,Sem.run_bind,hr];rfl
    .exact h.elim
   .exact h.elim
  .exact h.elim
 .cases hm
theorem vJ {P:Program}{n:Nat}{ops:Array Oper}{tab qs:List Nat}{K:de}{H0:Hp}{w0:World}(hsel:Region.noSelect ops=true)(ht:zD ops tab=true):
  ∀(f:Nat) (listed:Array Bool) (a:Act) (E:Env) (D:List Deferred) (H:Hp),mV ops listed->nC P n ops tab qs K f listed E D H->da E n a->a.defers=D->
   nY P ops qs (fun a H=>∃ E D,K E D H/\da E n a/\a.defers=D) H0 w0 f listed a H
 |0,listed,a,E,D,H,_,h,ha,hd=>by
  unfold nC at h;split at h
  .rename_i hr
   exact⟨hr,E,D,h,ha,hd⟩
  .exact h.elim
 |f+1,listed,a,E,D,H,hc,h,ha,hd=>by
  have nos:=Region.noSelect_spec hsel;have hdp:∀(o:Oper) (v:Value),(a.put o.dst v).defers=D:=fun o v=>by cases o.dst<;>exact hd
  unfold nC at h;split at h
  .rename_i i hpi
   unfold IG at hpi;have hmem:=List.mem_of_find?_eq_some hpi;have hprop:=List.find?_some hpi;split at h
   .rename_i o ho
    obtain⟨hq,hfree⟩:=Hj ht ho hprop;have fin:∀(v:Value) (E':Env),Yv P ops H o a v->(fZ n o.dst v E' fun E=>nC P n ops tab qs K f (listed.setIfInBounds i true) E D H)->da E' n a->nY P ops qs (fun a H=>∃ E D,K E D H/\da E n a/\a.defers=D) H0 w0 (f+1) listed a H:=fun v E' hy hput ha'=>by
     obtain⟨E2,hk2,ha2⟩:=hput.sound ha';exact Gh ho hq nos f listed a H hc hfree hmem hy (vJ hsel ht f _ _ E2 D H (hc.step hmem) hk2 ha2 (hdp o v))
    split at h
    .rename_i hF
     unfold zk at h;rcases oe h ha with⟨hw,E',h',ha'⟩|⟨hw,E',h',ha'⟩
     .cases hk:known E' o with
      |false=>rw[hk]at h';exact h'.elim
      |true=>
       rw[hk]at h';obtain⟨v,hv,hp⟩:=FA (nos i o · · ho) hk h' ha';refine fin v E' (.inl ⟨hw,?_⟩) hp ha';rw[hF];exact hv
     .exact fin undef E' (.inr ⟨hw,rfl⟩) h' ha'
    .rename_i hF
     rcases oe h ha with⟨hw,E',h',ha'⟩|⟨hw,E',h',ha'⟩
     .obtain⟨v,hv,hp⟩:=Fx h' ha';refine fin v E' (.inl ⟨hw,?_⟩) hp ha';rw[hF];exact hv
     .exact fin undef E' (.inr ⟨hw,rfl⟩) h' ha'
   .exact h.elim
  .split at h
   .rename_i hr
    exact⟨fun _=>⟨E,D,h,ha,hd⟩,fun j hj=>by rw[hr]at hj;simp at hj⟩
   .rename_i i r hr
    refine⟨fun h2=>(by rw[hr]at h2;cases h2),fun j hj o ho=>?_⟩;have hj':=hj;rw[hr]at hj';have hX:=h.out j hj';rw[ho]at hX;simp only at hX;have next:∀(v:Value) (E':Env) (H':Hp),(fZ n o.dst v E' fun E=>nC P n ops tab qs K f (listed.setIfInBounds j true) E D H')->da E' n a->nY P ops qs (fun a H=>∃ E D,K E D H/\da E n a/\a.defers=D) H0 w0 f (listed.setIfInBounds j true) (a.put o.dst v) H':=fun v E' H' hput ha'=>by
     obtain⟨E2,hk2,ha2⟩:=hput.sound ha';exact vJ hsel ht f _ _ E2 D H' (hc.step hj) hk2 ha2 (hdp o v)
    split at hX
    .rename_i hF
     unfold zk at hX;rcases oe hX ha with⟨hw,E',h',ha'⟩|⟨hw,E',h',ha'⟩
     .rw[if_pos hw,if_pos (by rw[hF];rfl)];cases hk:known E' o with
      |false=>rw[hk]at h';exact h'.elim
      |true=>
       rw[hk]at h';obtain⟨v,hv,hp⟩:=FA (nos j o · · ho) hk h' ha';refine⟨v,?_,next v E' H hp ha'⟩;rw[hF];exact hv
     .rw[if_neg (by rw[hw];exact Bool.false_ne_true)];exact next undef E' H h' ha'
    .rename_i hF
     rcases oe hX ha with⟨hw,E',h',ha'⟩|⟨hw,E',h',ha'⟩
     .rw[if_pos hw];split at h'
      .rename_i hqj
       rw[if_pos (by rw[hqj,Bool.or_true])];obtain⟨v,hv,hp⟩:=Fx h' ha';refine⟨v,?_,next v E' H hp ha'⟩;rw[hF];exact hv
      .rename_i hqj
       rw[if_neg (by rw[hF,hqj];exact Bool.false_ne_true)];by_cases hm:vZ o=true
       .rw[if_pos hm];obtain⟨ob,g,hmk,hp⟩:=KZ hm h' ha';exact⟨ob,g,hmk,fun b hb=>next _ E' _ (hp b hb) ha'⟩
       .rw[if_neg hm];intro w hA;have nx:∀ a' w',Holds H0 w0 n (fun E D H=>nC P n ops tab qs K f (listed.setIfInBounds j true) E D H) a' w'->∃ H',At H0 w0 H' w'/\nY P ops qs (fun a H=>∃ E D,K E D H/\da E n a/\a.defers=D) H0 w0 f (listed.setIfInBounds j true) a' H':=
         fun a' w' ⟨E2,D2,H2,hk2,ha2,hd2,hA2⟩=>⟨H2,hA2,vJ hsel ht f _ _ E2 D2 H2 (hc.step hj) hk2 ha2 hd2⟩
        exact yD h' ha' hd hA nx
     .rw[if_neg (by rw[hw];exact Bool.false_ne_true)];exact next undef E' H h' ha'
def jt :Code->Option Nat
 | .region id _ _=>some id
 | .seq a _=>jt a
 | .block _ c=>jt c
 |_=>none
def lt :Code->Option Nat
 | .region id _ _=>some id
 | .seq a _=>lt a
 | .block _ c=>lt c
 | .loop c=>lt c
 |_=>none
def fE.seq (M:de)(Q:fE):fE
 | .normal,E,D,H=>M E D H
 |e,E,D,H=>Q e E D H
def fE.B8 (id:Nat)(Q:fE):fE
 | .exit id',E,D,H=>match Nat.beq id' id with|true=>Q .normal E D H|false=>Q (.exit id') E D H
 |e,E,D,H=>Q e E D H
structure aI where
 join:Nat->Option de
 loop:Nat->Option de
 tail:Nat->Option (List Nat×List Nat×Nat)
def aI.none (f:Nat->Option (List Nat×List Nat×Nat)):aI:=⟨fun _=>.none,fun _=>.none,f⟩
def drawn (P:Program)(n:Nat)(ops:Array Oper)(t:Option (List Nat×List Nat×Nat))(K:de):de:=fun E D H=>
 match t with
 |none=>aq (Region.lexB .any ops) (AQ P n ops H (fun E=>K E D H) ops.toList E) False
 |some (qs,tab,0)=>aq (Region.noSelect ops&&zD ops tab) (nC P n ops tab qs K ops.size (Array.replicate ops.size false) E D H) False
 |some (pre,head,m+1)=>aq (DZ ops pre head (m+1)) (preE n ops pre E fun E=>pickO ops head fun l=>AQ P n ops H (fun E=>AP P n ops K (ops.toList.drop (m+1)) E D H) l E) False
where
 preE (n:Nat) (ops:Array Oper):List Nat->Env->(Env->Prop)->Prop
  | [],E,K=>K E
  |i::r,E,K=>match ops[i]? with
   |some o=>match o.op with
    | .move x=>match E.ev x with|some v=>fZ n o.dst v E fun E=>preE n ops r E K|none=>False
    |_=>False
   |none=>False
 pickO (ops:Array Oper):List Nat->(List Oper->Prop)->Prop
  | [],K=>K []
  |i::r,K=>match ops[i]? with|some o=>pickO ops r fun l=>K (o::l)|none=>False
theorem wv {n:Nat}{ops:Array Oper}{D:List Deferred}:∀(pre:List Nat) (E:Env) (K:Env->Prop) (a:Act),drawn.preE n ops pre E K->da E n a->a.defers=D->∃ E',K E'/\da E' n (nM ops pre a)/\(nM ops pre a).defers=D
 | [],E,K,a,h,ha,hd=>⟨E,h,ha,hd⟩
 |i::r,E,K,a,h,ha,hd=>by
  unfold drawn.preE at h;unfold nM;split at h
  .rename_i o ho
   split at h
   .rename_i x hop
    split at h
    .rename_i v hv
     obtain⟨E',hk,ha'⟩:=h.sound ha;simp only[ho,hop,ha.ev hv];exact wv r E' K _ hk ha' (by cases o.dst<;>exact hd)
    .exact h.elim
   .exact h.elim
  .exact h.elim
theorem uH {ops:Array Oper}:∀(is:List Nat) (K:List Oper->Prop),drawn.pickO ops is K->∃ l,is.map (fun i=>ops[i]?)=l.map some/\K l
 | [],K,h=>⟨[],rfl,h⟩
 |i::r,K,h=>by
  unfold drawn.pickO at h;split at h
  .rename_i o ho
   obtain⟨l,hl,hk⟩:=uH r _ h;exact⟨o::l,by simp[ho,hl],hk⟩
  .exact h.elim
def r9 (Λ:aI)(c:Code):Option de:=match jt c with|some i=>Λ.join i|none=>none
def u0 (Λ:aI)(c:Code):Option de:=match lt c with|some i=>Λ.loop i|none=>none
def hw (P:Program)(n:Nat)(Λ:aI):Code->fE->de
 | .skip,Q,E,D,H=>Q .normal E D H
 | .region id ops draw,Q,E,D,H=>match draw with
  |false=>AP P n ops (Q .normal) ops.toList E D H
  |true=>drawn P n ops (Λ.tail id) (Q .normal) E D H
 | .seq a b,Q,E,D,H=>hw P n Λ a (fE.seq (fun E D H=>match r9 Λ b with|some S=>S E D H|none=>hw P n Λ b Q E D H) Q) E D H
 | .cond c x y,Q,E,D,H=>match E.ev c with|some (.bool b)=>aq b (hw P n Λ x Q E D H) (hw P n Λ y Q E D H)|_=>False
 | .block id c,Q,E,D,H=>hw P n Λ c (fE.B8 id Q) E D H
 | .loop c,_,E,D,H=>match u0 Λ c with|some S=>S E D H|none=>False
 | .exit id,Q,E,D,H=>Q (.exit id) E D H
 | .ret,Q,E,D,H=>Q .ret E D H
 |_,_,_,_,_=>False
def up (H0:Hp)(w0:World)(n:Nat)(Q:fE):Exit->Act->World->Prop:=fun e a w=>Holds H0 w0 n (Q e) a w
def Safe (P:Program)(n:Nat)(c:Code)(Q:fE)(E:Env)(D:List Deferred)(H:Hp):Prop:=
 ∀ H0 w0 a w,da E n a->a.defers=D->At H0 w0 H w->c.wp P (up H0 w0 n Q) a w
theorem Safe.weaken {P:Program}{n:Nat}{c:Code}{Q:fE}{E E':Env}{D:List Deferred}{H H':Hp}(h:Safe P n c Q E' D H')(hE:∀ t v,E'.get? t=some v->E.get? t=some v)(hH:H'.le H):Safe P n c Q E D H:=
 fun H0 w0 a w ha hd hA=>h H0 w0 a w (ha.weaken hE) hd (hA.weaken hH)
theorem Safe.mono {P:Program}{n:Nat}{c:Code}{Q Q':fE}{E:Env}{D:List Deferred}{H:Hp}(h:Safe P n c Q E D H)(hq:∀ e E D H,Q e E D H->Q' e E D H):Safe P n c Q' E D H:=
 fun H0 w0 a w ha hd hA=>wp_mono (h H0 w0 a w ha hd hA) fun e _ _ ⟨E,D,H,h1,h2⟩=>⟨E,D,H,hq e E D H h1,h2⟩
def rG (P:Program)(n:Nat)(Λ:aI):Code->fE->Prop
 | .seq a b,Q=>rG P n Λ a (fE.seq (fun E D H=>match r9 Λ b with|some S=>S E D H|none=>hw P n Λ b Q E D H) Q)/\
   (match r9 Λ b with|some S=>∀ E D H,S E D H→Safe P n b Q E D H|none=>rG P n Λ b Q)
 | .cond _ x y,Q=>rG P n Λ x Q/\rG P n Λ y Q
 | .block id c,Q=>rG P n Λ c (fE.B8 id Q)
 | .loop c,Q=>match u0 Λ c with|some S=>∀ E D H,S E D H->Safe P n (.loop c) Q E D H|none=>True
 |_,_=>True
theorem om (P:Program)(n:Nat)(f:Nat->Option (List Nat×List Nat×Nat)):∀(c:Code) (Q:fE),rG P n (aI.none f) c Q
 | .seq a b,Q=>by
  have h:r9 (aI.none f) b=none:=by unfold r9;split<;>rfl
  unfold rG;rw[h];exact⟨om P n f a _,om P n f b Q⟩
 | .cond _ x y,Q=>⟨om P n f x Q,om P n f y Q⟩
 | .block _ c,_=>om P n f c _
 | .loop c,Q=>by
  have h:u0 (aI.none f) c=none:=by unfold u0;split<;>rfl
  unfold rG;rw[h];trivial
 | .skip,_=>trivial
 | .region ..,_=>trivial
 | .rangeFunc ..,_=>trivial
 | .exit _,_=>trivial
 | .scope _,_=>trivial
 | .label _,_=>trivial
 | .goto _,_=>trivial
 | .ret,_=>trivial
 | .refuse _,_=>trivial
theorem lC {P:Program}{n:Nat}{Λ:aI}(hm:P.follows .mixedOrders=true):∀(c:Code) (Q:fE) (E:Env) (D:List Deferred) (H:Hp),hw P n Λ c Q E D H->rG P n Λ c Q->Safe P n c Q E D H
 | .skip,Q,E,D,H,h,_=>fun H0 w0 a w ha hd hA=>wp_skip ⟨E,D,H,h,ha,hd,hA⟩
 | .region id ops draw,Q,E,D,H,h,_=>fun H0 w0 a w ha hd hA=>by
  cases draw with
  |false=>exact wp_region_list (pF (fun a w hh=>hh) ops.toList a w ⟨E,D,H,h,ha,hd,hA⟩)
  |true=>
   change drawn P n ops (Λ.tail id) (Q .normal) E D H at h;unfold drawn at h;split at h
   .rcases aq.out h with⟨hB,h⟩|⟨_,h⟩
    .exact wp_region_quiet (C:=fun w=>At H0 w0 H w) hm hB hA.drew (pG (Q:=fun a'=>∀ w',At H0 w0 H w'->up H0 w0 n Q .normal a' w') (fun a' E' hk ha' hd' w' hw'=>⟨E',D,H,hk,ha',hd',hw'⟩) ops.toList a E h ha hd)
    .exact h.elim
   .rcases aq.out h with⟨hBB,h⟩|⟨_,h⟩
    .simp only[Bool.and_eq_true]at hBB;obtain⟨hB,hTb⟩:=hBB;exact wp_region_any (Q:=up H0 w0 n Q) hm (nT (fun a H w ⟨E,D,hk,ha,hd⟩ hA=>⟨E,D,H,hk,ha,hd,hA⟩) ops.size _ a H _ (vJ hB hTb ops.size _ a E D H (mV.start ops) h ha hd) hA.drew)
    .exact h.elim
   .rename_i pre head m _
    rcases aq.out h with⟨hB,h⟩|⟨_,h⟩
    .obtain⟨E1,h,ha1,hd1⟩:=wv pre E _ a h ha hd;obtain⟨l,hl,h⟩:=uH head _ h;refine wp_mono (sC (Q:=fun e a w=>e= .normal/\up H0 w0 n Q .normal a w) (C:=fun w=>At H0 w0 H w) pre head l (m+1) (fun c a w h=>by cases h.1) hm hB hA.drew hl
      (pG (Q:=fun a'=>∀ w',At H0 w0 H w'->wpList P ops (fun e a w=>e= .normal/\up H0 w0 n Q .normal a w) (ops.toList.drop (m+1)) a' w') (fun a' E' hk ha' hd' w' hw'=>pF (fun a w hh=>⟨rfl,hh⟩) _ a' w' ⟨E',D,H,hk,ha',hd',hw'⟩) _ _ E1 h ha1 hd1)) ?_
     rintro e a w ⟨rfl,hh⟩;exact hh
    .exact h.elim
 | .seq x y,Q,E,D,H,h,ho=>fun H0 w0 a w ha hd hA=>by
  obtain⟨ho1,ho2⟩:=ho;refine wp_seq (wp_mono (lC hm x _ E D H h ho1 H0 w0 a w ha hd hA) ?_);intro e a' w' hh;cases e with
  |normal=>
   obtain⟨E',D',H',hq,ha',hd',hA'⟩:=hh;show(y.wp P (up H0 w0 n Q)) a' w'
   simp only[fE.seq]at hq;cases hc:r9 Λ y with
   |none=>
    rw[hc]at hq ho2;exact lC hm y Q E' D' H' hq ho2 H0 w0 a' w' ha' hd' hA'
   |some S=>
    rw[hc]at hq ho2;exact ho2 E' D' H' hq H0 w0 a' w' ha' hd' hA'
  |exit id=>exact hh
  |goto l=>exact hh
  |ret=>exact hh
  |panic ch=>exact hh
  |outgrown=>exact hh
 | .cond c x y,Q,E,D,H,h,ho=>fun H0 w0 a w ha hd hA=>by
  obtain⟨ho1,ho2⟩:=ho;unfold hw at h;split at h
  .rename_i b hb
   refine wp_cond_split (ha.ev hb) (fun ht=>?_) (fun ht=>?_)
   .subst ht;exact lC hm x Q E D H h ho1 H0 w0 a w ha hd hA
   .subst ht;exact lC hm y Q E D H h ho2 H0 w0 a w ha hd hA
  .exact h.elim
 | .block id c,Q,E,D,H,h,ho=>fun H0 w0 a w ha hd hA=>by
  refine wp_block (wp_mono (lC hm c _ E D H h ho H0 w0 a w ha hd hA) ?_);intro e a' w' hh;cases e with
  |exit id'=>
   obtain⟨E',D',H',hq,hr⟩:=hh;simp only[fE.B8]at hq;show(if id'=id then _ else _:Prop)
   by_cases e:id'=id
   .rw[if_pos e];subst e;rw[Nat.beq_refl]at hq;exact⟨E',D',H',hq,hr⟩
   .rw[if_neg e];have:Nat.beq id' id=false:=by cases hb:Nat.beq id' id with|false=>rfl|true=>exact(e (Nat.eq_of_beq_eq_true hb)).elim
    rw[this]at hq;exact⟨E',D',H',hq,hr⟩
  |normal=>exact hh
  |goto l=>exact hh
  |ret=>exact hh
  |panic ch=>exact hh
  |outgrown=>exact hh
 | .loop c,Q,E,D,H,h,ho=>by
  unfold hw at h;unfold rG at ho;cases hc:u0 Λ c with
  |none=>rw[hc]at h;exact h.elim
  |some S=>rw[hc]at h ho;exact ho E D H h
 | .exit id,Q,E,D,H,h,_=>fun H0 w0 a w ha hd hA=>wp_exit ⟨E,D,H,h,ha,hd,hA⟩
 | .ret,Q,E,D,H,h,_=>fun H0 w0 a w ha hd hA=>wp_ret ⟨E,D,H,h,ha,hd,hA⟩
 | .rangeFunc ..,_,_,_,_,h,_=>h.elim
 | .scope _,_,_,_,_,h,_=>h.elim
 | .label _,_,_,_,_,h,_=>h.elim
 | .goto _,_,_,_,_,h,_=>h.elim
 | .refuse _,_,_,_,_,h,_=>h.elim
theorem Safe.loop {P:Program}{n:Nat}{c:Code}{Q:fE}(L:Nat->de)(hs:∀ k E D H,L k E D H->Safe P n c (fE.seq (fun E D H=>∃ j,j<k/\L j E D H) Q) E D H):∀ k E D H,L k E D H->Safe P n (.loop c) Q E D H:=by
 intro k E D H h H0 w0 a w ha hd hA;refine wp_loop_ghost (fun k a w=>Holds H0 w0 n (L k) a w) k ⟨E,D,H,h,ha,hd,hA⟩ ?_;intro k a w ⟨E,D,H,h,ha,hd,hA⟩;refine wp_mono (hs k E D H h H0 w0 a w ha hd hA) ?_;intro e a' w' hh;cases e with
 |normal=>
  obtain⟨E',D',H',⟨j,hj,hL⟩,hr⟩:=hh;exact⟨j,hj,E',D',H',hL,hr⟩
 |exit id=>exact hh
 |goto l=>exact hh
 |ret=>exact hh
 |panic ch=>exact hh
 |outgrown=>exact hh
theorem Safe.cJ {P:Program}{n:Nat}{c:Code}{Q:fE}(L:Nat->de)(h0:∀ E D H,¬L 0 E D H)(hs:∀ k E D H,L (k+1) E D H->Safe P n c (fE.seq (L k) Q) E D H)(E:Env)(D:List Deferred)(H:Hp)
  (h:∃ k,L k E D H):Safe P n (.loop c) Q E D H:=by
 obtain⟨k,h⟩:=h;refine Safe.loop L (fun k E D H hL=>?_) k E D H h;cases k with
 |zero=>exact(h0 E D H hL).elim
 |succ k=>
  refine(hs k E D H hL).mono fun e E D H hq=>?_
  cases e<;>first|exact hq|exact⟨k,Nat.lt_succ_self k,hq⟩
def KQ (P:Program)(n:Nat)(Λ:aI)(c:Code)(Q:fE):de:=hw P n Λ c Q
def DG (v:Option Value)(K:Value→Prop):Prop:=match v with|some v=>K v|none=>False
theorem DG.out {v:Option Value}{K:Value->Prop}(h:DG v K):∃ u,v=some u/\K u:=by
 cases v with
 |none=>exact h.elim
 |some u=>exact⟨u,rfl,h⟩
theorem DB.out {v:Value}{K:Bool->Prop}(h:DB v K):∃ n,v= .bool n/\K n:=by
 cases v<;>first|exact h.elim|exact⟨_,rfl,h⟩
theorem DS.out {v:Value}{K:ByteArray->Prop}(h:DS v K):∃ n,v= .string n/\K n:=by
 cases v<;>first|exact h.elim|exact⟨_,rfl,h⟩
theorem DP.out {v:Value}{K:OA->Prop}(h:DP v K):∃ n,v= .pointer n/\K n:=by
 cases v<;>first|exact h.elim|exact⟨_,rfl,h⟩
theorem aE.out {v:Value}{K:OA->Nat->Nat->Prop}(h:aE v K):∃ a n c,v= .slice a n c/\K a n c:=by
 cases v<;>first|exact h.elim|exact⟨_,_,_,rfl,h⟩
theorem DM.out {v:Value}{K:Option Nat->Prop}(h:DM v K):∃ n,v= .map n/\K n:=by
 cases v<;>first|exact h.elim|exact⟨_,rfl,h⟩
def ag (E' E:Env):Prop:=∀ t v,E'.get? t=some v->E.get? t=some v
theorem ag.nil (E:Env):ag [] E:=fun _ _ h=>by cases h
theorem ag.cons {E' E:Env}{t:Nat}{v:Value}(h:E.get? t=some v)(k:ag E' E):ag ((t,v)::E') E:=fun t' v' ht=>by
 unfold Env.get? at ht;split at ht
 .rename_i hb
  cases ht;obtain rfl:=Nat.eq_of_beq_eq_true hb;exact h
 .exact k _ _ ht
def ax (D:List Deferred)(K:Prop):Prop:=match D with| []=>K|_=>False
theorem ax.out {D:List Deferred}{K:Prop}(h:ax D K):D=[]/\K:=by
 cases D with
 |nil=>exact⟨rfl,h⟩
 |cons=>exact h.elim
def gz (g:FuncId)(D:List Deferred)(K:List Value->List Value->List Deferred->Prop):Prop:=
 match D with
 |d::r=>match d.target with
  | .fn (.func g') cap=>(match Nat.beq g' g with|true=>K cap.toList d.args.toList r|false=>False)
  |_=>False
 | []=>False
theorem gz.out {g:FuncId}{D:List Deferred}{K:List Value->List Value->List Deferred->Prop}(h:gz g D K):∃ cl al r,D={ target:=.fn (.func g) cl.toArray,args:=al.toArray}::r/\K cl al r:=by
 unfold gz at h;split at h
 .rename_i d r
  split at h
  .rename_i g' cap hd
   split at h
   .rename_i hb
    obtain rfl:=Nat.eq_of_beq_eq_true hb;refine⟨cap.toList,d.args.toList,r,?_,h⟩;rw[Array.toArray_toList,Array.toArray_toList,<-hd]
   .exact h.elim
  .exact h.elim
 .exact h.elim
def iw (v:Value)(K:FuncId→Array Value→Array Value→Prop):Prop:=match v with| .func (.func g) F C=>K g F C|_=>False
theorem iw.out {v:Value}{K:FuncId->Array Value->Array Value->Prop}(h:iw v K):∃ g F C,v= .func (.func g) F C/\K g F C:=by
 unfold iw at h;split at h
 .exact⟨_,_,_,rfl,h⟩
 .exact h.elim
theorem az.out {l:List Value}{K:Value->List Value->Prop}(h:az l K):∃ v r,l=v::r/\K v r:=by
 cases l with
 |nil=>exact h.elim
 |cons v r=>exact⟨v,r,rfl,h⟩
theorem bF.out {l:List Value}{K:Prop}(h:bF l K):l=[]/\K:=by
 cases l with
 |nil=>exact⟨rfl,h⟩
 |cons=>exact h.elim
section
variable {P : Program} {n : Nat} {Λ : aI} {Q : fE}
end
theorem Hp.le_refl (H:Hp):H.le H:=fun _ _ h=>h
def dv (P:Program)(f:FuncId)(args:Array Value)(H:Hp)(R:VK):Prop:=
 ∀ w,Fits H w->CallsD P f args .returning w fun e u' w'=>u'= .returning/\∃ v H',e= .returned v/\R v H'/\At H w H' w'
def Bu :List Value->Value
 | [v]=>v
 |vs=>.tuple vs.toArray
def vk (P:Program)(E:Env)(H:Hp):List ResultVar->(List Value->Prop)->Prop
 | [],K=>K []
 | .tmp t::r,K=>match E.get? t with|some v=>vk P E H r fun vs=>K (v::vs)|none=>False
 | .cell a t::r,K=>match E.get? a with
  |some (.pointer (some ad))=>Et P t ad H fun v=>vk P E H r fun vs=>K (v::vs)
  |_=>False
def leave (P:Program)(fn:Func)(E:Env)(K:VK):List Deferred->Hp->Prop
 | [],H=>vk P E H fn.results.toList fun vs=>K (Bu vs) H
 |d::ds,H=>match d.target with
  | .fn (.func g) cap=>aq (mF P g) (dv P g (d.args++cap) H fun _ H'=>leave P fn E K ds H') False
  |_=>False
def QF (P:Program)(fn:Func)(K:VK):fE
 | .normal,E,D,H=>leave P fn E K D H
 | .ret,E,D,H=>leave P fn E K D H
 |_,_,_,_=>False
def Kr (P:Program)(fn:Func)(K:VK):fE
 | .normal,E,D,H=>match D with| []=>leave P fn E K [] H|_::_=>False
 | .ret,E,D,H=>match D with| []=>leave P fn E K [] H|_::_=>False
 |_,_,_,_=>False
def E0 :Nat->List Value->Env
 |_,[]=>[]
 |i,v::l=>(i,v)::E0 (i+1) l
theorem vl {P:Program}{E:Env}{n:Nat}{a:Act}{H:Hp}{w:World}(ha:da E n a)(hw:Fits H w)(g:ResultVar->Sem Value)(g1:∀ t,g (.tmp t)=pure (a.tmps.getD t undef))
  (g2:∀ x t ad,a.tmps.getD x undef= .pointer (some ad)->g (.cell x t)=loadVar t ad):∀(rs:List ResultVar) (K:List Value->Prop),vk P E H rs K->
  ∃ vs,K vs/\vs.length=rs.length/\(rs.mapM g:Sem (List Value)).run P w= .ok vs w
 | [],K,h=>⟨[],h,rfl,by simp⟩
 | .tmp t::r,K,h=>by
  unfold vk at h;split at h
  .rename_i v hv
   obtain⟨vs,hk,hl,hr⟩:=vl ha hw g g1 g2 r _ h;refine⟨v::vs,hk,by simp[hl],?_⟩;simp only[List.mapM_cons,g1,pure_bind,ha.get hv,Sem.run_bind,hr,Result.andThen_ok,Sem.run_pure]
  .exact h.elim
 | .cell x t::r,K,h=>by
  unfold vk at h;split at h
  .rename_i ad hx
   obtain⟨v,hk,hr⟩:=h.sound;obtain⟨vs,hk,hl,hr'⟩:=vl ha hw g g1 g2 r _ hk;refine⟨v::vs,hk,by simp[hl],?_⟩;simp only[List.mapM_cons,g2 x t ad (ha.get hx),Sem.run_bind,hr w hw,Result.andThen_ok,hr',Sem.run_pure]
  .exact h.elim
theorem uM {P:Program}{fn:Func}{E:Env}{n:Nat}{a:Act}{H:Hp}{w:World}{K:Value->Prop}(ha:da E n a)(hw:Fits H w)(h:vk P E H fn.results.toList fun vs=>K (Bu vs)):
  ∃ v,K v/\(results fn a.tmps).run P w= .ok v w:=by
 have key:∀ g:ResultVar->Sem Value,(∀ t,g (.tmp t)=pure (a.tmps.getD t undef))->(∀ x t ad,a.tmps.getD x undef= .pointer (some ad)->g (.cell x t)=loadVar t ad)->
   ∃ v,K v/\(do let vs<-List.toArray <$> (List.mapM g fn.results.toList);pure (if h:vs.size=1 then vs[0]else .tuple vs):Sem Value).run P w= .ok v w:=by
  intro g g1 g2;obtain⟨vs,hk,hl,hr⟩:=vl ha hw g g1 g2 _ _ h;refine⟨_,hk,?_⟩;rw[Sem.run_bind,Sem.run_map,hr];simp only[Result.andThen_ok,Sem.run_pure];congr 1
  match vs,hl with
  | [],_=>simp[Bu]
  | [v],_=>simp[Bu]
  |v::u::r,_=>simp[Bu]
 unfold results;rw[Array.mapM_eq_mapM_toList];exact key _ (fun _=>rfl) (fun x t ad h=>by simp only[h,asAddr,pure_bind])
theorem uG {P:Program}{fn:Func}{E:Env}{n:Nat}{a:Act}{K:VK}{H0:Hp}{w0:World}(ha:da E n a):∀(D:List Deferred) (H:Hp) (w:World),leave P fn E K D H->At H0 w0 H w->
  Leaves P fn a.tmps (fun e w'=>∃ v H',e= .returned v/\K v H'/\At H0 w0 H' w') D .returning w
 | [],H,w,h,hA=>by
  obtain⟨v,hk,hr⟩:=uM (K:=fun v=>K v H) ha hA.fits h;exact⟨v,hr,v,H,rfl,hk,hA⟩
 |d::ds,H,w,h,hA=>by
  unfold leave at h;split at h
  .rename_i g cap ht
   rcases aq.out h with⟨hg,h⟩|⟨_,h⟩
   .refine⟨by simp,.func g,cap,g,d.args++cap,ht,?_,?_⟩
    .rw[ht];simp only[invoke];exact sV hg _ w
    .intro c cs hc;obtain⟨e,u',w',fr,⟨hu,v,H',rfl,hl,hA'⟩,hr⟩:=h w hA.fits c cs hc;subst hu;exact⟨_,_,w',fr,uG ha ds H' w' hl (hA.trans hA'),hr⟩
   .exact h.elim
  .exact h.elim
theorem Ep :∀(l:List Value) (i t:Nat) (v:Value),(E0 i l).get? t=some v->i<=t/\l[t-i]? =some v
 | [],i,t,v,h=>by cases h
 |x::l,i,t,v,h=>by
  unfold E0 Env.get? at h;split at h
  .rename_i hb
   cases h;obtain rfl:=Nat.eq_of_beq_eq_true hb;simp
  .obtain⟨h1,h2⟩:=Ep l (i+1) t v h;refine⟨by omega,?_⟩;rw[show t-i=(t-(i+1))+1 from by omega];simpa using h2
theorem B7 {n:Nat}(args:Array Value)(h:args.size<=n):da (E0 0 args.toList) n { tmps:=args++Array.replicate (n-args.size) undef,defers:=[]}:=by
 refine⟨by simp;omega,fun t v ht=>?_⟩;obtain⟨_,h2⟩:=Ep _ _ _ _ ht;simp only[Nat.sub_zero,Array.getElem?_toList]at h2;have hlt:t<args.size:=(Array.getElem?_eq_some_iff.1 h2).1;rw[Array.getD_eq_getD_getElem?,Array.getElem?_append_left hlt,h2];rfl
theorem E8 {P:Program}{f:FuncId}{fn:Func}{c:Code}{args:Array Value}{H:Hp}{K:VK}(hf:P.funcs[f]? =some fn)(hb:fn.body=some c)(hs:args.size<=fn.ntmps)
  (h:Safe P fn.ntmps c (QF P fn K) (E0 0 args.toList) [] H):aa P f args H K:=by
 intro w hw;refine calls_of_wp_defers hf hb (wp_mono (h H w _ w (B7 args hs) rfl (At.refl hw)) ?_);intro e a w' hh;obtain⟨E,D,H',hq,ha,hd,hA⟩:=hh;cases e<;>first|exact hq.elim|(show Leaves _ _ _ _ _ _ _;rw[hd];exact uG ha D H' w' hq hA)
theorem Jt {P:Program}{f:FuncId}{fn:Func}{c:Code}{args:Array Value}{H:Hp}{K:VK}(hf:P.funcs[f]? =some fn)(hb:fn.body=some c)(hs:args.size<=fn.ntmps)
  (h:Safe P fn.ntmps c (Kr P fn K) (E0 0 args.toList) [] H):dv P f args H K:=by
 intro w hw c₀ cs hu;have:=callsD_of_wp (P:=P) (f:=f) (fn:=fn) (c:=c) (args:=args) (u:=.returning) (w:=w) (R:=fun e w'=>∃ v H',e= .returned v/\K v H'/\At H w H' w') hf hb (wp_mono (h H w _ w (B7 args hs) rfl (At.refl hw)) (by
  intro e a w' hh;obtain⟨E,D,H',hq,ha,hd,hA⟩:=hh;cases e<;>first|exact hq.elim|skip
  all_goals
   cases D with
   |cons _ _=>exact hq.elim
   |nil=>
   obtain⟨v,hk,hr⟩:=uM (K:=fun v=>K v H') ha hA.fits hq;exact⟨hd,v,hr,v,H',rfl,hk,hA⟩))
 exact this c₀ cs hu
def rF (P:Program)(n:Nat)(Λ:aI):Code->fE->List Prop
 | .seq a b,Q=>rF P n Λ a (fE.seq (fun E D H=>match r9 Λ b with|some S=>S E D H|none=>hw P n Λ b Q E D H) Q)++
   (match r9 Λ b with|some S=>[∀ E D H,S E D H→Safe P n b Q E D H]|none=>rF P n Λ b Q)
 | .cond _ x y,Q=>rF P n Λ x Q++rF P n Λ y Q
 | .block id c,Q=>rF P n Λ c (fE.B8 id Q)
 | .loop c,Q=>match u0 Λ c with|some S=>[∀ E D H,S E D H->Safe P n (.loop c) Q E D H]|none=>[]
 |_,_=>[]
def kQ :List Prop->Prop
 | []=>True
 |p::l=>p/\kQ l
theorem oN :kQ []:=trivial
theorem oC {p:Prop}{l:List Prop}(h:p)(k:kQ l):kQ (p::l):=⟨h,k⟩
theorem kQ.app :∀{a b:List Prop},kQ (a++b)->kQ a/\kQ b
 | [],_,h=>⟨trivial,h⟩
 |_::_,_,h=>⟨⟨h.1,(kQ.app h.2).1⟩,(kQ.app h.2).2⟩
theorem o6 {P:Program}{n:Nat}{Λ:aI}:∀(c:Code) (Q:fE),kQ (rF P n Λ c Q)->rG P n Λ c Q
 | .seq a b,Q,h=>by
  unfold rF at h;obtain⟨h1,h2⟩:=kQ.app h;unfold rG;refine⟨o6 a _ h1,?_⟩;cases hc:r9 Λ b with
  |none=>rw[hc]at h2;exact o6 b Q h2
  |some S=>rw[hc]at h2;exact h2.1
 | .cond _ x y,Q,h=>by
  obtain⟨h1,h2⟩:=kQ.app (show kQ (rF P n Λ x Q++rF P n Λ y Q)from h);exact⟨o6 x Q h1,o6 y Q h2⟩
 | .block id c,Q,h=>o6 c _ h
 | .loop c,Q,h=>by
  unfold rF at h;unfold rG;cases hc:u0 Λ c with
  |none=>trivial
  |some S=>rw[hc]at h;exact h.1
 | .skip,_,_=>trivial
 | .region ..,_,_=>trivial
 | .rangeFunc ..,_,_=>trivial
 | .exit _,_,_=>trivial
 | .scope _,_,_=>trivial
 | .label _,_,_=>trivial
 | .goto _,_,_=>trivial
 | .ret,_,_=>trivial
 | .refuse _,_,_=>trivial
section
variable {P : Program} {f : FuncId} {fn : Func} {c : Code} {args : Array Value} {H : Hp} {K : Value -> Hp -> Prop} {Λ : aI} {X : Prop}
theorem dV (hm:P.follows .mixedOrders=true)(hf:P.funcs[f]? =some fn)(hb:fn.body=some c)(hs:Nat.ble args.size fn.ntmps=true)(h:X)(o:kQ (rF P fn.ntmps Λ c (QF P fn K)))
  (e:X=hw P fn.ntmps Λ c (QF P fn K) (E0 0 args.toList) [] H:=by kernel_rfl):aa P f args H K:=
 E8 hf hb (Nat.le_of_ble_eq_true hs) (lC hm _ _ _ _ _ (Eq.mp e h) (o6 _ _ o))
theorem L7 (hm:P.follows .mixedOrders=true)(hf:P.funcs[f]? =some fn)(hb:fn.body=some c)(hs:Nat.ble args.size fn.ntmps=true)(h:X)(o:kQ (rF P fn.ntmps Λ c (Kr P fn K)))
  (e:X=hw P fn.ntmps Λ c (Kr P fn K) (E0 0 args.toList) [] H:=by kernel_rfl):dv P f args H K:=
 Jt hf hb (Nat.le_of_ble_eq_true hs) (lC hm _ _ _ _ _ (Eq.mp e h) (o6 _ _ o))
theorem nL (g:Nat->Option (List Nat×List Nat×Nat))(hm:P.follows .mixedOrders=true)(hf:P.funcs[f]? =some fn)(hb:fn.body=some c)(hs:Nat.ble args.size fn.ntmps=true)(h:X)
  (e:X=hw P fn.ntmps (aI.none g) c (QF P fn K) (E0 0 args.toList) [] H:=by kernel_rfl):aa P f args H K:=
 E8 hf hb (Nat.le_of_ble_eq_true hs) (lC hm _ _ _ _ _ (Eq.mp e h) (om _ _ _ _ _))
theorem bX (hm:P.follows .mixedOrders=true)(hf:P.funcs[f]? =some fn)(hb:fn.body=some c)(hs:Nat.ble args.size fn.ntmps=true)(h:X)
  (e:X=hw P fn.ntmps (aI.none fun _=>none) c (QF P fn K) (E0 0 args.toList) [] H:=by kernel_rfl):aa P f args H K:=
 nL _ hm hf hb hs h e
theorem cU {n:Nat}{Q:fE}{E E':Env}(hm:P.follows .mixedOrders=true)(D:List Deferred)(hE:ag E' E)(h:X)(o:kQ (rF P n Λ c Q))
  (e:X=hw P n Λ c Q E' D H:=by kernel_rfl):Safe P n c Q E D H:=
 (lC hm _ _ _ _ _ (Eq.mp e h) (o6 _ _ o)).weaken hE (Hp.le_refl _)
end
theorem GN {e:Option Value}{K:Addr->Prop}(h:DG e fun w=>DP w fun p=>NN p K):∃ a,e=some (.pointer (some a))/\K a:=by
 obtain⟨w,e1,g⟩:=DG.out h;obtain⟨p,rfl,g⟩:=DP.out g;obtain⟨a,rfl,g⟩:=NN.out g;exact⟨a,e1,g⟩
theorem GP {e:Option Value}{K:OA->Prop}(h:DG e fun w=>DP w K):∃ a,e=some (.pointer a)/\K a:=by
 obtain⟨w,e1,g⟩:=DG.out h;obtain⟨p,rfl,g⟩:=DP.out g;exact⟨p,e1,g⟩
theorem GI {e:Option Value}{k:IntKind}{K:Int->Prop}(h:DG e fun w=>DI k w K):∃ a,e=some (.int k a)/\K a:=by
 obtain⟨w,e1,g⟩:=DG.out h;obtain⟨p,rfl,g⟩:=DI.out g;exact⟨p,e1,Eq.mp (El k p K) g⟩
abbrev eN (E:Env)(i:Nat)(K:Addr->Prop):Prop:=DG (E.get? i) fun w=>DP w fun p=>NN p K
abbrev eP (E:Env)(i:Nat)(K:OA->Prop):Prop:=DG (E.get? i) fun w=>DP w K
abbrev eI (E:Env)(i:Nat)(k:IntKind)(K:Int->Prop):Prop:=DG (E.get? i) fun w=>DI k w K
end Go.Hw
namespace Go.Hw
open Go Go.RowKit
@[simp] theorem I4 (k : IntKind) (n : Int) (K : Int -> Prop) : DI k (.int k n) K = K n := El k n K
@[simp] theorem tP (b : Bool) (K : Bool -> Prop) : DB (.bool b) K = K b := Eq.trans rfl rfl
@[simp] theorem Em (b : ByteArray) (K : ByteArray -> Prop) : DS (.string b) K = K b := Eq.trans rfl rfl
@[simp] theorem CW (b : Option Addr) (K : Option Addr -> Prop) : DP (.pointer b) K = K b := Eq.trans rfl rfl
@[simp] theorem Eo (a : Option Addr) (n c : Nat) (K : Option Addr -> Nat -> Nat -> Prop) : aE (.slice a n c) K = K a n c := Eq.trans rfl rfl
@[simp] theorem Ki (r : Option Nat) (K : Option Nat -> Prop) : DM (.map r) K = K r := Eq.trans rfl rfl
@[simp] theorem Kh (cs : Array Value) (K : Array Value -> Prop) : DA (.agg cs) K = K cs := Eq.trans rfl rfl
@[simp] theorem CX (vs : Array Value) (K : List Value -> Prop) : eF (.tuple vs) K = K vs.toList := Eq.trans rfl rfl
@[simp] theorem CV (v : Value) (l : List Value) (K : Value -> List Value -> Prop) : az (v :: l) K = K v l := Eq.trans rfl rfl
@[simp] theorem GB (K : Prop) : bF [] K = K := Eq.trans rfl rfl
@[simp] theorem dz (a : Addr) (K : Addr -> Prop) : NN (some a) K = K a := Eq.trans rfl rfl
@[simp] theorem zE (X Y : Prop) : aq true X Y = X := Eq.trans rfl rfl
@[simp] theorem sK (X Y : Prop) : aq false X Y = Y := Eq.trans rfl rfl
theorem ic (p:Prop)[Decidable p](X Y:Prop):aq (decide p) X Y=if p then X else Y:=by
 by_cases h:p<;>simp[h]
theorem Kg (c:Bool)(X Y:Prop):aq c X Y=if c=true then X else Y:=by cases c<;>simp
@[simp] theorem Gv (c : Bool) (X : Prop) : aq c X X = X := by cases c <;> rfl
abbrev Eu (H:Hp)(a:Addr)(K:Bool->Prop):Prop:=Ld H a fun v=>DB v K
abbrev aM (H:Hp)(a:Addr)(K:Int->Prop):Prop:=Ld H a fun v=>DI .i64 v K
abbrev qG (H:Hp)(a:Addr)(K:Option Nat->Prop):Prop:=Ld H a fun v=>DM v K
abbrev bj (H:Hp)(a:Addr)(K:OA->Prop):Prop:=Ld H a fun v=>DP v K
abbrev mO (H:Hp)(a:Addr)(K:OA->Nat->Nat->Prop):Prop:=Ld H a fun v=>aE v K
abbrev iS (H:Hp)(a:Addr)(K:Int->Prop):Prop:=Ld H a fun v=>DI .u32 v K
abbrev Io (H:Hp)(a:Addr)(K:Int->Prop):Prop:=Ld H a fun v=>DI .u8 v K
abbrev df (H:Hp)(a:Addr)(K:Int->Prop):Prop:=Ld H a fun v=>DI .u64 v K
abbrev CZ (l:List Value)(K:Int->Int->Prop):Prop:=az l fun v l=>DI .i64 v fun x0=>az l fun v l=>DI .i64 v fun x1=>bF l (K x0 x1)
abbrev C0 (l:List Value)(K:Int->Int->Int->Prop):Prop:=az l fun v l=>DI .i64 v fun x0=>az l fun v l=>DI .i64 v fun x1=>az l fun v l=>DI .i64 v fun x2=>bF l (K x0 x1 x2)
abbrev zN (l:List Value)(K:Int->Int->Int->Int->Prop):Prop:=az l fun v l=>DI .i64 v fun x0=>az l fun v l=>DI .i64 v fun x1=>az l fun v l=>DI .i64 v fun x2=>az l fun v l=>DI .i64 v fun x3=>bF l (K x0 x1 x2 x3)
abbrev nV (l:List Value)(K:Int->Int->Int->Int->Int->Int->Int->Int->Int->Int->Int->Int->Int->Int->Int->Int->Int->Prop):Prop:=az l fun v l=>DI .i64 v fun x0=>az l fun v l=>DI .i64 v fun x1=>az l fun v l=>DI .i64 v fun x2=>az l fun v l=>DI .i64 v fun x3=>az l fun v l=>DI .i64 v fun x4=>az l fun v l=>DI .i64 v fun x5=>az l fun v l=>DI .i64 v fun x6=>az l fun v l=>DI .i64 v fun x7=>az l fun v l=>DI .i64 v fun x8=>az l fun v l=>DI .i64 v fun x9=>az l fun v l=>DI .i64 v fun x10=>az l fun v l=>DI .i64 v fun x11=>az l fun v l=>DI .i64 v fun x12=>az l fun v l=>DI .i64 v fun x13=>az l fun v l=>DI .i64 v fun x14=>az l fun v l=>DI .i64 v fun x15=>az l fun v l=>DI .i64 v fun x16=>bF l (K x0 x1 x2 x3 x4 x5 x6 x7 x8 x9 x10 x11 x12 x13 x14 x15 x16)
abbrev B2 (l:List Value)(K:Int->Int->Int->Int->Int->Prop):Prop:=az l fun v l=>DI .i64 v fun x0=>az l fun v l=>DI .i64 v fun x1=>az l fun v l=>DI .i64 v fun x2=>az l fun v l=>DI .i64 v fun x3=>az l fun v l=>DI .u64 v fun x4=>bF l (K x0 x1 x2 x3 x4)
abbrev kb (l:List Value)(K:Int->Int->Int->Int->Int->Int->Int->Int->Prop):Prop:=az l fun v l=>DI .i64 v fun x0=>az l fun v l=>DI .i64 v fun x1=>az l fun v l=>DI .i64 v fun x2=>az l fun v l=>DI .i64 v fun x3=>az l fun v l=>DI .u64 v fun x4=>az l fun v l=>DI .i64 v fun x5=>az l fun v l=>DI .i64 v fun x6=>az l fun v l=>DI .i64 v fun x7=>bF l (K x0 x1 x2 x3 x4 x5 x6 x7)
abbrev vC (l:List Value)(K:Int->Int->Int->Int->Int->Int->Int->Int->Prop):Prop:=az l fun v l=>DI .u64 v fun x0=>az l fun v l=>DI .i64 v fun x1=>az l fun v l=>DI .i64 v fun x2=>az l fun v l=>DI .i64 v fun x3=>az l fun v l=>DI .i64 v fun x4=>az l fun v l=>DI .u32 v fun x5=>az l fun v l=>DI .u32 v fun x6=>az l fun v l=>DI .u32 v fun x7=>bF l (K x0 x1 x2 x3 x4 x5 x6 x7)
abbrev Kx (v:Value)(K:Array Value->Bool->Prop):Prop:=eF v fun l=>az l fun v l=>DA v fun x0=>az l fun v l=>DB v fun x1=>bF l (K x0 x1)
abbrev C' (v:Value)(K:Array Value->Bool->Int->Prop):Prop:=eF v fun l=>az l fun v l=>DA v fun x0=>az l fun v l=>DB v fun x1=>az l fun v l=>DI .i64 v fun x2=>bF l (K x0 x1 x2)
abbrev nZ (v:Value)(K:Array Value->Int->Prop):Prop:=eF v fun l=>az l fun v l=>DA v fun x0=>az l fun v l=>DI .i64 v fun x1=>bF l (K x0 x1)
abbrev Ky (v:Value)(K:Array Value->Int->Prop):Prop:=eF v fun l=>az l fun v l=>DA v fun x0=>az l fun v l=>DI .u64 v fun x1=>bF l (K x0 x1)
abbrev xc (v:Value)(K:Bool->Int->Prop):Prop:=eF v fun l=>az l fun v l=>DB v fun x0=>az l fun v l=>DI .i64 v fun x1=>bF l (K x0 x1)
abbrev pZ (v:Value)(K:Int->Bool->Prop):Prop:=eF v fun l=>az l fun v l=>DI .i64 v fun x0=>az l fun v l=>DB v fun x1=>bF l (K x0 x1)
abbrev pa (v:Value)(K:Int->Int->Prop):Prop:=eF v fun l=>az l fun v l=>DI .i64 v fun x0=>az l fun v l=>DI .i64 v fun x1=>bF l (K x0 x1)
abbrev zg (v:Value)(K:Int->Int->Int->Prop):Prop:=eF v fun l=>az l fun v l=>DI .i64 v fun x0=>az l fun v l=>DI .i64 v fun x1=>az l fun v l=>DI .i64 v fun x2=>bF l (K x0 x1 x2)
abbrev jO (v:Value)(K:OA->Int->Prop):Prop:=eF v fun l=>az l fun v l=>DP v fun x0=>az l fun v l=>DI .i64 v fun x1=>bF l (K x0 x1)
abbrev Iu (v:Value)(K:OA->OA->Int->Prop):Prop:=eF v fun l=>az l fun v l=>DP v fun x0=>az l fun v l=>DP v fun x1=>az l fun v l=>DI .i64 v fun x2=>bF l (K x0 x1 x2)
abbrev Da (v:Value)(K:OA->Nat->Nat->Bool->Prop):Prop:=eF v fun l=>az l fun v l=>aE v fun x0 x1 x2=>az l fun v l=>DB v fun x3=>bF l (K x0 x1 x2 x3)
abbrev kc (v:Value)(K:OA->Nat->Nat->Int->Prop):Prop:=eF v fun l=>az l fun v l=>aE v fun x0 x1 x2=>az l fun v l=>DI .i64 v fun x3=>bF l (K x0 x1 x2 x3)
abbrev Iv (v:Value)(K:OA->Nat->Nat->Int->Int->Prop):Prop:=eF v fun l=>az l fun v l=>aE v fun x0 x1 x2=>az l fun v l=>DI .i64 v fun x3=>az l fun v l=>DI .i64 v fun x4=>bF l (K x0 x1 x2 x3 x4)
abbrev Kz (v:Value)(K:ByteArray->Bool->Prop):Prop:=eF v fun l=>az l fun v l=>DS v fun x0=>az l fun v l=>DB v fun x1=>bF l (K x0 x1)
abbrev rX (v:Value)(K:Int->Int->Prop):Prop:=eF v fun l=>az l fun v l=>DI .u32 v fun x0=>az l fun v l=>DI .i64 v fun x1=>bF l (K x0 x1)
abbrev kS (v:Value)(K:Int->Int->Prop):Prop:=eF v fun l=>az l fun v l=>DI .u64 v fun x0=>az l fun v l=>DI .i64 v fun x1=>bF l (K x0 x1)
abbrev zX (v:Value)(K:Int->Int->Prop):Prop:=eF v fun l=>az l fun v l=>DI .u64 v fun x0=>az l fun v l=>DI .u64 v fun x1=>bF l (K x0 x1)
theorem HV :(∀(k:IntKind) (n:Int) (K:Int->Prop),DI k (.int k n) K=K n)/\(∀(b:Bool) (K:Bool->Prop),DB (.bool b) K=K b)/\(∀(b:ByteArray) (K:ByteArray->Prop),DS (.string b) K=K b)/\(∀(b:OA) (K:OA->Prop),DP (.pointer b) K=K b)/\
 (∀(a:OA) (n c:Nat) (K:OA->Nat->Nat->Prop),aE (.slice a n c) K=K a n c)/\(∀(r:Option Nat) (K:Option Nat->Prop),DM (.map r) K=K r)/\(∀(cs:Array Value) (K:Array Value->Prop),DA (.agg cs) K=K cs)/\(∀(vs:Array Value) (K:List Value->Prop),eF (.tuple vs) K=K vs.toList)/\
 (∀(v:Value) (l:List Value) (K:Value->List Value->Prop),az (v::l) K=K v l)/\(∀ K:Prop,bF [] K=K)/\(∀(a:Addr) (K:Addr->Prop),NN (some a) K=K a)/\(∀ X Y:Prop,aq true X Y=X)/\(∀ X Y:Prop,aq false X Y=Y)/\(∀(c:Bool) (X:Prop),aq c X X=X)/\
 (∀(v:Value) (K:Int->Int->Prop),pa v K=eF v fun l=>az l fun v l=>DI .i64 v fun x0=>az l fun v l=>DI .i64 v fun x1=>bF l (K x0 x1))/\(∀(v:Value) (K:Int->Int->Prop),kS v K=eF v fun l=>az l fun v l=>DI .u64 v fun x0=>az l fun v l=>DI .i64 v fun x1=>bF l (K x0 x1))/\(∀(v:Value) (K:Int->Bool->Prop),pZ v K=eF v fun l=>az l fun v l=>DI .i64 v fun x0=>az l fun v l=>DB v fun x1=>bF l (K x0 x1))/\(∀(v:Value) (K:Array Value->Int->Prop),Ky v K=eF v fun l=>az l fun v l=>DA v fun x0=>az l fun v l=>DI .u64 v fun x1=>bF l (K x0 x1))/\(∀(v:Value) (K:Int->Int->Prop),zX v K=eF v fun l=>az l fun v l=>DI .u64 v fun x0=>az l fun v l=>DI .u64 v fun x1=>bF l (K x0 x1))/\(∀(v:Value) (K:OA->Nat->Nat->Int->Prop),kc v K=eF v fun l=>az l fun v l=>aE v fun x0 x1 x2=>az l fun v l=>DI .i64 v fun x3=>bF l (K x0 x1 x2 x3))/\(∀(v:Value) (K:OA->Nat->Nat->Int->Int->Prop),Iv v K=eF v fun l=>az l fun v l=>aE v fun x0 x1 x2=>az l fun v l=>DI .i64 v fun x3=>az l fun v l=>DI .i64 v fun x4=>bF l (K x0 x1 x2 x3 x4))/\(∀(v:Value) (K:OA->Nat->Nat->Bool->Prop),Da v K=eF v fun l=>az l fun v l=>aE v fun x0 x1 x2=>az l fun v l=>DB v fun x3=>bF l (K x0 x1 x2 x3))/\(∀(v:Value) (K:OA->Int->Prop),jO v K=eF v fun l=>az l fun v l=>DP v fun x0=>az l fun v l=>DI .i64 v fun x1=>bF l (K x0 x1))/\(∀(l:List Value) (K:Int->Int->Prop),CZ l K=az l fun v l=>DI .i64 v fun x0=>az l fun v l=>DI .i64 v fun x1=>bF l (K x0 x1))/\(∀(v:Value) (K:ByteArray->Bool->Prop),Kz v K=eF v fun l=>az l fun v l=>DS v fun x0=>az l fun v l=>DB v fun x1=>bF l (K x0 x1))/\(∀(l:List Value) (K:Int->Int->Int->Prop),C0 l K=az l fun v l=>DI .i64 v fun x0=>az l fun v l=>DI .i64 v fun x1=>az l fun v l=>DI .i64 v fun x2=>bF l (K x0 x1 x2))/\(∀(v:Value) (K:Int->Int->Int->Prop),zg v K=eF v fun l=>az l fun v l=>DI .i64 v fun x0=>az l fun v l=>DI .i64 v fun x1=>az l fun v l=>DI .i64 v fun x2=>bF l (K x0 x1 x2))/\(∀(l:List Value) (K:Int->Int->Int->Int->Int->Prop),B2 l K=az l fun v l=>DI .i64 v fun x0=>az l fun v l=>DI .i64 v fun x1=>az l fun v l=>DI .i64 v fun x2=>az l fun v l=>DI .i64 v fun x3=>az l fun v l=>DI .u64 v fun x4=>bF l (K x0 x1 x2 x3 x4))/\(∀(v:Value) (K:Array Value->Int->Prop),nZ v K=eF v fun l=>az l fun v l=>DA v fun x0=>az l fun v l=>DI .i64 v fun x1=>bF l (K x0 x1))/\(∀(l:List Value) (K:Int->Int->Int->Int->Int->Int->Int->Int->Prop),vC l K=az l fun v l=>DI .u64 v fun x0=>az l fun v l=>DI .i64 v fun x1=>az l fun v l=>DI .i64 v fun x2=>az l fun v l=>DI .i64 v fun x3=>az l fun v l=>DI .i64 v fun x4=>az l fun v l=>DI .u32 v fun x5=>az l fun v l=>DI .u32 v fun x6=>az l fun v l=>DI .u32 v fun x7=>bF l (K x0 x1 x2 x3 x4 x5 x6 x7))/\(∀(v:Value) (K:Array Value->Bool->Int->Prop),C' v K=eF v fun l=>az l fun v l=>DA v fun x0=>az l fun v l=>DB v fun x1=>az l fun v l=>DI .i64 v fun x2=>bF l (K x0 x1 x2))/\(∀(l:List Value) (K:Int->Int->Int->Int->Int->Int->Int->Int->Prop),kb l K=az l fun v l=>DI .i64 v fun x0=>az l fun v l=>DI .i64 v fun x1=>az l fun v l=>DI .i64 v fun x2=>az l fun v l=>DI .i64 v fun x3=>az l fun v l=>DI .u64 v fun x4=>az l fun v l=>DI .i64 v fun x5=>az l fun v l=>DI .i64 v fun x6=>az l fun v l=>DI .i64 v fun x7=>bF l (K x0 x1 x2 x3 x4 x5 x6 x7))/\(∀(v:Value) (K:Int->Int->Prop),rX v K=eF v fun l=>az l fun v l=>DI .u32 v fun x0=>az l fun v l=>DI .i64 v fun x1=>bF l (K x0 x1))/\(∀(v:Value) (K:OA->OA->Int->Prop),Iu v K=eF v fun l=>az l fun v l=>DP v fun x0=>az l fun v l=>DP v fun x1=>az l fun v l=>DI .i64 v fun x2=>bF l (K x0 x1 x2))/\(∀(l:List Value) (K:Int->Int->Int->Int->Prop),zN l K=az l fun v l=>DI .i64 v fun x0=>az l fun v l=>DI .i64 v fun x1=>az l fun v l=>DI .i64 v fun x2=>az l fun v l=>DI .i64 v fun x3=>bF l (K x0 x1 x2 x3))/\(∀(l:List Value) (K:Int->Int->Int->Int->Int->Int->Int->Int->Int->Int->Int->Int->Int->Int->Int->Int->Int->Prop),nV l K=az l fun v l=>DI .i64 v fun x0=>az l fun v l=>DI .i64 v fun x1=>az l fun v l=>DI .i64 v fun x2=>az l fun v l=>DI .i64 v fun x3=>az l fun v l=>DI .i64 v fun x4=>az l fun v l=>DI .i64 v fun x5=>az l fun v l=>DI .i64 v fun x6=>az l fun v l=>DI .i64 v fun x7=>az l fun v l=>DI .i64 v fun x8=>az l fun v l=>DI .i64 v fun x9=>az l fun v l=>DI .i64 v fun x10=>az l fun v l=>DI .i64 v fun x11=>az l fun v l=>DI .i64 v fun x12=>az l fun v l=>DI .i64 v fun x13=>az l fun v l=>DI .i64 v fun x14=>az l fun v l=>DI .i64 v fun x15=>az l fun v l=>DI .i64 v fun x16=>bF l (K x0 x1 x2 x3 x4 x5 x6 x7 x8 x9 x10 x11 x12 x13 x14 x15 x16))/\(∀(v:Value) (K:Bool->Int->Prop),xc v K=eF v fun l=>az l fun v l=>DB v fun x0=>az l fun v l=>DI .i64 v fun x1=>bF l (K x0 x1))/\(∀(v:Value) (K:Array Value->Bool->Prop),Kx v K=eF v fun l=>az l fun v l=>DA v fun x0=>az l fun v l=>DB v fun x1=>bF l (K x0 x1))/\(∀ l:List Value,l.toArray.toList=l)/\((!true)=false)/\((!false)=true):=
 ⟨I4,tP,Em,CW,Eo,Ki,Kh,CX,CV,GB,dz,zE,sK,Gv,fun _ _=>rfl,fun _ _=>rfl,fun _ _=>rfl,fun _ _=>rfl,fun _ _=>rfl,fun _ _=>rfl,fun _ _=>rfl,fun _ _=>rfl,fun _ _=>rfl,fun _ _=>rfl,fun _ _=>rfl,fun _ _=>rfl,fun _ _=>rfl,fun _ _=>rfl,fun _ _=>rfl,fun _ _=>rfl,fun _ _=>rfl,fun _ _=>rfl,fun _ _=>rfl,fun _ _=>rfl,fun _ _=>rfl,fun _ _=>rfl,fun _ _=>rfl,fun _ _=>rfl,fun _=>rfl,rfl,rfl⟩
theorem cO {c:Bool}{X Y:Prop}(h:c=true)(k:X):aq c X Y:=by rw[h];exact k
theorem bY {c:Bool}{X Y:Prop}(h:c=false)(k:Y):aq c X Y:=by rw[h];exact k
theorem aA {p:Prop}[Decidable p]{X Y:Prop}(h:p)(k:X):aq (decide p) X Y:=cO (by simpa using h) k
theorem au {p:Prop}[Decidable p]{X Y:Prop}(h:¬p)(k:Y):aq (decide p) X Y:=bY (by simpa using h) k
theorem aU {a b:Int}{X Y:Prop}(h:a≠b)(k:X):aq (a !=b) X Y:=cO (by simpa using h) k
theorem aF {a b:Int}{X Y:Prop}(h:a=b)(k:Y):aq (a !=b) X Y:=bY (by simpa using h) k
theorem bH {a b:Int}{X Y:Prop}(h:a=b)(k:X):aq (a==b) X Y:=cO (by simpa using h) k
theorem bT {a b:Int}{X Y:Prop}(h:a≠b)(k:Y):aq (a==b) X Y:=bY (by simpa using h) k
theorem oz {H:Hp}{a:Addr}{v:Value}{K:Value->Prop}(h:H.cell? a=some v)(k:K v):Ld H a K:=by unfold Ld;rw[h];exact k
theorem Ir {H H':Hp}{a:Addr}{v:Value}{K:Hp->Prop}(h:H.put? a v=some H')(k:K H'):St H a v K:=by unfold St;rw[h];exact k
theorem Fh {cs:Array Value}{i:Nat}{v:Value}{K:Value->Prop}(h:cs[i]? =some v)(k:K v):Au cs i K:=by unfold Au;rw[h];exact k
theorem Ff {s:ByteArray}{i:Nat}{K:Int->Prop}(h:i<s.size)(k:K (s[i].toNat:Int)):Cf s i K:=by
 unfold Cf;rw[getElem?_pos s i h];exact k
def RetE (v:Value)(H:Hp):VK:=fun v' H'=>v'=v/\H'=H
def lU (v:Value)(H:Hp):VK:=fun v' H'=>v'=v/\H.le H'
theorem aa.ret {P:Program}{f:FuncId}{args:Array Value}{H0 H:Hp}{v:Value}(h:aa P f args H0 (lU v H)):aa P f args H0 (RetE v H):=
 (h.mono fun _ _ ⟨e,l⟩=>⟨H,l,e,rfl⟩:aa P f args H0 fun v' H'=>∃ H'',H''.le H'/\RetE v H v' H'').forget
theorem aa.use {P:Program}{f:FuncId}{args:Array Value}{H0 H:Hp}{v:Value}{K:VK}(h:aa P f args H0 (RetE v H))(k:K v H):aa P f args H0 K:=
 h.mono fun _ _ ⟨e1,e2⟩=>by rw[e1,e2];exact k
theorem bD.use {P:Program}{f:FuncId}{args:Array Value}{H:Hp}{v:Value}{K:Value->Prop}(h:aa P f args H (RetE v H))(k:K v):bD P f args H K:=
 ⟨v,k,h.mono fun _ _ ⟨e1,e2⟩=>⟨e1,by rw[e2];exact Hp.le_refl H⟩⟩
theorem Hp.jV {H:Hp}{b:Nat}{o:AO}(h:H b=none):H.le (H.set b o):=fun c q hq=>by
 by_cases e:c=b
 .subst e;rw[h]at hq;cases hq
 .rw[Hp.bK _ _ e];exact hq
theorem Hp.le_trans {H H' H'':Hp}(h:H.le H')(k:H'.le H''):H.le H'':=fun c q hq=>k c q (h c q hq)
@[simp] theorem Hp.Ma (H : Hp) (b : Nat) (o : AO) : H.set b o b = some o := Hp.bB H b o
theorem Hp.set_set (H:Hp)(b:Nat)(o o':AO):(H.set b o).set b o'=H.set b o':=by funext c;unfold Hp.set;split<;>rfl
theorem Hp.wE {H:Hp}{b:Nat}{o:AO}(h:H b=some o):H.set b o=H:=by
 funext c;unfold Hp.set;split
 .rename_i e;rw[e,h]
 .rfl
@[simp] theorem Addr.add_zero (a : Addr) : a.add 0 = a := rfl
theorem Addr.KA (b o n:Nat):(⟨b,o,none⟩:Addr).add n=⟨b,o+n,none⟩:=by unfold Addr.add;split<;>simp_all
@[simp] theorem Addr.aP (b o n : Nat) : (⟨b, o, none⟩ : Addr).add n = ⟨b, o + n, none⟩ := Addr.KA b o n
theorem HS :(∀(a:Addr) (K:Addr->Prop),NN (some a) K=K a)/\(∀ b o n:Nat,(⟨b,o,none⟩:Addr).add n=⟨b,o+n,none⟩)/\(∀ a:Addr,a.add 0=a)/\(∀ n:Nat,0+n=n)/\(∀ n:Nat,n+0=n):=⟨dz,Addr.aP,Addr.add_zero,Nat.zero_add,Nat.add_zero⟩
theorem Mx {a b:Nat}(h:Nat.ble a b=true):a<=b:=Nat.le_of_ble_eq_true h
theorem mG {H:Hp}{b:Nat}{c:Array Value}{e:TypeId}{fr:Nat×Nat}(h:H b=some (.obj (.cells c e fr)))(i:Nat):H.cell? ⟨b,i,none⟩=c[i]? :=by
 unfold Hp.cell?;simp[h]
theorem uZ {H:Hp}{b:Nat}{xs:List Value}{e:TypeId}{m:Nat}(h:H b=some (.row xs e m))(i:Nat):H.cell? ⟨b,i,none⟩=xs[i]? :=by
 unfold Hp.cell?;simp[h]
theorem xx {H:Hp}{b:Nat}{c:Array Value}{e:TypeId}(h:H b=some (Oa c e)){i:Nat}(hi:i<c.size){v:Value}(hv:v.oneCell'=true):
  H.put? ⟨b,i,none⟩ v=some (H.set b (Oa (c.setIfInBounds i v) e)):=by
 unfold Hp.put?;simp[h,hi,hv]
theorem ua {H:Hp}{b:Nat}{xs:List Value}{e:TypeId}{m:Nat}(h:H b=some (.row xs e m)){i:Nat}(hi:i<xs.length){v:Value}(hv:v.oneCell'=true):
  H.put? ⟨b,i,none⟩ v=some (H.set b (.row (xs.set i v) e m)):=by
 unfold Hp.put?;simp[h,hi,hv]
theorem bg {x:Int}(h0: -9223372036854775808<=x:=by omega)(h1:x<=9223372036854775807:=by omega):i64.wrap x=x:=IntWalk.i64_in x ⟨h0,h1⟩
theorem iQ {x:Int}(h0:0<=x:=by omega)(h1:x<=18446744073709551615:=by omega):u64.wrap x=x:=by
 simp only[IntKind.wrap,IntKind.bits,IntKind.signed,Bool.false_and,Bool.false_eq_true,if_false];omega
theorem Li {x:Int}(h0:0<=x:=by omega)(h1:x<=4294967295:=by omega):u32.wrap x=x:=by
 simp only[IntKind.wrap,IntKind.bits,IntKind.signed,Bool.false_and,Bool.false_eq_true,if_false];omega
theorem dS {n:Nat}(h:n<=9223372036854775807:=by omega):i64.wrap (n:Int)=n:=bg
theorem fC {n:Nat}(h:n<=18446744073709551615:=by omega):u64.wrap (n:Int)=n:=iQ
theorem Bw {n:Nat}(h:n<=4294967295:=by omega):u32.wrap (n:Int)=n:=Li
theorem qy (x:Int):u64.wrap x=x%18446744073709551616:=by
 simp only[IntKind.wrap,IntKind.bits,IntKind.signed,Bool.false_and,Bool.false_eq_true,if_false];rfl
theorem LS (x:Int):u8.wrap x=x%256:=by
 simp only[IntKind.wrap,IntKind.bits,IntKind.signed,Bool.false_and,Bool.false_eq_true,if_false];rfl
theorem RetE.ret {P:Program}{f:FuncId}{args:Array Value}{H0 H:Hp}{v:Value}(h:aa P f args H0 (RetE v H)):aa P f args H0 (lU v H):=
 h.mono fun _ _ ⟨e1,e2⟩=>⟨e1,by rw[e2];exact Hp.le_refl H⟩
theorem RetE.mk (v:Value)(H:Hp):RetE v H v H:=⟨rfl,rfl⟩
theorem RetE.of {v v':Value}{H:Hp}(h:v'=v):RetE v H v' H:=⟨h,rfl⟩
def Full (w:World):Hp:=fun b=>(w.heap[b]?).map AO.obj
theorem Full.fits (w:World):Fits (Full w) w:=fun b o h=>by
 unfold Full at h;obtain⟨x,hx,rfl⟩:=Option.map_eq_some_iff.1 h;exact⟨x,hx,rfl⟩
theorem Full.cell {w:World}{b i:Nat}{v:Value}(h:w.cell? ⟨b,i,none⟩=some v):(Full w).cell? ⟨b,i,none⟩=some v:=by
 unfold World.cell? at h;unfold Hp.cell? Full;split at h
 .rename_i c e f hb
  simp only at hb;simp only[hb,Option.map_some];exact h
 .cases h
theorem Fk {P:Program}{f:FuncId}{args:Array Value}{w:World}(h:aa P f args (Full w) (lU (.bool true) (Full w))):
  Calls P f args w fun e w'=>e= .returned (.bool true)/\Below w.heap.size w w':=by
 refine(h w (Full.fits w)).mono ?_;rintro e w' ⟨v,H',rfl,⟨rfl,hle⟩,hA⟩;refine⟨rfl,hA.os,hA.tape,hA.output,hA.size,fun k hk=>?_⟩;have h1:w.heap[k]? =some w.heap[k]:=by simp[hk]
 obtain⟨o',ho,hh⟩:=hA.fits k (.obj w.heap[k]) (hle k _ (by unfold Full;rw[h1];rfl));cases hh;rw[ho,h1]
end Go.Hw
namespace Go.Hw
open Go
theorem ofInt32 (x:BitVec 32):BitVec.ofInt 32 (x.toNat:Int)=x:=by rw[BitVec.ofInt_natCast,BitVec.ofNat_toNat,BitVec.setWidth_eq]
theorem ofInt64 (x:BitVec 64):BitVec.ofInt 64 (x.toNat:Int)=x:=by rw[BitVec.ofInt_natCast,BitVec.ofNat_toNat,BitVec.setWidth_eq]
theorem wrap32 (x:BitVec 32):u32.wrap (x.toNat:Int)=x.toNat:=Bw (by have:=x.isLt;omega)
theorem wrap64 (x:BitVec 64):u64.wrap (x.toNat:Int)=x.toNat:=fC (by have:=x.isLt;omega)
theorem sD (x y:BitVec 32):kU .u32 (x.toNat:Int) (y.toNat:Int)=((x^^^y).toNat:Int):=by
 unfold kU;rw[show u32.bits=32 from rfl,ofInt32,ofInt32];exact wrap32 _
theorem Ix (x y:BitVec 32):cD .u32 (x.toNat:Int) (y.toNat:Int)=((x&&&y).toNat:Int):=by
 unfold cD;rw[show u32.bits=32 from rfl,ofInt32,ofInt32];exact wrap32 _
theorem Iy (x y:BitVec 64):cD .u64 (x.toNat:Int) (y.toNat:Int)=((x&&&y).toNat:Int):=by
 unfold cD;rw[show u64.bits=64 from rfl,ofInt64,ofInt64];exact wrap64 _
theorem K0 (x y:BitVec 64):kT .u64 (x.toNat:Int) (y.toNat:Int)=((x|||y).toNat:Int):=by
 unfold kT;rw[show u64.bits=64 from rfl,ofInt64,ofInt64];exact wrap64 _
theorem fdiv_pow (a n:Nat):Int.fdiv (a:Int) (2^n)=((a>>>n:Nat):Int):=by
 rw[show((2:Int)^n)=((2^n:Nat):Int) by simp,Nat.shiftRight_eq_div_pow];exact(Int.ofNat_fdiv a (2^n)).symm
theorem oW (x:BitVec 32){i:Int}{n:Nat}(h:i=n)(hn:n<=32):cB .u32 (x.toNat:Int) i=((x>>>n).toNat:Int):=by
 subst h;unfold cB;rw[Int.toNat_natCast,show u32.bits=32 from rfl,Nat.min_eq_left hn,fdiv_pow,BitVec.toNat_ushiftRight]
theorem zA (x:BitVec 64){i:Int}{n:Nat}(h:i=n)(hn:n<=64):cB .u64 (x.toNat:Int) i=((x>>>n).toNat:Int):=by
 subst h;unfold cB;rw[Int.toNat_natCast,show u64.bits=64 from rfl,Nat.min_eq_left hn,fdiv_pow,BitVec.toNat_ushiftRight]
theorem FY {k:IntKind}(a:Nat){i:Int}{n:Nat}(h:i=n)(hn:n<=k.bits):cB k (a:Int) i=((a>>>n:Nat):Int):=by
 subst h;unfold cB;rw[Int.toNat_natCast,Nat.min_eq_left hn,fdiv_pow]
theorem IM (x:BitVec 64){i:Int}{n:Nat}(h:i=n)(hn:n<=64):cT .u64 (x.toNat:Int) i=((x<<<n).toNat:Int):=by
 subst h;unfold cT;rw[Int.toNat_natCast,show u64.bits=64 from rfl,Nat.min_eq_left hn,qy,BitVec.toNat_shiftLeft,Nat.shiftLeft_eq,show((2:Int)^n)=((2^n:Nat):Int) by simp];rfl
theorem L6 (x:BitVec 8):u32.wrap (x.toNat:Int)=((x.setWidth 32).toNat:Int):=by
 have:=x.isLt;rw[BitVec.toNat_setWidth,Nat.mod_eq_of_lt (by omega)];exact Bw
theorem Hp.le.cell {H H':Hp}(h:H.le H'){a:Addr}{v:Value}(hc:H.cell? a=some v):H'.cell? a=some v:=by
 unfold Hp.cell? at hc⊢;cases hb:H a.block with
 |none=>rw[hb]at hc;cases hc
 |some o=>rw[h _ _ hb];rw[hb]at hc;exact hc
def Cells (H:Hp)(A:OA)(vs:List Value):Prop:=∀ i v,vs[i]? =some v->∃ a,A=some a/\H.cell? (a.add i)=some v
theorem Cells.le {H H':Hp}{A:OA}{vs:List Value}(h:Cells H A vs)(k:H.le H'):Cells H' A vs:=fun i v hi=>by
 obtain⟨a,ha,hc⟩:=h i v hi;exact⟨a,ha,k.cell hc⟩
theorem Cells.nil (H:Hp)(A:OA):Cells H A []:=fun i v hi=>by simp at hi
theorem Cells.row {H:Hp}{b:Nat}{xs:List Value}{e:TypeId}{m:Nat}(h:H b=some (.row xs e m))(off n:Nat):Cells H (some ⟨b,off,none⟩) ((xs.drop off).take n):=fun i v hi=>by
 refine⟨_,rfl,?_⟩;rw[Addr.aP,uZ h];rw[List.getElem?_take]at hi;split at hi
 .rw[List.getElem?_drop]at hi;exact hi
 .cases hi
theorem Cells.get {H:Hp}{a:Addr}{vs:List Value}(h:Cells H (some a) vs){i:Nat}{v:Value}(hi:vs[i]? =some v):H.cell? (a.add i)=some v:=by
 obtain⟨a',ha,hc⟩:=h i v hi;cases ha;exact hc
theorem Cells.read {H:Hp}{A:OA}{vs:List Value}(h:Cells H A vs){i:Nat}{v:Value}(hi:vs[i]? =some v){x:Int}(hx:x=i){n:Nat}(hn:vs.length<=n){K:Value->Prop}(k:K v):
  cz x n (NN A fun a=>Ld H (a.add (x.toNat*1)) K):=by
 obtain⟨a,rfl,hc⟩:=h i v hi;subst hx;have:=(List.getElem?_eq_some_iff.1 hi).1;refine⟨by omega,by omega,?_⟩;rw[Int.toNat_natCast,Nat.mul_one];exact oz hc k
theorem mN {H:Hp}{b:Nat}{c:Array Value}{e:TypeId}(h:H b=some (Oa c e)){n:Nat}(hn:c.size=n){K:List Value->Prop}(k:K c.toList):aY H (O b) n K:=by
 have key:∀ m i:Nat,i+m=c.size->H.cells? (O b) i m=some (c.toList.drop i):=by
  intro m
  induction m with
  |zero=>intro i hi;rw[List.drop_eq_nil_of_le (by simp;omega)];rfl
  |succ m ih=>
   intro i hi;unfold Hp.cells?;rw[Addr.aP,Nat.zero_add,mG h,Array.getElem?_eq_getElem (by omega)];simp only;rw[ih (i+1) (by omega)];simp only[Option.some.injEq];rw[List.drop_eq_getElem_cons (i:=i) (by simp;omega)];simp
 unfold aY;rw[key n 0 (by omega)];simpa using k
theorem AW {e:TypeId}{b:Nat}:∀(l:List Value) (i:Nat) (H:Hp) (c:Array Value),H b=some (.obj (.cells c e))->i+l.length<=c.size->(∀ v∈l,v.oneCell'=true)->
  H.puts? ⟨b,0,none⟩ i l=some (H.set b (.obj (.cells (c.toList.take i++l++c.toList.drop (i+l.length)).toArray e)))
 | [],i,H,c,h,hi,_=>by simp[Hp.puts?,Hp.wE h]
 |v::l,i,H,c,h,hi,hv=>by
  unfold Hp.puts?;simp only[List.length_cons]at hi;rw[Addr.aP,Nat.zero_add,xx h (by omega) (hv v (by simp))];simp only;rw[AW l (i+1) _ _ (Hp.bB _ _ _) (by simp;omega) (fun u hu=>hv u (by simp[hu])),Hp.set_set];congr 5;simp only[Array.toList_setIfInBounds,List.length_cons];rw[List.take_set,List.drop_set_of_lt (by omega)];rw[show c.toList.take (i+1)=c.toList.take i++[c.toList[i]'(by simp;omega)]from by rw[List.take_succ_eq_append_getElem]];rw[List.set_append_right _ _ (by simp;omega)];simp[Nat.min_eq_left (show i<=c.size by omega)];rw[show i+1+l.length=i+(l.length+1) by omega]
theorem xa {H:Hp}{b:Nat}{c y:Array Value}{e:TypeId}(h:H b=some (Oa c e)){n:Nat}(hn:c.size=n)(hy:y.size=n)(hv:∀ v∈y,v.oneCell'=true){K:Hp->Prop}(k:K (H.set b (Oa y e))):
  cK H (O b) y n K:=by
 refine⟨hy,?_⟩;rw[AW y.toList 0 H c h (by simp;omega) (by simpa using hv)];simp only[List.take_zero,List.nil_append,Nat.zero_add];rw[List.drop_eq_nil_of_le (by simp;omega)];simpa using k
def filled (f:Nat->Value)(z:Value)(n i:Nat):Array Value:=((List.range n).map fun j=>if j<i then f j else z).toArray
theorem lW (f:Nat->Value)(z:Value)(n i:Nat):(filled f z n i).size=n:=by simp[filled]
theorem Dl (f:Nat->Value)(z:Value){n i:Nat}(h:i<n):(filled f z n i).setIfInBounds i (f i)=filled f z n (i+1):=by
 unfold filled;rw[List.setIfInBounds_toArray];congr 1;apply List.ext_getElem
 .simp
 .intro j h1 h2;simp only[List.length_set,List.length_map,List.length_range]at h1;rw[List.getElem_set];simp only[List.getElem_map,List.getElem_range];by_cases e:i=j
  .subst e;simp
  .simp only[e,if_false];by_cases h3:j<i
   .simp[h3,show j<i+1 by omega]
   .simp[h3,show ¬j<i+1 by omega]
theorem vT (f:Nat->Value)(z:Value)(n:Nat):filled f z n n=((List.range n).map f).toArray:=by
 unfold filled;congr 1;apply List.map_congr_left;intro j hj;simp at hj;simp[hj]
def setAt (xs:List Value)(off:Nat)(vs:List Value):List Value:=xs.take off++vs++xs.drop (off+vs.length)
theorem gN {xs vs:List Value}{off:Nat}(h:off+vs.length<=xs.length:=by omega):(setAt xs off vs).length=xs.length:=by
 unfold setAt;simp;omega
theorem mT (xs:List Value)(off:Nat):setAt xs off []=xs:=by simp[setAt]
theorem fw {xs vs:List Value}{off:Nat}(h:off+vs.length<=xs.length)(i:Nat):(setAt xs off vs)[i]? =if i<off then xs[i]? else if i<off+vs.length then vs[i-off]? else xs[i]? :=by
 unfold setAt;have ht:(xs.take off).length=off:=by simp;omega
 rw[List.append_assoc,List.getElem?_append,ht];by_cases h1:i<off
 .simp only[h1,if_true];rw[List.getElem?_take,if_pos h1]
 .simp only[h1,if_false];rw[List.getElem?_append];by_cases h2:i<off+vs.length
  .rw[if_pos (by omega),if_pos h2]
  .rw[if_neg (by omega),if_neg h2,List.getElem?_drop];congr 1;omega
theorem DX {xs vs:List Value}{off k:Nat}(h:off+vs.length<=xs.length)(hk:k<vs.length):(setAt xs off (vs.take k)).set (off+k) vs[k]=setAt xs off (vs.take (k+1)):=by
 apply List.ext_getElem?;intro i;have h1:(vs.take k).length=k:=by simp;omega
 have h2:(vs.take (k+1)).length=k+1:=by simp;omega
 have hl:(setAt xs off (vs.take k)).length=xs.length:=gN;rw[List.getElem?_set,fw (by omega),fw (by omega),h1,h2,hl];by_cases e:off+k=i
 .subst e;rw[if_pos rfl,if_pos (by omega),if_neg (by omega),if_pos (by omega)];simp[hk]
 .rw[if_neg e];by_cases h3:i<off
  .rw[if_pos h3,if_pos h3]
  .rw[if_neg h3,if_neg h3];by_cases h4:i<off+k
   .rw[if_pos h4,if_pos (by omega)];rw[List.getElem?_take,List.getElem?_take,if_pos (by omega),if_pos (by omega)]
   .rw[if_neg h4,if_neg (by omega)]
theorem BU {xs as bs:List Value}(h:as.length+bs.length<=xs.length):setAt (setAt xs 0 as) as.length bs=setAt xs 0 (as++bs):=by
 unfold setAt;simp[List.drop_append,Nat.add_comm]
theorem o8 {xs vs:List Value}(h:vs.length=xs.length):setAt xs 0 vs=vs:=by
 unfold setAt;simp[h]
theorem zT {H:Hp}{b:Nat}{xs:List Value}{e:TypeId}{m:Nat}(h:H b=some (.row xs e m)){i:Nat}(hi:i<xs.length){v:Value}(hv:v.oneCell'=true){K:Hp->Prop}(k:K (H.set b (.row (xs.set i v) e m))):St H ⟨b,i,none⟩ v K:=
 Ir (ua h hi hv) k
theorem pY {H:Hp}{b:Nat}{c:Array Value}{e:TypeId}(h:H b=some (Oa c e)){i:Nat}(hi:i<c.size){v:Value}(hv:v.oneCell'=true){K:Hp->Prop}(k:K (H.set b (Oa (c.setIfInBounds i v) e))):St H ⟨b,i,none⟩ v K:=
 Ir (xx h hi hv) k
theorem Kl {H:Hp}{b:Nat}{xs:List Value}{e:TypeId}{m:Nat}(h:H b=some (.row xs e m)){i:Nat}{v:Value}(hi:xs[i]? =some v){K:Value->Prop}(k:K v):Ld H ⟨b,i,none⟩ K:=oz ((uZ h i).trans hi) k
theorem ez {H:Hp}{b:Nat}{c:Array Value}{e:TypeId}(h:H b=some (Oa c e)){i:Nat}{v:Value}(hi:c[i]? =some v){K:Value->Prop}(k:K v):Ld H ⟨b,i,none⟩ K:=oz ((mG h i).trans hi) k
theorem Hp.nN {H H':Hp}(h:H.le H')(c:Nat)(o:AO):(H.set c o).le (H'.set c o):=fun b q hq=>by
 by_cases e:b=c
 .subst e;rw[Hp.bB]at hq ⊢;exact hq
 .rw[Hp.bK _ _ e]at hq ⊢;exact h b q hq
theorem Cells.cells? {H:Hp}{a:Addr}{vs:List Value}(h:Cells H (some a) vs):H.cells? a 0 vs.length=some vs:=by
 have key:∀ m i:Nat,i+m=vs.length->H.cells? a i m=some (vs.drop i):=by
  intro m
  induction m with
  |zero=>intro i hi;rw[List.drop_eq_nil_of_le (by omega)];rfl
  |succ m ih=>
   intro i hi;unfold Hp.cells?;rw[h.get (List.getElem?_eq_getElem (by omega))];simp only;rw[ih (i+1) (by omega)];simp only[Option.some.injEq];rw[List.drop_eq_getElem_cons (i:=i) (by omega)]
 simpa using key vs.length 0 (by omega)
theorem tF {H:Hp}{A:OA}{vs:List Value}{n c:Nat}(h:Cells H A vs)(hn:n=vs.length):jx H 1 n (.slice A n c)=some vs:=by
 subst hn;cases A with
 |none=>
  cases vs with
  |nil=>rfl
  |cons v vs=>obtain⟨a,ha,_⟩:=h 0 v rfl;cases ha
 |some a=>unfold jx;rw[Nat.mul_one];exact h.cells?
theorem Cw {e:TypeId}{b off:Nat}:∀(l:List Value) (i:Nat) (H:Hp) (c:Array Value),H b=some (.obj (.cells c e))->off+i+l.length<=c.size->(∀ v∈l,v.oneCell'=true)->
  H.puts? ⟨b,off,none⟩ i l=some (H.set b (.obj (.cells (setAt c.toList (off+i) l).toArray e)))
 | [],i,H,c,h,hi,_=>by simp[Hp.puts?,mT,Hp.wE h]
 |v::l,i,H,c,h,hi,hv=>by
  unfold Hp.puts?;simp only[List.length_cons]at hi;rw[Addr.aP,xx h (by omega) (hv v (by simp))];simp only;rw[Cw l (i+1) _ _ (Hp.bB _ _ _) (by simp;omega) (fun u hu=>hv u (by simp[hu])),Hp.set_set];congr 5;apply List.ext_getElem?;intro j;have hs:(c.setIfInBounds (off+i) v).toList.length=c.size:=by simp
  rw[fw (by rw[hs];omega),fw (by simp;omega),Array.toList_setIfInBounds,List.getElem?_set];simp only[List.length_cons,Array.length_toList];by_cases h1:j<off+i
  .rw[if_pos (by omega),if_neg (by omega),if_pos h1]
  .rw[if_neg h1];by_cases h2:j=off+i
   .subst h2;rw[if_pos (by omega),if_pos rfl,if_pos (by omega),if_pos (by omega)];simp
   .rw[if_neg (by omega)];by_cases h3:j<off+(i+1)+l.length
    .rw[if_pos h3,if_pos (by omega),show j-(off+i)=(j-(off+(i+1)))+1 by omega,List.getElem?_cons_succ]
    .rw[if_neg h3,if_neg (by omega),if_neg (by omega)]
theorem Kt {H:Hp}{b off:Nat}{c y:Array Value}{e:TypeId}(h:H b=some (Oa c e)){n:Nat}(hn:off+n<=c.size)(hy:y.size=n)(hv:∀ v∈y,v.oneCell'=true){K:Hp->Prop}(k:K (H.set b (Oa (setAt c.toList off y.toList).toArray e))):
  cK H ⟨b,off,none⟩ y n K:=by
 refine⟨hy,?_⟩;rw[Cw y.toList 0 H c h (by simp;omega) (by simpa using hv)];simpa using k
theorem Kk {H:Hp}{b off:Nat}{c:Array Value}{e:TypeId}(h:H b=some (Oa c e)){n:Nat}(hn:off+n<=c.size){K:List Value->Prop}(k:K ((c.toList.drop off).take n)):aY H ⟨b,off,none⟩ n K:=by
 have key:∀ m i:Nat,off+i+m<=c.size->H.cells? ⟨b,off,none⟩ i m=some ((c.toList.drop (off+i)).take m):=by
  intro m
  induction m with
  |zero=>intro i hi;simp[Hp.cells?]
  |succ m ih=>
   intro i hi;unfold Hp.cells?;rw[Addr.aP,mG h,Array.getElem?_eq_getElem (by omega)];simp only;rw[ih (i+1) (by omega)];simp only[Option.some.injEq];rw[List.drop_eq_getElem_cons (i:=off+i) (by simp;omega),List.take_succ_cons];simp[Nat.add_assoc]
 unfold aY;rw[key n 0 (by omega)];simpa using k
theorem B5 {H:Hp}{b off:Nat}{c y:Array Value}{e:TypeId}(h:H b=some (Oa c e)){n:Nat}(hn:off+n<=c.size)(hy:y.size=n)(hv:y.toList.all (fun v=>v.oneCell')=true){K:Hp->Prop}(k:K (H.set b (Oa (setAt c.toList off y.toList).toArray e))):
  cK H ⟨b,off,none⟩ y n K:=Kt h hn hy (fun v hv'=>List.all_eq_true.1 hv v (by simpa using hv')) k
theorem pN {H:Hp}{b:Nat}{c y:Array Value}{e:TypeId}(h:H b=some (Oa c e)){n:Nat}(hn:c.size=n)(hy:y.size=n)(hv:y.toList.all (fun v=>v.oneCell')=true){K:Hp->Prop}(k:K (H.set b (Oa y e))):
  cK H (O b) y n K:=xa h hn hy (fun v hv'=>List.all_eq_true.1 hv v (by simpa using hv')) k
theorem Hp.vt {H:Hp}{b c:Nat}{o:AO}(h:H.set b o c=none):c≠b/\H c=none:=by
 unfold Hp.set at h;split at h
 .cases h
 .exact⟨by assumption,h⟩
def ed (P:Program)(e:TypeId):Option (Nat×Nat×Option (Array Value)):=(P.info? e).map fun i=>(i.size,i.bytes,i.zero.map (·.cells))
theorem nD {P:Program}{e:TypeId}{s b:Nat}{z:Array Value}(h:ed P e=some (s,b,some z)):∃ i zz,P.info? e=some i/\i.size=s/\i.bytes=b/\i.zero=some zz/\zz.cells=z:=by
 unfold ed at h;obtain⟨i,hi,h⟩:=Option.map_eq_some_iff.1 h;simp only[Prod.mk.injEq,Option.map_eq_some_iff]at h;obtain⟨rfl,rfl,zz,hz,rfl⟩:=h;exact⟨i,zz,hi,rfl,rfl,hz,rfl⟩
theorem zO {P:Program}{e:TypeId}{s bs:Nat}{z:Array Value}(hi:ed P e=some (s,bs,some z))(hs:z.size=s){l c:Int}{n m:Nat}(hl:l=n)(hc:c=m)(hnm:n<=m)(hm:bs*m<=140737488355328)(hm2:m<=9223372036854775807){H:Hp}{K:VK}
  (k:∀ b,H b=none->K (.slice (Oo b) n m) (H.set b (.row (cI z.toList n) e (m*s)))):jA P e l c H K:=by
 obtain⟨i,zz,h1,rfl,rfl,h4,rfl⟩:=nD hi;subst hl;subst hc;unfold jA;rw[h1];simp only;rw[h4];simp only;rw[show Nat.beq zz.cells.size i.size=true by rw[hs];exact Nat.beq_refl _];simp only;refine⟨by omega,by omega,?_,by omega,fun b hb=>?_⟩
 .rw[<- Int.natCast_mul];exact Int.ofNat_le.2 hm
 .exact k b hb
theorem Gu {P:Program}{e:TypeId}{s bs:Nat}{z:Array Value}(hi:ed P e=some (s,bs,some z))(hs:z.size=s)(hbs:bs<=1073741824){H:Hp}{b0 m len cap n:Nat}{xs ys:List Value}{x:Value}(hb:H b0=some (.row xs e m))(hx:xs.length=len*s)(hc:cap*s<=m)
  (hn:s9 x=some n) (hsrc:jx H s n x=some ys) (hy:ys.length=n*s) (hone:∀ y∈ys,y.oneCell'=true) (h1:(len+n)*bs<=35184372088832) (h2:len+n<=35184372088832) {K:VK}
  (k:∀ b c m',len+n<=c->c*s<=m'->(H.erase b0) b=none->K (.slice (Oo b) (len+n) c) ((H.erase b0).set b (.row (xs++ys) e m'))):jq P e (.slice (Oo b0) len cap) x H K:=by
 obtain⟨i,zz,h3,rfl,rfl,h4,rfl⟩:=nD hi;unfold jq;simp only[h3];exact⟨n,ys,hn,hsrc,hy,List.all_eq_true.2 hone,hbs,h1,h2,⟨zz,h4,hs⟩,.inr ⟨b0,xs,m,rfl,hb,hx,hc,fun c m' hcm hlc b hbn=>k b c m' hlc hcm hbn⟩⟩
theorem Gt {P:Program}{e:TypeId}{s bs:Nat}{z:Array Value}(hi:ed P e=some (s,bs,some z))(hs:z.size=s)(hbs:bs<=1073741824){H:Hp}{n:Nat}{ys:List Value}{x:Value}
  (hn:s9 x=some n) (hsrc:jx H s n x=some ys) (hy:ys.length=n*s) (hone:∀ y∈ys,y.oneCell'=true) (h1:n*bs<=35184372088832) (h2:n<=35184372088832) {K:VK}
  (k0:n=0->K (.slice none 0 0) H) (k:0<n->∀ b c,n<=c->H b=none->K (.slice (Oo b) n c) (H.set b (.row ys e (c*s)))):jq P e (.slice none 0 0) x H K:=by
 obtain⟨i,zz,h3,rfl,rfl,h4,rfl⟩:=nD hi;unfold jq;rw[h3];exact⟨n,ys,hn,hsrc,hy,List.all_eq_true.2 hone,hbs,by rw[Nat.zero_add];exact h1,by rw[Nat.zero_add];exact h2,⟨zz,h4,hs⟩,.inl ⟨rfl,rfl,rfl,k0,fun h0 c hc b hb=>k h0 b c hc hb⟩⟩
theorem Ei {H:Hp}{A:OA}{bs:List UInt8}{n:Nat}(h:Cells H A (aC bs))(hn:n=bs.length){K:ByteArray->Prop}(k:K ⟨bs.toArray⟩):Ii H A n K:=by
 subst hn;refine⟨⟨bs.toArray⟩,k,by simp[ByteArray.size],?_⟩;cases A with
 |none=>
  cases bs with
  |nil=>rfl
  |cons b bs=>obtain⟨a,ha,_⟩:=h 0 _ rfl;cases ha
 |some ad=>
  have key:∀(l:List UInt8) (i:Nat),(∀ j v,(aC l)[j]? =some v->H.cell? (ad.add (i+j))=some v)->ry H ad l i:=by
   intro l
   induction l with
   |nil=>intro i _;trivial
   |cons b l ih=>
    intro i hl;refine⟨hl 0 _ rfl,ih (i+1) (fun j v hj=>?_)⟩;have:=hl (j+1) v hj
    rwa [show i+(j+1)=i+1+j by omega]at this
  simpa using key bs 0 (fun j v hj=>by rw[Nat.zero_add];exact h.get hj)
theorem qd (bs:List UInt8)(i:Nat):(aC bs)[i]? =(bs[i]?).map fun b=>Value.int .u8 (b.toNat:Int):=by simp[aC]
theorem bk (bs:List UInt8):(aC bs).length=bs.length:=by simp[aC]
theorem qJ (a b:List UInt8):aC (a++b)=aC a++aC b:=by simp[aC]
def af (l:List UInt64):List Value:=l.map fun w=>U (w.toNat:Int)
theorem ct (l:List UInt64)(i:Nat):(af l)[i]? =(l[i]?).map fun w=>Value.int .u64 (w.toNat:Int):=by simp[af]
theorem aB (l:List UInt64):(af l).length=l.length:=by simp[af]
end Go.Hw
