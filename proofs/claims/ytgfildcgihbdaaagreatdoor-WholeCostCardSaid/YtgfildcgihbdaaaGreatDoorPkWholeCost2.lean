import Derived.WalkKit
import Derived.ProofKit
import Derived.OpenShut
import Derived.ShutString
import Derived.ChangeOld
import Derived.Below
import Derived.SizedLaws
import Derived.Lib.LaidTab
import Derived.Stop.LaidErr
import Derived.Test.YtgfildcgihbdaaaGreatDoorProg
import Derived.Laws.Externs
import Derived.Test.YtgfildcgihbdaaaGreatDoorPkWholeCost1
set_option maxRecDepth 100000
set_option linter.unusedSimpArgs false
set_option linter.unusedVariables false
set_option linter.unnecessarySimpa false
set_option linter.unusedSectionVars false
open Go.IntKind (i64 u64 u8)
namespace Go.Hw
open Go Go.RowKit Go.ChangeShapes Go.WideShapes Go.ChangeAt
theorem jZg {H:Type}{enc:TypeId×Value→H}{P:Program}(hl:laidOutB P=true){W W':World}(hb:Below W.heap.size W W'):
  ∀{ts:List TypeId} {vs:List Value} {ds:List (DataW H)} {ps:List MemPlace},(ts.all fun t=>P.readableRec t&&decide (t<P.types.size))=true→(∀ x∈ps,x.block<W.heap.size)→
   DataW.TrodAll enc P W 0 (fun _=>true) true ts vs ds ps→DataW.TrodAll enc P W' 0 (fun b=>decide (b<W.heap.size)) true ts vs ds ps
 | [],[],[],_,_,_,h=>h
 | [],_::_,_,_,_,_,h=>h.elim
 | [],[],_::_,_,_,_,h=>h.elim
 |_::_,[],_,_,_,_,h=>h.elim
 |_::_,_::_,[],_,_,_,h=>h.elim
 |t::ts,v::vs,d::ds,ps,hr,hlt,h=>by
  obtain⟨p,q,h1,h2,rfl⟩:=h;simp only[List.all_cons,Bool.and_eq_true,decide_eq_true_eq]at hr;exact⟨p,q,Below.trod hl hr.1.1 hr.1.2 h1 hb (fun x hx=>hlt x (by simp[hx])),jZg hl hb hr.2 (fun x hx=>hlt x (by simp[hx])) h2,rfl⟩
def hZx (P:Program)(ns:List String):Bool:=
 ns.all fun n=>match P.globalNamed n with
  |some g=>match P.globals[g]? with|some gl=>P.readableRec gl.type&&decide (gl.type<P.types.size)|none=>true
  |none=>true
theorem iZK {H:Type}{enc:TypeId×Value→H}{P:Program}(hl:laidOutB P=true){W W':World}(hb:Below W.heap.size W W'):
  ∀{ns:List String} {gs:List (DataW H)} {ps:List MemPlace},hZx P ns=true→DataW.TrodVars enc P W (fun _=>true) ns gs ps→DataW.TrodVars enc P W' (fun b=>decide (b<W.heap.size)) ns gs ps
 | [],[],_,_,h=>h
 | [],_::_,_,_,h=>h.elim
 |_::_,[],_,_,h=>h.elim
 |n::ns,d::ds,ps,hv,h=>by
  have hlt:=h.lt;obtain⟨g,t,cs,fuel,p,q,h1,h2,h3,h4,hs,rfl⟩:=h;simp only[hZx,List.all_cons,Bool.and_eq_true]at hv;obtain⟨gl,hg,rfl⟩:=Option.map_eq_some_iff.1 h2;have ht:=hv.1;rw[h1]at ht;simp only[hg,Bool.and_eq_true,decide_eq_true_eq]at ht;have hp:∀ x∈p,x.block<W.heap.size:=fun x hx=>hlt x (by simp[hx])
  have h3':W'.var? P n=some cs:=by
   unfold World.var? at h3⊢;rw[h1]at h3⊢;simp only[Option.bind_some]at h3⊢;have hgs:g<W.heap.size:=by
    cases hh:W.heap[g]? with
    |none=>rw[hh]at h3;cases h3
    |some o=>exact(Array.getElem?_eq_some_iff.1 hh).1
   rw[hb.block g hgs];exact h3
  obtain⟨fuel',h4'⟩:=Below.trod hl ht.1 ht.2 (v:=.agg cs) ⟨fuel,h4⟩ hb hp;exact⟨g,gl.type,cs,fuel',p,q,h1,h2,h3',h4',
   iZK hl hb (by simpa [hZx]using hv.2) hs,rfl⟩
theorem law_post {H:Type}{enc:TypeId×Value→H}{P:Program}{fn:Func}{s:ChangeSpec}{f:FuncId}{W:World}{args:Array Value}{ds gs:List (DataW H)}{before:List MemPlace}{tb:TypeId}
  (hl:laidOutB P=true) (hrt:fn.resultTypes=#[tb]) (hb:P.underlying tb=some .bool) (hrd:(fn.params.toList.all fun t=>P.readableRec t&&decide (t<P.types.size))=true) (hv:hZx P s.vars=true)
  (hs:s.fn H (ds++gs)={ results:=[.lit (.bool true)],args:=ds,vars:=gs}) (hW:DataW.Whole enc P fn.params.toList s.vars false W args.toList ds gs before)
  (h:Za P f args (Full W) (Ret (.bool true) (Full W))):Calls P f args W fun e W'=>∃ v,e= .returned v∧s.post enc P fn false true false false W args v W':=by
 refine(sZi h).mono fun e W' ⟨he,bel⟩=>⟨_,he,?_⟩
 have hlt:∀ x∈before,x.block<W.heap.size:=fun x hx=>by simpa using hW.lt x hx
 have hW':=hW;obtain⟨p,q,hA,hV,rfl,hfz,hnd⟩:=hW;refine⟨ds,gs,p++q,[],p,q,hW',?_,?_,?_,bel.frame _,fun h=>by cases h⟩
 ·rw[hs,hrt];exact trodAll_mk1 (shut_bool hb _)
 ·rw[hs];exact jZg hl bel hrd (fun x hx=>hlt x (by simp[hx])) hA
 ·rw[hs];exact iZK hl bel hv hV
theorem Full.cell' {w:World}{a:Addr}{v:Value}(h:w.cell? a=some v):(Full w).cell? a=some v:=by
 unfold World.cell? at h;unfold Hp.cell? Full;split at h
 ·rename_i c e f hb
  simp only[hb,Option.map_some];exact h
 ·cases h
theorem kZS {α β:Type}{f:α→Option β}:∀{l:List α} {ys:List β},l.mapM f=some ys→ys.length=l.length∧∀(i:Nat) (x:α),l[i]? =some x→∃ y,ys[i]? =some y∧f x=some y
 | [],ys,h=>by
  simp at h;subst h;exact⟨rfl,fun i x hx=>by simp at hx⟩
 |x::l,ys,h=>by
  simp only[List.mapM_cons,Option.bind_eq_bind,Option.bind_eq_some_iff,Option.pure_def,Option.some.injEq]at h;obtain⟨y,hy,ys',hys,rfl⟩:=h;obtain⟨h1,h2⟩:=kZS hys;refine⟨by simp[h1],fun i x' hx=>?_⟩;cases i with
  |zero=>simp at hx;subst hx;exact⟨y,rfl,hy⟩
  |succ i=>simpa using h2 i x' (by simpa using hx)
theorem qZn {H:Type}{enc:TypeId×Value→H}{P:Program}{W:World}{sp:Nat→Bool}{held:Bool}{fuel:Nat}{t e:TypeId}{cs:List Value}{d:DataW H}{ps:List MemPlace}(hu:P.underlying t=some (.slice e))(h:DataW.trod enc P W 0 sp held fuel t cs=some (d,ps)):
  ∃ A n c,cs=[.slice A n c]∧n≤c∧c≤maxLen∧∃ rows:List (List Value),rows.length=n∧∀(i:Nat) (r:List Value),rows[i]? =some r→∃ a,A=some a∧(∀ j v,r[j]? =some v→(Full W).cell? (a.add (i*P.cellsOf e+j))=some v)∧r.length=P.cellsOf e∧
   ∃ f d' p',DataW.trod enc P W 0 sp held f e r=some (d',p'):=by
 cases fuel with
 |zero=>simp[DataW.trod]at h
 |succ fuel=>
  unfold DataW.trod at h;rw[hu]at h
  match cs,h with
  | [.slice none 0 0],h=>exact⟨none,0,0,rfl,Nat.le_refl _,Nat.zero_le _,[],rfl,fun i r hr=>by simp at hr⟩
  | [.slice (some a) n c],h=>
   simp only at h;split at h
   ·rename_i hc
    obtain⟨elems,he,h⟩:=Option.bind_eq_some_iff.1 h;obtain⟨hl,hg⟩:=kZS he;have hrow:∀ i,i<n→∃ r,W.cells? 0 (a.add (i*P.cellsOf e)) (P.cellsOf e)=some r∧∃ x,DataW.trod enc P W 0 sp held fuel e r=some x:=fun i hi=>by
     obtain⟨y,_,hy⟩:=hg i i (by simp[hi]);obtain⟨r,hr,hy⟩:=Option.bind_eq_some_iff.1 hy;exact⟨r,hr,y,hy⟩
    have hr0:∀ i,i<n→∃ r,W.cells? 0 (a.add (i*P.cellsOf e)) (P.cellsOf e)=some r:=fun i hi=>(hrow i hi).imp fun _ h=>h.1
    let rows:=(List.range n).map fun i=>(W.cells? 0 (a.add (i*P.cellsOf e)) (P.cellsOf e)).getD []
    refine⟨some a,n,c,rfl,hc.2.1,hc.2.2,rows,by simp[rows],fun i r hr=>⟨a,rfl,?_⟩⟩;have hi:i<n:=by
     have:=(List.getElem?_eq_some_iff.1 hr).1;simpa [rows]using this
    obtain⟨r',hr',x,hx⟩:=hrow i hi;have:r=r':=by
     simp only[rows,List.getElem?_map,List.getElem?_range hi,Option.map_some,hr',Option.getD_some,Option.some.injEq]at hr;exact hr.symm
    subst this;unfold World.cells? at hr';rw[if_pos (Nat.zero_le _)]at hr';obtain⟨hl',hg'⟩:=kZS hr';refine⟨fun j v hv=>?_,by simpa using hl',fuel,x.1,x.2,hx⟩;have hj:j<P.cellsOf e:=by
     have:=(List.getElem?_eq_some_iff.1 hv).1;rw[hl']at this;simpa using this
    obtain⟨y,hy,hy'⟩:=hg' j j (by simp[hj]);rw[hv]at hy;cases hy;have ha:(a.add (i*P.cellsOf e)).add j=a.add (i*P.cellsOf e+j):=by
     unfold Addr.add;by_cases h1:i*P.cellsOf e=0<;>by_cases h2:j=0<;>simp_all [Nat.add_assoc]
    rw[← ha];exact Full.cell' hy'
   ·cases h
  | [.slice none (_+1) _],h=>simp at h
  | [.slice none 0 (_+1)],h=>simp at h
  | [],h=>simp at h
  |_::_::_,h=>simp at h
  | [.int ..],h=>simp at h
theorem lZS {H:Hp}{A:OA}{n:Nat}{α:Type}{g:α→Value}{q:α→Prop}{rows:List (List Value)}(hl:rows.length=n)
  (h:∀(i:Nat) (r:List Value),rows[i]? =some r→∃ a,A=some a∧(∀ j v,r[j]? =some v→H.cell? (a.add (i*1+j))=some v)∧∃ x,r=[g x]∧q x):∃ l:List α,l.length=n∧Cells H A (l.map g)∧∀ x∈l,q x:=by
 have hx:∀ i:Fin rows.length,∃ x,rows[i]=[g x]∧q x:=fun i=>by
  obtain⟨_,_,_,x,hx,hq⟩:=h i rows[i] (by simp);exact⟨x,hx,hq⟩
 let f:Fin rows.length→α:=fun i=>Classical.choose (hx i)
 have hf:∀ i:Fin rows.length,rows[i]=[g (f i)]∧q (f i):=fun i=>Classical.choose_spec (hx i)
 refine⟨List.ofFn f,by simp[hl],fun i v hv=>?_,fun x hx=>?_⟩
 ·rw[List.getElem?_map]at hv;obtain⟨y,hy,rfl⟩:=Option.map_eq_some_iff.1 hv;have hi:i<rows.length:=by
   have:=(List.getElem?_eq_some_iff.1 hy).1;simpa using this
  have hy':y=f ⟨i,hi⟩:=by
   rw[List.getElem?_ofFn]at hy;simp only[hi,dif_pos,Option.some.injEq]at hy;exact hy.symm
  subst hy';obtain⟨a,ha,hc,_⟩:=h i rows[i] (by simp);refine⟨a,ha,?_⟩;have:=hc 0 (g (f ⟨i,hi⟩)) (by rw[show rows[i]=[g (f ⟨i,hi⟩)]from(hf ⟨i,hi⟩).1];rfl);simpa using this
 ·obtain⟨i,rfl⟩:=List.mem_ofFn.1 hx;exact(hf i).2
section
variable {H : Type} {enc : TypeId × Value → H} {P : Program} {W : World} {t e : TypeId} {v : Value} {d : DataW H} {ps : List MemPlace} {r : Reach} {base : Nat}
theorem nZi {fuel:Nat}{k:IntKind}{cs:List Value}(hu:P.underlying t=some (.slice e))(he:P.underlying e=some (.int k))(h1:P.cellsOf e=1)(h:DataW.trod enc P W 0 (fun _=>true) true fuel t cs=some (d,ps)):
  ∃ A n c,cs=[.slice A n c]∧n≤c∧c≤maxLen∧∃ ns:List Int,ns.length=n∧Cells (Full W) A (ns.map (.int k))∧∀ x∈ns,(Lit.int k x).wf=true:=by
 obtain⟨A,n,c,rfl,h2,h3,rows,hl,hr⟩:=qZn hu h;refine⟨A,n,c,rfl,h2,h3,?_⟩;refine lZS (g:=fun x=>Value.int k x) hl fun i r hi=>?_
 obtain⟨a,ha,hc,hlen,f,d',p',hd⟩:=hr i r hi;rw[h1]at hc;obtain⟨x,hx,_,hw⟩:=DataW.trod_int he hd;exact⟨a,ha,hc,x,hx,hw⟩
theorem trod_bytes {fuel:Nat}{cs:List Value}(hu:P.underlying t=some (.slice e))(he:P.underlying e=some (.int .u8))(h1:P.cellsOf e=1)(h:DataW.trod enc P W 0 (fun _=>true) true fuel t cs=some (d,ps)):
  ∃ A n c,cs=[.slice A n c]∧n≤c∧c≤maxLen∧∃ bs:List UInt8,bs.length=n∧Cells (Full W) A (Zm bs):=by
 obtain⟨A,n,c,rfl,h2,h3,ns,hl,hc,hw⟩:=nZi hu he h1 h;refine⟨A,n,c,rfl,h2,h3,ns.map fun x=>UInt8.ofNat x.toNat,by simpa using hl,?_⟩;have:Zm (ns.map fun x=>UInt8.ofNat x.toNat)=ns.map (.int .u8):=by
  unfold Zm;rw[List.map_map];apply List.map_congr_left;intro x hx;have:=hw x hx;simp only[Lit.wf,Bool.and_eq_true,decide_eq_true_eq]at this;obtain⟨h4,h5⟩:=this;have h4':0≤x:=h4;have h5':x≤255:=h5;simp only[Function.comp,Value.int.injEq,true_and];rw[UInt8.toNat_ofNat_of_lt' (by show x.toNat<256;omega)];omega
 rw[this];exact hc
theorem trod_words {fuel:Nat}{cs:List Value}(hu:P.underlying t=some (.slice e))(he:P.underlying e=some (.int .u64))(h1:P.cellsOf e=1)(h:DataW.trod enc P W 0 (fun _=>true) true fuel t cs=some (d,ps)):
  ∃ A n c,cs=[.slice A n c]∧n≤c∧c≤maxLen∧∃ l:List UInt64,l.length=n∧Cells (Full W) A (Zc l):=by
 obtain⟨A,n,c,rfl,h2,h3,ns,hl,hc,hw⟩:=nZi hu he h1 h;refine⟨A,n,c,rfl,h2,h3,ns.map fun x=>UInt64.ofNat x.toNat,by simpa using hl,?_⟩;have:Zc (ns.map fun x=>UInt64.ofNat x.toNat)=ns.map (.int .u64):=by
  unfold Zc;rw[List.map_map];apply List.map_congr_left;intro x hx;have:=hw x hx;simp only[Lit.wf,Bool.and_eq_true,decide_eq_true_eq]at this;obtain⟨h4,h5⟩:=this;have h4':0≤x:=h4;have h5':x≤18446744073709551615:=h5;simp only[Function.comp,Value.int.injEq,true_and];rw[UInt64.toNat_ofNat_of_lt' (by show x.toNat<18446744073709551616;omega)];omega
 rw[this];exact hc
theorem trod_bools {fuel:Nat}{cs:List Value}(hu:P.underlying t=some (.slice e))(he:P.underlying e=some .bool)(h1:P.cellsOf e=1)(h:DataW.trod enc P W 0 (fun _=>true) true fuel t cs=some (d,ps)):
  ∃ A n c,cs=[.slice A n c]∧n≤c∧c≤maxLen∧∃ ns:List Bool,ns.length=n∧Cells (Full W) A (ns.map .bool):=by
 obtain⟨A,n,c,rfl,h2,h3,rows,hl,hr⟩:=qZn hu h;obtain⟨ns,h4,h5,_⟩:=lZS (g:=Value.bool) (q:=fun _=>True) hl fun i r hi=>by
  obtain⟨a,ha,hc,hlen,f,d',p',hd⟩:=hr i r hi;rw[h1]at hc;obtain⟨x,hx,_⟩:=DataW.trod_bool he hd;exact⟨a,ha,hc,x,hx,trivial⟩
 exact⟨A,n,c,rfl,h2,h3,ns,h4,h5⟩
theorem open_sl (hu:P.underlying t=some (.slice e))(hval:Value.okWide P W r base t v)(h:DataW.Trod enc P W 0 (fun _=>true) true t v d ps):∃ A n c,v= .slice A n c∧∃ fuel,DataW.trod enc P W 0 (fun _=>true) true fuel t [.slice A n c]=some (d,ps):=by
 obtain⟨A,n,c,rfl⟩:=okWide_slice hu hval;obtain⟨fuel,h⟩:=h;exact⟨A,n,c,rfl,fuel,h⟩
end
theorem wf_int {k:IntKind}{n:Int}(h:(Lit.int k n).wf=true):k.min≤n∧n≤k.max:=by
 simpa [Lit.wf]using h
end Go.Hw
namespace Go.Hw
open Go
def Hp.patch (H H1 H1':Hp):Hp:=fun b=>match H1' b with|some o=>some o|none=>match H1 b with|some _=>none|none=>H b
theorem At.patch {H H1 H1':Hp}{w w':World}(hH:Fits H w)(hle:H1.le H)(h:At H1 w H1' w'):At H w (H.patch H1 H1') w':=by
 refine⟨fun b o hb=>?_,h.size,h.os,h.tape,h.output,fun b hb h0=>?_⟩
 ·unfold Hp.patch at hb;split at hb
  ·rename_i o' ho'
   cases hb;exact h.fits b _ ho'
  ·rename_i hn
   split at hb
   ·cases hb
   ·rename_i h1
    obtain⟨x,hx,hh⟩:=hH b o hb;refine⟨x,?_,hh⟩;rw[(h.old b (Array.getElem?_eq_some_iff.1 hx).1 h1).2];exact hx
 ·have h1:H1 b=none:=by
   cases e:H1 b with
   |none=>rfl
   |some o=>rw[hle b o e]at h0;cases h0
  obtain⟨h2,h3⟩:=h.old b hb h1;refine⟨?_,h3⟩;unfold Hp.patch;rw[h2,h1];exact h0
theorem Za.frame {P:Program}{f:FuncId}{args:Array Value}{H H1:Hp}{R:VK}(h:Za P f args H1 R)(hle:H1.le H):
  Za P f args H fun v H'=>∃ H1',R v H1'∧H'=H.patch H1 H1'∧∀ b,H b≠none→H1 b=none→H1' b=none:=fun w hw=>by
 have hw1:Fits H1 w:=fun b o hb=>hw b o (hle b o hb)
 refine(h w hw1).mono ?_;rintro e w' ⟨v,H1',rfl,hr,hA⟩;refine⟨v,_,rfl,⟨H1',hr,rfl,fun b hb h1=>?_⟩,hA.patch hw hle⟩;cases hq:H b with
 |none=>exact absurd hq hb
 |some o=>
  obtain⟨x,hx,_⟩:=hw b o hq;exact(hA.old b (Array.getElem?_eq_some_iff.1 hx).1 h1).1
abbrev As :=Hp→Prop
def dZf (H1 H2:Hp):Prop:=∀ b,H1 b=none∨H2 b=none
def Hp.or (H1 H2:Hp):Hp:=fun b=>match H1 b with|some o=>some o|none=>H2 b
theorem Hp.le_none {H H':Hp}{b:Nat}(h:H.le H')(hn:H' b=none):H b=none:=by
 cases e:H b with
 |none=>rfl
 |some o=>rw[h b o e]at hn;cases hn
theorem dZf.symm {H1 H2:Hp}(h:dZf H1 H2):dZf H2 H1:=fun b=>(h b).symm
theorem dZf.le {H1 H2 H1' H2':Hp}(h:dZf H1 H2)(h1:H1'.le H1)(h2:H2'.le H2):dZf H1' H2':=fun b=>
 (h b).elim (fun e=>.inl (Hp.le_none h1 e)) (fun e=>.inr (Hp.le_none h2 e))
theorem dZf.or {H1 H2 H3:Hp}(h:dZf H1 H3)(k:dZf H2 H3):dZf (H1.or H2) H3:=fun b=>by
 unfold Hp.or;rcases h b with e|e
 ·rw[e];exact k b
 ·exact .inr e
theorem Hp.or_le {H1 H2 H:Hp}(h1:H1.le H)(h2:H2.le H):(H1.or H2).le H:=fun b o ho=>by
 unfold Hp.or at ho;split at ho
 ·rename_i o' e;cases ho;exact h1 b _ e
 ·exact h2 b o ho
theorem Hp.le_or_left (H1 H2:Hp):H1.le (H1.or H2):=fun b o ho=>by unfold Hp.or;rw[ho]
theorem Hp.le_or_right {H1 H2:Hp}(h:dZf H1 H2):H2.le (H1.or H2):=fun b o ho=>by
 unfold Hp.or;rcases h b with e|e
 ·rw[e];exact ho
 ·rw[e]at ho;cases ho
def Sep :List As→Hp→Prop
 | [],_=>True
 |A::L,H=>∃ H1 H2,H1.le H∧H2.le H∧dZf H1 H2∧A H1∧Sep L H2
theorem Sep.up :∀{L:List As} {H H':Hp},Sep L H→H.le H'→Sep L H'
 | [],_,_,_,_=>trivial
 |_::_,_,_,⟨H1,H2,h1,h2,h3,h4,h5⟩,k=>⟨H1,H2,Hp.le_trans h1 k,Hp.le_trans h2 k,h3,h4,h5⟩
theorem Sep.swap {A B:As}{L:List As}{H:Hp}:Sep (A::B::L) H→Sep (B::A::L) H
 |⟨H1,H2,h1,h2,h3,h4,H3,H4,k1,k2,k3,k4,k5⟩=>
  ⟨H3,H1.or H4,Hp.le_trans k1 h2,Hp.or_le h1 (Hp.le_trans k2 h2),(dZf.or (h3.le (Hp.le_refl _) k1) k3.symm).symm,k4,H1,H4,Hp.le_or_left _ _,Hp.le_or_right (h3.le (Hp.le_refl _) k2),h3.le (Hp.le_refl _) k2,h4,k5⟩
theorem Sep.perm {L L':List As}(p:L.Perm L'):∀{H:Hp},Sep L H→Sep L' H:=by
 induction p with
 |nil=>exact fun h=>h
 |cons A _ ih=>exact fun⟨H1,H2,h1,h2,h3,h4,h5⟩=>⟨H1,H2,h1,h2,h3,h4,ih h5⟩
 |swap A B L=>exact fun h=>h.swap
 |trans _ _ ih1 ih2=>exact fun h=>ih2 (ih1 h)
theorem Sep.tail {A:As}{L:List As}{H:Hp}:Sep (A::L) H→Sep L H
 |⟨_,_,_,h2,_,_,h5⟩=>h5.up h2
theorem Sep.drop :∀{M L:List As} {H:Hp},Sep (M++L) H→Sep L H
 | [],_,_,h=>h
 |_::_,_,_,h=>Sep.drop h.tail
theorem Sep.take {M L:List As}{H:Hp}(h:Sep (M++L) H):Sep M H:=Sep.drop (Sep.perm List.perm_append_comm h)
theorem Sep.map {A:As}{L M:List As}{H:Hp}(h:Sep (A::L) H)(k:∀ H1,A H1→Sep M H1):Sep (M++L) H:=by
 obtain⟨H1,H2,h1,h2,h3,h4,h5⟩:=h;have hM:=k H1 h4;clear h4 k
 induction M generalizing H1 H with
 |nil=>exact h5.up h2
 |cons B M ih=>
  obtain⟨H3,H4,k1,k2,k3,k4,k5⟩:=hM;exact⟨H3,H4.or H2,Hp.le_trans k1 h1,Hp.or_le (Hp.le_trans k2 h1) h2,(dZf.or k3.symm (h3.le k1 (Hp.le_refl _)).symm).symm,k4,ih (H4) (Hp.le_or_left _ _) (Hp.le_or_right (h3.le k2 (Hp.le_refl _))) (h3.le k2 (Hp.le_refl _)) k5⟩
theorem Sep.append {M L:List As}{H:Hp}(h:Sep (M++L) H):∃ H1 H2,H1.le H∧H2.le H∧dZf H1 H2∧Sep M H1∧Sep L H2:=by
 induction M generalizing H with
 |nil=>exact⟨fun _=>none,H,fun b o h=>(by cases h),Hp.le_refl _,fun b=>Or.inl rfl,trivial,h⟩
 |cons A M ih=>
  obtain⟨H1,H2,h1,h2,h3,h4,h5⟩:=h;obtain⟨H3,H4,k1,k2,k3,k4,k5⟩:=ih h5;exact⟨H1.or H3,H4,Hp.or_le h1 (Hp.le_trans k1 h2),Hp.le_trans k2 h2,dZf.or (h3.le (Hp.le_refl _) k2) k3,⟨H1,H3,Hp.le_or_left _ _,Hp.le_or_right (h3.le (Hp.le_refl _) k1),h3.le (Hp.le_refl _) k1,h4,k4⟩,k5⟩
theorem Sep.join {M L:List As}{H1 H2 H:Hp}(h1:H1.le H)(h2:H2.le H)(h3:dZf H1 H2)(hM:Sep M H1)(hL:Sep L H2):Sep (M++L) H:=by
 have:Sep (Sep M::L) H:=⟨H1,H2,h1,h2,h3,hM,hL⟩;exact this.map (fun _ h=>h)
def sel (L:List As):List Nat→List As
 | []=>[]
 |i::is=>match L[i]? with|some A=>A::sel L is|none=>sel L is
def rest (L:List As)(is:List Nat):List As:=go 0 L
where go (k:Nat):List As→List As
 | []=>[]
 |A::L=>match is.contains k with|true=>go (k+1) L|false=>A::go (k+1) L
theorem uZb (L:List As):rest L []=L:=by
 have key:∀(L:List As) k,rest.go [] k L=L:=by
  intro L
  induction L with
  |nil=>intro k;rfl
  |cons A L ih=>intro k;unfold rest.go;simp only[List.contains_nil];rw[ih]
 exact key L 0
theorem sZC {o:Option As}{c:Prop}[Decidable c]{X:As→List As}{Y Z:List As}(hc:¬c)(h:Y.Perm Z):(match o with|some A=>if c then X A else Y|none=>Y).Perm Z:=by
 cases o with
 |none=>exact h
 |some A=>simp only[hc,if_false];exact h
theorem lZL {o:Option As}{c:Prop}[Decidable c]{X:As→List As}{Y Z:List As}(hc:¬c)(h:(match o with|some A=>if c then X A else Y|none=>Y).Perm Z):Y.Perm Z:=by
 cases o with
 |none=>exact h
 |some A=>simp only[hc,if_false]at h;exact h
theorem sZI (i:Nat)(is:List Nat)(hi:is.contains i=false)(L:List As):(match L[i]? with|some A=>(A::rest L (i::is))|none=>rest L (i::is)).Perm (rest L is):=by
 have key:∀(L:List As) (k:Nat),(match L[i-k]? with|some A=>if k≤i then(A::rest.go (i::is) k L)else rest.go (i::is) k L|none=>rest.go (i::is) k L).Perm (rest.go is k L):=by
  intro L
  induction L with
  |nil=>intro k;simp[rest.go]
  |cons A L ih=>
   intro k;have ih:=ih (k+1);by_cases hk:k≤i
   ·by_cases e:i=k
    ·subst e;have ih:=lZL (by omega) ih;unfold rest.go;simp only[Nat.sub_self,List.getElem?_cons_zero,Nat.le_refl,if_true];rw[show(i::is).contains i=true by simp,hi];exact List.Perm.cons A ih
    ·have hc:(i::is).contains k=is.contains k:=by
      rw[List.contains_cons,show(k==i)=false by simp;omega];simp
     have h1:i-k=(i-(k+1))+1:=by omega
     rw[h1,List.getElem?_cons_succ];have hk':k+1≤i:=by omega
     simp only[hk',if_true]at ih;simp only[hk,if_true];unfold rest.go;rw[hc];cases hb:is.contains k with
     |true=>exact ih
     |false=>
      simp only;cases h:L[i-(k+1)]? with
      |none=>rw[h]at ih;exact List.Perm.cons A ih
      |some B=>rw[h]at ih;exact(List.Perm.swap A B _).trans (List.Perm.cons A ih)
   ·have ih:=lZL (by omega) ih;refine sZC hk ?_;have hc:(i::is).contains k=is.contains k:=by
     rw[List.contains_cons,show(k==i)=false by simp;omega];simp
    unfold rest.go;rw[hc];cases is.contains k
    ·exact List.Perm.cons A ih
    ·exact ih
 have:=key L 0;simpa [rest]using this
def hZQ :List Nat→Bool
 | []=>true
 |i::is=> !is.contains i&&hZQ is
theorem kZ2 (L:List As):∀(is:List Nat),hZQ is=true→(sel L is++rest L is).Perm L
 | [],_=>by rw[uZb];exact .refl _
 |i::is,h=>by
  unfold hZQ at h;simp only[Bool.and_eq_true,Bool.not_eq_true']at h;have ih:=kZ2 L is h.2;have hr:=sZI i is h.1 L;unfold sel;cases e:L[i]? with
  |none=>rw[e]at hr;exact(List.Perm.append_left _ hr).trans ih
  |some A=>
   rw[e]at hr;refine List.Perm.trans ?_ ((List.Perm.append_left _ hr).trans ih);exact List.perm_middle.symm
theorem Sep.re {L:List As}{H:Hp}(h:Sep L H)(is:List Nat)(hn:hZQ is=true):Sep (sel L is) H:=
 Sep.take (Sep.perm (kZ2 L is hn).symm h)
theorem Sep.split {L:List As}{H:Hp}(h:Sep L H)(is:List Nat)(hn:hZQ is=true):Sep (sel L is++rest L is) H:=Sep.perm (kZ2 L is hn).symm h
theorem Sep.see {L:List As}{H:Hp}(h:Sep L H)(i:Nat){A:As}(hi:L[i]? =some A):∃ H1,A H1∧H1.le H:=by
 have h1:Sep [A] H:=by
  have:=h.re [i] rfl;unfold sel at this;rw[hi]at this;exact this
 obtain⟨H1,_,k1,_,_,k4,_⟩:=h1;exact⟨H1,k4,k1⟩
def pts (b:Nat)(o:AO):As:=fun H=>H b=some o
def own (H0:Hp):As:=fun H=>H0.le H
theorem Sep.get {L:List As}{H:Hp}(h:Sep L H)(i:Nat){b:Nat}{o:AO}(hi:L[i]? =some (pts b o)):H b=some o:=by
 obtain⟨H1,h1,h2⟩:=h.see i hi;exact h2 _ _ h1
theorem Sep.ow {L:List As}{H H0:Hp}(h:Sep L H)(i:Nat)(hi:L[i]? =some (own H0)):H0.le H:=by
 obtain⟨H1,h1,h2⟩:=h.see i hi;exact Hp.le_trans h1 h2
theorem Sep.start (H:Hp):Sep [own H] H:=⟨H,fun _=>none,Hp.le_refl _,fun b o h=>(by cases h),fun b=>Or.inr rfl,Hp.le_refl _,trivial⟩
theorem Sep.new {L:List As}{H:Hp}(h:Sep L H){b:Nat}(hb:H b=none)(o:AO):Sep (L++[pts b o]) (H.set b o):=by
 refine Sep.join (H1:=H) (H2:=fun c=>if c=b then some o else none) (Hp.le_set hb) ?_ ?_ h ⟨_,fun _=>none,Hp.le_refl _,fun b o h=>(by cases h),fun b=>.inr rfl,(if_pos rfl:(if b=b then some o else none)=some o),trivial⟩
 ·intro c q hq;simp only at hq;split at hq
  ·rename_i e;subst e;rw[Hp.set_same];exact hq
  ·cases hq
 ·intro c;by_cases e:c=b
  ·left;rw[e];exact hb
  ·right;simp only[e,if_false]
theorem Sep.put {L:List As}{H:Hp}(h:Sep L H)(i:Nat){b:Nat}{o:AO}(o':AO)(hi:L[i]? =some (pts b o)):Sep (L.set i (pts b o')) (H.set b o'):=by
 have key:∀(L:List As) (i:Nat) (H:Hp),Sep L H→L[i]? =some (pts b o)→Sep (L.set i (pts b o')) (H.set b o'):=by
  intro L
  induction L with
  |nil=>intro i H _ hi;simp at hi
  |cons A L ih=>
   intro i H h hi;obtain⟨H1,H2,h1,h2,h3,h4,h5⟩:=h;cases i with
   |zero=>
    simp only[List.getElem?_cons_zero,Option.some.injEq]at hi;subst hi;have h4':H1 b=some o:=h4;have hn:H2 b=none:=(h3 b).resolve_left (by rw[h4'];simp);refine⟨H1.set b o',H2,Hp.set_le h1 b o',fun c q hq=>?_,fun c=>?_,Hp.set_same _ _ _,h5⟩
    ·rw[Hp.set_other _ _ (fun e=>by rw[e,hn]at hq;cases hq)];exact h2 c q hq
    ·by_cases e:c=b
     ·right;rw[e];exact hn
     ·rw[Hp.set_other _ _ e];exact h3 c
   |succ i=>
    rw[List.getElem?_cons_succ]at hi;have hb:H2 b=some o:=Sep.get h5 i hi;have hn:H1 b=none:=(h3 b).resolve_right (by rw[hb];simp);refine⟨H1,H2.set b o',fun c q hq=>?_,Hp.set_le h2 b o',fun c=>?_,h4,ih i H2 h5 hi⟩
    ·rw[Hp.set_other _ _ (fun e=>by rw[e,hn]at hq;cases hq)];exact h1 c q hq
    ·by_cases e:c=b
     ·left;rw[e];exact hn
     ·rw[Hp.set_other _ _ e];exact h3 c
 exact key L i H h hi
def jZz :List Value→Nat→Option Value
 | [],_=>none
 |v::_,0=>some v
 |_::l,n+1=>jZz l n
theorem mZk :∀(l:List Value) (i:Nat),jZz l i=l[i]?
 | [],_=>by simp[jZz]
 |v::_,0=>rfl
 |_::l,n+1=>by simp[jZz,mZk l n]
section
variable {L : List As} {H : Hp}
theorem Sep.nw (h:Sep L H){o:AO}{K:Nat→Hp→Prop}(k:∀ b H',Sep (L++[pts b o]) H'→K b H'):Nw H o K:=fun b hb=>k b _ (h.new hb o)
theorem Sep.ld (h:Sep L H)(i:Nat){b j:Nat}{c:Array Value}{e:TypeId}{v:Value}{K:Value→Prop}(hi:L[i]? =some (pts b (.obj (.cells c e))))(hv:jZz c.toList j=some v)(k:K v):Ld H ⟨b,j,none⟩ K:=
 bZn (h.get i hi) (by rw[mZk,Array.getElem?_toList]at hv;exact hv) k
theorem Sep.ldr (h:Sep L H)(i:Nat){b j:Nat}{xs:List Value}{e:TypeId}{m:Nat}{v:Value}{K:Value→Prop}(hi:L[i]? =some (pts b (.row xs e m)))(hv:xs[j]? =some v)(k:K v):Ld H ⟨b,j,none⟩ K:=
 wZv (h.get i hi) hv k
theorem Sep.st (h:Sep L H)(i:Nat){b j:Nat}{c:Array Value}{e:TypeId}{v:Value}{K:Hp→Prop}(hi:L[i]? =some (pts b (.obj (.cells c e))))(hj:j<c.size)(hv:v.oneCell'=true)
  (k:∀ H',Sep (L.set i (pts b (.obj (.cells (c.setIfInBounds j v) e)))) H'→K H'):St H ⟨b,j,none⟩ v K:=
 hZI (h.get i hi) hj hv (k _ (h.put i _ hi))
theorem Sep.str (h:Sep L H)(i:Nat){b j:Nat}{xs:List Value}{e:TypeId}{m:Nat}{v:Value}{K:Hp→Prop}(hi:L[i]? =some (pts b (.row xs e m)))(hj:j<xs.length)(hv:v.oneCell'=true)
  (k:∀ H',Sep (L.set i (pts b (.row (xs.set j v) e m))) H'→K H'):St H ⟨b,j,none⟩ v K:=
 nZ7 (h.get i hi) hj hv (k _ (h.put i _ hi))
theorem Sep.lda (h:Sep L H)(i:Nat){b off n:Nat}{c:Array Value}{e:TypeId}{K:List Value→Prop}(hi:L[i]? =some (pts b (.obj (.cells c e))))(hn:off+n≤c.size)(k:K ((c.toList.drop off).take n)):LdA H ⟨b,off,none⟩ n K:=
 rZz (h.get i hi) hn k
theorem Sep.sta (h:Sep L H)(i:Nat){b off n:Nat}{c y:Array Value}{e:TypeId}{K:Hp→Prop}(hi:L[i]? =some (pts b (.obj (.cells c e))))(hn:off+n≤c.size)(hy:y.size=n)(hv:y.toList.all (fun v=>v.oneCell')=true)
  (k:∀ H',Sep (L.set i (pts b (.obj (.cells (setAt c.toList off y.toList).toArray e)))) H'→K H'):StA H ⟨b,off,none⟩ y n K:=
 pZG (h.get i hi) hn hy hv (k _ (h.put i _ hi))
theorem Sep.mks (h:Sep L H){P:Program}{e:TypeId}{s bs:Nat}{z:Array Value}(hi:bZi P e=some (s,bs,some z))(hs:z.size=s){l c:Int}{n m:Nat}(hl:l=n)(hc:c=m)(hnm:n≤m)(hm:bs*m≤140737488355328)(hm2:m≤9223372036854775807){K:VK}
  (k:∀ b H',Sep (L++[pts b (.row (aZv z.toList n) e (m*s))]) H'→K (.slice (some ⟨b,0,none⟩) n m) H'):MkS P e l c H K:=
 nZ2 hi hs hl hc hnm hm hm2 fun b hb=>k b _ (h.new hb _)
end
def Tr (P:Program)(f:FuncId)(args:Array Value)(Pre:List As)(Q:Value→List As→Prop):Prop:=
 ∀ H,Sep Pre H→Za P f args H fun v H'=>∃ M,Q v M∧Sep M H'
theorem Tr.use {P:Program}{f:FuncId}{args:Array Value}{Pre:List As}{Q:Value→List As→Prop}(t:Tr P f args Pre Q){L:List As}{H:Hp}(h:Sep L H)(is:List Nat)(hs:sel L is=Pre)(hn:hZQ is=true){K:VK}
  (k:∀ v M H',Q v M→Sep (M++rest L is) H'→K v H'):Za P f args H K:=by
 have h1:=h.split is hn;rw[hs]at h1;obtain⟨H1,H2,k1,k2,k3,k4,k5⟩:=h1.append;refine((t H1 k4).frame k1).mono ?_;rintro v H' ⟨H1',⟨M,hq,hM⟩,rfl,hfr⟩;refine k v M _ hq (Sep.join (H1:=H1') (H2:=H2) (fun b o hb=>?_) (fun b o hb=>?_) (fun b=>?_) hM k5)
 ·unfold Hp.patch;rw[hb]
 ·have e1:H1 b=none:=(k3 b).resolve_right (by rw[hb];simp);have e2:H1' b=none:=hfr b (by rw[k2 b o hb];simp) e1;unfold Hp.patch;rw[e2,e1];exact k2 b o hb
 ·cases e:H2 b with
  |none=>exact .inr rfl
  |some o=>
   left;exact hfr b (by rw[k2 b o e];simp) ((k3 b).resolve_right (by rw[e];simp))
theorem aZU.mono {P:Program}{f:FuncId}{args:Array Value}{H:Hp}{R R':VK}(h:aZU P f args H R)(k:∀ v H',R v H'→R' v H'):aZU P f args H R':=fun w hw c cs hc=>by
 obtain⟨e,u',w',fr,⟨hu,v,H',rfl,hr,hA⟩,hx⟩:=h w hw c cs hc;exact⟨_,_,w',fr,⟨hu,v,H',rfl,k v H' hr,hA⟩,hx⟩
theorem aZU.frame {P:Program}{f:FuncId}{args:Array Value}{H H1:Hp}{R:VK}(h:aZU P f args H1 R)(hle:H1.le H):
  aZU P f args H fun v H'=>∃ H1',R v H1'∧H'=H.patch H1 H1'∧∀ b,H b≠none→H1 b=none→H1' b=none:=fun w hw c cs hc=>by
 have hw1:Fits H1 w:=fun b o hb=>hw b o (hle b o hb)
 obtain⟨e,u',w',fr,⟨hu,v,H1',rfl,hr,hA⟩,hx⟩:=h w hw1 c cs hc;refine⟨_,_,w',fr,⟨hu,v,_,rfl,⟨H1',hr,rfl,fun b hb h1=>?_⟩,hA.patch hw hle⟩,hx⟩;cases hq:H b with
 |none=>exact absurd hq hb
 |some o=>
  obtain⟨x,hx,_⟩:=hw b o hq;exact(hA.old b (Array.getElem?_eq_some_iff.1 hx).1 h1).1
def TrD (P:Program)(f:FuncId)(args:Array Value)(Pre:List As)(Q:Value→List As→Prop):Prop:=
 ∀ H,Sep Pre H→aZU P f args H fun v H'=>∃ M,Q v M∧Sep M H'
theorem TrD.use {P:Program}{f:FuncId}{args:Array Value}{Pre:List As}{Q:Value→List As→Prop}(t:TrD P f args Pre Q){L:List As}{H:Hp}(h:Sep L H)(is:List Nat)(hs:sel L is=Pre)(hn:hZQ is=true){K:VK}
  (k:∀ v M H',Q v M→Sep (M++rest L is) H'→K v H'):aZU P f args H K:=by
 have h1:=h.split is hn;rw[hs]at h1;obtain⟨H1,H2,k1,k2,k3,k4,k5⟩:=h1.append;refine((t H1 k4).frame k1).mono ?_;rintro v H' ⟨H1',⟨M,hq,hM⟩,rfl,hfr⟩;refine k v M _ hq (Sep.join (H1:=H1') (H2:=H2) (fun b o hb=>?_) (fun b o hb=>?_) (fun b=>?_) hM k5)
 ·unfold Hp.patch;rw[hb]
 ·have e1:H1 b=none:=(k3 b).resolve_right (by rw[hb];simp);have e2:H1' b=none:=hfr b (by rw[k2 b o hb];simp) e1;unfold Hp.patch;rw[e2,e1];exact k2 b o hb
 ·cases e:H2 b with
  |none=>exact .inr rfl
  |some o=>
   left;exact hfr b (by rw[k2 b o e];simp) ((k3 b).resolve_right (by rw[e];simp))
theorem Sep.fin {L:List As}{H H0:Hp}(h:Sep L H)(i:Nat)(hi:L[i]? =some (own H0))(v:Value):Ret v H0 v H:=⟨rfl,h.ow i hi⟩
end Go.Hw
namespace Go.Hw
open Go
theorem lZs {G:Hp}{q:Nat}(b:Nat)(h:G q=none):G.erase b q=none:=by
 unfold Hp.erase;split
 ·rfl
 ·exact h
def Own (e:TypeId)(s:Nat)(A:OA)(n m:Nat)(xs:List Value):As:=fun H=>
 xs.length=n*s∧((A=none∧n=0∧m=0)∨∃ b mm,A=some ⟨b,0,none⟩∧H b=some (.row xs e mm)∧m*s≤mm)
theorem Own.up {e:TypeId}{s:Nat}{A:OA}{n m:Nat}{xs:List Value}{H H':Hp}(h:Own e s A n m xs H)(k:H.le H'):Own e s A n m xs H':=by
 obtain⟨h1,h2⟩:=h;refine⟨h1,h2.imp id ?_⟩;rintro⟨b,mm,h3,h4,h5⟩;exact⟨b,mm,h3,k _ _ h4,h5⟩
theorem Own.none (e:TypeId)(s:Nat)(H:Hp):Own e s .none 0 0 [] H:=⟨by simp,.inl ⟨rfl,rfl,rfl⟩⟩
section
variable {L : List As} {H : Hp}
theorem Sep.own (h:Sep L H)(i:Nat){e:TypeId}{s:Nat}{A:OA}{n m:Nat}{xs:List Value}(hi:L[i]? =some (Own e s A n m xs)):Own e s A n m xs H:=by
 obtain⟨H1,h1,h2⟩:=h.see i hi;exact h1.up h2
theorem Sep.turn (h:Sep L H)(i:Nat){A:As}(hi:L[i]? =some A){B:As}(k:∀ H1,A H1→B H1):Sep (L.set i B) H:=by
 induction L generalizing i H with
 |nil=>simp at hi
 |cons C L ih=>
  obtain⟨H1,H2,h1,h2,h3,h4,h5⟩:=h;cases i with
  |zero=>
   simp only[List.getElem?_cons_zero,Option.some.injEq]at hi;subst hi;exact⟨H1,H2,h1,h2,h3,k _ h4,h5⟩
  |succ i=>exact⟨H1,H2,h1,h2,h3,h4,ih h5 i hi⟩
theorem Sep.turn' (h:Sep L H)(i:Nat){A:As}(hi:L[i]? =some A){B:As}(k:∀ H1,H1.le H→A H1→B H1):Sep (L.set i B) H:=by
 induction L generalizing i H with
 |nil=>simp at hi
 |cons C L ih=>
  obtain⟨H1,H2,h1,h2,h3,h4,h5⟩:=h;cases i with
  |zero=>
   simp only[List.getElem?_cons_zero,Option.some.injEq]at hi;subst hi;exact⟨H1,H2,h1,h2,h3,k _ h1 h4,h5⟩
  |succ i=>exact⟨H1,H2,h1,h2,h3,h4,ih h5 i hi fun G hG hA=>k G (Hp.le_trans hG h2) hA⟩
theorem Sep.unown (h:Sep L H)(i:Nat){e:TypeId}{s:Nat}{A:OA}{n m:Nat}{xs:List Value}(hi:L[i]? =some (Own e s A n m xs)):
  (A=none∧n=0∧m=0∧xs=[])∨∃ b mm,A=some ⟨b,0,.none⟩∧m*s≤mm∧xs.length=n*s∧Sep (L.set i (pts b (.row xs e mm))) H:=by
 obtain⟨h1,h2⟩:=h.own i hi;rcases h2 with⟨h2,h3,h4⟩|⟨b,mm,rfl,h4,h5⟩
 ·refine .inl ⟨h2,h3,h4,?_⟩;rw[h3]at h1;cases xs with
  |nil=>rfl
  |cons x l=>simp at h1
 ·refine .inr ⟨b,mm,rfl,h5,h1,h.turn' i hi fun H1 hle hO=>?_⟩;obtain⟨_,k2⟩:=hO;rcases k2 with⟨k2,_⟩|⟨b',mm',k2,k3,_⟩
  ·cases k2
  ·cases k2;have:=hle _ _ k3;rw[h4]at this;cases this;exact k3
theorem Sep.putIn (h:Sep L H)(i:Nat){A:As}(hi:L[i]? =some A){b:Nat}{o':AO}{B:As}(k:∀ H1,H1.le H→A H1→∃ o,H1 b=some o∧B (H1.set b o')):Sep (L.set i B) (H.set b o'):=by
 induction L generalizing i H with
 |nil=>simp at hi
 |cons C L ih=>
  obtain⟨H1,H2,h1,h2,h3,h4,h5⟩:=h;cases i with
  |zero=>
   simp only[List.getElem?_cons_zero,Option.some.injEq]at hi;subst hi;obtain⟨o,ho,hB⟩:=k H1 h1 h4;have hn:H2 b=none:=(h3 b).resolve_left (by rw[ho];simp);refine⟨H1.set b o',H2,Hp.set_le h1 b o',fun c q hq=>?_,fun c=>?_,hB,h5⟩
   ·rw[Hp.set_other _ _ (fun e=>by rw[e,hn]at hq;cases hq)];exact h2 c q hq
   ·by_cases e:c=b
    ·right;rw[e];exact hn
    ·rw[Hp.set_other _ _ e];exact h3 c
  |succ i=>
   rw[List.getElem?_cons_succ]at hi;have ih':=ih h5 i hi (fun G hG hA=>k G (Hp.le_trans hG h2) hA);have hb:∃ o,H2 b=some o:=by
    obtain⟨G,hG,hle⟩:=h5.see i hi;obtain⟨o,ho,_⟩:=k G (Hp.le_trans hle h2) hG;exact⟨o,hle _ _ ho⟩
   obtain⟨o,hb⟩:=hb;have hn:H1 b=none:=(h3 b).resolve_right (by rw[hb];simp);refine⟨H1,H2.set b o',fun c q hq=>?_,Hp.set_le h2 b o',fun c=>?_,h4,ih'⟩
   ·rw[Hp.set_other _ _ (fun e=>by rw[e,hn]at hq;cases hq)];exact h1 c q hq
   ·by_cases e:c=b
    ·left;rw[e];exact hn
    ·rw[Hp.set_other _ _ e];exact h3 c
theorem Own.rd {e:TypeId}{s:Nat}{A:OA}{n m:Nat}{xs:List Value}(h:Own e s A n m xs H){x:Int}{j:Nat}(hx:x=j)(k:Nat)(hk:k<s){v:Value}(hv:xs[j*s+k]? =some v){K:Value→Prop}(kk:K v):
  ixI x n (NN A fun a=>Ld H ((a.add (x.toNat*s)).add k) K):=by
 subst hx;obtain⟨h1,h2⟩:=h;have hlt:=(List.getElem?_eq_some_iff.1 hv).1;have hj:j<n:=by
  rw[h1]at hlt;have h3:j*s<n*s:=by omega
  exact Nat.lt_of_mul_lt_mul_right h3
 refine⟨by omega,by omega,?_⟩;rcases h2 with⟨_,h3,_⟩|⟨b,mm,rfl,h4,_⟩
 ·omega
 ·refine gZC ?_ kk;rw[Int.toNat_natCast,Addr.add_lit',Addr.add_lit',Nat.zero_add,kZJ h4];exact hv
theorem Own.rd0 {e:TypeId}{s:Nat}{A:OA}{n m:Nat}{xs:List Value}(h:Own e s A n m xs H){x:Int}{j:Nat}(hx:x=j)(hs:0<s){v:Value}(hv:xs[j*s]? =some v){K:Value→Prop}(kk:K v):
  ixI x n (NN A fun a=>Ld H (a.add (x.toNat*s)) K):=h.rd hx 0 hs hv kk
theorem Own.rd1 {e:TypeId}{A:OA}{n m:Nat}{xs:List Value}(h:Own e 1 A n m xs H){x:Int}{j:Nat}(hx:x=j){v:Value}(hv:xs[j]? =some v){K:Value→Prop}(kk:K v):
  ixI x n (NN A fun a=>Ld H (a.add (x.toNat*1)) K):=h.rd0 hx (by omega) (by rw[Nat.mul_one];exact hv) kk
theorem Own.rdA {e:TypeId}{s:Nat}{A:OA}{n m:Nat}{xs:List Value}(h:Own e s A n m xs H){x:Int}{j:Nat}(hx:x=j)(hj:j<n){ys:List Value}(hy:(xs.drop (j*s)).take s=ys){K:List Value→Prop}(k:K ys):
  ixI x n (NN A fun a=>LdA H (a.add (x.toNat*s)) s K):=by
 subst hx;obtain⟨h1,h2⟩:=h;refine⟨by omega,by omega,?_⟩;rcases h2 with⟨_,h3,_⟩|⟨b,mm,rfl,h4,_⟩
 ·omega
 ·have hle:j*s+s≤xs.length:=by
   rw[h1];have:(j+1)*s≤n*s:=Nat.mul_le_mul_right s hj;rw[Nat.succ_mul]at this;omega
  show LdA H _ s K
  unfold LdA;rw[Int.toNat_natCast,Addr.add_lit',Nat.zero_add,fZJ h4 (j*s) s 0 (by omega),Nat.add_zero,hy];exact k
theorem Sep.wr (h:Sep L H)(i:Nat){e:TypeId}{s:Nat}{A:OA}{n m:Nat}{xs:List Value}(hi:L[i]? =some (Own e s A n m xs)){x:Int}{j:Nat}(hx:x=j)(k:Nat)(hk:k<s)(hj:j<n){v:Value}(hv:v.oneCell'=true){K:Hp→Prop}
  (kk:∀ H',Sep (L.set i (Own e s A n m (xs.set (j*s+k) v))) H'→K H'):ixI x n (NN A fun a=>St H ((a.add (x.toNat*s)).add k) v K):=by
 subst hx;refine⟨by omega,by omega,?_⟩;obtain⟨h1,h2⟩:=h.own i hi;have hlt:j*s+k<xs.length:=by
  rw[h1];have:(j+1)*s≤n*s:=Nat.mul_le_mul_right s hj;rw[Nat.succ_mul]at this;omega
 rcases h2 with⟨_,h3,_⟩|⟨b,mm,rfl,h4,h5⟩
 ·omega
 ·rw[Int.toNat_natCast];show St H _ v K
  rw[Addr.add_lit',Addr.add_lit',Nat.zero_add];refine nZ7 h4 hlt hv (kk _ (h.putIn i hi fun H1 hle hA=>?_));obtain⟨g1,g2⟩:=hA;rcases g2 with⟨_,g3,_⟩|⟨b',mm',g3,g4,g5⟩
  ·omega
  ·cases g3;have:mm=mm':=by
    have:=hle _ _ g4;rw[h4]at this;cases this;rfl
   subst this;exact⟨_,g4,by rw[List.length_set];exact g1,.inr ⟨b,mm,rfl,Hp.set_same _ _ _,g5⟩⟩
theorem Sep.app (h:Sep L H)(i:Nat){P:Program}{e:TypeId}{s bs:Nat}{z:Array Value}{A:OA}{n m k:Nat}{xs ys:List Value}{x:Value}(hi:L[i]? =some (Own e s A n m xs))(hc:bZi P e=some (s,bs,some z))(hz:z.size=s)(hbs:bs≤1073741824)(hs:0<s)
  (hn:jZx x=some k) (hsrc:dZI H s k x=some ys) (hy:ys.length=k*s) (hone:ys.all (fun y=>y.oneCell')=true) (h1:(n+k)*bs≤35184372088832) (h2:n+k≤35184372088832) {K:VK}
  (kk:∀ A' m' H',Sep (L.set i (Own e s A' (n+k) m' (xs++ys))) H'→K (.slice A' (n+k) m') H'):cZ8 P e (.slice A n m) x H K:=by
 have hO:=h.own i hi;have hone':∀ y∈ys,y.oneCell'=true:=fun y hy'=>List.all_eq_true.1 hone y hy'
 obtain⟨g1,g2⟩:=hO;rcases g2 with⟨rfl,rfl,rfl⟩|⟨b,mm,rfl,g4,g5⟩
 ·rw[Nat.zero_add]at h1 h2;obtain rfl:xs=[]:=by cases xs<;>simp_all
  refine tZi hc hz hbs hn hsrc hy hone' h1 h2 (fun h0=>?_) (fun _ b c hbc hb=>?_)
  ·have hys:ys=[]:=by
    subst h0;cases ys with
    |nil=>rfl
    |cons y ys=>simp at hy
   subst hys;subst h0;refine kk .none 0 H ?_;have:=h.turn i hi (B:=Own e s .none (0+0) 0 ([]++[])) (fun H1 _=>Own.none e s H1);exact this
  ·have:Sep (L.set i (pts b (.row ys e (c*s)))) (H.set b (.row ys e (c*s))):=by
    have h3:=(h.new hb (.row ys e (c*s)));have h4:Sep ((L++[pts b (.row ys e (c*s))]).set i (fun _=>True)) (H.set b (.row ys e (c*s))):=Sep.turn h3 i (A:=Own e s .none 0 0 []) (by rw[List.getElem?_append_left (List.getElem?_eq_some_iff.1 hi).1];exact hi) (fun _ _=>trivial);have hlt:=(List.getElem?_eq_some_iff.1 hi).1;rw[List.set_append_left _ _ hlt]at h4;have hp:(L.set i (fun _=>True)++[pts b (.row ys e (c*s))]).Perm (L.set i (pts b (.row ys e (c*s)))++[fun _=>True]):=by
     rw[List.set_eq_take_append_cons_drop,List.set_eq_take_append_cons_drop];simp only[hlt,if_true,List.append_assoc,List.cons_append];refine List.Perm.append_left _ ?_;have a1:∀(X:As) (l:List As) (Y:As),(X::(l++[Y])).Perm (Y::(l++[X])):=fun X l Y=>by
      have b1:(X::(l++[Y])).Perm (X::Y::l):=List.Perm.cons X (List.perm_append_comm (l₁:=l) (l₂:=[Y]));have b2:(Y::(l++[X])).Perm (Y::X::l):=List.Perm.cons Y (List.perm_append_comm (l₁:=l) (l₂:=[X]));exact b1.trans ((List.Perm.swap Y X l).trans b2.symm)
     exact a1 _ _ _
    exact Sep.take (Sep.perm hp h4)
   rw[show(k:Nat)=0+k by omega];refine kk _ c _ (this.turn i (A:=pts b (.row ys e (c*s))) (by rw[List.getElem?_set];simp[(List.getElem?_eq_some_iff.1 hi).1]) (B:=Own e s (some ⟨b,0,.none⟩) (0+k) c ([]++ys)) (fun H1 hH1=>⟨by simpa using hy,.inr ⟨b,_,rfl,(by rw[List.nil_append];exact hH1:H1 b=some (.row ([]++ys) e (c*s))),Nat.le_refl _⟩⟩)|>fun q=>?_);rw[List.set_set]at q;exact q
 ·refine tZj hc hz hbs g4 g1 g5 hn hsrc hy hone' h1 h2 fun b' c m' hc1 hc2 hb'=>?_
  refine kk _ c _ ?_
    -- the old row is given up, the new one made
  have hlt:=(List.getElem?_eq_some_iff.1 hi).1;have key:∀(L:List As) (i:Nat) (H:Hp),Sep L H→L[i]? =some (Own e s (some ⟨b,0,.none⟩) n m xs)→0<s→(H.erase b) b'=none→Sep (L.set i (Own e s (some ⟨b',0,.none⟩) (n+k) c (xs++ys))) ((H.erase b).set b' (.row (xs++ys) e m')):=by
   intro L
   induction L with
   |nil=>intro i H _ hi;simp at hi
   |cons C L ih=>
    intro i H hS hi hs hb';obtain⟨H1,H2,k1,k2,k3,k4,k5⟩:=hS;have el:∀{G G':Hp},G.le G'→(G.erase b).le (G'.erase b):=fun hle c q hq=>by
     unfold Hp.erase at hq⊢;split at hq
     ·cases hq
     ·rename_i hc;rw[if_neg hc];exact hle c q hq
    have en:∀{G:Hp},G b= .none→G.erase b=G:=fun hG=>by
     funext q;unfold Hp.erase;split
     ·rename_i e;rw[e,hG]
     ·rfl
    cases i with
    |zero=>
     simp only[List.getElem?_cons_zero,Option.some.injEq]at hi;subst hi;have hbs:∃ o,H1 b=some o:=by
      obtain⟨_,q⟩:=k4;rcases q with⟨q,_⟩|⟨b2,mm2,q1,q2,_⟩
      ·cases q
      ·cases q1;exact⟨_,q2⟩
     obtain⟨o,hbs⟩:=hbs;have hn2:H2 b= .none:=(k3 b).resolve_left (by rw[hbs];simp);have hle2:H2.le (H.erase b):=by have:=el k2;rw[en hn2]at this;exact this
     refine⟨(H1.erase b).set b' (.row (xs++ys) e m'),H2,Hp.set_le (el k1) _ _,Hp.le_trans hle2 (Hp.le_set hb'),fun q=>?_,⟨by rw[List.length_append,g1,hy,Nat.add_mul],.inr ⟨b',m',rfl,Hp.set_same _ _ _,hc2⟩⟩,k5⟩;by_cases e:q=b'
     ·right;rw[e];exact Hp.le_none hle2 hb'
     ·rw[Hp.set_other _ _ e];rcases k3 q with e2|e2
      ·exact .inl (lZs b e2)
      ·exact .inr e2
    |succ i=>
     rw[List.getElem?_cons_succ]at hi;have hbs:∃ o,H2 b=some o:=by
      obtain⟨G,⟨_,q⟩,hle⟩:=k5.see i hi;rcases q with⟨q,_⟩|⟨b2,mm2,q1,q2,_⟩
      ·cases q
      ·cases q1;exact⟨_,hle _ _ q2⟩
     obtain⟨o,hbs⟩:=hbs;have hn1:H1 b= .none:=(k3 b).resolve_right (by rw[hbs];simp);have hle1:H1.le (H.erase b):=by have:=el k1;rw[en hn1]at this;exact this
     refine⟨H1,(H2.erase b).set b' (.row (xs++ys) e m'),Hp.le_trans hle1 (Hp.le_set hb'),Hp.set_le (el k2) _ _,fun q=>?_,k4,ih i H2 k5 hi hs (Hp.le_none (el k2) hb')⟩;by_cases e:q=b'
     ·left;rw[e];exact Hp.le_none hle1 hb'
     ·rw[Hp.set_other _ _ e];rcases k3 q with e2|e2
      ·exact .inl e2
      ·exact .inr (lZs b e2)
  exact key L i H h hi hs hb'
theorem Sep.appS (h:Sep L H)(i:Nat){P:Program}{e e':TypeId}{s bs:Nat}{z:Array Value}{A:OA}{n m:Nat}{xs ys:List Value}(hi:L[i]? =some (Own e s A n m xs))(hc:bZi P e=some (s,bs,some z))(hz:z.size=s)(hbs:bs≤1073741824)(hs:0<s)(hy:ys.length=s)(hv:ys.all (fun y=>y.oneCell')=true)(h2:(n+1)*bs≤35184372088832)(h3:n+1≤35184372088832){K:VK}
  (kk:∀ A' m' H',Sep (L.set i (Own e s A' (n+1) m' (xs++ys))) H'→K (.slice A' (n+1) m') H'):Nw H (.row ys e' s) fun b H'=>cZ8 P e (.slice A n m) (.slice (some ⟨b,0,none⟩) 1 1) H' K:=by
 refine h.nw fun b H' h'=>?_
 have hlt:=(List.getElem?_eq_some_iff.1 hi).1;refine h'.app i (k:=1) (ys:=ys) (by rw[List.getElem?_append_left hlt];exact hi) hc hz hbs hs rfl ?_ (by rw[hy,Nat.one_mul]) hv h2 h3 fun A' m' H'' h''=>?_
 ·show H'.cells? ⟨b,0,none⟩ 0 (1*s)=some ys
  rw[Nat.one_mul,fZJ (h'.get L.length (b:=b) (o:=.row ys e' s) (by simp)) 0 s 0 (by omega)];simp[← hy]
 ·rw[List.set_append_left _ _ hlt]at h'';exact kk A' m' H'' (Sep.take h'')
theorem Sep.app1 (h:Sep L H)(i:Nat){P:Program}{e e':TypeId}{bs:Nat}{v0:Value}{A:OA}{n m:Nat}{xs:List Value}{v:Value}(hi:L[i]? =some (Own e 1 A n m xs))(hc:bZi P e=some (1,bs,some #[v0]))(hbs:bs≤1073741824)(hv:v.oneCell'=true)(h2:(n+1)*bs≤35184372088832)(h3:n+1≤35184372088832){K:VK}
  (kk:∀ A' m' H',Sep (L.set i (Own e 1 A' (n+1) m' (xs++[v]))) H'→K (.slice A' (n+1) m') H'):Nw H (.row [v] e' 1) fun b H'=>cZ8 P e (.slice A n m) (.slice (some ⟨b,0,none⟩) 1 1) H' K:=by
 refine h.nw fun b H' h'=>?_
 have hlt:=(List.getElem?_eq_some_iff.1 hi).1;refine h'.app i (k:=1) (ys:=[v]) (by rw[List.getElem?_append_left hlt];exact hi) hc rfl hbs (by omega) rfl (jZP (Cells.row (h'.get L.length (b:=b) (o:=.row [v] e' 1) (by simp)) 0 1) rfl) rfl (by simp[hv]) h2 h3 fun A' m' H'' h''=>?_
 rw[List.set_append_left _ _ hlt]at h'';exact kk A' m' H'' (Sep.take h'')
end
section
variable {L : List As} {H : Hp}
theorem Sep.ldw (h:Sep L H)(i:Nat){b n:Nat}{c:Array Value}{e:TypeId}{K:List Value→Prop}(hi:L[i]? =some (pts b (.obj (.cells c e))))(hn:c.size=n)(k:K c.toList):LdA H ⟨b,0,none⟩ n K:=fZI (h.get i hi) hn k
theorem Sep.stw (h:Sep L H)(i:Nat){b n:Nat}{c y:Array Value}{e:TypeId}{K:Hp→Prop}(hi:L[i]? =some (pts b (.obj (.cells c e))))(hn:c.size=n)(hy:y.size=n)(hv:y.toList.all (fun v=>v.oneCell')=true)
  (k:∀ H',Sep (L.set i (pts b (.obj (.cells y e)))) H'→K H'):StA H ⟨b,0,none⟩ y n K:=hZy (h.get i hi) hn hy hv (k _ (h.put i _ hi))
end
section
variable {L : List As} {H : Hp}
theorem Sep.ldx (h:Sep L H)(i:Nat){b n j:Nat}{c:Array Value}{e:TypeId}{v:Value}{K:Value→Prop}(hi:L[i]? =some (pts b (.obj (.cells c e)))){x:Int}(hx:x=(j:Nat))(hj:j<n)(hv:jZz c.toList j=some v)(k:K v):ixI x n (Ld H ((⟨b,0,none⟩:Addr).add (x.toNat*1)) K):=by
 subst hx;refine⟨by omega,by omega,?_⟩;rw[Int.toNat_natCast,Nat.mul_one,Addr.add_lit',Nat.zero_add];exact h.ld i hi hv k
theorem Sep.stx (h:Sep L H)(i:Nat){b n j:Nat}{c:Array Value}{e:TypeId}{v:Value}{K:Hp→Prop}(hi:L[i]? =some (pts b (.obj (.cells c e)))){x:Int}(hx:x=(j:Nat))(hj:j<n)(hc:j<c.size)(hv:v.oneCell'=true)
  (k:∀ H',Sep (L.set i (pts b (.obj (.cells (c.setIfInBounds j v) e)))) H'→K H'):ixI x n (St H (((⟨b,0,none⟩:Addr).add (x.toNat*1)).add 0) v K):=by
 subst hx;refine⟨by omega,by omega,?_⟩;rw[Int.toNat_natCast,Nat.mul_one,Addr.add_lit',Nat.zero_add,Addr.add_zero];exact h.st i hi hc hv k
end
theorem Cells.obj {H:Hp}{b:Nat}{c:Array Value}{e:TypeId}(h:H b=some (.obj (.cells c e)))(n:Nat):Cells H (some ⟨b,0,none⟩) (c.toList.take n):=fun i v hi=>by
 refine⟨_,rfl,?_⟩;rw[Addr.add_lit',Nat.zero_add,fZD h];rw[List.getElem?_take]at hi;split at hi
 ·rw[Array.getElem?_toList]at hi;exact hi
 ·cases hi
theorem kZU {e:TypeId}{b off m:Nat}:∀(l:List Value) (i:Nat) (H:Hp) (xs:List Value),H b=some (.row xs e m)→off+i+l.length≤xs.length→(∀ v∈l,v.oneCell'=true)→
  H.puts? ⟨b,off,none⟩ i l=some (H.set b (.row (setAt xs (off+i) l) e m))
 | [],i,H,xs,h,hi,_=>by simp[Hp.puts?,fZN,Hp.set_id h]
 |v::l,i,H,xs,h,hi,hv=>by
  unfold Hp.puts?;simp only[List.length_cons]at hi;rw[Addr.add_lit',kZa h (by omega) (hv v (by simp))];simp only;rw[kZU l (i+1) _ _ (Hp.set_same _ _ _) (by simp;omega) (fun u hu=>hv u (by simp[hu])),Hp.set_set];congr 3;apply List.ext_getElem?;intro j;rw[bZP (by simp;omega),bZP (by simp;omega),List.getElem?_set];simp only[List.length_cons];by_cases h1:j<off+i
  ·rw[if_pos (by omega),if_neg (by omega),if_pos h1]
  ·rw[if_neg h1];by_cases h2:j=off+i
   ·subst h2;rw[if_pos (by omega),if_pos rfl,if_pos (by omega),if_pos (by omega)];simp
   ·rw[if_neg (by omega)];by_cases h3:j<off+(i+1)+l.length
    ·rw[if_pos h3,if_pos (by omega),show j-(off+i)=(j-(off+(i+1)))+1 by omega,List.getElem?_cons_succ]
    ·rw[if_neg h3,if_neg (by omega),if_neg (by omega)]
theorem Sep.cp {L:List As}{H:Hp}(h:Sep L H)(i:Nat){P:Program}{e e':TypeId}{bs:Nat}{z:Array Value}{b off n c m k:Nat}{xs ys:List Value}{x:Value}(hi:L[i]? =some (pts b (.row xs e' m)))(hc:bZi P e=some (1,bs,some z))
  (hn:jZx x=some k) (hsrc:dZI H 1 (Nat.min k n) x=some ys) (ho:off+ys.length≤xs.length) (hone:∀ y∈ys,y.oneCell'=true) {K:VK}
  (kk:∀ H',Sep (L.set i (pts b (.row (setAt xs off ys) e' m))) H'→K (.int .i64 (Nat.min k n:Nat)) H'):CpK P e (.slice (some ⟨b,off,none⟩) n c) x H K:=by
 obtain⟨j,zz,h3,h4,rfl,h5,rfl⟩:=gZb hc;unfold CpK;simp only[h3];rw[h4];exact⟨k,ys,_,hn,hsrc,by simpa using kZU ys 0 H xs (h.get i hi) (by omega) hone,kk _ (by simpa using h.put i _ hi)⟩
theorem hZV {n m l:Nat}{x:Int}{K:Nat→Nat→Prop}(hx:x=l)(hl:l≤n)(k:K l n):slB n m (some x) none K:=by
 subst hx;refine⟨by omega,by omega,?_⟩;rw[Int.toNat_natCast];exact k
theorem lZX {n m r:Nat}{x:Int}{K:Nat→Nat→Prop}(hx:x=r)(hr:r≤m)(k:K 0 r):slB n m none (some x) K:=by
 subst hx;refine⟨by omega,by omega,?_⟩;rw[Int.toNat_natCast];exact k
theorem oZ1 (b off m:Nat):slA (some ⟨b,off,none⟩) m 0 1=some ⟨b,off,none⟩:=by
 unfold slA;split
 ·rfl
 ·rfl
theorem lZW {b off m l:Nat}(h:l<m):slA (some ⟨b,off,none⟩) m l 1=some ⟨b,off+l,none⟩:=by
 unfold slA;rw[if_neg (by omega)];show some ((⟨b,off,none⟩:Addr).add (l*1))=_
 rw[Nat.mul_one,Addr.add_lit']
theorem oZW {xs us bs:List Value}{off:Nat}(h:off+us.length+bs.length≤xs.length):setAt (setAt xs off us) (off+us.length) bs=setAt xs off (us++bs):=by
 apply List.ext_getElem?;intro i;have hl:(setAt xs off us).length=xs.length:=cZH (by omega);rw[bZP (by omega),bZP (by omega),bZP (by rw[List.length_append];omega),List.length_append];by_cases h1:i<off
 ·rw[if_pos (by omega),if_pos h1,if_pos h1]
 ·rw[if_neg h1,if_neg h1];by_cases h2:i<off+us.length
  ·rw[if_pos h2,if_pos h2,if_pos (by omega),List.getElem?_append_left (by omega)]
  ·rw[if_neg h2];by_cases h3:i<off+us.length+bs.length
   ·rw[if_pos h3,if_pos (by omega),List.getElem?_append_right (by omega)];congr 1;omega
   ·rw[if_neg h3,if_neg h2,if_neg (by omega)]
def cZu (s:Nat)(H:Hp)(A:OA)(rows:List (List Value)):Prop:=∀ i r,rows[i]? =some r→∃ a,A=some a∧∀ j v,r[j]? =some v→H.cell? (a.add (i*s+j))=some v
theorem cZu.le {s:Nat}{H H':Hp}{A:OA}{rows:List (List Value)}(h:cZu s H A rows)(k:H.le H'):cZu s H' A rows:=fun i r hi=>by
 obtain⟨a,ha,hc⟩:=h i r hi;exact⟨a,ha,fun j v hj=>k.cell (hc j v hj)⟩
theorem add_add (a:Addr)(i j:Nat):(a.add i).add j=a.add (i+j):=by
 unfold Addr.add;by_cases h1:i=0<;>by_cases h2:j=0<;>simp_all [Nat.add_assoc]
theorem cZu.rd {s:Nat}{H:Hp}{A:OA}{rows:List (List Value)}(h:cZu s H A rows){i:Nat}{r:List Value}(hi:rows[i]? =some r){x:Int}(hx:x=i){n:Nat}(hn:rows.length≤n){j:Nat}{v:Value}(hj:r[j]? =some v){K:Value→Prop}(k:K v):
  ixI x n (NN A fun a=>Ld H ((a.add (x.toNat*s)).add j) K):=by
 obtain⟨a,rfl,hc⟩:=h i r hi;subst hx;have:=(List.getElem?_eq_some_iff.1 hi).1;refine⟨by omega,by omega,?_⟩;rw[Int.toNat_natCast];refine gZC ?_ k;rw[add_add];exact hc j v hj
end Go.Hw
namespace Go.Hw
open Go Go.RowKit Go.ChangeShapes Go.WideShapes Go.ChangeAt
section
variable {H : Type} {enc : TypeId × Value → H} {P : Program} {W : World} {t e : TypeId} {cs : List Value} {d : DataW H} {ps : List MemPlace} {fuel : Nat}
end
def nZz (cs:List Value):Nat→List Value→Prop
 |_,[]=>True
 |i,v::l=>cs[i]? =some v∧nZz cs (i+1) l
theorem nZz.out {cs l:List Value}(h:nZz cs 0 l)(hl:cs.length=l.length):cs=l:=by
 have key:∀(l:List Value) (i:Nat),nZz cs i l→∀ j,j<l.length→cs[i+j]? =l[j]? :=by
  intro l
  induction l with
  |nil=>intro i _ j hj;simp at hj
  |cons v l ih=>
   intro i ⟨h1,h2⟩ j hj;cases j with
   |zero=>simpa using h1
   |succ j=>
    rw[show i+(j+1)=i+1+j by omega,ih (i+1) h2 j (by simpa using hj)];simp
 apply List.ext_getElem?;intro j;by_cases hj:j<l.length
 ·simpa using key l 0 h j hj
 ·rw[List.getElem?_eq_none (by omega),List.getElem?_eq_none (by omega)]
section
variable {H : Type} {enc : TypeId × Value → H} {P : Program} {W : World} {t e : TypeId} {v : Value} {d : DataW H} {ps : List MemPlace} {r : Reach} {base : Nat}
end
end Go.Hw
namespace Go.Hw
open Go
theorem jZ8 {x:Nat}(h:x<2^64):(BitVec.ofInt 64 (x:Int)).toNat=x:=by
 rw[BitVec.ofInt_natCast,BitVec.toNat_ofNat,Nat.mod_eq_of_lt h]
theorem nZN {x y n:Nat}(hx:x<2^n)(hy:y<2^n):x|||y<2^n:=Nat.or_lt_two_pow hx hy
theorem orN {x y:Nat}(hx:x<2^64)(hy:y<2^64):bOr .u64 (x:Int) (y:Int)=((x|||y:Nat):Int):=by
 unfold bOr;rw[show u64.bits=64 from rfl,BitVec.toNat_or,jZ8 hx,jZ8 hy];have:=nZN hx hy;exact cZg (by omega)
theorem mZd {x y:Nat}(hx:x<2^64)(hy:y<2^64):aZr .u64 (x:Int) (y:Int)=((x&&&y:Nat):Int):=by
 unfold aZr;rw[show u64.bits=64 from rfl,BitVec.toNat_and,jZ8 hx,jZ8 hy];have:x&&&y≤x:=Nat.and_le_left;exact cZg (by omega)
theorem rZb {x:Nat}{i:Int}{n:Nat}(h:i=n)(hn:n≤64):aZE .u64 (x:Int) i=((x*2^n%2^64:Nat):Int):=by
 subst h;unfold aZE;rw[Int.toNat_natCast,show u64.bits=64 from rfl,Nat.min_eq_left hn,hZZ,show((2:Int)^n)=((2^n:Nat):Int) by simp,←Int.natCast_mul];rfl
theorem hZU {k:IntKind}{a:Nat}{i:Int}{n:Nat}(h:i=n)(hn:n≤k.bits):aZq k (a:Int) i=((a/2^n:Nat):Int):=by
 rw[sZS a h hn,Nat.shiftRight_eq_div_pow]
theorem xZe {x:Nat}(y:Nat):u64.wrap ((x:Int)+(y:Int))=(((x+y)%2^64:Nat):Int):=by
 rw[hZZ,←Int.natCast_add];rfl
theorem xZf (x y:Nat):u64.wrap ((x:Int)*(y:Int))=(((x*y)%2^64:Nat):Int):=by
 rw[hZZ,←Int.natCast_mul];rfl
theorem Cells.shift {H:Hp}{A:OA}{vs:List Value}(h:Cells H A vs){m l:Nat}(hm:vs.length≤m):Cells H (slA A m l 1) (vs.drop l):=fun i v hi=>by
 rw[List.getElem?_drop]at hi;have hlt:=(List.getElem?_eq_some_iff.1 hi).1;unfold slA;rw[if_neg (by omega)];obtain⟨a,rfl,hc⟩:=h _ _ hi;exact⟨_,rfl,by rw[add_add,Nat.mul_one];exact hc⟩
theorem Cells.take {H:Hp}{A:OA}{vs:List Value}(h:Cells H A vs)(n:Nat):Cells H A (vs.take n):=fun i v hi=>by
 rw[List.getElem?_take]at hi;split at hi
 ·exact h i v hi
 ·cases hi
def leN :List UInt8→Nat
 | []=>0
 |b::l=>b.toNat+256*leN l
theorem oZu :∀ l:List UInt8,leN l<256^l.length
 | []=>by simp[leN]
 |b::l=>by
  have h1:=oZu l;have h2:b.toNat<256:=b.toNat_lt;unfold leN;rw[List.length_cons,Nat.pow_succ];have:256*leN l+256≤256^l.length*256:=by
   have:leN l+1≤256^l.length:=h1;omega
  omega
theorem tZU {l:List UInt8}{j:Nat}(h:j<l.length):leN (l.drop j)=l[j].toNat+256*leN (l.drop (j+1)):=by
 rw[List.drop_eq_getElem_cons h];rfl
theorem pZT {l:List UInt8}(h:l.length≤8):leN l<2^64:=by
 have h1:=oZu l;have h2:256^l.length≤256^8:=Nat.pow_le_pow_right (by omega) h;rw[show(2:Nat)^64=256^8 by decide];omega
def hZL :Nat→Nat→List UInt8
 |0,_=>[]
 |n+1,x=>UInt8.ofNat x::hZL n (x/256)
theorem lZC :∀ n x,leN (hZL n x)=x%256^n
 |0,x=>by simp[hZL,leN,Nat.mod_one]
 |n+1,x=>by
  unfold hZL leN;rw[lZC n,UInt8.toNat_ofNat',show(256:Nat)^(n+1)=256*256^n by rw[Nat.pow_succ,Nat.mul_comm],Nat.mod_mul]
theorem pZr (n:Nat):∀ x,(List.range n).map (fun k=>UInt8.ofNat (x/256^k))=hZL n x:=by
 induction n with
 |zero=>intro x;rfl
 |succ n ih=>
  intro x;rw[List.range_succ_eq_map];simp only[List.map_cons,List.map_map,Nat.pow_zero,Nat.div_one];unfold hZL;rw[← ih (x/256)];congr 1;apply List.map_congr_left;intro k _;simp only[Function.comp];rw[Nat.div_div_eq_div_mul,Nat.pow_succ,Nat.mul_comm]
end Go.Hw
namespace Go.Proofs.YtgfildcgihbdaaaGreatDoor.Fft
abbrev Zp :=Fin 18446744069414584321
def pw (x:Zp):Nat→Zp
 |0=>1
 |n+1=>pw x n*x
theorem eZM (x:Zp)(a:Nat):∀ b,pw x (a+b)=pw x a*pw x b
 |0=>by show pw x a=pw x a*1;grind
 |b+1=>by
  have ih:=eZM x a b;show pw x (a+b)*x=pw x a*(pw x b*x)
  grind
theorem gZj :∀ n,pw 1 n=1
 |0=>rfl
 |n+1=>by show pw 1 n*1=1;rw[gZj n];grind
theorem xZM (x:Zp):pw x 1=x:=by show 1*x=x;grind
theorem bZL (x:Zp)(a:Nat):∀ b,pw x (a*b)=pw (pw x a) b
 |0=>rfl
 |b+1=>by
  rw[Nat.mul_succ,eZM,bZL x a b];rfl
theorem lZF (x y:Zp):∀ n,pw (x*y) n=pw x n*pw y n
 |0=>by show(1:Zp)=1*1;grind
 |n+1=>by
  have ih:=lZF x y n;show pw (x*y) n*(x*y)=pw x n*x*(pw y n*y)
  grind
def sm (f:Nat→Zp):Nat→Zp
 |0=>0
 |n+1=>sm f n+f n
theorem gZA {f g:Nat→Zp}:∀(n:Nat),(∀ i,i<n→f i=g i)→sm f n=sm g n
 |0,_=>rfl
 |n+1,h=>by
  show sm f n+f n=sm g n+g n
  rw[gZA n fun i hi=>h i (by omega),h n (by omega)]
theorem oZ2 (a:Zp)(f:Nat→Zp):∀ n,sm (fun i=>a*f i) n=a*sm f n
 |0=>by show(0:Zp)=a*0;grind
 |n+1=>by
  have ih:=oZ2 a f n;show sm (fun i=>a*f i) n+a*f n=a*(sm f n+f n)
  grind
theorem qZf (f g:Nat→Zp):∀ n,sm (fun i=>f i+g i) n=sm f n+sm g n
 |0=>by show(0:Zp)=0+0;grind
 |n+1=>by
  have ih:=qZf f g n;show sm (fun i=>f i+g i) n+(f n+g n)=(sm f n+f n)+(sm g n+g n)
  grind
theorem qZj :∀ n,sm (fun _=>0) n=0
 |0=>rfl
 |n+1=>by show sm (fun _=>0) n+0=0;rw[qZj n];grind
theorem sZT (f:Nat→Zp)(a:Nat):∀ b,sm f (a+b)=sm f a+sm (fun i=>f (a+i)) b
 |0=>by show sm f a=sm f a+0;grind
 |b+1=>by
  have ih:=sZT f a b;show sm f (a+b)+f (a+b)=sm f a+(sm (fun i=>f (a+i)) b+f (a+b))
  grind
theorem qZh (f:Nat→Zp)(c:Nat):∀ r,sm f (r*c)=sm (fun i=>sm (fun j=>f (i*c+j)) c) r
 |0=>by rw[Nat.zero_mul];rfl
 |r+1=>by
  rw[Nat.succ_mul,sZT,qZh f c r];rfl
theorem qZi (f:Nat→Nat→Zp)(m:Nat):∀ n,sm (fun i=>sm (fun j=>f i j) m) n=sm (fun j=>sm (fun i=>f i j) n) m
 |0=>by
  show(0:Zp)=sm (fun j=>0) m
  rw[qZj]
 |n+1=>by
  show sm (fun i=>sm (fun j=>f i j) m) n+sm (fun j=>f n j) m=sm (fun j=>sm (fun i=>f i j) n+f n j) m
  rw[qZf,qZi f m n]
theorem qZg (f:Nat→Zp):∀ n,sm f (2*n)=sm (fun i=>f (2*i)) n+sm (fun i=>f (2*i+1)) n
 |0=>by show(0:Zp)=0+0;grind
 |n+1=>by
  have ih:=qZg f n;show sm f (2*n)+f (2*n)+f (2*n+1)=(sm (fun i=>f (2*i)) n+f (2*n))+(sm (fun i=>f (2*i+1)) n+f (2*n+1))
  grind
def dft (w:Zp)(n:Nat)(l:Nat→Zp)(j:Nat):Zp:=sm (fun i=>l i*pw w (i*j)) n
theorem hZ8 {w:Zp}{n:Nat}{l l':Nat→Zp}(h:∀ i,i<n→l i=l' i)(j:Nat):dft w n l j=dft w n l' j:=
 gZA n fun i hi=>by rw[h i hi]
theorem mZL (w:Zp)(m:Nat)(l:Nat→Zp)(j:Nat):dft w (2*m) l j=dft (w*w) m (fun i=>l (2*i)) j+pw w j*dft (w*w) m (fun i=>l (2*i+1)) j:=by
 have hww:w*w=pw w 2:=by show w*w=1*w*w;grind
 have hp:∀ i,pw w (2*i*j)=pw (w*w) (i*j):=fun i=>by rw[hww,←bZL,Nat.mul_assoc]
 unfold dft;rw[qZg,←oZ2];congr 1
 ·exact gZA m fun i _=>by rw[hp]
 ·refine gZA m fun i _=>?_
  rw[show(2*i+1)*j=2*i*j+j by rw[Nat.succ_mul],eZM,hp];grind
theorem lZo {w:Zp}{m:Nat}(h:pw w m=1)(n:Nat)(l:Nat→Zp)(j:Nat):dft w n l (j+m)=dft w n l j:=
 gZA n fun i _=>by
  have e:pw w (i*m)=1:=by rw[Nat.mul_comm,bZL,h,gZj]
  rw[Nat.mul_add,eZM,e];grind
theorem wZP (w:Zp)(m:Nat)(l:Nat→Zp)(j:Nat):dft w (2*m) l j=dft (w*w) m (fun i=>l (2*i)) j+dft (w*w) m (fun i=>l (2*i+1)) j*pw w j:=by
 rw[mZL];grind
theorem wZO {w:Zp}{m:Nat}(h:pw w m=-1)(l:Nat→Zp)(j:Nat):dft w (2*m) l (j+m)=dft (w*w) m (fun i=>l (2*i)) j-dft (w*w) m (fun i=>l (2*i+1)) j*pw w j:=by
 have h2:pw (w*w) m=1:=by rw[lZF,h];grind
 rw[mZL,lZo h2,lZo h2,eZM,h];grind
def rv :Nat→Nat→Nat
 |0,_=>0
 |k+1,x=>x%2*2^k+rv k (x/2)
theorem kZe :∀ k x,rv k x<2^k
 |0,_=>Nat.one_pos
 |k+1,x=>by
  have h1:=kZe k (x/2);have h2:x%2<2:=Nat.mod_lt _ (by omega);show x%2*2^k+rv k (x/2)<2^(k+1)
  rw[Nat.pow_succ];rcases(by omega:x%2=0∨x%2=1)with e|e<;>rw[e]<;>omega
def stg (w:Zp)(k:Nat)(l:Nat→Zp)(s p:Nat):Zp:=
 dft (pw w (2^(k-s))) (2^s) (fun t=>l (rv (k-s) (p/2^s)+t*2^(k-s))) (p%2^s)
theorem uZq (w:Zp)(k:Nat)(l:Nat→Zp)(p:Nat):stg w k l 0 p=l (rv k p):=by
 unfold stg dft;rw[Nat.pow_zero,Nat.div_one,Nat.mod_one,Nat.sub_zero];show 0+l (rv k p+0*2^k)*pw _ (0*0)=_
 rw[Nat.zero_mul,Nat.add_zero,Nat.mul_zero];show 0+l (rv k p)*1=_
 grind
theorem vZ6 (w:Zp)(k:Nat)(l:Nat→Zp){p:Nat}(h:p<2^k):stg w k l k p=dft w (2^k) l p:=by
 unfold stg;rw[Nat.sub_self,Nat.pow_zero,xZM,Nat.mod_eq_of_lt h];refine hZ8 (fun i _=>?_) p;show l (0+i*1)=l i
 rw[Nat.zero_add,Nat.mul_one]
theorem uZp (w:Zp)(k:Nat)(l:Nat→Zp){s:Nat}(hs:s<k)(hw:pw w (2^(k-1))=-1)(b i:Nat)(hi:i<2^s):
  stg w k l (s+1) (b*(2*2^s)+i)=stg w k l s (b*(2*2^s)+i)+stg w k l s (b*(2*2^s)+i+2^s)*pw w (i*2^(k-s-1))∧
  stg w k l (s+1) (b*(2*2^s)+i+2^s)=stg w k l s (b*(2*2^s)+i)-stg w k l s (b*(2*2^s)+i+2^s)*pw w (i*2^(k-s-1)):=by
 have hp:0<2^s:=Nat.pos_of_ne_zero (by have:=Nat.two_pow_pos s;omega);obtain⟨m,hm⟩:∃ m,k=s+1+m:=⟨k-s-1,by omega⟩;have e1:k-(s+1)=m:=by omega
 have e2:k-s=m+1:=by omega
 have e3:k-s-1=m:=by omega
  -- the words of both classes
 have a1:(b*(2*2^s)+i)/2^(s+1)=b:=by
  rw[Nat.pow_succ,Nat.mul_comm (2^s) 2,Nat.add_comm,Nat.add_mul_div_right _ _ (by omega),Nat.div_eq_of_lt (by omega),Nat.zero_add]
 have a2:(b*(2*2^s)+i)%2^(s+1)=i:=by
  rw[Nat.pow_succ,Nat.mul_comm (2^s) 2,Nat.add_comm,Nat.add_mul_mod_self_right,Nat.mod_eq_of_lt (by omega)]
 have a3:(b*(2*2^s)+i+2^s)/2^(s+1)=b:=by
  rw[Nat.pow_succ,Nat.mul_comm (2^s) 2,Nat.add_assoc,Nat.add_comm,Nat.add_mul_div_right _ _ (by omega),Nat.div_eq_of_lt (by omega),Nat.zero_add]
 have a4:(b*(2*2^s)+i+2^s)%2^(s+1)=i+2^s:=by
  rw[Nat.pow_succ,Nat.mul_comm (2^s) 2,Nat.add_assoc,Nat.add_comm,Nat.add_mul_mod_self_right,Nat.mod_eq_of_lt (by omega)]
 have hb:b*(2*2^s)=(2*b)*2^s:=by rw[Nat.mul_comm 2 b,Nat.mul_assoc]
 have b1:(b*(2*2^s)+i)/2^s=2*b:=by
  rw[hb,Nat.add_comm,Nat.add_mul_div_right _ _ hp,Nat.div_eq_of_lt hi,Nat.zero_add]
 have b2:(b*(2*2^s)+i)%2^s=i:=by
  rw[hb,Nat.add_comm,Nat.add_mul_mod_self_right,Nat.mod_eq_of_lt hi]
 have hb':b*(2*2^s)+i+2^s=i+(2*b+1)*2^s:=by rw[hb,Nat.add_mul (2*b) 1,Nat.one_mul];omega
 have b3:(b*(2*2^s)+i+2^s)/2^s=2*b+1:=by
  rw[hb',Nat.add_mul_div_right _ _ hp,Nat.div_eq_of_lt hi,Nat.zero_add]
 have b4:(b*(2*2^s)+i+2^s)%2^s=i:=by
  rw[hb',Nat.add_mul_mod_self_right,Nat.mod_eq_of_lt hi]
 have r1:rv (m+1) (2*b)=rv m b:=by
  show(2*b)%2*2^m+rv m ((2*b)/2)=_
  rw[show(2*b)%2=0 by omega,show(2*b)/2=b by omega];omega
 have r2:rv (m+1) (2*b+1)=rv m b+2^m:=by
  show(2*b+1)%2*2^m+rv m ((2*b+1)/2)=_
  rw[show(2*b+1)%2=1 by omega,show(2*b+1)/2=b by omega];omega
 have hww:pw w (2^m)*pw w (2^m)=pw w (2^(m+1)):=by
  rw[← eZM];congr 1;rw[Nat.pow_succ];omega
 have hneg:pw (pw w (2^m)) (2^s)=-1:=by
  rw[← bZL,←Nat.pow_add,show m+s=k-1 by omega,hw]
 have hpow:pw (pw w (2^m)) i=pw w (i*2^m):=by rw[← bZL,Nat.mul_comm]
 have c1:∀ t,rv m b+2*t*2^m=rv m b+t*2^(m+1):=fun t=>by rw[Nat.pow_succ,Nat.mul_comm (2^m) 2,←Nat.mul_assoc,Nat.mul_comm t 2]
 have c2:∀ t,rv m b+(2*t+1)*2^m=rv m b+2^m+t*2^(m+1):=fun t=>by rw[Nat.succ_mul,Nat.pow_succ,Nat.mul_comm (2^m) 2,←Nat.mul_assoc,Nat.mul_comm t 2];omega
 unfold stg;rw[a1,a2,a3,a4,b1,b2,b3,b4,e1,e3,e2,r1,r2,←hww];rw[show 2^(s+1)=2*2^s by rw[Nat.pow_succ];omega];constructor
 ·rw[wZP,hpow];simp only[c1,c2]
 ·rw[wZO hneg,hpow];simp only[c1,c2]
theorem sZE :∀ n,pw (-1) (2*n)=1∧pw (-1) (2*n+1)=-1
 |0=>⟨rfl,by show(1:Zp)* -1=-1;grind⟩
 |n+1=>by
  obtain⟨h1,h2⟩:=sZE n;have e:pw (-1) (2*(n+1))=1:=by
   show pw (-1) (2*n+1)* -1=1
   rw[h2];grind
  exact⟨e,by show pw (-1) (2*(n+1))* -1=-1;rw[e];grind⟩
theorem tZN {w:Zp}{R C:Nat}(hw:pw w (R*C)=1)(l:Nat→Zp)(m j:Nat):
  dft w (R*C) l (m*R+j)=dft (pw w R) C (fun c=>dft (pw w C) R (fun r=>l (r*C+c)) j*pw w (c*j)) m:=by
 have e1:∀ r c,pw w ((r*C+c)*(m*R+j))=pw (pw w C) (r*j)*pw w (c*j)*pw (pw w R) (c*m):=fun r c=>by
  rw[← bZL,←bZL,show(r*C+c)*(m*R+j)=(R*C)*(r*m)+(C*(r*j)+c*j+R*(c*m)) by grind,eZM,bZL w (R*C),hw,gZj,eZM,eZM];grind
 unfold dft;rw[qZh,qZi];refine gZA C fun c _=>?_
 have e2:∀ r,l (r*C+c)*pw w ((r*C+c)*(m*R+j))=(pw w (c*j)*pw (pw w R) (c*m))*(l (r*C+c)*pw (pw w C) (r*j)):=fun r=>by rw[e1];grind
 simp only[e2];rw[oZ2];grind
def pwB :Nat→Zp→Nat→Zp
 |0,_,_=>1
 |f+1,x,n=>if n=0 then 1 else if n%2=1 then pwB f (x*x) (n/2)*x else pwB f (x*x) (n/2)
theorem oZO :∀(f:Nat) (x:Zp) (n:Nat),n<2^f→pwB f x n=pw x n
 |0,x,n,h=>by
  obtain rfl:n=0:=by simpa using h
  rfl
 |f+1,x,n,h=>by
  have hx:x*x=pw x 2:=by show x*x=1*x*x;grind
  unfold pwB;by_cases h0:n=0
  ·rw[if_pos h0,h0];rfl
  ·rw[if_neg h0,oZO f (x*x) (n/2) (by rw[Nat.pow_succ]at h;omega),hx,←bZL];by_cases h1:n%2=1
   ·rw[if_pos h1];have e:n=2*(n/2)+1:=by omega
    show pw x (2*(n/2)+1)=pw x n
    rw[← e]
   ·rw[if_neg h1];have e:n=2*(n/2):=by omega
    rw[← e]
theorem oZm :pw 7 9223372034707292160=-1:=by
 rw[← oZO 64 7 9223372034707292160 (by decide)];decide +kernel
def rt (k:Nat):Zp:=pw 7 (18446744069414584320/2^k)
theorem iZD {k:Nat}(h:k≤32):18446744069414584320/2^k*2^k=18446744069414584320:=by
 refine Nat.div_mul_cancel ?_;refine Nat.dvd_trans (Nat.pow_dvd_pow 2 h) ?_;decide
theorem jZJ {k:Nat}(h:k≤32):pw (rt k) (2^k)=1:=by
 unfold rt;rw[← bZL,iZD h];refine(congrArg (pw 7) (by decide:18446744069414584320=9223372034707292160*2)).trans ?_;rw[bZL,oZm];show(1:Zp)* -1* -1=1
 grind
theorem sZN {k:Nat}(h:k≤32)(h0:0<k):pw (rt k) (2^(k-1))=-1:=by
 unfold rt;have e:=iZD h;obtain⟨m,rfl⟩:∃ m,k=m+1:=⟨k-1,by omega⟩;rw[Nat.add_sub_cancel,←bZL];have:18446744069414584320/2^(m+1)*2^m=9223372034707292160:=by
  rw[Nat.pow_succ,←Nat.mul_assoc]at e;rw[Nat.pow_succ];omega
 rw[this,oZm]
theorem sZO {k a:Nat}(h:k≤32)(ha:a≤k):pw (rt k) (2^(k-a))=rt a:=by
 unfold rt;rw[← bZL];congr 1;have e1:=iZD h;have e2:=iZD (k:=a) (by omega);have e3:2^k=2^(k-a)*2^a:=by rw[← Nat.pow_add];congr 1;omega
 rw[e3,←Nat.mul_assoc]at e1;have hp:=Nat.two_pow_pos a;rw[← e3]at e1;exact Nat.eq_of_mul_eq_mul_right hp (e1.trans e2.symm)
def rtd (d:Bool)(k:Nat):Zp:=match d with|false=>rt k|true=>pw (rt k) (2^k-1)
theorem wZ8 {k:Nat}(h:k≤32):rt k*pw (rt k) (2^k-1)=1:=by
 have e:pw (rt k) (2^k-1+1)=pw (rt k) (2^k-1)*rt k:=rfl;have hp:=Nat.two_pow_pos k;rw[show 2^k-1+1=2^k by omega,jZJ h]at e;grind
theorem vZX (d:Bool){k:Nat}(h:k≤32):pw (rtd d k) (2^k)=1:=by
 cases d
 ·exact jZJ h
 ·show pw (pw (rt k) (2^k-1)) (2^k)=1
  rw[← bZL,Nat.mul_comm,bZL,jZJ h,gZj]
theorem vZW (d:Bool){k:Nat}(h:k≤32)(h0:0<k):pw (rtd d k) (2^(k-1))=-1:=by
 cases d
 ·exact sZN h h0
 ·show pw (pw (rt k) (2^k-1)) (2^(k-1))=-1
  rw[← bZL,Nat.mul_comm,bZL,sZN h h0];obtain⟨m,rfl⟩:∃ m,k=m+1:=⟨k-1,by omega⟩;have hp:=Nat.two_pow_pos m;rw[show 2^(m+1)-1=2*(2^m-1)+1 by rw[Nat.pow_succ];omega,(sZE _).2]
theorem pZ9 (d:Bool){k a:Nat}(h:k≤32)(ha:a≤k):pw (rtd d k) (2^(k-a))=rtd d a:=by
 cases d
 ·exact sZO h ha
 ·show pw (pw (rt k) (2^k-1)) (2^(k-a))=pw (rt a) (2^a-1)
  rw[← bZL,Nat.mul_comm,bZL,sZO h ha];have e:2^k-1=(2^a)*(2^(k-a)-1)+(2^a-1):=by
   have hp:=Nat.two_pow_pos a;have hq:=Nat.two_pow_pos (k-a);have e3:2^k=2^a*2^(k-a):=by rw[← Nat.pow_add];congr 1;omega
   rw[e3,Nat.mul_sub_one];have:2^a*1≤2^a*2^(k-a):=Nat.mul_le_mul_left _ hq;omega
  rw[e,eZM,bZL,jZJ (by omega),gZj];grind
def zp (a:Nat):Zp:=Fin.ofNat _ a
theorem pZe (a:Nat):(zp a).val=a%18446744069414584321:=rfl
theorem iZl (z:Zp):zp z.val=z:=Fin.ext (Nat.mod_eq_of_lt z.isLt)
theorem xZl (a b:Nat):zp (a*b)=zp a*zp b:=Fin.ext (by
 rw[Fin.val_mul,pZe,pZe,pZe,←Nat.mul_mod])
theorem pZd (a:Nat):∀ n,zp (a^n)=pw (zp a) n
 |0=>rfl
 |n+1=>by rw[Nat.pow_succ,xZl,pZd a n];rfl
def zw (w:UInt64):Zp:=zp w.toNat
def uw (z:Zp):UInt64:=UInt64.ofNat z.val
theorem oZ8 (z:Zp):(uw z).toNat=z.val:=UInt64.toNat_ofNat_of_lt' (by have:=z.isLt;show z.val<18446744073709551616;omega)
theorem nZV (z:Zp):zw (uw z)=z:=by unfold zw;rw[oZ8,iZl]
theorem jZV (z:Zp):((uw z).toNat:Int)=(z.val:Int):=by rw[oZ8]
def at' (l:List UInt64)(i:Nat):Zp:=zw (l.getD i 0)
theorem wZI {l:List UInt64}{i:Nat}(h:i<l.length):at' l i=zw l[i]:=by unfold at';rw[List.getD_eq_getElem?_getD,List.getElem?_eq_getElem h];rfl
end Go.Proofs.YtgfildcgihbdaaaGreatDoor.Fft
namespace Go.Proofs.YtgfildcgihbdaaaGreatDoor.Fft
def swp (m:BitVec 64)(d:Nat)(x:BitVec 64):BitVec 64:=((x>>>d)&&&m)|||((x&&&m)<<<d)
def eZP (m:BitVec 64)(d i:Nat):Nat:=if m.getLsbD i then i+d else i-d
def xZB (m:BitVec 64)(d:Nat):Bool:=(List.range 64).all fun i=>if m.getLsbD i then decide (i+d<64)&&(decide (i<d)|| !m.getLsbD (i-d))else decide (d≤i)&&m.getLsbD (i-d)
theorem swp_get {m:BitVec 64}{d:Nat}(h:xZB m d=true)(x:BitVec 64){i:Nat}(hi:i<64):(swp m d x).getLsbD i=x.getLsbD (eZP m d i):=by
 have h1:=List.all_eq_true.1 h i (List.mem_range.2 hi);unfold swp eZP;simp only[BitVec.getLsbD_or,BitVec.getLsbD_and,BitVec.getLsbD_ushiftRight,BitVec.getLsbD_shiftLeft];by_cases hm:m.getLsbD i=true
 ·simp only[hm,if_true]at h1⊢;simp only[Bool.and_eq_true,decide_eq_true_eq,Bool.or_eq_true,Bool.not_eq_true']at h1;rcases h1.2 with h2|h2
  ·rw[Nat.add_comm d i];simp[h2]
  ·rw[Nat.add_comm d i,h2];simp
 ·have hm':m.getLsbD i=false:=by simpa using hm
  simp only[hm',Bool.false_eq_true,if_false]at h1⊢;simp only[Bool.and_eq_true,decide_eq_true_eq]at h1;rw[h1.2];have:¬i<d:=by omega
  simp[hi,this]
def nZQ (x:BitVec 64):BitVec 64:=
 let x:=swp 0x5555555555555555#64 1 x
 let x:=swp 0x3333333333333333#64 2 x
 let x:=swp 0x0f0f0f0f0f0f0f0f#64 4 x
 let x:=swp 0x00ff00ff00ff00ff#64 8 x
 let x:=swp 0x0000ffff0000ffff#64 16 x
 (x>>>32)|||(x<<<32)
theorem sZJ (x:BitVec 64){i:Nat}(hi:i<64):(nZQ x).getLsbD i=x.getLsbD (63-i):=by
 unfold nZQ;simp only[BitVec.getLsbD_or,BitVec.getLsbD_ushiftRight,BitVec.getLsbD_shiftLeft];have hb:(List.range 64).all (fun i=>decide (eZP 0x0000ffff0000ffff#64 16 i<64)&&decide (eZP 0x00ff00ff00ff00ff#64 8 (eZP 0x0000ffff0000ffff#64 16 i)<64)&&decide (eZP 0x0f0f0f0f0f0f0f0f#64 4 (eZP 0x00ff00ff00ff00ff#64 8 (eZP 0x0000ffff0000ffff#64 16 i))<64)&&decide (eZP 0x3333333333333333#64 2 (eZP 0x0f0f0f0f0f0f0f0f#64 4 (eZP 0x00ff00ff00ff00ff#64 8 (eZP 0x0000ffff0000ffff#64 16 i)))<64)&&
   decide (eZP 0x5555555555555555#64 1 (eZP 0x3333333333333333#64 2 (eZP 0x0f0f0f0f0f0f0f0f#64 4 (eZP 0x00ff00ff00ff00ff#64 8 (eZP 0x0000ffff0000ffff#64 16 i))))=(if i<32 then 31-i else 95-i)))=true:=by decide +kernel
 have key:∀ j,j<64→(swp 0x0000ffff0000ffff#64 16 (swp 0x00ff00ff00ff00ff#64 8 (swp 0x0f0f0f0f0f0f0f0f#64 4 (swp 0x3333333333333333#64 2 (swp 0x5555555555555555#64 1 x))))).getLsbD j=x.getLsbD (if j<32 then 31-j else 95-j):=fun j hj=>by
  have:=List.all_eq_true.1 hb j (List.mem_range.2 hj);simp only[Bool.and_eq_true,decide_eq_true_eq]at this;obtain⟨⟨⟨⟨h1,h2⟩,h3⟩,h4⟩,h5⟩:=this;rw[swp_get (by decide +kernel) _ hj,swp_get (by decide +kernel) _ h1,swp_get (by decide +kernel) _ h2,swp_get (by decide +kernel) _ h3,swp_get (by decide +kernel) _ h4,h5]
 by_cases h:i<32
 ·rw[key (32+i) (by omega),if_neg (by omega),show 95-(32+i)=63-i by omega];simp[h]
 ·have hge:¬32+i<64:=by omega
  rw[BitVec.getLsbD_of_ge _ (32+i) (by omega),key (i-32) (by omega),if_pos (by omega),show 31-(i-32)=63-i by omega];simp[h,hi]
theorem lZT :∀(k x j:Nat),(rv k x).testBit j=(decide (j<k)&&x.testBit (k-1-j))
 |0,x,j=>by simp[rv]
 |k+1,x,j=>by
  show(x%2*2^k+rv k (x/2)).testBit j=_
  have hlt:=kZe k (x/2);rw[Nat.mul_comm,Nat.testBit_two_pow_mul_add _ hlt];by_cases h:j<k
  ·rw[if_pos h,lZT k (x/2) j,Nat.testBit_div_two];have:k-1-j+1=k+1-1-j:=by omega
   rw[this];have h2:j<k+1:=by omega
   simp[h,h2]
  ·rw[if_neg h];by_cases e:j=k
   ·subst e;rw[Nat.sub_self,Nat.testBit_zero,Nat.mod_mod];have:x.testBit (j+1-1-j)=x.testBit 0:=by rw[show j+1-1-j=0 by omega]
    rw[this,Nat.testBit_zero];simp
   ·have:¬j<k+1:=by omega
    simp[this];have h3:j-k=(j-k-1)+1:=by omega
    rw[h3,Nat.testBit_succ];have:x%2/2=0:=by omega
    rw[this];simp
theorem wZ7 {k x:Nat}(hk:k≤32)(hx:x<2^k):(nZQ (BitVec.ofNat 64 x)).toNat>>>(64-k)=rv k x:=by
 apply Nat.eq_of_testBit_eq;intro j;rw[Nat.testBit_shiftRight,BitVec.testBit_toNat,lZT];by_cases h:j<k
 ·rw[sZJ _ (by omega),BitVec.getLsbD_ofNat];have h1:63-(64-k+j)<64:=by omega
  have h2:63-(64-k+j)=k-1-j:=by omega
  simp[h,h2];intro _;omega
 ·rw[BitVec.getLsbD_of_ge _ _ (by omega)];simp[h]
theorem uZ0 (k x:Nat)(hx:x<2^k):rv k (rv k x)=x:=by
 apply Nat.eq_of_testBit_eq;intro j;rw[lZT,lZT];by_cases h:j<k
 ·have h1:k-1-j<k:=by omega
  have h2:k-1-(k-1-j)=j:=by omega
  simp[h,h1,h2]
 ·simp[h];exact Nat.testBit_lt_two_pow (Nat.lt_of_lt_of_le hx (Nat.pow_le_pow_right (by omega) (by omega)))
def dn (h b i p:Nat):Bool:=decide (p<b*(2*h)+i∨(b*(2*h)+h≤p∧p<b*(2*h)+h+i))
def stL (w:Zp)(k:Nat)(l:Nat→Zp)(s:Nat)(f:Nat→Bool):List UInt64:=(List.range (2^k)).map fun p=>uw (if f p=true then stg w k l (s+1) p else stg w k l s p)
theorem kZf (w:Zp)(k:Nat)(l:Nat→Zp)(s:Nat)(f:Nat→Bool):(stL w k l s f).length=2^k:=by simp[stL]
theorem hZE (w:Zp)(k:Nat)(l:Nat→Zp)(s:Nat)(f:Nat→Bool){p:Nat}(hp:p<2^k):(stL w k l s f)[p]? =some (uw (if f p=true then stg w k l (s+1) p else stg w k l s p)):=by
 unfold stL;rw[List.getElem?_map,List.getElem?_range hp];rfl
theorem sZV {w:Zp}{k:Nat}{l:Nat→Zp}{s:Nat}{f g:Nat→Bool}(h:∀ p,p<2^k→f p=g p):stL w k l s f=stL w k l s g:=by
 unfold stL;apply List.map_congr_left;intro p hp;rw[h p (List.mem_range.1 hp)]
theorem vZr (h b i:Nat)(hi:i<h):dn h b i (b*(2*h)+i)=false∧dn h b i (b*(2*h)+i+h)=false:=by
 unfold dn;exact⟨decide_eq_false (by omega),decide_eq_false (by omega)⟩
theorem uZl {w:Zp}{k:Nat}{l:Nat→Zp}{s b i:Nat}(h:Nat)(hi:i<h)(hp:b*(2*h)+i+h<2^k):
  ((stL w k l s (dn h b i)).set (b*(2*h)+i) (uw (stg w k l (s+1) (b*(2*h)+i)))).set (b*(2*h)+i+h) (uw (stg w k l (s+1) (b*(2*h)+i+h)))=stL w k l s (dn h b (i+1)):=by
 apply List.ext_getElem?;intro p;rw[List.getElem?_set,List.getElem?_set];simp only[List.length_set,kZf];by_cases hlt:p<2^k
 ·by_cases e1:b*(2*h)+i+h=p
  ·subst e1;rw[if_pos rfl,if_pos hp,hZE _ _ _ _ _ hlt,if_pos (show dn h b (i+1) _=true from decide_eq_true (by omega))]
  ·rw[if_neg e1];by_cases e2:b*(2*h)+i=p
   ·subst e2;rw[if_pos rfl,if_pos hlt,hZE _ _ _ _ _ hlt,if_pos (show dn h b (i+1) _=true from decide_eq_true (by omega))]
   ·rw[if_neg e2,hZE _ _ _ _ _ hlt,hZE _ _ _ _ _ hlt];have:dn h b i p=dn h b (i+1) p:=by
     unfold dn;rw[decide_eq_decide];omega
    rw[this]
 ·rw[if_neg (by omega),if_neg (by omega),List.getElem?_eq_none (by rw[kZf];omega),List.getElem?_eq_none (by rw[kZf];omega)]
theorem uZk {w:Zp}{k:Nat}{l:Nat→Zp}{s b:Nat}(h:Nat):stL w k l s (dn h b h)=stL w k l s (dn h (b+1) 0):=
 sZV fun p _=>by
  unfold dn;rw[decide_eq_decide,Nat.add_mul b 1,Nat.one_mul];omega
theorem vZ5 {w:Zp}{k:Nat}{l:Nat→Zp}{s b:Nat}(h h':Nat)(hb:2^k≤b*(2*h)):stL w k l s (dn h b 0)=stL w k l (s+1) (dn h' 0 0):=by
 unfold stL;apply List.map_congr_left;intro p hp;have:=List.mem_range.1 hp;rw[if_pos (show dn h b 0 p=true from decide_eq_true (by omega)),if_neg (show ¬dn h' 0 0 p=true by unfold dn;simp)]
def eZx (d:Bool)(k:Nat)(l:List UInt64):List UInt64:=(List.range (2^k)).map fun j=>uw (dft (rtd d k) (2^k) (at' l) j)
theorem iZX (d:Bool)(k:Nat)(l:List UInt64):(eZx d k l).length=2^k:=by simp[eZx]
theorem vZ4 (d:Bool)(k:Nat)(l:List UInt64)(h:Nat):stL (rtd d k) k (at' l) k (dn h 0 0)=eZx d k l:=by
 unfold stL eZx;apply List.map_congr_left;intro p hp;have:=List.mem_range.1 hp;rw[if_neg (show ¬dn h 0 0 p=true by unfold dn;simp),vZ6 _ _ _ this]
def eZo (k:Nat)(l:List UInt64):List UInt64:=(List.range (2^k)).map fun p=>l.getD (rv k p) 0
theorem uZm (w:Zp)(k:Nat)(l:List UInt64)(h:Nat):(eZo k l).map (fun x=>uw (zw x))=stL w k (at' l) 0 (dn h 0 0):=by
 unfold eZo stL;rw[List.map_map];apply List.map_congr_left;intro p hp;have:=List.mem_range.1 hp;rw[if_neg (show ¬dn h 0 0 p=true by unfold dn;simp),uZq];rfl
end Go.Proofs.YtgfildcgihbdaaaGreatDoor.Fft
namespace Go.Hw
open Go Go.RowKit
def flatF :Nat→DataW Unit→List Value
 |0,_=>[]
 |_+1,.lit (.int k n)=>[.int k n]
 |_+1,.lit (.string bs)=>[.string ⟨bs.toArray⟩]
 |_+1,.lit (.bool b)=>[.bool b]
 |f+1,.agg ds=>(ds.map (flatF f)).flatten
 |_+1,_=>[]
def lZm (P:Program):List Field→Nat→Option Nat
 | [],o=>some o
 |f::l,o=>if f.offset=o then lZm P l (o+P.cellsOf f.type)else none
def jZv (P:Program):Nat→TypeId→Bool
 |0,_=>false
 |f+1,t=>
  match P.underlying t with
  |some (.int _)=>true
  |some .string=>true
  |some .bool=>true
  |some (.array n e)=>jZv P f e&&(P.cellsOf t==n*P.cellsOf e)
  |some (.struct fs)=>fs.toList.all (fun x=>jZv P f x.type)&&(lZm P fs.toList 0==some (P.cellsOf t))
  |_=>false
theorem chunks {α:Type}(k:Nat):∀(n:Nat) (cs:List α) (ys:List (List α)),cs.length=n*k→ys.length=n→(∀ i,(h:i<ys.length)→(cs.drop (i*k)).take k=ys[i])→cs=ys.flatten
 |0,cs,ys,hl,hy,_=>by
  rw[Nat.zero_mul]at hl;rw[List.length_eq_zero_iff.1 hl,List.length_eq_zero_iff.1 hy];rfl
 |n+1,cs,[],_,hy,_=>by simp at hy
 |n+1,cs,y::ys,hl,hy,h=>by
  have h0:=h 0 (by simp);rw[Nat.zero_mul,List.drop_zero,List.getElem_cons_zero]at h0;have ih:=chunks k n (cs.drop k) ys (by rw[List.length_drop,hl,Nat.succ_mul];omega) (by simpa using hy) fun i hi=>by
   have:=h (i+1) (by simpa using hi);rw[List.getElem_cons_succ]at this;rw[List.drop_drop,←this,Nat.succ_mul,Nat.add_comm]
  rw[List.flatten_cons,←ih,←h0,List.take_append_drop]
theorem lZn {P:Program}:∀(l:List Field) (ys:List (List Value)) (o e:Nat) (cs:List Value),lZm P l o=some e→cs.length=e→ys.length=l.length→
  (∀(i:Nat) (f:Field),l[i]? =some f→∃ y,ys[i]? =some y∧(cs.drop f.offset).take (P.cellsOf f.type)=y)→cs.drop o=ys.flatten
 | [],ys,o,e,cs,h,hl,hy,_=>by
  unfold lZm at h;cases h;rw[List.drop_eq_nil_of_le (by omega),List.length_eq_zero_iff.1 hy];rfl
 |f::l,[],o,e,cs,h,hl,hy,_=>by simp at hy
 |f::l,y::ys,o,e,cs,h,hl,hy,hh=>by
  unfold lZm at h;split at h
  ·rename_i ho
   obtain⟨y',e1,e2⟩:=hh 0 f (by simp);simp only[List.getElem?_cons_zero,Option.some.injEq]at e1;subst e1;have ih:=lZn l ys _ e cs h hl (by simpa using hy) fun i f' hf=>by
    have:=hh (i+1) f' (by simpa using hf);simpa using this
   rw[List.flatten_cons,←ih,←e2,ho,←List.drop_drop,List.take_append_drop]
  ·cases h
theorem hZM {enc:TypeId×Value→Unit}{P:Program}{w:World}{base:Nat}{sp:Nat→Bool}{held:Bool}:∀(f:Nat) {fuel:Nat} {t:TypeId} {cs:List Value} {d:DataW Unit} {p:List MemPlace},
  jZv P f t=true→DataW.trod enc P w base sp held fuel t cs=some (d,p)→cs=flatF f d
 |0,_,_,_,_,_,h,_=>by cases h
 |f+1,fuel,t,cs,d,p,h,ht=>by
  unfold jZv at h;split at h
  ·rename_i k hu
   obtain⟨n,rfl,e,_⟩:=DataW.trod_int hu ht;cases e;rfl
  ·rename_i hu
   obtain⟨s,rfl,e,_⟩:=DataW.trod_string hu ht;cases e;simp[flatF]
  ·rename_i hu
   obtain⟨b,rfl,e⟩:=DataW.trod_bool hu ht;cases e;rfl
  ·rename_i n e hu
   simp only[Bool.and_eq_true,beq_iff_eq]at h;obtain⟨xs,m,_,ex,hl,hn,hel⟩:=DataW.trod_array hu ht;cases ex;show cs=(((xs.map (·.1))).map (flatF f)).flatten
   refine chunks (P.cellsOf e) n cs _ (by rw[hl,h.2]) (by simpa using hn) fun i hi=>?_
   have hi':i<xs.length:=by simpa using hi
   have h1:=hel i (by omega);rw[List.getElem?_eq_getElem hi']at h1;have:=hZM f (d:=xs[i].1) (p:=xs[i].2) h.1 h1;rw[this];simp
  ·rename_i fs hu
   simp only[Bool.and_eq_true,beq_iff_eq]at h;obtain⟨xs,m,_,ex,hl,hn,hel⟩:=DataW.trod_struct hu ht;cases ex;show cs=(((xs.map (·.1))).map (flatF f)).flatten
   have:=lZn fs.toList (((xs.map (·.1))).map (flatF f)) 0 _ cs h.2 hl (by simpa using hn) fun i fd hi=>by
    have hi2:fs[i]? =some fd:=by simpa using hi
    have h1:=hel i fd hi2;have hi':i<xs.length:=by
     rw[hn];exact(Array.getElem?_eq_some_iff.1 hi2).1
    rw[List.getElem?_eq_getElem hi']at h1;have hall:=List.all_eq_true.1 h.1 fd (List.mem_of_getElem? hi);exact⟨flatF f xs[i].1,by simp[hi'],hZM f (d:=xs[i].1) (p:=xs[i].2) hall h1⟩
   rw[List.drop_zero]at this;exact this
  ·cases h
theorem laid_at {P:Program}{W:World}{name:String}{d:DataW Unit}{g:Nat}{t:TypeId}(hg:P.globalNamed name=some g)(hty:(P.globals[g]?).map (·.type)=some t)(ho:jZv P 9 t=true):
  ∀{l:List (String×DataW Unit)} (i:Nat),laidMet P l W→l[i]? =some (name,d)→Cells (Full W) (some ⟨g,0,none⟩) (flatF 9 d)
 | [],i,_,h=>by simp at h
 |x::l,0,hL,h=>by
  simp only[List.getElem?_cons_zero,Option.some.injEq]at h;subst h;obtain⟨ps,⟨g',t',cs,fuel,p,q,hg',ht',hvar,hd,_,_⟩,_⟩:=hL;obtain rfl:=Option.some.inj (hg.symm.trans hg');obtain rfl:=Option.some.inj (hty.symm.trans ht');have e:=hZM 9 ho hd;intro j v hj;refine⟨_,rfl,?_⟩;rw[← e]at hj;have:=World.var?_cell hg hvar j;rw[Addr.add_lit',Nat.zero_add];refine Full.cell ?_;rw[this];simpa using hj
 |x::l,i+1,hL,h=>laid_at hg hty ho i hL.tail (by simpa using h)
theorem Cells.block {H:Hp}{g:Nat}{v:Value}{vs:List Value}(h:Cells H (some ⟨g,0,none⟩) (v::vs)):∃ o,H g=some o:=by
 obtain⟨a,ha,hc⟩:=h 0 v rfl;cases ha;unfold Hp.cell? at hc;rw[Addr.add_lit']at hc;cases e:H g with
 |none=>simp only[e]at hc;cases hc
 |some o=>exact⟨o,rfl⟩
section
variable {L : List As} {H : Hp}
theorem Sep.ldf (h:Sep L H)(i:Nat){b j:Nat}{c:Array Value}{e:TypeId}{v:Value}{K:Value→Prop}(hi:L[i]? =some (pts b (.obj (.cells c e))))(hv:jZz c.toList j=some v)(k:K v):Ld H ((⟨b,0,none⟩:Addr).add j) K:=by
 rw[Addr.add_lit',Nat.zero_add];exact h.ld i hi hv k
theorem Sep.ldg (h:Sep L H)(i:Nat){b j k:Nat}{c:Array Value}{e:TypeId}{v:Value}{K:Value→Prop}(hi:L[i]? =some (pts b (.obj (.cells c e))))(hv:jZz c.toList (j+k)=some v)(kk:K v):Ld H (((⟨b,0,none⟩:Addr).add j).add k) K:=by
 rw[Addr.add_lit',Addr.add_lit',Nat.zero_add];exact h.ld i hi hv kk
theorem Sep.stf (h:Sep L H)(i:Nat){b j:Nat}{c:Array Value}{e:TypeId}{v:Value}{K:Hp→Prop}(hi:L[i]? =some (pts b (.obj (.cells c e))))(hj:j<c.size)(hv:v.oneCell'=true)
  (k:∀ H',Sep (L.set i (pts b (.obj (.cells (c.setIfInBounds j v) e)))) H'→K H'):St H (((⟨b,0,none⟩:Addr).add j).add 0) v K:=by
 rw[Addr.add_lit',Addr.add_lit',Nat.zero_add,Nat.add_zero];exact h.st i hi hj hv k
end
end Go.Hw
namespace Go.Proofs.YtgfildcgihbdaaaGreatDoor.W
open Go Go.Hw
theorem cZD :Tryz.prog.follows .mixedOrders=true:=by kernel_rfl
abbrev HcA (f:FuncId)(z:Array Value)(H:Hp)(K:Array Value→Hp→Prop):Prop:=Za Tryz.prog f z H fun v H=>DA v fun x0=>K x0 H
abbrev HcB (f:FuncId)(z:Array Value)(H:Hp)(K:Bool→Hp→Prop):Prop:=Za Tryz.prog f z H fun v H=>DB v fun x0=>K x0 H
abbrev HcI (f:FuncId)(z:Array Value)(H:Hp)(K:Int→Hp→Prop):Prop:=Za Tryz.prog f z H fun v H=>DI .i64 v fun x0=>K x0 H
abbrev HcP (f:FuncId)(z:Array Value)(H:Hp)(K:OA→Hp→Prop):Prop:=Za Tryz.prog f z H fun v H=>DP v fun x0=>K x0 H
abbrev HcS (f:FuncId)(z:Array Value)(H:Hp)(K:OA→Nat→Nat→Hp→Prop):Prop:=Za Tryz.prog f z H fun v H=>DSl v fun x0 x1 x2=>K x0 x1 x2 H
abbrev HcT (f:FuncId)(z:Array Value)(H:Hp)(K:ByteArray→Hp→Prop):Prop:=Za Tryz.prog f z H fun v H=>DS v fun x0=>K x0 H
abbrev HcU (f:FuncId)(z:Array Value)(H:Hp)(K:Int→Hp→Prop):Prop:=Za Tryz.prog f z H fun v H=>DI .u32 v fun x0=>K x0 H
abbrev HcW (f:FuncId)(z:Array Value)(H:Hp)(K:Int→Hp→Prop):Prop:=Za Tryz.prog f z H fun v H=>DI .u64 v fun x0=>K x0 H
abbrev Hz :=Za Tryz.prog
abbrev QcA (f:FuncId)(z:Array Value)(H:Hp)(K:Array Value→Prop):Prop:=ZQ Tryz.prog f z H fun v=>DA v K
abbrev QcB (f:FuncId)(z:Array Value)(H:Hp)(K:Bool→Prop):Prop:=ZQ Tryz.prog f z H fun v=>DB v K
abbrev QcI (f:FuncId)(z:Array Value)(H:Hp)(K:Int→Prop):Prop:=ZQ Tryz.prog f z H fun v=>DI .i64 v K
abbrev QcS (f:FuncId)(z:Array Value)(H:Hp)(K:OA→Nat→Nat→Prop):Prop:=ZQ Tryz.prog f z H fun v=>DSl v K
abbrev QcU (f:FuncId)(z:Array Value)(H:Hp)(K:Int→Prop):Prop:=ZQ Tryz.prog f z H fun v=>DI .u32 v K
abbrev QcW (f:FuncId)(z:Array Value)(H:Hp)(K:Int→Prop):Prop:=ZQ Tryz.prog f z H fun v=>DI .u64 v K
abbrev Qz :=ZQ Tryz.prog
def gZJ (x1 x2 x3:Int)(H:Hp)(K:VK):Prop:=
 Nw H (.obj (.cells #[.int .i64 0,.int .i64 0,.int .i64 0,.int .i64 0,.int .i64 0,.int .i64 0,.int .i64 0,.int .i64 0,.int .i64 0,.int .i64 0,.int .i64 0,.int .i64 0,.int .i64 0,.int .i64 0,.int .i64 0,.int .i64 0,.int .i64 0] 90)) fun b1 H1=>Hz 97 #[.int .i64 x1,.int .i64 x3] H1 fun v1 H2=>jZm v1 fun x4 x5=>(BIf (x5 !=0) (StA H2 ⟨b1,0,none⟩ #[.int .i64 0,.int .i64 0,.int .i64 0,.int .i64 0,.int .i64 0,.int .i64 0,.int .i64 0,.int .i64 0,.int .i64 0,.int .i64 0,.int .i64 0,.int .i64 0,.int .i64 0,.int .i64 0,.int .i64 0,.int .i64 0,.int .i64 0] 17 fun H3=>LdA H3 ⟨b1,0,none⟩ 17 fun l4=>K (.tuple #[.agg l4.toArray,.int .i64 x5]) H3) (BIf (decide (x2<x4)) (StA H2 ⟨b1,0,none⟩ #[.int .i64 0,.int .i64 0,.int .i64 0,.int .i64 0,.int .i64 0,.int .i64 0,.int .i64 0,.int .i64 0,.int .i64 0,.int .i64 0,.int .i64 0,.int .i64 0,.int .i64 0,.int .i64 0,.int .i64 0,.int .i64 0,.int .i64 0] 17 fun H4=>LdA H4 ⟨b1,0,none⟩ 17 fun l5=>K (.tuple #[.agg l5.toArray,.int .i64 7]) H4) (HcI 99 #[.int .i64 x3] H2 fun x6 H5=>HcA 98 #[.int .i64 x1,.int .i64 x6] H5 fun y1 H6=>StA H6 ⟨b1,0,none⟩ y1 17 fun H7=>LdA H7 ⟨b1,0,none⟩ 17 fun l6=>K (.tuple #[.agg l6.toArray,.int .i64 0]) H7)))
theorem gZJ.ok x1 x2 x3 H K (h:gZJ x1 x2 x3 H K):Za Tryz.prog 70 #[.int .i64 x1,.int .i64 x2,.int .i64 x3] H K:=
 okN cZD Tryz.func70 rfl rfl h
def fZo (x1 x2:Int)(H:Hp)(K:VK):Prop:=
 HcI 99 #[.int .i64 x2] H fun x3 H1=>HcB 145 #[.int .i64 x1,.int .i64 x3] H1 fun c1 H2=>BIf (!c1) (K (.tuple #[.int .i64 0,.int .i64 1]) H2) (HcI 99 #[.int .i64 x2] H2 fun x4 H3=>HcI 146 #[.int .i64 x1,.int .i64 x4] H3 fun x5 H4=>K (.tuple #[.int .i64 x5,.int .i64 0]) H4)
theorem fZo.ok x1 x2 H K (h:fZo x1 x2 H K):Za Tryz.prog 97 #[.int .i64 x1,.int .i64 x2] H K:=
 okN cZD Tryz.func97 rfl rfl h
def aZL.l4 (K:VK):Nat→Int→Addr→Addr→Int→Int→Int→Hp→Prop
 |0,_,_,_,_,_,_,_=>False
 |k+1,x4,a1,a2,x5,x6,x7,H=>
  let R4:=aZL.l4 K k
  BIf (decide (x7<4)) ((0≤(u64.wrap x4)∧ixI x7 4 (StA H ((a2.add 5).add (x7.toNat*3)) #[.int .i64 x5,.int .i64 x6,.int .i64 (aZE .i64 1 (u64.wrap x4))] 3 fun H5=>R4 x4 a1 a2 (i64.wrap (x5+x6)) x6 (i64.wrap (x7+1)) H5))) (LdA H a2 17 fun l1=>StA H a1 l1.toArray 17 fun H6=>LdA H6 a1 17 fun l2=>K (.agg l2.toArray) H6)
def aZL (x1 x2:Int)(H:Hp)(K:VK):Prop:=
 Nw H (.obj (.cells #[.int .i64 0,.int .i64 0,.int .i64 0,.int .i64 0,.int .i64 0,.int .i64 0,.int .i64 0,.int .i64 0,.int .i64 0,.int .i64 0,.int .i64 0,.int .i64 0,.int .i64 0,.int .i64 0,.int .i64 0,.int .i64 0,.int .i64 0] 90)) fun b1 H1=>Nw H1 (.obj (.cells #[.int .i64 0,.int .i64 0,.int .i64 0,.int .i64 0,.int .i64 0,.int .i64 0,.int .i64 0,.int .i64 0,.int .i64 0,.int .i64 0,.int .i64 0,.int .i64 0,.int .i64 0,.int .i64 0,.int .i64 0,.int .i64 0,.int .i64 0] 90)) fun b2 H2=>StA H2 ⟨b2,0,none⟩ #[.int .i64 x1,.int .i64 x2,.int .i64 1,.int .i64 8,.int .i64 (i64.wrap (8*x2)),.int .i64 0,.int .i64 0,.int .i64 0,.int .i64 0,.int .i64 0,.int .i64 0,.int .i64 0,.int .i64 0,.int .i64 0,.int .i64 0,.int .i64 0,.int .i64 0] 17 fun H3=>HcI 147 #[.int .i64 x1,.int .i64 x2] H3 fun x3 H4=>(∃ k,aZL.l4 K k x1 ⟨b1,0,none⟩ ⟨b2,0,none⟩ 9 x3 0 H4)
def aZL.l4.L (K:VK)(k:Nat):Mid:=fun E D H=>
 eI E 0 .i64 fun x4=>eN E 4 fun a1=>eN E 5 fun a2=>eI E 6 .i64 fun x5=>eI E 7 .i64 fun x6=>eI E 18 .i64 fun x7=>Zk D (aZL.l4 K k x4 a1 a2 x5 x6 x7 H)
def aZL.Λ4 (_:VK)(_R4:Int→Addr→Addr→Int→Int→Int→Hp→Prop):Zt:=Zt.none (fun _=>none)
def aZL.Λ (K:VK):Zt:=⟨fun i=>none,fun i=>match Nat.beq i 4 with|true=>some (fun E D H=>∃ k,aZL.l4.L K k E D H)|false=>none,(fun _=>none)⟩
theorem aZL.ok x1 x2 H K (h:aZL x1 x2 H K):Za Tryz.prog 98 #[.int .i64 x1,.int .i64 x2] H K:=
 okL (Λ:=(aZL.Λ K)) cZD Tryz.func98 rfl rfl h (oC (fun E D H h=>by
   refine Safe.loop' (aZL.l4.L K) (fun E D H h=>?_) (fun k E D H h=>?_) E D H h
   ·obtain⟨w0,e0,g1⟩:=DG.out h;obtain⟨x4,rfl,g2⟩:=DI.out g1;obtain⟨w4,e4,g3⟩:=DG.out g2;obtain⟨pw4,rfl,g4⟩:=DP.out g3;obtain⟨a1,rfl,g5⟩:=NN.out g4;obtain⟨w5,e5,g6⟩:=DG.out g5;obtain⟨pw5,rfl,g7⟩:=DP.out g6;obtain⟨a2,rfl,g8⟩:=NN.out g7;obtain⟨w6,e6,g9⟩:=DG.out g8;obtain⟨x5,rfl,g10⟩:=DI.out g9;obtain⟨w7,e7,g11⟩:=DG.out g10;obtain⟨x6,rfl,g12⟩:=DI.out g11;obtain⟨w18,e18,g13⟩:=DG.out g12;obtain⟨x7,rfl,g14⟩:=DI.out g13;obtain⟨rfl,h'⟩:=Zk.out g14;exact h'
   ·obtain⟨x4,e0,g2⟩:=GI h;obtain⟨a1,e4,g5⟩:=GN g2;obtain⟨a2,e5,g8⟩:=GN g5;obtain⟨x5,e6,g10⟩:=GI g8;obtain⟨x6,e7,g12⟩:=GI g10;obtain⟨x7,e18,g14⟩:=GI g12;obtain⟨rfl,h'⟩:=Zk.out g14;exact okJ (Λ:=(aZL.Λ4 K (aZL.l4 K k))) cZD [] (Zb.cons e0 (Zb.cons e4 (Zb.cons e5 (Zb.cons e6 (Zb.cons e7 (Zb.cons e18 (Zb.nil _))))))) h' oN) oN)
def fZT (x1:Int)(H:Hp)(K:VK):Prop:=
 BIf (decide (x1<32)) (K (.int .i64 0) H) (BIf (decide (x1>4096)) (K (.int .i64 0) H) (BIf ((aZr .i64 x1 (i64.wrap (x1-1))) !=0) (K (.int .i64 0) H) (((8:Int)≠0∧i64=i64∧K (.int .i64 (i64.wrap (Int.tdiv x1 8))) H))))
theorem fZT.ok x1 H K (h:fZT x1 H K):Za Tryz.prog 99 #[.int .i64 x1] H K:=
 okN cZD Tryz.func99 rfl rfl h
def fZp (x1 x2:Int)(H:Hp)(K:VK):Prop:=
 BIf (decide (x1≥0)) (BIf (decide (x1≤(32:Int))) (K (.bool (decide (x2>0))) H) (K (.bool false) H)) (K (.bool false) H)
theorem fZp.ok x1 x2 H K (h:fZp x1 x2 H K):Za Tryz.prog 145 #[.int .i64 x1,.int .i64 x2] H K:=
 okN cZD Tryz.func145 rfl rfl h
def fZq (x1 x2:Int)(H:Hp)(K:VK):Prop:=
 HcI 147 #[.int .i64 x1,.int .i64 x2] H fun x3 H1=>K (.int .i64 (i64.wrap (9+(i64.wrap (4*x3))))) H1
theorem fZq.ok x1 x2 H K (h:fZq x1 x2 H K):Za Tryz.prog 146 #[.int .i64 x1,.int .i64 x2] H K:=
 okN cZD Tryz.func146 rfl rfl h
def fZr (x1 x2:Int)(H:Hp)(K:VK):Prop:=
 (0≤(u64.wrap x1)∧(x2≠0∧i64=i64∧K (.int .i64 (i64.wrap ((i64.wrap (Int.tdiv (i64.wrap ((aZE .i64 1 (u64.wrap x1))-1)) x2))+1))) H))
theorem fZr.ok x1 x2 H K (h:fZr x1 x2 H K):Za Tryz.prog 147 #[.int .i64 x1,.int .i64 x2] H K:=
 okN cZD Tryz.func147 rfl rfl h
def fZn (y1:Array Value)(H:Hp)(K:VK):Prop:=
 Nw H (.obj (.cells y1 90)) fun b1 H1=>LeI H1 ((⟨b1,0,none⟩:Addr).add 0) fun x1=>LeI H1 ((⟨b1,0,none⟩:Addr).add 1) fun x2=>QcI 99 #[.int .i64 (i64.wrap ((if 4096<x2 then 4096 else x2)*8))] H1 fun x3=>QcB 145 #[.int .i64 x1,.int .i64 x3] H1 fun c1=>BIf c1 (LdA H1 ⟨b1,0,none⟩ 17 fun l1=>LeI H1 ((⟨b1,0,none⟩:Addr).add 0) fun x4=>LeI H1 ((⟨b1,0,none⟩:Addr).add 1) fun x5=>QcA 98 #[.int .i64 x4,.int .i64 x5] H1 fun y2=>EqV Tryz.prog .eql 90 (.agg l1.toArray) (.agg y2) fun c2=>K (.bool c2) H1) (K (.bool false) H1)
theorem fZn.ok y1 H K (h:fZn y1 H K):Za Tryz.prog 156 #[.agg y1] H K:=
 okN cZD Tryz.func156 rfl rfl h
def eZD (x1 x2 x3 x4 x5:Int)(H:Hp)(K:VK):Prop:=
 Nw H (.obj (.cells #[.int .i64 x1,.int .i64 x2,.int .i64 x3] 87)) fun b1 H1=>BIf (decide (x4<1)) (K (.tuple #[.int .i64 0,.int .i64 0,.int .i64 2]) H1) (BIf (decide (x5<0)) (K (.tuple #[.int .i64 0,.int .i64 0,.int .i64 2]) H1) (LeI H1 ((⟨b1,0,none⟩:Addr).add 2) fun x6=>BIf (decide (x5≥x6)) (K (.tuple #[.int .i64 0,.int .i64 0,.int .i64 2]) H1) ((x4≠0∧i64=i64∧LeI H1 ((⟨b1,0,none⟩:Addr).add 1) fun x7=>BIf (decide ((i64.wrap (Int.tdiv x5 x4))≥x7)) (K (.tuple #[.int .i64 0,.int .i64 0,.int .i64 2]) H1) (LeI H1 ((⟨b1,0,none⟩:Addr).add 0) fun x8=>(x4≠0∧i64=i64∧(x4≠0∧i64=i64∧K (.tuple #[.int .i64 (i64.wrap (x8+(i64.wrap (Int.tdiv x5 x4)))),.int .i64 (Int.tmod x5 x4),.int .i64 0]) H1)))))))
theorem eZD.ok x1 x2 x3 x4 x5 H K (h:eZD x1 x2 x3 x4 x5 H K):Za Tryz.prog 157 #[.agg #[.int .i64 x1,.int .i64 x2,.int .i64 x3],.int .i64 x4,.int .i64 x5] H K:=
 okN cZD Tryz.func157 rfl rfl h
end Go.Proofs.YtgfildcgihbdaaaGreatDoor.W
namespace Go.Proofs.YtgfildcgihbdaaaGreatDoor.Lay
open Go Go.Hw W
def ZD (s:Int):Nat:=if s=32 then 4 else if s=64 then 8 else if s=128 then 16 else if s=256 then 32 else if s=512 then 64 else if s=1024 then 128 else if s=2048 then 256 else if s=4096 then 512 else 0
theorem iZT {x y:Nat}(hx:x<2^63)(hy:y<2^63):aZr .i64 (x:Int) (y:Int)=((x&&&y:Nat):Int):=by
 have hle:x&&&y≤x:=Nat.and_le_left;have h1:(BitVec.ofInt 64 (x:Int)&&&BitVec.ofInt 64 (y:Int)).toNat=x&&&y:=by
  simp only[BitVec.toNat_and,BitVec.ofInt_natCast,BitVec.toNat_ofNat];rw[Nat.mod_eq_of_lt (by omega),Nat.mod_eq_of_lt (by omega)]
 unfold aZr;rw[show i64.bits=64 from rfl,h1];exact ZG (by omega) (by omega)
theorem nZc :(List.range 4097).all (fun n=>if 32≤n then(if n&&&(n-1)==0 then ZD n !=0&&n/8==ZD n else ZD n==0)else true)=true:=by kernel_rfl
theorem iZ4 {s:Int}(h:s<32):ZD s=0:=by
 unfold ZD
 repeat (rw[if_neg (by omega)])
theorem iZ3 {s:Int}(h:4096<s):ZD s=0:=by
 unfold ZD
 repeat (rw[if_neg (by omega)])
theorem lZK (s:Int)(H:Hp):Za Tryz.prog 99 #[.int .i64 s] H (RetE (.int .i64 (ZD s)) H):=by
 apply fZT.ok;unfold fZT;rw[cZU,cZU,wZp];by_cases h1:s<32
 ·rw[if_pos h1,iZ4 h1];exact RetE.mk _ _
 rw[if_neg h1];by_cases h2:s>4096
 ·rw[if_pos h2,iZ3 h2];exact RetE.mk _ _
 rw[if_neg h2];obtain⟨n,rfl⟩:=Int.eq_ofNat_of_zero_le (show 0≤s by omega);have ht:=List.all_eq_true.1 nZc n (by simp;omega);rw[if_pos (by omega)]at ht;rw[show((n:Int)-1)=((n-1:Nat):Int) by omega,ZG (by omega) (by omega),iZT (by omega) (by omega)];split at ht
 ·rename_i h3
  simp only[Bool.and_eq_true,bne_iff_ne,beq_iff_eq]at ht h3;rw[h3,if_neg (by simp)];refine⟨by omega,rfl,RetE.of ?_⟩;rw[show Int.tdiv (n:Int) 8=((n/8:Nat):Int)from rfl,ht.2,ZG (by omega) (by have:=ht.2;omega)]
 ·rename_i h3
  simp only[beq_iff_eq]at ht h3;rw[if_pos (by simp;omega),ht];exact RetE.mk _ _
def ZF (k p:Nat):Nat:=(2^k-1)/p+1
theorem oZT {k p:Nat}(hk:k≤33):ZF k p≤8589934592:=by
 unfold ZF;have h1:2^k≤2^33:=Nat.pow_le_pow_right (by omega) hk;have h2:(2^k-1)/p≤2^k-1:=Nat.div_le_self _ _;have h3:1≤2^k:=Nat.one_le_two_pow;omega
theorem mZn {k:Nat}(h:k≤62):(2:Nat)^k≤4611686018427387904:=Nat.pow_le_pow_right (n:=2) (by omega) h
theorem gZz {k:Nat}(h:k≤62):aZE .i64 1 (k:Int)=((2^k:Nat):Int):=by
 unfold aZE;rw[Int.toNat_natCast,show i64.bits=64 from rfl,Nat.min_eq_left (by omega),Int.one_mul];have:=mZn h;rw[show((2:Int)^k)=((2^k:Nat):Int) by simp];exact aZJ (by omega)
theorem pZ7 {k p:Nat}(hk:k≤62)(hp:0<p)(hp2:p<2^62)(H:Hp):Za Tryz.prog 147 #[.int .i64 k,.int .i64 p] H (RetE (.int .i64 (ZF k p)) H):=by
 apply fZr.ok;unfold fZr;have h1:=mZn hk;have h2:1≤2^k:=Nat.one_le_two_pow;have h3:(2^k-1)/p≤2^k-1:=Nat.div_le_self _ _;rw[eZp (by omega) (by omega),gZz hk,ZG (x:=((2^k:Nat):Int)-1) (by omega) (by omega)];rw[show(((2^k:Nat):Int)-1)=((2^k-1:Nat):Int) by omega,show Int.tdiv ((2^k-1:Nat):Int) (p:Int)=(((2^k-1)/p:Nat):Int)from rfl];refine⟨by omega,by omega,rfl,RetE.of ?_⟩;rw[aZJ (by omega),show((((2^k-1)/p:Nat):Int)+1)=(((2^k-1)/p+1:Nat):Int) by rfl,aZJ (by omega)];rfl
theorem eZ0 (k p:Int)(H:Hp):Za Tryz.prog 145 #[.int .i64 k,.int .i64 p] H (RetE (.bool (decide (0≤k∧k≤32∧0<p))) H):=by
 apply fZp.ok;unfold fZp;rw[cZU,cZU];by_cases h1:k≥0
 ·rw[if_pos h1];by_cases h2:k≤32
  ·rw[if_pos h2];refine RetE.of ?_;congr 2;simp;omega
  ·rw[if_neg h2];refine RetE.of ?_;congr 1;simp;omega
 ·rw[if_neg h1];refine RetE.of ?_;congr 1;simp;omega
def bZs (k p:Nat):Nat:=9+4*ZF k p
theorem vZJ {k p:Nat}(hk:k≤32)(hp:0<p)(hp2:p<2^62)(H:Hp):Za Tryz.prog 146 #[.int .i64 k,.int .i64 p] H (RetE (.int .i64 (bZs k p)) H):=by
 apply fZq.ok;unfold fZq;refine Za.use (pZ7 (by omega) hp hp2 H) ?_
 try simp only[HV]
 have:=oZT (k:=k) (p:=p) (by omega);refine RetE.of ?_;rw[ZG (x:=4*(ZF k p:Int)) (by omega) (by omega),ZG (by omega) (by omega)];unfold bZs;simp
theorem iZE (s:Int):ZD s≤512:=by
 unfold ZD
 repeat' split
 all_goals omega
def gZE (k s:Int):Int×Int:=if 0≤k∧k≤32∧0<ZD s then(bZs k.toNat (ZD s),0)else(0,1)
theorem jZ0 (k s:Int)(H:Hp):Za Tryz.prog 97 #[.int .i64 k,.int .i64 s] H (RetE (.tuple #[.int .i64 (gZE k s).1,.int .i64 (gZE k s).2]) H):=by
 apply fZo.ok;unfold fZo;refine Za.use (lZK s H) ?_
 try simp only[HV]
 refine Za.use (eZ0 k _ H) ?_
 try simp only[HV]
 unfold gZE;have hle:=iZE s;by_cases h:0≤k∧k≤32∧0<ZD s
 ·rw[if_pos h];refine aZc (by simp;omega) ?_;refine Za.use (lZK s H) ?_
  try simp only[HV]
  obtain⟨n,rfl⟩:=Int.eq_ofNat_of_zero_le h.1;refine Za.use (vZJ (by omega) h.2.2 (by omega) H) ?_
  try simp only[HV]
  exact RetE.mk _ _
 ·rw[if_neg h];exact aZx (by simp;omega) (RetE.mk _ _)
end Go.Proofs.YtgfildcgihbdaaaGreatDoor.Lay
namespace Go.Proofs.YtgfildcgihbdaaaGreatDoor.W
open Go Go.Hw
theorem dZB :Tryz.prog.follows .mixedOrders=true:=by kernel_rfl
def bZZ (x1:Int)(H:Hp)(K:VK):Prop:=
 BIf (x1==0) (K (.int .i64 64) H) ((0≤(58:Int)∧ixI (aZq .u64 (u64.wrap ((aZr .u64 x1 (u64.wrap (0-x1)))*285870213051353865)) 58) 64 (LeV H ((⟨1,0,none⟩:Addr).add ((aZq .u64 (u64.wrap ((aZr .u64 x1 (u64.wrap (0-x1)))*285870213051353865)) 58).toNat*1)) fun x2=>K (.int .i64 (i64.wrap x2)) H)))
theorem bZZ.ok x1 H K (h:bZZ x1 H K):Za Tryz.prog 105 #[.int .u64 x1] H K:=
 okN dZB Tryz.func105 rfl rfl h
def cZM (x1:Int)(H:Hp)(K:VK):Prop:=
 HcI 184 #[.int .u64 x1] H fun x2 H1=>K (.int .i64 x2) H1
theorem cZM.ok x1 H K (h:cZM x1 H K):Za Tryz.prog 148 #[.int .u64 x1] H K:=
 okN dZB Tryz.func148 rfl rfl h
def cZd (x1:Int)(H:Hp)(K:VK):Prop:=
 HcI 105 #[.int .u64 x1] H fun x2 H1=>K (.int .i64 x2) H1
theorem cZd.ok x1 H K (h:cZd x1 H K):Za Tryz.prog 173 #[.int .u64 x1] H K:=
 okN dZB Tryz.func173 rfl rfl h
def aZn.j7 (K:VK)(x4 x5:Int)(H:Hp):=
 BIf (decide (x4≥256)) ((0≤(8:Int)∧(0≤(u8.wrap (aZq .u64 x4 8))∧ixB ((⟨#[0,1,2,2,3,3,3,3,4,4,4,4,4,4,4,4,5,5,5,5,5,5,5,5,5,5,5,5,5,5,5,5,6,6,6,6,6,6,6,6,6,6,6,6,6,6,6,6,6,6,6,6,6,6,6,6,6,6,6,6,6,6,6,6,7,7,7,7,7,7,7,7,7,7,7,7,7,7,7,7,7,7,7,7,7,7,7,7,7,7,7,7,7,7,7,7,7,7,7,7,7,7,7,7,7,7,7,7,7,7,7,7,7,7,7,7,7,7,7,7,7,7,7,7,7,7,7,7,8,8,8,8,8,8,8,8,8,8,8,8,8,8,8,8,8,8,8,8,8,8,8,8,8,8,8,8,8,8,8,8,8,8,8,8,8,8,8,8,8,8,8,8,8,8,8,8,8,8,8,8,8,8,8,8,8,8,8,8,8,8,8,8,8,8,8,8,8,8,8,8,8,8,8,8,8,8,8,8,8,8,8,8,8,8,8,8,8,8,8,8,8,8,8,8,8,8,8,8,8,8,8,8,8,8,8,8,8,8,8,8,8,8,8,8,8,8,8,8,8,8,8,8,8,8,8,8]⟩):ByteArray) (u8.wrap (aZq .u64 x4 8)).toNat fun x6=>K (.int .i64 (i64.wrap ((i64.wrap (x5+8))+(i64.wrap x6)))) H))) ((0≤(u8.wrap x4)∧ixB ((⟨#[0,1,2,2,3,3,3,3,4,4,4,4,4,4,4,4,5,5,5,5,5,5,5,5,5,5,5,5,5,5,5,5,6,6,6,6,6,6,6,6,6,6,6,6,6,6,6,6,6,6,6,6,6,6,6,6,6,6,6,6,6,6,6,6,7,7,7,7,7,7,7,7,7,7,7,7,7,7,7,7,7,7,7,7,7,7,7,7,7,7,7,7,7,7,7,7,7,7,7,7,7,7,7,7,7,7,7,7,7,7,7,7,7,7,7,7,7,7,7,7,7,7,7,7,7,7,7,7,8,8,8,8,8,8,8,8,8,8,8,8,8,8,8,8,8,8,8,8,8,8,8,8,8,8,8,8,8,8,8,8,8,8,8,8,8,8,8,8,8,8,8,8,8,8,8,8,8,8,8,8,8,8,8,8,8,8,8,8,8,8,8,8,8,8,8,8,8,8,8,8,8,8,8,8,8,8,8,8,8,8,8,8,8,8,8,8,8,8,8,8,8,8,8,8,8,8,8,8,8,8,8,8,8,8,8,8,8,8,8,8,8,8,8,8,8,8,8,8,8,8,8,8,8,8,8,8]⟩):ByteArray) (u8.wrap x4).toNat fun x7=>K (.int .i64 (i64.wrap (x5+(i64.wrap x7)))) H))
def aZn.j4 (K:VK)(x2 x3:Int)(H:Hp):=
 BIf (decide (x2≥65536)) ((0≤(16:Int)∧aZn.j7 K (aZq .u64 x2 16) (i64.wrap (x3+16)) H)) (aZn.j7 K x2 x3 H)
def aZn (x1:Int)(H:Hp)(K:VK):Prop:=
 BIf (decide (x1≥4294967296)) ((0≤(32:Int)∧aZn.j4 K (aZq .u64 x1 32) 32 H)) (aZn.j4 K x1 0 H)
def aZn.Λ (K:VK):Zt:=⟨fun i=>match Nat.beq i 7 with|true=>some (fun E D H=>eI E 0 .u64 fun x4=>eI E 2 .i64 fun x5=>Zk D (aZn.j7 K x4 x5 H))|false=>match Nat.beq i 4 with|true=>some (fun E D H=>eI E 0 .u64 fun x2=>eI E 2 .i64 fun x3=>Zk D (aZn.j4 K x2 x3 H))|false=>none,fun i=>none,(fun _=>none)⟩
theorem aZn.ok x1 H K (h:aZn x1 H K):Za Tryz.prog 184 #[.int .u64 x1] H K:=
 okL (Λ:=(aZn.Λ K)) dZB Tryz.func184 rfl rfl h (oC (fun E D H h=>by
   obtain⟨x2,e0,g2⟩:=GI h;obtain⟨x3,e2,g4⟩:=GI g2;obtain⟨rfl,h'⟩:=Zk.out g4;exact okJ (Λ:=(aZn.Λ K)) dZB [] (Zb.cons e0 (Zb.cons e2 (Zb.nil _))) h' (oC (fun E D H h=>by
     obtain⟨x4,e0,g2⟩:=GI h;obtain⟨x5,e2,g4⟩:=GI g2;obtain⟨rfl,h'⟩:=Zk.out g4;exact okJ (Λ:=(aZn.Λ K)) dZB [] (Zb.cons e0 (Zb.cons e2 (Zb.nil _))) h' oN) oN)) oN)
def dZS (x1 x2:Int)(H:Hp)(K:VK):Prop:=
 (0≤(32:Int)∧(0≤(32:Int)∧(0≤(32:Int)∧(0≤(32:Int)∧(0≤(32:Int)∧K (.tuple #[.int .u64 (u64.wrap ((u64.wrap ((u64.wrap ((aZq .u64 x1 32)*(aZq .u64 x2 32)))+(aZq .u64 (u64.wrap ((u64.wrap ((aZq .u64 x1 32)*(aZr .u64 x2 4294967295)))+(aZq .u64 (u64.wrap ((aZr .u64 x1 4294967295)*(aZr .u64 x2 4294967295))) 32))) 32)))+(aZq .u64 (u64.wrap ((aZr .u64 (u64.wrap ((u64.wrap ((aZq .u64 x1 32)*(aZr .u64 x2 4294967295)))+(aZq .u64 (u64.wrap ((aZr .u64 x1 4294967295)*(aZr .u64 x2 4294967295))) 32))) 4294967295)+(u64.wrap ((aZr .u64 x1 4294967295)*(aZq .u64 x2 32))))) 32))),.int .u64 (u64.wrap (x1*x2))]) H)))))
theorem dZS.ok x1 x2 H K (h:dZS x1 x2 H K):Za Tryz.prog 261 #[.int .u64 x1,.int .u64 x2] H K:=
 okN dZB Tryz.func261 rfl rfl h
def cZN (x1:Int)(H:Hp)(K:VK):Prop:=
 (0≤(1:Int)∧(0≤(1:Int)∧(0≤(2:Int)∧(0≤(2:Int)∧(0≤(4:Int)∧(0≤(4:Int)∧HcW 269 #[.int .u64 (bOr .u64 (aZr .u64 (aZq .u64 (bOr .u64 (aZr .u64 (aZq .u64 (bOr .u64 (aZr .u64 (aZq .u64 x1 1) 6148914691236517205) (aZE .u64 (aZr .u64 x1 6148914691236517205) 1)) 2) 3689348814741910323) (aZE .u64 (aZr .u64 (bOr .u64 (aZr .u64 (aZq .u64 x1 1) 6148914691236517205) (aZE .u64 (aZr .u64 x1 6148914691236517205) 1)) 3689348814741910323) 2)) 4) 1085102592571150095) (aZE .u64 (aZr .u64 (bOr .u64 (aZr .u64 (aZq .u64 (bOr .u64 (aZr .u64 (aZq .u64 x1 1) 6148914691236517205) (aZE .u64 (aZr .u64 x1 6148914691236517205) 1)) 2) 3689348814741910323) (aZE .u64 (aZr .u64 (bOr .u64 (aZr .u64 (aZq .u64 x1 1) 6148914691236517205) (aZE .u64 (aZr .u64 x1 6148914691236517205) 1)) 3689348814741910323) 2)) 1085102592571150095) 4))] H fun x2 H1=>K (.int .u64 x2) H1))))))
theorem cZN.ok x1 H K (h:cZN x1 H K):Za Tryz.prog 262 #[.int .u64 x1] H K:=
 okN dZB Tryz.func262 rfl rfl h
def bZ4 (x1:Int)(H:Hp)(K:VK):Prop:=
 (0≤(8:Int)∧(0≤(8:Int)∧(0≤(16:Int)∧(0≤(16:Int)∧(0≤(32:Int)∧(0≤(32:Int)∧K (.int .u64 (bOr .u64 (aZq .u64 (bOr .u64 (aZr .u64 (aZq .u64 (bOr .u64 (aZr .u64 (aZq .u64 x1 8) 71777214294589695) (aZE .u64 (aZr .u64 x1 71777214294589695) 8)) 16) 281470681808895) (aZE .u64 (aZr .u64 (bOr .u64 (aZr .u64 (aZq .u64 x1 8) 71777214294589695) (aZE .u64 (aZr .u64 x1 71777214294589695) 8)) 281470681808895) 16)) 32) (aZE .u64 (bOr .u64 (aZr .u64 (aZq .u64 (bOr .u64 (aZr .u64 (aZq .u64 x1 8) 71777214294589695) (aZE .u64 (aZr .u64 x1 71777214294589695) 8)) 16) 281470681808895) (aZE .u64 (aZr .u64 (bOr .u64 (aZr .u64 (aZq .u64 x1 8) 71777214294589695) (aZE .u64 (aZr .u64 x1 71777214294589695) 8)) 281470681808895) 16)) 32))) H))))))
theorem bZ4.ok x1 H K (h:bZ4 x1 H K):Za Tryz.prog 269 #[.int .u64 x1] H K:=
 okN dZB Tryz.func269 rfl rfl h
end Go.Proofs.YtgfildcgihbdaaaGreatDoor.W
namespace Go.Proofs.YtgfildcgihbdaaaGreatDoor.W
open Go Go.Hw
theorem fZG :Tryz.prog.follows .mixedOrders=true:=by kernel_rfl
def gZQ (x1:Int)(H:Hp)(K:VK):Prop:=
 BIf (decide (x1<1)) (K (.tuple #[.int .i64 0,.bool false]) H) (BIf (decide (x1>4294967296)) (K (.tuple #[.int .i64 0,.bool false]) H) (BIf ((aZr .i64 x1 (i64.wrap (x1-1))) !=0) (K (.tuple #[.int .i64 0,.bool false]) H) (HcI 105 #[.int .u64 (u64.wrap x1)] H fun x2 H1=>K (.tuple #[.int .i64 x2,.bool true]) H1)))
theorem gZQ.ok x1 H K (h:gZQ x1 H K):Za Tryz.prog 79 #[.int .i64 x1] H K:=
 okN fZG Tryz.func79 rfl rfl h
def aZI.l6 (K:VK):Nat→Int→OA→Nat→Nat→Int→Int→Int→Hp→Prop
 |0,_,_,_,_,_,_,_,_=>False
 |k+1,x3,A2,n2,m2,x4,x5,x6,H=>
  let R6:=aZI.l6 K k
  BIf (decide (x6<x5)) (ixI x6 n2 (NN A2 fun a1=>St H ((a1.add (x6.toNat*1)).add 0) (.int .u64 x4) fun H2=>HcW 236 #[.int .u64 x4,.int .u64 x3] H2 fun x7 H3=>R6 x3 A2 n2 m2 x7 x5 (i64.wrap (x6+1)) H3)) (K (.tuple #[.slice A2 n2 m2,.int .i64 0]) H)
def aZI (x1 x2:Int)(H:Hp)(K:VK):Prop:=
 BIf (decide (x2<0)) (K (.tuple #[.slice none 0 0,.int .i64 1]) H) (BIf (decide (x2>1048576)) (K (.tuple #[.slice none 0 0,.int .i64 1]) H) (MkS Tryz.prog 82 x2 x2 H fun v1 H1=>DSl v1 fun A1 n1 m1=>(∃ k,aZI.l6 K k x1 A1 n1 m1 1 (n1:Int) 0 H1)))
def aZI.l6.L (K:VK)(k:Nat):Mid:=fun E D H=>
 eI E 0 .u64 fun x3=>DG (E.get? 6) fun w6=>DSl w6 fun A2 n2 m2=>eI E 7 .u64 fun x4=>eI E 18 .i64 fun x5=>eI E 19 .i64 fun x6=>Zk D (aZI.l6 K k x3 A2 n2 m2 x4 x5 x6 H)
def aZI.Λ6 (_:VK)(_R6:Int→OA→Nat→Nat→Int→Int→Int→Hp→Prop):Zt:=Zt.none (fun _=>none)
def aZI.Λ (K:VK):Zt:=⟨fun i=>none,fun i=>match Nat.beq i 6 with|true=>some (fun E D H=>∃ k,aZI.l6.L K k E D H)|false=>none,(fun _=>none)⟩
theorem aZI.ok x1 x2 H K (h:aZI x1 x2 H K):Za Tryz.prog 216 #[.int .u64 x1,.int .i64 x2] H K:=
 okL (Λ:=(aZI.Λ K)) fZG Tryz.func216 rfl rfl h (oC (fun E D H h=>by
   refine Safe.loop' (aZI.l6.L K) (fun E D H h=>?_) (fun k E D H h=>?_) E D H h
   ·obtain⟨w0,e0,g1⟩:=DG.out h;obtain⟨x3,rfl,g2⟩:=DI.out g1;obtain⟨w6,e6,g3⟩:=DG.out g2;obtain⟨A2,n2,m2,rfl,g4⟩:=DSl.out g3;obtain⟨w7,e7,g5⟩:=DG.out g4;obtain⟨x4,rfl,g6⟩:=DI.out g5;obtain⟨w18,e18,g7⟩:=DG.out g6;obtain⟨x5,rfl,g8⟩:=DI.out g7;obtain⟨w19,e19,g9⟩:=DG.out g8;obtain⟨x6,rfl,g10⟩:=DI.out g9;obtain⟨rfl,h'⟩:=Zk.out g10;exact h'
   ·obtain⟨x3,e0,g2⟩:=GI h;obtain⟨w6,e6,g3⟩:=DG.out g2;obtain⟨A2,n2,m2,rfl,g4⟩:=DSl.out g3;obtain⟨x4,e7,g6⟩:=GI g4;obtain⟨x5,e18,g8⟩:=GI g6;obtain⟨x6,e19,g10⟩:=GI g8;obtain⟨rfl,h'⟩:=Zk.out g10;exact okJ (Λ:=(aZI.Λ6 K (aZI.l6 K k))) fZG [] (Zb.cons e0 (Zb.cons e6 (Zb.cons e7 (Zb.cons e18 (Zb.cons e19 (Zb.nil _)))))) h' oN) oN)
def gZR (x1:Int)(H:Hp)(K:VK):Prop:=
 HcB 251 #[.int .i64 x1] H fun c1 H1=>BIf (!c1) (K (.tuple #[.int .u64 0,.int .i64 1]) H1) (HcW 252 #[.int .i64 x1] H1 fun x2 H2=>K (.tuple #[.int .u64 x2,.int .i64 0]) H2)
theorem gZR.ok x1 H K (h:gZR x1 H K):Za Tryz.prog 237 #[.int .i64 x1] H K:=
 okN fZG Tryz.func237 rfl rfl h
def gZP (x1:Int)(H:Hp)(K:VK):Prop:=
 HcB 251 #[.int .i64 x1] H fun c1 H1=>BIf (!c1) (K (.tuple #[.int .u64 0,.int .i64 1]) H1) (HcW 252 #[.int .i64 x1] H1 fun x2 H2=>Hz 188 #[.int .u64 x2] H2 fun v3 H3=>gZ7 v3 fun x3 x4=>(K (.tuple #[.int .u64 x3,.int .i64 x4]) H3))
theorem gZP.ok x1 H K (h:gZP x1 H K):Za Tryz.prog 238 #[.int .i64 x1] H K:=
 okN fZG Tryz.func238 rfl rfl h
def gZS (x1:Int)(H:Hp)(K:VK):Prop:=
 BIf (decide (x1≥0)) (K (.bool (decide (x1≤(32:Int)))) H) (K (.bool false) H)
theorem gZS.ok x1 H K (h:gZS x1 H K):Za Tryz.prog 251 #[.int .i64 x1] H K:=
 okN fZG Tryz.func251 rfl rfl h
def gZT (x1:Int)(H:Hp)(K:VK):Prop:=
 (0≤(u64.wrap x1)∧HcW 214 #[.int .u64 7,.int .u64 (aZq .u64 18446744069414584320 (u64.wrap x1))] H fun x2 H1=>K (.int .u64 x2) H1)
theorem gZT.ok x1 H K (h:gZT x1 H K):Za Tryz.prog 252 #[.int .i64 x1] H K:=
 okN fZG Tryz.func252 rfl rfl h
end Go.Proofs.YtgfildcgihbdaaaGreatDoor.W
namespace Go.Proofs.YtgfildcgihbdaaaGreatDoor.W
open Go Go.Hw
theorem fZL :Tryz.prog.follows .mixedOrders=true:=by kernel_rfl
def fZ2 (x1:Int)(H:Hp)(K:VK):Prop:=
 Nw H (.obj (.cells #[.int .i64 0,.int .i64 0] 122)) fun b1 H1=>HcB 189 #[.int .i64 x1] H1 fun c1 H2=>BIf (!c1) (StA H2 ⟨b1,0,none⟩ #[.int .i64 0,.int .i64 0] 2 fun H3=>LdA H3 ⟨b1,0,none⟩ 2 fun l1=>K (.tuple #[.agg l1.toArray,.int .i64 1]) H3) (((2:Int)≠0∧i64=i64∧HcA 190 #[.int .i64 x1,.int .i64 (i64.wrap (Int.tdiv x1 2))] H2 fun y1 H4=>StA H4 ⟨b1,0,none⟩ y1 2 fun H5=>LdA H5 ⟨b1,0,none⟩ 2 fun l2=>K (.tuple #[.agg l2.toArray,.int .i64 0]) H5))
theorem fZ2.ok x1 H K (h:fZ2 x1 H K):Za Tryz.prog 162 #[.int .i64 x1] H K:=
 okN fZL Tryz.func162 rfl rfl h
def eZU (x1 x2:Int)(H:Hp)(K:VK):Prop:=
 Nw H (.obj (.cells #[.int .i64 x1,.int .i64 x2] 122)) fun b1 H1=>Nw H1 (.obj (.cells #[.int .i64 0,.int .i64 0] 122)) fun b2 H2=>LeI H2 ((⟨b1,0,none⟩:Addr).add 1) fun x3=>LeI H2 ((⟨b1,0,none⟩:Addr).add 0) fun x4=>StA H2 ⟨b2,0,none⟩ #[.int .i64 x3,.int .i64 x4] 2 fun H3=>LdA H3 ⟨b2,0,none⟩ 2 fun l1=>K (.agg l1.toArray) H3
theorem eZU.ok x1 x2 H K (h:eZU x1 x2 H K):Za Tryz.prog 163 #[.agg #[.int .i64 x1,.int .i64 x2]] H K:=
 okN fZL Tryz.func163 rfl rfl h
def fZ3 (x1 x2:Int)(H:Hp)(K:VK):Prop:=
 Nw H (.obj (.cells #[.int .i64 x1,.int .i64 x2] 122)) fun b1 H1=>LeI H1 ((⟨b1,0,none⟩:Addr).add 0) fun x3=>Hz 79 #[.int .i64 x3] H1 fun v2 H2=>gZ6 v2 fun x4 c1=>(LeI H2 ((⟨b1,0,none⟩:Addr).add 1) fun x5=>Hz 79 #[.int .i64 x5] H2 fun v6 H3=>gZ6 v6 fun x6 c2=>(BIf c1 (BIf c2 (K (.bool (decide ((i64.wrap (x4+x6))≤32))) H3) (K (.bool false) H3)) (K (.bool false) H3)))
theorem fZ3.ok x1 x2 H K (h:fZ3 x1 x2 H K):Za Tryz.prog 167 #[.agg #[.int .i64 x1,.int .i64 x2]] H K:=
 okN fZL Tryz.func167 rfl rfl h
def fZ4 (x1 x2:Int)(H:Hp)(K:VK):Prop:=
 Nw H (.obj (.cells #[.int .i64 x1,.int .i64 x2] 122)) fun b1 H1=>LdA H1 ⟨b1,0,none⟩ 2 fun l1=>HcB 167 #[.agg l1.toArray] H1 fun c1 H2=>BIf (!c1) (K (.int .i64 0) H2) (LeI H2 ((⟨b1,0,none⟩:Addr).add 0) fun x3=>LeI H2 ((⟨b1,0,none⟩:Addr).add 1) fun x4=>K (.int .i64 (i64.wrap (x3*x4))) H2)
theorem fZ4.ok x1 x2 H K (h:fZ4 x1 x2 H K):Za Tryz.prog 168 #[.agg #[.int .i64 x1,.int .i64 x2]] H K:=
 okN fZL Tryz.func168 rfl rfl h
def fZ5 (x1:Int)(H:Hp)(K:VK):Prop:=
 BIf (decide (x1≥0)) (K (.bool (decide (x1≤(32:Int)))) H) (K (.bool false) H)
theorem fZ5.ok x1 H K (h:fZ5 x1 H K):Za Tryz.prog 189 #[.int .i64 x1] H K:=
 okN fZL Tryz.func189 rfl rfl h
def fZw (x1 x2:Int)(H:Hp)(K:VK):Prop:=
 Nw H (.obj (.cells #[.int .i64 0,.int .i64 0] 122)) fun b1 H1=>(0≤(u64.wrap x2)∧(0≤(u64.wrap (i64.wrap (x1-x2)))∧StA H1 ⟨b1,0,none⟩ #[.int .i64 (aZE .i64 1 (u64.wrap x2)),.int .i64 (aZE .i64 1 (u64.wrap (i64.wrap (x1-x2))))] 2 fun H2=>LdA H2 ⟨b1,0,none⟩ 2 fun l1=>K (.agg l1.toArray) H2))
theorem fZw.ok x1 x2 H K (h:fZw x1 x2 H K):Za Tryz.prog 190 #[.int .i64 x1,.int .i64 x2] H K:=
 okN fZL Tryz.func190 rfl rfl h
end Go.Proofs.YtgfildcgihbdaaaGreatDoor.W
namespace Go.Proofs.YtgfildcgihbdaaaGreatDoor.W
open Go Go.Hw
theorem hZO :Tryz.prog.follows .mixedOrders=true:=by kernel_rfl
def ZX.l3 (K:VK):Nat→Int→Int→Int→Hp→Prop
 |0,_,_,_,_=>False
 |k+1,x2,x3,x4,H=>
  let R3:=ZX.l3 K k
  BIf (decide (x4≤(32:Int))) (BIf (x2==x3) (K (.int .i64 x4) H) (R3 x2 (i64.wrap (2*x3)) (i64.wrap (x4+1)) H)) (K (.int .i64 (-1)) H)
def ZX (x1:Int)(H:Hp)(K:VK):Prop:=
 (∃ k,ZX.l3 K k x1 1 0 H)
def ZX.l3.L (K:VK)(k:Nat):Mid:=fun E D H=>
 eI E 0 .i64 fun x2=>eI E 3 .i64 fun x3=>eI E 4 .i64 fun x4=>Zk D (ZX.l3 K k x2 x3 x4 H)
def ZX.Λ3 (_:VK)(_R3:Int→Int→Int→Hp→Prop):Zt:=Zt.none (fun _=>none)
def ZX.Λ (K:VK):Zt:=⟨fun i=>none,fun i=>match Nat.beq i 3 with|true=>some (fun E D H=>∃ k,ZX.l3.L K k E D H)|false=>none,(fun _=>none)⟩
theorem ZX.ok x1 H K (h:ZX x1 H K):Za Tryz.prog 7 #[.int .i64 x1] H K:=
 okL (Λ:=(ZX.Λ K)) hZO Tryz.func7 rfl rfl h (oC (fun E D H h=>by
   refine Safe.loop' (ZX.l3.L K) (fun E D H h=>?_) (fun k E D H h=>?_) E D H h
   ·obtain⟨w0,e0,g1⟩:=DG.out h;obtain⟨x2,rfl,g2⟩:=DI.out g1;obtain⟨w3,e3,g3⟩:=DG.out g2;obtain⟨x3,rfl,g4⟩:=DI.out g3;obtain⟨w4,e4,g5⟩:=DG.out g4;obtain⟨x4,rfl,g6⟩:=DI.out g5;obtain⟨rfl,h'⟩:=Zk.out g6;exact h'
   ·obtain⟨x2,e0,g2⟩:=GI h;obtain⟨x3,e3,g4⟩:=GI g2;obtain⟨x4,e4,g6⟩:=GI g4;obtain⟨rfl,h'⟩:=Zk.out g6;exact okJ (Λ:=(ZX.Λ3 K (ZX.l3 K k))) hZO [] (Zb.cons e0 (Zb.cons e3 (Zb.cons e4 (Zb.nil _)))) h' oN) oN)
end Go.Proofs.YtgfildcgihbdaaaGreatDoor.W
namespace Go.Proofs.YtgfildcgihbdaaaGreatDoor.Shp
open Go Go.Hw W
def db (i:Nat):Nat:=285870213051353865*2^i%18446744073709551616/288230376151711744
def uZ6 :List Nat:=(List.range 64).map fun j=>((List.range 64).find? fun i=>db i==j).getD 0
def uZt :List Value:=uZ6.map fun(n:Nat)=>Value.int .u8 (n:Int)
def T64 (H:Hp):Prop:=Cells H (some ⟨1,0,none⟩) uZt
theorem T64.le {H H':Hp}(h:T64 H)(k:H.le H'):T64 H':=Cells.le h k
theorem tZM :(List.range 64).all (fun k=>aZq .u64 (u64.wrap ((aZr .u64 ((2^k:Nat):Int) (u64.wrap (0-((2^k:Nat):Int))))*(285870213051353865:Int))) (58:Int)==(db k:Int)&&(decide (db k<64)&&(uZ6[db k]? ==some k)))=true:=by decide +kernel
theorem uZM (k:Nat)(hk:k<64)(H:Hp)(hT:T64 H):Za Tryz.prog 105 #[.int .u64 ((2^k:Nat):Int)] H (RetE (.int .i64 (k:Int)) H):=by
 apply bZZ.ok;unfold bZZ;have hp:(2:Nat)^k≠0:=Nat.ne_of_gt (Nat.pow_pos (by omega));refine aZg (by omega) ⟨by decide,?_⟩;have ht:=List.all_eq_true.1 tZM k (by simp;omega);simp only[Bool.and_eq_true,beq_iff_eq,decide_eq_true_eq]at ht;obtain⟨h1,h2,h3⟩:=ht;rw[h1];have hv:uZt[db k]? =some (.int .u8 (k:Int)):=by
  unfold uZt;rw[List.getElem?_map,h3];rfl
 refine Cells.read hT hv rfl (by decide) ?_;simp only[HV];rw[aZJ (by omega)];exact RetE.mk _ _
def lg (n:Int):Option Nat:=(List.range 33).find? fun k=>n==((2^k:Nat):Int)
theorem dZn {n:Int}{k:Nat}(h:lg n=some k):k≤32∧n=((2^k:Nat):Int):=by
 have h1:=List.mem_of_find?_eq_some h;have h2:=List.find?_some h;simp only[beq_iff_eq]at h2;exact⟨by have:=List.mem_range.1 h1;omega,h2⟩
theorem tZW :(List.range 33).all (fun k=>lg ((2^k:Nat):Int)==some k)=true:=by decide +kernel
theorem iZz {k:Nat}(hk:k≤32):lg ((2^k:Nat):Int)=some k:=by
 have:=List.all_eq_true.1 tZW k (List.mem_range.2 (by omega));simpa using this
theorem pow_pos (k:Nat):1≤2^k:=Nat.pow_pos (by omega)
theorem aZF {k m:Nat}(h:k≤m):2^k≤2^m:=Nat.pow_le_pow_right (by omega) h
theorem xZv {n:Int}(h:n<1):lg n=none:=by
 cases e:lg n with
 |none=>rfl
 |some k=>have:=(dZn e).2;have:=pow_pos k;omega
theorem xZu {n:Int}(h:n>4294967296):lg n=none:=by
 cases e:lg n with
 |none=>rfl
 |some k=>
  obtain⟨h1,h2⟩:=dZn e;have:=aZF h1;rw[show 2^32=4294967296 by decide]at this;omega
theorem wZU {m:Nat}(h1:1≤m)(h2:m≤4294967296):m&&&(m-1)=0↔lg (m:Int)≠none:=by
 rw[Nat.and_sub_one_eq_zero_iff_isPowerOfTwo (by omega)];constructor
 ·rintro⟨k,rfl⟩;have hk:k≤32:=by
   apply Nat.le_of_not_lt;intro h;have:=aZF (show 33≤k from h);rw[show 2^33=8589934592 by decide]at this;omega
  rw[iZz hk];simp
 ·intro h;cases e:lg (m:Int)with
  |none=>exact absurd e h
  |some k=>exact⟨k,Int.ofNat_inj.1 (dZn e).2⟩
def bZG (n:Int):Value:=match lg n with|some k=>.tuple #[.int .i64 (k:Int),.bool true]|none=>.tuple #[.int .i64 0,.bool false]
theorem iZt (n:Int)(H:Hp)(hT:T64 H):Za Tryz.prog 79 #[.int .i64 n] H (RetE (bZG n) H):=by
 apply gZQ.ok;unfold gZQ;by_cases h1:n<1
 ·refine Zn h1 ?_;unfold bZG;rw[xZv h1];exact RetE.mk _ _
 refine Zh h1 ?_;by_cases h2:n>4294967296
 ·refine Zn h2 ?_;unfold bZG;rw[xZu h2];exact RetE.mk _ _
 refine Zh h2 ?_;obtain⟨m,rfl⟩:=Int.eq_ofNat_of_zero_le (show 0≤n by omega);rw[show((m:Int)-1)=((m-1:Nat):Int) by omega,ZG (by omega) (by omega),Lay.iZT (by omega) (by omega)];have hl:=wZU (m:=m) (by omega) (by omega);unfold bZG;cases e:lg (m:Int)with
 |none=>
  refine ZA (fun h=>?_) (RetE.mk _ _);exact(hl.1 (Int.ofNat_inj.1 h)) e
 |some k=>
  refine Zq (Int.ofNat_inj.2 (hl.2 (by rw[e];simp))) ?_;obtain⟨h3,h4⟩:=dZn e;rw[cZg (by omega),h4];refine Za.use (uZM k (by omega) H hT) ?_
  try simp only[HV]
  exact RetE.mk _ _
def iZG (n:Int):Int:=match lg n with|some k=>(k:Int)|none=>-1
theorem lZP (n:Int)(H:Hp):∀(t k:Nat),k+t=33→(∀ j,j<k→n≠((2^j:Nat):Int))→ZX.l3 (RetE (.int .i64 (iZG n)) H) (t+1) n ((2^k:Nat):Int) (k:Int) H
 |0,k,h,hk=>by
  unfold ZX.l3;refine Zh (by omega) ?_;unfold iZG;cases e:lg n with
  |none=>exact RetE.mk _ _
  |some j=>exact absurd (dZn e).2 (hk j (by have:=(dZn e).1;omega))
 |t+1,k,h,hk=>by
  unfold ZX.l3;refine Zn (by omega) ?_;by_cases e:n=((2^k:Nat):Int)
  ·refine ZS e ?_;unfold iZG;rw[e,iZz (by omega)];exact RetE.mk _ _
  ·refine aZg e ?_;have hp:=aZF (show k≤32 by omega);rw[show 2^32=4294967296 by decide]at hp;rw[show(2:Int)*((2^k:Nat):Int)=((2^(k+1):Nat):Int) by rw[Nat.pow_succ];omega,aZJ (by rw[Nat.pow_succ];omega),ZG (x:=(k:Int)+1) (by omega) (by omega)];exact lZP n H t (k+1) (by omega) fun j hj=>by
    by_cases ej:j=k
    ·rw[ej];exact e
    ·exact hk j (by omega)
theorem tZ9 (n:Int)(H:Hp):Za Tryz.prog 7 #[.int .i64 n] H (RetE (.int .i64 (iZG n)) H):=by
 apply ZX.ok;unfold ZX;exact⟨34,lZP n H 33 0 rfl fun j hj=>absurd hj (by omega)⟩
def dZA (r c:Int):Bool:=match lg r,lg c with|some a,some b=>decide (a+b≤32)|_,_=>false
theorem hZp {r c:Int}(h:dZA r c=true):∃ a b:Nat,r=((2^a:Nat):Int)∧c=((2^b:Nat):Int)∧a+b≤32∧lg r=some a∧lg c=some b:=by
 unfold dZA at h;split at h
 ·rename_i a b ha hb
  exact⟨a,b,(dZn ha).2,(dZn hb).2,by simpa using h,ha,hb⟩
 ·cases h
theorem fZK {a b:Nat}(h:a+b≤32):dZA ((2^a:Nat):Int) ((2^b:Nat):Int)=true:=by
 unfold dZA;rw[iZz (by omega),iZz (by omega)];simpa using h
theorem bZR (r c:Int)(H:Hp)(hT:T64 H):Za Tryz.prog 167 #[.agg #[.int .i64 r,.int .i64 c]] H (RetE (.bool (dZA r c)) H):=by
 apply Za.ret;apply fZ3.ok;unfold fZ3;refine(Sep.start H).nw fun b1 H1 hs=>?_
 first|refine hs.ldf 1 rfl rfl ?_|refine hs.ldg 1 rfl rfl ?_
 try simp only[HV]
 refine Za.use (iZt r H1 (hT.le (hs.ow 0 rfl))) ?_;unfold dZA bZG;cases ea:lg r with
 |none=>
  simp only[HV]
  first|refine hs.ldf 1 rfl rfl ?_|refine hs.ldg 1 rfl rfl ?_
  try simp only[HV]
  refine Za.use (iZt c H1 (hT.le (hs.ow 0 rfl))) ?_;unfold bZG;cases eb:lg c<;>simp only[HV]<;>exact hs.fin 0 rfl _
 |some a=>
  simp only[HV]
  first|refine hs.ldf 1 rfl rfl ?_|refine hs.ldg 1 rfl rfl ?_
  try simp only[HV]
  refine Za.use (iZt c H1 (hT.le (hs.ow 0 rfl))) ?_;unfold bZG;cases eb:lg c with
  |none=>simp only[HV];exact hs.fin 0 rfl _
  |some b=>
   simp only[HV];have h1:=(dZn ea).1;have h2:=(dZn eb).1;rw[ZG (by omega) (by omega)];have:decide ((a:Int)+(b:Int)≤32)=decide (a+b≤32):=by
    by_cases h:a+b≤32
    ·rw[decide_eq_true h,decide_eq_true (by omega)]
    ·rw[decide_eq_false h,decide_eq_false (by omega)]
   rw[this];exact hs.fin 0 rfl _
theorem size_le {a b:Nat}(h:a+b≤32):2^a*2^b≤4294967296:=by
 rw[← Nat.pow_add,show 4294967296=2^32 by decide];exact aZF h
def iZh (r c:Int):Int:=if dZA r c=true then r*c else 0
theorem jZ3 (r c:Int)(H:Hp)(hT:T64 H):Za Tryz.prog 168 #[.agg #[.int .i64 r,.int .i64 c]] H (RetE (.int .i64 (iZh r c)) H):=by
 apply Za.ret;apply fZ4.ok;unfold fZ4;refine(Sep.start H).nw fun b1 H1 hs=>?_
 refine hs.ldw 1 rfl rfl ?_;refine Za.use (bZR r c H1 (hT.le (hs.ow 0 rfl))) ?_;simp only[HV];unfold iZh;cases e:dZA r c with
 |false=>exact aZx rfl (hs.fin 0 rfl _)
 |true=>
  refine aZc rfl ?_
  first|refine hs.ldf 1 rfl rfl ?_|refine hs.ldg 1 rfl rfl ?_
  try simp only[HV]
  first|refine hs.ldf 1 rfl rfl ?_|refine hs.ldg 1 rfl rfl ?_
  try simp only[HV]
  obtain⟨a,b,rfl,rfl,h,_,_⟩:=hZp e;have:=size_le h;rw[← Int.natCast_mul,aZJ (by omega),if_pos trivial];exact hs.fin 0 rfl _
end Go.Proofs.YtgfildcgihbdaaaGreatDoor.Shp
namespace Go.Proofs.YtgfildcgihbdaaaGreatDoor.W
open Go Go.Hw
theorem dZb :Tryz.prog.follows .mixedOrders=true:=by kernel_rfl
def gZI (x1:Int)(H:Hp)(K:VK):Prop:=
 K (.bool (decide (x1<18446744069414584321))) H
theorem gZI.ok x1 H K (h:gZI x1 H K):Za Tryz.prog 108 #[.int .u64 x1] H K:=
 okN dZb Tryz.func108 rfl rfl h
def hZg (x1:Int)(H:Hp)(K:VK):Prop:=
 HcW 213 #[.int .u64 x1] H fun x2 H1=>BIf (x2==0) (K (.tuple #[.int .u64 0,.int .i64 13]) H1) (HcW 214 #[.int .u64 x1,.int .u64 18446744069414584319] H1 fun x3 H2=>K (.tuple #[.int .u64 x3,.int .i64 0]) H2)
theorem hZg.ok x1 H K (h:hZg x1 H K):Za Tryz.prog 188 #[.int .u64 x1] H K:=
 okN dZb Tryz.func188 rfl rfl h
def hZ5 (x1:Int)(H:Hp)(K:VK):Prop:=
 BIf (decide (x1≥18446744069414584321)) (K (.int .u64 (u64.wrap (x1-18446744069414584321))) H) (K (.int .u64 x1) H)
theorem hZ5.ok x1 H K (h:hZ5 x1 H K):Za Tryz.prog 213 #[.int .u64 x1] H K:=
 okN dZb Tryz.func213 rfl rfl h
def bZb.l2 (K:VK):Nat→Int→Int→Int→Hp→Prop
 |0,_,_,_,_=>False
 |k+1,x4,x5,x6,H=>
  let R2:=bZb.l2 K k
  BIf (decide (x4>0)) (BIf ((aZr .u64 x4 1)==1) (HcW 236 #[.int .u64 x5,.int .u64 x6] H fun x7 H2=>HcW 236 #[.int .u64 x6,.int .u64 x6] H2 fun x8 H3=>(0≤(1:Int)∧R2 (aZq .u64 x4 1) x7 x8 H3)) (HcW 236 #[.int .u64 x6,.int .u64 x6] H fun x9 H4=>(0≤(1:Int)∧R2 (aZq .u64 x4 1) x5 x9 H4))) (K (.int .u64 x5) H)
def bZb (x1 x2:Int)(H:Hp)(K:VK):Prop:=
 HcW 213 #[.int .u64 x1] H fun x3 H1=>(∃ k,bZb.l2 K k x2 1 x3 H1)
def bZb.l2.L (K:VK)(k:Nat):Mid:=fun E D H=>
 eI E 1 .u64 fun x4=>eI E 5 .u64 fun x5=>eI E 6 .u64 fun x6=>Zk D (bZb.l2 K k x4 x5 x6 H)
def bZb.Λ2 (_:VK)(_R2:Int→Int→Int→Hp→Prop):Zt:=Zt.none (fun _=>none)
def bZb.Λ (K:VK):Zt:=⟨fun i=>none,fun i=>match Nat.beq i 2 with|true=>some (fun E D H=>∃ k,bZb.l2.L K k E D H)|false=>none,(fun _=>none)⟩
theorem bZb.ok x1 x2 H K (h:bZb x1 x2 H K):Za Tryz.prog 214 #[.int .u64 x1,.int .u64 x2] H K:=
 okL (Λ:=(bZb.Λ K)) dZb Tryz.func214 rfl rfl h (oC (fun E D H h=>by
   refine Safe.loop' (bZb.l2.L K) (fun E D H h=>?_) (fun k E D H h=>?_) E D H h
   ·obtain⟨w1,e1,g1⟩:=DG.out h;obtain⟨x4,rfl,g2⟩:=DI.out g1;obtain⟨w5,e5,g3⟩:=DG.out g2;obtain⟨x5,rfl,g4⟩:=DI.out g3;obtain⟨w6,e6,g5⟩:=DG.out g4;obtain⟨x6,rfl,g6⟩:=DI.out g5;obtain⟨rfl,h'⟩:=Zk.out g6;exact h'
   ·obtain⟨x4,e1,g2⟩:=GI h;obtain⟨x5,e5,g4⟩:=GI g2;obtain⟨x6,e6,g6⟩:=GI g4;obtain⟨rfl,h'⟩:=Zk.out g6;exact okJ (Λ:=(bZb.Λ2 K (bZb.l2 K k))) dZb [] (Zb.cons e1 (Zb.cons e5 (Zb.cons e6 (Zb.nil _)))) h' oN) oN)
def hZh (x1 x2:Int)(H:Hp)(K:VK):Prop:=
 HcA 250 #[.int .u64 x1,.int .u64 x2] H fun y1 H1=>HcW 249 #[.agg y1] H1 fun x3 H2=>K (.int .u64 x3) H2
theorem hZh.ok x1 x2 H K (h:hZh x1 x2 H K):Za Tryz.prog 236 #[.int .u64 x1,.int .u64 x2] H K:=
 okN dZb Tryz.func236 rfl rfl h
def bZl.j5 (K:VK)(x7 x8:Int)(H:Hp):=
 BIf (decide ((u64.wrap (x8+(u64.wrap (x7*4294967295))))<(u64.wrap (x7*4294967295)))) (HcW 213 #[.int .u64 (u64.wrap ((u64.wrap (x8+(u64.wrap (x7*4294967295))))+4294967295))] H fun x9 H2=>K (.int .u64 x9) H2) (HcW 213 #[.int .u64 (u64.wrap (x8+(u64.wrap (x7*4294967295))))] H fun x10 H3=>K (.int .u64 x10) H3)
def bZl (x1 x2:Int)(H:Hp)(K:VK):Prop:=
 Nw H (.obj (.cells #[.int .u64 x1,.int .u64 x2] 346)) fun b1 H1=>LeW H1 ((⟨b1,0,none⟩:Addr).add 0) fun x3=>(0≤(32:Int)∧LeW H1 ((⟨b1,0,none⟩:Addr).add 0) fun x4=>LeW H1 ((⟨b1,0,none⟩:Addr).add 1) fun x5=>LeW H1 ((⟨b1,0,none⟩:Addr).add 1) fun x6=>BIf (decide (x6<(aZq .u64 x3 32))) (bZl.j5 K (aZr .u64 x4 4294967295) (u64.wrap ((u64.wrap (x5-(aZq .u64 x3 32)))-4294967295)) H1) (bZl.j5 K (aZr .u64 x4 4294967295) (u64.wrap (x5-(aZq .u64 x3 32))) H1))
def bZl.Λ (K:VK):Zt:=⟨fun i=>match Nat.beq i 5 with|true=>some (fun E D H=>eI E 4 .u64 fun x7=>eI E 5 .u64 fun x8=>Zk D (bZl.j5 K x7 x8 H))|false=>none,fun i=>none,(fun _=>none)⟩
theorem bZl.ok x1 x2 H K (h:bZl x1 x2 H K):Za Tryz.prog 249 #[.agg #[.int .u64 x1,.int .u64 x2]] H K:=
 okL (Λ:=(bZl.Λ K)) dZb Tryz.func249 rfl rfl h (oC (fun E D H h=>by
   obtain⟨x7,e4,g2⟩:=GI h;obtain⟨x8,e5,g4⟩:=GI g2;obtain⟨rfl,h'⟩:=Zk.out g4;exact okJ (Λ:=(bZl.Λ K)) dZb [] (Zb.cons e4 (Zb.cons e5 (Zb.nil _))) h' oN) oN)
def hZf (x1 x2:Int)(H:Hp)(K:VK):Prop:=
 HcW 213 #[.int .u64 x1] H fun x3 H1=>HcW 213 #[.int .u64 x2] H1 fun x4 H2=>Hz 270 #[.agg #[.int .u64 0,.int .u64 x3],.agg #[.int .u64 0,.int .u64 x4]] H2 fun v3 H3=>wZF v3 fun y1 x5=>(Nw H3 (.obj (.cells #[.int .u64 0,.int .u64 0] 346)) fun b1 H4=>StA H4 ⟨b1,0,none⟩ y1 2 fun H5=>LdA H5 ⟨b1,0,none⟩ 2 fun l4=>HcW 249 #[.agg l4.toArray] H5 fun x6 H6=>K (.int .u64 x6) H6)
theorem hZf.ok x1 x2 H K (h:hZf x1 x2 H K):Za Tryz.prog 263 #[.int .u64 x1,.int .u64 x2] H K:=
 okN dZb Tryz.func263 rfl rfl h
def hZj (x1 x2:Int)(H:Hp)(K:VK):Prop:=
 HcW 271 #[.int .u64 x2] H fun x3 H1=>HcW 263 #[.int .u64 x1,.int .u64 x3] H1 fun x4 H2=>K (.int .u64 x4) H2
theorem hZj.ok x1 x2 H K (h:hZj x1 x2 H K):Za Tryz.prog 264 #[.int .u64 x1,.int .u64 x2] H K:=
 okN dZb Tryz.func264 rfl rfl h
def hZi (x1:Int)(H:Hp)(K:VK):Prop:=
 HcW 213 #[.int .u64 x1] H fun x2 H1=>BIf (x2==0) (K (.int .u64 0) H1) (K (.int .u64 (u64.wrap (18446744069414584321-x2))) H1)
theorem hZi.ok x1 H K (h:hZi x1 H K):Za Tryz.prog 271 #[.int .u64 x1] H K:=
 okN dZb Tryz.func271 rfl rfl h
end Go.Proofs.YtgfildcgihbdaaaGreatDoor.W
namespace Go.Proofs.YtgfildcgihbdaaaGreatDoor.W
open Go Go.Hw
theorem oZC :Tryz.prog.follows .mixedOrders=true:=by kernel_rfl
def hZo (x1 x2:Int)(H:Hp)(K:VK):Prop:=
 Nw H (.obj (.cells #[.int .u64 0,.int .u64 0] 346)) fun b1 H1=>Hz 261 #[.int .u64 x1,.int .u64 x2] H1 fun v1 H2=>nZ9 v1 fun x3 x4=>(StA H2 ⟨b1,0,none⟩ #[.int .u64 x3,.int .u64 x4] 2 fun H3=>LdA H3 ⟨b1,0,none⟩ 2 fun l4=>K (.agg l4.toArray) H3)
theorem hZo.ok x1 x2 H K (h:hZo x1 x2 H K):Za Tryz.prog 250 #[.int .u64 x1,.int .u64 x2] H K:=
 okN oZC Tryz.func250 rfl rfl h
def hZn (x1 x2 x3 x4:Int)(H:Hp)(K:VK):Prop:=
 Nw H (.obj (.cells #[.int .u64 x1,.int .u64 x2] 346)) fun b1 H1=>Nw H1 (.obj (.cells #[.int .u64 x3,.int .u64 x4] 346)) fun b2 H2=>Nw H2 (.obj (.cells #[.int .u64 0,.int .u64 0] 346)) fun b3 H3=>LeW H3 ((⟨b1,0,none⟩:Addr).add 1) fun x5=>LeW H3 ((⟨b2,0,none⟩:Addr).add 1) fun x6=>ExC Tryz.prog 273 #[.int .u64 x5,.int .u64 x6,.int .u64 0] H3 fun v3 H4=>nZ9 v3 fun x7 x8=>(St H4 (((⟨b3,0,none⟩:Addr).add 1).add 0) (.int .u64 x7) fun H5=>LeW H5 ((⟨b1,0,none⟩:Addr).add 0) fun x9=>LeW H5 ((⟨b2,0,none⟩:Addr).add 0) fun x10=>ExC Tryz.prog 273 #[.int .u64 x9,.int .u64 x10,.int .u64 x8] H5 fun v8 H6=>nZ9 v8 fun x11 x12=>(St H6 (((⟨b3,0,none⟩:Addr).add 0).add 0) (.int .u64 x11) fun H7=>LdA H7 ⟨b3,0,none⟩ 2 fun l7=>StA H7 ⟨b3,0,none⟩ l7.toArray 2 fun H8=>LdA H8 ⟨b3,0,none⟩ 2 fun l8=>K (.tuple #[.agg l8.toArray,.int .u64 x12]) H8))
theorem hZn.ok x1 x2 x3 x4 H K (h:hZn x1 x2 x3 x4 H K):Za Tryz.prog 270 #[.agg #[.int .u64 x1,.int .u64 x2],.agg #[.int .u64 x3,.int .u64 x4]] H K:=
 okN oZC Tryz.func270 rfl rfl h
end Go.Proofs.YtgfildcgihbdaaaGreatDoor.W
namespace Go.Proofs.YtgfildcgihbdaaaGreatDoor.Gol
open Go Go.Hw W
theorem mZx (x y c:Nat)(hc:c≤1){H:Hp}{K:VK}(k:K (.tuple #[.int .u64 (((x+y+c)%18446744073709551616:Nat):Int),.int .u64 (((x+y+c)/18446744073709551616:Nat):Int)]) H):
  ExC Tryz.prog 273 #[.int .u64 (x:Int),.int .u64 (y:Int),.int .u64 (c:Int)] H K:=fun H0 w0 w hA=>by
 refine⟨.value _,H,w,?_,k,hA⟩;rw[run_callFunc_extern Tryz.func273 (by kernel_rfl) (by kernel_rfl) (by kernel_rfl) (e:=add64Entry) (by kernel_rfl),run_add64 (x:Int) (y:Int) (c:Int) (by omega) (by omega) (by omega) (by omega)];simp only[Result.andThen];congr 5<;>omega
theorem nZL {x:Nat}(hx:x<2^64):aZr .u64 (x:Int) 4294967295=((x%4294967296:Nat):Int):=by
 rw[show(4294967295:Int)=((4294967295:Nat):Int)from rfl,mZd hx (by omega),show 4294967295=2^32-1 from rfl,Nat.and_two_pow_sub_one_eq_mod]
theorem gZZ {x:Nat}:aZq .u64 (x:Int) 32=((x/4294967296:Nat):Int):=by
 rw[hZU (k:=.u64) (a:=x) (i:=32) (n:=32) rfl (by decide)]
theorem qZR {x y:Nat}(hx:x<4294967296)(hy:y<4294967296):u64.wrap ((x:Int)*(y:Int))=((x*y:Nat):Int):=by
 have:x*y≤4294967295*4294967295:=Nat.mul_le_mul (by omega) (by omega);rw[xZf,Nat.mod_eq_of_lt (by omega)]
theorem mZc {x y:Nat}(h:x+y<18446744073709551616):u64.wrap ((x:Int)+(y:Int))=((x+y:Nat):Int):=by
 rw[xZe,Nat.mod_eq_of_lt (by omega)]
theorem tZv {a b:Nat}(ha:a<2^64)(hb:b<2^64)(H:Hp):Za Tryz.prog 261 #[.int .u64 (a:Int),.int .u64 (b:Int)] H (RetE (.tuple #[.int .u64 ((a*b/18446744073709551616:Nat):Int),.int .u64 ((a*b%18446744073709551616:Nat):Int)]) H):=by
 apply dZS.ok;unfold dZS;refine⟨by decide,by decide,by decide,by decide,by decide,?_⟩;rw[xZf a b,gZZ (x:=a),gZZ (x:=b),nZL ha,nZL hb];have ea:a=4294967296*(a/4294967296)+a%4294967296:=by omega
 have eb:b=4294967296*(b/4294967296)+b%4294967296:=by omega
 have h1:a/4294967296<4294967296:=by omega
 have h2:b/4294967296<4294967296:=by omega
 have h3:a%4294967296<4294967296:=by omega
 have h4:b%4294967296<4294967296:=by omega
 have hab:a*b=18446744073709551616*((a/4294967296)*(b/4294967296))+4294967296*((a/4294967296)*(b%4294967296))+4294967296*((a%4294967296)*(b/4294967296))+(a%4294967296)*(b%4294967296):=by
  conv=>lhs;rw[ea,eb]
  rw[Nat.add_mul,Nat.mul_add,Nat.mul_add];rw[show 4294967296*(a/4294967296)*(4294967296*(b/4294967296))=18446744073709551616*((a/4294967296)*(b/4294967296)) by rw[Nat.mul_mul_mul_comm],
   show 4294967296*(a/4294967296)*(b%4294967296)=4294967296*((a/4294967296)*(b%4294967296)) by rw[Nat.mul_assoc],
   show a%4294967296*(4294967296*(b/4294967296))=4294967296*((a%4294967296)*(b/4294967296)) by rw[Nat.mul_left_comm]]
  omega
 rw[qZR h1 h2,qZR h1 h4,qZR h3 h4,qZR h3 h2];have k1:(a/4294967296)*(b/4294967296)≤4294967295*4294967295:=Nat.mul_le_mul (by omega) (by omega);have k2:(a/4294967296)*(b%4294967296)≤4294967295*4294967295:=Nat.mul_le_mul (by omega) (by omega);have k3:(a%4294967296)*(b/4294967296)≤4294967295*4294967295:=Nat.mul_le_mul (by omega) (by omega);have k4:(a%4294967296)*(b%4294967296)≤4294967295*4294967295:=Nat.mul_le_mul (by omega) (by omega);clear ea eb;generalize(a/4294967296)*(b/4294967296)=p11 at*;generalize(a/4294967296)*(b%4294967296)=p10 at*;generalize(a%4294967296)*(b/4294967296)=p01 at*;generalize(a%4294967296)*(b%4294967296)=p00 at*;rw[gZZ (x:=p00),mZc (x:=p10) (y:=p00/4294967296) (by omega),nZL (by omega),mZc (by omega),gZZ,gZZ,mZc (by omega),mZc (by omega)];refine⟨?_,rfl⟩;rw[hab];have:p11+(p10+p00/4294967296)/4294967296+((p10+p00/4294967296)%4294967296+p01)/4294967296=(18446744073709551616*p11+4294967296*p10+4294967296*p01+p00)/18446744073709551616:=by omega
 rw[this]
theorem eZB {a:Nat}(ha:a<2^64)(H:Hp):Za Tryz.prog 213 #[.int .u64 (a:Int)] H (RetE (.int .u64 ((a%18446744069414584321:Nat):Int)) H):=by
 apply hZ5.ok;unfold hZ5;by_cases h:a≥18446744069414584321
 ·refine Zn (by omega) ?_;rw[eZp (by omega) (by omega)];refine⟨?_,rfl⟩;have:(a:Int)-18446744069414584321=((a%18446744069414584321:Nat):Int):=by omega
  rw[this]
 ·refine Zh (by omega) ⟨?_,rfl⟩;rw[Nat.mod_eq_of_lt (by omega)]
theorem mZC {mid t:Nat}(hm:mid<4294967296)(ht:t<18446744073709551616){H:Hp}{K:VK}(k:K (.int .u64 (((t+mid*4294967295)%18446744069414584321:Nat):Int)) H):bZl.j5 K (mid:Int) (t:Int) H:=by
 unfold bZl.j5;have em:u64.wrap ((mid:Int)*4294967295)=((mid*4294967295:Nat):Int):=by
  rw[eZp (by omega) (by omega)];omega
 rw[em];by_cases h:t+mid*4294967295<18446744073709551616
 ·rw[mZc h];refine Zh (by omega) ?_;refine Za.use (eZB (by omega) H) ?_;simp only[HV];exact k
 ·have e1:u64.wrap ((t:Int)+((mid*4294967295:Nat):Int))=((t+mid*4294967295-18446744073709551616:Nat):Int):=by
   rw[xZe];omega
  rw[e1];refine Zn (by omega) ?_;rw[show(4294967295:Int)=((4294967295:Nat):Int)from rfl,mZc (by omega)];refine Za.use (eZB (by omega) H) ?_;simp only[HV];have:(t+mid*4294967295-18446744073709551616+4294967295)%18446744069414584321=(t+mid*4294967295)%18446744069414584321:=by omega
  rw[this];exact k
theorem mZD {hi lo:Nat}(hh:hi<2^64)(hl:lo<2^64)(H:Hp):Za Tryz.prog 249 #[.agg #[.int .u64 (hi:Int),.int .u64 (lo:Int)]] H (RetE (.int .u64 (((hi*18446744073709551616+lo)%18446744069414584321:Nat):Int)) H):=Za.ret (by
 apply bZl.ok;unfold bZl;refine(Sep.start H).nw fun b1 H1 hs=>?_
 first|refine hs.ldf 1 rfl rfl ?_|refine hs.ldg 1 rfl rfl ?_
 try simp only[HV]
 refine⟨by decide,?_⟩
 first|refine hs.ldf 1 rfl rfl ?_|refine hs.ldg 1 rfl rfl ?_
 try simp only[HV]
 first|refine hs.ldf 1 rfl rfl ?_|refine hs.ldg 1 rfl rfl ?_
 try simp only[HV]
 first|refine hs.ldf 1 rfl rfl ?_|refine hs.ldg 1 rfl rfl ?_
 try simp only[HV]
 rw[gZZ,nZL hh];by_cases h:lo<hi/4294967296
 ·refine Zn (by omega) ?_;have e1:u64.wrap (u64.wrap ((lo:Int)-((hi/4294967296:Nat):Int))-4294967295)=((lo+18446744069414584321-hi/4294967296:Nat):Int):=by
   rw[hZZ,hZZ];omega
  rw[e1];refine mZC (by omega) (by omega) ?_;have:(lo+18446744069414584321-hi/4294967296+hi%4294967296*4294967295)%18446744069414584321=(hi*18446744073709551616+lo)%18446744069414584321:=by omega
  rw[this];exact hs.fin 0 rfl _
 ·refine Zh (by omega) ?_;have e1:u64.wrap ((lo:Int)-((hi/4294967296:Nat):Int))=((lo-hi/4294967296:Nat):Int):=by
   rw[hZZ];omega
  rw[e1];refine mZC (by omega) (by omega) ?_;have:(lo-hi/4294967296+hi%4294967296*4294967295)%18446744069414584321=(hi*18446744073709551616+lo)%18446744069414584321:=by omega
  rw[this];exact hs.fin 0 rfl _)
theorem wZe {a b:Nat}(ha:a<2^64)(hb:b<2^64)(H:Hp):Za Tryz.prog 250 #[.int .u64 (a:Int),.int .u64 (b:Int)] H (RetE (.agg #[.int .u64 ((a*b/18446744073709551616:Nat):Int),.int .u64 ((a*b%18446744073709551616:Nat):Int)]) H):=Za.ret (by
 apply hZo.ok;unfold hZo;refine(Sep.start H).nw fun b1 H1 hs=>?_
 refine Za.use (tZv ha hb H1) ?_;simp only[HV];refine hs.stw 1 rfl rfl rfl rfl fun H1 hs=>?_
 refine hs.ldw 1 rfl rfl ?_;exact hs.fin 0 rfl _)
theorem gZ1 {a b:Nat}(ha:a<2^64)(hb:b<2^64)(H:Hp):Za Tryz.prog 236 #[.int .u64 (a:Int),.int .u64 (b:Int)] H (RetE (.int .u64 ((a*b%18446744069414584321:Nat):Int)) H):=by
 apply hZh.ok;unfold hZh;refine Za.use (wZe ha hb H) ?_;simp only[HV];have hab:a*b≤18446744073709551615*18446744073709551615:=Nat.mul_le_mul (by omega) (by omega);generalize a*b=n at*;refine Za.use (mZD (hi:=n/18446744073709551616) (lo:=n%18446744073709551616) (by omega) (by omega) H) ?_;simp only[HV];have:n/18446744073709551616*18446744073709551616+n%18446744073709551616=n:=by omega
 rw[this];exact RetE.mk _ _
theorem wZd {a b:Nat}(ha:a<2^64)(hb:b<2^64)(H:Hp):Za Tryz.prog 270 #[.agg #[.int .u64 0,.int .u64 (a:Int)],.agg #[.int .u64 0,.int .u64 (b:Int)]] H (RetE (.tuple #[.agg #[.int .u64 (((a+b)/18446744073709551616:Nat):Int),.int .u64 (((a+b)%18446744073709551616:Nat):Int)],.int .u64 0]) H):=Za.ret (by
 apply hZn.ok;unfold hZn;refine(Sep.start H).nw fun b1 H1 hs=>?_
 refine hs.nw fun b2 H1 hs=>?_
 refine hs.nw fun b3 H1 hs=>?_
 first|refine hs.ldf 1 rfl rfl ?_|refine hs.ldg 1 rfl rfl ?_
 try simp only[HV]
 first|refine hs.ldf 2 rfl rfl ?_|refine hs.ldg 2 rfl rfl ?_
 try simp only[HV]
 refine mZx a b 0 (by omega) ?_;simp only[HV];refine hs.stf 3 rfl (Nat.lt_of_sub_eq_succ rfl) rfl fun H1 hs=>?_
 first|refine hs.ldf 1 rfl rfl ?_|refine hs.ldg 1 rfl rfl ?_
 try simp only[HV]
 first|refine hs.ldf 2 rfl rfl ?_|refine hs.ldg 2 rfl rfl ?_
 try simp only[HV]
 refine mZx 0 0 ((a+b+0)/18446744073709551616) (by omega) ?_;simp only[HV];refine hs.stf 3 rfl (Nat.lt_of_sub_eq_succ rfl) rfl fun H1 hs=>?_
 refine hs.ldw 3 rfl rfl ?_;refine hs.stw 3 rfl rfl rfl rfl fun H1 hs=>?_
 refine hs.ldw 3 rfl rfl ?_;have e1:(0+0+(a+b+0)/18446744073709551616)%18446744073709551616=(a+b)/18446744073709551616:=by omega
 have e2:(0+0+(a+b+0)/18446744073709551616)/18446744073709551616=0:=by omega
 rw[e2];have hv:Ret (.tuple #[.agg #[.int .u64 (((0+0+(a+b+0)/18446744073709551616)%18446744073709551616:Nat):Int),.int .u64 (((a+b+0)%18446744073709551616:Nat):Int)],.int .u64 ((0:Nat):Int)]) H (.tuple #[.agg #[.int .u64 (((0+0+(a+b+0)/18446744073709551616)%18446744073709551616:Nat):Int),.int .u64 (((a+b+0)%18446744073709551616:Nat):Int)],.int .u64 ((0:Nat):Int)]) H1:=hs.fin 0 rfl _;rw[e1]at hv;rw[e1];exact hv)
theorem kZ5 {a b:Nat}(ha:a<2^64)(hb:b<2^64)(H:Hp):Za Tryz.prog 263 #[.int .u64 (a:Int),.int .u64 (b:Int)] H (RetE (.int .u64 (((a+b)%18446744069414584321:Nat):Int)) H):=Za.ret (by
 apply hZf.ok;unfold hZf;have hs:=Sep.start H;refine Za.use (eZB ha H) ?_;simp only[HV];refine Za.use (eZB hb H) ?_;simp only[HV];refine Za.use (wZd (a:=a%18446744069414584321) (b:=b%18446744069414584321) (by omega) (by omega) H) ?_;simp only[HV];refine hs.nw fun b1 H1 hs=>?_
 refine hs.stw 1 rfl rfl rfl rfl fun H1 hs=>?_
 refine hs.ldw 1 rfl rfl ?_;refine Za.use (mZD (hi:=(a%18446744069414584321+b%18446744069414584321)/18446744073709551616) (lo:=(a%18446744069414584321+b%18446744069414584321)%18446744073709551616) (by omega) (by omega) H1) ?_;simp only[HV];have:((a%18446744069414584321+b%18446744069414584321)/18446744073709551616*18446744073709551616+(a%18446744069414584321+b%18446744069414584321)%18446744073709551616)%18446744069414584321=(a+b)%18446744069414584321:=by omega
 rw[this];exact hs.fin 0 rfl _)
end Go.Proofs.YtgfildcgihbdaaaGreatDoor.Gol
namespace Go.Proofs.YtgfildcgihbdaaaGreatDoor.Gol
open Go Go.Hw W
theorem pZp (p x y q:Nat):x%p*(y%p)^q%p=x*y^q%p:=by
 rw[Nat.mul_mod,Nat.mod_mod,←Nat.pow_mod,←Nat.mul_mod]
theorem oZD (p x y q:Nat):x*(y%p)^q%p=x*y^q%p:=by
 rw[Nat.mul_mod,←Nat.pow_mod,←Nat.mul_mod]
theorem sZr (p x y:Nat):x%p*y%p=x*y%p:=by rw[Nat.mul_mod,Nat.mod_mod,←Nat.mul_mod]
theorem tZx (H:Hp):∀(f n out base:Nat),n<2^f→f≤64→out<18446744069414584321→base<18446744069414584321→bZb.l2 (RetE (.int .u64 ((out*base^n%18446744069414584321:Nat):Int)) H) (f+1) (n:Int) (out:Int) (base:Int) H:=fun f=>by
 generalize hp:18446744069414584321=p
 induction f with
 |zero=>
  intro n out base hn hf ho hb;obtain rfl:n=0:=by omega
  unfold bZb.l2;refine Zh (by omega) ?_;rw[Nat.pow_zero,Nat.mul_one,Nat.mod_eq_of_lt ho];exact RetE.mk _ _
 |succ f ih=>
  intro n out base hn hf ho hb;have hp0:0<p:=by omega
  have h64:2^(f+1)≤2^64:=Nat.pow_le_pow_right (by omega) hf;have hs:2^(f+1)=2*2^f:=by rw[Nat.pow_succ];omega
  have hn2:n/2<2^f:=by omega
  unfold bZb.l2;by_cases h0:n=0
  ·subst h0;refine Zh (by omega) ?_;rw[Nat.pow_zero,Nat.mul_one,Nat.mod_eq_of_lt ho];exact RetE.mk _ _
  refine Zn (by omega) ?_;have hand:aZr .u64 (n:Int) 1=((n%2:Nat):Int):=by
   rw[show(1:Int)=((1:Nat):Int)from rfl,mZd (by omega) (by omega),Nat.and_one_is_mod]
  have hshr:aZq .u64 (n:Int) 1=((n/2:Nat):Int):=by
   rw[hZU (k:=.u64) (a:=n) (i:=1) (n:=1) rfl (by decide)]
  rw[hand,hshr];have hq:=Nat.mod_lt (base*base) hp0;have hq2:=Nat.mod_lt (out*base) hp0;by_cases h1:n%2=1
  ·refine ZS (by omega) ?_;refine Za.use (gZ1 (a:=out) (b:=base) (by omega) (by omega) H) ?_;rw[hp];simp only[HV];refine Za.use (gZ1 (a:=base) (b:=base) (by omega) (by omega) H) ?_;rw[hp];simp only[HV];refine⟨by decide,?_⟩;have:=ih (n/2) (out*base%p) (base*base%p) hn2 (by omega) hq2 hq;rw[pZp,show out*base*(base*base)^(n/2)=out*base^n by
    rw[← Nat.pow_two,←Nat.pow_mul,Nat.mul_assoc,←Nat.pow_succ',Nat.succ_eq_add_one,show 2*(n/2)+1=n by omega]]at this
   exact this
  ·refine aZg (by omega) ?_;refine Za.use (gZ1 (a:=base) (b:=base) (by omega) (by omega) H) ?_;rw[hp];simp only[HV];refine⟨by decide,?_⟩;have:=ih (n/2) out (base*base%p) hn2 (by omega) ho hq;rw[oZD,show out*(base*base)^(n/2)=out*base^n by
    rw[← Nat.pow_two,←Nat.pow_mul,show 2*(n/2)=n by omega]]at this
   exact this
theorem lZd {a n:Nat}(ha:a<2^64)(hn:n<2^64)(H:Hp):Za Tryz.prog 214 #[.int .u64 (a:Int),.int .u64 (n:Int)] H (RetE (.int .u64 ((a^n%18446744069414584321:Nat):Int)) H):=by
 apply bZb.ok;unfold bZb;refine Za.use (eZB ha H) ?_;simp only[HV];refine⟨65,?_⟩;have:=tZx H 64 n 1 (a%18446744069414584321) hn (by omega) (by omega) (by omega);rw[Nat.one_mul,←Nat.pow_mod]at this;exact this
def neg (a:Nat):Nat:=(18446744069414584321-a%18446744069414584321)%18446744069414584321
theorem wZw {a:Nat}(ha:a<2^64)(H:Hp):Za Tryz.prog 271 #[.int .u64 (a:Int)] H (RetE (.int .u64 ((neg a:Nat):Int)) H):=by
 apply hZi.ok;unfold hZi neg;refine Za.use (eZB ha H) ?_;simp only[HV];by_cases h:a%18446744069414584321=0
 ·rw[h];exact ZS rfl (RetE.mk _ _)
 ·refine aZg (by omega) ?_;rw[eZp (by omega) (by omega)];have:(18446744069414584321:Int)-((a%18446744069414584321:Nat):Int)=(((18446744069414584321-a%18446744069414584321)%18446744069414584321:Nat):Int):=by omega
  rw[this];exact RetE.mk _ _
def sub (a b:Nat):Nat:=(a+neg b)%18446744069414584321
theorem wZB {a b:Nat}(ha:a<2^64)(hb:b<2^64)(H:Hp):Za Tryz.prog 264 #[.int .u64 (a:Int),.int .u64 (b:Int)] H (RetE (.int .u64 ((sub a b:Nat):Int)) H):=by
 apply hZj.ok;unfold hZj;refine Za.use (wZw hb H) ?_;simp only[HV];refine Za.use (kZ5 (a:=a) (b:=neg b) ha (by unfold neg;omega) H) ?_;simp only[HV];exact RetE.mk _ _
def gZ8 :Nat:=18446744069414584319
def kZQ (a:Nat):Nat:=a^gZ8%18446744069414584321
theorem vZA {a:Nat}(ha:a<2^64)(e:Nat)(he:e=18446744069414584319)(H:Hp):Za Tryz.prog 214 #[.int .u64 (a:Int),.int .u64 (e:Int)] H (RetE (.int .u64 ((a^e%18446744069414584321:Nat):Int)) H):=lZd ha (by omega) H
theorem rZy {a:Nat}(ha:a<2^64)(h0:a%18446744069414584321≠0)(H:Hp):Za Tryz.prog 188 #[.int .u64 (a:Int)] H (RetE (.tuple #[.int .u64 ((kZQ a:Nat):Int),.int .i64 0]) H):=by
 apply hZg.ok;unfold hZg;refine Za.use (eZB ha H) ?_;simp only[HV];refine aZg (by omega) ?_;have hP:Za Tryz.prog 214 #[.int .u64 (a:Int),.int .u64 18446744069414584319] H (RetE (.int .u64 ((kZQ a:Nat):Int)) H):=by
  have h:=vZA ha gZ8 rfl H;unfold kZQ;rw[show(18446744069414584319:Int)=((gZ8:Nat):Int)from rfl];exact h
 refine Za.use hP ?_;simp only[HV];exact RetE.mk _ _
end Go.Proofs.YtgfildcgihbdaaaGreatDoor.Gol
namespace Go.Proofs.YtgfildcgihbdaaaGreatDoor.W
open Go Go.Hw
theorem iZA :Tryz.prog.follows .mixedOrders=true:=by kernel_rfl
def hZk (A1:OA)(n1 m1:Nat)(H:Hp)(K:VK):Prop:=
 Hz 79 #[.int .i64 (n1:Int)] H fun v1 H1=>gZ6 v1 fun x1 c1=>(Nw H1 (.obj (.cells #[.int .i64 0] 3)) fun b1 H2=>St H2 ((⟨b1,0,none⟩:Addr).add 0) (.int .i64 x1) fun H3=>BIf (!c1) (K (.tuple #[.slice none 0 0,.int .i64 4]) H3) (HcS 253 #[.slice A1 n1 m1,.func (.func 254) #[] #[.pointer (some ⟨b1,0,none⟩)]] H3 fun A2 n2 m2 H4=>K (.tuple #[.slice A2 n2 m2,.int .i64 0]) H4))
theorem hZk.ok A1 n1 m1 H K (h:hZk A1 n1 m1 H K):Za Tryz.prog 240 #[.slice A1 n1 m1] H K:=
 okN iZA Tryz.func240 rfl rfl h
def bZc.l3 (K:VK):Nat→FuncId→Array Value→Array Value→OA→Nat→Nat→OA→Nat→Nat→Int→Int→Hp→Prop
 |0,_,_,_,_,_,_,_,_,_,_,_,_=>False
 |k+1,fd2,F2,C2,A3,n3,m3,A4,n4,m4,x1,x2,H=>
  let R3:=bZc.l3 K k
  BIf (decide (x2<x1)) (ixI x2 n4 (NN A4 fun a1=>LeW H (a1.add (x2.toNat*1)) fun x3=>dZJ Tryz.prog fd2 ((F2++ #[.int .i64 x2])++C2) H fun v3 H2=>DR Tryz.prog (bZv Tryz.prog fd2) v3 fun v4=>DI .i64 v4 fun x4=>ixI x4 n3 (NN A3 fun a2=>St H2 ((a2.add (x4.toNat*1)).add 0) (.int .u64 x3) fun H3=>R3 fd2 F2 C2 A3 n3 m3 A4 n4 m4 x1 (i64.wrap (x2+1)) H3))) (K (.slice A3 n3 m3) H)
def bZc (A1:OA)(n1 m1:Nat)(fd1:FuncId)(F1 C1:Array Value)(H:Hp)(K:VK):Prop:=
 MkS Tryz.prog 82 (n1:Int) (n1:Int) H fun v1 H1=>DSl v1 fun A2 n2 m2=>(∃ k,bZc.l3 K k fd1 F1 C1 A2 n2 m2 A1 n1 m1 (n1:Int) 0 H1)
def bZc.l3.L (K:VK)(k:Nat):Mid:=fun E D H=>
 DG (E.get? 1) fun w1=>DFn w1 fun fd2 F2 C2=>DG (E.get? 5) fun w5=>DSl w5 fun A3 n3 m3=>DG (E.get? 11) fun w11=>DSl w11 fun A4 n4 m4=>eI E 12 .i64 fun x1=>eI E 13 .i64 fun x2=>Zk D (bZc.l3 K k fd2 F2 C2 A3 n3 m3 A4 n4 m4 x1 x2 H)
def bZc.Λ3 (_:VK)(_R3:FuncId→Array Value→Array Value→OA→Nat→Nat→OA→Nat→Nat→Int→Int→Hp→Prop):Zt:=Zt.none (fun _=>none)
def bZc.Λ (K:VK):Zt:=⟨fun i=>none,fun i=>match Nat.beq i 3 with|true=>some (fun E D H=>∃ k,bZc.l3.L K k E D H)|false=>none,(fun _=>none)⟩
theorem bZc.ok A1 n1 m1 fd1 F1 C1 H K (h:bZc A1 n1 m1 fd1 F1 C1 H K):Za Tryz.prog 253 #[.slice A1 n1 m1,.func (.func fd1) F1 C1] H K:=
 okL (Λ:=(bZc.Λ K)) iZA Tryz.func253 rfl rfl h (oC (fun E D H h=>by
   refine Safe.loop' (bZc.l3.L K) (fun E D H h=>?_) (fun k E D H h=>?_) E D H h
   ·obtain⟨w1,e1,g1⟩:=DG.out h;obtain⟨fd2,F2,C2,rfl,g2⟩:=DFn.out g1;obtain⟨w5,e5,g3⟩:=DG.out g2;obtain⟨A3,n3,m3,rfl,g4⟩:=DSl.out g3;obtain⟨w11,e11,g5⟩:=DG.out g4;obtain⟨A4,n4,m4,rfl,g6⟩:=DSl.out g5;obtain⟨w12,e12,g7⟩:=DG.out g6;obtain⟨x1,rfl,g8⟩:=DI.out g7;obtain⟨w13,e13,g9⟩:=DG.out g8;obtain⟨x2,rfl,g10⟩:=DI.out g9;obtain⟨rfl,h'⟩:=Zk.out g10;exact h'
   ·obtain⟨w1,e1,g1⟩:=DG.out h;obtain⟨fd2,F2,C2,rfl,g2⟩:=DFn.out g1;obtain⟨w5,e5,g3⟩:=DG.out g2;obtain⟨A3,n3,m3,rfl,g4⟩:=DSl.out g3;obtain⟨w11,e11,g5⟩:=DG.out g4;obtain⟨A4,n4,m4,rfl,g6⟩:=DSl.out g5;obtain⟨x1,e12,g8⟩:=GI g6;obtain⟨x2,e13,g10⟩:=GI g8;obtain⟨rfl,h'⟩:=Zk.out g10;exact okJ (Λ:=(bZc.Λ3 K (bZc.l3 K k))) iZA [] (Zb.cons e1 (Zb.cons e5 (Zb.cons e11 (Zb.cons e12 (Zb.cons e13 (Zb.nil _)))))) h' oN) oN)
def fZ0 (x1:Int)(p1:OA)(H:Hp)(K:VK):Prop:=
 NN p1 fun a1=>LeI H a1 fun x2=>HcI 255 #[.int .i64 x1,.int .i64 x2] H fun x3 H1=>K (.int .i64 x3) H1
theorem fZ0.ok x1 p1 H K (h:fZ0 x1 p1 H K):Za Tryz.prog 254 #[.int .i64 x1,.pointer p1] H K:=
 okN iZA Tryz.func254 rfl rfl h
def fZ1 (x1 x2:Int)(H:Hp)(K:VK):Prop:=
 HcW 262 #[.int .u64 (u64.wrap x1)] H fun x3 H1=>(0≤(1:Int)∧(0≤(u64.wrap (i64.wrap (63-x2)))∧K (.int .i64 (i64.wrap (aZq .u64 (aZq .u64 x3 1) (u64.wrap (i64.wrap (63-x2)))))) H1))
theorem fZ1.ok x1 x2 H K (h:fZ1 x1 x2 H K):Za Tryz.prog 255 #[.int .i64 x1,.int .i64 x2] H K:=
 okN iZA Tryz.func255 rfl rfl h
end Go.Proofs.YtgfildcgihbdaaaGreatDoor.W
namespace Go.Proofs.YtgfildcgihbdaaaGreatDoor.Ker
open Go Go.Hw W Shp Gol Fft
theorem bZ7 :bZi Tryz.prog 82=some (1,8,some #[.int .u64 0]):=by kernel_rfl
theorem kZ4 (ws:List UInt64)(i:Nat)(w:UInt64):(Zc ws).set i (.int .u64 (w.toNat:Int))=Zc (ws.set i w):=by
 unfold Zc;rw[List.map_set]
theorem jZY (n:Nat):aZv [Value.int .u64 0] n=Zc (List.replicate n 0):=by
 rw[bZw];unfold Zc;rw[List.map_replicate];rfl
theorem iZI (m:BitVec 64)(d:Nat)(hd:d≤64)(x:BitVec 64){mi di:Int}(hm:mi=(m.toNat:Int))(hdi:di=(d:Nat)):
  bOr .u64 (aZr .u64 (aZq .u64 (x.toNat:Int) di) mi) (aZE .u64 (aZr .u64 (x.toNat:Int) mi) di)=((swp m d x).toNat:Int):=by
 subst hm;rw[nZR x hdi hd,uZQ,uZQ,uZ1 _ hdi hd,wZ0];rfl
def xZN (x:BitVec 64):BitVec 64:=
 let x:=swp 0x00ff00ff00ff00ff#64 8 x
 let x:=swp 0x0000ffff0000ffff#64 16 x
 (x>>>32)|||(x<<<32)
theorem pZh (x:BitVec 64)(H:Hp):Za Tryz.prog 269 #[.int .u64 (x.toNat:Int)] H (RetE (.int .u64 ((xZN x).toNat:Int)) H):=by
 apply bZ4.ok;unfold bZ4;refine⟨by decide,by decide,by decide,by decide,by decide,by decide,?_⟩;rw[iZI 0x00ff00ff00ff00ff#64 8 (by decide) x (mi:=71777214294589695) (di:=8) (by decide) rfl,iZI 0x0000ffff0000ffff#64 16 (by decide) _ (mi:=281470681808895) (di:=16) (by decide) rfl,Hw.nZR _ (i:=32) (n:=32) rfl (by decide),Hw.uZ1 _ (i:=32) (n:=32) rfl (by decide),wZ0];exact RetE.mk _ _
theorem qZB (x:BitVec 64)(H:Hp):Za Tryz.prog 262 #[.int .u64 (x.toNat:Int)] H (RetE (.int .u64 ((nZQ x).toNat:Int)) H):=by
 apply cZN.ok;unfold cZN;refine⟨by decide,by decide,by decide,by decide,by decide,by decide,?_⟩;rw[iZI 0x5555555555555555#64 1 (by decide) x (mi:=6148914691236517205) (di:=1) (by decide) rfl,iZI 0x3333333333333333#64 2 (by decide) _ (mi:=3689348814741910323) (di:=2) (by decide) rfl,iZI 0x0f0f0f0f0f0f0f0f#64 4 (by decide) _ (mi:=1085102592571150095) (di:=4) (by decide) rfl];refine Za.use (pZh _ H) ?_;simp only[HV];exact RetE.mk _ _
theorem sZ3 {k i:Nat}(hk:k≤32)(hi:i<2^k)(H:Hp):Za Tryz.prog 255 #[.int .i64 (i:Int),.int .i64 (k:Int)] H (RetE (.int .i64 ((rv k i:Nat):Int)) H):=by
 have h32:=aZF hk;have hr:=kZe k i;apply fZ1.ok;unfold fZ1;rw[cZg (by omega)];have e:((i:Nat):Int)=((BitVec.ofNat 64 i).toNat:Int):=by rw[BitVec.toNat_ofNat,Nat.mod_eq_of_lt (by omega)]
 rw[e];refine Za.use (qZB _ H) ?_;simp only[HV];have e2:u64.wrap (i64.wrap (63-(k:Int)))=((63-k:Nat):Int):=by rw[ZG (by omega) (by omega),eZp (by omega) (by omega)];omega
 rw[e2,Hw.nZR _ (i:=1) (n:=1) rfl (by decide),Hw.nZR _ (n:=63-k) rfl (by omega),BitVec.toNat_ushiftRight,BitVec.toNat_ushiftRight,←Nat.shiftRight_add,show 1+(63-k)=64-k by omega,wZ7 hk hi,aZJ (by omega)];exact⟨by decide,by omega,RetE.mk _ _⟩
def gZm (k:Nat)(l:List UInt64)(i:Nat):List UInt64:=(List.range (2^k)).map fun p=>if rv k p<i then l.getD (rv k p) 0 else 0
theorem nZj (k:Nat)(l:List UInt64)(i:Nat):(gZm k l i).length=2^k:=by simp[gZm]
theorem rZj (k:Nat)(l:List UInt64):List.replicate (2^k) 0=gZm k l 0:=by
 unfold gZm;apply List.ext_getElem?;intro j;rw[List.getElem?_map];by_cases h:j<2^k
 ·rw[List.getElem?_range h,List.getElem?_eq_getElem (by simpa using h)];simp
 ·rw[List.getElem?_eq_none (by simp;omega),List.getElem?_eq_none (by simp;omega)];rfl
theorem sZ2 (k:Nat)(l:List UInt64):gZm k l (2^k)=eZo k l:=by
 unfold gZm eZo;apply List.map_congr_left;intro p _;rw[if_pos (kZe k p)]
theorem rZi (k:Nat)(l:List UInt64){i:Nat}(hi:i<2^k):(gZm k l i).set (rv k i) (l.getD i 0)=gZm k l (i+1):=by
 apply List.ext_getElem?;intro p;rw[List.getElem?_set,nZj];unfold gZm;rw[List.getElem?_map,List.getElem?_map];by_cases hp:p<2^k
 ·rw[List.getElem?_range hp];by_cases e:rv k i=p
  ·rw[if_pos e,if_pos (by omega),←e];show some _=some (if rv k (rv k i)<i+1 then l.getD (rv k (rv k i)) 0 else 0)
   rw[uZ0 k i hi,if_pos (by omega)]
  ·rw[if_neg e];show some (if rv k p<i then _ else _)=some (if rv k p<i+1 then _ else _)
   have:rv k p≠i:=fun h=>e (by rw[← h,uZ0 k p hp])
   by_cases h:rv k p<i
   ·rw[if_pos h,if_pos (by omega)]
   ·rw[if_neg h,if_neg (by omega)]
 ·rw[List.getElem?_eq_none (by simp;omega)];have:=kZe k i;rw[if_neg (by omega)];rfl
theorem kZ7 {t:TypeId}(ht:Tryz.prog.underlying t=some (.int .i64))(n:Int)(K:Value→Prop)(k:K (.int .i64 n)):DR Tryz.prog [t] (.int .i64 n) K:=by
 show DT Tryz.prog t (.int .i64 n) K
 unfold DT;rw[ht];exact k
section
variable {R : As} {A : Option Addr} {n m k : Nat} {l : List UInt64}
theorem mZ4 (K:VK)(hR:∀ H,R H→Cells H A (Zc l))(hn:n=2^k)(hl:l.length=n)(hk:k≤32){b1 r mr:Nat}
  (hK:∀ H,Sep [pts r (.row (Zc (eZo k l)) 82 mr),pts b1 (.obj (.cells #[.int .i64 (k:Int)] 3)),R] H→K (.slice (some ⟨r,0,none⟩) n n) H):
  ∀(t i:Nat) (H:Hp),i+t=n→Sep [pts r (.row (Zc (gZm k l i)) 82 mr),pts b1 (.obj (.cells #[.int .i64 (k:Int)] 3)),R] H→
   bZc.l3 K (t+1) 254 #[] #[.pointer (some ⟨b1,0,none⟩)] (some ⟨r,0,none⟩) n n A n m (n:Int) (i:Int) H
 |0,i,H,hi,hs=>by
  unfold bZc.l3;refine Zh (by omega) (hK H ?_);rw[← sZ2,←hn,show n=i by omega];exact hs
 |t+1,i,H,hi,hs=>by
  have h32:=aZF hk;have hr:=kZe k i;have hc:Cells H A (Zc l):=by
   obtain⟨H1,h1,hle⟩:=hs.see 2 rfl;exact(hR H1 h1).le hle
  unfold bZc.l3;refine Zn (by omega) ?_;have hg:(Zc l)[i]? =some (.int .u64 ((l.getD i 0).toNat:Int)):=by
   rw[aZ9,List.getD_eq_getElem?_getD,List.getElem?_eq_getElem (by omega)];rfl
  refine hc.read hg rfl (by rw[Zr];omega) ?_;simp only[HV];refine aZx (by kernel_rfl) ?_;have hf:Za Tryz.prog 254 #[.int .i64 (i:Int),.pointer (some ⟨b1,0,none⟩)] H (RetE (.int .i64 ((rv k i:Nat):Int)) H):=by
   apply fZ0.ok;unfold fZ0;simp only[aZY];refine hs.ld 1 rfl rfl ?_;simp only[HV];refine Za.use (sZ3 hk (by omega) H) ?_;simp only[HV];exact RetE.mk _ _
  refine Za.use hf ?_;have hrt:bZv Tryz.prog 254=[3]:=by kernel_rfl
  rw[hrt];refine kZ7 (by kernel_rfl) _ _ ?_;simp only[HV];refine⟨by omega,by omega,?_⟩;show St H _ _ _
  rw[Int.toNat_natCast,Nat.mul_one,Addr.add_lit',Addr.add_lit',Nat.zero_add,Nat.add_zero];refine hs.str 0 rfl (by rw[Zr,nZj];omega) rfl fun H hs=>?_;rw[kZ4,rZi k l (by omega)]at hs;rw[ZG (x:=(i:Int)+1) (by omega) (by omega),show(i:Int)+1=((i+1:Nat):Int) by omega];exact mZ4 K hR hn hl hk hK t (i+1) H (by omega) hs
theorem vZj {TT:As}(hT:∀ H,TT H→T64 H)(hR:∀ H,R H→Cells H A (Zc l))(hn:n=2^k)(hl:l.length=n)(hk:k≤20):
  Tr Tryz.prog 240 #[.slice A n m] [R,TT] fun v M=>∃ r,v= .tuple #[.slice (some ⟨r,0,none⟩) n n,.int .i64 0]∧M=[pts r (.row (Zc (eZo k l)) 82 (n*1)),R,TT]:=fun H hs=>by
 have h20:=aZF hk;apply hZk.ok;unfold hZk;have hT0:T64 H:=by
  obtain⟨H1,h1,hle⟩:=hs.see 1 rfl;exact(hT H1 h1).le hle
 refine Za.use (iZt (n:Int) H hT0) ?_;rw[show bZG (n:Int)= .tuple #[.int .i64 (k:Int),.bool true] by unfold bZG;rw[hn,iZz (by omega)]];simp only[HV];refine hs.nw fun b1 H hs=>?_
 simp only[Addr.add_zero];refine hs.st 2 rfl (Nat.lt_of_sub_eq_succ rfl) rfl fun H hs=>?_;have hs:Sep [R,TT,pts b1 (.obj (.cells #[.int .i64 (k:Int)] 3))] H:=hs;have hm:Tr Tryz.prog 253 #[.slice A n m,.func (.func 254) #[] #[.pointer (some ⟨b1,0,none⟩)]] [pts b1 (.obj (.cells #[.int .i64 (k:Int)] 3)),R] fun v M=>
   ∃ r,v= .slice (some ⟨r,0,none⟩) n n∧M=[pts r (.row (Zc (eZo k l)) 82 (n*1)),R]:=fun H hs=>by
  apply bZc.ok;unfold bZc;refine hs.mks bZ7 rfl (n:=n) (m:=n) rfl rfl (Nat.le_refl _) (by omega) (by omega) fun r H hs=>?_
  simp only[HV];refine⟨n+1,?_⟩;have hs:Sep [pts b1 (.obj (.cells #[.int .i64 (k:Int)] 3)),R,pts r (.row (Zc (gZm k l 0)) 82 (n*1))] H:=by
   rw[← rZj,←hn,←jZY];exact hs
  exact mZ4 _ hR hn hl (by omega) (fun H hs=>⟨_,⟨r,rfl,rfl⟩,hs.re [0,2] rfl⟩) n 0 H (by omega) (hs.re [2,0,1] rfl)
 refine hm.use hs [2,0] rfl rfl ?_;rintro _ _ H ⟨r,rfl,rfl⟩ hs;simp only[HV];exact⟨_,⟨r,rfl,rfl⟩,hs.re [0,1,2] rfl⟩
end
end Go.Proofs.YtgfildcgihbdaaaGreatDoor.Ker
namespace Go.Proofs.YtgfildcgihbdaaaGreatDoor.W
open Go Go.Hw
theorem dZH :Tryz.prog.follows .mixedOrders=true:=by kernel_rfl
def fZ8 (x1:Int)(H:Hp)(K:VK):Prop:=
 BIf (decide (x1<0)) (K (.tuple #[.int .u64 0,.int .i64 1]) H) (BIf (decide (x1>32)) (K (.tuple #[.int .u64 0,.int .i64 1]) H) ((0≤(u64.wrap x1)∧Hz 188 #[.int .u64 (aZE .u64 1 (u64.wrap x1))] H fun v1 H1=>gZ7 v1 fun x2 x3=>(K (.tuple #[.int .u64 x2,.int .i64 x3]) H1))))
theorem fZ8.ok x1 H K (h:fZ8 x1 H K):Za Tryz.prog 161 #[.int .i64 x1] H K:=
 okN dZH Tryz.func161 rfl rfl h
def fZ9 (x1 x2:Int)(H:Hp)(K:VK):Prop:=
 Hz 215 #[.int .i64 x1,.int .i64 x2] H fun v1 H1=>gZ7 v1 fun x3 x4=>(BIf (x4 !=0) (K (.tuple #[.slice none 0 0,.int .i64 x4]) H1) (BIf (decide (x1>20)) (K (.tuple #[.slice none 0 0,.int .i64 14]) H1) ((0≤(u64.wrap x1)∧(0≤(1:Int)∧Hz 216 #[.int .u64 x3,.int .i64 (if 1>(aZq .i64 (aZE .i64 1 (u64.wrap x1)) 1)then 1 else(aZq .i64 (aZE .i64 1 (u64.wrap x1)) 1))] H1 fun v4 H2=>dZ7 v4 fun A1 n1 m1 x5=>(K (.tuple #[.slice A1 n1 m1,.int .i64 x5]) H2))))))
theorem fZ9.ok x1 x2 H K (h:fZ9 x1 x2 H K):Za Tryz.prog 191 #[.int .i64 x1,.int .i64 x2] H K:=
 okN dZH Tryz.func191 rfl rfl h
def gZU (x1 x2:Int)(H:Hp)(K:VK):Prop:=
 BIf (decide (x1<0)) (K (.tuple #[.int .u64 0,.int .i64 1]) H) (BIf (decide (x1>32)) (K (.tuple #[.int .u64 0,.int .i64 1]) H) (BIf (x2==0) (Hz 237 #[.int .i64 x1] H fun v1 H1=>gZ7 v1 fun x3 x4=>(K (.tuple #[.int .u64 x3,.int .i64 x4]) H1)) (BIf (x2==1) (Hz 238 #[.int .i64 x1] H fun v4 H2=>gZ7 v4 fun x5 x6=>(K (.tuple #[.int .u64 x5,.int .i64 x6]) H2)) (K (.tuple #[.int .u64 0,.int .i64 18]) H))))
theorem gZU.ok x1 x2 H K (h:gZU x1 x2 H K):Za Tryz.prog 215 #[.int .i64 x1,.int .i64 x2] H K:=
 okN dZH Tryz.func215 rfl rfl h
def ZW.l15 (K:VK)(R10:OA→Nat→Nat→Addr→Int→OA→Nat→Nat→Int→Int→Hp→Prop):Nat→OA→Nat→Nat→Addr→Int→OA→Nat→Nat→Int→Int→Int→Int→OA→Nat→Nat→Int→Int→Hp→Prop
 |0,_,_,_,_,_,_,_,_,_,_,_,_,_,_,_,_,_,_=>False
 |k+1,A5,n7,m5,a2,x21,A6,n8,m6,x22,x23,x24,x25,A7,n9,m7,x26,x27,H=>
  let R15:=ZW.l15 K R10 k
  BIf (decide (x27<x26)) (ixI x27 n9 (NN A7 fun a3=>LeW H (a3.add (x27.toNat*1)) fun x28=>HcW 236 #[.int .u64 x28,.int .u64 x23] H fun x29 H8=>Nw H8 (.row [.int .u64 x29] 82 1) fun b2 H9=>cZ8 Tryz.prog 82 (.slice A6 n8 m6) (.slice (some ⟨b2,0,none⟩) 1 1) H9 fun v18 H10=>DSl v18 fun A8 n10 m8=>HcW 236 #[.int .u64 x23,.int .u64 x22] H10 fun x30 H11=>R15 A5 n7 m5 a2 x21 A8 n10 m8 x22 x30 x24 x25 A7 n9 m7 x26 (i64.wrap (x27+1)) H11)) (R10 A5 n7 m5 a2 x21 A6 n8 m6 x24 (i64.wrap (x25+1)) H)
def ZW.l10 (K:VK):Nat→OA→Nat→Nat→Addr→Int→OA→Nat→Nat→Int→Int→Hp→Prop
 |0,_,_,_,_,_,_,_,_,_,_,_=>False
 |k+1,A3,n3,m3,a1,x12,A4,n4,m4,x13,x14,H=>
  let R10:=ZW.l10 K k
  BIf (decide (x14<x13)) (LeI H (a1.add 2) fun x15=>HcW 214 #[.int .u64 x12,.int .u64 (u64.wrap (i64.wrap (x15+x14)))] H fun x16 H6=>LeI H6 (a1.add 3) fun x17=>HcW 214 #[.int .u64 x16,.int .u64 (u64.wrap x17)] H6 fun x18 H7=>LeI H7 ((a1.add 0).add 1) fun x19=>LeI H7 ((a1.add 0).add 1) fun x20=>slB n3 m3 (some (i64.wrap (x14*x19))) (some (i64.wrap ((i64.wrap (x14+1))*x20))) fun n5 n6=>(∃ k,ZW.l15 K R10 k A3 n3 m3 a1 x12 A4 n4 m4 x16 x18 x13 x14 (slA A3 m3 n5 1) (n6-n5) (m3-n5) ((n6-n5:Nat):Int) 0 H7)) (K (.tuple #[.slice A4 n4 m4,.int .i64 0]) H)
def ZW (A1:OA)(n1 m1:Nat)(x1 x2 x3 x4 x5 x6:Int)(H:Hp)(K:VK):Prop:=
 Nw H (.obj (.cells #[.int .i64 x1,.int .i64 x2,.int .i64 x3,.int .i64 x4] 315)) fun b1 H1=>Hz 215 #[.int .i64 x5,.int .i64 x6] H1 fun v1 H2=>gZ7 v1 fun x7 x8=>(BIf (x8 !=0) (K (.tuple #[.slice none 0 0,.int .i64 x8]) H2) (LdA H2 ((⟨b1,0,none⟩:Addr).add 0) 2 fun l4=>HcB 167 #[.agg l4.toArray] H2 fun c1 H3=>BIf (!c1) (K (.tuple #[.slice none 0 0,.int .i64 19]) H3) (LeI H3 (((⟨b1,0,none⟩:Addr).add 0).add 0) fun x9=>LeI H3 (((⟨b1,0,none⟩:Addr).add 0).add 1) fun x10=>BIf ((n1:Int) !=(i64.wrap (x9*x10))) (K (.tuple #[.slice none 0 0,.int .i64 19]) H3) (LdA H3 ⟨b1,0,none⟩ 4 fun l5=>HcB 242 #[.agg l5.toArray] H3 fun c2 H4=>BIf (!c2) (K (.tuple #[.slice none 0 0,.int .i64 2]) H4) (MkS Tryz.prog 82 0 (n1:Int) H4 fun v8 H5=>DSl v8 fun A2 n2 m2=>LeI H5 (((⟨b1,0,none⟩:Addr).add 0).add 0) fun x11=>(∃ k,ZW.l10 K k A1 n1 m1 ⟨b1,0,none⟩ x7 A2 n2 m2 x11 0 H5))))))
def ZW.l10.L (K:VK)(k:Nat):Mid:=fun E D H=>
 DG (E.get? 0) fun w0=>DSl w0 fun A3 n3 m3=>eN E 5 fun a1=>eI E 10 .u64 fun x12=>DG (E.get? 12) fun w12=>DSl w12 fun A4 n4 m4=>eI E 54 .i64 fun x13=>eI E 55 .i64 fun x14=>Zk D (ZW.l10 K k A3 n3 m3 a1 x12 A4 n4 m4 x13 x14 H)
def ZW.l15.L (K:VK)(R10:OA→Nat→Nat→Addr→Int→OA→Nat→Nat→Int→Int→Hp→Prop)(k:Nat):Mid:=fun E D H=>
 DG (E.get? 0) fun w0=>DSl w0 fun A5 n7 m5=>eN E 5 fun a2=>eI E 10 .u64 fun x21=>DG (E.get? 12) fun w12=>DSl w12 fun A6 n8 m6=>eI E 14 .u64 fun x22=>eI E 15 .u64 fun x23=>eI E 54 .i64 fun x24=>eI E 55 .i64 fun x25=>DG (E.get? 82) fun w82=>DSl w82 fun A7 n9 m7=>eI E 83 .i64 fun x26=>eI E 84 .i64 fun x27=>Zk D (ZW.l15 K R10 k A5 n7 m5 a2 x21 A6 n8 m6 x22 x23 x24 x25 A7 n9 m7 x26 x27 H)
def ZW.Λ15 (_:VK)(_R10:OA→Nat→Nat→Addr→Int→OA→Nat→Nat→Int→Int→Hp→Prop)(_R15:OA→Nat→Nat→Addr→Int→OA→Nat→Nat→Int→Int→Int→Int→OA→Nat→Nat→Int→Int→Hp→Prop):Zt:=Zt.none (fun _=>none)
def ZW.Λ10 (K:VK)(R10:OA→Nat→Nat→Addr→Int→OA→Nat→Nat→Int→Int→Hp→Prop):Zt:=⟨fun i=>none,fun i=>match Nat.beq i 15 with|true=>some (fun E D H=>∃ k,ZW.l15.L K R10 k E D H)|false=>none,(fun _=>none)⟩
def ZW.Λ (K:VK):Zt:=⟨fun i=>none,fun i=>match Nat.beq i 10 with|true=>some (fun E D H=>∃ k,ZW.l10.L K k E D H)|false=>none,(fun _=>none)⟩
theorem ZW.ok A1 n1 m1 x1 x2 x3 x4 x5 x6 H K (h:ZW A1 n1 m1 x1 x2 x3 x4 x5 x6 H K):Za Tryz.prog 218 #[.slice A1 n1 m1,.agg #[.int .i64 x1,.int .i64 x2,.int .i64 x3,.int .i64 x4],.int .i64 x5,.int .i64 x6] H K:=
 okL (Λ:=(ZW.Λ K)) dZH Tryz.func218 rfl rfl h (oC (fun E D H h=>by
   refine Safe.loop' (ZW.l10.L K) (fun E D H h=>?_) (fun k E D H h=>?_) E D H h
   ·obtain⟨w0,e0,g1⟩:=DG.out h;obtain⟨A3,n3,m3,rfl,g2⟩:=DSl.out g1;obtain⟨w5,e5,g3⟩:=DG.out g2;obtain⟨pw5,rfl,g4⟩:=DP.out g3;obtain⟨a1,rfl,g5⟩:=NN.out g4;obtain⟨w10,e10,g6⟩:=DG.out g5;obtain⟨x12,rfl,g7⟩:=DI.out g6;obtain⟨w12,e12,g8⟩:=DG.out g7;obtain⟨A4,n4,m4,rfl,g9⟩:=DSl.out g8;obtain⟨w54,e54,g10⟩:=DG.out g9;obtain⟨x13,rfl,g11⟩:=DI.out g10;obtain⟨w55,e55,g12⟩:=DG.out g11;obtain⟨x14,rfl,g13⟩:=DI.out g12;obtain⟨rfl,h'⟩:=Zk.out g13;exact h'
   ·obtain⟨w0,e0,g1⟩:=DG.out h;obtain⟨A3,n3,m3,rfl,g2⟩:=DSl.out g1;obtain⟨a1,e5,g5⟩:=GN g2;obtain⟨x12,e10,g7⟩:=GI g5;obtain⟨w12,e12,g8⟩:=DG.out g7;obtain⟨A4,n4,m4,rfl,g9⟩:=DSl.out g8;obtain⟨x13,e54,g11⟩:=GI g9;obtain⟨x14,e55,g13⟩:=GI g11;obtain⟨rfl,h'⟩:=Zk.out g13;exact okJ (Λ:=(ZW.Λ10 K (ZW.l10 K k))) dZH [] (Zb.cons e0 (Zb.cons e5 (Zb.cons e10 (Zb.cons e12 (Zb.cons e54 (Zb.cons e55 (Zb.nil _))))))) h' (oC (fun E D H h=>by
      refine Safe.loop' (ZW.l15.L K (ZW.l10 K k)) (fun E D H h=>?_) (fun k E D H h=>?_) E D H h
      ·obtain⟨w0,e0,g1⟩:=DG.out h;obtain⟨A5,n7,m5,rfl,g2⟩:=DSl.out g1;obtain⟨w5,e5,g3⟩:=DG.out g2;obtain⟨pw5,rfl,g4⟩:=DP.out g3;obtain⟨a2,rfl,g5⟩:=NN.out g4;obtain⟨w10,e10,g6⟩:=DG.out g5;obtain⟨x21,rfl,g7⟩:=DI.out g6;obtain⟨w12,e12,g8⟩:=DG.out g7;obtain⟨A6,n8,m6,rfl,g9⟩:=DSl.out g8;obtain⟨w14,e14,g10⟩:=DG.out g9;obtain⟨x22,rfl,g11⟩:=DI.out g10;obtain⟨w15,e15,g12⟩:=DG.out g11;obtain⟨x23,rfl,g13⟩:=DI.out g12;obtain⟨w54,e54,g14⟩:=DG.out g13;obtain⟨x24,rfl,g15⟩:=DI.out g14;obtain⟨w55,e55,g16⟩:=DG.out g15;obtain⟨x25,rfl,g17⟩:=DI.out g16;obtain⟨w82,e82,g18⟩:=DG.out g17;obtain⟨A7,n9,m7,rfl,g19⟩:=DSl.out g18;obtain⟨w83,e83,g20⟩:=DG.out g19;obtain⟨x26,rfl,g21⟩:=DI.out g20;obtain⟨w84,e84,g22⟩:=DG.out g21;obtain⟨x27,rfl,g23⟩:=DI.out g22;obtain⟨rfl,h'⟩:=Zk.out g23;exact h'
      ·obtain⟨w0,e0,g1⟩:=DG.out h;obtain⟨A5,n7,m5,rfl,g2⟩:=DSl.out g1;obtain⟨a2,e5,g5⟩:=GN g2;obtain⟨x21,e10,g7⟩:=GI g5;obtain⟨w12,e12,g8⟩:=DG.out g7;obtain⟨A6,n8,m6,rfl,g9⟩:=DSl.out g8;obtain⟨x22,e14,g11⟩:=GI g9;obtain⟨x23,e15,g13⟩:=GI g11;obtain⟨x24,e54,g15⟩:=GI g13;obtain⟨x25,e55,g17⟩:=GI g15;obtain⟨w82,e82,g18⟩:=DG.out g17;obtain⟨A7,n9,m7,rfl,g19⟩:=DSl.out g18;obtain⟨x26,e83,g21⟩:=GI g19;obtain⟨x27,e84,g23⟩:=GI g21;obtain⟨rfl,h'⟩:=Zk.out g23;exact okJ (Λ:=(ZW.Λ15 K (ZW.l10 K k) (ZW.l15 K (ZW.l10 K k) k))) dZH [] (Zb.cons e0 (Zb.cons e5 (Zb.cons e10 (Zb.cons e12 (Zb.cons e14 (Zb.cons e15 (Zb.cons e54 (Zb.cons e55 (Zb.cons e82 (Zb.cons e83 (Zb.cons e84 (Zb.nil _)))))))))))) h' oN) oN)) oN)
def aZQ.l3 (K:VK):Nat→Int→OA→Nat→Nat→OA→Nat→Nat→Int→Int→Hp→Prop
 |0,_,_,_,_,_,_,_,_,_,_=>False
 |k+1,x2,A3,n3,m3,A4,n4,m4,x3,x4,H=>
  let R3:=aZQ.l3 K k
  BIf (decide (x4<x3)) (ixI x4 n4 (NN A4 fun a1=>LeW H (a1.add (x4.toNat*1)) fun x5=>HcW 236 #[.int .u64 x5,.int .u64 x2] H fun x6 H2=>ixI x4 n3 (NN A3 fun a2=>St H2 ((a2.add (x4.toNat*1)).add 0) (.int .u64 x6) fun H3=>R3 x2 A3 n3 m3 A4 n4 m4 x3 (i64.wrap (x4+1)) H3))) (K (.slice A3 n3 m3) H)
def aZQ (A1:OA)(n1 m1:Nat)(x1:Int)(H:Hp)(K:VK):Prop:=
 MkS Tryz.prog 82 (n1:Int) (n1:Int) H fun v1 H1=>DSl v1 fun A2 n2 m2=>(∃ k,aZQ.l3 K k x1 A2 n2 m2 A1 n1 m1 (n1:Int) 0 H1)
def aZQ.l3.L (K:VK)(k:Nat):Mid:=fun E D H=>
 eI E 1 .u64 fun x2=>DG (E.get? 5) fun w5=>DSl w5 fun A3 n3 m3=>DG (E.get? 11) fun w11=>DSl w11 fun A4 n4 m4=>eI E 12 .i64 fun x3=>eI E 13 .i64 fun x4=>Zk D (aZQ.l3 K k x2 A3 n3 m3 A4 n4 m4 x3 x4 H)
def aZQ.Λ3 (_:VK)(_R3:Int→OA→Nat→Nat→OA→Nat→Nat→Int→Int→Hp→Prop):Zt:=Zt.none (fun _=>none)
def aZQ.Λ (K:VK):Zt:=⟨fun i=>none,fun i=>match Nat.beq i 3 with|true=>some (fun E D H=>∃ k,aZQ.l3.L K k E D H)|false=>none,(fun _=>none)⟩
theorem aZQ.ok A1 n1 m1 x1 H K (h:aZQ A1 n1 m1 x1 H K):Za Tryz.prog 219 #[.slice A1 n1 m1,.int .u64 x1] H K:=
 okL (Λ:=(aZQ.Λ K)) dZH Tryz.func219 rfl rfl h (oC (fun E D H h=>by
   refine Safe.loop' (aZQ.l3.L K) (fun E D H h=>?_) (fun k E D H h=>?_) E D H h
   ·obtain⟨w1,e1,g1⟩:=DG.out h;obtain⟨x2,rfl,g2⟩:=DI.out g1;obtain⟨w5,e5,g3⟩:=DG.out g2;obtain⟨A3,n3,m3,rfl,g4⟩:=DSl.out g3;obtain⟨w11,e11,g5⟩:=DG.out g4;obtain⟨A4,n4,m4,rfl,g6⟩:=DSl.out g5;obtain⟨w12,e12,g7⟩:=DG.out g6;obtain⟨x3,rfl,g8⟩:=DI.out g7;obtain⟨w13,e13,g9⟩:=DG.out g8;obtain⟨x4,rfl,g10⟩:=DI.out g9;obtain⟨rfl,h'⟩:=Zk.out g10;exact h'
   ·obtain⟨x2,e1,g2⟩:=GI h;obtain⟨w5,e5,g3⟩:=DG.out g2;obtain⟨A3,n3,m3,rfl,g4⟩:=DSl.out g3;obtain⟨w11,e11,g5⟩:=DG.out g4;obtain⟨A4,n4,m4,rfl,g6⟩:=DSl.out g5;obtain⟨x3,e12,g8⟩:=GI g6;obtain⟨x4,e13,g10⟩:=GI g8;obtain⟨rfl,h'⟩:=Zk.out g10;exact okJ (Λ:=(aZQ.Λ3 K (aZQ.l3 K k))) dZH [] (Zb.cons e1 (Zb.cons e5 (Zb.cons e11 (Zb.cons e12 (Zb.cons e13 (Zb.nil _)))))) h' oN) oN)
def eZY (x1 x2 x3 x4:Int)(H:Hp)(K:VK):Prop:=
 Nw H (.obj (.cells #[.int .i64 x1,.int .i64 x2,.int .i64 x3,.int .i64 x4] 315)) fun b1 H1=>LeI H1 ((⟨b1,0,none⟩:Addr).add 2) fun x5=>HcB 257 #[.int .i64 x5] H1 fun c1 H2=>BIf c1 (LeI H2 ((⟨b1,0,none⟩:Addr).add 3) fun x6=>HcB 257 #[.int .i64 x6] H2 fun c2 H3=>BIf c2 (LeI H3 (((⟨b1,0,none⟩:Addr).add 0).add 0) fun x7=>LeI H3 ((⟨b1,0,none⟩:Addr).add 2) fun x8=>BIf (decide ((i64.wrap (x7-1))≤(i64.wrap (4294967295-x8)))) (LeI H3 (((⟨b1,0,none⟩:Addr).add 0).add 1) fun x9=>LeI H3 ((⟨b1,0,none⟩:Addr).add 3) fun x10=>K (.bool (decide ((i64.wrap (x9-1))≤(i64.wrap (4294967295-x10))))) H3) (K (.bool false) H3)) (K (.bool false) H3)) (K (.bool false) H2)
theorem eZY.ok x1 x2 x3 x4 H K (h:eZY x1 x2 x3 x4 H K):Za Tryz.prog 242 #[.agg #[.int .i64 x1,.int .i64 x2,.int .i64 x3,.int .i64 x4]] H K:=
 okN dZH Tryz.func242 rfl rfl h
def fZz (x1:Int)(H:Hp)(K:VK):Prop:=
 BIf (decide (x1≥0)) (K (.bool (decide (x1≤(4294967295:Int)))) H) (K (.bool false) H)
theorem fZz.ok x1 H K (h:fZz x1 H K):Za Tryz.prog 257 #[.int .i64 x1] H K:=
 okN dZH Tryz.func257 rfl rfl h
end Go.Proofs.YtgfildcgihbdaaaGreatDoor.W
