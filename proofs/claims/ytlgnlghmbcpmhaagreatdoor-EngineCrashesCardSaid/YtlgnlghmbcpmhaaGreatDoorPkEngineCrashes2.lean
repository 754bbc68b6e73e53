import Derived.WalkKit
import Derived.ProofKit
import Derived.OpenShut
import Derived.ShutString
import Derived.ChangeOld
import Derived.Below
import Derived.SizedLaws
import Derived.LaidEql
import Derived.MapKept
import Derived.Test.YtlgnlghmbcpmhaaGreatDoorProg
import Derived.Test.YtlgnlghmbcpmhaaGreatDoorPkEngineCrashes1
set_option maxRecDepth 100000
set_option linter.unusedSimpArgs false
set_option linter.unusedVariables false
set_option linter.unnecessarySimpa false
set_option linter.unusedSectionVars false
open Go.IntKind (i64 u64)
namespace Go.Hw
open Go Go.RowKit Go.ChangeShapes Go.WideShapes Go.ChangeAt
theorem tU {H:Type}{enc:TypeId×Value->H}{P:Program}(hl:laidOutB P=true){W W':World}(hb:Below W.heap.size W W'):
  ∀{ts:List TypeId} {vs:List Value} {ds:List (DataW H)} {ps:List MemPlace},(ts.all fun t=>P.readableRec t&&decide (t<P.types.size))=true->(∀ x∈ps,x.block<W.heap.size)->
   DataW.TrodAll enc P W 0 (fun _=>true) true ts vs ds ps->DataW.TrodAll enc P W' 0 (fun b=>decide (b<W.heap.size)) true ts vs ds ps
 | [],[],[],_,_,_,h=>h
 | [],_::_,_,_,_,_,h=>h.elim
 | [],[],_::_,_,_,_,h=>h.elim
 |_::_,[],_,_,_,_,h=>h.elim
 |_::_,_::_,[],_,_,_,h=>h.elim
 |t::ts,v::vs,d::ds,ps,hr,hlt,h=>by
  obtain⟨p,q,h1,h2,rfl⟩:=h;simp only[List.all_cons,Bool.and_eq_true,decide_eq_true_eq]at hr;exact⟨p,q,Below.trod hl hr.1.1 hr.1.2 h1 hb (fun x hx=>hlt x (by simp[hx])),tU hl hb hr.2 (fun x hx=>hlt x (by simp[hx])) h2,rfl⟩
def qG (P:Program)(ns:List String):Bool:=
 ns.all fun n=>match P.globalNamed n with
  |some g=>match P.globals[g]? with|some gl=>P.readableRec gl.type&&decide (gl.type<P.types.size)|none=>true
  |none=>true
theorem sX {H:Type}{enc:TypeId×Value->H}{P:Program}(hl:laidOutB P=true){W W':World}(hb:Below W.heap.size W W'):
  ∀{ns:List String} {gs:List (DataW H)} {ps:List MemPlace},qG P ns=true->DataW.TrodVars enc P W (fun _=>true) ns gs ps->DataW.TrodVars enc P W' (fun b=>decide (b<W.heap.size)) ns gs ps
 | [],[],_,_,h=>h
 | [],_::_,_,_,h=>h.elim
 |_::_,[],_,_,h=>h.elim
 |n::ns,d::ds,ps,hv,h=>by
  have hlt:=h.lt;obtain⟨g,t,cs,fuel,p,q,h1,h2,h3,h4,hs,rfl⟩:=h;simp only[qG,List.all_cons,Bool.and_eq_true]at hv;obtain⟨gl,hg,rfl⟩:=Option.map_eq_some_iff.1 h2;have ht:=hv.1;rw[h1]at ht;simp only[hg,Bool.and_eq_true,decide_eq_true_eq]at ht;have hp:∀ x∈p,x.block<W.heap.size:=fun x hx=>hlt x (by simp[hx])
  have h3':W'.var? P n=some cs:=by
   unfold World.var? at h3⊢;rw[h1]at h3⊢;simp only[Option.bind_some]at h3⊢;have hgs:g<W.heap.size:=by
    cases hh:W.heap[g]? with
    |none=>rw[hh]at h3;cases h3
    |some o=>exact(Array.getElem?_eq_some_iff.1 hh).1
   rw[hb.block g hgs];exact h3
  obtain⟨fuel',h4'⟩:=Below.trod hl ht.1 ht.2 (v:=.agg cs) ⟨fuel,h4⟩ hb hp;exact⟨g,gl.type,cs,fuel',p,q,h1,h2,h3',h4',
   sX hl hb (by simpa [qG]using hv.2) hs,rfl⟩
theorem law_post {H:Type}{enc:TypeId×Value->H}{P:Program}{fn:Func}{s:ChangeSpec}{f:FuncId}{W:World}{args:Array Value}{ds gs:List (DataW H)}{before:List MemPlace}{tb:TypeId}
  (hl:laidOutB P=true) (hrt:fn.resultTypes=#[tb]) (hb:P.underlying tb=some .bool) (hrd:(fn.params.toList.all fun t=>P.readableRec t&&decide (t<P.types.size))=true) (hv:qG P s.vars=true)
  (hs:s.fn H (ds++gs)={ results:=[.lit (.bool true)],args:=ds,vars:=gs}) (hW:DataW.Whole enc P fn.params.toList s.vars false W args.toList ds gs before)
  (h:ae P f args (Full W) (lG (.bool true) (Full W))):Calls P f args W fun e W'=>∃ v,e= .returned v/\s.post enc P fn false true false false W args v W':=by
 refine(G2 h).mono fun e W' ⟨he,bel⟩=>⟨_,he,?_⟩
 have hlt:∀ x∈before,x.block<W.heap.size:=fun x hx=>by simpa using hW.lt x hx
 have hW':=hW;obtain⟨p,q,hA,hV,rfl,hfz,hnd⟩:=hW;refine⟨ds,gs,p++q,[],p,q,hW',?_,?_,?_,bel.frame _,fun h=>by cases h⟩
 .rw[hs,hrt];exact trodAll_mk1 (shut_bool hb _)
 .rw[hs];exact tU hl bel hrd (fun x hx=>hlt x (by simp[hx])) hA
 .rw[hs];exact sX hl bel hv hV
theorem Full.Nn {w:World}{a:Addr}{v:Value}(h:w.cell? a=some v):(Full w).cell? a=some v:=by
 unfold World.cell? at h;unfold Hp.cell? Full;split at h
 .rename_i c e f hb
  simp only[hb,Option.map_some];exact h
 .cases h
theorem wJ {α β:Type}{f:α->Option β}:∀{l:List α} {ys:List β},l.mapM f=some ys->ys.length=l.length/\∀(i:Nat) (x:α),l[i]? =some x->∃ y,ys[i]? =some y/\f x=some y
 | [],ys,h=>by
  simp at h;subst h;exact⟨rfl,fun i x hx=>by simp at hx⟩
 |x::l,ys,h=>by
  simp only[List.mapM_cons,Option.bind_eq_bind,Option.bind_eq_some_iff,Option.pure_def,Option.some.injEq]at h;obtain⟨y,hy,ys',hys,rfl⟩:=h;obtain⟨h1,h2⟩:=wJ hys;refine⟨by simp[h1],fun i x' hx=>?_⟩;cases i with
  |zero=>simp at hx;subst hx;exact⟨y,rfl,hy⟩
  |succ i=>simpa using h2 i x' (by simpa using hx)
theorem trod_sl {H:Type}{enc:TypeId×Value->H}{P:Program}{W:World}{sp:Nat->Bool}{held:Bool}{fuel:Nat}{t e:TypeId}{cs:List Value}{d:DataW H}{ps:List MemPlace}(hu:P.underlying t=some (.slice e))(h:DataW.trod enc P W 0 sp held fuel t cs=some (d,ps)):
  ∃ A n c,cs=[.slice A n c]/\n<=c/\c<=maxLen/\∃ rows:List (List Value),rows.length=n/\∀(i:Nat) (r:List Value),rows[i]? =some r->∃ a,A=some a/\(∀ j v,r[j]? =some v->(Full W).cell? (a.add (i*P.cellsOf e+j))=some v)/\r.length=P.cellsOf e/\
   ∃ f d' p',DataW.trod enc P W 0 sp held f e r=some (d',p'):=by
 cases fuel with
 |zero=>simp[DataW.trod]at h
 |succ fuel=>
  unfold DataW.trod at h;rw[hu]at h
  match cs,h with
  | [.slice none 0 0],h=>exact⟨none,0,0,rfl,Nat.le_refl _,Nat.zero_le _,[],rfl,fun i r hr=>by simp at hr⟩
  | [.slice (some a) n c],h=>
   simp only at h;split at h
   .rename_i hc
    obtain⟨elems,he,h⟩:=Option.bind_eq_some_iff.1 h;obtain⟨hl,hg⟩:=wJ he;have hrow:∀ i,i<n->∃ r,W.cells? 0 (a.add (i*P.cellsOf e)) (P.cellsOf e)=some r/\∃ x,DataW.trod enc P W 0 sp held fuel e r=some x:=fun i hi=>by
     obtain⟨y,_,hy⟩:=hg i i (by simp[hi]);obtain⟨r,hr,hy⟩:=Option.bind_eq_some_iff.1 hy;exact⟨r,hr,y,hy⟩
    have hr0:∀ i,i<n->∃ r,W.cells? 0 (a.add (i*P.cellsOf e)) (P.cellsOf e)=some r:=fun i hi=>(hrow i hi).imp fun _ h=>h.1
    let rows:=(List.range n).map fun i=>(W.cells? 0 (a.add (i*P.cellsOf e)) (P.cellsOf e)).getD []
    refine⟨some a,n,c,rfl,hc.2.1,hc.2.2,rows,by simp[rows],fun i r hr=>⟨a,rfl,?_⟩⟩;have hi:i<n:=by
     have:=(List.getElem?_eq_some_iff.1 hr).1;simpa [rows]using this
    obtain⟨r',hr',x,hx⟩:=hrow i hi;have:r=r':=by
     simp only[rows,List.getElem?_map,List.getElem?_range hi,Option.map_some,hr',Option.getD_some,Option.some.injEq]at hr;exact hr.symm
    subst this;unfold World.cells? at hr';rw[if_pos (Nat.zero_le _)]at hr';obtain⟨hl',hg'⟩:=wJ hr';refine⟨fun j v hv=>?_,by simpa using hl',fuel,x.1,x.2,hx⟩;have hj:j<P.cellsOf e:=by
     have:=(List.getElem?_eq_some_iff.1 hv).1;rw[hl']at this;simpa using this
    obtain⟨y,hy,hy'⟩:=hg' j j (by simp[hj]);rw[hv]at hy;cases hy;have ha:(a.add (i*P.cellsOf e)).add j=a.add (i*P.cellsOf e+j):=by
     unfold Addr.add;by_cases h1:i*P.cellsOf e=0<;>by_cases h2:j=0<;>simp_all [Nat.add_assoc]
    rw[<- ha];exact Full.Nn hy'
   .cases h
  | [.slice none (_+1) _],h=>simp at h
  | [.slice none 0 (_+1)],h=>simp at h
  | [],h=>simp at h
  |_::_::_,h=>simp at h
  | [.int ..],h=>simp at h
theorem ym {H:Hp}{A:OA}{n:Nat}{α:Type}{g:α->Value}{q:α->Prop}{rows:List (List Value)}(hl:rows.length=n)
  (h:∀(i:Nat) (r:List Value),rows[i]? =some r->∃ a,A=some a/\(∀ j v,r[j]? =some v->H.cell? (a.add (i*1+j))=some v)/\∃ x,r=[g x]/\q x):∃ l:List α,l.length=n/\Cells H A (l.map g)/\∀ x∈l,q x:=by
 have hx:∀ i:Fin rows.length,∃ x,rows[i]=[g x]/\q x:=fun i=>by
  obtain⟨_,_,_,x,hx,hq⟩:=h i rows[i] (by simp);exact⟨x,hx,hq⟩
 let f:Fin rows.length->α:=fun i=>Classical.choose (hx i)
 have hf:∀ i:Fin rows.length,rows[i]=[g (f i)]/\q (f i):=fun i=>Classical.choose_spec (hx i)
 refine⟨List.ofFn f,by simp[hl],fun i v hv=>?_,fun x hx=>?_⟩
 .rw[List.getElem?_map]at hv;obtain⟨y,hy,rfl⟩:=Option.map_eq_some_iff.1 hv;have hi:i<rows.length:=by
   have:=(List.getElem?_eq_some_iff.1 hy).1;simpa using this
  have hy':y=f ⟨i,hi⟩:=by
   rw[List.getElem?_ofFn]at hy;simp only[hi,dif_pos,Option.some.injEq]at hy;exact hy.symm
  subst hy';obtain⟨a,ha,hc,_⟩:=h i rows[i] (by simp);refine⟨a,ha,?_⟩;have:=hc 0 (g (f ⟨i,hi⟩)) (by rw[show rows[i]=[g (f ⟨i,hi⟩)]from(hf ⟨i,hi⟩).1];rfl);simpa using this
 .obtain⟨i,rfl⟩:=List.mem_ofFn.1 hx;exact(hf i).2
section
variable {H : Type} {enc : TypeId × Value -> H} {P : Program} {W : World} {t e : TypeId} {v : Value} {d : DataW H} {ps : List MemPlace} {r : Reach} {base : Nat}
theorem HZ {fuel:Nat}{k:IntKind}{cs:List Value}(hu:P.underlying t=some (.slice e))(he:P.underlying e=some (.int k))(h1:P.cellsOf e=1)(h:DataW.trod enc P W 0 (fun _=>true) true fuel t cs=some (d,ps)):
  ∃ A n c,cs=[.slice A n c]/\n<=c/\c<=maxLen/\∃ ns:List Int,ns.length=n/\Cells (Full W) A (ns.map (.int k))/\∀ x∈ns,(Lit.int k x).wf=true:=by
 obtain⟨A,n,c,rfl,h2,h3,rows,hl,hr⟩:=trod_sl hu h;refine⟨A,n,c,rfl,h2,h3,?_⟩;refine ym (g:=fun x=>Value.int k x) hl fun i r hi=>?_
 obtain⟨a,ha,hc,hlen,f,d',p',hd⟩:=hr i r hi;rw[h1]at hc;obtain⟨x,hx,_,hw⟩:=DataW.trod_int he hd;exact⟨a,ha,hc,x,hx,hw⟩
theorem FK {fuel:Nat}{cs:List Value}(hu:P.underlying t=some (.slice e))(he:P.underlying e=some (.int .u64))(h1:P.cellsOf e=1)(h:DataW.trod enc P W 0 (fun _=>true) true fuel t cs=some (d,ps)):
  ∃ A n c,cs=[.slice A n c]/\n<=c/\c<=maxLen/\∃ l:List UInt64,l.length=n/\Cells (Full W) A (ah l):=by
 obtain⟨A,n,c,rfl,h2,h3,ns,hl,hc,hw⟩:=HZ hu he h1 h;refine⟨A,n,c,rfl,h2,h3,ns.map fun x=>UInt64.ofNat x.toNat,by simpa using hl,?_⟩;have:ah (ns.map fun x=>UInt64.ofNat x.toNat)=ns.map (.int .u64):=by
  unfold ah;rw[List.map_map];apply List.map_congr_left;intro x hx;have:=hw x hx;simp only[Lit.wf,Bool.and_eq_true,decide_eq_true_eq]at this;obtain⟨h4,h5⟩:=this;have h4':0<=x:=h4;have h5':x<=18446744073709551615:=h5;simp only[Function.comp,Value.int.injEq,true_and];rw[UInt64.toNat_ofNat_of_lt' (by show x.toNat<18446744073709551616;omega)];omega
 rw[this];exact hc
theorem FJ {fuel:Nat}{cs:List Value}(hu:P.underlying t=some (.slice e))(he:P.underlying e=some .bool)(h1:P.cellsOf e=1)(h:DataW.trod enc P W 0 (fun _=>true) true fuel t cs=some (d,ps)):
  ∃ A n c,cs=[.slice A n c]/\n<=c/\c<=maxLen/\∃ ns:List Bool,ns.length=n/\Cells (Full W) A (ns.map .bool):=by
 obtain⟨A,n,c,rfl,h2,h3,rows,hl,hr⟩:=trod_sl hu h;obtain⟨ns,h4,h5,_⟩:=ym (g:=Value.bool) (q:=fun _=>True) hl fun i r hi=>by
  obtain⟨a,ha,hc,hlen,f,d',p',hd⟩:=hr i r hi;rw[h1]at hc;obtain⟨x,hx,_⟩:=DataW.trod_bool he hd;exact⟨a,ha,hc,x,hx,trivial⟩
 exact⟨A,n,c,rfl,h2,h3,ns,h4,h5⟩
theorem open_sl (hu:P.underlying t=some (.slice e))(hval:Value.okWide P W r base t v)(h:DataW.Trod enc P W 0 (fun _=>true) true t v d ps):∃ A n c,v= .slice A n c/\∃ fuel,DataW.trod enc P W 0 (fun _=>true) true fuel t [.slice A n c]=some (d,ps):=by
 obtain⟨A,n,c,rfl⟩:=okWide_slice hu hval;obtain⟨fuel,h⟩:=h;exact⟨A,n,c,rfl,fuel,h⟩
end
theorem wf_int {k:IntKind}{n:Int}(h:(Lit.int k n).wf=true):k.min<=n/\n<=k.max:=by
 simpa [Lit.wf]using h
end Go.Hw
namespace Go.Hw
open Go
def Hp.patch (H H1 H1':Hp):Hp:=fun b=>match H1' b with|some o=>some o|none=>match H1 b with|some _=>none|none=>H b
theorem At.patch {H H1 H1':Hp}{w w':World}(hH:Fits H w)(hle:H1.le H)(h:At H1 w H1' w'):At H w (H.patch H1 H1') w':=by
 refine⟨fun b o hb=>?_,h.size,h.os,h.tape,h.output,fun b hb h0=>?_⟩
 .unfold Hp.patch at hb;split at hb
  .rename_i o' ho'
   cases hb;exact h.fits b _ ho'
  .rename_i hn
   split at hb
   .cases hb
   .rename_i h1
    obtain⟨x,hx,hh⟩:=hH b o hb;refine⟨x,?_,hh⟩;rw[(h.pW b (Array.getElem?_eq_some_iff.1 hx).1 h1).2];exact hx
 .have h1:H1 b=none:=by
   cases e:H1 b with
   |none=>rfl
   |some o=>rw[hle b o e]at h0;cases h0
  obtain⟨h2,h3⟩:=h.pW b hb h1;refine⟨?_,h3⟩;unfold Hp.patch;rw[h2,h1];exact h0
theorem ae.frame {P:Program}{f:FuncId}{args:Array Value}{H H1:Hp}{R:VK}(h:ae P f args H1 R)(hle:H1.le H):
  ae P f args H fun v H'=>∃ H1',R v H1'/\H'=H.patch H1 H1'/\∀ b,H b≠none->H1 b=none->H1' b=none:=fun w hw=>by
 have hw1:Fits H1 w:=fun b o hb=>hw b o (hle b o hb)
 refine(h w hw1).mono ?_;rintro e w' ⟨v,H1',rfl,hr,hA⟩;refine⟨v,_,rfl,⟨H1',hr,rfl,fun b hb h1=>?_⟩,hA.patch hw hle⟩;cases hq:H b with
 |none=>exact absurd hq hb
 |some o=>
  obtain⟨x,hx,_⟩:=hw b o hq;exact(hA.pW b (Array.getElem?_eq_some_iff.1 hx).1 h1).1
abbrev As :=Hp->Prop
def jm (H1 H2:Hp):Prop:=∀ b,H1 b=none\/H2 b=none
def Hp.or (H1 H2:Hp):Hp:=fun b=>match H1 b with|some o=>some o|none=>H2 b
theorem Hp.le_none {H H':Hp}{b:Nat}(h:H.le H')(hn:H' b=none):H b=none:=by
 cases e:H b with
 |none=>rfl
 |some o=>rw[h b o e]at hn;cases hn
theorem jm.symm {H1 H2:Hp}(h:jm H1 H2):jm H2 H1:=fun b=>(h b).symm
theorem jm.le {H1 H2 H1' H2':Hp}(h:jm H1 H2)(h1:H1'.le H1)(h2:H2'.le H2):jm H1' H2':=fun b=>
 (h b).elim (fun e=>.inl (Hp.le_none h1 e)) (fun e=>.inr (Hp.le_none h2 e))
theorem jm.or {H1 H2 H3:Hp}(h:jm H1 H3)(k:jm H2 H3):jm (H1.or H2) H3:=fun b=>by
 unfold Hp.or;rcases h b with e|e
 .rw[e];exact k b
 .exact .inr e
theorem Hp.Fi {H1 H2 H:Hp}(h1:H1.le H)(h2:H2.le H):(H1.or H2).le H:=fun b o ho=>by
 unfold Hp.or at ho;split at ho
 .rename_i o' e;cases ho;exact h1 b _ e
 .exact h2 b o ho
theorem Hp.tt (H1 H2:Hp):H1.le (H1.or H2):=fun b o ho=>by unfold Hp.or;rw[ho]
theorem Hp.so {H1 H2:Hp}(h:jm H1 H2):H2.le (H1.or H2):=fun b o ho=>by
 unfold Hp.or;rcases h b with e|e
 .rw[e];exact ho
 .rw[e]at ho;cases ho
def Sep :List As->Hp->Prop
 | [],_=>True
 |A::L,H=>∃ H1 H2,H1.le H/\H2.le H/\jm H1 H2/\A H1/\Sep L H2
theorem Sep.up :∀{L:List As} {H H':Hp},Sep L H->H.le H'->Sep L H'
 | [],_,_,_,_=>trivial
 |_::_,_,_,⟨H1,H2,h1,h2,h3,h4,h5⟩,k=>⟨H1,H2,Hp.le_trans h1 k,Hp.le_trans h2 k,h3,h4,h5⟩
theorem Sep.swap {A B:As}{L:List As}{H:Hp}:Sep (A::B::L) H->Sep (B::A::L) H
 |⟨H1,H2,h1,h2,h3,h4,H3,H4,k1,k2,k3,k4,k5⟩=>
  ⟨H3,H1.or H4,Hp.le_trans k1 h2,Hp.Fi h1 (Hp.le_trans k2 h2),(jm.or (h3.le (Hp.le_refl _) k1) k3.symm).symm,k4,H1,H4,Hp.tt _ _,Hp.so (h3.le (Hp.le_refl _) k2),h3.le (Hp.le_refl _) k2,h4,k5⟩
theorem Sep.perm {L L':List As}(p:L.Perm L'):∀{H:Hp},Sep L H->Sep L' H:=by
 induction p with
 |nil=>exact fun h=>h
 |cons A _ ih=>exact fun⟨H1,H2,h1,h2,h3,h4,h5⟩=>⟨H1,H2,h1,h2,h3,h4,ih h5⟩
 |swap A B L=>exact fun h=>h.swap
 |trans _ _ ih1 ih2=>exact fun h=>ih2 (ih1 h)
theorem Sep.tail {A:As}{L:List As}{H:Hp}:Sep (A::L) H->Sep L H
 |⟨_,_,_,h2,_,_,h5⟩=>h5.up h2
theorem Sep.drop :∀{M L:List As} {H:Hp},Sep (M++L) H->Sep L H
 | [],_,_,h=>h
 |_::_,_,_,h=>Sep.drop h.tail
theorem Sep.take {M L:List As}{H:Hp}(h:Sep (M++L) H):Sep M H:=Sep.drop (Sep.perm List.perm_append_comm h)
theorem Sep.map {A:As}{L M:List As}{H:Hp}(h:Sep (A::L) H)(k:∀ H1,A H1->Sep M H1):Sep (M++L) H:=by
 obtain⟨H1,H2,h1,h2,h3,h4,h5⟩:=h;have hM:=k H1 h4;clear h4 k
 induction M generalizing H1 H with
 |nil=>exact h5.up h2
 |cons B M ih=>
  obtain⟨H3,H4,k1,k2,k3,k4,k5⟩:=hM;exact⟨H3,H4.or H2,Hp.le_trans k1 h1,Hp.Fi (Hp.le_trans k2 h1) h2,(jm.or k3.symm (h3.le k1 (Hp.le_refl _)).symm).symm,k4,ih (H4) (Hp.tt _ _) (Hp.so (h3.le k2 (Hp.le_refl _))) (h3.le k2 (Hp.le_refl _)) k5⟩
theorem Sep.append {M L:List As}{H:Hp}(h:Sep (M++L) H):∃ H1 H2,H1.le H/\H2.le H/\jm H1 H2/\Sep M H1/\Sep L H2:=by
 induction M generalizing H with
 |nil=>exact⟨fun _=>none,H,fun b o h=>(by cases h),Hp.le_refl _,fun b=>Or.inl rfl,trivial,h⟩
 |cons A M ih=>
  obtain⟨H1,H2,h1,h2,h3,h4,h5⟩:=h;obtain⟨H3,H4,k1,k2,k3,k4,k5⟩:=ih h5;exact⟨H1.or H3,H4,Hp.Fi h1 (Hp.le_trans k1 h2),Hp.le_trans k2 h2,jm.or (h3.le (Hp.le_refl _) k2) k3,⟨H1,H3,Hp.tt _ _,Hp.so (h3.le (Hp.le_refl _) k1),h3.le (Hp.le_refl _) k1,h4,k4⟩,k5⟩
theorem Sep.join {M L:List As}{H1 H2 H:Hp}(h1:H1.le H)(h2:H2.le H)(h3:jm H1 H2)(hM:Sep M H1)(hL:Sep L H2):Sep (M++L) H:=by
 have:Sep (Sep M::L) H:=⟨H1,H2,h1,h2,h3,hM,hL⟩;exact this.map (fun _ h=>h)
def we (L:List As):List Nat->List As
 | []=>[]
 |i::is=>match L[i]? with|some A=>A::we L is|none=>we L is
def rest (L:List As)(is:List Nat):List As:=go 0 L
where go (k:Nat):List As->List As
 | []=>[]
 |A::L=>match is.contains k with|true=>go (k+1) L|false=>A::go (k+1) L
theorem Jh (L:List As):rest L []=L:=by
 have key:∀(L:List As) k,rest.go [] k L=L:=by
  intro L
  induction L with
  |nil=>intro k;rfl
  |cons A L ih=>intro k;unfold rest.go;simp only[List.contains_nil];rw[ih]
 exact key L 0
theorem Hk {o:Option As}{c:Prop}[Decidable c]{X:As→List As}{Y Z:List As}(hc:¬c)(h:Y.Perm Z):(match o with|some A=>if c then X A else Y|none=>Y).Perm Z:=by
 cases o with
 |none=>exact h
 |some A=>simp only[hc,if_false];exact h
theorem yc {o:Option As}{c:Prop}[Decidable c]{X:As→List As}{Y Z:List As}(hc:¬c)(h:(match o with|some A=>if c then X A else Y|none=>Y).Perm Z):Y.Perm Z:=by
 cases o with
 |none=>exact h
 |some A=>simp only[hc,if_false]at h;exact h
theorem Hy (i:Nat)(is:List Nat)(hi:is.contains i=false)(L:List As):(match L[i]? with|some A=>(A::rest L (i::is))|none=>rest L (i::is)).Perm (rest L is):=by
 have key:∀(L:List As) (k:Nat),(match L[i-k]? with|some A=>if k≤i then(A::rest.go (i::is) k L)else rest.go (i::is) k L|none=>rest.go (i::is) k L).Perm (rest.go is k L):=by
  intro L
  induction L with
  |nil=>intro k;simp[rest.go]
  |cons A L ih=>
   intro k;have ih:=ih (k+1);by_cases hk:k<=i
   .by_cases e:i=k
    .subst e;have ih:=yc (by omega) ih;unfold rest.go;simp only[Nat.sub_self,List.getElem?_cons_zero,Nat.le_refl,if_true];rw[show(i::is).contains i=true by simp,hi];exact List.Perm.cons A ih
    .have hc:(i::is).contains k=is.contains k:=by
      rw[List.contains_cons,show(k==i)=false by simp;omega];simp
     have h1:i-k=(i-(k+1))+1:=by omega
     rw[h1,List.getElem?_cons_succ];have hk':k+1<=i:=by omega
     simp only[hk',if_true]at ih;simp only[hk,if_true];unfold rest.go;rw[hc];cases hb:is.contains k with
     |true=>exact ih
     |false=>
      simp only;cases h:L[i-(k+1)]? with
      |none=>rw[h]at ih;exact List.Perm.cons A ih
      |some B=>rw[h]at ih;exact(List.Perm.swap A B _).trans (List.Perm.cons A ih)
   .have ih:=yc (by omega) ih;refine Hk hk ?_;have hc:(i::is).contains k=is.contains k:=by
     rw[List.contains_cons,show(k==i)=false by simp;omega];simp
    unfold rest.go;rw[hc];cases is.contains k
    .exact List.Perm.cons A ih
    .exact ih
 have:=key L 0;simpa [rest]using this
def rh :List Nat->Bool
 | []=>true
 |i::is=> !is.contains i&&rh is
theorem xa (L:List As):∀(is:List Nat),rh is=true->(we L is++rest L is).Perm L
 | [],_=>by rw[Jh];exact .refl _
 |i::is,h=>by
  unfold rh at h;simp only[Bool.and_eq_true,Bool.not_eq_true']at h;have ih:=xa L is h.2;have hr:=Hy i is h.1 L;unfold we;cases e:L[i]? with
  |none=>rw[e]at hr;exact(List.Perm.append_left _ hr).trans ih
  |some A=>
   rw[e]at hr;refine List.Perm.trans ?_ ((List.Perm.append_left _ hr).trans ih);exact List.perm_middle.symm
theorem Sep.re {L:List As}{H:Hp}(h:Sep L H)(is:List Nat)(hn:rh is=true):Sep (we L is) H:=
 Sep.take (Sep.perm (xa L is hn).symm h)
theorem Sep.split {L:List As}{H:Hp}(h:Sep L H)(is:List Nat)(hn:rh is=true):Sep (we L is++rest L is) H:=Sep.perm (xa L is hn).symm h
theorem Sep.fE {L:List As}{H:Hp}(h:Sep L H)(i:Nat){A:As}(hi:L[i]? =some A):∃ H1,A H1/\H1.le H:=by
 have h1:Sep [A] H:=by
  have:=h.re [i] rfl;unfold we at this;rw[hi]at this;exact this
 obtain⟨H1,_,k1,_,_,k4,_⟩:=h1;exact⟨H1,k4,k1⟩
def af (b:Nat)(o:AO):As:=fun H=>H b=some o
def own (H0:Hp):As:=fun H=>H0.le H
theorem Sep.get {L:List As}{H:Hp}(h:Sep L H)(i:Nat){b:Nat}{o:AO}(hi:L[i]? =some (af b o)):H b=some o:=by
 obtain⟨H1,h1,h2⟩:=h.fE i hi;exact h2 _ _ h1
theorem Sep.ow {L:List As}{H H0:Hp}(h:Sep L H)(i:Nat)(hi:L[i]? =some (own H0)):H0.le H:=by
 obtain⟨H1,h1,h2⟩:=h.fE i hi;exact Hp.le_trans h1 h2
theorem Sep.start (H:Hp):Sep [own H] H:=⟨H,fun _=>none,Hp.le_refl _,fun b o h=>(by cases h),fun b=>Or.inr rfl,Hp.le_refl _,trivial⟩
theorem Sep.new {L:List As}{H:Hp}(h:Sep L H){b:Nat}(hb:H b=none)(o:AO):Sep (L++[af b o]) (H.set b o):=by
 refine Sep.join (H1:=H) (H2:=fun c=>if c=b then some o else none) (Hp.kI hb) ?_ ?_ h ⟨_,fun _=>none,Hp.le_refl _,fun b o h=>(by cases h),fun b=>.inr rfl,(if_pos rfl:(if b=b then some o else none)=some o),trivial⟩
 .intro c q hq;simp only at hq;split at hq
  .rename_i e;subst e;rw[Hp.bI];exact hq
  .cases hq
 .intro c;by_cases e:c=b
  .left;rw[e];exact hb
  .right;simp only[e,if_false]
theorem Sep.put {L:List As}{H:Hp}(h:Sep L H)(i:Nat){b:Nat}{o:AO}(o':AO)(hi:L[i]? =some (af b o)):Sep (L.set i (af b o')) (H.set b o'):=by
 have key:∀(L:List As) (i:Nat) (H:Hp),Sep L H->L[i]? =some (af b o)->Sep (L.set i (af b o')) (H.set b o'):=by
  intro L
  induction L with
  |nil=>intro i H _ hi;simp at hi
  |cons A L ih=>
   intro i H h hi;obtain⟨H1,H2,h1,h2,h3,h4,h5⟩:=h;cases i with
   |zero=>
    simp only[List.getElem?_cons_zero,Option.some.injEq]at hi;subst hi;have h4':H1 b=some o:=h4;have hn:H2 b=none:=(h3 b).resolve_left (by rw[h4'];simp);refine⟨H1.set b o',H2,Hp.oU h1 b o',fun c q hq=>?_,fun c=>?_,Hp.bI _ _ _,h5⟩
    .rw[Hp.bV _ _ (fun e=>by rw[e,hn]at hq;cases hq)];exact h2 c q hq
    .by_cases e:c=b
     .right;rw[e];exact hn
     .rw[Hp.bV _ _ e];exact h3 c
   |succ i=>
    rw[List.getElem?_cons_succ]at hi;have hb:H2 b=some o:=Sep.get h5 i hi;have hn:H1 b=none:=(h3 b).resolve_right (by rw[hb];simp);refine⟨H1,H2.set b o',fun c q hq=>?_,Hp.oU h2 b o',fun c=>?_,h4,ih i H2 h5 hi⟩
    .rw[Hp.bV _ _ (fun e=>by rw[e,hn]at hq;cases hq)];exact h1 c q hq
    .by_cases e:c=b
     .left;rw[e];exact hn
     .rw[Hp.bV _ _ e];exact h3 c
 exact key L i H h hi
def uz :List Value->Nat->Option Value
 | [],_=>none
 |v::_,0=>some v
 |_::l,n+1=>uz l n
theorem za :∀(l:List Value) (i:Nat),uz l i=l[i]?
 | [],_=>by simp[uz]
 |v::_,0=>rfl
 |_::l,n+1=>by simp[uz,za l n]
section
variable {L : List As} {H : Hp}
theorem Sep.nw (h:Sep L H){o:AO}{K:Nat->Hp->Prop}(k:∀ b H',Sep (L++[af b o]) H'->K b H'):Nw H o K:=fun b hb=>k b _ (h.new hb o)
theorem Sep.ld (h:Sep L H)(i:Nat){b j:Nat}{c:Array Value}{e:TypeId}{v:Value}{K:Value->Prop}(hi:L[i]? =some (af b (Oq c e)))(hv:uz c.toList j=some v)(k:K v):Ld H ⟨b,j,none⟩ K:=
 eV (h.get i hi) (by rw[za,Array.getElem?_toList]at hv;exact hv) k
theorem Sep.uv (h:Sep L H)(i:Nat){b j:Nat}{xs:List Value}{e:TypeId}{m:Nat}{v:Value}{K:Value->Prop}(hi:L[i]? =some (af b (.row xs e m)))(hv:xs[j]? =some v)(k:K v):Ld H ⟨b,j,none⟩ K:=
 L6 (h.get i hi) hv k
theorem Sep.st (h:Sep L H)(i:Nat){b j:Nat}{c:Array Value}{e:TypeId}{v:Value}{K:Hp->Prop}(hi:L[i]? =some (af b (Oq c e)))(hj:j<c.size)(hv:v.oneCell'=true)
  (k:∀ H',Sep (L.set i (af b (Oq (c.setIfInBounds j v) e))) H'->K H'):St H ⟨b,j,none⟩ v K:=
 qQ (h.get i hi) hj hv (k _ (h.put i _ hi))
theorem Sep.str (h:Sep L H)(i:Nat){b j:Nat}{xs:List Value}{e:TypeId}{m:Nat}{v:Value}{K:Hp->Prop}(hi:L[i]? =some (af b (.row xs e m)))(hj:j<xs.length)(hv:v.oneCell'=true)
  (k:∀ H',Sep (L.set i (af b (.row (xs.set j v) e m))) H'->K H'):St H ⟨b,j,none⟩ v K:=
 BH (h.get i hi) hj hv (k _ (h.put i _ hi))
theorem Sep.mO (h:Sep L H)(i:Nat){b off n:Nat}{c:Array Value}{e:TypeId}{K:List Value->Prop}(hi:L[i]? =some (af b (Oq c e)))(hn:off+n<=c.size)(k:K ((c.toList.drop off).take n)):aJ H ⟨b,off,none⟩ n K:=
 L5 (h.get i hi) hn k
theorem Sep.HT (h:Sep L H)(i:Nat){b off n:Nat}{c y:Array Value}{e:TypeId}{K:Hp->Prop}(hi:L[i]? =some (af b (Oq c e)))(hn:off+n<=c.size)(hy:y.size=n)(hv:y.toList.all (fun v=>v.oneCell')=true)
  (k:∀ H',Sep (L.set i (af b (Oq (setAt c.toList off y.toList).toArray e))) H'->K H'):bR H ⟨b,off,none⟩ y n K:=
 Dv (h.get i hi) hn hy hv (k _ (h.put i _ hi))
theorem Sep.q8 (h:Sep L H){P:Program}{e:TypeId}{s bs:Nat}{z:Array Value}(hi:eJ P e=some (s,bs,some z))(hs:z.size=s){l c:Int}{n m:Nat}(hl:l=n)(hc:c=m)(hnm:n<=m)(hm:bs*m<=140737488355328)(hm2:m<=9223372036854775807){K:VK}
  (k:∀ b H',Sep (L++[af b (.row (cZ z.toList n) e (m*s))]) H'->K (.slice (Oo b) n m) H'):lj P e l c H K:=
 Bx hi hs hl hc hnm hm hm2 fun b hb=>k b _ (h.new hb _)
end
def Tr (P:Program)(f:FuncId)(args:Array Value)(Pre:List As)(Q:Value->List As->Prop):Prop:=
 ∀ H,Sep Pre H->ae P f args H fun v H'=>∃ M,Q v M/\Sep M H'
theorem Tr.use {P:Program}{f:FuncId}{args:Array Value}{Pre:List As}{Q:Value->List As->Prop}(t:Tr P f args Pre Q){L:List As}{H:Hp}(h:Sep L H)(is:List Nat)(hs:we L is=Pre)(hn:rh is=true){K:VK}
  (k:∀ v M H',Q v M->Sep (M++rest L is) H'->K v H'):ae P f args H K:=by
 have h1:=h.split is hn;rw[hs]at h1;obtain⟨H1,H2,k1,k2,k3,k4,k5⟩:=h1.append;refine((t H1 k4).frame k1).mono ?_;rintro v H' ⟨H1',⟨M,hq,hM⟩,rfl,hfr⟩;refine k v M _ hq (Sep.join (H1:=H1') (H2:=H2) (fun b o hb=>?_) (fun b o hb=>?_) (fun b=>?_) hM k5)
 .unfold Hp.patch;rw[hb]
 .have e1:H1 b=none:=(k3 b).resolve_right (by rw[hb];simp);have e2:H1' b=none:=hfr b (by rw[k2 b o hb];simp) e1;unfold Hp.patch;rw[e2,e1];exact k2 b o hb
 .cases e:H2 b with
  |none=>exact .inr rfl
  |some o=>
   left;exact hfr b (by rw[k2 b o e];simp) ((k3 b).resolve_right (by rw[e];simp))
theorem dJ.mono {P:Program}{f:FuncId}{args:Array Value}{H:Hp}{R R':VK}(h:dJ P f args H R)(k:∀ v H',R v H'->R' v H'):dJ P f args H R':=fun w hw c cs hc=>by
 obtain⟨e,u',w',fr,⟨hu,v,H',rfl,hr,hA⟩,hx⟩:=h w hw c cs hc;exact⟨_,_,w',fr,⟨hu,v,H',rfl,k v H' hr,hA⟩,hx⟩
theorem dJ.frame {P:Program}{f:FuncId}{args:Array Value}{H H1:Hp}{R:VK}(h:dJ P f args H1 R)(hle:H1.le H):
  dJ P f args H fun v H'=>∃ H1',R v H1'/\H'=H.patch H1 H1'/\∀ b,H b≠none->H1 b=none->H1' b=none:=fun w hw c cs hc=>by
 have hw1:Fits H1 w:=fun b o hb=>hw b o (hle b o hb)
 obtain⟨e,u',w',fr,⟨hu,v,H1',rfl,hr,hA⟩,hx⟩:=h w hw1 c cs hc;refine⟨_,_,w',fr,⟨hu,v,_,rfl,⟨H1',hr,rfl,fun b hb h1=>?_⟩,hA.patch hw hle⟩,hx⟩;cases hq:H b with
 |none=>exact absurd hq hb
 |some o=>
  obtain⟨x,hx,_⟩:=hw b o hq;exact(hA.pW b (Array.getElem?_eq_some_iff.1 hx).1 h1).1
def J2 (P:Program)(f:FuncId)(args:Array Value)(Pre:List As)(Q:Value->List As->Prop):Prop:=
 ∀ H,Sep Pre H->dJ P f args H fun v H'=>∃ M,Q v M/\Sep M H'
theorem J2.use {P:Program}{f:FuncId}{args:Array Value}{Pre:List As}{Q:Value->List As->Prop}(t:J2 P f args Pre Q){L:List As}{H:Hp}(h:Sep L H)(is:List Nat)(hs:we L is=Pre)(hn:rh is=true){K:VK}
  (k:∀ v M H',Q v M->Sep (M++rest L is) H'->K v H'):dJ P f args H K:=by
 have h1:=h.split is hn;rw[hs]at h1;obtain⟨H1,H2,k1,k2,k3,k4,k5⟩:=h1.append;refine((t H1 k4).frame k1).mono ?_;rintro v H' ⟨H1',⟨M,hq,hM⟩,rfl,hfr⟩;refine k v M _ hq (Sep.join (H1:=H1') (H2:=H2) (fun b o hb=>?_) (fun b o hb=>?_) (fun b=>?_) hM k5)
 .unfold Hp.patch;rw[hb]
 .have e1:H1 b=none:=(k3 b).resolve_right (by rw[hb];simp);have e2:H1' b=none:=hfr b (by rw[k2 b o hb];simp) e1;unfold Hp.patch;rw[e2,e1];exact k2 b o hb
 .cases e:H2 b with
  |none=>exact .inr rfl
  |some o=>
   left;exact hfr b (by rw[k2 b o e];simp) ((k3 b).resolve_right (by rw[e];simp))
theorem Sep.fin {L:List As}{H H0:Hp}(h:Sep L H)(i:Nat)(hi:L[i]? =some (own H0))(v:Value):lG v H0 v H:=⟨rfl,h.ow i hi⟩
end Go.Hw
namespace Go.Hw
open Go
theorem xK {G:Hp}{q:Nat}(b:Nat)(h:G q=none):G.erase b q=none:=by
 unfold Hp.erase;split
 .rfl
 .exact h
def bH (e:TypeId)(s:Nat)(A:OA)(n m:Nat)(xs:List Value):As:=fun H=>
 xs.length=n*s/\((A=none/\n=0/\m=0)\/∃ b mm,A=some (O b)/\H b=some (.row xs e mm)/\m*s<=mm)
theorem bH.up {e:TypeId}{s:Nat}{A:OA}{n m:Nat}{xs:List Value}{H H':Hp}(h:bH e s A n m xs H)(k:H.le H'):bH e s A n m xs H':=by
 obtain⟨h1,h2⟩:=h;refine⟨h1,h2.imp id ?_⟩;rintro⟨b,mm,h3,h4,h5⟩;exact⟨b,mm,h3,k _ _ h4,h5⟩
theorem bH.none (e:TypeId)(s:Nat)(H:Hp):bH e s .none 0 0 [] H:=⟨by simp,.inl ⟨rfl,rfl,rfl⟩⟩
section
variable {L : List As} {H : Hp}
theorem Sep.own (h:Sep L H)(i:Nat){e:TypeId}{s:Nat}{A:OA}{n m:Nat}{xs:List Value}(hi:L[i]? =some (bH e s A n m xs)):bH e s A n m xs H:=by
 obtain⟨H1,h1,h2⟩:=h.fE i hi;exact h1.up h2
theorem Sep.jE (h:Sep L H)(i:Nat){A:As}(hi:L[i]? =some A){B:As}(k:∀ H1,A H1->B H1):Sep (L.set i B) H:=by
 induction L generalizing i H with
 |nil=>simp at hi
 |cons C L ih=>
  obtain⟨H1,H2,h1,h2,h3,h4,h5⟩:=h;cases i with
  |zero=>
   simp only[List.getElem?_cons_zero,Option.some.injEq]at hi;subst hi;exact⟨H1,H2,h1,h2,h3,k _ h4,h5⟩
  |succ i=>exact⟨H1,H2,h1,h2,h3,h4,ih h5 i hi⟩
theorem Sep.Ku (h:Sep L H)(i:Nat){A:As}(hi:L[i]? =some A){B:As}(k:∀ H1,H1.le H->A H1->B H1):Sep (L.set i B) H:=by
 induction L generalizing i H with
 |nil=>simp at hi
 |cons C L ih=>
  obtain⟨H1,H2,h1,h2,h3,h4,h5⟩:=h;cases i with
  |zero=>
   simp only[List.getElem?_cons_zero,Option.some.injEq]at hi;subst hi;exact⟨H1,H2,h1,h2,h3,k _ h1 h4,h5⟩
  |succ i=>exact⟨H1,H2,h1,h2,h3,h4,ih h5 i hi fun G hG hA=>k G (Hp.le_trans hG h2) hA⟩
theorem Sep.Kv (h:Sep L H)(i:Nat){e:TypeId}{s:Nat}{A:OA}{n m:Nat}{xs:List Value}(hi:L[i]? =some (bH e s A n m xs)):
  (A=none/\n=0/\m=0/\xs=[])\/∃ b mm,A=some ⟨b,0,.none⟩/\m*s<=mm/\xs.length=n*s/\Sep (L.set i (af b (.row xs e mm))) H:=by
 obtain⟨h1,h2⟩:=h.own i hi;rcases h2 with⟨h2,h3,h4⟩|⟨b,mm,rfl,h4,h5⟩
 .refine .inl ⟨h2,h3,h4,?_⟩;rw[h3]at h1;cases xs with
  |nil=>rfl
  |cons x l=>simp at h1
 .refine .inr ⟨b,mm,rfl,h5,h1,h.Ku i hi fun H1 hle hO=>?_⟩;obtain⟨_,k2⟩:=hO;rcases k2 with⟨k2,_⟩|⟨b',mm',k2,k3,_⟩
  .cases k2
  .cases k2;have:=hle _ _ k3;rw[h4]at this;cases this;exact k3
theorem Sep.Bi (h:Sep L H)(i:Nat){A:As}(hi:L[i]? =some A){b:Nat}{o':AO}{B:As}(k:∀ H1,H1.le H->A H1->∃ o,H1 b=some o/\B (H1.set b o')):Sep (L.set i B) (H.set b o'):=by
 induction L generalizing i H with
 |nil=>simp at hi
 |cons C L ih=>
  obtain⟨H1,H2,h1,h2,h3,h4,h5⟩:=h;cases i with
  |zero=>
   simp only[List.getElem?_cons_zero,Option.some.injEq]at hi;subst hi;obtain⟨o,ho,hB⟩:=k H1 h1 h4;have hn:H2 b=none:=(h3 b).resolve_left (by rw[ho];simp);refine⟨H1.set b o',H2,Hp.oU h1 b o',fun c q hq=>?_,fun c=>?_,hB,h5⟩
   .rw[Hp.bV _ _ (fun e=>by rw[e,hn]at hq;cases hq)];exact h2 c q hq
   .by_cases e:c=b
    .right;rw[e];exact hn
    .rw[Hp.bV _ _ e];exact h3 c
  |succ i=>
   rw[List.getElem?_cons_succ]at hi;have ih':=ih h5 i hi (fun G hG hA=>k G (Hp.le_trans hG h2) hA);have hb:∃ o,H2 b=some o:=by
    obtain⟨G,hG,hle⟩:=h5.fE i hi;obtain⟨o,ho,_⟩:=k G (Hp.le_trans hle h2) hG;exact⟨o,hle _ _ ho⟩
   obtain⟨o,hb⟩:=hb;have hn:H1 b=none:=(h3 b).resolve_right (by rw[hb];simp);refine⟨H1,H2.set b o',fun c q hq=>?_,Hp.oU h2 b o',fun c=>?_,h4,ih'⟩
   .rw[Hp.bV _ _ (fun e=>by rw[e,hn]at hq;cases hq)];exact h1 c q hq
   .by_cases e:c=b
    .left;rw[e];exact hn
    .rw[Hp.bV _ _ e];exact h3 c
theorem bH.rd {e:TypeId}{s:Nat}{A:OA}{n m:Nat}{xs:List Value}(h:bH e s A n m xs H){x:Int}{j:Nat}(hx:x=j)(k:Nat)(hk:k<s){v:Value}(hv:xs[j*s+k]? =some v){K:Value->Prop}(kk:K v):
  cX x n (NN A fun a=>Ld H ((a.add (x.toNat*s)).add k) K):=by
 subst hx;obtain⟨h1,h2⟩:=h;have hlt:=(List.getElem?_eq_some_iff.1 hv).1;have hj:j<n:=by
  rw[h1]at hlt;have h3:j*s<n*s:=by omega
  exact Nat.lt_of_mul_lt_mul_right h3
 refine⟨by omega,by omega,?_⟩;rcases h2 with⟨_,h3,_⟩|⟨b,mm,rfl,h4,_⟩
 .omega
 .refine pj ?_ kk;rw[Int.toNat_natCast,Addr.bm,Addr.bm,Nat.zero_add,wv h4];exact hv
theorem bH.Oc {e:TypeId}{s:Nat}{A:OA}{n m:Nat}{xs:List Value}(h:bH e s A n m xs H){x:Int}{j:Nat}(hx:x=j)(hs:0<s){v:Value}(hv:xs[j*s]? =some v){K:Value->Prop}(kk:K v):
  cX x n (NN A fun a=>Ld H (a.add (x.toNat*s)) K):=h.rd hx 0 hs hv kk
theorem bH.Od {e:TypeId}{A:OA}{n m:Nat}{xs:List Value}(h:bH e 1 A n m xs H){x:Int}{j:Nat}(hx:x=j){v:Value}(hv:xs[j]? =some v){K:Value->Prop}(kk:K v):
  cX x n (NN A fun a=>Ld H (a.add (x.toNat*1)) K):=h.Oc hx (by omega) (by rw[Nat.mul_one];exact hv) kk
theorem bH.uG {e:TypeId}{s:Nat}{A:OA}{n m:Nat}{xs:List Value}(h:bH e s A n m xs H){x:Int}{j:Nat}(hx:x=j)(hj:j<n){ys:List Value}(hy:(xs.drop (j*s)).take s=ys){K:List Value->Prop}(k:K ys):
  cX x n (NN A fun a=>aJ H (a.add (x.toNat*s)) s K):=by
 subst hx;obtain⟨h1,h2⟩:=h;refine⟨by omega,by omega,?_⟩;rcases h2 with⟨_,h3,_⟩|⟨b,mm,rfl,h4,_⟩
 .omega
 .have hle:j*s+s<=xs.length:=by
   rw[h1];have:(j+1)*s<=n*s:=Nat.mul_le_mul_right s hj;rw[Nat.succ_mul]at this;omega
  show aJ H _ s K
  unfold aJ;rw[Int.toNat_natCast,Addr.bm,Nat.zero_add,nQ h4 (j*s) s 0 (by omega),Nat.add_zero,hy];exact k
theorem Sep.wr (h:Sep L H)(i:Nat){e:TypeId}{s:Nat}{A:OA}{n m:Nat}{xs:List Value}(hi:L[i]? =some (bH e s A n m xs)){x:Int}{j:Nat}(hx:x=j)(k:Nat)(hk:k<s)(hj:j<n){v:Value}(hv:v.oneCell'=true){K:Hp->Prop}
  (kk:∀ H',Sep (L.set i (bH e s A n m (xs.set (j*s+k) v))) H'->K H'):cX x n (NN A fun a=>St H ((a.add (x.toNat*s)).add k) v K):=by
 subst hx;refine⟨by omega,by omega,?_⟩;obtain⟨h1,h2⟩:=h.own i hi;have hlt:j*s+k<xs.length:=by
  rw[h1];have:(j+1)*s<=n*s:=Nat.mul_le_mul_right s hj;rw[Nat.succ_mul]at this;omega
 rcases h2 with⟨_,h3,_⟩|⟨b,mm,rfl,h4,h5⟩
 .omega
 .rw[Int.toNat_natCast];show St H _ v K
  rw[Addr.bm,Addr.bm,Nat.zero_add];refine BH h4 hlt hv (kk _ (h.Bi i hi fun H1 hle hA=>?_));obtain⟨g1,g2⟩:=hA;rcases g2 with⟨_,g3,_⟩|⟨b',mm',g3,g4,g5⟩
  .omega
  .cases g3;have:mm=mm':=by
    have:=hle _ _ g4;rw[h4]at this;cases this;rfl
   subst this;exact⟨_,g4,by rw[List.length_set];exact g1,.inr ⟨b,mm,rfl,Hp.bI _ _ _,g5⟩⟩
theorem Sep.app (h:Sep L H)(i:Nat){P:Program}{e:TypeId}{s bs:Nat}{z:Array Value}{A:OA}{n m k:Nat}{xs ys:List Value}{x:Value}(hi:L[i]? =some (bH e s A n m xs))(hc:eJ P e=some (s,bs,some z))(hz:z.size=s)(hbs:bs<=1073741824)(hs:0<s)
  (hn:ux x=some k) (hsrc:ka H s k x=some ys) (hy:ys.length=k*s) (hone:ys.all (fun y=>y.oneCell')=true) (h1:(n+k)*bs<=35184372088832) (h2:n+k<=35184372088832) {K:VK}
  (kk:∀ A' m' H',Sep (L.set i (bH e s A' (n+k) m' (xs++ys))) H'->K (.slice A' (n+k) m') H'):gC P e (.slice A n m) x H K:=by
 have hO:=h.own i hi;have hone':∀ y∈ys,y.oneCell'=true:=fun y hy'=>List.all_eq_true.1 hone y hy'
 obtain⟨g1,g2⟩:=hO;rcases g2 with⟨rfl,rfl,rfl⟩|⟨b,mm,rfl,g4,g5⟩
 .rw[Nat.zero_add]at h1 h2;obtain rfl:xs=[]:=by cases xs<;>simp_all
  refine Ip hc hz hbs hn hsrc hy hone' h1 h2 (fun h0=>?_) (fun _ b c hbc hb=>?_)
  .have hys:ys=[]:=by
    subst h0;cases ys with
    |nil=>rfl
    |cons y ys=>simp at hy
   subst hys;subst h0;refine kk .none 0 H ?_;have:=h.jE i hi (B:=bH e s .none (0+0) 0 ([]++[])) (fun H1 _=>bH.none e s H1);exact this
  .have:Sep (L.set i (af b (.row ys e (c*s)))) (H.set b (.row ys e (c*s))):=by
    have h3:=(h.new hb (.row ys e (c*s)));have h4:Sep ((L++[af b (.row ys e (c*s))]).set i (fun _=>True)) (H.set b (.row ys e (c*s))):=Sep.jE h3 i (A:=bH e s .none 0 0 []) (by rw[List.getElem?_append_left (List.getElem?_eq_some_iff.1 hi).1];exact hi) (fun _ _=>trivial);have hlt:=(List.getElem?_eq_some_iff.1 hi).1;rw[List.set_append_left _ _ hlt]at h4;have hp:(L.set i (fun _=>True)++[af b (.row ys e (c*s))]).Perm (L.set i (af b (.row ys e (c*s)))++[fun _=>True]):=by
     rw[List.set_eq_take_append_cons_drop,List.set_eq_take_append_cons_drop];simp only[hlt,if_true,List.append_assoc,List.cons_append];refine List.Perm.append_left _ ?_;have a1:∀(X:As) (l:List As) (Y:As),(X::(l++[Y])).Perm (Y::(l++[X])):=fun X l Y=>by
      have b1:(X::(l++[Y])).Perm (X::Y::l):=List.Perm.cons X (List.perm_append_comm (l₁:=l) (l₂:=[Y]));have b2:(Y::(l++[X])).Perm (Y::X::l):=List.Perm.cons Y (List.perm_append_comm (l₁:=l) (l₂:=[X]));exact b1.trans ((List.Perm.swap Y X l).trans b2.symm)
     exact a1 _ _ _
    exact Sep.take (Sep.perm hp h4)
   rw[show(k:Nat)=0+k by omega];refine kk _ c _ (this.jE i (A:=af b (.row ys e (c*s))) (by rw[List.getElem?_set];simp[(List.getElem?_eq_some_iff.1 hi).1]) (B:=bH e s (some ⟨b,0,.none⟩) (0+k) c ([]++ys)) (fun H1 hH1=>⟨by simpa using hy,.inr ⟨b,_,rfl,(by rw[List.nil_append];exact hH1:H1 b=some (.row ([]++ys) e (c*s))),Nat.le_refl _⟩⟩)|>fun q=>?_);rw[List.set_set]at q;exact q
 .refine Iq hc hz hbs g4 g1 g5 hn hsrc hy hone' h1 h2 fun b' c m' hc1 hc2 hb'=>?_
  refine kk _ c _ ?_
    -- the pW row is given up, the new one made
  have hlt:=(List.getElem?_eq_some_iff.1 hi).1;have key:∀(L:List As) (i:Nat) (H:Hp),Sep L H->L[i]? =some (bH e s (some ⟨b,0,.none⟩) n m xs)->0<s->(H.erase b) b'=none->Sep (L.set i (bH e s (some ⟨b',0,.none⟩) (n+k) c (xs++ys))) ((H.erase b).set b' (.row (xs++ys) e m')):=by
   intro L
   induction L with
   |nil=>intro i H _ hi;simp at hi
   |cons C L ih=>
    intro i H hS hi hs hb';obtain⟨H1,H2,k1,k2,k3,k4,k5⟩:=hS;have el:∀{G G':Hp},G.le G'->(G.erase b).le (G'.erase b):=fun hle c q hq=>by
     unfold Hp.erase at hq⊢;split at hq
     .cases hq
     .rename_i hc;rw[if_neg hc];exact hle c q hq
    have en:∀{G:Hp},G b= .none->G.erase b=G:=fun hG=>by
     funext q;unfold Hp.erase;split
     .rename_i e;rw[e,hG]
     .rfl
    cases i with
    |zero=>
     simp only[List.getElem?_cons_zero,Option.some.injEq]at hi;subst hi;have hbs:∃ o,H1 b=some o:=by
      obtain⟨_,q⟩:=k4;rcases q with⟨q,_⟩|⟨b2,mm2,q1,q2,_⟩
      .cases q
      .cases q1;exact⟨_,q2⟩
     obtain⟨o,hbs⟩:=hbs;have hn2:H2 b= .none:=(k3 b).resolve_left (by rw[hbs];simp);have hle2:H2.le (H.erase b):=by have:=el k2;rw[en hn2]at this;exact this
     refine⟨(H1.erase b).set b' (.row (xs++ys) e m'),H2,Hp.oU (el k1) _ _,Hp.le_trans hle2 (Hp.kI hb'),fun q=>?_,⟨by rw[List.length_append,g1,hy,Nat.add_mul],.inr ⟨b',m',rfl,Hp.bI _ _ _,hc2⟩⟩,k5⟩;by_cases e:q=b'
     .right;rw[e];exact Hp.le_none hle2 hb'
     .rw[Hp.bV _ _ e];rcases k3 q with e2|e2
      .exact .inl (xK b e2)
      .exact .inr e2
    |succ i=>
     rw[List.getElem?_cons_succ]at hi;have hbs:∃ o,H2 b=some o:=by
      obtain⟨G,⟨_,q⟩,hle⟩:=k5.fE i hi;rcases q with⟨q,_⟩|⟨b2,mm2,q1,q2,_⟩
      .cases q
      .cases q1;exact⟨_,hle _ _ q2⟩
     obtain⟨o,hbs⟩:=hbs;have hn1:H1 b= .none:=(k3 b).resolve_right (by rw[hbs];simp);have hle1:H1.le (H.erase b):=by have:=el k1;rw[en hn1]at this;exact this
     refine⟨H1,(H2.erase b).set b' (.row (xs++ys) e m'),Hp.le_trans hle1 (Hp.kI hb'),Hp.oU (el k2) _ _,fun q=>?_,k4,ih i H2 k5 hi hs (Hp.le_none (el k2) hb')⟩;by_cases e:q=b'
     .left;rw[e];exact Hp.le_none hle1 hb'
     .rw[Hp.bV _ _ e];rcases k3 q with e2|e2
      .exact .inl e2
      .exact .inr (xK b e2)
  exact key L i H h hi hs hb'
theorem Sep.Mr (h:Sep L H)(i:Nat){P:Program}{e e':TypeId}{s bs:Nat}{z:Array Value}{A:OA}{n m:Nat}{xs ys:List Value}(hi:L[i]? =some (bH e s A n m xs))(hc:eJ P e=some (s,bs,some z))(hz:z.size=s)(hbs:bs<=1073741824)(hs:0<s)(hy:ys.length=s)(hv:ys.all (fun y=>y.oneCell')=true)(h2:(n+1)*bs<=35184372088832)(h3:n+1<=35184372088832){K:VK}
  (kk:∀ A' m' H',Sep (L.set i (bH e s A' (n+1) m' (xs++ys))) H'->K (.slice A' (n+1) m') H'):Nw H (.row ys e' s) fun b H'=>gC P e (.slice A n m) (.slice (Oo b) 1 1) H' K:=by
 refine h.nw fun b H' h'=>?_
 have hlt:=(List.getElem?_eq_some_iff.1 hi).1;refine h'.app i (k:=1) (ys:=ys) (by rw[List.getElem?_append_left hlt];exact hi) hc hz hbs hs rfl ?_ (by rw[hy,Nat.one_mul]) hv h2 h3 fun A' m' H'' h''=>?_
 .show H'.cells? (O b) 0 (1*s)=some ys
  rw[Nat.one_mul,nQ (h'.get L.length (b:=b) (o:=.row ys e' s) (by simp)) 0 s 0 (by omega)];simp[<- hy]
 .rw[List.set_append_left _ _ hlt]at h'';exact kk A' m' H'' (Sep.take h'')
theorem Sep.yU (h:Sep L H)(i:Nat){P:Program}{e e':TypeId}{bs:Nat}{v0:Value}{A:OA}{n m:Nat}{xs:List Value}{v:Value}(hi:L[i]? =some (bH e 1 A n m xs))(hc:eJ P e=some (1,bs,some #[v0]))(hbs:bs<=1073741824)(hv:v.oneCell'=true)(h2:(n+1)*bs<=35184372088832)(h3:n+1<=35184372088832){K:VK}
  (kk:∀ A' m' H',Sep (L.set i (bH e 1 A' (n+1) m' (xs++[v]))) H'->K (.slice A' (n+1) m') H'):Nw H (.row [v] e' 1) fun b H'=>gC P e (.slice A n m) (.slice (Oo b) 1 1) H' K:=by
 refine h.nw fun b H' h'=>?_
 have hlt:=(List.getElem?_eq_some_iff.1 hi).1;refine h'.app i (k:=1) (ys:=[v]) (by rw[List.getElem?_append_left hlt];exact hi) hc rfl hbs (by omega) rfl (sT (Cells.row (h'.get L.length (b:=b) (o:=.row [v] e' 1) (by simp)) 0 1) rfl) rfl (by simp[hv]) h2 h3 fun A' m' H'' h''=>?_
 rw[List.set_append_left _ _ hlt]at h'';exact kk A' m' H'' (Sep.take h'')
end
section
variable {L : List As} {H : Hp}
theorem Sep.bd (h:Sep L H)(i:Nat){b n:Nat}{c:Array Value}{e:TypeId}{K:List Value->Prop}(hi:L[i]? =some (af b (Oq c e)))(hn:c.size=n)(k:K c.toList):aJ H (O b) n K:=nO (h.get i hi) hn k
theorem Sep.dW (h:Sep L H)(i:Nat){b n:Nat}{c y:Array Value}{e:TypeId}{K:Hp->Prop}(hi:L[i]? =some (af b (Oq c e)))(hn:c.size=n)(hy:y.size=n)(hv:y.toList.all (fun v=>v.oneCell')=true)
  (k:∀ H',Sep (L.set i (af b (Oq y e))) H'->K H'):bR H (O b) y n K:=qH (h.get i hi) hn hy hv (k _ (h.put i _ hi))
end
section
variable {L : List As} {H : Hp}
theorem Sep.B4 (h:Sep L H)(i:Nat){b n j:Nat}{c:Array Value}{e:TypeId}{v:Value}{K:Value->Prop}(hi:L[i]? =some (af b (Oq c e))){x:Int}(hx:x=(j:Nat))(hj:j<n)(hv:uz c.toList j=some v)(k:K v):cX x n (Ld H ((O b).add (x.toNat*1)) K):=by
 subst hx;refine⟨by omega,by omega,?_⟩;rw[Int.toNat_natCast,Nat.mul_one,Addr.bm,Nat.zero_add];exact h.ld i hi hv k
theorem Sep.stx (h:Sep L H)(i:Nat){b n j:Nat}{c:Array Value}{e:TypeId}{v:Value}{K:Hp->Prop}(hi:L[i]? =some (af b (Oq c e))){x:Int}(hx:x=(j:Nat))(hj:j<n)(hc:j<c.size)(hv:v.oneCell'=true)
  (k:∀ H',Sep (L.set i (af b (Oq (c.setIfInBounds j v) e))) H'->K H'):cX x n (St H (((O b).add (x.toNat*1)).add 0) v K):=by
 subst hx;refine⟨by omega,by omega,?_⟩;rw[Int.toNat_natCast,Nat.mul_one,Addr.bm,Nat.zero_add,Addr.add_zero];exact h.st i hi hc hv k
end
theorem Cells.obj {H:Hp}{b:Nat}{c:Array Value}{e:TypeId}(h:H b=some (Oq c e))(n:Nat):Cells H (Oo b) (c.toList.take n):=fun i v hi=>by
 refine⟨_,rfl,?_⟩;rw[Addr.bm,Nat.zero_add,nH h];rw[List.getElem?_take]at hi;split at hi
 .rw[Array.getElem?_toList]at hi;exact hi
 .cases hi
theorem wO {e:TypeId}{b off m:Nat}:∀(l:List Value) (i:Nat) (H:Hp) (xs:List Value),H b=some (.row xs e m)->off+i+l.length<=xs.length->(∀ v∈l,v.oneCell'=true)->
  H.puts? ⟨b,off,none⟩ i l=some (H.set b (.row (setAt xs (off+i) l) e m))
 | [],i,H,xs,h,hi,_=>by simp[Hp.puts?,nX,Hp.yr h]
 |v::l,i,H,xs,h,hi,hv=>by
  unfold Hp.puts?;simp only[List.length_cons]at hi;rw[Addr.bm,vt h (by omega) (hv v (by simp))];simp only;rw[wO l (i+1) _ _ (Hp.bI _ _ _) (by simp;omega) (fun u hu=>hv u (by simp[hu])),Hp.set_set];congr 3;apply List.ext_getElem?;intro j;rw[fP (by simp;omega),fP (by simp;omega),List.getElem?_set];simp only[List.length_cons];by_cases h1:j<off+i
  .rw[if_pos (by omega),if_neg (by omega),if_pos h1]
  .rw[if_neg h1];by_cases h2:j=off+i
   .subst h2;rw[if_pos (by omega),if_pos rfl,if_pos (by omega),if_pos (by omega)];simp
   .rw[if_neg (by omega)];by_cases h3:j<off+(i+1)+l.length
    .rw[if_pos h3,if_pos (by omega),show j-(off+i)=(j-(off+(i+1)))+1 by omega,List.getElem?_cons_succ]
    .rw[if_neg h3,if_neg (by omega),if_neg (by omega)]
theorem Sep.cp {L:List As}{H:Hp}(h:Sep L H)(i:Nat){P:Program}{e e':TypeId}{bs:Nat}{z:Array Value}{b off n c m k:Nat}{xs ys:List Value}{x:Value}(hi:L[i]? =some (af b (.row xs e' m)))(hc:eJ P e=some (1,bs,some z))
  (hn:ux x=some k) (hsrc:ka H 1 (Nat.min k n) x=some ys) (ho:off+ys.length<=xs.length) (hone:∀ y∈ys,y.oneCell'=true) {K:VK}
  (kk:∀ H',Sep (L.set i (af b (.row (setAt xs off ys) e' m))) H'->K (I (Nat.min k n:Nat)) H'):rI P e (.slice (some ⟨b,off,none⟩) n c) x H K:=by
 obtain⟨j,zz,h3,h4,rfl,h5,rfl⟩:=oM hc;unfold rI;simp only[h3];rw[h4];exact⟨k,ys,_,hn,hsrc,by simpa using wO ys 0 H xs (h.get i hi) (by omega) hone,kk _ (by simpa using h.put i _ hi)⟩
theorem rA {n m l:Nat}{x:Int}{K:Nat->Nat->Prop}(hx:x=l)(hl:l<=n)(k:K l n):mP n m (some x) none K:=by
 subst hx;refine⟨by omega,by omega,?_⟩;rw[Int.toNat_natCast];exact k
theorem yy {n m r:Nat}{x:Int}{K:Nat->Nat->Prop}(hx:x=r)(hr:r<=m)(k:K 0 r):mP n m none (some x) K:=by
 subst hx;refine⟨by omega,by omega,?_⟩;rw[Int.toNat_natCast];exact k
theorem CD (b off m:Nat):jk (some ⟨b,off,none⟩) m 0 1=some ⟨b,off,none⟩:=by
 unfold jk;split
 .rfl
 .rfl
theorem yx {b off m l:Nat}(h:l<m:=by omega):jk (some ⟨b,off,none⟩) m l 1=some ⟨b,off+l,none⟩:=by
 unfold jk;rw[if_neg (by omega)];show some ((⟨b,off,none⟩:Addr).add (l*1))=_
 rw[Nat.mul_one,Addr.bm]
theorem CA {xs us bs:List Value}{off:Nat}(h:off+us.length+bs.length<=xs.length):setAt (setAt xs off us) (off+us.length) bs=setAt xs off (us++bs):=by
 apply List.ext_getElem?;intro i;have hl:(setAt xs off us).length=xs.length:=iy;rw[fP (by omega),fP (by omega),fP (by rw[List.length_append];omega),List.length_append];by_cases h1:i<off
 .rw[if_pos (by omega),if_pos h1,if_pos h1]
 .rw[if_neg h1,if_neg h1];by_cases h2:i<off+us.length
  .rw[if_pos h2,if_pos h2,if_pos (by omega),List.getElem?_append_left (by omega)]
  .rw[if_neg h2];by_cases h3:i<off+us.length+bs.length
   .rw[if_pos h3,if_pos (by omega),List.getElem?_append_right (by omega)];congr 1;omega
   .rw[if_neg h3,if_neg h2,if_neg (by omega)]
def eU (s:Nat)(H:Hp)(A:OA)(rows:List (List Value)):Prop:=∀ i r,rows[i]? =some r->∃ a,A=some a/\∀ j v,r[j]? =some v->H.cell? (a.add (i*s+j))=some v
theorem eU.le {s:Nat}{H H':Hp}{A:OA}{rows:List (List Value)}(h:eU s H A rows)(k:H.le H'):eU s H' A rows:=fun i r hi=>by
 obtain⟨a,ha,hc⟩:=h i r hi;exact⟨a,ha,fun j v hj=>k.cell (hc j v hj)⟩
theorem add_add (a:Addr)(i j:Nat):(a.add i).add j=a.add (i+j):=by
 unfold Addr.add;by_cases h1:i=0<;>by_cases h2:j=0<;>simp_all [Nat.add_assoc]
theorem eU.rd {s:Nat}{H:Hp}{A:OA}{rows:List (List Value)}(h:eU s H A rows){i:Nat}{r:List Value}(hi:rows[i]? =some r){x:Int}(hx:x=i){n:Nat}(hn:rows.length<=n){j:Nat}{v:Value}(hj:r[j]? =some v){K:Value->Prop}(k:K v):
  cX x n (NN A fun a=>Ld H ((a.add (x.toNat*s)).add j) K):=by
 obtain⟨a,rfl,hc⟩:=h i r hi;subst hx;have:=(List.getElem?_eq_some_iff.1 hi).1;refine⟨by omega,by omega,?_⟩;rw[Int.toNat_natCast];refine pj ?_ k;rw[add_add];exact hc j v hj
end Go.Hw
namespace Go.Hw
open Go Go.RowKit Go.ChangeShapes Go.WideShapes Go.ChangeAt
theorem Lt {s:Nat}{H:Hp}{A:OA}{n:Nat}{α:Type}{g:α->List Value}{q:α->Prop}{rows:List (List Value)}(hl:rows.length=n)
  (h:∀(i:Nat) (r:List Value),rows[i]? =some r->∃ a,A=some a/\(∀ j v,r[j]? =some v->H.cell? (a.add (i*s+j))=some v)/\∃ x,r=g x/\q x):∃ l:List α,l.length=n/\eU s H A (l.map g)/\∀ x∈l,q x:=by
 have hx:∀ i:Fin rows.length,∃ x,rows[i]=g x/\q x:=fun i=>by
  obtain⟨_,_,_,x,hx,hq⟩:=h i rows[i] (by simp);exact⟨x,hx,hq⟩
 let f:Fin rows.length->α:=fun i=>Classical.choose (hx i)
 have hf:∀ i:Fin rows.length,rows[i]=g (f i)/\q (f i):=fun i=>Classical.choose_spec (hx i)
 refine⟨List.ofFn f,by simp[hl],fun i r hr=>?_,fun x hx=>?_⟩
 .rw[List.getElem?_map]at hr;obtain⟨y,hy,rfl⟩:=Option.map_eq_some_iff.1 hr;have hi:i<rows.length:=by
   have:=(List.getElem?_eq_some_iff.1 hy).1;simpa using this
  have hy':y=f ⟨i,hi⟩:=by
   rw[List.getElem?_ofFn]at hy;simp only[hi,dif_pos,Option.some.injEq]at hy;exact hy.symm
  subst hy';obtain⟨a,ha,hc,_⟩:=h i rows[i] (by simp);refine⟨a,ha,fun j v hj=>hc j v ?_⟩;rw[show rows[i]=g (f ⟨i,hi⟩)from(hf ⟨i,hi⟩).1];exact hj
 .obtain⟨i,rfl⟩:=List.mem_ofFn.1 hx;exact(hf i).2
section
variable {H : Type} {enc : TypeId × Value -> H} {P : Program} {W : World} {t e : TypeId} {cs : List Value} {d : DataW H} {ps : List MemPlace} {fuel : Nat}
theorem LJ {fs:Array Field}(hu:P.underlying t=some (.struct fs))(h:DataW.trod enc P W 0 (fun _=>true) true fuel t cs=some (d,ps)):
  cs.length=P.cellsOf t/\∃ f,∀(i:Nat) (fd:Field),fs[i]? =some fd->∃ d' p',DataW.trod enc P W 0 (fun _=>true) true f fd.type ((cs.drop fd.offset).take (P.cellsOf fd.type))=some (d',p'):=by
 obtain⟨xs,n,_,_,hl,hlen,hf⟩:=DataW.trod_struct hu h;refine⟨hl,n,fun i fd hi=>?_⟩;have h1:=hf i fd hi;have hlt:i<xs.length:=by rw[hlen];exact(Array.getElem?_eq_some_iff.1 hi).1
 rw[List.getElem?_eq_getElem hlt]at h1;exact⟨xs[i].1,xs[i].2,h1⟩
theorem Ks {cs:List Value}{o:Nat}{v:Value}(h:(cs.drop o).take 1=[v]):cs[o]? =some v:=by
 have:((cs.drop o).take 1)[0]? =some v:=by rw[h];rfl
 rw[List.getElem?_take,if_pos (by omega),List.getElem?_drop,Nat.add_zero]at this;exact this
theorem u0 {o:Nat}{k:IntKind}(he:P.underlying e=some (.int k))(h1:P.cellsOf e=1)(h:∃ d' p',DataW.trod enc P W 0 (fun _=>true) true fuel e ((cs.drop o).take (P.cellsOf e))=some (d',p')):∃ x,cs[o]? =some (.int k x)/\(Lit.int k x).wf=true:=by
 obtain⟨d',p',h⟩:=h;rw[h1]at h;obtain⟨x,hx,_,hw⟩:=DataW.trod_int he h;exact⟨x,Ks hx,hw⟩
theorem CI {o:Nat}{e':TypeId}(he:P.underlying e=some (.slice e'))(h1:P.cellsOf e=1)(h:∃ d' p',DataW.trod enc P W 0 (fun _=>true) true fuel e ((cs.drop o).take (P.cellsOf e))=some (d',p')):
  ∃ A n c d' p',cs[o]? =some (.slice A n c)/\DataW.trod enc P W 0 (fun _=>true) true fuel e [.slice A n c]=some (d',p'):=by
 obtain⟨d',p',h⟩:=h;rw[h1]at h;obtain⟨A,n,c,hx,_⟩:=trod_sl he h;rw[hx]at h;exact⟨A,n,c,d',p',Ks hx,h⟩
end
def xi (cs:List Value):Nat->List Value->Prop
 |_,[]=>True
 |i,v::l=>cs[i]? =some v/\xi cs (i+1) l
theorem xi.out {cs l:List Value}(h:xi cs 0 l)(hl:cs.length=l.length):cs=l:=by
 have key:∀(l:List Value) (i:Nat),xi cs i l->∀ j,j<l.length->cs[i+j]? =l[j]? :=by
  intro l
  induction l with
  |nil=>intro i _ j hj;simp at hj
  |cons v l ih=>
   intro i ⟨h1,h2⟩ j hj;cases j with
   |zero=>simpa using h1
   |succ j=>
    rw[show i+(j+1)=i+1+j by omega,ih (i+1) h2 j (by simpa using hj)];simp
 apply List.ext_getElem?;intro j;by_cases hj:j<l.length
 .simpa using key l 0 h j hj
 .rw[List.getElem?_eq_none (by omega),List.getElem?_eq_none (by omega)]
section
variable {H : Type} {enc : TypeId × Value -> H} {P : Program} {W : World} {t e : TypeId} {v : Value} {d : DataW H} {ps : List MemPlace} {r : Reach} {base : Nat}
end
end Go.Hw
namespace Go.Hw
open Go
def gv (b:Nat):Value:=V b
def vI (x:Nat×Int×Nat):MapEntry:={ key:=gv x.1,val:=I x.2.1,born:=x.2.2}
def fZ (l:List (Nat×Int×Nat))(clock:Nat):AO:=.obj (.map (l.map vI).toArray clock)
def gm (H:Hp)(b:Nat):Prop:=∃ c e,H b=some (Oq c e)
theorem gm.le {H H':Hp}{b:Nat}(h:gm H b)(k:H.le H'):gm H' b:=by
 obtain⟨c,e,h⟩:=h;exact⟨c,e,k _ _ h⟩
theorem gm.heap {H:Hp}{w:World}{b:Nat}(h:gm H b)(hw:Fits H w):∃ c e,w.heap[b]? =some (.cells c e (0,0)):=by
 obtain⟨c,e,h⟩:=h;obtain⟨o,ho,hh⟩:=hw _ _ h;cases hh;exact⟨c,e,ho⟩
theorem fZ.heap {H:Hp}{w:World}{r clock:Nat}{l:List (Nat×Int×Nat)}(h:H r=some (fZ l clock))(hw:Fits H w):w.heap[r]? =some (.map (l.map vI).toArray clock):=by
 obtain⟨o,ho,hh⟩:=hw _ _ h;cases hh;exact ho
section
variable {P : Program} {t te : TypeId} {j : TypeInfo} (ht : P.underlying t = some (.pointer te)) (hj : P.info? te = some j) (hs : j.size ≠ 0)
include ht hj hs
theorem AL {H:Hp}{w:World}(hw:Fits H w){a b:Nat}(ha:gm H a)(hb:gm H b):(Op.equal t (gv a) (gv b)).run P w= .ok (decide (a=b)) w:=by
 obtain⟨ca,ea,ha⟩:=ha.heap hw;obtain⟨cb,eb,hb⟩:=hb.heap hw;unfold Op.equal Op.maxDepth Op.equalIn gv;simp only[Sem.run_bind,aV ht,Result.andThen_ok,fJ hj];rw[if_pos hs];by_cases e:a=b
 .subst e;rw[run_sameAddr_same];simp
 .rw[run_sameAddr_other w (a:=(O a)) (b:=(O b)) (by simpa using e) ha hb];simp[e]
theorem AK {w:World}{b:Nat}:(Op.equal t (.pointer none) (gv b)).run P w= .ok false w:=by
 unfold Op.equal Op.maxDepth Op.equalIn gv;simp[aV ht]
def im (a:Nat):List (Nat×Int×Nat)->Nat->Option (Nat×Value)
 | [],_=>none
 |x::l,i=>if a=x.1 then some (i,I x.2.1)else im a l (i+1)
theorem vK {H:Hp}{w:World}(hw:Fits H w){a:Nat}(ha:gm H a):∀(l:List (Nat×Int×Nat)) (i:Nat),(∀ x∈l,gm H x.1)->(Instr.findAsking t (gv a) (l.map vI) i).run P w= .ok (im a l i) w
 | [],i,_=>by simp[Instr.findAsking,im]
 |x::l,i,h=>by
  simp only[List.map_cons,Instr.findAsking,Sem.run_bind];rw[show(vI x).key=gv x.1 from rfl,AL ht hj hs hw ha (h x (by simp))];simp only[Result.andThen_ok,im];by_cases e:a=x.1
  .simp[e,vI]
  .simp only[e,decide_false,Bool.false_eq_true,if_false];exact vK hw ha l (i+1) (fun y hy=>h y (by simp[hy]))
theorem vJ {w:World}:∀(l:List (Nat×Int×Nat)) (i:Nat),(Instr.findAsking t (.pointer none) (l.map vI) i).run P w= .ok none w
 | [],i=>by simp[Instr.findAsking]
 |x::l,i=>by
  simp only[List.map_cons,Instr.findAsking,Sem.run_bind];rw[show(vI x).key=gv x.1 from rfl,AK ht hj hs];simp only[Result.andThen_ok,Bool.false_eq_true,if_false];exact vJ l (i+1)
theorem si {H:Hp}{w:World}(hw:Fits H w){a:Nat}(ha:gm H a)(l:List (Nat×Int×Nat))(h:∀ x∈l,gm H x.1):(Instr.findKey t (gv a) (l.map vI)).run P w= .ok (im a l 0) w:=by
 unfold Instr.findKey;simp only[Sem.run_bind,aV ht,Result.andThen_ok];cases l with
 |nil=>simp[Instr.findNow,im]
 |cons x l=>
  simp only[List.map_cons,Instr.findNow,Instr.sameNow];exact vK ht hj hs hw ha (x::l) 0 h
theorem C7 {w:World}(l:List (Nat×Int×Nat)):(Instr.findKey t (.pointer none) (l.map vI)).run P w= .ok none w:=by
 unfold Instr.findKey;simp only[Sem.run_bind,aV ht,Result.andThen_ok];cases l with
 |nil=>simp[Instr.findNow]
 |cons x l=>
  simp only[List.map_cons,Instr.findNow,Instr.sameNow];exact vJ ht hj hs (x::l) 0
theorem oO {w:World}(e:Bool)(p:OA):(Instr.checkKey e 10000 t (.pointer p)).run P w= .ok () w:=by
 unfold Instr.checkKey;simp[aV ht]
variable {tm tv : TypeId} (hm : P.underlying tm = some (.map t tv))
include hm
theorem Fa {jv:TypeInfo}(hv:P.info? tv=some jv)(hz:jv.zero=some (.int .i64 0)){H:Hp}{r clock a:Nat}{l:List (Nat×Int×Nat)}(hr:H r=some (fZ l clock))(ha:gm H a)(hl:∀ x∈l,gm H x.1){K:Value->Prop}
  (k1:∀ i v,im a l 0=some (i,v)->K (.tuple #[v,.bool true])) (k2:im a l 0=none->K (.tuple #[.int .i64 0,.bool false])):tZ P (Instr.lookup tm (.map (some r)) (gv a) true) H K:=by
 have hrun:∀ w,Fits H w→(Instr.lookup tm (.map (some r)) (gv a) true).run P w= .ok (match im a l 0 with|some (_,v)=>.tuple #[v,.bool true]|none=>.tuple #[.int .i64 0,.bool false]) w:=fun w hw=>by
  have hh:=fZ.heap hr hw;simp only[Instr.lookup,Sem.run_bind,aV hm,Result.andThen_ok,MapKept.run_getObj_map hh,Sem.run_pure];rw[show gv a= .pointer (some ⟨a,0,none⟩)from rfl,oO ht hj hs];simp only[Result.andThen_ok];rw[show(Value.pointer (some ⟨a,0,none⟩))=gv a from rfl,si ht hj hs hw ha l hl];simp only[Result.andThen_ok];cases im a l 0 with
  |some x=>simp
  |none=>simp[zeroValue,jl hv,hz]
 refine⟨_,?_,hrun⟩;cases hf:im a l 0 with
 |some x=>exact k1 _ _ hf
 |none=>exact k2 hf
theorem AM {jv:TypeInfo}(hv:P.info? tv=some jv)(hz:jv.zero=some (I 0)){H:Hp}{r clock:Nat}{l:List (Nat×Int×Nat)}(hr:H r=some (fZ l clock)){K:Value->Prop}(k2:K (.tuple #[I 0,.bool false])):
  tZ P (Instr.lookup tm (.map (some r)) (.pointer none) true) H K:=by
 refine⟨_,k2,fun w hw=>?_⟩;have hh:=fZ.heap hr hw;simp only[Instr.lookup,Sem.run_bind,aV hm,Result.andThen_ok,MapKept.run_getObj_map hh,Sem.run_pure];rw[oO ht hj hs];simp only[Result.andThen_ok];rw[C7 ht hj hs];simp[zeroValue,jl hv,hz]
end
theorem zL {α β:Type}(f:α->β):∀(l:List α) (k:Nat),(l.map f).eraseIdx k=(l.eraseIdx k).map f
 | [],k=>by simp
 |x::l,0=>by simp
 |x::l,k+1=>by simp[zL f l k]
theorem At.HL {H0 H:Hp}{w0 w:World}{r clock:Nat}{l:List (Nat×Int×Nat)}(hA:At H0 w0 H w)(hr:H r=some (fZ l clock))(o:Obj):At H0 w0 (H.set r (.obj o)) { w with heap:=w.heap.setIfInBounds r o}:=by
 have hh:=fZ.heap hr hA.fits;have hlt:r<w.heap.size:=(Array.getElem?_eq_some_iff.1 hh).1;refine hA.jE hr (x':=o) ?_ rfl ?_ rfl rfl rfl (fun c hc=>?_)
 .show(w.heap.setIfInBounds r o)[r]? =some o
  simp[hlt]
 .show(w.heap.setIfInBounds r o).size=w.heap.size
  simp
 .show(w.heap.setIfInBounds r o)[c]? =w.heap[c]?
  rw[Array.getElem?_setIfInBounds_ne (Ne.symm hc)]
section
variable {P : Program} {t te : TypeId} {j : TypeInfo} (ht : P.underlying t = some (.pointer te)) (hj : P.info? te = some j) (hs : j.size ≠ 0)
variable {tm tv : TypeId} (hm : P.underlying tm = some (.map t tv))
include ht hj hs hm
theorem AN {H:Hp}{r clock a:Nat}{n:Int}{l:List (Nat×Int×Nat)}(hr:H r=some (fZ l clock))(ha:gm H a)(hl:∀ x∈l,gm H x.1)(hf:im a l 0=none){K:Unit->Hp->Prop}
  (k:K () (H.set r (fZ (l++[(a,n,clock)]) (clock+1)))):ia P (Instr.mapUpdate tm (.map (some r)) (gv a) (.int .i64 n)) H K:=fun H0 w0 w hA=>by
 have hh:=fZ.heap hr hA.fits;refine⟨(),_,_,?_,k,hA.HL hr _⟩;simp only[Instr.mapUpdate,Sem.run_bind,aV hm,Result.andThen_ok,MapKept.run_getObj_map hh];rw[show gv a= .pointer (some ⟨a,0,none⟩)from rfl,oO ht hj hs];simp only[Result.andThen_ok];rw[show(Value.pointer (some ⟨a,0,none⟩))=gv a from rfl,si ht hj hs hA.fits ha l hl,hf];simp only[Result.andThen_ok];rw[MapKept.run_setObj_map _ hh];simp[vI]
theorem uk (a:Nat):∀(l:List (Nat×Int×Nat)) (i k:Nat) (v:Value),(l.map (·.1)).Nodup->im a l i=some (k,v)->i<=k/\l.eraseIdx (k-i)=l.filter (fun x=>x.1≠a)/\∃ x∈l,x.1=a/\v= I x.2.1
 | [],i,k,v,_,h=>by cases h
 |x::l,i,k,v,hn,h=>by
  unfold im at h;simp only[List.map_cons,List.nodup_cons]at hn;by_cases e:a=x.1
  .rw[if_pos e]at h;cases h;refine⟨Nat.le_refl _,?_,x,by simp,e.symm,rfl⟩;rw[Nat.sub_self,List.eraseIdx_cons_zero,List.filter_cons_of_neg (by simp[e])]
   symm
   rw[List.filter_eq_self];intro y hy;have:y.1≠a:=fun e2=>hn.1 (by rw[<- e,<-e2];exact List.mem_map_of_mem hy)
   simpa using this
  .rw[if_neg e]at h;obtain⟨h1,h2,y,hy,h3,h4⟩:=uk a l (i+1) k v hn.2 h;refine⟨by omega,?_,y,by simp[hy],h3,h4⟩;rw[show k-i=(k-(i+1))+1 by omega,List.eraseIdx_cons_succ,h2,List.filter_cons_of_pos (by simp;exact fun e2=>e e2.symm)]
theorem E4 {ty t2:TypeId}{H:Hp}{r clock a k:Nat}{v:Value}{l:List (Nat×Int×Nat)}(hr:H r=some (fZ l clock))(ha:gm H a)(hl:∀ x∈l,gm H x.1)(hn:(l.map (·.1)).Nodup)(hf:im a l 0=some (k,v)){K:VK}
  (kk:K (.tuple #[]) (H.set r (fZ (l.filter fun x=>x.1≠a) clock))):ia P (Builtin.delete_ #[tm,t2] ty #[.map (some r),gv a]) H K:=fun H0 w0 w hA=>by
 have hh:=fZ.heap hr hA.fits;obtain⟨_,h2,_⟩:=uk ht hj hs hm a l 0 k v hn hf;rw[Nat.sub_zero]at h2;refine⟨_,_,_,?_,kk,hA.HL hr _⟩;simp only[Builtin.delete_,Sem.run_bind,aV hm,Result.andThen_ok,MapKept.run_getObj_map hh,List.getElem?_toArray,List.getElem?_cons_zero,List.getElem?_cons_succ];rw[show gv a= .pointer (some ⟨a,0,none⟩)from rfl,oO ht hj hs];simp only[Result.andThen_ok];rw[show(Value.pointer (some ⟨a,0,none⟩))=gv a from rfl,si ht hj hs hA.fits ha l hl,hf];simp only[Result.andThen_ok];rw[Sem.run_bind,MapKept.run_setObj_map _ hh];rw[<- h2,<-zL];simp
end
end Go.Hw
namespace Go.Proofs.YtlgnlghmbcpmhaaGreatDoor
open Tryz (prog)
namespace W
open Go Go.Hw
theorem lW :prog.follows .mixedOrders=true:=by kernel_rfl
abbrev qg (f:FuncId)(z:Array Value)(H:Hp)(K:Array Value->Hp->Prop):Prop:=ae prog f z H fun v H=>DA v fun x0=>K x0 H
abbrev fS (f:FuncId)(z:Array Value)(H:Hp)(K:Bool->Hp->Prop):Prop:=ae prog f z H fun v H=>DB v fun x0=>K x0 H
abbrev cF (f:FuncId)(z:Array Value)(H:Hp)(K:Int->Hp->Prop):Prop:=ae prog f z H fun v H=>DI .i64 v fun x0=>K x0 H
abbrev qN (f:FuncId)(z:Array Value)(H:Hp)(K:OA->Hp->Prop):Prop:=ae prog f z H fun v H=>DP v fun x0=>K x0 H
abbrev jF (f:FuncId)(z:Array Value)(H:Hp)(K:OA->Nat->Nat->Hp->Prop):Prop:=ae prog f z H fun v H=>aF v fun x0 x1 x2=>K x0 x1 x2 H
abbrev N8 (f:FuncId)(z:Array Value)(H:Hp)(K:ByteArray->Hp->Prop):Prop:=ae prog f z H fun v H=>DS v fun x0=>K x0 H
abbrev zx (f:FuncId)(z:Array Value)(H:Hp)(K:Int->Hp->Prop):Prop:=ae prog f z H fun v H=>DI .u32 v fun x0=>K x0 H
abbrev fe (f:FuncId)(z:Array Value)(H:Hp)(K:Int->Hp->Prop):Prop:=ae prog f z H fun v H=>DI .u64 v fun x0=>K x0 H
abbrev Hz :=ae prog
abbrev Ds (f:FuncId)(z:Array Value)(H:Hp)(K:Array Value->Prop):Prop:=bN prog f z H fun v=>DA v K
abbrev JY (f:FuncId)(z:Array Value)(H:Hp)(K:Bool->Prop):Prop:=bN prog f z H fun v=>DB v K
abbrev fc (f:FuncId)(z:Array Value)(H:Hp)(K:Int->Prop):Prop:=bN prog f z H fun v=>DI .i64 v K
abbrev JZ (f:FuncId)(z:Array Value)(H:Hp)(K:OA->Nat->Nat->Prop):Prop:=bN prog f z H fun v=>aF v K
abbrev N9 (f:FuncId)(z:Array Value)(H:Hp)(K:Int->Prop):Prop:=bN prog f z H fun v=>DI .u32 v K
abbrev tN (f:FuncId)(z:Array Value)(H:Hp)(K:Int->Prop):Prop:=bN prog f z H fun v=>DI .u64 v K
abbrev Qz :=bN prog
def po (x1:Int)(H:Hp)(K:VK):Prop:=
 ao (decide (x1<1)) (K (.pointer none) H) (ao (decide (x1>16777216)) (K (.pointer none) H) (Nw H (.obj (.map #[] 0)) fun b1 H1=>Nw H1 (Oq #[I x1,I 0,I 0,.map (some b1)] 165) fun b2 H2=>K (V b2) H2))
theorem po.ok x1 H K (h:po x1 H K):ae prog 143 #[I x1] H K:=
 cg lW Tryz.func143 rfl rfl h
def iW (p1:OA)(H:Hp)(K:VK):Prop:=
 NN p1 fun a1=>jy H ((a1.add 0).add 1) fun A1 n1 m1=>K (.slice A1 n1 m1) H
theorem iW.ok p1 H K (h:iW p1 H K):ae prog 237 #[.pointer p1] H K:=
 cg lW Tryz.func237 rfl rfl h
def jK (p1:OA)(x1:Int)(H:Hp)(K:VK):Prop:=
 ao (decide (x1<1)) (K (.tuple #[.pointer none,I 1]) H) (NN p1 fun a1=>cF 300 #[.pointer (some (a1.add 0))] H fun x2 H1=>ao (decide (x1>x2)) (K (.tuple #[.pointer none,I 6]) H1) (lj prog 108 x1 x1 H1 fun v2 H2=>aF v2 fun A1 n1 m1=>Nw H2 (Oq #[.pointer p1,.slice A1 n1 m1] 403) fun b1 H3=>NN p1 fun a2=>rL H3 (a2.add 3) fun r1=>ia prog (Instr.mapUpdate 163 (.map r1) (V b1) (I x1)) H3 fun _ H4=>NN p1 fun a3=>Hz 317 #[.pointer (some (a3.add 0)),I x1] H4 fun v4 H5=>K (.tuple #[V b1,I 0]) H5))
theorem jK.ok p1 x1 H K (h:jK p1 x1 H K):ae prog 255 #[.pointer p1,I x1] H K:=
 cg lW Tryz.func255 rfl rfl h
def cB.l1 (K:VK):Nat->OA->OA->Nat->Nat->Int->Int->Hp->Prop
 |0,_,_,_,_,_,_,_=>False
 |k+1,p2,A2,n2,m2,x1,x2,H=>
  let R1:=cB.l1 K k
  ao (decide (x2<x1)) (cX x2 n2 (NN A2 fun a1=>bA H (a1.add (x2.toNat*1)) fun p3=>NN p2 fun a2=>rL H (a2.add 3) fun r1=>tZ prog (Instr.lookup 163 (.map r1) (.pointer p3) true) H fun v3=>sf v3 fun x3 c1=>(ao c1 (NN p2 fun a3=>rL H (a3.add 3) fun r2=>ia prog (Builtin.delete_ #[163,331] 0 #[.map r2,.pointer p3]) H fun v7 H1=>NN p2 fun a4=>Hz 317 #[.pointer (some (a4.add 0)),I (i64.wrap (0-x3))] H1 fun v8 H2=>NN p3 fun a5=>St H2 (((a5.add 0).add 1).add 0) (.slice none 0 0) fun H3=>R1 p2 A2 n2 m2 x1 (i64.wrap (x2+1)) H3) (R1 p2 A2 n2 m2 x1 (i64.wrap (x2+1)) H)))) (K (.tuple #[]) H)
def cB (p1 A1:OA)(n1 m1:Nat)(H:Hp)(K:VK):Prop:=
 (∃ k,cB.l1 K k p1 A1 n1 m1 (n1:Int) 0 H)
def cB.l1.L (K:VK)(k:Nat):dm:=fun E D H=>
 eP E 0 fun p2=>DG (E.get? 8) fun w8=>aF w8 fun A2 n2 m2=>eI E 9 .i64 fun x1=>eI E 10 .i64 fun x2=>az D (cB.l1 K k p2 A2 n2 m2 x1 x2 H)
def cB.Λ1 (_:VK)(_R1:OA->OA->Nat->Nat->Int->Int->Hp->Prop):aN:=aN.none (fun _=>none)
def cB.Λ (K:VK):aN:=⟨fun i=>none,fun i=>match Nat.beq i 1 with|true=>some (fun E D H=>∃ k,cB.l1.L K k E D H)|false=>none,(fun _=>none)⟩
theorem cB.okD p1 A1 n1 m1 H K (h:cB p1 A1 n1 m1 H K):dJ prog 257 #[.pointer p1,.slice A1 n1 m1] H K:=
 NY (Λ:=(cB.Λ K)) lW Tryz.func257 rfl rfl h (oC (fun E D H h=>by
   refine Safe.c0 (cB.l1.L K) (fun E D H h=>?_) (fun k E D H h=>?_) E D H h
   .obtain⟨w0,e0,g1⟩:=DG.out h;obtain⟨p2,rfl,g2⟩:=DP.out g1;obtain⟨w8,e8,g3⟩:=DG.out g2;obtain⟨A2,n2,m2,rfl,g4⟩:=aF.out g3;obtain⟨w9,e9,g5⟩:=DG.out g4;obtain⟨x1,rfl,g6⟩:=DI.out g5;obtain⟨w10,e10,g7⟩:=DG.out g6;obtain⟨x2,rfl,g8⟩:=DI.out g7;obtain⟨rfl,h'⟩:=az.out g8;exact h'
   .obtain⟨p2,e0,g2⟩:=GP h;obtain⟨w8,e8,g3⟩:=DG.out g2;obtain⟨A2,n2,m2,rfl,g4⟩:=aF.out g3;obtain⟨x1,e9,g6⟩:=GI g4;obtain⟨x2,e10,g8⟩:=GI g6;obtain⟨rfl,h'⟩:=az.out g8;exact cY (Λ:=(cB.Λ1 K (cB.l1 K k))) lW [] (ag.cons e0 (ag.cons e8 (ag.cons e9 (ag.cons e10 (ag.nil _))))) h' oN) oN)
def jL (p1:OA)(H:Hp)(K:VK):Prop:=
 NN p1 fun a1=>aM H (a1.add 0) fun x1=>NN p1 fun a2=>aM H (a2.add 1) fun x2=>K (I (i64.wrap (x1-x2))) H
theorem jL.ok p1 H K (h:jL p1 H K):ae prog 300 #[.pointer p1] H K:=
 cg lW Tryz.func300 rfl rfl h
def kh (p1:OA)(x1:Int)(H:Hp)(K:VK):Prop:=
 NN p1 fun a1=>aM H (a1.add 1) fun x2=>NN p1 fun a2=>St H ((a2.add 1).add 0) (I (i64.wrap (x2+x1))) fun H1=>NN p1 fun a3=>aM H1 (a3.add 2) fun x3=>NN p1 fun a4=>aM H1 (a4.add 1) fun x4=>NN p1 fun a5=>St H1 ((a5.add 2).add 0) (I (if x4>x3 then x4 else x3)) fun H2=>K (.tuple #[]) H2
theorem kh.ok p1 x1 H K (h:kh p1 x1 H K):ae prog 317 #[.pointer p1,I x1] H K:=
 mY (fun i=>match Nat.beq i 1 with|true=>some ([],[0,1,2,3,4,5,6,7,8,9,10,11],12)|false=>none) lW Tryz.func317 rfl rfl h
end W
namespace Are
open Go Go.Hw W
def fX (cap used aj:Int)(mp:Nat):AO:=Oq #[I cap,I used,I aj,.map (some mp)] 165
def gA (a:Nat)(A:OA)(n m:Nat):AO:=Oq #[gv a,.slice A n m] 403
theorem DN (H:Hp)(a mp:Nat)(cap used aj:Int)(h1:0<=used/\used<=cap/\cap<=16777216)(ha:H a=some (fX cap used aj mp)):ae prog 300 #[V a] H (RetE (I (cap-used)) H):=by
 apply jL.ok;unfold jL;simp only[dQ,Addr.bm,Nat.zero_add];refine eV ha (v:=I cap) rfl ?_;simp only[HV];refine eV ha (v:=I used) rfl ?_;simp only[HV];rw[bu];exact RetE.mk _ _
theorem Gp (H:Hp)(a mp:Nat)(cap used aj n:Int)(h1:0<=used/\used<=16777216)(h2: -16777216<=n/\n<=16777216)(ha:H a=some (fX cap used aj mp)):
  ae prog 317 #[V a,I n] H (RetE (.tuple #[]) (H.set a (fX cap (used+n) (if used+n>aj then used+n else aj) mp))):=by
 apply kh.ok;unfold kh;simp only[dQ,Addr.bm,Nat.zero_add,Nat.add_zero];refine eV ha (v:=I used) rfl ?_;simp only[HV];rw[bu];refine qQ ha (by simp) rfl ?_;refine eV (Hp.bI _ _ _) (v:=I aj) rfl ?_;simp only[HV];refine eV (Hp.bI _ _ _) (v:=I (used+n)) rfl ?_;simp only[HV];refine qQ (Hp.bI _ _ _) (by simp) rfl ?_;rw[Hp.set_set];exact RetE.mk _ _
theorem L8 (H:Hp)(x:Int)(h:1<=x/\x<=16777216):ae prog 143 #[I x] H (fun v H'=>∃ mp a,H mp=none/\H a=none/\a≠mp/\v=gv a/\H'=(H.set mp (fZ [] 0)).set a (fX x 0 0 mp)):=by
 apply po.ok;unfold po;refine aw (by omega) (aw (by omega) ?_);intro mp hmp;intro a ha;obtain⟨h1,h2⟩:=Hp.xc ha;exact⟨mp,a,hmp,h2,h1,rfl,rfl⟩
theorem IK (H:Hp)(b a:Nat)(A:OA)(n m:Nat)(hb:H b=some (gA a A n m)):ae prog 237 #[gv b] H (RetE (.slice A n m) H):=by
 apply iW.ok;unfold iW;simp only[dQ,Addr.bm,Nat.zero_add,Nat.add_zero];refine eV hb (v:=.slice A n m) rfl ?_;simp only[HV];exact RetE.mk _ _
theorem Bo :prog.underlying 331=some (.pointer 403):=by kernel_rfl
theorem Bn :prog.underlying 163=some (.map 331 3):=by kernel_rfl
theorem Kq :∃ j,prog.info? 403=some j/\j.size≠0:=by
 have h:(prog.info? 403).map (·.size)=some 2:=by kernel_rfl
 obtain⟨j,hj,h2⟩:=Option.map_eq_some_iff.1 h;exact⟨j,hj,by rw[h2];omega⟩
theorem NF :∃ j,prog.info? 3=some j/\j.zero=some (I 0):=by
 have h:(prog.info? 3).map (·.zero)=some (some (I 0)):=by kernel_rfl
 obtain⟨j,hj,h2⟩:=Option.map_eq_some_iff.1 h;exact⟨j,hj,h2⟩
theorem fH :eJ prog 108=some (1,8,some #[.int .u64 0]):=by kernel_rfl
theorem xM (a:Nat):∀(l:List (Nat×Int×Nat)) (i:Nat),(∀ x∈l,x.1≠a)->im a l i=none
 | [],_,_=>rfl
 |x::l,i,h=>by unfold im;rw[if_neg (fun e=>h x (by simp) e.symm)];exact xM a l (i+1) (fun y hy=>h y (by simp[hy]))
def eK (n:Nat):List Value:=cZ [U 0] n
theorem sA (H:Hp)(a mp:Nat)(cap used aj n:Int)(l:List (Nat×Int×Nat))(clock:Nat)(h1:0<=used/\used<=cap/\cap<=16777216)(hn:1<=n/\n<=cap-used)(hne:a≠mp)
  (ha:H a=some (fX cap used aj mp)) (hm:H mp=some (fZ l clock)) (hl:∀ x∈l,gm H x.1):
  ae prog 255 #[gv a,I n] H (fun v H'=>∃ rb b,H rb=none/\H b=none/\b≠rb/\v= .tuple #[gv b,I 0]/\
   H'=(((H.set rb (.row (eK n.toNat) 108 n.toNat)).set b (gA a (Oo rb) n.toNat n.toNat)).set mp (fZ (l++[(b,n,clock)]) (clock+1))).set a (fX cap (used+n) (if used+n>aj then used+n else aj) mp)):=by
 obtain⟨jb,hjb,hsb⟩:=Kq;apply jK.ok;unfold jK;refine aw (by omega) ?_;simp only[dQ,Addr.bm,Nat.zero_add,Nat.add_zero];refine ae.use (DN H a mp cap used aj h1 ha) ?_
 try simp only[HV]
 refine aw (by omega) ?_;refine Bx fH rfl (n:=n.toNat) (m:=n.toNat) (by omega) (by omega) (Nat.le_refl _) (by omega) (by omega) ?_;intro rb hrb;rw[Nat.mul_one];simp only[HV];intro b hb;obtain⟨hbr,hb'⟩:=Hp.xc hb;have har:a≠rb:=fun e=>by rw[e,hrb]at ha;cases ha
 have hab:a≠b:=fun e=>by rw[e,hb']at ha;cases ha
 have hmr:mp≠rb:=fun e=>by rw[e,hrb]at hm;cases hm
 have hmb:mp≠b:=fun e=>by rw[e,hb']at hm;cases hm
 have hle:=Hp.le_trans (Hp.kI (o:=.row (eK n.toNat) 108 n.toNat) hrb) (Hp.kI (o:=gA a (Oo rb) n.toNat n.toNat) hb);refine eV (hle _ _ ha) (v:=.map (some mp)) rfl ?_;simp only[HV];refine AN Bo hjb hsb Bn (hle _ _ hm) ⟨_,_,Hp.bI _ _ _⟩ (fun x hx=>(hl x hx).le hle) (xM b l 0 (fun x hx e=>by
  obtain⟨c,e',hxx⟩:=hl x hx;rw[e,hb']at hxx;cases hxx)) ?_
 refine ae.use (Gp _ a mp cap used aj n (by omega) (by omega) (by rw[Hp.bV _ _ hne];exact hle _ _ ha)) ?_;exact⟨rb,b,hrb,hb',hbr,rfl,rfl⟩
def N4 (i k:Nat):Value:=U ((100*i+k+1:Nat):Int)
def N5 (i n:Nat):List Value:=(List.range n).map (N4 i)
structure Inv (H0 H:Hp)(a mp cl:Nat)(tk:List (Nat×Int×Nat))(used aj:Int)(bs:List (Nat×Nat×Nat))(A:OA)(n m:Nat):Prop where
 le:H0.le H
 ne:a≠mp
 ha:H a=some (fX 1000 used aj mp)
 Oi:H0 a=none
 hm:H mp=some (fZ tk cl)
 Oj:H0 mp=none
 hl:∀ x∈tk,gm H x.1
 hb:∀(j:Nat) (x:Nat×Nat×Nat),bs[j]? =some x->H x.1=some (gA a (some ⟨x.2.1,0,none⟩) x.2.2 x.2.2)/\H x.2.1=some (.row (N5 j x.2.2) 108 x.2.2)/\x.2.2<=64
 hn:n=bs.length
 all:(A=none/\bs=[]/\m=0)\/∃ ab mm,A=some (O ab)/\H0 ab=none/\H ab=some (.row (bs.map fun x=>gv x.1) 331 mm)/\m<=mm
theorem Inv.cells {H0 H:Hp}{a mp cl:Nat}{tk:List (Nat×Int×Nat)}{used aj:Int}{bs:List (Nat×Nat×Nat)}{A:OA}{n m:Nat}(h:Inv H0 H a mp cl tk used aj bs A n m):Cells H A (bs.map fun x=>gv x.1):=by
 rcases h.all with⟨rfl,rfl,_⟩|⟨ab,mm,rfl,_,hab,_⟩
 .exact Cells.nil _ _
 .have:=Cells.row hab 0 bs.length
  rwa [List.drop_zero,List.take_of_length_le (by simp)]at this
def uC (p:Option Nat):Value:=match p with|some b=>gv b|none=>.pointer none
def gY (tk:List (Nat×Int×Nat)):Int:=(tk.map fun x=>x.2.1).sum
structure AI (H:Hp)(a mp cl:Nat)(tk:List (Nat×Int×Nat))(cap used aj:Int):Prop where
 ne:a≠mp
 ha:H a=some (fX cap used aj mp)
 hm:H mp=some (fZ tk cl)
 nd:(tk.map (·.1)).Nodup
 hb:∀ x∈tk,1<=x.2.1/\∃ A n m,H x.1=some (gA a A n m)
 hu:used=gY tk/\used<=cap/\cap<=16777216
 bn:(tk.map (·.2.2)).Nodup/\∀ x∈tk,x.2.2<cl
theorem qD :∀(tk:List (Nat×Int×Nat)),(∀ x∈tk,1<=x.2.1)->0<=gY tk
 | [],_=>by simp[gY]
 |x::l,h=>by
  have h1:=h x (by simp);have h2:=qD l (fun y hy=>h y (by simp[hy]));unfold gY at h2⊢;simp only[List.map_cons,List.sum_cons];omega
theorem qC :∀(tk:List (Nat×Int×Nat)) (x:Nat×Int×Nat),(tk.map (·.1)).Nodup->x∈tk->gY (tk.filter fun y=>y.1≠x.1)=gY tk-x.2.1
 | [],x,_,h=>by simp at h
 |y::l,x,hn,h=>by
  simp only[List.map_cons,List.nodup_cons]at hn;rcases List.mem_cons.1 h with rfl|h
  .rw[List.filter_cons_of_neg (by simp)];have:l.filter (fun y=>decide (y.1≠x.1))=l:=by
    rw[List.filter_eq_self];intro z hz;have:z.1≠x.1:=fun e=>hn.1 (by rw[<- e];exact List.mem_map_of_mem hz)
    simpa using this
   rw[this];unfold gY;simp only[List.map_cons,List.sum_cons];omega
  .have hne:y.1≠x.1:=fun e=>hn.1 (by rw[e];exact List.mem_map_of_mem h)
   rw[List.filter_cons_of_pos (by simpa using hne)];have:=qC l x hn.2 h;unfold gY at this⊢;simp only[List.map_cons,List.sum_cons,this];omega
theorem xN (a:Nat):∀(l:List (Nat×Int×Nat)) (i k:Nat) (v:Value),im a l i=some (k,v)->∃ x∈l,x.1=a/\v= I x.2.1
 | [],i,k,v,h=>by cases h
 |x::l,i,k,v,h=>by
  unfold im at h;split at h
  .rename_i e;cases h;exact⟨x,by simp,e.symm,rfl⟩
  .obtain⟨y,hy,h2⟩:=xN a l (i+1) k v h;exact⟨y,by simp[hy],h2⟩
theorem zN (a:Nat):∀(l:List (Nat×Int×Nat)) (i:Nat),im a l i=none->∀ x∈l,x.1≠a
 | [],i,_=>by simp
 |x::l,i,h=>by
  unfold im at h;split at h
  .cases h
  .rename_i e
   intro y hy;rcases List.mem_cons.1 hy with rfl|hy
   .exact fun e2=>e e2.symm
   .exact zN a l (i+1) h y hy
theorem AI.plain {H:Hp}{a mp cl:Nat}{tk:List (Nat×Int×Nat)}{cap used aj:Int}(h:AI H a mp cl tk cap used aj):∀ x∈tk,gm H x.1:=fun x hx=>by
 obtain⟨_,A,n,m,g⟩:=h.hb x hx;exact⟨_,_,g⟩
structure pY (H H':Hp)(a mp cl:Nat)(tk tk':List (Nat×Int×Nat))(cap aj:Int)(gone:Nat->Prop):Prop where
 ai:AI H' a mp cl tk' cap (gY tk') aj
 mem:∀ x,x∈tk'↔x∈tk/\¬gone x.1
 dI:∀ q o,H q=some o->q≠a->q≠mp->(gone q->∀ x∈tk,x.1≠q)->H' q=some o
 nil:∀ x∈tk,gone x.1->H' x.1=some (gA a none 0 0)
 sle:gY tk'<=gY tk
theorem pY.same {H H':Hp}{a mp cl:Nat}{tk tk':List (Nat×Int×Nat)}{cap aj:Int}{g g':Nat->Prop}(h:pY H H' a mp cl tk tk' cap aj g)(h1:∀ q,g q->g' q)(h2:∀ q,g' q->g q\/∀ x∈tk',x.1≠q):pY H H' a mp cl tk tk' cap aj g' where
 ai:=h.ai
 mem:=fun x=>by
  rw[h.mem];constructor
  .intro⟨h3,h4⟩;refine⟨h3,fun h5=>?_⟩;rcases h2 _ h5 with h6|h6
   .exact h4 h6
   .exact h6 x ((h.mem x).2 ⟨h3,h4⟩) rfl
  .intro⟨h3,h4⟩;exact⟨h3,fun h5=>h4 (h1 _ h5)⟩
 dI:=fun q o hq h3 h4 h5=>h.dI q o hq h3 h4 (fun h6=>h5 (h1 _ h6))
 nil:=fun x hx h3=>by
  by_cases h4:g x.1
  .exact h.nil x hx h4
  .rcases h2 _ h3 with h6|h6
   .exact absurd h6 h4
   .exact absurd rfl (h6 x ((h.mem x).2 ⟨hx,h4⟩))
 sle:=h.sle
theorem pY.one {H H':Hp}{a mp cl:Nat}{tk tk':List (Nat×Int×Nat)}{cap used aj:Int}{g g':Nat->Prop}(h0:AI H a mp cl tk cap used aj)(h:pY H H' a mp cl tk tk' cap aj g){x:Nat×Int×Nat}(hx:x∈tk')(hg:∀ q,g' q↔g q\/q=x.1):
  pY H (((H'.set mp (fZ (tk'.filter fun y=>y.1≠x.1) cl)).set a (fX cap (gY tk'-x.2.1) aj mp)).set x.1 (gA a none 0 0)) a mp cl tk (tk'.filter fun y=>y.1≠x.1) cap aj g':=by
 obtain⟨g1,A,n,m,g2⟩:=h.ai.hb x hx;have hxa:x.1≠a:=fun e=>by rw[e,h.ai.ha]at g2;unfold fX gA at g2;cases g2
 have hxm:x.1≠mp:=fun e=>by rw[e,h.ai.hm]at g2;unfold fZ gA at g2;cases g2
 have hne:=h.ai.ne;have hsum:=qC tk' x h.ai.nd hx;have hsub:∀ y,y∈(tk'.filter fun y=>decide (y.1≠x.1))↔y∈tk'/\y.1≠x.1:=fun y=>by rw[List.mem_filter];simp
 have hkeep:∀ q o,H' q=some o->q≠a->q≠mp->q≠x.1->(((H'.set mp (fZ (tk'.filter fun y=>y.1≠x.1) cl)).set a (fX cap (gY tk'-x.2.1) aj mp)).set x.1 (gA a none 0 0)) q=some o:=fun q o hq h1 h2 h3=>by
  rw[Hp.bV _ _ h3,Hp.bV _ _ h1,Hp.bV _ _ h2];exact hq
 refine⟨⟨hne,?_,?_,?_,?_,?_,List.Nodup.sublist (List.Sublist.map _ (List.filter_sublist)) h.ai.bn.1,fun y hy=>h.ai.bn.2 y (List.mem_filter.1 hy).1⟩,fun y=>?_,fun q o hq h1 h2 h3=>?_,fun y hy h1=>?_,by rw[hsum];have:=h.sle;omega⟩
 .rw[Hp.bV _ _ (Ne.symm hxa),hsum];exact Hp.bI _ _ _
 .rw[Hp.bV _ _ (Ne.symm hxm),Hp.bV _ _ (Ne.symm hne)];exact Hp.bI _ _ _
 .exact List.Nodup.sublist (List.Sublist.map _ (List.filter_sublist)) h.ai.nd
 .intro y hy;obtain⟨h1,h2⟩:=(hsub y).1 hy;obtain⟨h3,A',n',m',h4⟩:=h.ai.hb y h1;refine⟨h3,A',n',m',hkeep _ _ h4 (fun e=>?_) (fun e=>?_) h2⟩
  .rw[e,h.ai.ha]at h4;unfold fX gA at h4;cases h4
  .rw[e,h.ai.hm]at h4;unfold fZ gA at h4;cases h4
 .have:=h.ai.hu;exact⟨rfl,by rw[hsum];omega,this.2.2⟩
 .rw[hsub,h.mem,hg];constructor
  .rintro⟨⟨h1,h2⟩,h3⟩;exact⟨h1,fun h4=>h4.elim h2 h3⟩
  .rintro⟨h1,h2⟩;exact⟨⟨h1,fun h3=>h2 (.inl h3)⟩,fun h3=>h2 (.inr h3)⟩
 .have h4:=h.dI q o hq h1 h2 (fun h5=>h3 ((hg q).2 (.inl h5)));refine hkeep q o h4 h1 h2 (fun e=>?_);exact h3 ((hg q).2 (.inr e)) x ((h.mem x).1 hx).1 e.symm
 .by_cases e:y.1=x.1
  .rw[e];exact Hp.bI _ _ _
  .have h2:g y.1:=((hg _).1 h1).resolve_right e;have h3:=h.nil y hy h2;refine hkeep _ _ h3 (fun e2=>?_) (fun e2=>?_) e
   .rw[e2,h.ai.ha]at h3;unfold fX gA at h3;cases h3
   .rw[e2,h.ai.hm]at h3;unfold fZ gA at h3;cases h3
theorem zS (K:VK)(a mp cl:Nat)(cap used aj:Int)(hpk:used<=aj)(tk:List (Nat×Int×Nat))(H:Hp)(h0:AI H a mp cl tk cap used aj)(A:OA)(n m:Nat)(ps:List (Option Nat))(hn:n=ps.length)(hn2:n<=9000000000000000000)
  (hcells:∀ H',(∀ q xs e m,H q=some (.row xs e m)->H' q=some (.row xs e m))->Cells H' A (ps.map uC)) (hps:∀ b,some b∈ps->∃ A n m,H b=some (gA a A n m))
  (k:∀ H' tk',pY H H' a mp cl tk tk' cap aj (fun q=>some q∈ps)->K (.tuple #[]) H'):
  ∀(d j:Nat) (H':Hp) (tk':List (Nat×Int×Nat)),j+d=n->pY H H' a mp cl tk tk' cap aj (fun q=>some q∈ps.take j)->cB.l1 K (d+1) (some ⟨a,0,none⟩) A n m (n:Int) (j:Int) H'
 |0,j,H',tk',hj,hg=>by
  unfold cB.l1;refine aw (by omega) (k H' tk' ?_);rw[List.take_of_length_le (by omega)]at hg;exact hg
 |d+1,j,H',tk',hj,hg=>by
  obtain⟨jb,hjb,hsb⟩:=Kq;obtain⟨ji,hji,hzi⟩:=NF;unfold cB.l1;refine aC (by omega) ?_;have hlt:j<ps.length:=by omega
  have hrows:∀ q xs e m,H q=some (.row xs e m)->H' q=some (.row xs e m):=fun q xs e m hq=>
   hg.dI q _ hq (fun e2=>by rw[e2,h0.ha]at hq;unfold fX at hq;cases hq) (fun e2=>by rw[e2,h0.hm]at hq;unfold fZ at hq;cases hq) (fun _ x hx e2=>by
    obtain⟨_,A,n,m,g⟩:=h0.hb x hx;rw[e2,hq]at g;unfold gA at g;cases g)
  refine(hcells H' hrows).read (i:=j) (v:=uC ps[j]) (by rw[List.getElem?_map,List.getElem?_eq_getElem hlt];rfl) rfl (by rw[List.length_map];omega) ?_;have htk:ps.take (j+1)=ps.take j++[ps[j]]:=List.take_succ_eq_append_getElem hlt;have next:=fun H'' tk'' hg'=>zS K a mp cl cap used aj hpk tk H h0 A n m ps hn hn2 hcells hps k d (j+1) H'' tk'' (by omega) hg'
  cases hp:ps[j]with
  |none=>
   unfold uC;simp only[HV];simp only[Addr.bm,Nat.zero_add];refine eV hg.ai.ha (v:=.map (some mp)) rfl ?_;simp only[HV];refine AM Bo hjb hsb Bn hji hzi hg.ai.hm ?_;simp only[HV];rw[bu (x:=(j:Int)+1)];refine next H' tk' (hg.same (fun q hq=>by show some q∈ps.take (j+1);rw[htk];exact List.mem_append_left _ hq) (fun q hq=>?_))
   rw[htk,hp]at hq;simp at hq;exact .inl hq
  |some b=>
   unfold uC gv;simp only[HV];simp only[Addr.bm,Nat.zero_add,Nat.add_zero];refine eV hg.ai.ha (v:=.map (some mp)) rfl ?_;simp only[HV];have hpb:some b∈ps:=by rw[<- hp];exact List.getElem_mem hlt
   obtain⟨Ab,nb,mb,hb⟩:=hps b hpb;have hba:b≠a:=fun e=>by rw[e,h0.ha]at hb;unfold fX gA at hb;cases hb
   have hbm:b≠mp:=fun e=>by rw[e,h0.hm]at hb;unfold fZ gA at hb;cases hb
   have hpl:gm H' b:=by
    by_cases h1:(some b∈ps.take j)/\∃ x∈tk,x.1=b
    .obtain⟨h1,x,hx,rfl⟩:=h1;exact⟨_,_,hg.nil x hx h1⟩
    .exact⟨_,_,hg.dI b _ hb hba hbm (fun h2 x hx e=>h1 ⟨h2,x,hx,e⟩)⟩
   rw[show(Value.pointer (some ⟨b,0,none⟩))=gv b from rfl];refine Fa Bo hjb hsb Bn hji hzi hg.ai.hm hpl hg.ai.plain (fun k' v hf=>?_) (fun hf=>?_)
   .obtain⟨x,hx,rfl,rfl⟩:=xN b tk' 0 k' v hf;simp only[HV];refine eV hg.ai.ha (v:=.map (some mp)) rfl ?_;simp only[HV];refine E4 Bo hjb hsb Bn hg.ai.hm hpl hg.ai.plain hg.ai.nd hf ?_;have hx1:=(hg.ai.hb x hx).1;have hs0:=qD tk' (fun y hy=>(hg.ai.hb y hy).1);have hsf:=qC tk' x hg.ai.nd hx;have hs1:=qD (tk'.filter fun y=>y.1≠x.1) (fun y hy=>(hg.ai.hb y (List.mem_filter.1 hy).1).1);have hu:=hg.ai.hu;have hle:=hg.sle;have hu0:=h0.hu;rw[bu (x:=0-x.2.1)];refine ae.use (Gp _ a mp cap (gY tk') aj (0-x.2.1) (by omega) (by omega) (by rw[Hp.bV _ _ hg.ai.ne];exact hg.ai.ha)) ?_;rw[if_neg (by omega),show gY tk'+(0-x.2.1)=gY tk'-x.2.1 by omega];obtain⟨_,Ac,nc,mc,hbx⟩:=hg.ai.hb x hx;refine qQ (c:=#[gv a,.slice Ac nc mc]) (e:=403) (by rw[Hp.bV _ _ hba,Hp.bV _ _ hbm];exact hbx) (by simp) rfl ?_;rw[bu (x:=(j:Int)+1)];refine next _ _ (pY.one h0 hg hx (fun q=>?_))
    show some q∈ps.take (j+1)↔_
    rw[htk,hp,List.mem_append];simp
   .simp only[HV];rw[bu (x:=(j:Int)+1)];refine next H' tk' (hg.same (fun q hq=>by show some q∈ps.take (j+1);rw[htk];exact List.mem_append_left _ hq) (fun q hq=>?_))
    rw[htk,hp]at hq;simp at hq;rcases hq with hq|rfl
    .exact .inl hq
    .exact .inr (zN q tk' 0 hf)
theorem L4 (a mp cl:Nat)(cap used aj:Int)(hpk:used<=aj)(tk:List (Nat×Int×Nat))(H:Hp)(h0:AI H a mp cl tk cap used aj)(A:OA)(n m:Nat)(ps:List (Option Nat))(hn:n=ps.length)(hn2:n<=9000000000000000000)
  (hcells:∀ H',(∀ q xs e m,H q=some (.row xs e m)->H' q=some (.row xs e m))->Cells H' A (ps.map uC)) (hps:∀ b,some b∈ps->∃ A n m,H b=some (gA a A n m)):
  cB (Oo a) A n m H (fun v H'=>v= .tuple #[]/\∃ tk',pY H H' a mp cl tk tk' cap aj (fun q=>some q∈ps)):=by
 refine⟨n+1,zS _ a mp cl cap used aj hpk tk H h0 A n m ps hn hn2 hcells hps (fun H' tk' hg=>⟨rfl,tk',hg⟩) n 0 H tk (by omega) ?_⟩;refine⟨by rw[<- h0.hu.1];exact h0,fun x=>by simp,fun q o hq _ _ _=>hq,fun x _ h=>by simp at h,Int.le_refl _⟩
end Are
end Go.Proofs.YtlgnlghmbcpmhaaGreatDoor
namespace Go.Hw
open Go
def kZ (mp since:Nat)(seen:Array Nat)(last:Nat):AO:=.obj (.mapIter (some mp) since seen last)
theorem kZ.heap {H:Hp}{w:World}{it mp since last:Nat}{seen:Array Nat}(h:H it=some (kZ mp since seen last))(hw:Fits H w):w.heap[it]? =some (.mapIter (some mp) since seen last):=by
 obtain⟨o,ho,hh⟩:=hw _ _ h;cases hh;exact ho
theorem At.setIter {H0 H:Hp}{w0 w:World}{it mp since last:Nat}{seen:Array Nat}(hA:At H0 w0 H w)(hr:H it=some (kZ mp since seen last))(o:Obj):At H0 w0 (H.set it (.obj o)) { w with heap:=w.heap.setIfInBounds it o}:=by
 have hh:=kZ.heap hr hA.fits;have hlt:it<w.heap.size:=(Array.getElem?_eq_some_iff.1 hh).1;refine hA.jE hr (x':=o) ?_ rfl ?_ rfl rfl rfl (fun c hc=>?_)
 .show(w.heap.setIfInBounds it o)[it]? =some o
  simp[hlt]
 .show(w.heap.setIfInBounds it o).size=w.heap.size
  simp
 .show(w.heap.setIfInBounds it o)[c]? =w.heap[c]?
  rw[Array.getElem?_setIfInBounds_ne (Ne.symm hc)]
theorem vH {P:Program}{H0 H:Hp}{w0 w:World}(hA:At H0 w0 H w)(n:Nat)(hn:0<n):∃ i w',i<n/\(choose (.mapNext n)).run P w= .ok i w'/\At H0 w0 H w':=by
 by_cases h:n<=1
 .exact⟨0,w,hn,by simp[Question.forced,h],hA⟩
 .exact⟨_,_,Nat.mod_lt _ hn,by simp[Question.forced,h,Question.cut];rfl,hA.drew⟩
end Go.Hw
namespace Go.Proofs.YtlgnlghmbcpmhaaGreatDoor
open Tryz (prog)
namespace Are
open Go Go.Hw W
def bf (l:List (Nat×Nat×OA)):Int:=(l.map fun y=>(y.2.1:Int)).sum
def ky (g:Nat->Bool)(l:List (Nat×Nat×OA)):List (Nat×Nat×OA):=l.map fun y=>if g y.1 then(y.1,0,none)else y
theorem zQ (g:Nat->Bool)(l:List (Nat×Nat×OA)):(ky g l).map (·.1)=l.map (·.1):=by
 unfold ky;rw[List.map_map];apply List.map_congr_left;intro y _;simp only[Function.comp];split<;>rfl
theorem nf (l l':List (Nat×Nat×OA)):bf (l++l')=bf l+bf l':=by simp[bf]
theorem Av (y:Nat×Nat×OA)(l:List (Nat×Nat×OA)):bf (y::l)=y.2.1+bf l:=by simp[bf]
theorem gf :bf []=0:=rfl
theorem CH :∀(bufs:List (Nat×Nat×OA)) (tk:List (Nat×Int×Nat)),(tk.map (·.1)).Nodup->(bufs.map (·.1)).Nodup->(∀ x∈tk,1<=x.2.1)->(∀ x∈tk,∃ A,(x.1,x.2.1.toNat,A)∈bufs)->
  (∀ y∈bufs,1<=y.2.1->∃ n,(y.1,(y.2.1:Int),n)∈tk)->gY tk=bf bufs
 | [],tk,_,_,_,h2,_=>by
  cases tk with
  |nil=>rfl
  |cons x l=>obtain⟨A,hA⟩:=h2 x (by simp);simp at hA
 |y::bs,tk,hn,hb,h1,h2,h3=>by
  simp only[List.map_cons,List.nodup_cons]at hb;by_cases hy:1<=y.2.1
  .obtain⟨k,hk⟩:=h3 y (by simp) hy;have hs:=qC tk _ hn hk;have ih:=CH bs (tk.filter fun z=>z.1≠y.1) (List.Nodup.sublist (List.Sublist.map _ List.filter_sublist) hn) hb.2 (fun x hx=>h1 x (List.mem_filter.1 hx).1) (fun x hx=>by
    obtain⟨g1,g2⟩:=List.mem_filter.1 hx;obtain⟨A,hA⟩:=h2 x g1;rcases List.mem_cons.1 hA with e|hA
    .have:x.1=y.1:=by rw[<- e]
     simp[this]at g2
    .exact⟨A,hA⟩) (fun z hz hz1=>by
    obtain⟨n,hn'⟩:=h3 z (by simp[hz]) hz1;refine⟨n,List.mem_filter.2 ⟨hn',?_⟩⟩;have:z.1≠y.1:=fun e=>hb.1 (by rw[<- e];exact List.mem_map_of_mem hz)
    simpa using this)
   rw[Av,<-ih];simp only at hs;omega
  .have hy0:y.2.1=0:=by omega
   have ih:=CH bs tk hn hb.2 h1 (fun x hx=>by
    obtain⟨A,hA⟩:=h2 x hx;rcases List.mem_cons.1 hA with e|hA
    .have:x.2.1.toNat=y.2.1:=by rw[<- e]
     have:=h1 x hx;omega
    .exact⟨A,hA⟩) (fun z hz hz1=>h3 z (by simp[hz]) hz1)
   rw[Av,hy0,ih];simp
structure nN (H:Hp)(a mp cl:Nat)(tk:List (Nat×Int×Nat))(cap used aj:Int)(bufs:List (Nat×Nat×OA)):Prop where
 ai:AI H a mp cl tk cap used aj
 up:used<=aj
 hd:∀ y∈bufs,H y.1=some (gA a y.2.2 y.2.1 y.2.1)
 tb:∀ x∈tk,∃ A,(x.1,x.2.1.toNat,A)∈bufs
 bt:∀ y∈bufs,1<=y.2.1->∃ n,(y.1,(y.2.1:Int),n)∈tk
 bn:(bufs.map (·.1)).Nodup
 hz:∀ y∈bufs,y.2.1=0->y.2.2=none
def Ar (a:Nat)(cap aj:Int)(bufs:List (Nat×Nat×OA)):As:=fun H=>∃ mp cl tk,nN H a mp cl tk cap (bf bufs) aj bufs
theorem AI.up {H H':Hp}{a mp cl:Nat}{tk:List (Nat×Int×Nat)}{cap used aj:Int}(h:AI H a mp cl tk cap used aj)(k:H.le H'):AI H' a mp cl tk cap used aj:=
 ⟨h.ne,k _ _ h.ha,k _ _ h.hm,h.nd,fun x hx=>by obtain⟨h1,A,n,m,h2⟩:=h.hb x hx;exact⟨h1,A,n,m,k _ _ h2⟩,h.hu,h.bn⟩
theorem nN.NP {H H':Hp}{a mp cl:Nat}{tk:List (Nat×Int×Nat)}{cap used aj:Int}{bufs:List (Nat×Nat×OA)}(h:nN H a mp cl tk cap used aj bufs)(k:H.le H'):nN H' a mp cl tk cap used aj bufs:=
 ⟨AI.up h.ai k,h.up,fun y hy=>k _ _ (h.hd y hy),h.tb,h.bt,h.bn,h.hz⟩
theorem nN.less {H:Hp}{a mp cl:Nat}{tk:List (Nat×Int×Nat)}{cap used aj:Int}{bufs:List (Nat×Nat×OA)}(h:nN H a mp cl tk cap used aj bufs)(p:Nat×Nat×OA->Bool)(hp:∀ y∈bufs,p y=false->y.2.1=0):
  nN H a mp cl tk cap used aj (bufs.filter p):=
 ⟨h.ai,h.up,fun y hy=>h.hd y (List.mem_filter.1 hy).1,fun x hx=>by
  obtain⟨A,hA⟩:=h.tb x hx;refine⟨A,List.mem_filter.2 ⟨hA,?_⟩⟩;cases e:p (x.1,x.2.1.toNat,A)with
  |true=>rfl
  |false=>have:=hp _ hA e;have:=(h.ai.hb x hx).1;simp at *;omega,fun y hy=>h.bt y (List.mem_filter.1 hy).1,List.Nodup.sublist (List.Sublist.map _ List.filter_sublist) h.bn,fun y hy=>h.hz y (List.mem_filter.1 hy).1⟩
theorem Sep.ar {L:List As}{H:Hp}(h:Sep L H)(i:Nat){a:Nat}{cap aj:Int}{bufs:List (Nat×Nat×OA)}(hi:L[i]? =some (Ar a cap aj bufs)):∃ mp cl tk,nN H a mp cl tk cap (bf bufs) aj bufs:=by
 obtain⟨H1,⟨mp,cl,tk,h1⟩,h2⟩:=h.fE i hi;exact⟨mp,cl,tk,h1.NP h2⟩
section
variable {L : List As} {H : Hp} {a : Nat} {cap aj : Int} {bufs : List (Nat × Nat × Option Addr)}
theorem nN.nn {used:Int}{mp cl:Nat}{tk:List (Nat×Int×Nat)}(h:nN H a mp cl tk cap used aj bufs):0<=used/\used<=cap/\cap<=16777216/\used<=aj:=by
 have h1:=qD tk (fun x hx=>(h.ai.hb x hx).1);have h2:=h.ai.hu;exact⟨by omega,h2.2.1,h2.2.2,h.up⟩
theorem GL (h:Sep L H)(i:Nat)(hi:L[i]? =some (Ar a cap aj bufs)):ae prog 300 #[V a] H (RetE (I (cap-bf bufs)) H):=by
 obtain⟨mp,cl,tk,h⟩:=Sep.ar h i hi;have:=h.nn;exact DN H a mp cap _ aj (by omega) h.ai.ha
theorem lz (h:Sep L H)(i:Nat)(hi:L[i]? =some (Ar a cap aj bufs)){b n:Nat}{A:OA}(hb:(b,n,A)∈bufs):ae prog 237 #[V b] H (RetE (.slice A n n) H):=by
 obtain⟨mp,cl,tk,h⟩:=Sep.ar h i hi;exact IK H b a A n n (h.hd _ hb)
end
theorem jH (x:Int)(h:1<=x/\x<=16777216):Tr prog 143 #[I x] [] fun v M=>∃ a,v= V a/\M=[Ar a x 0 []]:=fun H _=>by
 refine(L8 H x h).mono ?_;rintro v H' ⟨mp,a,hmp,ha,hne,rfl,rfl⟩;refine⟨_,⟨a,rfl,rfl⟩,Sep.up (H:=Hp.set (Hp.set (fun _=>none) mp (fZ [] 0)) a (fX x 0 0 mp)) ?_ (Hp.oU (Hp.oU (H:=fun _=>none) (fun _ _ h=>nomatch h) _ _) _ _)⟩;refine⟨_,fun _=>none,Hp.le_refl _,fun b o h=>(by cases h),fun b=>.inr rfl,⟨mp,0,[],⟨⟨hne,Hp.bI _ _ _,by rw[Hp.bV _ _ (Ne.symm hne)];exact Hp.bI _ _ _,by simp,fun x hx=>by simp at hx,⟨rfl,by rw[gf];omega,by omega⟩,by simp⟩,Int.le_refl _,fun y hy=>by simp at hy,fun x hx=>by simp at hx,fun y hy=>by simp at hy,by simp,fun y hy=>by simp at hy⟩⟩,trivial⟩
theorem sum_append (l l':List (Nat×Int×Nat)):gY (l++l')=gY l+gY l':=by simp[gY]
theorem ml {a:Nat}{cap aj:Int}{bufs:List (Nat×Nat×OA)}{n:Nat}(hn:1<=n:=by omega)(hc:(n:Int)<=cap-bf bufs:=by omega):
  Tr prog 255 #[V a,I n] [Ar a cap aj bufs] fun v M=>∃ b rb,v= .tuple #[V b,I 0]/\
   M=[Ar a cap (if bf bufs+n>aj then bf bufs+n else aj) (bufs++[(b,n,some (O rb))]),af rb (.row (eK n) 108 n)]:=fun H hs=>by
 obtain⟨mp,cl,tk,h⟩:=Sep.ar hs 0 rfl;have hnn:=h.nn;refine(sA H a mp cap (bf bufs) aj n tk cl (by omega) (by omega) h.ai.ne h.ai.ha h.ai.hm h.ai.plain).mono ?_;rintro v H' ⟨rb,b,hrb,hb,hbr,rfl,rfl⟩;rw[Int.toNat_natCast];have har:a≠rb:=fun e=>by have:=h.ai.ha;rw[e,hrb]at this;cases this
 have hab:a≠b:=fun e=>by have:=h.ai.ha;rw[e,hb]at this;cases this
 have hmr:mp≠rb:=fun e=>by have:=h.ai.hm;rw[e,hrb]at this;cases this
 have hmb:mp≠b:=fun e=>by have:=h.ai.hm;rw[e,hb]at this;cases this
 have hne:=h.ai.ne;have dI:∀ q o,H q=some o->q≠a->q≠mp->((((H.set rb (.row (eK n) 108 n)).set b (gA a (Oo rb) n n)).set mp (fZ (tk++[(b,(n:Int),cl)]) (cl+1))).set a (fX cap (bf bufs+n) (if bf bufs+n>aj then bf bufs+n else aj) mp)) q=some o:=fun q o hq h1 h2=>by
  have h7:q≠rb:=fun e=>by rw[e,hrb]at hq;cases hq
  have h8:q≠b:=fun e=>by rw[e,hb]at hq;cases hq
  rw[Hp.bV _ _ h1,Hp.bV _ _ h2,Hp.bV _ _ h8,Hp.bV _ _ h7];exact hq
 refine⟨_,⟨b,rb,rfl,rfl⟩,?_⟩
  -- the arena's own part
 have hfr:∀ y∈bufs,y.1≠a/\y.1≠mp/\y.1≠b:=fun y hy=>by
  have h1:=h.hd y hy;refine⟨fun e=>?_,fun e=>?_,fun e=>?_⟩
  .rw[e,h.ai.ha]at h1;unfold fX gA at h1;cases h1
  .rw[e,h.ai.hm]at h1;unfold fZ gA at h1;cases h1
  .rw[e,hb]at h1;cases h1
 have hxf:∀ x∈tk,x.1≠a/\x.1≠mp/\x.1≠b:=fun x hx=>by
  obtain⟨A,hA⟩:=h.tb x hx;exact hfr _ hA
 let G:Hp:=fun q=>if q=rb then none else((((H.set rb (.row (eK n) 108 n)).set b (gA a (Oo rb) n n)).set mp (fZ (tk++[(b,(n:Int),cl)]) (cl+1))).set a (fX cap (bf bufs+n) (if bf bufs+n>aj then bf bufs+n else aj) mp)) q
 have hG:∀ q o,q≠rb->((((H.set rb (.row (eK n) 108 n)).set b (gA a (Oo rb) n n)).set mp (fZ (tk++[(b,(n:Int),cl)]) (cl+1))).set a (fX cap (bf bufs+n) (if bf bufs+n>aj then bf bufs+n else aj) mp)) q=some o->G q=some o:=fun q o h1 h2=>by
  show(if q=rb then none else _)=_
  rw[if_neg h1];exact h2
 have gb:=hG b (gA a (Oo rb) n n) hbr (by rw[Hp.bV _ _ (Ne.symm hab),Hp.bV _ _ (Ne.symm hmb)];exact Hp.bI _ _ _);have nrb:∀ q o,H q=some o->q≠rb:=fun q o hq e=>by rw[e,hrb]at hq;cases hq
 refine⟨G,fun q=>if q=rb then some (.row (eK n) 108 n)else none,fun q o hq=>?_,fun q o hq=>?_,fun q=>?_,⟨mp,cl+1,tk++[(b,(n:Int),cl)],?_⟩,⟨_,fun _=>none,Hp.le_refl _,fun b o h=>(by cases h),fun b=>.inr rfl,(if_pos rfl:(if rb=rb then some _ else none)=_),trivial⟩⟩
 .have hq':(if q=rb then none else _)=some o:=hq;split at hq'
  .cases hq'
  .exact hq'
 .simp only at hq;split at hq
  .rename_i e;subst e
   rw[Hp.bV _ _ (Ne.symm har),Hp.bV _ _ (Ne.symm hmr),Hp.bV _ _ (Ne.symm hbr),Hp.bI];exact hq
  .cases hq
 .by_cases e:q=rb
  .left;show(if q=rb then none else _)=none;rw[if_pos e]
  .right;simp only[e,if_false]
 rw[show bf (bufs++[(b,n,some (O rb))])=bf bufs+n by rw[nf];simp[bf]];refine⟨⟨hne,hG a _ har (Hp.bI _ _ _),hG mp _ hmr (by rw[Hp.bV _ _ (Ne.symm hne)];exact Hp.bI _ _ _),?_,fun x hx=>?_,⟨?_,by omega,by omega⟩,?_,fun x hx=>?_⟩,by split<;>omega,fun y hy=>?_,fun x hx=>?_,fun y hy hy1=>?_,?_,fun y hy h0=>?_⟩
 .rw[List.map_append,List.nodup_append];refine⟨h.ai.nd,by simp,fun x hx y hy e=>?_⟩;simp at hy;subst hy;obtain⟨z,hz,rfl⟩:=List.mem_map.1 hx;exact(hxf z hz).2.2 e
 .rcases List.mem_append.1 hx with hx|hx
  .obtain⟨h1,A,n',m',h2⟩:=h.ai.hb x hx;exact⟨h1,A,n',m',hG _ _ (nrb _ _ h2) (dI _ _ h2 (hxf x hx).1 (hxf x hx).2.1)⟩
  .simp at hx;subst hx;exact⟨by show(1:Int)<=n;omega,_,_,_,gb⟩
 .rw[sum_append,<-h.ai.hu.1];simp[gY]
 .rw[List.map_append,List.nodup_append];refine⟨h.ai.bn.1,by simp,fun x hx y hy e=>?_⟩;simp at hy;subst hy;obtain⟨z,hz,rfl⟩:=List.mem_map.1 hx;have:=h.ai.bn.2 z hz;omega
 .rcases List.mem_append.1 hx with hx|hx
  .have:=h.ai.bn.2 x hx;omega
  .simp at hx;subst hx;show cl<cl+1;omega
 .rcases List.mem_append.1 hy with hy|hy
  .exact hG _ _ (nrb _ _ (h.hd y hy)) (dI _ _ (h.hd y hy) (hfr y hy).1 (hfr y hy).2.1)
  .simp at hy;subst hy;exact gb
 .rcases List.mem_append.1 hx with hx|hx
  .obtain⟨A,hA⟩:=h.tb x hx;exact⟨A,List.mem_append_left _ hA⟩
  .simp at hx;subst hx;exact⟨some (O rb),by simp⟩
 .rcases List.mem_append.1 hy with hy|hy
  .obtain⟨m,hm⟩:=h.bt y hy hy1;exact⟨m,List.mem_append_left _ hm⟩
  .simp at hy;subst hy;exact⟨cl,by simp⟩
 .rw[List.map_append,List.nodup_append];refine⟨h.bn,by simp,fun x hx y hy e=>?_⟩;simp at hy;subst hy;obtain⟨z,hz,rfl⟩:=List.mem_map.1 hx;exact(hfr z hz).2.2 e
 .rcases List.mem_append.1 hy with hy|hy
  .exact h.hz y hy h0
  .simp at hy;subst hy;simp at h0;omega
theorem nN.NU {H H':Hp}{a mp cl:Nat}{tk tk':List (Nat×Int×Nat)}{cap used aj:Int}{bufs:List (Nat×Nat×OA)}{g:Nat->Prop}{gb:Nat->Bool}(h:nN H a mp cl tk cap used aj bufs)(hg:pY H H' a mp cl tk tk' cap aj g)(hgb:∀ q,gb q=true↔g q):
  nN H' a mp cl tk' cap (bf (ky gb bufs)) aj (ky gb bufs):=by
 have hu:=h.ai.hu;have hnd:((ky gb bufs).map (·.1)).Nodup:=by rw[zQ];exact h.bn
 have hmem:∀ y∈ky gb bufs,∃ z∈bufs,y=if gb z.1 then(z.1,0,none)else z:=fun y hy=>by
  obtain⟨z,hz,rfl⟩:=List.mem_map.1 hy;exact⟨z,hz,rfl⟩
 have htb:∀ x∈tk',∃ A,(x.1,x.2.1.toNat,A)∈ky gb bufs:=fun x hx=>by
  obtain⟨h1,h2⟩:=(hg.mem x).1 hx;obtain⟨A,hA⟩:=h.tb x h1;refine⟨A,List.mem_map.2 ⟨_,hA,?_⟩⟩;rw[if_neg (fun e=>h2 ((hgb _).1 e))]
 have hbt:∀ y∈ky gb bufs,1<=y.2.1->∃ n,(y.1,(y.2.1:Int),n)∈tk':=fun y hy hy1=>by
  obtain⟨z,hz,rfl⟩:=hmem y hy;by_cases e:gb z.1=true
  .rw[if_pos e]at hy1;simp at hy1
  .rw[if_neg e]at hy1⊢;obtain⟨n,hn⟩:=h.bt z hz hy1;exact⟨n,(hg.mem _).2 ⟨hn,fun e2=>e ((hgb _).2 e2)⟩⟩
 have hsum:=CH (ky gb bufs) tk' hg.ai.nd hnd (fun x hx=>(hg.ai.hb x hx).1) htb hbt;refine⟨by rw[<- hsum];exact hg.ai,by rw[<- hsum];have:=h.up;have:=hg.sle;omega,fun y hy=>?_,htb,hbt,hnd,fun y hy h0=>?_⟩
 rotate_left
 .obtain⟨z,hz,rfl⟩:=hmem y hy;by_cases e:gb z.1=true
  .rw[if_pos e]
  .rw[if_neg e]at h0 ⊢;exact h.hz z hz h0
 obtain⟨z,hz,rfl⟩:=hmem y hy;have hz1:=h.hd z hz;have e1:z.1≠a:=fun e=>by rw[e,h.ai.ha]at hz1;unfold fX gA at hz1;cases hz1
 have e2:z.1≠mp:=fun e=>by rw[e,h.ai.hm]at hz1;unfold fZ gA at hz1;cases hz1
 by_cases e:gb z.1=true
 .rw[if_pos e];have hgz:=(hgb _).1 e;by_cases hx:∃ x∈tk,x.1=z.1
  .obtain⟨x,hx,hxe⟩:=hx;have:=hg.nil x hx (by rw[hxe];exact hgz);rw[hxe]at this;exact this
  .have h0:z.2.1=0:=by
    by_cases h1:1<=z.2.1
    .obtain⟨n,hn⟩:=h.bt z hz h1;exact absurd ⟨_,hn,rfl⟩ hx
    .omega
   have:=hg.dI z.1 _ hz1 e1 e2 (fun _ x hx' e3=>hx ⟨x,hx',e3⟩);rw[h0,h.hz z hz h0]at this;exact this
 .rw[if_neg e];exact hg.dI z.1 _ hz1 e1 e2 (fun e3=>absurd ((hgb _).2 e3) e)
theorem nN.cut {H:Hp}{a mp cl:Nat}{tk:List (Nat×Int×Nat)}{cap used aj:Int}{bufs:List (Nat×Nat×OA)}(h:nN H a mp cl tk cap used aj bufs)(D:Nat->Bool)(h1:D a=true)(h2:D mp=true)(h3:∀ y∈bufs,D y.1=true):
  nN (fun q=>if D q=true then H q else none) a mp cl tk cap used aj bufs:=by
 have g:∀ q o,D q=true->H q=some o->(fun q=>if D q=true then H q else none) q=some o:=fun q o e1 e2=>by
  show(if D q=true then H q else none)=some o
  rw[if_pos e1];exact e2
 refine⟨⟨h.ai.ne,g _ _ h1 h.ai.ha,g _ _ h2 h.ai.hm,h.ai.nd,fun x hx=>?_,h.ai.hu,h.ai.bn⟩,h.up,fun y hy=>g _ _ (h3 y hy) (h.hd y hy),h.tb,h.bt,h.bn,h.hz⟩;obtain⟨k1,A,n,m,k2⟩:=h.ai.hb x hx;obtain⟨A',hA'⟩:=h.tb x hx;exact⟨k1,A,n,m,g _ _ (h3 _ hA') k2⟩
theorem nN.back {H H1 H2 H':Hp}{a mp cl cl':Nat}{tk tk':List (Nat×Int×Nat)}{cap used used' aj peak':Int}{bufs:List (Nat×Nat×OA)}{g:Nat->Bool}{L:List As}
  (hle:H1.le H) (hap:jm H1 H2) (h1:nN H1 a mp cl tk cap used aj bufs) (h':nN H' a mp cl' tk' cap used' peak' (ky g bufs)) (h2:H2.le H') (hs:Sep L H2) (hu:used'=bf (ky g bufs)):Sep (Ar a cap peak' (ky g bufs)::L) H':=by
 have hd:∀ q o,H1 q=some o->(H1 q).isSome=true:=fun q o h=>by rw[h];rfl
 refine⟨fun q=>if(H1 q).isSome=true then H' q else none,H2,fun q o hq=>?_,h2,fun q=>?_,⟨mp,cl',tk',?_⟩,hs⟩
 .simp only at hq;split at hq
  .exact hq
  .cases hq
 .rcases hap q with e|e
  .left;simp[e]
  .exact .inr e
 .rw[<- hu];refine h'.cut (fun q=>(H1 q).isSome) (hd _ _ h1.ai.ha) (hd _ _ h1.ai.hm) (fun y hy=>?_);obtain⟨z,hz,e⟩:=List.mem_map.1 (show y.1∈bufs.map (·.1) by rw[<- zQ g];exact List.mem_map_of_mem hy);have:=hd _ _ (h1.hd z hz);rw[e]at this;exact this
theorem GR {a:Nat}{cap aj:Int}{bufs:List (Nat×Nat×OA)}(vb n mm:Nat)(xs:List Value)(ps:List (Option Nat))(hn:n=ps.length)(hn2:n<=9000000000000000000)(hx:xs.take n=ps.map uC)(hps:∀ b,some b∈ps->∃ n A,(b,n,A)∈bufs)
  {H:Hp} (hs:Sep [Ar a cap aj bufs,af vb (.row xs 331 mm)] H):∃ mp cl tk,AI H a mp cl tk cap (bf bufs) aj/\bf bufs<=aj/\(∀ H',(∀ q xs e m,H q=some (.row xs e m)->H' q=some (.row xs e m))->Cells H' (Oo vb) (ps.map uC))/\(∀ b,some b∈ps->∃ A n m,H b=some (gA a A n m))/\
   ∀ H' tk',pY H H' a mp cl tk tk' cap aj (fun q=>some q∈ps)->Sep [Ar a cap aj (ky (fun q=>decide (some q∈ps)) bufs),af vb (.row xs 331 mm)] H':=by
 have hv:=Sep.get hs 1 rfl;obtain⟨H1,H2,k1,k2,k3,⟨mp,cl,tk,h1⟩,k5⟩:=hs;have h:=h1.NP k1;refine⟨mp,cl,tk,h.ai,h.up,fun H' hH'=>?_,fun b hb=>?_,fun H' tk' hg=>?_⟩
 .have:=Cells.row (hH' vb xs _ _ hv) 0 n;rw[List.drop_zero,hx]at this;exact this
 .obtain⟨n,A,hb⟩:=hps b hb;exact⟨_,_,_,h.hd _ hb⟩
 have h':=h.NU hg (gb:=fun q=>decide (some q∈ps)) (fun q=>by simp);have hvb:∀ q,q≠vb\/H1 q=none:=fun q=>by
  by_cases e:q=vb
  .right;rw[e];have h2:H2 vb=some (.row xs 331 mm):=Sep.get k5 0 rfl;exact(k3 vb).resolve_right (by rw[h2];simp)
  .exact .inl e
 refine nN.back (H2:=fun q=>if q=vb then some (.row xs 331 mm)else none) k1 (fun q=>?_) h1 h' (fun q o hq=>?_) ⟨_,fun _=>none,Hp.le_refl _,fun b o h=>(by cases h),fun b=>.inr rfl,(if_pos rfl:(if vb=vb then some _ else none)=_),trivial⟩ rfl
 .rcases hvb q with e|e
  .right;simp only[e,if_false]
  .exact .inl e
 .simp only at hq;split at hq
  .rename_i e;subst e;cases hq
   refine hg.dI q _ hv (fun e=>?_) (fun e=>?_) (fun _ x hx' e=>?_)
   .rw[e,h.ai.ha]at hv;unfold fX at hv;cases hv
   .rw[e,h.ai.hm]at hv;unfold fZ at hv;cases hv
   .obtain⟨_,A,n,m,k⟩:=h.ai.hb x hx';rw[e,hv]at k;unfold gA at k;cases k
  .cases hq
theorem Iy {a:Nat}{cap aj:Int}{bufs:List (Nat×Nat×OA)}(vb n m mm:Nat)(xs:List Value)(ps:List (Option Nat))(hn:n=ps.length)(hn2:n<=9000000000000000000)(hx:xs.take n=ps.map uC)(hps:∀ b,some b∈ps->∃ n A,(b,n,A)∈bufs):
  J2 prog 257 #[V a,.slice (Oo vb) n m] [Ar a cap aj bufs,af vb (.row xs 331 mm)] fun v M=>
   v= .tuple #[]/\M=[Ar a cap aj (ky (fun q=>decide (some q∈ps)) bufs),af vb (.row xs 331 mm)]:=fun H hs=>by
 obtain⟨mp,cl,tk,h1,h2,h3,h4,h5⟩:=GR vb n mm xs ps hn hn2 hx hps hs;refine dJ.mono (cB.okD _ _ _ _ _ _ (L4 a mp cl cap (bf bufs) aj h2 tk H h1 (Oo vb) n m ps hn hn2 h3 h4)) ?_;rintro v H' ⟨rfl,tk',hg⟩;exact⟨_,⟨rfl,rfl⟩,h5 H' tk' hg⟩
theorem gP {a:Nat}{cap aj:Int}{bufs:List (Nat×Nat×OA)}(vb b n:Nat)(A:OA)(hnew:∀ y∈bufs,y.1≠b):
  J2 prog 257 #[V a,.slice (Oo vb) 1 1] [Ar a cap aj (bufs++[(b,n,A)]),af vb (.row [V b] 331 1)] fun v M=>
   v= .tuple #[]/\M=[Ar a cap aj bufs]:=fun H hs=>by
 refine(Iy vb 1 1 1 _ [some b] rfl (by omega) rfl (fun q hq=>?_) H hs).mono ?_
 .simp at hq;subst hq;exact⟨n,A,by simp⟩
 .rintro v H' ⟨M,⟨rfl,rfl⟩,hs⟩;refine⟨_,⟨rfl,rfl⟩,?_⟩;have hs:=hs.re [0] rfl;have e:ky (fun q=>decide (some q∈[some b])) (bufs++[(b,n,A)])=bufs++[(b,0,none)]:=by
   unfold ky;rw[List.map_append];congr 1
   .refine(List.map_congr_left (g:=id) fun y hy=>?_).trans (List.map_id _);have:=hnew y hy;simp[this]
   .simp
  rw[e]at hs;obtain⟨H1,H2,k1,k2,k3,⟨mp,cl,tk,h1⟩,k5⟩:=hs;refine⟨H1,H2,k1,k2,k3,⟨mp,cl,tk,?_⟩,k5⟩;have h2:=h1.less (fun y=>decide (y.1≠b)) (fun y hy hp=>by
   rcases List.mem_append.1 hy with hy|hy
   .simp at hp;exact absurd hp (hnew y hy)
   .simp at hy;subst hy;rfl)
  have e2:(bufs++[(b,0,none)]).filter (fun y=>decide (y.1≠b))=bufs:=by
   rw[List.filter_append];have h3:bufs.filter (fun y=>decide (y.1≠b))=bufs:=by
    rw[List.filter_eq_self];intro y hy;simpa using hnew y hy
   rw[h3];simp
  rw[e2]at h2;have e3:bf (bufs++[(b,0,none)])=bf bufs:=by rw[nf];simp[bf]
  rw[e3]at h2;exact h2
end Are
end Go.Proofs.YtlgnlghmbcpmhaaGreatDoor
namespace Go.Hw
open Go
def fi (x:Int×Value×Nat):MapEntry:={ key:=I x.1,val:=x.2.1,born:=x.2.2}
def i1 (l:List (Int×Value×Nat))(clock:Nat):AO:=.obj (.map (l.map fi).toArray clock)
def ib :List (Int×Value×Nat)->Int->Option Value
 | [],_=>none
 |x::l,k=>if k=x.1 then some x.2.1 else ib l k
def vN (k:Int):List (Int×Value×Nat)->Nat->Option (Nat×Value)
 | [],_=>none
 |x::l,i=>if k=x.1 then some (i,x.2.1)else vN k l (i+1)
structure Gg (l:List (Int×Value×Nat))(clock:Nat)(m:Int->Option Value):Prop where
 nd:(l.map (·.1)).Nodup
 bn:(l.map (·.2.2)).Nodup
 bl:∀ x∈l,x.2.2<clock
 get:∀ k,ib l k=m k
def Mp (r:Nat)(m:Int->Option Value):As:=fun H=>∃ l clock,H r=some (i1 l clock)/\Gg l clock m
theorem y0 (k:Int):∀(l:List (Int×Value×Nat)) (i:Nat),(vN k l i).map (·.2)=ib l k
 | [],_=>rfl
 |x::l,i=>by
  unfold vN ib;split
  .rfl
  .exact y0 k l (i+1)
theorem zR {l:List (Int×Value×Nat)}{k:Int}:ib l k=none↔∀ x∈l,x.1≠k:=by
 induction l with
 |nil=>simp[ib]
 |cons x l ih=>
  unfold ib;split
  .rename_i h;simp[h]
  .rename_i h
   rw[ih];constructor
   .intro h2 y hy;rcases List.mem_cons.1 hy with rfl|hy
    .exact fun e=>h e.symm
    .exact h2 y hy
   .intro h2 y hy;exact h2 y (by simp[hy])
theorem wG {l:List (Int×Value×Nat)}(hn:(l.map (·.1)).Nodup){x:Int×Value×Nat}(hx:x∈l):ib l x.1=some x.2.1:=by
 induction l with
 |nil=>simp at hx
 |cons y l ih=>
  simp only[List.map_cons,List.nodup_cons]at hn;unfold ib;rcases List.mem_cons.1 hx with rfl|hx
  .simp
  .rw[if_neg (fun e=>hn.1 (by rw[<- e];exact List.mem_map_of_mem hx))];exact ih hn.2 hx
theorem GQ {l:List (Int×Value×Nat)}{k:Int}{v:Value}(h:ib l k=some v):∃ b,(k,v,b)∈l:=by
 induction l with
 |nil=>simp[ib]at h
 |cons y l ih=>
  unfold ib at h;split at h
  .rename_i e;cases h;exact⟨y.2.2,by rw[e];simp⟩
  .obtain⟨b,hb⟩:=ih h;exact⟨b,by simp[hb]⟩
theorem i1.heap {H:Hp}{w:World}{r clock:Nat}{l:List (Int×Value×Nat)}(h:H r=some (i1 l clock))(hw:Fits H w):w.heap[r]? =some (.map (l.map fi).toArray clock):=by
 obtain⟨o,ho,hh⟩:=hw _ _ h;cases hh;exact ho
theorem At.Jl {H0 H:Hp}{w0 w:World}{r clock:Nat}{l:List (Int×Value×Nat)}(hA:At H0 w0 H w)(hr:H r=some (i1 l clock))(o:Obj):At H0 w0 (H.set r (.obj o)) { w with heap:=w.heap.setIfInBounds r o}:=by
 have hh:=i1.heap hr hA.fits;have hlt:r<w.heap.size:=(Array.getElem?_eq_some_iff.1 hh).1;refine hA.jE hr (x':=o) ?_ rfl ?_ rfl rfl rfl (fun c hc=>?_)
 .show(w.heap.setIfInBounds r o)[r]? =some o
  simp[hlt]
 .show(w.heap.setIfInBounds r o).size=w.heap.size
  simp
 .show(w.heap.setIfInBounds r o)[c]? =w.heap[c]?
  rw[Array.getElem?_setIfInBounds_ne (Ne.symm hc)]
section
variable {P : Program} {t : TypeId} (ht : P.underlying t = some (.int .i64))
include ht
theorem BS (k:Int):∀(l:List (Int×Value×Nat)) (i:Nat),Instr.findNow (.int .i64) (I k) (l.map fi) i=some (vN k l i)
 | [],_=>rfl
 |x::l,i=>by
  simp only[List.map_cons,Instr.findNow];rw[show Instr.sameNow (.int .i64) (I k) (fi x).key=some (k==x.1) by simp[Instr.sameNow,fi]];unfold vN;by_cases h:k=x.1
  .simp[h,fi]
  .rw[show(k==x.1)=false by simpa using h];simp only[h,if_false];exact BS k l (i+1)
theorem wE {w:World}(k:Int)(l:List (Int×Value×Nat)):(Instr.findKey t (I k) (l.map fi)).run P w= .ok (vN k l 0) w:=by
 unfold Instr.findKey;simp[aV ht,BS ht k l 0]
theorem uf {w:World}(e:Bool)(k:Int):(Instr.checkKey e 10000 t (I k)).run P w= .ok () w:=by
 unfold Instr.checkKey;simp[aV ht]
variable {tm tv : TypeId} (hm : P.underlying tm = some (.map t tv))
include hm
theorem y9 {jv:TypeInfo}{z:Value}(hv:P.info? tv=some jv)(hz:jv.zero=some z){H:Hp}{r clock:Nat}{l:List (Int×Value×Nat)}{k:Int}(hr:H r=some (i1 l clock))(ok:Bool){K:Value->Prop}
  (kk:K (match ib l k with|some v=>if ok then .tuple #[v,.bool true]else v|none=>if ok then .tuple #[z,.bool false]else z)):tZ P (Instr.lookup tm (.map (some r)) (.int .i64 k) ok) H K:=by
 refine⟨_,kk,fun w hw=>?_⟩;have hh:=i1.heap hr hw;simp only[Instr.lookup,Sem.run_bind,aV hm,Result.andThen_ok,MapKept.run_getObj_map hh,Sem.run_pure];rw[uf ht];simp only[Result.andThen_ok];rw[wE ht];simp only[Result.andThen_ok];rw[<- y0 k l 0];cases vN k l 0 with
 |some x=>cases ok<;>simp
 |none=>cases ok<;>simp[zeroValue,jl hv,hz]
theorem GZ (k:Int):∀(l:List (Int×Value×Nat)) (i j:Nat) (v:Value),vN k l i=some (j,v)->i<=j/\∃ x,l[j-i]? =some x/\x.1=k/\x.2.1=v
 | [],_,_,_,h=>by cases h
 |x::l,i,j,v,h=>by
  unfold vN at h;split at h
  .rename_i e;cases h;exact⟨Nat.le_refl _,x,by simp,e.symm,rfl⟩
  .obtain⟨h1,y,h2,h3⟩:=GZ k l (i+1) j v h;exact⟨by omega,y,by rw[show j-i=(j-(i+1))+1 by omega,List.getElem?_cons_succ];exact h2,h3⟩
def nM (m:Int->Option Value)(k:Int)(v:Value):Int->Option Value:=fun j=>if j=k then some v else m j
theorem C' (l:List (Int×Value×Nat))(x:Int×Value×Nat)(h:ib l x.1=none)(j:Int):ib (l++[x]) j=nM (ib l) x.1 x.2.1 j:=by
 induction l with
 |nil=>simp[ib,nM]
 |cons y l ih=>
  unfold ib at h;split at h
  .cases h
  .rename_i hne
   rw[List.cons_append];unfold ib nM;have:=ih h;unfold nM at this;by_cases e:j=x.1
   .rw[if_pos e,e,if_neg hne];rw[e,if_pos rfl]at this;exact this
   .rw[if_neg e];rw[if_neg e]at this;rw[this];rfl
theorem BU :∀(l:List (Int×Value×Nat)) (i:Nat) (x:Int×Value×Nat) (v:Value),(l.map (·.1)).Nodup->l[i]? =some x->∀ j,ib (l.set i (x.1,v,x.2.2)) j=nM (ib l) x.1 v j
 | [],i,x,v,_,h,j=>by simp at h
 |y::l,0,x,v,hn,h,j=>by
  simp at h;subst h;simp only[List.set_cons_zero];unfold ib nM;by_cases e:j=y.1
  .simp[e]
  .simp only[e,if_false,ib]
 |y::l,i+1,x,v,hn,h,j=>by
  simp only[List.map_cons,List.nodup_cons]at hn;rw[List.getElem?_cons_succ]at h;have ih:=BU l i x v hn.2 h j;have hne:y.1≠x.1:=fun e=>hn.1 (by rw[e];exact List.mem_map_of_mem (List.mem_of_getElem? h))
  simp only[List.set_cons_succ];unfold ib nM;unfold nM at ih;by_cases e:j=x.1
  .rw[if_pos e,e,if_neg (Ne.symm hne)];rw[e,if_pos rfl]at ih;exact ih
  .rw[if_neg e];rw[if_neg e]at ih;rw[ih];rfl
theorem oQ {α β:Type}(f:α->β):∀(l:List α) (i:Nat) (x y:α),l[i]? =some x->f y=f x->(l.set i y).map f=l.map f
 | [],_,_,_,h,_=>by simp at h
 |z::l,0,x,y,h,e=>by simp at h;subst h;simp[e]
 |z::l,i+1,x,y,h,e=>by
  simp only[List.set_cons_succ,List.map_cons];rw[oQ f l i x y (by simpa using h) e]
theorem Sep.wi {L:List As}{H:Hp}(h:Sep L H)(i:Nat){r:Nat}{m:Int->Option Value}(hi:L[i]? =some (Mp r m)){k:Int}{v:Value}{K:Unit->Hp->Prop}(kk:∀ H',Sep (L.set i (Mp r (nM m k v))) H'->K () H'):
  ia P (Instr.mapUpdate tm (.map (some r)) (I k) v) H K:=fun H0 w0 w hA=>by
 obtain⟨H1,⟨l,clock,hr1,hok⟩,hle⟩:=h.fE i hi;have hr:=hle _ _ hr1;have hh:=i1.heap hr hA.fits;cases hx:vN k l 0 with
 |none=>
  have hg:ib l k=none:=by rw[<- y0 k l 0,hx];rfl
  refine⟨(),_,_,?_,kk _ (h.Bi i hi (b:=r) (o':=i1 (l++[(k,v,clock)]) (clock+1)) fun H1' hle' hA'=>?_),hA.Jl hr _⟩
  .simp only[Instr.mapUpdate,Sem.run_bind,aV hm,Result.andThen_ok,MapKept.run_getObj_map hh];rw[uf ht];simp only[Result.andThen_ok];rw[wE ht,hx];simp only[Result.andThen_ok];rw[MapKept.run_setObj_map _ hh];simp[fi]
  .obtain⟨l',clock',hr',_⟩:=hA';refine⟨_,hr',l++[(k,v,clock)],clock+1,Hp.bI _ _ _,?_,?_,fun x hx=>?_,fun j=>?_⟩
   .rw[List.map_append,List.nodup_append];refine⟨hok.nd,by simp,fun a ha b hb e=>?_⟩;simp at hb;subst hb;obtain⟨z,hz,rfl⟩:=List.mem_map.1 ha;exact zR.1 hg z hz e
   .rw[List.map_append,List.nodup_append];refine⟨hok.bn,by simp,fun a ha b hb e=>?_⟩;simp at hb;subst hb;obtain⟨z,hz,rfl⟩:=List.mem_map.1 ha;have:=hok.bl z hz;omega
   .rcases List.mem_append.1 hx with hx|hx
    .have:=hok.bl x hx;omega
    .simp at hx;subst hx;show clock<clock+1;omega
   .rw[C' ht hm l (k,v,clock) hg j];unfold nM;simp only[hok.get]
 |some q=>
  obtain⟨ix,u⟩:=q;obtain⟨_,x,hxl,hxk,hxv⟩:=GZ ht hm k l 0 ix u hx;rw[Nat.sub_zero]at hxl;have hlt:=(List.getElem?_eq_some_iff.1 hxl).1;refine⟨(),_,_,?_,kk _ (h.Bi i hi (b:=r) (o':=i1 (l.set ix (x.1,v,x.2.2)) clock) fun H1' hle' hA'=>?_),hA.Jl hr _⟩
  .simp only[Instr.mapUpdate,Sem.run_bind,aV hm,Result.andThen_ok,MapKept.run_getObj_map hh];rw[uf ht];simp only[Result.andThen_ok];rw[wE ht,hx];simp only[Result.andThen_ok];have hkey:((((l.map fi).toArray)[ix]?).map (·.key)).getD (Value.int .i64 k)= I k:=by
    simp[hxl,fi,hxk]
   rw[hkey];simp only[Instr.keyThatStays,Instr.sameBits,beq_self_eq_true,Bool.and_self,if_true,pure_bind];rw[MapKept.run_setObj_map _ hh];congr 3;have e:((l.map fi).toArray.modify ix fun e=>{ e with key:=I k,val:=v})=((l.set ix (x.1,v,x.2.2)).map fi).toArray:=by
    apply Array.ext';rw[Array.toList_modify];simp only;apply List.ext_getElem?;intro j;rw[List.getElem?_modify,List.getElem?_map,List.getElem?_map,List.getElem?_set];by_cases ej:ix=j
    .subst ej;have e2:l[ix]=x:=by
      have:=List.getElem?_eq_getElem hlt;rw[this]at hxl;exact Option.some.inj hxl
     simp[fi,hxk,hlt,e2]
    .simp[ej]
   rw[e]
  .obtain⟨l',clock',hr',_⟩:=hA';refine⟨_,hr',l.set ix (x.1,v,x.2.2),clock,Hp.bI _ _ _,?_,?_,fun y hy=>?_,fun j=>?_⟩
   .rw[oQ ht hm (·.1) l ix x (x.1,v,x.2.2) hxl rfl];exact hok.nd
   .rw[oQ ht hm (·.2.2) l ix x (x.1,v,x.2.2) hxl rfl];exact hok.bn
   .have:y.2.2∈(l.set ix (x.1,v,x.2.2)).map (·.2.2):=List.mem_map_of_mem hy;rw[oQ ht hm (·.2.2) l ix x (x.1,v,x.2.2) hxl rfl]at this;obtain⟨z,hz,e⟩:=List.mem_map.1 this;have:=hok.bl z hz;have e':z.2.2=y.2.2:=e;omega
   .rw[BU ht hm l ix x v hok.nd hxl j];unfold nM;simp only[hok.get,hxk]
theorem Sep.Gz {L:List As}{H:Hp}(h:Sep L H)(i:Nat){r:Nat}{m:Int->Option Value}(hi:L[i]? =some (Mp r m)){ty:TypeId}{K:VK}(kk:∀ H',Sep (L.set i (Mp r fun _=>none)) H'->K (.tuple #[]) H'):
  ia P (Builtin.clear_ #[tm] ty #[.map (some r)]) H K:=fun H0 w0 w hA=>by
 obtain⟨H1,⟨l,clock,hr1,hok⟩,hle⟩:=h.fE i hi;have hr:=hle _ _ hr1;have hh:=i1.heap hr hA.fits;refine⟨_,_,_,?_,kk _ (h.Bi i hi (b:=r) (o':=i1 [] clock) fun H1' hle' hA'=>?_),hA.Jl hr _⟩
 .simp only[Builtin.clear_,Sem.run_bind,aV hm,Result.andThen_ok,List.getElem?_toArray,List.getElem?_cons_zero,MapKept.run_getObj_map hh]
  try rw[Sem.run_bind]
  rw[MapKept.run_setObj_map _ hh];simp
 .obtain⟨l',clock',hr',_⟩:=hA';exact⟨_,hr',[],clock,Hp.bI _ _ _,by simp,by simp,fun x hx=>by simp at hx,fun j=>rfl⟩
end
theorem Mp.new {L:List As}{H:Hp}{b:Nat}(h:Sep (L++[af b (.obj (.map #[] 0))]) H):Sep (L++[Mp b fun _=>none]) H:=by
 have:=h.jE L.length (A:=af b (.obj (.map #[] 0))) (by simp) (B:=Mp b fun _=>none) fun H1 h1=>⟨[],0,h1,by simp,by simp,fun x hx=>by simp at hx,fun j=>rfl⟩
 simpa using this
def fM (tk:List (Int×Value×Nat))(seen:Array Nat):List (Int×Value×Nat):=tk.filter fun x=> !seen.contains x.2.2
theorem Lp {P:Program}{t k e:TypeId}(ht:P.underlying t=some (.map k e)){H:Hp}{mp cl:Nat}{tk:List (Int×Value×Nat)}(hm:H mp=some (i1 tk cl)){K:VK}
  (kk:∀ it,H it=none->K (V it) (H.set it (kZ mp cl #[] cl))):ia P (Instr.range t (.map (some mp))) H K:=fun H0 w0 w hA=>by
 have hh:=i1.heap hm hA.fits;obtain⟨hn,hA'⟩:=hA.new (o:=kZ mp cl #[] cl) (x:=.mapIter (some mp) cl #[] cl) rfl;refine⟨_,_,_,?_,kk _ hn,hA'⟩;simp only[Instr.range,Sem.run_bind,aV ht,Result.andThen_ok,MapKept.run_getObj_map hh,Sem.run_pure];simp
theorem Hb {P:Program}{ty:TypeId}{H:Hp}{it mp since last cl:Nat}{seen:Array Nat}{tk:List (Int×Value×Nat)}(hi:H it=some (kZ mp since seen last))(hm:H mp=some (i1 tk cl))(hold:∀ x∈tk,x.2.2<since)(hlast:∀ x∈tk,x.2.2<last){K:VK}
  (k1:∀ x∈fM tk seen,K (.tuple #[.bool true,I x.1,x.2.1]) (H.set it (kZ mp since (seen.push x.2.2) cl))) (k0:fM tk seen=[]->K (.tuple #[.bool false]) H):
  ia P (Instr.next (V it) false ty) H K:=fun H0 w0 w hA=>by
 have hh:=kZ.heap hi hA.fits;have hg:=i1.heap hm hA.fits;have hgi:(getObj it).run P w= .ok (.mapIter (some mp) since seen last) w:=by simp[getObj,Sem.run,hh]
 have hleft:((tk.map fi).toArray.filter fun e=> !seen.contains e.born)=((fM tk seen).map fi).toArray:=by
  unfold fM;rw[List.filter_toArray,List.filter_map];rfl
 have hcond:(!seen.isEmpty&& !(tk.map fi).toArray.isEmpty&&(tk.map fi).toArray.all (fun e=>decide (e.born>=last)))=false:=by
  cases tk with
  |nil=>simp
  |cons x l=>
   have:=hlast x (by simp);have h2:¬last<=x.2.2:=by omega
   simp[fi,h2]
 have hold':(((fM tk seen).map fi).toArray.filter fun e=>decide (e.born<since))=((fM tk seen).map fi).toArray:=by
  rw[List.filter_toArray];congr 1;rw[List.filter_eq_self];intro e he;obtain⟨x,hx,rfl⟩:=List.mem_map.1 he;have:=hold x (List.mem_filter.1 hx).1;exact decide_eq_true this
 have hnew:(((fM tk seen).map fi).toArray.filter fun e=>decide (e.born>=since))=#[]:=by
  rw[List.filter_toArray];congr 1;rw[List.filter_eq_nil_iff];intro e he;obtain⟨x,hx,rfl⟩:=List.mem_map.1 he;have:=hold x (List.mem_filter.1 hx).1;simp[fi];omega
 simp only[Instr.next,Sem.run_bind,hgi,Result.andThen_ok,MapKept.run_getObj_map hg,hcond,Bool.false_eq_true,if_false,hleft,hold',hnew,Sem.run_pure];cases hU:fM tk seen with
 |nil=>
  obtain⟨i,w',hi',hr,hA'⟩:=vH (P:=P) hA 1 (by omega);obtain rfl:i=0:=by omega
  refine⟨_,H,w',?_,k0 hU,hA'⟩;rw[show((if(List.map fi ([]:List (Int×Value×Nat))).toArray.isEmpty=true then #[none]else #[])++Array.map some ((List.map fi ([]:List (Int×Value×Nat))).toArray++ #[]))=(#[none]:Array (Option MapEntry)) by simp,show(#[none]:Array (Option MapEntry)).size=1 from rfl,hr];rfl
 |cons x l=>
  obtain⟨i,w',hi',hr,hA'⟩:=vH (P:=P) hA (x::l).length (by simp);have e:((if(List.map fi (x::l)).toArray.isEmpty=true then #[none]else #[])++Array.map some ((List.map fi (x::l)).toArray++ #[]))=((x::l).map fun y=>some (fi y)).toArray:=by simp
  rw[e,show((x::l).map fun y=>some (fi y)).toArray.size=(x::l).length by simp,hr];have hy:(x::l)[i]∈fM tk seen:=by rw[hU];exact List.getElem_mem hi'
  refine⟨_,_,_,?_,k1 _ hy,hA'.setIter hi _⟩;simp only[Result.andThen_ok,List.getElem?_toArray,List.getElem?_map,List.getElem?_eq_getElem hi',Option.map_some,Sem.run_bind];have hh':=kZ.heap hi hA'.fits;rw[show(setObj it (Obj.mapIter (some mp) since (seen.push (fi (x::l)[i]).born) cl)).run P w'= .ok () { w' with heap:=w'.heap.setIfInBounds it (Obj.mapIter (some mp) since (seen.push (fi (x::l)[i]).born) cl)} by simp[setObj,Sem.run,hh']];rfl
theorem xO :∀(tk:List (Int×Value×Nat)) (x:Int×Value×Nat),x∈tk->(tk.map (·.2.2)).Nodup->(tk.map fi).find? (fun e=>e.born==x.2.2)=some (fi x)
 | [],x,h,_=>by simp at h
 |y::l,x,h,hn=>by
  simp only[List.map_cons,List.nodup_cons]at hn;simp only[List.map_cons,List.find?_cons];rcases List.mem_cons.1 h with rfl|h
  .simp[fi]
  .have:¬(y.2.2=x.2.2):=fun e=>hn.1 (by rw[e];exact List.mem_map_of_mem h)
   rw[show((fi y).born==x.2.2)=false by simpa [fi]using this];exact xO l x h hn.2
theorem KS {P:Program}{H:Hp}{it mp since cl:Nat}{seen:Array Nat}{tk:List (Int×Value×Nat)}(hi:H it=some (kZ mp since seen cl))(hm:H mp=some (i1 tk cl)){x:Int×Value×Nat}(hx:x∈tk)(hb:seen.back? =some x.2.2)(hn:(tk.map (·.2.2)).Nodup){K:VK}
  (k:K (.tuple #[I x.1,x.2.1]) H):ia P (Instr.entry (V it)) H K:=fun H0 w0 w hA=>by
 have hh:=kZ.heap hi hA.fits;have hg:=i1.heap hm hA.fits;have hgi:(getObj it).run P w= .ok (.mapIter (some mp) since seen cl) w:=by simp[getObj,Sem.run,hh]
 refine⟨_,H,w,?_,k,hA⟩;simp only[Instr.entry,Sem.run_bind,hgi,Result.andThen_ok,hb,MapKept.run_getObj_map hg,bne_self_eq_false,Bool.false_eq_true,if_false,List.find?_toArray,xO tk x hx hn];rfl
theorem FN {tk:List (Int×Value×Nat)}{seen:Array Nat}{x:Int×Value×Nat}(hx:x∈fM tk seen):(fM tk (seen.push x.2.2)).length<(fM tk seen).length:=by
 have e:fM tk (seen.push x.2.2)=(fM tk seen).filter fun y=>y.2.2 !=x.2.2:=by
  unfold fM;rw[List.filter_filter];congr 1
  funext y
  rw[Array.contains_push];cases seen.contains y.2.2<;>simp[bne]
 rw[e];have:∀ l:List (Int×Value×Nat),x∈l->(l.filter fun y=>y.2.2 !=x.2.2).length<l.length:=by
  intro l hl
  induction l with
  |nil=>simp at hl
  |cons y l ih=>
   rcases List.mem_cons.1 hl with rfl|hl
   .rw[List.filter_cons_of_neg (by simp)];have:=List.length_filter_le (fun y:Int×Value×Nat=>y.2.2 !=x.2.2) l;simp only[List.length_cons];omega
   .have:=ih hl;have:=List.length_filter_le (fun y:Int×Value×Nat=>y.2.2 !=x.2.2) l;rw[List.filter_cons];split<;>simp only[List.length_cons]<;>omega
 exact this _ hx
end Go.Hw
namespace Go.Hw
open Go
theorem vp {x:Nat}(h:x<2^64):(BitVec.ofInt 64 (x:Int)).toNat=x:=by
 rw[BitVec.ofInt_natCast,BitVec.toNat_ofNat,Nat.mod_eq_of_lt h]
theorem Bf {x y n:Nat}(hx:x<2^n)(hy:y<2^n):x|||y<2^n:=Nat.or_lt_two_pow hx hy
theorem Ka {x y:Nat}(hx:x<2^64)(hy:y<2^64):lP .u64 (x:Int) (y:Int)=((x|||y:Nat):Int):=by
 unfold lP;rw[show u64.bits=64 from rfl,BitVec.toNat_or,vp hx,vp hy];have:=Bf hx hy;exact fW
theorem yT {x y:Nat}(hx:x<2^64:=by omega)(hy:y<2^64:=by omega):cU .u64 (x:Int) (y:Int)=((x&&&y:Nat):Int):=by
 unfold cU;rw[show u64.bits=64 from rfl,BitVec.toNat_and,vp hx,vp hy];have:x&&&y<=x:=Nat.and_le_left;exact fW
theorem FC {x:Nat}{i:Int}{n:Nat}(h:i=n:=by omega)(hn:n<=64:=by omega):dA .u64 (x:Int) i=((x*2^n%2^64:Nat):Int):=by
 subst h;unfold dA;rw[Int.toNat_natCast,show u64.bits=64 from rfl,Nat.min_eq_left hn,rE,show((2:Int)^n)=((2^n:Nat):Int) by simp,<-Int.natCast_mul];rfl
theorem rz {k:IntKind}{a:Nat}{i:Int}{n:Nat}(h:i=n)(hn:n<=k.bits):cT k (a:Int) i=((a/2^n:Nat):Int):=by
 rw[HN a h hn,Nat.shiftRight_eq_div_pow]
theorem Nc {x:Nat}(y:Nat):u64.wrap ((x:Int)+(y:Int))=(((x+y)%2^64:Nat):Int):=by
 rw[rE,<-Int.natCast_add];rfl
theorem Nd (x y:Nat):u64.wrap ((x:Int)*(y:Int))=(((x*y)%2^64:Nat):Int):=by
 rw[rE,<-Int.natCast_mul];rfl
theorem Cells.shift {H:Hp}{A:OA}{vs:List Value}(h:Cells H A vs){m l:Nat}(hm:vs.length<=m):Cells H (jk A m l 1) (vs.drop l):=fun i v hi=>by
 rw[List.getElem?_drop]at hi;have hlt:=(List.getElem?_eq_some_iff.1 hi).1;unfold jk;rw[if_neg (by omega)];obtain⟨a,rfl,hc⟩:=h _ _ hi;exact⟨_,rfl,by rw[add_add,Nat.mul_one];exact hc⟩
theorem Cells.take {H:Hp}{A:OA}{vs:List Value}(h:Cells H A vs)(n:Nat):Cells H A (vs.take n):=fun i v hi=>by
 rw[List.getElem?_take]at hi;split at hi
 .exact h i v hi
 .cases hi
def ln :List UInt8->Nat
 | []=>0
 |b::l=>b.toNat+256*ln l
theorem B5 :∀ l:List UInt8,ln l<256^l.length
 | []=>by simp[ln]
 |b::l=>by
  have h1:=B5 l;have h2:b.toNat<256:=b.toNat_lt;unfold ln;rw[List.length_cons,Nat.pow_succ];have:256*ln l+256<=256^l.length*256:=by
   have:ln l+1<=256^l.length:=h1;omega
  omega
theorem I3 {l:List UInt8}{j:Nat}(h:j<l.length):ln (l.drop j)=l[j].toNat+256*ln (l.drop (j+1)):=by
 rw[List.drop_eq_getElem_cons h];rfl
theorem DV {l:List UInt8}(h:l.length<=8):ln l<2^64:=by
 have h1:=B5 l;have h2:256^l.length<=256^8:=Nat.pow_le_pow_right (by omega) h;rw[show(2:Nat)^64=256^8 by decide];omega
def qU :Nat->Nat->List UInt8
 |0,_=>[]
 |n+1,x=>UInt8.ofNat x::qU n (x/256)
theorem xW :∀ n x,ln (qU n x)=x%256^n
 |0,x=>by simp[qU,ln,Nat.mod_one]
 |n+1,x=>by
  unfold qU ln;rw[xW n,UInt8.toNat_ofNat',show(256:Nat)^(n+1)=256*256^n by rw[Nat.pow_succ,Nat.mul_comm],Nat.mod_mul]
theorem Db (n:Nat):∀ x,(List.range n).map (fun k=>UInt8.ofNat (x/256^k))=qU n x:=by
 induction n with
 |zero=>intro x;rfl
 |succ n ih=>
  intro x;rw[List.range_succ_eq_map];simp only[List.map_cons,List.map_map,Nat.pow_zero,Nat.div_one];unfold qU;rw[<- ih (x/256)];congr 1;apply List.map_congr_left;intro k _;simp only[Function.comp];rw[Nat.div_div_eq_div_mul,Nat.pow_succ,Nat.mul_comm]
end Go.Hw
namespace Go.Proofs.YtlgnlghmbcpmhaaGreatDoor
open Tryz (prog)
namespace W
open Go Go.Hw
theorem gu :prog.follows .mixedOrders=true:=by kernel_rfl
def qi (x1 x2:Int)(H:Hp)(K:VK):Prop:=
 ao (decide (x1<1)) (K (.pointer none) H) (ao (decide (x1>1048576)) (K (.pointer none) H) (ao (decide (x2<32)) (K (.pointer none) H) (ao (decide (x2>4096)) (K (.pointer none) H) (ao ((cU .i64 x2 (i64.wrap (x2-1))) !=0) (K (.pointer none) H) ((x2≠0/\i64=i64/\ao (decide (x1>(i64.wrap (Int.tdiv 67108864 x2)))) (K (.pointer none) H) (Nw H (.obj (.map #[] 0)) fun b1 H1=>Nw H1 (.obj (.map #[] 0)) fun b2 H2=>Nw H2 (.obj (.map #[] 0)) fun b3 H3=>Nw H3 (Oq #[I x1,I x2,.map (some b1),I 0,I 0,I 0,.map (some b2),.bool false,I 0,.map (some b3)] 62) fun b4 H4=>K (V b4) H4)))))))
theorem qi.ok x1 x2 H K (h:qi x1 x2 H K):ae prog 14 #[I x1,I x2] H K:=
 cg gu Tryz.func14 rfl rfl h
def kt (p1:OA)(x1:Int)(H:Hp)(K:VK):Prop:=
 NN p1 fun a1=>St H ((a1.add 1).add 0) (I (if 0>x1 then 0 else x1)) fun H1=>K (.tuple #[]) H1
theorem kt.ok p1 x1 H K (h:kt p1 x1 H K):ae prog 23 #[.pointer p1,I x1] H K:=
 cg gu Tryz.func23 rfl rfl h
def kq (p1:OA)(H:Hp)(K:VK):Prop:=
 NN p1 fun a1=>Do H (a1.add 0) fun c1=>K (.bool c1) H
theorem kq.ok p1 H K (h:kq p1 H K):ae prog 24 #[.pointer p1] H K:=
 cg gu Tryz.func24 rfl rfl h
def jO (p1:OA)(H:Hp)(K:VK):Prop:=
 NN p1 fun a1=>St H ((a1.add 0).add 0) (.bool true) fun H1=>NN p1 fun a2=>St H1 ((a2.add 1).add 0) (I 0) fun H2=>K (.tuple #[]) H2
theorem jO.ok p1 H K (h:jO p1 H K):ae prog 25 #[.pointer p1] H K:=
 cg gu Tryz.func25 rfl rfl h
def cP.l4 (K:VK):Nat->OA->OA->Nat->Nat->OA->Nat->Nat->Int->Int->Hp->Prop
 |0,_,_,_,_,_,_,_,_,_,_=>False
 |k+1,p2,A3,n3,m3,A4,n4,m4,x1,x2,H=>
  let R4:=cP.l4 K k
  ao (decide (x2<x1)) (cX x2 n4 (NN A4 fun a2=>aM H (a2.add (x2.toNat*1)) fun x3=>ao (decide (x2<(n3:Int))) (cX x2 n3 (NN A3 fun a3=>Do H (a3.add (x2.toNat*1)) fun c2=>ao c2 (NN p2 fun a4=>rL H ((a4.add 0).add 2) fun r1=>NN p2 fun a5=>rL H (a5.add 9) fun r2=>tZ prog (Instr.lookup 51 (.map r2) (I x3) false) H fun v7=>DS v7 fun s1=>ia prog (Instr.mapUpdate 51 (.map r1) (I x3) (.string s1)) H fun _ H2=>R4 p2 A3 n3 m3 A4 n4 m4 x1 (i64.wrap (x2+1)) H2) (R4 p2 A3 n3 m3 A4 n4 m4 x1 (i64.wrap (x2+1)) H))) (R4 p2 A3 n3 m3 A4 n4 m4 x1 (i64.wrap (x2+1)) H))) (NN p2 fun a6=>rL H (a6.add 9) fun r3=>ia prog (Builtin.clear_ #[51] 0 #[.map r3]) H fun v9 H3=>NN p2 fun a7=>St H3 (((a7.add 7).add 0).add 0) (.bool false) fun H4=>K (I 0) H4)
def cP (p1 A1:OA)(n1 m1:Nat)(H:Hp)(K:VK):Prop:=
 NN p1 fun a1=>Do H ((a1.add 7).add 0) fun c1=>ao (!c1) (K (I 5) H) (jF 78 #[.pointer p1] H fun A2 n2 m2 H1=>(∃ k,cP.l4 K k p1 A1 n1 m1 A2 n2 m2 (n2:Int) 0 H1))
def cP.l4.L (K:VK)(k:Nat):dm:=fun E D H=>
 eP E 0 fun p2=>DG (E.get? 1) fun w1=>aF w1 fun A3 n3 m3=>DG (E.get? 14) fun w14=>aF w14 fun A4 n4 m4=>eI E 15 .i64 fun x1=>eI E 16 .i64 fun x2=>az D (cP.l4 K k p2 A3 n3 m3 A4 n4 m4 x1 x2 H)
def cP.Λ4 (_:VK)(_R4:OA→OA→Nat→Nat→OA→Nat→Nat→Int→Int→Hp→Prop):aN:=aN.none (fun i=>match Nat.beq i 7 with|true=>some ([],[0,1,2,3,4,5,6,7,8,9,10,11],12)|false=>none)
def cP.Λ (K:VK):aN:=⟨fun i=>none,fun i=>match Nat.beq i 4 with|true=>some (fun E D H=>∃ k,cP.l4.L K k E D H)|false=>none,(fun i=>match Nat.beq i 7 with|true=>some ([],[0,1,2,3,4,5,6,7,8,9,10,11],12)|false=>none)⟩
theorem cP.ok p1 A1 n1 m1 H K (h:cP p1 A1 n1 m1 H K):ae prog 26 #[.pointer p1,.slice A1 n1 m1] H K:=
 dX (Λ:=(cP.Λ K)) gu Tryz.func26 rfl rfl h (oC (fun E D H h=>by
   refine Safe.c0 (cP.l4.L K) (fun E D H h=>?_) (fun k E D H h=>?_) E D H h
   .obtain⟨w0,e0,g1⟩:=DG.out h;obtain⟨p2,rfl,g2⟩:=DP.out g1;obtain⟨w1,e1,g3⟩:=DG.out g2;obtain⟨A3,n3,m3,rfl,g4⟩:=aF.out g3;obtain⟨w14,e14,g5⟩:=DG.out g4;obtain⟨A4,n4,m4,rfl,g6⟩:=aF.out g5;obtain⟨w15,e15,g7⟩:=DG.out g6;obtain⟨x1,rfl,g8⟩:=DI.out g7;obtain⟨w16,e16,g9⟩:=DG.out g8;obtain⟨x2,rfl,g10⟩:=DI.out g9;obtain⟨rfl,h'⟩:=az.out g10;exact h'
   .obtain⟨p2,e0,g2⟩:=GP h;obtain⟨w1,e1,g3⟩:=DG.out g2;obtain⟨A3,n3,m3,rfl,g4⟩:=aF.out g3;obtain⟨w14,e14,g5⟩:=DG.out g4;obtain⟨A4,n4,m4,rfl,g6⟩:=aF.out g5;obtain⟨x1,e15,g8⟩:=GI g6;obtain⟨x2,e16,g10⟩:=GI g8;obtain⟨rfl,h'⟩:=az.out g10;exact cY (Λ:=(cP.Λ4 K (cP.l4 K k))) gu [] (ag.cons e0 (ag.cons e1 (ag.cons e14 (ag.cons e15 (ag.cons e16 (ag.nil _)))))) h' oN) oN)
def kS (p1:OA)(x1:Int)(H:Hp)(K:VK):Prop:=
 cF 92 #[.pointer p1,I x1] H fun x2 H1=>ao (x2 !=0) (K (.tuple #[.slice none 0 0,I x2]) H1) (NN p1 fun a1=>fS 93 #[.pointer (some (a1.add 7))] H1 fun c1 H2=>ao c1 (K (.tuple #[.slice none 0 0,I 8]) H2) (NN p1 fun a2=>aM H2 (((a2.add 3).add 0).add 0) fun x3=>NN p1 fun a3=>St H2 ((((a3.add 3).add 0).add 0).add 0) (I (i64.wrap (x3+1))) fun H3=>NN p1 fun a4=>rL H3 (a4.add 9) fun r1=>tZ prog (Instr.lookup 51 (.map r1) (I x1) true) H3 fun v5=>Mm v5 fun s1 c2=>(ao c2 (Mf 5 s1 H3 fun v8 H4=>aF v8 fun A1 n1 m1=>K (.tuple #[.slice A1 n1 m1,I 0]) H4) (NN p1 fun a5=>jF 94 #[.pointer (some (a5.add 0)),I x1] H3 fun A2 n2 m2 H5=>K (.tuple #[.slice A2 n2 m2,I 0]) H5))))
theorem kS.ok p1 x1 H K (h:kS p1 x1 H K):ae prog 46 #[.pointer p1,I x1] H K:=
 cg gu Tryz.func46 rfl rfl h
def kj (p1:OA)(x1:Int)(A1:OA)(n1 m1:Nat)(H:Hp)(K:VK):Prop:=
 cF 92 #[.pointer p1,I x1] H fun x2 H1=>ao (x2 !=0) (K (I x2) H1) (NN p1 fun a1=>aM H1 ((a1.add 0).add 1) fun x3=>ao ((n1:Int) !=x3) (K (I 19) H1) (NN p1 fun a2=>fS 93 #[.pointer (some (a2.add 7))] H1 fun c1 H2=>ao c1 (K (I 8) H2) (NN p1 fun a3=>aM H2 (((a3.add 3).add 0).add 1) fun x4=>NN p1 fun a4=>St H2 ((((a4.add 3).add 0).add 1).add 0) (I (i64.wrap (x4+1))) fun H3=>NN p1 fun a5=>rL H3 ((a5.add 3).add 3) fun r1=>ia prog (Instr.mapUpdate 56 (.map r1) (I x1) (I 1)) H3 fun _ H4=>NN p1 fun a6=>rL H4 (a6.add 9) fun r2=>JR H4 A1 n1 fun s1=>ia prog (Instr.mapUpdate 51 (.map r2) (I x1) (.string s1)) H4 fun _ H5=>K (I 0) H5)))
theorem kj.ok p1 x1 A1 n1 m1 H K (h:kj p1 x1 A1 n1 m1 H K):ae prog 47 #[.pointer p1,I x1,.slice A1 n1 m1] H K:=
 mY (fun i=>match Nat.beq i 10 with|true=>some ([],[0,1,2,3,4,5,6],7)|false=>none) gu Tryz.func47 rfl rfl h
def ki (p1:OA)(H:Hp)(K:VK):Prop:=
 NN p1 fun a1=>rL H (a1.add 9) fun r1=>Hz 138 #[.map r1] H fun v2 H1=>jF 137 #[v2] H1 fun A1 n1 m1 H2=>K (.slice A1 n1 m1) H2
theorem ki.ok p1 H K (h:ki p1 H K):ae prog 78 #[.pointer p1] H K:=
 cg gu Tryz.func78 rfl rfl h
def km (p1:OA)(x1:Int)(H:Hp)(K:VK):Prop:=
 NN p1 fun a1=>Do H ((a1.add 7).add 0) fun c1=>ao c1 (K (I 8) H) (ao (decide (x1<0)) (K (I 2) H) (NN p1 fun a2=>aM H ((a2.add 0).add 0) fun x2=>ao (decide (x1>=x2)) (K (I 2) H) (K (I 0) H)))
theorem km.ok p1 x1 H K (h:km p1 x1 H K):ae prog 92 #[.pointer p1,I x1] H K:=
 cg gu Tryz.func92 rfl rfl h
def jP (p1:OA)(H:Hp)(K:VK):Prop:=
 NN p1 fun a1=>aM H (a1.add 1) fun x1=>ao (x1==0) (K (.bool false) H) (NN p1 fun a2=>aM H (a2.add 1) fun x2=>NN p1 fun a3=>St H ((a3.add 1).add 0) (I (i64.wrap (x2-1))) fun H1=>NN p1 fun a4=>aM H1 (a4.add 1) fun x3=>NN p1 fun a5=>St H1 ((a5.add 0).add 0) (.bool (x3==0)) fun H2=>NN p1 fun a6=>Do H2 (a6.add 0) fun c1=>K (.bool c1) H2)
theorem jP.ok p1 H K (h:jP p1 H K):ae prog 93 #[.pointer p1] H K:=
 cg gu Tryz.func93 rfl rfl h
def ko (p1:OA)(x1:Int)(H:Hp)(K:VK):Prop:=
 NN p1 fun a1=>aM H (a1.add 1) fun x2=>lj prog 5 x2 x2 H fun v2 H1=>aF v2 fun A1 n1 m1=>NN p1 fun a2=>rL H1 (a2.add 2) fun r1=>tZ prog (Instr.lookup 51 (.map r1) (I x1) false) H1 fun v4=>DS v4 fun s1=>rI prog 5 (.slice A1 n1 m1) (.string s1) H1 fun v5 H2=>DI .i64 v5 fun x3=>K (.slice A1 n1 m1) H2
theorem ko.ok p1 x1 H K (h:ko p1 x1 H K):ae prog 94 #[.pointer p1,I x1] H K:=
 cg gu Tryz.func94 rfl rfl h
def iC (p1:OA)(H:Hp)(K:VK):Prop:=
 NN p1 fun a1=>aM H (a1.add 0) fun x1=>K (I x1) H
theorem iC.ok p1 H K (h:iC p1 H K):ae prog 123 #[.pointer p1] H K:=
 cg gu Tryz.func123 rfl rfl h
def jN (p1:OA)(H:Hp)(K:VK):Prop:=
 NN p1 fun a1=>aM H (a1.add 1) fun x1=>K (I x1) H
theorem jN.ok p1 H K (h:jN p1 H K):ae prog 124 #[.pointer p1] H K:=
 cg gu Tryz.func124 rfl rfl h
def kT (p1:OA)(H:Hp)(K:VK):Prop:=
 NN p1 fun a1=>Do H ((a1.add 7).add 0) fun c1=>ao c1 (K (I 8) H) (NN p1 fun a2=>fS 93 #[.pointer (some (a2.add 7))] H fun c2 H1=>ao c2 (K (I 8) H1) (NN p1 fun a3=>aM H1 (((a3.add 3).add 0).add 2) fun x1=>NN p1 fun a4=>St H1 ((((a4.add 3).add 0).add 2).add 0) (I (i64.wrap (x1+1))) fun H2=>NN p1 fun a5=>rL H2 ((a5.add 0).add 2) fun r1=>NN p1 fun a6=>rL H2 (a6.add 9) fun r2=>Hz 183 #[.map r1,.map r2] H2 fun v6 H3=>NN p1 fun a7=>rL H3 (a7.add 9) fun r3=>ia prog (Builtin.clear_ #[51] 0 #[.map r3]) H3 fun v8 H4=>K (I 0) H4))
theorem kT.ok p1 H K (h:kT p1 H K):ae prog 127 #[.pointer p1] H K:=
 mY (fun i=>match Nat.beq i 4 with|true=>some ([],[0,1,2,3,4,5,6,7,8],9)|false=>none) gu Tryz.func127 rfl rfl h
end W
namespace Dsk
open Go Go.Hw W
structure D where
 sec:Nat
 size:Nat
 safe:Int->Option (List UInt8)
 cache:Int->Option (List UInt8)
 ij:Int->Bool
 rd:Nat
 wr:Nat
 sy:Nat
 down:Bool
 aI:Nat
def uY (l:List UInt8):Value:=.string ⟨l.toArray⟩
def eW (m:Int->Option (List UInt8)):Int->Option Value:=fun k=>(m k).map uY
def rC (m:Int->Bool):Int->Option Value:=fun k=>if m k then some (I 1)else none
def sg (d:D)(r1 r2 r3:Nat):AO:=Oq #[I d.sec,I d.size,.map (some r1),I d.rd,I d.wr,I d.sy,.map (some r2),.bool d.down,I d.aI,.map (some r3)] 62
structure Ok (d:D):Prop where
 sec:1<=d.sec/\d.sec<=1048576
 size:32<=d.size/\d.size<=4096
 lk:d.sec*d.size<=67108864
 aa:d.size%8=0
 safe:∀ k b,d.safe k=some b->b.length=d.size
 cache:∀ k b,d.cache k=some b->b.length=d.size
 fz:d.aI<=9223372036854775807
def Dk (p:Nat)(d:D):As:=fun H=>∃ r1 r2 r3,Sep [af p (sg d r1 r2 r3),Mp r1 (eW d.safe),Mp r2 (rC d.ij),Mp r3 (eW d.cache)] H
theorem Sep.fold {M L:List As}{A:As}{H:Hp}(h:Sep (M++L) H)(k:∀ H1,Sep M H1->A H1):Sep (A::L) H:=by
 obtain⟨H1,H2,h1,h2,h3,h4,h5⟩:=h.append;exact⟨H1,H2,h1,h2,h3,k H1 h4,h5⟩
theorem Dk.open {p:Nat}{d:D}{L:List As}{H:Hp}(h:Sep (Dk p d::L) H):∃ r1 r2 r3,Sep (af p (sg d r1 r2 r3)::Mp r1 (eW d.safe)::Mp r2 (rC d.ij)::Mp r3 (eW d.cache)::L) H:=by
 obtain⟨H1,H2,h1,h2,h3,⟨r1,r2,r3,h4⟩,h5⟩:=h;exact⟨r1,r2,r3,Sep.join h1 h2 h3 h4 h5⟩
theorem Dk.shut {p:Nat}{d:D}{r1 r2 r3:Nat}{L:List As}{H:Hp}(h:Sep (af p (sg d r1 r2 r3)::Mp r1 (eW d.safe)::Mp r2 (rC d.ij)::Mp r3 (eW d.cache)::L) H):Sep (Dk p d::L) H:=
 Sep.fold (M:=[af p (sg d r1 r2 r3),Mp r1 (eW d.safe),Mp r2 (rC d.ij),Mp r3 (eW d.cache)]) h fun H1 h1=>⟨r1,r2,r3,h1⟩
theorem Dk.fE {p:Nat}{d:D}{L:List As}{H:Hp}(h:Sep L H)(i:Nat)(hi:L[i]? =some (Dk p d)):∃ r1 r2 r3,H p=some (sg d r1 r2 r3):=by
 obtain⟨H1,⟨r1,r2,r3,h1⟩,hle⟩:=h.fE i hi;exact⟨r1,r2,r3,hle _ _ (h1.get 0 rfl)⟩
section
variable {L : List As} {H : Hp} {p : Nat} {d : D}
theorem lO (h:Sep L H)(i:Nat)(hi:L[i]? =some (Dk p d)):ae prog 123 #[V p] H (RetE (I (d.sec:Int)) H):=by
 obtain⟨r1,r2,r3,hd⟩:=Dk.fE h i hi;apply iC.ok;unfold iC;simp only[HS];refine eV hd (v:=I d.sec) rfl ?_;simp only[HV];exact RetE.mk _ _
theorem qP (h:Sep L H)(i:Nat)(hi:L[i]? =some (Dk p d)):ae prog 124 #[V p] H (RetE (I (d.size:Int)) H):=by
 obtain⟨r1,r2,r3,hd⟩:=Dk.fE h i hi;apply jN.ok;unfold jN;simp only[HS];refine eV hd (v:=I d.size) rfl ?_;simp only[HV];exact RetE.mk _ _
theorem L2 (h:Sep L H)(i:Nat)(hi:L[i]? =some (Dk p d)):ae prog 24 #[.pointer (some ⟨p,7,none⟩)] H (RetE (.bool d.down) H):=by
 obtain⟨r1,r2,r3,hd⟩:=Dk.fE h i hi;apply kq.ok;unfold kq;simp only[HS];refine eV hd (v:=.bool d.down) rfl ?_;simp only[HV];exact RetE.mk _ _
def D.kE (d:D)(i:Int):Int:=if d.down then 8 else if i<0\/i>=d.sec then 2 else 0
theorem vl (h:Sep L H)(i:Nat)(hi:L[i]? =some (Dk p d))(x:Int):ae prog 92 #[V p,I x] H (RetE (I (d.kE x)) H):=by
 obtain⟨r1,r2,r3,hd⟩:=Dk.fE h i hi;apply km.ok;unfold km;simp only[HS];refine eV hd (v:=.bool d.down) rfl ?_;simp only[HV];unfold D.kE;cases d.down with
 |true=>exact RetE.mk _ _
 |false=>
  simp only[HV];rw[if_neg (by simp)];by_cases h1:x<0
  .rw[if_pos (.inl h1)];exact aC h1 (RetE.mk _ _)
  .refine aw h1 ?_;refine eV hd (v:=I d.sec) rfl ?_;simp only[HV];by_cases h2:x>=d.sec
   .rw[if_pos (.inr h2)];exact aC h2 (RetE.mk _ _)
   .rw[if_neg (by omega)];exact aw h2 (RetE.mk _ _)
end
def D.bC (d:D):D:=if d.aI=0 then d else{ d with aI:=d.aI-1,down:=decide (d.aI=1)}
def D.dG (d:D):Bool:=decide (d.aI=1)
theorem wu {p:Nat}{d:D}(hf:d.aI<=9223372036854775807):Tr prog 93 #[.pointer (some ⟨p,7,none⟩)] [Dk p d] fun v M=>v= .bool d.dG/\M=[Dk p d.bC]:=fun H hs=>by
 obtain⟨r1,r2,r3,hs⟩:=Dk.open hs;apply jP.ok;unfold jP;simp only[HS];refine hs.ld 0 rfl rfl ?_;simp only[HV];by_cases h0:d.aI=0
 .refine aL (by omega) ⟨_,⟨?_,rfl⟩,?_⟩
  .unfold D.dG;rw[h0];rfl
  .have:d.bC=d:=by unfold D.bC;rw[if_pos h0]
   rw[this];exact Dk.shut hs
 .refine aK (by omega) ?_;refine hs.ld 0 rfl rfl ?_;simp only[HV];refine hs.st 0 rfl (by show 8<10;omega) rfl fun H hs=>?_;refine hs.ld 0 rfl rfl ?_;simp only[HV];rw[bu (x:=(d.aI:Int)-1)]at hs⊢;refine hs.st 0 rfl (by show 7<10;omega) rfl fun H hs=>?_;refine hs.ld 0 rfl rfl ?_;simp only[HV];have e:((d.aI:Int)-1==0)=d.dG:=by
   unfold D.dG;by_cases h1:d.aI=1
   .simp[h1]
   .rw[decide_eq_false h1];simp;omega
  rw[e]at hs⊢;refine⟨_,⟨rfl,rfl⟩,?_⟩;have hb:d.bC={ d with aI:=d.aI-1,down:=d.dG}:=by unfold D.bC;rw[if_neg h0];rfl
  rw[hb];refine Dk.shut (r1:=r1) (r2:=r2) (r3:=r3) ?_;have ef:((d.aI-1:Nat):Int)=(d.aI:Int)-1:=by omega
  unfold sg;simp only[ef];exact hs
end Dsk
namespace W
open Go Go.Hw
theorem iq :prog.follows .mixedOrders=true:=by kernel_rfl
def px (x1 x2 x3:Int)(H:Hp)(K:VK):Prop:=
 Nw H (Oq #[I 0,I 0,I 0,I 0,I 0,I 0,I 0,I 0,I 0,I 0,I 0,I 0,I 0,I 0,I 0,I 0,I 0] 153) fun b1 H1=>Hz 251 #[I x1,I x3] H1 fun v1 H2=>ua v1 fun x4 x5=>(ao (x5 !=0) (bR H2 (O b1) #[I 0,I 0,I 0,I 0,I 0,I 0,I 0,I 0,I 0,I 0,I 0,I 0,I 0,I 0,I 0,I 0,I 0] 17 fun H3=>aJ H3 (O b1) 17 fun l4=>K (.tuple #[.agg l4.toArray,I x5]) H3) (ao (decide (x2<x4)) (bR H2 (O b1) #[I 0,I 0,I 0,I 0,I 0,I 0,I 0,I 0,I 0,I 0,I 0,I 0,I 0,I 0,I 0,I 0,I 0] 17 fun H4=>aJ H4 (O b1) 17 fun l5=>K (.tuple #[.agg l5.toArray,I 7]) H4) (cF 253 #[I x3] H2 fun x6 H5=>qg 252 #[I x1,I x6] H5 fun y1 H6=>bR H6 (O b1) y1 17 fun H7=>aJ H7 (O b1) 17 fun l6=>K (.tuple #[.agg l6.toArray,I 0]) H7)))
theorem px.ok x1 x2 x3 H K (h:px x1 x2 x3 H K):ae prog 181 #[I x1,I x2,I x3] H K:=
 cg iq Tryz.func181 rfl rfl h
def nk (x1 x2:Int)(H:Hp)(K:VK):Prop:=
 cF 253 #[I x2] H fun x3 H1=>fS 313 #[I x1,I x3] H1 fun c1 H2=>ao (!c1) (K (.tuple #[I 0,I 1]) H2) (cF 253 #[I x2] H2 fun x4 H3=>cF 314 #[I x1,I x4] H3 fun x5 H4=>K (.tuple #[I x5,I 0]) H4)
theorem nk.ok x1 x2 H K (h:nk x1 x2 H K):ae prog 251 #[I x1,I x2] H K:=
 cg iq Tryz.func251 rfl rfl h
def dy.l4 (K:VK):Nat->Int->Addr->Addr->Int->Int->Int->Hp->Prop
 |0,_,_,_,_,_,_,_=>False
 |k+1,x4,a1,a2,x5,x6,x7,H=>
  let R4:=dy.l4 K k
  ao (decide (x7<4)) ((0<=(u64.wrap x4)/\cX x7 4 (bR H ((a2.add 5).add (x7.toNat*3)) #[I x5,I x6,I (dA .i64 1 (u64.wrap x4))] 3 fun H5=>R4 x4 a1 a2 (i64.wrap (x5+x6)) x6 (i64.wrap (x7+1)) H5))) (aJ H a2 17 fun l1=>bR H a1 l1.toArray 17 fun H6=>aJ H6 a1 17 fun l2=>K (.agg l2.toArray) H6)
def dy (x1 x2:Int)(H:Hp)(K:VK):Prop:=
 Nw H (Oq #[I 0,I 0,I 0,I 0,I 0,I 0,I 0,I 0,I 0,I 0,I 0,I 0,I 0,I 0,I 0,I 0,I 0] 153) fun b1 H1=>Nw H1 (Oq #[I 0,I 0,I 0,I 0,I 0,I 0,I 0,I 0,I 0,I 0,I 0,I 0,I 0,I 0,I 0,I 0,I 0] 153) fun b2 H2=>bR H2 (O b2) #[I x1,I x2,I 1,I 8,I (i64.wrap (8*x2)),I 0,I 0,I 0,I 0,I 0,I 0,I 0,I 0,I 0,I 0,I 0,I 0] 17 fun H3=>cF 315 #[I x1,I x2] H3 fun x3 H4=>(∃ k,dy.l4 K k x1 (O b1) (O b2) 9 x3 0 H4)
def dy.l4.L (K:VK)(k:Nat):dm:=fun E D H=>
 eI E 0 .i64 fun x4=>eN E 4 fun a1=>eN E 5 fun a2=>eI E 6 .i64 fun x5=>eI E 7 .i64 fun x6=>eI E 18 .i64 fun x7=>az D (dy.l4 K k x4 a1 a2 x5 x6 x7 H)
def dy.Λ4 (_:VK)(_R4:Int->Addr->Addr->Int->Int->Int->Hp->Prop):aN:=aN.none (fun _=>none)
def dy.Λ (K:VK):aN:=⟨fun i=>none,fun i=>match Nat.beq i 4 with|true=>some (fun E D H=>∃ k,dy.l4.L K k E D H)|false=>none,(fun _=>none)⟩
theorem dy.ok x1 x2 H K (h:dy x1 x2 H K):ae prog 252 #[I x1,I x2] H K:=
 dX (Λ:=(dy.Λ K)) iq Tryz.func252 rfl rfl h (oC (fun E D H h=>by
   refine Safe.c0 (dy.l4.L K) (fun E D H h=>?_) (fun k E D H h=>?_) E D H h
   .obtain⟨w0,e0,g1⟩:=DG.out h;obtain⟨x4,rfl,g2⟩:=DI.out g1;obtain⟨w4,e4,g3⟩:=DG.out g2;obtain⟨pw4,rfl,g4⟩:=DP.out g3;obtain⟨a1,rfl,g5⟩:=NN.out g4;obtain⟨w5,e5,g6⟩:=DG.out g5;obtain⟨pw5,rfl,g7⟩:=DP.out g6;obtain⟨a2,rfl,g8⟩:=NN.out g7;obtain⟨w6,e6,g9⟩:=DG.out g8;obtain⟨x5,rfl,g10⟩:=DI.out g9;obtain⟨w7,e7,g11⟩:=DG.out g10;obtain⟨x6,rfl,g12⟩:=DI.out g11;obtain⟨w18,e18,g13⟩:=DG.out g12;obtain⟨x7,rfl,g14⟩:=DI.out g13;obtain⟨rfl,h'⟩:=az.out g14;exact h'
   .obtain⟨x4,e0,g2⟩:=GI h;obtain⟨a1,e4,g5⟩:=GN g2;obtain⟨a2,e5,g8⟩:=GN g5;obtain⟨x5,e6,g10⟩:=GI g8;obtain⟨x6,e7,g12⟩:=GI g10;obtain⟨x7,e18,g14⟩:=GI g12;obtain⟨rfl,h'⟩:=az.out g14;exact cY (Λ:=(dy.Λ4 K (dy.l4 K k))) iq [] (ag.cons e0 (ag.cons e4 (ag.cons e5 (ag.cons e6 (ag.cons e7 (ag.cons e18 (ag.nil _))))))) h' oN) oN)
def og (x1:Int)(H:Hp)(K:VK):Prop:=
 ao (decide (x1<32)) (K (I 0) H) (ao (decide (x1>4096)) (K (I 0) H) (ao ((cU .i64 x1 (i64.wrap (x1-1))) !=0) (K (I 0) H) (((8:Int)≠0/\i64=i64/\K (I (i64.wrap (Int.tdiv x1 8))) H))))
theorem og.ok x1 H K (h:og x1 H K):ae prog 253 #[I x1] H K:=
 cg iq Tryz.func253 rfl rfl h
def nj (y1:Array Value)(H:Hp)(K:VK):Prop:=
 Nw H (Oq y1 153) fun b1 H1=>aM H1 ((O b1).add 0) fun x1=>aM H1 ((O b1).add 1) fun x2=>fc 253 #[I (i64.wrap ((if 4096<x2 then 4096 else x2)*8))] H1 fun x3=>JY 313 #[I x1,I x3] H1 fun c1=>ao c1 (aJ H1 (O b1) 17 fun l1=>aM H1 ((O b1).add 0) fun x4=>aM H1 ((O b1).add 1) fun x5=>Ds 252 #[I x4,I x5] H1 fun y2=>qf prog .eql 153 (.agg l1.toArray) (.agg y2) fun c2=>K (.bool c2) H1) (K (.bool false) H1)
theorem nj.ok y1 H K (h:nj y1 H K):ae prog 295 #[.agg y1] H K:=
 cg iq Tryz.func295 rfl rfl h
def nm (x1 x2:Int)(H:Hp)(K:VK):Prop:=
 ao (decide (x1>=0)) (ao (decide (x1<=(32:Int))) (K (.bool (decide (x2>0))) H) (K (.bool false) H)) (K (.bool false) H)
theorem nm.ok x1 x2 H K (h:nm x1 x2 H K):ae prog 313 #[I x1,I x2] H K:=
 cg iq Tryz.func313 rfl rfl h
def np (x1 x2:Int)(H:Hp)(K:VK):Prop:=
 cF 315 #[I x1,I x2] H fun x3 H1=>K (I (i64.wrap (9+(i64.wrap (4*x3))))) H1
theorem np.ok x1 x2 H K (h:np x1 x2 H K):ae prog 314 #[I x1,I x2] H K:=
 cg iq Tryz.func314 rfl rfl h
def nq (x1 x2:Int)(H:Hp)(K:VK):Prop:=
 (0<=(u64.wrap x1)/\(x2≠0/\i64=i64/\K (I (i64.wrap ((i64.wrap (Int.tdiv (i64.wrap ((dA .i64 1 (u64.wrap x1))-1)) x2))+1))) H))
theorem nq.ok x1 x2 H K (h:nq x1 x2 H K):ae prog 315 #[I x1,I x2] H K:=
 cg iq Tryz.func315 rfl rfl h
def lI (x1 x2 x3 x4 x5:Int)(H:Hp)(K:VK):Prop:=
 Nw H (Oq #[I x1,I x2,I x3] 150) fun b1 H1=>ao (decide (x4<1)) (K (.tuple #[I 0,I 0,I 2]) H1) (ao (decide (x5<0)) (K (.tuple #[I 0,I 0,I 2]) H1) (aM H1 ((O b1).add 2) fun x6=>ao (decide (x5>=x6)) (K (.tuple #[I 0,I 0,I 2]) H1) ((x4≠0/\i64=i64/\aM H1 ((O b1).add 1) fun x7=>ao (decide ((i64.wrap (Int.tdiv x5 x4))>=x7)) (K (.tuple #[I 0,I 0,I 2]) H1) (aM H1 ((O b1).add 0) fun x8=>(x4≠0/\i64=i64/\(x4≠0/\i64=i64/\K (.tuple #[I (i64.wrap (x8+(i64.wrap (Int.tdiv x5 x4)))),I (Int.tmod x5 x4),I 0]) H1)))))))
theorem lI.ok x1 x2 x3 x4 x5 H K (h:lI x1 x2 x3 x4 x5 H K):ae prog 316 #[.agg #[I x1,I x2,I x3],I x4,I x5] H K:=
 cg iq Tryz.func316 rfl rfl h
end W
namespace Lay
open Go Go.Hw W
def cc (s:Int):Nat:=if s=32 then 4 else if s=64 then 8 else if s=128 then 16 else if s=256 then 32 else if s=512 then 64 else if s=1024 then 128 else if s=2048 then 256 else if s=4096 then 512 else 0
theorem th {x y:Nat}(hx:x<2^63)(hy:y<2^63):cU .i64 (x:Int) (y:Int)=((x&&&y:Nat):Int):=by
 have hle:x&&&y<=x:=Nat.and_le_left;have h1:(BitVec.ofInt 64 (x:Int)&&&BitVec.ofInt 64 (y:Int)).toNat=x&&&y:=by
  simp only[BitVec.toNat_and,BitVec.ofInt_natCast,BitVec.toNat_ofNat];rw[Nat.mod_eq_of_lt (by omega),Nat.mod_eq_of_lt (by omega)]
 unfold cU;rw[show i64.bits=64 from rfl,h1];exact bu
theorem An :(List.range 4097).all (fun n=>if 32<=n then(if n&&&(n-1)==0 then cc n !=0&&n/8==cc n else cc n==0)else true)=true:=by kernel_rfl
theorem tC {s:Int}(h:s<32):cc s=0:=by
 unfold cc
 repeat (rw[if_neg (by omega)])
theorem tA {s:Int}(h:4096<s):cc s=0:=by
 unfold cc
 repeat (rw[if_neg (by omega)])
theorem yb (s:Int)(H:Hp):ae prog 253 #[I s] H (RetE (I (cc s)) H):=by
 apply og.ok;unfold og;rw[iR,iR,LY];by_cases h1:s<32
 .rw[if_pos h1,tC h1];exact RetE.mk _ _
 rw[if_neg h1];by_cases h2:s>4096
 .rw[if_pos h2,tA h2];exact RetE.mk _ _
 rw[if_neg h2];obtain⟨n,rfl⟩:=Int.eq_ofNat_of_zero_le (show 0<=s by omega);have ht:=List.all_eq_true.1 An n (by simp;omega);rw[if_pos (by omega)]at ht;rw[show((n:Int)-1)=((n-1:Nat):Int) by omega,bu,th (by omega) (by omega)];split at ht
 .rename_i h3
  simp only[Bool.and_eq_true,bne_iff_ne,beq_iff_eq]at ht h3;rw[h3,if_neg (by simp)];refine⟨by omega,rfl,RetE.of ?_⟩;rw[show Int.tdiv (n:Int) 8=((n/8:Nat):Int)from rfl,ht.2,bu (by omega) (by have:=ht.2;omega)]
 .rename_i h3
  simp only[beq_iff_eq]at ht h3;rw[if_pos (by simp;omega),ht];exact RetE.mk _ _
def bS (k p:Nat):Nat:=(2^k-1)/p+1
theorem Cx {k p:Nat}(hk:k<=33:=by omega):bS k p<=8589934592:=by
 unfold bS;have h1:2^k<=2^33:=Nat.pow_le_pow_right (by omega) hk;have h2:(2^k-1)/p<=2^k-1:=Nat.div_le_self _ _;have h3:1<=2^k:=Nat.one_le_two_pow;omega
theorem ze {k:Nat}(h:k<=62):(2:Nat)^k<=4611686018427387904:=Nat.pow_le_pow_right (n:=2) (by omega) h
theorem pf {k:Nat}(h:k<=62):dA .i64 1 (k:Int)=((2^k:Nat):Int):=by
 unfold dA;rw[Int.toNat_natCast,show i64.bits=64 from rfl,Nat.min_eq_left (by omega),Int.one_mul];have:=ze h;rw[show((2:Int)^k)=((2^k:Nat):Int) by simp];exact ed
theorem Ej {k p:Nat}(hk:k<=62)(hp:0<p)(hp2:p<2^62)(H:Hp):ae prog 315 #[I k,I p] H (RetE (I (bS k p)) H):=by
 apply nq.ok;unfold nq;have h1:=ze hk;have h2:1<=2^k:=Nat.one_le_two_pow;have h3:(2^k-1)/p<=2^k-1:=Nat.div_le_self _ _;rw[i7,pf hk,bu (x:=((2^k:Nat):Int)-1)];rw[show(((2^k:Nat):Int)-1)=((2^k-1:Nat):Int) by omega,show Int.tdiv ((2^k-1:Nat):Int) (p:Int)=(((2^k-1)/p:Nat):Int)from rfl];refine⟨by omega,by omega,rfl,RetE.of ?_⟩;rw[ed,show((((2^k-1)/p:Nat):Int)+1)=(((2^k-1)/p+1:Nat):Int) by rfl,ed];rfl
theorem mD (k p:Int)(H:Hp):ae prog 313 #[I k,I p] H (RetE (.bool (decide (0<=k/\k<=32/\0<p))) H):=by
 apply nm.ok;unfold nm;rw[iR,iR];by_cases h1:k>=0
 .rw[if_pos h1];by_cases h2:k<=32
  .rw[if_pos h2];refine RetE.of ?_;congr 2;simp;omega
  .rw[if_neg h2];refine RetE.of ?_;congr 1;simp;omega
 .rw[if_neg h1];refine RetE.of ?_;congr 1;simp;omega
def fI (k p:Nat):Nat:=9+4*bS k p
theorem Lc {k p:Nat}(hk:k<=32)(hp:0<p)(hp2:p<2^62)(H:Hp):ae prog 314 #[I k,I p] H (RetE (I (fI k p)) H):=by
 apply np.ok;unfold np;refine ae.use (Ej (by omega) hp hp2 H) ?_
 try simp only[HV]
 have:=Cx (k:=k) (p:=p);refine RetE.of ?_;rw[bu (x:=4*(bS k p:Int)),bu];unfold fI;simp
theorem sP (s:Int):cc s<=512:=by
 unfold cc
 repeat' split
 all_goals omega
def pn (k s:Int):Int×Int:=if 0<=k/\k<=32/\0<cc s then(fI k.toNat (cc s),0)else(0,1)
theorem vf (k s:Int)(H:Hp):ae prog 251 #[I k,I s] H (RetE (.tuple #[I (pn k s).1,I (pn k s).2]) H):=by
 apply nk.ok;unfold nk;refine ae.use (yb s H) ?_
 try simp only[HV]
 refine ae.use (mD k _ H) ?_
 try simp only[HV]
 unfold pn;have hle:=sP s;by_cases h:0<=k/\k<=32/\0<cc s
 .rw[if_pos h];refine bQ (by simp;omega) ?_;refine ae.use (yb s H) ?_
  try simp only[HV]
  obtain⟨n,rfl⟩:=Int.eq_ofNat_of_zero_le h.1;refine ae.use (Lc (by omega) h.2.2 (by omega) H) ?_
  try simp only[HV]
  exact RetE.mk _ _
 .rw[if_neg h];exact cV (by simp;omega) (RetE.mk _ _)
end Lay
namespace W
open Go Go.Hw
theorem z7 :prog.follows .mixedOrders=true:=by kernel_rfl
def aE.l1 (K:VK):Nat->Option Nat->VK
 |0,_,_,_=>False
 |k+1,r3,v2,H=>
  let R1:=aE.l1 K k
  ia prog (Instr.next (v2) false 0) H fun v3 H2=>Ex v3 0 fun v4=>DB v4 fun c1=>ao c1 (ia prog (Instr.entry (v2)) H2 fun v5 H3=>Ex v5 0 fun v6=>DI .i64 v6 fun x1=>Ex v5 1 fun v7=>DS v7 fun s1=>ia prog (Instr.mapUpdate 51 (.map r3) (I x1) (.string s1)) H3 fun _ H4=>R1 r3 v2 H4) (K (.tuple #[]) H2)
def aE (r1 r2:Option Nat)(H:Hp)(K:VK):Prop:=
 ia prog (Instr.range 51 (.map r2)) H fun v1 H1=>(∃ k,aE.l1 K k r1 v1 H1)
def aE.l1.L (K:VK)(k:Nat):dm:=fun E D H=>
 DG (E.get? 0) fun w0=>DM w0 fun r3=>DG (E.get? 7) fun w7=>(fun v2=>az D (aE.l1 K k r3 v2 H)) w7
def aE.Λ1 (_:VK)(_R1:Option Nat->VK):aN:=aN.none (fun _=>none)
def aE.Λ (K:VK):aN:=⟨fun i=>none,fun i=>match Nat.beq i 1 with|true=>some (fun E D H=>∃ k,aE.l1.L K k E D H)|false=>none,(fun _=>none)⟩
theorem aE.ok r1 r2 H K (h:aE r1 r2 H K):ae prog 183 #[.map r1,.map r2] H K:=
 dX (Λ:=(aE.Λ K)) z7 Tryz.func183 rfl rfl h (oC (fun E D H h=>by
   refine Safe.c0 (aE.l1.L K) (fun E D H h=>?_) (fun k E D H h=>?_) E D H h
   .obtain⟨w0,e0,g1⟩:=DG.out h;obtain⟨r3,rfl,g2⟩:=DM.out g1;obtain⟨w7,e7,g3⟩:=DG.out g2;obtain⟨v2,rfl⟩:∃ q,q=w7:=⟨_,rfl⟩;obtain⟨rfl,h'⟩:=az.out g3;exact h'
   .obtain⟨w0,e0,g1⟩:=DG.out h;obtain⟨r3,rfl,g2⟩:=DM.out g1;obtain⟨w7,e7,g3⟩:=DG.out g2;obtain⟨v2,rfl⟩:∃ q,q=w7:=⟨_,rfl⟩;obtain⟨rfl,h'⟩:=az.out g3;exact cY (Λ:=(aE.Λ1 K (aE.l1 K k))) z7 [] (ag.cons e0 (ag.cons e7 (ag.nil _))) h' oN) oN)
end W
namespace Dsk
open Go Go.Hw W
theorem qF :prog.underlying 3=some (.int .i64):=by kernel_rfl
theorem oY :prog.underlying 51=some (.map 3 9):=by kernel_rfl
theorem Nf :prog.underlying 56=some (.map 3 3):=by kernel_rfl
theorem FR :∃ j,prog.info? 9=some j/\j.zero=some (.string ByteArray.empty):=by
 have h:(prog.info? 9).map (·.zero)=some (some (.string ByteArray.empty)):=by kernel_rfl
 obtain⟨j,hj,h2⟩:=Option.map_eq_some_iff.1 h;exact⟨j,hj,h2⟩
theorem Mv :eJ prog 5=some (1,1,some #[.int .u8 0]):=by kernel_rfl
def D.fresh (sec size:Nat):D:=⟨sec,size,fun _=>none,fun _=>none,fun _=>false,0,0,0,false,0⟩
def D.sat (d:D)(i:Int):List UInt8:=(d.safe i).getD (List.replicate d.size 0)
def D.now (d:D)(i:Int):List UInt8:=(d.cache i).getD (d.sat i)
theorem Ok.sat {d:D}(h:Ok d)(i:Int):(d.sat i).length=d.size:=by
 unfold D.sat;cases e:d.safe i with
 |none=>simp
 |some b=>exact h.safe i b e
theorem Ok.now {d:D}(h:Ok d)(i:Int):(d.now i).length=d.size:=by
 unfold D.now;cases e:d.cache i with
 |none=>exact h.sat i
 |some b=>exact h.cache i b e
theorem Ok.bC {d:D}(h:Ok d):Ok d.bC:=by
 unfold D.bC;split
 .exact h
 .exact⟨h.sec,h.size,h.lk,h.aa,h.safe,h.cache,Nat.le_trans (Nat.sub_le _ _) h.fz⟩
theorem Ok.fresh {sec size:Nat}(h1:1<=sec/\sec<=1048576)(h2:0<Lay.cc size)(h3:sec*size<=67108864):Ok (D.fresh sec size):=by
 have h:size=32\/size=64\/size=128\/size=256\/size=512\/size=1024\/size=2048\/size=4096:=by
  unfold Lay.cc at h2
  repeat' split at h2
  all_goals omega
 refine⟨h1,?_,h3,?_,fun k b h=>(by cases h),fun k b h=>(by cases h),Nat.zero_le _⟩
 .show 32<=size/\size<=4096;omega
 .show size%8=0;omega
theorem jH (sec size:Nat)(h1:1<=sec/\sec<=1048576)(h2:0<Lay.cc size)(h3:sec*size<=67108864):Tr prog 14 #[I sec,I size] [] fun v M=>∃ p,v= V p/\M=[Dk p (D.fresh sec size)]:=fun H hs=>by
 apply qi.ok;unfold qi;have h32:¬((size:Int)<32):=fun h=>by rw[Lay.tC h]at h2;omega
 have h40:¬((size:Int)>4096):=fun h=>by rw[Lay.tA h]at h2;omega
 refine aw (by omega) (aw (by omega) (aw h32 (aw h40 ?_)));have ht:=List.all_eq_true.1 Lay.An size (by simp;omega);rw[if_pos (by omega)]at ht;rw[show((size:Int)-1)=((size-1:Nat):Int) by omega,bu,Lay.th (by omega) (by omega)];split at ht
 .rename_i h4
  simp only[beq_iff_eq]at h4;rw[h4];refine aH rfl ⟨by omega,rfl,?_⟩;rw[show Int.tdiv 67108864 (size:Int)=((67108864/size:Nat):Int)from rfl];have hd:sec<=67108864/size:=(Nat.le_div_iff_mul_le (by omega)).2 h3;have hle:67108864/size<=67108864:=Nat.div_le_self _ _;rw[ed];refine aw (by omega) ?_;refine hs.nw fun b1 H hs=>?_
  have hs:=Mp.new hs;refine hs.nw fun b2 H hs=>?_
  have hs:=Mp.new hs;refine hs.nw fun b3 H hs=>?_
  have hs:=Mp.new hs;refine hs.nw fun b4 H hs=>?_
  refine⟨_,⟨b4,rfl,rfl⟩,Dk.shut (r1:=b1) (r2:=b2) (r3:=b3) (hs.re [3,0,1,2] rfl)⟩
 .simp only[beq_iff_eq]at ht;omega
theorem ME {p:Nat}{d:D}(hok:Ok d)(i:Int):Tr prog 94 #[V p,I i] [Dk p d] fun v M=>∃ b,v= .slice (Oo b) d.size d.size/\M=[Dk p d,af b (.row (aD (d.sat i)) 5 d.size)]:=fun H hs=>by
 obtain⟨r1,r2,r3,hs⟩:=Dk.open hs;obtain⟨jz,hz1,hz2⟩:=FR;have hsz:=hok.size;apply ko.ok;unfold ko;simp only[HS];refine hs.ld 0 rfl rfl ?_;simp only[HV];refine hs.q8 Mv rfl (n:=d.size) (m:=d.size) rfl rfl (Nat.le_refl _) (by omega) (by omega) fun b H hs=>?_
 simp only[HV];refine hs.ld 0 rfl rfl ?_;simp only[HV];obtain⟨H1,⟨l,clock,hr1,hgk⟩,hle⟩:=hs.fE 1 rfl;refine y9 qF oY hz1 hz2 (hle _ _ hr1) false ?_;rw[hgk.get];have e:∀ bs:List UInt8,(bs.length=d.size\/bs=[])->setAt (cZ [.int .u8 0] d.size) 0 (aD bs)=aD (if bs=[]then List.replicate d.size 0 else bs):=fun bs hb=>by
  rw[fm];rcases hb with hb|rfl
  .rw[pX (by rw[bz,List.length_replicate];exact hb),if_neg (fun e=>by rw[e]at hb;simp at hb;omega)]
  .rw[show aD []=[]from rfl,nX,if_pos rfl];simp[aD]
 have fin:∀ bs:List UInt8,(bs.length=d.size\/bs=[])->(if bs=[]then List.replicate d.size 0 else bs)=d.sat i->
   rI prog 5 (.slice (Oo b) d.size d.size) (.string ⟨bs.toArray⟩) H fun v5 H2=>DI .i64 v5 fun x3=>∃ M,(∃ b',(.slice (Oo b) d.size d.size:Value)= .slice (Oo b') d.size d.size/\M=[Dk p d,af b' (.row (aD (d.sat i)) 5 d.size)])/\Sep M H2:=fun bs hb hsat=>by
  have hlb:bs.length<=d.size:=by rcases hb with hb|rfl<;>simp_all
  refine hs.cp 4 (k:=bs.length) (ys:=aD bs) rfl Mv rfl ?_ (by rw[bz,fG];simp;omega) (fun y hy=>?_) fun H hs=>?_
  .rw[show Nat.min bs.length d.size=bs.length from Nat.min_eq_left hlb];show some (aD ((⟨bs.toArray⟩:ByteArray).extract 0 bs.length).data.toList)=_
   congr 2;simp[ByteArray.extract,ByteArray.copySlice]
  .obtain⟨x,_,rfl⟩:=List.mem_map.1 hy;rfl
  .simp only[HV];refine⟨_,⟨b,rfl,rfl⟩,?_⟩;rw[e bs hb,hsat,Nat.mul_one]at hs;exact Dk.shut (hs.re [0,1,2,3,4] rfl)
 unfold eW;cases hsf:d.safe i with
 |none=>
  exact fin [] (.inr rfl) (by unfold D.sat;rw[hsf];rfl)
 |some bs=>
  have:=hok.safe i bs hsf;exact fin bs (.inl this) (by unfold D.sat;rw[hsf,if_neg (fun e=>by rw[e]at this;simp at this;omega)];rfl)
def Kf (p:Nat)(d:D)(i:Int)(v:Value)(M:List As):Prop:=
 (d.kE i≠0/\v= .tuple #[.slice none 0 0,I (d.kE i)]/\M=[Dk p d])\/
 (d.kE i=0/\d.dG=true/\v= .tuple #[.slice none 0 0,I 8]/\M=[Dk p d.bC])\/
 (d.kE i=0/\d.dG=false/\∃ b c m,v= .tuple #[.slice (Oo b) d.size c,I 0]/\d.size<=c/\M=[Dk p { d.bC with rd:=d.rd+1},af b (.row (aD (d.now i)) 5 m)])
theorem gr (d:D):d.bC.rd=d.rd/\d.bC.wr=d.wr/\d.bC.sy=d.sy/\d.bC.size=d.size/\d.bC.sec=d.sec/\d.bC.safe=d.safe/\d.bC.cache=d.cache/\d.bC.ij=d.ij:=by
 unfold D.bC;split<;>simp
theorem vh {p:Nat}{d:D}(hok:Ok d)(ho:d.rd<=4611686018427387904)(i:Int):Tr prog 46 #[V p,I i] [Dk p d] (Kf p d i):=fun H hs=>by
 obtain⟨jz,hz1,hz2⟩:=FR;have hsz:=hok.size;have hf:=hok.fz;apply kS.ok;unfold kS;simp only[HS];refine ae.use (vl hs 0 rfl i) ?_
 try simp only[HV]
 by_cases hc:d.kE i=0
 .refine aH hc ?_;refine(wu hf).use hs [0] rfl rfl ?_;rintro _ _ H ⟨rfl,rfl⟩ hs;simp only[HV];cases hb:d.dG with
  |true=>exact⟨_,.inr (.inl ⟨hc,hb,rfl,rfl⟩),hs⟩
  |false=>
   simp only[HV];have hbr:=gr d;obtain⟨r1,r2,r3,hs⟩:=Dk.open (L:=[]) hs;refine hs.ld 0 rfl rfl ?_;simp only[HV];refine hs.st 0 rfl (by show 3<10;omega) rfl fun H hs=>?_;rw[hbr.1]at hs;rw[bu (x:=(d.rd:Int)+1)]at hs;refine hs.ld 0 rfl rfl ?_;simp only[HV];have hs:Sep [af p (sg { d.bC with rd:=d.rd+1} r1 r2 r3),Mp r1 (eW d.bC.safe),Mp r2 (rC d.bC.ij),Mp r3 (eW d.bC.cache)] H:=hs;obtain⟨H1,⟨l,clock,hr1,hgk⟩,hle⟩:=hs.fE 3 rfl;refine y9 qF oY hz1 hz2 (hle _ _ hr1) true ?_;rw[hgk.get,hbr.2.2.2.2.2.2.1];unfold eW;cases hcd:d.cache i with
   |some bs=>
    have hl:=hok.cache i bs hcd;simp only[Option.map_some,uY,if_true];simp only[HV];refine⟨by show bs.toArray.size<=_;simp;omega,fun c hbc=>?_⟩;refine hs.nw fun b H hs=>?_
    simp only[HV];have hsize:((⟨bs.toArray⟩:ByteArray).size)=d.size:=by show bs.toArray.size=_;simpa using hl
    rw[hsize]at hbc⊢;refine⟨_,.inr (.inr ⟨hc,hb,b,c,c,rfl,hbc,rfl⟩),?_⟩;have:d.now i=bs:=by unfold D.now;rw[hcd];rfl
    rw[this];exact Dk.shut hs
   |none=>
    simp only[Option.map_none,if_true];simp only[HV];have hs:=Dk.shut (L:=[]) hs;have hsat:(D.sat { d.bC with rd:=d.rd+1} i)=d.sat i:=by unfold D.sat;rw[show({ d.bC with rd:=d.rd+1}:D).safe=d.bC.safe from rfl,hbr.2.2.2.2.2.1,show({ d.bC with rd:=d.rd+1}:D).size=d.bC.size from rfl,hbr.2.2.2.1]
    have hok2:Ok { d.bC with rd:=d.rd+1}:=⟨hok.bC.sec,hok.bC.size,hok.bC.lk,hok.bC.aa,hok.bC.safe,hok.bC.cache,hok.bC.fz⟩;refine(ME hok2 i).use hs [0] rfl rfl ?_;rintro _ _ H ⟨b,rfl,rfl⟩ hs;simp only[HV];refine⟨_,.inr (.inr ⟨hc,hb,b,d.size,d.size,?_,Nat.le_refl _,rfl⟩),?_⟩
    .show(Value.tuple #[.slice (Oo b) d.bC.size d.bC.size,I 0])=_
     rw[hbr.2.2.2.1]
    .have:d.now i=d.sat i:=by unfold D.now;rw[hcd];rfl
     rw[this,<-hsat];have e:({ d.bC with rd:=d.rd+1}:D).size=d.size:=hbr.2.2.2.1;rw[<- e];exact hs
 .refine aT hc ⟨_,.inl ⟨hc,rfl,rfl⟩,hs⟩
def ig (m:Int->Option (List UInt8))(k:Int)(v:List UInt8):Int->Option (List UInt8):=fun j=>if j=k then some v else m j
def rF (m:Int->Bool)(k:Int):Int->Bool:=fun j=>if j=k then true else m j
theorem CL (m:Int->Option (List UInt8))(k:Int)(v:List UInt8):nM (eW m) k (uY v)=eW (ig m k v):=by
 funext j
 unfold nM eW ig;split<;>rfl
theorem Ng (m:Int->Bool)(k:Int):nM (rC m) k (I 1)=rC (rF m k):=by
 funext j
 unfold nM rC rF;split<;>rfl
def D.wrote (d:D)(i:Int)(bs:List UInt8):D:={ d.bC with wr:=d.wr+1,ij:=rF d.ij i,cache:=ig d.cache i bs}
def D.dx (d:D)(i:Int)(n:Nat):Int:=if d.kE i≠0 then d.kE i else if n≠d.size then 19 else if d.dG then 8 else 0
def D.bJ (d:D)(i:Int)(bs:List UInt8):D:=if d.kE i≠0 then d else if bs.length≠d.size then d else if d.dG then d.bC else d.wrote i bs
theorem kV {p:Nat}{d:D}(hok:Ok d)(ho:d.wr<=4611686018427387904)(i:Int)(A:OA)(n m:Nat)(bs:List UInt8)(hn:n=bs.length)(R:As)(hR:∀ H,R H->Cells H A (aD bs)):
  Tr prog 47 #[V p,I i,.slice A n m] [Dk p d,R] fun v M=>v= I (d.dx i n)/\M=[Dk p (d.bJ i bs),R]:=fun H hs=>by
 have hf:=hok.fz;have hsz:=hok.size;apply kj.ok;unfold kj;simp only[HS];refine ae.use (vl hs 0 rfl i) ?_
 try simp only[HV]
 by_cases hc:d.kE i=0
 .refine aH hc ?_;obtain⟨r1,r2,r3,hd⟩:=Dk.fE hs 0 rfl;refine eV hd (v:=I d.size) rfl ?_;simp only[HV];by_cases hnd:n=d.size
  .refine aH (by omega) ?_;have hnl:bs.length=d.size:=by omega
   refine(wu hf).use hs [0] rfl rfl ?_;rintro _ _ H ⟨rfl,rfl⟩ hs;simp only[HV];cases hb:d.dG with
   |true=>exact⟨_,⟨by simp[D.dx,hc,hnd,hb],by simp[D.bJ,hc,hnl,hb];rfl⟩,hs⟩
   |false=>
    simp only[HV];have hbr:=gr d;obtain⟨r1,r2,r3,hs⟩:=Dk.open hs;refine hs.ld 0 rfl rfl ?_;simp only[HV];refine hs.st 0 rfl (by show 4<10;omega) rfl fun H hs=>?_;rw[hbr.2.1]at hs;rw[bu (x:=(d.wr:Int)+1)]at hs;refine hs.ld 0 rfl rfl ?_;simp only[HV];refine hs.wi qF Nf 2 rfl fun H hs=>?_;rw[Ng,hbr.2.2.2.2.2.2.2]at hs;refine hs.ld 0 rfl rfl ?_;simp only[HV];obtain⟨H1,hR1,hle⟩:=hs.fE 4 (A:=R) rfl;refine FU ((hR H1 hR1).le hle) hn ?_;refine hs.wi qF oY 3 rfl fun H hs=>?_;rw[show(Value.string ⟨bs.toArray⟩)=uY bs from rfl,CL,hbr.2.2.2.2.2.2.1]at hs;refine⟨_,⟨by simp[D.dx,hc,hnd,hb],by simp[D.bJ,hc,hnl,hb];rfl⟩,?_⟩;exact Dk.shut (d:=d.wrote i bs) (r1:=r1) (r2:=r2) (r3:=r3) hs
  .refine aT (by omega) ?_;have hnl:bs.length≠d.size:=by omega
   exact⟨_,⟨by simp[D.dx,hc,hnd],by simp[D.bJ,hc,hnl]⟩,hs⟩
 .refine aT hc ?_;exact⟨_,⟨by simp[D.dx,hc],by simp[D.bJ,hc]⟩,hs⟩
theorem Gy {d:D}{i:Int}(h:d.kE i=0):0<=i/\i<d.sec/\d.down=false:=by
 unfold D.kE at h;split at h
 .omega
 .split at h
  .omega
  .rename_i h1 h2
   exact⟨by omega,by omega,by simpa using h1⟩
end Dsk
end Go.Proofs.YtlgnlghmbcpmhaaGreatDoor
