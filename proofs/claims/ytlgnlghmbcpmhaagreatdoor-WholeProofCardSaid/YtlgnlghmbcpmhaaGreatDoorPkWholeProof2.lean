import Derived.WalkKit
import Derived.ProofKit
import Derived.OpenShut
import Derived.ShutString
import Derived.ChangeOld
import Derived.Below
import Derived.SizedLaws
import Derived.Lib.LaidTab
import Derived.Stop.LaidErr
import Derived.Test.YtlgnlghmbcpmhaaGreatDoorProg
import Derived.Laws.Externs
import Derived.Test.YtlgnlghmbcpmhaaGreatDoorPkWholeProof1
set_option maxRecDepth 100000
set_option linter.unusedSimpArgs false
set_option linter.unusedVariables false
set_option linter.unnecessarySimpa false
set_option linter.unusedSectionVars false
open Go.IntKind (i64 u64 u8)
namespace Go.Hw
open Go Go.RowKit Go.ChangeShapes Go.WideShapes Go.ChangeAt
theorem sI {H:Type}{enc:TypeId×Value->H}{P:Program}(hl:laidOutB P=true){W W':World}(hb:Below W.heap.size W W'):
  ∀{ts:List TypeId} {vs:List Value} {ds:List (DataW H)} {ps:List MemPlace},(ts.all fun t=>P.readableRec t&&decide (t<P.types.size))=true->(∀ x∈ps,x.block<W.heap.size)->
   DataW.TrodAll enc P W 0 (fun _=>true) true ts vs ds ps->DataW.TrodAll enc P W' 0 (fun b=>decide (b<W.heap.size)) true ts vs ds ps
 | [],[],[],_,_,_,h=>h
 | [],_::_,_,_,_,_,h=>h.elim
 | [],[],_::_,_,_,_,h=>h.elim
 |_::_,[],_,_,_,_,h=>h.elim
 |_::_,_::_,[],_,_,_,h=>h.elim
 |t::ts,v::vs,d::ds,ps,hr,hlt,h=>by
  obtain⟨p,q,h1,h2,rfl⟩:=h;simp only[List.all_cons,Bool.and_eq_true,decide_eq_true_eq]at hr;exact⟨p,q,Below.trod hl hr.1.1 hr.1.2 h1 hb (fun x hx=>hlt x (by simp[hx])),sI hl hb hr.2 (fun x hx=>hlt x (by simp[hx])) h2,rfl⟩
def pL (P:Program)(ns:List String):Bool:=
 ns.all fun n=>match P.globalNamed n with
  |some g=>match P.globals[g]? with|some gl=>P.readableRec gl.type&&decide (gl.type<P.types.size)|none=>true
  |none=>true
theorem rN {H:Type}{enc:TypeId×Value->H}{P:Program}(hl:laidOutB P=true){W W':World}(hb:Below W.heap.size W W'):
  ∀{ns:List String} {gs:List (DataW H)} {ps:List MemPlace},pL P ns=true->DataW.TrodVars enc P W (fun _=>true) ns gs ps->DataW.TrodVars enc P W' (fun b=>decide (b<W.heap.size)) ns gs ps
 | [],[],_,_,h=>h
 | [],_::_,_,_,h=>h.elim
 |_::_,[],_,_,h=>h.elim
 |n::ns,d::ds,ps,hv,h=>by
  have hlt:=h.lt;obtain⟨g,t,cs,fuel,p,q,h1,h2,h3,h4,hs,rfl⟩:=h;simp only[pL,List.all_cons,Bool.and_eq_true]at hv;obtain⟨gl,hg,rfl⟩:=Option.map_eq_some_iff.1 h2;have ht:=hv.1;rw[h1]at ht;simp only[hg,Bool.and_eq_true,decide_eq_true_eq]at ht;have hp:∀ x∈p,x.block<W.heap.size:=fun x hx=>hlt x (by simp[hx])
  have h3':W'.var? P n=some cs:=by
   unfold World.var? at h3⊢;rw[h1]at h3⊢;simp only[Option.bind_some]at h3⊢;have hgs:g<W.heap.size:=by
    cases hh:W.heap[g]? with
    |none=>rw[hh]at h3;cases h3
    |some o=>exact(Array.getElem?_eq_some_iff.1 hh).1
   rw[hb.block g hgs];exact h3
  obtain⟨fuel',h4'⟩:=Below.trod hl ht.1 ht.2 (v:=.agg cs) ⟨fuel,h4⟩ hb hp;exact⟨g,gl.type,cs,fuel',p,q,h1,h2,h3',h4',
   rN hl hb (by simpa [pL]using hv.2) hs,rfl⟩
theorem law_post {H:Type}{enc:TypeId×Value->H}{P:Program}{fn:Func}{s:ChangeSpec}{f:FuncId}{W:World}{args:Array Value}{ds gs:List (DataW H)}{before:List MemPlace}{tb:TypeId}
  (hl:laidOutB P=true) (hrt:fn.resultTypes=#[tb]) (hb:P.underlying tb=some .bool) (hrd:(fn.params.toList.all fun t=>P.readableRec t&&decide (t<P.types.size))=true) (hv:pL P s.vars=true)
  (hs:s.fn H (ds++gs)={ results:=[.lit (.bool true)],args:=ds,vars:=gs}) (hW:DataW.Whole enc P fn.params.toList s.vars false W args.toList ds gs before)
  (h:aa P f args (Full W) (lU (.bool true) (Full W))):Calls P f args W fun e W'=>∃ v,e= .returned v/\s.post enc P fn false true false false W args v W':=by
 refine(Fk h).mono fun e W' ⟨he,bel⟩=>⟨_,he,?_⟩
 have hlt:∀ x∈before,x.block<W.heap.size:=fun x hx=>by simpa using hW.lt x hx
 have hW':=hW;obtain⟨p,q,hA,hV,rfl,hfz,hnd⟩:=hW;refine⟨ds,gs,p++q,[],p,q,hW',?_,?_,?_,bel.frame _,fun h=>by cases h⟩
 .rw[hs,hrt];exact trodAll_mk1 (shut_bool hb _)
 .rw[hs];exact sI hl bel hrd (fun x hx=>hlt x (by simp[hx])) hA
 .rw[hs];exact rN hl bel hv hV
theorem Full.Ly {w:World}{a:Addr}{v:Value}(h:w.cell? a=some v):(Full w).cell? a=some v:=by
 unfold World.cell? at h;unfold Hp.cell? Full;split at h
 .rename_i c e f hb
  simp only[hb,Option.map_some];exact h
 .cases h
theorem ve {α β:Type}{f:α->Option β}:∀{l:List α} {ys:List β},l.mapM f=some ys->ys.length=l.length/\∀(i:Nat) (x:α),l[i]? =some x->∃ y,ys[i]? =some y/\f x=some y
 | [],ys,h=>by
  simp at h;subst h;exact⟨rfl,fun i x hx=>by simp at hx⟩
 |x::l,ys,h=>by
  simp only[List.mapM_cons,Option.bind_eq_bind,Option.bind_eq_some_iff,Option.pure_def,Option.some.injEq]at h;obtain⟨y,hy,ys',hys,rfl⟩:=h;obtain⟨h1,h2⟩:=ve hys;refine⟨by simp[h1],fun i x' hx=>?_⟩;cases i with
  |zero=>simp at hx;subst hx;exact⟨y,rfl,hy⟩
  |succ i=>simpa using h2 i x' (by simpa using hx)
theorem J2 {H:Type}{enc:TypeId×Value->H}{P:Program}{W:World}{sp:Nat->Bool}{held:Bool}{fuel:Nat}{t e:TypeId}{cs:List Value}{d:DataW H}{ps:List MemPlace}(hu:P.underlying t=some (.slice e))(h:DataW.trod enc P W 0 sp held fuel t cs=some (d,ps)):
  ∃ A n c,cs=[.slice A n c]/\n<=c/\c<=maxLen/\∃ rows:List (List Value),rows.length=n/\∀(i:Nat) (r:List Value),rows[i]? =some r->∃ a,A=some a/\(∀ j v,r[j]? =some v->(Full W).cell? (a.add (i*P.cellsOf e+j))=some v)/\r.length=P.cellsOf e/\
   ∃ f d' p',DataW.trod enc P W 0 sp held f e r=some (d',p'):=by
 cases fuel with
 |zero=>simp[DataW.trod]at h
 |succ fuel=>
  unfold DataW.trod at h;rw[hu]at h
  match cs,h with
  | [.slice none 0 0],h=>exact⟨none,0,0,rfl,Nat.le_refl _,Nat.zero_le _,[],rfl,fun i r hr=>by simp at hr⟩
  | [.slice (some a) n c],h=>
   simp only at h;split at h
   .rename_i hc
    obtain⟨elems,he,h⟩:=Option.bind_eq_some_iff.1 h;obtain⟨hl,hg⟩:=ve he;have hrow:∀ i,i<n->∃ r,W.cells? 0 (a.add (i*P.cellsOf e)) (P.cellsOf e)=some r/\∃ x,DataW.trod enc P W 0 sp held fuel e r=some x:=fun i hi=>by
     obtain⟨y,_,hy⟩:=hg i i (by simp[hi]);obtain⟨r,hr,hy⟩:=Option.bind_eq_some_iff.1 hy;exact⟨r,hr,y,hy⟩
    have hr0:∀ i,i<n->∃ r,W.cells? 0 (a.add (i*P.cellsOf e)) (P.cellsOf e)=some r:=fun i hi=>(hrow i hi).imp fun _ h=>h.1
    let rows:=(List.range n).map fun i=>(W.cells? 0 (a.add (i*P.cellsOf e)) (P.cellsOf e)).getD []
    refine⟨some a,n,c,rfl,hc.2.1,hc.2.2,rows,by simp[rows],fun i r hr=>⟨a,rfl,?_⟩⟩;have hi:i<n:=by
     have:=(List.getElem?_eq_some_iff.1 hr).1;simpa [rows]using this
    obtain⟨r',hr',x,hx⟩:=hrow i hi;have:r=r':=by
     simp only[rows,List.getElem?_map,List.getElem?_range hi,Option.map_some,hr',Option.getD_some,Option.some.injEq]at hr;exact hr.symm
    subst this;unfold World.cells? at hr';rw[if_pos (Nat.zero_le _)]at hr';obtain⟨hl',hg'⟩:=ve hr';refine⟨fun j v hv=>?_,by simpa using hl',fuel,x.1,x.2,hx⟩;have hj:j<P.cellsOf e:=by
     have:=(List.getElem?_eq_some_iff.1 hv).1;rw[hl']at this;simpa using this
    obtain⟨y,hy,hy'⟩:=hg' j j (by simp[hj]);rw[hv]at hy;cases hy;have ha:(a.add (i*P.cellsOf e)).add j=a.add (i*P.cellsOf e+j):=by
     unfold Addr.add;by_cases h1:i*P.cellsOf e=0<;>by_cases h2:j=0<;>simp_all [Nat.add_assoc]
    rw[<- ha];exact Full.Ly hy'
   .cases h
  | [.slice none (_+1) _],h=>simp at h
  | [.slice none 0 (_+1)],h=>simp at h
  | [],h=>simp at h
  |_::_::_,h=>simp at h
  | [.int ..],h=>simp at h
theorem DO {H:Hp}{A:OA}{n:Nat}{α:Type}{g:α->Value}{q:α->Prop}{rows:List (List Value)}(hl:rows.length=n)
  (h:∀(i:Nat) (r:List Value),rows[i]? =some r->∃ a,A=some a/\(∀ j v,r[j]? =some v->H.cell? (a.add (i*1+j))=some v)/\∃ x,r=[g x]/\q x):∃ l:List α,l.length=n/\Cells H A (l.map g)/\∀ x∈l,q x:=by
 have hx:∀ i:Fin rows.length,∃ x,rows[i]=[g x]/\q x:=fun i=>by
  obtain⟨_,_,_,x,hx,hq⟩:=h i rows[i] (by simp);exact⟨x,hx,hq⟩
 let f:Fin rows.length->α:=fun i=>Classical.choose (hx i)
 have hf:∀ i:Fin rows.length,rows[i]=[g (f i)]/\q (f i):=fun i=>Classical.choose_spec (hx i)
 refine⟨List.ofFn f,by simp[hl],fun i v hv=>?_,fun x hx=>?_⟩
 .rw[List.getElem?_map]at hv;obtain⟨y,hy,rfl⟩:=Option.map_eq_some_iff.1 hv;have hi:i<rows.length:=by
   have:=(List.getElem?_eq_some_iff.1 hy).1;simpa using this
  have hy':y=f ⟨i,hi⟩:=by
   rw[List.getElem?_ofFn]at hy;simp only[hi,dif_pos,Option.some.injEq]at hy;exact hy.symm
  subst hy';obtain⟨a,ha,hc,_⟩:=h i rows[i] (by simp);refine⟨a,ha,?_⟩;have:=hc 0 (g (f ⟨i,hi⟩)) (by rw[show rows[i]=[g (f ⟨i,hi⟩)]from(hf ⟨i,hi⟩).1];rfl);simpa using this
 .obtain⟨i,rfl⟩:=List.mem_ofFn.1 hx;exact(hf i).2
section
variable {H : Type} {enc : TypeId × Value -> H} {P : Program} {W : World} {t e : TypeId} {v : Value} {d : DataW H} {ps : List MemPlace} {r : Reach} {base : Nat}
theorem Ga {fuel:Nat}{k:IntKind}{cs:List Value}(hu:P.underlying t=some (.slice e))(he:P.underlying e=some (.int k))(h1:P.cellsOf e=1)(h:DataW.trod enc P W 0 (fun _=>true) true fuel t cs=some (d,ps)):
  ∃ A n c,cs=[.slice A n c]/\n<=c/\c<=maxLen/\∃ ns:List Int,ns.length=n/\Cells (Full W) A (ns.map (.int k))/\∀ x∈ns,(Lit.int k x).wf=true:=by
 obtain⟨A,n,c,rfl,h2,h3,rows,hl,hr⟩:=J2 hu h;refine⟨A,n,c,rfl,h2,h3,?_⟩;refine DO (g:=fun x=>Value.int k x) hl fun i r hi=>?_
 obtain⟨a,ha,hc,hlen,f,d',p',hd⟩:=hr i r hi;rw[h1]at hc;obtain⟨x,hx,_,hw⟩:=DataW.trod_int he hd;exact⟨a,ha,hc,x,hx,hw⟩
theorem trod_words {fuel:Nat}{cs:List Value}(hu:P.underlying t=some (.slice e))(he:P.underlying e=some (.int .u64))(h1:P.cellsOf e=1)(h:DataW.trod enc P W 0 (fun _=>true) true fuel t cs=some (d,ps)):
  ∃ A n c,cs=[.slice A n c]/\n<=c/\c<=maxLen/\∃ l:List UInt64,l.length=n/\Cells (Full W) A (af l):=by
 obtain⟨A,n,c,rfl,h2,h3,ns,hl,hc,hw⟩:=Ga hu he h1 h;refine⟨A,n,c,rfl,h2,h3,ns.map fun x=>UInt64.ofNat x.toNat,by simpa using hl,?_⟩;have:af (ns.map fun x=>UInt64.ofNat x.toNat)=ns.map (.int .u64):=by
  unfold af;rw[List.map_map];apply List.map_congr_left;intro x hx;have:=hw x hx;simp only[Lit.wf,Bool.and_eq_true,decide_eq_true_eq]at this;obtain⟨h4,h5⟩:=this;have h4':0<=x:=h4;have h5':x<=18446744073709551615:=h5;simp only[Function.comp,Value.int.injEq,true_and];rw[UInt64.toNat_ofNat_of_lt' (by show x.toNat<18446744073709551616;omega)];omega
 rw[this];exact hc
theorem open_sl (hu:P.underlying t=some (.slice e))(hval:Value.okWide P W r base t v)(h:DataW.Trod enc P W 0 (fun _=>true) true t v d ps):∃ A n c,v= .slice A n c/\∃ fuel,DataW.trod enc P W 0 (fun _=>true) true fuel t [.slice A n c]=some (d,ps):=by
 obtain⟨A,n,c,rfl⟩:=okWide_slice hu hval;obtain⟨fuel,h⟩:=h;exact⟨A,n,c,rfl,fuel,h⟩
end
theorem wf_int {k:IntKind}{n:Int}(h:(Lit.int k n).wf=true):k.min<=n/\n<=k.max:=by
 simpa [Lit.wf]using h
end Go.Hw
namespace Go.Hw
open Go
def Hp.patch (H H1 H1':Hp):Hp:=fun b=>match H1' b with|some o=>some o|none=>match H1 b with|some _=>none|none=>H b
theorem At.patch {H H1 H1':Hp}{w w':World}(hH:Fits H w)(hle:H1.le H)(h:At H1 w H1' w'):At H w (H.patch H1 H1') w':=by
 refine⟨fun b o hb=>?_,h.size,h.os,h.tape,h.output,fun b hb h0=>?_⟩
 .unfold Hp.patch at hb;split at hb
  .rename_i o' ho'
   cases hb;exact h.fits b _ ho'
  .rename_i hn
   split at hb
   .cases hb
   .rename_i h1
    obtain⟨x,hx,hh⟩:=hH b o hb;refine⟨x,?_,hh⟩;rw[(h.rH b (Array.getElem?_eq_some_iff.1 hx).1 h1).2];exact hx
 .have h1:H1 b=none:=by
   cases e:H1 b with
   |none=>rfl
   |some o=>rw[hle b o e]at h0;cases h0
  obtain⟨h2,h3⟩:=h.rH b hb h1;refine⟨?_,h3⟩;unfold Hp.patch;rw[h2,h1];exact h0
theorem aa.frame {P:Program}{f:FuncId}{args:Array Value}{H H1:Hp}{R:VK}(h:aa P f args H1 R)(hle:H1.le H):
  aa P f args H fun v H'=>∃ H1',R v H1'/\H'=H.patch H1 H1'/\∀ b,H b≠none->H1 b=none->H1' b=none:=fun w hw=>by
 have hw1:Fits H1 w:=fun b o hb=>hw b o (hle b o hb)
 refine(h w hw1).mono ?_;rintro e w' ⟨v,H1',rfl,hr,hA⟩;refine⟨v,_,rfl,⟨H1',hr,rfl,fun b hb h1=>?_⟩,hA.patch hw hle⟩;cases hq:H b with
 |none=>exact absurd hq hb
 |some o=>
  obtain⟨x,hx,_⟩:=hw b o hq;exact(hA.rH b (Array.getElem?_eq_some_iff.1 hx).1 h1).1
abbrev As :=Hp->Prop
def iJ (H1 H2:Hp):Prop:=∀ b,H1 b=none\/H2 b=none
def Hp.or (H1 H2:Hp):Hp:=fun b=>match H1 b with|some o=>some o|none=>H2 b
theorem Hp.le_none {H H':Hp}{b:Nat}(h:H.le H')(hn:H' b=none):H b=none:=by
 cases e:H b with
 |none=>rfl
 |some o=>rw[h b o e]at hn;cases hn
theorem iJ.symm {H1 H2:Hp}(h:iJ H1 H2):iJ H2 H1:=fun b=>(h b).symm
theorem iJ.le {H1 H2 H1' H2':Hp}(h:iJ H1 H2)(h1:H1'.le H1)(h2:H2'.le H2):iJ H1' H2':=fun b=>
 (h b).elim (fun e=>.inl (Hp.le_none h1 e)) (fun e=>.inr (Hp.le_none h2 e))
theorem iJ.or {H1 H2 H3:Hp}(h:iJ H1 H3)(k:iJ H2 H3):iJ (H1.or H2) H3:=fun b=>by
 unfold Hp.or;rcases h b with e|e
 .rw[e];exact k b
 .exact .inr e
theorem Hp.Dy {H1 H2 H:Hp}(h1:H1.le H)(h2:H2.le H):(H1.or H2).le H:=fun b o ho=>by
 unfold Hp.or at ho;split at ho
 .rename_i o' e;cases ho;exact h1 b _ e
 .exact h2 b o ho
theorem Hp.sg (H1 H2:Hp):H1.le (H1.or H2):=fun b o ho=>by unfold Hp.or;rw[ho]
theorem Hp.rf {H1 H2:Hp}(h:iJ H1 H2):H2.le (H1.or H2):=fun b o ho=>by
 unfold Hp.or;rcases h b with e|e
 .rw[e];exact ho
 .rw[e]at ho;cases ho
def Sep :List As->Hp->Prop
 | [],_=>True
 |A::L,H=>∃ H1 H2,H1.le H/\H2.le H/\iJ H1 H2/\A H1/\Sep L H2
theorem Sep.up :∀{L:List As} {H H':Hp},Sep L H->H.le H'->Sep L H'
 | [],_,_,_,_=>trivial
 |_::_,_,_,⟨H1,H2,h1,h2,h3,h4,h5⟩,k=>⟨H1,H2,Hp.le_trans h1 k,Hp.le_trans h2 k,h3,h4,h5⟩
theorem Sep.swap {A B:As}{L:List As}{H:Hp}:Sep (A::B::L) H->Sep (B::A::L) H
 |⟨H1,H2,h1,h2,h3,h4,H3,H4,k1,k2,k3,k4,k5⟩=>
  ⟨H3,H1.or H4,Hp.le_trans k1 h2,Hp.Dy h1 (Hp.le_trans k2 h2),(iJ.or (h3.le (Hp.le_refl _) k1) k3.symm).symm,k4,H1,H4,Hp.sg _ _,Hp.rf (h3.le (Hp.le_refl _) k2),h3.le (Hp.le_refl _) k2,h4,k5⟩
theorem Sep.perm {L L':List As}(p:L.Perm L'):∀{H:Hp},Sep L H->Sep L' H:=by
 induction p with
 |nil=>exact fun h=>h
 |cons A _ ih=>exact fun⟨H1,H2,h1,h2,h3,h4,h5⟩=>⟨H1,H2,h1,h2,h3,h4,ih h5⟩
 |swap A B L=>exact fun h=>h.swap
 |trans _ _ ih1 ih2=>exact fun h=>ih2 (ih1 h)
theorem Sep.tail {A:As}{L:List As}{H:Hp}:Sep (A::L) H->Sep L H
 |⟨_,_,_,h2,_,_,h5⟩=>h5.up h2
theorem Sep.drop :∀{M L:List As} {H:Hp},Sep (M++L) H->Sep L H
 | [],_,_,h=>h
 |_::_,_,_,h=>Sep.drop h.tail
theorem Sep.take {M L:List As}{H:Hp}(h:Sep (M++L) H):Sep M H:=Sep.drop (Sep.perm List.perm_append_comm h)
theorem Sep.map {A:As}{L M:List As}{H:Hp}(h:Sep (A::L) H)(k:∀ H1,A H1->Sep M H1):Sep (M++L) H:=by
 obtain⟨H1,H2,h1,h2,h3,h4,h5⟩:=h;have hM:=k H1 h4;clear h4 k
 induction M generalizing H1 H with
 |nil=>exact h5.up h2
 |cons B M ih=>
  obtain⟨H3,H4,k1,k2,k3,k4,k5⟩:=hM;exact⟨H3,H4.or H2,Hp.le_trans k1 h1,Hp.Dy (Hp.le_trans k2 h1) h2,(iJ.or k3.symm (h3.le k1 (Hp.le_refl _)).symm).symm,k4,ih (H4) (Hp.sg _ _) (Hp.rf (h3.le k2 (Hp.le_refl _))) (h3.le k2 (Hp.le_refl _)) k5⟩
theorem Sep.append {M L:List As}{H:Hp}(h:Sep (M++L) H):∃ H1 H2,H1.le H/\H2.le H/\iJ H1 H2/\Sep M H1/\Sep L H2:=by
 induction M generalizing H with
 |nil=>exact⟨fun _=>none,H,fun b o h=>(by cases h),Hp.le_refl _,fun b=>Or.inl rfl,trivial,h⟩
 |cons A M ih=>
  obtain⟨H1,H2,h1,h2,h3,h4,h5⟩:=h;obtain⟨H3,H4,k1,k2,k3,k4,k5⟩:=ih h5;exact⟨H1.or H3,H4,Hp.Dy h1 (Hp.le_trans k1 h2),Hp.le_trans k2 h2,iJ.or (h3.le (Hp.le_refl _) k2) k3,⟨H1,H3,Hp.sg _ _,Hp.rf (h3.le (Hp.le_refl _) k1),h3.le (Hp.le_refl _) k1,h4,k4⟩,k5⟩
theorem Sep.join {M L:List As}{H1 H2 H:Hp}(h1:H1.le H)(h2:H2.le H)(h3:iJ H1 H2)(hM:Sep M H1)(hL:Sep L H2):Sep (M++L) H:=by
 have:Sep (Sep M::L) H:=⟨H1,H2,h1,h2,h3,hM,hL⟩;exact this.map (fun _ h=>h)
def uO (L:List As):List Nat->List As
 | []=>[]
 |i::is=>match L[i]? with|some A=>A::uO L is|none=>uO L is
def rest (L:List As)(is:List Nat):List As:=go 0 L
where go (k:Nat):List As->List As
 | []=>[]
 |A::L=>match is.contains k with|true=>go (k+1) L|false=>A::go (k+1) L
theorem Hv (L:List As):rest L []=L:=by
 have key:∀(L:List As) k,rest.go [] k L=L:=by
  intro L
  induction L with
  |nil=>intro k;rfl
  |cons A L ih=>intro k;unfold rest.go;simp only[List.contains_nil];rw[ih]
 exact key L 0
theorem FE {o:Option As}{c:Prop}[Decidable c]{X:As→List As}{Y Z:List As}(hc:¬c)(h:Y.Perm Z):(match o with|some A=>if c then X A else Y|none=>Y).Perm Z:=by
 cases o with
 |none=>exact h
 |some A=>simp only[hc,if_false];exact h
theorem wq {o:Option As}{c:Prop}[Decidable c]{X:As→List As}{Y Z:List As}(hc:¬c)(h:(match o with|some A=>if c then X A else Y|none=>Y).Perm Z):Y.Perm Z:=by
 cases o with
 |none=>exact h
 |some A=>simp only[hc,if_false]at h;exact h
theorem FL (i:Nat)(is:List Nat)(hi:is.contains i=false)(L:List As):(match L[i]? with|some A=>(A::rest L (i::is))|none=>rest L (i::is)).Perm (rest L is):=by
 have key:∀(L:List As) (k:Nat),(match L[i-k]? with|some A=>if k≤i then(A::rest.go (i::is) k L)else rest.go (i::is) k L|none=>rest.go (i::is) k L).Perm (rest.go is k L):=by
  intro L
  induction L with
  |nil=>intro k;simp[rest.go]
  |cons A L ih=>
   intro k;have ih:=ih (k+1);by_cases hk:k<=i
   .by_cases e:i=k
    .subst e;have ih:=wq (by omega) ih;unfold rest.go;simp only[Nat.sub_self,List.getElem?_cons_zero,Nat.le_refl,if_true];rw[show(i::is).contains i=true by simp,hi];exact List.Perm.cons A ih
    .have hc:(i::is).contains k=is.contains k:=by
      rw[List.contains_cons,show(k==i)=false by simp;omega];simp
     have h1:i-k=(i-(k+1))+1:=by omega
     rw[h1,List.getElem?_cons_succ];have hk':k+1<=i:=by omega
     simp only[hk',if_true]at ih;simp only[hk,if_true];unfold rest.go;rw[hc];cases hb:is.contains k with
     |true=>exact ih
     |false=>
      simp only;cases h:L[i-(k+1)]? with
      |none=>rw[h]at ih;exact List.Perm.cons A ih
      |some B=>rw[h]at ih;exact(List.Perm.swap A B _).trans (List.Perm.cons A ih)
   .have ih:=wq (by omega) ih;refine FE hk ?_;have hc:(i::is).contains k=is.contains k:=by
     rw[List.contains_cons,show(k==i)=false by simp;omega];simp
    unfold rest.go;rw[hc];cases is.contains k
    .exact List.Perm.cons A ih
    .exact ih
 have:=key L 0;simpa [rest]using this
def ql :List Nat->Bool
 | []=>true
 |i::is=> !is.contains i&&ql is
theorem vq (L:List As):∀(is:List Nat),ql is=true->(uO L is++rest L is).Perm L
 | [],_=>by rw[Hv];exact .refl _
 |i::is,h=>by
  unfold ql at h;simp only[Bool.and_eq_true,Bool.not_eq_true']at h;have ih:=vq L is h.2;have hr:=FL i is h.1 L;unfold uO;cases e:L[i]? with
  |none=>rw[e]at hr;exact(List.Perm.append_left _ hr).trans ih
  |some A=>
   rw[e]at hr;refine List.Perm.trans ?_ ((List.Perm.append_left _ hr).trans ih);exact List.perm_middle.symm
theorem Sep.re {L:List As}{H:Hp}(h:Sep L H)(is:List Nat)(hn:ql is=true):Sep (uO L is) H:=
 Sep.take (Sep.perm (vq L is hn).symm h)
theorem Sep.split {L:List As}{H:Hp}(h:Sep L H)(is:List Nat)(hn:ql is=true):Sep (uO L is++rest L is) H:=Sep.perm (vq L is hn).symm h
theorem Sep.fU {L:List As}{H:Hp}(h:Sep L H)(i:Nat){A:As}(hi:L[i]? =some A):∃ H1,A H1/\H1.le H:=by
 have h1:Sep [A] H:=by
  have:=h.re [i] rfl;unfold uO at this;rw[hi]at this;exact this
 obtain⟨H1,_,k1,_,_,k4,_⟩:=h1;exact⟨H1,k4,k1⟩
def ah (b:Nat)(o:AO):As:=fun H=>H b=some o
def own (H0:Hp):As:=fun H=>H0.le H
theorem Sep.get {L:List As}{H:Hp}(h:Sep L H)(i:Nat){b:Nat}{o:AO}(hi:L[i]? =some (ah b o)):H b=some o:=by
 obtain⟨H1,h1,h2⟩:=h.fU i hi;exact h2 _ _ h1
theorem Sep.ow {L:List As}{H H0:Hp}(h:Sep L H)(i:Nat)(hi:L[i]? =some (own H0)):H0.le H:=by
 obtain⟨H1,h1,h2⟩:=h.fU i hi;exact Hp.le_trans h1 h2
theorem Sep.start (H:Hp):Sep [own H] H:=⟨H,fun _=>none,Hp.le_refl _,fun b o h=>(by cases h),fun b=>Or.inr rfl,Hp.le_refl _,trivial⟩
theorem Sep.new {L:List As}{H:Hp}(h:Sep L H){b:Nat}(hb:H b=none)(o:AO):Sep (L++[ah b o]) (H.set b o):=by
 refine Sep.join (H1:=H) (H2:=fun c=>if c=b then some o else none) (Hp.jV hb) ?_ ?_ h ⟨_,fun _=>none,Hp.le_refl _,fun b o h=>(by cases h),fun b=>.inr rfl,(if_pos rfl:(if b=b then some o else none)=some o),trivial⟩
 .intro c q hq;simp only at hq;split at hq
  .rename_i e;subst e;rw[Hp.bB];exact hq
  .cases hq
 .intro c;by_cases e:c=b
  .left;rw[e];exact hb
  .right;simp only[e,if_false]
theorem Sep.put {L:List As}{H:Hp}(h:Sep L H)(i:Nat){b:Nat}{o:AO}(o':AO)(hi:L[i]? =some (ah b o)):Sep (L.set i (ah b o')) (H.set b o'):=by
 have key:∀(L:List As) (i:Nat) (H:Hp),Sep L H->L[i]? =some (ah b o)->Sep (L.set i (ah b o')) (H.set b o'):=by
  intro L
  induction L with
  |nil=>intro i H _ hi;simp at hi
  |cons A L ih=>
   intro i H h hi;obtain⟨H1,H2,h1,h2,h3,h4,h5⟩:=h;cases i with
   |zero=>
    simp only[List.getElem?_cons_zero,Option.some.injEq]at hi;subst hi;have h4':H1 b=some o:=h4;have hn:H2 b=none:=(h3 b).resolve_left (by rw[h4'];simp);refine⟨H1.set b o',H2,Hp.nN h1 b o',fun c q hq=>?_,fun c=>?_,Hp.bB _ _ _,h5⟩
    .rw[Hp.bK _ _ (fun e=>by rw[e,hn]at hq;cases hq)];exact h2 c q hq
    .by_cases e:c=b
     .right;rw[e];exact hn
     .rw[Hp.bK _ _ e];exact h3 c
   |succ i=>
    rw[List.getElem?_cons_succ]at hi;have hb:H2 b=some o:=Sep.get h5 i hi;have hn:H1 b=none:=(h3 b).resolve_right (by rw[hb];simp);refine⟨H1,H2.set b o',fun c q hq=>?_,Hp.nN h2 b o',fun c=>?_,h4,ih i H2 h5 hi⟩
    .rw[Hp.bK _ _ (fun e=>by rw[e,hn]at hq;cases hq)];exact h1 c q hq
    .by_cases e:c=b
     .left;rw[e];exact hn
     .rw[Hp.bK _ _ e];exact h3 c
 exact key L i H h hi
def td :List Value->Nat->Option Value
 | [],_=>none
 |v::_,0=>some v
 |_::l,n+1=>td l n
theorem xp :∀(l:List Value) (i:Nat),td l i=l[i]?
 | [],_=>by simp[td]
 |v::_,0=>rfl
 |_::l,n+1=>by simp[td,xp l n]
section
variable {L : List As} {H : Hp}
theorem Sep.nw (h:Sep L H){o:AO}{K:Nat->Hp->Prop}(k:∀ b H',Sep (L++[ah b o]) H'->K b H'):Nw H o K:=fun b hb=>k b _ (h.new hb o)
theorem Sep.ld (h:Sep L H)(i:Nat){b j:Nat}{c:Array Value}{e:TypeId}{v:Value}{K:Value->Prop}(hi:L[i]? =some (ah b (Oa c e)))(hv:td c.toList j=some v)(k:K v):Ld H ⟨b,j,none⟩ K:=
 ez (h.get i hi) (by rw[xp,Array.getElem?_toList]at hv;exact hv) k
theorem Sep.ph (h:Sep L H)(i:Nat){b j:Nat}{xs:List Value}{e:TypeId}{m:Nat}{v:Value}{K:Value->Prop}(hi:L[i]? =some (ah b (.row xs e m)))(hv:xs[j]? =some v)(k:K v):Ld H ⟨b,j,none⟩ K:=
 Kl (h.get i hi) hv k
theorem Sep.st (h:Sep L H)(i:Nat){b j:Nat}{c:Array Value}{e:TypeId}{v:Value}{K:Hp->Prop}(hi:L[i]? =some (ah b (Oa c e)))(hj:j<c.size)(hv:v.oneCell'=true)
  (k:∀ H',Sep (L.set i (ah b (Oa (c.setIfInBounds j v) e))) H'->K H'):St H ⟨b,j,none⟩ v K:=
 pY (h.get i hi) hj hv (k _ (h.put i _ hi))
theorem Sep.str (h:Sep L H)(i:Nat){b j:Nat}{xs:List Value}{e:TypeId}{m:Nat}{v:Value}{K:Hp->Prop}(hi:L[i]? =some (ah b (.row xs e m)))(hj:j<xs.length)(hv:v.oneCell'=true)
  (k:∀ H',Sep (L.set i (ah b (.row (xs.set j v) e m))) H'->K H'):St H ⟨b,j,none⟩ v K:=
 zT (h.get i hi) hj hv (k _ (h.put i _ hi))
theorem Sep.nH (h:Sep L H)(i:Nat){b off n:Nat}{c:Array Value}{e:TypeId}{K:List Value->Prop}(hi:L[i]? =some (ah b (Oa c e)))(hn:off+n<=c.size)(k:K ((c.toList.drop off).take n)):aY H ⟨b,off,none⟩ n K:=
 Kk (h.get i hi) hn k
theorem Sep.LY (h:Sep L H)(i:Nat){b off n:Nat}{c y:Array Value}{e:TypeId}{K:Hp->Prop}(hi:L[i]? =some (ah b (Oa c e)))(hn:off+n<=c.size)(hy:y.size=n)(hv:y.toList.all (fun v=>v.oneCell')=true)
  (k:∀ H',Sep (L.set i (ah b (Oa (setAt c.toList off y.toList).toArray e))) H'->K H'):cK H ⟨b,off,none⟩ y n K:=
 B5 (h.get i hi) hn hy hv (k _ (h.put i _ hi))
theorem Sep.nX (h:Sep L H){P:Program}{e:TypeId}{s bs:Nat}{z:Array Value}(hi:ed P e=some (s,bs,some z))(hs:z.size=s){l c:Int}{n m:Nat}(hl:l=n)(hc:c=m)(hnm:n<=m)(hm:bs*m<=140737488355328)(hm2:m<=9223372036854775807){K:VK}
  (k:∀ b H',Sep (L++[ah b (.row (cI z.toList n) e (m*s))]) H'->K (.slice (Oo b) n m) H'):jA P e l c H K:=
 zO hi hs hl hc hnm hm hm2 fun b hb=>k b _ (h.new hb _)
end
def Tr (P:Program)(f:FuncId)(args:Array Value)(Pre:List As)(Q:Value->List As->Prop):Prop:=
 ∀ H,Sep Pre H->aa P f args H fun v H'=>∃ M,Q v M/\Sep M H'
theorem Tr.use {P:Program}{f:FuncId}{args:Array Value}{Pre:List As}{Q:Value->List As->Prop}(t:Tr P f args Pre Q){L:List As}{H:Hp}(h:Sep L H)(is:List Nat)(hs:uO L is=Pre)(hn:ql is=true){K:VK}
  (k:∀ v M H',Q v M->Sep (M++rest L is) H'->K v H'):aa P f args H K:=by
 have h1:=h.split is hn;rw[hs]at h1;obtain⟨H1,H2,k1,k2,k3,k4,k5⟩:=h1.append;refine((t H1 k4).frame k1).mono ?_;rintro v H' ⟨H1',⟨M,hq,hM⟩,rfl,hfr⟩;refine k v M _ hq (Sep.join (H1:=H1') (H2:=H2) (fun b o hb=>?_) (fun b o hb=>?_) (fun b=>?_) hM k5)
 .unfold Hp.patch;rw[hb]
 .have e1:H1 b=none:=(k3 b).resolve_right (by rw[hb];simp);have e2:H1' b=none:=hfr b (by rw[k2 b o hb];simp) e1;unfold Hp.patch;rw[e2,e1];exact k2 b o hb
 .cases e:H2 b with
  |none=>exact .inr rfl
  |some o=>
   left;exact hfr b (by rw[k2 b o e];simp) ((k3 b).resolve_right (by rw[e];simp))
theorem dv.mono {P:Program}{f:FuncId}{args:Array Value}{H:Hp}{R R':VK}(h:dv P f args H R)(k:∀ v H',R v H'->R' v H'):dv P f args H R':=fun w hw c cs hc=>by
 obtain⟨e,u',w',fr,⟨hu,v,H',rfl,hr,hA⟩,hx⟩:=h w hw c cs hc;exact⟨_,_,w',fr,⟨hu,v,H',rfl,k v H' hr,hA⟩,hx⟩
theorem dv.frame {P:Program}{f:FuncId}{args:Array Value}{H H1:Hp}{R:VK}(h:dv P f args H1 R)(hle:H1.le H):
  dv P f args H fun v H'=>∃ H1',R v H1'/\H'=H.patch H1 H1'/\∀ b,H b≠none->H1 b=none->H1' b=none:=fun w hw c cs hc=>by
 have hw1:Fits H1 w:=fun b o hb=>hw b o (hle b o hb)
 obtain⟨e,u',w',fr,⟨hu,v,H1',rfl,hr,hA⟩,hx⟩:=h w hw1 c cs hc;refine⟨_,_,w',fr,⟨hu,v,_,rfl,⟨H1',hr,rfl,fun b hb h1=>?_⟩,hA.patch hw hle⟩,hx⟩;cases hq:H b with
 |none=>exact absurd hq hb
 |some o=>
  obtain⟨x,hx,_⟩:=hw b o hq;exact(hA.rH b (Array.getElem?_eq_some_iff.1 hx).1 h1).1
def It (P:Program)(f:FuncId)(args:Array Value)(Pre:List As)(Q:Value->List As->Prop):Prop:=
 ∀ H,Sep Pre H->dv P f args H fun v H'=>∃ M,Q v M/\Sep M H'
theorem It.use {P:Program}{f:FuncId}{args:Array Value}{Pre:List As}{Q:Value->List As->Prop}(t:It P f args Pre Q){L:List As}{H:Hp}(h:Sep L H)(is:List Nat)(hs:uO L is=Pre)(hn:ql is=true){K:VK}
  (k:∀ v M H',Q v M->Sep (M++rest L is) H'->K v H'):dv P f args H K:=by
 have h1:=h.split is hn;rw[hs]at h1;obtain⟨H1,H2,k1,k2,k3,k4,k5⟩:=h1.append;refine((t H1 k4).frame k1).mono ?_;rintro v H' ⟨H1',⟨M,hq,hM⟩,rfl,hfr⟩;refine k v M _ hq (Sep.join (H1:=H1') (H2:=H2) (fun b o hb=>?_) (fun b o hb=>?_) (fun b=>?_) hM k5)
 .unfold Hp.patch;rw[hb]
 .have e1:H1 b=none:=(k3 b).resolve_right (by rw[hb];simp);have e2:H1' b=none:=hfr b (by rw[k2 b o hb];simp) e1;unfold Hp.patch;rw[e2,e1];exact k2 b o hb
 .cases e:H2 b with
  |none=>exact .inr rfl
  |some o=>
   left;exact hfr b (by rw[k2 b o e];simp) ((k3 b).resolve_right (by rw[e];simp))
theorem Sep.fin {L:List As}{H H0:Hp}(h:Sep L H)(i:Nat)(hi:L[i]? =some (own H0))(v:Value):lU v H0 v H:=⟨rfl,h.ow i hi⟩
end Go.Hw
namespace Go.Hw
open Go
theorem vS {G:Hp}{q:Nat}(b:Nat)(h:G q=none):G.erase b q=none:=by
 unfold Hp.erase;split
 .rfl
 .exact h
def cj (e:TypeId)(s:Nat)(A:OA)(n m:Nat)(xs:List Value):As:=fun H=>
 xs.length=n*s/\((A=none/\n=0/\m=0)\/∃ b mm,A=some (O b)/\H b=some (.row xs e mm)/\m*s<=mm)
theorem cj.up {e:TypeId}{s:Nat}{A:OA}{n m:Nat}{xs:List Value}{H H':Hp}(h:cj e s A n m xs H)(k:H.le H'):cj e s A n m xs H':=by
 obtain⟨h1,h2⟩:=h;refine⟨h1,h2.imp id ?_⟩;rintro⟨b,mm,h3,h4,h5⟩;exact⟨b,mm,h3,k _ _ h4,h5⟩
theorem cj.none (e:TypeId)(s:Nat)(H:Hp):cj e s .none 0 0 [] H:=⟨by simp,.inl ⟨rfl,rfl,rfl⟩⟩
section
variable {L : List As} {H : Hp}
theorem Sep.own (h:Sep L H)(i:Nat){e:TypeId}{s:Nat}{A:OA}{n m:Nat}{xs:List Value}(hi:L[i]? =some (cj e s A n m xs)):cj e s A n m xs H:=by
 obtain⟨H1,h1,h2⟩:=h.fU i hi;exact h1.up h2
theorem Sep.jy (h:Sep L H)(i:Nat){A:As}(hi:L[i]? =some A){B:As}(k:∀ H1,A H1->B H1):Sep (L.set i B) H:=by
 induction L generalizing i H with
 |nil=>simp at hi
 |cons C L ih=>
  obtain⟨H1,H2,h1,h2,h3,h4,h5⟩:=h;cases i with
  |zero=>
   simp only[List.getElem?_cons_zero,Option.some.injEq]at hi;subst hi;exact⟨H1,H2,h1,h2,h3,k _ h4,h5⟩
  |succ i=>exact⟨H1,H2,h1,h2,h3,h4,ih h5 i hi⟩
theorem Sep.IW (h:Sep L H)(i:Nat){A:As}(hi:L[i]? =some A){B:As}(k:∀ H1,H1.le H->A H1->B H1):Sep (L.set i B) H:=by
 induction L generalizing i H with
 |nil=>simp at hi
 |cons C L ih=>
  obtain⟨H1,H2,h1,h2,h3,h4,h5⟩:=h;cases i with
  |zero=>
   simp only[List.getElem?_cons_zero,Option.some.injEq]at hi;subst hi;exact⟨H1,H2,h1,h2,h3,k _ h1 h4,h5⟩
  |succ i=>exact⟨H1,H2,h1,h2,h3,h4,ih h5 i hi fun G hG hA=>k G (Hp.le_trans hG h2) hA⟩
theorem Sep.IX (h:Sep L H)(i:Nat){e:TypeId}{s:Nat}{A:OA}{n m:Nat}{xs:List Value}(hi:L[i]? =some (cj e s A n m xs)):
  (A=none/\n=0/\m=0/\xs=[])\/∃ b mm,A=some ⟨b,0,.none⟩/\m*s<=mm/\xs.length=n*s/\Sep (L.set i (ah b (.row xs e mm))) H:=by
 obtain⟨h1,h2⟩:=h.own i hi;rcases h2 with⟨h2,h3,h4⟩|⟨b,mm,rfl,h4,h5⟩
 .refine .inl ⟨h2,h3,h4,?_⟩;rw[h3]at h1;cases xs with
  |nil=>rfl
  |cons x l=>simp at h1
 .refine .inr ⟨b,mm,rfl,h5,h1,h.IW i hi fun H1 hle hO=>?_⟩;obtain⟨_,k2⟩:=hO;rcases k2 with⟨k2,_⟩|⟨b',mm',k2,k3,_⟩
  .cases k2
  .cases k2;have:=hle _ _ k3;rw[h4]at this;cases this;exact k3
theorem Sep.zx (h:Sep L H)(i:Nat){A:As}(hi:L[i]? =some A){b:Nat}{o':AO}{B:As}(k:∀ H1,H1.le H->A H1->∃ o,H1 b=some o/\B (H1.set b o')):Sep (L.set i B) (H.set b o'):=by
 induction L generalizing i H with
 |nil=>simp at hi
 |cons C L ih=>
  obtain⟨H1,H2,h1,h2,h3,h4,h5⟩:=h;cases i with
  |zero=>
   simp only[List.getElem?_cons_zero,Option.some.injEq]at hi;subst hi;obtain⟨o,ho,hB⟩:=k H1 h1 h4;have hn:H2 b=none:=(h3 b).resolve_left (by rw[ho];simp);refine⟨H1.set b o',H2,Hp.nN h1 b o',fun c q hq=>?_,fun c=>?_,hB,h5⟩
   .rw[Hp.bK _ _ (fun e=>by rw[e,hn]at hq;cases hq)];exact h2 c q hq
   .by_cases e:c=b
    .right;rw[e];exact hn
    .rw[Hp.bK _ _ e];exact h3 c
  |succ i=>
   rw[List.getElem?_cons_succ]at hi;have ih':=ih h5 i hi (fun G hG hA=>k G (Hp.le_trans hG h2) hA);have hb:∃ o,H2 b=some o:=by
    obtain⟨G,hG,hle⟩:=h5.fU i hi;obtain⟨o,ho,_⟩:=k G (Hp.le_trans hle h2) hG;exact⟨o,hle _ _ ho⟩
   obtain⟨o,hb⟩:=hb;have hn:H1 b=none:=(h3 b).resolve_right (by rw[hb];simp);refine⟨H1,H2.set b o',fun c q hq=>?_,Hp.nN h2 b o',fun c=>?_,h4,ih'⟩
   .rw[Hp.bK _ _ (fun e=>by rw[e,hn]at hq;cases hq)];exact h1 c q hq
   .by_cases e:c=b
    .left;rw[e];exact hn
    .rw[Hp.bK _ _ e];exact h3 c
theorem cj.rd {e:TypeId}{s:Nat}{A:OA}{n m:Nat}{xs:List Value}(h:cj e s A n m xs H){x:Int}{j:Nat}(hx:x=j)(k:Nat)(hk:k<s){v:Value}(hv:xs[j*s+k]? =some v){K:Value->Prop}(kk:K v):
  cz x n (NN A fun a=>Ld H ((a.add (x.toNat*s)).add k) K):=by
 subst hx;obtain⟨h1,h2⟩:=h;have hlt:=(List.getElem?_eq_some_iff.1 hv).1;have hj:j<n:=by
  rw[h1]at hlt;have h3:j*s<n*s:=by omega
  exact Nat.lt_of_mul_lt_mul_right h3
 refine⟨by omega,by omega,?_⟩;rcases h2 with⟨_,h3,_⟩|⟨b,mm,rfl,h4,_⟩
 .omega
 .refine oz ?_ kk;rw[Int.toNat_natCast,Addr.aP,Addr.aP,Nat.zero_add,uZ h4];exact hv
theorem cj.Mq {e:TypeId}{s:Nat}{A:OA}{n m:Nat}{xs:List Value}(h:cj e s A n m xs H){x:Int}{j:Nat}(hx:x=j)(hs:0<s){v:Value}(hv:xs[j*s]? =some v){K:Value->Prop}(kk:K v):
  cz x n (NN A fun a=>Ld H (a.add (x.toNat*s)) K):=h.rd hx 0 hs hv kk
theorem cj.Mr {e:TypeId}{A:OA}{n m:Nat}{xs:List Value}(h:cj e 1 A n m xs H){x:Int}{j:Nat}(hx:x=j){v:Value}(hv:xs[j]? =some v){K:Value->Prop}(kk:K v):
  cz x n (NN A fun a=>Ld H (a.add (x.toNat*1)) K):=h.Mq hx (by omega) (by rw[Nat.mul_one];exact hv) kk
theorem cj.Bd {e:TypeId}{s:Nat}{A:OA}{n m:Nat}{xs:List Value}(h:cj e s A n m xs H){x:Int}{j:Nat}(hx:x=j)(hj:j<n){ys:List Value}(hy:(xs.drop (j*s)).take s=ys){K:List Value->Prop}(k:K ys):
  cz x n (NN A fun a=>aY H (a.add (x.toNat*s)) s K):=by
 subst hx;obtain⟨h1,h2⟩:=h;refine⟨by omega,by omega,?_⟩;rcases h2 with⟨_,h3,_⟩|⟨b,mm,rfl,h4,_⟩
 .omega
 .have hle:j*s+s<=xs.length:=by
   rw[h1];have:(j+1)*s<=n*s:=Nat.mul_le_mul_right s hj;rw[Nat.succ_mul]at this;omega
  show aY H _ s K
  unfold aY;rw[Int.toNat_natCast,Addr.aP,Nat.zero_add,o3 h4 (j*s) s 0 (by omega),Nat.add_zero,hy];exact k
theorem Sep.wr (h:Sep L H)(i:Nat){e:TypeId}{s:Nat}{A:OA}{n m:Nat}{xs:List Value}(hi:L[i]? =some (cj e s A n m xs)){x:Int}{j:Nat}(hx:x=j)(k:Nat)(hk:k<s)(hj:j<n){v:Value}(hv:v.oneCell'=true){K:Hp->Prop}
  (kk:∀ H',Sep (L.set i (cj e s A n m (xs.set (j*s+k) v))) H'->K H'):cz x n (NN A fun a=>St H ((a.add (x.toNat*s)).add k) v K):=by
 subst hx;refine⟨by omega,by omega,?_⟩;obtain⟨h1,h2⟩:=h.own i hi;have hlt:j*s+k<xs.length:=by
  rw[h1];have:(j+1)*s<=n*s:=Nat.mul_le_mul_right s hj;rw[Nat.succ_mul]at this;omega
 rcases h2 with⟨_,h3,_⟩|⟨b,mm,rfl,h4,h5⟩
 .omega
 .rw[Int.toNat_natCast];show St H _ v K
  rw[Addr.aP,Addr.aP,Nat.zero_add];refine zT h4 hlt hv (kk _ (h.zx i hi fun H1 hle hA=>?_));obtain⟨g1,g2⟩:=hA;rcases g2 with⟨_,g3,_⟩|⟨b',mm',g3,g4,g5⟩
  .omega
  .cases g3;have:mm=mm':=by
    have:=hle _ _ g4;rw[h4]at this;cases this;rfl
   subst this;exact⟨_,g4,by rw[List.length_set];exact g1,.inr ⟨b,mm,rfl,Hp.bB _ _ _,g5⟩⟩
theorem Sep.app (h:Sep L H)(i:Nat){P:Program}{e:TypeId}{s bs:Nat}{z:Array Value}{A:OA}{n m k:Nat}{xs ys:List Value}{x:Value}(hi:L[i]? =some (cj e s A n m xs))(hc:ed P e=some (s,bs,some z))(hz:z.size=s)(hbs:bs<=1073741824)(hs:0<s)
  (hn:s9 x=some k) (hsrc:jx H s k x=some ys) (hy:ys.length=k*s) (hone:ys.all (fun y=>y.oneCell')=true) (h1:(n+k)*bs<=35184372088832) (h2:n+k<=35184372088832) {K:VK}
  (kk:∀ A' m' H',Sep (L.set i (cj e s A' (n+k) m' (xs++ys))) H'->K (.slice A' (n+k) m') H'):jq P e (.slice A n m) x H K:=by
 have hO:=h.own i hi;have hone':∀ y∈ys,y.oneCell'=true:=fun y hy'=>List.all_eq_true.1 hone y hy'
 obtain⟨g1,g2⟩:=hO;rcases g2 with⟨rfl,rfl,rfl⟩|⟨b,mm,rfl,g4,g5⟩
 .rw[Nat.zero_add]at h1 h2;obtain rfl:xs=[]:=by cases xs<;>simp_all
  refine Gt hc hz hbs hn hsrc hy hone' h1 h2 (fun h0=>?_) (fun _ b c hbc hb=>?_)
  .have hys:ys=[]:=by
    subst h0;cases ys with
    |nil=>rfl
    |cons y ys=>simp at hy
   subst hys;subst h0;refine kk .none 0 H ?_;have:=h.jy i hi (B:=cj e s .none (0+0) 0 ([]++[])) (fun H1 _=>cj.none e s H1);exact this
  .have:Sep (L.set i (ah b (.row ys e (c*s)))) (H.set b (.row ys e (c*s))):=by
    have h3:=(h.new hb (.row ys e (c*s)));have h4:Sep ((L++[ah b (.row ys e (c*s))]).set i (fun _=>True)) (H.set b (.row ys e (c*s))):=Sep.jy h3 i (A:=cj e s .none 0 0 []) (by rw[List.getElem?_append_left (List.getElem?_eq_some_iff.1 hi).1];exact hi) (fun _ _=>trivial);have hlt:=(List.getElem?_eq_some_iff.1 hi).1;rw[List.set_append_left _ _ hlt]at h4;have hp:(L.set i (fun _=>True)++[ah b (.row ys e (c*s))]).Perm (L.set i (ah b (.row ys e (c*s)))++[fun _=>True]):=by
     rw[List.set_eq_take_append_cons_drop,List.set_eq_take_append_cons_drop];simp only[hlt,if_true,List.append_assoc,List.cons_append];refine List.Perm.append_left _ ?_;have a1:∀(X:As) (l:List As) (Y:As),(X::(l++[Y])).Perm (Y::(l++[X])):=fun X l Y=>by
      have b1:(X::(l++[Y])).Perm (X::Y::l):=List.Perm.cons X (List.perm_append_comm (l₁:=l) (l₂:=[Y]));have b2:(Y::(l++[X])).Perm (Y::X::l):=List.Perm.cons Y (List.perm_append_comm (l₁:=l) (l₂:=[X]));exact b1.trans ((List.Perm.swap Y X l).trans b2.symm)
     exact a1 _ _ _
    exact Sep.take (Sep.perm hp h4)
   rw[show(k:Nat)=0+k by omega];refine kk _ c _ (this.jy i (A:=ah b (.row ys e (c*s))) (by rw[List.getElem?_set];simp[(List.getElem?_eq_some_iff.1 hi).1]) (B:=cj e s (some ⟨b,0,.none⟩) (0+k) c ([]++ys)) (fun H1 hH1=>⟨by simpa using hy,.inr ⟨b,_,rfl,(by rw[List.nil_append];exact hH1:H1 b=some (.row ([]++ys) e (c*s))),Nat.le_refl _⟩⟩)|>fun q=>?_);rw[List.set_set]at q;exact q
 .refine Gu hc hz hbs g4 g1 g5 hn hsrc hy hone' h1 h2 fun b' c m' hc1 hc2 hb'=>?_
  refine kk _ c _ ?_
    -- the rH row is given up, the new one made
  have hlt:=(List.getElem?_eq_some_iff.1 hi).1;have key:∀(L:List As) (i:Nat) (H:Hp),Sep L H->L[i]? =some (cj e s (some ⟨b,0,.none⟩) n m xs)->0<s->(H.erase b) b'=none->Sep (L.set i (cj e s (some ⟨b',0,.none⟩) (n+k) c (xs++ys))) ((H.erase b).set b' (.row (xs++ys) e m')):=by
   intro L
   induction L with
   |nil=>intro i H _ hi;simp at hi
   |cons C L ih=>
    intro i H hS hi hs hb';obtain⟨H1,H2,k1,k2,k3,k4,k5⟩:=hS;have el:∀{G G':Hp},G.le G'->(G.erase b).le (G'.erase b):=fun hle c q hq=>by
     unfold Hp.erase at hq⊢;split at hq
     .cases hq
     .rename_i hc;rw[if_neg hc];exact hle c q hq
    have en:∀{G:Hp},G b= .none->G.erase b=G:=fun hG=>by
     funext q;unfold Hp.erase;split
     .rename_i e;rw[e,hG]
     .rfl
    cases i with
    |zero=>
     simp only[List.getElem?_cons_zero,Option.some.injEq]at hi;subst hi;have hbs:∃ o,H1 b=some o:=by
      obtain⟨_,q⟩:=k4;rcases q with⟨q,_⟩|⟨b2,mm2,q1,q2,_⟩
      .cases q
      .cases q1;exact⟨_,q2⟩
     obtain⟨o,hbs⟩:=hbs;have hn2:H2 b= .none:=(k3 b).resolve_left (by rw[hbs];simp);have hle2:H2.le (H.erase b):=by have:=el k2;rw[en hn2]at this;exact this
     refine⟨(H1.erase b).set b' (.row (xs++ys) e m'),H2,Hp.nN (el k1) _ _,Hp.le_trans hle2 (Hp.jV hb'),fun q=>?_,⟨by rw[List.length_append,g1,hy,Nat.add_mul],.inr ⟨b',m',rfl,Hp.bB _ _ _,hc2⟩⟩,k5⟩;by_cases e:q=b'
     .right;rw[e];exact Hp.le_none hle2 hb'
     .rw[Hp.bK _ _ e];rcases k3 q with e2|e2
      .exact .inl (vS b e2)
      .exact .inr e2
    |succ i=>
     rw[List.getElem?_cons_succ]at hi;have hbs:∃ o,H2 b=some o:=by
      obtain⟨G,⟨_,q⟩,hle⟩:=k5.fU i hi;rcases q with⟨q,_⟩|⟨b2,mm2,q1,q2,_⟩
      .cases q
      .cases q1;exact⟨_,hle _ _ q2⟩
     obtain⟨o,hbs⟩:=hbs;have hn1:H1 b= .none:=(k3 b).resolve_right (by rw[hbs];simp);have hle1:H1.le (H.erase b):=by have:=el k1;rw[en hn1]at this;exact this
     refine⟨H1,(H2.erase b).set b' (.row (xs++ys) e m'),Hp.le_trans hle1 (Hp.jV hb'),Hp.nN (el k2) _ _,fun q=>?_,k4,ih i H2 k5 hi hs (Hp.le_none (el k2) hb')⟩;by_cases e:q=b'
     .left;rw[e];exact Hp.le_none hle1 hb'
     .rw[Hp.bK _ _ e];rcases k3 q with e2|e2
      .exact .inl e2
      .exact .inr (vS b e2)
  exact key L i H h hi hs hb'
theorem Sep.KC (h:Sep L H)(i:Nat){P:Program}{e e':TypeId}{s bs:Nat}{z:Array Value}{A:OA}{n m:Nat}{xs ys:List Value}(hi:L[i]? =some (cj e s A n m xs))(hc:ed P e=some (s,bs,some z))(hz:z.size=s)(hbs:bs<=1073741824)(hs:0<s)(hy:ys.length=s)(hv:ys.all (fun y=>y.oneCell')=true)(h2:(n+1)*bs<=35184372088832)(h3:n+1<=35184372088832){K:VK}
  (kk:∀ A' m' H',Sep (L.set i (cj e s A' (n+1) m' (xs++ys))) H'->K (.slice A' (n+1) m') H'):Nw H (.row ys e' s) fun b H'=>jq P e (.slice A n m) (.slice (Oo b) 1 1) H' K:=by
 refine h.nw fun b H' h'=>?_
 have hlt:=(List.getElem?_eq_some_iff.1 hi).1;refine h'.app i (k:=1) (ys:=ys) (by rw[List.getElem?_append_left hlt];exact hi) hc hz hbs hs rfl ?_ (by rw[hy,Nat.one_mul]) hv h2 h3 fun A' m' H'' h''=>?_
 .show H'.cells? (O b) 0 (1*s)=some ys
  rw[Nat.one_mul,o3 (h'.get L.length (b:=b) (o:=.row ys e' s) (by simp)) 0 s 0 (by omega)];simp[<- hy]
 .rw[List.set_append_left _ _ hlt]at h'';exact kk A' m' H'' (Sep.take h'')
theorem Sep.Db (h:Sep L H)(i:Nat){P:Program}{e e':TypeId}{bs:Nat}{v0:Value}{A:OA}{n m:Nat}{xs:List Value}{v:Value}(hi:L[i]? =some (cj e 1 A n m xs))(hc:ed P e=some (1,bs,some #[v0]))(hbs:bs<=1073741824)(hv:v.oneCell'=true)(h2:(n+1)*bs<=35184372088832)(h3:n+1<=35184372088832){K:VK}
  (kk:∀ A' m' H',Sep (L.set i (cj e 1 A' (n+1) m' (xs++[v]))) H'->K (.slice A' (n+1) m') H'):Nw H (.row [v] e' 1) fun b H'=>jq P e (.slice A n m) (.slice (Oo b) 1 1) H' K:=by
 refine h.nw fun b H' h'=>?_
 have hlt:=(List.getElem?_eq_some_iff.1 hi).1;refine h'.app i (k:=1) (ys:=[v]) (by rw[List.getElem?_append_left hlt];exact hi) hc rfl hbs (by omega) rfl (tF (Cells.row (h'.get L.length (b:=b) (o:=.row [v] e' 1) (by simp)) 0 1) rfl) rfl (by simp[hv]) h2 h3 fun A' m' H'' h''=>?_
 rw[List.set_append_left _ _ hlt]at h'';exact kk A' m' H'' (Sep.take h'')
end
section
variable {L : List As} {H : Hp}
theorem Sep.bJ (h:Sep L H)(i:Nat){b n:Nat}{c:Array Value}{e:TypeId}{K:List Value->Prop}(hi:L[i]? =some (ah b (Oa c e)))(hn:c.size=n)(k:K c.toList):aY H (O b) n K:=mN (h.get i hi) hn k
theorem Sep.eY (h:Sep L H)(i:Nat){b n:Nat}{c y:Array Value}{e:TypeId}{K:Hp->Prop}(hi:L[i]? =some (ah b (Oa c e)))(hn:c.size=n)(hy:y.size=n)(hv:y.toList.all (fun v=>v.oneCell')=true)
  (k:∀ H',Sep (L.set i (ah b (Oa y e))) H'->K H'):cK H (O b) y n K:=pN (h.get i hi) hn hy hv (k _ (h.put i _ hi))
end
section
variable {L : List As} {H : Hp}
theorem Sep.Az (h:Sep L H)(i:Nat){b n j:Nat}{c:Array Value}{e:TypeId}{v:Value}{K:Value->Prop}(hi:L[i]? =some (ah b (Oa c e))){x:Int}(hx:x=(j:Nat))(hj:j<n)(hv:td c.toList j=some v)(k:K v):cz x n (Ld H ((O b).add (x.toNat*1)) K):=by
 subst hx;refine⟨by omega,by omega,?_⟩;rw[Int.toNat_natCast,Nat.mul_one,Addr.aP,Nat.zero_add];exact h.ld i hi hv k
theorem Sep.stx (h:Sep L H)(i:Nat){b n j:Nat}{c:Array Value}{e:TypeId}{v:Value}{K:Hp->Prop}(hi:L[i]? =some (ah b (Oa c e))){x:Int}(hx:x=(j:Nat))(hj:j<n)(hc:j<c.size)(hv:v.oneCell'=true)
  (k:∀ H',Sep (L.set i (ah b (Oa (c.setIfInBounds j v) e))) H'->K H'):cz x n (St H (((O b).add (x.toNat*1)).add 0) v K):=by
 subst hx;refine⟨by omega,by omega,?_⟩;rw[Int.toNat_natCast,Nat.mul_one,Addr.aP,Nat.zero_add,Addr.add_zero];exact h.st i hi hc hv k
end
theorem Cells.obj {H:Hp}{b:Nat}{c:Array Value}{e:TypeId}(h:H b=some (Oa c e))(n:Nat):Cells H (Oo b) (c.toList.take n):=fun i v hi=>by
 refine⟨_,rfl,?_⟩;rw[Addr.aP,Nat.zero_add,mG h];rw[List.getElem?_take]at hi;split at hi
 .rw[Array.getElem?_toList]at hi;exact hi
 .cases hi
theorem vh {e:TypeId}{b off m:Nat}:∀(l:List Value) (i:Nat) (H:Hp) (xs:List Value),H b=some (.row xs e m)->off+i+l.length<=xs.length->(∀ v∈l,v.oneCell'=true)->
  H.puts? ⟨b,off,none⟩ i l=some (H.set b (.row (setAt xs (off+i) l) e m))
 | [],i,H,xs,h,hi,_=>by simp[Hp.puts?,mT,Hp.wE h]
 |v::l,i,H,xs,h,hi,hv=>by
  unfold Hp.puts?;simp only[List.length_cons]at hi;rw[Addr.aP,ua h (by omega) (hv v (by simp))];simp only;rw[vh l (i+1) _ _ (Hp.bB _ _ _) (by simp;omega) (fun u hu=>hv u (by simp[hu])),Hp.set_set];congr 3;apply List.ext_getElem?;intro j;rw[fw (by simp;omega),fw (by simp;omega),List.getElem?_set];simp only[List.length_cons];by_cases h1:j<off+i
  .rw[if_pos (by omega),if_neg (by omega),if_pos h1]
  .rw[if_neg h1];by_cases h2:j=off+i
   .subst h2;rw[if_pos (by omega),if_pos rfl,if_pos (by omega),if_pos (by omega)];simp
   .rw[if_neg (by omega)];by_cases h3:j<off+(i+1)+l.length
    .rw[if_pos h3,if_pos (by omega),show j-(off+i)=(j-(off+(i+1)))+1 by omega,List.getElem?_cons_succ]
    .rw[if_neg h3,if_neg (by omega),if_neg (by omega)]
theorem Sep.cp {L:List As}{H:Hp}(h:Sep L H)(i:Nat){P:Program}{e e':TypeId}{bs:Nat}{z:Array Value}{b off n c m k:Nat}{xs ys:List Value}{x:Value}(hi:L[i]? =some (ah b (.row xs e' m)))(hc:ed P e=some (1,bs,some z))
  (hn:s9 x=some k) (hsrc:jx H 1 (Nat.min k n) x=some ys) (ho:off+ys.length<=xs.length) (hone:∀ y∈ys,y.oneCell'=true) {K:VK}
  (kk:∀ H',Sep (L.set i (ah b (.row (setAt xs off ys) e' m))) H'->K (I (Nat.min k n:Nat)) H'):qC P e (.slice (some ⟨b,off,none⟩) n c) x H K:=by
 obtain⟨j,zz,h3,h4,rfl,h5,rfl⟩:=nD hc;unfold qC;simp only[h3];rw[h4];exact⟨k,ys,_,hn,hsrc,by simpa using vh ys 0 H xs (h.get i hi) (by omega) hone,kk _ (by simpa using h.put i _ hi)⟩
theorem qt {n m l:Nat}{x:Int}{K:Nat->Nat->Prop}(hx:x=l)(hl:l<=n)(k:K l n):lO n m (some x) none K:=by
 subst hx;refine⟨by omega,by omega,?_⟩;rw[Int.toNat_natCast];exact k
theorem wH {n m r:Nat}{x:Int}{K:Nat->Nat->Prop}(hx:x=r)(hr:r<=m)(k:K 0 r):lO n m none (some x) K:=by
 subst hx;refine⟨by omega,by omega,?_⟩;rw[Int.toNat_natCast];exact k
theorem Bo (b off m:Nat):iG (some ⟨b,off,none⟩) m 0 1=some ⟨b,off,none⟩:=by
 unfold iG;split
 .rfl
 .rfl
theorem wG {b off m l:Nat}(h:l<m:=by omega):iG (some ⟨b,off,none⟩) m l 1=some ⟨b,off+l,none⟩:=by
 unfold iG;rw[if_neg (by omega)];show some ((⟨b,off,none⟩:Addr).add (l*1))=_
 rw[Nat.mul_one,Addr.aP]
theorem Bj {xs us bs:List Value}{off:Nat}(h:off+us.length+bs.length<=xs.length):setAt (setAt xs off us) (off+us.length) bs=setAt xs off (us++bs):=by
 apply List.ext_getElem?;intro i;have hl:(setAt xs off us).length=xs.length:=gN;rw[fw (by omega),fw (by omega),fw (by rw[List.length_append];omega),List.length_append];by_cases h1:i<off
 .rw[if_pos (by omega),if_pos h1,if_pos h1]
 .rw[if_neg h1,if_neg h1];by_cases h2:i<off+us.length
  .rw[if_pos h2,if_pos h2,if_pos (by omega),List.getElem?_append_left (by omega)]
  .rw[if_neg h2];by_cases h3:i<off+us.length+bs.length
   .rw[if_pos h3,if_pos (by omega),List.getElem?_append_right (by omega)];congr 1;omega
   .rw[if_neg h3,if_neg h2,if_neg (by omega)]
def sL (s:Nat)(H:Hp)(A:OA)(rows:List (List Value)):Prop:=∀ i r,rows[i]? =some r->∃ a,A=some a/\∀ j v,r[j]? =some v->H.cell? (a.add (i*s+j))=some v
theorem sL.le {s:Nat}{H H':Hp}{A:OA}{rows:List (List Value)}(h:sL s H A rows)(k:H.le H'):sL s H' A rows:=fun i r hi=>by
 obtain⟨a,ha,hc⟩:=h i r hi;exact⟨a,ha,fun j v hj=>k.cell (hc j v hj)⟩
theorem add_add (a:Addr)(i j:Nat):(a.add i).add j=a.add (i+j):=by
 unfold Addr.add;by_cases h1:i=0<;>by_cases h2:j=0<;>simp_all [Nat.add_assoc]
theorem sL.rd {s:Nat}{H:Hp}{A:OA}{rows:List (List Value)}(h:sL s H A rows){i:Nat}{r:List Value}(hi:rows[i]? =some r){x:Int}(hx:x=i){n:Nat}(hn:rows.length<=n){j:Nat}{v:Value}(hj:r[j]? =some v){K:Value->Prop}(k:K v):
  cz x n (NN A fun a=>Ld H ((a.add (x.toNat*s)).add j) K):=by
 obtain⟨a,rfl,hc⟩:=h i r hi;subst hx;have:=(List.getElem?_eq_some_iff.1 hi).1;refine⟨by omega,by omega,?_⟩;rw[Int.toNat_natCast];refine oz ?_ k;rw[add_add];exact hc j v hj
end Go.Hw
namespace Go.Hw
open Go Go.RowKit Go.ChangeShapes Go.WideShapes Go.ChangeAt
section
variable {H : Type} {enc : TypeId × Value -> H} {P : Program} {W : World} {t e : TypeId} {cs : List Value} {d : DataW H} {ps : List MemPlace} {fuel : Nat}
end
def ze (cs:List Value):Nat->List Value->Prop
 |_,[]=>True
 |i,v::l=>cs[i]? =some v/\ze cs (i+1) l
theorem ze.out {cs l:List Value}(h:ze cs 0 l)(hl:cs.length=l.length):cs=l:=by
 have key:∀(l:List Value) (i:Nat),ze cs i l->∀ j,j<l.length->cs[i+j]? =l[j]? :=by
  intro l
  induction l with
  |nil=>intro i _ j hj;simp at hj
  |cons v l ih=>
   intro i ⟨h1,h2⟩ j hj;cases j with
   |zero=>simpa using h1
   |succ j=>
    rw[show i+(j+1)=i+1+j by omega,ih (i+1) h2 j (by simpa using hj)];simp
 apply List.ext_getElem?;intro j;by_cases hj:j<l.length
 .simpa using key l 0 h j hj
 .rw[List.getElem?_eq_none (by omega),List.getElem?_eq_none (by omega)]
section
variable {H : Type} {enc : TypeId × Value -> H} {P : Program} {W : World} {t e : TypeId} {v : Value} {d : DataW H} {ps : List MemPlace} {r : Reach} {base : Nat}
end
end Go.Hw
namespace Go.Hw
open Go
theorem tY {x:Nat}(h:x<2^64):(BitVec.ofInt 64 (x:Int)).toNat=x:=by
 rw[BitVec.ofInt_natCast,BitVec.toNat_ofNat,Nat.mod_eq_of_lt h]
theorem zt {x y n:Nat}(hx:x<2^n)(hy:y<2^n):x|||y<2^n:=Nat.or_lt_two_pow hx hy
theorem IE {x y:Nat}(hx:x<2^64)(hy:y<2^64):kT .u64 (x:Int) (y:Int)=((x|||y:Nat):Int):=by
 unfold kT;rw[show u64.bits=64 from rfl,BitVec.toNat_or,tY hx,tY hy];have:=zt hx hy;exact fC
theorem xg {x y:Nat}(hx:x<2^64:=by omega)(hy:y<2^64:=by omega):cD .u64 (x:Int) (y:Int)=((x&&&y:Nat):Int):=by
 unfold cD;rw[show u64.bits=64 from rfl,BitVec.toNat_and,tY hx,tY hy];have:x&&&y<=x:=Nat.and_le_left;exact fC
theorem DY {x:Nat}{i:Int}{n:Nat}(h:i=n:=by omega)(hn:n<=64:=by omega):cT .u64 (x:Int) i=((x*2^n%2^64:Nat):Int):=by
 subst h;unfold cT;rw[Int.toNat_natCast,show u64.bits=64 from rfl,Nat.min_eq_left hn,qy,show((2:Int)^n)=((2^n:Nat):Int) by simp,<-Int.natCast_mul];rfl
theorem qq {k:IntKind}{a:Nat}{i:Int}{n:Nat}(h:i=n)(hn:n<=k.bits):cB k (a:Int) i=((a/2^n:Nat):Int):=by
 rw[FY a h hn,Nat.shiftRight_eq_div_pow]
theorem Lj {x:Nat}(y:Nat):u64.wrap ((x:Int)+(y:Int))=(((x+y)%2^64:Nat):Int):=by
 rw[qy,<-Int.natCast_add];rfl
theorem Lk (x y:Nat):u64.wrap ((x:Int)*(y:Int))=(((x*y)%2^64:Nat):Int):=by
 rw[qy,<-Int.natCast_mul];rfl
theorem Cells.shift {H:Hp}{A:OA}{vs:List Value}(h:Cells H A vs){m l:Nat}(hm:vs.length<=m):Cells H (iG A m l 1) (vs.drop l):=fun i v hi=>by
 rw[List.getElem?_drop]at hi;have hlt:=(List.getElem?_eq_some_iff.1 hi).1;unfold iG;rw[if_neg (by omega)];obtain⟨a,rfl,hc⟩:=h _ _ hi;exact⟨_,rfl,by rw[add_add,Nat.mul_one];exact hc⟩
theorem Cells.take {H:Hp}{A:OA}{vs:List Value}(h:Cells H A vs)(n:Nat):Cells H A (vs.take n):=fun i v hi=>by
 rw[List.getElem?_take]at hi;split at hi
 .exact h i v hi
 .cases hi
def kA :List UInt8->Nat
 | []=>0
 |b::l=>b.toNat+256*kA l
theorem AA :∀ l:List UInt8,kA l<256^l.length
 | []=>by simp[kA]
 |b::l=>by
  have h1:=AA l;have h2:b.toNat<256:=b.toNat_lt;unfold kA;rw[List.length_cons,Nat.pow_succ];have:256*kA l+256<=256^l.length*256:=by
   have:kA l+1<=256^l.length:=h1;omega
  omega
theorem Ha {l:List UInt8}{j:Nat}(h:j<l.length):kA (l.drop j)=l[j].toNat+256*kA (l.drop (j+1)):=by
 rw[List.drop_eq_getElem_cons h];rfl
theorem Cg {l:List UInt8}(h:l.length<=8):kA l<2^64:=by
 have h1:=AA l;have h2:256^l.length<=256^8:=Nat.pow_le_pow_right (by omega) h;rw[show(2:Nat)^64=256^8 by decide];omega
def qe :Nat->Nat->List UInt8
 |0,_=>[]
 |n+1,x=>UInt8.ofNat x::qe n (x/256)
theorem wg :∀ n x,kA (qe n x)=x%256^n
 |0,x=>by simp[qe,kA,Nat.mod_one]
 |n+1,x=>by
  unfold qe kA;rw[wg n,UInt8.toNat_ofNat',show(256:Nat)^(n+1)=256*256^n by rw[Nat.pow_succ,Nat.mul_comm],Nat.mod_mul]
theorem BR (n:Nat):∀ x,(List.range n).map (fun k=>UInt8.ofNat (x/256^k))=qe n x:=by
 induction n with
 |zero=>intro x;rfl
 |succ n ih=>
  intro x;rw[List.range_succ_eq_map];simp only[List.map_cons,List.map_map,Nat.pow_zero,Nat.div_one];unfold qe;rw[<- ih (x/256)];congr 1;apply List.map_congr_left;intro k _;simp only[Function.comp];rw[Nat.div_div_eq_div_mul,Nat.pow_succ,Nat.mul_comm]
end Go.Hw
namespace Go.Proofs.YtlgnlghmbcpmhaaGreatDoor
namespace Fft
abbrev Zp :=Fin 18446744069414584321
def pw (x:Zp):Nat->Zp
 |0=>1
 |n+1=>pw x n*x
theorem gM (x:Zp)(a:Nat):∀ b,pw x (a+b)=pw x a*pw x b
 |0=>by show pw x a=pw x a*1;grind
 |b+1=>by
  have ih:=gM x a b;show pw x (a+b)*x=pw x a*(pw x b*x)
  grind
theorem iF :∀ n,pw 1 n=1
 |0=>rfl
 |n+1=>by show pw 1 n*1=1;rw[iF n];grind
theorem AY (x:Zp):pw x 1=x:=by show 1*x=x;grind
theorem dm (x:Zp)(a:Nat):∀ b,pw x (a*b)=pw (pw x a) b
 |0=>rfl
 |b+1=>by
  rw[Nat.mul_succ,gM,dm x a b];rfl
theorem kC (x y:Zp):∀ n,pw (x*y) n=pw x n*pw y n
 |0=>by show(1:Zp)=1*1;grind
 |n+1=>by
  have ih:=kC x y n;show pw (x*y) n*(x*y)=pw x n*x*(pw y n*y)
  grind
def sm (f:Nat->Zp):Nat->Zp
 |0=>0
 |n+1=>sm f n+f n
theorem dO {f g:Nat->Zp}:∀(n:Nat),(∀ i,i<n->f i=g i)->sm f n=sm g n
 |0,_=>rfl
 |n+1,h=>by
  show sm f n+f n=sm g n+g n
  rw[dO n fun i hi=>h i (by omega),h n (by omega)]
theorem j1 (a:Zp)(f:Nat->Zp):∀ n,sm (fun i=>a*f i) n=a*sm f n
 |0=>by show(0:Zp)=a*0;grind
 |n+1=>by
  have ih:=j1 a f n;show sm (fun i=>a*f i) n+a*f n=a*(sm f n+f n)
  grind
theorem uf (f g:Nat->Zp):∀ n,sm (fun i=>f i+g i) n=sm f n+sm g n
 |0=>by show(0:Zp)=0+0;grind
 |n+1=>by
  have ih:=uf f g n;show sm (fun i=>f i+g i) n+(f n+g n)=(sm f n+f n)+(sm g n+g n)
  grind
theorem xD :∀ n,sm (fun _=>0) n=0
 |0=>rfl
 |n+1=>by show sm (fun _=>0) n+0=0;rw[xD n];grind
theorem wI (f:Nat->Zp)(a:Nat):∀ b,sm f (a+b)=sm f a+sm (fun i=>f (a+i)) b
 |0=>by show sm f a=sm f a+0;grind
 |b+1=>by
  have ih:=wI f a b;show sm f (a+b)+f (a+b)=sm f a+(sm (fun i=>f (a+i)) b+f (a+b))
  grind
theorem CK (f:Nat->Zp)(c:Nat):∀ r,sm f (r*c)=sm (fun i=>sm (fun j=>f (i*c+j)) c) r
 |0=>by rw[Nat.zero_mul];rfl
 |r+1=>by
  rw[Nat.succ_mul,wI,CK f c r];rfl
theorem ug (f:Nat->Nat->Zp)(m:Nat):∀ n,sm (fun i=>sm (fun j=>f i j) m) n=sm (fun j=>sm (fun i=>f i j) n) m
 |0=>by
  show(0:Zp)=sm (fun j=>0) m
  rw[xD]
 |n+1=>by
  show sm (fun i=>sm (fun j=>f i j) m) n+sm (fun j=>f n j) m=sm (fun j=>sm (fun i=>f i j) n+f n j) m
  rw[uf,ug f m n]
theorem CJ (f:Nat->Zp):∀ n,sm f (2*n)=sm (fun i=>f (2*i)) n+sm (fun i=>f (2*i+1)) n
 |0=>by show(0:Zp)=0+0;grind
 |n+1=>by
  have ih:=CJ f n;show sm f (2*n)+f (2*n)+f (2*n+1)=(sm (fun i=>f (2*i)) n+f (2*n))+(sm (fun i=>f (2*i+1)) n+f (2*n+1))
  grind
def eJ (w:Zp)(n:Nat)(l:Nat->Zp)(j:Nat):Zp:=sm (fun i=>l i*pw w (i*j)) n
theorem o5 {w:Zp}{n:Nat}{l l':Nat->Zp}(h:∀ i,i<n->l i=l' i)(j:Nat):eJ w n l j=eJ w n l' j:=
 dO n fun i hi=>by rw[h i hi]
theorem ya (w:Zp)(m:Nat)(l:Nat->Zp)(j:Nat):eJ w (2*m) l j=eJ (w*w) m (fun i=>l (2*i)) j+pw w j*eJ (w*w) m (fun i=>l (2*i+1)) j:=by
 have hww:w*w=pw w 2:=by show w*w=1*w*w;grind
 have hp:∀ i,pw w (2*i*j)=pw (w*w) (i*j):=fun i=>by rw[hww,<-dm,Nat.mul_assoc]
 unfold eJ;rw[CJ,<-j1];congr 1
 .exact dO m fun i _=>by rw[hp]
 .refine dO m fun i _=>?_
  rw[show(2*i+1)*j=2*i*j+j by rw[Nat.succ_mul],gM,hp];grind
theorem vO {w:Zp}{m:Nat}(h:pw w m=1)(n:Nat)(l:Nat->Zp)(j:Nat):eJ w n l (j+m)=eJ w n l j:=
 dO n fun i _=>by
  have e:pw w (i*m)=1:=by rw[Nat.mul_comm,dm,h,iF]
  rw[Nat.mul_add,gM,e];grind
theorem KJ (w:Zp)(m:Nat)(l:Nat->Zp)(j:Nat):eJ w (2*m) l j=eJ (w*w) m (fun i=>l (2*i)) j+eJ (w*w) m (fun i=>l (2*i+1)) j*pw w j:=by
 rw[ya];grind
theorem KI {w:Zp}{m:Nat}(h:pw w m=-1)(l:Nat->Zp)(j:Nat):eJ w (2*m) l (j+m)=eJ (w*w) m (fun i=>l (2*i)) j-eJ (w*w) m (fun i=>l (2*i+1)) j*pw w j:=by
 have h2:pw (w*w) m=1:=by rw[kC,h];grind
 rw[ya,vO h2,vO h2,gM,h];grind
def rv :Nat->Nat->Nat
 |0,_=>0
 |k+1,x=>x%2*2^k+rv k (x/2)
theorem ue :∀ k x,rv k x<2^k
 |0,_=>Nat.one_pos
 |k+1,x=>by
  have h1:=ue k (x/2);have h2:x%2<2:=Nat.mod_lt _ (by omega);show x%2*2^k+rv k (x/2)<2^(k+1)
  rw[Nat.pow_succ];rcases(by omega:x%2=0\/x%2=1)with e|e<;>rw[e]<;>omega
def nO (w:Zp)(k:Nat)(l:Nat->Zp)(s p:Nat):Zp:=
 eJ (pw w (2^(k-s))) (2^s) (fun t=>l (rv (k-s) (p/2^s)+t*2^(k-s))) (p%2^s)
theorem HN (w:Zp)(k:Nat)(l:Nat->Zp)(p:Nat):nO w k l 0 p=l (rv k p):=by
 unfold nO eJ;rw[Nat.pow_zero,Nat.div_one,Nat.mod_one,Nat.sub_zero];show 0+l (rv k p+0*2^k)*pw _ (0*0)=_
 rw[Nat.zero_mul,Nat.add_zero,Nat.mul_zero];show 0+l (rv k p)*1=_
 grind
theorem JY (w:Zp)(k:Nat)(l:Nat->Zp){p:Nat}(h:p<2^k):nO w k l k p=eJ w (2^k) l p:=by
 unfold nO;rw[Nat.sub_self,Nat.pow_zero,AY,Nat.mod_eq_of_lt h];refine o5 (fun i _=>?_) p;show l (0+i*1)=l i
 rw[Nat.zero_add,Nat.mul_one]
theorem HM (w:Zp)(k:Nat)(l:Nat->Zp){s:Nat}(hs:s<k)(hw:pw w (2^(k-1))=-1)(b i:Nat)(hi:i<2^s):
  nO w k l (s+1) (b*(2*2^s)+i)=nO w k l s (b*(2*2^s)+i)+nO w k l s (b*(2*2^s)+i+2^s)*pw w (i*2^(k-s-1))/\
  nO w k l (s+1) (b*(2*2^s)+i+2^s)=nO w k l s (b*(2*2^s)+i)-nO w k l s (b*(2*2^s)+i+2^s)*pw w (i*2^(k-s-1)):=by
 have hp:0<2^s:=Nat.pos_of_ne_zero (by have:=Nat.two_pow_pos s;omega);obtain⟨m,hm⟩:∃ m,k=s+1+m:=⟨k-s-1,by omega⟩;have e1:k-(s+1)=m:=by omega
 have e2:k-s=m+1:=by omega
 have e3:k-s-1=m:=by omega
  -- the words of both classes
 have a1:(b*(2*2^s)+i)/2^(s+1)=b:=by
  rw[Nat.pow_succ,Nat.mul_comm (2^s) 2,Nat.add_comm,Nat.add_mul_div_right _ _ (by omega),Nat.div_eq_of_lt (by omega),Nat.zero_add]
 have a2:(b*(2*2^s)+i)%2^(s+1)=i:=by
  rw[Nat.pow_succ,Nat.mul_comm (2^s) 2,Nat.add_comm,Nat.add_mul_mod_self_right,Nat.mod_eq_of_lt (by omega)]
 have a3:(b*(2*2^s)+i+2^s)/2^(s+1)=b:=by
  rw[Nat.pow_succ,Nat.mul_comm (2^s) 2,Nat.add_assoc,Nat.add_comm,Nat.add_mul_div_right _ _ (by omega),Nat.div_eq_of_lt (by omega),Nat.zero_add]
 have a4:(b*(2*2^s)+i+2^s)%2^(s+1)=i+2^s:=by
  rw[Nat.pow_succ,Nat.mul_comm (2^s) 2,Nat.add_assoc,Nat.add_comm,Nat.add_mul_mod_self_right,Nat.mod_eq_of_lt (by omega)]
 have hb:b*(2*2^s)=(2*b)*2^s:=by rw[Nat.mul_comm 2 b,Nat.mul_assoc]
 have b1:(b*(2*2^s)+i)/2^s=2*b:=by
  rw[hb,Nat.add_comm,Nat.add_mul_div_right _ _ hp,Nat.div_eq_of_lt hi,Nat.zero_add]
 have b2:(b*(2*2^s)+i)%2^s=i:=by
  rw[hb,Nat.add_comm,Nat.add_mul_mod_self_right,Nat.mod_eq_of_lt hi]
 have hb':b*(2*2^s)+i+2^s=i+(2*b+1)*2^s:=by rw[hb,Nat.add_mul (2*b) 1,Nat.one_mul];omega
 have b3:(b*(2*2^s)+i+2^s)/2^s=2*b+1:=by
  rw[hb',Nat.add_mul_div_right _ _ hp,Nat.div_eq_of_lt hi,Nat.zero_add]
 have b4:(b*(2*2^s)+i+2^s)%2^s=i:=by
  rw[hb',Nat.add_mul_mod_self_right,Nat.mod_eq_of_lt hi]
 have r1:rv (m+1) (2*b)=rv m b:=by
  show(2*b)%2*2^m+rv m ((2*b)/2)=_
  rw[show(2*b)%2=0 by omega,show(2*b)/2=b by omega];omega
 have r2:rv (m+1) (2*b+1)=rv m b+2^m:=by
  show(2*b+1)%2*2^m+rv m ((2*b+1)/2)=_
  rw[show(2*b+1)%2=1 by omega,show(2*b+1)/2=b by omega];omega
 have hww:pw w (2^m)*pw w (2^m)=pw w (2^(m+1)):=by
  rw[<- gM];congr 1;rw[Nat.pow_succ];omega
 have hneg:pw (pw w (2^m)) (2^s)=-1:=by
  rw[<- dm,<-Nat.pow_add,show m+s=k-1 by omega,hw]
 have hpow:pw (pw w (2^m)) i=pw w (i*2^m):=by rw[<- dm,Nat.mul_comm]
 have c1:∀ t,rv m b+2*t*2^m=rv m b+t*2^(m+1):=fun t=>by rw[Nat.pow_succ,Nat.mul_comm (2^m) 2,<-Nat.mul_assoc,Nat.mul_comm t 2]
 have c2:∀ t,rv m b+(2*t+1)*2^m=rv m b+2^m+t*2^(m+1):=fun t=>by rw[Nat.succ_mul,Nat.pow_succ,Nat.mul_comm (2^m) 2,<-Nat.mul_assoc,Nat.mul_comm t 2];omega
 unfold nO;rw[a1,a2,a3,a4,b1,b2,b3,b4,e1,e3,e2,r1,r2,<-hww];rw[show 2^(s+1)=2*2^s by rw[Nat.pow_succ];omega];constructor
 .rw[KJ,hpow];simp only[c1,c2]
 .rw[KI hneg,hpow];simp only[c1,c2]
theorem AZ :∀ n,pw (-1) (2*n)=1/\pw (-1) (2*n+1)=-1
 |0=>⟨rfl,by show(1:Zp)* -1=-1;grind⟩
 |n+1=>by
  obtain⟨h1,h2⟩:=AZ n;have e:pw (-1) (2*(n+1))=1:=by
   show pw (-1) (2*n+1)* -1=1
   rw[h2];grind
  exact⟨e,by show pw (-1) (2*(n+1))* -1=-1;rw[e];grind⟩
theorem Ml (k:Nat):∀(w:Zp) (d:Nat),pw w (2^k)=-1->0<d->d<2^(k+1)->sm (pw (pw w d)) (2^(k+1))=0:=by
 induction k with
 |zero=>
  intro w d hw h0 h1;obtain rfl:d=1:=by omega
  rw[AY];rw[Nat.pow_zero,AY]at hw;show(0+1)+1*w=0
  rw[hw];grind
 |succ k ih=>
  intro w d hw h0 h1;have e2:2^(k+1+1)=2^(k+1)+2^(k+1):=by rw[Nat.pow_succ];omega
  rw[e2,wI];have e3:sm (fun i=>pw (pw w d) (2^(k+1)+i)) (2^(k+1))=pw (pw w d) (2^(k+1))*sm (pw (pw w d)) (2^(k+1)):=by
   rw[<- j1];exact dO _ fun i _=>gM _ _ _
  rw[e3];have e4:pw (pw w d) (2^(k+1))=pw (-1) d:=by rw[<- dm,Nat.mul_comm,dm,hw]
  rw[e4];rcases(by omega:d%2=1\/d%2=0)with h|h
  .obtain⟨m,rfl⟩:∃ m,d=2*m+1:=⟨d/2,by omega⟩;rw[(AZ m).2];grind
  .obtain⟨m,rfl⟩:∃ m,d=2*m:=⟨d/2,by omega⟩;have e5:pw w (2*m)=pw (pw w 2) m:=dm w 2 m;have e6:pw (pw w 2) (2^k)=-1:=by rw[<- dm,show 2*2^k=2^(k+1) by rw[Nat.pow_succ];omega,hw]
   rw[e5,ih (pw w 2) m e6 (by omega) (by omega)];grind
def nn :Nat->Zp
 |0=>0
 |n+1=>nn n+1
theorem Bq :∀ n,sm (fun _=>1) n=nn n
 |0=>rfl
 |n+1=>by show sm (fun _=>1) n+1=nn n+1;rw[Bq n]
theorem tE (f:Nat->Zp)(i:Nat):∀ n,i<n->(∀ j,j<n->j≠i->f j=0)->sm f n=f i
 |0,h,_=>by omega
 |n+1,h,hz=>by
  show sm f n+f n=f i
  by_cases e:n=i
  .subst e;rw[dO (g:=fun _=>0) n fun j hj=>hz j (by omega) (by omega),xD];grind
  .rw[tE f i n (by omega) fun j hj hn=>hz j (by omega) hn,hz n (by omega) e];grind
theorem KN (k:Nat)(w:Zp)(d:Nat)(hw:k=0\/pw w (2^(k-1))=-1:=by omega)(h0:0<d:=by omega)(h1:d<2^k:=by omega):sm (pw (pw w d)) (2^k)=0:=by
 cases k with
 |zero=>omega
 |succ k=>exact Ml k w d (by simpa using hw) h0 h1
theorem Af {k:Nat}{w v:Zp}(hw:k=0\/pw w (2^(k-1))=-1)(hv:k=0\/pw v (2^(k-1))=-1)(hwv:w*v=1)(l:Nat->Zp){i:Nat}(hi:i<2^k):
  eJ v (2^k) (eJ w (2^k) l) i=nn (2^k)*l i:=by
 have e1:eJ v (2^k) (eJ w (2^k) l) i=sm (fun i'=>l i'*sm (fun j=>pw w (i'*j)*pw v (j*i)) (2^k)) (2^k):=by
  show sm (fun j=>sm (fun i'=>l i'*pw w (i'*j)) (2^k)*pw v (j*i)) (2^k)=_
  have a:∀ j,sm (fun i'=>l i'*pw w (i'*j)) (2^k)*pw v (j*i)=sm (fun i'=>l i'*(pw w (i'*j)*pw v (j*i))) (2^k):=fun j=>by
   have:sm (fun i'=>l i'*pw w (i'*j)) (2^k)*pw v (j*i)=pw v (j*i)*sm (fun i'=>l i'*pw w (i'*j)) (2^k):=by grind
   rw[this,<-j1];exact dO _ fun i' _=>by grind
  simp only[a];rw[ug];exact dO _ fun i' _=>by rw[j1]
 rw[e1];have hwvn:∀ n,pw w n*pw v n=1:=fun n=>by rw[<- kC,hwv,iF]
 have e2:∀ i',i'<2^k->i'≠i->sm (fun j=>pw w (i'*j)*pw v (j*i)) (2^k)=0:=fun i' h1 h2=>by
  rcases Nat.lt_or_ge i i' with h|h
  .have:∀ j,pw w (i'*j)*pw v (j*i)=pw (pw w (i'-i)) j:=fun j=>by
    rw[show i'*j=(i'-i)*j+j*i by rw[Nat.mul_comm j i,<-Nat.add_mul];congr 1;omega,gM,dm w (i'-i) j];have:=hwvn (j*i);grind
   simp only[this];exact KN k w (i'-i) hw
  .have:∀ j,pw w (i'*j)*pw v (j*i)=pw (pw v (i-i')) j:=fun j=>by
    rw[show j*i=i'*j+(i-i')*j by rw[Nat.mul_comm j i,<-Nat.add_mul];congr 1;omega,gM,dm v (i-i') j];have:=hwvn (i'*j);grind
   simp only[this];exact KN k v (i-i') hv
 rw[tE _ i _ hi fun i' h1 h2=>by rw[e2 i' h1 h2];grind];have e3:sm (fun j=>pw w (i*j)*pw v (j*i)) (2^k)=nn (2^k):=by
  rw[<- Bq];exact dO _ fun j _=>by rw[Nat.mul_comm i j];exact hwvn _
 rw[e3];grind
theorem G3 {w:Zp}{R C:Nat}(hw:pw w (R*C)=1)(l:Nat->Zp)(m j:Nat):
  eJ w (R*C) l (m*R+j)=eJ (pw w R) C (fun c=>eJ (pw w C) R (fun r=>l (r*C+c)) j*pw w (c*j)) m:=by
 have e1:∀ r c,pw w ((r*C+c)*(m*R+j))=pw (pw w C) (r*j)*pw w (c*j)*pw (pw w R) (c*m):=fun r c=>by
  rw[<- dm,<-dm,show(r*C+c)*(m*R+j)=(R*C)*(r*m)+(C*(r*j)+c*j+R*(c*m)) by grind,gM,dm w (R*C),hw,iF,gM,gM];grind
 unfold eJ;rw[CK,ug];refine dO C fun c _=>?_
 have e2:∀ r,l (r*C+c)*pw w ((r*C+c)*(m*R+j))=(pw w (c*j)*pw (pw w R) (c*m))*(l (r*C+c)*pw (pw w C) (r*j)):=fun r=>by rw[e1];grind
 simp only[e2];rw[j1];grind
def II :Nat->Zp->Nat->Zp
 |0,_,_=>1
 |f+1,x,n=>if n=0 then 1 else if n%2=1 then II f (x*x) (n/2)*x else II f (x*x) (n/2)
theorem AX :∀(f:Nat) (x:Zp) (n:Nat),n<2^f->II f x n=pw x n
 |0,x,n,h=>by
  obtain rfl:n=0:=by simpa using h
  rfl
 |f+1,x,n,h=>by
  have hx:x*x=pw x 2:=by show x*x=1*x*x;grind
  unfold II;by_cases h0:n=0
  .rw[if_pos h0,h0];rfl
  .rw[if_neg h0,AX f (x*x) (n/2) (by rw[Nat.pow_succ]at h;omega),hx,<-dm];by_cases h1:n%2=1
   .rw[if_pos h1];have e:n=2*(n/2)+1:=by omega
    show pw x (2*(n/2)+1)=pw x n
    rw[<- e]
   .rw[if_neg h1];have e:n=2*(n/2):=by omega
    rw[<- e]
theorem vc :pw 7 9223372034707292160=-1:=by
 rw[<- AX 64 7 9223372034707292160 (by decide)];decide +kernel
def rt (k:Nat):Zp:=pw 7 (18446744069414584320/2^k)
theorem rI {k:Nat}(h:k<=32):18446744069414584320/2^k*2^k=18446744069414584320:=by
 refine Nat.div_mul_cancel ?_;refine Nat.dvd_trans (Nat.pow_dvd_pow 2 h) ?_;decide
theorem tu {k:Nat}(h:k<=32):pw (rt k) (2^k)=1:=by
 unfold rt;rw[<- dm,rI h];refine(congrArg (pw 7) (by decide:18446744069414584320=9223372034707292160*2)).trans ?_;rw[dm,vc];show(1:Zp)* -1* -1=1
 grind
theorem FR {k:Nat}(h:k<=32)(h0:0<k):pw (rt k) (2^(k-1))=-1:=by
 unfold rt;have e:=rI h;obtain⟨m,rfl⟩:∃ m,k=m+1:=⟨k-1,by omega⟩;rw[Nat.add_sub_cancel,<-dm];have:18446744069414584320/2^(m+1)*2^m=9223372034707292160:=by
  rw[Nat.pow_succ,<-Nat.mul_assoc]at e;rw[Nat.pow_succ];omega
 rw[this,vc]
theorem FS {k a:Nat}(h:k<=32)(ha:a<=k):pw (rt k) (2^(k-a))=rt a:=by
 unfold rt;rw[<- dm];congr 1;have e1:=rI h;have e2:=rI (k:=a) (by omega);have e3:2^k=2^(k-a)*2^a:=by rw[<- Nat.pow_add];congr 1;omega
 rw[e3,<-Nat.mul_assoc]at e1;have hp:=Nat.two_pow_pos a;rw[<- e3]at e1;exact Nat.eq_of_mul_eq_mul_right hp (e1.trans e2.symm)
def bU (d:Bool)(k:Nat):Zp:=match d with|false=>rt k|true=>pw (rt k) (2^k-1)
theorem FQ {k:Nat}(h:k<=32):rt k*pw (rt k) (2^k-1)=1:=by
 have e:pw (rt k) (2^k-1+1)=pw (rt k) (2^k-1)*rt k:=rfl;have hp:=Nat.two_pow_pos k;rw[show 2^k-1+1=2^k by omega,tu h]at e;grind
theorem ud (d:Bool){k:Nat}(h:k<=32:=by omega):bU d k*bU (!d) k=1:=by
 have:=FQ h;cases d
 .exact this
 .show pw (rt k) (2^k-1)*rt k=1
  grind
theorem xC (d:Bool){k:Nat}(h:k<=32):pw (bU d k) (2^k)=1:=by
 cases d
 .exact tu h
 .show pw (pw (rt k) (2^k-1)) (2^k)=1
  rw[<- dm,Nat.mul_comm,dm,tu h,iF]
theorem xB (d:Bool){k:Nat}(h:k<=32:=by omega)(h0:0<k:=by omega):pw (bU d k) (2^(k-1))=-1:=by
 cases d
 .exact FR h h0
 .show pw (pw (rt k) (2^k-1)) (2^(k-1))=-1
  rw[<- dm,Nat.mul_comm,dm,FR h h0];obtain⟨m,rfl⟩:∃ m,k=m+1:=⟨k-1,by omega⟩;have hp:=Nat.two_pow_pos m;rw[show 2^(m+1)-1=2*(2^m-1)+1 by rw[Nat.pow_succ];omega,(AZ _).2]
theorem CD (d:Bool){k a:Nat}(h:k<=32)(ha:a<=k):pw (bU d k) (2^(k-a))=bU d a:=by
 cases d
 .exact FS h ha
 .show pw (pw (rt k) (2^k-1)) (2^(k-a))=pw (rt a) (2^a-1)
  rw[<- dm,Nat.mul_comm,dm,FS h ha];have e:2^k-1=(2^a)*(2^(k-a)-1)+(2^a-1):=by
   have hp:=Nat.two_pow_pos a;have hq:=Nat.two_pow_pos (k-a);have e3:2^k=2^a*2^(k-a):=by rw[<- Nat.pow_add];congr 1;omega
   rw[e3,Nat.mul_sub_one];have:2^a*1<=2^a*2^(k-a):=Nat.mul_le_mul_left _ hq;omega
  rw[e,gM,dm,tu (by omega),iF];grind
def zp (a:Nat):Zp:=Fin.ofNat _ a
theorem jo (a:Nat):(zp a).val=a%18446744069414584321:=rfl
theorem Lr (a:Nat):zp (a%18446744069414584321)=zp a:=Fin.ext (by rw[jo,jo,Nat.mod_mod])
theorem jm (z:Zp):zp z.val=z:=Fin.ext (Nat.mod_eq_of_lt z.isLt)
theorem Gn (a b:Nat):zp (a+b)=zp a+zp b:=Fin.ext (by
 rw[Fin.val_add,jo,jo,jo,<-Nat.add_mod])
theorem Ls (a b:Nat):zp (a*b)=zp a*zp b:=Fin.ext (by
 rw[Fin.val_mul,jo,jo,jo,<-Nat.mul_mod])
theorem tO (a:Nat):∀ n,zp (a^n)=pw (zp a) n
 |0=>rfl
 |n+1=>by rw[Nat.pow_succ,Ls,tO a n];rfl
theorem IZ {a b:Nat}:zp a=zp b↔a%18446744069414584321=b%18446744069414584321:=by
 constructor
 .intro h;exact congrArg Fin.val h
 .intro h;exact Fin.ext h
theorem Lt {a b c:Nat}(h:(c+b)%18446744069414584321=a%18446744069414584321):zp c=zp a-zp b:=by
 have:=IZ.2 h;rw[Gn]at this;grind
theorem Dv :∀ n,nn n=zp n
 |0=>rfl
 |n+1=>by rw[Gn,<-Dv n];rfl
def zw (w:UInt64):Zp:=zp w.toNat
def uw (z:Zp):UInt64:=UInt64.ofNat z.val
theorem wN (z:Zp):(uw z).toNat=z.val:=UInt64.toNat_ofNat_of_lt' (by have:=z.isLt;show z.val<18446744073709551616;omega)
theorem lL (z:Zp):zw (uw z)=z:=by unfold zw;rw[wN,jm]
theorem lh (z:Zp):((uw z).toNat:Int)=(z.val:Int):=by rw[wN]
def bG (l:List UInt64)(i:Nat):Zp:=zw (l.getD i 0)
theorem o2 {l:List UInt64}{i:Nat}(h:i<l.length):bG l i=zw l[i]:=by unfold bG;rw[List.getD_eq_getElem?_getD,List.getElem?_eq_getElem h];rfl
end Fft
namespace Fft
def swp (m:BitVec 64)(d:Nat)(x:BitVec 64):BitVec 64:=((x>>>d)&&&m)|||((x&&&m)<<<d)
def k9 (m:BitVec 64)(d i:Nat):Nat:=if m.getLsbD i then i+d else i-d
def LO (m:BitVec 64)(d:Nat):Bool:=(List.range 64).all fun i=>if m.getLsbD i then decide (i+d<64)&&(decide (i<d)|| !m.getLsbD (i-d))else decide (d<=i)&&m.getLsbD (i-d)
theorem swp_get {m:BitVec 64}{d:Nat}(h:LO m d=true)(x:BitVec 64){i:Nat}(hi:i<64):(swp m d x).getLsbD i=x.getLsbD (k9 m d i):=by
 have h1:=List.all_eq_true.1 h i (List.mem_range.2 hi);unfold swp k9;simp only[BitVec.getLsbD_or,BitVec.getLsbD_and,BitVec.getLsbD_ushiftRight,BitVec.getLsbD_shiftLeft];by_cases hm:m.getLsbD i=true
 .simp only[hm,if_true]at h1⊢;simp only[Bool.and_eq_true,decide_eq_true_eq,Bool.or_eq_true,Bool.not_eq_true']at h1;rcases h1.2 with h2|h2
  .rw[Nat.add_comm d i];simp[h2]
  .rw[Nat.add_comm d i,h2];simp
 .have hm':m.getLsbD i=false:=by simpa using hm
  simp only[hm',Bool.false_eq_true,if_false]at h1⊢;simp only[Bool.and_eq_true,decide_eq_true_eq]at h1;rw[h1.2];have:¬i<d:=by omega
  simp[hi,this]
def zy (x:BitVec 64):BitVec 64:=
 let x:=swp 0x5555555555555555#64 1 x
 let x:=swp 0x3333333333333333#64 2 x
 let x:=swp 0x0f0f0f0f0f0f0f0f#64 4 x
 let x:=swp 0x00ff00ff00ff00ff#64 8 x
 let x:=swp 0x0000ffff0000ffff#64 16 x
 (x>>>32)|||(x<<<32)
theorem FM (x:BitVec 64){i:Nat}(hi:i<64):(zy x).getLsbD i=x.getLsbD (63-i):=by
 unfold zy;simp only[BitVec.getLsbD_or,BitVec.getLsbD_ushiftRight,BitVec.getLsbD_shiftLeft];have hb:(List.range 64).all (fun i=>decide (k9 0x0000ffff0000ffff#64 16 i<64)&&decide (k9 0x00ff00ff00ff00ff#64 8 (k9 0x0000ffff0000ffff#64 16 i)<64)&&decide (k9 0x0f0f0f0f0f0f0f0f#64 4 (k9 0x00ff00ff00ff00ff#64 8 (k9 0x0000ffff0000ffff#64 16 i))<64)&&decide (k9 0x3333333333333333#64 2 (k9 0x0f0f0f0f0f0f0f0f#64 4 (k9 0x00ff00ff00ff00ff#64 8 (k9 0x0000ffff0000ffff#64 16 i)))<64)&&
   decide (k9 0x5555555555555555#64 1 (k9 0x3333333333333333#64 2 (k9 0x0f0f0f0f0f0f0f0f#64 4 (k9 0x00ff00ff00ff00ff#64 8 (k9 0x0000ffff0000ffff#64 16 i))))=(if i<32 then 31-i else 95-i)))=true:=by decide +kernel
 have key:∀ j,j<64->(swp 0x0000ffff0000ffff#64 16 (swp 0x00ff00ff00ff00ff#64 8 (swp 0x0f0f0f0f0f0f0f0f#64 4 (swp 0x3333333333333333#64 2 (swp 0x5555555555555555#64 1 x))))).getLsbD j=x.getLsbD (if j<32 then 31-j else 95-j):=fun j hj=>by
  have:=List.all_eq_true.1 hb j (List.mem_range.2 hj);simp only[Bool.and_eq_true,decide_eq_true_eq]at this;obtain⟨⟨⟨⟨h1,h2⟩,h3⟩,h4⟩,h5⟩:=this;rw[swp_get (by decide +kernel) _ hj,swp_get (by decide +kernel) _ h1,swp_get (by decide +kernel) _ h2,swp_get (by decide +kernel) _ h3,swp_get (by decide +kernel) _ h4,h5]
 by_cases h:i<32
 .rw[key (32+i) (by omega),if_neg (by omega),show 95-(32+i)=63-i by omega];simp[h]
 .have hge:¬32+i<64:=by omega
  rw[BitVec.getLsbD_of_ge _ (32+i) (by omega),key (i-32) (by omega),if_pos (by omega),show 31-(i-32)=63-i by omega];simp[h,hi]
theorem wC :∀(k x j:Nat),(rv k x).testBit j=(decide (j<k)&&x.testBit (k-1-j))
 |0,x,j=>by simp[rv]
 |k+1,x,j=>by
  show(x%2*2^k+rv k (x/2)).testBit j=_
  have hlt:=ue k (x/2);rw[Nat.mul_comm,Nat.testBit_two_pow_mul_add _ hlt];by_cases h:j<k
  .rw[if_pos h,wC k (x/2) j,Nat.testBit_div_two];have:k-1-j+1=k+1-1-j:=by omega
   rw[this];have h2:j<k+1:=by omega
   simp[h,h2]
  .rw[if_neg h];by_cases e:j=k
   .subst e;rw[Nat.sub_self,Nat.testBit_zero,Nat.mod_mod];have:x.testBit (j+1-1-j)=x.testBit 0:=by rw[show j+1-1-j=0 by omega]
    rw[this,Nat.testBit_zero];simp
   .have:¬j<k+1:=by omega
    simp[this];have h3:j-k=(j-k-1)+1:=by omega
    rw[h3,Nat.testBit_succ];have:x%2/2=0:=by omega
    rw[this];simp
theorem La {k x:Nat}(hk:k<=32)(hx:x<2^k):(zy (BitVec.ofNat 64 x)).toNat>>>(64-k)=rv k x:=by
 apply Nat.eq_of_testBit_eq;intro j;rw[Nat.testBit_shiftRight,BitVec.testBit_toNat,wC];by_cases h:j<k
 .rw[FM _ (by omega),BitVec.getLsbD_ofNat];have h1:63-(64-k+j)<64:=by omega
  have h2:63-(64-k+j)=k-1-j:=by omega
  simp[h,h2];intro _;omega
 .rw[BitVec.getLsbD_of_ge _ _ (by omega)];simp[h]
theorem IL (k x:Nat)(hx:x<2^k):rv k (rv k x)=x:=by
 apply Nat.eq_of_testBit_eq;intro j;rw[wC,wC];by_cases h:j<k
 .have h1:k-1-j<k:=by omega
  have h2:k-1-(k-1-j)=j:=by omega
  simp[h,h1,h2]
 .simp[h];exact Nat.testBit_lt_two_pow (Nat.lt_of_lt_of_le hx (Nat.pow_le_pow_right (by omega) (by omega)))
def dn (h b i p:Nat):Bool:=decide (p<b*(2*h)+i\/(b*(2*h)+h<=p/\p<b*(2*h)+h+i))
def ka (w:Zp)(k:Nat)(l:Nat->Zp)(s:Nat)(f:Nat->Bool):List UInt64:=(List.range (2^k)).map fun p=>uw (if f p=true then nO w k l (s+1) p else nO w k l s p)
theorem ui (w:Zp)(k:Nat)(l:Nat->Zp)(s:Nat)(f:Nat->Bool):(ka w k l s f).length=2^k:=by simp[ka]
theorem pT (w:Zp)(k:Nat)(l:Nat->Zp)(s:Nat)(f:Nat->Bool){p:Nat}(hp:p<2^k:=by omega):(ka w k l s f)[p]? =some (uw (if f p=true then nO w k l (s+1) p else nO w k l s p)):=by
 unfold ka;rw[List.getElem?_map,List.getElem?_range hp];rfl
theorem F0 {w:Zp}{k:Nat}{l:Nat->Zp}{s:Nat}{f g:Nat->Bool}(h:∀ p,p<2^k->f p=g p):ka w k l s f=ka w k l s g:=by
 unfold ka;apply List.map_congr_left;intro p hp;rw[h p (List.mem_range.1 hp)]
theorem Jl (h b i:Nat)(hi:i<h):dn h b i (b*(2*h)+i)=false/\dn h b i (b*(2*h)+i+h)=false:=by
 unfold dn;exact⟨decide_eq_false (by omega),decide_eq_false (by omega)⟩
theorem HI {w:Zp}{k:Nat}{l:Nat->Zp}{s b i:Nat}(h:Nat)(hi:i<h)(hp:b*(2*h)+i+h<2^k):
  ((ka w k l s (dn h b i)).set (b*(2*h)+i) (uw (nO w k l (s+1) (b*(2*h)+i)))).set (b*(2*h)+i+h) (uw (nO w k l (s+1) (b*(2*h)+i+h)))=ka w k l s (dn h b (i+1)):=by
 apply List.ext_getElem?;intro p;rw[List.getElem?_set,List.getElem?_set];simp only[List.length_set,ui];by_cases hlt:p<2^k
 .by_cases e1:b*(2*h)+i+h=p
  .subst e1;rw[if_pos rfl,if_pos hp,pT _ _ _ _ _ hlt,if_pos (show dn h b (i+1) _=true from decide_eq_true (by omega))]
  .rw[if_neg e1];by_cases e2:b*(2*h)+i=p
   .subst e2;rw[if_pos rfl,if_pos hlt,pT _ _ _ _ _ hlt,if_pos (show dn h b (i+1) _=true from decide_eq_true (by omega))]
   .rw[if_neg e2,pT _ _ _ _ _ hlt,pT _ _ _ _ _ hlt];have:dn h b i p=dn h b (i+1) p:=by
     unfold dn;rw[decide_eq_decide];omega
    rw[this]
 .rw[if_neg (by omega),if_neg (by omega),List.getElem?_eq_none (by rw[ui];omega),List.getElem?_eq_none (by rw[ui];omega)]
theorem HH {w:Zp}{k:Nat}{l:Nat->Zp}{s b:Nat}(h:Nat):ka w k l s (dn h b h)=ka w k l s (dn h (b+1) 0):=
 F0 fun p _=>by
  unfold dn;rw[decide_eq_decide,Nat.add_mul b 1,Nat.one_mul];omega
theorem JX {w:Zp}{k:Nat}{l:Nat->Zp}{s b:Nat}(h h':Nat)(hb:2^k<=b*(2*h)):ka w k l s (dn h b 0)=ka w k l (s+1) (dn h' 0 0):=by
 unfold ka;apply List.map_congr_left;intro p hp;have:=List.mem_range.1 hp;rw[if_pos (show dn h b 0 p=true from decide_eq_true (by omega)),if_neg (show ¬dn h' 0 0 p=true by unfold dn;simp)]
def kI (d:Bool)(k:Nat)(l:List UInt64):List UInt64:=(List.range (2^k)).map fun j=>uw (eJ (bU d k) (2^k) (bG l) j)
theorem sa (d:Bool)(k:Nat)(l:List UInt64):(kI d k l).length=2^k:=by simp[kI]
theorem JW (d:Bool)(k:Nat)(l:List UInt64)(h:Nat):ka (bU d k) k (bG l) k (dn h 0 0)=kI d k l:=by
 unfold ka kI;apply List.map_congr_left;intro p hp;have:=List.mem_range.1 hp;rw[if_neg (show ¬dn h 0 0 p=true by unfold dn;simp),JY _ _ _ this]
def ky (k:Nat)(l:List UInt64):List UInt64:=(List.range (2^k)).map fun p=>l.getD (rv k p) 0
theorem HJ (w:Zp)(k:Nat)(l:List UInt64)(h:Nat):(ky k l).map (fun x=>uw (zw x))=ka w k (bG l) 0 (dn h 0 0):=by
 unfold ky ka;rw[List.map_map];apply List.map_congr_left;intro p hp;have:=List.mem_range.1 hp;rw[if_neg (show ¬dn h 0 0 p=true by unfold dn;simp),HN];rfl
end Fft
end Go.Proofs.YtlgnlghmbcpmhaaGreatDoor
namespace Go.Hw
open Go Go.RowKit
def flatF :Nat->DataW Unit->List Value
 |0,_=>[]
 |_+1,.lit (.int k n)=>[.int k n]
 |_+1,.lit (.string bs)=>[.string ⟨bs.toArray⟩]
 |_+1,.lit (.bool b)=>[.bool b]
 |f+1,.agg ds=>(ds.map (flatF f)).flatten
 |_+1,_=>[]
def vM (P:Program):List Field->Nat->Option Nat
 | [],o=>some o
 |f::l,o=>if f.offset=o then vM P l (o+P.cellsOf f.type)else none
def s4 (P:Program):Nat->TypeId->Bool
 |0,_=>false
 |f+1,t=>
  match P.underlying t with
  |some (.int _)=>true
  |some .string=>true
  |some .bool=>true
  |some (.array n e)=>s4 P f e&&(P.cellsOf t==n*P.cellsOf e)
  |some (.struct fs)=>fs.toList.all (fun x=>s4 P f x.type)&&(vM P fs.toList 0==some (P.cellsOf t))
  |_=>false
theorem chunks {α:Type}(k:Nat):∀(n:Nat) (cs:List α) (ys:List (List α)),cs.length=n*k->ys.length=n->(∀ i,(h:i<ys.length)->(cs.drop (i*k)).take k=ys[i])->cs=ys.flatten
 |0,cs,ys,hl,hy,_=>by
  rw[Nat.zero_mul]at hl;rw[List.length_eq_zero_iff.1 hl,List.length_eq_zero_iff.1 hy];rfl
 |n+1,cs,[],_,hy,_=>by simp at hy
 |n+1,cs,y::ys,hl,hy,h=>by
  have h0:=h 0 (by simp);rw[Nat.zero_mul,List.drop_zero,List.getElem_cons_zero]at h0;have ih:=chunks k n (cs.drop k) ys (by rw[List.length_drop,hl,Nat.succ_mul];omega) (by simpa using hy) fun i hi=>by
   have:=h (i+1) (by simpa using hi);rw[List.getElem_cons_succ]at this;rw[List.drop_drop,<-this,Nat.succ_mul,Nat.add_comm]
  rw[List.flatten_cons,<-ih,<-h0,List.take_append_drop]
theorem vN {P:Program}:∀(l:List Field) (ys:List (List Value)) (o e:Nat) (cs:List Value),vM P l o=some e->cs.length=e->ys.length=l.length->
  (∀(i:Nat) (f:Field),l[i]? =some f->∃ y,ys[i]? =some y/\(cs.drop f.offset).take (P.cellsOf f.type)=y)->cs.drop o=ys.flatten
 | [],ys,o,e,cs,h,hl,hy,_=>by
  unfold vM at h;cases h;rw[List.drop_eq_nil_of_le (by omega),List.length_eq_zero_iff.1 hy];rfl
 |f::l,[],o,e,cs,h,hl,hy,_=>by simp at hy
 |f::l,y::ys,o,e,cs,h,hl,hy,hh=>by
  unfold vM at h;split at h
  .rename_i ho
   obtain⟨y',e1,e2⟩:=hh 0 f (by simp);simp only[List.getElem?_cons_zero,Option.some.injEq]at e1;subst e1;have ih:=vN l ys _ e cs h hl (by simpa using hy) fun i f' hf=>by
    have:=hh (i+1) f' (by simpa using hf);simpa using this
   rw[List.flatten_cons,<-ih,<-e2,ho,<-List.drop_drop,List.take_append_drop]
  .cases h
theorem qf {enc:TypeId×Value->Unit}{P:Program}{w:World}{base:Nat}{sp:Nat->Bool}{held:Bool}:∀(f:Nat) {fuel:Nat} {t:TypeId} {cs:List Value} {d:DataW Unit} {p:List MemPlace},
  s4 P f t=true->DataW.trod enc P w base sp held fuel t cs=some (d,p)->cs=flatF f d
 |0,_,_,_,_,_,h,_=>by cases h
 |f+1,fuel,t,cs,d,p,h,ht=>by
  unfold s4 at h;split at h
  .rename_i k hu
   obtain⟨n,rfl,e,_⟩:=DataW.trod_int hu ht;cases e;rfl
  .rename_i hu
   obtain⟨s,rfl,e,_⟩:=DataW.trod_string hu ht;cases e;simp[flatF]
  .rename_i hu
   obtain⟨b,rfl,e⟩:=DataW.trod_bool hu ht;cases e;rfl
  .rename_i n e hu
   simp only[Bool.and_eq_true,beq_iff_eq]at h;obtain⟨xs,m,_,ex,hl,hn,hel⟩:=DataW.trod_array hu ht;cases ex;show cs=(((xs.map (·.1))).map (flatF f)).flatten
   refine chunks (P.cellsOf e) n cs _ (by rw[hl,h.2]) (by simpa using hn) fun i hi=>?_
   have hi':i<xs.length:=by simpa using hi
   have h1:=hel i (by omega);rw[List.getElem?_eq_getElem hi']at h1;have:=qf f (d:=xs[i].1) (p:=xs[i].2) h.1 h1;rw[this];simp
  .rename_i fs hu
   simp only[Bool.and_eq_true,beq_iff_eq]at h;obtain⟨xs,m,_,ex,hl,hn,hel⟩:=DataW.trod_struct hu ht;cases ex;show cs=(((xs.map (·.1))).map (flatF f)).flatten
   have:=vN fs.toList (((xs.map (·.1))).map (flatF f)) 0 _ cs h.2 hl (by simpa using hn) fun i fd hi=>by
    have hi2:fs[i]? =some fd:=by simpa using hi
    have h1:=hel i fd hi2;have hi':i<xs.length:=by
     rw[hn];exact(Array.getElem?_eq_some_iff.1 hi2).1
    rw[List.getElem?_eq_getElem hi']at h1;have hall:=List.all_eq_true.1 h.1 fd (List.mem_of_getElem? hi);exact⟨flatF f xs[i].1,by simp[hi'],qf f (d:=xs[i].1) (p:=xs[i].2) hall h1⟩
   rw[List.drop_zero]at this;exact this
  .cases h
theorem laid_at {P:Program}{W:World}{name:String}{d:DataW Unit}{g:Nat}{t:TypeId}(hg:P.globalNamed name=some g)(hty:(P.globals[g]?).map (·.type)=some t)(ho:s4 P 9 t=true):
  ∀{l:List (String×DataW Unit)} (i:Nat),laidMet P l W->l[i]? =some (name,d)->Cells (Full W) (Oo g) (flatF 9 d)
 | [],i,_,h=>by simp at h
 |x::l,0,hL,h=>by
  simp only[List.getElem?_cons_zero,Option.some.injEq]at h;subst h;obtain⟨ps,⟨g',t',cs,fuel,p,q,hg',ht',hvar,hd,_,_⟩,_⟩:=hL;obtain rfl:=Option.some.inj (hg.symm.trans hg');obtain rfl:=Option.some.inj (hty.symm.trans ht');have e:=qf 9 ho hd;intro j v hj;refine⟨_,rfl,?_⟩;rw[<- e]at hj;have:=World.var?_cell hg hvar j;rw[Addr.aP,Nat.zero_add];refine Full.cell ?_;rw[this];simpa using hj
 |x::l,i+1,hL,h=>laid_at hg hty ho i hL.tail (by simpa using h)
theorem Cells.block {H:Hp}{g:Nat}{v:Value}{vs:List Value}(h:Cells H (Oo g) (v::vs)):∃ o,H g=some o:=by
 obtain⟨a,ha,hc⟩:=h 0 v rfl;cases ha;unfold Hp.cell? at hc;rw[Addr.aP]at hc;cases e:H g with
 |none=>simp only[e]at hc;cases hc
 |some o=>exact⟨o,rfl⟩
section
variable {L : List As} {H : Hp}
theorem Sep.cg (h:Sep L H)(i:Nat){b j:Nat}{c:Array Value}{e:TypeId}{v:Value}{K:Value->Prop}(hi:L[i]? =some (ah b (Oa c e)))(hv:td c.toList j=some v)(k:K v):Ld H ((O b).add j) K:=by
 rw[Addr.aP,Nat.zero_add];exact h.ld i hi hv k
theorem Sep.jU (h:Sep L H)(i:Nat){b j k:Nat}{c:Array Value}{e:TypeId}{v:Value}{K:Value->Prop}(hi:L[i]? =some (ah b (Oa c e)))(hv:td c.toList (j+k)=some v)(kk:K v):Ld H (((O b).add j).add k) K:=by
 rw[Addr.aP,Addr.aP,Nat.zero_add];exact h.ld i hi hv kk
theorem Sep.IR (h:Sep L H)(i:Nat){b j:Nat}{c:Array Value}{e:TypeId}{v:Value}{K:Hp->Prop}(hi:L[i]? =some (ah b (Oa c e)))(hj:j<c.size)(hv:v.oneCell'=true)
  (k:∀ H',Sep (L.set i (ah b (Oa (c.setIfInBounds j v) e))) H'->K H'):St H (((O b).add j).add 0) v K:=by
 rw[Addr.aP,Addr.aP,Nat.zero_add,Nat.add_zero];exact h.st i hi hj hv k
end
end Go.Hw
namespace Go.Proofs.YtlgnlghmbcpmhaaGreatDoor
open Tryz (prog)
namespace W
open Go Go.Hw
theorem gI :prog.follows .mixedOrders=true:=by kernel_rfl
abbrev xN (f:FuncId)(z:Array Value)(H:Hp)(K:Array Value->Hp->Prop):Prop:=aa prog f z H fun v H=>DA v fun x0=>K x0 H
abbrev fP (f:FuncId)(z:Array Value)(H:Hp)(K:Bool->Hp->Prop):Prop:=aa prog f z H fun v H=>DB v fun x0=>K x0 H
abbrev cC (f:FuncId)(z:Array Value)(H:Hp)(K:Int->Hp->Prop):Prop:=aa prog f z H fun v H=>DI .i64 v fun x0=>K x0 H
abbrev qD (f:FuncId)(z:Array Value)(H:Hp)(K:OA->Hp->Prop):Prop:=aa prog f z H fun v H=>DP v fun x0=>K x0 H
abbrev lM (f:FuncId)(z:Array Value)(H:Hp)(K:OA->Nat->Nat->Hp->Prop):Prop:=aa prog f z H fun v H=>aE v fun x0 x1 x2=>K x0 x1 x2 H
abbrev Mh (f:FuncId)(z:Array Value)(H:Hp)(K:ByteArray->Hp->Prop):Prop:=aa prog f z H fun v H=>DS v fun x0=>K x0 H
abbrev xO (f:FuncId)(z:Array Value)(H:Hp)(K:Int->Hp->Prop):Prop:=aa prog f z H fun v H=>DI .u32 v fun x0=>K x0 H
abbrev eh (f:FuncId)(z:Array Value)(H:Hp)(K:Int->Hp->Prop):Prop:=aa prog f z H fun v H=>DI .u64 v fun x0=>K x0 H
abbrev Hz :=aa prog
abbrev B4 (f:FuncId)(z:Array Value)(H:Hp)(K:Array Value->Prop):Prop:=bD prog f z H fun v=>DA v K
abbrev Ip (f:FuncId)(z:Array Value)(H:Hp)(K:Bool->Prop):Prop:=bD prog f z H fun v=>DB v K
abbrev eG (f:FuncId)(z:Array Value)(H:Hp)(K:Int->Prop):Prop:=bD prog f z H fun v=>DI .i64 v K
abbrev Iq (f:FuncId)(z:Array Value)(H:Hp)(K:OA->Nat->Nat->Prop):Prop:=bD prog f z H fun v=>aE v K
abbrev Mi (f:FuncId)(z:Array Value)(H:Hp)(K:Int->Prop):Prop:=bD prog f z H fun v=>DI .u32 v K
abbrev pf (f:FuncId)(z:Array Value)(H:Hp)(K:Int->Prop):Prop:=bD prog f z H fun v=>DI .u64 v K
abbrev Qz :=bD prog
def oG (x1 x2 x3:Int)(H:Hp)(K:VK):Prop:=
 Nw H (Oa #[I 0,I 0,I 0,I 0,I 0,I 0,I 0,I 0,I 0,I 0,I 0,I 0,I 0,I 0,I 0,I 0,I 0] 153) fun b1 H1=>Hz 251 #[I x1,I x3] H1 fun v1 H2=>pa v1 fun x4 x5=>(aq (x5 !=0) (cK H2 (O b1) #[I 0,I 0,I 0,I 0,I 0,I 0,I 0,I 0,I 0,I 0,I 0,I 0,I 0,I 0,I 0,I 0,I 0] 17 fun H3=>aY H3 (O b1) 17 fun l4=>K (.tuple #[.agg l4.toArray,I x5]) H3) (aq (decide (x2<x4)) (cK H2 (O b1) #[I 0,I 0,I 0,I 0,I 0,I 0,I 0,I 0,I 0,I 0,I 0,I 0,I 0,I 0,I 0,I 0,I 0] 17 fun H4=>aY H4 (O b1) 17 fun l5=>K (.tuple #[.agg l5.toArray,I 7]) H4) (cC 253 #[I x3] H2 fun x6 H5=>xN 252 #[I x1,I x6] H5 fun y1 H6=>cK H6 (O b1) y1 17 fun H7=>aY H7 (O b1) 17 fun l6=>K (.tuple #[.agg l6.toArray,I 0]) H7)))
theorem oG.ok x1 x2 x3 H K (h:oG x1 x2 x3 H K):aa prog 181 #[I x1,I x2,I x3] H K:=
 bX gI Tryz.func181 rfl rfl h
def mg (x1 x2:Int)(H:Hp)(K:VK):Prop:=
 cC 253 #[I x2] H fun x3 H1=>fP 313 #[I x1,I x3] H1 fun c1 H2=>aq (!c1) (K (.tuple #[I 0,I 1]) H2) (cC 253 #[I x2] H2 fun x4 H3=>cC 314 #[I x1,I x4] H3 fun x5 H4=>K (.tuple #[I x5,I 0]) H4)
theorem mg.ok x1 x2 H K (h:mg x1 x2 H K):aa prog 251 #[I x1,I x2] H K:=
 bX gI Tryz.func251 rfl rfl h
def dd.l4 (K:VK):Nat->Int->Addr->Addr->Int->Int->Int->Hp->Prop
 |0,_,_,_,_,_,_,_=>False
 |k+1,x4,a1,a2,x5,x6,x7,H=>
  let R4:=dd.l4 K k
  aq (decide (x7<4)) ((0<=(u64.wrap x4)/\cz x7 4 (cK H ((a2.add 5).add (x7.toNat*3)) #[I x5,I x6,I (cT .i64 1 (u64.wrap x4))] 3 fun H5=>R4 x4 a1 a2 (i64.wrap (x5+x6)) x6 (i64.wrap (x7+1)) H5))) (aY H a2 17 fun l1=>cK H a1 l1.toArray 17 fun H6=>aY H6 a1 17 fun l2=>K (.agg l2.toArray) H6)
def dd (x1 x2:Int)(H:Hp)(K:VK):Prop:=
 Nw H (Oa #[I 0,I 0,I 0,I 0,I 0,I 0,I 0,I 0,I 0,I 0,I 0,I 0,I 0,I 0,I 0,I 0,I 0] 153) fun b1 H1=>Nw H1 (Oa #[I 0,I 0,I 0,I 0,I 0,I 0,I 0,I 0,I 0,I 0,I 0,I 0,I 0,I 0,I 0,I 0,I 0] 153) fun b2 H2=>cK H2 (O b2) #[I x1,I x2,I 1,I 8,I (i64.wrap (8*x2)),I 0,I 0,I 0,I 0,I 0,I 0,I 0,I 0,I 0,I 0,I 0,I 0] 17 fun H3=>cC 315 #[I x1,I x2] H3 fun x3 H4=>(∃ k,dd.l4 K k x1 (O b1) (O b2) 9 x3 0 H4)
def dd.l4.L (K:VK)(k:Nat):de:=fun E D H=>
 eI E 0 .i64 fun x4=>eN E 4 fun a1=>eN E 5 fun a2=>eI E 6 .i64 fun x5=>eI E 7 .i64 fun x6=>eI E 18 .i64 fun x7=>ax D (dd.l4 K k x4 a1 a2 x5 x6 x7 H)
def dd.Λ4 (_:VK)(_R4:Int->Addr->Addr->Int->Int->Int->Hp->Prop):aI:=aI.none (fun _=>none)
def dd.Λ (K:VK):aI:=⟨fun i=>none,fun i=>match Nat.beq i 4 with|true=>some (fun E D H=>∃ k,dd.l4.L K k E D H)|false=>none,(fun _=>none)⟩
theorem dd.ok x1 x2 H K (h:dd x1 x2 H K):aa prog 252 #[I x1,I x2] H K:=
 dV (Λ:=(dd.Λ K)) gI Tryz.func252 rfl rfl h (oC (fun E D H h=>by
   refine Safe.cJ (dd.l4.L K) (fun E D H h=>?_) (fun k E D H h=>?_) E D H h
   .obtain⟨w0,e0,g1⟩:=DG.out h;obtain⟨x4,rfl,g2⟩:=DI.out g1;obtain⟨w4,e4,g3⟩:=DG.out g2;obtain⟨pw4,rfl,g4⟩:=DP.out g3;obtain⟨a1,rfl,g5⟩:=NN.out g4;obtain⟨w5,e5,g6⟩:=DG.out g5;obtain⟨pw5,rfl,g7⟩:=DP.out g6;obtain⟨a2,rfl,g8⟩:=NN.out g7;obtain⟨w6,e6,g9⟩:=DG.out g8;obtain⟨x5,rfl,g10⟩:=DI.out g9;obtain⟨w7,e7,g11⟩:=DG.out g10;obtain⟨x6,rfl,g12⟩:=DI.out g11;obtain⟨w18,e18,g13⟩:=DG.out g12;obtain⟨x7,rfl,g14⟩:=DI.out g13;obtain⟨rfl,h'⟩:=ax.out g14;exact h'
   .obtain⟨x4,e0,g2⟩:=GI h;obtain⟨a1,e4,g5⟩:=GN g2;obtain⟨a2,e5,g8⟩:=GN g5;obtain⟨x5,e6,g10⟩:=GI g8;obtain⟨x6,e7,g12⟩:=GI g10;obtain⟨x7,e18,g14⟩:=GI g12;obtain⟨rfl,h'⟩:=ax.out g14;exact cU (Λ:=(dd.Λ4 K (dd.l4 K k))) gI [] (ag.cons e0 (ag.cons e4 (ag.cons e5 (ag.cons e6 (ag.cons e7 (ag.cons e18 (ag.nil _))))))) h' oN) oN)
def mZ (x1:Int)(H:Hp)(K:VK):Prop:=
 aq (decide (x1<32)) (K (I 0) H) (aq (decide (x1>4096)) (K (I 0) H) (aq ((cD .i64 x1 (i64.wrap (x1-1))) !=0) (K (I 0) H) (((8:Int)≠0/\i64=i64/\K (I (i64.wrap (Int.tdiv x1 8))) H))))
theorem mZ.ok x1 H K (h:mZ x1 H K):aa prog 253 #[I x1] H K:=
 bX gI Tryz.func253 rfl rfl h
def me (y1:Array Value)(H:Hp)(K:VK):Prop:=
 Nw H (Oa y1 153) fun b1 H1=>aM H1 ((O b1).add 0) fun x1=>aM H1 ((O b1).add 1) fun x2=>eG 253 #[I (i64.wrap ((if 4096<x2 then 4096 else x2)*8))] H1 fun x3=>Ip 313 #[I x1,I x3] H1 fun c1=>aq c1 (aY H1 (O b1) 17 fun l1=>aM H1 ((O b1).add 0) fun x4=>aM H1 ((O b1).add 1) fun x5=>B4 252 #[I x4,I x5] H1 fun y2=>zH prog .eql 153 (.agg l1.toArray) (.agg y2) fun c2=>K (.bool c2) H1) (K (.bool false) H1)
theorem me.ok y1 H K (h:me y1 H K):aa prog 295 #[.agg y1] H K:=
 bX gI Tryz.func295 rfl rfl h
def mh (x1 x2:Int)(H:Hp)(K:VK):Prop:=
 aq (decide (x1>=0)) (aq (decide (x1<=(32:Int))) (K (.bool (decide (x2>0))) H) (K (.bool false) H)) (K (.bool false) H)
theorem mh.ok x1 x2 H K (h:mh x1 x2 H K):aa prog 313 #[I x1,I x2] H K:=
 bX gI Tryz.func313 rfl rfl h
def ml (x1 x2:Int)(H:Hp)(K:VK):Prop:=
 cC 315 #[I x1,I x2] H fun x3 H1=>K (I (i64.wrap (9+(i64.wrap (4*x3))))) H1
theorem ml.ok x1 x2 H K (h:ml x1 x2 H K):aa prog 314 #[I x1,I x2] H K:=
 bX gI Tryz.func314 rfl rfl h
def mn (x1 x2:Int)(H:Hp)(K:VK):Prop:=
 (0<=(u64.wrap x1)/\(x2≠0/\i64=i64/\K (I (i64.wrap ((i64.wrap (Int.tdiv (i64.wrap ((cT .i64 1 (u64.wrap x1))-1)) x2))+1))) H))
theorem mn.ok x1 x2 H K (h:mn x1 x2 H K):aa prog 315 #[I x1,I x2] H K:=
 bX gI Tryz.func315 rfl rfl h
def kM (x1 x2 x3 x4 x5:Int)(H:Hp)(K:VK):Prop:=
 Nw H (Oa #[I x1,I x2,I x3] 150) fun b1 H1=>aq (decide (x4<1)) (K (.tuple #[I 0,I 0,I 2]) H1) (aq (decide (x5<0)) (K (.tuple #[I 0,I 0,I 2]) H1) (aM H1 ((O b1).add 2) fun x6=>aq (decide (x5>=x6)) (K (.tuple #[I 0,I 0,I 2]) H1) ((x4≠0/\i64=i64/\aM H1 ((O b1).add 1) fun x7=>aq (decide ((i64.wrap (Int.tdiv x5 x4))>=x7)) (K (.tuple #[I 0,I 0,I 2]) H1) (aM H1 ((O b1).add 0) fun x8=>(x4≠0/\i64=i64/\(x4≠0/\i64=i64/\K (.tuple #[I (i64.wrap (x8+(i64.wrap (Int.tdiv x5 x4)))),I (Int.tmod x5 x4),I 0]) H1)))))))
theorem kM.ok x1 x2 x3 x4 x5 H K (h:kM x1 x2 x3 x4 x5 H K):aa prog 316 #[.agg #[I x1,I x2,I x3],I x4,I x5] H K:=
 bX gI Tryz.func316 rfl rfl h
end W
namespace Lay
open Go Go.Hw W
def bP (s:Int):Nat:=if s=32 then 4 else if s=64 then 8 else if s=128 then 16 else if s=256 then 32 else if s=512 then 64 else if s=1024 then 128 else if s=2048 then 256 else if s=4096 then 512 else 0
theorem rZ {x y:Nat}(hx:x<2^63)(hy:y<2^63):cD .i64 (x:Int) (y:Int)=((x&&&y:Nat):Int):=by
 have hle:x&&&y<=x:=Nat.and_le_left;have h1:(BitVec.ofInt 64 (x:Int)&&&BitVec.ofInt 64 (y:Int)).toNat=x&&&y:=by
  simp only[BitVec.toNat_and,BitVec.ofInt_natCast,BitVec.toNat_ofNat];rw[Nat.mod_eq_of_lt (by omega),Nat.mod_eq_of_lt (by omega)]
 unfold cD;rw[show i64.bits=64 from rfl,h1];exact bg
theorem yJ :(List.range 4097).all (fun n=>if 32<=n then(if n&&&(n-1)==0 then bP n !=0&&n/8==bP n else bP n==0)else true)=true:=by kernel_rfl
theorem sr {s:Int}(h:s<32):bP s=0:=by
 unfold bP
 repeat (rw[if_neg (by omega)])
theorem sq {s:Int}(h:4096<s):bP s=0:=by
 unfold bP
 repeat (rw[if_neg (by omega)])
theorem wo (s:Int)(H:Hp):aa prog 253 #[I s] H (RetE (I (bP s)) H):=by
 apply mZ.ok;unfold mZ;rw[ic,ic,Kg];by_cases h1:s<32
 .rw[if_pos h1,sr h1];exact RetE.mk _ _
 rw[if_neg h1];by_cases h2:s>4096
 .rw[if_pos h2,sq h2];exact RetE.mk _ _
 rw[if_neg h2];obtain⟨n,rfl⟩:=Int.eq_ofNat_of_zero_le (show 0<=s by omega);have ht:=List.all_eq_true.1 yJ n (by simp;omega);rw[if_pos (by omega)]at ht;rw[show((n:Int)-1)=((n-1:Nat):Int) by omega,bg,rZ (by omega) (by omega)];split at ht
 .rename_i h3
  simp only[Bool.and_eq_true,bne_iff_ne,beq_iff_eq]at ht h3;rw[h3,if_neg (by simp)];refine⟨by omega,rfl,RetE.of ?_⟩;rw[show Int.tdiv (n:Int) 8=((n/8:Nat):Int)from rfl,ht.2,bg (by omega) (by have:=ht.2;omega)]
 .rename_i h3
  simp only[beq_iff_eq]at ht h3;rw[if_pos (by simp;omega),ht];exact RetE.mk _ _
def bI (k p:Nat):Nat:=(2^k-1)/p+1
theorem Bh {k p:Nat}(hk:k<=33:=by omega):bI k p<=8589934592:=by
 unfold bI;have h1:2^k<=2^33:=Nat.pow_le_pow_right (by omega) hk;have h2:(2^k-1)/p<=2^k-1:=Nat.div_le_self _ _;have h3:1<=2^k:=Nat.one_le_two_pow;omega
theorem xu {k:Nat}(h:k<=62):(2:Nat)^k<=4611686018427387904:=Nat.pow_le_pow_right (n:=2) (by omega) h
theorem lG {k:Nat}(h:k<=62):cT .i64 1 (k:Int)=((2^k:Nat):Int):=by
 unfold cT;rw[Int.toNat_natCast,show i64.bits=64 from rfl,Nat.min_eq_left (by omega),Int.one_mul];have:=xu h;rw[show((2:Int)^k)=((2^k:Nat):Int) by simp];exact dS
theorem CB {k p:Nat}(hk:k<=62)(hp:0<p)(hp2:p<2^62)(H:Hp):aa prog 315 #[I k,I p] H (RetE (I (bI k p)) H):=by
 apply mn.ok;unfold mn;have h1:=xu hk;have h2:1<=2^k:=Nat.one_le_two_pow;have h3:(2^k-1)/p<=2^k-1:=Nat.div_le_self _ _;rw[iQ,lG hk,bg (x:=((2^k:Nat):Int)-1)];rw[show(((2^k:Nat):Int)-1)=((2^k-1:Nat):Int) by omega,show Int.tdiv ((2^k-1:Nat):Int) (p:Int)=(((2^k-1)/p:Nat):Int)from rfl];refine⟨by omega,by omega,rfl,RetE.of ?_⟩;rw[dS,show((((2^k-1)/p:Nat):Int)+1)=(((2^k-1)/p+1:Nat):Int) by rfl,dS];rfl
theorem lB (k p:Int)(H:Hp):aa prog 313 #[I k,I p] H (RetE (.bool (decide (0<=k/\k<=32/\0<p))) H):=by
 apply mh.ok;unfold mh;rw[ic,ic];by_cases h1:k>=0
 .rw[if_pos h1];by_cases h2:k<=32
  .rw[if_pos h2];refine RetE.of ?_;congr 2;simp;omega
  .rw[if_neg h2];refine RetE.of ?_;congr 1;simp;omega
 .rw[if_neg h1];refine RetE.of ?_;congr 1;simp;omega
def eQ (k p:Nat):Nat:=9+4*bI k p
theorem JD {k p:Nat}(hk:k<=32)(hp:0<p)(hp2:p<2^62)(H:Hp):aa prog 314 #[I k,I p] H (RetE (I (eQ k p)) H):=by
 apply ml.ok;unfold ml;refine aa.use (CB (by omega) hp hp2 H) ?_
 try simp only[HV]
 have:=Bh (k:=k) (p:=p);refine RetE.of ?_;rw[bg (x:=4*(bI k p:Int)),bg];unfold eQ;simp
theorem rJ (s:Int):bP s<=512:=by
 unfold bP
 repeat' split
 all_goals omega
def oA (k s:Int):Int×Int:=if 0<=k/\k<=32/\0<bP s then(eQ k.toNat (bP s),0)else(0,1)
theorem tQ (k s:Int)(H:Hp):aa prog 251 #[I k,I s] H (RetE (.tuple #[I (oA k s).1,I (oA k s).2]) H):=by
 apply mg.ok;unfold mg;refine aa.use (wo s H) ?_
 try simp only[HV]
 refine aa.use (lB k _ H) ?_
 try simp only[HV]
 unfold oA;have hle:=rJ s;by_cases h:0<=k/\k<=32/\0<bP s
 .rw[if_pos h];refine bY (by simp;omega) ?_;refine aa.use (wo s H) ?_
  try simp only[HV]
  obtain⟨n,rfl⟩:=Int.eq_ofNat_of_zero_le h.1;refine aa.use (JD (by omega) h.2.2 (by omega) H) ?_
  try simp only[HV]
  exact RetE.mk _ _
 .rw[if_neg h];exact cO (by simp;omega) (RetE.mk _ _)
end Lay
namespace W
open Go Go.Hw
theorem jj :prog.follows .mixedOrders=true:=by kernel_rfl
def fJ (x1:Int)(H:Hp)(K:VK):Prop:=
 aq (x1==0) (K (I 64) H) ((0<=(58:Int)/\cz (cB .u64 (u64.wrap ((cD .u64 x1 (u64.wrap (0-x1)))*285870213051353865)) 58) 64 (Io H ((O 2).add ((cB .u64 (u64.wrap ((cD .u64 x1 (u64.wrap (0-x1)))*285870213051353865)) 58).toNat*1)) fun x2=>K (I (i64.wrap x2)) H)))
theorem fJ.ok x1 H K (h:fJ x1 H K):aa prog 212 #[U x1] H K:=
 bX jj Tryz.func212 rfl rfl h
def gT (x1:Int)(H:Hp)(K:VK):Prop:=
 cC 294 #[U x1] H fun x2 H1=>K (I x2) H1
theorem gT.ok x1 H K (h:gT x1 H K):aa prog 227 #[U x1] H K:=
 bX jj Tryz.func227 rfl rfl h
def jL (x1 x2:Int)(H:Hp)(K:VK):Prop:=
 (0<=(32:Int)/\(0<=(32:Int)/\(0<=(32:Int)/\(0<=(32:Int)/\(0<=(32:Int)/\K (.tuple #[U (u64.wrap ((u64.wrap ((u64.wrap ((cB .u64 x1 32)*(cB .u64 x2 32)))+(cB .u64 (u64.wrap ((u64.wrap ((cB .u64 x1 32)*(cD .u64 x2 4294967295)))+(cB .u64 (u64.wrap ((cD .u64 x1 4294967295)*(cD .u64 x2 4294967295))) 32))) 32)))+(cB .u64 (u64.wrap ((cD .u64 (u64.wrap ((u64.wrap ((cB .u64 x1 32)*(cD .u64 x2 4294967295)))+(cB .u64 (u64.wrap ((cD .u64 x1 4294967295)*(cD .u64 x2 4294967295))) 32))) 4294967295)+(u64.wrap ((cD .u64 x1 4294967295)*(cB .u64 x2 32))))) 32))),U (u64.wrap (x1*x2))]) H)))))
theorem jL.ok x1 x2 H K (h:jL x1 x2 H K):aa prog 250 #[U x1,U x2] H K:=
 bX jj Tryz.func250 rfl rfl h
def cu.j7 (K:VK)(x4 x5:Int)(H:Hp):=
 aq (decide (x4>=256)) ((0<=(8:Int)/\(0<=(u8.wrap (cB .u64 x4 8))/\Cf ((⟨#[0,1,2,2,3,3,3,3,4,4,4,4,4,4,4,4,5,5,5,5,5,5,5,5,5,5,5,5,5,5,5,5,6,6,6,6,6,6,6,6,6,6,6,6,6,6,6,6,6,6,6,6,6,6,6,6,6,6,6,6,6,6,6,6,7,7,7,7,7,7,7,7,7,7,7,7,7,7,7,7,7,7,7,7,7,7,7,7,7,7,7,7,7,7,7,7,7,7,7,7,7,7,7,7,7,7,7,7,7,7,7,7,7,7,7,7,7,7,7,7,7,7,7,7,7,7,7,7,8,8,8,8,8,8,8,8,8,8,8,8,8,8,8,8,8,8,8,8,8,8,8,8,8,8,8,8,8,8,8,8,8,8,8,8,8,8,8,8,8,8,8,8,8,8,8,8,8,8,8,8,8,8,8,8,8,8,8,8,8,8,8,8,8,8,8,8,8,8,8,8,8,8,8,8,8,8,8,8,8,8,8,8,8,8,8,8,8,8,8,8,8,8,8,8,8,8,8,8,8,8,8,8,8,8,8,8,8,8,8,8,8,8,8,8,8,8,8,8,8,8,8,8,8,8,8,8]⟩):ByteArray) (u8.wrap (cB .u64 x4 8)).toNat fun x6=>K (I (i64.wrap ((i64.wrap (x5+8))+(i64.wrap x6)))) H))) ((0<=(u8.wrap x4)/\Cf ((⟨#[0,1,2,2,3,3,3,3,4,4,4,4,4,4,4,4,5,5,5,5,5,5,5,5,5,5,5,5,5,5,5,5,6,6,6,6,6,6,6,6,6,6,6,6,6,6,6,6,6,6,6,6,6,6,6,6,6,6,6,6,6,6,6,6,7,7,7,7,7,7,7,7,7,7,7,7,7,7,7,7,7,7,7,7,7,7,7,7,7,7,7,7,7,7,7,7,7,7,7,7,7,7,7,7,7,7,7,7,7,7,7,7,7,7,7,7,7,7,7,7,7,7,7,7,7,7,7,7,8,8,8,8,8,8,8,8,8,8,8,8,8,8,8,8,8,8,8,8,8,8,8,8,8,8,8,8,8,8,8,8,8,8,8,8,8,8,8,8,8,8,8,8,8,8,8,8,8,8,8,8,8,8,8,8,8,8,8,8,8,8,8,8,8,8,8,8,8,8,8,8,8,8,8,8,8,8,8,8,8,8,8,8,8,8,8,8,8,8,8,8,8,8,8,8,8,8,8,8,8,8,8,8,8,8,8,8,8,8,8,8,8,8,8,8,8,8,8,8,8,8,8,8,8,8,8,8]⟩):ByteArray) (u8.wrap x4).toNat fun x7=>K (I (i64.wrap (x5+(i64.wrap x7)))) H))
def cu.j4 (K:VK)(x2 x3:Int)(H:Hp):=
 aq (decide (x2>=65536)) ((0<=(16:Int)/\cu.j7 K (cB .u64 x2 16) (i64.wrap (x3+16)) H)) (cu.j7 K x2 x3 H)
def cu (x1:Int)(H:Hp)(K:VK):Prop:=
 aq (decide (x1>=4294967296)) ((0<=(32:Int)/\cu.j4 K (cB .u64 x1 32) 32 H)) (cu.j4 K x1 0 H)
def cu.Λ (K:VK):aI:=⟨fun i=>match Nat.beq i 7 with|true=>some (fun E D H=>eI E 0 .u64 fun x4=>eI E 2 .i64 fun x5=>ax D (cu.j7 K x4 x5 H))|false=>match Nat.beq i 4 with|true=>some (fun E D H=>eI E 0 .u64 fun x2=>eI E 2 .i64 fun x3=>ax D (cu.j4 K x2 x3 H))|false=>none,fun i=>none,(fun _=>none)⟩
theorem cu.ok x1 H K (h:cu x1 H K):aa prog 294 #[U x1] H K:=
 dV (Λ:=(cu.Λ K)) jj Tryz.func294 rfl rfl h (oC (fun E D H h=>by
   obtain⟨x2,e0,g2⟩:=GI h;obtain⟨x3,e2,g4⟩:=GI g2;obtain⟨rfl,h'⟩:=ax.out g4;exact cU (Λ:=(cu.Λ K)) jj [] (ag.cons e0 (ag.cons e2 (ag.nil _))) h' (oC (fun E D H h=>by
     obtain⟨x4,e0,g2⟩:=GI h;obtain⟨x5,e2,g4⟩:=GI g2;obtain⟨rfl,h'⟩:=ax.out g4;exact cU (Λ:=(cu.Λ K)) jj [] (ag.cons e0 (ag.cons e2 (ag.nil _))) h' oN) oN)) oN)
def fV (x1:Int)(H:Hp)(K:VK):Prop:=
 cC 212 #[U x1] H fun x2 H1=>K (I x2) H1
theorem fV.ok x1 H K (h:fV x1 H K):aa prog 306 #[U x1] H K:=
 bX jj Tryz.func306 rfl rfl h
def gU (x1:Int)(H:Hp)(K:VK):Prop:=
 (0<=(1:Int)/\(0<=(1:Int)/\(0<=(2:Int)/\(0<=(2:Int)/\(0<=(4:Int)/\(0<=(4:Int)/\eh 376 #[U (kT .u64 (cD .u64 (cB .u64 (kT .u64 (cD .u64 (cB .u64 (kT .u64 (cD .u64 (cB .u64 x1 1) 6148914691236517205) (cT .u64 (cD .u64 x1 6148914691236517205) 1)) 2) 3689348814741910323) (cT .u64 (cD .u64 (kT .u64 (cD .u64 (cB .u64 x1 1) 6148914691236517205) (cT .u64 (cD .u64 x1 6148914691236517205) 1)) 3689348814741910323) 2)) 4) 1085102592571150095) (cT .u64 (cD .u64 (kT .u64 (cD .u64 (cB .u64 (kT .u64 (cD .u64 (cB .u64 x1 1) 6148914691236517205) (cT .u64 (cD .u64 x1 6148914691236517205) 1)) 2) 3689348814741910323) (cT .u64 (cD .u64 (kT .u64 (cD .u64 (cB .u64 x1 1) 6148914691236517205) (cT .u64 (cD .u64 x1 6148914691236517205) 1)) 3689348814741910323) 2)) 1085102592571150095) 4))] H fun x2 H1=>K (U x2) H1))))))
theorem gU.ok x1 H K (h:gU x1 H K):aa prog 375 #[U x1] H K:=
 bX jj Tryz.func375 rfl rfl h
def fO (x1:Int)(H:Hp)(K:VK):Prop:=
 (0<=(8:Int)/\(0<=(8:Int)/\(0<=(16:Int)/\(0<=(16:Int)/\(0<=(32:Int)/\(0<=(32:Int)/\K (U (kT .u64 (cB .u64 (kT .u64 (cD .u64 (cB .u64 (kT .u64 (cD .u64 (cB .u64 x1 8) 71777214294589695) (cT .u64 (cD .u64 x1 71777214294589695) 8)) 16) 281470681808895) (cT .u64 (cD .u64 (kT .u64 (cD .u64 (cB .u64 x1 8) 71777214294589695) (cT .u64 (cD .u64 x1 71777214294589695) 8)) 281470681808895) 16)) 32) (cT .u64 (kT .u64 (cD .u64 (cB .u64 (kT .u64 (cD .u64 (cB .u64 x1 8) 71777214294589695) (cT .u64 (cD .u64 x1 71777214294589695) 8)) 16) 281470681808895) (cT .u64 (cD .u64 (kT .u64 (cD .u64 (cB .u64 x1 8) 71777214294589695) (cT .u64 (cD .u64 x1 71777214294589695) 8)) 281470681808895) 16)) 32))) H))))))
theorem fO.ok x1 H K (h:fO x1 H K):aa prog 376 #[U x1] H K:=
 bX jj Tryz.func376 rfl rfl h
theorem mJ :prog.follows .mixedOrders=true:=by kernel_rfl
def oM (x1:Int)(H:Hp)(K:VK):Prop:=
 aq (decide (x1<1)) (K (.tuple #[I 0,.bool false]) H) (aq (decide (x1>4294967296)) (K (.tuple #[I 0,.bool false]) H) (aq ((cD .i64 x1 (i64.wrap (x1-1))) !=0) (K (.tuple #[I 0,.bool false]) H) (cC 212 #[U (u64.wrap x1)] H fun x2 H1=>K (.tuple #[I x2,.bool true]) H1)))
theorem oM.ok x1 H K (h:oM x1 H K):aa prog 147 #[I x1] H K:=
 bX mJ Tryz.func147 rfl rfl h
def cZ.l6 (K:VK):Nat->Int->OA->Nat->Nat->Int->Int->Int->Hp->Prop
 |0,_,_,_,_,_,_,_,_=>False
 |k+1,x3,A2,n2,m2,x4,x5,x6,H=>
  let R6:=cZ.l6 K k
  aq (decide (x6<x5)) (cz x6 n2 (NN A2 fun a1=>St H ((a1.add (x6.toNat*1)).add 0) (U x4) fun H2=>eh 120 #[U x4,U x3] H2 fun x7 H3=>R6 x3 A2 n2 m2 x7 x5 (i64.wrap (x6+1)) H3)) (K (.tuple #[.slice A2 n2 m2,I 0]) H)
def cZ (x1 x2:Int)(H:Hp)(K:VK):Prop:=
 aq (decide (x2<0)) (K (.tuple #[.slice none 0 0,I 1]) H) (aq (decide (x2>1048576)) (K (.tuple #[.slice none 0 0,I 1]) H) (jA prog 108 x2 x2 H fun v1 H1=>aE v1 fun A1 n1 m1=>(∃ k,cZ.l6 K k x1 A1 n1 m1 1 (n1:Int) 0 H1)))
def cZ.l6.L (K:VK)(k:Nat):de:=fun E D H=>
 eI E 0 .u64 fun x3=>DG (E.get? 6) fun w6=>aE w6 fun A2 n2 m2=>eI E 7 .u64 fun x4=>eI E 18 .i64 fun x5=>eI E 19 .i64 fun x6=>ax D (cZ.l6 K k x3 A2 n2 m2 x4 x5 x6 H)
def cZ.Λ6 (_:VK)(_R6:Int->OA->Nat->Nat->Int->Int->Int->Hp->Prop):aI:=aI.none (fun _=>none)
def cZ.Λ (K:VK):aI:=⟨fun i=>none,fun i=>match Nat.beq i 6 with|true=>some (fun E D H=>∃ k,cZ.l6.L K k E D H)|false=>none,(fun _=>none)⟩
theorem cZ.ok x1 x2 H K (h:cZ x1 x2 H K):aa prog 248 #[U x1,I x2] H K:=
 dV (Λ:=(cZ.Λ K)) mJ Tryz.func248 rfl rfl h (oC (fun E D H h=>by
   refine Safe.cJ (cZ.l6.L K) (fun E D H h=>?_) (fun k E D H h=>?_) E D H h
   .obtain⟨w0,e0,g1⟩:=DG.out h;obtain⟨x3,rfl,g2⟩:=DI.out g1;obtain⟨w6,e6,g3⟩:=DG.out g2;obtain⟨A2,n2,m2,rfl,g4⟩:=aE.out g3;obtain⟨w7,e7,g5⟩:=DG.out g4;obtain⟨x4,rfl,g6⟩:=DI.out g5;obtain⟨w18,e18,g7⟩:=DG.out g6;obtain⟨x5,rfl,g8⟩:=DI.out g7;obtain⟨w19,e19,g9⟩:=DG.out g8;obtain⟨x6,rfl,g10⟩:=DI.out g9;obtain⟨rfl,h'⟩:=ax.out g10;exact h'
   .obtain⟨x3,e0,g2⟩:=GI h;obtain⟨w6,e6,g3⟩:=DG.out g2;obtain⟨A2,n2,m2,rfl,g4⟩:=aE.out g3;obtain⟨x4,e7,g6⟩:=GI g4;obtain⟨x5,e18,g8⟩:=GI g6;obtain⟨x6,e19,g10⟩:=GI g8;obtain⟨rfl,h'⟩:=ax.out g10;exact cU (Λ:=(cZ.Λ6 K (cZ.l6 K k))) mJ [] (ag.cons e0 (ag.cons e6 (ag.cons e7 (ag.cons e18 (ag.cons e19 (ag.nil _)))))) h' oN) oN)
def oO (x1:Int)(H:Hp)(K:VK):Prop:=
 fP 348 #[I x1] H fun c1 H1=>aq (!c1) (K (.tuple #[U 0,I 1]) H1) (eh 349 #[I x1] H1 fun x2 H2=>K (.tuple #[U x2,I 0]) H2)
theorem oO.ok x1 H K (h:oO x1 H K):aa prog 310 #[I x1] H K:=
 bX mJ Tryz.func310 rfl rfl h
def oL (x1:Int)(H:Hp)(K:VK):Prop:=
 fP 348 #[I x1] H fun c1 H1=>aq (!c1) (K (.tuple #[U 0,I 1]) H1) (eh 349 #[I x1] H1 fun x2 H2=>Hz 178 #[U x2] H2 fun v3 H3=>kS v3 fun x3 x4=>(K (.tuple #[U x3,I x4]) H3))
theorem oL.ok x1 H K (h:oL x1 H K):aa prog 311 #[I x1] H K:=
 bX mJ Tryz.func311 rfl rfl h
def oP (x1:Int)(H:Hp)(K:VK):Prop:=
 aq (decide (x1>=0)) (K (.bool (decide (x1<=(32:Int)))) H) (K (.bool false) H)
theorem oP.ok x1 H K (h:oP x1 H K):aa prog 348 #[I x1] H K:=
 bX mJ Tryz.func348 rfl rfl h
def oQ (x1:Int)(H:Hp)(K:VK):Prop:=
 (0<=(u64.wrap x1)/\eh 246 #[U 7,U (cB .u64 18446744069414584320 (u64.wrap x1))] H fun x2 H1=>K (U x2) H1)
theorem oQ.ok x1 H K (h:oQ x1 H K):aa prog 349 #[I x1] H K:=
 bX mJ Tryz.func349 rfl rfl h
theorem mQ :prog.follows .mixedOrders=true:=by kernel_rfl
def nr (x1:Int)(H:Hp)(K:VK):Prop:=
 Nw H (Oa #[I 0,I 0] 217) fun b1 H1=>fP 327 #[I x1] H1 fun c1 H2=>aq (!c1) (cK H2 (O b1) #[I 0,I 0] 2 fun H3=>aY H3 (O b1) 2 fun l1=>K (.tuple #[.agg l1.toArray,I 1]) H3) (((2:Int)≠0/\i64=i64/\xN 328 #[I x1,I (i64.wrap (Int.tdiv x1 2))] H2 fun y1 H4=>cK H4 (O b1) y1 2 fun H5=>aY H5 (O b1) 2 fun l2=>K (.tuple #[.agg l2.toArray,I 0]) H5))
theorem nr.ok x1 H K (h:nr x1 H K):aa prog 263 #[I x1] H K:=
 bX mQ Tryz.func263 rfl rfl h
def lp (x1 x2:Int)(H:Hp)(K:VK):Prop:=
 Nw H (Oa #[I x1,I x2] 217) fun b1 H1=>Nw H1 (Oa #[I 0,I 0] 217) fun b2 H2=>aM H2 ((O b1).add 1) fun x3=>aM H2 ((O b1).add 0) fun x4=>cK H2 (O b2) #[I x3,I x4] 2 fun H3=>aY H3 (O b2) 2 fun l1=>K (.agg l1.toArray) H3
theorem lp.ok x1 x2 H K (h:lp x1 x2 H K):aa prog 264 #[.agg #[I x1,I x2]] H K:=
 bX mQ Tryz.func264 rfl rfl h
def nt (x1 x2:Int)(H:Hp)(K:VK):Prop:=
 Nw H (Oa #[I x1,I x2] 217) fun b1 H1=>aM H1 ((O b1).add 0) fun x3=>Hz 147 #[I x3] H1 fun v2 H2=>pZ v2 fun x4 c1=>(aM H2 ((O b1).add 1) fun x5=>Hz 147 #[I x5] H2 fun v6 H3=>pZ v6 fun x6 c2=>(aq c1 (aq c2 (K (.bool (decide ((i64.wrap (x4+x6))<=32))) H3) (K (.bool false) H3)) (K (.bool false) H3)))
theorem nt.ok x1 x2 H K (h:nt x1 x2 H K):aa prog 297 #[.agg #[I x1,I x2]] H K:=
 bX mQ Tryz.func297 rfl rfl h
def nu (x1 x2:Int)(H:Hp)(K:VK):Prop:=
 Nw H (Oa #[I x1,I x2] 217) fun b1 H1=>aY H1 (O b1) 2 fun l1=>fP 297 #[.agg l1.toArray] H1 fun c1 H2=>aq (!c1) (K (I 0) H2) (aM H2 ((O b1).add 0) fun x3=>aM H2 ((O b1).add 1) fun x4=>K (I (i64.wrap (x3*x4))) H2)
theorem nu.ok x1 x2 H K (h:nu x1 x2 H K):aa prog 298 #[.agg #[I x1,I x2]] H K:=
 bX mQ Tryz.func298 rfl rfl h
def nv (x1:Int)(H:Hp)(K:VK):Prop:=
 aq (decide (x1>=0)) (K (.bool (decide (x1<=(32:Int)))) H) (K (.bool false) H)
theorem nv.ok x1 H K (h:nv x1 H K):aa prog 327 #[I x1] H K:=
 bX mQ Tryz.func327 rfl rfl h
def mA (x1 x2:Int)(H:Hp)(K:VK):Prop:=
 Nw H (Oa #[I 0,I 0] 217) fun b1 H1=>(0<=(u64.wrap x2)/\(0<=(u64.wrap (i64.wrap (x1-x2)))/\cK H1 (O b1) #[I (cT .i64 1 (u64.wrap x2)),I (cT .i64 1 (u64.wrap (i64.wrap (x1-x2))))] 2 fun H2=>aY H2 (O b1) 2 fun l1=>K (.agg l1.toArray) H2))
theorem mA.ok x1 x2 H K (h:mA x1 x2 H K):aa prog 328 #[I x1,I x2] H K:=
 bX mQ Tryz.func328 rfl rfl h
theorem qj :prog.follows .mixedOrders=true:=by kernel_rfl
def bR.l3 (K:VK):Nat->Int->Int->Int->Hp->Prop
 |0,_,_,_,_=>False
 |k+1,x2,x3,x4,H=>
  let R3:=bR.l3 K k
  aq (decide (x4<=(32:Int))) (aq (x2==x3) (K (I x4) H) (R3 x2 (i64.wrap (2*x3)) (i64.wrap (x4+1)) H)) (K (I (-1)) H)
def bR (x1:Int)(H:Hp)(K:VK):Prop:=
 (∃ k,bR.l3 K k x1 1 0 H)
def bR.l3.L (K:VK)(k:Nat):de:=fun E D H=>
 eI E 0 .i64 fun x2=>eI E 3 .i64 fun x3=>eI E 4 .i64 fun x4=>ax D (bR.l3 K k x2 x3 x4 H)
def bR.Λ3 (_:VK)(_R3:Int->Int->Int->Hp->Prop):aI:=aI.none (fun _=>none)
def bR.Λ (K:VK):aI:=⟨fun i=>none,fun i=>match Nat.beq i 3 with|true=>some (fun E D H=>∃ k,bR.l3.L K k E D H)|false=>none,(fun _=>none)⟩
theorem bR.ok x1 H K (h:bR x1 H K):aa prog 86 #[I x1] H K:=
 dV (Λ:=(bR.Λ K)) qj Tryz.func86 rfl rfl h (oC (fun E D H h=>by
   refine Safe.cJ (bR.l3.L K) (fun E D H h=>?_) (fun k E D H h=>?_) E D H h
   .obtain⟨w0,e0,g1⟩:=DG.out h;obtain⟨x2,rfl,g2⟩:=DI.out g1;obtain⟨w3,e3,g3⟩:=DG.out g2;obtain⟨x3,rfl,g4⟩:=DI.out g3;obtain⟨w4,e4,g5⟩:=DG.out g4;obtain⟨x4,rfl,g6⟩:=DI.out g5;obtain⟨rfl,h'⟩:=ax.out g6;exact h'
   .obtain⟨x2,e0,g2⟩:=GI h;obtain⟨x3,e3,g4⟩:=GI g2;obtain⟨x4,e4,g6⟩:=GI g4;obtain⟨rfl,h'⟩:=ax.out g6;exact cU (Λ:=(bR.Λ3 K (bR.l3 K k))) qj [] (ag.cons e0 (ag.cons e3 (ag.cons e4 (ag.nil _)))) h' oN) oN)
end W
namespace Shp
open Go Go.Hw W
def db (i:Nat):Nat:=285870213051353865*2^i%18446744073709551616/288230376151711744
def IU :List Nat:=(List.range 64).map fun j=>((List.range 64).find? fun i=>db i==j).getD 0
def HQ :List Value:=IU.map fun(n:Nat)=>Value.int .u8 (n:Int)
def T64 (H:Hp):Prop:=Cells H (Oo 2) HQ
theorem T64.le {H H':Hp}(h:T64 H)(k:H.le H'):T64 H':=Cells.le h k
theorem G2 :(List.range 64).all (fun k=>cB .u64 (u64.wrap ((cD .u64 ((2^k:Nat):Int) (u64.wrap (0-((2^k:Nat):Int))))*(285870213051353865:Int))) (58:Int)==(db k:Int)&&(decide (db k<64)&&(IU[db k]? ==some k)))=true:=by decide +kernel
theorem Is (k:Nat)(hk:k<64)(H:Hp)(hT:T64 H):aa prog 212 #[U ((2^k:Nat):Int)] H (RetE (I (k:Int)) H):=by
 apply fJ.ok;unfold fJ;have hp:(2:Nat)^k≠0:=Nat.ne_of_gt (Nat.pow_pos (by omega));refine bT (by omega) ⟨by decide,?_⟩;have ht:=List.all_eq_true.1 G2 k (by simp;omega);simp only[Bool.and_eq_true,beq_iff_eq,decide_eq_true_eq]at ht;obtain⟨h1,h2,h3⟩:=ht;rw[h1];have hv:HQ[db k]? =some (.int .u8 (k:Int)):=by
  unfold HQ;rw[List.getElem?_map,h3];rfl
 refine Cells.read hT hv rfl (by decide) ?_;simp only[HV];rw[dS];exact RetE.mk _ _
def lg (n:Int):Option Nat:=(List.range 33).find? fun k=>n==((2^k:Nat):Int)
theorem gn {n:Int}{k:Nat}(h:lg n=some k):k<=32/\n=((2^k:Nat):Int):=by
 have h1:=List.mem_of_find?_eq_some h;have h2:=List.find?_some h;simp only[beq_iff_eq]at h2;exact⟨by have:=List.mem_range.1 h1;omega,h2⟩
theorem Hd :(List.range 33).all (fun k=>lg ((2^k:Nat):Int)==some k)=true:=by decide +kernel
theorem rC {k:Nat}(hk:k<=32:=by omega):lg ((2^k:Nat):Int)=some k:=by
 have:=List.all_eq_true.1 Hd k (List.mem_range.2 (by omega));simpa using this
theorem pow_pos (k:Nat):1<=2^k:=Nat.pow_pos (by omega)
theorem cL {k m:Nat}(h:k<=m):2^k<=2^m:=Nat.pow_le_pow_right (by omega) h
theorem LI {n:Int}(h:n<1):lg n=none:=by
 cases e:lg n with
 |none=>rfl
 |some k=>have:=(gn e).2;have:=pow_pos k;omega
theorem LH {n:Int}(h:n>4294967296):lg n=none:=by
 cases e:lg n with
 |none=>rfl
 |some k=>
  obtain⟨h1,h2⟩:=gn e;have:=cL h1;rw[show 2^32=4294967296 by decide]at this;omega
theorem KV {m:Nat}(h1:1<=m)(h2:m<=4294967296):m&&&(m-1)=0↔lg (m:Int)≠none:=by
 rw[Nat.and_sub_one_eq_zero_iff_isPowerOfTwo (by omega)];constructor
 .rintro⟨k,rfl⟩;have hk:k<=32:=by
   apply Nat.le_of_not_lt;intro h;have:=cL (show 33<=k from h);rw[show 2^33=8589934592 by decide]at this;omega
  rw[rC hk];simp
 .intro h;cases e:lg (m:Int)with
  |none=>exact absurd e h
  |some k=>exact⟨k,Int.ofNat_inj.1 (gn e).2⟩
def eV (n:Int):Value:=match lg n with|some k=>.tuple #[.int .i64 (k:Int),.bool true]|none=>.tuple #[.int .i64 0,.bool false]
theorem pM (n:Int)(H:Hp)(hT:T64 H):aa prog 147 #[I n] H (RetE (eV n) H):=by
 apply oM.ok;unfold oM;by_cases h1:n<1
 .refine aA h1 ?_;unfold eV;rw[LI h1];exact RetE.mk _ _
 refine au h1 ?_;by_cases h2:n>4294967296
 .refine aA h2 ?_;unfold eV;rw[LH h2];exact RetE.mk _ _
 refine au h2 ?_;obtain⟨m,rfl⟩:=Int.eq_ofNat_of_zero_le (show 0<=n by omega);rw[show((m:Int)-1)=((m-1:Nat):Int) by omega,bg,Lay.rZ (by omega) (by omega)];have hl:=KV (m:=m) (by omega) (by omega);unfold eV;cases e:lg (m:Int)with
 |none=>
  refine aU (fun h=>?_) (RetE.mk _ _);exact(hl.1 (Int.ofNat_inj.1 h)) e
 |some k=>
  refine aF (Int.ofNat_inj.2 (hl.2 (by rw[e];simp))) ?_;obtain⟨h3,h4⟩:=gn e;rw[fC,h4];refine aa.use (Is k (by omega) H hT) ?_
  try simp only[HV]
  exact RetE.mk _ _
def rL (n:Int):Int:=match lg n with|some k=>(k:Int)|none=>-1
theorem wx (n:Int)(H:Hp):∀(t k:Nat),k+t=33->(∀ j,j<k->n≠((2^j:Nat):Int))->bR.l3 (RetE (I (rL n)) H) (t+1) n ((2^k:Nat):Int) (k:Int) H
 |0,k,h,hk=>by
  unfold bR.l3;refine au (by omega) ?_;unfold rL;cases e:lg n with
  |none=>exact RetE.mk _ _
  |some j=>exact absurd (gn e).2 (hk j (by have:=(gn e).1;omega))
 |t+1,k,h,hk=>by
  unfold bR.l3;refine aA (by omega) ?_;by_cases e:n=((2^k:Nat):Int)
  .refine bH e ?_;unfold rL;rw[e,rC];exact RetE.mk _ _
  .refine bT e ?_;have hp:=cL (show k<=32 by omega);rw[show 2^32=4294967296 by decide]at hp;rw[show(2:Int)*((2^k:Nat):Int)=((2^(k+1):Nat):Int) by rw[Nat.pow_succ];omega,dS (by rw[Nat.pow_succ];omega),bg (x:=(k:Int)+1)];exact wx n H t (k+1) (by omega) fun j hj=>by
    by_cases ej:j=k
    .rw[ej];exact e
    .exact hk j (by omega)
theorem Ht (n:Int)(H:Hp):aa prog 86 #[I n] H (RetE (I (rL n)) H):=by
 apply bR.ok;unfold bR;exact⟨34,wx n H 33 0 rfl fun j hj=>absurd hj (by omega)⟩
def jg (r c:Int):Bool:=match lg r,lg c with|some a,some b=>decide (a+b≤32)|_,_=>false
theorem pE {r c:Int}(h:jg r c=true):∃ a b:Nat,r=((2^a:Nat):Int)/\c=((2^b:Nat):Int)/\a+b<=32/\lg r=some a/\lg c=some b:=by
 unfold jg at h;split at h
 .rename_i a b ha hb
  exact⟨a,b,(gn ha).2,(gn hb).2,by simpa using h,ha,hb⟩
 .cases h
theorem qM {a b:Nat}(h:a+b<=32):jg ((2^a:Nat):Int) ((2^b:Nat):Int)=true:=by
 unfold jg;rw[rC,rC];simpa using h
theorem fA (r c:Int)(H:Hp)(hT:T64 H):aa prog 297 #[.agg #[I r,I c]] H (RetE (.bool (jg r c)) H):=by
 apply aa.ret;apply nt.ok;unfold nt;refine(Sep.start H).nw fun b1 H1 hs=>?_
 first|refine hs.cg 1 rfl rfl ?_|refine hs.jU 1 rfl rfl ?_
 try simp only[HV]
 refine aa.use (pM r H1 (hT.le (hs.ow 0 rfl))) ?_;unfold jg eV;cases ea:lg r with
 |none=>
  simp only[HV]
  first|refine hs.cg 1 rfl rfl ?_|refine hs.jU 1 rfl rfl ?_
  try simp only[HV]
  refine aa.use (pM c H1 (hT.le (hs.ow 0 rfl))) ?_;unfold eV;cases eb:lg c<;>simp only[HV]<;>exact hs.fin 0 rfl _
 |some a=>
  simp only[HV]
  first|refine hs.cg 1 rfl rfl ?_|refine hs.jU 1 rfl rfl ?_
  try simp only[HV]
  refine aa.use (pM c H1 (hT.le (hs.ow 0 rfl))) ?_;unfold eV;cases eb:lg c with
  |none=>simp only[HV];exact hs.fin 0 rfl _
  |some b=>
   simp only[HV];have h1:=(gn ea).1;have h2:=(gn eb).1;rw[bg];have:decide ((a:Int)+(b:Int)<=32)=decide (a+b<=32):=by
    by_cases h:a+b<=32
    .rw[decide_eq_true h,decide_eq_true (by omega)]
    .rw[decide_eq_false h,decide_eq_false (by omega)]
   rw[this];exact hs.fin 0 rfl _
theorem size_le {a b:Nat}(h:a+b<=32):2^a*2^b<=4294967296:=by
 rw[<- Nat.pow_add,show 4294967296=2^32 by decide];exact cL h
def qW (r c:Int):Int:=if jg r c=true then r*c else 0
theorem tT (r c:Int)(H:Hp)(hT:T64 H):aa prog 298 #[.agg #[I r,I c]] H (RetE (I (qW r c)) H):=by
 apply aa.ret;apply nu.ok;unfold nu;refine(Sep.start H).nw fun b1 H1 hs=>?_
 refine hs.bJ 1 rfl rfl ?_;refine aa.use (fA r c H1 (hT.le (hs.ow 0 rfl))) ?_;simp only[HV];unfold qW;cases e:jg r c with
 |false=>exact cO rfl (hs.fin 0 rfl _)
 |true=>
  refine bY rfl ?_
  first|refine hs.cg 1 rfl rfl ?_|refine hs.jU 1 rfl rfl ?_
  try simp only[HV]
  first|refine hs.cg 1 rfl rfl ?_|refine hs.jU 1 rfl rfl ?_
  try simp only[HV]
  obtain⟨a,b,rfl,rfl,h,_,_⟩:=pE e;have:=size_le h;rw[<- Int.natCast_mul,dS,if_pos trivial];exact hs.fin 0 rfl _
end Shp
namespace W
open Go Go.Hw
theorem fj :prog.follows .mixedOrders=true:=by kernel_rfl
def dY.l3 (K:VK):Nat->Int->OA->Nat->Nat->Int->Int->Hp->Prop
 |0,_,_,_,_,_,_,_=>False
 |k+1,x1,A2,n2,m2,x2,x3,H=>
  let R3:=dY.l3 K k
  aq (decide (x3<x2)) (cz x3 n2 (NN A2 fun a1=>df H (a1.add (x3.toNat*1)) fun x4=>eh 177 #[U x1,U x4] H fun x5 H1=>R3 x5 A2 n2 m2 x2 (i64.wrap (x3+1)) H1)) (K (U x1) H)
def dY (A1:OA)(n1 m1:Nat)(H:Hp)(K:VK):Prop:=
 (∃ k,dY.l3 K k 0 A1 n1 m1 (n1:Int) 0 H)
def dY.l3.L (K:VK)(k:Nat):de:=fun E D H=>
 eI E 3 .u64 fun x1=>DG (E.get? 6) fun w6=>aE w6 fun A2 n2 m2=>eI E 7 .i64 fun x2=>eI E 8 .i64 fun x3=>ax D (dY.l3 K k x1 A2 n2 m2 x2 x3 H)
def dY.Λ3 (_:VK)(_R3:Int->OA->Nat->Nat->Int->Int->Hp->Prop):aI:=aI.none (fun _=>none)
def dY.Λ (K:VK):aI:=⟨fun i=>none,fun i=>match Nat.beq i 3 with|true=>some (fun E D H=>∃ k,dY.l3.L K k E D H)|false=>none,(fun _=>none)⟩
theorem dY.ok A1 n1 m1 H K (h:dY A1 n1 m1 H K):aa prog 119 #[.slice A1 n1 m1] H K:=
 dV (Λ:=(dY.Λ K)) fj Tryz.func119 rfl rfl h (oC (fun E D H h=>by
   refine Safe.cJ (dY.l3.L K) (fun E D H h=>?_) (fun k E D H h=>?_) E D H h
   .obtain⟨w3,e3,g1⟩:=DG.out h;obtain⟨x1,rfl,g2⟩:=DI.out g1;obtain⟨w6,e6,g3⟩:=DG.out g2;obtain⟨A2,n2,m2,rfl,g4⟩:=aE.out g3;obtain⟨w7,e7,g5⟩:=DG.out g4;obtain⟨x2,rfl,g6⟩:=DI.out g5;obtain⟨w8,e8,g7⟩:=DG.out g6;obtain⟨x3,rfl,g8⟩:=DI.out g7;obtain⟨rfl,h'⟩:=ax.out g8;exact h'
   .obtain⟨x1,e3,g2⟩:=GI h;obtain⟨w6,e6,g3⟩:=DG.out g2;obtain⟨A2,n2,m2,rfl,g4⟩:=aE.out g3;obtain⟨x2,e7,g6⟩:=GI g4;obtain⟨x3,e8,g8⟩:=GI g6;obtain⟨rfl,h'⟩:=ax.out g8;exact cU (Λ:=(dY.Λ3 K (dY.l3 K k))) fj [] (ag.cons e3 (ag.cons e6 (ag.cons e7 (ag.cons e8 (ag.nil _))))) h' oN) oN)
def pr (x1 x2:Int)(H:Hp)(K:VK):Prop:=
 xN 180 #[U x1,U x2] H fun y1 H1=>eh 179 #[.agg y1] H1 fun x3 H2=>K (U x3) H2
theorem pr.ok x1 x2 H K (h:pr x1 x2 H K):aa prog 120 #[U x1,U x2] H K:=
 bX fj Tryz.func120 rfl rfl h
def qH (x1:Int)(H:Hp)(K:VK):Prop:=
 aq (decide (x1>=18446744069414584321)) (K (U (u64.wrap (x1-18446744069414584321))) H) (K (U x1) H)
theorem qH.ok x1 H K (h:qH x1 H K):aa prog 121 #[U x1] H K:=
 bX fj Tryz.func121 rfl rfl h
def po (x1 x2:Int)(H:Hp)(K:VK):Prop:=
 eh 121 #[U x1] H fun x3 H1=>eh 121 #[U x2] H1 fun x4 H2=>Hz 249 #[.agg #[U 0,U x3],.agg #[U 0,U x4]] H2 fun v3 H3=>Ky v3 fun y1 x5=>(Nw H3 (Oa #[U 0,U 0] 284) fun b1 H4=>cK H4 (O b1) y1 2 fun H5=>aY H5 (O b1) 2 fun l4=>eh 179 #[.agg l4.toArray] H5 fun x6 H6=>K (U x6) H6)
theorem po.ok x1 x2 H K (h:po x1 x2 H K):aa prog 177 #[U x1,U x2] H K:=
 bX fj Tryz.func177 rfl rfl h
def pq (x1:Int)(H:Hp)(K:VK):Prop:=
 eh 121 #[U x1] H fun x2 H1=>aq (x2==0) (K (.tuple #[U 0,I 13]) H1) (eh 246 #[U x1,U 18446744069414584319] H1 fun x3 H2=>K (.tuple #[U x3,I 0]) H2)
theorem pq.ok x1 H K (h:pq x1 H K):aa prog 178 #[U x1] H K:=
 bX fj Tryz.func178 rfl rfl h
def eo.j5 (K:VK)(x7 x8:Int)(H:Hp):=
 aq (decide ((u64.wrap (x8+(u64.wrap (x7*4294967295))))<(u64.wrap (x7*4294967295)))) (eh 121 #[U (u64.wrap ((u64.wrap (x8+(u64.wrap (x7*4294967295))))+4294967295))] H fun x9 H2=>K (U x9) H2) (eh 121 #[U (u64.wrap (x8+(u64.wrap (x7*4294967295))))] H fun x10 H3=>K (U x10) H3)
def eo (x1 x2:Int)(H:Hp)(K:VK):Prop:=
 Nw H (Oa #[U x1,U x2] 284) fun b1 H1=>df H1 ((O b1).add 0) fun x3=>(0<=(32:Int)/\df H1 ((O b1).add 0) fun x4=>df H1 ((O b1).add 1) fun x5=>df H1 ((O b1).add 1) fun x6=>aq (decide (x6<(cB .u64 x3 32))) (eo.j5 K (cD .u64 x4 4294967295) (u64.wrap ((u64.wrap (x5-(cB .u64 x3 32)))-4294967295)) H1) (eo.j5 K (cD .u64 x4 4294967295) (u64.wrap (x5-(cB .u64 x3 32))) H1))
def eo.Λ (K:VK):aI:=⟨fun i=>match Nat.beq i 5 with|true=>some (fun E D H=>eI E 4 .u64 fun x7=>eI E 5 .u64 fun x8=>ax D (eo.j5 K x7 x8 H))|false=>none,fun i=>none,(fun _=>none)⟩
theorem eo.ok x1 x2 H K (h:eo x1 x2 H K):aa prog 179 #[.agg #[U x1,U x2]] H K:=
 dV (Λ:=(eo.Λ K)) fj Tryz.func179 rfl rfl h (oC (fun E D H h=>by
   obtain⟨x7,e4,g2⟩:=GI h;obtain⟨x8,e5,g4⟩:=GI g2;obtain⟨rfl,h'⟩:=ax.out g4;exact cU (Λ:=(eo.Λ K)) fj [] (ag.cons e4 (ag.cons e5 (ag.nil _))) h' oN) oN)
def oF (x1:Int)(H:Hp)(K:VK):Prop:=
 K (.bool (decide (x1<18446744069414584321))) H
theorem oF.ok x1 H K (h:oF x1 H K):aa prog 211 #[U x1] H K:=
 bX fj Tryz.func211 rfl rfl h
def px (x1 x2:Int)(H:Hp)(K:VK):Prop:=
 eh 309 #[U x2] H fun x3 H1=>eh 177 #[U x1,U x3] H1 fun x4 H2=>K (U x4) H2
theorem px.ok x1 x2 H K (h:px x1 x2 H K):aa prog 243 #[U x1,U x2] H K:=
 bX fj Tryz.func243 rfl rfl h
def bZ.l15 (K:VK):Nat->OA->Nat->Nat->OA->Nat->Nat->OA->Nat->Nat->Int->Int->Hp->Prop
 |0,_,_,_,_,_,_,_,_,_,_,_,_=>False
 |k+1,A7,n7,m7,A8,n8,m8,A9,n9,m9,x9,x10,H=>
  let R15:=bZ.l15 K k
  aq (decide (x10>=0)) (cz x10 n9 (NN A9 fun a3=>df H (a3.add (x10.toNat*1)) fun x11=>pf 120 #[U x9,U x11] H fun x12=>cz x10 n7 (NN A7 fun a4=>df H (a4.add (x10.toNat*1)) fun x13=>pf 120 #[U x9,U x13] H fun x14=>cz x10 n8 (NN A8 fun a5=>St H ((a5.add (x10.toNat*1)).add 0) (U x12) fun H7=>R15 A7 n7 m7 A8 n8 m8 A9 n9 m9 x14 (i64.wrap (x10-1)) H7)))) (K (.tuple #[.slice A8 n8 m8,I 0,I 0]) H)
def bZ.l4 (K:VK):Nat->OA->Nat->Nat->OA->Nat->Nat->Int->OA->Nat->Nat->Int->Int->Hp->Prop
 |0,_,_,_,_,_,_,_,_,_,_,_,_,_=>False
 |k+1,A3,n3,m3,A4,n4,m4,x1,A5,n5,m5,x2,x3,H=>
  let R4:=bZ.l4 K k
  aq (decide (x3<x2)) (cz x3 n5 (NN A5 fun a1=>df H (a1.add (x3.toNat*1)) fun x4=>eh 121 #[U x4] H fun x5 H2=>aq (x5==0) (K (.tuple #[.slice none 0 0,I x3,I 13]) H2) (eh 120 #[U x1,U x4] H2 fun x6 H3=>cz x3 n4 (NN A4 fun a2=>St H3 ((a2.add (x3.toNat*1)).add 0) (U x1) fun H4=>R4 A3 n3 m3 A4 n4 m4 x6 A5 n5 m5 x2 (i64.wrap (x3+1)) H4)))) (Hz 178 #[U x1] H fun v5 H5=>kS v5 fun x7 x8=>(aq (x8 !=0) (K (.tuple #[.slice none 0 0,I 0,I x8]) H5) (jA prog 108 (n3:Int) (n3:Int) H5 fun v8 H6=>aE v8 fun A6 n6 m6=>(∃ k,bZ.l15 K k A3 n3 m3 A6 n6 m6 A4 n4 m4 x7 (i64.wrap ((n3:Int)-1)) H6))))
def bZ (A1:OA)(n1 m1:Nat)(H:Hp)(K:VK):Prop:=
 jA prog 108 (n1:Int) (n1:Int) H fun v1 H1=>aE v1 fun A2 n2 m2=>(∃ k,bZ.l4 K k A1 n1 m1 A2 n2 m2 1 A1 n1 m1 (n1:Int) 0 H1)
def bZ.l4.L (K:VK)(k:Nat):de:=fun E D H=>
 DG (E.get? 0) fun w0=>aE w0 fun A3 n3 m3=>DG (E.get? 5) fun w5=>aE w5 fun A4 n4 m4=>eI E 6 .u64 fun x1=>DG (E.get? 14) fun w14=>aE w14 fun A5 n5 m5=>eI E 15 .i64 fun x2=>eI E 16 .i64 fun x3=>ax D (bZ.l4 K k A3 n3 m3 A4 n4 m4 x1 A5 n5 m5 x2 x3 H)
def bZ.l15.L (K:VK)(k:Nat):de:=fun E D H=>
 DG (E.get? 0) fun w0=>aE w0 fun A7 n7 m7=>DG (E.get? 2) fun w2=>aE w2 fun A8 n8 m8=>DG (E.get? 5) fun w5=>aE w5 fun A9 n9 m9=>eI E 9 .u64 fun x9=>eI E 10 .i64 fun x10=>ax D (bZ.l15 K k A7 n7 m7 A8 n8 m8 A9 n9 m9 x9 x10 H)
def bZ.Λ4 (_:VK)(_R4:OA→Nat→Nat→OA→Nat→Nat→Int→OA→Nat→Nat→Int→Int→Hp→Prop):aI:=aI.none (fun i=>match Nat.beq i 17 with|true=>some ([],[0,1,2,3,4,5,6,7,8,9,10,11,12,13,14],15)|false=>none)
def bZ.Λ15 (_:VK)(_R15:OA→Nat→Nat→OA→Nat→Nat→OA→Nat→Nat→Int→Int→Hp→Prop):aI:=aI.none (fun i=>match Nat.beq i 17 with|true=>some ([],[0,1,2,3,4,5,6,7,8,9,10,11,12,13,14],15)|false=>none)
def bZ.Λ (K:VK):aI:=⟨fun i=>none,fun i=>match Nat.beq i 15 with|true=>some (fun E D H=>∃ k,bZ.l15.L K k E D H)|false=>match Nat.beq i 4 with|true=>some (fun E D H=>∃ k,bZ.l4.L K k E D H)|false=>none,(fun i=>match Nat.beq i 17 with|true=>some ([],[0,1,2,3,4,5,6,7,8,9,10,11,12,13,14],15)|false=>none)⟩
theorem bZ.ok A1 n1 m1 H K (h:bZ A1 n1 m1 H K):aa prog 244 #[.slice A1 n1 m1] H K:=
 dV (Λ:=(bZ.Λ K)) fj Tryz.func244 rfl rfl h (oC (fun E D H h=>by
   refine Safe.cJ (bZ.l4.L K) (fun E D H h=>?_) (fun k E D H h=>?_) E D H h
   .obtain⟨w0,e0,g1⟩:=DG.out h;obtain⟨A3,n3,m3,rfl,g2⟩:=aE.out g1;obtain⟨w5,e5,g3⟩:=DG.out g2;obtain⟨A4,n4,m4,rfl,g4⟩:=aE.out g3;obtain⟨w6,e6,g5⟩:=DG.out g4;obtain⟨x1,rfl,g6⟩:=DI.out g5;obtain⟨w14,e14,g7⟩:=DG.out g6;obtain⟨A5,n5,m5,rfl,g8⟩:=aE.out g7;obtain⟨w15,e15,g9⟩:=DG.out g8;obtain⟨x2,rfl,g10⟩:=DI.out g9;obtain⟨w16,e16,g11⟩:=DG.out g10;obtain⟨x3,rfl,g12⟩:=DI.out g11;obtain⟨rfl,h'⟩:=ax.out g12;exact h'
   .obtain⟨w0,e0,g1⟩:=DG.out h;obtain⟨A3,n3,m3,rfl,g2⟩:=aE.out g1;obtain⟨w5,e5,g3⟩:=DG.out g2;obtain⟨A4,n4,m4,rfl,g4⟩:=aE.out g3;obtain⟨x1,e6,g6⟩:=GI g4;obtain⟨w14,e14,g7⟩:=DG.out g6;obtain⟨A5,n5,m5,rfl,g8⟩:=aE.out g7;obtain⟨x2,e15,g10⟩:=GI g8;obtain⟨x3,e16,g12⟩:=GI g10;obtain⟨rfl,h'⟩:=ax.out g12;exact cU (Λ:=(bZ.Λ4 K (bZ.l4 K k))) fj [] (ag.cons e0 (ag.cons e5 (ag.cons e6 (ag.cons e14 (ag.cons e15 (ag.cons e16 (ag.nil _))))))) h' oN) (oC (fun E D H h=>by
   refine Safe.cJ (bZ.l15.L K) (fun E D H h=>?_) (fun k E D H h=>?_) E D H h
   .obtain⟨w0,e0,g1⟩:=DG.out h;obtain⟨A7,n7,m7,rfl,g2⟩:=aE.out g1;obtain⟨w2,e2,g3⟩:=DG.out g2;obtain⟨A8,n8,m8,rfl,g4⟩:=aE.out g3;obtain⟨w5,e5,g5⟩:=DG.out g4;obtain⟨A9,n9,m9,rfl,g6⟩:=aE.out g5;obtain⟨w9,e9,g7⟩:=DG.out g6;obtain⟨x9,rfl,g8⟩:=DI.out g7;obtain⟨w10,e10,g9⟩:=DG.out g8;obtain⟨x10,rfl,g10⟩:=DI.out g9;obtain⟨rfl,h'⟩:=ax.out g10;exact h'
   .obtain⟨w0,e0,g1⟩:=DG.out h;obtain⟨A7,n7,m7,rfl,g2⟩:=aE.out g1;obtain⟨w2,e2,g3⟩:=DG.out g2;obtain⟨A8,n8,m8,rfl,g4⟩:=aE.out g3;obtain⟨w5,e5,g5⟩:=DG.out g4;obtain⟨A9,n9,m9,rfl,g6⟩:=aE.out g5;obtain⟨x9,e9,g8⟩:=GI g6;obtain⟨x10,e10,g10⟩:=GI g8;obtain⟨rfl,h'⟩:=ax.out g10;exact cU (Λ:=(bZ.Λ15 K (bZ.l15 K k))) fj [] (ag.cons e0 (ag.cons e2 (ag.cons e5 (ag.cons e9 (ag.cons e10 (ag.nil _)))))) h' oN) oN))
def cW.l3 (K:VK):Nat->Int->OA->Nat->Nat->Int->Int->Hp->Prop
 |0,_,_,_,_,_,_,_=>False
 |k+1,x1,A2,n2,m2,x2,x3,H=>
  let R3:=cW.l3 K k
  aq (decide (x3<x2)) (cz x3 n2 (NN A2 fun a1=>df H (a1.add (x3.toNat*1)) fun x4=>eh 120 #[U x1,U x4] H fun x5 H1=>R3 x5 A2 n2 m2 x2 (i64.wrap (x3+1)) H1)) (K (U x1) H)
def cW (A1:OA)(n1 m1:Nat)(H:Hp)(K:VK):Prop:=
 (∃ k,cW.l3 K k 1 A1 n1 m1 (n1:Int) 0 H)
def cW.l3.L (K:VK)(k:Nat):de:=fun E D H=>
 eI E 3 .u64 fun x1=>DG (E.get? 6) fun w6=>aE w6 fun A2 n2 m2=>eI E 7 .i64 fun x2=>eI E 8 .i64 fun x3=>ax D (cW.l3 K k x1 A2 n2 m2 x2 x3 H)
def cW.Λ3 (_:VK)(_R3:Int->OA->Nat->Nat->Int->Int->Hp->Prop):aI:=aI.none (fun _=>none)
def cW.Λ (K:VK):aI:=⟨fun i=>none,fun i=>match Nat.beq i 3 with|true=>some (fun E D H=>∃ k,cW.l3.L K k E D H)|false=>none,(fun _=>none)⟩
theorem cW.ok A1 n1 m1 H K (h:cW A1 n1 m1 H K):aa prog 245 #[.slice A1 n1 m1] H K:=
 dV (Λ:=(cW.Λ K)) fj Tryz.func245 rfl rfl h (oC (fun E D H h=>by
   refine Safe.cJ (cW.l3.L K) (fun E D H h=>?_) (fun k E D H h=>?_) E D H h
   .obtain⟨w3,e3,g1⟩:=DG.out h;obtain⟨x1,rfl,g2⟩:=DI.out g1;obtain⟨w6,e6,g3⟩:=DG.out g2;obtain⟨A2,n2,m2,rfl,g4⟩:=aE.out g3;obtain⟨w7,e7,g5⟩:=DG.out g4;obtain⟨x2,rfl,g6⟩:=DI.out g5;obtain⟨w8,e8,g7⟩:=DG.out g6;obtain⟨x3,rfl,g8⟩:=DI.out g7;obtain⟨rfl,h'⟩:=ax.out g8;exact h'
   .obtain⟨x1,e3,g2⟩:=GI h;obtain⟨w6,e6,g3⟩:=DG.out g2;obtain⟨A2,n2,m2,rfl,g4⟩:=aE.out g3;obtain⟨x2,e7,g6⟩:=GI g4;obtain⟨x3,e8,g8⟩:=GI g6;obtain⟨rfl,h'⟩:=ax.out g8;exact cU (Λ:=(cW.Λ3 K (cW.l3 K k))) fj [] (ag.cons e3 (ag.cons e6 (ag.cons e7 (ag.cons e8 (ag.nil _))))) h' oN) oN)
def dL.l2 (K:VK):Nat->Int->Int->Int->Hp->Prop
 |0,_,_,_,_=>False
 |k+1,x4,x5,x6,H=>
  let R2:=dL.l2 K k
  aq (decide (x4>0)) (aq ((cD .u64 x4 1)==1) (eh 120 #[U x5,U x6] H fun x7 H2=>eh 120 #[U x6,U x6] H2 fun x8 H3=>(0<=(1:Int)/\R2 (cB .u64 x4 1) x7 x8 H3)) (eh 120 #[U x6,U x6] H fun x9 H4=>(0<=(1:Int)/\R2 (cB .u64 x4 1) x5 x9 H4))) (K (U x5) H)
def dL (x1 x2:Int)(H:Hp)(K:VK):Prop:=
 eh 121 #[U x1] H fun x3 H1=>(∃ k,dL.l2 K k x2 1 x3 H1)
def dL.l2.L (K:VK)(k:Nat):de:=fun E D H=>
 eI E 1 .u64 fun x4=>eI E 5 .u64 fun x5=>eI E 6 .u64 fun x6=>ax D (dL.l2 K k x4 x5 x6 H)
def dL.Λ2 (_:VK)(_R2:Int->Int->Int->Hp->Prop):aI:=aI.none (fun _=>none)
def dL.Λ (K:VK):aI:=⟨fun i=>none,fun i=>match Nat.beq i 2 with|true=>some (fun E D H=>∃ k,dL.l2.L K k E D H)|false=>none,(fun _=>none)⟩
theorem dL.ok x1 x2 H K (h:dL x1 x2 H K):aa prog 246 #[U x1,U x2] H K:=
 dV (Λ:=(dL.Λ K)) fj Tryz.func246 rfl rfl h (oC (fun E D H h=>by
   refine Safe.cJ (dL.l2.L K) (fun E D H h=>?_) (fun k E D H h=>?_) E D H h
   .obtain⟨w1,e1,g1⟩:=DG.out h;obtain⟨x4,rfl,g2⟩:=DI.out g1;obtain⟨w5,e5,g3⟩:=DG.out g2;obtain⟨x5,rfl,g4⟩:=DI.out g3;obtain⟨w6,e6,g5⟩:=DG.out g4;obtain⟨x6,rfl,g6⟩:=DI.out g5;obtain⟨rfl,h'⟩:=ax.out g6;exact h'
   .obtain⟨x4,e1,g2⟩:=GI h;obtain⟨x5,e5,g4⟩:=GI g2;obtain⟨x6,e6,g6⟩:=GI g4;obtain⟨rfl,h'⟩:=ax.out g6;exact cU (Λ:=(dL.Λ2 K (dL.l2 K k))) fj [] (ag.cons e1 (ag.cons e5 (ag.cons e6 (ag.nil _)))) h' oN) oN)
def pv (x1:Int)(H:Hp)(K:VK):Prop:=
 eh 121 #[U x1] H fun x2 H1=>aq (x2==0) (K (U 0) H1) (K (U (u64.wrap (18446744069414584321-x2))) H1)
theorem pv.ok x1 H K (h:pv x1 H K):aa prog 309 #[U x1] H K:=
 bX fj Tryz.func309 rfl rfl h
theorem AJ :prog.follows .mixedOrders=true:=by kernel_rfl
def pD (x1 x2:Int)(H:Hp)(K:VK):Prop:=
 Nw H (Oa #[U 0,U 0] 284) fun b1 H1=>Hz 250 #[U x1,U x2] H1 fun v1 H2=>zX v1 fun x3 x4=>(cK H2 (O b1) #[U x3,U x4] 2 fun H3=>aY H3 (O b1) 2 fun l4=>K (.agg l4.toArray) H3)
theorem pD.ok x1 x2 H K (h:pD x1 x2 H K):aa prog 180 #[U x1,U x2] H K:=
 bX AJ Tryz.func180 rfl rfl h
def pC (x1 x2 x3 x4:Int)(H:Hp)(K:VK):Prop:=
 Nw H (Oa #[U x1,U x2] 284) fun b1 H1=>Nw H1 (Oa #[U x3,U x4] 284) fun b2 H2=>Nw H2 (Oa #[U 0,U 0] 284) fun b3 H3=>df H3 ((O b1).add 1) fun x5=>df H3 ((O b2).add 1) fun x6=>Il prog 312 #[U x5,U x6,U 0] H3 fun v3 H4=>zX v3 fun x7 x8=>(St H4 (((O b3).add 1).add 0) (U x7) fun H5=>df H5 ((O b1).add 0) fun x9=>df H5 ((O b2).add 0) fun x10=>Il prog 312 #[U x9,U x10,U x8] H5 fun v8 H6=>zX v8 fun x11 x12=>(St H6 (((O b3).add 0).add 0) (U x11) fun H7=>aY H7 (O b3) 2 fun l7=>cK H7 (O b3) l7.toArray 2 fun H8=>aY H8 (O b3) 2 fun l8=>K (.tuple #[.agg l8.toArray,U x12]) H8))
theorem pC.ok x1 x2 x3 x4 H K (h:pC x1 x2 x3 x4 H K):aa prog 249 #[.agg #[U x1,U x2],.agg #[U x3,U x4]] H K:=
 bX AJ Tryz.func249 rfl rfl h
theorem qi :prog.follows .mixedOrders=true:=by kernel_rfl
def jE (x1:Int)(H:Hp)(K:VK):Prop:=
 ((18446744069414584321:Int)≠0/\u64=u64/\K (U (Int.tmod x1 18446744069414584321)) H)
theorem jE.ok x1 H K (h:jE x1 H K):aa prog 67 #[U x1] H K:=
 bX qi Tryz.func67 rfl rfl h
def iV (x1 x2:Int)(H:Hp)(K:VK):Prop:=
 eh 67 #[U x1] H fun x3 H1=>eh 67 #[U x2] H1 fun x4 H2=>aq (decide (x3>=(u64.wrap (18446744069414584321-x4)))) (K (U (u64.wrap (x3-(u64.wrap (18446744069414584321-x4))))) H2) (K (U (u64.wrap (x3+x4))) H2)
theorem iV.ok x1 x2 H K (h:iV x1 x2 H K):aa prog 68 #[U x1,U x2] H K:=
 bX qi Tryz.func68 rfl rfl h
end W
namespace Gol
open Go Go.Hw W
theorem xL (x y c:Nat)(hc:c<=1){H:Hp}{K:VK}(k:K (.tuple #[U (((x+y+c)%18446744073709551616:Nat):Int),U (((x+y+c)/18446744073709551616:Nat):Int)]) H):
  Il prog 312 #[U (x:Int),U (y:Int),U (c:Int)] H K:=fun H0 w0 w hA=>by
 refine⟨.value _,H,w,?_,k,hA⟩;rw[run_callFunc_extern Tryz.func312 (by kernel_rfl) (by kernel_rfl) (by kernel_rfl) (e:=add64Entry) (by kernel_rfl),run_add64 (x:Int) (y:Int) (c:Int) (by omega) (by omega) (by omega) (by omega)];simp only[Result.andThen];congr 5<;>omega
theorem zr {x:Nat}(hx:x<2^64):cD .u64 (x:Int) 4294967295=((x%4294967296:Nat):Int):=by
 rw[show(4294967295:Int)=((4294967295:Nat):Int)from rfl,xg hx,show 4294967295=2^32-1 from rfl,Nat.and_two_pow_sub_one_eq_mod]
theorem oW {x:Nat}:cB .u64 (x:Int) 32=((x/4294967296:Nat):Int):=by
 rw[qq (k:=.u64) (a:=x) (i:=32) (n:=32) rfl (by decide)]
theorem Dq {x y:Nat}(hx:x<4294967296)(hy:y<4294967296):u64.wrap ((x:Int)*(y:Int))=((x*y:Nat):Int):=by
 have:x*y<=4294967295*4294967295:=Nat.mul_le_mul (by omega) (by omega);rw[Lk,Nat.mod_eq_of_lt (by omega)]
theorem xf {x y:Nat}(h:x+y<18446744073709551616:=by omega):u64.wrap ((x:Int)+(y:Int))=((x+y:Nat):Int):=by
 rw[Lj,Nat.mod_eq_of_lt (by omega)]
theorem GG {a b:Nat}(ha:a<2^64)(hb:b<2^64)(H:Hp):aa prog 250 #[U (a:Int),U (b:Int)] H (RetE (.tuple #[U ((a*b/18446744073709551616:Nat):Int),U ((a*b%18446744073709551616:Nat):Int)]) H):=by
 apply jL.ok;unfold jL;refine⟨by decide,by decide,by decide,by decide,by decide,?_⟩;rw[Lk a b,oW (x:=a),oW (x:=b),zr ha,zr hb];have ea:a=4294967296*(a/4294967296)+a%4294967296:=by omega
 have eb:b=4294967296*(b/4294967296)+b%4294967296:=by omega
 have h1:a/4294967296<4294967296:=by omega
 have h2:b/4294967296<4294967296:=by omega
 have h3:a%4294967296<4294967296:=by omega
 have h4:b%4294967296<4294967296:=by omega
 have hab:a*b=18446744073709551616*((a/4294967296)*(b/4294967296))+4294967296*((a/4294967296)*(b%4294967296))+4294967296*((a%4294967296)*(b/4294967296))+(a%4294967296)*(b%4294967296):=by
  conv=>lhs;rw[ea,eb]
  rw[Nat.add_mul,Nat.mul_add,Nat.mul_add];rw[show 4294967296*(a/4294967296)*(4294967296*(b/4294967296))=18446744073709551616*((a/4294967296)*(b/4294967296)) by rw[Nat.mul_mul_mul_comm],
   show 4294967296*(a/4294967296)*(b%4294967296)=4294967296*((a/4294967296)*(b%4294967296)) by rw[Nat.mul_assoc],
   show a%4294967296*(4294967296*(b/4294967296))=4294967296*((a%4294967296)*(b/4294967296)) by rw[Nat.mul_left_comm]]
  omega
 rw[Dq h1 h2,Dq h1 h4,Dq h3 h4,Dq h3 h2];have k1:(a/4294967296)*(b/4294967296)<=4294967295*4294967295:=Nat.mul_le_mul (by omega) (by omega);have k2:(a/4294967296)*(b%4294967296)<=4294967295*4294967295:=Nat.mul_le_mul (by omega) (by omega);have k3:(a%4294967296)*(b/4294967296)<=4294967295*4294967295:=Nat.mul_le_mul (by omega) (by omega);have k4:(a%4294967296)*(b%4294967296)<=4294967295*4294967295:=Nat.mul_le_mul (by omega) (by omega);clear ea eb;generalize(a/4294967296)*(b/4294967296)=p11 at*;generalize(a/4294967296)*(b%4294967296)=p10 at*;generalize(a%4294967296)*(b/4294967296)=p01 at*;generalize(a%4294967296)*(b%4294967296)=p00 at*;rw[oW (x:=p00),xf (x:=p10) (y:=p00/4294967296),zr (by omega),xf,oW,oW,xf,xf];refine⟨?_,rfl⟩;rw[hab];have:p11+(p10+p00/4294967296)/4294967296+((p10+p00/4294967296)%4294967296+p01)/4294967296=(18446744073709551616*p11+4294967296*p10+4294967296*p01+p00)/18446744073709551616:=by omega
 rw[this]
theorem ie {a:Nat}(ha:a<2^64)(H:Hp):aa prog 121 #[U (a:Int)] H (RetE (U ((a%18446744069414584321:Nat):Int)) H):=by
 apply qH.ok;unfold qH;by_cases h:a>=18446744069414584321
 .refine aA (by omega) ?_;rw[iQ];refine⟨?_,rfl⟩;have:(a:Int)-18446744069414584321=((a%18446744069414584321:Nat):Int):=by omega
  rw[this]
 .refine au (by omega) ⟨?_,rfl⟩;rw[Nat.mod_eq_of_lt (by omega)]
theorem xR {mid t:Nat}(hm:mid<4294967296)(ht:t<18446744073709551616){H:Hp}{K:VK}(k:K (U (((t+mid*4294967295)%18446744069414584321:Nat):Int)) H):eo.j5 K (mid:Int) (t:Int) H:=by
 unfold eo.j5;have em:u64.wrap ((mid:Int)*4294967295)=((mid*4294967295:Nat):Int):=by
  rw[iQ];omega
 rw[em];by_cases h:t+mid*4294967295<18446744073709551616
 .rw[xf h];refine au (by omega) ?_;refine aa.use (ie (by omega) H) ?_;simp only[HV];exact k
 .have e1:u64.wrap ((t:Int)+((mid*4294967295:Nat):Int))=((t+mid*4294967295-18446744073709551616:Nat):Int):=by
   rw[Lj];omega
  rw[e1];refine aA (by omega) ?_;rw[show(4294967295:Int)=((4294967295:Nat):Int)from rfl,xf];refine aa.use (ie (by omega) H) ?_;simp only[HV];have:(t+mid*4294967295-18446744073709551616+4294967295)%18446744069414584321=(t+mid*4294967295)%18446744069414584321:=by omega
  rw[this];exact k
theorem xS {hi lo:Nat}(hh:hi<2^64)(hl:lo<2^64)(H:Hp):aa prog 179 #[.agg #[U (hi:Int),U (lo:Int)]] H (RetE (U (((hi*18446744073709551616+lo)%18446744069414584321:Nat):Int)) H):=aa.ret (by
 apply eo.ok;unfold eo;refine(Sep.start H).nw fun b1 H1 hs=>?_
 first|refine hs.cg 1 rfl rfl ?_|refine hs.jU 1 rfl rfl ?_
 try simp only[HV]
 refine⟨by decide,?_⟩
 first|refine hs.cg 1 rfl rfl ?_|refine hs.jU 1 rfl rfl ?_
 try simp only[HV]
 first|refine hs.cg 1 rfl rfl ?_|refine hs.jU 1 rfl rfl ?_
 try simp only[HV]
 first|refine hs.cg 1 rfl rfl ?_|refine hs.jU 1 rfl rfl ?_
 try simp only[HV]
 rw[oW,zr hh];by_cases h:lo<hi/4294967296
 .refine aA (by omega) ?_;have e1:u64.wrap (u64.wrap ((lo:Int)-((hi/4294967296:Nat):Int))-4294967295)=((lo+18446744069414584321-hi/4294967296:Nat):Int):=by
   rw[qy,qy];omega
  rw[e1];refine xR (by omega) (by omega) ?_;have:(lo+18446744069414584321-hi/4294967296+hi%4294967296*4294967295)%18446744069414584321=(hi*18446744073709551616+lo)%18446744069414584321:=by omega
  rw[this];exact hs.fin 0 rfl _
 .refine au (by omega) ?_;have e1:u64.wrap ((lo:Int)-((hi/4294967296:Nat):Int))=((lo-hi/4294967296:Nat):Int):=by
   rw[qy];omega
  rw[e1];refine xR (by omega) (by omega) ?_;have:(lo-hi/4294967296+hi%4294967296*4294967295)%18446744069414584321=(hi*18446744073709551616+lo)%18446744069414584321:=by omega
  rw[this];exact hs.fin 0 rfl _)
theorem J8 {a b:Nat}(ha:a<2^64)(hb:b<2^64)(H:Hp):aa prog 180 #[U (a:Int),U (b:Int)] H (RetE (.agg #[U ((a*b/18446744073709551616:Nat):Int),U ((a*b%18446744073709551616:Nat):Int)]) H):=aa.ret (by
 apply pD.ok;unfold pD;refine(Sep.start H).nw fun b1 H1 hs=>?_
 refine aa.use (GG ha hb H1) ?_;simp only[HV];refine hs.eY 1 rfl rfl rfl rfl fun H1 hs=>?_
 refine hs.bJ 1 rfl rfl ?_;exact hs.fin 0 rfl _)
theorem ib {a b:Nat}(ha:a<2^64)(hb:b<2^64)(H:Hp):aa prog 120 #[U (a:Int),U (b:Int)] H (RetE (U ((a*b%18446744069414584321:Nat):Int)) H):=by
 apply pr.ok;unfold pr;refine aa.use (J8 ha hb H) ?_;simp only[HV];have hab:a*b<=18446744073709551615*18446744073709551615:=Nat.mul_le_mul (by omega) (by omega);generalize a*b=n at*;refine aa.use (xS (hi:=n/18446744073709551616) (lo:=n%18446744073709551616) (by omega) (by omega) H) ?_;simp only[HV];have:n/18446744073709551616*18446744073709551616+n%18446744073709551616=n:=by omega
 rw[this];exact RetE.mk _ _
theorem J7 {a b:Nat}(ha:a<2^64)(hb:b<2^64)(H:Hp):aa prog 249 #[.agg #[U 0,U (a:Int)],.agg #[U 0,U (b:Int)]] H (RetE (.tuple #[.agg #[U (((a+b)/18446744073709551616:Nat):Int),U (((a+b)%18446744073709551616:Nat):Int)],U 0]) H):=aa.ret (by
 apply pC.ok;unfold pC;refine(Sep.start H).nw fun b1 H1 hs=>?_
 refine hs.nw fun b2 H1 hs=>?_
 refine hs.nw fun b3 H1 hs=>?_
 first|refine hs.cg 1 rfl rfl ?_|refine hs.jU 1 rfl rfl ?_
 try simp only[HV]
 first|refine hs.cg 2 rfl rfl ?_|refine hs.jU 2 rfl rfl ?_
 try simp only[HV]
 refine xL a b 0 (by omega) ?_;simp only[HV];refine hs.IR 3 rfl (Nat.lt_of_sub_eq_succ rfl) rfl fun H1 hs=>?_
 first|refine hs.cg 1 rfl rfl ?_|refine hs.jU 1 rfl rfl ?_
 try simp only[HV]
 first|refine hs.cg 2 rfl rfl ?_|refine hs.jU 2 rfl rfl ?_
 try simp only[HV]
 refine xL 0 0 ((a+b+0)/18446744073709551616) (by omega) ?_;simp only[HV];refine hs.IR 3 rfl (Nat.lt_of_sub_eq_succ rfl) rfl fun H1 hs=>?_
 refine hs.bJ 3 rfl rfl ?_;refine hs.eY 3 rfl rfl rfl rfl fun H1 hs=>?_
 refine hs.bJ 3 rfl rfl ?_;have e1:(0+0+(a+b+0)/18446744073709551616)%18446744073709551616=(a+b)/18446744073709551616:=by omega
 have e2:(0+0+(a+b+0)/18446744073709551616)/18446744073709551616=0:=by omega
 rw[e2];have hv:lU (.tuple #[.agg #[U (((0+0+(a+b+0)/18446744073709551616)%18446744073709551616:Nat):Int),U (((a+b+0)%18446744073709551616:Nat):Int)],U ((0:Nat):Int)]) H (.tuple #[.agg #[U (((0+0+(a+b+0)/18446744073709551616)%18446744073709551616:Nat):Int),U (((a+b+0)%18446744073709551616:Nat):Int)],U ((0:Nat):Int)]) H1:=hs.fin 0 rfl _;rw[e1]at hv;rw[e1];exact hv)
theorem pV {a b:Nat}(ha:a<2^64)(hb:b<2^64)(H:Hp):aa prog 177 #[U (a:Int),U (b:Int)] H (RetE (U (((a+b)%18446744069414584321:Nat):Int)) H):=aa.ret (by
 apply po.ok;unfold po;have hs:=Sep.start H;refine aa.use (ie ha H) ?_;simp only[HV];refine aa.use (ie hb H) ?_;simp only[HV];refine aa.use (J7 (a:=a%18446744069414584321) (b:=b%18446744069414584321) (by omega) (by omega) H) ?_;simp only[HV];refine hs.nw fun b1 H1 hs=>?_
 refine hs.eY 1 rfl rfl rfl rfl fun H1 hs=>?_
 refine hs.bJ 1 rfl rfl ?_;refine aa.use (xS (hi:=(a%18446744069414584321+b%18446744069414584321)/18446744073709551616) (lo:=(a%18446744069414584321+b%18446744069414584321)%18446744073709551616) (by omega) (by omega) H1) ?_;simp only[HV];have:((a%18446744069414584321+b%18446744069414584321)/18446744073709551616*18446744073709551616+(a%18446744069414584321+b%18446744069414584321)%18446744073709551616)%18446744069414584321=(a+b)%18446744069414584321:=by omega
 rw[this];exact hs.fin 0 rfl _)
theorem BP (p x y q:Nat):x%p*(y%p)^q%p=x*y^q%p:=by
 rw[Nat.mul_mod,Nat.mod_mod,<-Nat.pow_mod,<-Nat.mul_mod]
theorem AK (p x y q:Nat):x*(y%p)^q%p=x*y^q%p:=by
 rw[Nat.mul_mod,<-Nat.pow_mod,<-Nat.mul_mod]
theorem tc (p x y:Nat):x%p*y%p=x*y%p:=by rw[Nat.mul_mod,Nat.mod_mod,<-Nat.mul_mod]
theorem GJ (H:Hp):∀(f n out base:Nat),n<2^f->f<=64->out<18446744069414584321->base<18446744069414584321->dL.l2 (RetE (U ((out*base^n%18446744069414584321:Nat):Int)) H) (f+1) (n:Int) (out:Int) (base:Int) H:=fun f=>by
 generalize hp:18446744069414584321=p
 induction f with
 |zero=>
  intro n out base hn hf ho hb;obtain rfl:n=0:=by omega
  unfold dL.l2;refine au (by omega) ?_;rw[Nat.pow_zero,Nat.mul_one,Nat.mod_eq_of_lt ho];exact RetE.mk _ _
 |succ f ih=>
  intro n out base hn hf ho hb;have hp0:0<p:=by omega
  have h64:2^(f+1)<=2^64:=Nat.pow_le_pow_right (by omega) hf;have hs:2^(f+1)=2*2^f:=by rw[Nat.pow_succ];omega
  have hn2:n/2<2^f:=by omega
  unfold dL.l2;by_cases h0:n=0
  .subst h0;refine au (by omega) ?_;rw[Nat.pow_zero,Nat.mul_one,Nat.mod_eq_of_lt ho];exact RetE.mk _ _
  refine aA (by omega) ?_;have hand:cD .u64 (n:Int) 1=((n%2:Nat):Int):=by
   rw[show(1:Int)=((1:Nat):Int)from rfl,xg,Nat.and_one_is_mod]
  have hshr:cB .u64 (n:Int) 1=((n/2:Nat):Int):=by
   rw[qq (k:=.u64) (a:=n) (i:=1) (n:=1) rfl (by decide)]
  rw[hand,hshr];have hq:=Nat.mod_lt (base*base) hp0;have hq2:=Nat.mod_lt (out*base) hp0;by_cases h1:n%2=1
  .refine bH (by omega) ?_;refine aa.use (ib (a:=out) (b:=base) (by omega) (by omega) H) ?_;rw[hp];simp only[HV];refine aa.use (ib (a:=base) (b:=base) (by omega) (by omega) H) ?_;rw[hp];simp only[HV];refine⟨by decide,?_⟩;have:=ih (n/2) (out*base%p) (base*base%p) hn2 (by omega) hq2 hq;rw[BP,show out*base*(base*base)^(n/2)=out*base^n by
    rw[<- Nat.pow_two,<-Nat.pow_mul,Nat.mul_assoc,<-Nat.pow_succ',Nat.succ_eq_add_one,show 2*(n/2)+1=n by omega]]at this
   exact this
  .refine bT (by omega) ?_;refine aa.use (ib (a:=base) (b:=base) (by omega) (by omega) H) ?_;rw[hp];simp only[HV];refine⟨by decide,?_⟩;have:=ih (n/2) out (base*base%p) hn2 (by omega) ho hq;rw[AK,show out*(base*base)^(n/2)=out*base^n by
    rw[<- Nat.pow_two,<-Nat.pow_mul,show 2*(n/2)=n by omega]]at this
   exact this
theorem sO {a n:Nat}(ha:a<2^64)(hn:n<2^64)(H:Hp):aa prog 246 #[U (a:Int),U (n:Int)] H (RetE (U ((a^n%18446744069414584321:Nat):Int)) H):=by
 apply dL.ok;unfold dL;refine aa.use (ie ha H) ?_;simp only[HV];refine⟨65,?_⟩;have:=GJ H 64 n 1 (a%18446744069414584321) hn (by omega) (by omega) (by omega);rw[Nat.one_mul,<-Nat.pow_mod]at this;exact this
def neg (a:Nat):Nat:=(18446744069414584321-a%18446744069414584321)%18446744069414584321
theorem Km {a:Nat}(ha:a<2^64)(H:Hp):aa prog 309 #[U (a:Int)] H (RetE (U ((neg a:Nat):Int)) H):=by
 apply pv.ok;unfold pv neg;refine aa.use (ie ha H) ?_;simp only[HV];by_cases h:a%18446744069414584321=0
 .rw[h];exact bH rfl (RetE.mk _ _)
 .refine bT (by omega) ?_;rw[iQ];have:(18446744069414584321:Int)-((a%18446744069414584321:Nat):Int)=(((18446744069414584321-a%18446744069414584321)%18446744069414584321:Nat):Int):=by omega
  rw[this];exact RetE.mk _ _
def sub (a b:Nat):Nat:=(a+neg b)%18446744069414584321
theorem zU {a b:Nat}(ha:a<2^64)(hb:b<2^64)(H:Hp):aa prog 243 #[U (a:Int),U (b:Int)] H (RetE (U ((sub a b:Nat):Int)) H):=by
 apply px.ok;unfold px;refine aa.use (Km hb H) ?_;simp only[HV];refine aa.use (pV (a:=a) (b:=neg b) ha (by unfold neg;omega) H) ?_;simp only[HV];exact RetE.mk _ _
def od :Nat:=18446744069414584319
def se (a:Nat):Nat:=a^od%18446744069414584321
theorem Jv {a:Nat}(ha:a<2^64)(e:Nat)(he:e=18446744069414584319)(H:Hp):aa prog 246 #[U (a:Int),U (e:Int)] H (RetE (U ((a^e%18446744069414584321:Nat):Int)) H):=sO ha (by omega) H
theorem zK {a:Nat}(ha:a<2^64)(h0:a%18446744069414584321≠0)(H:Hp):aa prog 178 #[U (a:Int)] H (RetE (.tuple #[U ((se a:Nat):Int),I 0]) H):=by
 apply pq.ok;unfold pq;refine aa.use (ie ha H) ?_;simp only[HV];refine bT (by omega) ?_;have hP:aa prog 246 #[U (a:Int),U 18446744069414584319] H (RetE (U ((se a:Nat):Int)) H):=by
  have h:=Jv ha od rfl H;unfold se;rw[show(18446744069414584319:Int)=((od:Nat):Int)from rfl];exact h
 refine aa.use hP ?_;simp only[HV];exact RetE.mk _ _
theorem Bb {a:Nat}(H:Hp):aa prog 67 #[U (a:Int)] H (RetE (U ((a%18446744069414584321:Nat):Int)) H):=by
 apply jE.ok;unfold jE;exact⟨by decide,by simp,RetE.mk _ _⟩
theorem Cz {a b:Nat}(H:Hp):aa prog 68 #[U (a:Int),U (b:Int)] H (RetE (U (((a+b)%18446744069414584321:Nat):Int)) H):=by
 apply iV.ok;unfold iV;refine aa.use (Bb (a:=a) H) ?_;simp only[HV];refine aa.use (Bb (a:=b) H) ?_;simp only[HV];rw[iQ (x:=18446744069414584321-((b%18446744069414584321:Nat):Int))];by_cases h:((a%18446744069414584321:Nat):Int)>=18446744069414584321-((b%18446744069414584321:Nat):Int)
 .refine aA h ?_;rw[iQ];have:((a%18446744069414584321:Nat):Int)-(18446744069414584321-((b%18446744069414584321:Nat):Int))=(((a+b)%18446744069414584321:Nat):Int):=by omega
  rw[this];exact RetE.mk _ _
 .refine au h ?_;rw[iQ];have:((a%18446744069414584321:Nat):Int)+((b%18446744069414584321:Nat):Int)=(((a+b)%18446744069414584321:Nat):Int):=by omega
  rw[this];exact RetE.mk _ _
end Gol
namespace W
open Go Go.Hw
theorem rD :prog.follows .mixedOrders=true:=by kernel_rfl
def py (A1:OA)(n1 m1:Nat)(H:Hp)(K:VK):Prop:=
 Hz 147 #[I (n1:Int)] H fun v1 H1=>pZ v1 fun x1 c1=>(Nw H1 (Oa #[I 0] 3) fun b1 H2=>St H2 ((O b1).add 0) (I x1) fun H3=>aq (!c1) (K (.tuple #[.slice none 0 0,I 4]) H3) (lM 370 #[.slice A1 n1 m1,.func (.func 371) #[] #[V b1]] H3 fun A2 n2 m2 H4=>K (.tuple #[.slice A2 n2 m2,I 0]) H4))
theorem py.ok A1 n1 m1 H K (h:py A1 n1 m1 H K):aa prog 366 #[.slice A1 n1 m1] H K:=
 bX rD Tryz.func366 rfl rfl h
def dM.l3 (K:VK):Nat->FuncId->Array Value->Array Value->OA->Nat->Nat->OA->Nat->Nat->Int->Int->Hp->Prop
 |0,_,_,_,_,_,_,_,_,_,_,_,_=>False
 |k+1,fd2,F2,C2,A3,n3,m3,A4,n4,m4,x1,x2,H=>
  let R3:=dM.l3 K k
  aq (decide (x2<x1)) (cz x2 n4 (NN A4 fun a1=>df H (a1.add (x2.toNat*1)) fun x3=>jD prog fd2 ((F2++ #[I x2])++C2) H fun v3 H2=>DR prog (eM prog fd2) v3 fun v4=>DI .i64 v4 fun x4=>cz x4 n3 (NN A3 fun a2=>St H2 ((a2.add (x4.toNat*1)).add 0) (U x3) fun H3=>R3 fd2 F2 C2 A3 n3 m3 A4 n4 m4 x1 (i64.wrap (x2+1)) H3))) (K (.slice A3 n3 m3) H)
def dM (A1:OA)(n1 m1:Nat)(fd1:FuncId)(F1 C1:Array Value)(H:Hp)(K:VK):Prop:=
 jA prog 108 (n1:Int) (n1:Int) H fun v1 H1=>aE v1 fun A2 n2 m2=>(∃ k,dM.l3 K k fd1 F1 C1 A2 n2 m2 A1 n1 m1 (n1:Int) 0 H1)
def dM.l3.L (K:VK)(k:Nat):de:=fun E D H=>
 DG (E.get? 1) fun w1=>iw w1 fun fd2 F2 C2=>DG (E.get? 5) fun w5=>aE w5 fun A3 n3 m3=>DG (E.get? 11) fun w11=>aE w11 fun A4 n4 m4=>eI E 12 .i64 fun x1=>eI E 13 .i64 fun x2=>ax D (dM.l3 K k fd2 F2 C2 A3 n3 m3 A4 n4 m4 x1 x2 H)
def dM.Λ3 (_:VK)(_R3:FuncId->Array Value->Array Value->OA->Nat->Nat->OA->Nat->Nat->Int->Int->Hp->Prop):aI:=aI.none (fun _=>none)
def dM.Λ (K:VK):aI:=⟨fun i=>none,fun i=>match Nat.beq i 3 with|true=>some (fun E D H=>∃ k,dM.l3.L K k E D H)|false=>none,(fun _=>none)⟩
theorem dM.ok A1 n1 m1 fd1 F1 C1 H K (h:dM A1 n1 m1 fd1 F1 C1 H K):aa prog 370 #[.slice A1 n1 m1,.func (.func fd1) F1 C1] H K:=
 dV (Λ:=(dM.Λ K)) rD Tryz.func370 rfl rfl h (oC (fun E D H h=>by
   refine Safe.cJ (dM.l3.L K) (fun E D H h=>?_) (fun k E D H h=>?_) E D H h
   .obtain⟨w1,e1,g1⟩:=DG.out h;obtain⟨fd2,F2,C2,rfl,g2⟩:=iw.out g1;obtain⟨w5,e5,g3⟩:=DG.out g2;obtain⟨A3,n3,m3,rfl,g4⟩:=aE.out g3;obtain⟨w11,e11,g5⟩:=DG.out g4;obtain⟨A4,n4,m4,rfl,g6⟩:=aE.out g5;obtain⟨w12,e12,g7⟩:=DG.out g6;obtain⟨x1,rfl,g8⟩:=DI.out g7;obtain⟨w13,e13,g9⟩:=DG.out g8;obtain⟨x2,rfl,g10⟩:=DI.out g9;obtain⟨rfl,h'⟩:=ax.out g10;exact h'
   .obtain⟨w1,e1,g1⟩:=DG.out h;obtain⟨fd2,F2,C2,rfl,g2⟩:=iw.out g1;obtain⟨w5,e5,g3⟩:=DG.out g2;obtain⟨A3,n3,m3,rfl,g4⟩:=aE.out g3;obtain⟨w11,e11,g5⟩:=DG.out g4;obtain⟨A4,n4,m4,rfl,g6⟩:=aE.out g5;obtain⟨x1,e12,g8⟩:=GI g6;obtain⟨x2,e13,g10⟩:=GI g8;obtain⟨rfl,h'⟩:=ax.out g10;exact cU (Λ:=(dM.Λ3 K (dM.l3 K k))) rD [] (ag.cons e1 (ag.cons e5 (ag.cons e11 (ag.cons e12 (ag.cons e13 (ag.nil _)))))) h' oN) oN)
def np (x1:Int)(p1:OA)(H:Hp)(K:VK):Prop:=
 NN p1 fun a1=>aM H a1 fun x2=>cC 372 #[I x1,I x2] H fun x3 H1=>K (I x3) H1
theorem np.ok x1 p1 H K (h:np x1 p1 H K):aa prog 371 #[I x1,.pointer p1] H K:=
 bX rD Tryz.func371 rfl rfl h
def nq (x1 x2:Int)(H:Hp)(K:VK):Prop:=
 eh 375 #[U (u64.wrap x1)] H fun x3 H1=>(0<=(1:Int)/\(0<=(u64.wrap (i64.wrap (63-x2)))/\K (I (i64.wrap (cB .u64 (cB .u64 x3 1) (u64.wrap (i64.wrap (63-x2)))))) H1))
theorem nq.ok x1 x2 H K (h:nq x1 x2 H K):aa prog 372 #[I x1,I x2] H K:=
 bX rD Tryz.func372 rfl rfl h
end W
namespace Ker
open Go Go.Hw W Shp Gol Fft
theorem fi :ed prog 108=some (1,8,some #[.int .u64 0]):=by kernel_rfl
theorem ou (ws:List UInt64)(i:Nat)(w:UInt64):(af ws).set i (U (w.toNat:Int))=af (ws.set i w):=by
 unfold af;rw[List.map_set]
theorem mU (n:Nat):cI [Value.int .u64 0] n=af (List.replicate n 0):=by
 rw[eR];unfold af;rw[List.map_replicate];rfl
theorem rM (m:BitVec 64)(d:Nat)(hd:d<=64)(x:BitVec 64){mi di:Int}(hm:mi=(m.toNat:Int))(hdi:di=(d:Nat)):
  kT .u64 (cD .u64 (cB .u64 (x.toNat:Int) di) mi) (cT .u64 (cD .u64 (x.toNat:Int) mi) di)=((swp m d x).toNat:Int):=by
 subst hm;rw[zA x hdi hd,Iy,Iy,IM _ hdi hd,K0];rfl
def L8 (x:BitVec 64):BitVec 64:=
 let x:=swp 0x00ff00ff00ff00ff#64 8 x
 let x:=swp 0x0000ffff0000ffff#64 16 x
 (x>>>32)|||(x<<<32)
theorem BI (x:BitVec 64)(H:Hp):aa prog 376 #[U (x.toNat:Int)] H (RetE (U ((L8 x).toNat:Int)) H):=by
 apply fO.ok;unfold fO;refine⟨by decide,by decide,by decide,by decide,by decide,by decide,?_⟩;rw[rM 0x00ff00ff00ff00ff#64 8 (by decide) x (mi:=71777214294589695) (di:=8) (by decide) rfl,rM 0x0000ffff0000ffff#64 16 (by decide) _ (mi:=281470681808895) (di:=16) (by decide) rfl,Hw.zA _ (i:=32) (n:=32) rfl (by decide),Hw.IM _ (i:=32) (n:=32) rfl (by decide),K0];exact RetE.mk _ _
theorem C9 (x:BitVec 64)(H:Hp):aa prog 375 #[U (x.toNat:Int)] H (RetE (U ((zy x).toNat:Int)) H):=by
 apply gU.ok;unfold gU;refine⟨by decide,by decide,by decide,by decide,by decide,by decide,?_⟩;rw[rM 0x5555555555555555#64 1 (by decide) x (mi:=6148914691236517205) (di:=1) (by decide) rfl,rM 0x3333333333333333#64 2 (by decide) _ (mi:=3689348814741910323) (di:=2) (by decide) rfl,rM 0x0f0f0f0f0f0f0f0f#64 4 (by decide) _ (mi:=1085102592571150095) (di:=4) (by decide) rfl];refine aa.use (BI _ H) ?_;simp only[HV];exact RetE.mk _ _
theorem Gc {k i:Nat}(hk:k<=32)(hi:i<2^k)(H:Hp):aa prog 372 #[I (i:Int),I (k:Int)] H (RetE (I ((rv k i:Nat):Int)) H):=by
 have h32:=cL hk;have hr:=ue k i;apply nq.ok;unfold nq;rw[fC];have e:((i:Nat):Int)=((BitVec.ofNat 64 i).toNat:Int):=by rw[BitVec.toNat_ofNat,Nat.mod_eq_of_lt (by omega)]
 rw[e];refine aa.use (C9 _ H) ?_;simp only[HV];have e2:u64.wrap (i64.wrap (63-(k:Int)))=((63-k:Nat):Int):=by rw[bg,iQ];omega
 rw[e2,Hw.zA _ (i:=1) (n:=1) rfl (by decide),Hw.zA _ (n:=63-k) rfl (by omega),BitVec.toNat_ushiftRight,BitVec.toNat_ushiftRight,<-Nat.shiftRight_add,show 1+(63-k)=64-k by omega,La hk hi,dS];exact⟨by decide,by omega,RetE.mk _ _⟩
def nQ (k:Nat)(l:List UInt64)(i:Nat):List UInt64:=(List.range (2^k)).map fun p=>if rv k p<i then l.getD (rv k p) 0 else 0
theorem yR (k:Nat)(l:List UInt64)(i:Nat):(nQ k l i).length=2^k:=by simp[nQ]
theorem D9 (k:Nat)(l:List UInt64):List.replicate (2^k) 0=nQ k l 0:=by
 unfold nQ;apply List.ext_getElem?;intro j;rw[List.getElem?_map];by_cases h:j<2^k
 .rw[List.getElem?_range h,List.getElem?_eq_getElem (by simpa using h)];simp
 .rw[List.getElem?_eq_none (by simp;omega),List.getElem?_eq_none (by simp;omega)];rfl
theorem Gb (k:Nat)(l:List UInt64):nQ k l (2^k)=ky k l:=by
 unfold nQ ky;apply List.map_congr_left;intro p _;rw[if_pos (ue k p)]
theorem D8 (k:Nat)(l:List UInt64){i:Nat}(hi:i<2^k):(nQ k l i).set (rv k i) (l.getD i 0)=nQ k l (i+1):=by
 apply List.ext_getElem?;intro p;rw[List.getElem?_set,yR];unfold nQ;rw[List.getElem?_map,List.getElem?_map];by_cases hp:p<2^k
 .rw[List.getElem?_range hp];by_cases e:rv k i=p
  .rw[if_pos e,if_pos (by omega),<-e];show some _=some (if rv k (rv k i)<i+1 then l.getD (rv k (rv k i)) 0 else 0)
   rw[IL k i hi,if_pos (by omega)]
  .rw[if_neg e];show some (if rv k p<i then _ else _)=some (if rv k p<i+1 then _ else _)
   have:rv k p≠i:=fun h=>e (by rw[<- h,IL k p hp])
   by_cases h:rv k p<i
   .rw[if_pos h,if_pos (by omega)]
   .rw[if_neg h,if_neg (by omega)]
 .rw[List.getElem?_eq_none (by simp;omega)];have:=ue k i;rw[if_neg (by omega)];rfl
theorem vx {t:TypeId}(ht:prog.underlying t=some (.int .i64))(n:Int)(K:Value->Prop)(k:K (I n)):DR prog [t] (I n) K:=by
 show DT prog t (I n) K
 unfold DT;rw[ht];exact k
section
variable {R : As} {A : Option Addr} {n m k : Nat} {l : List UInt64}
theorem yy (K:VK)(hR:∀ H,R H->Cells H A (af l))(hn:n=2^k)(hl:l.length=n)(hk:k<=32){b1 r mr:Nat}
  (hK:∀ H,Sep [ah r (.row (af (ky k l)) 108 mr),ah b1 (Oa #[I (k:Int)] 3),R] H->K (.slice (Oo r) n n) H):
  ∀(t i:Nat) (H:Hp),i+t=n->Sep [ah r (.row (af (nQ k l i)) 108 mr),ah b1 (Oa #[I (k:Int)] 3),R] H->
   dM.l3 K (t+1) 371 #[] #[V b1] (Oo r) n n A n m (n:Int) (i:Int) H
 |0,i,H,hi,hs=>by
  unfold dM.l3;refine au (by omega) (hK H ?_);rw[<- Gb,<-hn,show n=i by omega];exact hs
 |t+1,i,H,hi,hs=>by
  have h32:=cL hk;have hr:=ue k i;have hc:Cells H A (af l):=by
   obtain⟨H1,h1,hle⟩:=hs.fU 2 rfl;exact(hR H1 h1).le hle
  unfold dM.l3;refine aA (by omega) ?_;have hg:(af l)[i]? =some (U ((l.getD i 0).toNat:Int)):=by
   rw[ct,List.getD_eq_getElem?_getD,List.getElem?_eq_getElem (by omega)];rfl
  refine hc.read hg rfl (by rw[aB];omega) ?_;simp only[HV];refine cO (by kernel_rfl) ?_;have hf:aa prog 371 #[I (i:Int),V b1] H (RetE (I ((rv k i:Nat):Int)) H):=by
   apply np.ok;unfold np;simp only[dz];refine hs.ld 1 rfl rfl ?_;simp only[HV];refine aa.use (Gc hk (by omega) H) ?_;simp only[HV];exact RetE.mk _ _
  refine aa.use hf ?_;have hrt:eM prog 371=[3]:=by kernel_rfl
  rw[hrt];refine vx (by kernel_rfl) _ _ ?_;simp only[HV];refine⟨by omega,by omega,?_⟩;show St H _ _ _
  rw[Int.toNat_natCast,Nat.mul_one,Addr.aP,Addr.aP,Nat.zero_add,Nat.add_zero];refine hs.str 0 rfl (by rw[aB,yR];omega) rfl fun H hs=>?_;rw[ou,D8 k l (by omega)]at hs;rw[bg (x:=(i:Int)+1),show(i:Int)+1=((i+1:Nat):Int) by omega];exact yy K hR hn hl hk hK t (i+1) H (by omega) hs
theorem Je {TT:As}(hT:∀ H,TT H->T64 H)(hR:∀ H,R H->Cells H A (af l))(hn:n=2^k)(hl:l.length=n)(hk:k<=20):
  Tr prog 366 #[.slice A n m] [R,TT] fun v M=>∃ r,v= .tuple #[.slice (Oo r) n n,I 0]/\M=[ah r (.row (af (ky k l)) 108 (n*1)),R,TT]:=fun H hs=>by
 have h20:=cL hk;apply py.ok;unfold py;have hT0:T64 H:=by
  obtain⟨H1,h1,hle⟩:=hs.fU 1 rfl;exact(hT H1 h1).le hle
 refine aa.use (pM (n:Int) H hT0) ?_;rw[show eV (n:Int)= .tuple #[I (k:Int),.bool true] by unfold eV;rw[hn,rC]];simp only[HV];refine hs.nw fun b1 H hs=>?_
 simp only[Addr.add_zero];refine hs.st 2 rfl (Nat.lt_of_sub_eq_succ rfl) rfl fun H hs=>?_;have hs:Sep [R,TT,ah b1 (Oa #[I (k:Int)] 3)] H:=hs;have hm:Tr prog 370 #[.slice A n m,.func (.func 371) #[] #[V b1]] [ah b1 (Oa #[I (k:Int)] 3),R] fun v M=>
   ∃ r,v= .slice (Oo r) n n/\M=[ah r (.row (af (ky k l)) 108 (n*1)),R]:=fun H hs=>by
  apply dM.ok;unfold dM;refine hs.nX fi rfl (n:=n) (m:=n) rfl rfl (Nat.le_refl _) (by omega) (by omega) fun r H hs=>?_
  simp only[HV];refine⟨n+1,?_⟩;have hs:Sep [ah b1 (Oa #[I (k:Int)] 3),R,ah r (.row (af (nQ k l 0)) 108 (n*1))] H:=by
   rw[<- D9,<-hn,<-mU];exact hs
  exact yy _ hR hn hl (by omega) (fun H hs=>⟨_,⟨r,rfl,rfl⟩,hs.re [0,2] rfl⟩) n 0 H (by omega) (hs.re [2,0,1] rfl)
 refine hm.use hs [2,0] rfl rfl ?_;rintro _ _ H ⟨r,rfl,rfl⟩ hs;simp only[HV];exact⟨_,⟨r,rfl,rfl⟩,hs.re [0,1,2] rfl⟩
end
end Ker
end Go.Proofs.YtlgnlghmbcpmhaaGreatDoor
