import Derived.Shelf.Strings.Trim
import Derived.Test.YtlgnlghmbcpmhaaGreatDoorProg
import Derived.Test.YtlgnlghmbcpmhaaGreatDoorPkWholeProof6
set_option maxRecDepth 100000
set_option linter.unusedSimpArgs false
set_option linter.unusedVariables false
set_option linter.unnecessarySimpa false
set_option linter.unusedSectionVars false
open Go.IntKind (i64 u32 u64)
namespace Go.Hw
open Go Go.Proofs Go.Proofs.YtlgnlghmbcpmhaaGreatDoor.Lib2 Go.RowKit Go.Shelf
theorem GF (x:Nat)(hx:x<18446744073709551616)(H:Hp):aa Tryz.prog 294 #[U (x:Int)] H (RetE (I (Lib.bitLen x:Int)) H):=fun w hw=>by
 refine(Any.bits_Len64 L5 (x:Int) w (by omega) (by omega)).mono ?_;rintro e w' ⟨rfl,rfl⟩;exact⟨_,H,rfl,⟨by rw[Int.toNat_natCast],rfl⟩,At.refl hw⟩
end Go.Hw
namespace Go.Proofs.YtlgnlghmbcpmhaaGreatDoor
open Tryz (prog)
namespace Srt
open Go Go.Hw W Rec
theorem Sep.L0 {L:List As}{H:Hp}(h:Hw.Sep L H)(i:Nat){e:TypeId}{s:Nat}{A:OA}{n m:Nat}{xs:List Value}(hi:L[i]? =some (cj e s A n m xs)){x:Int}{j:Nat}(hx:x=j)(hj:j<n){y:Array Value}(hy:y.size=s)(hv:y.toList.all (fun v=>v.oneCell')=true){K:Hp->Prop}
  (k:∀ H',Hw.Sep (L.set i (cj e s A n m (setAt xs (j*s) y.toList))) H'->K H'):cz x n (NN A fun a=>cK H (a.add (x.toNat*s)) y s K):=by
 subst hx;refine⟨by omega,by omega,?_⟩;rcases h.IX i hi with⟨_,h0,_⟩|⟨b,mm,rfl,hmm,hlx,hs⟩
 .omega
 rw[dz,Addr.aP,Int.toNat_natCast,Nat.zero_add];have hlt:i<L.length:=(List.getElem?_eq_some_iff.1 hi).1;have hb:H b=some (.row xs e mm):=hs.get i (by rw[List.getElem?_set_self hlt]);have hjs:j*s+s<=n*s:=by
  have:=Nat.mul_le_mul_right s (show j+1<=n by omega)
  rwa [Nat.succ_mul]at this
 have hyl:y.toList.length=s:=by rw[Array.length_toList];exact hy
 refine⟨hy,?_⟩;rw[vh y.toList 0 H xs hb (by omega) (fun v hq=>List.all_eq_true.1 hv v hq)];refine k _ ?_;have hs2:=hs.put i (.row (setAt xs (j*s+0) y.toList) e mm) (by rw[List.getElem?_set_self hlt]);have hs3:=hs2.jy i (by rw[List.getElem?_set_self (by rw[List.length_set];exact hlt)]) (B:=cj e s (Oo b) n m (setAt xs (j*s) y.toList)) (fun H1 h1=>⟨by rw[gN];exact hlx,.inr ⟨b,mm,rfl,by rw[Nat.add_zero]at h1;exact h1,hmm⟩⟩);rw[List.set_set,List.set_set]at hs3;exact hs3
def gi (l:List R):List Value:=l.flatMap fun r=>r.c.toList
theorem qm :∀(l:List R) (j:Nat) (h:j<l.length),((gi l).drop (j*8)).take 8=l[j].c.toList
 |r::l,0,_=>by
  show((r.c.toList++gi l).drop (0*8)).take 8=_
  rw[Nat.zero_mul,List.drop_zero];exact List.take_left' rfl
 |r::l,j+1,h=>by
  have ih:=qm l j (by simpa using h);show((r.c.toList++gi l).drop ((j+1)*8)).take 8=_
  rw[show(j+1)*8=r.c.toList.length+j*8 by rw[show r.c.toList.length=8 from rfl];omega,<-List.drop_drop,List.drop_left];exact ih
theorem vj :∀(l:List R) (j:Nat) (q:R) (h:j<l.length),setAt (gi l) (j*8) q.c.toList=gi (l.set j q)
 |r::l,0,q,_=>by
  show setAt (r.c.toList++gi l) (0*8) q.c.toList=q.c.toList++gi l
  unfold setAt;rw[Nat.zero_mul,List.take_zero,List.nil_append,Nat.zero_add];congr 1
 |r::l,j+1,q,h=>by
  have ih:=vj l j q (by simpa using h);show setAt (r.c.toList++gi l) ((j+1)*8) q.c.toList=r.c.toList++gi (l.set j q)
  rw[<- ih];unfold setAt;have e:(j+1)*8=r.c.toList.length+j*8:=by rw[show r.c.toList.length=8 from rfl];omega
  rw[e,List.take_length_add_append,Nat.add_assoc,List.drop_length_add_append];simp
theorem lF (r:R):r.c.toList.all (fun v=>v.oneCell')=true:=rfl
def dR :R:=⟨0,0,0,0,0,0,0,0⟩
def ru (l:List R):Nat->List R
 |0=>l
 |j+1=>if(l.getD (j+1) dR).s<(l.getD j dR).s then ru ((l.set (j+1) (l.getD j dR)).set j (l.getD (j+1) dR)) j else l
theorem Jg (j:Nat):∀ l,(ru l j).length=l.length:=by
 induction j with
 |zero=>intro l;rfl
 |succ j ih=>
  intro l;unfold ru;split
  .rw[ih];simp
  .rfl
def fL (l:List R):Nat->List R
 |0=>l
 |i+1=>fL l i|>fun q=>ru q (i+1)
theorem An (x:Int)(H:Hp):aa prog 228 #[U x] H (RetE (.bool false) H):=by
 apply iZ.ok;unfold iZ;simp only[bne_self_eq_false];exact RetE.mk _ _
def Dg (a b:Nat):Int:=if a<b then -1 else if b<a then 1 else 0
theorem KG (a b:Nat)(H:Hp):aa prog 161 #[U (a:Int),U (b:Int)] H (RetE (I (Dg a b)) H):=by
 apply ik.ok;unfold ik;refine aa.use (An _ H) ?_;simp only[HV];refine aa.use (An _ H) ?_;simp only[HV];unfold Dg;by_cases h1:a<b
 .rw[if_pos h1];exact aA (by omega) (RetE.mk _ _)
 .rw[if_neg h1];refine au (by omega) ?_;by_cases h2:b<a
  .rw[if_pos h2];exact aA (by omega) (RetE.mk _ _)
  .rw[if_neg h2];exact au (by omega) (RetE.mk _ _)
theorem Jx (a b:R)(H:Hp):aa prog 160 #[.agg a.c,.agg b.c] H (RetE (I (Dg a.s b.s)) H):=aa.ret (by
 apply je.ok;unfold je;refine(Sep.start H).nw fun b1 H1 hs=>?_
 refine hs.nw fun b2 H1 hs=>?_
 refine hs.cg 1 rfl rfl ?_;simp only[HV];refine hs.cg 2 rfl rfl ?_;simp only[HV];refine aa.use (KG a.s b.s H1) ?_;simp only[HV];exact hs.fin 0 rfl _)
theorem getD_at (l:List R){j:Nat}(h:j<l.length):l.getD j dR=l[j]:=by
 rw[List.getD_eq_getElem?_getD,List.getElem?_eq_getElem h];rfl
theorem yk (A:OA)(n m i:Nat)(hn:n<=1000)(K:VK)(R1:OA->Nat->Nat->Int->Int->FuncId->Array Value->Array Value->Int->Hp->Prop)(fin:List R)
  (k:∀ H',Hw.Sep [cj 110 8 A n m (gi fin)] H'->R1 A n m 0 (n:Int) 160 #[] #[] (i64.wrap ((i:Int)+1)) H'):
  ∀(j:Nat) (l:List R) (H:Hp),l.length=n->j<n->ru l j=fin->Hw.Sep [cj 110 8 A n m (gi l)] H->
   ao.l4 K R1 (j+1) A n m 0 (n:Int) 160 #[] #[] (i:Int) (j:Int) H
 |0,l,H,hl,hj,hf,hs=>by
  unfold ao.l4;refine au (by omega) ?_;have hf:l=fin:=hf;rw[hf]at hs;exact k H hs
 |j+1,l,H,hl,hj,hf,hs=>by
  unfold ao.l4;refine aA (by omega) ?_;have hj1:j+1<l.length:=by omega
  have hj0:j<l.length:=by omega
  have ej:i64.wrap (((j+1:Nat):Int)-1)=(j:Int):=by rw[bg];omega
  rw[ej];have ho:=hs.own 0 rfl;refine ho.Bd rfl hj (qm l (j+1) hj1) ?_;refine ho.Bd (j:=j) rfl (by omega) (qm l j hj0) ?_;refine cO (by kernel_rfl) ?_;rw[Array.toArray_toList,Array.toArray_toList];refine aa.use (Jx l[j+1] l[j] H) ?_;have hr:eM prog 160=[3]:=by kernel_rfl
  rw[hr];have hdt:∀(x:Int) (K:Value->Prop),K (I x)->DR prog [3] (I x) K:=fun x K k=>by
   show DT prog 3 (I x) K
   unfold DT;rw[show prog.underlying 3=some (.int .i64) by kernel_rfl];exact k
  refine hdt _ _ ?_;simp only[HV];unfold ru at hf;rw[getD_at l hj1,getD_at l hj0]at hf;unfold Dg;by_cases hlt:l[j+1].s<l[j].s
  .rw[if_pos hlt]at hf⊢;refine aA (by decide) ?_;have ix:∀{x:Int} {q:Nat} {P:Addr->Prop},x=q->q<n->(∀ b mm,A=some (O b)->P (O b))->cz x n (NN A P):=fun{x q P} hx hq hp=>by
    refine⟨by omega,by omega,?_⟩;rcases hs.IX 0 rfl with⟨_,h0,_⟩|⟨b,mm,rfl,_,_,_⟩
    .omega
    .rw[dz];exact hp b mm rfl
   refine ix (q:=j) rfl (by omega) fun b mm hA=>?_
   subst hA;refine⟨by omega,by omega,?_⟩;rw[dz];have hw1:=vj l (j+1) l[j] hj1;have hw2:=vj (l.set (j+1) l[j]) j l[j+1] (by rw[List.length_set];exact hj0);have go:∀ H1,Hw.Sep [cj 110 8 (Oo b) n m (gi l)] H1->
     cz ((j+1:Nat):Int) n (NN (some (O b)) fun a5=>cK H1 (a5.add (((j+1:Nat):Int).toNat*8)) l[j].c 8 fun H2=>cz (j:Int) n (NN (some (O b)) fun a6=>cK H2 (a6.add ((j:Int).toNat*8)) l[j+1].c 8 fun H3=>
      ao.l4 K R1 (j+1) (Oo b) n m 0 (n:Int) 160 #[] #[] (i:Int) (j:Int) H3)):=fun H1 hs=>by
    refine Sep.L0 hs 0 rfl rfl hj rfl (lF _) fun H2 hs=>?_
    refine Sep.L0 hs 0 rfl rfl (show j<n by omega) rfl (lF _) fun H3 hs=>?_
    simp only[List.set_cons_zero]at hs;rw[hw1,hw2]at hs;exact yk (Oo b) n m i hn K R1 fin k j _ H3 (by simp;exact hl) (by omega) hf hs
   have rd:∀{q:Nat} (hq:q<l.length) {P:List Value->Prop},P l[q].c.toList->aY H ((O b).add ((q:Int).toNat*8)) 8 P:=fun{q} hq {P} hp=>by
    have:=(hs.own 0 rfl).Bd (x:=(q:Int)) (j:=q) rfl (by omega) (qm l q hq) (K:=P) hp;exact this.2.2
   refine⟨?_,?_⟩
   .refine rd hj0 (rd hj1 ?_);rw[Array.toArray_toList,Array.toArray_toList];exact go H hs
   .refine rd hj1 (rd hj0 ?_);rw[Array.toArray_toList,Array.toArray_toList];exact go H hs
  .rw[if_neg hlt]at hf⊢;refine au (by split<;>decide) ?_;rw[hf]at hs;exact k H hs
theorem kY :∀(i:Nat) (l:List R),(fL l i).length=l.length
 |0,_=>rfl
 |i+1,l=>by
  show(ru (fL l i) (i+1)).length=_
  rw[Jg,kY i l]
theorem yl (A:OA)(n m:Nat)(hn:n<=1000)(l:List R)(hl:l.length=n)(K:VK)(k:∀ H',Hw.Sep [cj 110 8 A n m (gi (fL l (n-1)))] H'->K (.tuple #[]) H'):
  ∀(t i:Nat) (H:Hp),i+t=n-1->Hw.Sep [cj 110 8 A n m (gi (fL l i))] H->
   ao.l1 K (t+1) A n m 0 (n:Int) 160 #[] #[] ((i+1:Nat):Int) H
 |0,i,H,hi,hs=>by
  unfold ao.l1;refine au (by omega) ?_;obtain rfl:i=n-1:=by omega
  exact k H hs
 |t+1,i,H,hi,hs=>by
  unfold ao.l1;refine aA (by omega) ⟨i+1+1,?_⟩;refine yk A n m (i+1) hn K _ (fL l (i+1)) (fun H' hs'=>?_) (i+1) (fL l i) H (by rw[kY];exact hl) (by omega) rfl hs;rw[bg,show((i+1:Nat):Int)+1=((i+1+1:Nat):Int) by omega];exact yl A n m hn l hl K k t (i+1) H' (by omega) hs'
theorem zL (x:Nat)(hx:x<18446744073709551616)(H:Hp):aa prog 227 #[U (x:Int)] H (RetE (I (Go.Lib.bitLen x:Int)) H):=by
 apply gT.ok;unfold gT;refine aa.use (GF x hx H) ?_;simp only[HV];exact RetE.mk _ _
theorem BJ (A:OA)(n m:Nat)(hn:n<=12)(l:List R)(hl:l.length=n):Tr prog 159 #[.slice A n m,.func (.func 160) #[] #[]]
  [cj 110 8 A n m (gi l)] fun v M=>v= .tuple #[]/\M=[cj 110 8 A n m (gi (fL l (n-1)))]:=fun H hs=>by
 apply dT.ok;unfold dT;rw[fC];refine aa.use (zL n (by omega) H) ?_;simp only[HV];have hI:aa prog 285 #[.slice A n m,I 0,I (n:Int),.func (.func 160) #[] #[]] H (fun v H'=>v= .tuple #[]/\Hw.Sep [cj 110 8 A n m (gi (fL l (n-1)))] H'):=by
  apply ao.ok;unfold ao;rw[show i64.wrap ((0:Int)+1)=((0+1:Nat):Int) by decide];exact⟨n-1+1,yl A n m (by omega) l hl _ (fun H' hs'=>⟨rfl,hs'⟩) (n-1) 0 H (by omega) hs⟩
 have hP:aa prog 226 #[.slice A n m,I 0,I (n:Int),I (Go.Lib.bitLen n:Int),.func (.func 160) #[] #[]] H (fun v H'=>v= .tuple #[]/\Hw.Sep [cj 110 8 A n m (gi (fL l (n-1)))] H'):=by
  apply an.ok;unfold an;refine⟨1,?_⟩;unfold an.l2;refine aA (by rw[bg];omega) ?_;refine aa.mono hI ?_;rintro v H' ⟨rfl,h⟩;exact⟨rfl,h⟩
 refine aa.mono hP ?_;rintro v H' ⟨rfl,h⟩;exact⟨_,⟨by first|trivial|rfl,rfl⟩,h⟩
theorem swap_perm (l:List R){j:Nat}(h:j+1<l.length):((l.set (j+1) (l.getD j dR)).set j (l.getD (j+1) dR)).Perm l:=by
 induction l generalizing j with
 |nil=>simp at h
 |cons x l ih=>
  cases j with
  |zero=>
   cases l with
   |nil=>simp at h
   |cons y t=>exact List.Perm.swap x y t
  |succ j=>
   exact(ih (j:=j) (by simpa using h)).cons x
theorem GZ (j:Nat):∀(l:List R),j<l.length->(ru l j).Perm l:=by
 induction j with
 |zero=>intro l _;exact List.Perm.refl _
 |succ j ih=>
  intro l h;unfold ru;split
  .refine(ih _ (by simp;omega)).trans (swap_perm l h)
  .exact List.Perm.refl _
theorem wc (l:List R):∀ i,i<l.length\/i=0->(fL l i).Perm l
 |0,_=>List.Perm.refl _
 |i+1,h=>by
  have ih:=wc l i (by omega);show(ru (fL l i) (i+1)).Perm l
  refine(GZ (i+1) _ (by rw[kY];omega)).trans ih
end Srt
namespace Srt
open Go Go.Hw Rec
def Fq (a b:R):Prop:=a.s<=b.s
theorem B9 :∀(j:Nat) (p r:List R) (x:R),p.length=j->∃ p',ru (p++x::r) j=p'++r/\p'.length=j+1/\(p.Pairwise Fq->p'.Pairwise Fq)/\p'.Perm (x::p)
 |0,p,r,x,h=>by
  rw[List.length_eq_zero_iff.1 h];exact⟨[x],rfl,rfl,fun _=>by simp,List.Perm.refl _⟩
 |j+1,p,r,x,h=>by
  obtain⟨q,y,rfl⟩:∃ q y,p=q++[y]:=⟨_,_,(List.dropLast_concat_getLast (by intro e;rw[e]at h;cases h)).symm⟩;have hq:q.length=j:=by simpa using h
  have e0:q++[y]++x::r=q++y::x::r:=by simp
  rw[e0];unfold ru;have g1:(q++y::x::r).getD (j+1) dR=x:=by rw[List.getD_eq_getElem?_getD,List.getElem?_append_right (by omega),hq,show j+1-j=1 by omega];rfl
  have g0:(q++y::x::r).getD j dR=y:=by rw[List.getD_eq_getElem?_getD,List.getElem?_append_right (by omega),hq,Nat.sub_self];rfl
  rw[g1,g0];by_cases hxy:x.s<y.s
  .rw[if_pos hxy];have es:((q++y::x::r).set (j+1) y).set j x=q++x::y::r:=by
    rw[List.set_append_right _ _ (by omega),hq,show j+1-j=1 by omega,List.set_append_right _ _ (by omega),hq,Nat.sub_self];rfl
   rw[es];obtain⟨p'',h1,h2,h3,h4⟩:=B9 j q (y::r) x hq;refine⟨p''++[y],by rw[h1];simp,by simp[h2],fun hs=>?_,?_⟩
   .rw[List.pairwise_append]at hs⊢;obtain⟨s1,_,s3⟩:=hs;refine⟨h3 s1,by simp,fun a ha b hb=>?_⟩;have hb':b=y:=by simpa using hb
    subst hb';rcases List.mem_cons.1 (h4.mem_iff.1 ha)with rfl|ha
    .exact Nat.le_of_lt hxy
    .exact s3 a ha b (by simp)
   .have:(p''++[y]).Perm ((x::q)++[y]):=h4.append_right [y];simpa using this
  .rw[if_neg hxy];refine⟨q++[y,x],by simp,by simp[hq],fun hs=>?_,?_⟩
   .rw[List.pairwise_append]at hs⊢;obtain⟨s1,_,s3⟩:=hs;have hyx:Fq y x:=Nat.not_lt.1 hxy;refine⟨s1,by simp[hyx],fun a ha b hb=>?_⟩;have hay:=s3 a ha y (by simp);have:b=y\/b=x:=by simpa using hb
    rcases this with rfl|rfl
    .exact hay
    .exact Nat.le_trans hay hyx
   .have:(q++[y]++[x]).Perm (x::(q++[y])):=List.perm_append_comm;simpa using this
theorem yn :∀(i:Nat) (l:List R),i<l.length->∃ p r,fL l i=p++r/\p.length=i+1/\p.Pairwise Fq
 |0,l,h=>by
  cases l with
  |nil=>simp at h
  |cons x t=>exact⟨[x],t,rfl,rfl,by simp⟩
 |i+1,l,h=>by
  obtain⟨p,r,h1,h2,h3⟩:=yn i l (by omega);have hlen:=kY i l;cases r with
  |nil=>
   rw[h1,List.append_nil,h2]at hlen;omega
  |cons x r=>
   obtain⟨p',g1,g2,g3,_⟩:=B9 (i+1) p r x h2;refine⟨p',r,?_,g2,g3 h3⟩;show ru (fL l i) (i+1)=_
   rw[h1,g1]
theorem Ap (l:List R):(fL l (l.length-1)).Pairwise Fq:=by
 by_cases h0:l=[]
 .subst h0;exact List.Pairwise.nil
 .have hp:0<l.length:=List.length_pos_iff.2 h0;obtain⟨p,r,h1,h2,h3⟩:=yn (l.length-1) l (by omega);have hlen:=kY (l.length-1) l;rw[h1]at hlen⊢;have:r=[]:=by
   rw[List.length_append,h2]at hlen;exact List.length_eq_zero_iff.1 (by omega)
  rw[this,List.append_nil];exact h3
theorem Fe (l:List R):(fL l (l.length-1)).Perm l:=by
 by_cases h0:l=[]
 .subst h0;exact List.Perm.refl _
 .have hp:0<l.length:=List.length_pos_iff.2 h0;exact wc l _ (.inl (by omega))
end Srt
namespace Rec
open Go Go.Hw W
abbrev after (a b:R):Prop:=a.cR/\b.cR/\b.s=a.s+1/\(b.kd=1\/(b.kd=2/\a.kd=1/\a.ld=b.ld/\a.kk=b.kk)\/(b.kd=3/\a.kd≠1/\a.ld=b.ld/\a.kk=b.kk/\a.dJ=b.dJ/\b.out=0)\/
 (b.kd=4/\3<=a.kd/\a.ld=b.ld/\a.kk=b.kk/\a.dJ=b.dJ/\a.dir=b.dir/\b.ps=a.ps+1))
abbrev same (a b:R):Prop:=a.ld=b.ld/\a.kk=b.kk/\a.dJ=b.dJ
theorem CE (a b:R)(H:Hp):aa prog 272 #[.agg a.c,.agg b.c] H (RetE (.bool (decide (same a b))) H):=aa.ret (by
 apply my.ok;unfold my;refine(Sep.start H).nw fun b1 H1 hs=>?_
 refine hs.nw fun b2 H1 hs=>?_
 have hs:Sep [own H,ah b1 (eX a),ah b2 (eX b)] H1:=hs;refine hs.cg 1 rfl rfl ?_;simp only[HV];refine hs.cg 2 rfl rfl ?_;simp only[HV];by_cases h1:(a.ld:Int)=(b.ld:Int)
 .refine bH h1 ?_;refine hs.cg 1 rfl rfl ?_;simp only[HV];refine hs.cg 2 rfl rfl ?_;simp only[HV];by_cases h2:a.kk=b.kk
  .refine bH h2 ?_;refine hs.cg 1 rfl rfl ?_;simp only[HV];refine hs.cg 2 rfl rfl ?_;simp only[HV];have:decide (same a b)=((a.dJ:Int)==(b.dJ:Int)):=by
    by_cases h3:(a.dJ:Int)=(b.dJ:Int)
    .rw[decide_eq_true ⟨by omega,h2,by omega⟩,h3];simp
    .rw[decide_eq_false (fun h=>by have:=h.2.2;omega),beq_eq_false_iff_ne.2 h3]
   rw[this];exact hs.fin 0 rfl _
  .rw[decide_eq_false (fun h=>h2 h.2.1)];exact bT h2 (hs.fin 0 rfl _)
 .rw[decide_eq_false (fun h=>h1 (by have:=h.1;omega))];exact bT h1 (hs.fin 0 rfl _))
section
variable {a b : R} {H0 H : Hp} {b1 b2 : Nat}
theorem vI (hs:Sep [own H0,ah b1 (eX a),ah b2 (eX b)] H)(h:¬after a b):lU (.bool (decide (after a b))) H0 (.bool false) H:=by
 rw[decide_eq_false h];exact hs.fin 0 rfl _
theorem zh (hs:Sep [own H0,ah b1 (eX a),ah b2 (eX b)] H){x:Bool}(h:x=true↔after a b):lU (.bool (decide (after a b))) H0 (.bool x) H:=by
 have:decide (after a b)=x:=by
  cases x with
  |true=>exact decide_eq_true (h.1 rfl)
  |false=>exact decide_eq_false fun g=>by have:=h.2 g;cases this
 rw[this];exact hs.fin 0 rfl _
end
theorem Gr (a b:R)(H:Hp):aa prog 215 #[.agg a.c,.agg b.c] H (RetE (.bool (decide (after a b))) H):=aa.ret (by
 apply ln.ok;unfold ln;refine(Sep.start H).nw fun b1 H1 hs=>?_
 refine hs.nw fun b2 H1 hs=>?_
 have hs:Sep [own H,ah b1 (eX a),ah b2 (eX b)] H1:=hs;refine hs.bJ 1 rfl rfl ?_;refine aa.use (fA a H1) ?_;simp only[HV];by_cases ga:a.cR
 case neg=>
  rw[decide_eq_false ga];exact cO rfl (vI hs fun h=>ga h.1)
 rw[decide_eq_true ga];refine bY rfl ?_;refine hs.bJ 2 rfl rfl ?_;refine aa.use (fA b H1) ?_;simp only[HV];by_cases gb:b.cR
 case neg=>
  rw[decide_eq_false gb];exact cO rfl (vI hs fun h=>gb h.2.1)
 rw[decide_eq_true gb];refine bY rfl ?_;have ga':=ga;have gb':=gb;obtain⟨a1,a2,a3,a4,a5,a6⟩:=ga';obtain⟨c1,c2,c3,c4,c5,c6⟩:=gb';refine hs.cg 2 rfl rfl ?_;simp only[HV];refine hs.cg 1 rfl rfl ?_;simp only[HV];rw[iQ (x:=(a.s:Int)+1)];by_cases hsq:(b.s:Int)=(a.s:Int)+1
 case neg=>exact aU hsq (vI hs fun h=>hsq (by have:=h.2.2.1;omega))
 refine aF hsq ?_;have hd:∀{P:Prop},(P↔(b.kd=1\/(b.kd=2/\a.kd=1/\a.ld=b.ld/\a.kk=b.kk)\/(b.kd=3/\a.kd≠1/\a.ld=b.ld/\a.kk=b.kk/\a.dJ=b.dJ/\b.out=0)\/(b.kd=4/\3<=a.kd/\a.ld=b.ld/\a.kk=b.kk/\a.dJ=b.dJ/\a.dir=b.dir/\b.ps=a.ps+1)))->(P↔after a b):=fun h=>by
  rw[h];exact⟨fun g=>⟨ga,gb,by omega,g⟩,fun g=>g.2.2.2⟩
 have hn:¬(b.kd=1\/(b.kd=2/\a.kd=1/\a.ld=b.ld/\a.kk=b.kk)\/(b.kd=3/\a.kd≠1/\a.ld=b.ld/\a.kk=b.kk/\a.dJ=b.dJ/\b.out=0)\/(b.kd=4/\3<=a.kd/\a.ld=b.ld/\a.kk=b.kk/\a.dJ=b.dJ/\a.dir=b.dir/\b.ps=a.ps+1))->lU (.bool (decide (after a b))) H (.bool false) H1:=fun h=>vI hs fun g=>h g.2.2.2
 refine hs.cg 2 rfl rfl ?_;simp only[HV];by_cases k1:b.kd=1
 .exact bH k1 (zh hs (hd ⟨fun _=>.inl k1,fun _=>rfl⟩))
 refine bT k1 ?_;by_cases k2:b.kd=2
 .refine bH k2 ?_;refine hs.cg 1 rfl rfl ?_;simp only[HV];by_cases h1:a.kd=1
  .refine bH h1 ?_;refine hs.cg 1 rfl rfl ?_;simp only[HV];refine hs.cg 2 rfl rfl ?_;simp only[HV];by_cases h2:(a.ld:Int)=(b.ld:Int)
   .refine bH h2 ?_;refine hs.cg 1 rfl rfl ?_;simp only[HV];refine hs.cg 2 rfl rfl ?_;simp only[HV];refine zh hs (hd ?_);rw[beq_iff_eq];omega
   .exact bT h2 (hn (by omega))
  .exact bT h1 (hn (by omega))
 refine bT k2 ?_;by_cases k3:b.kd=3
 .refine bH k3 ?_;refine hs.cg 1 rfl rfl ?_;simp only[HV];by_cases h1:a.kd=1
  .exact aF h1 (hn (by omega))
  .refine aU h1 ?_;refine hs.bJ 1 rfl rfl ?_;refine hs.bJ 2 rfl rfl ?_;refine aa.use (CE a b H1) ?_;simp only[HV];by_cases h2:same a b
   .rw[decide_eq_true h2];refine cO rfl ?_;obtain⟨e1,e2,e3⟩:=h2;refine hs.cg 2 rfl rfl ?_;simp only[HV];refine zh hs (hd ?_);rw[beq_iff_eq];omega
   .rw[decide_eq_false h2];refine bY rfl (hn fun g=>h2 ?_);rcases g with g|g|g|g
    .omega
    .omega
    .exact⟨g.2.2.1,g.2.2.2.1,g.2.2.2.2.1⟩
    .omega
 refine bT k3 ?_;refine hs.cg 1 rfl rfl ?_;simp only[HV];by_cases h1:a.kd>=3
 .refine aA h1 ?_;refine hs.bJ 1 rfl rfl ?_;refine hs.bJ 2 rfl rfl ?_;refine aa.use (CE a b H1) ?_;simp only[HV];by_cases h2:same a b
  .rw[decide_eq_true h2];refine cO rfl ?_;obtain⟨e1,e2,e3⟩:=h2;refine hs.cg 1 rfl rfl ?_;simp only[HV];refine hs.cg 2 rfl rfl ?_;simp only[HV];by_cases h3:a.dir=b.dir
   .refine bH h3 ?_;refine hs.cg 2 rfl rfl ?_;simp only[HV];refine hs.cg 1 rfl rfl ?_;simp only[HV];rw[bg (x:=a.ps+1)];refine zh hs (hd ?_);rw[beq_iff_eq];omega
   .exact bT h3 (hn (by omega))
  .rw[decide_eq_false h2];refine bY rfl (hn fun g=>h2 ?_);rcases g with g|g|g|g
   .omega
   .omega
   .omega
   .exact⟨g.2.2.1,g.2.2.2.1,g.2.2.2.2.1⟩
 .exact au h1 (hn (by omega)))
end Rec
namespace Rec
open Go Go.Hw Go.Form Go.Crc W
def tZ (ps:List (Nat×Nat)):List Value:=ps.flatMap fun(p:Nat×Nat)=>[Value.int .u64 (p.1:Int),Value.int .u64 (p.2:Int)]
def dU (w:Nat):List (Nat×Nat)->Nat
 | []=>w
 |p::ps=>dU (w|||(p.1*2^p.2%2^64)) ps
theorem ku :∀(ps:List (Nat×Nat)) (w:Nat),w<2^64->dU w ps<2^64
 | [],w,h=>h
 |p::ps,w,h=>ku ps _ (zt h (Nat.mod_lt _ (Nat.two_pow_pos 64)))
theorem yE :∀(ps:List (Nat×Nat)) (j:Nat) (p:Nat×Nat),ps[j]? =some p->(tZ ps)[j*2]? =some (U (p.1:Int))/\(tZ ps)[j*2+1]? =some (U (p.2:Int))
 | [],j,p,h=>by simp at h
 |q::ps,0,p,h=>by
  simp at h;subst h;exact⟨rfl,rfl⟩
 |q::ps,j+1,p,h=>by
  have:=yE ps j p (by simpa using h);rw[show(j+1)*2=j*2+2 by omega];exact this
theorem I' {H:Hp}{g off:Nat}{u v:Value}{K:List Value->Prop}(h1:H.cell? ⟨g,off,none⟩=some u)(h2:H.cell? ⟨g,off+1,none⟩=some v)(k:K [u,v]):aY H ⟨g,off,none⟩ 2 K:=by
 have e0:(⟨g,off,none⟩:Addr).add 0=⟨g,off,none⟩:=by rw[Addr.aP];rfl
 have e1:(⟨g,off,none⟩:Addr).add (0+1)=⟨g,off+1,none⟩:=by rw[Addr.aP]
 unfold aY Hp.cells? Hp.cells? Hp.cells?;rw[e0,e1,h1,h2];exact k
theorem yp {H0:Hp}{b:Nat}{ps:List (Nat×Nat)}(hc:Cells H0 (Oo b) (tZ ps))(hp:∀ p∈ps,p.1<2^64/\p.2<=64)(hl:ps.length<=1000):
  ∀(t j w:Nat) (H:Hp),j+t=ps.length->w<2^64->Sep [own H0] H->cY.l3 (lU (U ((dU w (ps.drop j):Nat):Int)) H0) (t+1) (w:Int) (Oo b) ps.length ps.length (ps.length:Int) (j:Int) H
 |0,j,w,H,hj,hw,hs=>by
  unfold cY.l3;rw[List.drop_eq_nil_of_le (by omega)];exact au (by omega) (hs.fin 0 rfl _)
 |t+1,j,w,H,hj,hw,hs=>by
  have hlt:j<ps.length:=by omega
  have hg:=yE ps j _ (List.getElem?_eq_getElem hlt);obtain⟨hp1,hp2⟩:=hp _ (List.getElem_mem hlt);have hcH:=hc.le (hs.ow 0 rfl);unfold cY.l3;refine aA (by omega) ⟨by omega,by omega,?_⟩;rw[List.drop_eq_getElem_cons hlt];generalize ps[j]=p at*;simp only[dz];rw[Int.toNat_natCast,Addr.aP,Nat.zero_add];have g1:H.cell? ⟨b,j*2,none⟩=some (U (p.1:Int)):=by
   obtain⟨a,ha,hc⟩:=hcH _ _ hg.1;cases ha;rw[Addr.aP,Nat.zero_add]at hc;exact hc
  have g2:H.cell? ⟨b,j*2+1,none⟩=some (U (p.2:Int)):=by
   obtain⟨a,ha,hc⟩:=hcH _ _ hg.2;cases ha;rw[Addr.aP,Nat.zero_add]at hc;exact hc
  refine I' g1 g2 ?_;refine hs.nw fun b1 H1 hs=>?_
  refine hs.eY 1 rfl rfl rfl rfl fun H1 hs=>?_
  refine hs.cg 1 rfl rfl ?_;simp only[HV];refine hs.cg 1 rfl rfl ?_;simp only[HV];refine⟨by omega,?_⟩;have hm:p.1*2^p.2%2^64<2^64:=Nat.mod_lt _ (Nat.two_pow_pos 64);rw[DY (x:=p.1) (i:=(p.2:Int)) (n:=p.2) rfl hp2,IE hw hm,bg (x:=(j:Int)+1),show(j:Int)+1=((j+1:Nat):Int) by omega];exact yp hc hp hl t (j+1) _ H1 (by omega) (zt hw hm) (hs.re [0] rfl)
theorem Jw {H:Hp}{b:Nat}(ps:List (Nat×Nat))(n:Nat)(hn:n=ps.length)(hc:Cells H (Oo b) (tZ ps))(hp:∀ p∈ps,p.1<2^64/\p.2<=64)(hl:ps.length<=1000):
  aa prog 284 #[.slice (Oo b) n n] H (RetE (U ((dU 0 ps:Nat):Int)) H):=aa.ret (by
 subst hn;apply cY.ok;unfold cY;exact⟨ps.length+1,yp hc hp hl ps.length 0 0 H (by omega) (by decide) (Sep.start H)⟩)
def R.p1 (r:R):List (Nat×Nat):=[(21061,48),(r.s,0)]
def R.p2 (r:R):List (Nat×Nat):=[(r.ld,32),(r.ps.toNat,24),(r.kk.toNat,16),(r.dir.toNat,8),(r.kd.toNat,0)]
def R.p3 (r:R):List (Nat×Nat):=[(r.dJ,32),(r.out,0)]
def R.w3 (r:R):List UInt64:=[UInt64.ofNat (dU 0 r.p1),UInt64.ofNat (dU 0 r.p2),UInt64.ofNat (dU 0 r.p3)]
structure R.u32 (r:R):Prop where
 ld:r.ld<4294967296
 dJ:r.dJ<4294967296
 out:r.out<4294967296
def AS (ps:List (Nat×Nat)):AO:=.row (tZ ps) 387 (2*ps.length)
theorem jn {L:List As}{H:Hp}(hs:Sep L H)(i:Nat){b:Nat}{ps:List (Nat×Nat)}(hi:L[i]? =some (ah b (AS ps)))(n:Nat)(hn:n=ps.length)(hp:∀ p∈ps,p.1<2^64/\p.2<=64)(hl:n<=1000):
  aa prog 284 #[.slice (Oo b) n n] H (RetE (U ((dU 0 ps:Nat):Int)) H):=by
 refine Jw ps n hn ?_ hp (by omega);have:=Cells.row (hs.get i hi) 0 (tZ ps).length;rw[List.drop_zero,List.take_of_length_le (Nat.le_refl _)]at this;exact this
theorem HT (r:R)(hg:r.cR)(hu:r.u32):Tr prog 308 #[.agg r.c] [] fun v M=>∃ b,v= .slice (Oo b) 3 3/\M=[ah b (.row (af r.w3) 108 3)]:=fun H hs=>by
 obtain⟨g1,g2,g3,g4,g5,g6⟩:=hg;obtain⟨u1,u2,u3⟩:=hu;have c1:∀ p∈r.p1,p.1<2^64/\p.2<=64:=fun p hp=>by
  simp only[R.p1,List.mem_cons,List.not_mem_nil,or_false]at hp;rcases hp with rfl|rfl<;>exact⟨by simp only[];omega,by simp only[];omega⟩
 have c2:∀ p∈r.p2,p.1<2^64/\p.2<=64:=fun p hp=>by
  simp only[R.p2,List.mem_cons,List.not_mem_nil,or_false]at hp;rcases hp with rfl|rfl|rfl|rfl|rfl<;>exact⟨by simp only[];omega,by simp only[];omega⟩
 have c3:∀ p∈r.p3,p.1<2^64/\p.2<=64:=fun p hp=>by
  simp only[R.p3,List.mem_cons,List.not_mem_nil,or_false]at hp;rcases hp with rfl|rfl<;>exact⟨by simp only[];omega,by simp only[];omega⟩
 apply cG.ok;unfold cG cG.q4 cG.q3 cG.q2 cG.q1;refine hs.nw fun b1 H hs=>?_
 have hs:Sep [ah b1 (eX r)] H:=hs;refine hs.cg 0 rfl rfl ?_;simp only[HV];refine hs.cg 0 rfl rfl ?_;simp only[HV];refine hs.cg 0 rfl rfl ?_;simp only[HV];refine hs.cg 0 rfl rfl ?_;simp only[HV];refine hs.cg 0 rfl rfl ?_;simp only[HV];refine hs.cg 0 rfl rfl ?_;simp only[HV];refine hs.cg 0 rfl rfl ?_;simp only[HV];refine hs.cg 0 rfl rfl ?_;simp only[HV];have e1:u64.wrap (r.ld:Int)=(r.ld:Int):=fC;have e2:u64.wrap r.ps=(r.ps.toNat:Int):=by rw[iQ];omega
 have e3:u64.wrap r.kk=(r.kk.toNat:Int):=by rw[iQ];omega
 have e4:u64.wrap r.dir=(r.dir.toNat:Int):=by rw[iQ];omega
 have e5:u64.wrap r.kd=(r.kd.toNat:Int):=by rw[iQ];omega
 have e6:u64.wrap (r.dJ:Int)=(r.dJ:Int):=fC;have e7:u64.wrap (r.out:Int)=(r.out:Int):=fC;rw[e1,e2,e3,e4,e5,e6,e7];have done:∀{L:List As} {H:Hp},Sep L H->Nw H (.row [U ((dU 0 r.p1:Nat):Int),U ((dU 0 r.p2:Nat):Int),U ((dU 0 r.p3:Nat):Int)] 108 3) fun b5 H5=>∃ M,(∃ b,(.slice (Oo b5) 3 3:Value)= .slice (Oo b) 3 3/\M=[ah b (.row (af r.w3) 108 3)])/\Sep M H5:=fun{L H} hs=>by
  refine hs.nw fun b5 H5 hs=>⟨_,⟨b5,rfl,rfl⟩,?_⟩
  have hw:af r.w3=[U ((dU 0 r.p1:Nat):Int),U ((dU 0 r.p2:Nat):Int),U ((dU 0 r.p3:Nat):Int)]:=by
   show [Value.int .u64 ((UInt64.ofNat (dU 0 r.p1)).toNat:Int),Value.int .u64 ((UInt64.ofNat (dU 0 r.p2)).toNat:Int),Value.int .u64 ((UInt64.ofNat (dU 0 r.p3)).toNat:Int)]=_
   rw[UInt64.toNat_ofNat_of_lt' (ku r.p1 0 (by decide)),UInt64.toNat_ofNat_of_lt' (ku r.p2 0 (by decide)),UInt64.toNat_ofNat_of_lt' (ku r.p3 0 (by decide))]
  rw[hw];have hg:=hs.get L.length (b:=b5) (o:=.row [U ((dU 0 r.p1:Nat):Int),U ((dU 0 r.p2:Nat):Int),U ((dU 0 r.p3:Nat):Int)] 108 3) (by simp);exact⟨H5,fun _=>none,Hp.le_refl _,fun b o h=>(by cases h),fun b=>.inr rfl,hg,trivial⟩
 have n1:∀{L:List As} {H:Hp} {K:Nat->Hp->Prop},Sep L H->(∀ b H',Sep (L++[ah b (AS r.p1)]) H'->K b H')->Nw H (.row [U 21061,U 48,U (r.s:Int),U 0] 387 4) K:=fun hs k=>hs.nw k
 have n2:∀{L:List As} {H:Hp} {K:Nat->Hp->Prop},Sep L H->(∀ b H',Sep (L++[ah b (AS r.p2)]) H'->K b H')->Nw H (.row [U (r.ld:Int),U 32,U (r.ps.toNat:Int),U 24,U (r.kk.toNat:Int),U 16,U (r.dir.toNat:Int),U 8,U (r.kd.toNat:Int),U 0] 387 10) K:=fun hs k=>hs.nw k
 have n3:∀{L:List As} {H:Hp} {K:Nat->Hp->Prop},Sep L H->(∀ b H',Sep (L++[ah b (AS r.p3)]) H'->K b H')->Nw H (.row [U (r.dJ:Int),U 32,U (r.out:Int),U 0] 387 4) K:=fun hs k=>hs.nw k
 refine⟨n1 hs fun b2 H hs=>?_,n2 hs fun b2 H hs=>?_,n3 hs fun b2 H hs=>?_⟩
 .refine bD.use (jn hs 1 rfl 2 rfl c1 (by decide)) ?_;simp only[HV];refine⟨n2 hs fun b3 H hs=>?_,n3 hs fun b3 H hs=>n2 hs fun b4 H hs=>?_⟩
  .refine bD.use (jn hs 2 rfl 5 rfl c2 (by decide)) ?_;simp only[HV];refine n3 hs fun b4 H hs=>?_
   refine bD.use (jn hs 3 rfl 2 rfl c3 (by decide)) ?_;simp only[HV];exact done hs
  .refine bD.use (jn hs 3 rfl 5 rfl c2 (by decide)) ?_;simp only[HV];refine bD.use (jn hs 2 rfl 2 rfl c3 (by decide)) ?_;simp only[HV];exact done hs
 .refine⟨n1 hs fun b3 H hs=>?_,n3 hs fun b3 H hs=>n1 hs fun b4 H hs=>?_⟩
  .refine bD.use (jn hs 2 rfl 2 rfl c1 (by decide)) ?_;simp only[HV];refine bD.use (jn hs 1 rfl 5 rfl c2 (by decide)) ?_;simp only[HV];refine n3 hs fun b4 H hs=>?_
   refine bD.use (jn hs 3 rfl 2 rfl c3 (by decide)) ?_;simp only[HV];exact done hs
  .refine bD.use (jn hs 3 rfl 2 rfl c1 (by decide)) ?_;simp only[HV];refine bD.use (jn hs 1 rfl 5 rfl c2 (by decide)) ?_;simp only[HV];refine bD.use (jn hs 2 rfl 2 rfl c3 (by decide)) ?_;simp only[HV];exact done hs
 .refine⟨n1 hs fun b3 H hs=>?_,n2 hs fun b3 H hs=>n1 hs fun b4 H hs=>?_⟩
  .refine bD.use (jn hs 2 rfl 2 rfl c1 (by decide)) ?_;simp only[HV];refine n2 hs fun b4 H hs=>?_
   refine bD.use (jn hs 3 rfl 5 rfl c2 (by decide)) ?_;simp only[HV];refine bD.use (jn hs 1 rfl 2 rfl c3 (by decide)) ?_;simp only[HV];exact done hs
  .refine bD.use (jn hs 3 rfl 2 rfl c1 (by decide)) ?_;simp only[HV];refine bD.use (jn hs 2 rfl 5 rfl c2 (by decide)) ?_;simp only[HV];refine bD.use (jn hs 1 rfl 2 rfl c3 (by decide)) ?_;simp only[HV];exact done hs
end Rec
namespace Gen
open Go
def kJ (xs:List Nat):List Value:=List.map (fun(x:Nat)=>Value.int .u64 (x:Int)) xs
theorem oT (xs:List Nat):(kJ xs).length=xs.length:=by simp[kJ]
theorem fi :Hw.ed prog 108=some (1,8,some #[.int .u64 0]):=by kernel_rfl
end Gen
end Go.Proofs.YtlgnlghmbcpmhaaGreatDoor
namespace Go.Hw
open Go
end Go.Hw
namespace Go.Proofs.YtlgnlghmbcpmhaaGreatDoor
open Tryz (prog)
namespace Rec
open Go Go.Hw Go.Form Go.Crc W
theorem G1 :ed prog 108=some (1,8,some #[U 0]):=by kernel_rfl
theorem kG :ed prog 5=some (1,1,some #[.int .u8 0]):=by kernel_rfl
def oU (l:List UInt64):List (Nat×Nat):=[(4294967295-(sum (form l)).toNat,32),((sum (form l)).toNat,0)]
theorem CF (A:OA)(n m:Nat)(l:List UInt64)(hn:n=l.length)(hm:n<=1000)(H:Hp)(hl:Cells H A (af l)):aa prog 225 #[.slice A n m] H (RetE (U ((dU 0 (oU l):Nat):Int)) H):=aa.ret (by
 apply mz.ok;unfold mz;have hs:=Sep.start H;refine aa.use (CrcP.rV A n m l hn (by omega) H hl) ?_;simp only[HV];have hx:kU .u32 u32.max ((sum (form l)).toNat:Int)=((4294967295-(sum (form l)).toNat:Nat):Int):=by
  rw[show u32.max=((BitVec.allOnes 32).toNat:Int)from rfl,sD,BitVec.allOnes_xor,BitVec.toNat_not]
 have hlt:=(sum (form l)).isLt;rw[hx,fC (n:=4294967295-(sum (form l)).toNat),fC (n:=(sum (form l)).toNat)];refine hs.nw fun b1 H1 hs=>?_
 have hs:Sep [own H,ah b1 (AS (oU l))] H1:=hs;refine aa.use (jn hs 1 rfl 2 rfl (fun p hp=>?_) (by decide)) ?_
 .simp only[oU,List.mem_cons,List.not_mem_nil,or_false]at hp;rcases hp with rfl|rfl<;>exact⟨by simp only[];omega,by simp only[];omega⟩
 simp only[HV];exact hs.fin 0 rfl _)
def R.w4 (r:R):List UInt64:=r.w3++[UInt64.ofNat (dU 0 (oU r.w3))]
theorem Kq (r:R)(hg:r.cR)(hu:r.u32)(size:Nat)(h32:32<=size)(h40:size<=4096)(hsz:(Lay.oA 0 size).2=0):
  Tr prog 241 #[.agg r.c,I (size:Int)] [] fun v M=>∃ b,v= .tuple #[.slice (Oo b) size size,I 0]/\
   M=[ah b (.row (setAt (cI [.int .u8 0] size) 0 (aC (form r.w4))) 5 (size*1))]:=fun H hs=>by
 apply jP.ok;unfold jP;refine hs.nw fun b1 H hs=>?_
 have hs:Sep [ah b1 (eX r)] H:=hs;refine hs.bJ 0 rfl rfl ?_;refine aa.use (fA r H) ?_;rw[decide_eq_true hg];simp only[HV];have hsec:aa prog 222 #[I (size:Int)] H (RetE (.bool true) H):=by
  apply gV.ok;unfold gV;refine aa.use (Lay.tQ 0 size H) ?_;rw[hsz];simp only[HV];exact RetE.mk _ _
 refine aa.use hsec ?_;simp only[HV];refine hs.bJ 0 rfl rfl ?_;refine(HT r hg hu).use hs [] rfl rfl ?_;rintro _ _ H ⟨b3,rfl,rfl⟩ hs;simp only[HV];refine hs.nX kG rfl (n:=size) (m:=size) rfl rfl (Nat.le_refl _) (by omega) (by omega) fun bo H hs=>?_
 simp only[HV];have hs:Sep [ah b3 (.row (af r.w3) 108 3),ah b1 (eX r),ah bo (.row (cI [.int .u8 0] size) 5 (size*1))] H:=hs;have hc:Cells H (Oo b3) (af r.w3):=by
  have:=Cells.row (hs.get 0 rfl) 0 3;exact this
 refine aa.use (CF (Oo b3) 3 3 r.w3 rfl (by omega) H hc) ?_;simp only[HV];have hs:=hs.jy 0 rfl (B:=cj 108 1 (Oo b3) 3 3 (af r.w3)) (fun H1 h=>⟨rfl,.inr ⟨b3,3,rfl,h,Nat.le_refl _⟩⟩);refine hs.Db 0 rfl G1 (by omega) rfl (by omega) (by omega) fun A' m' H hs=>?_
 simp only[HV];have hw:af r.w3++[U ((dU 0 (oU r.w3):Nat):Int)]=af r.w4:=by
  unfold R.w4 af;rw[List.map_append];show _=_++[Value.int .u64 ((UInt64.ofNat (dU 0 (oU r.w3))).toNat:Int)]
  rw[UInt64.toNat_ofNat_of_lt' (ku _ 0 (by decide))]
 rw[hw]at hs;have hc:Cells H A' (af r.w4):=by
  obtain⟨hl,h⟩:=hs.own 0 rfl;rcases h with⟨_,h0,_⟩|⟨b,mm,rfl,hb,_⟩
  .omega
  .have:=Cells.row hb 0 4;exact this
 refine aa.mono (FormP.oY A' 4 m' r.w4 rfl (by omega) H hc) ?_;rintro _ _ ⟨b',hb',rfl,rfl⟩;have hs:=hs.new hb' (.row (aC (form r.w4)) 5 (8*4));generalize H.set b' (.row (aC (form r.w4)) 5 (8*4))=H at*;simp only[HV];have hlen:(aC (form r.w4)).length=32:=by rw[bk,dI];rfl
 have hmin:Nat.min 32 size=32:=Nat.min_eq_left h32;refine hs.cp 2 (b:=bo) (off:=0) (n:=size) (k:=32) (xs:=cI [.int .u8 0] size) (e':=5) (m:=size*1) (ys:=aC (form r.w4)) rfl kG rfl ?_ ?_ (fun y hy=>?_) fun H hs=>?_
 .rw[hmin];have:=Cells.row (hs.get 3 rfl) 0 32;rw[List.drop_zero,List.take_of_length_le (by rw[hlen];exact Nat.le_refl _)]at this;exact tF this hlen.symm
 .rw[hlen,eR,List.length_replicate];omega
 .obtain⟨z,_,rfl⟩:=List.mem_map.1 hy;rfl
 simp only[HV];exact⟨_,⟨bo,rfl,rfl⟩,hs.re [2] rfl⟩
end Rec
namespace Lib2
open Go Go.Proofs Go.Shelf Go.RowKit
def F' :Go.Shelf.Ren:=⟨fun|160=>145|232=>203|231=>202|227=>204|234=>206|233=>205|236=>208|235=>207|228=>266|271=>269|151=>268|197=>267|120=>331|152=>330|260=>329|137=>354|119=>355|224=>356|225=>357|217=>364|266=>369|n=>n,fun|9=>9|4=>4|3=>3|5=>5|117=>306|116=>305|0=>0|124=>309|21=>21|105=>370|46=>213|119=>450|139=>453|138=>452|n=>n,fun|3=>4|4=>5|n=>n⟩
theorem LQ :Go.Proofs.Lays.n160 prog F' where
 mixed:=by kernel_rfl
 f119:=Tryz.func355.trans (congrArg some (by kernel_rfl))
 f120:=Tryz.func331.trans (congrArg some (by kernel_rfl))
 f137:=Tryz.func354.trans (congrArg some (by kernel_rfl))
 f151:=Tryz.func268.trans (congrArg some (by kernel_rfl))
 f152:=Tryz.func330.trans (congrArg some (by kernel_rfl))
 f160:=Tryz.func145.trans (congrArg some (by kernel_rfl))
 f197:=Tryz.func267.trans (congrArg some (by kernel_rfl))
 f217:=Tryz.func364.trans (congrArg some (by kernel_rfl))
 f224:=Tryz.func356.trans (congrArg some (by kernel_rfl))
 f225:=Tryz.func357.trans (congrArg some (by kernel_rfl))
 f227:=Tryz.func204.trans (congrArg some (by kernel_rfl))
 f228:=Tryz.func266.trans (congrArg some (by kernel_rfl))
 f231:=Tryz.func202.trans (congrArg some (by kernel_rfl))
 f232:=Tryz.func203.trans (congrArg some (by kernel_rfl))
 f233:=Tryz.func205.trans (congrArg some (by kernel_rfl))
 f234:=Tryz.func206.trans (congrArg some (by kernel_rfl))
 f235:=Tryz.func207.trans (congrArg some (by kernel_rfl))
 f236:=Tryz.func208.trans (congrArg some (by kernel_rfl))
 f260:=Tryz.func329.trans (congrArg some (by kernel_rfl))
 f266:=Tryz.func369.trans (congrArg some (by kernel_rfl))
 f271:=Tryz.func269.trans (congrArg some (by kernel_rfl))
 t0:=Tryz.underlying0
 a0:=Tryz.isAgg0
 z0:=Tryz.sizeOf0
 v0:=Tryz.zeroValue0
 t3:=Tryz.underlying3
 a3:=Tryz.isAgg3
 z3:=Tryz.sizeOf3
 v3:=Tryz.zeroValue3
 t4:=Tryz.underlying4
 a4:=Tryz.isAgg4
 z4:=Tryz.sizeOf4
 v4:=Tryz.zeroValue4
 t5:=Tryz.underlying5
 a5:=Tryz.isAgg5
 z5:=Tryz.sizeOf5
 v5:=Tryz.zeroValue5
 t9:=Tryz.underlying9
 a9:=Tryz.isAgg9
 z9:=Tryz.sizeOf9
 v9:=Tryz.zeroValue9
 t21:=Tryz.underlying21
 a21:=Tryz.isAgg21
 z21:=Tryz.sizeOf21
 v21:=Tryz.zeroValue21
 t46:=Tryz.underlying213
 a46:=Tryz.isAgg213
 z46:=Tryz.sizeOf213
 v46:=Tryz.zeroValue213
 t105:=Tryz.underlying370
 a105:=Tryz.isAgg370
 z105:=Tryz.sizeOf370
 v105:=Tryz.zeroValue370
 t116:=Tryz.underlying305
 a116:=Tryz.isAgg305
 z116:=Tryz.sizeOf305
 t117:=Tryz.underlying306
 a117:=Tryz.isAgg306
 z117:=Tryz.sizeOf306
 v117:=Tryz.zeroValue306
 t119:=Tryz.underlying450
 a119:=Tryz.isAgg450
 z119:=Tryz.sizeOf450
 t124:=Tryz.underlying309
 a124:=Tryz.isAgg309
 z124:=Tryz.sizeOf309
 v124:=Tryz.zeroValue309
 t138:=Tryz.underlying452
 a138:=Tryz.isAgg452
 z138:=Tryz.sizeOf452
 v138:=Tryz.zeroValue452
 t139:=Tryz.underlying453
 a139:=Tryz.isAgg453
 z139:=Tryz.sizeOf453
 v139:=Tryz.zeroValue453
 g3:=by kernel_rfl
 g4:=by kernel_rfl
end Lib2
end Go.Proofs.YtlgnlghmbcpmhaaGreatDoor
namespace Go.Hw
open Go Go.Proofs Go.Proofs.YtlgnlghmbcpmhaaGreatDoor.Lib2 Go.RowKit Go.Shelf
theorem Jd (s:ByteArray)(c:UInt8)(hc:c.toNat<128)(hs:s.size<=9223372036854775807)(H:Hp):
  aa Tryz.prog 145 #[.string s,.string ⟨#[c]⟩] H (RetE (.string ⟨(Lib.trimB s.data.toList c).toArray⟩) H):=fun w hw=>by
 refine(Any.strings_Trim_one LQ s c hc w hs).mono ?_;rintro e w' ⟨rfl,h⟩;refine⟨_,H,rfl,⟨rfl,rfl⟩,?_⟩;rcases h with rfl|rfl
 .exact At.refl hw
 .exact⟨hw,Nat.le_refl _,rfl,rfl,rfl,fun _ _ h=>⟨h,rfl⟩⟩
theorem ER (p:UInt8->Bool):∀ l:List UInt8,l.dropWhile p=[]↔∀ x∈l,p x=true
 | []=>by simp
 |z::l=>by
  rw[List.dropWhile_cons];by_cases hz:p z=true
  .rw[if_pos hz,ER p l];constructor
   .intro h x hx;rcases List.mem_cons.1 hx with rfl|hx
    .exact hz
    .exact h x hx
   .intro h x hx;exact h x (List.mem_cons_of_mem _ hx)
  .rw[if_neg hz];constructor
   .intro h;cases h
   .intro h;exact absurd (h z (by simp)) hz
theorem EP (p:UInt8->Bool):∀ l:List UInt8,(∀ x∈l.dropWhile p,p x=true)->∀ x∈l,p x=true
 | [],_=>by simp
 |z::l,h=>by
  rw[List.dropWhile_cons]at h;by_cases hz:p z=true
  .rw[if_pos hz]at h;intro x hx;rcases List.mem_cons.1 hx with rfl|hx
   .exact hz
   .exact EP p l h x hx
  .rw[if_neg hz]at h;exact absurd (h z (by simp)) hz
theorem yQ (l:List UInt8)(c:UInt8):Lib.trimB l c=[]↔∀ x∈l,x=c:=by
 unfold Lib.trimB Lib.trimLeftB Lib.trimRightB;rw[ER];constructor
 .intro h x hx;have:=EP (· ==c) l.reverse (fun y hy=>h y (by simpa using hy)) x (by simpa using hx);simpa using this
 .intro h x hx;have:=(List.dropWhile_sublist (· ==c)).subset (List.mem_reverse.1 hx);simpa using h x (List.mem_reverse.1 this)
end Go.Hw
namespace Go.Proofs.YtlgnlghmbcpmhaaGreatDoor
open Tryz (prog)
namespace Rec
open Go Go.Hw Go.Form Go.Crc W
def qS (a b c:Nat):R:=⟨a%281474976710656,((b%256:Nat):Int),((b/65536%256:Nat):Int),((b/256%256:Nat):Int),((b/16777216%256:Nat):Int),b/4294967296,c/4294967296,c%4294967296⟩
theorem KW {x:Nat}(hx:x<2^64):cD .u64 (x:Int) 281474976710655=((x%281474976710656:Nat):Int):=by
 rw[show(281474976710655:Int)=((281474976710655:Nat):Int)from rfl,xg hx,show 281474976710655=2^48-1 from rfl,Nat.and_two_pow_sub_one_eq_mod]
theorem zq {x:Nat}(hx:x<2^64:=by omega):cD .u64 (x:Int) 255=((x%256:Nat):Int):=by
 rw[show(255:Int)=((255:Nat):Int)from rfl,xg hx,show 255=2^8-1 from rfl,Nat.and_two_pow_sub_one_eq_mod]
theorem Mb (x:Nat):u32.wrap (x:Int)=((x%4294967296:Nat):Int):=by
 simp only[IntKind.wrap,IntKind.bits,IntKind.signed,Bool.false_and,Bool.false_eq_true,if_false];omega
theorem zs (A:OA)(n m a b c:Nat)(ws:List Nat)(hn:n=(a::b::c::ws).length)(ha:a<2^64)(hb:b<2^64)(hc:c<2^64)(H:Hp)(hl:Cells H A (Gen.kJ (a::b::c::ws))):
  aa prog 224 #[.slice A n m] H (RetE (.agg (qS a b c).c) H):=aa.ret (by
 apply oK.ok;unfold oK;have hlen:(Gen.kJ (a::b::c::ws)).length<=n:=by rw[Gen.oT,hn];exact Nat.le_refl _
 refine(Sep.start H).nw fun b1 H1 hs=>?_
 have hl1:=hl.le (hs.ow 0 rfl);have r0:(Gen.kJ (a::b::c::ws))[0]? =some (U (a:Int)):=rfl;have r1:(Gen.kJ (a::b::c::ws))[1]? =some (U (b:Int)):=rfl;have r2:(Gen.kJ (a::b::c::ws))[2]? =some (U (c:Int)):=rfl;refine hl1.read r0 rfl hlen ?_;simp only[HV];refine hl1.read r1 rfl hlen ?_;simp only[HV];refine hl1.read r1 rfl hlen ?_;simp only[HV];refine⟨by decide,?_⟩;refine hl1.read r1 rfl hlen ?_;simp only[HV];refine⟨by decide,?_⟩;refine hl1.read r1 rfl hlen ?_;simp only[HV];refine⟨by decide,?_⟩;refine hl1.read r1 rfl hlen ?_;simp only[HV];refine⟨by decide,?_⟩;refine hl1.read r2 rfl hlen ?_;simp only[HV];refine⟨by decide,?_⟩;refine hl1.read r2 rfl hlen ?_;simp only[HV];have s8:cB .u64 (b:Int) 8=((b/256:Nat):Int):=qq (k:=.u64) (a:=b) (i:=8) (n:=8) rfl (by decide);have s16:cB .u64 (b:Int) 16=((b/65536:Nat):Int):=qq (k:=.u64) (a:=b) (i:=16) (n:=16) rfl (by decide);have s24:cB .u64 (b:Int) 24=((b/16777216:Nat):Int):=qq (k:=.u64) (a:=b) (i:=24) (n:=24) rfl (by decide);have s32:cB .u64 (b:Int) 32=((b/4294967296:Nat):Int):=qq (k:=.u64) (a:=b) (i:=32) (n:=32) rfl (by decide);have t32:cB .u64 (c:Int) 32=((c/4294967296:Nat):Int):=qq (k:=.u64) (a:=c) (i:=32) (n:=32) rfl (by decide);rw[s8,s16,s24,s32,t32,KW ha,zq hb,zq (x:=b/65536),zq (x:=b/256),zq (x:=b/16777216),dS (n:=b%256),dS (n:=b/65536%256),dS (n:=b/256%256),dS (n:=b/16777216%256),
  Bw (n:=b/4294967296),Bw (n:=c/4294967296),Mb c]
 refine hs.eY 1 rfl rfl rfl rfl fun H1 hs=>?_
 refine hs.bJ 1 rfl rfl ?_;exact hs.fin 0 rfl _)
def tK (bs:List UInt8)(n:Nat):List Nat:=(List.range n).map fun i=>aJ bs (8*i)
theorem HZ (bs:List UInt8)(n:Nat):tK bs (n+1)=tK bs n++[aJ bs (8*n)]:=by
 unfold tK;rw[List.range_succ,List.map_append];rfl
def nK (bs:List UInt8):Bool:=decide (∀ x∈bs.drop 32,x=0)
theorem z7 (K:VK){A:OA}{n m:Nat}{bs:List UInt8}{R:As}(hR:∀ H,R H->Cells H A (aC bs))(hn:n=bs.length)(hnm:n<=m)(h32:32<=n)(hbig:n<=1000000)
  (hK:∀ A' m' H,4<=m'->Sep [R,cj 108 1 A' 4 m' (Gen.kJ (tK bs 4))] H->K (.tuple #[.slice A' 4 m',.bool (nK bs)]) H):
  ∀(t i:Nat) (A':OA) (m':Nat) (H:Hp),i+t=4->i<=m'->Sep [R,cj 108 1 A' i m' (Gen.kJ (tK bs i))] H->dj.l2 K (t+1) A n m A' i m' (i:Int) H
 |0,i,A',m',H,hi,hm',hs=>by
  obtain rfl:i=4:=by omega
  have hc:Cells H A (aC bs):=by
   obtain⟨H1,h1,hle⟩:=hs.fU 0 rfl;exact(hR H1 h1).le hle
  unfold dj.l2;refine au (by decide) ?_;refine qt (l:=32) rfl h32 ?_;have h1:Cells H (iG A m 32 1) (aC (bs.drop 32)):=by
   have:=hc.shift (m:=m) (l:=32) (by rw[bk];omega);rw[show(aC bs).drop 32=aC (bs.drop 32) by unfold aC;rw[List.map_drop]]at this;exact this
  refine Ei h1 (by rw[List.length_drop];omega) ?_;refine aa.use (Jd ⟨(bs.drop 32).toArray⟩ 0 (by decide) (by show(bs.drop 32).toArray.size<=_;simp;omega) H) ?_;simp only[HV];have he:((⟨(Go.Lib.trimB (bs.drop 32) 0).toArray⟩:ByteArray).toList==(⟨#[]⟩:ByteArray).toList)=nK bs:=by
   rw[ByteArray.toList_mk,show(⟨#[]⟩:ByteArray).toList=[]from ByteArray.toList_mk []];unfold nK;by_cases h:Go.Lib.trimB (bs.drop 32) 0=[]
   .rw[h,decide_eq_true ((yQ _ _).1 h)];rfl
   .rw[decide_eq_false (fun g=>h ((yQ _ _).2 g)),beq_eq_false_iff_ne.2 h]
  rw[he];exact hK A' m' H hm' hs
 |t+1,i,A',m',H,hi,hm',hs=>by
  have hc:Cells H A (aC bs):=by
   obtain⟨H1,h1,hle⟩:=hs.fU 0 rfl;exact(hR H1 h1).le hle
  unfold dj.l2;refine aA (by omega) ?_;refine aa.use (FormP.xd A n m hnm (by omega) bs hn i (by omega) H hc) ?_;simp only[HV];refine Ey ?_;refine hs.Db 1 rfl Gen.fi (by omega) rfl (by omega) (by omega) fun A2 m2 H hs hcap=>?_
  simp only[HV];rw[bg (x:=(i:Int)+1),show(i:Int)+1=((i+1:Nat):Int) by omega];refine z7 K hR hn hnm h32 hbig hK t (i+1) A2 m2 H (by omega) (hcap _ _ _ rfl) ?_;rw[HZ,show Gen.kJ (tK bs i++[aJ bs (8*i)])=Gen.kJ (tK bs i)++[.int .u64 ((aJ bs (8*i):Nat):Int)] by unfold Gen.kJ;rw[List.map_append];rfl];exact hs
theorem KB {A:OA}{n m:Nat}{bs:List UInt8}{R:As}(hR:∀ H,R H->Cells H A (aC bs))(hn:n=bs.length)(hnm:n<=m)(h32:32<=n)(hbig:n<=1000000):
  Tr prog 223 #[.slice A n m] [R] fun v M=>∃ A' m',4<=m'/\v= .tuple #[.slice A' 4 m',.bool (nK bs)]/\M=[R,cj 108 1 A' 4 m' (Gen.kJ (tK bs 4))]:=fun H hs=>by
 apply dj.ok;unfold dj;have e0:Sep [R,cj 108 1 none 0 0 (Gen.kJ (tK bs 0))] H:=by
  have:Sep (cj 108 1 none 0 0 []::[R]) H:=⟨fun _=>none,H,fun _ _ h=>(nomatch h),Hp.le_refl _,fun _=>.inl rfl,cj.none _ _ _,hs⟩;exact this.re [1,0] rfl
 refine⟨5,?_⟩;refine z7 _ hR hn hnm h32 hbig (fun A' m' H hm' hs=>?_) 4 0 none 0 H rfl (Nat.le_refl _) e0;exact⟨_,⟨A',m',hm',rfl,rfl⟩,hs⟩
def jZ (n:Int):Bool:=decide ((Lay.oA 0 n).2=0)
theorem qU (x:Int)(H:Hp):aa prog 222 #[I x] H (RetE (.bool (jZ x)) H):=by
 apply gV.ok;unfold gV;refine aa.use (Lay.tQ 0 x H) ?_;simp only[HV];refine⟨?_,rfl⟩;unfold jZ;by_cases h:(Lay.oA 0 x).2=0
 .rw[decide_eq_true h,h];rfl
 .rw[decide_eq_false h,beq_eq_false_iff_ne.2 h]
def dW :R:=⟨0,0,0,0,0,0,0,0⟩
def By (bs:List UInt8):List UInt64:=[UInt64.ofNat (aJ bs 0),UInt64.ofNat (aJ bs 8),UInt64.ofNat (aJ bs 16)]
def dD (bs:List UInt8):R×Int:=
 if jZ (bs.length:Int)=true then
  if aJ bs 0/281474976710656=21061/\nK bs=true then
   if aJ bs 24=dU 0 (oU (By bs))then
    if(qS (aJ bs 0) (aJ bs 8) (aJ bs 16)).cR then(qS (aJ bs 0) (aJ bs 8) (aJ bs 16),0)else(dW,1)
   else(dW,9)
  else(dW,10)
 else(dW,15)
theorem ia (bs:List UInt8)(o:Nat):aJ bs o<2^64:=Cg (by simp;omega)
set_option maxHeartbeats 1000000 in
theorem rq (A:OA)(n m:Nat)(bs:List UInt8)(hn:n=bs.length)(hnm:n<=m)(hbig:n<=1000000)(h32:jZ (n:Int)=true->32<=n)(H:Hp)(hc:Cells H A (aC bs)):
  aa prog 157 #[.slice A n m] H (RetE (.tuple #[.agg (dD bs).1.c,I (dD bs).2]) H):=aa.ret (by
 apply gq.ok;unfold gq gq.q1 dD;rw[<- hn];refine(Sep.start H).nw fun b1 H1 hs=>?_
 have hs:Sep [own H,ah b1 (eX dW)] H1:=hs;refine aa.use (qU n H1) ?_;simp only[HV];by_cases hsec:jZ (n:Int)=true
 case neg=>
  rw[if_neg hsec,show jZ (n:Int)=false by simpa using hsec];refine cO rfl ?_;refine hs.eY 1 rfl rfl rfl rfl fun H1 hs=>?_
  refine hs.bJ 1 rfl rfl ?_;exact hs.fin 0 rfl _
 rw[if_pos hsec,hsec];refine bY rfl ?_;refine(KB (R:=own H) (fun H' h=>hc.le h) hn hnm (h32 hsec) hbig).use hs [0] rfl rfl ?_;rintro _ _ H1 ⟨A',m',hm',rfl,rfl⟩ hs;simp only[HV];have hA:Cells H1 A' (Gen.kJ (tK bs 4)):=by
  obtain⟨hl,h⟩:=hs.own 1 rfl;rcases h with⟨_,h0,_⟩|⟨b,mm,rfl,hb,_⟩
  .omega
  .have:=Cells.row hb 0 4;exact this
 have hw:tK bs 4=[aJ bs 0,aJ bs 8,aJ bs 16,aJ bs 24]:=rfl;rw[hw]at hA hs;refine aa.use (zs A' 4 m' (aJ bs 0) (aJ bs 8) (aJ bs 16) [aJ bs 24] rfl (ia _ _) (ia _ _) (ia _ _) H1 hA) ?_;simp only[HV];refine hs.nw fun b2 H1 hs=>?_
 refine hs.eY 3 rfl rfl rfl rfl fun H1 hs=>?_
 have hs:Sep [own H,cj 108 1 A' 4 m' (Gen.kJ [aJ bs 0,aJ bs 8,aJ bs 16,aJ bs 24]),ah b1 (eX dW),ah b2 (eX (qS (aJ bs 0) (aJ bs 8) (aJ bs 16)))] H1:=hs;have hA:Cells H1 A' (Gen.kJ [aJ bs 0,aJ bs 8,aJ bs 16,aJ bs 24]):=by
  obtain⟨hl,h⟩:=hs.own 1 rfl;rcases h with⟨_,h0,_⟩|⟨b,mm,rfl,hb,_⟩
  .omega
  .have:=Cells.row hb 0 4;exact this
 refine hA.read (i:=0) rfl rfl (by rw[Gen.oT];exact Nat.le_refl _) ?_;simp only[HV];refine⟨by decide,?_⟩;have s48:cB .u64 ((aJ bs 0:Nat):Int) 48=((aJ bs 0/281474976710656:Nat):Int):=qq (k:=.u64) (a:=aJ bs 0) (i:=48) (n:=48) rfl (by decide);rw[s48];by_cases hmg:aJ bs 0/281474976710656=21061
 case neg=>
  rw[if_neg (fun h=>hmg h.1)];refine aU (by omega) ?_;refine hs.eY 2 rfl rfl rfl rfl fun H1 hs=>?_
  refine hs.bJ 2 rfl rfl ?_;exact hs.fin 0 rfl _
 refine aF (by omega) ?_;by_cases hno:nK bs=true
 case neg=>
  rw[if_neg (fun h=>hno h.2),show nK bs=false by simpa using hno];refine cO rfl ?_;refine hs.eY 2 rfl rfl rfl rfl fun H1 hs=>?_
  refine hs.bJ 2 rfl rfl ?_;exact hs.fin 0 rfl _
 rw[if_pos ⟨hmg,hno⟩,hno];refine bY rfl ?_;refine hA.read (i:=3) rfl rfl (by rw[Gen.oT];exact Nat.le_refl _) ?_;simp only[HV];refine wH (r:=3) rfl (by omega) ?_;have hU:Cells H1 (iG A' m' 0 1) (af (By bs)):=by
  have:=(hA.shift (m:=m') (l:=0) (by rw[Gen.oT];exact hm')).take 3;have e:af (By bs)=((Gen.kJ [aJ bs 0,aJ bs 8,aJ bs 16,aJ bs 24]).drop 0).take 3:=by
   show [Value.int .u64 ((UInt64.ofNat (aJ bs 0)).toNat:Int),Value.int .u64 ((UInt64.ofNat (aJ bs 8)).toNat:Int),Value.int .u64 ((UInt64.ofNat (aJ bs 16)).toNat:Int)]=_
   rw[UInt64.toNat_ofNat_of_lt' (ia bs 0),UInt64.toNat_ofNat_of_lt' (ia bs 8),UInt64.toNat_ofNat_of_lt' (ia bs 16)];rfl
  rw[e];exact this
 refine bD.use (CF (iG A' m' 0 1) 3 (m'-0) (By bs) rfl (by omega) H1 hU) ?_;simp only[HV];by_cases hsl:aJ bs 24=dU 0 (oU (By bs))
 case neg=>
  rw[if_neg hsl];refine aU (by omega) ?_;refine hs.eY 2 rfl rfl rfl rfl fun H1 hs=>?_
  refine hs.bJ 2 rfl rfl ?_;exact hs.fin 0 rfl _
 rw[if_pos hsl];refine aF (by omega) ?_;refine hs.bJ 3 rfl rfl ?_;refine aa.use (fA (qS (aJ bs 0) (aJ bs 8) (aJ bs 16)) H1) ?_;simp only[HV];by_cases hg:(qS (aJ bs 0) (aJ bs 8) (aJ bs 16)).cR
 .rw[if_pos hg,decide_eq_true hg];refine bY rfl ?_;refine hs.bJ 3 rfl rfl ?_;refine hs.eY 2 rfl rfl rfl rfl fun H1 hs=>?_
  refine hs.bJ 2 rfl rfl ?_;exact hs.fin 0 rfl _
 .rw[if_neg hg,decide_eq_false hg];refine cO rfl ?_;refine hs.eY 2 rfl rfl rfl rfl fun H1 hs=>?_
  refine hs.bJ 2 rfl rfl ?_;exact hs.fin 0 rfl _)
end Rec
namespace W
open Go Go.Hw
theorem gr :prog.follows .mixedOrders=true:=by kernel_rfl
def jQ (p1:OA)(H:Hp)(K:VK):Prop:=
 Nw H (Oa #[I 0,I 0,I 0,I 0] 45) fun b1 H1=>Hz 46 #[.pointer p1,I 0] H1 fun v1 H2=>kc v1 fun A1 n1 m1 x1=>(aq (x1 !=0) (cK H2 (O b1) #[I 0,I 0,I 0,I 0] 4 fun H3=>aY H3 (O b1) 4 fun l9=>K (.tuple #[.agg l9.toArray,I x1]) H3) (Hz 139 #[.slice A1 n1 m1] H2 fun v4 H4=>nZ v4 fun y1 x2=>(Nw H4 (Oa #[I 0,I 0,I 0,I 0] 45) fun b2 H5=>cK H5 (O b2) y1 4 fun H6=>aq (x2 !=0) (cK H6 (O b1) #[I 0,I 0,I 0,I 0] 4 fun H7=>aY H7 (O b1) 4 fun l10=>K (.tuple #[.agg l10.toArray,I x2]) H7) (aY H6 (O b2) 4 fun l7=>fP 140 #[.pointer p1,.agg l7.toArray] H6 fun c1 H8=>aq (!c1) (cK H8 (O b1) #[I 0,I 0,I 0,I 0] 4 fun H9=>aY H9 (O b1) 4 fun l11=>K (.tuple #[.agg l11.toArray,I 1]) H9) (aY H8 (O b2) 4 fun l8=>cK H8 (O b1) l8.toArray 4 fun H10=>aY H10 (O b1) 4 fun l12=>K (.tuple #[.agg l12.toArray,I 0]) H10)))))
theorem jQ.ok p1 H K (h:jQ p1 H K):aa prog 79 #[.pointer p1] H K:=
 bX gr Tryz.func79 rfl rfl h
def mB (p1:OA)(x1 x2 x3 x4:Int)(H:Hp)(K:VK):Prop:=
 Nw H (Oa #[I x1,I x2,I x3,I x4] 45) fun b1 H1=>aY H1 (O b1) 4 fun l1=>Hz 184 #[.agg l1.toArray] H1 fun v1 H2=>kc v1 fun A1 n1 m1 x5=>(aq (x5 !=0) (K (I 1) H2) (aY H2 (O b1) 4 fun l5=>fP 140 #[.pointer p1,.agg l5.toArray] H2 fun c1 H3=>aq (!c1) (K (I 1) H3) (cC 47 #[.pointer p1,I 0,.slice A1 n1 m1] H3 fun x6 H4=>aq (x6 !=0) (K (I x6) H4) (cC 127 #[.pointer p1] H4 fun x7 H5=>K (I x7) H5))))
theorem mB.ok p1 x1 x2 x3 x4 H K (h:mB p1 x1 x2 x3 x4 H K):aa prog 130 #[.pointer p1,.agg #[I x1,I x2,I x3,I x4]] H K:=
 bX gr Tryz.func130 rfl rfl h
def cr.l5.q1 (H9:Hp)(a1:Addr)(K:VK):Prop:=
 cK H9 a1 #[I 0,I 0,I 0,I 0] 4 fun H13=>aY H13 a1 4 fun l11=>K (.tuple #[.agg l11.toArray,I 1]) H13
def cr.l5 (K:VK):Nat->OA->Nat->Nat->Addr->Addr->Int->Hp->Prop
 |0,_,_,_,_,_,_,_=>False
 |k+1,A2,n2,m2,a1,a2,x1,H=>
  let R5:=cr.l5 K k
  aq (decide (x1<4)) (Hz 192 #[.slice A2 n2 m2,I x1] H fun v2 H5=>kS v2 fun x2 x3=>(cz x1 4 (St H5 ((a2.add (x1.toNat*1)).add 0) (U x2) fun H6=>R5 A2 n2 m2 a1 a2 (i64.wrap (x1+1)) H6))) (cz 0 4 (df H (a2.add ((0:Int).toNat*1)) fun x4=>(0<=(16:Int)/\cz 0 4 (df H (a2.add ((0:Int).toNat*1)) fun x5=>(0<=(cD .u64 x5 63)/\cz 1 4 (df H (a2.add ((1:Int).toNat*1)) fun x6=>cz 2 4 (df H (a2.add ((2:Int).toNat*1)) fun x7=>Nw H (Oa #[I 0,I 0,I 0,I 0] 45) fun b3 H7=>cK H7 (O b3) #[I (i64.wrap (cD .u64 (cB .u64 x4 16) 65535)),I (i64.wrap x6),I (cT .i64 1 (cD .u64 x5 63)),I (i64.wrap x7)] 4 fun H8=>cz 0 4 (df H8 (a2.add ((0:Int).toNat*1)) fun x8=>(0<=(32:Int)/\aq ((cB .u64 x8 32) !=1094861123) (cK H8 a1 #[I 0,I 0,I 0,I 0] 4 fun H10=>aY H10 a1 4 fun l8=>K (.tuple #[.agg l8.toArray,I 10]) H10) (fP 193 #[.slice A2 n2 m2] H8 fun c2 H9=>aq (!c2) (cK H9 a1 #[I 0,I 0,I 0,I 0] 4 fun H11=>aY H11 a1 4 fun l9=>K (.tuple #[.agg l9.toArray,I 10]) H11) (cz 3 4 (df H9 (a2.add ((3:Int).toNat*1)) fun x9=>lO 4 4 none (some 3) fun n3 n4=>Mi 149 #[.slice (iG (some a2) 4 n3 1) (n4-n3) (4-n3)] H9 fun x10=>aq (x9 !=(u64.wrap x10)) (cK H9 a1 #[I 0,I 0,I 0,I 0] 4 fun H12=>aY H12 a1 4 fun l10=>K (.tuple #[.agg l10.toArray,I 9]) H12) (aY H9 (O b3) 4 fun l4=>Ip 194 #[.agg l4.toArray] H9 fun c3=>aq (!c3) (cr.l5.q1 H9 a1 K) (aY H9 (O b3) 4 fun l5=>pf 195 #[.agg l5.toArray] H9 fun x11=>cz 0 4 (df H9 (a2.add ((0:Int).toNat*1)) fun x12=>aq (x11 !=x12) (cr.l5.q1 H9 a1 K) (aM H9 ((O b3).add 2) fun x13=>aq (x13 !=(n2:Int)) (cr.l5.q1 H9 a1 K) (aY H9 (O b3) 4 fun l6=>cK H9 a1 l6.toArray 4 fun H16=>aY H16 a1 4 fun l14=>K (.tuple #[.agg l14.toArray,I 0]) H16)))))))))))))))))
def cr (A1:OA)(n1 m1:Nat)(H:Hp)(K:VK):Prop:=
 Nw H (Oa #[I 0,I 0,I 0,I 0] 45) fun b1 H1=>fP 191 #[.slice A1 n1 m1] H1 fun c1 H2=>aq (!c1) (cK H2 (O b1) #[I 0,I 0,I 0,I 0] 4 fun H3=>aY H3 (O b1) 4 fun l7=>K (.tuple #[.agg l7.toArray,I 15]) H3) (Nw H2 (Oa #[U 0,U 0,U 0,U 0] 295) fun b2 H4=>(∃ k,cr.l5 K k A1 n1 m1 (O b1) (O b2) 0 H4))
def cr.l5.L (K:VK)(k:Nat):de:=fun E D H=>
 DG (E.get? 0) fun w0=>aE w0 fun A2 n2 m2=>eN E 2 fun a1=>eN E 4 fun a2=>eI E 13 .i64 fun x1=>ax D (cr.l5 K k A2 n2 m2 a1 a2 x1 H)
def cr.Λ5 (_:VK)(_R5:OA->Nat->Nat->Addr->Addr->Int->Hp->Prop):aI:=aI.none (fun _=>none)
def cr.Λ (K:VK):aI:=⟨fun i=>none,fun i=>match Nat.beq i 5 with|true=>some (fun E D H=>∃ k,cr.l5.L K k E D H)|false=>none,(fun _=>none)⟩
theorem cr.ok A1 n1 m1 H K (h:cr A1 n1 m1 H K):aa prog 139 #[.slice A1 n1 m1] H K:=
 dV (Λ:=(cr.Λ K)) gr Tryz.func139 rfl rfl h (oC (fun E D H h=>by
   refine Safe.cJ (cr.l5.L K) (fun E D H h=>?_) (fun k E D H h=>?_) E D H h
   .obtain⟨w0,e0,g1⟩:=DG.out h;obtain⟨A2,n2,m2,rfl,g2⟩:=aE.out g1;obtain⟨w2,e2,g3⟩:=DG.out g2;obtain⟨pw2,rfl,g4⟩:=DP.out g3;obtain⟨a1,rfl,g5⟩:=NN.out g4;obtain⟨w4,e4,g6⟩:=DG.out g5;obtain⟨pw4,rfl,g7⟩:=DP.out g6;obtain⟨a2,rfl,g8⟩:=NN.out g7;obtain⟨w13,e13,g9⟩:=DG.out g8;obtain⟨x1,rfl,g10⟩:=DI.out g9;obtain⟨rfl,h'⟩:=ax.out g10;exact h'
   .obtain⟨w0,e0,g1⟩:=DG.out h;obtain⟨A2,n2,m2,rfl,g2⟩:=aE.out g1;obtain⟨a1,e2,g5⟩:=GN g2;obtain⟨a2,e4,g8⟩:=GN g5;obtain⟨x1,e13,g10⟩:=GI g8;obtain⟨rfl,h'⟩:=ax.out g10;exact cU (Λ:=(cr.Λ5 K (cr.l5 K k))) gr [] (ag.cons e0 (ag.cons e2 (ag.cons e4 (ag.cons e13 (ag.nil _))))) h' oN) oN)
def pB (p1:OA)(x1 x2 x3 x4:Int)(H:Hp)(K:VK):Prop:=
 Nw H (Oa #[I x1,I x2,I x3,I x4] 45) fun b1 H1=>aM H1 ((O b1).add 1) fun x5=>NN p1 fun a1=>eG 123 #[.pointer (some (a1.add 0))] H1 fun x6=>aq (x5==x6) (aM H1 ((O b1).add 2) fun x7=>NN p1 fun a2=>eG 124 #[.pointer (some (a2.add 0))] H1 fun x8=>K (.bool (x7==x8)) H1) (K (.bool false) H1)
theorem pB.ok p1 x1 x2 x3 x4 H K (h:pB p1 x1 x2 x3 x4 H K):aa prog 140 #[.pointer p1,.agg #[I x1,I x2,I x3,I x4]] H K:=
 bX gr Tryz.func140 rfl rfl h
def lr (x1 x2 x3 x4:Int)(H:Hp)(K:VK):Prop:=
 Nw H (Oa #[I x1,I x2,I x3,I x4] 45) fun b1 H1=>Nw H1 (Oa #[I 0,I 0,I 0,I 0,I 0,I 0,I 0,I 0,I 0,I 0,I 0,I 0,I 0,I 0,I 0,I 0,I 0] 153) fun b2 H2=>aY H2 (O b1) 4 fun l1=>fP 194 #[.agg l1.toArray] H2 fun c1 H3=>aq (!c1) (cK H3 (O b2) #[I 0,I 0,I 0,I 0,I 0,I 0,I 0,I 0,I 0,I 0,I 0,I 0,I 0,I 0,I 0,I 0,I 0] 17 fun H4=>aY H4 (O b2) 17 fun l5=>K (.tuple #[.agg l5.toArray,I 1]) H4) (aM H3 ((O b1).add 0) fun x5=>aM H3 ((O b1).add 1) fun x6=>aM H3 ((O b1).add 2) fun x7=>Hz 181 #[I x5,I x6,I x7] H3 fun v5 H5=>nZ v5 fun y1 x8=>(cK H5 (O b2) y1 17 fun H6=>aY H6 (O b2) 17 fun l6=>K (.tuple #[.agg l6.toArray,I x8]) H6))
theorem lr.ok x1 x2 x3 x4 H K (h:lr x1 x2 x3 x4 H K):aa prog 141 #[.agg #[I x1,I x2,I x3,I x4]] H K:=
 bX gr Tryz.func141 rfl rfl h
def kE (x1 x2 x3 x4:Int)(H:Hp)(K:VK):Prop:=
 Nw H (Oa #[I x1,I x2,I x3,I x4] 45) fun b1 H1=>aY H1 (O b1) 4 fun l1=>fP 194 #[.agg l1.toArray] H1 fun c1 H2=>aq (!c1) (K (.tuple #[.slice none 0 0,I 1]) H2) (aY H2 (O b1) 4 fun l2=>pf 195 #[.agg l2.toArray] H2 fun x5=>aM H2 ((O b1).add 1) fun x6=>aM H2 ((O b1).add 3) fun x7=>Nw H2 (.row [U x5,U (u64.wrap x6),U (u64.wrap x7)] 108 3) fun b2 H3=>aM H3 ((O b1).add 2) fun x8=>jA prog 5 x8 x8 H3 fun v6 H4=>aE v6 fun A1 n1 m1=>xO 149 #[.slice (Oo b2) 3 3] H4 fun x9 H5=>Nw H5 (.row [U (u64.wrap x9)] 108 1) fun b3 H6=>jq prog 108 (.slice (Oo b2) 3 3) (.slice (Oo b3) 1 1) H6 fun v8 H7=>aE v8 fun A2 n2 m2=>lM 214 #[.slice A2 n2 m2] H7 fun A3 n3 m3 H8=>qC prog 5 (.slice A1 n1 m1) (.slice A3 n3 m3) H8 fun v10 H9=>DI .i64 v10 fun x10=>K (.tuple #[.slice A1 n1 m1,I 0]) H9)
theorem kE.ok x1 x2 x3 x4 H K (h:kE x1 x2 x3 x4 H K):aa prog 184 #[.agg #[I x1,I x2,I x3,I x4]] H K:=
 nL (fun i=>match Nat.beq i 3 with|true=>some ([],[0,1,2,3,4,5,6,7],8)|false=>none) gr Tryz.func184 rfl rfl h
def lu (A1:OA)(n1 m1:Nat)(H:Hp)(K:VK):Prop:=
 Hz 251 #[I 0,I (n1:Int)] H fun v1 H1=>pa v1 fun x1 x2=>(K (.bool (x2==0)) H1)
theorem lu.ok A1 n1 m1 H K (h:lu A1 n1 m1 H K):aa prog 191 #[.slice A1 n1 m1] H K:=
 bX gr Tryz.func191 rfl rfl h
def cQ.l2 (K:VK):Nat->OA->Nat->Nat->Int->Int->Hp->Prop
 |0,_,_,_,_,_,_=>False
 |k+1,A2,n4,m2,x1,x2,H=>
  let R2:=cQ.l2 K k
  aq (decide (x2<x1)) (cz x2 n4 (NN A2 fun a1=>Io H (a1.add (x2.toNat*1)) fun x3=>aq (x3 !=0) (K (.bool false) H) (R2 A2 n4 m2 x1 (i64.wrap (x2+1)) H))) (K (.bool true) H)
def cQ (A1:OA)(n1 m1:Nat)(H:Hp)(K:VK):Prop:=
 lO n1 m1 (some 32) none fun n2 n3=>(∃ k,cQ.l2 K k (iG A1 m1 n2 1) (n3-n2) (m1-n2) ((n3-n2:Nat):Int) 0 H)
def cQ.l2.L (K:VK)(k:Nat):de:=fun E D H=>
 DG (E.get? 6) fun w6=>aE w6 fun A2 n4 m2=>eI E 7 .i64 fun x1=>eI E 8 .i64 fun x2=>ax D (cQ.l2 K k A2 n4 m2 x1 x2 H)
def cQ.Λ2 (_:VK)(_R2:OA->Nat->Nat->Int->Int->Hp->Prop):aI:=aI.none (fun _=>none)
def cQ.Λ (K:VK):aI:=⟨fun i=>none,fun i=>match Nat.beq i 2 with|true=>some (fun E D H=>∃ k,cQ.l2.L K k E D H)|false=>none,(fun _=>none)⟩
theorem cQ.ok A1 n1 m1 H K (h:cQ A1 n1 m1 H K):aa prog 193 #[.slice A1 n1 m1] H K:=
 dV (Λ:=(cQ.Λ K)) gr Tryz.func193 rfl rfl h (oC (fun E D H h=>by
   refine Safe.cJ (cQ.l2.L K) (fun E D H h=>?_) (fun k E D H h=>?_) E D H h
   .obtain⟨w6,e6,g1⟩:=DG.out h;obtain⟨A2,n4,m2,rfl,g2⟩:=aE.out g1;obtain⟨w7,e7,g3⟩:=DG.out g2;obtain⟨x1,rfl,g4⟩:=DI.out g3;obtain⟨w8,e8,g5⟩:=DG.out g4;obtain⟨x2,rfl,g6⟩:=DI.out g5;obtain⟨rfl,h'⟩:=ax.out g6;exact h'
   .obtain⟨w6,e6,g1⟩:=DG.out h;obtain⟨A2,n4,m2,rfl,g2⟩:=aE.out g1;obtain⟨x1,e7,g4⟩:=GI g2;obtain⟨x2,e8,g6⟩:=GI g4;obtain⟨rfl,h'⟩:=ax.out g6;exact cU (Λ:=(cQ.Λ2 K (cQ.l2 K k))) gr [] (ag.cons e6 (ag.cons e7 (ag.cons e8 (ag.nil _)))) h' oN) oN)
def nz (x1 x2 x3 x4:Int)(H:Hp)(K:VK):Prop:=
 Nw H (Oa #[I x1,I x2,I x3,I x4] 45) fun b1 H1=>aM H1 ((O b1).add 0) fun x5=>aM H1 ((O b1).add 1) fun x6=>aM H1 ((O b1).add 2) fun x7=>Hz 181 #[I x5,I x6,I x7] H1 fun v4 H2=>nZ v4 fun y1 x8=>(Nw H2 (Oa #[I 0,I 0,I 0,I 0,I 0,I 0,I 0,I 0,I 0,I 0,I 0,I 0,I 0,I 0,I 0,I 0,I 0] 153) fun b2 H3=>cK H3 (O b2) y1 17 fun H4=>aq (x8==0) (aM H4 ((O b1).add 3) fun x9=>aq (decide (x9>=1)) (aM H4 ((O b1).add 3) fun x10=>K (.bool (decide (x10<=(16777216:Int)))) H4) (K (.bool false) H4)) (K (.bool false) H4))
theorem nz.ok x1 x2 x3 x4 H K (h:nz x1 x2 x3 x4 H K):aa prog 194 #[.agg #[I x1,I x2,I x3,I x4]] H K:=
 bX gr Tryz.func194 rfl rfl h
def mC (x1 x2 x3 x4:Int)(H:Hp)(K:VK):Prop:=
 Nw H (Oa #[I x1,I x2,I x3,I x4] 45) fun b1 H1=>aM H1 ((O b1).add 0) fun x5=>(0<=(16:Int)/\aM H1 ((O b1).add 2) fun x6=>eG 227 #[U (u64.wrap x6)] H1 fun x7=>K (U (kT .u64 (kT .u64 4702392716946833408 (cT .u64 (u64.wrap x5) 16)) (u64.wrap (i64.wrap (x7-1))))) H1)
theorem mC.ok x1 x2 x3 x4 H K (h:mC x1 x2 x3 x4 H K):aa prog 195 #[.agg #[I x1,I x2,I x3,I x4]] H K:=
 bX gr Tryz.func195 rfl rfl h
theorem qk :prog.follows .mixedOrders=true:=by kernel_rfl
def cc.l3 (K:VK):Nat->Int->Int->Int->Int->Hp->Prop
 |0,_,_,_,_,_=>False
 |k+1,x3,x4,x5,x6,H=>
  let R3:=cc.l3 K k
  aq (decide (x6<x3)) (R3 x3 x4 (i64.wrap (2*x5)) (i64.wrap (x6+1)) H) (((8:Int)≠0/\i64=i64/\aq (decide (x5<=(i64.wrap (Int.tdiv x4 8)))) (K (I 13) H) (((i64.wrap (Int.tdiv x4 8))≠0/\i64=i64/\K (I (i64.wrap (9+(i64.wrap (4*(i64.wrap (Int.tdiv x5 (i64.wrap (Int.tdiv x4 8))))))))) H))))
def cc (x1 x2:Int)(H:Hp)(K:VK):Prop:=
 (∃ k,cc.l3 K k x1 x2 1 0 H)
def cc.l3.L (K:VK)(k:Nat):de:=fun E D H=>
 eI E 0 .i64 fun x3=>eI E 1 .i64 fun x4=>eI E 5 .i64 fun x5=>eI E 6 .i64 fun x6=>ax D (cc.l3 K k x3 x4 x5 x6 H)
def cc.Λ3 (_:VK)(_R3:Int->Int->Int->Int->Hp->Prop):aI:=aI.none (fun _=>none)
def cc.Λ (K:VK):aI:=⟨fun i=>none,fun i=>match Nat.beq i 3 with|true=>some (fun E D H=>∃ k,cc.l3.L K k E D H)|false=>none,(fun _=>none)⟩
theorem cc.ok x1 x2 H K (h:cc x1 x2 H K):aa prog 107 #[I x1,I x2] H K:=
 dV (Λ:=(cc.Λ K)) qk Tryz.func107 rfl rfl h (oC (fun E D H h=>by
   refine Safe.cJ (cc.l3.L K) (fun E D H h=>?_) (fun k E D H h=>?_) E D H h
   .obtain⟨w0,e0,g1⟩:=DG.out h;obtain⟨x3,rfl,g2⟩:=DI.out g1;obtain⟨w1,e1,g3⟩:=DG.out g2;obtain⟨x4,rfl,g4⟩:=DI.out g3;obtain⟨w5,e5,g5⟩:=DG.out g4;obtain⟨x5,rfl,g6⟩:=DI.out g5;obtain⟨w6,e6,g7⟩:=DG.out g6;obtain⟨x6,rfl,g8⟩:=DI.out g7;obtain⟨rfl,h'⟩:=ax.out g8;exact h'
   .obtain⟨x3,e0,g2⟩:=GI h;obtain⟨x4,e1,g4⟩:=GI g2;obtain⟨x5,e5,g6⟩:=GI g4;obtain⟨x6,e6,g8⟩:=GI g6;obtain⟨rfl,h'⟩:=ax.out g8;exact cU (Λ:=(cc.Λ3 K (cc.l3 K k))) qk [] (ag.cons e0 (ag.cons e1 (ag.cons e5 (ag.cons e6 (ag.nil _))))) h' oN) oN)
end W
namespace Sup
open Go Go.Hw Go.Form W Lay
def fx (k sec s ar:Int):Array Value:=#[I k,I sec,I s,I ar]
def eB (k sec s ar:Int):Bool:=decide (0<=k/\k<=32/\0<bP s/\(eQ k.toNat (bP s):Int)<=sec/\1<=ar/\ar<=16777216)
theorem uU (k sec s:Int):(mP k sec s).1.size=17:=by
 unfold mP;split
 .split<;>rfl
 .rfl
theorem B3 (k sec s:Int):(mP k sec s).1.toList.all (fun v=>v.oneCell')=true:=by
 unfold mP;split
 .split<;>rfl
 .rfl
theorem fA (k sec s ar:Int)(H:Hp):aa prog 194 #[.agg (fx k sec s ar)] H (RetE (.bool (eB k sec s ar)) H):=by
 apply aa.ret;apply nz.ok;unfold nz;simp only[HS];refine(Sep.start H).nw fun b1 H hs=>?_
 first|refine hs.ld 1 rfl rfl ?_|refine hs.ld 2 rfl rfl ?_|refine hs.ld 3 rfl rfl ?_|refine hs.ld 4 rfl rfl ?_|refine hs.ld 5 rfl rfl ?_|refine hs.ld 6 rfl rfl ?_|refine hs.ld 7 rfl rfl ?_|refine hs.ld 8 rfl rfl ?_
 try simp only[HV]
 first|refine hs.ld 1 rfl rfl ?_|refine hs.ld 2 rfl rfl ?_|refine hs.ld 3 rfl rfl ?_|refine hs.ld 4 rfl rfl ?_|refine hs.ld 5 rfl rfl ?_|refine hs.ld 6 rfl rfl ?_|refine hs.ld 7 rfl rfl ?_|refine hs.ld 8 rfl rfl ?_
 try simp only[HV]
 first|refine hs.ld 1 rfl rfl ?_|refine hs.ld 2 rfl rfl ?_|refine hs.ld 3 rfl rfl ?_|refine hs.ld 4 rfl rfl ?_|refine hs.ld 5 rfl rfl ?_|refine hs.ld 6 rfl rfl ?_|refine hs.ld 7 rfl rfl ?_|refine hs.ld 8 rfl rfl ?_
 try simp only[HV]
 refine aa.use (ie k sec s H) ?_
 try simp only[HV]
 refine hs.nw fun b2 H hs=>?_
 refine hs.eY 2 rfl rfl (uU _ _ _) (B3 _ _ _) fun H hs=>?_;have hr:=hs.fin 0 rfl (.bool (eB k sec s ar));by_cases h:0<=k/\k<=32/\0<bP s/\(eQ k.toNat (bP s):Int)<=sec
 .have:(mP k sec s).2=0:=by unfold mP;rw[if_pos (by omega),if_neg (by omega)]
  rw[this];refine cO rfl ?_
  first|refine hs.ld 1 rfl rfl ?_|refine hs.ld 2 rfl rfl ?_|refine hs.ld 3 rfl rfl ?_|refine hs.ld 4 rfl rfl ?_|refine hs.ld 5 rfl rfl ?_|refine hs.ld 6 rfl rfl ?_|refine hs.ld 7 rfl rfl ?_|refine hs.ld 8 rfl rfl ?_
  try simp only[HV]
  by_cases h2:ar>=1
  .refine aA h2 ?_
   first|refine hs.ld 1 rfl rfl ?_|refine hs.ld 2 rfl rfl ?_|refine hs.ld 3 rfl rfl ?_|refine hs.ld 4 rfl rfl ?_|refine hs.ld 5 rfl rfl ?_|refine hs.ld 6 rfl rfl ?_|refine hs.ld 7 rfl rfl ?_|refine hs.ld 8 rfl rfl ?_
   try simp only[HV]
   have:decide (ar<=16777216)=eB k sec s ar:=by unfold eB;simp only[decide_eq_decide];omega
   rw[this];exact hr
  .refine au h2 ?_;have:false=eB k sec s ar:=by unfold eB;symm;simp only[decide_eq_false_iff_not];omega
   rw[this];exact hr
 .refine bY ?_ ?_
  .have:(mP k sec s).2=1\/(mP k sec s).2=7:=by
    unfold mP;split
    .rw[if_pos (by omega)];exact .inr rfl
    .exact .inl rfl
   rcases this with e|e<;>rw[e]<;>rfl
  .have:false=eB k sec s ar:=by unfold eB;symm;simp only[decide_eq_false_iff_not];omega
   rw[this];exact hr
def fX (s:Int):Int:=if s=32 then 5 else if s=64 then 6 else if s=128 then 7 else if s=256 then 8 else if s=512 then 9 else if s=1024 then 10 else if s=2048 then 11 else if s=4096 then 12 else -1
theorem pQ (s:Int):(0<bP s/\s=8*bP s/\5<=fX s/\fX s<=12/\bP s=2^(fX s-3).toNat)\/(bP s=0/\fX s=-1):=by
 unfold bP fX
 repeat' split
 all_goals first|(subst_vars;left;decide)|(right;exact⟨rfl,rfl⟩)
theorem yz (K:VK)(k:Nat)(hk:k<=32)(s:Int)(hs:0<bP s)(H:Hp)(hK:K (I (eQ k (bP s))) H):∀ d j:Nat,j+d=k->cc.l3 K (d+1) (k:Int) s ((2^j:Nat):Int) (j:Int) H
 |0,j,hj=>by
  obtain rfl:j=k:=by omega
  unfold cc.l3;refine au (by omega) ⟨by decide,rfl,?_⟩;obtain⟨_,h1,h2,h3,h4⟩:0<bP s/\s=8*bP s/\5<=fX s/\fX s<=12/\bP s=2^(fX s-3).toNat:=by
   rcases pQ s with h|h
   .exact h
   .omega
  have hle:=rJ s;have hp:=xu (k:=j) (by omega);have e1:i64.wrap (Int.tdiv s 8)=(bP s:Int):=by
   have:Int.tdiv s 8=(bP s:Int):=by
    conv=>lhs;rw[h1]
    exact Int.mul_tdiv_cancel_left _ (by omega)
   rw[this];exact dS
  rw[e1];have h2j:1<=2^j:=Nat.one_le_two_pow;by_cases hc:(2^j:Nat)<=bP s
  .refine aA (Int.ofNat_le.2 hc) ?_;have:eQ j (bP s)=13:=by
    unfold eQ bI;rw[Nat.div_eq_of_lt (by omega)]
   rw[this]at hK;exact hK
  .refine au (fun h=>hc (Int.ofNat_le.1 h)) ⟨by omega,rfl,?_⟩;have hd:bP s∣2^j:=by
    rw[h4];refine Nat.pow_dvd_pow 2 ?_;rw[h4]at hc;have:=(Nat.pow_lt_pow_iff_right (a:=2) (by omega)).1 (Nat.lt_of_not_le hc);omega
   obtain⟨q,hq⟩:=hd;have hq1:1<=q:=by
    cases q with
    |zero=>rw[hq]at h2j;omega
    |succ q=>omega
   have hdiv:2^j/bP s=q:=by rw[hq];exact Nat.mul_div_cancel_left q hs
   have hroom:bI j (bP s)=q:=by
    unfold bI;have:2^j-1=bP s*(q-1)+(bP s-1):=by
     rw[hq];have:bP s*q=bP s*(q-1)+bP s:=by
      rw[<- Nat.mul_succ];congr 1;omega
     omega
    rw[this,Nat.mul_add_div hs,Nat.div_eq_of_lt (by omega)];omega
   have hqle:q<=2^j:=by rw[<- hdiv];exact Nat.div_le_self _ _
   have hp32:2^j<=2^32:=Nat.pow_le_pow_right (by omega) hk;rw[show Int.tdiv ((2^j:Nat):Int) (bP s:Int)=((2^j/bP s:Nat):Int)from rfl,hdiv,dS (n:=q),bg (x:=4*(q:Int)),bg (x:=9+4*(q:Int))];unfold eQ at hK;rw[hroom]at hK;rw[show((9:Int)+4*(q:Int))=((9+4*q:Nat):Int) by omega];exact hK
 |d+1,j,hj=>by
  unfold cc.l3;have hp:2^j<=4294967296:=(Nat.pow_le_pow_right (by omega) (by omega):2^j<=2^32);have hnn:=Int.natCast_nonneg (2^j);have hp':((2^j:Nat):Int)<=4294967296:=by exact Int.ofNat_le.2 hp
  refine aA (by omega) ?_;rw[bg (x:=2*((2^j:Nat):Int)),bg (x:=(j:Int)+1)];have:=yz K k hk s hs H hK d (j+1) (by omega);rw[show(2:Int)*((2^j:Nat):Int)=((2^(j+1):Nat):Int) by rw[Nat.pow_succ];omega];exact this
theorem Ew (k:Nat)(hk:k<=32)(s:Int)(hs:0<bP s)(H:Hp):aa prog 107 #[I k,I s] H (RetE (I (eQ k (bP s))) H):=by
 apply cc.ok;exact⟨k+1,yz _ k hk s hs H (RetE.mk _ _) k 0 (by omega)⟩
end Sup
namespace Rec
open Go Go.Hw Go.Form Go.Crc W FormP
theorem vp (s:Int):jZ s=true↔0<Lay.bP s:=by
 unfold jZ Lay.oA;by_cases h:0<Lay.bP s
 .rw[if_pos ⟨by omega,by omega,h⟩];simp[h]
 .rw[if_neg (fun g=>h g.2.2)];simp[h]
theorem JT {s:Int}(h:jZ s=true):32<=s/\s<=4096:=by
 rw[vp]at h;refine⟨Int.not_lt.1 fun g=>?_,Int.not_lt.1 fun g=>?_⟩
 .rw[Lay.sr g]at h;omega
 .rw[Lay.sq g]at h;omega
theorem LG {p q:Nat}(hp:p<4294967296)(hq:q<4294967296):dU 0 [(p,32),(q,0)]=p*4294967296+q:=by
 show(0|||(p*2^32%2^64))|||(q*2^0%2^64)=_
 rw[Nat.zero_or,Nat.mod_eq_of_lt (by omega),Nat.pow_zero,Nat.mul_one,Nat.mod_eq_of_lt (by omega),Nat.mul_comm p,<-Nat.two_pow_add_eq_or_of_lt (i:=32) hq p]
theorem ti {w q:Nat}(k:Nat)(hw:2^k∣w)(hq:q<2^k):w|||q=w+q:=by
 obtain⟨t,rfl⟩:=hw;exact(Nat.two_pow_add_eq_or_of_lt hq t).symm
theorem FC (r:R)(hg:r.cR):dU 0 r.p1=5928144484503126016+r.s:=by
 obtain⟨g1,g2,_⟩:=hg;show(0|||(21061*2^48%2^64))|||(r.s*2^0%2^64)=_
 rw[Nat.zero_or,Nat.pow_zero,Nat.mul_one,Nat.mod_eq_of_lt (show r.s<2^64 by omega),ti 48 ⟨21061,by decide⟩ (by omega)]
theorem K3 (r:R)(hu:r.u32):dU 0 r.p3=r.dJ*4294967296+r.out:=LG hu.dJ hu.out
theorem K2 (r:R)(hg:r.cR)(hu:r.u32):dU 0 r.p2=r.ld*4294967296+r.ps.toNat*16777216+r.kk.toNat*65536+r.dir.toNat*256+r.kd.toNat:=by
 obtain⟨g1,g2,g3,g4,g5,g6⟩:=hg;have hu:=hu.ld;have h1:r.ps.toNat<256:=by omega
 have h2:r.kk.toNat<256:=by omega
 have h3:r.dir.toNat<256:=by omega
 have h4:r.kd.toNat<256:=by omega
 show((((0|||(r.ld*2^32%2^64))|||(r.ps.toNat*2^24%2^64))|||(r.kk.toNat*2^16%2^64))|||(r.dir.toNat*2^8%2^64))|||(r.kd.toNat*2^0%2^64)=_
 generalize r.ps.toNat=a at*;generalize r.kk.toNat=b at*;generalize r.dir.toNat=c at*;generalize r.kd.toNat=d at*;generalize r.ld=l at*;rw[Nat.zero_or,Nat.mod_eq_of_lt (show l*2^32<2^64 by omega),Nat.mod_eq_of_lt (show a*2^24<2^64 by omega),Nat.mod_eq_of_lt (show b*2^16<2^64 by omega),Nat.mod_eq_of_lt (show c*2^8<2^64 by omega),Nat.pow_zero,Nat.mul_one,Nat.mod_eq_of_lt (show d<2^64 by omega)];rw[ti 32 ⟨l,Nat.mul_comm _ _⟩ (show a*2^24<2^32 by omega),ti 24 ⟨l*256+a,by omega⟩ (show b*2^16<2^24 by omega),ti 16 ⟨(l*256+a)*256+b,by omega⟩ (show c*2^8<2^16 by omega),ti 8 ⟨((l*256+a)*256+b)*256+c,by omega⟩ (show d<2^8 by omega)]
structure R.wf (r:R):Prop where
 s:r.s<2^64
 kd: -9223372036854775808<=r.kd/\r.kd<=9223372036854775807
 kk: -9223372036854775808<=r.kk/\r.kk<=9223372036854775807
 dir: -9223372036854775808<=r.dir/\r.dir<=9223372036854775807
 ps: -9223372036854775808<=r.ps/\r.ps<=9223372036854775807
 u:r.u32
def R.form (r:R)(size:Nat):List UInt8:=Form.form r.w4++List.replicate (size-32) 0
theorem tW (r:R):(Form.form r.w4).length=32:=by rw[dI];rfl
theorem tq (r:R){size:Nat}(h:32<=size):(r.form size).length=size:=by
 unfold R.form;rw[List.length_append,tW,List.length_replicate];omega
theorem Bg (r:R)(size:Nat):nK (r.form size)=true:=by
 unfold nK R.form;refine decide_eq_true fun x hx=>?_
 rw[List.drop_append,tW,Nat.sub_self,List.drop_eq_nil_of_le (by rw[tW];exact Nat.le_refl _),List.nil_append,List.drop_zero]at hx;exact(List.mem_replicate.1 hx).2
theorem JP (r:R)(hg:r.cR)(hu:r.u32):qS (dU 0 r.p1) (dU 0 r.p2) (dU 0 r.p3)=r:=by
 rw[FC r hg,K2 r hg hu,K3 r hu];obtain⟨g1,g2,g3,g4,g5,g6⟩:=hg;obtain⟨u1,u2,u3⟩:=hu;obtain⟨s,kd,kk,dir,ps,ld,dJ,out⟩:=r;simp only at*;unfold qS;congr 1<;>omega
theorem BS (r:R)(size:Nat):aJ (r.form size) 0=dU 0 r.p1/\aJ (r.form size) 8=dU 0 r.p2/\aJ (r.form size) 16=dU 0 r.p3/\aJ (r.form size) 24=dU 0 (oU r.w3):=by
 have h4:r.w4.length=4:=rfl;have w0:=lJ (l:=r.w4) (i:=0) (by omega) (List.replicate (size-32) 0);have w1:=lJ (l:=r.w4) (i:=1) (by omega) (List.replicate (size-32) 0);have w2:=lJ (l:=r.w4) (i:=2) (by omega) (List.replicate (size-32) 0);have w3:=lJ (l:=r.w4) (i:=3) (by omega) (List.replicate (size-32) 0);refine⟨w0.trans ?_,w1.trans ?_,w2.trans ?_,w3.trans ?_⟩
 .exact UInt64.toNat_ofNat_of_lt' (ku r.p1 0 (by decide))
 .exact UInt64.toNat_ofNat_of_lt' (ku r.p2 0 (by decide))
 .exact UInt64.toNat_ofNat_of_lt' (ku r.p3 0 (by decide))
 .exact UInt64.toNat_ofNat_of_lt' (ku (oU r.w3) 0 (by decide))
theorem D0 (r:R)(hg:r.cR)(hu:r.u32){size:Nat}(h32:32<=size)(hs:jZ (size:Int)=true):dD (r.form size)=(r,0):=by
 obtain⟨w0,w1,w2,w3⟩:=BS r size;have hU:By (r.form size)=r.w3:=by
  unfold By;rw[w0,w1,w2];rfl
 have hr:=JP r hg hu;have hm:dU 0 r.p1/281474976710656=21061:=by
  have:=FC r hg;have:=hg.1;have:=hg.2.1;omega
 unfold dD;rw[tq r h32,if_pos hs,hU,w0,w1,w2,w3,hr,if_pos ⟨hm,Bg r size⟩,if_pos rfl,if_pos hg]
end Rec
namespace Rng
open Go Go.Hw W Rec Srt Dsk
def bO (p:Nat)(f n w:Int):AO:=Oa #[I f,I n,I w,V p] 260
def xl (d:D)(f n:Int):Bool:=decide (2<=n/\0<=f/\f<d.sec/\n<=d.sec-f)
def wY (p:Nat)(d:D)(f n w:Int)(v:Value)(M:List As):Prop:=
 (xl d f n=true/\∃ b,v= .tuple #[V b,I 0]/\M=[Dk p d,ah b (bO p f n w)])\/(xl d f n=false/\v= .tuple #[.pointer none,I 2]/\M=[Dk p d])
theorem wY.yes {p:Nat}{d:D}{f n w:Int}(h:xl d f n=true)(b:Nat):wY p d f n w (.tuple #[V b,I 0]) [Dk p d,ah b (bO p f n w)]:=.inl ⟨h,b,rfl,rfl⟩
theorem wY.no {p:Nat}{d:D}{f n w:Int}(h:xl d f n=false):wY p d f n w (.tuple #[.pointer none,I 2]) [Dk p d]:=.inr ⟨h,rfl,rfl⟩
theorem iU {p:Nat}{d:D}(hok:Ok d)(f n w:Int)(hf: -9223372036854775808<=f/\f<=9223372036854775807):
  Tr prog 142 #[V p,.agg #[I f,I n,I w]] [Dk p d] (wY p d f n w):=fun H hs=>by
 have hsec:=hok.sec;apply pA.ok;unfold pA;refine hs.nw fun b1 H hs=>?_
 have hs:Hw.Sep [Dk p d,ah b1 (Oa #[I f,I n,I w] 150)] H:=hs;have bad:xl d f n=false->∃ M,wY p d f n w (.tuple #[.pointer none,I 2]) M/\Hw.Sep M H:=fun h=>⟨_,.no h,hs.re [0] rfl⟩
 refine bY rfl ?_;refine hs.cg 1 rfl rfl ?_;simp only[HV];by_cases h1:n<2
 .exact aA h1 (bad (decide_eq_false (by omega)))
 refine au h1 ?_;refine hs.cg 1 rfl rfl ?_;simp only[HV];by_cases h2:f<0
 .exact aA h2 (bad (decide_eq_false (by omega)))
 refine au h2 ?_;refine hs.cg 1 rfl rfl ?_;simp only[HV];refine bD.use (kR hs 0 rfl) ?_;simp only[HV];by_cases h3:f>=(d.sec:Int)
 .exact aA h3 (bad (decide_eq_false (by omega)))
 refine au h3 ?_;refine hs.cg 1 rfl rfl ?_;simp only[HV];refine bD.use (kR hs 0 rfl) ?_;simp only[HV];refine hs.cg 1 rfl rfl ?_;simp only[HV];rw[bg (x:=(d.sec:Int)-f)];by_cases h4:n>(d.sec:Int)-f
 .exact aA h4 (bad (decide_eq_false (by omega)))
 refine au h4 ?_
 first|refine hs.bJ 1 rfl rfl ?_
 try simp only[HV]
 refine hs.nw fun b2 H hs=>?_
 exact⟨_,.yes (decide_eq_true (by omega)) b2,hs.re [0,2] rfl⟩
def dq (f n s:Nat):Nat:=f+(s-1)%n
theorem CI {L:List As}{H:Hp}(hs:Hw.Sep L H)(i:Nat){b p f n:Nat}{w:Int}(hi:L[i]? =some (ah b (bO p f n w)))(hf:f<=1048576)(hn:1<=n)(hn2:n<=1048576)(s:Nat)(h1:1<=s)(h2:s<18446744073709551616):
  aa prog 158 #[V b,U (s:Int)] H (RetE (I (dq f n s:Int)) H):=by
 apply kh.ok;unfold kh;simp only[HS];refine hs.ld i hi rfl ?_;simp only[HV]
 try simp only[HS]
 refine hs.ld i hi rfl ?_;simp only[HV];have hm:(s-1)%n<n:=Nat.mod_lt _ (by omega);rw[fC,iQ (x:=(s:Int)-1),show(s:Int)-1=((s-1:Nat):Int) by omega,show Int.tmod ((s-1:Nat):Int) (n:Int)=(((s-1)%n:Nat):Int)from rfl,dS,bg];refine⟨by omega,by simp,?_⟩;unfold dq;exact RetE.of (by rw[Int.natCast_add])
def lI (f n:Nat)(bs:List UInt8)(i:Nat):List R:=if(dD bs).2=0/\dq f n (dD bs).1.s=f+i then [(dD bs).1]else []
def D.red (d:D):D:={ d.bu with rd:=d.rd+1}
theorem Ok.red {d:D}(hok:Ok d):Ok (D.red d):=⟨hok.bu.sec,hok.bu.size,hok.bu.kV,hok.bu.ae,hok.bu.safe,hok.bu.cache,hok.bu.fz⟩
def gW (f n:Nat):Nat->Nat->D->List R->Int×D×List R
 |0,_,d,acc=>(0,d,acc)
 |k+1,i,d,acc=>if d.jR ((f+i:Nat):Int)≠0 then(d.jR ((f+i:Nat):Int),d,[])else if d.dr=true then(8,d.bu,[])else gW f n k (i+1) (D.red d) (acc++lI f n (d.now ((f+i:Nat):Int)) i)
def vH (b p f n:Nat)(w:Int)(r:Int×D×List R)(v:Value)(M:List As):Prop:=
 ∃ A m,v= .tuple #[.slice A r.2.2.length m,I r.1]/\M=[Dk p r.2.1,ah b (bO p f n w),cj 110 8 A r.2.2.length m (gi (fL r.2.2 (r.2.2.length-1)))]/\r.2.2.length<=m
theorem D3 {bs:List UInt8}(h:(dD bs).2=0):(dD bs).1.cR:=by
 unfold dD at h⊢;split at h
 .rename_i h1
  rw[if_pos h1];split at h
  .rename_i h2
   rw[if_pos h2];split at h
   .rename_i h3
    rw[if_pos h3];split at h
    .rename_i h4
     rw[if_pos h4];exact h4
    .cases h
   .cases h
  .cases h
 .cases h
theorem G0 :ed prog 110=some (8,56,some #[U 0,I 0,I 0,I 0,I 0,Oi 0,Oi 0,Oi 0]):=by kernel_rfl
theorem Dw {L:List As}{H:Hp}(h:Hw.Sep L H):Hw.Sep (L++[cj 110 8 none 0 0 []]) H:=by
 have:Hw.Sep (cj 110 8 none 0 0 []::L) H:=⟨fun _=>none,H,fun _ _ h=>(nomatch h),Hp.le_refl _,fun _=>.inl rfl,cj.none _ _ _,h⟩;exact Hw.Sep.perm (List.perm_append_comm (l₁:=[_])) this
theorem sQ (b p f n:Nat)(w:Int)(hn:1<=n)(hfn:f+n<=1048576)(r:Int×D×List R)(hr12:r.1=0->r.2.2.length<=12):
  ∀(t i:Nat) (d:D) (acc:List R) (A:OA) (m:Nat) (H:Hp),i+t=n->Ok d->d.rd+t<=1000000->acc.length<=i->acc.length<=m->r=gW f n t i d acc->
   Hw.Sep [Dk p d,ah b (bO p f n w),cj 110 8 A acc.length m (gi acc)] H->
   bh.l2 (fun v H'=>∃ M,vH b p f n w r v M/\Hw.Sep M H') (t+1) (Oo b) A acc.length m (n:Int) (i:Int) H
 |0,i,d,acc,A,m,H,hi,hok,hrd,hacc,hm,hr,hs=>by
  unfold bh.l2;refine au (by omega) ?_;have hr:r=(0,d,acc):=hr;have h12:=hr12 (by rw[hr]);rw[hr]at h12;refine(BJ A acc.length m h12 acc rfl).use hs [2] rfl rfl ?_;rintro _ _ H1 ⟨rfl,rfl⟩ hs;rw[hr];exact⟨_,⟨A,m,rfl,rfl,hm⟩,hs.re [1,2,0] rfl⟩
 |t+1,i,d,acc,A,m,H,hi,hok,hrd,hacc,hm,hr,hs=>by
  unfold bh.l2;refine aA (by omega) ?_;have hj5:∀(H:Hp) (v:Value) (M:List As),IK p d ((f+i:Nat):Int) v M->Hw.Sep (M++[ah b (bO p f n w),cj 110 8 A acc.length m (gi acc)]) H->
    eF v fun l1=>az l1 fun v5 l2=>aE v5 fun A2 n2 m2=>az l2 fun v6 l3=>DI .i64 v6 fun x5=>bF l3 (bh.j5 (fun v H'=>∃ M,vH b p f n w r v M/\Hw.Sep M H') (bh.l2 (fun v H'=>∃ M,vH b p f n w r v M/\Hw.Sep M H') (t+1)) (Oo b) A acc.length m (i:Int) A2 n2 m2 x5 (n:Int) (i:Int) H):=by
   rintro H _ _ (⟨hc,rfl,rfl⟩|⟨hc,hb,rfl,rfl⟩|⟨hc,hb,b2,c,mm,rfl,hcc,rfl⟩) hs
   .simp only[HV];unfold bh.j5;refine aU hc ?_;unfold gW at hr;rw[if_pos hc]at hr;rw[hr];have hs:=Dw hs;exact⟨_,⟨none,0,rfl,rfl,Nat.le_refl _⟩,hs.re [0,1,3] rfl⟩
   .simp only[HV];unfold bh.j5;refine aU (by decide) ?_;unfold gW at hr;rw[if_neg (by omega),if_pos hb]at hr;rw[hr];have hs:=Dw hs;exact⟨_,⟨none,0,rfl,rfl,Nat.le_refl _⟩,hs.re [0,1,3] rfl⟩
   .simp only[HV];unfold bh.j5;refine aF rfl ?_;have hs:Hw.Sep [Dk p (D.red d),ah b2 (.row (aC (d.now ((f+i:Nat):Int))) 5 mm),ah b (bO p f n w),cj 110 8 A acc.length m (gi acc)] H:=hs;unfold gW at hr;rw[if_neg (by omega),if_neg (by simp[hb])]at hr;have hnow:=hok.now ((f+i:Nat):Int);have hsz:=hok.size;generalize d.now ((f+i:Nat):Int)=bs at*;have hcell:Cells H (Oo b2) (aC bs):=by
     have:=Cells.row (hs.get 1 (b:=b2) (o:=.row (aC bs) 5 mm) rfl) 0 d.size;rw[List.drop_zero,List.take_of_length_le (by rw[bk];omega)]at this;exact this
    refine aa.use (rq (Oo b2) d.size c bs hnow.symm hcc (by omega) (fun _=>hsz.1) H hcell) ?_;simp only[HV];have hg:=D3 (bs:=bs);have hst:lI f n bs i=if(dD bs).2=0/\dq f n (dD bs).1.s=f+i then [(dD bs).1]else []:=rfl
    generalize dD bs=tv at*;obtain⟨q,e⟩:=tv;simp only at hg hst;refine hs.nw fun b3 H hs=>?_
    refine hs.eY 4 (y:=q.c) rfl rfl rfl (lF q) fun H hs=>?_;have hs:Hw.Sep [Dk p (D.red d),ah b2 (.row (aC bs) 5 mm),ah b (bO p f n w),cj 110 8 A acc.length m (gi acc),ah b3 (Oa q.c 110)] H:=hs;have hred:(D.red d).rd=d.rd+1:=rfl;have next:∀ H,lI f n bs i=[]->Hw.Sep [Dk p (D.red d),ah b (bO p f n w),cj 110 8 A acc.length m (gi acc)] H->
      bh.l2 (fun v H'=>∃ M,vH b p f n w r v M/\Hw.Sep M H') (t+1) (Oo b) A acc.length m (n:Int) (i64.wrap ((i:Int)+1)) H:=fun H h0 hs=>by
     rw[bg (x:=(i:Int)+1)];rw[h0,List.append_nil]at hr;exact sQ b p f n w hn hfn r hr12 t (i+1) (D.red d) acc A m H (by omega) (Ok.red hok) (by rw[hred];omega) (by omega) hm hr hs
    by_cases he:e=0
    .have hgood:=hg he;obtain⟨s1,s2,_⟩:=hgood;refine bH he ?_;refine hs.cg 4 rfl rfl ?_;simp only[HV];refine bD.use (CI hs 2 rfl (by omega) hn (by omega) q.s s1 (by omega)) ?_;simp only[HV]
     try simp only[HS]
     refine hs.ld 2 rfl rfl ?_;simp only[HV];rw[bg (x:=(f:Int)+(i:Int))];by_cases hsl:dq f n q.s=f+i
     .refine bH (by omega) ?_;rw[if_pos ⟨he,hsl⟩]at hst;refine hs.bJ 4 rfl rfl ?_;unfold R.c;simp only[HV];refine Ey (x:=fun b=>.slice (Oo b) 1 1) ?_;refine hs.KC 3 rfl G0 rfl (by omega) (by omega) rfl rfl (by omega) (by omega) fun A' m' H hs hcap=>?_
      have hm':=hcap _ _ _ rfl;simp only[HV];rw[bg (x:=(i:Int)+1)];rw[hst]at hr;have hlen:(acc++[q]).length=acc.length+1:=by simp
      have ih:=sQ b p f n w hn hfn r hr12 t (i+1) (D.red d) (acc++[q]) A' m' H (by omega) (Ok.red hok) (by rw[hred];omega) (by omega) (by rw[hlen];exact hm') hr;rw[hlen]at ih;refine ih ?_;have e1:gi (acc++[q])=gi acc++q.c.toList:=by simp[gi]
      rw[e1];exact hs.re [0,2,3] rfl
     .refine bT (by omega) ?_;rw[if_neg (fun h=>hsl h.2)]at hst;exact next H hst (hs.re [0,2,3] rfl)
    .refine bT he ?_;rw[if_neg (fun h=>he h.1)]at hst;exact next H hst (hs.re [0,2,3] rfl)
  try simp only[HS]
  have hw:i64.wrap ((f:Int)+(i:Int))=((f+i:Nat):Int):=by rw[bg];omega
  have hR:=tS (p:=p) (d:=d) hok (by omega) ((f+i:Nat):Int);refine⟨?_,?_⟩
  .refine hs.ld 1 rfl rfl ?_;simp only[HV]
   try simp only[HS]
   refine hs.ld 1 rfl rfl ?_;simp only[HV];rw[hw];refine hR.use hs [0] rfl rfl ?_;intro v M H1 hq hs;exact hj5 H1 v M hq hs
  .refine hs.ld 1 rfl rfl ?_;simp only[HV]
   try simp only[HS]
   refine hs.ld 1 rfl rfl ?_;simp only[HV];rw[hw];refine hR.use hs [0] rfl rfl ?_;intro v M H1 hq hs;exact hj5 H1 v M hq hs
theorem F7 (f n:Nat)(bs:List UInt8)(i:Nat):(lI f n bs i).length<=1:=by unfold lI;split<;>simp
theorem tx (f n:Nat):∀(k i:Nat) (d:D) (acc:List R),(gW f n k i d acc).2.2.length<=acc.length+k
 |0,_,_,_=>Nat.le_refl _
 |k+1,i,d,acc=>by
  unfold gW;split
  .exact Nat.zero_le _
  .split
   .exact Nat.zero_le _
   .have h1:=tx f n k (i+1) (D.red d) (acc++lI f n (d.now ((f+i:Nat):Int)) i);have h2:=F7 f n (d.now ((f+i:Nat):Int)) i;rw[List.length_append]at h1;omega
theorem yL (f n:Nat):∀(k i:Nat) (d:D) (acc:List R),(gW f n k i d acc).1≠0->(gW f n k i d acc).2.2=[]
 |0,_,_,_,h=>absurd rfl h
 |k+1,i,d,acc,h=>by
  unfold gW at h⊢;by_cases h1:d.jR ((f+i:Nat):Int)≠0
  .rw[if_pos h1]
  .rw[if_neg h1]at h⊢;by_cases h2:d.dr=true
   .rw[if_pos h2]
   .rw[if_neg h2]at h⊢;exact yL f n k (i+1) _ _ h
def dt (f n:Nat)(d:D):Int×D×List R:=gW f n n 0 d []
theorem Jb {b p f n:Nat}{w:Int}{d:D}(hn:1<=n)(hfn:f+n<=1048576)(hok:Ok d)(hrd:d.rd+n<=1000000)(h12:(dt f n d).1=0->(dt f n d).2.2.length<=12):
  Tr prog 98 #[V b] [Dk p d,ah b (bO p f n w)] (vH b p f n w (dt f n d)):=fun H hs=>by
 apply bh.ok;unfold bh
 try simp only[HS]
 refine hs.ld 1 rfl rfl ?_;simp only[HV];exact⟨n+1,sQ b p f n w hn hfn _ h12 n 0 d [] none 0 H (by omega) hok hrd (Nat.le_refl _) (Nat.le_refl _) rfl (Dw hs)⟩
def kv (r:Int×D×List R):Option R:=(fL r.2.2 (r.2.2.length-1)).getLast?
def Im (b p f n:Nat)(w:Int)(r:Int×D×List R)(v:Value)(M:List As):Prop:=
 v= .tuple #[.agg ((kv r).getD dW).c,.bool (kv r).isSome,I r.1]/\M=[Dk p r.2.1,ah b (bO p f n w)]
theorem B0 {b p f n:Nat}{w:Int}{d:D}(hn:1<=n)(hfn:f+n<=1048576)(hok:Ok d)(hrd:d.rd+n<=1000000)(h12:(dt f n d).1=0->(dt f n d).2.2.length<=12):
  Tr prog 82 #[V b] [Dk p d,ah b (bO p f n w)] (Im b p f n w (dt f n d)):=fun H hs=>by
 apply fv.ok;unfold fv fv.q1;refine hs.nw fun b1 H hs=>?_
 have herr:=yL f n n 0 d [];have hlen:=kY ((dt f n d).2.2.length-1) (dt f n d).2.2;refine(Jb (b:=b) (p:=p) (w:=w) hn hfn hok hrd h12).use hs [0,1] rfl rfl ?_;rintro _ _ H1 ⟨A,m,rfl,rfl,_⟩ hs;change (dt f n d).1≠0->(dt f n d).2.2=[]at herr;unfold Im kv;generalize dt f n d=r at*;obtain⟨e,d',l⟩:=r;simp only at hlen herr h12 hs⊢;simp only[HV];have hs:Hw.Sep [Dk p d',ah b (bO p f n w),cj 110 8 A l.length m (gi (fL l (l.length-1))),ah b1 (Oa #[U 0,I 0,I 0,I 0,I 0,Oi 0,Oi 0,Oi 0] 110)] H1:=hs;have zero:l=[]->∀ H,Hw.Sep [Dk p d',ah b (bO p f n w),cj 110 8 A l.length m (gi (fL l (l.length-1))),ah b1 (Oa #[U 0,I 0,I 0,I 0,I 0,Oi 0,Oi 0,Oi 0] 110)] H->
   cK H (O b1) #[U 0,I 0,I 0,I 0,I 0,Oi 0,Oi 0,Oi 0] 8 fun H3=>aY H3 (O b1) 8 fun l5=>∃ M,((Value.tuple #[.agg l5.toArray,.bool false,I e])= .tuple #[.agg (((fL l (l.length-1)).getLast?).getD dW).c,.bool ((fL l (l.length-1)).getLast?).isSome,I e]/\M=[Dk p d',ah b (bO p f n w)])/\Hw.Sep M H3:=fun h0 H hs=>by
  subst h0;refine hs.eY 3 rfl rfl rfl rfl fun H hs=>hs.bJ 3 rfl rfl ?_
  exact⟨_,⟨rfl,rfl⟩,hs.re [0,1] rfl⟩
 by_cases he:e≠0
 .refine aU he ?_;exact zero (herr he) _ hs
 .have he0:e=0:=by omega
  refine aF he0 ?_;by_cases hl:l=[]
  .refine bH (by rw[hl];rfl) ?_;exact zero hl _ hs
  .have hp:0<l.length:=List.length_pos_iff.2 hl;refine bT (by omega) ?_;have ei:i64.wrap ((l.length:Int)-1)=((l.length-1:Nat):Int):=by
    have h12':=h12 he0;rw[bg];omega
   rw[ei];have hlt:l.length-1<(fL l (l.length-1)).length:=by omega
   refine(hs.own 2 rfl).Bd rfl (by omega) (qm _ (l.length-1) hlt) ?_;rw[Array.toArray_toList];refine hs.eY 3 rfl rfl rfl (lF _) fun H hs=>hs.bJ 3 rfl rfl ?_
   rw[Array.toArray_toList];have hgl:(fL l (l.length-1)).getLast? =some (fL l (l.length-1))[l.length-1]:=by
    rw[List.getLast?_eq_getElem?,hlen,List.getElem?_eq_getElem hlt]
   rw[hgl,he0];exact⟨_,⟨rfl,rfl⟩,hs.re [0,1] rfl⟩
end Rng
namespace Rec
open Go Go.Hw Go.Form Go.Crc W FormP
theorem zQ (r:R)(x:Int)(h:¬(r.cR/\jZ x=true))(H:Hp):aa prog 241 #[.agg r.c,I x] H (RetE (.tuple #[.slice none 0 0,I 1]) H):=aa.ret (by
 apply jP.ok;unfold jP;refine(Sep.start H).nw fun b1 H1 hs=>?_
 have hs:Sep [own H,ah b1 (eX r)] H1:=hs;refine hs.bJ 1 rfl rfl ?_;refine aa.use (fA r H1) ?_;simp only[HV];by_cases hg:r.cR
 .rw[decide_eq_true hg];refine bY rfl ?_;refine aa.use (qU x H1) ?_;rw[show jZ x=false by simpa using fun g=>h ⟨hg,g⟩];simp only[HV];exact hs.fin 0 rfl _
 .rw[decide_eq_false hg];exact cO rfl (hs.fin 0 rfl _))
theorem ua (r:R){size:Nat}(h32:32<=size):setAt (cI [Value.int .u8 0] size) 0 (aC (Form.form r.w4))=aC (r.form size):=by
 rw[eR];unfold setAt R.form;rw[List.take_zero,List.nil_append,Nat.zero_add,bk,tW,List.drop_replicate];unfold aC;rw[List.map_append,List.map_replicate];rfl
end Rec
namespace Rng
open Go Go.Hw W Rec Srt Dsk
theorem Bi (f n:Nat):∀(k i:Nat) (d:D) (acc:List R),Ok d->Ok (gW f n k i d acc).2.1/\(gW f n k i d acc).2.1.wr=d.wr/\(gW f n k i d acc).2.1.sy=d.sy/\(gW f n k i d acc).2.1.size=d.size/\(gW f n k i d acc).2.1.sec=d.sec
 |0,_,d,_,h=>⟨h,rfl,rfl,rfl,rfl⟩
 |k+1,i,d,acc,h=>by
  have hb:=fQ d;unfold gW;split
  .exact⟨h,rfl,rfl,rfl,rfl⟩
  .split
   .exact⟨h.bu,hb.2.1,hb.2.2.1,hb.2.2.2.1,hb.2.2.2.2.1⟩
   .obtain⟨h1,h2,h3,h4,h5⟩:=Bi f n k (i+1) (D.red d) (acc++lI f n (d.now ((f+i:Nat):Int)) i) (Ok.red h);exact⟨h1,h2.trans hb.2.1,h3.trans hb.2.2.1,h4.trans hb.2.2.2.1,h5.trans hb.2.2.2.2.1⟩
def xv (f n:Nat)(d:D)(r:R):Int×D:=
 if d.dc (dq f n r.s) d.size≠0 then(d.dc (dq f n r.s) d.size,d.bC (dq f n r.s) (r.form d.size))
 else((d.bC (dq f n r.s) (r.form d.size)).gY,(d.bC (dq f n r.s) (r.form d.size)).fm)
def gK (q:Option R)(r:R):Bool:=match q with|some q=>decide (after q r)|none=>decide (r.s=1∧r.kd=1)
def lQ (f n:Nat)(d:D)(r:R):Int×D:=
 if ¬r.cR then(10,d)else if(dt f n d).1≠0 then((dt f n d).1,(dt f n d).2.1)
 else if gK (kv (dt f n d)) r=false then(5,(dt f n d).2.1)else xv f n (dt f n d).2.1 r
def rU (b p f n:Nat)(w:Int)(r:Int×D)(v:Value)(M:List As):Prop:=v= I r.1/\M=[Dk p r.2,ah b (bO p f n w)]
theorem LF {b p f n:Nat}{w:Int}(hn:1<=n)(hfn:f+n<=1048576){d:D}(hok:Ok d)(hw:d.wr<=1000000/\d.sy<=1000000)(r:R)(hg:r.cR)(b1 b2 mm:Nat)(H:Hp)
  (hs:Hw.Sep [Dk p d,ah b (bO p f n w),ah b1 (eX r),ah b2 (.row (aC (r.form d.size)) 5 mm)] H):
  bd.j9 (fun v H'=>∃ M,rU b p f n w (xv f n d r) v M/\Hw.Sep M H') (Oo b) (O b1) (Oo b2) d.size d.size H:=by
 unfold bd.j9;obtain⟨s1,s2,_⟩:=hg;have hsz:=hok.size
 try simp only[HS]
 refine hs.ld 1 rfl rfl ?_;simp only[HV];refine hs.ld 2 rfl rfl ?_;simp only[HV];refine bD.use (CI hs 1 rfl (by omega) hn (by omega) r.s s1 (by omega)) ?_;simp only[HV];have hl:=tq r hsz.1;refine(ki (p:=p) (d:=d) hok (by omega) (dq f n r.s:Int) (Oo b2) d.size d.size (r.form d.size) hl.symm (ah b2 (.row (aC (r.form d.size)) 5 mm)) (fun H h=>?_)).use hs [0,3] rfl rfl ?_
 .have:=Cells.row h 0 d.size;rw[List.drop_zero,List.take_of_length_le (by rw[bk];omega)]at this;exact this
 rintro _ _ H1 ⟨rfl,rfl⟩ hs;have hs:Hw.Sep [Dk p (d.bC (dq f n r.s) (r.form d.size)),ah b2 (.row (aC (r.form d.size)) 5 mm),ah b (bO p f n w),ah b1 (eX r)] H1:=hs;unfold rU xv;by_cases he:d.dc (dq f n r.s) d.size≠0
 .rw[if_pos he];simp only[HV];refine aU he ?_;exact⟨_,⟨by first|trivial|rfl,rfl⟩,hs.re [0,2] rfl⟩
 .rw[if_neg he];simp only[HV];refine aF (by omega) ?_
  try simp only[HS]
  refine hs.ld 2 rfl rfl ?_;simp only[HV];have hsy:(d.bC (dq f n r.s) (r.form d.size)).sy=d.sy:=by
   have hbr:=fQ d;unfold D.bC;split
   .rfl
   .split
    .rfl
    .split
     .exact hbr.2.2.1
     .exact hbr.2.2.1
  refine(pO (p:=p) (d:=d.bC (dq f n r.s) (r.form d.size)) (Ok.bC hok _ _) (by rw[hsy];omega)).use hs [0] rfl rfl ?_;rintro _ _ H2 ⟨rfl,rfl⟩ hs;simp only[HV];exact⟨_,⟨by first|trivial|rfl,rfl⟩,hs.re [0,2] rfl⟩
theorem LC {K:VK}{p4:OA}{a4:Addr}{A:OA}{n m:Nat}{x:Int}{H:Hp}(hx:x≠0)(k:K (I 10) H):bd.j2 K p4 a4 A n m x H:=by
 unfold bd.j2;exact aU hx k
theorem LD {b p f n:Nat}{w:Int}(hn:1<=n)(hfn:f+n<=1048576){d:D}(hok:Ok d)(hw:d.wr<=1000000/\d.sy<=1000000)(hrd:d.rd+n<=1000000)(h12:(dt f n d).1=0->(dt f n d).2.2.length<=12)(r:R)(hg:r.cR)(b1 b2 mm:Nat)(H:Hp)
  (hs:Hw.Sep [Dk p d,ah b (bO p f n w),ah b1 (eX r),ah b2 (.row (aC (r.form d.size)) 5 mm)] H):
  bd.j2 (fun v H'=>∃ M,rU b p f n w (lQ f n d r) v M/\Hw.Sep M H') (Oo b) (O b1) (Oo b2) d.size d.size 0 H:=by
 unfold bd.j2;refine aF rfl ?_;refine(B0 (b:=b) (p:=p) (w:=w) hn hfn hok hrd h12).use hs [0,1] rfl rfl ?_;rintro _ _ H1 ⟨rfl,rfl⟩ hs;obtain⟨hok',hwr',hsy',hsz',_⟩:=Bi f n n 0 d [] hok;have hok':Ok (dt f n d).2.1:=hok';have hwr':(dt f n d).2.1.wr=d.wr:=hwr';have hsy':(dt f n d).2.1.sy=d.sy:=hsy';have hsz':(dt f n d).2.1.size=d.size:=hsz';have hj9:=fun(b1 b2 mm:Nat) (H:Hp) hs=>LF (b:=b) (p:=p) (w:=w) hn hfn hok' (by rw[hwr',hsy'];exact hw) r hg b1 b2 mm H hs
 have hap:lQ f n d r=if(dt f n d).1≠0 then((dt f n d).1,(dt f n d).2.1)else if gK (kv (dt f n d)) r=false then(5,(dt f n d).2.1)else xv f n (dt f n d).2.1 r:=by
  unfold lQ;rw[if_neg (fun h=>h hg)]
 rw[hap];rw[hsz']at hj9;generalize kv (dt f n d)=lq at*;generalize dt f n d=sc at*;obtain⟨e,d',l⟩:=sc;simp only at hj9 hs hok' hwr' hsy' hsz' h12⊢;simp only[HV];refine hs.nw fun b3 H hs=>?_
 refine hs.eY 4 (y:=(lq.getD dW).c) rfl rfl rfl (lF _) fun H hs=>?_;have hs:Hw.Sep [Dk p d',ah b (bO p f n w),ah b1 (eX r),ah b2 (.row (aC (r.form d.size)) 5 mm),ah b3 (Oa (lq.getD dW).c 110)] H:=hs;by_cases he:e≠0
 .refine aU he ?_;rw[if_pos he];exact⟨_,⟨rfl,rfl⟩,hs.re [0,1] rfl⟩
 refine aF (by omega) ?_;rw[if_neg he];cases lq with
 |some q=>
  refine cO rfl ?_;refine hs.bJ 4 rfl rfl ?_;refine hs.bJ 2 rfl rfl ?_;rw[Array.toArray_toList,Array.toArray_toList];refine aa.use (Gr q r H) ?_;simp only[HV];by_cases ha:after q r
  .rw[decide_eq_true ha];refine bY rfl (bY rfl ?_);rw[if_neg (show ¬gK (some q) r=false by show ¬(decide (after q r)=false);rw[decide_eq_true ha];decide)];exact hj9 b1 b2 mm H (hs.re [0,1,2,3] rfl)
  .rw[decide_eq_false ha];refine cO rfl ?_;rw[if_pos (show gK (some q) r=false from decide_eq_false ha)];exact⟨_,⟨rfl,rfl⟩,hs.re [0,1] rfl⟩
 |none=>
  refine bY rfl (cO rfl ?_);refine hs.cg 2 rfl rfl ?_;simp only[HV];by_cases h1:r.s=1
  .refine aF (by omega) ?_;refine hs.cg 2 rfl rfl ?_;simp only[HV];by_cases h2:r.kd=1
   .refine aF h2 ?_;rw[if_neg (show ¬gK none r=false by show ¬(decide (r.s=1/\r.kd=1)=false);rw[decide_eq_true ⟨h1,h2⟩];decide)];exact hj9 b1 b2 mm H (hs.re [0,1,2,3] rfl)
   .refine aU h2 ?_;rw[if_pos (show gK none r=false from decide_eq_false fun h=>h2 h.2)];exact⟨_,⟨rfl,rfl⟩,hs.re [0,1] rfl⟩
  .refine aU (by omega) ?_;rw[if_pos (show gK none r=false from decide_eq_false fun h=>h1 h.1)];exact⟨_,⟨rfl,rfl⟩,hs.re [0,1] rfl⟩
theorem Eh {b p f n:Nat}{w:Int}(hn:1<=n)(hfn:f+n<=1048576){d:D}(hok:Ok d)(hw:d.wr<=1000000/\d.sy<=1000000)(hrd:d.rd+n<=1000000)(h12:(dt f n d).1=0->(dt f n d).2.2.length<=12)(hsec:jZ (d.size:Int)=true)(r:R)(hu:r.u32):
  Tr prog 170 #[V b,.agg r.c] [Dk p d,ah b (bO p f n w)] (rU b p f n w (lQ f n d r)):=fun H hs=>by
 apply bd.ok;unfold bd bd.q1;have hsz:=hok.size;refine hs.nw fun b1 H hs=>?_
 have hs:Hw.Sep [Dk p d,ah b (bO p f n w),ah b1 (eX r)] H:=hs;have put:aa prog 241 #[.agg r.c,I (d.size:Int)] H fun v3 H3=>eF v3 fun l2=>az l2 fun v4 l3=>aE v4 fun A1 n1 m1=>az l3 fun v5 l4=>DI .i64 v5 fun x2=>bF l4 (bd.j2 (fun v H'=>∃ M,rU b p f n w (lQ f n d r) v M/\Hw.Sep M H') (Oo b) (O b1) A1 n1 m1 x2 H3):=by
  by_cases hg:r.cR
  .have hneed:(Lay.oA 0 (d.size:Int)).2=0:=of_decide_eq_true hsec;refine(Kq r hg hu d.size hsz.1 hsz.2 hneed).use hs [] rfl rfl ?_;rintro _ _ H1 ⟨b2,rfl,rfl⟩ hs;rw[ua r hsz.1]at hs;simp only[HV];have hs:Hw.Sep [ah b2 (.row (aC (r.form d.size)) 5 (d.size*1)),Dk p d,ah b (bO p f n w),ah b1 (eX r)] H1:=hs;exact LD hn hfn hok hw hrd h12 r hg b1 b2 _ H1 (hs.re [1,2,3,0] rfl)
  .refine aa.use (zQ r (d.size:Int) (fun h=>hg h.1) H) ?_;simp only[HV];refine LC (by decide) ?_;have:lQ f n d r=(10,d):=by unfold lQ;rw[if_pos hg]
   rw[this];exact⟨_,⟨rfl,rfl⟩,hs.re [0,1] rfl⟩
 have nH:∀{K:List Value->Prop},K r.c.toList->aY H (O b1) 8 K:=fun k=>hs.bJ 2 rfl rfl k
 have ldd:∀{K:Value->Prop},K (V p)->Ld H ((O b).add 3) K:=fun k=>hs.cg 1 rfl rfl k
 have hS:=pX hs 0 rfl;rw[dz];refine⟨nH (ldd ?_),ldd ?_⟩
 .simp only[HV];refine aa.use hS ?_;simp only[HV];exact put
 .simp only[HV];refine⟨nH ?_,?_⟩
  .refine aa.use hS ?_;simp only[HV];exact put
  .refine aa.use hS ?_;simp only[HV];refine nH ?_;rw[Array.toArray_toList];exact put
def r7 (f:Nat):Nat->Nat->D->Int×D
 |0,_,d=>(d.gY,d.fm)
 |k+1,i,d=>if d.dc ((f+i:Nat):Int) d.size≠0 then(d.dc ((f+i:Nat):Int) d.size,d.bC ((f+i:Nat):Int) (List.replicate d.size 0))else r7 f k (i+1) (d.bC ((f+i:Nat):Int) (List.replicate d.size 0))
theorem yY (d:D)(i:Int)(bs:List UInt8):(d.bC i bs).sy=d.sy/\(d.bC i bs).wr<=d.wr+1/\(d.bC i bs).size=d.size:=by
 have hbr:=fQ d;unfold D.bC;split
 .exact⟨rfl,by omega,rfl⟩
 .split
  .exact⟨rfl,by omega,rfl⟩
  .split
   .exact⟨hbr.2.2.1,by omega,hbr.2.2.2.1⟩
   .exact⟨hbr.2.2.1,Nat.le_refl _,hbr.2.2.2.1⟩
theorem lK (n:Nat):cI [Value.int .u8 0] n=aC (List.replicate n 0):=by
 rw[eR];simp[aC]
theorem vu {b p f n:Nat}{w:Int}(hfn:f+n<=1048576)(r:Int×D):∀(t i:Nat) (d:D) (H:Hp),i+t=n->Ok d->d.wr+t<=1000000->d.sy<=1000000->r=r7 f t i d->Hw.Sep [Dk p d,ah b (bO p f n w)] H->
  bm.l2 (fun v H'=>∃ M,rU b p f n w r v M/\Hw.Sep M H') (t+1) (Oo b) (n:Int) (i:Int) H
 |0,i,d,H,hi,hok,hwr,hsy,hr,hs=>by
  unfold bm.l2 bm.l2.q1;refine au (by omega) ?_
  try simp only[HS]
  refine hs.ld 1 rfl rfl ?_;simp only[HV]
  try simp only[HS]
  refine(pO (p:=p) (d:=d) hok (by omega)).use hs [0] rfl rfl ?_;rintro _ _ H1 ⟨rfl,rfl⟩ hs;have hr:r=(d.gY,d.fm):=hr;rw[hr];simp only[HV];exact⟨_,⟨rfl,rfl⟩,hs⟩
 |t+1,i,d,H,hi,hok,hwr,hsy,hr,hs=>by
  unfold bm.l2 bm.l2.q1;refine aA (by omega) ?_;have hsz:=hok.size;have hw:=yY d ((f+i:Nat):Int) (List.replicate d.size 0);have hadd:i64.wrap ((f:Int)+(i:Int))=((f+i:Nat):Int):=by rw[bg];omega
  have rest:∀ H1,Hw.Sep [Dk p (d.bC ((f+i:Nat):Int) (List.replicate d.size 0)),ah b (bO p f n w)] H1->
    aq (d.dc ((f+i:Nat):Int) d.size !=0) (∃ M,rU b p f n w r (I (d.dc ((f+i:Nat):Int) d.size)) M/\Hw.Sep M H1) (bm.l2 (fun v H'=>∃ M,rU b p f n w r v M/\Hw.Sep M H') (t+1) (Oo b) (n:Int) (i64.wrap ((i:Int)+1)) H1):=fun H1 hs=>by
   unfold r7 at hr;by_cases he:d.dc ((f+i:Nat):Int) d.size≠0
   .rw[if_pos he]at hr;refine aU he ?_;rw[hr];exact⟨_,⟨rfl,rfl⟩,hs⟩
   .rw[if_neg he]at hr;refine aF (by omega) ?_;rw[bg (x:=(i:Int)+1)];exact vu hfn r t (i+1) _ H1 (by omega) (Ok.bC hok _ _) (by omega) (by omega) hr hs
  try simp only[HS]
  refine hs.ld 1 rfl rfl ?_;simp only[HV]
  try simp only[HS]
  refine bD.use (pX hs 0 rfl) ?_;simp only[HV]
  try simp only[HS]
  refine⟨?_,?_,?_⟩
  .refine hs.ld 1 rfl rfl ?_;simp only[HV]
   try simp only[HS]
   refine⟨?_,?_⟩
   .refine hs.ld 1 rfl rfl ?_;simp only[HV]
    try simp only[HS]
    rw[hadd];refine hs.nX kG rfl (n:=d.size) (m:=d.size) rfl rfl (Nat.le_refl _) (by omega) (by omega) fun b2 H hs=>?_
    simp only[HV];rw[lK]at hs;have hs:Hw.Sep [Dk p d,ah b (bO p f n w),ah b2 (.row (aC (List.replicate d.size 0)) 5 (d.size*1))] H:=hs;refine(ki (p:=p) (d:=d) hok (by omega) ((f+i:Nat):Int) (Oo b2) d.size d.size (List.replicate d.size 0) (by rw[List.length_replicate]) (ah b2 (.row (aC (List.replicate d.size 0)) 5 (d.size*1))) (fun H h=>?_)).use hs [0,2] rfl rfl ?_
    .have:=Cells.row h 0 d.size;rw[List.drop_zero,List.take_of_length_le (by rw[bk,List.length_replicate];omega)]at this;exact this
    rintro _ _ H1 ⟨rfl,rfl⟩ hs;simp only[HV];exact rest _ (hs.re [0,2] rfl)
   .refine hs.nX kG rfl (n:=d.size) (m:=d.size) rfl rfl (Nat.le_refl _) (by omega) (by omega) fun b2 H hs=>?_
    simp only[HV];rw[lK]at hs;have hs:Hw.Sep [Dk p d,ah b (bO p f n w),ah b2 (.row (aC (List.replicate d.size 0)) 5 (d.size*1))] H:=hs;refine hs.ld 1 rfl rfl ?_;simp only[HV]
    try simp only[HS]
    rw[hadd];refine(ki (p:=p) (d:=d) hok (by omega) ((f+i:Nat):Int) (Oo b2) d.size d.size (List.replicate d.size 0) (by rw[List.length_replicate]) (ah b2 (.row (aC (List.replicate d.size 0)) 5 (d.size*1))) (fun H h=>?_)).use hs [0,2] rfl rfl ?_
    .have:=Cells.row h 0 d.size;rw[List.drop_zero,List.take_of_length_le (by rw[bk,List.length_replicate];omega)]at this;exact this
    rintro _ _ H1 ⟨rfl,rfl⟩ hs;simp only[HV];exact rest _ (hs.re [0,2] rfl)
  .refine hs.ld 1 rfl rfl ?_;simp only[HV]
   try simp only[HS]
   rw[hadd];refine⟨?_,?_⟩
   .refine hs.ld 1 rfl rfl ?_;simp only[HV]
    try simp only[HS]
    refine hs.nX kG rfl (n:=d.size) (m:=d.size) rfl rfl (Nat.le_refl _) (by omega) (by omega) fun b2 H hs=>?_
    simp only[HV];rw[lK]at hs;have hs:Hw.Sep [Dk p d,ah b (bO p f n w),ah b2 (.row (aC (List.replicate d.size 0)) 5 (d.size*1))] H:=hs;refine(ki (p:=p) (d:=d) hok (by omega) ((f+i:Nat):Int) (Oo b2) d.size d.size (List.replicate d.size 0) (by rw[List.length_replicate]) (ah b2 (.row (aC (List.replicate d.size 0)) 5 (d.size*1))) (fun H h=>?_)).use hs [0,2] rfl rfl ?_
    .have:=Cells.row h 0 d.size;rw[List.drop_zero,List.take_of_length_le (by rw[bk,List.length_replicate];omega)]at this;exact this
    rintro _ _ H1 ⟨rfl,rfl⟩ hs;simp only[HV];exact rest _ (hs.re [0,2] rfl)
   .refine hs.nX kG rfl (n:=d.size) (m:=d.size) rfl rfl (Nat.le_refl _) (by omega) (by omega) fun b2 H hs=>?_
    simp only[HV];rw[lK]at hs;have hs:Hw.Sep [Dk p d,ah b (bO p f n w),ah b2 (.row (aC (List.replicate d.size 0)) 5 (d.size*1))] H:=hs;refine hs.ld 1 rfl rfl ?_;simp only[HV]
    try simp only[HS]
    refine(ki (p:=p) (d:=d) hok (by omega) ((f+i:Nat):Int) (Oo b2) d.size d.size (List.replicate d.size 0) (by rw[List.length_replicate]) (ah b2 (.row (aC (List.replicate d.size 0)) 5 (d.size*1))) (fun H h=>?_)).use hs [0,2] rfl rfl ?_
    .have:=Cells.row h 0 d.size;rw[List.drop_zero,List.take_of_length_le (by rw[bk,List.length_replicate];omega)]at this;exact this
    rintro _ _ H1 ⟨rfl,rfl⟩ hs;simp only[HV];exact rest _ (hs.re [0,2] rfl)
  .refine hs.nX kG rfl (n:=d.size) (m:=d.size) rfl rfl (Nat.le_refl _) (by omega) (by omega) fun b2 H hs=>?_
   simp only[HV];rw[lK]at hs;have hs:Hw.Sep [Dk p d,ah b (bO p f n w),ah b2 (.row (aC (List.replicate d.size 0)) 5 (d.size*1))] H:=hs;refine hs.ld 1 rfl rfl ?_;simp only[HV]
   try simp only[HS]
   refine hs.ld 1 rfl rfl ?_;simp only[HV]
   try simp only[HS]
   rw[hadd];refine(ki (p:=p) (d:=d) hok (by omega) ((f+i:Nat):Int) (Oo b2) d.size d.size (List.replicate d.size 0) (by rw[List.length_replicate]) (ah b2 (.row (aC (List.replicate d.size 0)) 5 (d.size*1))) (fun H h=>?_)).use hs [0,2] rfl rfl ?_
   .have:=Cells.row h 0 d.size;rw[List.drop_zero,List.take_of_length_le (by rw[bk,List.length_replicate];omega)]at this;exact this
   rintro _ _ H1 ⟨rfl,rfl⟩ hs;simp only[HV];exact rest _ (hs.re [0,2] rfl)
theorem Gy {b p f n:Nat}{w:Int}(hfn:f+n<=1048576){d:D}(hok:Ok d)(hwr:d.wr+n<=1000000)(hsy:d.sy<=1000000):
  Tr prog 128 #[V b] [Dk p d,ah b (bO p f n w)] (rU b p f n w (r7 f n 0 d)):=fun H hs=>by
 apply bm.ok;unfold bm
 try simp only[HS]
 refine hs.ld 1 rfl rfl ?_;simp only[HV];exact⟨n+1,vu hfn _ n 0 d H (by omega) hok hwr hsy rfl hs⟩
structure Act where
 k:Int
 i:Int
 r:R
 A:OA
 n:Nat
 m:Nat
 ks:List Bool
 A':OA
 n':Nat
 m':Nat
 b:List UInt8
structure Kp (H:Hp)(a:Act):Prop where
 n:a.n=a.ks.length
 ks:Cells H a.A (oc a.ks)
 n':a.n'=a.b.length
 b:Cells H a.A' (aC a.b)
 i: -9223372036854775808<=a.i/\a.i<=9223372036854775807
 wf:a.r.wf
theorem Kp.le {H H':Hp}{a:Act}(h:Kp H a)(k:H.le H'):Kp H' a:=⟨h.n,h.ks.le k,h.n',h.b.le k,h.i,h.wf⟩
def short (a:Act):Prop:=a.n<=20/\a.n'<=100
end Rng
namespace Rng
open Go Go.Hw Rec Srt Dsk
theorem s5 (r:Int×D×List R):kv r=none↔r.2.2=[]:=by
 unfold kv;rw[List.getLast?_eq_none_iff];constructor
 .intro h;have:=kY (r.2.2.length-1) r.2.2;rw[h]at this;exact List.length_eq_zero_iff.1 this.symm
 .intro h;rw[h];rfl
theorem yq {r:Int×D×List R}{q:R}(h:kv r=some q):q∈r.2.2/\∀ x∈r.2.2,x.s<=q.s:=by
 unfold kv at h;have hp:=Fe r.2.2;have hs:=Ap r.2.2;generalize fL r.2.2 (r.2.2.length-1)=l at*;obtain⟨p,rfl⟩:=List.getLast?_eq_some_iff.1 h;refine⟨hp.mem_iff.1 (by simp),fun x hx=>?_⟩;have hx2:=hp.mem_iff.2 hx;rw[List.pairwise_append]at hs;rcases List.mem_append.1 hx2 with h1|h1
 .exact hs.2.2 x h1 q (by simp)
 .have:x=q:=by simpa using h1
  rw[this];exact Nat.le_refl _
theorem G7 {r:Int×D×List R}{q:R}(hq:q∈r.2.2)(hm:∀ x∈r.2.2,x.s<=q.s)(hd:∀ x∈r.2.2,x.s=q.s->x=q):kv r=some q:=by
 cases h:kv r with
 |none=>rw[(s5 r).1 h]at hq;simp at hq
 |some y=>
  obtain⟨h1,h2⟩:=yq h;have:=h2 q hq;have:=hm y h1;rw[hd y h1 (by omega)]
end Rng
namespace Eng
open Go Go.Hw Go.Form Dsk Str Rec Srt Rng
def wJ (c:Cn)(f n:Nat):Nat->Nat->List R
 |0,_=>[]
 |k+1,i=>lI f n (c ((f+i:Nat):Int)) i++wJ c f n k (i+1)
def eT (c:Cn)(k:Nat)(b:List UInt8):Cn:=fun i=>if i=(k:Int)then b else c i
def jh (c:Cn)(f n:Nat):Option R:=kv (0,(D.fresh 1 32),wJ c f n n 0)
theorem Ax {d:D}{e:Int}{c:Cn}{f n:Nat}:kv (e,d,wJ c f n n 0)=jh c f n:=rfl
theorem pS (c:Cn)(f n:Nat)(x:R):∀ k i,x∈wJ c f n k i↔∃ j,i<=j/\j<i+k/\x∈lI f n (c ((f+j:Nat):Int)) j
 |0,i=>by
  constructor
  .intro h;cases h
  .rintro⟨j,h1,h2,_⟩;omega
 |k+1,i=>by
  show x∈_++_↔_
  rw[List.mem_append,pS c f n x k (i+1)];constructor
  .rintro(h|⟨j,h1,h2,h3⟩)
   .exact⟨i,Nat.le_refl _,by omega,h⟩
   .exact⟨j,by omega,by omega,h3⟩
  .rintro⟨j,h1,h2,h3⟩;by_cases e:j=i
   .subst e;exact .inl h3
   .exact .inr ⟨j,by omega,by omega,h3⟩
theorem tG {f n:Nat}{bs:List UInt8}{i:Nat}{x:R}:x∈lI f n bs i↔(dD bs).2=0/\dq f n x.s=f+i/\x=(dD bs).1:=by
 unfold lI;split
 .rename_i h
  rw[List.mem_singleton];constructor
  .rintro rfl;exact⟨h.1,h.2,rfl⟩
  .rintro⟨_,_,h3⟩;exact h3
 .rename_i h
  constructor
  .intro h';cases h'
  .rintro⟨h1,h2,rfl⟩;exact absurd ⟨h1,h2⟩ h
theorem wD {d:D}{c:Cn}(h:Clean d c)(f n:Nat):∀(k i t:Nat) (acc:List R),f+i+k<=d.sec->d.aH=0\/t<d.aH->
  ((d.aH=0\/t+k<d.aH)/\gW f n k i (D.bE d t) acc=(0,D.bE d (t+k),acc++wJ c f n k i))\/(∃ j,j<t+k/\d.aH=j+1/\gW f n k i (D.bE d t) acc=(8,D.dead (D.bE d j),[]))
 |0,i,t,acc,hf,hl=>.inl ⟨hl,by show(0,D.bE d t,acc)=_;rw[Nat.add_zero];show _=(0,D.bE d t,acc++[]);rw[List.append_nil]⟩
 |k+1,i,t,acc,hf,hl=>by
  have hc:=h.bE t;have hchk:(D.bE d t).jR ((f+i:Nat):Int)=0:=og hc.down (Int.natCast_nonneg _) (by show _<(d.sec:Int);omega);unfold gW;rw[if_neg (by rw[hchk];simp)];have hfu:(D.bE d t).aH=d.aH-t:=rfl;by_cases hb:d.aH-t=1
  .rw[if_pos (by unfold D.dr;simp[hfu,hb]),kW (by rw[hfu];exact hb)];exact .inr ⟨t,by omega,by omega,rfl⟩
  .rw[if_neg (by unfold D.dr;simp[hfu,hb])];have e:D.red (D.bE d t)=D.bE d (t+1):=by
    unfold D.red;rw[ko hc.down (by rw[hfu];exact hb)];exact Be d t
   rw[e,hc.now];rcases wD h f n k (i+1) (t+1) (acc++lI f n (c ((f+i:Nat):Int)) i) (by omega) (by omega)with⟨h1,h2⟩|⟨j,h1,h2,h3⟩
   .refine .inl ⟨by omega,?_⟩;rw[h2,List.append_assoc,show t+1+k=t+(k+1) by omega];rfl
   .exact .inr ⟨j,by omega,h2,h3⟩
theorem uN {d:D}{c:Cn}(h:Clean d c)(f n:Nat)(hf:f+n<=d.sec):
  ((d.aH=0\/n<d.aH)/\dt f n d=(0,D.bE d n,wJ c f n n 0))\/(∃ j,j<n/\d.aH=j+1/\dt f n d=(8,D.dead (D.bE d j),[])):=by
 rcases wD h f n n 0 0 [] (by omega) (by omega)with⟨h1,h2⟩|⟨j,h1,h2,h3⟩
 .rw[Nat.zero_add]at h1 h2;exact .inl ⟨h1,h2⟩
 .rw[Nat.zero_add]at h1;exact .inr ⟨j,h1,h2,h3⟩
theorem Prog.wrote {S:Int->Prop}{d:D}(h:Ok d)(hl:d.down=false)(hf:d.aH≠1){i:Int}(hi:S i){bs:List UInt8}(hb:bs.length=d.size):Prog S d (d.wrote i bs) 0 1:=by
 have hbt:=ko hl hf;have hbr:=fQ d;unfold D.wrote;refine⟨⟨h.bu.sec,h.bu.size,h.bu.kV,h.bu.ae,h.bu.safe,fun k b hk=>?_,h.bu.fz⟩,?_,?_,by omega,hbr.2.2.2.2.1,hbr.2.2.2.1,hbr.2.2.2.2.2.1,hbr.2.2.1,fun k hk=>?_,fun k hk=>?_,hbr.1,rfl⟩
 .have hk':gD d.cache i bs k=some b:=hk;show b.length=d.bu.size
  rw[hbr.2.2.2.1];unfold gD at hk';split at hk'
  .cases hk';exact hb
  .exact h.cache k b hk'
 .show d.bu.down=false;rw[hbt];exact hl
 .show d.bu.aH=_;rw[hbt]
 .have hne:k≠i:=fun e=>hk (e▸hi)
  show gD d.cache i bs k=_
  unfold gD;rw[if_neg hne]
 .have hne:k≠i:=fun e=>hk (e▸hi)
  show qz d.gE i k=_
  unfold qz;rw[if_neg hne]
def pb (d:D)(k:Nat)(b:List UInt8):Int×D:=
 if d.dc k d.size≠0 then(d.dc k d.size,d.bC k b)else((d.bC k b).gY,(d.bC k b).fm)
theorem tj {d:D}{c:Cn}(h:Clean d c)(k:Nat)(hk:k<d.sec)(b:List UInt8)(hb:b.length=d.size):
  ∃ d',(pb d k b=(0,d')/\fh d d' 0 1 1/\Clean d' (eT c k b))\/(pb d k b=(8,d')/\fY d d' 2/\Left d' fun c'=>c'=c\/c'=eT c k b):=by
 have hchk:d.jR (k:Int)=0:=og h.down (Int.natCast_nonneg _) (by omega);unfold pb;by_cases hf:d.aH=1
 .have hbn:d.dr=true:=by unfold D.dr;simp[hf]
  have e1:d.dc k d.size=8:=by unfold D.dc;rw[if_neg (by rw[hchk];simp),if_neg (by simp),hbn];rfl
  have e2:d.bC k b=D.dead d:=by unfold D.bC;rw[if_neg (by rw[hchk];simp),if_neg (by simp[hb]),hbn,kW hf];rfl
  rw[e1,e2,if_pos (by decide)];refine⟨_,.inr ⟨rfl,⟨Ok.dead h.ok,h.Ah,rfl,rfl,rfl,rfl,?_,Nat.le_refl _,Nat.le_refl _,Nat.le_refl _,by omega,by omega⟩,fun c' hc=>.inl (funext fun i=>?_)⟩⟩
  .show d.rd+d.wr+d.sy+1=_;omega
  .rcases hc i with e|e
   .exact e.trans (h.sat i)
   .exact e.trans (h.now i)
 .have hbn:d.dr=false:=by unfold D.dr;exact decide_eq_false hf
  have e1:d.dc k d.size=0:=by unfold D.dc;rw[if_neg (by rw[hchk];simp),if_neg (by simp),hbn];rfl
  have e2:d.bC k b=d.wrote k b:=by unfold D.bC;rw[if_neg (by rw[hchk];simp),if_neg (by simp[hb]),hbn];rfl
  rw[e1,e2,if_neg (by simp)];have p:=Prog.wrote (S:=fun i=>i=(k:Int)) h.ok h.down hf rfl hb;have hnow:(d.wrote k b).now=eT c k b:=funext fun i=>by
   unfold eT;by_cases hi:i=(k:Int)
   .rw[if_pos hi];show((gD d.cache k b i)).getD _=b
    unfold gD;rw[if_pos hi];rfl
   .rw[if_neg hi];exact(h.prog p i).2 hi
  rcases h.sync p (fun i hi=>⟨by omega,by omega⟩)with⟨s1,s2,s3⟩|⟨s1,s2,s3⟩
  .rw[hnow]at s3;exact⟨_,.inl ⟨by rw[s1],s2,s3⟩⟩
  .refine⟨_,.inr ⟨by rw[s1],s2,s3.mono fun c' hc=>?_⟩⟩;rw[hnow]at hc;by_cases hk':c' (k:Int)=c k
   .left
    funext i
    by_cases hi:i=(k:Int)
    .rw[hi];exact hk'
    .exact hc.2 i hi
   .right
    funext i
    by_cases hi:i=(k:Int)
    .rw[hi];exact(hc.1 _).resolve_left hk'
    .rw[hc.2 i hi];unfold eT;rw[if_neg hi]
theorem qu {f n s:Nat}(hn:1<=n:=by omega):f<=dq f n s/\dq f n s<f+n:=by
 have:=Nat.mod_lt (s-1) (show n>0 by omega);unfold dq;omega
theorem EH {d:D}{c:Cn}(h:Clean d c){f n:Nat}(hn:1<=n)(hf:f+n<=d.sec)(r:R):
  (¬r.cR/\lQ f n d r=(10,d))\/
  (r.cR/\∃ d',lQ f n d r=(8,d')/\fY d d' n/\Left d' fun c'=>c'=c)\/
  (r.cR/\gK (jh c f n) r=false/\∃ d',lQ f n d r=(5,d')/\fh d d' n 0 0/\Clean d' c)\/
  (r.cR/\gK (jh c f n) r=true/\∃ d',lQ f n d r=(8,d')/\fY d d' (n+2)/\Left d' fun c'=>c'=c\/c'=eT c (dq f n r.s) (r.form d.size))\/
  (r.cR/\gK (jh c f n) r=true/\∃ d',lQ f n d r=(0,d')/\fh d d' n 1 1/\Clean d' (eT c (dq f n r.s) (r.form d.size))):=by
 by_cases hg:r.cR
 .right;have e0:lQ f n d r=if(dt f n d).1≠0 then((dt f n d).1,(dt f n d).2.1)else if gK (kv (dt f n d)) r=false then(5,(dt f n d).2.1)else xv f n (dt f n d).2.1 r:=by
   unfold lQ;rw[if_neg (fun h=>h hg)]
  rcases uN h f n hf with⟨h1,h2⟩|⟨j,h1,h2,h3⟩
  .right;rw[h2,Ax,if_neg (by simp)]at e0;have hw:=fh.bE h1;have hc:=h.bE n;cases hm:gK (jh c f n) r with
   |false=>
    left;rw[if_pos hm]at e0;exact⟨hg,rfl,_,e0,hw,hc⟩
   |true=>
    right;rw[if_neg (by rw[hm];simp)]at e0;have hsl:=qu (f:=f) (s:=r.s) hn;have hp:=tj hc (dq f n r.s) (by show _<d.sec;omega) (r.form d.size) (tq r h.ok.size.1);have e1:xv f n (D.bE d n) r=pb (D.bE d n) (dq f n r.s) (r.form d.size):=rfl;rw[e1]at e0;obtain⟨d',⟨e2,h4,h5⟩|⟨e2,h4,h5⟩⟩:=hp
    .exact .inr ⟨hg,rfl,d',e0.trans e2,by have:=hw.trans h4;simpa using this,h5⟩
    .exact .inl ⟨hg,rfl,d',e0.trans e2,by have:=hw.cut h4;simpa using this,h5⟩
  .left;rw[h3,if_pos (by show(8:Int)≠0;decide)]at e0;exact⟨hg,_,e0,fY.bE h h2 h1,Left.bE h j⟩
 .left;exact⟨hg,by unfold lQ;rw[if_pos hg]⟩
theorem G9 {c:Cn}{f n size:Nat}(hn:1<=n)(hsz:32<=size)(hsec:jZ (size:Int)=true){r:R}(hg:r.cR)(hu:r.u32)(hm:gK (jh c f n) r=true):
  jh (eT c (dq f n r.s) (r.form size)) f n=some r:=by
 have hsl:=qu (f:=f) (s:=r.s) hn;have ht:=D0 r hg hu hsz hsec;have hstand:∀ j,j<n->∀ x,x∈lI f n (eT c (dq f n r.s) (r.form size) ((f+j:Nat):Int)) j->x=r\/x∈wJ c f n n 0:=fun j hj x hx=>by
  unfold eT at hx;by_cases e:((f+j:Nat):Int)=(dq f n r.s:Nat)
  .rw[if_pos e,tG,ht]at hx;exact .inl hx.2.2
  .rw[if_neg e]at hx;exact .inr ((pS c f n x n 0).2 ⟨j,Nat.zero_le _,by omega,hx⟩)
 have hless:∀ x∈wJ c f n n 0,x.s<r.s:=fun x hx=>by
  unfold gK at hm;cases hq:jh c f n with
  |none=>
   have e:wJ c f n n 0=[]:=(s5 _).1 hq;rw[e]at hx;cases hx
  |some q=>
   rw[hq]at hm;have ha:after q r:=of_decide_eq_true hm;have:=(yq hq).2 x hx;have:=ha.2.2.1;omega
 refine G7 (q:=r) ?_ (fun x hx=>?_) fun x hx e=>?_
 .refine(pS _ f n r n 0).2 ⟨dq f n r.s-f,Nat.zero_le _,by omega,?_⟩;rw[show f+(dq f n r.s-f)=dq f n r.s by omega,tG];unfold eT;rw[if_pos rfl,ht];exact⟨rfl,by omega,rfl⟩
 .obtain⟨j,_,h2,h3⟩:=(pS _ f n x n 0).1 hx;rcases hstand j (by omega) x h3 with e|e
  .rw[e];exact Nat.le_refl _
  .exact Nat.le_of_lt (hless x e)
 .obtain⟨j,_,h2,h3⟩:=(pS _ f n x n 0).1 hx;rcases hstand j (by omega) x h3 with e'|e'
  .exact e'
  .have:=hless x e';omega
end Eng
namespace Sup
open Go Go.Hw Go.Form W Lay
theorem zL (s:Int)(hs:0<bP s)(H:Hp):aa prog 227 #[U s] H (RetE (I (fX s+1)) H):=by
 apply gT.ok;unfold gT;refine aa.use (v:=I (fX s+1)) ?_ (RetE.mk _ _);apply cu.ok;have:s=32\/s=64\/s=128\/s=256\/s=512\/s=1024\/s=2048\/s=4096:=by
  unfold bP at hs
  repeat' split at hs
  all_goals omega
 unfold cu;rcases this with rfl|rfl|rfl|rfl|rfl|rfl|rfl|rfl
 all_goals
  refine bY rfl ?_;unfold cu.j4;refine bY rfl ?_;unfold cu.j7
  first
   |(refine cO rfl ⟨by decide,by decide,?_⟩;refine Ff (by decide) ?_;exact RetE.of rfl)
   |(refine bY rfl ⟨by decide,?_⟩;refine Ff (by decide) ?_;exact RetE.of rfl)
def eU (k:Nat)(s:Int):Nat:=4702392716946833408+k*65536+(fX s).toNat
def nP (k sec s ar:Int):List UInt64:=[UInt64.ofNat (eU k.toNat s),UInt64.ofNat sec.toNat,UInt64.ofNat ar.toNat]
def pe (k sec s ar:Int):List UInt64:=nP k sec s ar++[UInt64.ofNat (Go.Crc.sum (form (nP k sec s ar))).toNat]
def fI (k sec s ar:Int):List UInt8:=form (pe k sec s ar)++List.replicate (s.toNat-32) 0
theorem Fs (s:Int):fX s<=12:=by
 rcases pQ s with h|h<;>omega
theorem Aj (k:Nat)(sec s ar:Int)(hk:k<=65535)(hs:0<bP s)(H:Hp):aa prog 195 #[.agg (fx k sec s ar)] H (RetE (U ((UInt64.ofNat (eU k s)).toNat:Int)) H):=by
 apply aa.ret;apply mC.ok;unfold mC;simp only[HS];refine(Sep.start H).nw fun b1 H hs'=>?_
 have hs0:=hs;have hs:=hs';have h1:=pQ s;have h2:=rJ s
 first|refine hs.ld 1 rfl rfl ?_|refine hs.ld 2 rfl rfl ?_|refine hs.ld 3 rfl rfl ?_|refine hs.ld 4 rfl rfl ?_|refine hs.ld 5 rfl rfl ?_|refine hs.ld 6 rfl rfl ?_|refine hs.ld 7 rfl rfl ?_|refine hs.ld 8 rfl rfl ?_
 try simp only[HV]
 refine⟨by omega,?_⟩
 first|refine hs.ld 1 rfl rfl ?_|refine hs.ld 2 rfl rfl ?_|refine hs.ld 3 rfl rfl ?_|refine hs.ld 4 rfl rfl ?_|refine hs.ld 5 rfl rfl ?_|refine hs.ld 6 rfl rfl ?_|refine hs.ld 7 rfl rfl ?_|refine hs.ld 8 rfl rfl ?_
 try simp only[HV]
 rw[iQ (x:=s)];refine bD.use (zL s hs0 H) ?_
 try simp only[HV]
 have h3:eU k s<2^64:=by unfold eU;omega
 rw[show fX s+1-1=fX s by omega,bg (x:=fX s),iQ (x:=fX s),fC (n:=k)];rw[DY (i:=(16:Int)) (n:=16) rfl,Nat.mod_eq_of_lt (by omega)];obtain⟨g,hg⟩:=Int.eq_ofNat_of_zero_le (show 0<=fX s by omega);have h4:k*2^16<2^64:=by omega
 rw[show(4702392716946833408:Int)=((4702392716946833408:Nat):Int)from rfl,IE (by omega) h4,hg,IE (zt (by omega) h4) (by omega)];have e1:∀ q,q=4702392716946833408->q|||k*2^16=q+k*2^16:=fun q hq=>by
  have h5:∀ p,p=1094861123->p*2^32=q:=fun p hp=>by omega
  have:=Nat.shiftLeft_add_eq_or_of_lt (show k*2^16<2^32 by omega) 1094861123;rw[Nat.shiftLeft_eq,h5 _ rfl]at this;exact this.symm
 have e2:∀ q,q=4702392716946833408+k*2^16->q|||g=q+g:=fun q hq=>by
  have h5:∀ p,p=1094861123*2^16+k->p*2^16=q:=fun p hp=>by omega
  have:=Nat.shiftLeft_add_eq_or_of_lt (show g<2^16 by omega) (1094861123*2^16+k);rw[Nat.shiftLeft_eq,h5 _ rfl]at this;exact this.symm
 have e3:4702392716946833408+k*2^16+g=eU k s:=by unfold eU;rw[hg];rfl
 rw[e1 _ rfl,e2 _ rfl,e3];rw[show(UInt64.ofNat (eU k s)).toNat=eU k s from UInt64.toNat_ofNat_of_lt' h3];exact hs.fin 0 rfl _
theorem sA (k sec s ar:Int):(pe k sec s ar).length=4:=rfl
theorem sx (k sec s ar:Int)(hs:0<bP s):((fI k sec s ar).length:Int)=s:=by
 have h1:=pQ s;unfold fI;rw[List.length_append,dI,sA,List.length_replicate];have:4<=bP s:=by
  rcases h1 with h|h
  .rw[h.2.2.2.2];have:2^2<=2^(fX s-3).toNat:=Nat.pow_le_pow_right (by omega) (by omega);omega
  .omega
 omega
theorem fi :ed prog 108=some (1,8,some #[.int .u64 0]):=by kernel_rfl
theorem Aa :ed prog 5=some (1,1,some #[.int .u8 0]):=by kernel_rfl
theorem zQ (k sec s ar:Int)(h:eB k sec s ar=false)(H:Hp):aa prog 184 #[.agg (fx k sec s ar)] H (RetE (.tuple #[.slice none 0 0,I 1]) H):=by
 apply aa.ret;apply kE.ok;unfold kE;refine(Sep.start H).nw fun b1 H hs=>?_
 first|refine hs.bJ 1 rfl rfl ?_|refine hs.bJ 2 rfl rfl ?_|refine hs.bJ 3 rfl rfl ?_|refine hs.bJ 4 rfl rfl ?_|refine hs.bJ 5 rfl rfl ?_|refine hs.bJ 6 rfl rfl ?_|refine hs.bJ 7 rfl rfl ?_|refine hs.bJ 8 rfl rfl ?_
 try simp only[HV]
 refine aa.use (fA k sec s ar H) ?_
 try simp only[HV]
 rw[h];exact hs.fin 0 rfl _
theorem lf {x:Nat}(h:x<2^64:=by omega):(UInt64.ofNat x).toNat=x:=UInt64.toNat_ofNat_of_lt' h
theorem oY (k sec s ar:Int)(h:eB k sec s ar=true)(hsec:sec<=9223372036854775807):Tr prog 184 #[.agg (fx k sec s ar)] [] fun v M=>∃ b,v= .tuple #[.slice (Oo b) s.toNat s.toNat,I 0]/\M=[ah b (.row (aC (fI k sec s ar)) 5 s.toNat)]:=fun H _=>by
 have hg:=h;unfold eB at hg;simp only[decide_eq_true_eq]at hg;obtain⟨h1,h2,h3,h4,h5,h6⟩:=hg;obtain⟨kn,rfl⟩:=Int.eq_ofNat_of_zero_le h1;have hp:=rJ s;have hlog:=pQ s;have hlen:=sx kn sec s ar h3;apply kE.ok;unfold kE;simp only[HS];refine(Sep.start H).nw fun b1 H hs=>?_
 first|refine hs.bJ 1 rfl rfl ?_|refine hs.bJ 2 rfl rfl ?_|refine hs.bJ 3 rfl rfl ?_|refine hs.bJ 4 rfl rfl ?_|refine hs.bJ 5 rfl rfl ?_|refine hs.bJ 6 rfl rfl ?_|refine hs.bJ 7 rfl rfl ?_|refine hs.bJ 8 rfl rfl ?_
 try simp only[HV]
 refine aa.use (fA kn sec s ar H) ?_
 try simp only[HV]
 rw[h];simp only[HV]
 first|refine hs.bJ 1 rfl rfl ?_|refine hs.bJ 2 rfl rfl ?_|refine hs.bJ 3 rfl rfl ?_|refine hs.bJ 4 rfl rfl ?_|refine hs.bJ 5 rfl rfl ?_|refine hs.bJ 6 rfl rfl ?_|refine hs.bJ 7 rfl rfl ?_|refine hs.bJ 8 rfl rfl ?_
 try simp only[HV]
 refine bD.use (Aj kn sec s ar (by omega) h3 H) ?_
 try simp only[HV]
 first|refine hs.ld 1 rfl rfl ?_|refine hs.ld 2 rfl rfl ?_|refine hs.ld 3 rfl rfl ?_|refine hs.ld 4 rfl rfl ?_|refine hs.ld 5 rfl rfl ?_|refine hs.ld 6 rfl rfl ?_|refine hs.ld 7 rfl rfl ?_|refine hs.ld 8 rfl rfl ?_
 try simp only[HV]
 first|refine hs.ld 1 rfl rfl ?_|refine hs.ld 2 rfl rfl ?_|refine hs.ld 3 rfl rfl ?_|refine hs.ld 4 rfl rfl ?_|refine hs.ld 5 rfl rfl ?_|refine hs.ld 6 rfl rfl ?_|refine hs.ld 7 rfl rfl ?_|refine hs.ld 8 rfl rfl ?_
 try simp only[HV]
 rw[iQ (x:=sec),iQ (x:=ar)];have hw:([U ((UInt64.ofNat (eU kn s)).toNat:Int),U sec,U ar]:List Value)=af (nP kn sec s ar):=by
  unfold nP af;simp only[List.map_cons,List.map_nil,Int.toNat_natCast];rw[lf (x:=sec.toNat),lf (x:=ar.toNat)];rw[show((sec.toNat:Nat):Int)=sec by omega,show((ar.toNat:Nat):Int)=ar by omega]
 rw[hw];refine hs.nw fun b2 H hs=>?_
 first|refine hs.ld 1 rfl rfl ?_|refine hs.ld 2 rfl rfl ?_|refine hs.ld 3 rfl rfl ?_|refine hs.ld 4 rfl rfl ?_|refine hs.ld 5 rfl rfl ?_|refine hs.ld 6 rfl rfl ?_|refine hs.ld 7 rfl rfl ?_|refine hs.ld 8 rfl rfl ?_
 try simp only[HV]
 refine hs.nX Aa rfl (n:=s.toNat) (m:=s.toNat) (by omega) (by omega) (Nat.le_refl _) (by omega) (by omega) fun bo H hs=>?_
 simp only[HV];have hc2:∀ H,H b2=some (.row (af (nP kn sec s ar)) 108 3)->Cells H (Oo b2) (af (nP kn sec s ar)):=fun H hb=>Cells.row hb 0 3
 refine aa.use (CrcP.rV (Oo b2) 3 3 (nP kn sec s ar) rfl (by omega) H (hc2 H (hs.get 2 rfl))) ?_
 try simp only[HV]
 have hsum:=(Go.Crc.sum (form (nP kn sec s ar))).isLt;rw[fC (n:=(Go.Crc.sum (form (nP kn sec s ar))).toNat)];have hs:Sep [own _,ah b1 _,cj 108 1 (Oo b2) 3 3 (af (nP kn sec s ar)),ah bo (.row (cI [.int .u8 0] s.toNat) 5 (s.toNat*1))] H:=hs.jy 2 rfl fun H1 hH=>⟨rfl,.inr ⟨b2,3,rfl,hH,by omega⟩⟩
 refine hs.Db 2 (by rfl) fi (by omega) (by rfl) (by omega) (by omega) fun A' m' H hs=>?_
 simp only[HV];have hw4:af (nP kn sec s ar)++[U ((Go.Crc.sum (form (nP kn sec s ar))).toNat:Int)]=af (pe kn sec s ar):=by
  unfold pe af;rw[List.map_append];congr 1;simp only[List.map_cons,List.map_nil];rw[lf]
 rw[hw4]at hs;have hc4:Cells H A' (af (pe kn sec s ar)):=by
  obtain⟨_,h7⟩:=hs.own 2 rfl;rcases h7 with⟨_,h8,_⟩|⟨b,mm,rfl,h8,_⟩
  .omega
  .exact Cells.row h8 0 4
 refine(FormP.oY A' 4 m' (pe kn sec s ar) rfl (by omega) H hc4).mono ?_;rintro v H' ⟨b4,hb4,rfl,rfl⟩;have hs:=hs.new hb4 (.row (aC (form (pe kn sec s ar))) 5 (8*4));simp only[HV];have hf:(form (pe kn sec s ar)).length=32:=by rw[dI];rfl
 have hmin:Nat.min 32 s.toNat=32:=by
  have:4<=bP s:=by
   rcases hlog with h|h
   .rw[h.2.2.2.2];have:2^2<=2^(fX s-3).toNat:=Nat.pow_le_pow_right (by omega) (by omega);omega
   .omega
  exact Nat.min_eq_left (by omega)
 refine hs.cp 3 (k:=32) (n:=s.toNat) (ys:=aC (form (pe kn sec s ar))) (by rfl) Aa rfl ?_ ?_ (fun y hy=>?_) fun H hs=>?_
 .rw[hmin];refine tF ?_ (by rw[bk,hf]);have:=Cells.row (hs.get 4 (b:=b4) (o:=.row (aC (form (pe kn sec s ar))) 5 (8*4)) rfl) 0 32;rw[List.drop_zero,List.take_of_length_le (by rw[bk,hf];exact Nat.le_refl _)]at this;exact this
 .rw[bk,hf,fg];rw[<- hmin];simp;exact Nat.min_le_right _ _
 .obtain⟨x,_,rfl⟩:=List.mem_map.1 hy;rfl
 simp only[HV];refine⟨_,⟨bo,rfl,rfl⟩,?_⟩;have hs:=hs.re [3] rfl;have e:setAt (cI [.int .u8 0] s.toNat) 0 (aC (form (pe kn sec s ar)))=aC (fI kn sec s ar):=by
  unfold fI;rw[qJ,eR];unfold setAt;rw[bk,hf];simp[aC]
 rw[e,Nat.mul_one]at hs;exact hs
theorem qU (A:OA)(n m:Nat)(H:Hp):aa prog 191 #[.slice A n m] H (RetE (.bool (decide (0<bP n))) H):=by
 apply lu.ok;unfold lu;refine aa.use (tQ 0 n H) ?_
 try simp only[HV]
 unfold oA;by_cases h:0<bP n
 .rw[if_pos (by omega)];exact RetE.of (by simp[h])
 .rw[if_neg (by omega)];exact RetE.of (by simp[h])
def rE (bs:List UInt8):Bool:=(bs.drop 32).all (· ==0)
theorem LR (b:UInt8):((b.toNat:Int) !=0)= !(b==0):=by
 by_cases h:b=0
 .subst h;rfl
 .have:b.toNat≠0:=fun e=>h (UInt8.toNat_inj.1 (by rw[e];rfl))
  have h2:(b==0)=false:=by simpa using h
  rw[h2];simp;omega
theorem uv (K:VK)(A:OA)(n m:Nat)(bs:List UInt8)(hn:n=bs.length)(hm:n<=9000000000000000000)(H:Hp)(hb:Cells H A (aC bs))(r:Bool)(hK:K (.bool (bs.all (· ==0))) H):∀ d j:Nat,j+d=n->(bs.take j).all (· ==0)=true->
  cQ.l2 K (d+1) A n m (n:Int) (j:Int) H
 |0,j,hj,h0=>by
  unfold cQ.l2;refine au (by omega) ?_;rw[List.take_of_length_le (by omega)]at h0;rw[h0]at hK;exact hK
 |d+1,j,hj,h0=>by
  unfold cQ.l2;refine aA (by omega) ?_;have hlt:j<bs.length:=by omega
  refine hb.read (i:=j) (v:=.int .u8 (bs[j].toNat:Int)) (by rw[qd,List.getElem?_eq_getElem hlt];rfl) rfl (by rw[bk];omega) ?_;simp only[HV];rw[LR];by_cases h:bs[j]=0
  .refine bY (by simp[h]) ?_;rw[bg];refine uv K A n m bs hn hm H hb r hK d (j+1) (by omega) ?_;rw[List.take_succ_eq_append_getElem hlt,List.all_append,h0];simp[h]
  .refine cO (by simp[h]) ?_;have:bs.all (· ==0)=false:=by
    rw[List.all_eq_false];exact⟨bs[j],List.getElem_mem hlt,by simpa using h⟩
   rw[this]at hK;exact hK
theorem EL (A:OA)(n m:Nat)(hnm:n<=m)(bs:List UInt8)(hn:n=bs.length)(h32:32<=n)(hm:n<=9000000000000000000)(H:Hp)(hb:Cells H A (aC bs)):
  aa prog 193 #[.slice A n m] H (RetE (.bool (rE bs)) H):=by
 apply cQ.ok;unfold cQ;refine⟨by omega,by omega,n-32+1,?_⟩;have h1:=hb.shift (m:=m) (l:=32) (by rw[bk];omega);rw[show(aC bs).drop 32=aC (bs.drop 32) by unfold aC;rw[List.map_drop]]at h1;exact uv _ _ (n-32) (m-32) (bs.drop 32) (by simp;omega) (by omega) H h1 true (RetE.mk _ _) (n-32) 0 (by omega) rfl
abbrev Sb :=Int×Int×Int×Int
def FV (x:Sb):Array Value:=fx x.1 x.2.1 x.2.2.1 x.2.2.2
def xi (a b c:Nat):Nat:=(Go.Crc.sum (form [UInt64.ofNat a,UInt64.ofNat b,UInt64.ofNat c])).toNat
def kK (bs:List UInt8):Sb:=(((aJ bs 0/65536%65536:Nat):Int),i64.wrap (aJ bs 8:Nat),((bs.length:Nat):Int),i64.wrap (aJ bs 16:Nat))
def dD (bs:List UInt8):Sb×Int:=
 if bP bs.length=0 then((0,0,0,0),15)
 else if aJ bs 0/4294967296≠1094861123\/rE bs=false then((0,0,0,0),10)
 else if aJ bs 24≠xi (aJ bs 0) (aJ bs 8) (aJ bs 16)then((0,0,0,0),9)
 else if eB (kK bs).1 (kK bs).2.1 (kK bs).2.2.1 (kK bs).2.2.2=true/\((aJ bs 0%65536:Nat):Int)=fX bs.length then(kK bs,0)
 else((0,0,0,0),1)
theorem Gf (bs:List UInt8):([U (aJ bs 0:Nat),U (aJ bs 8:Nat),U (aJ bs 16:Nat)]:List Value)=af [UInt64.ofNat (aJ bs 0),UInt64.ofNat (aJ bs 8),UInt64.ofNat (aJ bs 16)]:=by
 unfold af;simp only[List.map_cons,List.map_nil];rw[lf (ia bs 0),lf (ia bs 8),lf (ia bs 16)]
theorem Ji (a b c:Nat):xi a b c<2^32:=(Go.Crc.sum _).isLt
theorem AF {n:Int}(h:0<bP n):n=((2^(fX n).toNat:Nat):Int)/\5<=fX n/\fX n<=12:=by
 unfold bP at h;unfold fX
 repeat' split
 all_goals first|(subst_vars;refine⟨by decide,by decide,by decide⟩)|skip
 repeat' split at h
 all_goals omega
theorem FX {t:Nat}(h:t<=62):cT .i64 1 (t:Int)=((2^t:Nat):Int):=lG h
theorem G8 {a:Nat}(ha:a<2^64)(hm:a/4294967296=1094861123){sec ar n:Int}(hn:0<bP n):
  (eB ((a/65536%65536:Nat):Int) sec (cT .i64 1 ((a%64:Nat):Int)) ar=true/\eU (a/65536%65536) (cT .i64 1 ((a%64:Nat):Int))=a/\cT .i64 1 ((a%64:Nat):Int)=n)↔
   (eB ((a/65536%65536:Nat):Int) sec n ar=true/\((a%65536:Nat):Int)=fX n):=by
 obtain⟨h1,h2,h3⟩:=AF hn;constructor
 .rintro⟨g1,g2,g3⟩;rw[g3]at g1 g2;refine⟨g1,?_⟩;unfold eU at g2;omega
 .rintro⟨g1,g2⟩;obtain⟨t,ht⟩:=Int.eq_ofNat_of_zero_le (show 0<=fX n by omega);have h64:a%64=t:=by omega
  have hv:cT .i64 1 ((a%64:Nat):Int)=n:=by
   rw[h64,FX (by omega),h1,ht];rfl
  rw[hv];refine⟨g1,?_,rfl⟩;unfold eU;rw[ht]at g2⊢;have:(Int.toNat (t:Int))=t:=Int.toNat_natCast t;rw[this];omega
theorem pJ (K:VK)(d b1 b2:Nat)(A:OA)(n m:Nat)(hnm:n<=m)(hm:n<=9000000000000000000)(bs:List UInt8)(hn:n=bs.length)(h32:32<=n)(H0 H:Hp)(hb:Cells H0 A (aC bs))(c:Array Value)(hc:c.size=4)(z:Array Value)(e1 e2:TypeId)(i:Nat)(hi:i<4)
  (hs:Sep [own H0,ah b1 (Oa z e1),ah b2 (Oa c e2)] H)
  (k:∀ H,Sep [own H0,ah b1 (Oa z e1),ah b2 (Oa (c.setIfInBounds i (U (aJ bs (8*i):Nat))) e2)] H->cr.l5 K d A n m (O b1) (O b2) ((i+1:Nat):Int) H):
  cr.l5 K (d+1) A n m (O b1) (O b2) (i:Int) H:=by
 conv=>unfold cr.l5 cr.l5.q1
 refine aA (by omega) ?_;refine aa.use (FormP.xd A n m hnm hm bs hn i (by omega) H (hb.le (hs.ow 0 rfl))) ?_
 try simp only[HV]
 refine hs.stx 2 rfl (j:=i) rfl hi (by omega) rfl fun H hs=>?_;rw[bg (x:=(i:Int)+1)];exact k H hs
theorem mS (K:VK){L:List As}{H:Hp}(hs:Sep L H){b1:Nat}{z:Array Value}{e1:TypeId}(i:Nat)(hi:L[i]? =some (ah b1 (Oa z e1)))(hz:z.size=4)(e:Int)(y:Array Value)(hy:y.size=4)(hv:y.toList.all (fun v=>v.oneCell')=true)
  (hK:∀ H,Sep (L.set i (ah b1 (Oa y e1))) H->K (.tuple #[.agg y,I e]) H):cK H (O b1) y 4 fun H3=>aY H3 (O b1) 4 fun l7=>K (.tuple #[.agg l7.toArray,I e]) H3:=by
 refine hs.eY i hi hz hy hv fun H hs=>?_;have hlt:=(List.getElem?_eq_some_iff.1 hi).1;refine hs.bJ i (b:=b1) (c:=y) (e:=e1) (by rw[List.getElem?_set];simp[hlt]) hy ?_;rw[Array.toArray_toList];exact hK H hs
theorem rq (A:OA)(n m:Nat)(hnm:n<=m)(hm:n<=9000000000000000000)(bs:List UInt8)(hn:n=bs.length)(H:Hp)(hb:Cells H A (aC bs)):
  aa prog 139 #[.slice A n m] H (RetE (.tuple #[.agg (FV (dD bs).1),I (dD bs).2]) H):=by
 apply aa.ret;apply cr.ok;unfold cr;refine(Sep.start H).nw fun b1 H' hs=>?_
 have fin:∀{L:List As} {H':Hp} (x:Sb) (e:Int),Sep L H'->L[0]? =some (own H)->dD bs=(x,e)->lU (.tuple #[.agg (FV (dD bs).1),I (dD bs).2]) H (.tuple #[.agg (FV x),I e]) H':=fun x e hs h0 he=>by
  rw[he];exact hs.fin 0 h0 _
 refine aa.use (qU A n m H') ?_
 try simp only[HV]
 by_cases hp:bP (n:Int)=0
 .refine cO (by simp;omega) ?_;refine mS _ hs 1 rfl rfl 15 _ rfl rfl fun H' hs=>fin (0,0,0,0) 15 hs rfl ?_
  unfold dD;rw[<- hn,if_pos hp]
 refine bY (by simp;omega) ?_;refine hs.nw fun b2 H' hs=>?_
 have hp':0<bP (n:Int):=by omega
 have h32:32<=n:=by
  obtain⟨h1,h2,h3⟩:=AF hp';have:2^5<=2^(fX n).toNat:=Nat.pow_le_pow_right (by omega) (by omega);omega
 refine⟨5,?_⟩;refine pJ _ 4 b1 b2 A n m hnm hm bs hn h32 H H' hb _ rfl _ _ _ 0 (by omega) hs fun H' hs=>?_
 refine pJ _ 3 b1 b2 A n m hnm hm bs hn h32 H H' hb _ rfl _ _ _ 1 (by omega) hs fun H' hs=>?_
 refine pJ _ 2 b1 b2 A n m hnm hm bs hn h32 H H' hb _ rfl _ _ _ 2 (by omega) hs fun H' hs=>?_
 refine pJ _ 1 b1 b2 A n m hnm hm bs hn h32 H H' hb _ rfl _ _ _ 3 (by omega) hs fun H' hs=>?_
 have hs:Sep [own H,ah b1 (Oa #[I 0,I 0,I 0,I 0] 45),ah b2 (Oa #[U (aJ bs 0:Nat),U (aJ bs 8:Nat),U (aJ bs 16:Nat),U (aJ bs 24:Nat)] 295)] H':=hs;have w0:=ia bs 0;unfold cr.l5 cr.l5.q1;refine au (by omega) ?_;refine hs.Az 2 rfl (j:=0) rfl (by omega) rfl ?_;simp only[HV];refine⟨by omega,?_⟩;refine hs.Az 2 rfl (j:=0) rfl (by omega) rfl ?_;simp only[HV];rw[show cD .u64 ((aJ bs 0:Nat):Int) 63=((aJ bs 0%64:Nat):Int) by rw[show(63:Int)=((63:Nat):Int)from rfl,xg w0,Nat.and_two_pow_sub_one_eq_mod _ 6]];refine⟨by omega,?_⟩;refine hs.Az 2 rfl (j:=1) rfl (by omega) rfl ?_;simp only[HV];refine hs.Az 2 rfl (j:=2) rfl (by omega) rfl ?_;simp only[HV];refine hs.nw fun b3 H' hs=>?_
 refine hs.eY 3 rfl rfl rfl rfl fun H' hs=>?_
 have e16:i64.wrap (cD .u64 (cB .u64 ((aJ bs 0:Nat):Int) 16) 65535)=((aJ bs 0/65536%65536:Nat):Int):=by
  rw[qq (i:=(16:Int)) (n:=16) rfl (by decide),show(65535:Int)=((65535:Nat):Int)from rfl,xg,Nat.and_two_pow_sub_one_eq_mod _ 16,dS]
 rw[e16]at hs;refine hs.Az 2 rfl (j:=0) rfl (by omega) rfl ?_;simp only[HV];refine⟨by omega,?_⟩;rw[qq (i:=(32:Int)) (n:=32) rfl (by decide)];by_cases hmg:aJ bs 0/4294967296=1094861123
 .refine aF (by omega) ?_;refine aa.use (EL A n m hnm bs hn h32 (by omega) H' (hb.le (hs.ow 0 rfl))) ?_
  try simp only[HV]
  by_cases hz:rE bs=true
  .refine bY (by simp[hz]) ?_;refine hs.Az 2 rfl (j:=3) rfl (by omega) rfl ?_;simp only[HV];refine⟨by omega,by omega,?_⟩;have hc3:=Cells.obj (hs.get 2 (b:=b2) (o:=Oa #[U (aJ bs 0:Nat),U (aJ bs 8:Nat),U (aJ bs 16:Nat),U (aJ bs 24:Nat)] 295) rfl) 3;have hc3:Cells H' (Oo b2) (af [UInt64.ofNat (aJ bs 0),UInt64.ofNat (aJ bs 8),UInt64.ofNat (aJ bs 16)]):=by
    rw[<- Gf];exact hc3
   refine bD.use (CrcP.rV (Oo b2) 3 4 _ rfl (by omega) H' hc3) ?_;simp only[HV];have hcl:=Ji (aJ bs 0) (aJ bs 8) (aJ bs 16);rw[show(Go.Crc.sum (form [UInt64.ofNat (aJ bs 0),UInt64.ofNat (aJ bs 8),UInt64.ofNat (aJ bs 16)])).toNat=xi (aJ bs 0) (aJ bs 8) (aJ bs 16)from rfl,fC];by_cases hcr:aJ bs 24=xi (aJ bs 0) (aJ bs 8) (aJ bs 16)
   .refine aF (by omega) ?_;refine hs.bJ 3 rfl rfl ?_;have hiff:=G8 w0 hmg (sec:=i64.wrap (aJ bs 8:Nat)) (ar:=i64.wrap (aJ bs 16:Nat)) hp';have hno:¬(eB (kK bs).1 (kK bs).2.1 (kK bs).2.2.1 (kK bs).2.2.2=true/\((aJ bs 0%65536:Nat):Int)=fX bs.length)->dD bs=((0,0,0,0),1):=fun h=>by
     unfold dD;rw[<- hn,if_neg (by omega),if_neg (by simp[hmg,hz]),if_neg (by simp[hcr]),if_neg (by rw[hn];exact h)]
    have hyes:(eB (kK bs).1 (kK bs).2.1 (kK bs).2.2.1 (kK bs).2.2.2=true/\((aJ bs 0%65536:Nat):Int)=fX bs.length)->dD bs=(kK bs,0):=fun h=>by
     unfold dD;rw[<- hn,if_neg (by omega),if_neg (by simp[hmg,hz]),if_neg (by simp[hcr]),if_pos (by rw[hn];exact h)]
    have hsb:kK bs=(((aJ bs 0/65536%65536:Nat):Int),i64.wrap (aJ bs 8:Nat),(n:Int),i64.wrap (aJ bs 16:Nat)):=by unfold kK;rw[hn]
    rw[hsb]at hno hyes;simp only at hno hyes;rw[<- hn]at hno hyes;rw[<- hiff]at hno hyes;refine bD.use (fA ((aJ bs 0/65536%65536:Nat):Int) (i64.wrap (aJ bs 8:Nat)) (cT .i64 1 ((aJ bs 0%64:Nat):Int)) (i64.wrap (aJ bs 16:Nat)) H') ?_;simp only[HV];by_cases hg:eB ((aJ bs 0/65536%65536:Nat):Int) (i64.wrap (aJ bs 8:Nat)) (cT .i64 1 ((aJ bs 0%64:Nat):Int)) (i64.wrap (aJ bs 16:Nat))=true
    .refine bY (by rw[hg];rfl) ?_;refine hs.bJ 3 rfl rfl ?_;have hg2:=hg;unfold eB at hg2;simp only[decide_eq_true_eq]at hg2;refine bD.use (Aj (aJ bs 0/65536%65536) (i64.wrap (aJ bs 8:Nat)) (cT .i64 1 ((aJ bs 0%64:Nat):Int)) (i64.wrap (aJ bs 16:Nat)) (by omega) hg2.2.2.1 H') ?_;simp only[HV];have hf64:eU (aJ bs 0/65536%65536) (cT .i64 1 ((aJ bs 0%64:Nat):Int))<2^64:=by
      have:=Fs (cT .i64 1 ((aJ bs 0%64:Nat):Int));unfold eU;omega
     rw[lf hf64];refine hs.Az 2 rfl (j:=0) rfl (by omega) rfl ?_;simp only[HV];by_cases hf:eU (aJ bs 0/65536%65536) (cT .i64 1 ((aJ bs 0%64:Nat):Int))=aJ bs 0
     .refine aF (by omega) ?_;simp only[HS];refine hs.ld 3 rfl rfl ?_;simp only[HV];by_cases hv:cT .i64 1 ((aJ bs 0%64:Nat):Int)=(n:Int)
      .refine aF hv ?_;refine hs.bJ 3 rfl rfl ?_;have hy:=hyes ⟨hg,hf,hv⟩;rw[hv];refine mS _ hs 1 rfl rfl 0 _ rfl rfl fun H' hs=>fin _ 0 hs rfl hy
      .refine aU hv ?_;refine mS _ hs 1 rfl rfl 1 _ rfl rfl fun H' hs=>fin (0,0,0,0) 1 hs rfl (hno fun h=>hv h.2.2)
     .refine aU (by omega) ?_;refine mS _ hs 1 rfl rfl 1 _ rfl rfl fun H' hs=>fin (0,0,0,0) 1 hs rfl (hno fun h=>hf h.2.1)
    .refine cO (by rw[Bool.not_eq_true]at hg;rw[hg];rfl) ?_;refine mS _ hs 1 rfl rfl 1 _ rfl rfl fun H' hs=>fin (0,0,0,0) 1 hs rfl (hno fun h=>hg h.1)
   .refine aU (by omega) ?_;refine mS _ hs 1 rfl rfl 9 _ rfl rfl fun H' hs=>fin (0,0,0,0) 9 hs rfl ?_
    unfold dD;rw[<- hn,if_neg (by omega),if_neg (by simp[hmg,hz]),if_pos hcr]
  .refine cO (by simp[hz]) ?_;refine mS _ hs 1 rfl rfl 10 _ rfl rfl fun H' hs=>fin (0,0,0,0) 10 hs rfl ?_
   unfold dD;rw[<- hn,if_neg (by omega),if_pos (.inr (by simpa using hz))]
 .refine aU (by omega) ?_;refine mS _ hs 1 rfl rfl 10 _ rfl rfl fun H' hs=>fin (0,0,0,0) 10 hs rfl ?_
  unfold dD;rw[<- hn,if_neg (by omega),if_pos (.inl hmg)]
end Sup
end Go.Proofs.YtlgnlghmbcpmhaaGreatDoor
