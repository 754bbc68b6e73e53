import Derived.Test.YtlgnlghmbcpmhaaGreatDoorProg
import Derived.DeepKeys
import Derived.Test.YtlgnlghmbcpmhaaGreatDoorPkWholeProof3
set_option maxRecDepth 100000
set_option linter.unusedSimpArgs false
set_option linter.unusedVariables false
set_option linter.unnecessarySimpa false
set_option linter.unusedSectionVars false
open Go.IntKind (i64 u64 u8)
namespace Go.Proofs.YtlgnlghmbcpmhaaGreatDoor
open Tryz (prog)
namespace Are
open Go Go.Hw W
def fD (cap used aj:Int)(mp:Nat):AO:=Oa #[I cap,I used,I aj,.map (some mp)] 165
def fW (a:Nat)(A:OA)(n m:Nat):AO:=Oa #[fR a,.slice A n m] 403
theorem Cc (H:Hp)(a mp:Nat)(cap used aj:Int)(h1:0<=used/\used<=cap/\cap<=16777216)(ha:H a=some (fD cap used aj mp)):aa prog 300 #[V a] H (RetE (I (cap-used)) H):=by
 apply iY.ok;unfold iY;simp only[dz,Addr.aP,Nat.zero_add];refine ez ha (v:=I cap) rfl ?_;simp only[HV];refine ez ha (v:=I used) rfl ?_;simp only[HV];rw[bg];exact RetE.mk _ _
theorem EG (H:Hp)(a mp:Nat)(cap used aj n:Int)(h1:0<=used/\used<=16777216)(h2: -16777216<=n/\n<=16777216)(ha:H a=some (fD cap used aj mp)):
  aa prog 317 #[V a,I n] H (RetE (.tuple #[]) (H.set a (fD cap (used+n) (if used+n>aj then used+n else aj) mp))):=by
 apply jF.ok;unfold jF;simp only[dz,Addr.aP,Nat.zero_add,Nat.add_zero];refine ez ha (v:=I used) rfl ?_;simp only[HV];rw[bg];refine pY ha (by simp) rfl ?_;refine ez (Hp.bB _ _ _) (v:=I aj) rfl ?_;simp only[HV];refine ez (Hp.bB _ _ _) (v:=I (used+n)) rfl ?_;simp only[HV];refine pY (Hp.bB _ _ _) (by simp) rfl ?_;rw[Hp.set_set];exact RetE.mk _ _
theorem Ko (H:Hp)(x:Int)(h:1<=x/\x<=16777216):aa prog 143 #[I x] H (fun v H'=>∃ mp a,H mp=none/\H a=none/\a≠mp/\v=fR a/\H'=(H.set mp (fG [] 0)).set a (fD x 0 0 mp)):=by
 apply oB.ok;unfold oB;refine au (by omega) (au (by omega) ?_);intro mp hmp;intro a ha;obtain⟨h1,h2⟩:=Hp.vt ha;exact⟨mp,a,hmp,h2,h1,rfl,rfl⟩
theorem GO (H:Hp)(b a:Nat)(A:OA)(n m:Nat)(hb:H b=some (fW a A n m)):aa prog 237 #[fR b] H (RetE (.slice A n m) H):=by
 apply ij.ok;unfold ij;simp only[dz,Addr.aP,Nat.zero_add,Nat.add_zero];refine ez hb (v:=.slice A n m) rfl ?_;simp only[HV];exact RetE.mk _ _
theorem zC :prog.underlying 331=some (.pointer 403):=by kernel_rfl
theorem zB :prog.underlying 163=some (.map 331 3):=by kernel_rfl
theorem IT :∃ j,prog.info? 403=some j/\j.size≠0:=by
 have h:(prog.info? 403).map (·.size)=some 2:=by kernel_rfl
 obtain⟨j,hj,h2⟩:=Option.map_eq_some_iff.1 h;exact⟨j,hj,by rw[h2];omega⟩
theorem LP :∃ j,prog.info? 3=some j/\j.zero=some (I 0):=by
 have h:(prog.info? 3).map (·.zero)=some (some (I 0)):=by kernel_rfl
 obtain⟨j,hj,h2⟩:=Option.map_eq_some_iff.1 h;exact⟨j,hj,h2⟩
theorem fi :ed prog 108=some (1,8,some #[.int .u64 0]):=by kernel_rfl
theorem vU (a:Nat):∀(l:List (Nat×Int×Nat)) (i:Nat),(∀ x∈l,x.1≠a)->gH a l i=none
 | [],_,_=>rfl
 |x::l,i,h=>by unfold gH;rw[if_neg (fun e=>h x (by simp) e.symm)];exact vU a l (i+1) (fun y hy=>h y (by simp[hy]))
def dX (n:Nat):List Value:=cI [U 0] n
theorem rq (H:Hp)(a mp:Nat)(cap used aj n:Int)(l:List (Nat×Int×Nat))(clock:Nat)(h1:0<=used/\used<=cap/\cap<=16777216)(hn:1<=n/\n<=cap-used)(hne:a≠mp)
  (ha:H a=some (fD cap used aj mp)) (hm:H mp=some (fG l clock)) (hl:∀ x∈l,fM H x.1):
  aa prog 255 #[fR a,I n] H (fun v H'=>∃ rb b,H rb=none/\H b=none/\b≠rb/\v= .tuple #[fR b,I 0]/\
   H'=(((H.set rb (.row (dX n.toNat) 108 n.toNat)).set b (fW a (Oo rb) n.toNat n.toNat)).set mp (fG (l++[(b,n,clock)]) (clock+1))).set a (fD cap (used+n) (if used+n>aj then used+n else aj) mp)):=by
 obtain⟨jb,hjb,hsb⟩:=IT;apply iX.ok;unfold iX;refine au (by omega) ?_;simp only[dz,Addr.aP,Nat.zero_add,Nat.add_zero];refine aa.use (Cc H a mp cap used aj h1 ha) ?_
 try simp only[HV]
 refine au (by omega) ?_;refine zO fi rfl (n:=n.toNat) (m:=n.toNat) (by omega) (by omega) (Nat.le_refl _) (by omega) (by omega) ?_;intro rb hrb;rw[Nat.mul_one];simp only[HV];intro b hb;obtain⟨hbr,hb'⟩:=Hp.vt hb;have har:a≠rb:=fun e=>by rw[e,hrb]at ha;cases ha
 have hab:a≠b:=fun e=>by rw[e,hb']at ha;cases ha
 have hmr:mp≠rb:=fun e=>by rw[e,hrb]at hm;cases hm
 have hmb:mp≠b:=fun e=>by rw[e,hb']at hm;cases hm
 have hle:=Hp.le_trans (Hp.jV (o:=.row (dX n.toNat) 108 n.toNat) hrb) (Hp.jV (o:=fW a (Oo rb) n.toNat n.toNat) hb);refine ez (hle _ _ ha) (v:=.map (some mp)) rfl ?_;simp only[HV];refine zb zC hjb hsb zB (hle _ _ hm) ⟨_,_,Hp.bB _ _ _⟩ (fun x hx=>(hl x hx).le hle) (vU b l 0 (fun x hx e=>by
  obtain⟨c,e',hxx⟩:=hl x hx;rw[e,hb']at hxx;cases hxx)) ?_
 refine aa.use (EG _ a mp cap used aj n (by omega) (by omega) (by rw[Hp.bK _ _ hne];exact hle _ _ ha)) ?_;exact⟨rb,b,hrb,hb',hbr,rfl,rfl⟩
def Mc (i k:Nat):Value:=U ((100*i+k+1:Nat):Int)
def Md (i n:Nat):List Value:=(List.range n).map (Mc i)
structure Inv (H0 H:Hp)(a mp cl:Nat)(tk:List (Nat×Int×Nat))(used aj:Int)(bs:List (Nat×Nat×Nat))(A:OA)(n m:Nat):Prop where
 le:H0.le H
 ne:a≠mp
 ha:H a=some (fD 1000 used aj mp)
 Mv:H0 a=none
 hm:H mp=some (fG tk cl)
 Mw:H0 mp=none
 hl:∀ x∈tk,fM H x.1
 hb:∀(j:Nat) (x:Nat×Nat×Nat),bs[j]? =some x->H x.1=some (fW a (some ⟨x.2.1,0,none⟩) x.2.2 x.2.2)/\H x.2.1=some (.row (Md j x.2.2) 108 x.2.2)/\x.2.2<=64
 hn:n=bs.length
 all:(A=none/\bs=[]/\m=0)\/∃ ab mm,A=some (O ab)/\H0 ab=none/\H ab=some (.row (bs.map fun x=>fR x.1) 331 mm)/\m<=mm
theorem Inv.cells {H0 H:Hp}{a mp cl:Nat}{tk:List (Nat×Int×Nat)}{used aj:Int}{bs:List (Nat×Nat×Nat)}{A:OA}{n m:Nat}(h:Inv H0 H a mp cl tk used aj bs A n m):Cells H A (bs.map fun x=>fR x.1):=by
 rcases h.all with⟨rfl,rfl,_⟩|⟨ab,mm,rfl,_,hab,_⟩
 .exact Cells.nil _ _
 .have:=Cells.row hab 0 bs.length
  rwa [List.drop_zero,List.take_of_length_le (by simp)]at this
def th (p:Option Nat):Value:=match p with|some b=>fR b|none=>.pointer none
def gx (tk:List (Nat×Int×Nat)):Int:=(tk.map fun x=>x.2.1).sum
structure AI (H:Hp)(a mp cl:Nat)(tk:List (Nat×Int×Nat))(cap used aj:Int):Prop where
 ne:a≠mp
 ha:H a=some (fD cap used aj mp)
 hm:H mp=some (fG tk cl)
 nd:(tk.map (·.1)).Nodup
 hb:∀ x∈tk,1<=x.2.1/\∃ A n m,H x.1=some (fW a A n m)
 hu:used=gx tk/\used<=cap/\cap<=16777216
 bn:(tk.map (·.2.2)).Nodup/\∀ x∈tk,x.2.2<cl
theorem pI :∀(tk:List (Nat×Int×Nat)),(∀ x∈tk,1<=x.2.1)->0<=gx tk
 | [],_=>by simp[gx]
 |x::l,h=>by
  have h1:=h x (by simp);have h2:=pI l (fun y hy=>h y (by simp[hy]));unfold gx at h2⊢;simp only[List.map_cons,List.sum_cons];omega
theorem pH :∀(tk:List (Nat×Int×Nat)) (x:Nat×Int×Nat),(tk.map (·.1)).Nodup->x∈tk->gx (tk.filter fun y=>y.1≠x.1)=gx tk-x.2.1
 | [],x,_,h=>by simp at h
 |y::l,x,hn,h=>by
  simp only[List.map_cons,List.nodup_cons]at hn;rcases List.mem_cons.1 h with rfl|h
  .rw[List.filter_cons_of_neg (by simp)];have:l.filter (fun y=>decide (y.1≠x.1))=l:=by
    rw[List.filter_eq_self];intro z hz;have:z.1≠x.1:=fun e=>hn.1 (by rw[<- e];exact List.mem_map_of_mem hz)
    simpa using this
   rw[this];unfold gx;simp only[List.map_cons,List.sum_cons];omega
  .have hne:y.1≠x.1:=fun e=>hn.1 (by rw[e];exact List.mem_map_of_mem h)
   rw[List.filter_cons_of_pos (by simpa using hne)];have:=pH l x hn.2 h;unfold gx at this⊢;simp only[List.map_cons,List.sum_cons,this];omega
theorem vV (a:Nat):∀(l:List (Nat×Int×Nat)) (i k:Nat) (v:Value),gH a l i=some (k,v)->∃ x∈l,x.1=a/\v= I x.2.1
 | [],i,k,v,h=>by cases h
 |x::l,i,k,v,h=>by
  unfold gH at h;split at h
  .rename_i e;cases h;exact⟨x,by simp,e.symm,rfl⟩
  .obtain⟨y,hy,h2⟩:=vV a l (i+1) k v h;exact⟨y,by simp[hy],h2⟩
theorem ye (a:Nat):∀(l:List (Nat×Int×Nat)) (i:Nat),gH a l i=none->∀ x∈l,x.1≠a
 | [],i,_=>by simp
 |x::l,i,h=>by
  unfold gH at h;split at h
  .cases h
  .rename_i e
   intro y hy;rcases List.mem_cons.1 hy with rfl|hy
   .exact fun e2=>e e2.symm
   .exact ye a l (i+1) h y hy
theorem AI.plain {H:Hp}{a mp cl:Nat}{tk:List (Nat×Int×Nat)}{cap used aj:Int}(h:AI H a mp cl tk cap used aj):∀ x∈tk,fM H x.1:=fun x hx=>by
 obtain⟨_,A,n,m,g⟩:=h.hb x hx;exact⟨_,_,g⟩
structure o9 (H H':Hp)(a mp cl:Nat)(tk tk':List (Nat×Int×Nat))(cap aj:Int)(gone:Nat->Prop):Prop where
 ai:AI H' a mp cl tk' cap (gx tk') aj
 mem:∀ x,x∈tk'↔x∈tk/\¬gone x.1
 fF:∀ q o,H q=some o->q≠a->q≠mp->(gone q->∀ x∈tk,x.1≠q)->H' q=some o
 nil:∀ x∈tk,gone x.1->H' x.1=some (fW a none 0 0)
 sle:gx tk'<=gx tk
theorem o9.same {H H':Hp}{a mp cl:Nat}{tk tk':List (Nat×Int×Nat)}{cap aj:Int}{g g':Nat->Prop}(h:o9 H H' a mp cl tk tk' cap aj g)(h1:∀ q,g q->g' q)(h2:∀ q,g' q->g q\/∀ x∈tk',x.1≠q):o9 H H' a mp cl tk tk' cap aj g' where
 ai:=h.ai
 mem:=fun x=>by
  rw[h.mem];constructor
  .intro⟨h3,h4⟩;refine⟨h3,fun h5=>?_⟩;rcases h2 _ h5 with h6|h6
   .exact h4 h6
   .exact h6 x ((h.mem x).2 ⟨h3,h4⟩) rfl
  .intro⟨h3,h4⟩;exact⟨h3,fun h5=>h4 (h1 _ h5)⟩
 fF:=fun q o hq h3 h4 h5=>h.fF q o hq h3 h4 (fun h6=>h5 (h1 _ h6))
 nil:=fun x hx h3=>by
  by_cases h4:g x.1
  .exact h.nil x hx h4
  .rcases h2 _ h3 with h6|h6
   .exact absurd h6 h4
   .exact absurd rfl (h6 x ((h.mem x).2 ⟨hx,h4⟩))
 sle:=h.sle
theorem o9.one {H H':Hp}{a mp cl:Nat}{tk tk':List (Nat×Int×Nat)}{cap used aj:Int}{g g':Nat->Prop}(h0:AI H a mp cl tk cap used aj)(h:o9 H H' a mp cl tk tk' cap aj g){x:Nat×Int×Nat}(hx:x∈tk')(hg:∀ q,g' q↔g q\/q=x.1):
  o9 H (((H'.set mp (fG (tk'.filter fun y=>y.1≠x.1) cl)).set a (fD cap (gx tk'-x.2.1) aj mp)).set x.1 (fW a none 0 0)) a mp cl tk (tk'.filter fun y=>y.1≠x.1) cap aj g':=by
 obtain⟨g1,A,n,m,g2⟩:=h.ai.hb x hx;have hxa:x.1≠a:=fun e=>by rw[e,h.ai.ha]at g2;unfold fD fW at g2;cases g2
 have hxm:x.1≠mp:=fun e=>by rw[e,h.ai.hm]at g2;unfold fG fW at g2;cases g2
 have hne:=h.ai.ne;have hsum:=pH tk' x h.ai.nd hx;have hsub:∀ y,y∈(tk'.filter fun y=>decide (y.1≠x.1))↔y∈tk'/\y.1≠x.1:=fun y=>by rw[List.mem_filter];simp
 have hkeep:∀ q o,H' q=some o->q≠a->q≠mp->q≠x.1->(((H'.set mp (fG (tk'.filter fun y=>y.1≠x.1) cl)).set a (fD cap (gx tk'-x.2.1) aj mp)).set x.1 (fW a none 0 0)) q=some o:=fun q o hq h1 h2 h3=>by
  rw[Hp.bK _ _ h3,Hp.bK _ _ h1,Hp.bK _ _ h2];exact hq
 refine⟨⟨hne,?_,?_,?_,?_,?_,List.Nodup.sublist (List.Sublist.map _ (List.filter_sublist)) h.ai.bn.1,fun y hy=>h.ai.bn.2 y (List.mem_filter.1 hy).1⟩,fun y=>?_,fun q o hq h1 h2 h3=>?_,fun y hy h1=>?_,by rw[hsum];have:=h.sle;omega⟩
 .rw[Hp.bK _ _ (Ne.symm hxa),hsum];exact Hp.bB _ _ _
 .rw[Hp.bK _ _ (Ne.symm hxm),Hp.bK _ _ (Ne.symm hne)];exact Hp.bB _ _ _
 .exact List.Nodup.sublist (List.Sublist.map _ (List.filter_sublist)) h.ai.nd
 .intro y hy;obtain⟨h1,h2⟩:=(hsub y).1 hy;obtain⟨h3,A',n',m',h4⟩:=h.ai.hb y h1;refine⟨h3,A',n',m',hkeep _ _ h4 (fun e=>?_) (fun e=>?_) h2⟩
  .rw[e,h.ai.ha]at h4;unfold fD fW at h4;cases h4
  .rw[e,h.ai.hm]at h4;unfold fG fW at h4;cases h4
 .have:=h.ai.hu;exact⟨rfl,by rw[hsum];omega,this.2.2⟩
 .rw[hsub,h.mem,hg];constructor
  .rintro⟨⟨h1,h2⟩,h3⟩;exact⟨h1,fun h4=>h4.elim h2 h3⟩
  .rintro⟨h1,h2⟩;exact⟨⟨h1,fun h3=>h2 (.inl h3)⟩,fun h3=>h2 (.inr h3)⟩
 .have h4:=h.fF q o hq h1 h2 (fun h5=>h3 ((hg q).2 (.inl h5)));refine hkeep q o h4 h1 h2 (fun e=>?_);exact h3 ((hg q).2 (.inr e)) x ((h.mem x).1 hx).1 e.symm
 .by_cases e:y.1=x.1
  .rw[e];exact Hp.bB _ _ _
  .have h2:g y.1:=((hg _).1 h1).resolve_right e;have h3:=h.nil y hy h2;refine hkeep _ _ h3 (fun e2=>?_) (fun e2=>?_) e
   .rw[e2,h.ai.ha]at h3;unfold fD fW at h3;cases h3
   .rw[e2,h.ai.hm]at h3;unfold fG fW at h3;cases h3
theorem yj (K:VK)(a mp cl:Nat)(cap used aj:Int)(hpk:used<=aj)(tk:List (Nat×Int×Nat))(H:Hp)(h0:AI H a mp cl tk cap used aj)(A:OA)(n m:Nat)(ps:List (Option Nat))(hn:n=ps.length)(hn2:n<=9000000000000000000)
  (hcells:∀ H',(∀ q xs e m,H q=some (.row xs e m)->H' q=some (.row xs e m))->Cells H' A (ps.map th)) (hps:∀ b,some b∈ps->∃ A n m,H b=some (fW a A n m))
  (k:∀ H' tk',o9 H H' a mp cl tk tk' cap aj (fun q=>some q∈ps)->K (.tuple #[]) H'):
  ∀(d j:Nat) (H':Hp) (tk':List (Nat×Int×Nat)),j+d=n->o9 H H' a mp cl tk tk' cap aj (fun q=>some q∈ps.take j)->cf.l1 K (d+1) (some ⟨a,0,none⟩) A n m (n:Int) (j:Int) H'
 |0,j,H',tk',hj,hg=>by
  unfold cf.l1;refine au (by omega) (k H' tk' ?_);rw[List.take_of_length_le (by omega)]at hg;exact hg
 |d+1,j,H',tk',hj,hg=>by
  obtain⟨jb,hjb,hsb⟩:=IT;obtain⟨ji,hji,hzi⟩:=LP;unfold cf.l1;refine aA (by omega) ?_;have hlt:j<ps.length:=by omega
  have hrows:∀ q xs e m,H q=some (.row xs e m)->H' q=some (.row xs e m):=fun q xs e m hq=>
   hg.fF q _ hq (fun e2=>by rw[e2,h0.ha]at hq;unfold fD at hq;cases hq) (fun e2=>by rw[e2,h0.hm]at hq;unfold fG at hq;cases hq) (fun _ x hx e2=>by
    obtain⟨_,A,n,m,g⟩:=h0.hb x hx;rw[e2,hq]at g;unfold fW at g;cases g)
  refine(hcells H' hrows).read (i:=j) (v:=th ps[j]) (by rw[List.getElem?_map,List.getElem?_eq_getElem hlt];rfl) rfl (by rw[List.length_map];omega) ?_;have htk:ps.take (j+1)=ps.take j++[ps[j]]:=List.take_succ_eq_append_getElem hlt;have next:=fun H'' tk'' hg'=>yj K a mp cl cap used aj hpk tk H h0 A n m ps hn hn2 hcells hps k d (j+1) H'' tk'' (by omega) hg'
  cases hp:ps[j]with
  |none=>
   unfold th;simp only[HV];simp only[Addr.aP,Nat.zero_add];refine ez hg.ai.ha (v:=.map (some mp)) rfl ?_;simp only[HV];refine za zC hjb hsb zB hji hzi hg.ai.hm ?_;simp only[HV];rw[bg (x:=(j:Int)+1)];refine next H' tk' (hg.same (fun q hq=>by show some q∈ps.take (j+1);rw[htk];exact List.mem_append_left _ hq) (fun q hq=>?_))
   rw[htk,hp]at hq;simp at hq;exact .inl hq
  |some b=>
   unfold th fR;simp only[HV];simp only[Addr.aP,Nat.zero_add,Nat.add_zero];refine ez hg.ai.ha (v:=.map (some mp)) rfl ?_;simp only[HV];have hpb:some b∈ps:=by rw[<- hp];exact List.getElem_mem hlt
   obtain⟨Ab,nb,mb,hb⟩:=hps b hpb;have hba:b≠a:=fun e=>by rw[e,h0.ha]at hb;unfold fD fW at hb;cases hb
   have hbm:b≠mp:=fun e=>by rw[e,h0.hm]at hb;unfold fG fW at hb;cases hb
   have hpl:fM H' b:=by
    by_cases h1:(some b∈ps.take j)/\∃ x∈tk,x.1=b
    .obtain⟨h1,x,hx,rfl⟩:=h1;exact⟨_,_,hg.nil x hx h1⟩
    .exact⟨_,_,hg.fF b _ hb hba hbm (fun h2 x hx e=>h1 ⟨h2,x,hx,e⟩)⟩
   rw[show(Value.pointer (some ⟨b,0,none⟩))=fR b from rfl];refine Do zC hjb hsb zB hji hzi hg.ai.hm hpl hg.ai.plain (fun k' v hf=>?_) (fun hf=>?_)
   .obtain⟨x,hx,rfl,rfl⟩:=vV b tk' 0 k' v hf;simp only[HV];refine ez hg.ai.ha (v:=.map (some mp)) rfl ?_;simp only[HV];refine Dh zC hjb hsb zB hg.ai.hm hpl hg.ai.plain hg.ai.nd hf ?_;have hx1:=(hg.ai.hb x hx).1;have hs0:=pI tk' (fun y hy=>(hg.ai.hb y hy).1);have hsf:=pH tk' x hg.ai.nd hx;have hs1:=pI (tk'.filter fun y=>y.1≠x.1) (fun y hy=>(hg.ai.hb y (List.mem_filter.1 hy).1).1);have hu:=hg.ai.hu;have hle:=hg.sle;have hu0:=h0.hu;rw[bg (x:=0-x.2.1)];refine aa.use (EG _ a mp cap (gx tk') aj (0-x.2.1) (by omega) (by omega) (by rw[Hp.bK _ _ hg.ai.ne];exact hg.ai.ha)) ?_;rw[if_neg (by omega),show gx tk'+(0-x.2.1)=gx tk'-x.2.1 by omega];obtain⟨_,Ac,nc,mc,hbx⟩:=hg.ai.hb x hx;refine pY (c:=#[fR a,.slice Ac nc mc]) (e:=403) (by rw[Hp.bK _ _ hba,Hp.bK _ _ hbm];exact hbx) (by simp) rfl ?_;rw[bg (x:=(j:Int)+1)];refine next _ _ (o9.one h0 hg hx (fun q=>?_))
    show some q∈ps.take (j+1)↔_
    rw[htk,hp,List.mem_append];simp
   .simp only[HV];rw[bg (x:=(j:Int)+1)];refine next H' tk' (hg.same (fun q hq=>by show some q∈ps.take (j+1);rw[htk];exact List.mem_append_left _ hq) (fun q hq=>?_))
    rw[htk,hp]at hq;simp at hq;rcases hq with hq|rfl
    .exact .inl hq
    .exact .inr (ye q tk' 0 hf)
theorem Kj (a mp cl:Nat)(cap used aj:Int)(hpk:used<=aj)(tk:List (Nat×Int×Nat))(H:Hp)(h0:AI H a mp cl tk cap used aj)(A:OA)(n m:Nat)(ps:List (Option Nat))(hn:n=ps.length)(hn2:n<=9000000000000000000)
  (hcells:∀ H',(∀ q xs e m,H q=some (.row xs e m)->H' q=some (.row xs e m))->Cells H' A (ps.map th)) (hps:∀ b,some b∈ps->∃ A n m,H b=some (fW a A n m)):
  cf (Oo a) A n m H (fun v H'=>v= .tuple #[]/\∃ tk',o9 H H' a mp cl tk tk' cap aj (fun q=>some q∈ps)):=by
 refine⟨n+1,yj _ a mp cl cap used aj hpk tk H h0 A n m ps hn hn2 hcells hps (fun H' tk' hg=>⟨rfl,tk',hg⟩) n 0 H tk (by omega) ?_⟩;refine⟨by rw[<- h0.hu.1];exact h0,fun x=>by simp,fun q o hq _ _ _=>hq,fun x _ h=>by simp at h,Int.le_refl _⟩
end Are
end Go.Proofs.YtlgnlghmbcpmhaaGreatDoor
namespace Go.Hw
open Go
def kt (mp since:Nat)(seen:Array Nat)(last:Nat):AO:=.obj (.mapIter (some mp) since seen last)
theorem kt.heap {H:Hp}{w:World}{it mp since last:Nat}{seen:Array Nat}(h:H it=some (kt mp since seen last))(hw:Fits H w):w.heap[it]? =some (.mapIter (some mp) since seen last):=by
 obtain⟨o,ho,hh⟩:=hw _ _ h;cases hh;exact ho
theorem At.setIter {H0 H:Hp}{w0 w:World}{it mp since last:Nat}{seen:Array Nat}(hA:At H0 w0 H w)(hr:H it=some (kt mp since seen last))(o:Obj):At H0 w0 (H.set it (.obj o)) { w with heap:=w.heap.setIfInBounds it o}:=by
 have hh:=kt.heap hr hA.fits;have hlt:it<w.heap.size:=(Array.getElem?_eq_some_iff.1 hh).1;refine hA.jy hr (x':=o) ?_ rfl ?_ rfl rfl rfl (fun c hc=>?_)
 .show(w.heap.setIfInBounds it o)[it]? =some o
  simp[hlt]
 .show(w.heap.setIfInBounds it o).size=w.heap.size
  simp
 .show(w.heap.setIfInBounds it o)[c]? =w.heap[c]?
  rw[Array.getElem?_setIfInBounds_ne (Ne.symm hc)]
theorem ux {P:Program}{H0 H:Hp}{w0 w:World}(hA:At H0 w0 H w)(n:Nat)(hn:0<n):∃ i w',i<n/\(choose (.mapNext n)).run P w= .ok i w'/\At H0 w0 H w':=by
 by_cases h:n<=1
 .exact⟨0,w,hn,by simp[Question.forced,h],hA⟩
 .exact⟨_,_,Nat.mod_lt _ hn,by simp[Question.forced,h,Question.cut];rfl,hA.drew⟩
end Go.Hw
namespace Go.Proofs.YtlgnlghmbcpmhaaGreatDoor
open Tryz (prog)
namespace Are
open Go Go.Hw W
def aW (l:List (Nat×Nat×OA)):Int:=(l.map fun y=>(y.2.1:Int)).sum
def jN (g:Nat->Bool)(l:List (Nat×Nat×OA)):List (Nat×Nat×OA):=l.map fun y=>if g y.1 then(y.1,0,none)else y
theorem yh (g:Nat->Bool)(l:List (Nat×Nat×OA)):(jN g l).map (·.1)=l.map (·.1):=by
 unfold jN;rw[List.map_map];apply List.map_congr_left;intro y _;simp only[Function.comp];split<;>rfl
theorem lZ (l l':List (Nat×Nat×OA)):aW (l++l')=aW l+aW l':=by simp[aW]
theorem yO (y:Nat×Nat×OA)(l:List (Nat×Nat×OA)):aW (y::l)=y.2.1+aW l:=by simp[aW]
theorem fH :aW []=0:=rfl
theorem Bs :∀(bufs:List (Nat×Nat×OA)) (tk:List (Nat×Int×Nat)),(tk.map (·.1)).Nodup->(bufs.map (·.1)).Nodup->(∀ x∈tk,1<=x.2.1)->(∀ x∈tk,∃ A,(x.1,x.2.1.toNat,A)∈bufs)->
  (∀ y∈bufs,1<=y.2.1->∃ n,(y.1,(y.2.1:Int),n)∈tk)->gx tk=aW bufs
 | [],tk,_,_,_,h2,_=>by
  cases tk with
  |nil=>rfl
  |cons x l=>obtain⟨A,hA⟩:=h2 x (by simp);simp at hA
 |y::bs,tk,hn,hb,h1,h2,h3=>by
  simp only[List.map_cons,List.nodup_cons]at hb;by_cases hy:1<=y.2.1
  .obtain⟨k,hk⟩:=h3 y (by simp) hy;have hs:=pH tk _ hn hk;have ih:=Bs bs (tk.filter fun z=>z.1≠y.1) (List.Nodup.sublist (List.Sublist.map _ List.filter_sublist) hn) hb.2 (fun x hx=>h1 x (List.mem_filter.1 hx).1) (fun x hx=>by
    obtain⟨g1,g2⟩:=List.mem_filter.1 hx;obtain⟨A,hA⟩:=h2 x g1;rcases List.mem_cons.1 hA with e|hA
    .have:x.1=y.1:=by rw[<- e]
     simp[this]at g2
    .exact⟨A,hA⟩) (fun z hz hz1=>by
    obtain⟨n,hn'⟩:=h3 z (by simp[hz]) hz1;refine⟨n,List.mem_filter.2 ⟨hn',?_⟩⟩;have:z.1≠y.1:=fun e=>hb.1 (by rw[<- e];exact List.mem_map_of_mem hz)
    simpa using this)
   rw[yO,<-ih];simp only at hs;omega
  .have hy0:y.2.1=0:=by omega
   have ih:=Bs bs tk hn hb.2 h1 (fun x hx=>by
    obtain⟨A,hA⟩:=h2 x hx;rcases List.mem_cons.1 hA with e|hA
    .have:x.2.1.toNat=y.2.1:=by rw[<- e]
     have:=h1 x hx;omega
    .exact⟨A,hA⟩) (fun z hz hz1=>h3 z (by simp[hz]) hz1)
   rw[yO,hy0,ih];simp
structure mM (H:Hp)(a mp cl:Nat)(tk:List (Nat×Int×Nat))(cap used aj:Int)(bufs:List (Nat×Nat×OA)):Prop where
 ai:AI H a mp cl tk cap used aj
 up:used<=aj
 hd:∀ y∈bufs,H y.1=some (fW a y.2.2 y.2.1 y.2.1)
 tb:∀ x∈tk,∃ A,(x.1,x.2.1.toNat,A)∈bufs
 bt:∀ y∈bufs,1<=y.2.1->∃ n,(y.1,(y.2.1:Int),n)∈tk
 bn:(bufs.map (·.1)).Nodup
 hz:∀ y∈bufs,y.2.1=0->y.2.2=none
def Ar (a:Nat)(cap aj:Int)(bufs:List (Nat×Nat×OA)):As:=fun H=>∃ mp cl tk,mM H a mp cl tk cap (aW bufs) aj bufs
theorem AI.up {H H':Hp}{a mp cl:Nat}{tk:List (Nat×Int×Nat)}{cap used aj:Int}(h:AI H a mp cl tk cap used aj)(k:H.le H'):AI H' a mp cl tk cap used aj:=
 ⟨h.ne,k _ _ h.ha,k _ _ h.hm,h.nd,fun x hx=>by obtain⟨h1,A,n,m,h2⟩:=h.hb x hx;exact⟨h1,A,n,m,k _ _ h2⟩,h.hu,h.bn⟩
theorem mM.LZ {H H':Hp}{a mp cl:Nat}{tk:List (Nat×Int×Nat)}{cap used aj:Int}{bufs:List (Nat×Nat×OA)}(h:mM H a mp cl tk cap used aj bufs)(k:H.le H'):mM H' a mp cl tk cap used aj bufs:=
 ⟨AI.up h.ai k,h.up,fun y hy=>k _ _ (h.hd y hy),h.tb,h.bt,h.bn,h.hz⟩
theorem mM.less {H:Hp}{a mp cl:Nat}{tk:List (Nat×Int×Nat)}{cap used aj:Int}{bufs:List (Nat×Nat×OA)}(h:mM H a mp cl tk cap used aj bufs)(p:Nat×Nat×OA->Bool)(hp:∀ y∈bufs,p y=false->y.2.1=0):
  mM H a mp cl tk cap used aj (bufs.filter p):=
 ⟨h.ai,h.up,fun y hy=>h.hd y (List.mem_filter.1 hy).1,fun x hx=>by
  obtain⟨A,hA⟩:=h.tb x hx;refine⟨A,List.mem_filter.2 ⟨hA,?_⟩⟩;cases e:p (x.1,x.2.1.toNat,A)with
  |true=>rfl
  |false=>have:=hp _ hA e;have:=(h.ai.hb x hx).1;simp at *;omega,fun y hy=>h.bt y (List.mem_filter.1 hy).1,List.Nodup.sublist (List.Sublist.map _ List.filter_sublist) h.bn,fun y hy=>h.hz y (List.mem_filter.1 hy).1⟩
theorem Sep.ar {L:List As}{H:Hp}(h:Sep L H)(i:Nat){a:Nat}{cap aj:Int}{bufs:List (Nat×Nat×OA)}(hi:L[i]? =some (Ar a cap aj bufs)):∃ mp cl tk,mM H a mp cl tk cap (aW bufs) aj bufs:=by
 obtain⟨H1,⟨mp,cl,tk,h1⟩,h2⟩:=h.fU i hi;exact⟨mp,cl,tk,h1.LZ h2⟩
section
variable {L : List As} {H : Hp} {a : Nat} {cap aj : Int} {bufs : List (Nat × Nat × Option Addr)}
theorem mM.nn {used:Int}{mp cl:Nat}{tk:List (Nat×Int×Nat)}(h:mM H a mp cl tk cap used aj bufs):0<=used/\used<=cap/\cap<=16777216/\used<=aj:=by
 have h1:=pI tk (fun x hx=>(h.ai.hb x hx).1);have h2:=h.ai.hu;exact⟨by omega,h2.2.1,h2.2.2,h.up⟩
theorem E3 (h:Sep L H)(i:Nat)(hi:L[i]? =some (Ar a cap aj bufs)):aa prog 300 #[V a] H (RetE (I (cap-aW bufs)) H):=by
 obtain⟨mp,cl,tk,h⟩:=Sep.ar h i hi;have:=h.nn;exact Cc H a mp cap _ aj (by omega) h.ai.ha
theorem kF (h:Sep L H)(i:Nat)(hi:L[i]? =some (Ar a cap aj bufs)){b n:Nat}{A:OA}(hb:(b,n,A)∈bufs):aa prog 237 #[V b] H (RetE (.slice A n n) H):=by
 obtain⟨mp,cl,tk,h⟩:=Sep.ar h i hi;exact GO H b a A n n (h.hd _ hb)
end
theorem iU (x:Int)(h:1<=x/\x<=16777216):Tr prog 143 #[I x] [] fun v M=>∃ a,v= V a/\M=[Ar a x 0 []]:=fun H _=>by
 refine(Ko H x h).mono ?_;rintro v H' ⟨mp,a,hmp,ha,hne,rfl,rfl⟩;refine⟨_,⟨a,rfl,rfl⟩,Sep.up (H:=Hp.set (Hp.set (fun _=>none) mp (fG [] 0)) a (fD x 0 0 mp)) ?_ (Hp.nN (Hp.nN (H:=fun _=>none) (fun _ _ h=>nomatch h) _ _) _ _)⟩;refine⟨_,fun _=>none,Hp.le_refl _,fun b o h=>(by cases h),fun b=>.inr rfl,⟨mp,0,[],⟨⟨hne,Hp.bB _ _ _,by rw[Hp.bK _ _ (Ne.symm hne)];exact Hp.bB _ _ _,by simp,fun x hx=>by simp at hx,⟨rfl,by rw[fH];omega,by omega⟩,by simp⟩,Int.le_refl _,fun y hy=>by simp at hy,fun x hx=>by simp at hx,fun y hy=>by simp at hy,by simp,fun y hy=>by simp at hy⟩⟩,trivial⟩
theorem sum_append (l l':List (Nat×Int×Nat)):gx (l++l')=gx l+gx l':=by simp[gx]
theorem lj {a:Nat}{cap aj:Int}{bufs:List (Nat×Nat×OA)}{n:Nat}(hn:1<=n:=by omega)(hc:(n:Int)<=cap-aW bufs:=by omega):
  Tr prog 255 #[V a,I n] [Ar a cap aj bufs] fun v M=>∃ b rb,v= .tuple #[V b,I 0]/\
   M=[Ar a cap (if aW bufs+n>aj then aW bufs+n else aj) (bufs++[(b,n,some (O rb))]),ah rb (.row (dX n) 108 n)]:=fun H hs=>by
 obtain⟨mp,cl,tk,h⟩:=Sep.ar hs 0 rfl;have hnn:=h.nn;refine(rq H a mp cap (aW bufs) aj n tk cl (by omega) (by omega) h.ai.ne h.ai.ha h.ai.hm h.ai.plain).mono ?_;rintro v H' ⟨rb,b,hrb,hb,hbr,rfl,rfl⟩;rw[Int.toNat_natCast];have har:a≠rb:=fun e=>by have:=h.ai.ha;rw[e,hrb]at this;cases this
 have hab:a≠b:=fun e=>by have:=h.ai.ha;rw[e,hb]at this;cases this
 have hmr:mp≠rb:=fun e=>by have:=h.ai.hm;rw[e,hrb]at this;cases this
 have hmb:mp≠b:=fun e=>by have:=h.ai.hm;rw[e,hb]at this;cases this
 have hne:=h.ai.ne;have fF:∀ q o,H q=some o->q≠a->q≠mp->((((H.set rb (.row (dX n) 108 n)).set b (fW a (Oo rb) n n)).set mp (fG (tk++[(b,(n:Int),cl)]) (cl+1))).set a (fD cap (aW bufs+n) (if aW bufs+n>aj then aW bufs+n else aj) mp)) q=some o:=fun q o hq h1 h2=>by
  have h7:q≠rb:=fun e=>by rw[e,hrb]at hq;cases hq
  have h8:q≠b:=fun e=>by rw[e,hb]at hq;cases hq
  rw[Hp.bK _ _ h1,Hp.bK _ _ h2,Hp.bK _ _ h8,Hp.bK _ _ h7];exact hq
 refine⟨_,⟨b,rb,rfl,rfl⟩,?_⟩
  -- the arena's own part
 have hfr:∀ y∈bufs,y.1≠a/\y.1≠mp/\y.1≠b:=fun y hy=>by
  have h1:=h.hd y hy;refine⟨fun e=>?_,fun e=>?_,fun e=>?_⟩
  .rw[e,h.ai.ha]at h1;unfold fD fW at h1;cases h1
  .rw[e,h.ai.hm]at h1;unfold fG fW at h1;cases h1
  .rw[e,hb]at h1;cases h1
 have hxf:∀ x∈tk,x.1≠a/\x.1≠mp/\x.1≠b:=fun x hx=>by
  obtain⟨A,hA⟩:=h.tb x hx;exact hfr _ hA
 let G:Hp:=fun q=>if q=rb then none else((((H.set rb (.row (dX n) 108 n)).set b (fW a (Oo rb) n n)).set mp (fG (tk++[(b,(n:Int),cl)]) (cl+1))).set a (fD cap (aW bufs+n) (if aW bufs+n>aj then aW bufs+n else aj) mp)) q
 have hG:∀ q o,q≠rb->((((H.set rb (.row (dX n) 108 n)).set b (fW a (Oo rb) n n)).set mp (fG (tk++[(b,(n:Int),cl)]) (cl+1))).set a (fD cap (aW bufs+n) (if aW bufs+n>aj then aW bufs+n else aj) mp)) q=some o->G q=some o:=fun q o h1 h2=>by
  show(if q=rb then none else _)=_
  rw[if_neg h1];exact h2
 have gb:=hG b (fW a (Oo rb) n n) hbr (by rw[Hp.bK _ _ (Ne.symm hab),Hp.bK _ _ (Ne.symm hmb)];exact Hp.bB _ _ _);have nrb:∀ q o,H q=some o->q≠rb:=fun q o hq e=>by rw[e,hrb]at hq;cases hq
 refine⟨G,fun q=>if q=rb then some (.row (dX n) 108 n)else none,fun q o hq=>?_,fun q o hq=>?_,fun q=>?_,⟨mp,cl+1,tk++[(b,(n:Int),cl)],?_⟩,⟨_,fun _=>none,Hp.le_refl _,fun b o h=>(by cases h),fun b=>.inr rfl,(if_pos rfl:(if rb=rb then some _ else none)=_),trivial⟩⟩
 .have hq':(if q=rb then none else _)=some o:=hq;split at hq'
  .cases hq'
  .exact hq'
 .simp only at hq;split at hq
  .rename_i e;subst e
   rw[Hp.bK _ _ (Ne.symm har),Hp.bK _ _ (Ne.symm hmr),Hp.bK _ _ (Ne.symm hbr),Hp.bB];exact hq
  .cases hq
 .by_cases e:q=rb
  .left;show(if q=rb then none else _)=none;rw[if_pos e]
  .right;simp only[e,if_false]
 rw[show aW (bufs++[(b,n,some (O rb))])=aW bufs+n by rw[lZ];simp[aW]];refine⟨⟨hne,hG a _ har (Hp.bB _ _ _),hG mp _ hmr (by rw[Hp.bK _ _ (Ne.symm hne)];exact Hp.bB _ _ _),?_,fun x hx=>?_,⟨?_,by omega,by omega⟩,?_,fun x hx=>?_⟩,by split<;>omega,fun y hy=>?_,fun x hx=>?_,fun y hy hy1=>?_,?_,fun y hy h0=>?_⟩
 .rw[List.map_append,List.nodup_append];refine⟨h.ai.nd,by simp,fun x hx y hy e=>?_⟩;simp at hy;subst hy;obtain⟨z,hz,rfl⟩:=List.mem_map.1 hx;exact(hxf z hz).2.2 e
 .rcases List.mem_append.1 hx with hx|hx
  .obtain⟨h1,A,n',m',h2⟩:=h.ai.hb x hx;exact⟨h1,A,n',m',hG _ _ (nrb _ _ h2) (fF _ _ h2 (hxf x hx).1 (hxf x hx).2.1)⟩
  .simp at hx;subst hx;exact⟨by show(1:Int)<=n;omega,_,_,_,gb⟩
 .rw[sum_append,<-h.ai.hu.1];simp[gx]
 .rw[List.map_append,List.nodup_append];refine⟨h.ai.bn.1,by simp,fun x hx y hy e=>?_⟩;simp at hy;subst hy;obtain⟨z,hz,rfl⟩:=List.mem_map.1 hx;have:=h.ai.bn.2 z hz;omega
 .rcases List.mem_append.1 hx with hx|hx
  .have:=h.ai.bn.2 x hx;omega
  .simp at hx;subst hx;show cl<cl+1;omega
 .rcases List.mem_append.1 hy with hy|hy
  .exact hG _ _ (nrb _ _ (h.hd y hy)) (fF _ _ (h.hd y hy) (hfr y hy).1 (hfr y hy).2.1)
  .simp at hy;subst hy;exact gb
 .rcases List.mem_append.1 hx with hx|hx
  .obtain⟨A,hA⟩:=h.tb x hx;exact⟨A,List.mem_append_left _ hA⟩
  .simp at hx;subst hx;exact⟨some (O rb),by simp⟩
 .rcases List.mem_append.1 hy with hy|hy
  .obtain⟨m,hm⟩:=h.bt y hy hy1;exact⟨m,List.mem_append_left _ hm⟩
  .simp at hy;subst hy;exact⟨cl,by simp⟩
 .rw[List.map_append,List.nodup_append];refine⟨h.bn,by simp,fun x hx y hy e=>?_⟩;simp at hy;subst hy;obtain⟨z,hz,rfl⟩:=List.mem_map.1 hx;exact(hfr z hz).2.2 e
 .rcases List.mem_append.1 hy with hy|hy
  .exact h.hz y hy h0
  .simp at hy;subst hy;simp at h0;omega
theorem mM.L4 {H H':Hp}{a mp cl:Nat}{tk tk':List (Nat×Int×Nat)}{cap used aj:Int}{bufs:List (Nat×Nat×OA)}{g:Nat->Prop}{gb:Nat->Bool}(h:mM H a mp cl tk cap used aj bufs)(hg:o9 H H' a mp cl tk tk' cap aj g)(hgb:∀ q,gb q=true↔g q):
  mM H' a mp cl tk' cap (aW (jN gb bufs)) aj (jN gb bufs):=by
 have hu:=h.ai.hu;have hnd:((jN gb bufs).map (·.1)).Nodup:=by rw[yh];exact h.bn
 have hmem:∀ y∈jN gb bufs,∃ z∈bufs,y=if gb z.1 then(z.1,0,none)else z:=fun y hy=>by
  obtain⟨z,hz,rfl⟩:=List.mem_map.1 hy;exact⟨z,hz,rfl⟩
 have htb:∀ x∈tk',∃ A,(x.1,x.2.1.toNat,A)∈jN gb bufs:=fun x hx=>by
  obtain⟨h1,h2⟩:=(hg.mem x).1 hx;obtain⟨A,hA⟩:=h.tb x h1;refine⟨A,List.mem_map.2 ⟨_,hA,?_⟩⟩;rw[if_neg (fun e=>h2 ((hgb _).1 e))]
 have hbt:∀ y∈jN gb bufs,1<=y.2.1->∃ n,(y.1,(y.2.1:Int),n)∈tk':=fun y hy hy1=>by
  obtain⟨z,hz,rfl⟩:=hmem y hy;by_cases e:gb z.1=true
  .rw[if_pos e]at hy1;simp at hy1
  .rw[if_neg e]at hy1⊢;obtain⟨n,hn⟩:=h.bt z hz hy1;exact⟨n,(hg.mem _).2 ⟨hn,fun e2=>e ((hgb _).2 e2)⟩⟩
 have hsum:=Bs (jN gb bufs) tk' hg.ai.nd hnd (fun x hx=>(hg.ai.hb x hx).1) htb hbt;refine⟨by rw[<- hsum];exact hg.ai,by rw[<- hsum];have:=h.up;have:=hg.sle;omega,fun y hy=>?_,htb,hbt,hnd,fun y hy h0=>?_⟩
 rotate_left
 .obtain⟨z,hz,rfl⟩:=hmem y hy;by_cases e:gb z.1=true
  .rw[if_pos e]
  .rw[if_neg e]at h0 ⊢;exact h.hz z hz h0
 obtain⟨z,hz,rfl⟩:=hmem y hy;have hz1:=h.hd z hz;have e1:z.1≠a:=fun e=>by rw[e,h.ai.ha]at hz1;unfold fD fW at hz1;cases hz1
 have e2:z.1≠mp:=fun e=>by rw[e,h.ai.hm]at hz1;unfold fG fW at hz1;cases hz1
 by_cases e:gb z.1=true
 .rw[if_pos e];have hgz:=(hgb _).1 e;by_cases hx:∃ x∈tk,x.1=z.1
  .obtain⟨x,hx,hxe⟩:=hx;have:=hg.nil x hx (by rw[hxe];exact hgz);rw[hxe]at this;exact this
  .have h0:z.2.1=0:=by
    by_cases h1:1<=z.2.1
    .obtain⟨n,hn⟩:=h.bt z hz h1;exact absurd ⟨_,hn,rfl⟩ hx
    .omega
   have:=hg.fF z.1 _ hz1 e1 e2 (fun _ x hx' e3=>hx ⟨x,hx',e3⟩);rw[h0,h.hz z hz h0]at this;exact this
 .rw[if_neg e];exact hg.fF z.1 _ hz1 e1 e2 (fun e3=>absurd ((hgb _).2 e3) e)
theorem mM.cut {H:Hp}{a mp cl:Nat}{tk:List (Nat×Int×Nat)}{cap used aj:Int}{bufs:List (Nat×Nat×OA)}(h:mM H a mp cl tk cap used aj bufs)(D:Nat->Bool)(h1:D a=true)(h2:D mp=true)(h3:∀ y∈bufs,D y.1=true):
  mM (fun q=>if D q=true then H q else none) a mp cl tk cap used aj bufs:=by
 have g:∀ q o,D q=true->H q=some o->(fun q=>if D q=true then H q else none) q=some o:=fun q o e1 e2=>by
  show(if D q=true then H q else none)=some o
  rw[if_pos e1];exact e2
 refine⟨⟨h.ai.ne,g _ _ h1 h.ai.ha,g _ _ h2 h.ai.hm,h.ai.nd,fun x hx=>?_,h.ai.hu,h.ai.bn⟩,h.up,fun y hy=>g _ _ (h3 y hy) (h.hd y hy),h.tb,h.bt,h.bn,h.hz⟩;obtain⟨k1,A,n,m,k2⟩:=h.ai.hb x hx;obtain⟨A',hA'⟩:=h.tb x hx;exact⟨k1,A,n,m,g _ _ (h3 _ hA') k2⟩
theorem mM.back {H H1 H2 H':Hp}{a mp cl cl':Nat}{tk tk':List (Nat×Int×Nat)}{cap used used' aj peak':Int}{bufs:List (Nat×Nat×OA)}{g:Nat->Bool}{L:List As}
  (hle:H1.le H) (hap:iJ H1 H2) (h1:mM H1 a mp cl tk cap used aj bufs) (h':mM H' a mp cl' tk' cap used' peak' (jN g bufs)) (h2:H2.le H') (hs:Sep L H2) (hu:used'=aW (jN g bufs)):Sep (Ar a cap peak' (jN g bufs)::L) H':=by
 have hd:∀ q o,H1 q=some o->(H1 q).isSome=true:=fun q o h=>by rw[h];rfl
 refine⟨fun q=>if(H1 q).isSome=true then H' q else none,H2,fun q o hq=>?_,h2,fun q=>?_,⟨mp,cl',tk',?_⟩,hs⟩
 .simp only at hq;split at hq
  .exact hq
  .cases hq
 .rcases hap q with e|e
  .left;simp[e]
  .exact .inr e
 .rw[<- hu];refine h'.cut (fun q=>(H1 q).isSome) (hd _ _ h1.ai.ha) (hd _ _ h1.ai.hm) (fun y hy=>?_);obtain⟨z,hz,e⟩:=List.mem_map.1 (show y.1∈bufs.map (·.1) by rw[<- yh g];exact List.mem_map_of_mem hy);have:=hd _ _ (h1.hd z hz);rw[e]at this;exact this
theorem E7 {a:Nat}{cap aj:Int}{bufs:List (Nat×Nat×OA)}(vb n mm:Nat)(xs:List Value)(ps:List (Option Nat))(hn:n=ps.length)(hn2:n<=9000000000000000000)(hx:xs.take n=ps.map th)(hps:∀ b,some b∈ps->∃ n A,(b,n,A)∈bufs)
  {H:Hp} (hs:Sep [Ar a cap aj bufs,ah vb (.row xs 331 mm)] H):∃ mp cl tk,AI H a mp cl tk cap (aW bufs) aj/\aW bufs<=aj/\(∀ H',(∀ q xs e m,H q=some (.row xs e m)->H' q=some (.row xs e m))->Cells H' (Oo vb) (ps.map th))/\(∀ b,some b∈ps->∃ A n m,H b=some (fW a A n m))/\
   ∀ H' tk',o9 H H' a mp cl tk tk' cap aj (fun q=>some q∈ps)->Sep [Ar a cap aj (jN (fun q=>decide (some q∈ps)) bufs),ah vb (.row xs 331 mm)] H':=by
 have hv:=Sep.get hs 1 rfl;obtain⟨H1,H2,k1,k2,k3,⟨mp,cl,tk,h1⟩,k5⟩:=hs;have h:=h1.LZ k1;refine⟨mp,cl,tk,h.ai,h.up,fun H' hH'=>?_,fun b hb=>?_,fun H' tk' hg=>?_⟩
 .have:=Cells.row (hH' vb xs _ _ hv) 0 n;rw[List.drop_zero,hx]at this;exact this
 .obtain⟨n,A,hb⟩:=hps b hb;exact⟨_,_,_,h.hd _ hb⟩
 have h':=h.L4 hg (gb:=fun q=>decide (some q∈ps)) (fun q=>by simp);have hvb:∀ q,q≠vb\/H1 q=none:=fun q=>by
  by_cases e:q=vb
  .right;rw[e];have h2:H2 vb=some (.row xs 331 mm):=Sep.get k5 0 rfl;exact(k3 vb).resolve_right (by rw[h2];simp)
  .exact .inl e
 refine mM.back (H2:=fun q=>if q=vb then some (.row xs 331 mm)else none) k1 (fun q=>?_) h1 h' (fun q o hq=>?_) ⟨_,fun _=>none,Hp.le_refl _,fun b o h=>(by cases h),fun b=>.inr rfl,(if_pos rfl:(if vb=vb then some _ else none)=_),trivial⟩ rfl
 .rcases hvb q with e|e
  .right;simp only[e,if_false]
  .exact .inl e
 .simp only at hq;split at hq
  .rename_i e;subst e;cases hq
   refine hg.fF q _ hv (fun e=>?_) (fun e=>?_) (fun _ x hx' e=>?_)
   .rw[e,h.ai.ha]at hv;unfold fD at hv;cases hv
   .rw[e,h.ai.hm]at hv;unfold fG at hv;cases hv
   .obtain⟨_,A,n,m,k⟩:=h.ai.hb x hx';rw[e,hv]at k;unfold fW at k;cases k
  .cases hq
theorem GD {a:Nat}{cap aj:Int}{bufs:List (Nat×Nat×OA)}(vb n m mm:Nat)(xs:List Value)(ps:List (Option Nat))(hn:n=ps.length)(hn2:n<=9000000000000000000)(hx:xs.take n=ps.map th)(hps:∀ b,some b∈ps->∃ n A,(b,n,A)∈bufs):
  It prog 257 #[V a,.slice (Oo vb) n m] [Ar a cap aj bufs,ah vb (.row xs 331 mm)] fun v M=>
   v= .tuple #[]/\M=[Ar a cap aj (jN (fun q=>decide (some q∈ps)) bufs),ah vb (.row xs 331 mm)]:=fun H hs=>by
 obtain⟨mp,cl,tk,h1,h2,h3,h4,h5⟩:=E7 vb n mm xs ps hn hn2 hx hps hs;refine dv.mono (cf.okD _ _ _ _ _ _ (Kj a mp cl cap (aW bufs) aj h2 tk H h1 (Oo vb) n m ps hn hn2 h3 h4)) ?_;rintro v H' ⟨rfl,tk',hg⟩;exact⟨_,⟨rfl,rfl⟩,h5 H' tk' hg⟩
theorem gp {a:Nat}{cap aj:Int}{bufs:List (Nat×Nat×OA)}(vb b n:Nat)(A:OA)(hnew:∀ y∈bufs,y.1≠b):
  It prog 257 #[V a,.slice (Oo vb) 1 1] [Ar a cap aj (bufs++[(b,n,A)]),ah vb (.row [V b] 331 1)] fun v M=>
   v= .tuple #[]/\M=[Ar a cap aj bufs]:=fun H hs=>by
 refine(GD vb 1 1 1 _ [some b] rfl (by omega) rfl (fun q hq=>?_) H hs).mono ?_
 .simp at hq;subst hq;exact⟨n,A,by simp⟩
 .rintro v H' ⟨M,⟨rfl,rfl⟩,hs⟩;refine⟨_,⟨rfl,rfl⟩,?_⟩;have hs:=hs.re [0] rfl;have e:jN (fun q=>decide (some q∈[some b])) (bufs++[(b,n,A)])=bufs++[(b,0,none)]:=by
   unfold jN;rw[List.map_append];congr 1
   .refine(List.map_congr_left (g:=id) fun y hy=>?_).trans (List.map_id _);have:=hnew y hy;simp[this]
   .simp
  rw[e]at hs;obtain⟨H1,H2,k1,k2,k3,⟨mp,cl,tk,h1⟩,k5⟩:=hs;refine⟨H1,H2,k1,k2,k3,⟨mp,cl,tk,?_⟩,k5⟩;have h2:=h1.less (fun y=>decide (y.1≠b)) (fun y hy hp=>by
   rcases List.mem_append.1 hy with hy|hy
   .simp at hp;exact absurd hp (hnew y hy)
   .simp at hy;subst hy;rfl)
  have e2:(bufs++[(b,0,none)]).filter (fun y=>decide (y.1≠b))=bufs:=by
   rw[List.filter_append];have h3:bufs.filter (fun y=>decide (y.1≠b))=bufs:=by
    rw[List.filter_eq_self];intro y hy;simpa using hnew y hy
   rw[h3];simp
  rw[e2]at h2;have e3:aW (bufs++[(b,0,none)])=aW bufs:=by rw[lZ];simp[aW]
  rw[e3]at h2;exact h2
end Are
end Go.Proofs.YtlgnlghmbcpmhaaGreatDoor
namespace Go.Hw
open Go
def eK (x:Int×Value×Nat):MapEntry:={ key:=I x.1,val:=x.2.1,born:=x.2.2}
def iq (l:List (Int×Value×Nat))(clock:Nat):AO:=.obj (.map (l.map eK).toArray clock)
def gB :List (Int×Value×Nat)->Int->Option Value
 | [],_=>none
 |x::l,k=>if k=x.1 then some x.2.1 else gB l k
def uD (k:Int):List (Int×Value×Nat)->Nat->Option (Nat×Value)
 | [],_=>none
 |x::l,i=>if k=x.1 then some (i,x.2.1)else uD k l (i+1)
structure Ez (l:List (Int×Value×Nat))(clock:Nat)(m:Int->Option Value):Prop where
 nd:(l.map (·.1)).Nodup
 bn:(l.map (·.2.2)).Nodup
 bl:∀ x∈l,x.2.2<clock
 get:∀ k,gB l k=m k
def Mp (r:Nat)(m:Int->Option Value):As:=fun H=>∃ l clock,H r=some (iq l clock)/\Ez l clock m
theorem xm (k:Int):∀(l:List (Int×Value×Nat)) (i:Nat),(uD k l i).map (·.2)=gB l k
 | [],_=>rfl
 |x::l,i=>by
  unfold uD gB;split
  .rfl
  .exact xm k l (i+1)
theorem yi {l:List (Int×Value×Nat)}{k:Int}:gB l k=none↔∀ x∈l,x.1≠k:=by
 induction l with
 |nil=>simp[gB]
 |cons x l ih=>
  unfold gB;split
  .rename_i h;simp[h]
  .rename_i h
   rw[ih];constructor
   .intro h2 y hy;rcases List.mem_cons.1 hy with rfl|hy
    .exact fun e=>h e.symm
    .exact h2 y hy
   .intro h2 y hy;exact h2 y (by simp[hy])
theorem u9 {l:List (Int×Value×Nat)}(hn:(l.map (·.1)).Nodup){x:Int×Value×Nat}(hx:x∈l):gB l x.1=some x.2.1:=by
 induction l with
 |nil=>simp at hx
 |cons y l ih=>
  simp only[List.map_cons,List.nodup_cons]at hn;unfold gB;rcases List.mem_cons.1 hx with rfl|hx
  .simp
  .rw[if_neg (fun e=>hn.1 (by rw[<- e];exact List.mem_map_of_mem hx))];exact ih hn.2 hx
theorem E6 {l:List (Int×Value×Nat)}{k:Int}{v:Value}(h:gB l k=some v):∃ b,(k,v,b)∈l:=by
 induction l with
 |nil=>simp[gB]at h
 |cons y l ih=>
  unfold gB at h;split at h
  .rename_i e;cases h;exact⟨y.2.2,by rw[e];simp⟩
  .obtain⟨b,hb⟩:=ih h;exact⟨b,by simp[hb]⟩
theorem iq.heap {H:Hp}{w:World}{r clock:Nat}{l:List (Int×Value×Nat)}(h:H r=some (iq l clock))(hw:Fits H w):w.heap[r]? =some (.map (l.map eK).toArray clock):=by
 obtain⟨o,ho,hh⟩:=hw _ _ h;cases hh;exact ho
theorem At.HA {H0 H:Hp}{w0 w:World}{r clock:Nat}{l:List (Int×Value×Nat)}(hA:At H0 w0 H w)(hr:H r=some (iq l clock))(o:Obj):At H0 w0 (H.set r (.obj o)) { w with heap:=w.heap.setIfInBounds r o}:=by
 have hh:=iq.heap hr hA.fits;have hlt:r<w.heap.size:=(Array.getElem?_eq_some_iff.1 hh).1;refine hA.jy hr (x':=o) ?_ rfl ?_ rfl rfl rfl (fun c hc=>?_)
 .show(w.heap.setIfInBounds r o)[r]? =some o
  simp[hlt]
 .show(w.heap.setIfInBounds r o).size=w.heap.size
  simp
 .show(w.heap.setIfInBounds r o)[c]? =w.heap[c]?
  rw[Array.getElem?_setIfInBounds_ne (Ne.symm hc)]
section
variable {P : Program} {t : TypeId} (ht : P.underlying t = some (.int .i64))
include ht
theorem Ai (k:Int):∀(l:List (Int×Value×Nat)) (i:Nat),Instr.findNow (.int .i64) (I k) (l.map eK) i=some (uD k l i)
 | [],_=>rfl
 |x::l,i=>by
  simp only[List.map_cons,Instr.findNow];rw[show Instr.sameNow (.int .i64) (I k) (eK x).key=some (k==x.1) by simp[Instr.sameNow,eK]];unfold uD;by_cases h:k=x.1
  .simp[h,eK]
  .rw[show(k==x.1)=false by simpa using h];simp only[h,if_false];exact Ai k l (i+1)
theorem u7 {w:World}(k:Int)(l:List (Int×Value×Nat)):(Instr.findKey t (I k) (l.map eK)).run P w= .ok (uD k l 0) w:=by
 unfold Instr.findKey;simp[aN ht,Ai ht k l 0]
theorem sW {w:World}(e:Bool)(k:Int):(Instr.checkKey e 10000 t (I k)).run P w= .ok () w:=by
 unfold Instr.checkKey;simp[aN ht]
variable {tm tv : TypeId} (hm : P.underlying tm = some (.map t tv))
include hm
theorem xn {jv:TypeInfo}{z:Value}(hv:P.info? tv=some jv)(hz:jv.zero=some z){H:Hp}{r clock:Nat}{l:List (Int×Value×Nat)}{k:Int}(hr:H r=some (iq l clock))(ok:Bool){K:Value->Prop}
  (kk:K (match gB l k with|some v=>if ok then .tuple #[v,.bool true]else v|none=>if ok then .tuple #[z,.bool false]else z)):sR P (Instr.lookup tm (.map (some r)) (.int .i64 k) ok) H K:=by
 refine⟨_,kk,fun w hw=>?_⟩;have hh:=iq.heap hr hw;simp only[Instr.lookup,Sem.run_bind,aN hm,Result.andThen_ok,MapKept.run_getObj_map hh,Sem.run_pure];rw[sW ht];simp only[Result.andThen_ok];rw[u7 ht];simp only[Result.andThen_ok];rw[<- xm k l 0];cases uD k l 0 with
 |some x=>cases ok<;>simp
 |none=>cases ok<;>simp[zeroValue,iI hv,hz]
theorem Fg (k:Int):∀(l:List (Int×Value×Nat)) (i j:Nat) (v:Value),uD k l i=some (j,v)->i<=j/\∃ x,l[j-i]? =some x/\x.1=k/\x.2.1=v
 | [],_,_,_,h=>by cases h
 |x::l,i,j,v,h=>by
  unfold uD at h;split at h
  .rename_i e;cases h;exact⟨Nat.le_refl _,x,by simp,e.symm,rfl⟩
  .obtain⟨h1,y,h2,h3⟩:=Fg k l (i+1) j v h;exact⟨by omega,y,by rw[show j-i=(j-(i+1))+1 by omega,List.getElem?_cons_succ];exact h2,h3⟩
def mL (m:Int->Option Value)(k:Int)(v:Value):Int->Option Value:=fun j=>if j=k then some v else m j
theorem BO (l:List (Int×Value×Nat))(x:Int×Value×Nat)(h:gB l x.1=none)(j:Int):gB (l++[x]) j=mL (gB l) x.1 x.2.1 j:=by
 induction l with
 |nil=>simp[gB,mL]
 |cons y l ih=>
  unfold gB at h;split at h
  .cases h
  .rename_i hne
   rw[List.cons_append];unfold gB mL;have:=ih h;unfold mL at this;by_cases e:j=x.1
   .rw[if_pos e,e,if_neg hne];rw[e,if_pos rfl]at this;exact this
   .rw[if_neg e];rw[if_neg e]at this;rw[this];rfl
theorem Ak :∀(l:List (Int×Value×Nat)) (i:Nat) (x:Int×Value×Nat) (v:Value),(l.map (·.1)).Nodup->l[i]? =some x->∀ j,gB (l.set i (x.1,v,x.2.2)) j=mL (gB l) x.1 v j
 | [],i,x,v,_,h,j=>by simp at h
 |y::l,0,x,v,hn,h,j=>by
  simp at h;subst h;simp only[List.set_cons_zero];unfold gB mL;by_cases e:j=y.1
  .simp[e]
  .simp only[e,if_false,gB]
 |y::l,i+1,x,v,hn,h,j=>by
  simp only[List.map_cons,List.nodup_cons]at hn;rw[List.getElem?_cons_succ]at h;have ih:=Ak l i x v hn.2 h j;have hne:y.1≠x.1:=fun e=>hn.1 (by rw[e];exact List.mem_map_of_mem (List.mem_of_getElem? h))
  simp only[List.set_cons_succ];unfold gB mL;unfold mL at ih;by_cases e:j=x.1
  .rw[if_pos e,e,if_neg (Ne.symm hne)];rw[e,if_pos rfl]at ih;exact ih
  .rw[if_neg e];rw[if_neg e]at ih;rw[ih];rfl
theorem nJ {α β:Type}(f:α->β):∀(l:List α) (i:Nat) (x y:α),l[i]? =some x->f y=f x->(l.set i y).map f=l.map f
 | [],_,_,_,h,_=>by simp at h
 |z::l,0,x,y,h,e=>by simp at h;subst h;simp[e]
 |z::l,i+1,x,y,h,e=>by
  simp only[List.set_cons_succ,List.map_cons];rw[nJ f l i x y (by simpa using h) e]
theorem Sep.uR {L:List As}{H:Hp}(h:Sep L H)(i:Nat){r:Nat}{m:Int->Option Value}(hi:L[i]? =some (Mp r m)){k:Int}{v:Value}{K:Unit->Hp->Prop}(kk:∀ H',Sep (L.set i (Mp r (mL m k v))) H'->K () H'):
  gA P (Instr.mapUpdate tm (.map (some r)) (I k) v) H K:=fun H0 w0 w hA=>by
 obtain⟨H1,⟨l,clock,hr1,hok⟩,hle⟩:=h.fU i hi;have hr:=hle _ _ hr1;have hh:=iq.heap hr hA.fits;cases hx:uD k l 0 with
 |none=>
  have hg:gB l k=none:=by rw[<- xm k l 0,hx];rfl
  refine⟨(),_,_,?_,kk _ (h.zx i hi (b:=r) (o':=iq (l++[(k,v,clock)]) (clock+1)) fun H1' hle' hA'=>?_),hA.HA hr _⟩
  .simp only[Instr.mapUpdate,Sem.run_bind,aN hm,Result.andThen_ok,MapKept.run_getObj_map hh];rw[sW ht];simp only[Result.andThen_ok];rw[u7 ht,hx];simp only[Result.andThen_ok];rw[MapKept.run_setObj_map _ hh];simp[eK]
  .obtain⟨l',clock',hr',_⟩:=hA';refine⟨_,hr',l++[(k,v,clock)],clock+1,Hp.bB _ _ _,?_,?_,fun x hx=>?_,fun j=>?_⟩
   .rw[List.map_append,List.nodup_append];refine⟨hok.nd,by simp,fun a ha b hb e=>?_⟩;simp at hb;subst hb;obtain⟨z,hz,rfl⟩:=List.mem_map.1 ha;exact yi.1 hg z hz e
   .rw[List.map_append,List.nodup_append];refine⟨hok.bn,by simp,fun a ha b hb e=>?_⟩;simp at hb;subst hb;obtain⟨z,hz,rfl⟩:=List.mem_map.1 ha;have:=hok.bl z hz;omega
   .rcases List.mem_append.1 hx with hx|hx
    .have:=hok.bl x hx;omega
    .simp at hx;subst hx;show clock<clock+1;omega
   .rw[BO ht hm l (k,v,clock) hg j];unfold mL;simp only[hok.get]
 |some q=>
  obtain⟨ix,u⟩:=q;obtain⟨_,x,hxl,hxk,hxv⟩:=Fg ht hm k l 0 ix u hx;rw[Nat.sub_zero]at hxl;have hlt:=(List.getElem?_eq_some_iff.1 hxl).1;refine⟨(),_,_,?_,kk _ (h.zx i hi (b:=r) (o':=iq (l.set ix (x.1,v,x.2.2)) clock) fun H1' hle' hA'=>?_),hA.HA hr _⟩
  .simp only[Instr.mapUpdate,Sem.run_bind,aN hm,Result.andThen_ok,MapKept.run_getObj_map hh];rw[sW ht];simp only[Result.andThen_ok];rw[u7 ht,hx];simp only[Result.andThen_ok];have hkey:((((l.map eK).toArray)[ix]?).map (·.key)).getD (Value.int .i64 k)= I k:=by
    simp[hxl,eK,hxk]
   rw[hkey];simp only[Instr.keyThatStays,Instr.sameBits,beq_self_eq_true,Bool.and_self,if_true,pure_bind];rw[MapKept.run_setObj_map _ hh];congr 3;have e:((l.map eK).toArray.modify ix fun e=>{ e with key:=I k,val:=v})=((l.set ix (x.1,v,x.2.2)).map eK).toArray:=by
    apply Array.ext';rw[Array.toList_modify];simp only;apply List.ext_getElem?;intro j;rw[List.getElem?_modify,List.getElem?_map,List.getElem?_map,List.getElem?_set];by_cases ej:ix=j
    .subst ej;have e2:l[ix]=x:=by
      have:=List.getElem?_eq_getElem hlt;rw[this]at hxl;exact Option.some.inj hxl
     simp[eK,hxk,hlt,e2]
    .simp[ej]
   rw[e]
  .obtain⟨l',clock',hr',_⟩:=hA';refine⟨_,hr',l.set ix (x.1,v,x.2.2),clock,Hp.bB _ _ _,?_,?_,fun y hy=>?_,fun j=>?_⟩
   .rw[nJ ht hm (·.1) l ix x (x.1,v,x.2.2) hxl rfl];exact hok.nd
   .rw[nJ ht hm (·.2.2) l ix x (x.1,v,x.2.2) hxl rfl];exact hok.bn
   .have:y.2.2∈(l.set ix (x.1,v,x.2.2)).map (·.2.2):=List.mem_map_of_mem hy;rw[nJ ht hm (·.2.2) l ix x (x.1,v,x.2.2) hxl rfl]at this;obtain⟨z,hz,e⟩:=List.mem_map.1 this;have:=hok.bl z hz;have e':z.2.2=y.2.2:=e;omega
   .rw[Ak ht hm l ix x v hok.nd hxl j];unfold mL;simp only[hok.get,hxk]
theorem Sep.EO {L:List As}{H:Hp}(h:Sep L H)(i:Nat){r:Nat}{m:Int->Option Value}(hi:L[i]? =some (Mp r m)){ty:TypeId}{K:VK}(kk:∀ H',Sep (L.set i (Mp r fun _=>none)) H'->K (.tuple #[]) H'):
  gA P (Builtin.clear_ #[tm] ty #[.map (some r)]) H K:=fun H0 w0 w hA=>by
 obtain⟨H1,⟨l,clock,hr1,hok⟩,hle⟩:=h.fU i hi;have hr:=hle _ _ hr1;have hh:=iq.heap hr hA.fits;refine⟨_,_,_,?_,kk _ (h.zx i hi (b:=r) (o':=iq [] clock) fun H1' hle' hA'=>?_),hA.HA hr _⟩
 .simp only[Builtin.clear_,Sem.run_bind,aN hm,Result.andThen_ok,List.getElem?_toArray,List.getElem?_cons_zero,MapKept.run_getObj_map hh]
  try rw[Sem.run_bind]
  rw[MapKept.run_setObj_map _ hh];simp
 .obtain⟨l',clock',hr',_⟩:=hA';exact⟨_,hr',[],clock,Hp.bB _ _ _,by simp,by simp,fun x hx=>by simp at hx,fun j=>rfl⟩
end
theorem Mp.new {L:List As}{H:Hp}{b:Nat}(h:Sep (L++[ah b (.obj (.map #[] 0))]) H):Sep (L++[Mp b fun _=>none]) H:=by
 have:=h.jy L.length (A:=ah b (.obj (.map #[] 0))) (by simp) (B:=Mp b fun _=>none) fun H1 h1=>⟨[],0,h1,by simp,by simp,fun x hx=>by simp at hx,fun j=>rfl⟩
 simpa using this
def fq (tk:List (Int×Value×Nat))(seen:Array Nat):List (Int×Value×Nat):=tk.filter fun x=> !seen.contains x.2.2
theorem JM {P:Program}{t k e:TypeId}(ht:P.underlying t=some (.map k e)){H:Hp}{mp cl:Nat}{tk:List (Int×Value×Nat)}(hm:H mp=some (iq tk cl)){K:VK}
  (kk:∀ it,H it=none->K (V it) (H.set it (kt mp cl #[] cl))):gA P (Instr.range t (.map (some mp))) H K:=fun H0 w0 w hA=>by
 have hh:=iq.heap hm hA.fits;obtain⟨hn,hA'⟩:=hA.new (o:=kt mp cl #[] cl) (x:=.mapIter (some mp) cl #[] cl) rfl;refine⟨_,_,_,?_,kk _ hn,hA'⟩;simp only[Instr.range,Sem.run_bind,aN ht,Result.andThen_ok,MapKept.run_getObj_map hh,Sem.run_pure];simp
theorem Fw {P:Program}{ty:TypeId}{H:Hp}{it mp since last cl:Nat}{seen:Array Nat}{tk:List (Int×Value×Nat)}(hi:H it=some (kt mp since seen last))(hm:H mp=some (iq tk cl))(hold:∀ x∈tk,x.2.2<since)(hlast:∀ x∈tk,x.2.2<last){K:VK}
  (k1:∀ x∈fq tk seen,K (.tuple #[.bool true,I x.1,x.2.1]) (H.set it (kt mp since (seen.push x.2.2) cl))) (k0:fq tk seen=[]->K (.tuple #[.bool false]) H):
  gA P (Instr.next (V it) false ty) H K:=fun H0 w0 w hA=>by
 have hh:=kt.heap hi hA.fits;have hg:=iq.heap hm hA.fits;have hgi:(getObj it).run P w= .ok (.mapIter (some mp) since seen last) w:=by simp[getObj,Sem.run,hh]
 have hleft:((tk.map eK).toArray.filter fun e=> !seen.contains e.born)=((fq tk seen).map eK).toArray:=by
  unfold fq;rw[List.filter_toArray,List.filter_map];rfl
 have hcond:(!seen.isEmpty&& !(tk.map eK).toArray.isEmpty&&(tk.map eK).toArray.all (fun e=>decide (e.born>=last)))=false:=by
  cases tk with
  |nil=>simp
  |cons x l=>
   have:=hlast x (by simp);have h2:¬last<=x.2.2:=by omega
   simp[eK,h2]
 have hold':(((fq tk seen).map eK).toArray.filter fun e=>decide (e.born<since))=((fq tk seen).map eK).toArray:=by
  rw[List.filter_toArray];congr 1;rw[List.filter_eq_self];intro e he;obtain⟨x,hx,rfl⟩:=List.mem_map.1 he;have:=hold x (List.mem_filter.1 hx).1;exact decide_eq_true this
 have hnew:(((fq tk seen).map eK).toArray.filter fun e=>decide (e.born>=since))=#[]:=by
  rw[List.filter_toArray];congr 1;rw[List.filter_eq_nil_iff];intro e he;obtain⟨x,hx,rfl⟩:=List.mem_map.1 he;have:=hold x (List.mem_filter.1 hx).1;simp[eK];omega
 simp only[Instr.next,Sem.run_bind,hgi,Result.andThen_ok,MapKept.run_getObj_map hg,hcond,Bool.false_eq_true,if_false,hleft,hold',hnew,Sem.run_pure];cases hU:fq tk seen with
 |nil=>
  obtain⟨i,w',hi',hr,hA'⟩:=ux (P:=P) hA 1 (by omega);obtain rfl:i=0:=by omega
  refine⟨_,H,w',?_,k0 hU,hA'⟩;rw[show((if(List.map eK ([]:List (Int×Value×Nat))).toArray.isEmpty=true then #[none]else #[])++Array.map some ((List.map eK ([]:List (Int×Value×Nat))).toArray++ #[]))=(#[none]:Array (Option MapEntry)) by simp,show(#[none]:Array (Option MapEntry)).size=1 from rfl,hr];rfl
 |cons x l=>
  obtain⟨i,w',hi',hr,hA'⟩:=ux (P:=P) hA (x::l).length (by simp);have e:((if(List.map eK (x::l)).toArray.isEmpty=true then #[none]else #[])++Array.map some ((List.map eK (x::l)).toArray++ #[]))=((x::l).map fun y=>some (eK y)).toArray:=by simp
  rw[e,show((x::l).map fun y=>some (eK y)).toArray.size=(x::l).length by simp,hr];have hy:(x::l)[i]∈fq tk seen:=by rw[hU];exact List.getElem_mem hi'
  refine⟨_,_,_,?_,k1 _ hy,hA'.setIter hi _⟩;simp only[Result.andThen_ok,List.getElem?_toArray,List.getElem?_map,List.getElem?_eq_getElem hi',Option.map_some,Sem.run_bind];have hh':=kt.heap hi hA'.fits;rw[show(setObj it (Obj.mapIter (some mp) since (seen.push (eK (x::l)[i]).born) cl)).run P w'= .ok () { w' with heap:=w'.heap.setIfInBounds it (Obj.mapIter (some mp) since (seen.push (eK (x::l)[i]).born) cl)} by simp[setObj,Sem.run,hh']];rfl
theorem vW :∀(tk:List (Int×Value×Nat)) (x:Int×Value×Nat),x∈tk->(tk.map (·.2.2)).Nodup->(tk.map eK).find? (fun e=>e.born==x.2.2)=some (eK x)
 | [],x,h,_=>by simp at h
 |y::l,x,h,hn=>by
  simp only[List.map_cons,List.nodup_cons]at hn;simp only[List.map_cons,List.find?_cons];rcases List.mem_cons.1 h with rfl|h
  .simp[eK]
  .have:¬(y.2.2=x.2.2):=fun e=>hn.1 (by rw[e];exact List.mem_map_of_mem h)
   rw[show((eK y).born==x.2.2)=false by simpa [eK]using this];exact vW l x h hn.2
theorem Jo {P:Program}{H:Hp}{it mp since cl:Nat}{seen:Array Nat}{tk:List (Int×Value×Nat)}(hi:H it=some (kt mp since seen cl))(hm:H mp=some (iq tk cl)){x:Int×Value×Nat}(hx:x∈tk)(hb:seen.back? =some x.2.2)(hn:(tk.map (·.2.2)).Nodup){K:VK}
  (k:K (.tuple #[I x.1,x.2.1]) H):gA P (Instr.entry (V it)) H K:=fun H0 w0 w hA=>by
 have hh:=kt.heap hi hA.fits;have hg:=iq.heap hm hA.fits;have hgi:(getObj it).run P w= .ok (.mapIter (some mp) since seen cl) w:=by simp[getObj,Sem.run,hh]
 refine⟨_,H,w,?_,k,hA⟩;simp only[Instr.entry,Sem.run_bind,hgi,Result.andThen_ok,hb,MapKept.run_getObj_map hg,bne_self_eq_false,Bool.false_eq_true,if_false,List.find?_toArray,vW tk x hx hn];rfl
theorem Ea {tk:List (Int×Value×Nat)}{seen:Array Nat}{x:Int×Value×Nat}(hx:x∈fq tk seen):(fq tk (seen.push x.2.2)).length<(fq tk seen).length:=by
 have e:fq tk (seen.push x.2.2)=(fq tk seen).filter fun y=>y.2.2 !=x.2.2:=by
  unfold fq;rw[List.filter_filter];congr 1
  funext y
  rw[Array.contains_push];cases seen.contains y.2.2<;>simp[bne]
 rw[e];have:∀ l:List (Int×Value×Nat),x∈l->(l.filter fun y=>y.2.2 !=x.2.2).length<l.length:=by
  intro l hl
  induction l with
  |nil=>simp at hl
  |cons y l ih=>
   rcases List.mem_cons.1 hl with rfl|hl
   .rw[List.filter_cons_of_neg (by simp)];have:=List.length_filter_le (fun y:Int×Value×Nat=>y.2.2 !=x.2.2) l;simp only[List.length_cons];omega
   .have:=ih hl;have:=List.length_filter_le (fun y:Int×Value×Nat=>y.2.2 !=x.2.2) l;rw[List.filter_cons];split<;>simp only[List.length_cons]<;>omega
 exact this _ hx
end Go.Hw
namespace Go.Proofs.YtlgnlghmbcpmhaaGreatDoor
open Tryz (prog)
namespace W
open Go Go.Hw
theorem gC :prog.follows .mixedOrders=true:=by kernel_rfl
def pj (x1 x2:Int)(H:Hp)(K:VK):Prop:=
 aq (decide (x1<1)) (K (.pointer none) H) (aq (decide (x1>1048576)) (K (.pointer none) H) (aq (decide (x2<32)) (K (.pointer none) H) (aq (decide (x2>4096)) (K (.pointer none) H) (aq ((cD .i64 x2 (i64.wrap (x2-1))) !=0) (K (.pointer none) H) ((x2≠0/\i64=i64/\aq (decide (x1>(i64.wrap (Int.tdiv 67108864 x2)))) (K (.pointer none) H) (Nw H (.obj (.map #[] 0)) fun b1 H1=>Nw H1 (.obj (.map #[] 0)) fun b2 H2=>Nw H2 (.obj (.map #[] 0)) fun b3 H3=>Nw H3 (Oa #[I x1,I x2,.map (some b1),I 0,I 0,I 0,.map (some b2),.bool false,I 0,.map (some b3)] 62) fun b4 H4=>K (V b4) H4)))))))
theorem pj.ok x1 x2 H K (h:pj x1 x2 H K):aa prog 14 #[I x1,I x2] H K:=
 bX gC Tryz.func14 rfl rfl h
def i7 (p1:OA)(H:Hp)(K:VK):Prop:=
 NN p1 fun a1=>St H ((a1.add 0).add 0) (.bool true) fun H1=>NN p1 fun a2=>St H1 ((a2.add 1).add 0) (I 0) fun H2=>K (.tuple #[]) H2
theorem i7.ok p1 H K (h:i7 p1 H K):aa prog 25 #[.pointer p1] H K:=
 bX gC Tryz.func25 rfl rfl h
def cA.l4 (K:VK):Nat->OA->OA->Nat->Nat->OA->Nat->Nat->Int->Int->Hp->Prop
 |0,_,_,_,_,_,_,_,_,_,_=>False
 |k+1,p2,A3,n3,m3,A4,n4,m4,x1,x2,H=>
  let R4:=cA.l4 K k
  aq (decide (x2<x1)) (cz x2 n4 (NN A4 fun a2=>aM H (a2.add (x2.toNat*1)) fun x3=>aq (decide (x2<(n3:Int))) (cz x2 n3 (NN A3 fun a3=>Eu H (a3.add (x2.toNat*1)) fun c2=>aq c2 (NN p2 fun a4=>qG H ((a4.add 0).add 2) fun r1=>NN p2 fun a5=>qG H (a5.add 9) fun r2=>sR prog (Instr.lookup 51 (.map r2) (I x3) false) H fun v7=>DS v7 fun s1=>gA prog (Instr.mapUpdate 51 (.map r1) (I x3) (.string s1)) H fun _ H2=>R4 p2 A3 n3 m3 A4 n4 m4 x1 (i64.wrap (x2+1)) H2) (R4 p2 A3 n3 m3 A4 n4 m4 x1 (i64.wrap (x2+1)) H))) (R4 p2 A3 n3 m3 A4 n4 m4 x1 (i64.wrap (x2+1)) H))) (NN p2 fun a6=>qG H (a6.add 9) fun r3=>gA prog (Builtin.clear_ #[51] 0 #[.map r3]) H fun v9 H3=>NN p2 fun a7=>St H3 (((a7.add 7).add 0).add 0) (.bool false) fun H4=>K (I 0) H4)
def cA (p1 A1:OA)(n1 m1:Nat)(H:Hp)(K:VK):Prop:=
 NN p1 fun a1=>Eu H ((a1.add 7).add 0) fun c1=>aq (!c1) (K (I 5) H) (lM 78 #[.pointer p1] H fun A2 n2 m2 H1=>(∃ k,cA.l4 K k p1 A1 n1 m1 A2 n2 m2 (n2:Int) 0 H1))
def cA.l4.L (K:VK)(k:Nat):de:=fun E D H=>
 eP E 0 fun p2=>DG (E.get? 1) fun w1=>aE w1 fun A3 n3 m3=>DG (E.get? 14) fun w14=>aE w14 fun A4 n4 m4=>eI E 15 .i64 fun x1=>eI E 16 .i64 fun x2=>ax D (cA.l4 K k p2 A3 n3 m3 A4 n4 m4 x1 x2 H)
def cA.Λ4 (_:VK)(_R4:OA→OA→Nat→Nat→OA→Nat→Nat→Int→Int→Hp→Prop):aI:=aI.none (fun i=>match Nat.beq i 7 with|true=>some ([],[0,1,2,3,4,5,6,7,8,9,10,11],12)|false=>none)
def cA.Λ (K:VK):aI:=⟨fun i=>none,fun i=>match Nat.beq i 4 with|true=>some (fun E D H=>∃ k,cA.l4.L K k E D H)|false=>none,(fun i=>match Nat.beq i 7 with|true=>some ([],[0,1,2,3,4,5,6,7,8,9,10,11],12)|false=>none)⟩
theorem cA.ok p1 A1 n1 m1 H K (h:cA p1 A1 n1 m1 H K):aa prog 26 #[.pointer p1,.slice A1 n1 m1] H K:=
 dV (Λ:=(cA.Λ K)) gC Tryz.func26 rfl rfl h (oC (fun E D H h=>by
   refine Safe.cJ (cA.l4.L K) (fun E D H h=>?_) (fun k E D H h=>?_) E D H h
   .obtain⟨w0,e0,g1⟩:=DG.out h;obtain⟨p2,rfl,g2⟩:=DP.out g1;obtain⟨w1,e1,g3⟩:=DG.out g2;obtain⟨A3,n3,m3,rfl,g4⟩:=aE.out g3;obtain⟨w14,e14,g5⟩:=DG.out g4;obtain⟨A4,n4,m4,rfl,g6⟩:=aE.out g5;obtain⟨w15,e15,g7⟩:=DG.out g6;obtain⟨x1,rfl,g8⟩:=DI.out g7;obtain⟨w16,e16,g9⟩:=DG.out g8;obtain⟨x2,rfl,g10⟩:=DI.out g9;obtain⟨rfl,h'⟩:=ax.out g10;exact h'
   .obtain⟨p2,e0,g2⟩:=GP h;obtain⟨w1,e1,g3⟩:=DG.out g2;obtain⟨A3,n3,m3,rfl,g4⟩:=aE.out g3;obtain⟨w14,e14,g5⟩:=DG.out g4;obtain⟨A4,n4,m4,rfl,g6⟩:=aE.out g5;obtain⟨x1,e15,g8⟩:=GI g6;obtain⟨x2,e16,g10⟩:=GI g8;obtain⟨rfl,h'⟩:=ax.out g10;exact cU (Λ:=(cA.Λ4 K (cA.l4 K k))) gC [] (ag.cons e0 (ag.cons e1 (ag.cons e14 (ag.cons e15 (ag.cons e16 (ag.nil _)))))) h' oN) oN)
def kf (p1:OA)(x1:Int)(H:Hp)(K:VK):Prop:=
 cC 92 #[.pointer p1,I x1] H fun x2 H1=>aq (x2 !=0) (K (.tuple #[.slice none 0 0,I x2]) H1) (NN p1 fun a1=>fP 93 #[.pointer (some (a1.add 7))] H1 fun c1 H2=>aq c1 (K (.tuple #[.slice none 0 0,I 8]) H2) (NN p1 fun a2=>aM H2 (((a2.add 3).add 0).add 0) fun x3=>NN p1 fun a3=>St H2 ((((a3.add 3).add 0).add 0).add 0) (I (i64.wrap (x3+1))) fun H3=>NN p1 fun a4=>qG H3 (a4.add 9) fun r1=>sR prog (Instr.lookup 51 (.map r1) (I x1) true) H3 fun v5=>Kz v5 fun s1 c2=>(aq c2 (Ku 5 s1 H3 fun v8 H4=>aE v8 fun A1 n1 m1=>K (.tuple #[.slice A1 n1 m1,I 0]) H4) (NN p1 fun a5=>lM 94 #[.pointer (some (a5.add 0)),I x1] H3 fun A2 n2 m2 H5=>K (.tuple #[.slice A2 n2 m2,I 0]) H5))))
theorem kf.ok p1 x1 H K (h:kf p1 x1 H K):aa prog 46 #[.pointer p1,I x1] H K:=
 bX gC Tryz.func46 rfl rfl h
def jH (p1:OA)(x1:Int)(A1:OA)(n1 m1:Nat)(H:Hp)(K:VK):Prop:=
 cC 92 #[.pointer p1,I x1] H fun x2 H1=>aq (x2 !=0) (K (I x2) H1) (NN p1 fun a1=>aM H1 ((a1.add 0).add 1) fun x3=>aq ((n1:Int) !=x3) (K (I 19) H1) (NN p1 fun a2=>fP 93 #[.pointer (some (a2.add 7))] H1 fun c1 H2=>aq c1 (K (I 8) H2) (NN p1 fun a3=>aM H2 (((a3.add 3).add 0).add 1) fun x4=>NN p1 fun a4=>St H2 ((((a4.add 3).add 0).add 1).add 0) (I (i64.wrap (x4+1))) fun H3=>NN p1 fun a5=>qG H3 ((a5.add 3).add 3) fun r1=>gA prog (Instr.mapUpdate 56 (.map r1) (I x1) (I 1)) H3 fun _ H4=>NN p1 fun a6=>qG H4 (a6.add 9) fun r2=>Ii H4 A1 n1 fun s1=>gA prog (Instr.mapUpdate 51 (.map r2) (I x1) (.string s1)) H4 fun _ H5=>K (I 0) H5)))
theorem jH.ok p1 x1 A1 n1 m1 H K (h:jH p1 x1 A1 n1 m1 H K):aa prog 47 #[.pointer p1,I x1,.slice A1 n1 m1] H K:=
 nL (fun i=>match Nat.beq i 10 with|true=>some ([],[0,1,2,3,4,5,6],7)|false=>none) gC Tryz.func47 rfl rfl h
def jG (p1:OA)(H:Hp)(K:VK):Prop:=
 NN p1 fun a1=>qG H (a1.add 9) fun r1=>Hz 138 #[.map r1] H fun v2 H1=>lM 137 #[v2] H1 fun A1 n1 m1 H2=>K (.slice A1 n1 m1) H2
theorem jG.ok p1 H K (h:jG p1 H K):aa prog 78 #[.pointer p1] H K:=
 bX gC Tryz.func78 rfl rfl h
def jI (p1:OA)(x1:Int)(H:Hp)(K:VK):Prop:=
 NN p1 fun a1=>Eu H ((a1.add 7).add 0) fun c1=>aq c1 (K (I 8) H) (aq (decide (x1<0)) (K (I 2) H) (NN p1 fun a2=>aM H ((a2.add 0).add 0) fun x2=>aq (decide (x1>=x2)) (K (I 2) H) (K (I 0) H)))
theorem jI.ok p1 x1 H K (h:jI p1 x1 H K):aa prog 92 #[.pointer p1,I x1] H K:=
 bX gC Tryz.func92 rfl rfl h
def ja (p1:OA)(H:Hp)(K:VK):Prop:=
 NN p1 fun a1=>aM H (a1.add 1) fun x1=>aq (x1==0) (K (.bool false) H) (NN p1 fun a2=>aM H (a2.add 1) fun x2=>NN p1 fun a3=>St H ((a3.add 1).add 0) (I (i64.wrap (x2-1))) fun H1=>NN p1 fun a4=>aM H1 (a4.add 1) fun x3=>NN p1 fun a5=>St H1 ((a5.add 0).add 0) (.bool (x3==0)) fun H2=>NN p1 fun a6=>Eu H2 (a6.add 0) fun c1=>K (.bool c1) H2)
theorem ja.ok p1 H K (h:ja p1 H K):aa prog 93 #[.pointer p1] H K:=
 bX gC Tryz.func93 rfl rfl h
def jJ (p1:OA)(x1:Int)(H:Hp)(K:VK):Prop:=
 NN p1 fun a1=>aM H (a1.add 1) fun x2=>jA prog 5 x2 x2 H fun v2 H1=>aE v2 fun A1 n1 m1=>NN p1 fun a2=>qG H1 (a2.add 2) fun r1=>sR prog (Instr.lookup 51 (.map r1) (I x1) false) H1 fun v4=>DS v4 fun s1=>qC prog 5 (.slice A1 n1 m1) (.string s1) H1 fun v5 H2=>DI .i64 v5 fun x3=>K (.slice A1 n1 m1) H2
theorem jJ.ok p1 x1 H K (h:jJ p1 x1 H K):aa prog 94 #[.pointer p1,I x1] H K:=
 bX gC Tryz.func94 rfl rfl h
def gP (p1:OA)(H:Hp)(K:VK):Prop:=
 NN p1 fun a1=>aM H (a1.add 0) fun x1=>K (I x1) H
theorem gP.ok p1 H K (h:gP p1 H K):aa prog 123 #[.pointer p1] H K:=
 bX gC Tryz.func123 rfl rfl h
def i6 (p1:OA)(H:Hp)(K:VK):Prop:=
 NN p1 fun a1=>aM H (a1.add 1) fun x1=>K (I x1) H
theorem i6.ok p1 H K (h:i6 p1 H K):aa prog 124 #[.pointer p1] H K:=
 bX gC Tryz.func124 rfl rfl h
def kg (p1:OA)(H:Hp)(K:VK):Prop:=
 NN p1 fun a1=>Eu H ((a1.add 7).add 0) fun c1=>aq c1 (K (I 8) H) (NN p1 fun a2=>fP 93 #[.pointer (some (a2.add 7))] H fun c2 H1=>aq c2 (K (I 8) H1) (NN p1 fun a3=>aM H1 (((a3.add 3).add 0).add 2) fun x1=>NN p1 fun a4=>St H1 ((((a4.add 3).add 0).add 2).add 0) (I (i64.wrap (x1+1))) fun H2=>NN p1 fun a5=>qG H2 ((a5.add 0).add 2) fun r1=>NN p1 fun a6=>qG H2 (a6.add 9) fun r2=>Hz 183 #[.map r1,.map r2] H2 fun v6 H3=>NN p1 fun a7=>qG H3 (a7.add 9) fun r3=>gA prog (Builtin.clear_ #[51] 0 #[.map r3]) H3 fun v8 H4=>K (I 0) H4))
theorem kg.ok p1 H K (h:kg p1 H K):aa prog 127 #[.pointer p1] H K:=
 nL (fun i=>match Nat.beq i 4 with|true=>some ([],[0,1,2,3,4,5,6,7,8],9)|false=>none) gC Tryz.func127 rfl rfl h
end W
namespace Dsk
open Go Go.Hw W
structure D where
 sec:Nat
 size:Nat
 safe:Int->Option (List UInt8)
 cache:Int->Option (List UInt8)
 gE:Int->Bool
 rd:Nat
 wr:Nat
 sy:Nat
 down:Bool
 aH:Nat
def tH (l:List UInt8):Value:=.string ⟨l.toArray⟩
def eS (m:Int->Option (List UInt8)):Int->Option Value:=fun k=>(m k).map tH
def qw (m:Int->Bool):Int->Option Value:=fun k=>if m k then some (I 1)else none
def qZ (d:D)(r1 r2 r3:Nat):AO:=Oa #[I d.sec,I d.size,.map (some r1),I d.rd,I d.wr,I d.sy,.map (some r2),.bool d.down,I d.aH,.map (some r3)] 62
structure Ok (d:D):Prop where
 sec:1<=d.sec/\d.sec<=1048576
 size:32<=d.size/\d.size<=4096
 kV:d.sec*d.size<=67108864
 ae:d.size%8=0
 safe:∀ k b,d.safe k=some b->b.length=d.size
 cache:∀ k b,d.cache k=some b->b.length=d.size
 fz:d.aH<=9223372036854775807
def Dk (p:Nat)(d:D):As:=fun H=>∃ r1 r2 r3,Sep [ah p (qZ d r1 r2 r3),Mp r1 (eS d.safe),Mp r2 (qw d.gE),Mp r3 (eS d.cache)] H
theorem Sep.fold {M L:List As}{A:As}{H:Hp}(h:Sep (M++L) H)(k:∀ H1,Sep M H1->A H1):Sep (A::L) H:=by
 obtain⟨H1,H2,h1,h2,h3,h4,h5⟩:=h.append;exact⟨H1,H2,h1,h2,h3,k H1 h4,h5⟩
theorem Dk.open {p:Nat}{d:D}{L:List As}{H:Hp}(h:Sep (Dk p d::L) H):∃ r1 r2 r3,Sep (ah p (qZ d r1 r2 r3)::Mp r1 (eS d.safe)::Mp r2 (qw d.gE)::Mp r3 (eS d.cache)::L) H:=by
 obtain⟨H1,H2,h1,h2,h3,⟨r1,r2,r3,h4⟩,h5⟩:=h;exact⟨r1,r2,r3,Sep.join h1 h2 h3 h4 h5⟩
theorem Dk.shut {p:Nat}{d:D}{r1 r2 r3:Nat}{L:List As}{H:Hp}(h:Sep (ah p (qZ d r1 r2 r3)::Mp r1 (eS d.safe)::Mp r2 (qw d.gE)::Mp r3 (eS d.cache)::L) H):Sep (Dk p d::L) H:=
 Sep.fold (M:=[ah p (qZ d r1 r2 r3),Mp r1 (eS d.safe),Mp r2 (qw d.gE),Mp r3 (eS d.cache)]) h fun H1 h1=>⟨r1,r2,r3,h1⟩
theorem Dk.fU {p:Nat}{d:D}{L:List As}{H:Hp}(h:Sep L H)(i:Nat)(hi:L[i]? =some (Dk p d)):∃ r1 r2 r3,H p=some (qZ d r1 r2 r3):=by
 obtain⟨H1,⟨r1,r2,r3,h1⟩,hle⟩:=h.fU i hi;exact⟨r1,r2,r3,hle _ _ (h1.get 0 rfl)⟩
section
variable {L : List As} {H : Hp} {p : Nat} {d : D}
theorem kR (h:Sep L H)(i:Nat)(hi:L[i]? =some (Dk p d)):aa prog 123 #[V p] H (RetE (I (d.sec:Int)) H):=by
 obtain⟨r1,r2,r3,hd⟩:=Dk.fU h i hi;apply gP.ok;unfold gP;simp only[HS];refine ez hd (v:=I d.sec) rfl ?_;simp only[HV];exact RetE.mk _ _
theorem pX (h:Sep L H)(i:Nat)(hi:L[i]? =some (Dk p d)):aa prog 124 #[V p] H (RetE (I (d.size:Int)) H):=by
 obtain⟨r1,r2,r3,hd⟩:=Dk.fU h i hi;apply i6.ok;unfold i6;simp only[HS];refine ez hd (v:=I d.size) rfl ?_;simp only[HV];exact RetE.mk _ _
def D.jR (d:D)(i:Int):Int:=if d.down then 8 else if i<0\/i>=d.sec then 2 else 0
theorem tV (h:Sep L H)(i:Nat)(hi:L[i]? =some (Dk p d))(x:Int):aa prog 92 #[V p,I x] H (RetE (I (d.jR x)) H):=by
 obtain⟨r1,r2,r3,hd⟩:=Dk.fU h i hi;apply jI.ok;unfold jI;simp only[HS];refine ez hd (v:=.bool d.down) rfl ?_;simp only[HV];unfold D.jR;cases d.down with
 |true=>exact RetE.mk _ _
 |false=>
  simp only[HV];rw[if_neg (by simp)];by_cases h1:x<0
  .rw[if_pos (.inl h1)];exact aA h1 (RetE.mk _ _)
  .refine au h1 ?_;refine ez hd (v:=I d.sec) rfl ?_;simp only[HV];by_cases h2:x>=d.sec
   .rw[if_pos (.inr h2)];exact aA h2 (RetE.mk _ _)
   .rw[if_neg (by omega)];exact au h2 (RetE.mk _ _)
end
def D.bu (d:D):D:=if d.aH=0 then d else{ d with aH:=d.aH-1,down:=decide (d.aH=1)}
def D.dr (d:D):Bool:=decide (d.aH=1)
theorem uY {p:Nat}{d:D}(hf:d.aH<=9223372036854775807):Tr prog 93 #[.pointer (some ⟨p,7,none⟩)] [Dk p d] fun v M=>v= .bool d.dr/\M=[Dk p d.bu]:=fun H hs=>by
 obtain⟨r1,r2,r3,hs⟩:=Dk.open hs;apply ja.ok;unfold ja;simp only[HS];refine hs.ld 0 rfl rfl ?_;simp only[HV];by_cases h0:d.aH=0
 .refine bH (by omega) ⟨_,⟨?_,rfl⟩,?_⟩
  .unfold D.dr;rw[h0];rfl
  .have:d.bu=d:=by unfold D.bu;rw[if_pos h0]
   rw[this];exact Dk.shut hs
 .refine bT (by omega) ?_;refine hs.ld 0 rfl rfl ?_;simp only[HV];refine hs.st 0 rfl (by show 8<10;omega) rfl fun H hs=>?_;refine hs.ld 0 rfl rfl ?_;simp only[HV];rw[bg (x:=(d.aH:Int)-1)]at hs⊢;refine hs.st 0 rfl (by show 7<10;omega) rfl fun H hs=>?_;refine hs.ld 0 rfl rfl ?_;simp only[HV];have e:((d.aH:Int)-1==0)=d.dr:=by
   unfold D.dr;by_cases h1:d.aH=1
   .simp[h1]
   .rw[decide_eq_false h1];simp;omega
  rw[e]at hs⊢;refine⟨_,⟨rfl,rfl⟩,?_⟩;have hb:d.bu={ d with aH:=d.aH-1,down:=d.dr}:=by unfold D.bu;rw[if_neg h0];rfl
  rw[hb];refine Dk.shut (r1:=r1) (r2:=r2) (r3:=r3) ?_;have ef:((d.aH-1:Nat):Int)=(d.aH:Int)-1:=by omega
  unfold qZ;simp only[ef];exact hs
end Dsk
namespace W
open Go Go.Hw
theorem yx :prog.follows .mixedOrders=true:=by kernel_rfl
def aD.l1 (K:VK):Nat->Option Nat->VK
 |0,_,_,_=>False
 |k+1,r3,v2,H=>
  let R1:=aD.l1 K k
  gA prog (Instr.next (v2) false 0) H fun v3 H2=>Ex v3 0 fun v4=>DB v4 fun c1=>aq c1 (gA prog (Instr.entry (v2)) H2 fun v5 H3=>Ex v5 0 fun v6=>DI .i64 v6 fun x1=>Ex v5 1 fun v7=>DS v7 fun s1=>gA prog (Instr.mapUpdate 51 (.map r3) (I x1) (.string s1)) H3 fun _ H4=>R1 r3 v2 H4) (K (.tuple #[]) H2)
def aD (r1 r2:Option Nat)(H:Hp)(K:VK):Prop:=
 gA prog (Instr.range 51 (.map r2)) H fun v1 H1=>(∃ k,aD.l1 K k r1 v1 H1)
def aD.l1.L (K:VK)(k:Nat):de:=fun E D H=>
 DG (E.get? 0) fun w0=>DM w0 fun r3=>DG (E.get? 7) fun w7=>(fun v2=>ax D (aD.l1 K k r3 v2 H)) w7
def aD.Λ1 (_:VK)(_R1:Option Nat->VK):aI:=aI.none (fun _=>none)
def aD.Λ (K:VK):aI:=⟨fun i=>none,fun i=>match Nat.beq i 1 with|true=>some (fun E D H=>∃ k,aD.l1.L K k E D H)|false=>none,(fun _=>none)⟩
theorem aD.ok r1 r2 H K (h:aD r1 r2 H K):aa prog 183 #[.map r1,.map r2] H K:=
 dV (Λ:=(aD.Λ K)) yx Tryz.func183 rfl rfl h (oC (fun E D H h=>by
   refine Safe.cJ (aD.l1.L K) (fun E D H h=>?_) (fun k E D H h=>?_) E D H h
   .obtain⟨w0,e0,g1⟩:=DG.out h;obtain⟨r3,rfl,g2⟩:=DM.out g1;obtain⟨w7,e7,g3⟩:=DG.out g2;obtain⟨v2,rfl⟩:∃ q,q=w7:=⟨_,rfl⟩;obtain⟨rfl,h'⟩:=ax.out g3;exact h'
   .obtain⟨w0,e0,g1⟩:=DG.out h;obtain⟨r3,rfl,g2⟩:=DM.out g1;obtain⟨w7,e7,g3⟩:=DG.out g2;obtain⟨v2,rfl⟩:∃ q,q=w7:=⟨_,rfl⟩;obtain⟨rfl,h'⟩:=ax.out g3;exact cU (Λ:=(aD.Λ1 K (aD.l1 K k))) yx [] (ag.cons e0 (ag.cons e7 (ag.nil _))) h' oN) oN)
end W
namespace Dsk
open Go Go.Hw W
theorem pK :prog.underlying 3=some (.int .i64):=by kernel_rfl
theorem nR :prog.underlying 51=some (.map 3 9):=by kernel_rfl
theorem Ll :prog.underlying 56=some (.map 3 3):=by kernel_rfl
theorem Ee :∃ j,prog.info? 9=some j/\j.zero=some (.string ByteArray.empty):=by
 have h:(prog.info? 9).map (·.zero)=some (some (.string ByteArray.empty)):=by kernel_rfl
 obtain⟨j,hj,h2⟩:=Option.map_eq_some_iff.1 h;exact⟨j,hj,h2⟩
theorem KF :ed prog 5=some (1,1,some #[.int .u8 0]):=by kernel_rfl
def D.fresh (sec size:Nat):D:=⟨sec,size,fun _=>none,fun _=>none,fun _=>false,0,0,0,false,0⟩
def D.sat (d:D)(i:Int):List UInt8:=(d.safe i).getD (List.replicate d.size 0)
def D.now (d:D)(i:Int):List UInt8:=(d.cache i).getD (d.sat i)
theorem Ok.sat {d:D}(h:Ok d)(i:Int):(d.sat i).length=d.size:=by
 unfold D.sat;cases e:d.safe i with
 |none=>simp
 |some b=>exact h.safe i b e
theorem Ok.now {d:D}(h:Ok d)(i:Int):(d.now i).length=d.size:=by
 unfold D.now;cases e:d.cache i with
 |none=>exact h.sat i
 |some b=>exact h.cache i b e
theorem Ok.bu {d:D}(h:Ok d):Ok d.bu:=by
 unfold D.bu;split
 .exact h
 .exact⟨h.sec,h.size,h.kV,h.ae,h.safe,h.cache,Nat.le_trans (Nat.sub_le _ _) h.fz⟩
theorem Ok.fresh {sec size:Nat}(h1:1<=sec/\sec<=1048576)(h2:0<Lay.bP size)(h3:sec*size<=67108864):Ok (D.fresh sec size):=by
 have h:size=32\/size=64\/size=128\/size=256\/size=512\/size=1024\/size=2048\/size=4096:=by
  unfold Lay.bP at h2
  repeat' split at h2
  all_goals omega
 refine⟨h1,?_,h3,?_,fun k b h=>(by cases h),fun k b h=>(by cases h),Nat.zero_le _⟩
 .show 32<=size/\size<=4096;omega
 .show size%8=0;omega
theorem iU (sec size:Nat)(h1:1<=sec/\sec<=1048576)(h2:0<Lay.bP size)(h3:sec*size<=67108864):Tr prog 14 #[I sec,I size] [] fun v M=>∃ p,v= V p/\M=[Dk p (D.fresh sec size)]:=fun H hs=>by
 apply pj.ok;unfold pj;have h32:¬((size:Int)<32):=fun h=>by rw[Lay.sr h]at h2;omega
 have h40:¬((size:Int)>4096):=fun h=>by rw[Lay.sq h]at h2;omega
 refine au (by omega) (au (by omega) (au h32 (au h40 ?_)));have ht:=List.all_eq_true.1 Lay.yJ size (by simp;omega);rw[if_pos (by omega)]at ht;rw[show((size:Int)-1)=((size-1:Nat):Int) by omega,bg,Lay.rZ (by omega) (by omega)];split at ht
 .rename_i h4
  simp only[beq_iff_eq]at h4;rw[h4];refine aF rfl ⟨by omega,rfl,?_⟩;rw[show Int.tdiv 67108864 (size:Int)=((67108864/size:Nat):Int)from rfl];have hd:sec<=67108864/size:=(Nat.le_div_iff_mul_le (by omega)).2 h3;have hle:67108864/size<=67108864:=Nat.div_le_self _ _;rw[dS];refine au (by omega) ?_;refine hs.nw fun b1 H hs=>?_
  have hs:=Mp.new hs;refine hs.nw fun b2 H hs=>?_
  have hs:=Mp.new hs;refine hs.nw fun b3 H hs=>?_
  have hs:=Mp.new hs;refine hs.nw fun b4 H hs=>?_
  refine⟨_,⟨b4,rfl,rfl⟩,Dk.shut (r1:=b1) (r2:=b2) (r3:=b3) (hs.re [3,0,1,2] rfl)⟩
 .simp only[beq_iff_eq]at ht;omega
theorem KO {p:Nat}{d:D}(hok:Ok d)(i:Int):Tr prog 94 #[V p,I i] [Dk p d] fun v M=>∃ b,v= .slice (Oo b) d.size d.size/\M=[Dk p d,ah b (.row (aC (d.sat i)) 5 d.size)]:=fun H hs=>by
 obtain⟨r1,r2,r3,hs⟩:=Dk.open hs;obtain⟨jz,hz1,hz2⟩:=Ee;have hsz:=hok.size;apply jJ.ok;unfold jJ;simp only[HS];refine hs.ld 0 rfl rfl ?_;simp only[HV];refine hs.nX KF rfl (n:=d.size) (m:=d.size) rfl rfl (Nat.le_refl _) (by omega) (by omega) fun b H hs=>?_
 simp only[HV];refine hs.ld 0 rfl rfl ?_;simp only[HV];obtain⟨H1,⟨l,clock,hr1,hgk⟩,hle⟩:=hs.fU 1 rfl;refine xn pK nR hz1 hz2 (hle _ _ hr1) false ?_;rw[hgk.get];have e:∀ bs:List UInt8,(bs.length=d.size\/bs=[])->setAt (cI [.int .u8 0] d.size) 0 (aC bs)=aC (if bs=[]then List.replicate d.size 0 else bs):=fun bs hb=>by
  rw[eR];rcases hb with hb|rfl
  .rw[o8 (by rw[bk,List.length_replicate];exact hb),if_neg (fun e=>by rw[e]at hb;simp at hb;omega)]
  .rw[show aC []=[]from rfl,mT,if_pos rfl];simp[aC]
 have fin:∀ bs:List UInt8,(bs.length=d.size\/bs=[])->(if bs=[]then List.replicate d.size 0 else bs)=d.sat i->
   qC prog 5 (.slice (Oo b) d.size d.size) (.string ⟨bs.toArray⟩) H fun v5 H2=>DI .i64 v5 fun x3=>∃ M,(∃ b',(.slice (Oo b) d.size d.size:Value)= .slice (Oo b') d.size d.size/\M=[Dk p d,ah b' (.row (aC (d.sat i)) 5 d.size)])/\Sep M H2:=fun bs hb hsat=>by
  have hlb:bs.length<=d.size:=by rcases hb with hb|rfl<;>simp_all
  refine hs.cp 4 (k:=bs.length) (ys:=aC bs) rfl KF rfl ?_ (by rw[bk,fg];simp;omega) (fun y hy=>?_) fun H hs=>?_
  .rw[show Nat.min bs.length d.size=bs.length from Nat.min_eq_left hlb];show some (aC ((⟨bs.toArray⟩:ByteArray).extract 0 bs.length).data.toList)=_
   congr 2;simp[ByteArray.extract,ByteArray.copySlice]
  .obtain⟨x,_,rfl⟩:=List.mem_map.1 hy;rfl
  .simp only[HV];refine⟨_,⟨b,rfl,rfl⟩,?_⟩;rw[e bs hb,hsat,Nat.mul_one]at hs;exact Dk.shut (hs.re [0,1,2,3,4] rfl)
 unfold eS;cases hsf:d.safe i with
 |none=>
  exact fin [] (.inr rfl) (by unfold D.sat;rw[hsf];rfl)
 |some bs=>
  have:=hok.safe i bs hsf;exact fin bs (.inl this) (by unfold D.sat;rw[hsf,if_neg (fun e=>by rw[e]at this;simp at this;omega)];rfl)
def IK (p:Nat)(d:D)(i:Int)(v:Value)(M:List As):Prop:=
 (d.jR i≠0/\v= .tuple #[.slice none 0 0,I (d.jR i)]/\M=[Dk p d])\/
 (d.jR i=0/\d.dr=true/\v= .tuple #[.slice none 0 0,I 8]/\M=[Dk p d.bu])\/
 (d.jR i=0/\d.dr=false/\∃ b c m,v= .tuple #[.slice (Oo b) d.size c,I 0]/\d.size<=c/\M=[Dk p { d.bu with rd:=d.rd+1},ah b (.row (aC (d.now i)) 5 m)])
theorem fQ (d:D):d.bu.rd=d.rd/\d.bu.wr=d.wr/\d.bu.sy=d.sy/\d.bu.size=d.size/\d.bu.sec=d.sec/\d.bu.safe=d.safe/\d.bu.cache=d.cache/\d.bu.gE=d.gE:=by
 unfold D.bu;split<;>simp
theorem tS {p:Nat}{d:D}(hok:Ok d)(ho:d.rd<=4611686018427387904)(i:Int):Tr prog 46 #[V p,I i] [Dk p d] (IK p d i):=fun H hs=>by
 obtain⟨jz,hz1,hz2⟩:=Ee;have hsz:=hok.size;have hf:=hok.fz;apply kf.ok;unfold kf;simp only[HS];refine aa.use (tV hs 0 rfl i) ?_
 try simp only[HV]
 by_cases hc:d.jR i=0
 .refine aF hc ?_;refine(uY hf).use hs [0] rfl rfl ?_;rintro _ _ H ⟨rfl,rfl⟩ hs;simp only[HV];cases hb:d.dr with
  |true=>exact⟨_,.inr (.inl ⟨hc,hb,rfl,rfl⟩),hs⟩
  |false=>
   simp only[HV];have hbr:=fQ d;obtain⟨r1,r2,r3,hs⟩:=Dk.open (L:=[]) hs;refine hs.ld 0 rfl rfl ?_;simp only[HV];refine hs.st 0 rfl (by show 3<10;omega) rfl fun H hs=>?_;rw[hbr.1]at hs;rw[bg (x:=(d.rd:Int)+1)]at hs;refine hs.ld 0 rfl rfl ?_;simp only[HV];have hs:Sep [ah p (qZ { d.bu with rd:=d.rd+1} r1 r2 r3),Mp r1 (eS d.bu.safe),Mp r2 (qw d.bu.gE),Mp r3 (eS d.bu.cache)] H:=hs;obtain⟨H1,⟨l,clock,hr1,hgk⟩,hle⟩:=hs.fU 3 rfl;refine xn pK nR hz1 hz2 (hle _ _ hr1) true ?_;rw[hgk.get,hbr.2.2.2.2.2.2.1];unfold eS;cases hcd:d.cache i with
   |some bs=>
    have hl:=hok.cache i bs hcd;simp only[Option.map_some,tH,if_true];simp only[HV];refine⟨by show bs.toArray.size<=_;simp;omega,fun c hbc=>?_⟩;refine hs.nw fun b H hs=>?_
    simp only[HV];have hsize:((⟨bs.toArray⟩:ByteArray).size)=d.size:=by show bs.toArray.size=_;simpa using hl
    rw[hsize]at hbc⊢;refine⟨_,.inr (.inr ⟨hc,hb,b,c,c,rfl,hbc,rfl⟩),?_⟩;have:d.now i=bs:=by unfold D.now;rw[hcd];rfl
    rw[this];exact Dk.shut hs
   |none=>
    simp only[Option.map_none,if_true];simp only[HV];have hs:=Dk.shut (L:=[]) hs;have hsat:(D.sat { d.bu with rd:=d.rd+1} i)=d.sat i:=by unfold D.sat;rw[show({ d.bu with rd:=d.rd+1}:D).safe=d.bu.safe from rfl,hbr.2.2.2.2.2.1,show({ d.bu with rd:=d.rd+1}:D).size=d.bu.size from rfl,hbr.2.2.2.1]
    have hok2:Ok { d.bu with rd:=d.rd+1}:=⟨hok.bu.sec,hok.bu.size,hok.bu.kV,hok.bu.ae,hok.bu.safe,hok.bu.cache,hok.bu.fz⟩;refine(KO hok2 i).use hs [0] rfl rfl ?_;rintro _ _ H ⟨b,rfl,rfl⟩ hs;simp only[HV];refine⟨_,.inr (.inr ⟨hc,hb,b,d.size,d.size,?_,Nat.le_refl _,rfl⟩),?_⟩
    .show(Value.tuple #[.slice (Oo b) d.bu.size d.bu.size,I 0])=_
     rw[hbr.2.2.2.1]
    .have:d.now i=d.sat i:=by unfold D.now;rw[hcd];rfl
     rw[this,<-hsat];have e:({ d.bu with rd:=d.rd+1}:D).size=d.size:=hbr.2.2.2.1;rw[<- e];exact hs
 .refine aU hc ⟨_,.inl ⟨hc,rfl,rfl⟩,hs⟩
def gD (m:Int->Option (List UInt8))(k:Int)(v:List UInt8):Int->Option (List UInt8):=fun j=>if j=k then some v else m j
def qz (m:Int->Bool)(k:Int):Int->Bool:=fun j=>if j=k then true else m j
theorem Bx (m:Int->Option (List UInt8))(k:Int)(v:List UInt8):mL (eS m) k (tH v)=eS (gD m k v):=by
 funext j
 unfold mL eS gD;split<;>rfl
theorem Lm (m:Int->Bool)(k:Int):mL (qw m) k (I 1)=qw (qz m k):=by
 funext j
 unfold mL qw qz;split<;>rfl
def D.wrote (d:D)(i:Int)(bs:List UInt8):D:={ d.bu with wr:=d.wr+1,gE:=qz d.gE i,cache:=gD d.cache i bs}
def D.dc (d:D)(i:Int)(n:Nat):Int:=if d.jR i≠0 then d.jR i else if n≠d.size then 19 else if d.dr then 8 else 0
def D.bC (d:D)(i:Int)(bs:List UInt8):D:=if d.jR i≠0 then d else if bs.length≠d.size then d else if d.dr then d.bu else d.wrote i bs
theorem ki {p:Nat}{d:D}(hok:Ok d)(ho:d.wr<=4611686018427387904)(i:Int)(A:OA)(n m:Nat)(bs:List UInt8)(hn:n=bs.length)(R:As)(hR:∀ H,R H->Cells H A (aC bs)):
  Tr prog 47 #[V p,I i,.slice A n m] [Dk p d,R] fun v M=>v= I (d.dc i n)/\M=[Dk p (d.bC i bs),R]:=fun H hs=>by
 have hf:=hok.fz;have hsz:=hok.size;apply jH.ok;unfold jH;simp only[HS];refine aa.use (tV hs 0 rfl i) ?_
 try simp only[HV]
 by_cases hc:d.jR i=0
 .refine aF hc ?_;obtain⟨r1,r2,r3,hd⟩:=Dk.fU hs 0 rfl;refine ez hd (v:=I d.size) rfl ?_;simp only[HV];by_cases hnd:n=d.size
  .refine aF (by omega) ?_;have hnl:bs.length=d.size:=by omega
   refine(uY hf).use hs [0] rfl rfl ?_;rintro _ _ H ⟨rfl,rfl⟩ hs;simp only[HV];cases hb:d.dr with
   |true=>exact⟨_,⟨by simp[D.dc,hc,hnd,hb],by simp[D.bC,hc,hnl,hb];rfl⟩,hs⟩
   |false=>
    simp only[HV];have hbr:=fQ d;obtain⟨r1,r2,r3,hs⟩:=Dk.open hs;refine hs.ld 0 rfl rfl ?_;simp only[HV];refine hs.st 0 rfl (by show 4<10;omega) rfl fun H hs=>?_;rw[hbr.2.1]at hs;rw[bg (x:=(d.wr:Int)+1)]at hs;refine hs.ld 0 rfl rfl ?_;simp only[HV];refine hs.uR pK Ll 2 rfl fun H hs=>?_;rw[Lm,hbr.2.2.2.2.2.2.2]at hs;refine hs.ld 0 rfl rfl ?_;simp only[HV];obtain⟨H1,hR1,hle⟩:=hs.fU 4 (A:=R) rfl;refine Ei ((hR H1 hR1).le hle) hn ?_;refine hs.uR pK nR 3 rfl fun H hs=>?_;rw[show(Value.string ⟨bs.toArray⟩)=tH bs from rfl,Bx,hbr.2.2.2.2.2.2.1]at hs;refine⟨_,⟨by simp[D.dc,hc,hnd,hb],by simp[D.bC,hc,hnl,hb];rfl⟩,?_⟩;exact Dk.shut (d:=d.wrote i bs) (r1:=r1) (r2:=r2) (r3:=r3) hs
  .refine aU (by omega) ?_;have hnl:bs.length≠d.size:=by omega
   exact⟨_,⟨by simp[D.dc,hc,hnd],by simp[D.bC,hc,hnl]⟩,hs⟩
 .refine aU hc ?_;exact⟨_,⟨by simp[D.dc,hc],by simp[D.bC,hc]⟩,hs⟩
theorem EN {d:D}{i:Int}(h:d.jR i=0):0<=i/\i<d.sec/\d.down=false:=by
 unfold D.jR at h;split at h
 .omega
 .split at h
  .omega
  .rename_i h1 h2
   exact⟨by omega,by omega,by simpa using h1⟩
end Dsk
namespace Lay
open Go Go.Hw W
def u6 (f s w:Int):Array Value:=#[I f,I s,I w]
def ir (k p:Nat):Array Value:=
 let r:Int:=bI k p
 let w:Int:=(2^k:Nat)
 #[I k,I p,I 1,I 8,I ((8*p:Nat):Int),I 9,I r,I w,I (9+r),I r,I w,I (9+2*r),I r,I w,I (9+3*r),I r,I w]
def Ay :Array Value:=#[I 0,I 0,I 0,I 0,I 0,I 0,I 0,I 0,I 0,I 0,I 0,I 0,I 0,I 0,I 0,I 0,I 0]
theorem qO (K:VK)(d b1 b2:Nat)(e:TypeId)(k:Nat)(hk:k<=32)(H:Hp)(c:Array Value)(hc:c.size=17)(x r:Int)(hx:0<=x/\x<=100000000000)(hr:0<=r/\r<=100000000000)(i:Nat)(hi:i<4)
  (h:dd.l4 K d (k:Int) (O b1) (O b2) (x+r) r ((i+1:Nat):Int) (H.set b2 (Oa (setAt c.toList (5+i*3) (u6 x r ((2^k:Nat):Int)).toList).toArray e))):
  dd.l4 K (d+1) (k:Int) (O b1) (O b2) x r (i:Int) (H.set b2 (Oa c e)):=by
 conv=>unfold dd.l4
 refine aA (by omega) ⟨by rw[fC];omega,by omega,by omega,?_⟩;simp only[Addr.aP,Int.toNat_natCast,Nat.zero_add];rw[fC,lG (by omega)];refine B5 (Hp.bB _ _ _) (by omega) (by rfl) (by rfl) ?_;rw[Hp.set_set,bg (x:=x+r),bg (x:=(i:Int)+1)];exact h
theorem Fo {k p:Nat}(hk:k<=32)(hp:0<p)(hp2:p<=512)(H:Hp):aa prog 252 #[I k,I p] H (RetE (.agg (ir k p)) H):=by
 apply aa.ret;apply dd.ok;unfold dd;intro b1 hb1;intro b2 hb2';obtain⟨hne,hb2⟩:=Hp.vt hb2';refine pN (Hp.bB _ _ _) (by rfl) (by rfl) (by rfl) ?_;rw[Hp.set_set];refine aa.use (CB (k:=k) (p:=p) (by omega) hp (by omega) _) ?_
 try simp only[HV]
 have hr:=Bh (k:=k) (p:=p);have w8:i64.wrap (8*(p:Int))=((8*p:Nat):Int):=by rw[bg];omega
 rw[w8];refine⟨5,?_⟩;refine qO _ 4 b1 b2 _ k hk _ _ (by rfl) 9 _ (by omega) (by omega) 0 (by omega) ?_;refine qO _ 3 b1 b2 _ k hk _ _ (by rfl) _ _ (by omega) (by omega) 1 (by omega) ?_;refine qO _ 2 b1 b2 _ k hk _ _ (by rfl) _ _ (by omega) (by omega) 2 (by omega) ?_;refine qO _ 1 b1 b2 _ k hk _ _ (by rfl) _ _ (by omega) (by omega) 3 (by omega) ?_;unfold dd.l4;refine au (by decide) ?_;have hv:(setAt (setAt (setAt (setAt (#[I (k:Int),I (p:Int),I 1,I 8,I ((8*p:Nat):Int),I 0,I 0,I 0,I 0,I 0,I 0,I 0,I 0,I 0,I 0,I 0,I 0]:Array Value).toList
   (5+0*3) (u6 9 (bI k p) ((2^k:Nat):Int)).toList).toArray.toList (5+1*3) (u6 (9+bI k p) (bI k p) ((2^k:Nat):Int)).toList).toArray.toList (5+2*3) (u6 (9+bI k p+bI k p) (bI k p) ((2^k:Nat):Int)).toList).toArray.toList (5+3*3) (u6 (9+bI k p+bI k p+bI k p) (bI k p) ((2^k:Nat):Int)).toList).toArray=ir k p:=by
  have e2:(9+(bI k p:Int)+bI k p)=9+2*bI k p:=by omega
  have e3:(9+2*(bI k p:Int)+bI k p)=9+3*bI k p:=by omega
  rw[e2,e3];rfl
 rw[hv];refine mN (Hp.bB _ _ _) (by rfl) ?_;refine pN (c:=Ay) (y:=(ir k p)) (by rw[Hp.bK _ _ (Ne.symm hne)];exact Hp.bB _ _ _) (by rfl) (by rfl) (by rfl) ?_;refine mN (Hp.bB _ _ _) (by rfl) ?_;exact⟨rfl,fun b q hq=>by
  have h1:b≠b1:=fun e=>by rw[e,hb1]at hq;cases hq
  have h2:b≠b2:=fun e=>by rw[e,hb2]at hq;cases hq
  rw[Hp.bK _ _ h1,Hp.bK _ _ h2,Hp.bK _ _ h1];exact hq⟩
def mP (k sec s:Int):Array Value×Int:=
 if 0<=k/\k<=32/\0<bP s then(if sec<eQ k.toNat (bP s)then(Ay,7)else(ir k.toNat (bP s),0))else(Ay,1)
theorem ie (k sec s:Int)(H:Hp):aa prog 181 #[I k,I sec,I s] H (RetE (.tuple #[.agg (mP k sec s).1,I (mP k sec s).2]) H):=by
 apply aa.ret;apply oG.ok;unfold oG;intro b hb;have hle:=fun o=>Hp.jV (o:=o) hb
 refine aa.use (tQ k s _) ?_
 try simp only[HV]
 unfold mP oA;by_cases h:0<=k/\k<=32/\0<bP s
 .rw[if_pos h,if_pos h];refine bY (by rfl) ?_;by_cases h2:sec<(eQ k.toNat (bP s):Int)
  .rw[if_pos h2];refine aA h2 ?_;refine pN (Hp.bB _ _ _) (by rfl) (by rfl) (by rfl) (mN (Hp.bB _ _ _) (by rfl) ?_);rw[Hp.set_set];exact⟨rfl,hle _⟩
  .rw[if_neg h2];refine au h2 ?_;refine aa.use (wo s _) ?_
   try simp only[HV]
   obtain⟨n,rfl⟩:=Int.eq_ofNat_of_zero_le h.1;have:=rJ s;refine aa.use (Fo (k:=n) (p:=bP s) (by omega) h.2.2 this _) ?_
   try simp only[HV]
   refine pN (Hp.bB _ _ _) (by rfl) (by rfl) (by rfl) (mN (Hp.bB _ _ _) (by rfl) ?_);rw[Hp.set_set];exact⟨rfl,hle _⟩
 .rw[if_neg h,if_neg h];refine cO (by rfl) ?_;refine pN (Hp.bB _ _ _) (by rfl) (by rfl) (by rfl) (mN (Hp.bB _ _ _) (by rfl) ?_);rw[Hp.set_set];exact⟨rfl,hle _⟩
def kD (f s w p i:Int):Int×Int×Int:=if p<1\/i<0\/i>=w\/Int.tdiv i p>=s then(0,0,2)else(f+Int.tdiv i p,Int.tmod i p,0)
theorem EC (f s w p i:Int)(hf:0<=f/\f<=1000000000000)(hw:w<=1000000000000)(H:Hp):
  aa prog 316 #[.agg (u6 f s w),I p,I i] H (RetE (.tuple #[I (kD f s w p i).1,I (kD f s w p i).2.1,I (kD f s w p i).2.2]) H):=by
 apply aa.ret;apply kM.ok;unfold kM;intro b hb;have hle:=Hp.jV (o:=Oa #[I f,I s,I w] 150) hb;simp only[Addr.aP,Nat.zero_add];have no:(p<1\/i<0\/i>=w\/Int.tdiv i p>=s)->lU (.tuple #[I (kD f s w p i).1,I (kD f s w p i).2.1,I (kD f s w p i).2.2]) H (.tuple #[I 0,I 0,I 2]) (H.set b (Oa #[I f,I s,I w] 150)):=fun h=>by
  unfold kD;rw[if_pos h];exact⟨rfl,hle⟩
 rw[ic,ic];split
 .exact no (by omega)
 split
 .exact no (by omega)
 refine ez (Hp.bB _ _ _) (v:=I w) rfl ?_;simp only[HV];rw[ic];split
 .exact no (by omega)
 refine⟨by omega,by simp,?_⟩;refine ez (Hp.bB _ _ _) (v:=I s) rfl ?_;simp only[HV];have h1:0<=Int.tdiv i p:=Int.tdiv_nonneg (by omega) (by omega);have h2:Int.tdiv i p<=i:=by
  obtain⟨a,rfl⟩:=Int.eq_ofNat_of_zero_le (show 0<=i by omega);obtain⟨c,rfl⟩:=Int.eq_ofNat_of_zero_le (show 0<=p by omega);exact Int.ofNat_le.2 (Nat.div_le_self a c)
 rw[bg (x:=Int.tdiv i p),ic];split
 .rename_i h3;exact no (by omega)
 refine ez (Hp.bB _ _ _) (v:=I f) rfl ?_;simp only[HV];refine⟨by omega,by simp,by omega,by simp,?_⟩;rw[bg (x:=f+Int.tdiv i p)];unfold kD;rw[if_neg (by omega)];exact⟨rfl,hle⟩
def Ca (r:Int)(i:Nat):Int:=9+i*r
theorem Fm (k p i:Nat)(hi:i<4):(ir k p)[5+i*3]? =some (I (Ca (bI k p) i)):=by
 unfold Ca;rcases(by omega:i=0\/i=1\/i=2\/i=3)with rfl|rfl|rfl|rfl<;>simp[ir]
section
variable (K : Value -> Hp -> Prop) (k p e : Nat) (hk : k <= 10) (b1 b2 : Nat) (H0 H : Hp) (hle : H0.le H) (h1 : H b1 = some (Oa (ir k p) 153)) (h2 : H b2 = some (Oa (u6 (Ca (bI k p) e) (bI k p) ((2 ^ k : Nat) : Int)) 150))
include hk hle h1 h2
end
end Lay
namespace W
open Go Go.Hw
theorem iA :prog.follows .mixedOrders=true:=by kernel_rfl
def l0 (A1:OA)(n1 m1:Nat)(H:Hp)(K:VK):Prop:=
 cC 209 #[.slice A1 n1 m1,.func (.func 210) #[] #[]] H fun x1 H1=>K (.tuple #[I (if 0>x1 then 0 else x1),.bool (decide (x1<0))]) H1
theorem l0.ok A1 n1 m1 H K (h:l0 A1 n1 m1 H K):aa prog 146 #[.slice A1 n1 m1] H K:=
 bX iA Tryz.func146 rfl rfl h
def mX (A1:OA)(n1 m1:Nat)(x1:Int)(H:Hp)(K:VK):Prop:=
 fP 261 #[.slice A1 n1 m1,I x1] H fun c1 H1=>aq (!c1) (K (.tuple #[U 0,I 2]) H1) (lO n1 m1 (some (i64.wrap (8*x1))) none fun n2 n3=>eh 262 #[.slice (iG A1 m1 n2 1) (n3-n2) (m1-n2)] H1 fun x2 H2=>K (.tuple #[U x2,I 0]) H2)
theorem mX.ok A1 n1 m1 x1 H K (h:mX A1 n1 m1 x1 H K):aa prog 192 #[.slice A1 n1 m1,I x1] H K:=
 bX iA Tryz.func192 rfl rfl h
def kL (x1:Int)(H:Hp)(K:VK):Prop:=
 fP 211 #[U x1] H fun c1 H1=>K (.bool (!c1)) H1
theorem kL.ok x1 H K (h:kL x1 H K):aa prog 210 #[U x1] H K:=
 bX iA Tryz.func210 rfl rfl h
def dB.l3 (K:VK):Nat->OA->Nat->Nat->OA->Nat->Nat->Int->Int->Hp->Prop
 |0,_,_,_,_,_,_,_,_,_=>False
 |k+1,A3,n3,m3,A4,n4,m4,x1,x2,H=>
  let R3:=dB.l3 K k
  aq (decide (x2<x1)) (cz x2 n4 (NN A4 fun a1=>df H (a1.add (x2.toNat*1)) fun x3=>lO n3 m3 (some (i64.wrap (8*x2))) none fun n5 n6=>Hz 271 #[.slice (iG A3 m3 n5 1) (n6-n5) (m3-n5),U x3] H fun v3 H2=>R3 A3 n3 m3 A4 n4 m4 x1 (i64.wrap (x2+1)) H2)) (K (.slice A3 n3 m3) H)
def dB (A1:OA)(n1 m1:Nat)(H:Hp)(K:VK):Prop:=
 jA prog 5 (i64.wrap (8*(n1:Int))) (i64.wrap (8*(n1:Int))) H fun v1 H1=>aE v1 fun A2 n2 m2=>(∃ k,dB.l3 K k A2 n2 m2 A1 n1 m1 (n1:Int) 0 H1)
def dB.l3.L (K:VK)(k:Nat):de:=fun E D H=>
 DG (E.get? 3) fun w3=>aE w3 fun A3 n3 m3=>DG (E.get? 10) fun w10=>aE w10 fun A4 n4 m4=>eI E 11 .i64 fun x1=>eI E 12 .i64 fun x2=>ax D (dB.l3 K k A3 n3 m3 A4 n4 m4 x1 x2 H)
def dB.Λ3 (_:VK)(_R3:OA->Nat->Nat->OA->Nat->Nat->Int->Int->Hp->Prop):aI:=aI.none (fun _=>none)
def dB.Λ (K:VK):aI:=⟨fun i=>none,fun i=>match Nat.beq i 3 with|true=>some (fun E D H=>∃ k,dB.l3.L K k E D H)|false=>none,(fun _=>none)⟩
theorem dB.ok A1 n1 m1 H K (h:dB A1 n1 m1 H K):aa prog 214 #[.slice A1 n1 m1] H K:=
 dV (Λ:=(dB.Λ K)) iA Tryz.func214 rfl rfl h (oC (fun E D H h=>by
   refine Safe.cJ (dB.l3.L K) (fun E D H h=>?_) (fun k E D H h=>?_) E D H h
   .obtain⟨w3,e3,g1⟩:=DG.out h;obtain⟨A3,n3,m3,rfl,g2⟩:=aE.out g1;obtain⟨w10,e10,g3⟩:=DG.out g2;obtain⟨A4,n4,m4,rfl,g4⟩:=aE.out g3;obtain⟨w11,e11,g5⟩:=DG.out g4;obtain⟨x1,rfl,g6⟩:=DI.out g5;obtain⟨w12,e12,g7⟩:=DG.out g6;obtain⟨x2,rfl,g8⟩:=DI.out g7;obtain⟨rfl,h'⟩:=ax.out g8;exact h'
   .obtain⟨w3,e3,g1⟩:=DG.out h;obtain⟨A3,n3,m3,rfl,g2⟩:=aE.out g1;obtain⟨w10,e10,g3⟩:=DG.out g2;obtain⟨A4,n4,m4,rfl,g4⟩:=aE.out g3;obtain⟨x1,e11,g6⟩:=GI g4;obtain⟨x2,e12,g8⟩:=GI g6;obtain⟨rfl,h'⟩:=ax.out g8;exact cU (Λ:=(dB.Λ3 K (dB.l3 K k))) iA [] (ag.cons e3 (ag.cons e10 (ag.cons e11 (ag.cons e12 (ag.nil _))))) h' oN) oN)
def lk (A1:OA)(n1 m1:Nat)(x1:Int)(H:Hp)(K:VK):Prop:=
 aq (decide (x1>=0)) (((8:Int)≠0/\i64=i64/\K (.bool (decide (x1<(i64.wrap (Int.tdiv (n1:Int) 8))))) H)) (K (.bool false) H)
theorem lk.ok A1 n1 m1 x1 H K (h:lk A1 n1 m1 x1 H K):aa prog 261 #[.slice A1 n1 m1,I x1] H K:=
 bX iA Tryz.func261 rfl rfl h
def dx.l3 (K:VK):Nat->OA->Nat->Nat->Int->Int->Hp->Prop
 |0,_,_,_,_,_,_=>False
 |k+1,A2,n2,m2,x1,x2,H=>
  let R3:=dx.l3 K k
  aq (decide (x2>=0)) ((0<=(8:Int)/\cz x2 n2 (NN A2 fun a1=>Io H (a1.add (x2.toNat*1)) fun x3=>R3 A2 n2 m2 (kT .u64 (cT .u64 x1 8) (u64.wrap x3)) (i64.wrap (x2-1)) H))) (K (U x1) H)
def dx (A1:OA)(n1 m1:Nat)(H:Hp)(K:VK):Prop:=
 (∃ k,dx.l3 K k A1 n1 m1 0 7 H)
def dx.l3.L (K:VK)(k:Nat):de:=fun E D H=>
 DG (E.get? 0) fun w0=>aE w0 fun A2 n2 m2=>eI E 3 .u64 fun x1=>eI E 4 .i64 fun x2=>ax D (dx.l3 K k A2 n2 m2 x1 x2 H)
def dx.Λ3 (_:VK)(_R3:OA->Nat->Nat->Int->Int->Hp->Prop):aI:=aI.none (fun _=>none)
def dx.Λ (K:VK):aI:=⟨fun i=>none,fun i=>match Nat.beq i 3 with|true=>some (fun E D H=>∃ k,dx.l3.L K k E D H)|false=>none,(fun _=>none)⟩
theorem dx.ok A1 n1 m1 H K (h:dx A1 n1 m1 H K):aa prog 262 #[.slice A1 n1 m1] H K:=
 dV (Λ:=(dx.Λ K)) iA Tryz.func262 rfl rfl h (oC (fun E D H h=>by
   refine Safe.cJ (dx.l3.L K) (fun E D H h=>?_) (fun k E D H h=>?_) E D H h
   .obtain⟨w0,e0,g1⟩:=DG.out h;obtain⟨A2,n2,m2,rfl,g2⟩:=aE.out g1;obtain⟨w3,e3,g3⟩:=DG.out g2;obtain⟨x1,rfl,g4⟩:=DI.out g3;obtain⟨w4,e4,g5⟩:=DG.out g4;obtain⟨x2,rfl,g6⟩:=DI.out g5;obtain⟨rfl,h'⟩:=ax.out g6;exact h'
   .obtain⟨w0,e0,g1⟩:=DG.out h;obtain⟨A2,n2,m2,rfl,g2⟩:=aE.out g1;obtain⟨x1,e3,g4⟩:=GI g2;obtain⟨x2,e4,g6⟩:=GI g4;obtain⟨rfl,h'⟩:=ax.out g6;exact cU (Λ:=(dx.Λ3 K (dx.l3 K k))) iA [] (ag.cons e0 (ag.cons e3 (ag.cons e4 (ag.nil _)))) h' oN) oN)
def dH.l1 (K:VK):Nat->OA->Nat->Nat->Int->Int->Hp->Prop
 |0,_,_,_,_,_,_=>False
 |k+1,A2,n2,m2,x2,x3,H=>
  let R1:=dH.l1 K k
  aq (decide (x3<8)) ((0<=(u64.wrap (i64.wrap (8*x3)))/\cz x3 n2 (NN A2 fun a1=>St H ((a1.add (x3.toNat*1)).add 0) (.int .u8 (u8.wrap (cB .u64 x2 (u64.wrap (i64.wrap (8*x3)))))) fun H1=>R1 A2 n2 m2 x2 (i64.wrap (x3+1)) H1))) (K (.tuple #[]) H)
def dH (A1:OA)(n1 m1:Nat)(x1:Int)(H:Hp)(K:VK):Prop:=
 (∃ k,dH.l1 K k A1 n1 m1 x1 0 H)
def dH.l1.L (K:VK)(k:Nat):de:=fun E D H=>
 DG (E.get? 0) fun w0=>aE w0 fun A2 n2 m2=>eI E 1 .u64 fun x2=>eI E 5 .i64 fun x3=>ax D (dH.l1 K k A2 n2 m2 x2 x3 H)
def dH.Λ1 (_:VK)(_R1:OA->Nat->Nat->Int->Int->Hp->Prop):aI:=aI.none (fun _=>none)
def dH.Λ (K:VK):aI:=⟨fun i=>none,fun i=>match Nat.beq i 1 with|true=>some (fun E D H=>∃ k,dH.l1.L K k E D H)|false=>none,(fun _=>none)⟩
theorem dH.ok A1 n1 m1 x1 H K (h:dH A1 n1 m1 x1 H K):aa prog 271 #[.slice A1 n1 m1,U x1] H K:=
 dV (Λ:=(dH.Λ K)) iA Tryz.func271 rfl rfl h (oC (fun E D H h=>by
   refine Safe.cJ (dH.l1.L K) (fun E D H h=>?_) (fun k E D H h=>?_) E D H h
   .obtain⟨w0,e0,g1⟩:=DG.out h;obtain⟨A2,n2,m2,rfl,g2⟩:=aE.out g1;obtain⟨w1,e1,g3⟩:=DG.out g2;obtain⟨x2,rfl,g4⟩:=DI.out g3;obtain⟨w5,e5,g5⟩:=DG.out g4;obtain⟨x3,rfl,g6⟩:=DI.out g5;obtain⟨rfl,h'⟩:=ax.out g6;exact h'
   .obtain⟨w0,e0,g1⟩:=DG.out h;obtain⟨A2,n2,m2,rfl,g2⟩:=aE.out g1;obtain⟨x2,e1,g4⟩:=GI g2;obtain⟨x3,e5,g6⟩:=GI g4;obtain⟨rfl,h'⟩:=ax.out g6;exact cU (Λ:=(dH.Λ1 K (dH.l1 K k))) iA [] (ag.cons e0 (ag.cons e1 (ag.cons e5 (ag.nil _)))) h' oN) oN)
end W
end Go.Proofs.YtlgnlghmbcpmhaaGreatDoor
namespace Go.Form
open Go Go.Hw
def iM (w:UInt64):List UInt8:=(List.range 8).map fun k=>UInt8.ofNat (w.toNat/256^k)
def form (l:List UInt64):List UInt8:=l.flatMap iM
theorem jT (w:UInt64):(iM w).length=8:=by simp[iM]
theorem dI (l:List UInt64):(form l).length=8*l.length:=by
 induction l with
 |nil=>rfl
 |cons w l ih=>simp only[form,List.flatMap_cons,List.length_append,jT,List.length_cons];rw[show(List.flatMap iM l).length=(form l).length from rfl,ih];omega
theorem q9 (a b:List UInt64):form (a++b)=form a++form b:=by simp[form]
theorem EZ (l:List UInt64){i:Nat}(h:i<l.length):form (l.take (i+1))=form (l.take i)++iM l[i]:=by
 rw[List.take_succ_eq_append_getElem h,q9];simp[form]
theorem HF (w:UInt64)(k:Nat):u8.wrap ((w.toNat>>>(8*k):Nat):Int)=((UInt8.ofNat (w.toNat/256^k)).toNat:Int):=by
 rw[LS,Nat.shiftRight_eq_div_pow,show(2:Nat)^(8*k)=256^k from by rw[Nat.pow_mul]];simp
end Go.Form
namespace Go.Proofs.YtlgnlghmbcpmhaaGreatDoor
namespace FormP
open Go Go.Hw Go.Form W
theorem Bk (K:VK)(b off n m mm:Nat)(xs:List Value)(e:TypeId)(w:UInt64)(H0:Hp)(ho:off+8<=xs.length)(hn:8<=n)
  (k:K (.tuple #[]) (H0.set b (.row (setAt xs off (aC (iM w))) e mm))):∀(d j:Nat) (H:Hp),j+d=8->H=H0.set b (.row (setAt xs off ((aC (iM w)).take j)) e mm)->
   dH.l1 K (d+1) (some ⟨b,off,none⟩) n m (w.toNat:Int) (j:Int) H
 |0,j,H,hj,hH=>by
  obtain rfl:j=8:=by omega
  unfold dH.l1;refine au (by omega) ?_;rw[List.take_of_length_le (by rw[bk,jT];omega)]at hH;rw[hH];exact k
 |d+1,j,H,hj,hH=>by
  unfold dH.l1;refine aA (by omega) ?_;rw[bg (x:=8*(j:Int)),iQ];refine⟨by omega,by omega,by omega,?_⟩;simp only[dz,Addr.aP,Int.toNat_natCast,Nat.mul_one,Nat.add_zero];rw[FY w.toNat (i:=8*(j:Int)) (n:=8*j) (by omega) (by show 8*j<=64;omega),HF,bg];have hlen:(aC (iM w)).length=8:=by rw[bk,jT]
  have hb:H b=some (.row (setAt xs off ((aC (iM w)).take j)) e mm):=by rw[hH];exact Hp.bB _ _ _
  refine zT hb (by rw[gN (by rw[List.length_take,hlen];omega)];omega) rfl ?_;refine Bk K b off n m mm xs e w H0 ho hn k d (j+1) _ (by omega) ?_;rw[hH,Hp.set_set];congr 2;have:=DX (xs:=xs) (vs:=aC (iM w)) (off:=off) (k:=j) (by rw[hlen];exact ho) (by rw[hlen];omega);rw[<- this];congr 1;simp[aC,iM]
theorem Lc (b off n m mm:Nat)(xs:List Value)(e:TypeId)(w:UInt64)(H:Hp)(hb:H b=some (.row xs e mm))(ho:off+8<=xs.length)(hn:8<=n):
  aa Tryz.prog 271 #[.slice (some ⟨b,off,none⟩) n m,U (w.toNat:Int)] H (RetE (.tuple #[]) (H.set b (.row (setAt xs off (aC (iM w))) e mm))):=by
 apply dH.ok;refine⟨9,Bk _ b off n m mm xs e w H ho hn (RetE.mk _ _) 8 0 H rfl ?_⟩;rw[List.take_zero,mT,Hp.wE hb]
theorem JU (b m l:Nat):iG (Oo b) m l 1=if m=l then some (O b)else some ⟨b,l,none⟩:=by
 unfold iG;split
 .rfl
 .simp
theorem zP (K:VK)(b:Nat)(e:TypeId)(A:OA)(n m:Nat)(l:List UInt64)(hn:n=l.length)(hm:n<=17592186044416)(H0:Hp)(hb0:H0 b=none)(hl:Cells H0 A (af l))(z:List Value)(hz:z.length=8*n)
  (k:∀ H,H=H0.set b (.row (aC (form l)) e (8*n))->K (.slice (Oo b) (8*n) (8*n)) H):∀(d j:Nat) (H:Hp),j+d=n->H=H0.set b (.row (setAt z 0 (aC (form (l.take j)))) e (8*n))->
   dB.l3 K (d+1) (Oo b) (8*n) (8*n) A n m (n:Int) (j:Int) H
 |0,j,H,hj,hH=>by
  unfold dB.l3;refine au (by omega) (k _ ?_);rw[hH,List.take_of_length_le (by omega),o8 (by rw[bk,dI,hz,hn])]
 |d+1,j,H,hj,hH=>by
  unfold dB.l3;refine aA (by omega) ?_;have hlt:j<l.length:=by omega
  have hle:H0.le H:=by rw[hH];exact Hp.jV hb0
  refine(hl.le hle).read (i:=j) (v:=U (l[j].toNat:Int)) (by rw[ct,List.getElem?_eq_getElem hlt];rfl) rfl (by rw[aB];omega) ?_;simp only[HV];rw[bg (x:=8*(j:Int))];refine⟨by omega,by omega,?_⟩
  dsimp only
  rw[show(8*(j:Int)).toNat=8*j by omega,JU,if_neg (by omega)];have hlen:(aC (form (l.take j))).length=8*j:=by rw[bk,dI,List.length_take,Nat.min_eq_left (by omega)]
  have hb:H b=some (.row (setAt z 0 (aC (form (l.take j)))) e (8*n)):=by rw[hH];exact Hp.bB _ _ _
  have hsl:(setAt z 0 (aC (form (l.take j)))).length=8*n:=by rw[gN,hz]
  refine aa.use (Lc b (8*j) _ _ _ _ e l[j] H hb (by omega) (by omega)) ?_;rw[bg];refine zP K b e A n m l hn hm H0 hb0 hl z hz k d (j+1) _ (by omega) ?_;rw[hH,Hp.set_set];congr 2;rw[EZ l hlt,qJ];have h8:(aC (iM l[j])).length=8:=by rw[bk,jT]
  rw[<- BU (by rw[hlen,h8];omega),hlen]
theorem kG :ed Tryz.prog 5=some (1,1,some #[.int .u8 0]):=by kernel_rfl
theorem oY (A:OA)(n m:Nat)(l:List UInt64)(hn:n=l.length)(hm:n<=17592186044416)(H:Hp)(hl:Cells H A (af l)):
  aa Tryz.prog 214 #[.slice A n m] H (fun v H'=>∃ b,H b=none/\v= .slice (Oo b) (8*n) (8*n)/\H'=H.set b (.row (aC (form l)) 5 (8*n))):=by
 apply dB.ok;unfold dB;rw[bg (x:=8*(n:Int))];refine zO kG rfl (n:=8*n) (m:=8*n) (by omega) (by omega) (Nat.le_refl _) (by omega) (by omega) ?_;intro b hb;rw[Nat.mul_one];simp only[HV];refine⟨n+1,?_⟩;refine zP _ b 5 A n m l hn hm H hb hl (cI [.int .u8 0] (8*n)) (by rw[fg];simp) ?_ n 0 _ (by omega) ?_
 .intro H' hH;exact⟨b,hb,rfl,hH⟩
 .rw[List.take_zero];simp[form,aC,mT]
end FormP
end Go.Proofs.YtlgnlghmbcpmhaaGreatDoor
namespace Go.Form
open Go Go.Hw
theorem BM (w:UInt64):iM w=qe 8 w.toNat:=BR 8 w.toNat
theorem Fp (w:UInt64):kA (iM w)=w.toNat:=by
 rw[BM,wg];exact Nat.mod_eq_of_lt w.toNat_lt
def aJ (bs:List UInt8)(o:Nat):Nat:=kA ((bs.drop o).take 8)
theorem ia (bs:List UInt8)(o:Nat):aJ bs o<2^64:=Cg (by simp;omega)
theorem EY (l:List UInt64)(i:Nat):(form l).drop (8*i)=form (l.drop i):=by
 induction i generalizing l with
 |zero=>simp
 |succ i ih=>
  cases l with
  |nil=>simp[form]
  |cons w l=>
   rw[List.drop_succ_cons,<-ih];show List.drop (8*(i+1)) (iM w++form l)=_
   rw[show 8*(i+1)=(iM w).length+8*i by rw[jT];omega,List.drop_append];simp
theorem lJ {l:List UInt64}{i:Nat}(h:i<l.length)(r:List UInt8):aJ (form l++r) (8*i)=l[i].toNat:=by
 unfold aJ;rw[List.drop_append_of_le_length (by rw[dI];omega),EY,List.drop_eq_getElem_cons h];show kA (((iM l[i]++form (l.drop (i+1)))++r).take 8)=_
 rw[List.append_assoc,List.take_left' (jT _),Fp]
end Go.Form
namespace Go.Proofs.YtlgnlghmbcpmhaaGreatDoor
namespace FormP
open Go Go.Hw Go.Form W
theorem yV (K:VK)(A:OA)(n m:Nat)(bs:List UInt8)(hl:bs.length=8)(hn:8<=n)(H:Hp)(hb:Cells H A (aC bs))(k:K (U (kA bs:Nat)) H):∀ j:Nat,j<=8->
  dx.l3 K (j+1) A n m ((kA (bs.drop j):Nat):Int) ((j:Int)-1) H
 |0,_=>by
  unfold dx.l3;refine au (by omega) ?_;exact k
 |j+1,hj=>by
  unfold dx.l3;refine aA (by omega) ⟨by omega,?_⟩;rw[show(((j+1:Nat):Int)-1)=(j:Int) by omega];have hlt:j<bs.length:=by omega
  refine⟨by omega,by omega,?_⟩;obtain⟨a,rfl,hc⟩:=hb j (.int .u8 (bs[j].toNat:Int)) (by rw[qd,List.getElem?_eq_getElem hlt];rfl);show Ld H _ _
  refine oz (v:=.int .u8 (bs[j].toNat:Int)) (by rw[Int.toNat_natCast,Nat.mul_one];exact hc) ?_;simp only[HV];have h1:kA (bs.drop (j+1))<256^7:=by
   have h1:=AA (bs.drop (j+1));have h2:256^(bs.drop (j+1)).length<=256^7:=Nat.pow_le_pow_right (by omega) (by simp;omega);omega
  have h2:bs[j].toNat<256:=bs[j].toNat_lt;have h3:kA (bs.drop (j+1))*2^8<2^64:=by
   rw[show(256:Nat)^7=2^56 by decide]at h1;omega
  rw[DY (i:=(8:Int)) (n:=8) rfl,Nat.mod_eq_of_lt h3,fC,IE h3 (by omega),bg];rw[<- Nat.shiftLeft_eq,<-Nat.shiftLeft_add_eq_or_of_lt (by omega:bs[j].toNat<2^8),Nat.shiftLeft_eq];have e:=Ha hlt;rw[show kA (bs.drop (j+1))*2^8+bs[j].toNat=kA (bs.drop j) by rw[e];omega];exact yV K _ n m bs hl hn H hb k j (by omega)
theorem Ka (A:OA)(n m:Nat)(bs:List UInt8)(hl:bs.length=8)(hn:8<=n)(H:Hp)(hb:Cells H A (aC bs)):aa Tryz.prog 262 #[.slice A n m] H (RetE (U (kA bs:Nat)) H):=by
 apply dx.ok;refine⟨9,?_⟩;have:=yV (RetE (U (kA bs:Nat)) H) A n m bs hl hn H hb (RetE.mk _ _) 8 (Nat.le_refl _);rw[List.drop_eq_nil_of_le (by omega)]at this;exact this
theorem Fa (A:OA)(n m:Nat)(hn:n<=9000000000000000000)(i:Int)(H:Hp):aa Tryz.prog 261 #[.slice A n m,I i] H (RetE (.bool (decide (0<=i/\i<(n/8:Nat)))) H):=by
 apply lk.ok;unfold lk;rw[ic];split
 .refine⟨by omega,rfl,RetE.of ?_⟩;rw[show Int.tdiv ((n:Nat):Int) 8=((n/8:Nat):Int)from rfl,dS];congr 1;simp only[decide_eq_decide];omega
 .refine RetE.of ?_;congr 1;exact(decide_eq_false (by omega)).symm
theorem xd (A:OA)(n m:Nat)(hnm:n<=m)(hm:n<=9000000000000000000)(bs:List UInt8)(hl:n=bs.length)(i:Nat)(hi:8*i+8<=n)(H:Hp)(hb:Cells H A (aC bs)):
  aa Tryz.prog 192 #[.slice A n m,I i] H (RetE (.tuple #[U (aJ bs (8*i):Nat),I 0]) H):=by
 apply mX.ok;unfold mX;refine aa.use (Fa A n m (by omega) i H) ?_
 try simp only[HV]
 refine bY (by simp;omega) ?_;rw[bg (x:=8*(i:Int))];refine⟨by omega,by omega,?_⟩;rw[show(8*(i:Int)).toNat=8*i by omega];have h1:=(hb.shift (m:=m) (l:=8*i) (by rw[bk];omega)).take 8;rw[show((aC bs).drop (8*i)).take 8=aC ((bs.drop (8*i)).take 8) by unfold aC;rw[List.map_take,List.map_drop]]at h1;refine aa.use (Ka _ (n-8*i) (m-8*i) ((bs.drop (8*i)).take 8) (by simp;omega) (by omega) H h1) ?_
 try simp only[HV]
 exact RetE.mk _ _
end FormP
end Go.Proofs.YtlgnlghmbcpmhaaGreatDoor
namespace Go.Hw
open Go
def wh :Lf->Lit->Bool
 | .int k,.int k' n=>decide (k'=k)&&(Lit.int k n).wf
 | .bool,.bool _=>true
 | .str,.string l=>decide (l.length<=maxLen)
 |_,_=>false
def gw :List Lf->List Lit->Bool
 | [],[]=>true
 |f::fs,l::ls=>wh f l&&gw fs ls
 |_,_=>false
def vX (P:Program)(g:TypeId->Option (List Lf)):List Field->Nat->Option (List Lf)
 | [],_=>some []
 | f :: r, off => match f.name != "_" && Nat.beq f.offset off with
  |true=>match g f.type with
   |some l=>match Nat.beq l.length (P.cellsOf f.type)with
    |true=>match vX P g r (off+l.length)with
     |some k=>some (l++k)
     |none=>none
    |false=>none
   |none=>none
  |false=>none
def flat (P:Program):Nat->TypeId->Option (List Lf)
 |0,_=>none
 |d+1,t=>match P.underlying t with
  |some .bool=>some [.bool]
  |some (.int q)=>some [.int q]
  |some .string=>some [.str]
  |some (.array n e)=>match flat P d e with
   |some l=>match Nat.beq l.length (P.cellsOf e)&&Nat.beq (n*l.length) (P.cellsOf t)with
    |true=>some (List.replicate n l).flatten
    |false=>none
   |none=>none
  |some (.struct fs)=>match vX P (flat P d) fs.toList 0 with
   |some l=>match Nat.beq l.length (P.cellsOf t)with
    |true=>some l
    |false=>none
   |none=>none
  |_=>none
theorem jk :∀{fs:List Lf} {ls:List Lit},gw fs ls=true->ls.length=fs.length
 | [],[],_=>rfl
 |_::fs,_::ls,h=>by
  simp only[gw,Bool.and_eq_true]at h;simp[jk h.2]
 | [],_::_,h=>by cases h
 |_::_,[],h=>by cases h
theorem ri :∀{a b:List Lf} {ls:List Lit},gw (a++b) ls=true->∃ x y,ls=x++y/\gw a x=true/\gw b y=true
 | [],b,ls,h=>⟨[],ls,rfl,rfl,h⟩
 |f::a,b,[],h=>by cases h
 |f::a,b,l::ls,h=>by
  simp only[List.cons_append,gw,Bool.and_eq_true]at h;obtain⟨x,y,rfl,h1,h2⟩:=ri h.2;exact⟨l::x,y,rfl,by simp[gw,h.1,h1],h2⟩
theorem tf {f:Lf}{ls:List Lit}(h:gw [f] ls=true):∃ x,ls=[x]:=by
 have:=jk h
 match ls,this with
 | [x],_=>exact⟨x,rfl⟩
theorem nG {P:Program}:∀(d:Nat) (t:TypeId) (ks:List Lf) (ls:List Lit),flat P d t=some ks->gw ks ls=true->P.keyLits d t (ls.map Lit.value)=some ls
 |0,_,_,_,h,_=>by cases h
 |d+1,t,ks,ls,h,ho=>by
  unfold flat at h;unfold Program.keyLits;split at h
  .rename_i hu
   cases h;obtain⟨x,rfl⟩:=tf ho;cases x<;>simp only[gw,wh,Bool.and_true,Bool.false_eq_true,Bool.false_and]at ho;simp[hu,Lit.value]
  .rename_i q hu
   cases h;obtain⟨x,rfl⟩:=tf ho;cases x<;>simp only[gw,wh,Bool.and_eq_true,decide_eq_true_eq,Bool.and_true,Bool.false_eq_true,Bool.false_and]at ho;obtain⟨rfl,hw⟩:=ho;simp[hu,Lit.value,hw]
  .rename_i hu
   cases h;obtain⟨x,rfl⟩:=tf ho;cases x<;>simp only[gw,wh,decide_eq_true_eq,Bool.and_true,Bool.false_eq_true,Bool.false_and]at ho;simp[hu,Lit.value,ByteArray.size,ho]
  .rename_i n e hu
   split at h
   .rename_i l hl
    split at h
    .rename_i hb
     cases h;simp only[Bool.and_eq_true]at hb;have h1:=Nat.eq_of_beq_eq_true hb.1;have h2:=Nat.eq_of_beq_eq_true hb.2;simp only[hu];have hlen:=jk ho;rw[if_pos (by rw[List.length_map,hlen,List.length_flatten];simp[h2,<-h1])];have key:∀(m i:Nat) (pre ls:List Lit),pre.length=i*l.length->gw (List.replicate m l).flatten ls=true->
       ∃ out,(List.range' i m).mapM (fun i=>P.keyLits d e ((((pre++ls).map Lit.value).drop (i*P.cellsOf e)).take (P.cellsOf e)))=some out/\out.flatten=ls:=by
      intro m
      induction m with
      |zero=>
       intro i pre ls _ ho;have:ls=[]:=by have:=jk ho;simpa using this
       subst this;exact⟨[],by simp,rfl⟩
      |succ m ih=>
       intro i pre ls hp ho;rw[List.replicate_succ,List.flatten_cons]at ho;obtain⟨x,y,rfl,hx,hy⟩:=ri ho;have lx:=jk hx;obtain⟨out,ho1,ho2⟩:=ih (i+1) (pre++x) y (by rw[List.length_append,hp,lx,Nat.succ_mul]) hy;refine⟨x::out,?_,by rw[List.flatten_cons,ho2]⟩;rw[List.range'_succ,List.mapM_cons];have e1:((((pre++(x++y)).map Lit.value).drop (i*P.cellsOf e)).take (P.cellsOf e))=x.map Lit.value:=by
        rw[<- h1,<-hp,List.map_append,List.drop_left' (by simp),List.map_append,List.take_left' (by simp[lx])]
       rw[e1,nG d e l x hl hx];rw[List.append_assoc]at ho1;rw[ho1];rfl
     obtain⟨out,h3,h4⟩:=key n 0 [] ls (by simp) ho;rw[List.range_eq_range'];simp only[List.nil_append]at h3;rw[h3];simp[h4]
    .cases h
   .cases h
  .rename_i fs hu
   split at h
   .rename_i l hl
    split at h
    .rename_i hb
     cases h;have h1:=Nat.eq_of_beq_eq_true hb;have hlen:=jk ho;have key:∀(fl:List Field) (off:Nat) (k:List Lf) (pre ls:List Lit),vX P (flat P d) fl off=some k->pre.length=off->gw k ls=true->
       (fl.all (·.name != "_") = true) ∧ ∃ out, fl.mapM (fun f => P.keyLits d f.type ((((pre ++ ls).map Lit.value).drop f.offset).take (P.cellsOf f.type))) = some out ∧ out.flatten = ls := by
      intro fl
      induction fl with
      |nil=>
       intro off k pre ls hk _ ho;cases hk;have:ls=[]:=by have:=jk ho;simpa using this
       subst this;exact⟨rfl,[],by simp,rfl⟩
      |cons f fl ih=>
       intro off k pre ls hk hp ho;unfold vX at hk;split at hk
       .rename_i hn
        simp only[Bool.and_eq_true]at hn;have hoff:=Nat.eq_of_beq_eq_true hn.2;split at hk
        .rename_i kl hkl
         split at hk
         .rename_i hb2
          have h2:=Nat.eq_of_beq_eq_true hb2;split at hk
          .rename_i kr hkr
           cases hk;obtain⟨x,y,rfl,hx,hy⟩:=ri ho;have lx:=jk hx;obtain⟨hn2,out,ho1,ho2⟩:=ih (off+kl.length) kr (pre++x) y hkr (by rw[List.length_append,hp,lx]) hy;refine⟨by rw[List.all_cons,hn.1,hn2];rfl,x::out,?_,by rw[List.flatten_cons,ho2]⟩;rw[List.mapM_cons];have e1:((((pre++(x++y)).map Lit.value).drop f.offset).take (P.cellsOf f.type))=x.map Lit.value:=by
            rw[hoff,<-h2,<-hp,List.map_append,List.drop_left' (by simp),List.map_append,List.take_left' (by simp[lx])]
           rw[e1,nG d f.type kl x hkl hx];rw[List.append_assoc]at ho1;rw[ho1];rfl
          .cases hk
         .cases hk
        .cases hk
       .cases hk
     obtain⟨hn,out,h3,h4⟩:=key fs.toList 0 ks [] ls hl rfl ho;simp only[hu];rw[if_pos ⟨by rw[List.length_map,hlen,h1],by rw[<- Array.all_toList];exact hn⟩];simp only[List.nil_append]at h3;rw[h3];simp[h4]
    .cases h
   .cases h
  .cases h
theorem G5 {P:Program}{d:Nat}{t:TypeId}{ks:List Lf}(ha:sf P t=true)(h:flat P d t=some ks):ks.length=P.cellsOf t:=by
 cases d with
 |zero=>cases h
 |succ d=>
  unfold flat at h;unfold sf at ha;split at h
  .rename_i hu;rw[hu]at ha;cases ha
  .rename_i hu;rw[hu]at ha;cases ha
  .rename_i hu;rw[hu]at ha;cases ha
  .split at h
   .rename_i l hl
    split at h
    .rename_i hb
     cases h;simp only[Bool.and_eq_true]at hb;rw[<- Nat.eq_of_beq_eq_true hb.2];simp[List.length_flatten]
    .cases h
   .cases h
  .split at h
   .split at h
    .rename_i hb;cases h;exact Nat.eq_of_beq_eq_true hb
    .cases h
   .cases h
  .cases h
theorem Dj {P:Program}{d m:Nat}{t:TypeId}{ks:List Lf}(ha:sf P t=true)(hf:flat P d t=some ks)(hk:P.keyTypeAt m t=true)(hm:m<=10000){lx ly:List Lit}(ox:gw ks lx=true)(oy:gw ks ly=true){c:Bool}(hc:c=true↔lx=ly)(w:World):
  (Op.equal t (.agg (lx.map Lit.value).toArray) (.agg (ly.map Lit.value).toArray)).run P w= .ok c w:=by
 have hform:∀ l:List Lit,gw ks l=true->(Value.agg (l.map Lit.value).toArray).formed P t=true:=fun l hl=>by
  have:=jk hl;have h2:=G5 ha hf;unfold Value.formed;unfold sf at ha;split at ha
  .rename_i hu;rw[hu];simp[this,h2]
  .rename_i hu;rw[hu];simp[this,h2]
  .cases ha
 obtain⟨r,hr,hiff⟩:=run_equalIn_deep (P:=P) (10000-m) m t hk w d d _ _ lx ly (hform lx ox) (hform ly oy) (by simpa [Value.cells]using nG d t ks lx hf ox) (by simpa [Value.cells]using nG d t ks ly hf oy);rw[show 10000-m+m=10000 by omega]at hr;have:r=c:=by
  cases r<;>cases c<;>simp_all
 rw[<- this];exact hr
theorem Mf {n:Int}(h0: -9223372036854775808<=n)(h1:n<=9223372036854775807):(Lit.int .i64 n).wf=true:=by
 simp only[Lit.wf,Bool.and_eq_true,decide_eq_true_eq];exact⟨h0,h1⟩
theorem Mu {n:Int}(h: -9223372036854775808<=n/\n<=9223372036854775807):(Lit.int .i64 n).wf=true:=Mf h.1 h.2
theorem Hi :∀(n:Nat) (l:List Int),l.length=n->(∀ x∈l,-9223372036854775808<=x/\x<=9223372036854775807)->gw (List.replicate n (.int .i64)) (l.map (Lit.int .i64))=true
 |0,[],_,_=>rfl
 |n+1,x::l,h,hr=>by
  have h1:=Mu (hr x (by simp));have h2:=Hi n l (by simpa using h) (fun y hy=>hr y (by simp[hy]));rw[List.replicate_succ,List.map_cons];simp only[gw,wh,decide_true,Bool.true_and,Bool.and_eq_true];exact⟨h1,h2⟩
section
variable {P : Program} {d m : Nat} {t : TypeId} {ks : List Lf} (ha : sf P t = true) (hf : flat P d t = some ks) (hk : P.keyTypeAt m t = true) (hm : m <= 10000) (hg : P.eqGuardType P.depth t = false)
include ha hf hk hm hg
theorem I7 {lx ly:List Lit}(ox:gw ks lx=true)(oy:gw ks ly=true){cx cy:Array Value}(ex:cx=(lx.map Lit.value).toArray)(ey:cy=(ly.map Lit.value).toArray){K:Bool->Prop}(c:Bool)(hc:c=true↔lx=ly)(k:K c):zH P .eql t (.agg cx) (.agg cy) K:=by
 subst ex;subst ey;refine⟨_,k,fun xo yo w=>?_⟩;have h:=Dj ha hf hk hm ox oy hc w;simp[eqGuard,binOp,h,hg]
end
def Ct (P:Program)(t:TypeId)(n:Nat):Prop:=sf P t=true/\flat P 9 t=some (List.replicate n (.int .i64))/\P.keyTypeAt 9 t=true/\P.eqGuardType P.depth t=false
theorem IB (l:List Int):(l.map (Lit.int .i64)).map Lit.value=l.map (Value.int .i64):=by rw[List.map_map];rfl
theorem LB {a b:List Int}:a.map (Lit.int .i64)=b.map (Lit.int .i64)↔a=b:=by
 constructor
 .intro h;have:∀{a b:List Int},a.map (Lit.int .i64)=b.map (Lit.int .i64)->a=b:=by
   intro a
   induction a with
   |nil=>intro b h;cases b with
    |nil=>rfl
    |cons _ _=>simp at h
   |cons x a ih=>intro b h;cases b with
    |nil=>simp at h
    |cons y b=>simp at h;rw[h.1,ih (by simpa using h.2)]
  exact this h
 .intro h;rw[h]
theorem I6 {P:Program}{t:TypeId}{n:Nat}(hp:Ct P t n){a b:List Int}(la:a.length=n)(lb:b.length=n)(ra:∀ x∈a,-9223372036854775808<=x/\x<=9223372036854775807)(rb:∀ x∈b,-9223372036854775808<=x/\x<=9223372036854775807)
  {cx cy:Array Value} (ex:cx=(a.map (Value.int .i64)).toArray) (ey:cy=(b.map (Value.int .i64)).toArray) {K:Bool->Prop} (k:K (decide (a=b))):zH P .eql t (.agg cx) (.agg cy) K:=
 I7 hp.1 hp.2.1 hp.2.2.1 (by omega) hp.2.2.2 (Hi n a la ra) (Hi n b lb rb) (by rw[IB];exact ex) (by rw[IB];exact ey) _ (by rw[LB];simp) k
end Go.Hw
namespace Go.Proofs.YtlgnlghmbcpmhaaGreatDoor
open Tryz (prog)
namespace W
open Go Go.Hw
theorem dG :prog.follows .mixedOrders=true:=by kernel_rfl
def jM (p1:OA)(H:Hp)(K:VK):Prop:=
 Nw H (Oa #[.pointer p1] 270) fun b1 H1=>Nw H1 (Oa #[Oi 0,I 0] 329) fun b2 H2=>bj H2 (O b1) fun p2=>cC 233 #[.pointer p2,.func (.func 234) #[] #[V b1,V b2]] H2 fun x1 H3=>aq (x1 !=0) (K (.tuple #[Oi 0,I x1]) H3) (xO 238 #[V b2] H3 fun x2 H4=>K (.tuple #[Oi x2,I 0]) H4)
theorem jM.ok p1 H K (h:jM p1 H K):aa prog 166 #[.pointer p1] H K:=
 bX dG Tryz.func166 rfl rfl h
def aK.j15 (K:VK)(R9:OA->OA->Nat->Nat->OA->OA->Nat->Nat->Int->Int->OA->OA->Nat->Nat->Hp->Prop)(p12 A8:OA)(n8 m8:Nat)(p13:OA)(a7:Addr)(A9:OA)(n9 m9:Nat)(x14 x15:Int)(p14 A10:OA)(n10 m10:Nat)(H:Hp):=
 Iq 237 #[.pointer p13] H fun A11 n11 m11=>aM H (a7.add 1) fun x16=>lO n11 m11 (some x16) none fun n12 n13=>aM H (a7.add 2) fun x17=>lO n8 m8 none (some x17) fun n14 n15=>qC prog 108 (.slice (iG A11 m11 n12 1) (n13-n12) (m11-n12)) (.slice (iG A8 m8 n14 1) (n15-n14) (m8-n14)) H fun v22 H10=>DI .i64 v22 fun x18=>NN p12 fun a8=>aM H10 (a7.add 0) fun x19=>cC 258 #[.pointer (some (a8.add 0)),I x19,.pointer p13] H10 fun x20 H11=>aq (x20 !=0) (dv prog 257 #[.pointer p14,.slice A10 n10 m10] H11 fun _ H13=>K (I x20) H13) (aM H11 (a7.add 2) fun x21=>lO n8 m8 (some x21) none fun n16 n17=>R9 p12 (iG A8 m8 n16 1) (n17-n16) (m8-n16) p13 A9 n9 m9 x14 (i64.wrap (x15+1)) p14 A10 n10 m10 H11)
def aK.l9 (K:VK):Nat->OA->OA->Nat->Nat->OA->OA->Nat->Nat->Int->Int->OA->OA->Nat->Nat->Hp->Prop
 |0,_,_,_,_,_,_,_,_,_,_,_,_,_,_,_=>False
 |k+1,p9,A5,n5,m5,p10,A6,n6,m6,x8,x9,p11,A7,n7,m7,H=>
  let R9:=aK.l9 K k
  aq (decide (x9<x8)) (cz x9 n6 (NN A6 fun a4=>aY H (a4.add (x9.toNat*3)) 3 fun l10=>Nw H (Oa #[I 0,I 0,I 0] 360) fun b2 H7=>cK H7 (O b2) l10.toArray 3 fun H8=>aM H8 ((O b2).add 2) fun x10=>NN p9 fun a5=>eG 256 #[.pointer (some (a5.add 0))] H8 fun x11=>aq (decide (x10<x11)) (NN p9 fun a6=>aM H8 ((O b2).add 0) fun x12=>cC 235 #[.pointer (some (a6.add 0)),I x12,.pointer p10] H8 fun x13 H9=>aq (x13 !=0) (dv prog 257 #[.pointer p11,.slice A7 n7 m7] H9 fun _ H12=>K (I x13) H12) (aK.j15 K R9 p9 A5 n5 m5 p10 (O b2) A6 n6 m6 x8 x9 p11 A7 n7 m7 H9)) (aK.j15 K R9 p9 A5 n5 m5 p10 (O b2) A6 n6 m6 x8 x9 p11 A7 n7 m7 H8))) (dv prog 257 #[.pointer p11,.slice A7 n7 m7] H fun _ H14=>K (I 0) H14)
def aK.j5 (K:VK)(p6 A3:OA)(n3 m3:Nat)(A4:OA)(n4 m4:Nat)(x7:Int)(p7:OA)(H:Hp):=
 aq (x7 !=0) (K (I x7) H) (NN p6 fun a3=>bj H ((a3.add 0).add 1) fun p8=>Nw H (.row [.pointer p7] 331 1) fun b1 H6=>(∃ k,aK.l9 K k p6 A3 n3 m3 p7 A4 n4 m4 (n4:Int) 0 p8 (Oo b1) 1 1 H6))
def aK (p1:OA)(x1:Int)(A1:OA)(n1 m1:Nat)(H:Hp)(K:VK):Prop:=
 Hz 254 #[.pointer p1,I x1,I (n1:Int)] H fun v1 H1=>kc v1 fun A2 n2 m2 x2=>(aq (x2 !=0) (K (I x2) H1) (aq ((n1:Int)==0) (K (I x2) H1) (NN p1 fun a1=>NN p1 fun a2=>(bj H1 ((a1.add 0).add 1) fun p2=>cC 256 #[.pointer (some (a2.add 0))] H1 fun x3 H2=>Hz 255 #[.pointer p2,I x3] H2 fun v6 H3=>jO v6 fun p3 x4=>(aK.j5 K p1 A1 n1 m1 A2 n2 m2 x4 p3 H3))/\(cC 256 #[.pointer (some (a2.add 0))] H1 fun x5 H4=>bj H4 ((a1.add 0).add 1) fun p4=>Hz 255 #[.pointer p4,I x5] H4 fun v11 H5=>jO v11 fun p5 x6=>(aK.j5 K p1 A1 n1 m1 A2 n2 m2 x6 p5 H5)))))
def aK.l9.L (K:VK)(k:Nat):de:=fun E D H=>
 eP E 0 fun p9=>DG (E.get? 2) fun w2=>aE w2 fun A5 n5 m5=>eP E 9 fun p10=>DG (E.get? 53) fun w53=>aE w53 fun A6 n6 m6=>eI E 54 .i64 fun x8=>eI E 55 .i64 fun x9=>gz 257 D fun dc0 da0 D1=>bF dc0 (az da0 fun u0da0 r0da0=>DP u0da0 fun p11=>az r0da0 fun u1da0 r1da0=>aE u1da0 fun A7 n7 m7=>bF r1da0 (ax D1 (aK.l9 K k p9 A5 n5 m5 p10 A6 n6 m6 x8 x9 p11 A7 n7 m7 H)))
def aK.Λ9 (K:VK)(R9:OA→OA→Nat→Nat→OA→OA→Nat→Nat→Int→Int→OA→OA→Nat→Nat→Hp→Prop):aI:=⟨fun i=>match Nat.beq i 15 with|true=>some (fun E D H=>eP E 0 fun p12=>DG (E.get? 2) fun w2=>aE w2 fun A8 n8 m8=>eP E 9 fun p13=>eN E 11 fun a7=>DG (E.get? 53) fun w53=>aE w53 fun A9 n9 m9=>eI E 54 .i64 fun x14=>eI E 55 .i64 fun x15=>gz 257 D fun dc0 da0 D1=>bF dc0 (az da0 fun u0da0 r0da0=>DP u0da0 fun p14=>az r0da0 fun u1da0 r1da0=>aE u1da0 fun A10 n10 m10=>bF r1da0 (ax D1 (aK.j15 K R9 p12 A8 n8 m8 p13 a7 A9 n9 m9 x14 x15 p14 A10 n10 m10 H))))|false=>none,fun i=>none,(fun i=>match Nat.beq i 16 with|true=>some ([],[0,1,2,3,4,5],6)|false=>match Nat.beq i 15 with|true=>some ([],[0,1,2,3,4,5,6,7,8],9)|false=>match Nat.beq i 12 with|true=>some ([],[0,1,2,3,4,5],6)|false=>match Nat.beq i 4 with|true=>some ([],[0,1,3,7,15,0,32,96,224,511,1023,2047,2047,4095,16383],0)|false=>none)⟩
def aK.Λ (K:VK):aI:=⟨fun i=>match Nat.beq i 5 with|true=>some (fun E D H=>eP E 0 fun p6=>DG (E.get? 2) fun w2=>aE w2 fun A3 n3 m3=>DG (E.get? 7) fun w7=>aE w7 fun A4 n4 m4=>eI E 8 .i64 fun x7=>eP E 9 fun p7=>ax D (aK.j5 K p6 A3 n3 m3 A4 n4 m4 x7 p7 H))|false=>none,fun i=>match Nat.beq i 9 with|true=>some (fun E D H=>∃ k,aK.l9.L K k E D H)|false=>none,(fun i=>match Nat.beq i 16 with|true=>some ([],[0,1,2,3,4,5],6)|false=>match Nat.beq i 15 with|true=>some ([],[0,1,2,3,4,5,6,7,8],9)|false=>match Nat.beq i 12 with|true=>some ([],[0,1,2,3,4,5],6)|false=>match Nat.beq i 4 with|true=>some ([],[0,1,3,7,15,0,32,96,224,511,1023,2047,2047,4095,16383],0)|false=>none)⟩
theorem aK.ok p1 x1 A1 n1 m1 H K (h:aK p1 x1 A1 n1 m1 H K):aa prog 185 #[.pointer p1,I x1,.slice A1 n1 m1] H K:=
 dV (Λ:=(aK.Λ K)) dG Tryz.func185 rfl rfl h (oC (fun E D H h=>by
   obtain⟨p6,e0,g2⟩:=GP h;obtain⟨w2,e2,g3⟩:=DG.out g2;obtain⟨A3,n3,m3,rfl,g4⟩:=aE.out g3;obtain⟨w7,e7,g5⟩:=DG.out g4;obtain⟨A4,n4,m4,rfl,g6⟩:=aE.out g5;obtain⟨x7,e8,g8⟩:=GI g6;obtain⟨p7,e9,g10⟩:=GP g8;obtain⟨rfl,h'⟩:=ax.out g10;exact cU (Λ:=(aK.Λ K)) dG [] (ag.cons e0 (ag.cons e2 (ag.cons e7 (ag.cons e8 (ag.cons e9 (ag.nil _)))))) h' (oC (fun E D H h=>by
     refine Safe.cJ (aK.l9.L K) (fun E D H h=>?_) (fun k E D H h=>?_) E D H h
     .obtain⟨w0,e0,g1⟩:=DG.out h;obtain⟨p9,rfl,g2⟩:=DP.out g1;obtain⟨w2,e2,g3⟩:=DG.out g2;obtain⟨A5,n5,m5,rfl,g4⟩:=aE.out g3;obtain⟨w9,e9,g5⟩:=DG.out g4;obtain⟨p10,rfl,g6⟩:=DP.out g5;obtain⟨w53,e53,g7⟩:=DG.out g6;obtain⟨A6,n6,m6,rfl,g8⟩:=aE.out g7;obtain⟨w54,e54,g9⟩:=DG.out g8;obtain⟨x8,rfl,g10⟩:=DI.out g9;obtain⟨w55,e55,g11⟩:=DG.out g10;obtain⟨x9,rfl,g12⟩:=DI.out g11;obtain⟨dc0,da0,D1,rfl,g13⟩:=gz.out g12;obtain⟨rfl,g14⟩:=bF.out g13;obtain⟨u0da0,r0da0,rfl,g15⟩:=az.out g14;obtain⟨p11,rfl,g16⟩:=DP.out g15;obtain⟨u1da0,r1da0,rfl,g17⟩:=az.out g16;obtain⟨A7,n7,m7,rfl,g18⟩:=aE.out g17;obtain⟨rfl,g19⟩:=bF.out g18;obtain⟨rfl,h'⟩:=ax.out g19;exact h'
     .obtain⟨p9,e0,g2⟩:=GP h;obtain⟨w2,e2,g3⟩:=DG.out g2;obtain⟨A5,n5,m5,rfl,g4⟩:=aE.out g3;obtain⟨p10,e9,g6⟩:=GP g4;obtain⟨w53,e53,g7⟩:=DG.out g6;obtain⟨A6,n6,m6,rfl,g8⟩:=aE.out g7;obtain⟨x8,e54,g10⟩:=GI g8;obtain⟨x9,e55,g12⟩:=GI g10;obtain⟨dc0,da0,D1,rfl,g13⟩:=gz.out g12;obtain⟨rfl,g14⟩:=bF.out g13;obtain⟨u0da0,r0da0,rfl,g15⟩:=az.out g14;obtain⟨p11,rfl,g16⟩:=DP.out g15;obtain⟨u1da0,r1da0,rfl,g17⟩:=az.out g16;obtain⟨A7,n7,m7,rfl,g18⟩:=aE.out g17;obtain⟨rfl,g19⟩:=bF.out g18;obtain⟨rfl,h'⟩:=ax.out g19;exact cU (Λ:=(aK.Λ9 K (aK.l9 K k))) dG [{ target:=.fn (.func 257) #[],args:=#[.pointer p11,.slice A7 n7 m7]}] (ag.cons e0 (ag.cons e2 (ag.cons e9 (ag.cons e53 (ag.cons e54 (ag.cons e55 (ag.nil _))))))) h' (oC (fun E D H h=>by
        obtain⟨p12,e0,g2⟩:=GP h;obtain⟨w2,e2,g3⟩:=DG.out g2;obtain⟨A8,n8,m8,rfl,g4⟩:=aE.out g3;obtain⟨p13,e9,g6⟩:=GP g4;obtain⟨a7,e11,g9⟩:=GN g6;obtain⟨w53,e53,g10⟩:=DG.out g9;obtain⟨A9,n9,m9,rfl,g11⟩:=aE.out g10;obtain⟨x14,e54,g13⟩:=GI g11;obtain⟨x15,e55,g15⟩:=GI g13;obtain⟨dc0,da0,D1,rfl,g16⟩:=gz.out g15;obtain⟨rfl,g17⟩:=bF.out g16;obtain⟨u0da0,r0da0,rfl,g18⟩:=az.out g17;obtain⟨p14,rfl,g19⟩:=DP.out g18;obtain⟨u1da0,r1da0,rfl,g20⟩:=az.out g19;obtain⟨A10,n10,m10,rfl,g21⟩:=aE.out g20;obtain⟨rfl,g22⟩:=bF.out g21;obtain⟨rfl,h'⟩:=ax.out g22;exact cU (Λ:=(aK.Λ9 K (aK.l9 K k))) dG [{ target:=.fn (.func 257) #[],args:=#[.pointer p14,.slice A10 n10 m10]}] (ag.cons e0 (ag.cons e2 (ag.cons e9 (ag.cons e11 (ag.cons e53 (ag.cons e54 (ag.cons e55 (ag.nil _)))))))) h' oN) oN)) oN)) oN)
def iL (p1:OA)(H:Hp)(K:VK):Prop:=
 NN p1 fun a1=>aM H ((a1.add 2).add 2) fun x1=>K (I x1) H
theorem iL.ok p1 H K (h:iL p1 H K):aa prog 186 #[.pointer p1] H K:=
 bX dG Tryz.func186 rfl rfl h
def bx.l9 (K:VK):Nat->OA->OA->Nat->Nat->OA->OA->Nat->Nat->Int->Int->OA->OA->Nat->Nat->Hp->Prop
 |0,_,_,_,_,_,_,_,_,_,_,_,_,_,_,_=>False
 |k+1,p9,A5,n5,m5,p10,A6,n6,m6,x8,x9,p11,A7,n7,m7,H=>
  let R9:=bx.l9 K k
  aq (decide (x9<x8)) (cz x9 n6 (NN A6 fun a4=>aY H (a4.add (x9.toNat*3)) 3 fun l10=>Nw H (Oa #[I 0,I 0,I 0] 360) fun b2 H7=>cK H7 (O b2) l10.toArray 3 fun H8=>NN p9 fun a5=>aM H8 ((O b2).add 0) fun x10=>cC 235 #[.pointer (some (a5.add 0)),I x10,.pointer p10] H8 fun x11 H9=>aq (x11 !=0) (dv prog 257 #[.pointer p11,.slice A7 n7 m7] H9 fun _ H11=>K (I x11) H11) (aM H9 ((O b2).add 2) fun x12=>lO n5 m5 none (some x12) fun n8 n9=>Iq 237 #[.pointer p10] H9 fun A8 n10 m8=>aM H9 ((O b2).add 1) fun x13=>lO n10 m8 (some x13) none fun n11 n12=>qC prog 108 (.slice (iG A5 m5 n8 1) (n9-n8) (m5-n8)) (.slice (iG A8 m8 n11 1) (n12-n11) (m8-n11)) H9 fun v20 H10=>DI .i64 v20 fun x14=>aM H10 ((O b2).add 2) fun x15=>lO n5 m5 (some x15) none fun n13 n14=>R9 p9 (iG A5 m5 n13 1) (n14-n13) (m5-n13) p10 A6 n6 m6 x8 (i64.wrap (x9+1)) p11 A7 n7 m7 H10))) (dv prog 257 #[.pointer p11,.slice A7 n7 m7] H fun _ H12=>K (I 0) H12)
def bx.j5 (K:VK)(p6 A3:OA)(n3 m3:Nat)(A4:OA)(n4 m4:Nat)(x7:Int)(p7:OA)(H:Hp):=
 aq (x7 !=0) (K (I x7) H) (NN p6 fun a3=>bj H ((a3.add 0).add 1) fun p8=>Nw H (.row [.pointer p7] 331 1) fun b1 H6=>(∃ k,bx.l9 K k p6 A3 n3 m3 p7 A4 n4 m4 (n4:Int) 0 p8 (Oo b1) 1 1 H6))
def bx (p1:OA)(x1:Int)(A1:OA)(n1 m1:Nat)(H:Hp)(K:VK):Prop:=
 Hz 254 #[.pointer p1,I x1,I (n1:Int)] H fun v1 H1=>kc v1 fun A2 n2 m2 x2=>(aq (x2 !=0) (K (I x2) H1) (aq ((n1:Int)==0) (K (I x2) H1) (NN p1 fun a1=>NN p1 fun a2=>(bj H1 ((a1.add 0).add 1) fun p2=>cC 256 #[.pointer (some (a2.add 0))] H1 fun x3 H2=>Hz 255 #[.pointer p2,I x3] H2 fun v6 H3=>jO v6 fun p3 x4=>(bx.j5 K p1 A1 n1 m1 A2 n2 m2 x4 p3 H3))/\(cC 256 #[.pointer (some (a2.add 0))] H1 fun x5 H4=>bj H4 ((a1.add 0).add 1) fun p4=>Hz 255 #[.pointer p4,I x5] H4 fun v11 H5=>jO v11 fun p5 x6=>(bx.j5 K p1 A1 n1 m1 A2 n2 m2 x6 p5 H5)))))
def bx.l9.L (K:VK)(k:Nat):de:=fun E D H=>
 eP E 0 fun p9=>DG (E.get? 2) fun w2=>aE w2 fun A5 n5 m5=>eP E 9 fun p10=>DG (E.get? 52) fun w52=>aE w52 fun A6 n6 m6=>eI E 53 .i64 fun x8=>eI E 54 .i64 fun x9=>gz 257 D fun dc0 da0 D1=>bF dc0 (az da0 fun u0da0 r0da0=>DP u0da0 fun p11=>az r0da0 fun u1da0 r1da0=>aE u1da0 fun A7 n7 m7=>bF r1da0 (ax D1 (bx.l9 K k p9 A5 n5 m5 p10 A6 n6 m6 x8 x9 p11 A7 n7 m7 H)))
def bx.Λ9 (_:VK)(_R9:OA→OA→Nat→Nat→OA→OA→Nat→Nat→Int→Int→OA→OA→Nat→Nat→Hp→Prop):aI:=aI.none (fun i=>match Nat.beq i 14 with|true=>some ([],[0,1,2,3,4,5,6,7,8],9)|false=>match Nat.beq i 11 with|true=>some ([],[0,1,2,3,4,5],6)|false=>match Nat.beq i 4 with|true=>some ([],[0,1,3,7,15,0,32,96,224,511,1023,2047,2047,4095,16383],0)|false=>none)
def bx.Λ (K:VK):aI:=⟨fun i=>match Nat.beq i 5 with|true=>some (fun E D H=>eP E 0 fun p6=>DG (E.get? 2) fun w2=>aE w2 fun A3 n3 m3=>DG (E.get? 7) fun w7=>aE w7 fun A4 n4 m4=>eI E 8 .i64 fun x7=>eP E 9 fun p7=>ax D (bx.j5 K p6 A3 n3 m3 A4 n4 m4 x7 p7 H))|false=>none,fun i=>match Nat.beq i 9 with|true=>some (fun E D H=>∃ k,bx.l9.L K k E D H)|false=>none,(fun i=>match Nat.beq i 14 with|true=>some ([],[0,1,2,3,4,5,6,7,8],9)|false=>match Nat.beq i 11 with|true=>some ([],[0,1,2,3,4,5],6)|false=>match Nat.beq i 4 with|true=>some ([],[0,1,3,7,15,0,32,96,224,511,1023,2047,2047,4095,16383],0)|false=>none)⟩
theorem bx.ok p1 x1 A1 n1 m1 H K (h:bx p1 x1 A1 n1 m1 H K):aa prog 187 #[.pointer p1,I x1,.slice A1 n1 m1] H K:=
 dV (Λ:=(bx.Λ K)) dG Tryz.func187 rfl rfl h (oC (fun E D H h=>by
   obtain⟨p6,e0,g2⟩:=GP h;obtain⟨w2,e2,g3⟩:=DG.out g2;obtain⟨A3,n3,m3,rfl,g4⟩:=aE.out g3;obtain⟨w7,e7,g5⟩:=DG.out g4;obtain⟨A4,n4,m4,rfl,g6⟩:=aE.out g5;obtain⟨x7,e8,g8⟩:=GI g6;obtain⟨p7,e9,g10⟩:=GP g8;obtain⟨rfl,h'⟩:=ax.out g10;exact cU (Λ:=(bx.Λ K)) dG [] (ag.cons e0 (ag.cons e2 (ag.cons e7 (ag.cons e8 (ag.cons e9 (ag.nil _)))))) h' (oC (fun E D H h=>by
     refine Safe.cJ (bx.l9.L K) (fun E D H h=>?_) (fun k E D H h=>?_) E D H h
     .obtain⟨w0,e0,g1⟩:=DG.out h;obtain⟨p9,rfl,g2⟩:=DP.out g1;obtain⟨w2,e2,g3⟩:=DG.out g2;obtain⟨A5,n5,m5,rfl,g4⟩:=aE.out g3;obtain⟨w9,e9,g5⟩:=DG.out g4;obtain⟨p10,rfl,g6⟩:=DP.out g5;obtain⟨w52,e52,g7⟩:=DG.out g6;obtain⟨A6,n6,m6,rfl,g8⟩:=aE.out g7;obtain⟨w53,e53,g9⟩:=DG.out g8;obtain⟨x8,rfl,g10⟩:=DI.out g9;obtain⟨w54,e54,g11⟩:=DG.out g10;obtain⟨x9,rfl,g12⟩:=DI.out g11;obtain⟨dc0,da0,D1,rfl,g13⟩:=gz.out g12;obtain⟨rfl,g14⟩:=bF.out g13;obtain⟨u0da0,r0da0,rfl,g15⟩:=az.out g14;obtain⟨p11,rfl,g16⟩:=DP.out g15;obtain⟨u1da0,r1da0,rfl,g17⟩:=az.out g16;obtain⟨A7,n7,m7,rfl,g18⟩:=aE.out g17;obtain⟨rfl,g19⟩:=bF.out g18;obtain⟨rfl,h'⟩:=ax.out g19;exact h'
     .obtain⟨p9,e0,g2⟩:=GP h;obtain⟨w2,e2,g3⟩:=DG.out g2;obtain⟨A5,n5,m5,rfl,g4⟩:=aE.out g3;obtain⟨p10,e9,g6⟩:=GP g4;obtain⟨w52,e52,g7⟩:=DG.out g6;obtain⟨A6,n6,m6,rfl,g8⟩:=aE.out g7;obtain⟨x8,e53,g10⟩:=GI g8;obtain⟨x9,e54,g12⟩:=GI g10;obtain⟨dc0,da0,D1,rfl,g13⟩:=gz.out g12;obtain⟨rfl,g14⟩:=bF.out g13;obtain⟨u0da0,r0da0,rfl,g15⟩:=az.out g14;obtain⟨p11,rfl,g16⟩:=DP.out g15;obtain⟨u1da0,r1da0,rfl,g17⟩:=az.out g16;obtain⟨A7,n7,m7,rfl,g18⟩:=aE.out g17;obtain⟨rfl,g19⟩:=bF.out g18;obtain⟨rfl,h'⟩:=ax.out g19;exact cU (Λ:=(bx.Λ9 K (bx.l9 K k))) dG [{ target:=.fn (.func 257) #[],args:=#[.pointer p11,.slice A7 n7 m7]}] (ag.cons e0 (ag.cons e2 (ag.cons e9 (ag.cons e52 (ag.cons e53 (ag.cons e54 (ag.nil _))))))) h' oN) oN)) oN)
def ny (p1 p2:OA)(x1 x2 x3:Int)(H:Hp)(K:VK):Prop:=
 Nw H (Oa #[I x1,I x2,I x3] 150) fun b1 H1=>aq p1.isNone (K (.tuple #[.pointer none,I 1]) H1) (aq p2.isNone (K (.tuple #[.pointer none,I 1]) H1) (aY H1 (O b1) 3 fun l1=>C0 l1.toArray.toList fun x4 x5 x6=>(Nw H1 (Oa #[.pointer p1,.pointer p2,I x4,I x5,I x6] 336) fun b2 H2=>aM H2 ((O b1).add 2) fun x7=>aq (decide (x7<1)) (K (.tuple #[.pointer none,I 2]) H2) (aM H2 ((O b1).add 0) fun x8=>aq (decide (x8<0)) (K (.tuple #[.pointer none,I 2]) H2) (aM H2 ((O b1).add 1) fun x9=>aq (decide (x9<1)) (K (.tuple #[.pointer none,I 2]) H2) (aM H2 ((O b1).add 0) fun x10=>NN p1 fun a1=>eG 123 #[.pointer (some (a1.add 0))] H2 fun x11=>aq (decide (x10>=x11)) (K (.tuple #[.pointer none,I 2]) H2) (aM H2 ((O b1).add 1) fun x12=>NN p1 fun a2=>eG 123 #[.pointer (some (a2.add 0))] H2 fun x13=>aM H2 ((O b1).add 0) fun x14=>aq (decide (x12>(i64.wrap (x13-x14)))) (K (.tuple #[.pointer none,I 2]) H2) (aM H2 ((O b1).add 2) fun x15=>aM H2 ((O b1).add 1) fun x16=>eG 256 #[.pointer (some ((O b2).add 0))] H2 fun x17=>aq (decide (x15>(i64.wrap (x16*x17)))) (K (.tuple #[.pointer none,I 2]) H2) (K (.tuple #[V b2,I 0]) H2)))))))))
theorem ny.ok p1 p2 x1 x2 x3 H K (h:ny p1 p2 x1 x2 x3 H K):aa prog 232 #[.pointer p1,.pointer p2,.agg #[I x1,I x2,I x3]] H K:=
 bX dG Tryz.func232 rfl rfl h
def bf.l6 (K:VK):Nat->OA->FuncId->Array Value->Array Value->OA->Int->Int->Int->OA->OA->Nat->Nat->Hp->Prop
 |0,_,_,_,_,_,_,_,_,_,_,_,_,_=>False
 |k+1,p9,fd3,F3,C3,p10,x8,x9,x10,p11,A1,n1,m1,H=>
  let R6:=bf.l6 K k
  aq (decide (x9>0)) (aq (x8==0) (NN p9 fun a5=>cC 256 #[.pointer (some (a5.add 0))] H fun x11 H6=>jD prog fd3 ((F3++ #[I x10,I (if x11<x9 then x11 else x9),.pointer p10])++C3) H6 fun v15 H7=>DR prog (eM prog fd3) v15 fun v16=>DI .i64 v16 fun x12=>NN p9 fun a6=>cC 256 #[.pointer (some (a6.add 0))] H7 fun x13 H8=>R6 p9 fd3 F3 C3 p10 x12 (i64.wrap (x9-x13)) (i64.wrap (x10+1)) p11 A1 n1 m1 H8) (dv prog 257 #[.pointer p11,.slice A1 n1 m1] H fun _ H9=>K (I x8) H9)) (dv prog 257 #[.pointer p11,.slice A1 n1 m1] H fun _ H10=>K (I x8) H10)
def bf.j2 (K:VK)(p6:OA)(fd2:FuncId)(F2 C2:Array Value)(p7:OA)(x5:Int)(H:Hp):=
 aq (x5 !=0) (K (I x5) H) (NN p6 fun a3=>bj H ((a3.add 0).add 1) fun p8=>Nw H (.row [.pointer p7] 331 1) fun b1 H5=>eG 186 #[.pointer p6] H5 fun x6=>NN p6 fun a4=>aM H5 ((a4.add 2).add 0) fun x7=>(∃ k,bf.l6 K k p6 fd2 F2 C2 p7 x5 x6 x7 p8 (Oo b1) 1 1 H5))
def bf (p1:OA)(fd1:FuncId)(F1 C1:Array Value)(H:Hp)(K:VK):Prop:=
 NN p1 fun a1=>NN p1 fun a2=>(bj H ((a1.add 0).add 1) fun p2=>cC 256 #[.pointer (some (a2.add 0))] H fun x1 H1=>Hz 255 #[.pointer p2,I x1] H1 fun v3 H2=>jO v3 fun p3 x2=>(bf.j2 K p1 fd1 F1 C1 p3 x2 H2))/\(cC 256 #[.pointer (some (a2.add 0))] H fun x3 H3=>bj H3 ((a1.add 0).add 1) fun p4=>Hz 255 #[.pointer p4,I x3] H3 fun v8 H4=>jO v8 fun p5 x4=>(bf.j2 K p1 fd1 F1 C1 p5 x4 H4))
def bf.l6.L (K:VK)(k:Nat):de:=fun E D H=>
 eP E 0 fun p9=>DG (E.get? 1) fun w1=>iw w1 fun fd3 F3 C3=>eP E 5 fun p10=>eI E 6 .i64 fun x8=>eI E 7 .i64 fun x9=>eI E 8 .i64 fun x10=>gz 257 D fun dc0 da0 D1=>bF dc0 (az da0 fun u0da0 r0da0=>DP u0da0 fun p11=>az r0da0 fun u1da0 r1da0=>aE u1da0 fun A1 n1 m1=>bF r1da0 (ax D1 (bf.l6 K k p9 fd3 F3 C3 p10 x8 x9 x10 p11 A1 n1 m1 H)))
def bf.Λ6 (_:VK)(_R6:OA→FuncId→Array Value→Array Value→OA→Int→Int→Int→OA→OA→Nat→Nat→Hp→Prop):aI:=aI.none (fun i=>match Nat.beq i 1 with|true=>some ([],[0,1,3,7,15,0,32,96,224,511,1023,2047,2047,4095,16383],0)|false=>none)
def bf.Λ (K:VK):aI:=⟨fun i=>match Nat.beq i 2 with|true=>some (fun E D H=>eP E 0 fun p6=>DG (E.get? 1) fun w1=>iw w1 fun fd2 F2 C2=>eP E 5 fun p7=>eI E 6 .i64 fun x5=>ax D (bf.j2 K p6 fd2 F2 C2 p7 x5 H))|false=>none,fun i=>match Nat.beq i 6 with|true=>some (fun E D H=>∃ k,bf.l6.L K k E D H)|false=>none,(fun i=>match Nat.beq i 1 with|true=>some ([],[0,1,3,7,15,0,32,96,224,511,1023,2047,2047,4095,16383],0)|false=>none)⟩
theorem bf.ok p1 fd1 F1 C1 H K (h:bf p1 fd1 F1 C1 H K):aa prog 233 #[.pointer p1,.func (.func fd1) F1 C1] H K:=
 dV (Λ:=(bf.Λ K)) dG Tryz.func233 rfl rfl h (oC (fun E D H h=>by
   obtain⟨p6,e0,g2⟩:=GP h;obtain⟨w1,e1,g3⟩:=DG.out g2;obtain⟨fd2,F2,C2,rfl,g4⟩:=iw.out g3;obtain⟨p7,e5,g6⟩:=GP g4;obtain⟨x5,e6,g8⟩:=GI g6;obtain⟨rfl,h'⟩:=ax.out g8;exact cU (Λ:=(bf.Λ K)) dG [] (ag.cons e0 (ag.cons e1 (ag.cons e5 (ag.cons e6 (ag.nil _))))) h' (oC (fun E D H h=>by
     refine Safe.cJ (bf.l6.L K) (fun E D H h=>?_) (fun k E D H h=>?_) E D H h
     .obtain⟨w0,e0,g1⟩:=DG.out h;obtain⟨p9,rfl,g2⟩:=DP.out g1;obtain⟨w1,e1,g3⟩:=DG.out g2;obtain⟨fd3,F3,C3,rfl,g4⟩:=iw.out g3;obtain⟨w5,e5,g5⟩:=DG.out g4;obtain⟨p10,rfl,g6⟩:=DP.out g5;obtain⟨w6,e6,g7⟩:=DG.out g6;obtain⟨x8,rfl,g8⟩:=DI.out g7;obtain⟨w7,e7,g9⟩:=DG.out g8;obtain⟨x9,rfl,g10⟩:=DI.out g9;obtain⟨w8,e8,g11⟩:=DG.out g10;obtain⟨x10,rfl,g12⟩:=DI.out g11;obtain⟨dc0,da0,D1,rfl,g13⟩:=gz.out g12;obtain⟨rfl,g14⟩:=bF.out g13;obtain⟨u0da0,r0da0,rfl,g15⟩:=az.out g14;obtain⟨p11,rfl,g16⟩:=DP.out g15;obtain⟨u1da0,r1da0,rfl,g17⟩:=az.out g16;obtain⟨A1,n1,m1,rfl,g18⟩:=aE.out g17;obtain⟨rfl,g19⟩:=bF.out g18;obtain⟨rfl,h'⟩:=ax.out g19;exact h'
     .obtain⟨p9,e0,g2⟩:=GP h;obtain⟨w1,e1,g3⟩:=DG.out g2;obtain⟨fd3,F3,C3,rfl,g4⟩:=iw.out g3;obtain⟨p10,e5,g6⟩:=GP g4;obtain⟨x8,e6,g8⟩:=GI g6;obtain⟨x9,e7,g10⟩:=GI g8;obtain⟨x10,e8,g12⟩:=GI g10;obtain⟨dc0,da0,D1,rfl,g13⟩:=gz.out g12;obtain⟨rfl,g14⟩:=bF.out g13;obtain⟨u0da0,r0da0,rfl,g15⟩:=az.out g14;obtain⟨p11,rfl,g16⟩:=DP.out g15;obtain⟨u1da0,r1da0,rfl,g17⟩:=az.out g16;obtain⟨A1,n1,m1,rfl,g18⟩:=aE.out g17;obtain⟨rfl,g19⟩:=bF.out g18;obtain⟨rfl,h'⟩:=ax.out g19;exact cU (Λ:=(bf.Λ6 K (bf.l6 K k))) dG [{ target:=.fn (.func 257) #[],args:=#[.pointer p11,.slice A1 n1 m1]}] (ag.cons e0 (ag.cons e1 (ag.cons e5 (ag.cons e6 (ag.cons e7 (ag.cons e8 (ag.nil _))))))) h' oN) oN)) oN)
def iK (x1 x2:Int)(p1 p2 p3:OA)(H:Hp)(K:VK):Prop:=
 NN p2 fun a1=>bj H a1 fun p4=>NN p4 fun a2=>cC 235 #[.pointer (some (a2.add 0)),I x1,.pointer p1] H fun x3 H1=>aq (x3==0) (lM 237 #[.pointer p1] H1 fun A1 n1 m1 H2=>lO n1 m1 none (some x2) fun n2 n3=>Hz 236 #[.pointer p3,.slice (iG A1 m1 n2 1) (n3-n2) (m1-n2)] H2 fun v4 H3=>K (I x3) H3) (K (I x3) H1)
theorem iK.ok x1 x2 p1 p2 p3 H K (h:iK x1 x2 p1 p2 p3 H K):aa prog 234 #[I x1,I x2,.pointer p1,.pointer p2,.pointer p3] H K:=
 bX dG Tryz.func234 rfl rfl h
def bS.l6 (K:VK):Nat->OA->Nat->Nat->OA->Nat->Nat->Int->Int->Hp->Prop
 |0,_,_,_,_,_,_,_,_,_=>False
 |k+1,A3,n3,m3,A4,n4,m4,x3,x4,H=>
  let R6:=bS.l6 K k
  aq (decide (x4<x3)) (Hz 192 #[.slice A3 n3 m3,I x4] H fun v6 H3=>kS v6 fun x5 x6=>(cz x4 n4 (NN A4 fun a2=>St H3 ((a2.add (x4.toNat*1)).add 0) (U x5) fun H4=>R6 A3 n3 m3 A4 n4 m4 x3 (i64.wrap (x4+1)) H4))) (K (I 0) H)
def bS (p1:OA)(x1:Int)(p2:OA)(H:Hp)(K:VK):Prop:=
 NN p1 fun a1=>bj H (a1.add 0) fun p3=>Hz 46 #[.pointer p3,I x1] H fun v2 H1=>kc v2 fun A1 n1 m1 x2=>(aq (x2 !=0) (K (I x2) H1) (lM 237 #[.pointer p2] H1 fun A2 n2 m2 H2=>(∃ k,bS.l6 K k A1 n1 m1 A2 n2 m2 (n2:Int) 0 H2)))
def bS.l6.L (K:VK)(k:Nat):de:=fun E D H=>
 DG (E.get? 7) fun w7=>aE w7 fun A3 n3 m3=>DG (E.get? 9) fun w9=>aE w9 fun A4 n4 m4=>eI E 28 .i64 fun x3=>eI E 29 .i64 fun x4=>ax D (bS.l6 K k A3 n3 m3 A4 n4 m4 x3 x4 H)
def bS.Λ6 (_:VK)(_R6:OA->Nat->Nat->OA->Nat->Nat->Int->Int->Hp->Prop):aI:=aI.none (fun _=>none)
def bS.Λ (K:VK):aI:=⟨fun i=>none,fun i=>match Nat.beq i 6 with|true=>some (fun E D H=>∃ k,bS.l6.L K k E D H)|false=>none,(fun _=>none)⟩
theorem bS.ok p1 x1 p2 H K (h:bS p1 x1 p2 H K):aa prog 235 #[.pointer p1,I x1,.pointer p2] H K:=
 dV (Λ:=(bS.Λ K)) dG Tryz.func235 rfl rfl h (oC (fun E D H h=>by
   refine Safe.cJ (bS.l6.L K) (fun E D H h=>?_) (fun k E D H h=>?_) E D H h
   .obtain⟨w7,e7,g1⟩:=DG.out h;obtain⟨A3,n3,m3,rfl,g2⟩:=aE.out g1;obtain⟨w9,e9,g3⟩:=DG.out g2;obtain⟨A4,n4,m4,rfl,g4⟩:=aE.out g3;obtain⟨w28,e28,g5⟩:=DG.out g4;obtain⟨x3,rfl,g6⟩:=DI.out g5;obtain⟨w29,e29,g7⟩:=DG.out g6;obtain⟨x4,rfl,g8⟩:=DI.out g7;obtain⟨rfl,h'⟩:=ax.out g8;exact h'
   .obtain⟨w7,e7,g1⟩:=DG.out h;obtain⟨A3,n3,m3,rfl,g2⟩:=aE.out g1;obtain⟨w9,e9,g3⟩:=DG.out g2;obtain⟨A4,n4,m4,rfl,g4⟩:=aE.out g3;obtain⟨x3,e28,g6⟩:=GI g4;obtain⟨x4,e29,g8⟩:=GI g6;obtain⟨rfl,h'⟩:=ax.out g8;exact cU (Λ:=(bS.Λ6 K (bS.l6 K k))) dG [] (ag.cons e7 (ag.cons e9 (ag.cons e28 (ag.cons e29 (ag.nil _))))) h' oN) oN)
def bN.l4 (K:VK):Nat->OA->Int->Int->OA->Nat->Nat->Hp->Prop
 |0,_,_,_,_,_,_,_=>False
 |k+1,p2,x5,x6,A1,n1,m1,H=>
  let R4:=bN.l4 K k
  aq (decide (x6>0)) (NN p2 fun a1=>aY H (a1.add 2) 3 fun l1=>NN p2 fun a2=>eG 256 #[.pointer (some (a2.add 0))] H fun x7=>Qz 316 #[.agg l1.toArray,I x7,I x5] H fun v4=>zg v4 fun x8 x9 x10=>(aq (x10 !=0) (K (.tuple #[.slice none 0 0,I x10]) H) (NN p2 fun a3=>cC 256 #[.pointer (some (a3.add 0))] H fun x11 H3=>Nw H3 (.row [I x8,I x9,I (if(i64.wrap (x11-x9))<x6 then(i64.wrap (x11-x9))else x6)] 360 3) fun b1 H4=>jq prog 360 (.slice A1 n1 m1) (.slice (Oo b1) 1 1) H4 fun v9 H5=>aE v9 fun A2 n2 m2=>R4 p2 (i64.wrap (x5+(if(i64.wrap (x11-x9))<x6 then(i64.wrap (x11-x9))else x6))) (i64.wrap (x6-(if(i64.wrap (x11-x9))<x6 then(i64.wrap (x11-x9))else x6))) A2 n2 m2 H5))) (K (.tuple #[.slice A1 n1 m1,I 0]) H)
def bN (p1:OA)(x1 x2:Int)(H:Hp)(K:VK):Prop:=
 aq (decide (x1<0)) (K (.tuple #[.slice none 0 0,I 2]) H) (cC 186 #[.pointer p1] H fun x3 H1=>aq (decide (x1>x3)) (K (.tuple #[.slice none 0 0,I 2]) H1) (cC 186 #[.pointer p1] H1 fun x4 H2=>aq (decide (x2>(i64.wrap (x4-x1)))) (K (.tuple #[.slice none 0 0,I 2]) H2) ((∃ k,bN.l4 K k p1 x1 x2 none 0 0 H2))))
def bN.l4.L (K:VK)(k:Nat):de:=fun E D H=>
 eP E 0 fun p2=>eI E 1 .i64 fun x5=>eI E 2 .i64 fun x6=>DG (E.get? 8) fun w8=>aE w8 fun A1 n1 m1=>ax D (bN.l4 K k p2 x5 x6 A1 n1 m1 H)
def bN.Λ4 (_:VK)(_R4:OA->Int->Int->OA->Nat->Nat->Hp->Prop):aI:=aI.none (fun _=>none)
def bN.Λ (K:VK):aI:=⟨fun i=>none,fun i=>match Nat.beq i 4 with|true=>some (fun E D H=>∃ k,bN.l4.L K k E D H)|false=>none,(fun _=>none)⟩
theorem bN.ok p1 x1 x2 H K (h:bN p1 x1 x2 H K):aa prog 254 #[.pointer p1,I x1,I x2] H K:=
 dV (Λ:=(bN.Λ K)) dG Tryz.func254 rfl rfl h (oC (fun E D H h=>by
   refine Safe.cJ (bN.l4.L K) (fun E D H h=>?_) (fun k E D H h=>?_) E D H h
   .obtain⟨w0,e0,g1⟩:=DG.out h;obtain⟨p2,rfl,g2⟩:=DP.out g1;obtain⟨w1,e1,g3⟩:=DG.out g2;obtain⟨x5,rfl,g4⟩:=DI.out g3;obtain⟨w2,e2,g5⟩:=DG.out g4;obtain⟨x6,rfl,g6⟩:=DI.out g5;obtain⟨w8,e8,g7⟩:=DG.out g6;obtain⟨A1,n1,m1,rfl,g8⟩:=aE.out g7;obtain⟨rfl,h'⟩:=ax.out g8;exact h'
   .obtain⟨p2,e0,g2⟩:=GP h;obtain⟨x5,e1,g4⟩:=GI g2;obtain⟨x6,e2,g6⟩:=GI g4;obtain⟨w8,e8,g7⟩:=DG.out g6;obtain⟨A1,n1,m1,rfl,g8⟩:=aE.out g7;obtain⟨rfl,h'⟩:=ax.out g8;exact cU (Λ:=(bN.Λ4 K (bN.l4 K k))) dG [] (ag.cons e0 (ag.cons e1 (ag.cons e2 (ag.cons e8 (ag.nil _))))) h' oN) oN)
def jf (p1:OA)(H:Hp)(K:VK):Prop:=
 NN p1 fun a1=>bj H (a1.add 0) fun p2=>NN p2 fun a2=>cC 124 #[.pointer (some (a2.add 0))] H fun x1 H1=>((8:Int)≠0/\i64=i64/\K (I (i64.wrap (Int.tdiv x1 8))) H1)
theorem jf.ok p1 H K (h:jf p1 H K):aa prog 256 #[.pointer p1] H K:=
 bX dG Tryz.func256 rfl rfl h
def im (p1:OA)(x1:Int)(p2:OA)(H:Hp)(K:VK):Prop:=
 NN p1 fun a1=>(bj H (a1.add 0) fun p3=>lM 237 #[.pointer p2] H fun A1 n1 m1 H1=>lM 214 #[.slice A1 n1 m1] H1 fun A2 n2 m2 H2=>cC 47 #[.pointer p3,I x1,.slice A2 n2 m2] H2 fun x2 H3=>K (I x2) H3)/\(lM 237 #[.pointer p2] H fun A3 n3 m3 H4=>(bj H4 (a1.add 0) fun p4=>lM 214 #[.slice A3 n3 m3] H4 fun A4 n4 m4 H5=>cC 47 #[.pointer p4,I x1,.slice A4 n4 m4] H5 fun x3 H6=>K (I x3) H6)/\(lM 214 #[.slice A3 n3 m3] H4 fun A5 n5 m5 H7=>bj H7 (a1.add 0) fun p5=>cC 47 #[.pointer p5,I x1,.slice A5 n5 m5] H7 fun x4 H8=>K (I x4) H8))
theorem im.ok p1 x1 p2 H K (h:im p1 x1 p2 H K):aa prog 258 #[.pointer p1,I x1,.pointer p2] H K:=
 nL (fun i=>match Nat.beq i 1 with|true=>some ([],[0,1,3,7,0,0,32,96,255,511],0)|false=>none) dG Tryz.func258 rfl rfl h
end W
namespace Str
open Go Go.Hw Go.Form W Dsk Are
structure X where
 f:Nat
 s:Nat
 w:Nat
def ba (dp ap:Nat)(x:X):AO:=Oa #[V dp,V ap,I x.f,I x.s,I x.w] 336
def D.ae (d:D):Nat:=d.size/8
structure On (d:D)(x:X):Prop where
 w1:1<=x.w
 s1:1<=x.s
 fit:x.f+x.s<=d.sec
 room:x.w<=x.s*D.ae d
theorem Ok.dQ {d:D}(h:Ok d):4<=D.ae d/\D.ae d<=512/\8*D.ae d=d.size:=by
 have h1:=h.size;have h2:=h.ae;unfold D.ae;omega
section
variable {L : List As} {H : Hp} {p dp ap : Nat} {d : D} {x : X}
theorem lE (h:Sep L H)(i j:Nat)(hi:L[i]? =some (ah p (ba dp ap x)))(hj:L[j]? =some (Dk dp d))(hok:Ok d):aa prog 256 #[V p] H (RetE (I (D.ae d:Int)) H):=by
 have hsz:=hok.size;apply jf.ok;unfold jf;simp only[HS];refine ez (h.get i hi) (v:=V dp) rfl ?_;simp only[HV]
 try simp only[HS]
 refine aa.use (pX h j hj) ?_
 try simp only[HV]
 refine⟨by decide,by simp,RetE.of ?_⟩;rw[show Int.tdiv (d.size:Int) 8=((d.size/8:Nat):Int)from rfl,dS];rfl
theorem ov (h:Sep L H)(i:Nat)(hi:L[i]? =some (ah p (ba dp ap x))):aa prog 186 #[V p] H (RetE (I (x.w:Int)) H):=by
 apply iL.ok;unfold iL;simp only[HS];refine ez (h.get i hi) (v:=I x.w) rfl ?_;simp only[HV];exact RetE.mk _ _
end
def cX (bs:List UInt8):List UInt64:=(List.range (bs.length/8)).map fun i=>UInt64.ofNat (aJ bs (8*i))
theorem iv (bs:List UInt8):(cX bs).length=bs.length/8:=by simp[cX]
theorem wU (bs:List UInt8)(i:Nat)(h:i<bs.length/8):(cX bs)[i]? =some (UInt64.ofNat (aJ bs (8*i))):=by
 unfold cX;rw[List.getElem?_map,List.getElem?_range h];rfl
theorem BV (l:List UInt64):cX (form l)=l:=by
 apply List.ext_getElem?;intro i;by_cases h:i<l.length
 .rw[wU _ _ (by rw[dI];omega)];have:=lJ h [];rw[List.append_nil]at this;rw[this,List.getElem?_eq_getElem h];simp
 .rw[List.getElem?_eq_none (by rw[iv,dI];omega),List.getElem?_eq_none (by omega)]
structure Calm (d:D):Prop where
 down:d.down=false
 aH:d.aH=0
def D.more (d:D):D:={ d with rd:=d.rd+1}
theorem yu (K:VK)(A:OA)(n c:Nat)(bs:List UInt8)(hn:n=bs.length)(hnc:n<=c)(hn2:n<=4096)(rb ae m:Nat)(hper:8*ae=n){L:List As}(i:Nat)
  (hK:∀ H,Sep (L.set i (ah rb (.row (af (cX bs)) 108 m))) H->K (I 0) H) (hb:∀ xs H,Sep (L.set i (ah rb (.row xs 108 m))) H->Cells H A (aC bs)) (hi:i<L.length):∀(d j:Nat) (xs:List Value) (H:Hp),j+d=ae->xs.length=ae->xs.take j=(af (cX bs)).take j->
   Sep (L.set i (ah rb (.row xs 108 m))) H->bS.l6 K (d+1) A n c (Oo rb) ae ae (ae:Int) (j:Int) H
 |0,j,xs,H,hj,hl,hx,hs=>by
  unfold bS.l6;refine au (by omega) (hK H ?_);rw[List.take_of_length_le (by omega),List.take_of_length_le (by rw[aB,iv];omega)]at hx;rw[<- hx];exact hs
 |d+1,j,xs,H,hj,hl,hx,hs=>by
  unfold bS.l6;refine aA (by omega) ?_;refine aa.use (FormP.xd A n c hnc (by omega) bs hn j (by omega) H (hb xs H hs)) ?_
  try simp only[HV]
  refine⟨by omega,by omega,?_⟩;rw[Int.toNat_natCast,Nat.mul_one];show St H _ _ _
  rw[Addr.aP,Nat.zero_add,Addr.add_zero];refine hs.str i (b:=rb) (xs:=xs) (e:=108) (m:=m) (by rw[List.getElem?_set];simp[hi]) (by omega) rfl fun H hs=>?_;rw[List.set_set]at hs;rw[bg (x:=(j:Int)+1)];refine yu K A n c bs hn hnc hn2 rb ae m hper i hK hb hi d (j+1) _ H (by omega) (by rw[List.length_set];exact hl) ?_ hs;have hw:(af (cX bs))[j]? =some (U (aJ bs (8*j):Nat)):=by
   rw[ct,wU _ _ (by omega)];simp only[Option.map_some];rw[UInt64.toNat_ofNat_of_lt' (ia bs (8*j))]
  obtain⟨hlt,hg⟩:=List.getElem?_eq_some_iff.1 hw;rw[List.take_succ_eq_append_getElem hlt,hg,<-hx,List.take_succ_eq_append_getElem (by rw[List.length_set];omega),List.take_set_of_le (by omega),List.getElem_set_self]
def D.put (d:D)(i:Int)(ws:List UInt64):D:={ d with wr:=d.wr+1,gE:=qz d.gE i,cache:=gD d.cache i (form ws)}
def right (d:D)(f s w:Int):Prop:=1<=w/\0<=f/\1<=s/\f<d.sec/\s<=d.sec-f/\w<=s*D.ae d
theorem iU {dp ap:Nat}{d:D}(hok:Ok d)(x:X)(hx:On d x):Tr prog 232 #[V dp,V ap,.agg #[I x.f,I x.s,I x.w]] [Dk dp d] fun v M=>
  ∃ p,v= .tuple #[V p,I 0]/\M=[Dk dp d,ah p (ba dp ap x)]:=fun H hs=>by
 have hp:=Ok.dQ hok;have hsec:=hok.sec;obtain⟨h1,h2,h3,h4⟩:=hx;have hroom:x.s*D.ae d<=1048576*512:=Nat.mul_le_mul (by omega) (by omega);apply ny.ok;unfold ny;simp only[HS];refine hs.nw fun b1 H hs=>bY rfl (bY rfl ?_)
 refine hs.bJ 1 rfl rfl ?_;simp only[HV];refine hs.nw fun b2 H hs=>?_
 refine hs.ld 1 rfl rfl ?_;simp only[HV];refine au (by omega) ?_;refine hs.ld 1 rfl rfl ?_;simp only[HV];refine au (by omega) ?_;refine hs.ld 1 rfl rfl ?_;simp only[HV];refine au (by omega) ?_;refine hs.ld 1 rfl rfl ?_;simp only[HV];refine bD.use (kR hs 0 rfl) ?_
 try simp only[HV]
 refine au (by omega) ?_;refine hs.ld 1 rfl rfl ?_;simp only[HV];refine bD.use (kR hs 0 rfl) ?_
 try simp only[HV]
 refine hs.ld 1 rfl rfl ?_;simp only[HV];rw[bg (x:=(d.sec:Int)-x.f)];refine au (by omega) ?_;refine hs.ld 1 rfl rfl ?_;simp only[HV];refine hs.ld 1 rfl rfl ?_;simp only[HV];refine bD.use (lE (p:=b2) (dp:=dp) (ap:=ap) (x:=x) hs 2 0 rfl rfl hok) ?_;simp only[HV];rw[<- Int.natCast_mul,dS];refine au (by omega) ?_;exact⟨_,⟨b2,rfl,rfl⟩,hs.re [0,2] rfl⟩
def cN (ae fr n:Nat):Nat:=if ae-fr%ae<n then ae-fr%ae else n
def dy (ae f:Nat):Nat->Nat->Nat->List (Nat×Nat×Nat)
 |0,_,_=>[]
 |k+1,fr,n=>if n=0 then []else(f+fr/ae,fr%ae,cN ae fr n)::dy ae f k (fr+cN ae fr n) (n-cN ae fr n)
def kO (y:Nat×Nat×Nat):List Value:=[I (y.1:Int),I (y.2.1:Int),I (y.2.2:Int)]
theorem vL (ae fr n:Nat):cN ae fr n<=n:=by unfold cN;split<;>omega
theorem sU {ae fr n:Nat}(hp:0<ae:=by omega)(hn:0<n:=by omega):0<cN ae fr n:=by
 have:=Nat.mod_lt fr hp;unfold cN;split<;>omega
theorem z' {ae fr n:Nat}(hp:0<ae:=by omega):fr%ae+cN ae fr n<=ae:=by
 have:=Nat.mod_lt fr hp;unfold cN;split<;>omega
theorem Jh :ed prog 360=some (3,24,some #[I 0,I 0,I 0]):=by kernel_rfl
theorem uJ (K:VK){p dp ap:Nat}{d:D}{x:X}(hok:Ok d)(hx:On d x):
  ∀(k fr n:Nat) (A:OA) (c m:Nat) (acc:List (Nat×Nat×Nat)) (H:Hp),n<=k->fr+n<=x.w->acc.length=c->c+n<=1000000000->
   (∀ A' m' H',Sep [ah p (ba dp ap x),Dk dp d,cj 360 3 A' (acc++dy (D.ae d) x.f k fr n).length m' ((acc++dy (D.ae d) x.f k fr n).flatMap kO)] H'->K (.tuple #[.slice A' (acc++dy (D.ae d) x.f k fr n).length m',I 0]) H')->
   Sep [ah p (ba dp ap x),Dk dp d,cj 360 3 A c m (acc.flatMap kO)] H->bN.l4 K (k+1) (Oo p) (fr:Int) (n:Int) A c m H
 |k,fr,0,A,c,m,acc,H,hn,hf,hc,hcn,hk,hs=>by
  unfold bN.l4;refine au (by omega) ?_;have e:dy (D.ae d) x.f k fr 0=[]:=by cases k<;>simp[dy]
  rw[e,List.append_nil,hc]at hk;exact hk A m H hs
 |0,fr,n+1,A,c,m,acc,H,hn,hf,hc,hcn,hk,hs=>by omega
 |k+1,fr,n+1,A,c,m,acc,H,hn,hf,hc,hcn,hk,hs=>by
  have hp:=Ok.dQ hok;have hsec:=hok.sec;have hroom:x.s*D.ae d<=1048576*512:=Nat.mul_le_mul (by have:=hx.fit;omega) (by omega);have h4:=hx.room;have hfit:=hx.fit;unfold bN.l4;refine aA (by omega) ?_;simp only[HS];refine hs.nH 0 rfl (Nat.le_refl _) ?_;refine bD.use (lE hs 0 1 rfl rfl hok) ?_;simp only[HV];refine bD.use (Lay.EC x.f x.s x.w (D.ae d) fr ⟨by omega,by omega⟩ (by omega) H) ?_;have hdiv:fr/D.ae d<x.s:=by
   rw[Nat.div_lt_iff_lt_mul (by omega)];omega
  have hS:Lay.kD x.f x.s x.w (D.ae d) fr=(((x.f+fr/D.ae d:Nat):Int),((fr%D.ae d:Nat):Int),(0:Int)):=by
   unfold Lay.kD;have e:Int.tdiv (fr:Int) (D.ae d:Int)=((fr/D.ae d:Nat):Int):=rfl;have e2:Int.tmod (fr:Int) (D.ae d:Int)=((fr%D.ae d:Nat):Int):=rfl;rw[e,e2,if_neg (by omega)];simp
  rw[hS];simp only[HV];refine aF rfl ?_;refine aa.use (lE hs 0 1 rfl rfl hok) ?_
  try simp only[HV]
  have hmod:=Nat.mod_lt fr (show 0<D.ae d by omega);rw[bg (x:=(D.ae d:Int)-((fr%D.ae d:Nat):Int))];have hcN:(if(D.ae d:Int)-((fr%D.ae d:Nat):Int)<((n+1:Nat):Int)then(D.ae d:Int)-((fr%D.ae d:Nat):Int)else((n+1:Nat):Int))=((cN (D.ae d) fr (n+1):Nat):Int):=by
   unfold cN;by_cases h:D.ae d-fr%D.ae d<n+1
   .rw[if_pos h,if_pos (by omega)];omega
   .rw[if_neg h,if_neg (by omega)]
  rw[hcN];have hcle:=vL (D.ae d) fr (n+1);have hcpos:=sU (ae:=D.ae d) (fr:=fr) (n:=n+1);refine hs.KC 2 (by rfl) Jh rfl (by omega) (by omega) rfl (by rfl) (by omega) (by omega) fun A' m' H hs=>?_
  simp only[HV];rw[bg (x:=(fr:Int)+((cN (D.ae d) fr (n+1):Nat):Int)),bg (x:=((n+1:Nat):Int)-((cN (D.ae d) fr (n+1):Nat):Int))];rw[show(fr:Int)+((cN (D.ae d) fr (n+1):Nat):Int)=((fr+cN (D.ae d) fr (n+1):Nat):Int) by omega,show((n+1:Nat):Int)-((cN (D.ae d) fr (n+1):Nat):Int)=((n+1-cN (D.ae d) fr (n+1):Nat):Int) by omega];have e:dy (D.ae d) x.f (k+1) fr (n+1)=(x.f+fr/D.ae d,fr%D.ae d,cN (D.ae d) fr (n+1))::dy (D.ae d) x.f k (fr+cN (D.ae d) fr (n+1)) (n+1-cN (D.ae d) fr (n+1)):=by
   show(if n+1=0 then []else _)=_
   rw[if_neg (by omega)]
  refine uJ K (dp:=dp) (ap:=ap) hok hx k _ _ A' (c+1) m' (acc++[(x.f+fr/D.ae d,fr%D.ae d,cN (D.ae d) fr (n+1))]) H (by omega) (by omega) (by rw[List.length_append];simp;exact hc) (by omega) (fun A' m' H' hs=>?_) ?_
  .rw[List.append_assoc]at hs⊢;rw[show [(x.f+fr/D.ae d,fr%D.ae d,cN (D.ae d) fr (n+1))]++dy (D.ae d) x.f k (fr+cN (D.ae d) fr (n+1)) (n+1-cN (D.ae d) fr (n+1))=dy (D.ae d) x.f (k+1) fr (n+1) by rw[e];rfl]at hs⊢;exact hk A' m' H' hs
  .rw[List.flatMap_append];exact hs
theorem yI {p dp ap:Nat}{d:D}{x:X}(hok:Ok d)(hx:On d x)(fr n:Nat)(hf:fr+n<=x.w):Tr prog 254 #[V p,I fr,I n] [ah p (ba dp ap x),Dk dp d] fun v M=>
  ∃ A m,v= .tuple #[.slice A (dy (D.ae d) x.f n fr n).length m,I 0]/\M=[ah p (ba dp ap x),Dk dp d,cj 360 3 A (dy (D.ae d) x.f n fr n).length m ((dy (D.ae d) x.f n fr n).flatMap kO)]:=fun H hs=>by
 have hp:=Ok.dQ hok;have hsec:=hok.sec;have hroom:x.s*D.ae d<=1048576*512:=Nat.mul_le_mul (by have:=hx.fit;omega) (by omega);have h4:=hx.room;apply bN.ok;unfold bN;refine au (by omega) ?_;refine aa.use (ov hs 0 rfl) ?_
 try simp only[HV]
 refine au (by omega) ?_;refine aa.use (ov hs 0 rfl) ?_
 try simp only[HV]
 rw[bg (x:=(x.w:Int)-fr)];refine au (by omega) ⟨n+1,?_⟩;have e0:Sep [ah p (ba dp ap x),Dk dp d,cj 360 3 none 0 0 (([]:List (Nat×Nat×Nat)).flatMap kO)] H:=by
  have:Sep (cj 360 3 none 0 0 []::[ah p (ba dp ap x),Dk dp d]) H:=⟨fun _=>none,H,fun _ _ h=>(nomatch h),Hp.le_refl _,fun _=>.inl rfl,cj.none _ _ _,hs⟩;exact this.re [1,2,0] rfl
 refine uJ _ (dp:=dp) (ap:=ap) hok hx n fr n none 0 0 [] H (Nat.le_refl _) hf rfl (by omega) (fun A' m' H' hs=>?_) e0;exact⟨_,⟨A',m',rfl,rfl⟩,hs⟩
def pw (d:D)(x:X)(i:Nat):UInt64:=((cX (d.now ((x.f+i/D.ae d:Nat):Int)))[i%D.ae d]?).getD 0
def dE (d:D)(x:X)(fr n:Nat):List UInt64:=(List.range n).map fun i=>pw d x (fr+i)
theorem jW (d:D)(x:X)(fr n:Nat):(dE d x fr n).length=n:=by simp[dE]
theorem Cx (d:D)(x:X)(fr a b:Nat):dE d x fr (a+b)=dE d x fr a++dE d x (fr+a) b:=by
 unfold dE;rw[List.range_add,List.map_append,List.map_map];congr 1;apply List.map_congr_left;intro i _;simp only[Function.comp];congr 1;omega
theorem uI {d:D}(hok:Ok d)(x:X){fr k:Nat}(h:fr%D.ae d+k<=D.ae d):((cX (d.now ((x.f+fr/D.ae d:Nat):Int))).drop (fr%D.ae d)).take k=dE d x fr k:=by
 have hp:=Ok.dQ hok;apply List.ext_getElem?;intro i;unfold dE;rw[List.getElem?_take,List.getElem?_map];by_cases hi:i<k
 .rw[if_pos hi,List.getElem?_drop,List.getElem?_range hi];simp only[Option.map_some];have hlen:(cX (d.now ((x.f+fr/D.ae d:Nat):Int))).length=D.ae d:=by
   rw[iv,hok.now];rfl
  unfold pw;have e:=Nat.div_add_mod fr (D.ae d);have h1:(fr+i)/D.ae d=fr/D.ae d:=by
   rw[Nat.div_eq_of_lt_le]
   .rw[Nat.mul_comm];omega
   .rw[Nat.succ_mul,Nat.mul_comm];omega
  have h2:(fr+i)%D.ae d=fr%D.ae d+i:=by
   have:=Nat.div_add_mod (fr+i) (D.ae d);rw[h1]at this;omega
  rw[h1,h2,List.getElem?_eq_getElem (by rw[hlen];omega)];rfl
 .rw[if_neg hi,List.getElem?_eq_none (by simp;omega)];rfl
def D.K8 (d:D)(t:Nat):D:={ d with rd:=d.rd+t}
theorem Ok.K8 {d:D}(h:Ok d)(t:Nat):Ok (D.K8 d t):=⟨h.sec,h.size,h.kV,h.ae,h.safe,h.cache,h.fz⟩
theorem Cr (ae f:Nat)(hp:0<ae):∀(k fr n:Nat),n<=k->((dy ae f k fr n).map (·.2.2)).sum=n
 |k,fr,0,_=>by cases k<;>simp[dy]
 |0,fr,n+1,h=>by omega
 |k+1,fr,n+1,h=>by
  have hcle:=vL ae fr (n+1);have hcpos:=sU (ae:=ae) (fr:=fr) (n:=n+1) hp;unfold dy;rw[if_neg (by omega),List.map_cons,List.sum_cons,Cr ae f hp k _ _ (by omega)];show cN ae fr (n+1)+_=_
  omega
theorem iR (ae f:Nat):∀(k fr n:Nat),(dy ae f k fr n).length<=k
 |0,_,_=>by simp[dy]
 |k+1,fr,n=>by
  unfold dy;split
  .simp
  .have:=iR ae f k (fr+cN ae fr n) (n-cN ae fr n);simp only[List.length_cons];omega
def mx (a b:Int):Int:=if b>a then b else a
end Str
end Go.Proofs.YtlgnlghmbcpmhaaGreatDoor
