import Derived.Test.YtlgnlghmbcpmhaaGreatDoorProg
import Derived.Shelf.SlIterI.Nil
import Derived.Shelf.SortM.Plain
import Derived.Shelf.SortM.SortNone
import Derived.Ground.GgzProg
import Derived.Ground.SlgmProg
import Derived.Shelf.Strconv.Itoa2
import Derived.Shelf.Strconv.Itoa1
import Derived.Shelf.Strconv.Itoa0
import Derived.Test.YtlgnlghmbcpmhaaGreatDoorPkWholeProof5
set_option maxRecDepth 100000
set_option linter.unusedSimpArgs false
set_option linter.unusedVariables false
set_option linter.unnecessarySimpa false
set_option linter.unusedSectionVars false
open Go.IntKind (i64 u32 u64)
namespace Go.Proofs.YtlgnlghmbcpmhaaGreatDoor
open Tryz (prog)
namespace Pas
open Go Go.Hw Go.Crc Go.Form W Shp Gol Fft Ker Str Dsk Are Trn
structure jC (ea q j:Nat):Prop where
 le:j<=ea
 fit:2^j+1<=q
 aG:j=ea\/q<2*2^j+1
theorem jC.unique {ea q j j':Nat}(h:jC ea q j)(h':jC ea q j'):j=j':=by
 have key:∀{a b:Nat},jC ea q a->jC ea q b->¬a<b:=fun{a b} ha hb hlt=>by
  have hp:2^(a+1)<=2^b:=cL hlt;rw[Nat.pow_succ]at hp;have h1:=hb.le;have h2:=hb.fit;rcases ha.aG with e|e
  .omega
  .omega
 have h1:=key h h';have h2:=key h' h;omega
theorem jC.ex {ea q:Nat}(h:2<=q):∃ j,jC ea q j:=by
 have key:∀ t j,j+t=ea->2^j+1<=q->∃ j,jC ea q j:=fun t=>by
  induction t with
  |zero=>intro j hj hf;exact⟨j,by omega,hf,.inl (by omega)⟩
  |succ t ih=>
   intro j hj hf;by_cases hc:2^(j+1)+1<=q
   .exact ih (j+1) (by omega) hc
   .rw[Nat.pow_succ]at hc;exact⟨j,by omega,hf,.inr (by omega)⟩
 exact key ea 0 (by omega) (by rw[Nat.pow_zero];omega)
theorem AU {a b:Nat}(h:2^a=2^b):a=b:=by
 rcases Nat.lt_trichotomy a b with h1|h1|h1
 .have:=Nat.pow_lt_pow_right (show 1<2 by omega) h1;omega
 .exact h1
 .have:=Nat.pow_lt_pow_right (show 1<2 by omega) h1;omega
abbrev GT (r c ae free:Int):Prop:=jg r c=true/\c<=1048576/\gL ae=true/\ae<=free/\2*c<=free-ae
def Dd (r c ae free:Int)(v:Value):Prop:=
 (¬GT r c ae free/\v= .tuple #[I 0,.bool false])\/
 (GT r c ae free/\∃ ea eb j:Nat,r=((2^ea:Nat):Int)/\c=((2^eb:Nat):Int)/\ea+eb<=32/\jC ea ((free-ae).toNat/2^eb) j/\v= .tuple #[I ((2^j:Nat):Int),.bool true])
theorem GV {r c ae free:Int}{ea eb f:Nat}(hr:r=((2^ea:Nat):Int))(hc:c=((2^eb:Nat):Int))(hab:ea+eb<=32)(hf:free-ae=(f:Int))(hf2:f<=9223372036854775807)(hfr:free-ae<=9223372036854775807)(K:VK)(b1:Nat){L:List As}(i:Nat)
  (hi:L[i]? =some (ah b1 (Oa #[I r,I c] 217))) {H:Hp} (hs:Sep L H) (hK:∀ j,jC ea (f/2^eb) j->K (.tuple #[I ((2^j:Nat):Int),.bool true]) H):
  ∀(t j:Nat),j+t=ea->2^j+1<=f/2^eb->dh.l4 K (t+1) ae free (O b1) ((2^j:Nat):Int) H:=by
 have hc1:=pow_pos eb;intro t
 induction t with
 |zero=>
  intro j hj hfit;have hp2:=cL (show j<=32 by omega);have hp1:=pow_pos j;unfold dh.l4;rw[show(O b1).add 0=(O b1)from rfl];refine hs.ld i hi rfl ?_;simp only[HV];rw[bg (x:=2*((2^j:Nat):Int))];refine au ?_ (hK j ⟨by omega,hfit,.inl (by omega)⟩);rw[hr,show ea=j by omega];omega
 |succ t ih=>
  intro j hj hfit;have hp2:=cL (show j+1<=32 by omega);have hp3:=cL (show j+1<=ea by omega);have hp1:=pow_pos j;rw[Nat.pow_succ]at hp2 hp3;unfold dh.l4;rw[show(O b1).add 0=(O b1)from rfl];refine hs.ld i hi rfl ?_;simp only[HV];rw[bg (x:=2*((2^j:Nat):Int))];refine aA (by rw[hr];omega) ?_;refine hs.cg i hi rfl ?_;simp only[HV];refine⟨by rw[hc];omega,trivial,?_⟩;rw[bg (x:=free-ae) (by omega) hfr];rw[show Int.tdiv (free-ae) c=((f/2^eb:Nat):Int) by rw[hf,hc];rfl];have hdl:f/2^eb<=f:=Nat.div_le_self _ _;rw[dS,bg (x:=2*((2^j:Nat):Int)+1)];by_cases hc2:2*2^j+1<=f/2^eb
  .refine aA (by omega) ?_;rw[bg,show((2^j:Nat):Int)*2=((2^(j+1):Nat):Int) by rw[Nat.pow_succ];omega];exact ih (j+1) (by omega) (by rw[Nat.pow_succ];omega)
  .exact au (by omega) (hK j ⟨by omega,hfit,.inr (by omega)⟩)
theorem Gx (r c ae free:Int)(hper: -9223372036854775808<=ae/\ae<=9223372036854775807)(hf:free<=9223372036854775807)(H:Hp)(hT:T64 H):
  aa prog 304 #[.agg #[I r,I c],I ae,I free] H fun v H'=>Dd r c ae free v/\H'=H:=by
 refine aa.forget ?_;apply dh.ok;unfold dh;refine(Sep.start H).nw fun b1 H1 hs=>?_
 have out:∀{v:Value},Dd r c ae free v->∃ H'',H''.le H1/\Dd r c ae free v/\H''=H:=fun h=>⟨H,hs.ow 0 rfl,h,rfl⟩
 first|refine hs.bJ 1 rfl rfl ?_
 try simp only[HV]
 refine aa.use (fA r c H1 (hT.le (hs.ow 0 rfl))) ?_;simp only[HV];cases hg:jg r c with
 |false=>exact cO rfl (out (.inl ⟨fun h=>(by have h1:=h.1;rw[hg]at h1;cases h1),rfl⟩))
 |true=>
  refine bY rfl ?_;obtain⟨ea,eb,hr,hc,hab,_,_⟩:=pE hg;have he1:=pow_pos ea;have he2:=pow_pos eb;have he3:=cL (show ea<=32 by omega);have he4:=cL (show eb<=32 by omega)
  first|refine hs.cg 1 rfl rfl ?_|refine hs.jU 1 rfl rfl ?_
  try simp only[HV]
  by_cases h0:c>1048576
  .exact aA h0 (out (.inl ⟨fun h=>(by have:=h.2.1;omega),rfl⟩))
  refine au h0 ?_;by_cases h1:ae<4
  .exact aA h1 (out (.inl ⟨fun h=>(by have:=lD h.2.2.1;omega),rfl⟩))
  refine au h1 ?_;by_cases h2:ae>512
  .exact aA h2 (out (.inl ⟨fun h=>(by have:=lD h.2.2.1;omega),rfl⟩))
  refine au h2 ?_;have hpb:=xt (p:=ae);cases hp:gL ae with
  |false=>exact aU (fun h=>by rw[hpb.1 h]at hp;cases hp) (out (.inl ⟨fun h=>(by have h1:=h.2.2.1;rw[hp]at h1;cases h1),rfl⟩))
  |true=>
   refine aF (hpb.2 hp) ?_;by_cases h3:free<ae
   .exact aA h3 (out (.inl ⟨fun h=>(by omega),rfl⟩))
   refine au h3 ?_
   first|refine hs.cg 1 rfl rfl ?_|refine hs.jU 1 rfl rfl ?_
   try simp only[HV]
   rw[bg (x:=free-ae),bg (x:=2*c)];by_cases h4:free-ae<2*c
   .exact aA h4 (out (.inl ⟨fun h=>(by omega),rfl⟩))
   refine au h4 ?_;obtain⟨f,hfe⟩:=Int.eq_ofNat_of_zero_le (show 0<=free-ae by omega);refine⟨ea+1,?_⟩;have h2q:2<=f/2^eb:=by rw[Nat.le_div_iff_mul_le (by omega)];omega
   exact GV hr hc hab hfe (by omega) (by omega) (fun v H'=>∃ H'',H''.le H'/\Dd r c ae free v/\H''=H) b1 1 rfl hs (fun j hj=>out (.inr ⟨⟨hg,by omega,hp,by omega,by omega⟩,ea,eb,j,hr,hc,hab,by rw[hfe,Int.toNat_natCast];exact hj,rfl⟩)) ea 0 (by omega) (by rw[Nat.pow_zero];omega)
theorem Gw {ea eb:Nat}(ae free:Int)(hper: -9223372036854775808<=ae/\ae<=9223372036854775807)(hf:free<=9223372036854775807)(H:Hp)(hT:T64 H)(hab:ea+eb<=32)(h:GT ((2^ea:Nat):Int) ((2^eb:Nat):Int) ae free){j:Nat}(hj:jC ea ((free-ae).toNat/2^eb) j):
  aa prog 304 #[.agg #[I ((2^ea:Nat):Int),I ((2^eb:Nat):Int)],I ae,I free] H (RetE (.tuple #[I ((2^j:Nat):Int),.bool true]) H):=
 (Gx _ _ ae free hper hf H hT).mono fun v H' ⟨hq,e⟩=>by
  rcases hq with⟨h',_⟩|⟨_,ea',eb',j',h1,h2,_,hj',rfl⟩
  .exact absurd h h'
  .have e1:ea=ea':=AU (show 2^ea=2^ea' by omega);have e2:eb=eb':=AU (show 2^eb=2^eb' by omega);subst e1 e2;rw[hj.unique hj'];exact⟨rfl,e⟩
def lV (r c dir tw xw yw:Int):Int:=
 if jg r c=true/\xw=r*c/\yw=r*c then(if dir<0\/dir>1 then 18 else if tw< -1\/tw>32 then 2 else 0)else 19
section
variable {L : List As} {H : Hp} {p q dp ap ap' : Nat} {x y : X}
theorem tV (hs:Sep L H)(i:Nat)(hi:L[i]? =some (ah p (ba dp ap x)))(k:Nat)(hk:L[k]? =some (ah q (ba dp ap y)))(hT:T64 H)(r c dir tw sh:Int):
  aa prog 303 #[V p,V q,.agg #[I r,I c,I dir,I tw,U sh],V ap'] H (RetE (I (lV r c dir tw x.w y.w)) H):=aa.ret (by
 have hp1:=hs.get i hi;have hq1:=hs.get k hk;apply na.ok;unfold na;refine(Sep.start H).nw fun b1 H1 hs=>?_
 have hs:Sep [own H,ah b1 (Oa #[I r,I c,I dir,I tw,U sh] 219)] H1:=hs;have hle:=hs.ow 0 rfl;have out:∀{v:Value},v= I (lV r c dir tw x.w y.w)->lU (I (lV r c dir tw x.w y.w)) H v H1:=fun h=>⟨h,hle⟩
 have hw:∀{b:Nat} {z:X},H b=some (ba dp ap z)->aa prog 186 #[V b] H1 (RetE (I (z.w:Int)) H1):=fun{b z} hb=>by
  have hsP:Sep [ah b (ba dp ap z)] H1:=⟨H1,fun _=>none,Hp.le_refl _,fun _ _ h=>(nomatch h),fun _=>.inr rfl,hle _ _ hb,trivial⟩;exact ov hsP 0 rfl
 refine bY rfl (bY rfl (bY rfl ?_));simp only[Addr.add_zero];refine hs.nH 1 rfl (show 0+2<=5 by omega) ?_;refine bD.use (fA r c H1 (hT.le hle)) ?_;simp only[HV];cases hg:jg r c with
 |false=>
  refine cO rfl (out ?_);unfold lV;rw[if_neg (fun h=>by rw[hg]at h;cases h.1)]
 |true=>
  refine bY rfl ?_;refine bD.use (hw hp1) ?_;simp only[HV];refine hs.nH 1 rfl (show 0+2<=5 by omega) ?_;refine bD.use (tT r c H1 (hT.le hle)) ?_;rw[show qW r c=r*c by unfold qW;rw[if_pos hg]];simp only[HV];by_cases h1:(x.w:Int)=r*c
  case neg=>
   refine aU h1 (out ?_);unfold lV;rw[if_neg (fun h=>h1 h.2.1)]
  refine aF h1 ?_;refine bD.use (hw hq1) ?_;simp only[HV];refine hs.nH 1 rfl (show 0+2<=5 by omega) ?_;refine bD.use (tT r c H1 (hT.le hle)) ?_;rw[show qW r c=r*c by unfold qW;rw[if_pos hg]];simp only[HV];by_cases h2:(y.w:Int)=r*c
  case neg=>
   refine aU h2 (out ?_);unfold lV;rw[if_neg (fun h=>h2 h.2.2)]
  refine aF h2 ?_;have hc:lV r c dir tw x.w y.w=if dir<0\/dir>1 then 18 else if tw< -1\/tw>32 then 2 else 0:=by
   unfold lV;rw[if_pos ⟨hg,h1,h2⟩]
  refine hs.cg 1 rfl rfl ?_;simp only[HV];by_cases h3:dir<0
  .exact aA h3 (out (by rw[hc,if_pos (.inl h3)]))
  refine au h3 ?_;refine hs.cg 1 rfl rfl ?_;simp only[HV];by_cases h4:dir>1
  .exact aA h4 (out (by rw[hc,if_pos (.inr h4)]))
  refine au h4 ?_;refine hs.cg 1 rfl rfl ?_;simp only[HV];by_cases h5:tw< -1
  .exact aA h5 (out (by rw[hc,if_neg (by omega),if_pos (.inl h5)]))
  refine au h5 ?_;refine hs.cg 1 rfl rfl ?_;simp only[HV];by_cases h6:tw>32
  .exact aA h6 (out (by rw[hc,if_neg (by omega),if_pos (.inr h6)]))
  refine au h6 (out (by rw[hc,if_neg (by omega),if_neg (by omega)])))
end
theorem Kw (k:Nat)(hk:k<64)(H:Hp)(hT:T64 H):aa prog 306 #[U ((2^k:Nat):Int)] H (RetE (I (k:Int)) H):=by
 apply fV.ok;unfold fV;refine aa.use (Is k hk H hT) ?_;simp only[HV];exact RetE.mk _ _
def gJ (j:J)(d:D)(x:X)(m:Nat):List UInt64:=(List.range m).flatMap fun q=>jX j q (dE d x (q*2^j.eb) (2^j.eb))
theorem tt (j:J)(d:D)(x:X):∀ m,(gJ j d x m).length=m*2^j.eb
 |0=>by simp[gJ]
 |m+1=>by
  unfold gJ;rw[List.range_succ,List.flatMap_append,List.length_append];have:=tt j d x m;unfold gJ at this;rw[this,Nat.succ_mul];simp[qn]
theorem Ba {d:D}{x:X}{fr n a c:Nat}(h:a+c<=n):((dE d x fr n).drop a).take c=dE d x (fr+a) c:=by
 apply List.ext_getElem?;intro i;rw[List.getElem?_take];by_cases hi:i<c
 .rw[if_pos hi,List.getElem?_drop,ub (by omega),ub hi,Nat.add_assoc]
 .rw[if_neg hi,List.getElem?_eq_none (by rw[jW];omega)]
theorem K5 {d d':D}{x:X}{fr n:Nat}(h:∀ k,fr<=k->k<fr+n->pw d' x k=pw d x k):dE d' x fr n=dE d x fr n:=by
 unfold dE;apply List.map_congr_left;intro k hk;have:=List.mem_range.1 hk;exact h _ (by omega) (by omega)
theorem FO {j:J}{d d':D}{x:X}(a b:Nat)(h:∀ k,k<x.w->pw d' x k=pw d x k)(hw:(a+b)*2^j.eb<=x.w):
  gJ j d x (a+b)=gJ j d x a++lR j a (dE d' x (a*2^j.eb) (b*2^j.eb)) b:=by
 unfold gJ lR;rw[List.range_add,List.flatMap_append,List.flatMap_map];congr 1;have:∀(l:List Nat),(∀ q,q∈l->q<b)->l.flatMap (fun q=>jX j (a+q) (dE d x ((a+q)*2^j.eb) (2^j.eb)))=l.flatMap fun q=>jX j (a+q) (((dE d' x (a*2^j.eb) (b*2^j.eb)).drop (q*2^j.eb)).take (2^j.eb)):=fun l=>by
  induction l with
  |nil=>intro _;rfl
  |cons q l ih=>
   intro hq;have hqb:=hq q (by simp);have h1:(q+1)*2^j.eb<=b*2^j.eb:=Nat.mul_le_mul_right _ (by omega);have h2:(a+q+1)*2^j.eb<=(a+b)*2^j.eb:=Nat.mul_le_mul_right _ (by omega);rw[Nat.succ_mul]at h1 h2;rw[List.flatMap_cons,List.flatMap_cons,ih fun q' h'=>hq q' (by simp[h']),Ba h1,<-Nat.add_mul,K5 (d:=d) (d':=d') (fr:=(a+q)*2^j.eb) (n:=2^j.eb) fun k h3 h4=>h k (by omega)]
 exact this _ fun q hq=>List.mem_range.1 hq
def rP (ae f f' n m:Nat):Nat:=((List.range m).map fun i=>(dy ae f n (i*n) n).length+iO ae f' n (i*n) n).sum
def wP (ae f' n m:Nat):Nat:=((List.range m).map fun i=>(dy ae f' n (i*n) n).length).sum
theorem xy (ae f f' n m:Nat):rP ae f f' n (m+1)=rP ae f f' n m+((dy ae f n (m*n) n).length+iO ae f' n (m*n) n):=by
 unfold rP;rw[List.range_succ,List.map_append,List.sum_append];simp
theorem xI (ae f' n m:Nat):wP ae f' n (m+1)=wP ae f' n m+(dy ae f' n (m*n) n).length:=by
 unfold wP;rw[List.range_succ,List.map_append,List.sum_append];simp
theorem JL (ae f f' n:Nat){i j:Nat}(h:i<=j):rP ae f f' n i<=rP ae f f' n j:=by
 induction h with
 |refl=>exact Nat.le_refl _
 |step h ih=>rw[xy];omega
theorem J9 (ae f' n:Nat){i j:Nat}(h:i<=j):wP ae f' n i<=wP ae f' n j:=by
 induction h with
 |refl=>exact Nat.le_refl _
 |step h ih=>rw[xI];omega
theorem DH (ae f f' n:Nat):∀ m,rP ae f f' n m<=m*(2*n)
 |0=>by simp[rP]
 |m+1=>by
  rw[xy,Nat.succ_mul];have h1:=DH ae f f' n m;have h2:=iR ae f n (m*n) n;have h3:=iR ae f' n (m*n) n;have h4:iO ae f' n (m*n) n<=(dy ae f' n (m*n) n).length:=List.length_filter_le _ _;omega
theorem Eb (ae f' n:Nat):∀ m,wP ae f' n m<=m*n
 |0=>by simp[wP]
 |m+1=>by
  rw[xI,Nat.succ_mul];have h1:=Eb ae f' n m;have h3:=iR ae f' n (m*n) n;omega
structure C7 (d d':D)(x y:X)(j:J)(b m:Nat):Prop where
 pg:Prog (iy y) d d' (rP (D.ae d) x.f y.f (b*2^j.eb) m) (wP (D.ae d) y.f (b*2^j.eb) m)
 src:∀ k,k<x.w->pw d' x k=pw d x k
 dst:∀ k,k<m*b*2^j.eb->pw d' y k=((gJ j d x (m*b))[k]?).getD 0
def zv (p q dp ap:Nat)(d:D)(x y:X)(j:J)(b:Nat)(cap aj:Int)(bufs:List (Nat×Nat×OA))(v:Value)(M:List As):Prop:=
 (∃ d',C7 d d' x y j b (2^j.ea/b)/\v= .tuple #[Oi ((sum (form (gJ j d x (2^j.ea)))).toNat:Int),I 0]/\
  M=[ah p (ba dp ap x),ah q (ba dp ap y),Dk dp d',Ar ap cap (mx aj (aW bufs+(b*2^j.eb:Nat)+(2^j.eb:Nat)+D.ae d)) bufs])\/
 (∃ d',gv (iy y) d d'/\d.aH<=rP (D.ae d) x.f y.f (b*2^j.eb) (2^j.ea/b)+wP (D.ae d) y.f (b*2^j.eb) (2^j.ea/b)/\v= .tuple #[Oi 0,I 8]/\
  M=[ah p (ba dp ap x),ah q (ba dp ap y),Dk dp d',Ar ap cap (mx aj (aW bufs+(b*2^j.eb:Nat)+(2^j.eb:Nat)+D.ae d)) bufs])
section
variable {p q dp ap rn bn bb bn2 bb2 sb v2 v3 kp : Nat} {x y : X} {cap aj : Int} {bufs : List (Nat × Nat × Option Addr)} {TT : As} {j : J} {mb : Nat}
def fK (bufs:List (Nat×Nat×OA))(bn n bb:Nat):List (Nat×Nat×OA):=bufs++[(bn,n,some (O bb))]
def zu (rn p q dp ap bn bb bn2 bb2 sb v2 v3 kp:Nat)(d0 d':D)(x y:X)(j:J)(b m:Nat)(cap pk:Int)(bufs:List (Nat×Nat×OA))(ws:List UInt64)(mb:Nat)(TT:As):List As:=
 [ah sb (Oa j.a 219),ah rn (fS (sum (form (gJ j d0 x (m*b)))) (8*(m*b*2^j.eb)) j kp),ah bb (.row (af ws) 108 mb),
  ah p (ba dp ap x),ah q (ba dp ap y),Dk dp d',Ar ap cap pk (fK (fK bufs bn (b*2^j.eb) bb) bn2 (2^j.eb) bb2),ah v2 (.row [V bn] 331 1),ah v3 (.row [V bn2] 331 1),Kn kp j.eb,TT]
set_option maxHeartbeats 1000000 in
theorem vm (K:VK){d:D}{b:Nat}(hT:∀ H,TT H->T64 H)(hok:Ok d)(hx:On d x)(hy:On d y)(ho:d.rd<=2000000000000000000/\d.wr<=2000000000000000000)(hab:j.ea+j.eb<=32)(hb20:j.eb<=20)(htw:j.tw<=32)(hxw:x.w=2^j.ea*2^j.eb)(hyw:y.w=2^j.ea*2^j.eb)(hdis:x.f+x.s<=y.f\/y.f+y.s<=x.f)(hb1:1<=b)(hbd:2^j.ea=2^j.ea/b*b)
  (hcap:(D.ae d:Int)<=cap-aW (fK (fK bufs bn (b*2^j.eb) bb) bn2 (2^j.eb) bb2)) (hbm:∀ z∈bufs,z.1≠bn) (hbm2:∀ z∈fK bufs bn (b*2^j.eb) bb,z.1≠bn2)
  {P1:Int} (hP1:P1=mx aj (aW (fK (fK bufs bn (b*2^j.eb) bb) bn2 (2^j.eb) bb2)+D.ae d))
  (hK:∀ d' H,C7 d d' x y j b (2^j.ea/b)->Sep [ah p (ba dp ap x),ah q (ba dp ap y),Dk dp d',Ar ap cap P1 bufs,TT] H->K (.tuple #[Oi ((sum (form (gJ j d x (2^j.ea)))).toNat:Int),I 0]) H)
  (hK8:∀ d' H,gv (iy y) d d'->d.aH<=rP (D.ae d) x.f y.f (b*2^j.eb) (2^j.ea/b)+wP (D.ae d) y.f (b*2^j.eb) (2^j.ea/b)->Sep [ah p (ba dp ap x),ah q (ba dp ap y),Dk dp d',Ar ap cap P1 bufs,TT] H->K (.tuple #[Oi 0,I 8]) H):
  ∀(t m:Nat) (z:Int) (d':D) (pk:Int) (ws:List UInt64) (H:Hp),z=((m*b:Nat):Int)->m+t=2^j.ea/b->C7 d d' x y j b m->ws.length=b*2^j.eb->mx pk (aW (fK (fK bufs bn (b*2^j.eb) bb) bn2 (2^j.eb) bb2)+D.ae d)=P1->(m=0\/pk=P1)->Sep (zu rn p q dp ap bn bb bn2 bb2 sb v2 v3 kp d d' x y j b m cap pk bufs ws mb TT) H->
   cn.l17 K (t+1) (Oo p) (Oo q) (O sb) (b:Int) (Oo bn) (O rn) z (Oo ap) (Oo v3) 1 1 (Oo ap) (Oo v2) 1 1 H:=fun t=>by
 have hp:=Ok.dQ hok;have hsz:=size_le hab;have hr1:=pow_pos j.ea;have hc1:=pow_pos j.eb;have hnb:2^j.ea/b<=2^j.ea:=Nat.div_le_self _ _;have hn1:1<=2^j.ea/b:=by
  have:2^j.ea/b≠0:=fun h0=>by rw[h0,Nat.zero_mul]at hbd;omega
  exact Nat.pos_of_ne_zero this
 have hcc:2^j.ea/b*(b*2^j.eb)=2^j.ea*2^j.eb:=by rw[<- Nat.mul_assoc,<-hbd]
 have hbr:b*2^j.eb<=2^j.ea*2^j.eb:=by rw[<- hcc];exact Nat.le_mul_of_pos_left _ hn1
 have hbb:b<=2^j.ea:=by
  have:1*b<=2^j.ea/b*b:=Nat.mul_le_mul_right b hn1;omega
 have hbc1:1*2^j.eb<=b*2^j.eb:=Nat.mul_le_mul_right _ hb1;have hr32:=cL (show j.ea<=32 by omega);have sX:∀ m,m<=2^j.ea/b->m*(2*(b*2^j.eb))<=2*(2^j.ea*2^j.eb)/\m*(b*2^j.eb)<=2^j.ea*2^j.eb:=fun m hm=>by
  have:m*(b*2^j.eb)<=2^j.ea*2^j.eb:=by rw[<- hcc];exact Nat.mul_le_mul_right _ hm
  refine⟨?_,this⟩;rw[Nat.mul_left_comm];omega
 have gives:∀{d':D} {H:Hp} {K':Hp->Prop},Sep [Ar ap cap P1 (fK (fK bufs bn (b*2^j.eb) bb) bn2 (2^j.eb) bb2),ah v3 (.row [V bn2] 331 1),ah v2 (.row [V bn] 331 1),ah p (ba dp ap x),ah q (ba dp ap y),Dk dp d',TT] H->
   (∀ H,Sep [ah p (ba dp ap x),ah q (ba dp ap y),Dk dp d',Ar ap cap P1 bufs,TT] H->K' H)->
   dv prog 257 #[V ap,.slice (Oo v3) 1 1] H fun _ H=>dv prog 257 #[V ap,.slice (Oo v2) 1 1] H fun _ H=>K' H:=fun hs k=>by
  refine(gp v3 bn2 (2^j.eb) (Oo bb2) hbm2).use hs [0,1] rfl rfl ?_;rintro _ _ H ⟨rfl,rfl⟩ hs;refine(gp v2 bn (b*2^j.eb) (Oo bb) hbm).use hs [0,1] rfl rfl ?_;rintro _ _ H ⟨rfl,rfl⟩ hs;exact k H (hs.re [1,2,3,0,4] rfl)
 induction t with
 |zero=>
  rintro m _ d' pk ws H rfl hm hI hws hpk hip hs;have hme:m=2^j.ea/b:=by omega
  subst hme;unfold zu at hs;unfold cn.l17;rw[show((O sb).add 0).add 0=(O sb)from rfl];refine hs.ld 0 rfl rfl ?_;simp only[HV];rw[<- hbd];refine au (Int.lt_irrefl _) ?_;rw[Addr.add_zero];refine aa.use (CrcP.BX hs 1 rfl) ?_
  try simp only[HV]
  rw[<- hbd];rw[hip.resolve_left (by omega)]at hs;exact gives (hs.re [6,8,7,3,4,5,10] rfl) fun H hs=>hK d' H hI hs
 |succ t ih=>
  rintro m _ d' pk ws H rfl hm hI hws hpk hip hs;have hmlt:m<2^j.ea/b:=by omega
  have hmb:(m+1)*b<=2^j.ea:=by
   have h1:(m+1)*b<=2^j.ea/b*b:=Nat.mul_le_mul_right b hmlt;omega
  have hmb':=hmb;rw[Nat.succ_mul]at hmb';have hper:D.ae d'=D.ae d:=hI.pg.ae;have hxd:=hx.prog hI.pg;have hyd:=hy.prog hI.pg;have hrt:=DH (D.ae d) x.f y.f (b*2^j.eb) m;have hwt:=Eb (D.ae d) y.f (b*2^j.eb) m;have hcnt:=sX m (by omega);have hrd:=hI.pg.rd;have hwr:=hI.pg.wr;have hmr:(m*b+b)*2^j.eb<=2^j.ea*2^j.eb:=Nat.mul_le_mul_right _ hmb';have hmr':=hmr;rw[Nat.add_mul]at hmr;unfold zu at hs;unfold cn.l17;rw[show((O sb).add 0).add 0=(O sb)from rfl];refine hs.ld 0 rfl rfl ?_;simp only[HV];refine aA (by omega) ?_;refine aa.use (kF hs 6 rfl (b:=bn) (n:=b*2^j.eb) (A:=some (O bb)) (by simp[fK])) ?_
  try simp only[HV]
  refine(GW (rn:=rn) (p:=p) (q:=q) (dp:=dp) (ap:=ap) (kp:=kp) (bb:=bb) (mb:=mb) (s:=sum (form (gJ j d x (m*b)))) (sk:=8*(m*b*2^j.eb)) (j:=j) (x:=x) (y:=y) (cap:=cap) (aj:=pk) (bufs:=fK (fK bufs bn (b*2^j.eb) bb) bn2 (2^j.eb) bb2) (d:=d') (r:=m*b) (nb:=b) hT hI.pg.ok hI.pg.down hxd hyd (by omega) hb20 htw hb1 (by omega) (by omega) (by rw[hxw];exact hmr) (by rw[hyw];exact hmr) (by omega) (by omega) (by rw[hper];exact hcap) ws hws).use hs [1,2,3,4,5,6,9,10] rfl rfl ?_;rintro v M H hQ hs;unfold KD at hQ;rw[hper]at hQ;simp only at hQ;have hPP:mx P1 (aW (fK (fK bufs bn (b*2^j.eb) bb) bn2 (2^j.eb) bb2)+D.ae d)=P1:=by rw[hP1,wk]
  have hma:m*(b*2^j.eb)=m*b*2^j.eb:=(Nat.mul_assoc _ _ _).symm;have hrs:=xy (D.ae d) x.f y.f (b*2^j.eb) m;have hws':=xI (D.ae d) y.f (b*2^j.eb) m;rw[hma]at hrs hws';rcases hQ with⟨hpg2,rfl,rfl⟩|⟨d2,hdd,hfu,rfl,rfl⟩
  case inr=>
   simp only[HV];refine aU (by decide) ?_;rw[hpk]at hs;refine gives (hs.re [3,7,6,0,1,2,4] rfl) fun H hs=>hK8 d2 H (hI.pg.dead hdd) ?_ hs
   have z1:=hI.pg.aH;have z2:=hI.pg.go;have z3:=JL (D.ae d) x.f y.f (b*2^j.eb) (show m+1<=2^j.ea/b by omega);have z4:=J9 (D.ae d) y.f (b*2^j.eb) (show m+1<=2^j.ea/b by omega);omega
  simp only[HV];refine aF rfl ?_;generalize ht0:(dy (D.ae d) x.f (b*2^j.eb) (m*b*2^j.eb) (b*2^j.eb)).length=t0 at*;have hok1:Ok (D.bE d' t0):=Ok.bE hI.pg.ok t0;have hU:=FO (j:=j) (d:=d) (d':=d') (x:=x) (m*b) b hI.src (by rw[hxw];exact hmr');have hul:(lR j (m*b) (dE d' x (m*b*2^j.eb) (b*2^j.eb)) b).length=b*2^j.eb:=qb _ _ _ _;generalize hus:lR j (m*b) (dE d' x (m*b*2^j.eb) (b*2^j.eb)) b=us at*;have hpw:=fun k=>xK y hok1 (m*b*2^j.eb) us k
  rw[hul]at hpw;have hpg3:=hI.pg.trans hpg2;rw[<- hrs,<-hws']at hpg3;have htk:m*b+b=(m+1)*b:=(Nat.succ_mul m b).symm;rw[htk]at hU;have hUl:=tt j d x (m*b);have hI2:C7 d (j3 (D.bE d' t0) y (b*2^j.eb) (m*b*2^j.eb) us) x y j b (m+1):=by
   refine⟨hpg3,fun k hk=>hpg3.pw hok hx (fun i hi=>?_) hk,fun k hk=>?_⟩
   .unfold iy at hi;omega
   .rw[hpw k];have hk2:k<m*b*2^j.eb+b*2^j.eb:=by
     rw[<- htk,Nat.add_mul]at hk;exact hk
    rw[hU];by_cases h1:m*b*2^j.eb<=k
    .rw[if_pos ⟨h1,hk2⟩,List.getElem?_append_right (by omega),hUl]
    .rw[if_neg (by omega),List.getElem?_append_left (by omega)];exact hI.dst k (by omega)
  have hcs:more (sum (form (gJ j d x (m*b)))) (form us)=sum (form (gJ j d x ((m+1)*b))):=by
   rw[hU,q9];unfold sum;rw[rh]
  have hsk:8*(m*b*2^j.eb)+8*(b*2^j.eb)=8*((m+1)*b*2^j.eb):=by rw[<- htk,Nat.add_mul];omega
  rw[hcs,hsk,hpk]at hs;refine ih (m+1) _ _ P1 us H ?_ (by omega) hI2 hul hPP (.inr rfl) ?_
  .rw[<- Int.natCast_add,htk,dS]
  .exact hs.re [8,0,1,2,3,4,5,9,10,6,7] rfl
end
theorem Mo (p a b c:Int)(h1:a<=b)(h2:b<=c):mx (mx (mx p a) b) c=mx p c:=by
 have key:∀ p a b:Int,a<=b->mx (mx p a) b=mx p b:=fun p a b h=>by
  unfold mx;by_cases h1:a>p
  .rw[if_pos h1];by_cases h2:b>a
   .rw[if_pos h2,if_pos (by omega)]
   .rw[if_neg h2,if_pos (by omega)];omega
  .rw[if_neg h1]
 rw[key p a b h1,key p b c h2]
section
variable {p q dp ap : Nat} {x y : X} {cap aj : Int} {bufs : List (Nat × Nat × Option Addr)} {L : List As} {H : Hp} {TT : As} {j : J}
theorem Df (hab:j.ea+j.eb<=32)(htw: -1<=j.tw/\j.tw<=32)(hxw:x.w=2^j.ea*2^j.eb)(hyw:y.w=2^j.ea*2^j.eb):lV ((2^j.ea:Nat):Int) ((2^j.eb:Nat):Int) (if j.d=true then 1 else 0) j.tw x.w y.w=0:=by
 unfold lV;rw[if_pos ⟨qM hab,by rw[hxw,Int.natCast_mul],by rw[hyw,Int.natCast_mul]⟩,if_neg (by cases j.d<;>decide),if_neg (by omega)]
set_option maxHeartbeats 1000000 in
theorem zS {d:D}{jb:Nat}(hT:∀ H,TT H->T64 H)(hok:Ok d)(hl:d.down=false)(hx:On d x)(hy:On d y)(ho:d.rd<=2000000000000000000/\d.wr<=2000000000000000000)(hab:j.ea+j.eb<=32)(hb20:j.eb<=20)(htw: -1<=j.tw/\j.tw<=32)(hxw:x.w=2^j.ea*2^j.eb)(hyw:y.w=2^j.ea*2^j.eb)(hdis:x.f+x.s<=y.f\/y.f+y.s<=x.f)
  (hper:gL (D.ae d:Int)=true) (hcap:cap<=1000000000000) (hsum:0<=aW bufs) (hfr:(D.ae d:Int)+2*(2^j.eb:Nat)<=cap-aW bufs) (hj:jC j.ea ((cap-aW bufs-D.ae d).toNat/2^j.eb) jb):
  Tr prog 240 #[V p,V q,.agg j.a,V ap,I (D.ae d:Int)]
   [ah p (ba dp ap x),ah q (ba dp ap y),Dk dp d,Ar ap cap aj bufs,TT] fun v M=>∃ M0,zv p q dp ap d x y j (2^jb) cap aj bufs v M0/\M=M0++[TT]:=fun H hs=>by
 have hp:=Ok.dQ hok;have hsz:=size_le hab;have hr1:=pow_pos j.ea;have hc1:=pow_pos j.eb;have hc20:=cL hb20;have hb1:=pow_pos jb;have hjb:=hj.le;have hfit:=hj.fit;have hbsz:2^jb*2^j.eb<=2^j.ea*2^j.eb:=Nat.mul_le_mul_right _ (cL hjb);have hbc:1*2^j.eb<=2^jb*2^j.eb:=Nat.mul_le_mul_right _ hb1;have hroom:2^jb*2^j.eb+2^j.eb<=(cap-aW bufs-D.ae d).toNat:=by
  rw[Nat.le_div_iff_mul_le (by omega),Nat.add_mul,Nat.one_mul]at hfit;exact hfit
 have hroom':((2^jb*2^j.eb:Nat):Int)+((2^j.eb:Nat):Int)<=cap-aW bufs-D.ae d:=by omega
 apply cn.ok;unfold cn cn.q1;refine hs.nw fun sb H hs=>?_
 have hs:Sep [ah p (ba dp ap x),ah q (ba dp ap y),Dk dp d,Ar ap cap aj bufs,TT,ah sb (Oa j.a 219)] H:=hs;refine hs.bJ 5 rfl rfl ?_;refine aa.use (tV (ap':=ap) hs 0 rfl 1 rfl (oV hT hs 4 rfl) _ _ _ _ _) ?_;rw[Df hab htw hxw hyw];simp only[HV];refine aF rfl ?_;simp only[Addr.add_zero];refine hs.nH 5 rfl (show 0+2<=5 by omega) ?_;refine bD.use (E3 hs 3 rfl) ?_;simp only[HV];refine bD.use (Gw (ea:=j.ea) (eb:=j.eb) (D.ae d) (cap-aW bufs) ⟨by omega,by omega⟩ (by omega) H (oV hT hs 4 rfl) hab ⟨qM hab,by omega,hper,by omega,by omega⟩ hj) ?_;simp only[HV];refine hs.cg 5 rfl rfl ?_;simp only[HV];rw[<- Int.natCast_mul,dS];refine(lj (a:=ap) (cap:=cap) (aj:=aj) (bufs:=bufs) (n:=2^jb*2^j.eb)).use hs [3] rfl rfl ?_;rintro _ _ H ⟨bn,bb,rfl,rfl⟩ hs;simp only[HV];refine aF rfl ?_;have fresh:∀{L:List As} {H:Hp} {bufs:List (Nat×Nat×OA)} {pk:Int} (b n rb:Nat),Sep L H->L[0]? =some (Ar ap cap pk (bufs++[(b,n,some (O rb))]))->∀ z∈bufs,z.1≠b:=fun{L H bufs pk} b n rb hs h0 z hz e=>by
  obtain⟨mp,cl,tk,hA⟩:=Sep.ar hs 0 h0;have:=hA.bn;rw[List.map_append,List.nodup_append]at this;exact this.2.2 z.1 (List.mem_map_of_mem hz) b (by simp) e
 have hbm:∀ z∈bufs,z.1≠bn:=fresh bn _ bb hs rfl;refine hs.nw fun v2 H hs=>?_
 refine hs.cg 6 rfl rfl ?_;simp only[HV];have hsb1:aW (bufs++[(bn,2^jb*2^j.eb,some (O bb))])=aW bufs+((2^jb*2^j.eb:Nat):Int):=by
  rw[lZ];simp[aW]
 refine(lj (a:=ap) (cap:=cap) (bufs:=bufs++[(bn,2^jb*2^j.eb,some (O bb))]) (n:=2^j.eb)).use hs [0] rfl rfl ?_;rintro _ _ H ⟨bn2,bb2,rfl,rfl⟩ hs;simp only[HV];refine aF rfl ?_;have hbm2:∀ z∈fK bufs bn (2^jb*2^j.eb) bb,z.1≠bn2:=fresh bn2 _ bb2 hs rfl;refine hs.nw fun v3 H hs=>?_
 have hsb2:aW (fK (fK bufs bn (2^jb*2^j.eb) bb) bn2 (2^j.eb) bb2)=aW bufs+((2^jb*2^j.eb:Nat):Int)+((2^j.eb:Nat):Int):=by
  unfold fK;rw[lZ,hsb1];simp[aW]
  -- what is known from here on
 have hpk:mx (mx (mx aj (aW bufs+((2^jb*2^j.eb:Nat):Int))) (aW bufs+((2^jb*2^j.eb:Nat):Int)+((2^j.eb:Nat):Int))) (aW (fK (fK bufs bn (2^jb*2^j.eb) bb) bn2 (2^j.eb) bb2)+D.ae d)=mx aj (aW bufs+((2^jb*2^j.eb:Nat):Int)+((2^j.eb:Nat):Int)+D.ae d):=by
  rw[hsb2];exact Mo _ _ _ _ (by omega) (by omega)
 rw[hsb1]at hs;have hs:Sep [Ar ap cap (mx (mx aj (aW bufs+((2^jb*2^j.eb:Nat):Int))) (aW bufs+((2^jb*2^j.eb:Nat):Int)+((2^j.eb:Nat):Int))) (fK (fK bufs bn (2^jb*2^j.eb) bb) bn2 (2^j.eb) bb2),ah bb2 (.row (dX (2^j.eb)) 108 (2^j.eb)),ah bb (.row (dX (2^jb*2^j.eb)) 108 (2^jb*2^j.eb)),
  ah p (ba dp ap x),ah q (ba dp ap y),Dk dp d,TT,ah sb (Oa j.a 219),ah v2 (.row [V bn] 331 1),ah v3 (.row [V bn2] 331 1)] H:=hs
 have hz:dX (2^jb*2^j.eb)=af (List.replicate (2^jb*2^j.eb) 0):=by
  unfold dX;rw[eR];unfold af;rw[List.map_replicate];rfl
 rw[hz]at hs;have fin:∀(kp:Nat) (H:Hp),Sep [Kn kp j.eb,Ar ap cap (mx (mx aj (aW bufs+((2^jb*2^j.eb:Nat):Int))) (aW bufs+((2^jb*2^j.eb:Nat):Int)+((2^j.eb:Nat):Int))) (fK (fK bufs bn (2^jb*2^j.eb) bb) bn2 (2^j.eb) bb2),ah bb2 (.row (dX (2^j.eb)) 108 (2^j.eb)),ah bb (.row (af (List.replicate (2^jb*2^j.eb) 0)) 108 (2^jb*2^j.eb)),
   ah p (ba dp ap x),ah q (ba dp ap y),Dk dp d,TT,ah sb (Oa j.a 219),ah v2 (.row [V bn] 331 1),ah v3 (.row [V bn2] 331 1)] H->
   Nw H (Oa #[Oi 0,I 0,I ((2^j.ea:Nat):Int),I ((2^j.eb:Nat):Int),I (if j.d=true then 1 else 0),I j.tw,U (j.sh.toNat:Int),V kp] 415) fun b4 H9=>
    cn.j16 (fun v H'=>∃ M,(∃ M0,zv p q dp ap d x y j (2^jb) cap aj bufs v M0/\M=M0++[TT])/\Sep M H') (Oo p) (Oo q) (O sb) ((2^jb:Nat):Int) (Oo bn) (O b4) (Oo ap) (Oo v3) 1 1 (Oo ap) (Oo v2) 1 1 H9:=fun kp H hs=>by
  refine hs.nw fun rn H hs=>?_
  unfold cn.j16;refine⟨2^j.ea/2^jb+1,?_⟩;have out:∀{v:Value} {d':D} {H:Hp},(∀{M},M=[ah p (ba dp ap x),ah q (ba dp ap y),Dk dp d',Ar ap cap (mx aj (aW bufs+((2^jb*2^j.eb:Nat):Int)+((2^j.eb:Nat):Int)+D.ae d)) bufs]->zv p q dp ap d x y j (2^jb) cap aj bufs v M)->
    Sep [ah p (ba dp ap x),ah q (ba dp ap y),Dk dp d',Ar ap cap (mx aj (aW bufs+((2^jb*2^j.eb:Nat):Int)+((2^j.eb:Nat):Int)+D.ae d)) bufs,TT] H->∃ M,(∃ M0,zv p q dp ap d x y j (2^jb) cap aj bufs v M0/\M=M0++[TT])/\Sep M H:=fun h hs=>⟨_,⟨_,h rfl,rfl⟩,hs⟩
  refine vm (p:=p) (q:=q) (dp:=dp) (ap:=ap) (rn:=rn) (bn:=bn) (bb:=bb) (bn2:=bn2) (bb2:=bb2) (sb:=sb) (v2:=v2) (v3:=v3) (kp:=kp) (x:=x) (y:=y) (cap:=cap) (bufs:=bufs) (TT:=TT) (j:=j) (mb:=2^jb*2^j.eb) (aj:=mx (mx aj (aW bufs+((2^jb*2^j.eb:Nat):Int))) (aW bufs+((2^jb*2^j.eb:Nat):Int)+((2^j.eb:Nat):Int))) _ hT hok hx hy ho hab hb20 htw.2 hxw hyw hdis hb1 (div_pow hjb) (by rw[hsb2];omega) hbm hbm2 hpk.symm
   (fun d' H hI hs=>out (fun e=>.inl ⟨d',hI,rfl,e⟩) hs) (fun d' H hd hfu hs=>out (fun e=>.inr ⟨d',hd,hfu,rfl,e⟩) hs) (2^j.ea/2^jb) 0 0 d _ (List.replicate (2^jb*2^j.eb) 0) H (by rw[Nat.zero_mul];rfl) (by omega)
   ⟨by simpa [rP,wP]using Prog.refl (iy y) hok hl,fun _ _=>rfl,fun k hk=>by simp at hk⟩ (by simp) hpk (.inl rfl) ?_
  have hs:=hs.re [8,11,3,4,5,6,1,9,10,0,7] rfl;unfold zu;simp only[Nat.zero_mul,Nat.mul_zero];have e0:sum (form (gJ j d x 0))=0#32:=by
   show sum (form [])=0#32
   decide
  rw[e0];exact hs
 have tz:∀ H,T64 H->aa prog 306 #[U (u64.wrap ((2^j.eb:Nat):Int))] H (RetE (I (j.eb:Int)) H):=fun H hT=>by
  rw[fC];exact Kw j.eb (by omega) H hT
 refine⟨?_,?_⟩
 .refine hs.bJ 7 rfl rfl ?_;refine hs.cg 7 rfl rfl ?_;simp only[HV];refine aa.use (tz H (oV hT hs 6 rfl)) ?_;simp only[HV];refine(iU j.eb hb20).use hs [] rfl rfl ?_;rintro _ _ H ⟨kp,rfl,rfl⟩ hs;simp only[HV];exact fin kp H hs
 refine hs.cg 7 rfl rfl ?_;simp only[HV];refine⟨?_,?_,?_⟩
 .refine hs.bJ 7 rfl rfl ?_;refine aa.use (tz H (oV hT hs 6 rfl)) ?_;simp only[HV];refine(iU j.eb hb20).use hs [] rfl rfl ?_;rintro _ _ H ⟨kp,rfl,rfl⟩ hs;simp only[HV];exact fin kp H hs
 .refine hs.bJ 7 rfl rfl ?_;refine aa.use (tz H (oV hT hs 6 rfl)) ?_;simp only[HV];refine(iU j.eb hb20).use hs [] rfl rfl ?_;rintro _ _ H ⟨kp,rfl,rfl⟩ hs;simp only[HV];exact fin kp H hs
 refine aa.use (tz H (oV hT hs 6 rfl)) ?_;simp only[HV];refine⟨?_,?_⟩
 .refine hs.bJ 7 rfl rfl ?_;refine(iU j.eb hb20).use hs [] rfl rfl ?_;rintro _ _ H ⟨kp,rfl,rfl⟩ hs;simp only[HV];exact fin kp H hs
 .refine(iU j.eb hb20).use hs [] rfl rfl ?_;rintro _ _ H ⟨kp,rfl,rfl⟩ hs;simp only[HV];refine hs.bJ 8 rfl rfl ?_;exact fin kp H hs
end
end Pas
namespace Str
open Go Go.Hw Go.Form W Dsk Are
end Str
namespace Trn
open Go Go.Hw Go.Crc Go.Form W Shp Str Dsk Are
structure vD (d:D)(k n:Nat):Prop where
 ok:Ok d
 down:d.down=false
 aH:d.aH=0
 sX:d.rd<=100000000/\d.wr<=100000000
 sec:d.sec=2*k+1
 size:d.size=32
theorem vD.ae {d:D}{k n:Nat}(h:vD d k n):D.ae d=4:=by unfold D.ae;rw[h.size]
theorem vD.prog {S:Int->Prop}{d d':D}{k n r w:Nat}(h:vD d k n)(hp:Prog S d d' r w)(hc:d'.rd<=100000000/\d'.wr<=100000000):vD d' k n:=
 ⟨hp.ok,hp.down,by rw[hp.aH,h.aH];omega,hc,by rw[hp.sec,h.sec],by rw[hp.size,h.size]⟩
section
variable {A : Option Addr} {n m : Nat} {R : As}
end
theorem Cy {d:D}{x:X}{n:Nat}{f:Nat->UInt64}(h:∀ j,j<n->pw d x j=f j):dE d x 0 n=(List.range n).map f:=by
 unfold dE;apply List.map_congr_left;intro j hj;rw[Nat.zero_add];exact h j (List.mem_range.1 hj)
theorem FK (l:List UInt64):(List.range l.length).map (fun j=>(l[j]?).getD 0)=l:=by
 apply List.ext_getElem?;intro j;rw[List.getElem?_map];by_cases hj:j<l.length
 .rw[List.getElem?_range hj,Option.map_some,List.getElem?_eq_getElem hj];rfl
 .rw[List.getElem?_eq_none (by simp;omega),List.getElem?_eq_none (by omega)];rfl
section
variable {p q dp ap : Nat} {x y : X} {cap aj : Int} {TT : As}
end
section
variable {p q dp ap : Nat} {x y : X} {cap aj : Int} {bufs : List (Nat × Nat × Option Addr)} {L : List As} {H : Hp}
end
def jB (l:List UInt64)(rows cols:Nat):List UInt64:=(List.range (rows*cols)).map fun k=>(l[k%rows*cols+k/rows]?).getD 0
theorem xF (l:List UInt64)(rows cols:Nat):(jB l rows cols).length=rows*cols:=by simp[jB]
def m1 (q:Nat):Nat:=if 1<q then q else 1
end Trn
namespace Pas
open Go Go.Hw Go.Crc Go.Form W Shp Gol Fft Ker Str Dsk Are Trn
section
variable {p q dp ap : Nat} {x y : X} {cap aj : Int} {TT : As} {j : J}
end
end Pas
namespace W
open Go Go.Hw
end W
namespace Pas
open Go Go.Hw Go.Crc Go.Form W Shp Gol Fft Ker Str Dsk Are Trn
theorem u5 (d:Bool)(k:Nat)(l:List UInt64){i:Nat}(h:i<2^k):(kI d k l)[i]? =some (uw (eJ (bU d k) (2^k) (bG l) i)):=by
 unfold kI;rw[List.getElem?_map,List.getElem?_range h];rfl
theorem vo (z:Zp){l:List UInt64}{i:Nat}{w:UInt64}(h:l[i]? =some w):(k8 z l)[i]? =some (uw (zw w*z)):=by
 unfold k8;rw[List.getElem?_map,h];rfl
theorem xh {l:List UInt64}{i:Nat}{w:UInt64}(h:l[i]? =some w):bG l i=zw w:=by
 unfold bG;rw[List.getD_eq_getElem?_getD,h];rfl
section
variable {R : As} {A : Option Addr} {n m : Nat} {l : List UInt64}
end
theorem FP {j:J}{d:D}{x:X}{m:Nat}{l:List UInt64}(h:dE d x 0 (m*2^j.eb)=l):
  gJ j d x m=(List.range m).flatMap fun q=>jX j q ((l.drop (q*2^j.eb)).take (2^j.eb)):=by
 unfold gJ;have:∀(r:List Nat),(∀ q,q∈r->q<m)->r.flatMap (fun q=>jX j q (dE d x (q*2^j.eb) (2^j.eb)))=r.flatMap fun q=>jX j q ((l.drop (q*2^j.eb)).take (2^j.eb)):=fun r=>by
  induction r with
  |nil=>intro _;rfl
  |cons q r ih=>
   intro hq;have hqb:=hq q (by simp);have h1:(q+1)*2^j.eb<=m*2^j.eb:=Nat.mul_le_mul_right _ (by omega);rw[Nat.succ_mul]at h1;rw[List.flatMap_cons,List.flatMap_cons,ih fun q' h'=>hq q' (by simp[h']),<-h,Ba h1,Nat.zero_add]
 exact this _ fun q hq=>List.mem_range.1 hq
theorem yg {f:Nat->List UInt64}{c:Nat}(hf:∀ q,(f q).length=c):∀(m q:Nat),q<m->(((List.range m).flatMap f).drop (q*c)).take c=f q
 |0,q,h=>by omega
 |m+1,q,h=>by
  have hl:∀ m,((List.range m).flatMap f).length=m*c:=fun m=>by
   induction m with
   |zero=>simp
   |succ m ih=>rw[List.range_succ,List.flatMap_append,List.length_append,ih,Nat.succ_mul];simp[hf]
  rw[List.range_succ,List.flatMap_append];have hs:List.flatMap f [m]=f m:=by simp
  rw[hs];by_cases e:q=m
  .subst e;rw[List.drop_append,List.drop_eq_nil_of_le (by rw[hl];exact Nat.le_refl _),hl,Nat.sub_self,List.drop_zero,List.nil_append,List.take_of_length_le (by rw[hf];exact Nat.le_refl _)]
  .have h1:(q+1)*c<=m*c:=Nat.mul_le_mul_right _ (by omega);rw[Nat.succ_mul]at h1;rw[List.drop_append_of_le_length (by rw[hl];omega),List.take_append_of_le_length (by rw[List.length_drop,hl];omega)];exact yg hf m q (by omega)
section
variable {R : As} {A : Option Addr} {n m k : Nat} {l : List UInt64} {L : List As}
end
def wQ (j:J)(q:Nat)(l:List UInt64)(c:Nat):Zp:=eJ (bU j.d j.eb) (2^j.eb) (bG l) c*zw j.sh*(if 0<=j.tw then Fft.pw (bU j.d j.tw.toNat) (q*c)else 1)
theorem FN (j:J)(q:Nat)(l:List UInt64):jX j q l=(List.range (2^j.eb)).map fun c=>uw (wQ j q l c):=by
 apply List.ext_getElem?;intro c;rw[List.getElem?_map];by_cases hc:c<2^j.eb
 .rw[List.getElem?_range hc];have h1:=u5 j.d j.eb l hc;have h2:(yS j q (kI j.d j.eb l))[c]? =some (uw (eJ (bU j.d j.eb) (2^j.eb) (bG l) c*(if 0<=j.tw then Fft.pw (bU j.d j.tw.toNat) (q*c)else 1))):=by
   unfold yS;by_cases ht:0<=j.tw
   .rw[if_pos ht,if_pos ht];unfold uk mE;rw[List.getElem?_map,sa,List.getElem?_range hc];show some (uw (bG (kI j.d j.eb l) c*Fft.pw (Fft.pw (bU j.d j.tw.toNat) q) c))=some _
    rw[xh h1,lL,<-dm]
   .rw[if_neg ht,if_neg ht,h1];congr 2;grind
  unfold jX;rw[vo _ h2,lL];show some _=some _
  congr 2;unfold wQ;grind
 .rw[List.getElem?_eq_none (by rw[qn];omega),List.getElem?_eq_none (by simp;omega)];rfl
section
variable {R : As} {A : Option Addr} {n m b1 : Nat} {l : List UInt64} {j : J}
def iN (j:J)(l:List UInt64)(m:Nat):List UInt64:=(List.range m).flatMap fun q=>jX j q ((l.drop (q*2^j.eb)).take (2^j.eb))
end
end Pas
namespace Pln
open Go Go.Hw Shp Fft Ker Pas Str Dsk Trn
def jB (r c:Nat)(l:List UInt64):List UInt64:=(List.range (r*c)).map fun k=>l.getD (k%r*c+k/r) 0
theorem xF (r c:Nat)(l:List UInt64):(jB r c l).length=r*c:=by simp[jB]
theorem CP {r c:Nat}(l:List UInt64){i j:Nat}(hi:i<r)(hj:j<c):(jB r c l).getD (j*r+i) 0=l.getD (i*c+j) 0:=by
 have h1:j*r+i<r*c:=by
  have:(j+1)*r<=c*r:=Nat.mul_le_mul_right _ hj;rw[Nat.succ_mul]at this;rw[Nat.mul_comm r c];omega
 have h2:(j*r+i)%r=i:=by rw[Nat.add_comm,Nat.add_mul_mod_self_right,Nat.mod_eq_of_lt hi]
 have h3:(j*r+i)/r=j:=by rw[Nat.add_comm,Nat.add_mul_div_right _ _ (by omega),Nat.div_eq_of_lt hi,Nat.zero_add]
 unfold jB;rw[List.getD_eq_getElem?_getD,List.getElem?_map,List.getElem?_range h1];show l.getD _ 0=_
 rw[h2,h3]
theorem F9 {r c:Nat}(l:List UInt64){i j:Nat}(hi:i<r)(hj:j<c):bG (jB r c l) (j*r+i)=bG l (i*c+j):=by
 unfold bG;rw[CP l hi hj]
theorem J1 (d:D)(x:X)(r c:Nat):qx d x r c=jB r c (dE d x 0 (r*c)):=by
 unfold qx jB;apply List.map_congr_left;intro k hk;have hk:=List.mem_range.1 hk;have hr:0<r:=by
  rcases Nat.eq_zero_or_pos r with h|h
  .rw[h,Nat.zero_mul]at hk;omega
  .exact h
 have h1:k%r<r:=Nat.mod_lt _ hr;have h2:k/r<c:=Nat.div_lt_of_lt_mul hk;have h3:k%r*c+k/r<r*c:=by
  have:(k%r+1)*c<=r*c:=Nat.mul_le_mul_right _ h1;rw[Nat.succ_mul]at this;omega
 unfold IV;rw[List.getD_eq_getElem?_getD,ub h3,Nat.zero_add];rfl
theorem Ed (j:J)(d:D)(x:X)(m:Nat):gJ j d x m=iN j (dE d x 0 (m*2^j.eb)) m:=FP rfl
theorem yT (j:J)(l:List UInt64){m q c:Nat}(hq:q<m)(hc:c<2^j.eb):(iN j l m)[q*2^j.eb+c]? =some (uw (wQ j q ((l.drop (q*2^j.eb)).take (2^j.eb)) c)):=by
 have h:=yg (f:=fun q=>jX j q ((l.drop (q*2^j.eb)).take (2^j.eb))) (c:=2^j.eb) (fun q=>qn j q _) m q hq;have e:(iN j l m)[q*2^j.eb+c]? =(((iN j l m).drop (q*2^j.eb)).take (2^j.eb))[c]? :=by
  rw[List.getElem?_take_of_lt hc,List.getElem?_drop]
 rw[e];show((((List.range m).flatMap fun q=>jX j q ((l.drop (q*2^j.eb)).take (2^j.eb))).drop (q*2^j.eb)).take (2^j.eb))[c]? =_
 rw[h,FN,List.getElem?_map,List.getElem?_range hc];rfl
def wz (j:J)(q:Nat)(f:Nat->Zp)(c:Nat):Zp:=eJ (bU j.d j.eb) (2^j.eb) (fun i=>f (q*2^j.eb+i)) c*zw j.sh*(if 0<=j.tw then Fft.pw (bU j.d j.tw.toNat) (q*c)else 1)
theorem Bz (j:J)(l:List UInt64)(q c:Nat):wQ j q ((l.drop (q*2^j.eb)).take (2^j.eb)) c=wz j q (bG l) c:=by
 unfold wQ wz;congr 2;refine o5 (fun i hi=>?_) c;unfold bG;rw[List.getD_eq_getElem?_getD,List.getElem?_take_of_lt hi,List.getElem?_drop,<-List.getD_eq_getElem?_getD]
theorem HX (j:J)(l:List UInt64){m q c:Nat}(hq:q<m)(hc:c<2^j.eb):bG (iN j l m) (q*2^j.eb+c)=wz j q (bG l) c:=by
 rw[xh (yT j l hq hc),lL,Bz]
theorem HY (j:J)(l:List UInt64){m q c:Nat}(hq:q<m)(hc:c<2^j.eb):(iN j l m).getD (q*2^j.eb+c) 0=uw (wz j q (bG l) c):=by
 rw[List.getD_eq_getElem?_getD,yT j l hq hc,Bz];rfl
structure Pz where
 t:Bool
 j:J
 f:Nat
 o:Nat
def Pz.c (p:Pz):Array Value:=p.j.a++ #[I (if p.t=true then 1 else 2),I (p.f:Int),I (p.o:Int)]
def Pz.ap (p:Pz)(l:List UInt64):List UInt64:=if p.t=true then jB (2^p.j.ea) (2^p.j.eb) l else iN p.j l (2^p.j.ea)
def mK (d:Bool)(k:Nat):UInt64:=if d=true then uw (Fft.pw half k)else 1
def Bn (d:Bool)(k:Nat):Pz:=⟨false,⟨0,k,d,-1,mK d k⟩,0,3⟩
def nI (d:Bool)(k:Nat):List Pz:=
 [⟨true,⟨k/2,k-k/2,false,-1,1⟩,0,1⟩,⟨false,⟨k-k/2,k/2,d,(k:Int),1⟩,1,2⟩,⟨true,⟨k-k/2,k/2,false,-1,1⟩,2,1⟩,
  ⟨false,⟨k/2,k-k/2,d,-1,mK d k⟩,1,2⟩,⟨true,⟨k/2,k-k/2,false,-1,1⟩,2,3⟩]
def Bm (k ae words:Nat):Bool:=decide (k<=20/\2*2^k+ae<=words)
def eC (d:Bool)(k ae words:Nat):List Pz:=if Bm k ae words=true then [Bn d k]else nI d k
def ec (k ae:Nat):Nat:=2*2^((k+1)/2)+ae
def oZ (ps:List Pz)(l:List UInt64):List UInt64:=ps.foldl (fun l p=>p.ap l) l
theorem Jf (a b:List Pz)(l:List UInt64):oZ (a++b) l=oZ b (oZ a l):=List.foldl_append
def gZ (d:Bool)(k:Nat)(l:List UInt64):List UInt64:=k8 (zw (mK d k)) (kI d k l)
theorem uj (d:Bool)(k:Nat)(l:List UInt64):(gZ d k l).length=2^k:=by unfold gZ;rw[qp,sa]
theorem HE (d:Bool)(k:Nat)(l:List UInt64)(hl:l.length=2^k):(Bn d k).ap l=gZ d k l:=by
 show iN ⟨0,k,d,-1,mK d k⟩ l 1=_
 unfold iN;rw[show List.range 1=[0]from rfl,List.flatMap_cons,List.flatMap_nil,List.append_nil,Nat.zero_mul,List.drop_zero];show jX _ 0 (l.take (2^k))=_
 rw[List.take_of_length_le (by omega)];rfl
theorem Jz (d:Bool)(k:Nat)(hk:k<=32)(l:List UInt64):oZ (nI d k) l=gZ d k l:=by
 obtain⟨a,ha⟩:∃ a,k/2=a:=⟨_,rfl⟩;obtain⟨b,hb⟩:∃ b,k-a=b:=⟨_,rfl⟩;have hab:a+b=k:=by omega
 have hka:k-b=a:=by omega
 have hkb:k-a=b:=by omega
 have hRC:2^a*2^b=2^k:=by rw[<- Nat.pow_add,hab]
 have hpos:0<2^a:=Nat.two_pow_pos a;unfold nI oZ;simp only[List.foldl_cons,List.foldl_nil,ha,hb];show jB (2^a) (2^b) (iN ⟨a,b,d,-1,mK d k⟩ (jB (2^b) (2^a) (iN ⟨b,a,d,(k:Int),1⟩ (jB (2^a) (2^b) l) (2^b))) (2^a))=_
 apply List.ext_getElem?;intro i;by_cases hi:i<2^k
 .have hj:i%2^a<2^a:=Nat.mod_lt _ hpos;have hm:i/2^a<2^b:=Nat.div_lt_of_lt_mul (by rw[hRC];exact hi);have hij:i/2^a*2^a+i%2^a=i:=by rw[Nat.mul_comm];exact Nat.div_add_mod i (2^a)
  generalize hjj:i%2^a=j at hj hij;generalize hmm:i/2^a=m at hm hij;subst hij;have e1:=CP (r:=2^a) (c:=2^b) (iN ⟨a,b,d,-1,mK d k⟩ (jB (2^b) (2^a) (iN ⟨b,a,d,(k:Int),1⟩ (jB (2^a) (2^b) l) (2^b))) (2^a)) hj hm;have e2:=HY ⟨a,b,d,-1,mK d k⟩ (jB (2^b) (2^a) (iN ⟨b,a,d,(k:Int),1⟩ (jB (2^a) (2^b) l) (2^b))) (m:=2^a) hj (c:=m) hm;have hlen:m*2^a+j<(jB (2^a) (2^b) (iN ⟨a,b,d,-1,mK d k⟩ (jB (2^b) (2^a) (iN ⟨b,a,d,(k:Int),1⟩ (jB (2^a) (2^b) l) (2^b))) (2^a))).length:=by rw[xF,hRC];exact hi
  rw[List.getElem?_eq_getElem hlen];rw[List.getD_eq_getElem?_getD,List.getElem?_eq_getElem hlen]at e1;simp only[Option.getD_some]at e1;rw[e1,e2];have e3:gZ d k l=k8 (zw (mK d k)) (kI d k l):=rfl;rw[e3,vo _ (u5 d k l hi),lL];congr 2;have hw:Fft.pw (bU d k) (2^a*2^b)=1:=by rw[hRC];exact xC d hk
  have hrows:=G3 hw (bG l) m j;rw[hRC]at hrows;rw[hrows];have hwa:Fft.pw (bU d k) (2^a)=bU d b:=by have:=CD d hk (show b<=k by omega);rwa [hka]at this
  have hwb:Fft.pw (bU d k) (2^b)=bU d a:=by have:=CD d hk (show a<=k by omega);rwa [hkb]at this
  rw[hwa,hwb];unfold wz;rw[if_neg (show ¬((0:Int)<=-1) by omega)];have key:eJ (bU d b) (2^b) (fun i=>bG (jB (2^b) (2^a) (iN ⟨b,a,d,(k:Int),1⟩ (jB (2^a) (2^b) l) (2^b))) (j*2^b+i)) m=eJ (bU d b) (2^b) (fun c=>eJ (bU d a) (2^a) (fun r=>bG l (r*2^b+c)) j*Fft.pw (bU d k) (c*j)) m:=by
   refine o5 (fun c hc=>?_) m;rw[F9 _ hc hj];have h2:=HX ⟨b,a,d,(k:Int),1⟩ (jB (2^a) (2^b) l) (m:=2^b) hc (c:=j) hj;refine h2.trans ?_;unfold wz;rw[if_pos (Int.natCast_nonneg k)];have e1:zw 1=1:=by decide
   have h3:eJ (bU d a) (2^a) (fun i=>bG (jB (2^a) (2^b) l) (c*2^a+i)) j=eJ (bU d a) (2^a) (fun r=>bG l (r*2^b+c)) j:=
    o5 (fun r hr=>F9 l hr hc) j
   show eJ (bU d a) (2^a) (fun i=>bG (jB (2^a) (2^b) l) (c*2^a+i)) j*zw 1*Fft.pw (bU d ((k:Int).toNat)) (c*j)=_
   rw[h3,e1,Int.toNat_natCast];grind
  show eJ (bU d b) (2^b) (fun i=>bG (jB (2^b) (2^a) (iN ⟨b,a,d,(k:Int),1⟩ (jB (2^a) (2^b) l) (2^b))) (j*2^b+i)) m*zw (mK d k)*1=_
  rw[key];grind
 .rw[List.getElem?_eq_none (by rw[xF,hRC];omega),List.getElem?_eq_none (by rw[uj];omega)]
theorem Cu (d:Bool)(k ae words:Nat)(hk:k<=32)(l:List UInt64)(hl:l.length=2^k):oZ (eC d k ae words) l=gZ d k l:=by
 unfold eC;split
 .exact HE d k l hl
 .exact Jz d k hk l
end Pln
namespace Prf
open Go Go.Hw Shp Gol Fft Ker Pas Pln
section
variable {k : Nat} (hk : k <= 20) (b : Bool)
theorem xA (hk:k<=20)(d:Bool):k=0\/pw (bU d k) (2^(k-1))=-1:=by
 by_cases h:k=0
 .exact .inl h
 .exact .inr (xB d)
def shr (b:Bool)(k:Nat):Zp:=if b=true then pw half k else 1
theorem Iz (l:List UInt64){i:Nat}(hi:i<2^k):bG (gZ b k l) i=eJ (bU b k) (2^k) (bG l) i*shr b k:=by
 unfold gZ;rw[xh (vo _ (u5 b k l hi)),lL,lL];unfold mK shr;cases b with
 |true=>rw[if_pos rfl,if_pos rfl,lL]
 |false=>rw[if_neg (by decide),if_neg (by decide)];rfl
theorem KK (v c:Zp)(n:Nat)(f:Nat->Zp)(m:Nat):eJ v n (fun i=>f i*c) m=c*eJ v n f m:=by
 unfold eJ;rw[<- j1];exact dO _ fun i _=>by grind
theorem back (hk:k<=20)(l:List UInt64){m:Nat}(hm:m<2^k):eJ (bU (!b) k) (2^k) (bG (gZ b k l)) m=shr b k*nn (2^k)*bG l m:=by
 rw[o5 (fun i hi=>Iz b l hi),KK,Af (xA hk b) (xA hk (!b)) (ud b) (bG l) hm];grind
theorem Ge (hk:k<=20)(l:List UInt64)(hl:l.length=2^k)(z:Zp):sB b k (bG (gZ b k l)) z=qg z l:=by
 have e:nW (bU (!b) k) k (bG (gZ b k l)) z=shr b k*qg z l:=by
  unfold nW;rw[E9,hl];have:sm (fun m=>eJ (bU (!b) k) (2^k) (bG (gZ b k l)) m*pw z m) (2^k)=(shr b k*nn (2^k))*sm (fun i=>bG l i*pw z i) (2^k):=by
   rw[<- j1];exact dO _ fun m hm=>by rw[back b hk l hm];grind
  rw[this];have h:=pP k;have h2:pw half k*(shr b k*nn (2^k)*sm (fun i=>bG l i*pw z i) (2^k))=pw half k*nn (2^k)*(shr b k*sm (fun i=>bG l i*pw z i) (2^k)):=by grind
  rw[h2,h];grind
 unfold sB;rw[e];cases b with
 |true=>
  have h:=pP k;have h2:shr true k=pw half k:=rfl;rw[if_pos rfl,h2];have h3:pw half k*qg z l*nn (2^k)=pw half k*nn (2^k)*qg z l:=by grind
  rw[h3,h];grind
 |false=>
  have h2:shr false k=1:=rfl;rw[if_neg (by decide),h2];grind
theorem IA (v:Zp)(n:Nat)(f:Nat->Zp):eJ v n f 0=sm f n:=dO _ fun i _=>by
 show f i*pw v 0=_
 show f i*1=_
 grind
theorem KL (l:List UInt64):(if b=true then sm (bG l) (2^k)*pw half k else sm (bG l) (2^k))=bG (gZ b k l) 0:=by
 rw[Iz b l (Nat.two_pow_pos k),IA];cases b with
 |true=>rw[if_pos rfl];rfl
 |false=>
  have h2:shr false k=1:=rfl;rw[if_neg (by decide),h2];grind
theorem KM (hk:k<=20)(l:List UInt64):(if b=true then sm (bG (gZ b k l)) (2^k)else sm (bG (gZ b k l)) (2^k)*pw half k)=bG l 0:=by
 have h:=back b hk l (Nat.two_pow_pos k);rw[IA]at h;rw[h];have h3:=pP k;cases b with
 |true=>
  have h2:shr true k=pw half k:=rfl;rw[if_pos rfl,h2,h3];grind
 |false=>
  have h2:shr false k=1:=rfl;have h4:1*nn (2^k)*bG l 0*pw half k=pw half k*nn (2^k)*bG l 0:=by grind
  rw[if_neg (by decide),h2,h4,h3];grind
def vY (b:Bool)(k i:Nat)(z:Zp):Zp:=sm (pw (pw (bU (!b) k) i*z)) (2^k)
def Ae (b:Bool)(k:Nat)(e:Zp):Zp:=if b=true then pw half k*e*nn (2^k)else pw half k*e
theorem J6 (y y':Nat->Zp){i:Nat}(hi:i<2^k)(e:Zp)(hy:∀ j,j<2^k->y' j=y j+if j=i then e else 0)(z:Zp):
  sB b k y' z=sB b k y z+Ae b k e*vY b k i z:=by
 have h1:nW (bU (!b) k) k y' z=nW (bU (!b) k) k y z+pw half k*e*vY b k i z:=by
  unfold nW vY;have h2:sm (fun m=>eJ (bU (!b) k) (2^k) y' m*pw z m) (2^k)=sm (fun m=>eJ (bU (!b) k) (2^k) y m*pw z m) (2^k)+e*sm (pw (pw (bU (!b) k) i*z)) (2^k):=by
   rw[<- j1,<-uf];refine dO _ fun m _=>?_
   have h3:eJ (bU (!b) k) (2^k) y' m=eJ (bU (!b) k) (2^k) y m+e*pw (bU (!b) k) (i*m):=by
    have h4:eJ (bU (!b) k) (2^k) y' m=sm (fun j=>y j*pw (bU (!b) k) (j*m)+(if j=i then e else 0)*pw (bU (!b) k) (j*m)) (2^k):=dO _ fun j hj=>by
     show y' j*_=_
     rw[hy j hj];grind
    rw[h4,uf];have h5:sm (fun j=>(if j=i then e else 0)*pw (bU (!b) k) (j*m)) (2^k)=(if i=i then e else 0)*pw (bU (!b) k) (i*m):=tE _ i _ hi fun j _ hj=>by
     show(if j=i then e else 0)*_=_
     rw[if_neg hj];grind
    rw[h5,if_pos rfl];rfl
   rw[h3,kC,<-dm];grind
  rw[h2];grind
 unfold sB Ae;cases b with
 |true=>rw[if_pos rfl,if_pos rfl,if_pos rfl,h1];grind
 |false=>rw[if_neg (by decide),if_neg (by decide),if_neg (by decide),h1]
theorem ID :nn (2^k)≠0:=fun e=>by
 have:=pP k;rw[e]at this;have h:pw half k*0=0:=by grind
 rw[h]at this;exact absurd this (by decide)
theorem Js :pw half k≠0:=fun e=>by
 have:=pP k;rw[e]at this;have h:0*nn (2^k)=0:=by grind
 rw[h]at this;exact absurd this (by decide)
theorem KH {e:Zp}(he:e≠0):Ae b k e≠0:=by
 have h1:pw half k*e≠0:=fun h=>by
  rcases tN h with h|h
  .exact Js h
  .exact he h
 unfold Ae;cases b with
 |true=>
  rw[if_pos rfl];intro h;rcases tN h with h|h
  .exact h1 h
  .exact ID h
 |false=>rw[if_neg (by decide)];exact h1
theorem stays (hk:k<=20){i:Nat}{z:Zp}(h:vY b k i z=0):∃ j,j<2^k/\j≠i/\z=pw (bU b k) j:=by
 have hg:=Bp (pw (bU (!b) k) i*z) (2^k);have h0:sm (pw (pw (bU (!b) k) i*z)) (2^k)=0:=h;rw[h0,kC,<-dm,Nat.mul_comm,dm,xC (!b) (by omega),iF]at hg;have hz:pw z (2^k)=1:=by grind
 obtain⟨j,hj,e⟩:=yK k (bU b k) z (xA hk b) hz;refine⟨j,hj,fun hji=>?_,e⟩;subst hji;have h1:pw (bU (!b) k) j*z=1:=by rw[e,<-FH (ud b (show k<=32 by omega)) j];grind
 rw[h1,dO (g:=fun _=>1) _ (fun i _=>iF i),Bq]at h0;exact ID h0
theorem JF (hk:k<=4){i:Nat}(hi:i<2^k)(z:Nat)(h:∀ n,n<2^k->vY b k i (zp (z+n))=0):False:=by
 have h16:2^k<=16:=Nat.pow_le_pow_right (n:=2) (by omega) hk;have hx:∀ n,∃ j,n<2^k->j<2^k/\j≠i/\zp (z+n)=pw (bU b k) j:=fun n=>by
  by_cases hn:n<2^k
  .obtain⟨j,hj⟩:=stays b (by omega) (h n hn);exact⟨j,fun _=>hj⟩
  .exact⟨0,fun h=>absurd h hn⟩
 obtain⟨J,hJ⟩:∃ J:Nat->Nat,∀ n,n<2^k->J n<2^k/\J n≠i/\zp (z+n)=pw (bU b k) (J n):=⟨fun n=>Classical.choose (hx n),fun n=>Classical.choose_spec (hx n)⟩;have hp:((List.range (2^k)).map J).Perm (List.range (2^k)):=by
  refine vg _ _ ?_ (fun x hx=>?_) (by simp)
  .rw[List.nodup_iff_pairwise_ne,List.pairwise_map];have hn:(List.range (2^k)).Nodup:=List.nodup_range;rw[List.nodup_iff_pairwise_ne]at hn;refine(List.Pairwise.and_mem.1 hn).imp fun{x y} hxy e=>?_
   obtain⟨hx,hy,hne⟩:=hxy;have h1:=(hJ x (List.mem_range.1 hx)).2.2;have h2:=(hJ y (List.mem_range.1 hy)).2.2;rw[e,<-h2,IZ]at h1;have:=List.mem_range.1 hx;have:=List.mem_range.1 hy;omega
  .obtain⟨n,hn,rfl⟩:=List.mem_map.1 hx;exact List.mem_range.2 (hJ n (List.mem_range.1 hn)).1
 obtain⟨n,hn,e⟩:=List.mem_map.1 (hp.mem_iff.2 (List.mem_range.2 hi));exact(hJ n (List.mem_range.1 hn)).2.1 e
end
end Prf
namespace Lib
open Go Go.Proofs Go.Shelf Go.RowKit Go.Maps Go.Sort
def uP :Go.Shelf.Ren:=⟨fun|6=>137|8=>188|9=>189|11=>259|13=>227|12=>260|23=>293|24=>294|14=>318|15=>319|16=>320|17=>321|18=>322|19=>323|20=>324|21=>325|22=>326|25=>350|26=>341|27=>342|28=>351|29=>352|30=>353|31=>363|n=>n,fun|26=>3|28=>241|24=>167|0=>0|3=>3|37=>213|48=>84|50=>108|4=>4|40=>390|39=>389|45=>253|5=>5|9=>9|51=>435|55=>439|57=>457|58=>458|33=>293|n=>n,fun|n=>n⟩
theorem JV :Go.Proofs.SlLaysZI.n6 prog uP where
 mixed:=by kernel_rfl
 f6 := ⟨ "slices.Sorted[int]", by decide, Tryz.func137.trans (congrArg some (by kernel_rfl))⟩
 f8 := ⟨ "slices.Collect[int]", by decide, Tryz.func188.trans (congrArg some (by kernel_rfl))⟩
 f11 := ⟨ "slices.AppendSeq[[]int,int]", by decide, Tryz.func259.trans (congrArg some (by kernel_rfl))⟩
 t0:=Tryz.underlying0
 a0:=Tryz.isAgg0
 z0:=Tryz.sizeOf0
 v0:=Tryz.zeroValue0
 t24:=Tryz.underlying167
 a24:=Tryz.isAgg167
 z24:=Tryz.sizeOf167
 v24:=Tryz.zeroValue167
 t26:=Tryz.underlying3
 a26:=Tryz.isAgg3
 z26:=Tryz.sizeOf3
 v26:=Tryz.zeroValue3
 t28:=Tryz.underlying241
 a28:=Tryz.isAgg241
 z28:=Tryz.sizeOf241
 v28:=Tryz.zeroValue241
 i26:=by kernel_rfl
def FZ :Go.Shelf.Ren:=⟨fun|5=>189|8=>227|7=>260|19=>293|20=>294|10=>318|11=>319|12=>320|13=>321|14=>322|15=>323|16=>324|17=>325|18=>326|30=>350|31=>341|32=>342|33=>351|34=>352|35=>353|40=>363|n=>n,fun|23=>167|25=>3|3=>3|32=>213|22=>167|0=>0|44=>84|46=>108|4=>4|36=>390|35=>389|41=>253|5=>5|9=>9|53=>435|57=>439|63=>457|64=>458|n=>n,fun|n=>n⟩
theorem IN :Go.Proofs.SlLaysM.n5 prog FZ where
 mixed:=by kernel_rfl
 f5 := ⟨ "slices.Sort[[]int,int]", by decide, Tryz.func189.trans (congrArg some (by kernel_rfl))⟩
 f7 := ⟨ "slices.pdqsortOrdered[int]", by decide, Tryz.func260.trans (congrArg some (by kernel_rfl))⟩
 f8:=Tryz.func227.trans (congrArg some (by kernel_rfl))
 f10 := ⟨ "slices.insertionSortOrdered[int]", by decide, Tryz.func318.trans (congrArg some (by kernel_rfl))⟩
 f11 := ⟨ "slices.heapSortOrdered[int]", by decide, Tryz.func319.trans (congrArg some (by kernel_rfl))⟩
 f12 := ⟨ "slices.breakPatternsOrdered[int]", by decide, Tryz.func320.trans (congrArg some (by kernel_rfl))⟩
 f13 := ⟨ "slices.choosePivotOrdered[int]", by decide, Tryz.func321.trans (congrArg some (by kernel_rfl))⟩
 f14 := ⟨ "slices.reverseRangeOrdered[int]", by decide, Tryz.func322.trans (congrArg some (by kernel_rfl))⟩
 f15 := ⟨ "slices.partialInsertionSortOrdered[int]", by decide, Tryz.func323.trans (congrArg some (by kernel_rfl))⟩
 f16 := ⟨ "cmp.Less[int]", by decide, Tryz.func324.trans (congrArg some (by kernel_rfl))⟩
 f17 := ⟨ "slices.partitionEqualOrdered[int]", by decide, Tryz.func325.trans (congrArg some (by kernel_rfl))⟩
 f18 := ⟨ "slices.partitionOrdered[int]", by decide, Tryz.func326.trans (congrArg some (by kernel_rfl))⟩
 f19:=Tryz.func293.trans (congrArg some (by kernel_rfl))
 f20:=Tryz.func294.trans (congrArg some (by kernel_rfl))
 f30 := ⟨ "slices.siftDownOrdered[int]", by decide, Tryz.func350.trans (congrArg some (by kernel_rfl))⟩
 f31:=Tryz.func341.trans (congrArg some (by kernel_rfl))
 f32:=Tryz.func342.trans (congrArg some (by kernel_rfl))
 f33 := ⟨ "slices.medianAdjacentOrdered[int]", by decide, Tryz.func351.trans (congrArg some (by kernel_rfl))⟩
 f34 := ⟨ "slices.medianOrdered[int]", by decide, Tryz.func352.trans (congrArg some (by kernel_rfl))⟩
 f35 := ⟨ "cmp.isNaN[int]", by decide, Tryz.func353.trans (congrArg some (by kernel_rfl))⟩
 f40 := ⟨ "slices.order2Ordered[int]", by decide, Tryz.func363.trans (congrArg some (by kernel_rfl))⟩
 t0:=Tryz.underlying0
 a0:=Tryz.isAgg0
 z0:=Tryz.sizeOf0
 v0:=Tryz.zeroValue0
 t3:=Tryz.underlying3
 a3:=Tryz.isAgg3
 z3:=Tryz.sizeOf3
 v3:=Tryz.zeroValue3
 t4:=Tryz.underlying4
 a4:=Tryz.isAgg4
 z4:=Tryz.sizeOf4
 v4:=Tryz.zeroValue4
 t5:=Tryz.underlying5
 a5:=Tryz.isAgg5
 z5:=Tryz.sizeOf5
 v5:=Tryz.zeroValue5
 t9:=Tryz.underlying9
 a9:=Tryz.isAgg9
 z9:=Tryz.sizeOf9
 v9:=Tryz.zeroValue9
 t22:=Tryz.underlying167
 a22:=Tryz.isAgg167
 z22:=Tryz.sizeOf167
 v22:=Tryz.zeroValue167
 t23:=Tryz.underlying167
 a23:=Tryz.isAgg167
 z23:=Tryz.sizeOf167
 v23:=Tryz.zeroValue167
 t25:=Tryz.underlying3
 a25:=Tryz.isAgg3
 z25:=Tryz.sizeOf3
 v25:=Tryz.zeroValue3
 t32:=Tryz.underlying213
 a32:=Tryz.isAgg213
 z32:=Tryz.sizeOf213
 v32:=Tryz.zeroValue213
 t35:=Tryz.underlying389
 a35:=Tryz.isAgg389
 z35:=Tryz.sizeOf389
 v35:=Tryz.zeroValue389
 t36:=Tryz.underlying390
 a36:=Tryz.isAgg390
 z36:=Tryz.sizeOf390
 v36:=Tryz.zeroValue390
 t41:=Tryz.underlying253
 a41:=Tryz.isAgg253
 z41:=Tryz.sizeOf253
 v41:=Tryz.zeroValue253
 t44:=Tryz.underlying84
 a44:=Tryz.isAgg84
 z44:=Tryz.sizeOf84
 v44:=Tryz.zeroValue84
 t46:=Tryz.underlying108
 a46:=Tryz.isAgg108
 z46:=Tryz.sizeOf108
 v46:=Tryz.zeroValue108
 t53:=Tryz.underlying435
 a53:=Tryz.isAgg435
 z53:=Tryz.sizeOf435
 v53:=Tryz.zeroValue435
 t57:=Tryz.underlying439
 a57:=Tryz.isAgg439
 z57:=Tryz.sizeOf439
 v57:=Tryz.zeroValue439
 t63:=Tryz.underlying457
 a63:=Tryz.isAgg457
 z63:=Tryz.sizeOf457
 v63:=Tryz.zeroValue457
 t64:=Tryz.underlying458
 a64:=Tryz.isAgg458
 z64:=Tryz.sizeOf458
 v64:=Tryz.zeroValue458
def qN :Go.Shelf.Ren:=⟨fun|7=>138|10=>190|n=>n,fun|23=>51|26=>3|3=>9|28=>241|0=>0|27=>240|33=>293|4=>4|n=>n,fun|n=>n⟩
theorem uE :Go.Proofs.SlLaysZI.n7 prog qN where
 mixed:=by kernel_rfl
 f7 := ⟨ "maps.Keys[map[int]string,int,string]", by decide, Tryz.func138.trans (congrArg some (by kernel_rfl))⟩
 f10 := ⟨ "maps.Keys[map[int]string,int,string]$1", by decide, Tryz.func190.trans (congrArg some (by kernel_rfl))⟩
 t0:=Tryz.underlying0
 a0:=Tryz.isAgg0
 z0:=Tryz.sizeOf0
 v0:=Tryz.zeroValue0
 t4:=Tryz.underlying4
 a4:=Tryz.isAgg4
 z4:=Tryz.sizeOf4
 v4:=Tryz.zeroValue4
 t23:=Tryz.underlying51
 a23:=Tryz.isAgg51
 z23:=Tryz.sizeOf51
 v23:=Tryz.zeroValue51
 t26:=Tryz.underlying3
 a26:=Tryz.isAgg3
 z26:=Tryz.sizeOf3
 v26:=Tryz.zeroValue3
 t27:=Tryz.underlying240
 a27:=Tryz.isAgg240
 z27:=Tryz.sizeOf240
 v27:=Tryz.zeroValue240
 t28:=Tryz.underlying241
 a28:=Tryz.isAgg241
 z28:=Tryz.sizeOf241
 v28:=Tryz.zeroValue241
 t33:=Tryz.underlying293
 a33:=Tryz.isAgg293
 z33:=Tryz.sizeOf293
 v33:=Tryz.zeroValue293
end Lib
end Go.Proofs.YtlgnlghmbcpmhaaGreatDoor
namespace Go.Hw
open Go Go.Proofs Go.Proofs.YtlgnlghmbcpmhaaGreatDoor.Lib Go.RowKit Go.Maps Go.Sort Go.Shelf
open Go.WideElems (Fit rd rg)
theorem yC :∀(N:Nat) (l:List Nat),l.Nodup->(∀ x∈l,x<N)->l.length<=N
 |0,[],_,_=>by simp
 |0,x::_,_,h=>absurd (h x (by simp)) (by omega)
 |N+1,l,hn,h=>by
  have:=yC N (l.erase N) (hn.erase N) fun x hx=>by
   rw[hn.mem_erase_iff]at hx;have:=h x hx.2;have:=hx.1;omega
  rw[List.length_erase]at this;split at this<;>omega
structure KeysOf (m:Int->Option Value)(ks:List Int):Prop where
 up:ks.Pairwise (fun a b=>a<b)
 mem:∀ k,k∈ks↔(m k).isSome=true
theorem Cl {l:List (Int×Value×Nat)}{clock:Nat}{m:Int->Option Value}(h:Ez l clock m){N:Nat}(hd:∀ k,(m k).isSome=true->0<=k/\k<N):l.length<=N/\∀ x∈l,0<=x.1/\x.1<N:=by
 have hmem:∀ x∈l,0<=x.1/\x.1<N:=fun x hx=>by
  apply hd;rw[<- h.get,u9 h.nd hx];rfl
 refine⟨?_,hmem⟩;have hn:((l.map (·.1)).map Int.toNat).Nodup:=by
  rw[List.nodup_iff_pairwise_ne,List.pairwise_map];have:=h.nd;rw[List.nodup_iff_pairwise_ne]at this;refine this.imp_of_mem ?_;intro a b ha hb hne e;obtain⟨x,hx,rfl⟩:=List.mem_map.1 ha;obtain⟨y,hy,rfl⟩:=List.mem_map.1 hb;have:=hmem x hx;have:=hmem y hy;omega
 have:=yC N _ hn fun x hx=>by
  obtain⟨y,hy,rfl⟩:=List.mem_map.1 hx;obtain⟨z,hz,rfl⟩:=List.mem_map.1 hy;have:=hmem z hz;omega
 simpa using this
def FJ :Value->Option (DataW Unit×List MemPlace):=fun _=>some (.lit (.bool true),[])
theorem JG {P:Program}{k:TypeId}(hk:P.underlying k=some (.int .i64)){l:List (Int×Value×Nat)}{clock:Nat}{m:Int->Option Value}(h:Ez l clock m){N:Nat}(hN:N<=1048576)(hd:∀ k,(m k).isSome=true->0<=k/\k<N):
  Fit P k FJ (l.map eK).toArray clock/\(l.map eK).map (rg P k FJ)=l.map fun x=>(Lit.int .i64 x.1,DataW.lit (.bool true)):=by
 obtain⟨h1,h2⟩:=Cl h hd;have hrd:∀ x∈l,rd P k FJ (eK x)=some (Lit.int .i64 x.1,DataW.lit (.bool true)):=fun x hx=>by
  have:=h2 x hx;have hw:(Lit.int .i64 x.1).wf=true:=by
   have e:(Lit.int .i64 x.1).wf=decide (-9223372036854775808<=x.1/\x.1<=9223372036854775807):=by
    simp[Lit.wf,IntKind.min,IntKind.max,IntKind.bits,IntKind.signed]
   rw[e,decide_eq_true_eq];omega
  refine Go.WideElems.rd_mk (yv:=(DataW.lit (.bool true),[])) (kl:=Lit.int .i64 x.1) ?_ rfl;simp[keyOf,mapKey,hk,hw]
 refine⟨⟨?_,⟨fun x hx=>?_,?_,?_⟩,fun x hx=>?_⟩,?_⟩
 .simp only[List.size_toArray,List.length_map];exact Nat.le_trans h1 (Nat.le_trans hN (by decide))
 .obtain⟨y,hy,rfl⟩:=List.mem_map.1 hx;exact h.bl y hy
 .have:=h.bn;simpa [List.map_map,Function.comp_def,eK]using this
 .rw[List.map_map];have:=h.nd;rw[List.nodup_iff_pairwise_ne,List.pairwise_map]at this⊢;exact this.imp fun hne e=>hne (by simpa [eK]using e)
 .obtain⟨y,hy,rfl⟩:=List.mem_map.1 hx;exact⟨_,hrd y hy⟩
 .rw[List.map_map];exact List.map_congr_left fun x hx=>Go.WideElems.rg_of (hrd x hx)
theorem LN (m:Nat):AnyZI.SortsIn Tryz.prog uP Fence.wide m:=
 ⟨fun B8 off cap ss W hH hblk hsz=>callsIn_wide.2 (AnyM.slices_Sort_int IN B8 off cap ss W hH hblk hsz),fun p cap W=>callsIn_wide.2 (AnyM.slices_Sort_int_none IN p cap W)⟩
theorem BH (r:Nat)(H:Hp):aa Tryz.prog 138 #[.map (some r)] H fun v H'=>
  ∃ b,H b=none/\v= .func (.func 190) #[] #[V b]/\H'=H.set b (Oa #[.map (some r)] 51):=fun w hw=>by
 have c:CallsIn Fence.wide 5 Tryz.prog 138 #[.map (some r)] w fun e w'=>e= .returned (.func (.func 190) #[] #[.pointer (some ⟨w.heap.size,0,none⟩)])/\w'=w.alloc (.cells #[.map (some r)] 51):=
  AnyZI.keys_in uE Fence.wide 5 trivial rfl (some r) w
 refine(callsIn_wide.1 c).mono ?_;rintro e w' ⟨rfl,rfl⟩;obtain⟨hn,hA⟩:=(At.refl hw).new (o:=Oa #[.map (some r)] 51) (x:=.cells #[.map (some r)] 51) rfl;exact⟨_,_,rfl,⟨w.heap.size,hn,rfl,rfl⟩,hA⟩
theorem y0 {r b clock:Nat}{l:List (Int×Value×Nat)}{m:Int->Option Value}(hok:Ez l clock m){N:Nat}(hN:N<=1048576)(hd:∀ k,(m k).isSome=true->0<=k/\k<N)(H:Hp)(hr:H r=some (iq l clock))(hb:H b=some (Oa #[.map (some r)] 51)):
  aa Tryz.prog 137 #[.func (.func 190) #[] #[V b]] H fun v H'=>
   ∃ ks,KeysOf m ks/\ks.length<=N/\((ks=[]/\v= .slice none 0 0/\H'=H)\/∃ b' cap,v= .slice (Oo b') ks.length cap/\ks.length<=cap/\H b'=none/\H'=H.set b' (.row (ks.map (Value.int .i64)) 3 cap)):=fun w hw=>by
 have hu:Tryz.prog.underlying 3=some (.int .i64):=by kernel_rfl
 obtain⟨hfit,hrg⟩:=JG (P:=Tryz.prog) (k:=3) hu hok hN hd;obtain⟨hlen,hmem⟩:=Cl hok hd;have hheap:=iq.heap hr hw;have hbh:w.heap[b]? =some (.cells #[.map (some r)] 51 (0,0)):=by
  obtain⟨o,ho,hh⟩:=hw _ _ hb;cases hh;exact ho
 have hown:w.ownsMap Tryz.prog 3 FJ r l.length (.map ((((l.map eK).toArray.toList).map (rg Tryz.prog 3 FJ)).foldr DataW.insert [])):=⟨_,clock,hheap,hfit,by simp,rfl⟩;rw[List.toList_toArray,hrg]at hown;have hperm:=Go.WideShapes.sorted_perm (l.map fun x=>(Lit.int .i64 x.1,(DataW.lit (.bool true):DataW Unit)));have hik:(intKeys (.map ((l.map fun x=>(Lit.int .i64 x.1,(DataW.lit (.bool true):DataW Unit))).foldr DataW.insert []))).Perm (l.map (·.1)):=by
  have:=hperm.map fun p=>intOf p.1
  rw[List.map_map]at this;exact this
 have hsize:Maps.size (DataW.map ((l.map fun x=>(Lit.int .i64 x.1,(DataW.lit (.bool true):DataW Unit))).foldr DataW.insert []))=l.length:=by
  have:=hperm.length_eq;rw[List.length_map]at this;exact this
 have hseq:SeqGives Fence.wide 2 Tryz.prog 190 #[V b] encZ (fun ss=>ss.Perm (intKeys _)) (Maps.size _) w:=
  AnyZI.keys_gives (ρ:=qN) { uE with} Fence.wide _ trivial rfl (by omega) b r l.length _ w (Array.getElem?_eq_some_iff.1 hbh).1 (by simp[World.cell?,hbh]) hown
 have cS:=AnyZI.sorted_in JV Fence.wide 5 trivial trivial trivial trivial rfl (by omega) (LN _) (enters_of Tryz.func189 (by kernel_rfl) rfl) 190 #[V b] trivial (enters_of Tryz.func190 (by kernel_rfl) rfl) _ _ (by rw[hsize];exact Nat.le_trans hlen (Nat.le_trans hN (by decide))) (by rw[hsize];omega) w hseq;change CallsIn _ _ Tryz.prog 137 _ _ _ at cS;refine(callsIn_wide.1 cS).mono ?_;rintro e w' ⟨v,ss,rfl,hS,hrow,hnil,hbel⟩;have hp:(ss.mergeSort fun x y=>decide (x<=y)).Perm (l.map (·.1)):=(List.mergeSort_perm _ _).trans (hS.trans hik);have hks:KeysOf m (ss.mergeSort fun x y=>decide (x<=y)):=by
  refine⟨?_,fun k=>?_⟩
  .have h1:=List.pairwise_mergeSort (le:=fun x y:Int=>decide (x<=y)) (fun a b c h1 h2=>by simp only[decide_eq_true_eq]at *;omega) (fun a b=>by simp only[Bool.or_eq_true,decide_eq_true_eq];omega) ss;have h2:(ss.mergeSort fun x y=>decide (x<=y)).Nodup:=hp.nodup_iff.2 hok.nd;rw[List.nodup_iff_pairwise_ne]at h2;refine(h1.and h2).imp ?_;rintro a b ⟨h3,h4⟩;simp only[decide_eq_true_eq]at h3;omega
  .rw[hp.mem_iff,<-hok.get];constructor
   .intro hk;obtain⟨x,hx,rfl⟩:=List.mem_map.1 hk;rw[u9 hok.nd hx];rfl
   .intro hk;cases hg:gB l k with
    |none=>rw[hg]at hk;cases hk
    |some v=>
     obtain⟨b,hb⟩:=E6 hg;exact List.mem_map.2 ⟨_,hb,rfl⟩
 have hkl:(ss.mergeSort fun x y=>decide (x<=y)).length=ss.length:=List.length_mergeSort _;have hsl:ss.length<=N:=by
  rw[<- hkl,hp.length_eq,List.length_map];exact hlen
 obtain⟨hxl,hcase⟩:=hrow;rcases hcase with⟨rfl,h0⟩|⟨g,cap,cur,rfl,hg,hgh,hnc,hcm,hcs,htk⟩
 .have hss:ss=[]:=hnil.1 rfl;refine⟨_,H,rfl,⟨_,hks,by omega,.inl ⟨List.length_eq_zero_iff.1 (by rw[hkl,hss];rfl),rfl,rfl⟩⟩,?_⟩;exact⟨fun i o hi=>by
   obtain⟨o',h1,h2⟩:=hw i o hi;exact⟨o',(hbel.block i (Array.getElem?_eq_some_iff.1 h1).1).trans h1,h2⟩,hbel.size,hbel.os,hbel.tape,hbel.output,fun i hi h0=>⟨h0,hbel.block i hi⟩⟩
 .have hgn:H g=none:=by
   cases hx:H g with
   |none=>rfl
   |some o=>
    obtain⟨o',h1,_⟩:=hw g o hx;have:=(Array.getElem?_eq_some_iff.1 h1).1;omega
  rw[Nat.mul_one]at hcs htk;refine⟨_,H.set g (.row ((ss.mergeSort fun x y=>decide (x<=y)).map (Value.int .i64)) 3 cap),rfl,⟨_,hks,by omega,.inr ⟨g,cap,by rw[hkl],by omega,hgn,rfl⟩⟩,?_⟩;refine⟨fun i o hi=>?_,hbel.size,hbel.os,hbel.tape,hbel.output,fun i hi h0=>⟨?_,hbel.block i hi⟩⟩
  .by_cases hig:i=g
   .subst hig;rw[Hp.bB]at hi;cases hi;refine⟨_,hgh,cur.toList.drop ss.length,0,0,?_,?_,.inl rfl⟩
    .rw[<- htk,List.take_append_drop,Array.toArray_toList];rfl
    .rw[<- htk,List.take_append_drop,Array.length_toList];exact hcs
   .rw[Hp.bK _ _ hig]at hi;obtain⟨o',h1,h2⟩:=hw i o hi;exact⟨o',(hbel.block i (Array.getElem?_eq_some_iff.1 h1).1).trans h1,h2⟩
  .rw[Hp.bK _ _ (by omega)];exact h0
end Go.Hw
namespace Go.Proofs.YtlgnlghmbcpmhaaGreatDoor
namespace Dsk
open Go Go.Hw Go.Form W
def sM (d:D):Prop:=∀ k,(d.cache k).isSome=true->0<=k/\k<d.sec
theorem qX (m:Int->Option (List UInt8))(k:Int):(eS m k).isSome=(m k).isSome:=by unfold eS;cases m k<;>rfl
theorem GC {p:Nat}{d:D}(hok:Ok d)(hd:sM d):Tr Tryz.prog 78 #[V p] [Dk p d] fun v M=>
  ∃ ks A cap,KeysOf (eS d.cache) ks/\ks.length<=d.sec/\v= .slice A ks.length cap/\M=[Dk p d,cj 3 1 A ks.length cap (ks.map (Value.int .i64))]:=fun H hs=>by
 have hsec:=hok.sec;obtain⟨r1,r2,r3,hs⟩:=Dk.open hs;apply jG.ok;unfold jG;simp only[HS];refine hs.ld 0 rfl rfl ?_;simp only[HV];refine(BH r3 H).mono ?_;rintro _ _ ⟨b,hb,rfl,rfl⟩;have hs:=hs.new hb (Oa #[.map (some r3)] 51);obtain⟨H1,⟨l,clock,hr1,hgk⟩,hle⟩:=hs.fU 3 rfl;refine(y0 hgk (N:=d.sec) (by omega) (fun k hk=>hd k (by rw[qX]at hk;exact hk)) _ (hle _ _ hr1) (hs.get 4 rfl)).mono ?_;rintro _ _ ⟨ks,hks,hkl,⟨h0,rfl,rfl⟩|⟨b',cap,rfl,hcap,hn,rfl⟩⟩
 .simp only[HV];subst h0;refine⟨_,⟨[],.none,0,hks,hkl,rfl,rfl⟩,?_⟩;have hs2:Sep (cj 3 1 .none 0 0 []::[ah p (qZ d r1 r2 r3),Mp r1 (eS d.safe),Mp r2 (qw d.gE),Mp r3 (eS d.cache)]) _:=⟨fun _=>none,_,fun _ _ h=>(nomatch h),Hp.le_refl _,fun _=>.inl rfl,cj.none _ _ _,hs.re [0,1,2,3] rfl⟩;exact Dk.shut (hs2.re [1,2,3,4,0] rfl)
 .simp only[HV];have hs2:=hs.new hn (.row (ks.map (Value.int .i64)) 3 cap);have hs3:=hs2.jy 5 (B:=cj 3 1 (Oo b') ks.length cap (ks.map (Value.int .i64))) rfl fun H1 hH=>⟨by simp,.inr ⟨b',cap,rfl,hH,by omega⟩⟩
  exact⟨_,⟨ks,some (O b'),cap,hks,hkl,rfl,rfl⟩,Dk.shut (hs3.re [0,1,2,3,5] rfl)⟩
theorem GA {p:Nat}{d:D}:Tr Tryz.prog 25 #[.pointer (some ⟨p,7,none⟩)] [Dk p d] fun v M=>v= .tuple #[]/\M=[Dk p { d with down:=true,aH:=0}]:=fun H hs=>by
 obtain⟨r1,r2,r3,hs⟩:=Dk.open hs;apply i7.ok;unfold i7;simp only[HS];refine hs.st 0 rfl (by show 7<10;omega) rfl fun H hs=>?_;refine hs.st 0 rfl (by show 8<10;omega) rfl fun H hs=>?_;exact⟨_,⟨trivial,rfl⟩,Dk.shut (d:={ d with down:=true,aH:=0}) hs⟩
def lA (c:Int->Option (List UInt8)):(Int->Option (List UInt8))->List Int->List Bool->(Int->Option (List UInt8))
 |s,k::ks,b::bs=>lA c (if b then gD s k ((c k).getD [])else s) ks bs
 |s,_,_=>s
def D.qc (d:D)(ks:List Int)(fF:List Bool):D:={ d with safe:=lA d.cache d.safe ks fF,cache:=fun _=>none,down:=false}
def oc (l:List Bool):List Value:=l.map Value.bool
theorem xX (c s:Int->Option (List UInt8))(ks:List Int):lA c s ks []=s:=by cases ks<;>rfl
theorem qA (K:VK){p r1 r2 r3:Nat}{d:D}{A A4:OA}{n4 m n m4:Nat}{all:List Int}{keepAll:List Bool}{R:As}(hR:∀ H,R H->Cells H A (oc keepAll))(hn:n=keepAll.length)(hn4:n4=all.length)(hn40:n4<=1048576)(hall:∀ k∈all,(d.cache k).isSome=true)(sF:Int->Option (List UInt8))
  (hK:∀ H,Sep [ah p (qZ { d with down:=false} r1 r2 r3),Mp r1 (eS sF),Mp r2 (qw d.gE),Mp r3 (eS fun _=>none),cj 3 1 A4 n4 m4 (all.map (Value.int .i64)),R] H->K (I 0) H):
  ∀(ks:List Int) (j:Nat) (s:Int->Option (List UInt8)) (H:Hp),all.drop j=ks->j<=n4->lA d.cache s ks (keepAll.drop j)=sF->
   Sep [ah p (qZ d r1 r2 r3),Mp r1 (eS s),Mp r2 (qw d.gE),Mp r3 (eS d.cache),cj 3 1 A4 n4 m4 (all.map (Value.int .i64)),R] H->
   cA.l4 K (ks.length+1) (Oo p) A n m A4 n4 m4 (n4:Int) (j:Int) H
 | [],j,s,H,hd,hj,hb,hs=>by
  have hjn:j=n4:=by
   have:=congrArg List.length hd;simp at this;omega
  subst hjn;unfold cA.l4;refine au (by omega) ?_;simp only[HS];refine hs.ld 0 rfl rfl ?_;simp only[HV];refine hs.EO pK nR 3 rfl fun H hs=>?_;refine hs.st 0 rfl (by show 7<10;omega) rfl fun H hs=>?_;have hb':s=sF:=hb;rw[hb']at hs;exact hK H hs
 |k::ks,j,s,H,hd,hj,hb,hs=>by
  have hjl:j<all.length:=by
   have:=congrArg List.length hd;simp at this;omega
  have hget:all[j]=k:=by
   have:=List.drop_eq_getElem_cons hjl;rw[this]at hd;exact(List.cons.inj hd).1
  have hrest:all.drop (j+1)=ks:=by
   have:=List.drop_eq_getElem_cons hjl;rw[this]at hd;exact(List.cons.inj hd).2
  have hkc:=hall k (by rw[<- hget];exact List.getElem_mem _);unfold cA.l4;refine aA (by omega) ?_;refine(hs.own 4 rfl).Mr (v:=I k) rfl (by rw[List.getElem?_map,List.getElem?_eq_getElem hjl,hget];rfl) ?_;simp only[HV];by_cases hjk:j<n
  .refine aA (by omega) ?_;have hkl:j<keepAll.length:=by omega
   have hkd:keepAll.drop j=keepAll[j]::keepAll.drop (j+1):=List.drop_eq_getElem_cons hkl;rw[hkd]at hb;obtain⟨H1,hR1,hle⟩:=hs.fU 5 (A:=R) rfl;refine((hR H1 hR1).le hle).read (v:=.bool keepAll[j]) (by unfold oc;rw[List.getElem?_map,List.getElem?_eq_getElem hkl];rfl) rfl (by unfold oc;rw[List.length_map];omega) ?_;simp only[HV];cases hbv:keepAll[j]with
   |true=>
    rw[hbv]at hb
    try simp only[HV]
    try simp only[HS]
    refine hs.ld 0 rfl rfl ?_;simp only[HV];refine hs.ld 0 rfl rfl ?_;simp only[HV];obtain⟨jz,hz1,hz2⟩:=Ee;obtain⟨H1,⟨l,clock,hr1,hgk⟩,hle⟩:=hs.fU 3 rfl;refine xn pK nR hz1 hz2 (hle _ _ hr1) false ?_;rw[hgk.get];cases hck:d.cache k with
    |none=>rw[hck]at hkc;cases hkc
    |some bs=>
     rw[show eS d.cache k=some (tH bs) by unfold eS;rw[hck];rfl];show DS (.string ⟨bs.toArray⟩) _
     simp only[HV];refine hs.uR pK nR 1 rfl fun H hs=>?_;rw[show(Value.string ⟨bs.toArray⟩)=tH bs from rfl,Bx]at hs;rw[bg (x:=(j:Int)+1)];refine qA K hR hn hn4 hn40 hall sF hK ks (j+1) (gD s k bs) H hrest (by omega) ?_ hs;rw[<- hb];show _=lA d.cache (if true then gD s k ((d.cache k).getD [])else s) ks _
     rw[hck];rfl
   |false=>
    rw[hbv]at hb
    try simp only[HV]
    rw[bg (x:=(j:Int)+1)];exact qA K hR hn hn4 hn40 hall sF hK ks (j+1) s H hrest (by omega) hb hs
  .refine au (by omega) ?_;rw[bg (x:=(j:Int)+1)];rw[List.drop_eq_nil_of_le (by omega),xX]at hb;refine qA K hR hn hn4 hn40 hall sF hK ks (j+1) s H hrest (by omega) ?_ hs;rw[List.drop_eq_nil_of_le (by omega),xX];exact hb
theorem I2 {p:Nat}{d:D}(hok:Ok d)(hd:sM d)(hdn:d.down=true)(A:OA)(n m:Nat)(fF:List Bool)(hn:n=fF.length)(R:As)(hR:∀ H,R H->Cells H A (oc fF)):
  Tr Tryz.prog 26 #[V p,.slice A n m] [Dk p d,R] fun v M=>∃ ks,KeysOf (eS d.cache) ks/\v= I 0/\M=[Dk p (D.qc d ks fF),R]:=fun H hs=>by
 have hsec:=hok.sec;obtain⟨r1,r2,r3,hp⟩:=Dk.fU hs 0 rfl;apply cA.ok;unfold cA;simp only[HS];refine ez hp (v:=.bool d.down) rfl ?_;rw[hdn];simp only[HV];refine(GC hok hd).use hs [0] rfl rfl ?_;rintro _ _ H ⟨ks,A4,cap,hks,hkl,rfl,rfl⟩ hs;simp only[HV];obtain⟨r1,r2,r3,hs⟩:=Dk.open hs;refine⟨ks.length+1,?_⟩;refine qA _ (d:=d) (A4:=A4) (m4:=cap) (all:=ks) (keepAll:=fF) (R:=R) hR hn rfl (by omega) (fun k hk=>by have:=(hks.mem k).1 hk;rw[qX]at this;exact this) (lA d.cache d.safe ks fF) (fun H hs=>⟨_,⟨ks,hks,rfl,rfl⟩,?_⟩) ks 0 d.safe H rfl (Nat.zero_le _) rfl hs;exact Dk.shut (d:=D.qc d ks fF) (hs.re [0,1,2,3,5] rfl)
theorem uX {c:Int->Option (List UInt8)}:∀(ks:List Int) (bs:List Bool) (s:Int->Option (List UInt8)),(∀ k∈ks,(c k).isSome=true)->∀ i,lA c s ks bs i=s i\/((c i).isSome=true/\lA c s ks bs i=c i)
 | [],bs,s,_,i=>.inl rfl
 |k::ks,[],s,_,i=>.inl rfl
 |k::ks,b::bs,s,hk,i=>by
  have ih:=uX ks bs (if b then gD s k ((c k).getD [])else s) (fun k hm=>hk k (by simp[hm])) i;show lA c (if b then gD s k ((c k).getD [])else s) ks bs i=s i\/_/\lA c (if b then gD s k ((c k).getD [])else s) ks bs i=c i
  rcases ih with h|h
  .rw[h];cases b with
   |false=>exact .inl rfl
   |true=>
    by_cases e:i=k
    .subst e;refine .inr ⟨hk i (by simp),?_⟩;have:=hk i (by simp);cases hc:c i with
     |none=>rw[hc]at this;cases this
     |some x=>simp[gD]
    .exact .inl (by simp[gD,e])
  .exact .inr h
theorem Ok.bC {d:D}(h:Ok d)(i:Int)(bs:List UInt8):Ok (d.bC i bs):=by
 unfold D.bC;split
 .exact h
 .split
  .exact h
  .rename_i hl
   have hb:=Ok.bu h;split
   .exact hb
   .unfold D.wrote;refine⟨hb.sec,hb.size,hb.kV,hb.ae,hb.safe,fun k b hk=>?_,hb.fz⟩;have hk':(if k=i then some bs else d.cache k)=some b:=hk;have hsz:d.bu.size=d.size:=(fQ d).2.2.2.1;split at hk'
    .cases hk';show bs.length=d.bu.size;rw[hsz];omega
    .show b.length=d.bu.size;rw[hsz];exact h.cache k b hk'
theorem sM.bC {d:D}(h:sM d)(i:Int)(bs:List UInt8):sM (d.bC i bs):=by
 have hbr:=fQ d;unfold D.bC;split
 .exact h
 .rename_i hc
  split
  .exact h
  .split
   .intro k hk;rw[hbr.2.2.2.2.2.2.1]at hk;rw[hbr.2.2.2.2.1];exact h k hk
   .intro k hk;have hk':(if k=i then some bs else d.cache k).isSome=true:=hk;show 0<=k/\k<(d.bu.sec:Int)
    rw[hbr.2.2.2.2.1];split at hk'
    .rename_i e;subst e
     have:=EN (d:=d) (i:=k) (by simpa using hc);omega
    .exact h k hk'
theorem Ok.qc {d:D}(h:Ok d){ks:List Int}(hk:KeysOf (eS d.cache) ks)(fF:List Bool):Ok (D.qc d ks fF):=by
 refine⟨h.sec,h.size,h.kV,h.ae,fun k b hb=>?_,fun k b hb=>(by cases hb),h.fz⟩;have hb':lA d.cache d.safe ks fF k=some b:=hb;rcases uX ks fF d.safe (fun k hm=>by have:=(hk.mem k).1 hm;rw[qX]at this;exact this) k with e|⟨_,e⟩
 .rw[e]at hb';exact h.safe k b hb'
 .rw[e]at hb';exact h.cache k b hb'
def kB (s c:Int→Option (List UInt8)):Int→Option (List UInt8):=fun i=>match c i with|some b=>some b|none=>s i
theorem born_inj {l:List (Int×Value×Nat)}(h:(l.map (·.2.2)).Nodup){x y:Int×Value×Nat}(hx:x∈l)(hy:y∈l)(e:x.2.2=y.2.2):x=y:=by
 induction l with
 |nil=>simp at hx
 |cons z l ih=>
  simp only[List.map_cons,List.nodup_cons]at h;rcases List.mem_cons.1 hx with ex|hx'
  .rcases List.mem_cons.1 hy with ey|hy'
   .rw[ex,ey]
   .exact absurd (by rw[<- ex,e];exact List.mem_map_of_mem hy') h.1
  .rcases List.mem_cons.1 hy with ey|hy'
   .exact absurd (by rw[<- ey,<-e];exact List.mem_map_of_mem hx') h.1
   .exact ih h.2 hx' hy'
theorem Dp (K:VK){r1 r2 it cl:Nat}{c s:Int->Option (List UInt8)}{l:List (Int×Value×Nat)}(hok:Ez l cl (eS c))
  (hK:∀ H,Sep [Mp r1 (eS (kB s c)),ah r2 (iq l cl)] H->K (.tuple #[]) H):
  ∀(t:Nat) (sj:Int->Option (List UInt8)) (seen:Array Nat) (last:Nat) (H:Hp),(fq l seen).length<=t->(∀ x∈l,x.2.2<last)->(∀ i,(∀ x∈fq l seen,x.1≠i)->sj i=kB s c i)->
   Sep [Mp r1 (eS sj),ah r2 (iq l cl),ah it (kt r2 cl seen last)] H->aD.l1 K (t+1) (some r1) (V it) H:=fun t=>by
 induction t with
 |zero=>
  intro sj seen last H ht hlast hsj hs;unfold aD.l1;have h0:fq l seen=[]:=List.length_eq_zero_iff.1 (by omega);refine Fw (hs.get 2 rfl) (hs.get 1 rfl) hok.bl hlast (fun x hx=>by rw[h0]at hx;simp at hx) (fun _=>?_);simp only[Ex,List.getElem?_toArray,List.getElem?_cons_zero,tP,sK];refine hK H ?_;have:sj=kB s c:=funext fun i=>hsj i (fun x hx=>by rw[h0]at hx;simp at hx)
  rw[<- this];exact hs.re [0,1] rfl
 |succ t ih=>
  intro sj seen last H ht hlast hsj hs;unfold aD.l1;refine Fw (hs.get 2 rfl) (hs.get 1 rfl) hok.bl hlast (fun x hx=>?_) (fun h0=>?_)
  .simp only[Ex,List.getElem?_toArray,List.getElem?_cons_zero,tP,zE];have hxl:x∈l:=(List.mem_filter.1 hx).1;have hs:=hs.put 2 (kt r2 cl (seen.push x.2.2) cl) rfl;refine Jo (hs.get 2 rfl) (hs.get 1 rfl) hxl (by simp) hok.bn ?_;simp only[Ex,List.getElem?_toArray,List.getElem?_cons_zero,List.getElem?_cons_succ];have hg:eS c x.1=some x.2.1:=by rw[<- hok.get,u9 hok.nd hxl]
   obtain⟨b,hcb,hxb⟩:∃ b,c x.1=some b/\x.2.1=tH b:=by
    unfold eS at hg;cases hc:c x.1 with
    |none=>rw[hc]at hg;cases hg
    |some b=>rw[hc]at hg;exact⟨b,rfl,(Option.some.inj hg).symm⟩
   rw[hxb];show DI .i64 (I x.1) fun x1=>DS (.string ⟨b.toArray⟩) _
   simp only[HV];refine hs.uR pK nR 0 rfl fun H hs=>?_;rw[show(Value.string ⟨b.toArray⟩)=tH b from rfl,Bx]at hs;have hlt:=Ea hx;refine ih (gD sj x.1 b) (seen.push x.2.2) cl H (by omega) hok.bl (fun i hi=>?_) hs;by_cases e:i=x.1
   .subst e;unfold kB gD;rw[hcb];simp
   .unfold gD;rw[if_neg e];refine hsj i fun y hy ey=>?_
    obtain⟨hyl,hys⟩:=List.mem_filter.1 hy;have hne:y.2.2≠x.2.2:=fun e2=>e (by rw[<- ey,born_inj hok.bn hyl hxl e2])
    refine hi y (List.mem_filter.2 ⟨hyl,?_⟩) ey;rw[Array.contains_push];simp only[Bool.not_eq_true',Bool.or_eq_false_iff]at hys⊢;exact⟨hys,by simpa using hne⟩
  .simp only[Ex,List.getElem?_toArray,List.getElem?_cons_zero,tP,sK];refine hK H ?_;have:sj=kB s c:=funext fun i=>hsj i (fun x hx=>by rw[h0]at hx;simp at hx)
   rw[<- this];exact hs.re [0,1] rfl
theorem He (r1 r2:Nat)(s c:Int->Option (List UInt8)):Tr Tryz.prog 183 #[.map (some r1),.map (some r2)] [Mp r1 (eS s),Mp r2 (eS c)] fun v M=>
  v= .tuple #[]/\M=[Mp r1 (eS (kB s c)),Mp r2 (eS c)]:=fun H hs=>by
 have hs0:=hs;obtain⟨H1,⟨l,clock,hr1,hok⟩,hle⟩:=hs.fU 1 rfl;apply aD.ok;unfold aD;refine JM nR (hle _ _ hr1) fun it hit=>?_
 have hs1:Sep [Mp r1 (eS s),ah r2 (iq l clock)] H:=hs.IW 1 rfl fun H2 hle2 hA=>by
  obtain⟨l2,clock2,h2,_⟩:=hA;have e1:=hle2 _ _ h2;have e2:=hle _ _ hr1;rw[e1]at e2;show H2 r2=some (iq l clock)
  rw[h2,e2]
 have hs2:=hs1.new hit (kt r2 clock #[] clock);refine⟨l.length+1,?_⟩;refine Dp _ (s:=s) hok (fun H hs=>⟨_,⟨rfl,rfl⟩,hs.jy 1 rfl fun H2 hA=>⟨l,clock,hA,hok⟩⟩) l.length s #[] clock _ ?_ hok.bl (fun i hi=>?_) hs2
 .unfold fq;exact List.length_filter_le _ _
 .unfold kB;have hn:c i=none:=by
   have:gB l i=none:=yi.2 fun x hx=>hi x (by unfold fq;simp[hx])
   rw[hok.get]at this;unfold eS at this;cases hc:c i with
   |none=>rfl
   |some b=>rw[hc]at this;cases this
  rw[hn]
def D.synced (d:D):D:={ d.bu with sy:=d.sy+1,safe:=kB d.safe d.cache,cache:=fun _=>none}
def D.gY (d:D):Int:=if d.down then 8 else if d.dr then 8 else 0
def D.fm (d:D):D:=if d.down then d else if d.dr then d.bu else d.synced
theorem pO {p:Nat}{d:D}(hok:Ok d)(ho:d.sy<=4611686018427387904):Tr Tryz.prog 127 #[V p] [Dk p d] fun v M=>v= I d.gY/\M=[Dk p d.fm]:=fun H hs=>by
 have hf:=hok.fz;obtain⟨r1,r2,r3,hp⟩:=Dk.fU hs 0 rfl;apply kg.ok;unfold kg;simp only[HS];refine ez hp (v:=.bool d.down) rfl ?_;simp only[HV];cases hdn:d.down with
 |true=>exact cO rfl ⟨_,⟨by simp[D.gY,hdn],by simp[D.fm,hdn]⟩,hs⟩
 |false=>
  refine bY rfl ?_;refine(uY hf).use hs [0] rfl rfl ?_;rintro _ _ H ⟨rfl,rfl⟩ hs;simp only[HV];cases hb:d.dr with
  |true=>exact cO rfl ⟨_,⟨by simp[D.gY,hdn,hb],by simp[D.fm,hdn,hb];rfl⟩,hs⟩
  |false=>
   refine bY rfl ?_;have hbr:=fQ d;obtain⟨r1,r2,r3,hs⟩:=Dk.open hs
   try simp only[HS]
   refine hs.ld 0 rfl rfl ?_;simp only[HV];refine hs.st 0 rfl (by show 5<10;omega) rfl fun H hs=>?_;rw[hbr.2.2.1]at hs;rw[bg (x:=(d.sy:Int)+1)]at hs;refine hs.ld 0 rfl rfl ?_;simp only[HV];refine hs.ld 0 rfl rfl ?_;simp only[HV];rw[hbr.2.2.2.2.2.1,hbr.2.2.2.2.2.2.1]at hs;refine(He r1 r3 d.safe d.cache).use hs [1,3] rfl rfl ?_;rintro _ _ H ⟨rfl,rfl⟩ hs
   try simp only[HV]
   refine hs.ld 2 rfl rfl ?_;simp only[HV];refine hs.EO pK nR 1 rfl fun H hs=>?_;refine⟨_,⟨by simp[D.gY,hdn,hb],by simp[D.fm,hdn,hb];rfl⟩,?_⟩;exact Dk.shut (d:=d.synced) (r1:=r1) (r2:=r2) (r3:=r3) (hs.re [2,0,3,1] rfl)
structure Act where
 k:Int
 i:Int
 A:OA
 n:Nat
 m:Nat
 b:List UInt8
 A':OA
 n':Nat
 m':Nat
 ks:List Bool
def laidB (bs:List UInt8):List UInt8:=bs.take 32++List.replicate (32-bs.length) 0
theorem Fj (bs:List UInt8):(laidB bs).length=32:=by
 unfold laidB;rw[List.length_append,List.length_take,List.length_replicate];omega
structure Calm (d:D):Prop where
 down:d.down=false
 aH:d.aH=0
structure Next (d d':D):Prop where
 ok:Ok d'
 Ah:sM d'
 sec:d'.sec=d.sec
 size:d'.size=d.size
 rd:d'.rd<=d.rd+1
 wr:d'.wr<=d.wr+1
 sy:d'.sy<=d.sy+1
section
variable {d : D} (h : Ok d) (hd : sM d)
include h hd
theorem Next.refl :Next d d:=⟨h,hd,rfl,rfl,by omega,by omega,by omega⟩
theorem Next.bu :Next d d.bu:=by
 have hb:=fQ d;refine⟨Ok.bu h,fun k hk=>?_,hb.2.2.2.2.1,hb.2.2.2.1,by rw[hb.1];omega,by rw[hb.2.1];omega,by rw[hb.2.2.1];omega⟩;rw[hb.2.2.2.2.2.2.1]at hk;rw[hb.2.2.2.2.1];exact hd k hk
theorem Next.read :Next d { d.bu with rd:=d.rd+1}:=by
 have hb:=Next.bu h hd;exact⟨⟨hb.ok.sec,hb.ok.size,hb.ok.kV,hb.ok.ae,hb.ok.safe,hb.ok.cache,hb.ok.fz⟩,hb.Ah,hb.sec,hb.size,Nat.le_refl _,hb.wr,hb.sy⟩
theorem Next.write (i:Int)(bs:List UInt8):Next d (d.bC i bs):=by
 have hb:=fQ d;have h1:=Ok.bC h i bs;have h2:=sM.bC hd i bs;have hn:=Next.bu h hd;unfold D.bC at h1 h2⊢;split
 .exact Next.refl h hd
 .rename_i c1
  rw[if_neg c1]at h1 h2;split
  .exact Next.refl h hd
  .rename_i c2
   rw[if_neg c2]at h1 h2;split
   .exact hn
   .rename_i c3
    rw[if_neg c3]at h1 h2;exact⟨h1,h2,hn.sec,hn.size,hn.rd,Nat.le_refl _,hn.sy⟩
theorem Next.sync :Next d d.fm:=by
 have hn:=Next.bu h hd;have hb:=fQ d;unfold D.fm;split
 .exact Next.refl h hd
 .split
  .exact hn
  .refine⟨⟨hn.ok.sec,hn.ok.size,hn.ok.kV,hn.ok.ae,fun k b hk=>?_,fun k b hk=>(by cases hk),hn.ok.fz⟩,fun k hk=>(by cases hk),hn.sec,hn.size,hn.rd,hn.wr,Nat.le_refl _⟩;have hk':kB d.safe d.cache k=some b:=hk;show b.length=d.bu.size
   rw[hb.2.2.2.1];unfold kB at hk';split at hk'
   .rename_i b' hc;cases hk';exact h.cache k b hc
   .exact h.safe k b hk'
end
def BY (d d':D)(a:Act)(e:Int):Prop:=Calm d->a.k<=2->Calm d'/\d'.safe=d.safe/\
 ((0<=a.k/\a.k<=1/\e=0)->(0<=a.i/\a.i<d.sec)/\d'.cache=gD d.cache a.i (laidB a.b))/\(¬ (0<=a.k/\a.k<=1/\e=0)->d'.cache=d.cache)
theorem Calm.dr {d:D}(h:Calm d):d.dr=false:=by unfold D.dr;rw[h.aH];rfl
theorem Calm.bu {d:D}(h:Calm d):d.bu=d:=by unfold D.bu;rw[if_pos h.aH]
theorem BY.same {d:D}{a:Act}{e:Int}(h:¬(0<=a.k/\a.k<=1/\e=0)):BY d d a e:=fun hc _=>⟨hc,rfl,fun h'=>absurd h' h,fun _=>rfl⟩
theorem BY.write {d:D}{a:Act}(hz:d.size=32)(hk:0<=a.k/\a.k<=1):BY d (d.bC a.i (laidB a.b)) a (d.dc a.i 32):=fun hc _=>by
 have hl:=Fj a.b;by_cases h0:d.jR a.i=0
 .have e1:d.dc a.i 32=0:=by
   unfold D.dc;rw[if_neg (by rw[h0];simp),if_neg (by omega),hc.dr];rfl
  have e2:d.bC a.i (laidB a.b)=d.wrote a.i (laidB a.b):=by
   unfold D.bC;rw[if_neg (by rw[h0];simp),if_neg (by omega),hc.dr];rfl
  rw[e1,e2];have hb:=hc.bu;have hr:=EN h0;unfold D.wrote;rw[hb];exact⟨⟨hc.down,hc.aH⟩,rfl,fun _=>⟨⟨hr.1,hr.2.1⟩,rfl⟩,fun h=>absurd ⟨hk.1,hk.2,rfl⟩ h⟩
 .have e1:d.dc a.i 32=d.jR a.i:=by unfold D.dc;rw[if_pos h0]
  have e2:d.bC a.i (laidB a.b)=d:=by unfold D.bC;rw[if_pos h0]
  rw[e1,e2];exact⟨hc,rfl,fun h=>absurd h.2.2 h0,fun _=>rfl⟩
theorem BY.read {d:D}{a:Act}{e:Int}(hk:a.k=2):BY d { d.bu with rd:=d.rd+1} a e:=fun hc _=>by
 rw[hc.bu];exact⟨⟨hc.down,hc.aH⟩,rfl,fun h=>by omega,fun _=>rfl⟩
end Dsk
namespace Eng
open Go Go.Hw Go.Form Dsk Str
abbrev Cn :=Int->List UInt8
structure Clean (d:D)(c:Cn):Prop where
 ok:Ok d
 down:d.down=false
 cache:∀ i,d.cache i=none
 sat:∀ i,d.sat i=c i
theorem Clean.now {d:D}{c:Cn}(h:Clean d c)(i:Int):d.now i=c i:=by
 unfold D.now;rw[h.cache];exact h.sat i
theorem Clean.Ah {d:D}{c:Cn}(h:Clean d c):sM d:=fun k hk=>by rw[h.cache]at hk;cases hk
structure fh (d d':D)(r w s:Nat):Prop where
 aH:d'.aH=d.aH-(r+w+s)
 go:d.aH=0\/r+w+s<d.aH
 sec:d'.sec=d.sec
 size:d'.size=d.size
 rd:d'.rd=d.rd+r
 wr:d'.wr=d.wr+w
 sy:d'.sy=d.sy+s
structure fY (d d':D)(n:Nat):Prop where
 ok:Ok d'
 Ah:sM d'
 down:d'.down=true
 aH:d'.aH=0
 sec:d'.sec=d.sec
 size:d'.size=d.size
 sX:d'.rd+d'.wr+d'.sy+1=d.rd+d.wr+d.sy+d.aH
 rd:d.rd<=d'.rd
 wr:d.wr<=d'.wr
 sy:d.sy<=d'.sy
 le:d.aH<=n
 pos:1<=d.aH
def Left (d:D)(P:Cn->Prop):Prop:=∀ c':Cn,(∀ i,c' i=d.sat i\/c' i=d.now i)->P c'
theorem Left.mono {d:D}{P Q:Cn->Prop}(h:Left d P)(k:∀ c,P c->Q c):Left d Q:=fun c' hc=>k _ (h c' hc)
theorem fh.trans {d d1 d2:D}{r w s r' w' s':Nat}(h:fh d d1 r w s)(k:fh d1 d2 r' w' s'):fh d d2 (r+r') (w+w') (s+s'):=by
 have h1:=h.aH;have h2:=k.aH;have h3:=h.go;have h4:=k.go;have h5:=h.rd;have h6:=k.rd;have h7:=h.wr;have h8:=k.wr;have h9:=h.sy;have h10:=k.sy;exact⟨by omega,by omega,k.sec.trans h.sec,k.size.trans h.size,by omega,by omega,by omega⟩
theorem fh.cut {d d1 d2:D}{r w s n:Nat}(h:fh d d1 r w s)(k:fY d1 d2 n):fY d d2 (r+w+s+n):=by
 have h1:=h.aH;have h3:=h.go;have h4:=k.pos;have h5:=h.rd;have h6:=k.rd;have h7:=h.wr;have h8:=k.wr;have h9:=h.sy;have h10:=k.sy;have h11:=k.sX;have h12:=k.le;exact⟨k.ok,k.Ah,k.down,k.aH,k.sec.trans h.sec,k.size.trans h.size,by omega,by omega,by omega,by omega,by omega,by omega⟩
theorem fY.more {d d':D}{n m:Nat}(h:fY d d' n)(k:n<=m):fY d d' m:={ h with le:=Nat.le_trans h.le k}
theorem fh.ae {d d':D}{r w s:Nat}(h:fh d d' r w s):D.ae d'=D.ae d:=by unfold D.ae;rw[h.size]
theorem fh.calm {d d':D}{r w s:Nat}(h:fh d d' r w s)(hf:d.aH=0):d'.aH=0:=by rw[h.aH];omega
theorem fY.calm {d d':D}{n:Nat}(h:fY d d' n)(hf:d.aH=0):False:=by have:=h.pos;omega
def pW (S:Int->Prop)(c c':Cn):Prop:=∀ i,¬S i->c' i=c i
theorem Clean.bE {d:D}{c:Cn}(h:Clean d c)(t:Nat):Clean (D.bE d t) c:=⟨Ok.bE h.ok t,h.down,h.cache,h.sat⟩
theorem fh.bE {d:D}{t:Nat}(hf:d.aH=0\/t<d.aH):fh d (D.bE d t) t 0 0:=⟨by show d.aH-t=_;omega,by omega,rfl,rfl,rfl,rfl,rfl⟩
theorem fY.bE {d:D}{c:Cn}(h:Clean d c){j n:Nat}(hf:d.aH=j+1)(hn:j<n):fY d (D.dead (D.bE d j)) n:=by
 refine⟨Ok.dead (Ok.bE h.ok j),h.Ah,rfl,rfl,rfl,rfl,?_,?_,Nat.le_refl _,Nat.le_refl _,by omega,by omega⟩
 .show d.rd+j+d.wr+d.sy+1=_;omega
 .show d.rd<=d.rd+j;omega
theorem Left.bE {d:D}{c:Cn}(h:Clean d c)(j:Nat):Left (D.dead (D.bE d j)) fun c'=>c'=c:=fun c' hc=>funext fun i=>by
 rcases hc i with e|e
 .exact e.trans (h.sat i)
 .exact e.trans (h.now i)
section
variable {S : Int -> Prop} {d d1 : D} {c : Cn} {r w : Nat}
theorem Clean.prog (h:Clean d c)(p:Prog S d d1 r w)(i:Int):d1.sat i=c i/\(¬S i->d1.now i=c i):=by
 have e1:d1.sat i=c i:=by rw[<- h.sat];unfold D.sat;rw[p.safe,p.size]
 refine⟨e1,fun hi=>?_⟩;unfold D.now;rw[p.cache i hi,h.cache];exact e1
theorem Clean.dead (h:Clean d c)(p:gv S d d1)(i:Int):d1.sat i=c i/\(¬S i->d1.now i=c i):=by
 have e1:d1.sat i=c i:=by rw[<- h.sat];unfold D.sat;rw[p.safe,p.size]
 refine⟨e1,fun hi=>?_⟩;unfold D.now;rw[p.cache i hi,h.cache];exact e1
theorem Clean.JJ (h:Clean d c)(p:Prog S d d1 r w)(hS:∀ i,S i->0<=i/\i<d.sec):sM d1:=fun k hk=>by
 by_cases hs:S k
 .have:=hS k hs;rw[p.sec];exact this
 .rw[p.cache k hs,h.cache]at hk;cases hk
theorem Clean.xk (h:Clean d c)(p:gv S d d1)(hS:∀ i,S i->0<=i/\i<d.sec){n:Nat}(hn:d.aH<=n)(hf:1<=d.aH):fY d d1 n:=by
 have h1:=p.sX;have h2:=p.sy;refine⟨p.ok,fun k hk=>?_,p.down,p.aH,p.sec,p.size,by omega,p.rd,p.wr,by omega,hn,hf⟩;by_cases hs:S k
 .have:=hS k hs;rw[p.sec];exact this
 .rw[p.cache k hs,h.cache]at hk;cases hk
theorem Clean.u4 (h:Clean d c)(p:gv S d d1):Left d1 fun c'=>pW S c c':=fun c' hc i hi=>by
 obtain⟨h1,h2⟩:=h.dead p i;rcases hc i with e|e
 .exact e.trans h1
 .exact e.trans (h2 hi)
theorem Clean.sync (h:Clean d c)(p:Prog S d d1 r w)(hS:∀ i,S i->0<=i/\i<d.sec):
  (d1.gY=0/\fh d d1.fm r w 1/\Clean d1.fm d1.now)\/(d1.gY=8/\fY d d1.fm (r+w+1)/\Left d1.fm fun c'=>(∀ i,c' i=c i\/c' i=d1.now i)/\pW S c c'):=by
 have hdom:=h.JJ p hS;have hn:=Next.sync p.ok hdom;have hb:=fQ d1;have p1:=p.aH;have p2:=p.go;have p3:=p.rd;have p4:=p.wr;have p5:=p.sy;have hdn:¬d1.down=true:=by rw[p.down];simp
 by_cases hf:d1.aH=1
 .right;have eE:d1.gY=8:=by unfold D.gY D.dr;rw[if_neg hdn,if_pos (by simp[hf])]
  have eD:d1.fm=D.dead d1:=by
   unfold D.fm D.dr;rw[if_neg hdn,if_pos (by simp[hf]),kW hf]
  rw[eE,eD];refine⟨rfl,⟨Ok.dead p.ok,hdom,rfl,rfl,p.sec,p.size,?_,?_,?_,?_,by omega,by omega⟩,fun c' hc=>⟨fun i=>?_,fun i hi=>?_⟩⟩
  .show d1.rd+d1.wr+d1.sy+1=_;omega
  .show d.rd<=d1.rd;omega
  .show d.wr<=d1.wr;omega
  .show d.sy<=d1.sy;omega
  .rcases hc i with e|e
   .exact .inl (e.trans (h.prog p i).1)
   .exact .inr e
  .rcases hc i with e|e
   .exact e.trans (h.prog p i).1
   .exact e.trans ((h.prog p i).2 hi)
 .left;have hbn:d1.dr=false:=by unfold D.dr;exact decide_eq_false hf
  have hbt:=ko p.down hf;have eE:d1.gY=0:=by unfold D.gY;rw[hbn,p.down];rfl
  have eD:d1.fm=d1.synced:=by unfold D.fm;rw[hbn,p.down];rfl
  rw[eD]at hn⊢;refine⟨eE,⟨?_,by omega,(hn.sec).trans p.sec,(hn.size).trans p.size,?_,?_,?_⟩,⟨hn.ok,?_,fun i=>rfl,fun i=>?_⟩⟩
  .show d1.bu.aH=_;rw[hbt];show d1.aH-1=_;omega
  .show d1.bu.rd=_;rw[hb.1];omega
  .show d1.bu.wr=_;rw[hb.2.1];omega
  .show d1.sy+1=_;omega
  .show d1.bu.down=false;rw[hbt];exact p.down
  .show(kB d1.safe d1.cache i).getD (List.replicate d1.bu.size 0)=_
   rw[hb.2.2.2.1];unfold D.now D.sat kB;cases d1.cache i<;>rfl
end
theorem Left.qc {d:D}{P:Cn->Prop}(h:Left d P)(hok:Ok d){ks:List Int}(hk:KeysOf (eS d.cache) ks)(fF:List Bool):∃ c',P c'/\Clean (D.qc d ks fF) c':=by
 refine⟨(D.qc d ks fF).sat,h _ fun i=>?_,⟨Ok.qc hok hk fF,rfl,fun _=>rfl,fun _=>rfl⟩⟩;have hmem:∀ k∈ks,(d.cache k).isSome=true:=fun k hk'=>by
  have:=(hk.mem k).1 hk';rw[qX]at this;exact this
 show(lA d.cache d.safe ks fF i).getD (List.replicate d.size 0)=_\/_
 rcases uX ks fF d.safe hmem i with e|⟨e1,e2⟩
 .left;rw[e];rfl
 .right;show(lA d.cache d.safe ks fF i).getD (List.replicate d.size 0)=_
  rw[e2];unfold D.now;cases hc:d.cache i with
  |none=>rw[hc]at e1;cases e1
  |some b=>rfl
theorem Clean.Lz {d:D}{c:Cn}(h:Clean d c):Left { d with down:=true,aH:=0} fun c'=>c'=c:=fun c' hc=>funext fun i=>by
 rcases hc i with e|e
 .exact e.trans (h.sat i)
 .exact e.trans (h.now i)
theorem Clean.fresh {sec size:Nat}(h1:1<=sec/\sec<=1048576)(h2:0<Lay.bP size)(h3:sec*size<=67108864):Clean (D.fresh sec size) fun _=>List.replicate size 0:=
 ⟨Ok.fresh h1 h2 h3,rfl,fun _=>rfl,fun _=>rfl⟩
end Eng
end Go.Proofs.YtlgnlghmbcpmhaaGreatDoor
namespace Go.Hw
open Go
theorem Gs {P:Program}{e:TypeId}{s x:Value}{H:Hp}{K:VK}(h:jq P e s x H fun v H'=>(∀ A n m,v= .slice A n m->n<=m)->K v H'):jq P e s x H K:=by
 unfold jq at h⊢;split at h
 .split at h
  .obtain⟨n,ys,h1,h2,h3,h4,h5,h6,h7,h8,h9⟩:=h;refine⟨n,ys,h1,h2,h3,h4,h5,h6,h7,h8,h9.imp ?_ ?_⟩
   .rintro⟨e1,e2,e3,k0,k⟩;refine⟨e1,e2,e3,fun h0=>k0 h0 (fun A n m e=>by cases e;exact Nat.le_refl _),fun hp c hc b hb=>k hp c hc b hb (fun A n m e=>by cases e;exact hc)⟩
   .rintro⟨b0,xs,m,e1,e2,e3,e4,k⟩;exact⟨b0,xs,m,e1,e2,e3,e4,fun c m' hc hl b hb=>k c m' hc hl b hb (fun A n m e=>by cases e;exact hl)⟩
  .exact h
 .exact h
theorem Ey {P:Program}{e:TypeId}{s:Value}{x:Nat->Value}{H:Hp}{o:AO}{K:VK}(h:Nw H o fun b H'=>jq P e s (x b) H' fun v H'=>(∀ A n m,v= .slice A n m->n<=m)->K v H'):Nw H o fun b H'=>jq P e s (x b) H' K:=fun b hb=>Gs (h b hb)
end Go.Hw
namespace Go.Proofs.YtlgnlghmbcpmhaaGreatDoor
open Tryz (prog)
namespace W
open Go Go.Hw
theorem eW :prog.follows .mixedOrders=true:=by kernel_rfl
def gq.q1 (H7:Hp)(b1:Nat)(K:VK):Prop:=
 cK H7 (O b1) #[U 0,I 0,I 0,I 0,I 0,Oi 0,Oi 0,Oi 0] 8 fun H8=>aY H8 (O b1) 8 fun l7=>K (.tuple #[.agg l7.toArray,I 10]) H8
def gq (A1:OA)(n1 m1:Nat)(H:Hp)(K:VK):Prop:=
 Nw H (Oa #[U 0,I 0,I 0,I 0,I 0,Oi 0,Oi 0,Oi 0] 110) fun b1 H1=>fP 222 #[I (n1:Int)] H1 fun c1 H2=>aq (!c1) (cK H2 (O b1) #[U 0,I 0,I 0,I 0,I 0,Oi 0,Oi 0,Oi 0] 8 fun H3=>aY H3 (O b1) 8 fun l6=>K (.tuple #[.agg l6.toArray,I 15]) H3) (Hz 223 #[.slice A1 n1 m1] H2 fun v2 H4=>Da v2 fun A2 n2 m2 c2=>(xN 224 #[.slice A2 n2 m2] H4 fun y1 H5=>Nw H5 (Oa #[U 0,I 0,I 0,I 0,I 0,Oi 0,Oi 0,Oi 0] 110) fun b2 H6=>cK H6 (O b2) y1 8 fun H7=>cz 0 n2 (NN A2 fun a1=>df H7 (a1.add ((0:Int).toNat*1)) fun x1=>(0<=(48:Int)/\aq ((cB .u64 x1 48) !=21061) (gq.q1 H7 b1 K) (aq (!c2) (gq.q1 H7 b1 K) (cz 3 n2 (NN A2 fun a2=>df H7 (a2.add ((3:Int).toNat*1)) fun x2=>lO n2 m2 none (some 3) fun n3 n4=>pf 225 #[.slice (iG A2 m2 n3 1) (n4-n3) (m2-n3)] H7 fun x3=>aq (x2 !=x3) (cK H7 (O b1) #[U 0,I 0,I 0,I 0,I 0,Oi 0,Oi 0,Oi 0] 8 fun H10=>aY H10 (O b1) 8 fun l9=>K (.tuple #[.agg l9.toArray,I 9]) H10) (aY H7 (O b2) 8 fun l4=>fP 162 #[.agg l4.toArray] H7 fun c3 H11=>aq (!c3) (cK H11 (O b1) #[U 0,I 0,I 0,I 0,I 0,Oi 0,Oi 0,Oi 0] 8 fun H12=>aY H12 (O b1) 8 fun l10=>K (.tuple #[.agg l10.toArray,I 1]) H12) (aY H11 (O b2) 8 fun l5=>cK H11 (O b1) l5.toArray 8 fun H13=>aY H13 (O b1) 8 fun l11=>K (.tuple #[.agg l11.toArray,I 0]) H13)))))))))
theorem gq.ok A1 n1 m1 H K (h:gq A1 n1 m1 H K):aa prog 157 #[.slice A1 n1 m1] H K:=
 bX eW Tryz.func157 rfl rfl h
def ep.j10 (K:VK)(a1:Addr)(H:Hp):=
 aM H (a1.add 4) fun x8=>aq (x8==0) (aM H (a1.add 3) fun x9=>aq (x9==0) (iS H (a1.add 7) fun x10=>K (.bool (x10==0)) H) (K (.bool false) H)) (K (.bool false) H)
def ep (y1:Array Value)(H:Hp)(K:VK):Prop:=
 Nw H (Oa y1 110) fun b1 H1=>df H1 ((O b1).add 0) fun x1=>aq (decide (x1<1)) (K (.bool false) H1) (df H1 ((O b1).add 0) fun x2=>aq (decide (x2>=281474976710656)) (K (.bool false) H1) (aM H1 ((O b1).add 2) fun x3=>aq (decide (x3<0)) (K (.bool false) H1) (aM H1 ((O b1).add 2) fun x4=>aq (decide (x4>32)) (K (.bool false) H1) (aM H1 ((O b1).add 3) fun x5=>fP 229 #[I x5] H1 fun c1 H2=>aq (!c1) (K (.bool false) H2) (aM H2 ((O b1).add 1) fun x6=>aq (x6==1) (iS H2 ((O b1).add 6) fun x7=>aq (x7 !=0) (K (.bool false) H2) (ep.j10 K (O b1) H2)) (aq (x6==2) (ep.j10 K (O b1) H2) (aq (x6==3) (aM H2 ((O b1).add 4) fun x11=>K (.bool (x11==0)) H2) (aq (x6==4) (aM H2 ((O b1).add 4) fun x12=>aq (decide (x12>=1)) (aM H2 ((O b1).add 4) fun x13=>K (.bool (decide (x13<=(7:Int)))) H2) (K (.bool false) H2)) (K (.bool false) H2)))))))))
def ep.Λ (K:VK):aI:=⟨fun i=>match Nat.beq i 10 with|true=>some (fun E D H=>eN E 1 fun a1=>ax D (ep.j10 K a1 H))|false=>none,fun i=>none,(fun _=>none)⟩
theorem ep.ok y1 H K (h:ep y1 H K):aa prog 162 #[.agg y1] H K:=
 dV (Λ:=(ep.Λ K)) eW Tryz.func162 rfl rfl h (oC (fun E D H h=>by
   obtain⟨a1,e1,g3⟩:=GN h;obtain⟨rfl,h'⟩:=ax.out g3;exact cU (Λ:=(ep.Λ K)) eW [] (ag.cons e1 (ag.nil _)) h' oN) oN)
def ln (y1 y2:Array Value)(H:Hp)(K:VK):Prop:=
 Nw H (Oa y1 110) fun b1 H1=>Nw H1 (Oa y2 110) fun b2 H2=>aY H2 (O b1) 8 fun l1=>fP 162 #[.agg l1.toArray] H2 fun c1 H3=>aq (!c1) (K (.bool false) H3) (aY H3 (O b2) 8 fun l2=>fP 162 #[.agg l2.toArray] H3 fun c2 H4=>aq (!c2) (K (.bool false) H4) (df H4 ((O b2).add 0) fun x1=>df H4 ((O b1).add 0) fun x2=>aq (x1 !=(u64.wrap (x2+1))) (K (.bool false) H4) (aM H4 ((O b2).add 1) fun x3=>aq (x3==1) (K (.bool true) H4) (aq (x3==2) (aM H4 ((O b1).add 1) fun x4=>aq (x4==1) (iS H4 ((O b1).add 5) fun x5=>iS H4 ((O b2).add 5) fun x6=>aq (x5==x6) (aM H4 ((O b1).add 2) fun x7=>aM H4 ((O b2).add 2) fun x8=>K (.bool (x7==x8)) H4) (K (.bool false) H4)) (K (.bool false) H4)) (aq (x3==3) (aM H4 ((O b1).add 1) fun x9=>aq (x9 !=1) (aY H4 (O b1) 8 fun l3=>aY H4 (O b2) 8 fun l4=>fP 272 #[.agg l3.toArray,.agg l4.toArray] H4 fun c3 H5=>aq c3 (iS H5 ((O b2).add 7) fun x10=>K (.bool (x10==0)) H5) (K (.bool false) H5)) (K (.bool false) H4)) (aM H4 ((O b1).add 1) fun x11=>aq (decide (x11>=3)) (aY H4 (O b1) 8 fun l5=>aY H4 (O b2) 8 fun l6=>fP 272 #[.agg l5.toArray,.agg l6.toArray] H4 fun c4 H6=>aq c4 (aM H6 ((O b1).add 3) fun x12=>aM H6 ((O b2).add 3) fun x13=>aq (x12==x13) (aM H6 ((O b2).add 4) fun x14=>aM H6 ((O b1).add 4) fun x15=>K (.bool (x14==(i64.wrap (x15+1)))) H6) (K (.bool false) H6)) (K (.bool false) H6)) (K (.bool false) H4)))))))
theorem ln.ok y1 y2 H K (h:ln y1 y2 H K):aa prog 215 #[.agg y1,.agg y2] H K:=
 bX eW Tryz.func215 rfl rfl h
def gV (x1:Int)(H:Hp)(K:VK):Prop:=
 Hz 251 #[I 0,I x1] H fun v1 H1=>pa v1 fun x2 x3=>(K (.bool (x3==0)) H1)
theorem gV.ok x1 H K (h:gV x1 H K):aa prog 222 #[I x1] H K:=
 bX eW Tryz.func222 rfl rfl h
def dj.l2 (K:VK):Nat->OA->Nat->Nat->OA->Nat->Nat->Int->Hp->Prop
 |0,_,_,_,_,_,_,_,_=>False
 |k+1,A2,n2,m2,A3,n3,m3,x1,H=>
  let R2:=dj.l2 K k
  aq (decide (x1<4)) (Hz 192 #[.slice A2 n2 m2,I x1] H fun v1 H1=>kS v1 fun x2 x3=>(Nw H1 (.row [U x2] 108 1) fun b1 H2=>jq prog 108 (.slice A3 n3 m3) (.slice (Oo b1) 1 1) H2 fun v4 H3=>aE v4 fun A4 n4 m4=>R2 A2 n2 m2 A4 n4 m4 (i64.wrap (x1+1)) H3)) (lO n2 m2 (some 32) none fun n5 n6=>Ii H (iG A2 m2 n5 1) (n6-n5) fun s1=>Mh 145 #[.string s1,.string (⟨#[0]⟩)] H fun s2 H4=>K (.tuple #[.slice A3 n3 m3,.bool (s2.toList==((⟨#[]⟩):ByteArray).toList)]) H4)
def dj (A1:OA)(n1 m1:Nat)(H:Hp)(K:VK):Prop:=
 (∃ k,dj.l2 K k A1 n1 m1 none 0 0 0 H)
def dj.l2.L (K:VK)(k:Nat):de:=fun E D H=>
 DG (E.get? 0) fun w0=>aE w0 fun A2 n2 m2=>DG (E.get? 2) fun w2=>aE w2 fun A3 n3 m3=>eI E 7 .i64 fun x1=>ax D (dj.l2 K k A2 n2 m2 A3 n3 m3 x1 H)
def dj.Λ2 (_:VK)(_R2:OA->Nat->Nat->OA->Nat->Nat->Int->Hp->Prop):aI:=aI.none (fun _=>none)
def dj.Λ (K:VK):aI:=⟨fun i=>none,fun i=>match Nat.beq i 2 with|true=>some (fun E D H=>∃ k,dj.l2.L K k E D H)|false=>none,(fun _=>none)⟩
theorem dj.ok A1 n1 m1 H K (h:dj A1 n1 m1 H K):aa prog 223 #[.slice A1 n1 m1] H K:=
 dV (Λ:=(dj.Λ K)) eW Tryz.func223 rfl rfl h (oC (fun E D H h=>by
   refine Safe.cJ (dj.l2.L K) (fun E D H h=>?_) (fun k E D H h=>?_) E D H h
   .obtain⟨w0,e0,g1⟩:=DG.out h;obtain⟨A2,n2,m2,rfl,g2⟩:=aE.out g1;obtain⟨w2,e2,g3⟩:=DG.out g2;obtain⟨A3,n3,m3,rfl,g4⟩:=aE.out g3;obtain⟨w7,e7,g5⟩:=DG.out g4;obtain⟨x1,rfl,g6⟩:=DI.out g5;obtain⟨rfl,h'⟩:=ax.out g6;exact h'
   .obtain⟨w0,e0,g1⟩:=DG.out h;obtain⟨A2,n2,m2,rfl,g2⟩:=aE.out g1;obtain⟨w2,e2,g3⟩:=DG.out g2;obtain⟨A3,n3,m3,rfl,g4⟩:=aE.out g3;obtain⟨x1,e7,g6⟩:=GI g4;obtain⟨rfl,h'⟩:=ax.out g6;exact cU (Λ:=(dj.Λ2 K (dj.l2 K k))) eW [] (ag.cons e0 (ag.cons e2 (ag.cons e7 (ag.nil _)))) h' oN) oN)
def oK (A1:OA)(n1 m1:Nat)(H:Hp)(K:VK):Prop:=
 Nw H (Oa #[U 0,I 0,I 0,I 0,I 0,Oi 0,Oi 0,Oi 0] 110) fun b1 H1=>cz 0 n1 (NN A1 fun a1=>df H1 (a1.add ((0:Int).toNat*1)) fun x1=>cz 1 n1 (NN A1 fun a2=>df H1 (a2.add ((1:Int).toNat*1)) fun x2=>cz 1 n1 (NN A1 fun a3=>df H1 (a3.add ((1:Int).toNat*1)) fun x3=>(0<=(8:Int)/\cz 1 n1 (NN A1 fun a4=>df H1 (a4.add ((1:Int).toNat*1)) fun x4=>(0<=(16:Int)/\cz 1 n1 (NN A1 fun a5=>df H1 (a5.add ((1:Int).toNat*1)) fun x5=>(0<=(24:Int)/\cz 1 n1 (NN A1 fun a6=>df H1 (a6.add ((1:Int).toNat*1)) fun x6=>(0<=(32:Int)/\cz 2 n1 (NN A1 fun a7=>df H1 (a7.add ((2:Int).toNat*1)) fun x7=>(0<=(32:Int)/\cz 2 n1 (NN A1 fun a8=>df H1 (a8.add ((2:Int).toNat*1)) fun x8=>cK H1 (O b1) #[U (cD .u64 x1 281474976710655),I (i64.wrap (cD .u64 x2 255)),I (i64.wrap (cD .u64 (cB .u64 x4 16) 255)),I (i64.wrap (cD .u64 (cB .u64 x3 8) 255)),I (i64.wrap (cD .u64 (cB .u64 x5 24) 255)),Oi (u32.wrap (cB .u64 x6 32)),Oi (u32.wrap (cB .u64 x7 32)),Oi (u32.wrap x8)] 8 fun H2=>aY H2 (O b1) 8 fun l1=>K (.agg l1.toArray) H2)))))))))))))
theorem oK.ok A1 n1 m1 H K (h:oK A1 n1 m1 H K):aa prog 224 #[.slice A1 n1 m1] H K:=
 nL (fun i=>match Nat.beq i 1 with|true=>some ([],[0,1,2,3,4,5,6,7,8,9,10,11,12,13,14,15,16,17,18,19,20,21,22,23,24,25,26,27,28,29,30,31,32,33,34,35,36,37,38,39,40,41],42)|false=>none) eW Tryz.func224 rfl rfl h
def mz (A1:OA)(n1 m1:Nat)(H:Hp)(K:VK):Prop:=
 xO 149 #[.slice A1 n1 m1] H fun x1 H1=>Nw H1 (.row [U (u64.wrap (kU .u32 u32.max x1)),U 32,U (u64.wrap x1),U 0] 387 4) fun b1 H2=>eh 284 #[.slice (Oo b1) 2 2] H2 fun x2 H3=>K (U x2) H3
theorem mz.ok A1 n1 m1 H K (h:mz A1 n1 m1 H K):aa prog 225 #[.slice A1 n1 m1] H K:=
 bX eW Tryz.func225 rfl rfl h
def jd (x1:Int)(H:Hp)(K:VK):Prop:=
 aq (x1==0) (K (.bool true) H) (K (.bool (x1==1)) H)
theorem jd.ok x1 H K (h:jd x1 H K):aa prog 229 #[I x1] H K:=
 bX eW Tryz.func229 rfl rfl h
def jP (y1:Array Value)(x1:Int)(H:Hp)(K:VK):Prop:=
 Nw H (Oa y1 110) fun b1 H1=>aY H1 (O b1) 8 fun l1=>fP 162 #[.agg l1.toArray] H1 fun c1 H2=>aq (!c1) (K (.tuple #[.slice none 0 0,I 1]) H2) (fP 222 #[I x1] H2 fun c2 H3=>aq (!c2) (K (.tuple #[.slice none 0 0,I 1]) H3) (aY H3 (O b1) 8 fun l2=>lM 308 #[.agg l2.toArray] H3 fun A1 n1 m1 H4=>jA prog 5 x1 x1 H4 fun v4 H5=>aE v4 fun A2 n2 m2=>eh 225 #[.slice A1 n1 m1] H5 fun x2 H6=>Nw H6 (.row [U x2] 108 1) fun b2 H7=>jq prog 108 (.slice A1 n1 m1) (.slice (Oo b2) 1 1) H7 fun v6 H8=>aE v6 fun A3 n3 m3=>lM 214 #[.slice A3 n3 m3] H8 fun A4 n4 m4 H9=>qC prog 5 (.slice A2 n2 m2) (.slice A4 n4 m4) H9 fun v8 H10=>DI .i64 v8 fun x3=>K (.tuple #[.slice A2 n2 m2,I 0]) H10))
theorem jP.ok y1 x1 H K (h:jP y1 x1 H K):aa prog 241 #[.agg y1,I x1] H K:=
 bX eW Tryz.func241 rfl rfl h
def my (y1 y2:Array Value)(H:Hp)(K:VK):Prop:=
 Nw H (Oa y1 110) fun b1 H1=>Nw H1 (Oa y2 110) fun b2 H2=>iS H2 ((O b1).add 5) fun x1=>iS H2 ((O b2).add 5) fun x2=>aq (x1==x2) (aM H2 ((O b1).add 2) fun x3=>aM H2 ((O b2).add 2) fun x4=>aq (x3==x4) (iS H2 ((O b1).add 6) fun x5=>iS H2 ((O b2).add 6) fun x6=>K (.bool (x5==x6)) H2) (K (.bool false) H2)) (K (.bool false) H2)
theorem my.ok y1 y2 H K (h:my y1 y2 H K):aa prog 272 #[.agg y1,.agg y2] H K:=
 bX eW Tryz.func272 rfl rfl h
def cY.l3 (K:VK):Nat->Int->OA->Nat->Nat->Int->Int->Hp->Prop
 |0,_,_,_,_,_,_,_=>False
 |k+1,x1,A2,n2,m2,x2,x3,H=>
  let R3:=cY.l3 K k
  aq (decide (x3<x2)) (cz x3 n2 (NN A2 fun a1=>aY H (a1.add (x3.toNat*2)) 2 fun l1=>Nw H (Oa #[U 0,U 0] 387) fun b1 H1=>cK H1 (O b1) l1.toArray 2 fun H2=>df H2 ((O b1).add 0) fun x4=>df H2 ((O b1).add 1) fun x5=>(0<=x5/\R3 (kT .u64 x1 (cT .u64 x4 x5)) A2 n2 m2 x2 (i64.wrap (x3+1)) H2))) (K (U x1) H)
def cY (A1:OA)(n1 m1:Nat)(H:Hp)(K:VK):Prop:=
 (∃ k,cY.l3 K k 0 A1 n1 m1 (n1:Int) 0 H)
def cY.l3.L (K:VK)(k:Nat):de:=fun E D H=>
 eI E 3 .u64 fun x1=>DG (E.get? 6) fun w6=>aE w6 fun A2 n2 m2=>eI E 7 .i64 fun x2=>eI E 8 .i64 fun x3=>ax D (cY.l3 K k x1 A2 n2 m2 x2 x3 H)
def cY.Λ3 (_:VK)(_R3:Int->OA->Nat->Nat->Int->Int->Hp->Prop):aI:=aI.none (fun _=>none)
def cY.Λ (K:VK):aI:=⟨fun i=>none,fun i=>match Nat.beq i 3 with|true=>some (fun E D H=>∃ k,cY.l3.L K k E D H)|false=>none,(fun _=>none)⟩
theorem cY.ok A1 n1 m1 H K (h:cY A1 n1 m1 H K):aa prog 284 #[.slice A1 n1 m1] H K:=
 dV (Λ:=(cY.Λ K)) eW Tryz.func284 rfl rfl h (oC (fun E D H h=>by
   refine Safe.cJ (cY.l3.L K) (fun E D H h=>?_) (fun k E D H h=>?_) E D H h
   .obtain⟨w3,e3,g1⟩:=DG.out h;obtain⟨x1,rfl,g2⟩:=DI.out g1;obtain⟨w6,e6,g3⟩:=DG.out g2;obtain⟨A2,n2,m2,rfl,g4⟩:=aE.out g3;obtain⟨w7,e7,g5⟩:=DG.out g4;obtain⟨x2,rfl,g6⟩:=DI.out g5;obtain⟨w8,e8,g7⟩:=DG.out g6;obtain⟨x3,rfl,g8⟩:=DI.out g7;obtain⟨rfl,h'⟩:=ax.out g8;exact h'
   .obtain⟨x1,e3,g2⟩:=GI h;obtain⟨w6,e6,g3⟩:=DG.out g2;obtain⟨A2,n2,m2,rfl,g4⟩:=aE.out g3;obtain⟨x2,e7,g6⟩:=GI g4;obtain⟨x3,e8,g8⟩:=GI g6;obtain⟨rfl,h'⟩:=ax.out g8;exact cU (Λ:=(cY.Λ3 K (cY.l3 K k))) eW [] (ag.cons e3 (ag.cons e6 (ag.cons e7 (ag.cons e8 (ag.nil _))))) h' oN) oN)
def cG.q1 (b4:Nat)(H4:Hp)(x9 x10:Int)(K:VK):Prop:=
 pf 284 #[.slice (Oo b4) 2 2] H4 fun x11=>Nw H4 (.row [U x9,U x10,U x11] 108 3) fun b5 H5=>K (.slice (Oo b5) 3 3) H5
def cG.q2 (H6:Hp)(x2 x3 x4 x5 x6:Int)(b6:Nat)(x9:Int)(K:VK):Prop:=
 Nw H6 (.row [U (u64.wrap x2),U 32,U (u64.wrap x3),U 24,U (u64.wrap x4),U 16,U (u64.wrap x5),U 8,U (u64.wrap x6),U 0] 387 10) fun b7 H7=>pf 284 #[.slice (Oo b7) 5 5] H7 fun x12=>cG.q1 b6 H7 x9 x12 K
def cG.q3 (H13:Hp)(x1:Int)(b9 b13:Nat)(K:VK):Prop:=
 Nw H13 (.row [U 21061,U 48,U x1,U 0] 387 4) fun b14 H14=>pf 284 #[.slice (Oo b14) 2 2] H14 fun x17=>pf 284 #[.slice (Oo b9) 5 5] H14 fun x18=>cG.q1 b13 H14 x17 x18 K
def cG.q4 (b3:Nat)(H3:Hp)(x7 x8 x9:Int)(K:VK):Prop:=
 pf 284 #[.slice (Oo b3) 5 5] H3 fun x10=>Nw H3 (.row [U (u64.wrap x7),U 32,U (u64.wrap x8),U 0] 387 4) fun b4 H4=>cG.q1 b4 H4 x9 x10 K
def cG (y1:Array Value)(H:Hp)(K:VK):Prop:=
 Nw H (Oa y1 110) fun b1 H1=>df H1 ((O b1).add 0) fun x1=>iS H1 ((O b1).add 5) fun x2=>aM H1 ((O b1).add 4) fun x3=>aM H1 ((O b1).add 2) fun x4=>aM H1 ((O b1).add 3) fun x5=>aM H1 ((O b1).add 1) fun x6=>iS H1 ((O b1).add 6) fun x7=>iS H1 ((O b1).add 7) fun x8=>(Nw H1 (.row [U 21061,U 48,U x1,U 0] 387 4) fun b2 H2=>pf 284 #[.slice (Oo b2) 2 2] H2 fun x9=>(Nw H2 (.row [U (u64.wrap x2),U 32,U (u64.wrap x3),U 24,U (u64.wrap x4),U 16,U (u64.wrap x5),U 8,U (u64.wrap x6),U 0] 387 10) fun b3 H3=>cG.q4 b3 H3 x7 x8 x9 K)/\(Nw H2 (.row [U (u64.wrap x7),U 32,U (u64.wrap x8),U 0] 387 4) fun b6 H6=>cG.q2 H6 x2 x3 x4 x5 x6 b6 x9 K))/\(Nw H1 (.row [U (u64.wrap x2),U 32,U (u64.wrap x3),U 24,U (u64.wrap x4),U 16,U (u64.wrap x5),U 8,U (u64.wrap x6),U 0] 387 10) fun b9 H9=>(Nw H9 (.row [U 21061,U 48,U x1,U 0] 387 4) fun b10 H10=>pf 284 #[.slice (Oo b10) 2 2] H10 fun x14=>cG.q4 b9 H10 x7 x8 x14 K)/\(Nw H9 (.row [U (u64.wrap x7),U 32,U (u64.wrap x8),U 0] 387 4) fun b13 H13=>cG.q3 H13 x1 b9 b13 K))/\(Nw H1 (.row [U (u64.wrap x7),U 32,U (u64.wrap x8),U 0] 387 4) fun b16 H16=>(Nw H16 (.row [U 21061,U 48,U x1,U 0] 387 4) fun b17 H17=>pf 284 #[.slice (Oo b17) 2 2] H17 fun x20=>cG.q2 H17 x2 x3 x4 x5 x6 b16 x20 K)/\(Nw H16 (.row [U (u64.wrap x2),U 32,U (u64.wrap x3),U 24,U (u64.wrap x4),U 16,U (u64.wrap x5),U 8,U (u64.wrap x6),U 0] 387 10) fun b20 H20=>cG.q3 H20 x1 b20 b16 K))
theorem cG.ok y1 H K (h:cG y1 H K):aa prog 308 #[.agg y1] H K:=
 nL (fun i=>match Nat.beq i 1 with|true=>some ([2,5,7,8,11,12,15,16,19,20,23,24,27,29,30,33,34,37],[0,0,2,6,15,31,0,64,192,448,0,1024,3072,7168,0,16384,49152,114688,0,262144,786432,1835008,0,4194304,12582912,29360128,67108800,134217727,0,268435456,805306368,1879048192,0,4294967296,12884901888,30064771072,68451041280,137438953471,274877906943,549755813887],0)|false=>none) eW Tryz.func308 rfl rfl h
end W
namespace Rec
open Go Go.Hw W
structure R where
 s:Nat
 kd:Int
 kk:Int
 dir:Int
 ps:Int
 ld:Nat
 dJ:Nat
 out:Nat
def R.c (r:R):Array Value:=#[U (r.s:Int),I r.kd,I r.kk,I r.dir,I r.ps,Oi (r.ld:Int),Oi (r.dJ:Int),Oi (r.out:Int)]
def eX (r:R):AO:=Oa r.c 110
abbrev R.cR (r:R):Prop:=1<=r.s/\r.s<281474976710656/\0<=r.kk/\r.kk<=32/\(r.dir=0\/r.dir=1)/\
 ((r.kd=1/\r.dJ=0/\r.ps=0/\r.dir=0/\r.out=0)\/(r.kd=2/\r.ps=0/\r.dir=0/\r.out=0)\/(r.kd=3/\r.ps=0)\/(r.kd=4/\1<=r.ps/\r.ps<=7))
theorem Ag (x:Int)(H:Hp):aa prog 229 #[I x] H (RetE (.bool (decide (x=0\/x=1))) H):=by
 apply jd.ok;unfold jd;by_cases h:x=0
 .rw[decide_eq_true (.inl h)];exact bH h (RetE.mk _ _)
 .refine bT h ⟨?_,rfl⟩;by_cases h1:x=1
  .rw[decide_eq_true (.inr h1),h1];rfl
  .rw[decide_eq_false (by omega),beq_eq_false_iff_ne.2 h1]
section
variable {r : R} {H0 H : Hp} {b1 : Nat}
theorem lX (hs:Sep [own H0,ah b1 (eX r)] H)(h:¬r.cR):lU (.bool (decide r.cR)) H0 (.bool false) H:=by
 rw[decide_eq_false h];exact hs.fin 0 rfl _
theorem Dz (hs:Sep [own H0,ah b1 (eX r)] H){b:Bool}(h:b=true↔r.cR):lU (.bool (decide r.cR)) H0 (.bool b) H:=by
 have:decide r.cR=b:=by
  cases b with
  |true=>exact decide_eq_true (h.1 rfl)
  |false=>exact decide_eq_false fun g=>by have:=h.2 g;cases this
 rw[this];exact hs.fin 0 rfl _
theorem zJ (hs:Sep [own H0,ah b1 (eX r)] H)(h:(r.ps=0/\r.dir=0/\r.out=0)↔r.cR):ep.j10 (lU (.bool (decide r.cR)) H0) (O b1) H:=by
 unfold ep.j10;refine hs.cg 1 rfl rfl ?_;simp only[HV];by_cases h1:r.ps=0
 .refine bH h1 ?_;refine hs.cg 1 rfl rfl ?_;simp only[HV];by_cases h2:r.dir=0
  .refine bH h2 ?_;refine hs.cg 1 rfl rfl ?_;simp only[HV];refine Dz hs ?_;rw[<- h,beq_iff_eq];omega
  .exact bT h2 (lX hs fun g=>h2 (h.2 g).2.1)
 .exact bT h1 (lX hs fun g=>h1 (h.2 g).1)
end
theorem fA (r:R)(H:Hp):aa prog 162 #[.agg r.c] H (RetE (.bool (decide r.cR)) H):=aa.ret (by
 apply ep.ok;unfold ep;refine(Sep.start H).nw fun b1 H1 hs=>?_
 have hs:Sep [own H,ah b1 (eX r)] H1:=hs;refine hs.cg 1 rfl rfl ?_;simp only[HV];by_cases h1:(r.s:Int)<1
 .exact aA h1 (lX hs fun g=>by have:=g.1;omega)
 refine au h1 ?_;refine hs.cg 1 rfl rfl ?_;simp only[HV];by_cases h2:(r.s:Int)>=281474976710656
 .exact aA h2 (lX hs fun g=>by have:=g.2.1;omega)
 refine au h2 ?_;refine hs.cg 1 rfl rfl ?_;simp only[HV];by_cases h3:r.kk<0
 .exact aA h3 (lX hs fun g=>by have:=g.2.2.1;omega)
 refine au h3 ?_;refine hs.cg 1 rfl rfl ?_;simp only[HV];by_cases h4:r.kk>32
 .exact aA h4 (lX hs fun g=>by have:=g.2.2.2.1;omega)
 refine au h4 ?_;refine hs.cg 1 rfl rfl ?_;simp only[HV];refine aa.use (Ag r.dir H1) ?_;simp only[HV];by_cases h5:r.dir=0\/r.dir=1
 case neg=>
  rw[decide_eq_false h5];exact cO rfl (lX hs fun g=>h5 g.2.2.2.2.1)
 rw[decide_eq_true h5];refine bY rfl ?_;have hd:∀{P:Prop},(P↔((r.kd=1/\r.dJ=0/\r.ps=0/\r.dir=0/\r.out=0)\/(r.kd=2/\r.ps=0/\r.dir=0/\r.out=0)\/(r.kd=3/\r.ps=0)\/(r.kd=4/\1<=r.ps/\r.ps<=7)))->(P↔r.cR):=fun h=>by
  rw[h];exact⟨fun g=>⟨by omega,by omega,by omega,by omega,h5,g⟩,fun g=>g.2.2.2.2.2⟩
 refine hs.cg 1 rfl rfl ?_;simp only[HV];by_cases k1:r.kd=1
 .refine bH k1 ?_;refine hs.cg 1 rfl rfl ?_;simp only[HV];by_cases h6:(r.dJ:Int)=0
  .exact aF h6 (zJ hs (hd (by omega)))
  .exact aU h6 (lX hs fun g=>by have:=g.2.2.2.2.2;omega)
 refine bT k1 ?_;by_cases k2:r.kd=2
 .exact bH k2 (zJ hs (hd (by omega)))
 refine bT k2 ?_;by_cases k3:r.kd=3
 .refine bH k3 ?_;refine hs.cg 1 rfl rfl ?_;simp only[HV];refine Dz hs (hd ?_);rw[beq_iff_eq];omega
 refine bT k3 ?_;by_cases k4:r.kd=4
 .refine bH k4 ?_;refine hs.cg 1 rfl rfl ?_;simp only[HV];by_cases h7:r.ps>=1
  .refine aA h7 ?_;refine hs.cg 1 rfl rfl ?_;simp only[HV];refine Dz hs (hd ?_);rw[decide_eq_true_eq];omega
  .exact au h7 (lX hs fun g=>by have:=g.2.2.2.2.2;omega)
 .exact bT k4 (lX hs fun g=>by have:=g.2.2.2.2.2;omega))
end Rec
namespace W
open Go Go.Hw
theorem fy :prog.follows .mixedOrders=true:=by kernel_rfl
def dT (A1:OA)(n1 m1:Nat)(fd1:FuncId)(F1 C1:Array Value)(H:Hp)(K:VK):Prop:=
 cC 227 #[U (u64.wrap (n1:Int))] H fun x1 H1=>Hz 226 #[.slice A1 n1 m1,I 0,I (n1:Int),I x1,.func (.func fd1) F1 C1] H1 fun v2 H2=>K (.tuple #[]) H2
theorem dT.ok A1 n1 m1 fd1 F1 C1 H K (h:dT A1 n1 m1 fd1 F1 C1 H K):aa prog 159 #[.slice A1 n1 m1,.func (.func fd1) F1 C1] H K:=
 bX fy Tryz.func159 rfl rfl h
def aO.l2 (K:VK):Nat->OA->Nat->Nat->FuncId->Array Value->Array Value->Int->Int->Hp->Prop
 |0,_,_,_,_,_,_,_,_,_=>False
 |k+1,A2,n2,m2,fd2,F2,C2,x1,x2,H=>
  let R2:=aO.l2 K k
  aq (decide (x2<x1)) (cz x2 n2 (NN A2 fun a1=>df H (a1.add (x2.toNat*1)) fun x3=>jD prog fd2 ((F2++ #[U x3])++C2) H fun v2 H1=>DR prog (eM prog fd2) v2 fun v3=>DB v3 fun c1=>aq c1 (K (I x2) H1) (R2 A2 n2 m2 fd2 F2 C2 x1 (i64.wrap (x2+1)) H1))) (K (I (-1)) H)
def aO (A1:OA)(n1 m1:Nat)(fd1:FuncId)(F1 C1:Array Value)(H:Hp)(K:VK):Prop:=
 (∃ k,aO.l2 K k A1 n1 m1 fd1 F1 C1 (n1:Int) 0 H)
def aO.l2.L (K:VK)(k:Nat):de:=fun E D H=>
 DG (E.get? 0) fun w0=>aE w0 fun A2 n2 m2=>DG (E.get? 1) fun w1=>iw w1 fun fd2 F2 C2=>eI E 7 .i64 fun x1=>eI E 8 .i64 fun x2=>ax D (aO.l2 K k A2 n2 m2 fd2 F2 C2 x1 x2 H)
def aO.Λ2 (_:VK)(_R2:OA->Nat->Nat->FuncId->Array Value->Array Value->Int->Int->Hp->Prop):aI:=aI.none (fun _=>none)
def aO.Λ (K:VK):aI:=⟨fun i=>none,fun i=>match Nat.beq i 2 with|true=>some (fun E D H=>∃ k,aO.l2.L K k E D H)|false=>none,(fun _=>none)⟩
theorem aO.ok A1 n1 m1 fd1 F1 C1 H K (h:aO A1 n1 m1 fd1 F1 C1 H K):aa prog 209 #[.slice A1 n1 m1,.func (.func fd1) F1 C1] H K:=
 dV (Λ:=(aO.Λ K)) fy Tryz.func209 rfl rfl h (oC (fun E D H h=>by
   refine Safe.cJ (aO.l2.L K) (fun E D H h=>?_) (fun k E D H h=>?_) E D H h
   .obtain⟨w0,e0,g1⟩:=DG.out h;obtain⟨A2,n2,m2,rfl,g2⟩:=aE.out g1;obtain⟨w1,e1,g3⟩:=DG.out g2;obtain⟨fd2,F2,C2,rfl,g4⟩:=iw.out g3;obtain⟨w7,e7,g5⟩:=DG.out g4;obtain⟨x1,rfl,g6⟩:=DI.out g5;obtain⟨w8,e8,g7⟩:=DG.out g6;obtain⟨x2,rfl,g8⟩:=DI.out g7;obtain⟨rfl,h'⟩:=ax.out g8;exact h'
   .obtain⟨w0,e0,g1⟩:=DG.out h;obtain⟨A2,n2,m2,rfl,g2⟩:=aE.out g1;obtain⟨w1,e1,g3⟩:=DG.out g2;obtain⟨fd2,F2,C2,rfl,g4⟩:=iw.out g3;obtain⟨x1,e7,g6⟩:=GI g4;obtain⟨x2,e8,g8⟩:=GI g6;obtain⟨rfl,h'⟩:=ax.out g8;exact cU (Λ:=(aO.Λ2 K (aO.l2 K k))) fy [] (ag.cons e0 (ag.cons e1 (ag.cons e7 (ag.cons e8 (ag.nil _))))) h' oN) oN)
def an.j20 (K:VK)(R2:OA->Nat->Nat->Int->Int->Int->FuncId->Array Value->Array Value->Bool->Bool->Hp->Prop)(A6:OA)(n6 m6:Nat)(x26 x27 x28:Int)(fd6:FuncId)(F6 C6:Array Value)(x29 x30:Int)(H:Hp):=
 Hz 292 #[.slice A6 n6 m6,I x26,I x27,I x30,.func (.func fd6) F6 C6] H fun v12 H9=>pZ v12 fun x31 c10=>(((8:Int)≠0/\i64=i64/\aq (decide ((i64.wrap (x31-x26))<(i64.wrap (x27-x31)))) (Hz 226 #[.slice A6 n6 m6,I x26,I x31,I x28,.func (.func fd6) F6 C6] H9 fun v15 H10=>R2 A6 n6 m6 (i64.wrap (x31+1)) x27 x28 fd6 F6 C6 (decide ((i64.wrap (x31-x26))>=(i64.wrap (Int.tdiv x29 8)))) c10 H10) (Hz 226 #[.slice A6 n6 m6,I (i64.wrap (x31+1)),I x27,I x28,.func (.func fd6) F6 C6] H9 fun v16 H11=>R2 A6 n6 m6 x26 x31 x28 fd6 F6 C6 (decide ((i64.wrap (x27-x31))>=(i64.wrap (Int.tdiv x29 8)))) c10 H11)))
def an.j17 (K:VK)(R2:OA->Nat->Nat->Int->Int->Int->FuncId->Array Value->Array Value->Bool->Bool->Hp->Prop)(A5:OA)(n5 m5:Nat)(x19 x20 x21:Int)(fd5:FuncId)(F5 C5:Array Value)(c8 c9:Bool)(x22 x23:Int)(H:Hp):=
 aq (decide (x19>0)) (cz (i64.wrap (x19-1)) n5 (NN A5 fun a1=>aY H (a1.add ((i64.wrap (x19-1)).toNat*8)) 8 fun l4=>cz x23 n5 (NN A5 fun a2=>aY H (a2.add (x23.toNat*8)) 8 fun l5=>jD prog fd5 ((F5++ #[.agg l4.toArray,.agg l5.toArray])++C5) H fun v9 H7=>DR prog (eM prog fd5) v9 fun v10=>DI .i64 v10 fun x24=>aq (!(decide (x24<0))) (cC 291 #[.slice A5 n5 m5,I x19,I x20,I x23,.func (.func fd5) F5 C5] H7 fun x25 H8=>R2 A5 n5 m5 x25 x20 x21 fd5 F5 C5 c8 c9 H8) (an.j20 K R2 A5 n5 m5 x19 x20 x21 fd5 F5 C5 x22 x23 H7)))) (an.j20 K R2 A5 n5 m5 x19 x20 x21 fd5 F5 C5 x22 x23 H)
def an.j15 (K:VK)(R2:OA->Nat->Nat->Int->Int->Int->FuncId->Array Value->Array Value->Bool->Bool->Hp->Prop)(A4:OA)(n4 m4:Nat)(x13 x14 x15:Int)(fd4:FuncId)(F4 C4:Array Value)(c5 c6:Bool)(x16 x17 x18:Int)(H:Hp):=
 aq c5 (aq c6 (aq (x18==1) (fP 290 #[.slice A4 n4 m4,I x13,I x14,.func (.func fd4) F4 C4] H fun c7 H6=>aq c7 (K (.tuple #[]) H6) (an.j17 K R2 A4 n4 m4 x13 x14 x15 fd4 F4 C4 c5 c6 x16 x17 H6)) (an.j17 K R2 A4 n4 m4 x13 x14 x15 fd4 F4 C4 c5 c6 x16 x17 H)) (an.j17 K R2 A4 n4 m4 x13 x14 x15 fd4 F4 C4 c5 c6 x16 x17 H)) (an.j17 K R2 A4 n4 m4 x13 x14 x15 fd4 F4 C4 c5 c6 x16 x17 H)
def an.j10 (K:VK)(R2:OA->Nat->Nat->Int->Int->Int->FuncId->Array Value->Array Value->Bool->Bool->Hp->Prop)(A3:OA)(n3 m3:Nat)(x7 x8 x9:Int)(fd3:FuncId)(F3 C3:Array Value)(c3 c4:Bool)(x10:Int)(H:Hp):=
 Hz 288 #[.slice A3 n3 m3,I x7,I x8,.func (.func fd3) F3 C3] H fun v4 H4=>pa v4 fun x11 x12=>(aq (x12==2) (Hz 289 #[.slice A3 n3 m3,I x7,I x8,.func (.func fd3) F3 C3] H4 fun v7 H5=>an.j15 K R2 A3 n3 m3 x7 x8 x9 fd3 F3 C3 c3 c4 x10 (i64.wrap ((i64.wrap (x8-1))-(i64.wrap (x11-x7)))) 1 H5) (an.j15 K R2 A3 n3 m3 x7 x8 x9 fd3 F3 C3 c3 c4 x10 x11 x12 H4))
def an.l2 (K:VK):Nat->OA->Nat->Nat->Int->Int->Int->FuncId->Array Value->Array Value->Bool->Bool->Hp->Prop
 |0,_,_,_,_,_,_,_,_,_,_,_,_=>False
 |k+1,A2,n2,m2,x4,x5,x6,fd2,F2,C2,c1,c2,H=>
  let R2:=an.l2 K k
  aq (decide ((i64.wrap (x5-x4))<=12)) (Hz 285 #[.slice A2 n2 m2,I x4,I x5,.func (.func fd2) F2 C2] H fun v1 H1=>K (.tuple #[]) H1) (aq (x6==0) (Hz 286 #[.slice A2 n2 m2,I x4,I x5,.func (.func fd2) F2 C2] H fun v2 H2=>K (.tuple #[]) H2) (aq (!c1) (Hz 287 #[.slice A2 n2 m2,I x4,I x5,.func (.func fd2) F2 C2] H fun v3 H3=>an.j10 K R2 A2 n2 m2 x4 x5 (i64.wrap (x6-1)) fd2 F2 C2 c1 c2 (i64.wrap (x5-x4)) H3) (an.j10 K R2 A2 n2 m2 x4 x5 x6 fd2 F2 C2 c1 c2 (i64.wrap (x5-x4)) H)))
def an (A1:OA)(n1 m1:Nat)(x1 x2 x3:Int)(fd1:FuncId)(F1 C1:Array Value)(H:Hp)(K:VK):Prop:=
 (∃ k,an.l2 K k A1 n1 m1 x1 x2 x3 fd1 F1 C1 true true H)
def an.l2.L (K:VK)(k:Nat):de:=fun E D H=>
 DG (E.get? 0) fun w0=>aE w0 fun A2 n2 m2=>eI E 1 .i64 fun x4=>eI E 2 .i64 fun x5=>eI E 3 .i64 fun x6=>DG (E.get? 4) fun w4=>iw w4 fun fd2 F2 C2=>DG (E.get? 10) fun w10=>DB w10 fun c1=>DG (E.get? 11) fun w11=>DB w11 fun c2=>ax D (an.l2 K k A2 n2 m2 x4 x5 x6 fd2 F2 C2 c1 c2 H)
def an.Λ2 (K:VK)(R2:OA→Nat→Nat→Int→Int→Int→FuncId→Array Value→Array Value→Bool→Bool→Hp→Prop):aI:=⟨fun i=>match Nat.beq i 20 with|true=>some (fun E D H=>DG (E.get? 0) fun w0=>aE w0 fun A6 n6 m6=>eI E 1 .i64 fun x26=>eI E 2 .i64 fun x27=>eI E 3 .i64 fun x28=>DG (E.get? 4) fun w4=>iw w4 fun fd6 F6 C6=>eI E 12 .i64 fun x29=>eI E 13 .i64 fun x30=>ax D (an.j20 K R2 A6 n6 m6 x26 x27 x28 fd6 F6 C6 x29 x30 H))|false=>match Nat.beq i 17 with|true=>some (fun E D H=>DG (E.get? 0) fun w0=>aE w0 fun A5 n5 m5=>eI E 1 .i64 fun x19=>eI E 2 .i64 fun x20=>eI E 3 .i64 fun x21=>DG (E.get? 4) fun w4=>iw w4 fun fd5 F5 C5=>DG (E.get? 10) fun w10=>DB w10 fun c8=>DG (E.get? 11) fun w11=>DB w11 fun c9=>eI E 12 .i64 fun x22=>eI E 13 .i64 fun x23=>ax D (an.j17 K R2 A5 n5 m5 x19 x20 x21 fd5 F5 C5 c8 c9 x22 x23 H))|false=>match Nat.beq i 15 with|true=>some (fun E D H=>DG (E.get? 0) fun w0=>aE w0 fun A4 n4 m4=>eI E 1 .i64 fun x13=>eI E 2 .i64 fun x14=>eI E 3 .i64 fun x15=>DG (E.get? 4) fun w4=>iw w4 fun fd4 F4 C4=>DG (E.get? 10) fun w10=>DB w10 fun c5=>DG (E.get? 11) fun w11=>DB w11 fun c6=>eI E 12 .i64 fun x16=>eI E 13 .i64 fun x17=>eI E 14 .i64 fun x18=>ax D (an.j15 K R2 A4 n4 m4 x13 x14 x15 fd4 F4 C4 c5 c6 x16 x17 x18 H))|false=>match Nat.beq i 10 with|true=>some (fun E D H=>DG (E.get? 0) fun w0=>aE w0 fun A3 n3 m3=>eI E 1 .i64 fun x7=>eI E 2 .i64 fun x8=>eI E 3 .i64 fun x9=>DG (E.get? 4) fun w4=>iw w4 fun fd3 F3 C3=>DG (E.get? 10) fun w10=>DB w10 fun c3=>DG (E.get? 11) fun w11=>DB w11 fun c4=>eI E 12 .i64 fun x10=>ax D (an.j10 K R2 A3 n3 m3 x7 x8 x9 fd3 F3 C3 c3 c4 x10 H))|false=>none,fun i=>none,(fun i=>match Nat.beq i 17 with|true=>some ([],[0,1,2,3,4,5,6,7,8,9,10,11,12],13)|false=>none)⟩
def an.Λ (K:VK):aI:=⟨fun i=>none,fun i=>match Nat.beq i 2 with|true=>some (fun E D H=>∃ k,an.l2.L K k E D H)|false=>none,(fun i=>match Nat.beq i 17 with|true=>some ([],[0,1,2,3,4,5,6,7,8,9,10,11,12],13)|false=>none)⟩
theorem an.ok A1 n1 m1 x1 x2 x3 fd1 F1 C1 H K (h:an A1 n1 m1 x1 x2 x3 fd1 F1 C1 H K):aa prog 226 #[.slice A1 n1 m1,I x1,I x2,I x3,.func (.func fd1) F1 C1] H K:=
 dV (Λ:=(an.Λ K)) fy Tryz.func226 rfl rfl h (oC (fun E D H h=>by
   refine Safe.cJ (an.l2.L K) (fun E D H h=>?_) (fun k E D H h=>?_) E D H h
   .obtain⟨w0,e0,g1⟩:=DG.out h;obtain⟨A2,n2,m2,rfl,g2⟩:=aE.out g1;obtain⟨w1,e1,g3⟩:=DG.out g2;obtain⟨x4,rfl,g4⟩:=DI.out g3;obtain⟨w2,e2,g5⟩:=DG.out g4;obtain⟨x5,rfl,g6⟩:=DI.out g5;obtain⟨w3,e3,g7⟩:=DG.out g6;obtain⟨x6,rfl,g8⟩:=DI.out g7;obtain⟨w4,e4,g9⟩:=DG.out g8;obtain⟨fd2,F2,C2,rfl,g10⟩:=iw.out g9;obtain⟨w10,e10,g11⟩:=DG.out g10;obtain⟨c1,rfl,g12⟩:=DB.out g11;obtain⟨w11,e11,g13⟩:=DG.out g12;obtain⟨c2,rfl,g14⟩:=DB.out g13;obtain⟨rfl,h'⟩:=ax.out g14;exact h'
   .obtain⟨w0,e0,g1⟩:=DG.out h;obtain⟨A2,n2,m2,rfl,g2⟩:=aE.out g1;obtain⟨x4,e1,g4⟩:=GI g2;obtain⟨x5,e2,g6⟩:=GI g4;obtain⟨x6,e3,g8⟩:=GI g6;obtain⟨w4,e4,g9⟩:=DG.out g8;obtain⟨fd2,F2,C2,rfl,g10⟩:=iw.out g9;obtain⟨w10,e10,g11⟩:=DG.out g10;obtain⟨c1,rfl,g12⟩:=DB.out g11;obtain⟨w11,e11,g13⟩:=DG.out g12;obtain⟨c2,rfl,g14⟩:=DB.out g13;obtain⟨rfl,h'⟩:=ax.out g14;exact cU (Λ:=(an.Λ2 K (an.l2 K k))) fy [] (ag.cons e0 (ag.cons e1 (ag.cons e2 (ag.cons e3 (ag.cons e4 (ag.cons e10 (ag.cons e11 (ag.nil _)))))))) h' (oC (fun E D H h=>by
      obtain⟨w0,e0,g1⟩:=DG.out h;obtain⟨A3,n3,m3,rfl,g2⟩:=aE.out g1;obtain⟨x7,e1,g4⟩:=GI g2;obtain⟨x8,e2,g6⟩:=GI g4;obtain⟨x9,e3,g8⟩:=GI g6;obtain⟨w4,e4,g9⟩:=DG.out g8;obtain⟨fd3,F3,C3,rfl,g10⟩:=iw.out g9;obtain⟨w10,e10,g11⟩:=DG.out g10;obtain⟨c3,rfl,g12⟩:=DB.out g11;obtain⟨w11,e11,g13⟩:=DG.out g12;obtain⟨c4,rfl,g14⟩:=DB.out g13;obtain⟨x10,e12,g16⟩:=GI g14;obtain⟨rfl,h'⟩:=ax.out g16;exact cU (Λ:=(an.Λ2 K (an.l2 K k))) fy [] (ag.cons e0 (ag.cons e1 (ag.cons e2 (ag.cons e3 (ag.cons e4 (ag.cons e10 (ag.cons e11 (ag.cons e12 (ag.nil _))))))))) h' (oC (fun E D H h=>by
        obtain⟨w0,e0,g1⟩:=DG.out h;obtain⟨A4,n4,m4,rfl,g2⟩:=aE.out g1;obtain⟨x13,e1,g4⟩:=GI g2;obtain⟨x14,e2,g6⟩:=GI g4;obtain⟨x15,e3,g8⟩:=GI g6;obtain⟨w4,e4,g9⟩:=DG.out g8;obtain⟨fd4,F4,C4,rfl,g10⟩:=iw.out g9;obtain⟨w10,e10,g11⟩:=DG.out g10;obtain⟨c5,rfl,g12⟩:=DB.out g11;obtain⟨w11,e11,g13⟩:=DG.out g12;obtain⟨c6,rfl,g14⟩:=DB.out g13;obtain⟨x16,e12,g16⟩:=GI g14;obtain⟨x17,e13,g18⟩:=GI g16;obtain⟨x18,e14,g20⟩:=GI g18;obtain⟨rfl,h'⟩:=ax.out g20;exact cU (Λ:=(an.Λ2 K (an.l2 K k))) fy [] (ag.cons e0 (ag.cons e1 (ag.cons e2 (ag.cons e3 (ag.cons e4 (ag.cons e10 (ag.cons e11 (ag.cons e12 (ag.cons e13 (ag.cons e14 (ag.nil _))))))))))) h' (oC (fun E D H h=>by
          obtain⟨w0,e0,g1⟩:=DG.out h;obtain⟨A5,n5,m5,rfl,g2⟩:=aE.out g1;obtain⟨x19,e1,g4⟩:=GI g2;obtain⟨x20,e2,g6⟩:=GI g4;obtain⟨x21,e3,g8⟩:=GI g6;obtain⟨w4,e4,g9⟩:=DG.out g8;obtain⟨fd5,F5,C5,rfl,g10⟩:=iw.out g9;obtain⟨w10,e10,g11⟩:=DG.out g10;obtain⟨c8,rfl,g12⟩:=DB.out g11;obtain⟨w11,e11,g13⟩:=DG.out g12;obtain⟨c9,rfl,g14⟩:=DB.out g13;obtain⟨x22,e12,g16⟩:=GI g14;obtain⟨x23,e13,g18⟩:=GI g16;obtain⟨rfl,h'⟩:=ax.out g18;exact cU (Λ:=(an.Λ2 K (an.l2 K k))) fy [] (ag.cons e0 (ag.cons e1 (ag.cons e2 (ag.cons e3 (ag.cons e4 (ag.cons e10 (ag.cons e11 (ag.cons e12 (ag.cons e13 (ag.nil _)))))))))) h' (oC (fun E D H h=>by
            obtain⟨w0,e0,g1⟩:=DG.out h;obtain⟨A6,n6,m6,rfl,g2⟩:=aE.out g1;obtain⟨x26,e1,g4⟩:=GI g2;obtain⟨x27,e2,g6⟩:=GI g4;obtain⟨x28,e3,g8⟩:=GI g6;obtain⟨w4,e4,g9⟩:=DG.out g8;obtain⟨fd6,F6,C6,rfl,g10⟩:=iw.out g9;obtain⟨x29,e12,g12⟩:=GI g10;obtain⟨x30,e13,g14⟩:=GI g12;obtain⟨rfl,h'⟩:=ax.out g14;exact cU (Λ:=(an.Λ2 K (an.l2 K k))) fy [] (ag.cons e0 (ag.cons e1 (ag.cons e2 (ag.cons e3 (ag.cons e4 (ag.cons e12 (ag.cons e13 (ag.nil _)))))))) h' oN) oN)) oN)) oN)) oN)) oN)
def ao.l4 (K:VK)(R1:OA->Nat->Nat->Int->Int->FuncId->Array Value->Array Value->Int->Hp->Prop):Nat->OA->Nat->Nat->Int->Int->FuncId->Array Value->Array Value->Int->Int->Hp->Prop
 |0,_,_,_,_,_,_,_,_,_,_,_=>False
 |k+1,A3,n3,m3,x6,x7,fd3,F3,C3,x8,x9,H=>
  let R4:=ao.l4 K R1 k
  aq (decide (x9>x6)) (cz x9 n3 (NN A3 fun a1=>aY H (a1.add (x9.toNat*8)) 8 fun l1=>cz (i64.wrap (x9-1)) n3 (NN A3 fun a2=>aY H (a2.add ((i64.wrap (x9-1)).toNat*8)) 8 fun l2=>jD prog fd3 ((F3++ #[.agg l1.toArray,.agg l2.toArray])++C3) H fun v1 H1=>DR prog (eM prog fd3) v1 fun v2=>DI .i64 v2 fun x10=>aq (decide (x10<0)) (cz (i64.wrap (x9-1)) n3 (NN A3 fun a3=>cz x9 n3 (NN A3 fun a4=>(aY H1 (a3.add ((i64.wrap (x9-1)).toNat*8)) 8 fun l3=>aY H1 (a4.add (x9.toNat*8)) 8 fun l4=>cz x9 n3 (NN A3 fun a5=>cK H1 (a5.add (x9.toNat*8)) l3.toArray 8 fun H2=>cz (i64.wrap (x9-1)) n3 (NN A3 fun a6=>cK H2 (a6.add ((i64.wrap (x9-1)).toNat*8)) l4.toArray 8 fun H3=>R4 A3 n3 m3 x6 x7 fd3 F3 C3 x8 (i64.wrap (x9-1)) H3)))/\(aY H1 (a4.add (x9.toNat*8)) 8 fun l5=>aY H1 (a3.add ((i64.wrap (x9-1)).toNat*8)) 8 fun l6=>cz x9 n3 (NN A3 fun a7=>cK H1 (a7.add (x9.toNat*8)) l6.toArray 8 fun H4=>cz (i64.wrap (x9-1)) n3 (NN A3 fun a8=>cK H4 (a8.add ((i64.wrap (x9-1)).toNat*8)) l5.toArray 8 fun H5=>R4 A3 n3 m3 x6 x7 fd3 F3 C3 x8 (i64.wrap (x9-1)) H5)))))) (R1 A3 n3 m3 x6 x7 fd3 F3 C3 (i64.wrap (x8+1)) H1)))) (R1 A3 n3 m3 x6 x7 fd3 F3 C3 (i64.wrap (x8+1)) H)
def ao.l1 (K:VK):Nat->OA->Nat->Nat->Int->Int->FuncId->Array Value->Array Value->Int->Hp->Prop
 |0,_,_,_,_,_,_,_,_,_,_=>False
 |k+1,A2,n2,m2,x3,x4,fd2,F2,C2,x5,H=>
  let R1:=ao.l1 K k
  aq (decide (x5<x4)) ((∃ k,ao.l4 K R1 k A2 n2 m2 x3 x4 fd2 F2 C2 x5 x5 H)) (K (.tuple #[]) H)
def ao (A1:OA)(n1 m1:Nat)(x1 x2:Int)(fd1:FuncId)(F1 C1:Array Value)(H:Hp)(K:VK):Prop:=
 (∃ k,ao.l1 K k A1 n1 m1 x1 x2 fd1 F1 C1 (i64.wrap (x1+1)) H)
def ao.l1.L (K:VK)(k:Nat):de:=fun E D H=>
 DG (E.get? 0) fun w0=>aE w0 fun A2 n2 m2=>eI E 1 .i64 fun x3=>eI E 2 .i64 fun x4=>DG (E.get? 3) fun w3=>iw w3 fun fd2 F2 C2=>eI E 8 .i64 fun x5=>ax D (ao.l1 K k A2 n2 m2 x3 x4 fd2 F2 C2 x5 H)
def ao.l4.L (K:VK)(R1:OA->Nat->Nat->Int->Int->FuncId->Array Value->Array Value->Int->Hp->Prop)(k:Nat):de:=fun E D H=>
 DG (E.get? 0) fun w0=>aE w0 fun A3 n3 m3=>eI E 1 .i64 fun x6=>eI E 2 .i64 fun x7=>DG (E.get? 3) fun w3=>iw w3 fun fd3 F3 C3=>eI E 8 .i64 fun x8=>eI E 9 .i64 fun x9=>ax D (ao.l4 K R1 k A3 n3 m3 x6 x7 fd3 F3 C3 x8 x9 H)
def ao.Λ4 (_:VK)(_R1:OA→Nat→Nat→Int→Int→FuncId→Array Value→Array Value→Int→Hp→Prop)(_R4:OA→Nat→Nat→Int→Int→FuncId→Array Value→Array Value→Int→Int→Hp→Prop):aI:=aI.none (fun i=>match Nat.beq i 6 with|true=>some ([],[0,0,0,0,8,0,0,64,224,480,0,0,3072,7168,16355,32739,65535,131071],0)|false=>match Nat.beq i 4 with|true=>some ([],[0,1,2,3,4,5,6,7,8,9,10,11,12,13],14)|false=>none)
def ao.Λ1 (K:VK)(R1:OA→Nat→Nat→Int→Int→FuncId→Array Value→Array Value→Int→Hp→Prop):aI:=⟨fun i=>none,fun i=>match Nat.beq i 4 with|true=>some (fun E D H=>∃ k,ao.l4.L K R1 k E D H)|false=>none,(fun i=>match Nat.beq i 6 with|true=>some ([],[0,0,0,0,8,0,0,64,224,480,0,0,3072,7168,16355,32739,65535,131071],0)|false=>match Nat.beq i 4 with|true=>some ([],[0,1,2,3,4,5,6,7,8,9,10,11,12,13],14)|false=>none)⟩
def ao.Λ (K:VK):aI:=⟨fun i=>none,fun i=>match Nat.beq i 1 with|true=>some (fun E D H=>∃ k,ao.l1.L K k E D H)|false=>none,(fun i=>match Nat.beq i 6 with|true=>some ([],[0,0,0,0,8,0,0,64,224,480,0,0,3072,7168,16355,32739,65535,131071],0)|false=>match Nat.beq i 4 with|true=>some ([],[0,1,2,3,4,5,6,7,8,9,10,11,12,13],14)|false=>none)⟩
theorem ao.ok A1 n1 m1 x1 x2 fd1 F1 C1 H K (h:ao A1 n1 m1 x1 x2 fd1 F1 C1 H K):aa prog 285 #[.slice A1 n1 m1,I x1,I x2,.func (.func fd1) F1 C1] H K:=
 dV (Λ:=(ao.Λ K)) fy Tryz.func285 rfl rfl h (oC (fun E D H h=>by
   refine Safe.cJ (ao.l1.L K) (fun E D H h=>?_) (fun k E D H h=>?_) E D H h
   .obtain⟨w0,e0,g1⟩:=DG.out h;obtain⟨A2,n2,m2,rfl,g2⟩:=aE.out g1;obtain⟨w1,e1,g3⟩:=DG.out g2;obtain⟨x3,rfl,g4⟩:=DI.out g3;obtain⟨w2,e2,g5⟩:=DG.out g4;obtain⟨x4,rfl,g6⟩:=DI.out g5;obtain⟨w3,e3,g7⟩:=DG.out g6;obtain⟨fd2,F2,C2,rfl,g8⟩:=iw.out g7;obtain⟨w8,e8,g9⟩:=DG.out g8;obtain⟨x5,rfl,g10⟩:=DI.out g9;obtain⟨rfl,h'⟩:=ax.out g10;exact h'
   .obtain⟨w0,e0,g1⟩:=DG.out h;obtain⟨A2,n2,m2,rfl,g2⟩:=aE.out g1;obtain⟨x3,e1,g4⟩:=GI g2;obtain⟨x4,e2,g6⟩:=GI g4;obtain⟨w3,e3,g7⟩:=DG.out g6;obtain⟨fd2,F2,C2,rfl,g8⟩:=iw.out g7;obtain⟨x5,e8,g10⟩:=GI g8;obtain⟨rfl,h'⟩:=ax.out g10;exact cU (Λ:=(ao.Λ1 K (ao.l1 K k))) fy [] (ag.cons e0 (ag.cons e1 (ag.cons e2 (ag.cons e3 (ag.cons e8 (ag.nil _)))))) h' (oC (fun E D H h=>by
      refine Safe.cJ (ao.l4.L K (ao.l1 K k)) (fun E D H h=>?_) (fun k E D H h=>?_) E D H h
      .obtain⟨w0,e0,g1⟩:=DG.out h;obtain⟨A3,n3,m3,rfl,g2⟩:=aE.out g1;obtain⟨w1,e1,g3⟩:=DG.out g2;obtain⟨x6,rfl,g4⟩:=DI.out g3;obtain⟨w2,e2,g5⟩:=DG.out g4;obtain⟨x7,rfl,g6⟩:=DI.out g5;obtain⟨w3,e3,g7⟩:=DG.out g6;obtain⟨fd3,F3,C3,rfl,g8⟩:=iw.out g7;obtain⟨w8,e8,g9⟩:=DG.out g8;obtain⟨x8,rfl,g10⟩:=DI.out g9;obtain⟨w9,e9,g11⟩:=DG.out g10;obtain⟨x9,rfl,g12⟩:=DI.out g11;obtain⟨rfl,h'⟩:=ax.out g12;exact h'
      .obtain⟨w0,e0,g1⟩:=DG.out h;obtain⟨A3,n3,m3,rfl,g2⟩:=aE.out g1;obtain⟨x6,e1,g4⟩:=GI g2;obtain⟨x7,e2,g6⟩:=GI g4;obtain⟨w3,e3,g7⟩:=DG.out g6;obtain⟨fd3,F3,C3,rfl,g8⟩:=iw.out g7;obtain⟨x8,e8,g10⟩:=GI g8;obtain⟨x9,e9,g12⟩:=GI g10;obtain⟨rfl,h'⟩:=ax.out g12;exact cU (Λ:=(ao.Λ4 K (ao.l1 K k) (ao.l4 K (ao.l1 K k) k))) fy [] (ag.cons e0 (ag.cons e1 (ag.cons e2 (ag.cons e3 (ag.cons e8 (ag.cons e9 (ag.nil _))))))) h' oN) oN)) oN)
theorem AG :prog.follows .mixedOrders=true:=by kernel_rfl
def ik (x1 x2:Int)(H:Hp)(K:VK):Prop:=
 fP 228 #[U x1] H fun c1 H1=>fP 228 #[U x2] H1 fun c2 H2=>aq c1 (aq c2 (K (I 0) H2) (K (I (-1)) H2)) (aq c2 (K (I 1) H2) (aq (decide (x1<x2)) (K (I (-1)) H2) (aq (decide (x1>x2)) (K (I 1) H2) (K (I 0) H2))))
theorem ik.ok x1 x2 H K (h:ik x1 x2 H K):aa prog 161 #[U x1,U x2] H K:=
 bX AG Tryz.func161 rfl rfl h
def iZ (x1:Int)(H:Hp)(K:VK):Prop:=
 K (.bool (x1 !=x1)) H
theorem iZ.ok x1 H K (h:iZ x1 H K):aa prog 228 #[U x1] H K:=
 bX AG Tryz.func228 rfl rfl h
theorem hZ :prog.follows .mixedOrders=true:=by kernel_rfl
def fv.q1 (H2:Hp)(b1:Nat)(K:VK)(x1:Int):=
 cK H2 (O b1) #[U 0,I 0,I 0,I 0,I 0,Oi 0,Oi 0,Oi 0] 8 fun H3=>aY H3 (O b1) 8 fun l5=>K (.tuple #[.agg l5.toArray,.bool false,I x1]) H3
def fv (p1:OA)(H:Hp)(K:VK):Prop:=
 Nw H (Oa #[U 0,I 0,I 0,I 0,I 0,Oi 0,Oi 0,Oi 0] 110) fun b1 H1=>Hz 98 #[.pointer p1] H1 fun v1 H2=>kc v1 fun A1 n1 m1 x1=>(aq (x1 !=0) (fv.q1 H2 b1 K x1) (aq ((n1:Int)==0) (fv.q1 H2 b1 K x1) (cz (i64.wrap ((n1:Int)-1)) n1 (NN A1 fun a1=>aY H2 (a1.add ((i64.wrap ((n1:Int)-1)).toNat*8)) 8 fun l4=>cK H2 (O b1) l4.toArray 8 fun H5=>aY H5 (O b1) 8 fun l7=>K (.tuple #[.agg l7.toArray,.bool true,I 0]) H5))))
theorem fv.ok p1 H K (h:fv p1 H K):aa prog 82 #[.pointer p1] H K:=
 bX hZ Tryz.func82 rfl rfl h
def bh.j5 (K:VK)(R2:OA->OA->Nat->Nat->Int->Int->Hp->Prop)(p5 A4:OA)(n4 m4:Nat)(x8:Int)(A5:OA)(n5 m5:Nat)(x9 x10 x11:Int)(H:Hp):=
 aq (x9 !=0) (K (.tuple #[.slice none 0 0,I x9]) H) (Hz 157 #[.slice A5 n5 m5] H fun v12 H3=>nZ v12 fun y1 x12=>(Nw H3 (Oa #[U 0,I 0,I 0,I 0,I 0,Oi 0,Oi 0,Oi 0] 110) fun b1 H4=>cK H4 (O b1) y1 8 fun H5=>aq (x12==0) (df H5 ((O b1).add 0) fun x13=>eG 158 #[.pointer p5,U x13] H5 fun x14=>NN p5 fun a4=>aM H5 ((a4.add 0).add 0) fun x15=>aq (x14==(i64.wrap (x15+x8))) (aY H5 (O b1) 8 fun l10=>vC l10.toArray.toList fun x16 x17 x18 x19 x20 x21 x22 x23=>(Nw H5 (.row [U x16,I x17,I x18,I x19,I x20,Oi x21,Oi x22,Oi x23] 110 8) fun b2 H6=>jq prog 110 (.slice A4 n4 m4) (.slice (Oo b2) 1 1) H6 fun v26 H7=>aE v26 fun A6 n6 m6=>R2 p5 A6 n6 m6 x10 (i64.wrap (x11+1)) H7)) (R2 p5 A4 n4 m4 x10 (i64.wrap (x11+1)) H5)) (R2 p5 A4 n4 m4 x10 (i64.wrap (x11+1)) H5)))
def bh.l2 (K:VK):Nat->OA->OA->Nat->Nat->Int->Int->Hp->Prop
 |0,_,_,_,_,_,_,_=>False
 |k+1,p2,A1,n1,m1,x2,x3,H=>
  let R2:=bh.l2 K k
  aq (decide (x3<x2)) (NN p2 fun a2=>NN p2 fun a3=>(bj H (a2.add 3) fun p3=>aM H ((a3.add 0).add 0) fun x4=>Hz 46 #[.pointer p3,I (i64.wrap (x4+x3))] H fun v4 H1=>kc v4 fun A2 n2 m2 x5=>(bh.j5 K R2 p2 A1 n1 m1 x3 A2 n2 m2 x5 x2 x3 H1))/\(aM H ((a3.add 0).add 0) fun x6=>bj H (a2.add 3) fun p4=>Hz 46 #[.pointer p4,I (i64.wrap (x6+x3))] H fun v9 H2=>kc v9 fun A3 n3 m3 x7=>(bh.j5 K R2 p2 A1 n1 m1 x3 A3 n3 m3 x7 x2 x3 H2))) (Hz 159 #[.slice A1 n1 m1,.func (.func 160) #[] #[]] H fun v27 H8=>K (.tuple #[.slice A1 n1 m1,I 0]) H8)
def bh (p1:OA)(H:Hp)(K:VK):Prop:=
 NN p1 fun a1=>aM H ((a1.add 0).add 1) fun x1=>(∃ k,bh.l2 K k p1 none 0 0 x1 0 H)
def bh.l2.L (K:VK)(k:Nat):de:=fun E D H=>
 eP E 0 fun p2=>DG (E.get? 2) fun w2=>aE w2 fun A1 n1 m1=>eI E 13 .i64 fun x2=>eI E 14 .i64 fun x3=>ax D (bh.l2 K k p2 A1 n1 m1 x2 x3 H)
def bh.Λ2 (K:VK)(R2:OA→OA→Nat→Nat→Int→Int→Hp→Prop):aI:=⟨fun i=>match Nat.beq i 5 with|true=>some (fun E D H=>eP E 0 fun p5=>DG (E.get? 2) fun w2=>aE w2 fun A4 n4 m4=>eI E 4 .i64 fun x8=>DG (E.get? 5) fun w5=>aE w5 fun A5 n5 m5=>eI E 6 .i64 fun x9=>eI E 13 .i64 fun x10=>eI E 14 .i64 fun x11=>ax D (bh.j5 K R2 p5 A4 n4 m4 x8 A5 n5 m5 x9 x10 x11 H))|false=>none,fun i=>none,(fun i=>match Nat.beq i 4 with|true=>some ([],[0,1,3,7,0,16,48,112,240,0,1008,2047,4095,8191,8191,16383,65535],0)|false=>none)⟩
def bh.Λ (K:VK):aI:=⟨fun i=>none,fun i=>match Nat.beq i 2 with|true=>some (fun E D H=>∃ k,bh.l2.L K k E D H)|false=>none,(fun i=>match Nat.beq i 4 with|true=>some ([],[0,1,3,7,0,16,48,112,240,0,1008,2047,4095,8191,8191,16383,65535],0)|false=>none)⟩
theorem bh.ok p1 H K (h:bh p1 H K):aa prog 98 #[.pointer p1] H K:=
 dV (Λ:=(bh.Λ K)) hZ Tryz.func98 rfl rfl h (oC (fun E D H h=>by
   refine Safe.cJ (bh.l2.L K) (fun E D H h=>?_) (fun k E D H h=>?_) E D H h
   .obtain⟨w0,e0,g1⟩:=DG.out h;obtain⟨p2,rfl,g2⟩:=DP.out g1;obtain⟨w2,e2,g3⟩:=DG.out g2;obtain⟨A1,n1,m1,rfl,g4⟩:=aE.out g3;obtain⟨w13,e13,g5⟩:=DG.out g4;obtain⟨x2,rfl,g6⟩:=DI.out g5;obtain⟨w14,e14,g7⟩:=DG.out g6;obtain⟨x3,rfl,g8⟩:=DI.out g7;obtain⟨rfl,h'⟩:=ax.out g8;exact h'
   .obtain⟨p2,e0,g2⟩:=GP h;obtain⟨w2,e2,g3⟩:=DG.out g2;obtain⟨A1,n1,m1,rfl,g4⟩:=aE.out g3;obtain⟨x2,e13,g6⟩:=GI g4;obtain⟨x3,e14,g8⟩:=GI g6;obtain⟨rfl,h'⟩:=ax.out g8;exact cU (Λ:=(bh.Λ2 K (bh.l2 K k))) hZ [] (ag.cons e0 (ag.cons e2 (ag.cons e13 (ag.cons e14 (ag.nil _))))) h' (oC (fun E D H h=>by
      obtain⟨p5,e0,g2⟩:=GP h;obtain⟨w2,e2,g3⟩:=DG.out g2;obtain⟨A4,n4,m4,rfl,g4⟩:=aE.out g3;obtain⟨x8,e4,g6⟩:=GI g4;obtain⟨w5,e5,g7⟩:=DG.out g6;obtain⟨A5,n5,m5,rfl,g8⟩:=aE.out g7;obtain⟨x9,e6,g10⟩:=GI g8;obtain⟨x10,e13,g12⟩:=GI g10;obtain⟨x11,e14,g14⟩:=GI g12;obtain⟨rfl,h'⟩:=ax.out g14;exact cU (Λ:=(bh.Λ2 K (bh.l2 K k))) hZ [] (ag.cons e0 (ag.cons e2 (ag.cons e4 (ag.cons e5 (ag.cons e6 (ag.cons e13 (ag.cons e14 (ag.nil _)))))))) h' oN) oN)) oN)
def bm.l2.q1 (p4:OA)(x5 x3:Int)(A1:OA)(n1 m1:Nat)(H1:Hp)(K:VK)(R2:OA->Int->Int->Hp->Prop)(p2:OA)(x2:Int):=
 cC 47 #[.pointer p4,I (i64.wrap (x5+x3)),.slice A1 n1 m1] H1 fun x6 H2=>aq (x6 !=0) (K (I x6) H2) (R2 p2 x2 (i64.wrap (x3+1)) H2)
def bm.l2 (K:VK):Nat->OA->Int->Int->Hp->Prop
 |0,_,_,_,_=>False
 |k+1,p2,x2,x3,H=>
  let R2:=bm.l2 K k
  aq (decide (x3<x2)) (NN p2 fun a2=>NN p2 fun a3=>NN p2 fun a4=>bj H (a4.add 3) fun p3=>NN p3 fun a5=>eG 124 #[.pointer (some (a5.add 0))] H fun x4=>(bj H (a2.add 3) fun p4=>(aM H ((a3.add 0).add 0) fun x5=>jA prog 5 x4 x4 H fun v6 H1=>aE v6 fun A1 n1 m1=>bm.l2.q1 p4 x5 x3 A1 n1 m1 H1 K R2 p2 x2)/\(jA prog 5 x4 x4 H fun v8 H3=>aE v8 fun A2 n2 m2=>aM H3 ((a3.add 0).add 0) fun x7=>bm.l2.q1 p4 x7 x3 A2 n2 m2 H3 K R2 p2 x2))/\(aM H ((a3.add 0).add 0) fun x9=>(bj H (a2.add 3) fun p5=>jA prog 5 x4 x4 H fun v13 H5=>aE v13 fun A3 n3 m3=>bm.l2.q1 p5 x9 x3 A3 n3 m3 H5 K R2 p2 x2)/\(jA prog 5 x4 x4 H fun v15 H7=>aE v15 fun A4 n4 m4=>bj H7 (a2.add 3) fun p6=>bm.l2.q1 p6 x9 x3 A4 n4 m4 H7 K R2 p2 x2))/\(jA prog 5 x4 x4 H fun v18 H9=>aE v18 fun A5 n5 m5=>bj H9 (a2.add 3) fun p7=>aM H9 ((a3.add 0).add 0) fun x12=>bm.l2.q1 p7 x12 x3 A5 n5 m5 H9 K R2 p2 x2)) (NN p2 fun a6=>bj H (a6.add 3) fun p8=>cC 127 #[.pointer p8] H fun x14 H11=>K (I x14) H11)
def bm (p1:OA)(H:Hp)(K:VK):Prop:=
 NN p1 fun a1=>aM H ((a1.add 0).add 1) fun x1=>(∃ k,bm.l2 K k p1 x1 0 H)
def bm.l2.L (K:VK)(k:Nat):de:=fun E D H=>
 eP E 0 fun p2=>eI E 9 .i64 fun x2=>eI E 10 .i64 fun x3=>ax D (bm.l2 K k p2 x2 x3 H)
def bm.Λ2 (_:VK)(_R2:OA→Int→Int→Hp→Prop):aI:=aI.none (fun i=>match Nat.beq i 4 with|true=>some ([3,8,14,17],[0,1,3,7,0,16,48,112,240,0,1008,0,2048,6144,14336,30720,63488,129024,260096,524287,1048575],0)|false=>none)
def bm.Λ (K:VK):aI:=⟨fun i=>none,fun i=>match Nat.beq i 2 with|true=>some (fun E D H=>∃ k,bm.l2.L K k E D H)|false=>none,(fun i=>match Nat.beq i 4 with|true=>some ([3,8,14,17],[0,1,3,7,0,16,48,112,240,0,1008,0,2048,6144,14336,30720,63488,129024,260096,524287,1048575],0)|false=>none)⟩
theorem bm.ok p1 H K (h:bm p1 H K):aa prog 128 #[.pointer p1] H K:=
 dV (Λ:=(bm.Λ K)) hZ Tryz.func128 rfl rfl h (oC (fun E D H h=>by
   refine Safe.cJ (bm.l2.L K) (fun E D H h=>?_) (fun k E D H h=>?_) E D H h
   .obtain⟨w0,e0,g1⟩:=DG.out h;obtain⟨p2,rfl,g2⟩:=DP.out g1;obtain⟨w9,e9,g3⟩:=DG.out g2;obtain⟨x2,rfl,g4⟩:=DI.out g3;obtain⟨w10,e10,g5⟩:=DG.out g4;obtain⟨x3,rfl,g6⟩:=DI.out g5;obtain⟨rfl,h'⟩:=ax.out g6;exact h'
   .obtain⟨p2,e0,g2⟩:=GP h;obtain⟨x2,e9,g4⟩:=GI g2;obtain⟨x3,e10,g6⟩:=GI g4;obtain⟨rfl,h'⟩:=ax.out g6;exact cU (Λ:=(bm.Λ2 K (bm.l2 K k))) hZ [] (ag.cons e0 (ag.cons e9 (ag.cons e10 (ag.nil _)))) h' oN) oN)
def pA (p1:OA)(x1 x2 x3:Int)(H:Hp)(K:VK):Prop:=
 Nw H (Oa #[I x1,I x2,I x3] 150) fun b1 H1=>aq p1.isNone (K (.tuple #[.pointer none,I 1]) H1) (aM H1 ((O b1).add 1) fun x4=>aq (decide (x4<2)) (K (.tuple #[.pointer none,I 2]) H1) (aM H1 ((O b1).add 0) fun x5=>aq (decide (x5<0)) (K (.tuple #[.pointer none,I 2]) H1) (aM H1 ((O b1).add 0) fun x6=>NN p1 fun a1=>eG 123 #[.pointer (some (a1.add 0))] H1 fun x7=>aq (decide (x6>=x7)) (K (.tuple #[.pointer none,I 2]) H1) (aM H1 ((O b1).add 1) fun x8=>NN p1 fun a2=>eG 123 #[.pointer (some (a2.add 0))] H1 fun x9=>aM H1 ((O b1).add 0) fun x10=>aq (decide (x8>(i64.wrap (x9-x10)))) (K (.tuple #[.pointer none,I 2]) H1) (aY H1 (O b1) 3 fun l1=>C0 l1.toArray.toList fun x11 x12 x13=>(Nw H1 (Oa #[I x11,I x12,I x13,.pointer p1] 260) fun b2 H2=>K (.tuple #[V b2,I 0]) H2))))))
theorem pA.ok p1 x1 x2 x3 H K (h:pA p1 x1 x2 x3 H K):aa prog 142 #[.pointer p1,.agg #[I x1,I x2,I x3]] H K:=
 bX hZ Tryz.func142 rfl rfl h
def kh (p1:OA)(x1:Int)(H:Hp)(K:VK):Prop:=
 NN p1 fun a1=>aM H ((a1.add 0).add 0) fun x2=>NN p1 fun a2=>aM H ((a2.add 0).add 1) fun x3=>((u64.wrap x3)≠0/\u64=u64/\K (I (i64.wrap (x2+(i64.wrap (Int.tmod (u64.wrap (x1-1)) (u64.wrap x3)))))) H)
theorem kh.ok p1 x1 H K (h:kh p1 x1 H K):aa prog 158 #[.pointer p1,U x1] H K:=
 bX hZ Tryz.func158 rfl rfl h
def je (y1 y2:Array Value)(H:Hp)(K:VK):Prop:=
 Nw H (Oa y1 110) fun b1 H1=>Nw H1 (Oa y2 110) fun b2 H2=>df H2 ((O b1).add 0) fun x1=>df H2 ((O b2).add 0) fun x2=>cC 161 #[U x1,U x2] H2 fun x3 H3=>K (I x3) H3
theorem je.ok y1 y2 H K (h:je y1 y2 H K):aa prog 160 #[.agg y1,.agg y2] H K:=
 bX hZ Tryz.func160 rfl rfl h
def bd.j9 (K:VK)(p5:OA)(a5:Addr)(A5:OA)(n5 m5:Nat)(H:Hp):=
 NN p5 fun a6=>bj H (a6.add 3) fun p6=>df H (a5.add 0) fun x13=>eG 158 #[.pointer p5,U x13] H fun x14=>cC 47 #[.pointer p6,I x14,.slice A5 n5 m5] H fun x15 H12=>aq (x15 !=0) (K (I x15) H12) (NN p5 fun a7=>bj H12 (a7.add 3) fun p7=>cC 127 #[.pointer p7] H12 fun x16 H13=>K (I x16) H13)
def bd.j2 (K:VK)(p4:OA)(a4:Addr)(A4:OA)(n4 m4:Nat)(x7:Int)(H:Hp):=
 aq (x7 !=0) (K (I 10) H) (Hz 82 #[.pointer p4] H fun v15 H8=>C' v15 fun y2 c1 x8=>(Nw H8 (Oa #[U 0,I 0,I 0,I 0,I 0,Oi 0,Oi 0,Oi 0] 110) fun b2 H9=>cK H9 (O b2) y2 8 fun H10=>aq (x8 !=0) (K (I x8) H10) (aq c1 (aY H10 (O b2) 8 fun l17=>aY H10 a4 8 fun l18=>fP 215 #[.agg l17.toArray,.agg l18.toArray] H10 fun c2 H11=>aq (!c2) (K (I 5) H11) (aq (!c1) (df H11 (a4.add 0) fun x9=>aq (x9 !=1) (K (I 5) H11) (aM H11 (a4.add 1) fun x11=>aq (x11 !=1) (K (I 5) H11) (bd.j9 K p4 a4 A4 n4 m4 H11))) (bd.j9 K p4 a4 A4 n4 m4 H11))) (aq (!c1) (df H10 (a4.add 0) fun x10=>aq (x10 !=1) (K (I 5) H10) (aM H10 (a4.add 1) fun x12=>aq (x12 !=1) (K (I 5) H10) (bd.j9 K p4 a4 A4 n4 m4 H10))) (bd.j9 K p4 a4 A4 n4 m4 H10)))))
def bd.q1 (l1:List Value)(x1:Int)(H2:Hp)(K:VK)(p1:OA)(b1:Nat):=
 Hz 241 #[.agg l1.toArray,I x1] H2 fun v3 H3=>kc v3 fun A1 n1 m1 x2=>(bd.j2 K p1 (O b1) A1 n1 m1 x2 H3)
def bd (p1:OA)(y1:Array Value)(H:Hp)(K:VK):Prop:=
 Nw H (Oa y1 110) fun b1 H1=>NN p1 fun a1=>(aY H1 (O b1) 8 fun l1=>bj H1 (a1.add 3) fun p2=>NN p2 fun a2=>cC 124 #[.pointer (some (a2.add 0))] H1 fun x1 H2=>bd.q1 l1 x1 H2 K p1 b1)/\(bj H1 (a1.add 3) fun p3=>NN p3 fun a3=>(aY H1 (O b1) 8 fun l5=>cC 124 #[.pointer (some (a3.add 0))] H1 fun x3 H4=>bd.q1 l5 x3 H4 K p1 b1)/\(cC 124 #[.pointer (some (a3.add 0))] H1 fun x5 H6=>aY H6 (O b1) 8 fun l9=>bd.q1 l9 x5 H6 K p1 b1))
def bd.Λ (K:VK):aI:=⟨fun i=>match Nat.beq i 9 with|true=>some (fun E D H=>eP E 0 fun p5=>eN E 3 fun a5=>DG (E.get? 5) fun w5=>aE w5 fun A5 n5 m5=>ax D (bd.j9 K p5 a5 A5 n5 m5 H))|false=>match Nat.beq i 2 with|true=>some (fun E D H=>eP E 0 fun p4=>eN E 3 fun a4=>DG (E.get? 5) fun w5=>aE w5 fun A4 n4 m4=>eI E 6 .i64 fun x7=>ax D (bd.j2 K p4 a4 A4 n4 m4 x7 H))|false=>none,fun i=>none,(fun i=>match Nat.beq i 9 with|true=>some ([],[0,1,2,3,4,5,6,7,8],9)|false=>match Nat.beq i 1 with|true=>some ([],[0,0,2,6,14,30,62,126,255,511,1023,1023,2047,8191],0)|false=>none)⟩
theorem bd.ok p1 y1 H K (h:bd p1 y1 H K):aa prog 170 #[.pointer p1,.agg y1] H K:=
 dV (Λ:=(bd.Λ K)) hZ Tryz.func170 rfl rfl h (oC (fun E D H h=>by
   obtain⟨p4,e0,g2⟩:=GP h;obtain⟨a4,e3,g5⟩:=GN g2;obtain⟨w5,e5,g6⟩:=DG.out g5;obtain⟨A4,n4,m4,rfl,g7⟩:=aE.out g6;obtain⟨x7,e6,g9⟩:=GI g7;obtain⟨rfl,h'⟩:=ax.out g9;exact cU (Λ:=(bd.Λ K)) hZ [] (ag.cons e0 (ag.cons e3 (ag.cons e5 (ag.cons e6 (ag.nil _))))) h' (oC (fun E D H h=>by
     obtain⟨p5,e0,g2⟩:=GP h;obtain⟨a5,e3,g5⟩:=GN g2;obtain⟨w5,e5,g6⟩:=DG.out g5;obtain⟨A5,n5,m5,rfl,g7⟩:=aE.out g6;obtain⟨rfl,h'⟩:=ax.out g7;exact cU (Λ:=(bd.Λ K)) hZ [] (ag.cons e0 (ag.cons e3 (ag.cons e5 (ag.nil _)))) h' oN) oN)) oN)
end W
namespace Lib2
open Go Go.Proofs Go.Shelf Go.RowKit
def Hb :Go.Shelf.Ren:=⟨fun|129=>294|n=>n,fun|53=>108|3=>3|4=>4|46=>213|5=>5|9=>9|n=>n,fun|n=>n⟩
theorem L5 :Go.Proofs.Lays.n129 prog Hb where
 mixed:=by kernel_rfl
 f129:=Tryz.func294.trans (congrArg some (by kernel_rfl))
 t3:=Tryz.underlying3
 a3:=Tryz.isAgg3
 z3:=Tryz.sizeOf3
 v3:=Tryz.zeroValue3
 t4:=Tryz.underlying4
 a4:=Tryz.isAgg4
 z4:=Tryz.sizeOf4
 v4:=Tryz.zeroValue4
 t5:=Tryz.underlying5
 a5:=Tryz.isAgg5
 z5:=Tryz.sizeOf5
 v5:=Tryz.zeroValue5
 t9:=Tryz.underlying9
 a9:=Tryz.isAgg9
 z9:=Tryz.sizeOf9
 v9:=Tryz.zeroValue9
 t46:=Tryz.underlying213
 a46:=Tryz.isAgg213
 z46:=Tryz.sizeOf213
 v46:=Tryz.zeroValue213
 t53:=Tryz.underlying108
 a53:=Tryz.isAgg108
 z53:=Tryz.sizeOf108
 v53:=Tryz.zeroValue108
end Lib2
end Go.Proofs.YtlgnlghmbcpmhaaGreatDoor
