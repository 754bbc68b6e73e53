import Derived.Test.YtlgnlghmbcpmhaaGreatDoorProg
import Derived.Test.YtlgnlghmbcpmhaaGreatDoorPkWholeProof7
set_option maxRecDepth 100000
set_option linter.unusedSimpArgs false
set_option linter.unusedVariables false
set_option linter.unnecessarySimpa false
set_option linter.unusedSectionVars false
open Go.IntKind (i64 u64)
namespace Go.Proofs.YtlgnlghmbcpmhaaGreatDoor
open Tryz (prog)
namespace Sup
open Go Go.Hw Go.Form W Lay
theorem Es (k sec s ar:Int)(H:Hp):aa prog 141 #[.agg (fx k sec s ar)] H (RetE (if eB k sec s ar=true then .tuple #[.agg (ir k.toNat (bP s)),I 0]else .tuple #[.agg Ay,I 1]) H):=by
 apply aa.ret;apply lr.ok;unfold lr;simp only[HS];refine(Sep.start H).nw fun b1 H' hs=>?_
 refine hs.nw fun b2 H' hs=>?_
 first|refine hs.bJ 1 rfl rfl ?_|refine hs.bJ 2 rfl rfl ?_|refine hs.bJ 3 rfl rfl ?_|refine hs.bJ 4 rfl rfl ?_|refine hs.bJ 5 rfl rfl ?_|refine hs.bJ 6 rfl rfl ?_|refine hs.bJ 7 rfl rfl ?_|refine hs.bJ 8 rfl rfl ?_
 try simp only[HV]
 refine aa.use (fA k sec s ar H') ?_
 try simp only[HV]
 by_cases h:eB k sec s ar=true
 .rw[if_pos h,h];simp only[HV];have hg:=h;unfold eB at hg;simp only[decide_eq_true_eq]at hg
  first|refine hs.ld 1 rfl rfl ?_|refine hs.ld 2 rfl rfl ?_|refine hs.ld 3 rfl rfl ?_|refine hs.ld 4 rfl rfl ?_|refine hs.ld 5 rfl rfl ?_|refine hs.ld 6 rfl rfl ?_|refine hs.ld 7 rfl rfl ?_|refine hs.ld 8 rfl rfl ?_
  try simp only[HV]
  first|refine hs.ld 1 rfl rfl ?_|refine hs.ld 2 rfl rfl ?_|refine hs.ld 3 rfl rfl ?_|refine hs.ld 4 rfl rfl ?_|refine hs.ld 5 rfl rfl ?_|refine hs.ld 6 rfl rfl ?_|refine hs.ld 7 rfl rfl ?_|refine hs.ld 8 rfl rfl ?_
  try simp only[HV]
  first|refine hs.ld 1 rfl rfl ?_|refine hs.ld 2 rfl rfl ?_|refine hs.ld 3 rfl rfl ?_|refine hs.ld 4 rfl rfl ?_|refine hs.ld 5 rfl rfl ?_|refine hs.ld 6 rfl rfl ?_|refine hs.ld 7 rfl rfl ?_|refine hs.ld 8 rfl rfl ?_
  try simp only[HV]
  refine aa.use (ie k sec s H') ?_
  try simp only[HV]
  have:mP k sec s=(ir k.toNat (bP s),0):=by unfold mP;rw[if_pos (by omega),if_neg (by omega)]
  rw[this];refine hs.eY 2 rfl rfl rfl rfl fun H' hs=>?_
  refine hs.bJ 2 rfl rfl ?_;exact hs.fin 0 rfl _
 .rw[Bool.not_eq_true]at h;rw[if_neg (by rw[h];simp),h];simp only[HV];refine hs.eY 2 rfl rfl rfl rfl fun H' hs=>?_
  refine hs.bJ 2 rfl rfl ?_;exact hs.fin 0 rfl _
end Sup
namespace Sup
open Go Go.Hw Go.Form W Lay Dsk
theorem vd :∀ n,kA (List.replicate n 0)=0
 |0=>rfl
 |n+1=>by
  rw[List.replicate_succ];show(0:UInt8).toNat+256*kA (List.replicate n 0)=0
  rw[vd n];rfl
theorem D5 (s:Nat)(hs:0<bP s):dD (List.replicate s 0)=((0,0,0,0),10):=by
 unfold dD;rw[List.length_replicate,if_neg (by omega),if_pos];left;have:aJ (List.replicate s 0) 0=0:=by
  unfold aJ;rw[List.drop_zero,List.take_replicate,vd]
 rw[this];decide
def qP (d:D)(sec s:Int):Bool:=decide (sec=d.sec/\s=d.size)
theorem zs {L:List As}{H:Hp}{p:Nat}{d:D}(hs0:Sep L H)(i:Nat)(hi:L[i]? =some (Dk p d))(k sec s ar:Int):aa prog 140 #[V p,.agg (fx k sec s ar)] H (RetE (.bool (qP d sec s)) H):=by
 apply aa.ret;apply pB.ok;unfold pB;refine(Sep.start H).nw fun b1 H' hs=>?_
 have hle:=hs.ow 0 rfl;refine hs.ld 1 rfl rfl ?_;simp only[HV]
 try simp only[HS]
 refine bD.use (kR (hs0.up hle) i hi) ?_;simp only[HV];by_cases h1:sec=d.sec
 .refine bH h1 (hs.ld 1 rfl rfl ?_);simp only[HV]
  try simp only[HS]
  refine bD.use (pX (hs0.up hle) i hi) ?_;simp only[HV];have e:(s==(d.size:Int))=qP d sec s:=by
   unfold qP;by_cases h2:s=d.size
   .simp[h1,h2]
   .simp[h2]
  rw[e];exact hs.fin 0 rfl _
 .refine bT h1 ?_;have e:qP d sec s=false:=by unfold qP;simp[h1]
  rw[e];exact hs.fin 0 rfl _
def sJ (d:D)(k sec s ar:Int):Int×D:=
 if eB k sec s ar=false\/qP d sec s=false then(1,d)
 else if d.dc 0 s.toNat≠0 then(d.dc 0 s.toNat,d.bC 0 (fI k sec s ar))
 else((d.bC 0 (fI k sec s ar)).gY,(d.bC 0 (fI k sec s ar)).fm)
theorem FU {p:Nat}{d:D}(hok:Ok d)(hb:d.wr<=1000000/\d.sy<=1000000)(k sec s ar:Int)(hsec:sec<=9223372036854775807):
  Tr prog 130 #[V p,.agg (fx k sec s ar)] [Dk p d] fun v M=>v= I (sJ d k sec s ar).1/\M=[Dk p (sJ d k sec s ar).2]:=fun H hs=>by
 apply mB.ok;unfold mB;refine hs.nw fun b1 H hs=>?_
 refine hs.bJ 1 rfl rfl ?_;cases hg:eB k sec s ar with
 |false=>
  refine aa.use (zQ k sec s ar hg H) ?_;simp only[HV];have e:sJ d k sec s ar=(1,d):=by unfold sJ;rw[if_pos (.inl hg)]
  rw[e];exact aU (by omega) ⟨_,⟨rfl,rfl⟩,hs.re [0] rfl⟩
 |true=>
  refine(oY k sec s ar hg hsec).use hs [] rfl rfl ?_;rintro _ _ H ⟨b,rfl,rfl⟩ hs;simp only[HV];refine aF rfl ?_;have hs:Sep [ah b (.row (aC (fI k sec s ar)) 5 s.toNat),Dk p d,ah b1 (Oa (fx k sec s ar) 45)] H:=hs;refine hs.bJ 2 rfl rfl ?_;refine aa.use (zs hs 1 rfl k sec s ar) ?_;simp only[HV];cases ho:qP d sec s with
  |false=>
   have e:sJ d k sec s ar=(1,d):=by unfold sJ;rw[if_pos (.inr ho)]
   rw[e];exact cO rfl ⟨_,⟨rfl,rfl⟩,hs.re [1] rfl⟩
  |true=>
   refine bY rfl ?_;have hper:0<bP s:=by
    unfold eB at hg;simp only[decide_eq_true_eq]at hg;exact hg.2.2.1
   have hl:=sx k sec s ar hper;refine(ki (p:=p) (d:=d) hok (by omega) 0 (Oo b) s.toNat s.toNat (fI k sec s ar) (by omega) (ah b (.row (aC (fI k sec s ar)) 5 s.toNat)) (fun H h=>?_)).use hs [1,0] rfl rfl ?_
   .have:=Cells.row h 0 s.toNat;rw[List.drop_zero,List.take_of_length_le (by rw[bk];omega)]at this;exact this
   rintro _ _ H ⟨rfl,rfl⟩ hs;simp only[HV];by_cases he:d.dc 0 s.toNat=0
   .refine aF he ?_;have e:sJ d k sec s ar=((d.bC 0 (fI k sec s ar)).gY,(d.bC 0 (fI k sec s ar)).fm):=by
     unfold sJ;rw[if_neg (by rw[hg,ho];simp),if_neg (by rw[he];simp)]
    have hsy:(d.bC 0 (fI k sec s ar)).sy=d.sy:=by
     have hbr:=fQ d;unfold D.bC;split
     .rfl
     .split
      .rfl
      .split
       .exact hbr.2.2.1
       .exact hbr.2.2.1
    refine(pO (p:=p) (d:=d.bC 0 (fI k sec s ar)) (Ok.bC hok 0 _) (by rw[hsy];omega)).use hs [0] rfl rfl ?_;rintro _ _ H ⟨rfl,rfl⟩ hs;simp only[HV];rw[e];exact⟨_,⟨rfl,rfl⟩,hs.re [0] rfl⟩
   .have e:sJ d k sec s ar=(d.dc 0 s.toNat,d.bC 0 (fI k sec s ar)):=by
     unfold sJ;rw[if_neg (by rw[hg,ho];simp),if_pos he]
    rw[e];exact aU he ⟨_,⟨rfl,rfl⟩,hs.re [0] rfl⟩
def wy (d:D)(bs:List UInt8):Sb×Int:=
 if(dD bs).2≠0 then((0,0,0,0),(dD bs).2)else if qP d (dD bs).1.2.1 (dD bs).1.2.2.1=true then((dD bs).1,0)else((0,0,0,0),1)
theorem Hy {p:Nat}{d:D}(hok:Ok d)(ho:d.rd<=1000000)(hc:d.jR 0=0)(hb:d.dr=false):
  Tr prog 79 #[V p] [Dk p d] fun v M=>v= .tuple #[.agg (FV (wy d (d.now 0)).1),I (wy d (d.now 0)).2]/\M=[Dk p { d.bu with rd:=d.rd+1}]:=fun H hs=>by
 have hnow:=hok.now 0;have hsz:=hok.size;have hbr:=fQ d;apply jQ.ok;unfold jQ;refine hs.nw fun b1 H hs=>?_
 refine(tS (p:=p) (d:=d) hok (by omega) 0).use hs [0] rfl rfl ?_;rintro _ _ H (⟨h,_⟩|⟨_,h,_⟩|⟨_,_,b,c,m,rfl,hcc,rfl⟩) hs
 .exact absurd hc h
 .rw[hb]at h;cases h
 .simp only[HV];refine aF rfl ?_;have hcell:Cells H (Oo b) (aC (d.now 0)):=by
   have:=Cells.row (hs.get 1 (b:=b) (o:=.row (aC (d.now 0)) 5 m) rfl) 0 d.size;rw[List.drop_zero,List.take_of_length_le (by rw[bk];omega)]at this;exact this
  refine aa.use (rq (Oo b) d.size c hcc (by omega) (d.now 0) hnow.symm H hcell) ?_;simp only[HV];have hof:∀ x y,qP { d.bu with rd:=d.rd+1} x y=qP d x y:=fun x y=>by
   unfold qP;show decide (x=(d.bu.sec:Int)/\y=(d.bu.size:Int))=_
   rw[hbr.2.2.2.2.1,hbr.2.2.2.1]
  unfold wy;generalize dD (d.now 0)=tv at*;obtain⟨⟨k,sec,s,ar⟩,e⟩:=tv;have hs:Sep [Dk p { d.bu with rd:=d.rd+1},ah b (.row (aC (d.now 0)) 5 m),ah b1 (Oa (fx 0 0 0 0) 45)] H:=hs;refine hs.nw fun b2 H hs=>?_
  refine hs.eY 3 (y:=fx k sec s ar) rfl rfl rfl rfl fun H hs=>?_;have hs:Sep [Dk p { d.bu with rd:=d.rd+1},ah b (.row (aC (d.now 0)) 5 m),ah b1 (Oa (fx 0 0 0 0) 45),ah b2 (Oa (fx k sec s ar) 45)] H:=hs;by_cases he:e=0
  .refine aF he ?_;refine hs.bJ 3 rfl rfl ?_;refine aa.use (zs hs 0 rfl k sec s ar) ?_;rw[hof];simp only[HV];cases hob:qP d sec s with
   |false=>
    refine cO rfl ?_;refine hs.eY 2 rfl rfl rfl rfl fun H hs=>?_;refine hs.bJ 2 rfl rfl ?_;refine⟨_,⟨?_,rfl⟩,hs.re [0] rfl⟩;rw[if_neg (by simpa using he),if_neg (by simp)];rfl
   |true=>
    refine bY rfl ?_;refine hs.bJ 3 rfl rfl ?_;refine hs.eY 2 rfl rfl rfl rfl fun H hs=>?_;refine hs.bJ 2 rfl rfl ?_;refine⟨_,⟨?_,rfl⟩,hs.re [0] rfl⟩;rw[if_neg (by simpa using he),if_pos rfl];rfl
  .refine aU he ?_;refine hs.eY 2 rfl rfl rfl rfl fun H hs=>?_;refine hs.bJ 2 rfl rfl ?_;refine⟨_,⟨?_,rfl⟩,hs.re [0] rfl⟩;rw[if_pos (by simpa using he)];rfl
end Sup
namespace Eng
open Go Go.Hw Go.Form Dsk Str Rec Srt Rng Pln
structure Log (L:List R):Prop where
 u:∀ r∈L,r.u32
 g:∀ r∈L,r.cR
 hd:∀ r,L[0]? =some r->r.s=1/\r.kd=1
 ch:∀ i a b,L[i]? =some a->L[i+1]? =some b->after a b
theorem Log.nil :Log []:=⟨fun _ h=>(by cases h),fun _ h=>(by cases h),fun _ h=>(by simp at h),fun _ _ _ h=>(by simp at h)⟩
theorem Log.snoc {L:List R}(h:Log L){r:R}(hg:r.cR)(hu:r.u32)(hm:gK L.getLast? r=true):Log (L++[r]):=by
 refine⟨fun x hx=>?_,fun x hx=>?_,fun x hx=>?_,fun i a b ha hb=>?_⟩
 .rcases List.mem_append.1 hx with h1|h1
  .exact h.u x h1
  .rw[List.mem_singleton.1 h1];exact hu
 .rcases List.mem_append.1 hx with h1|h1
  .exact h.g x h1
  .rw[List.mem_singleton.1 h1];exact hg
 .cases L with
  |nil=>
   have:r=x:=by simpa using hx
   subst this;exact of_decide_eq_true hm
  |cons y L=>exact h.hd x (by simpa using hx)
 .have hb2:=hb;rw[List.getElem?_append]at ha hb;have hlt:=(List.getElem?_eq_some_iff.1 hb2).1;rw[List.length_append,List.length_singleton]at hlt;rw[if_pos (by omega)]at ha;by_cases e:i+1<L.length
  .rw[if_pos e]at hb;exact h.ch i a b ha hb
  .rw[if_neg e]at hb;have e2:i+1-L.length=0:=by omega
   rw[e2]at hb;have:r=b:=by simpa using hb
   subst this;have hl:L.getLast? =some a:=by rw[List.getLast?_eq_getElem?,show L.length-1=i by omega];exact ha
   rw[hl]at hm;exact of_decide_eq_true hm
theorem Log.init {L:List R}{r:R}(h:Log (L++[r])):Log L/\r.cR/\r.u32/\gK L.getLast? r=true:=by
 refine⟨⟨fun x hx=>h.u x (List.mem_append_left _ hx),fun x hx=>h.g x (List.mem_append_left _ hx),fun x hx=>?_,fun i a b ha hb=>?_⟩,h.g r (by simp),h.u r (by simp),?_⟩
 .exact h.hd x (by rw[List.getElem?_append_left (List.getElem?_eq_some_iff.1 hx).1];exact hx)
 .exact h.ch i a b (by rw[List.getElem?_append_left (List.getElem?_eq_some_iff.1 ha).1];exact ha) (by rw[List.getElem?_append_left (List.getElem?_eq_some_iff.1 hb).1];exact hb)
 .cases hl:L.getLast? with
  |none=>
   rw[List.getLast?_eq_none_iff]at hl;subst hl;exact decide_eq_true (h.hd r (by simp))
  |some a=>
   have hn:L≠ []:=fun e=>by rw[e]at hl;simp at hl
   have hp:=List.length_pos_iff.2 hn;rw[List.getLast?_eq_getElem?]at hl;refine decide_eq_true (h.ch (L.length-1) a r ?_ ?_)
   .rw[List.getElem?_append_left (by omega)];exact hl
   .rw[show L.length-1+1=L.length by omega,List.getElem?_append_right (Nat.le_refl _),Nat.sub_self];rfl
theorem Log.num {L:List R}(h:Log L):∀ i a,L[i]? =some a->a.s=i+1
 |0,a,ha=>(h.hd a ha).1
 |i+1,a,ha=>by
  have hlt:=(List.getElem?_eq_some_iff.1 ha).1;have hb:L[i]? =some L[i]:=List.getElem?_eq_getElem (by omega);have:=h.num i _ hb;have h2:=(h.ch i _ a hb ha).2.2.1;omega
theorem Log.last {L:List R}(h:Log L){r:R}(hr:L.getLast? =some r):r.cR/\r.u32/\r.s=L.length:=by
 have hn:L≠ []:=fun e=>by rw[e]at hr;simp at hr
 have hp:=List.length_pos_iff.2 hn;have hm:r∈L:=List.mem_of_getLast? hr;rw[List.getLast?_eq_getElem?]at hr;have:=h.num _ _ hr;exact⟨h.g r hm,h.u r hm,by omega⟩
def wA (size:Nat)(L:List R):Nat->List UInt8:=L.foldl (fun f r=>fun j=>if j=(r.s-1)%8 then r.form size else f j) (fun _=>List.replicate size 0)
theorem sv (size:Nat)(L:List R)(r:R)(j:Nat):wA size (L++[r]) j=if j=(r.s-1)%8 then r.form size else wA size L j:=by
 unfold wA;rw[List.foldl_append];rfl
def Ring (size:Nat)(L:List R)(c:Cn):Prop:=∀ i,i<8->c ((1+i:Nat):Int)=wA size L i
theorem Gd (c:Cn)(k:Nat)(a b:List UInt8):eT (eT c k a) k b=eT c k b:=funext fun i=>by
 unfold eT;split<;>rfl
theorem J5 (c:Cn)(k:Nat):eT c k (c k)=c:=funext fun i=>by
 unfold eT;split
 .rename_i h;rw[h]
 .rfl
theorem um (c:Cn)(k:Nat)(b:List UInt8):eT c k b k=b:=if_pos rfl
theorem rO (c:Cn){k:Nat}(b:List UInt8){i:Int}(h:i≠k:=by omega):eT c k b i=c i:=if_neg h
theorem Ring.uR {size:Nat}{L:List R}{c:Cn}(h:Ring size L c)(r:R):Ring size (L++[r]) (eT c (dq 1 8 r.s) (r.form size)):=fun i hi=>by
 rw[sv];unfold dq;by_cases e:i=(r.s-1)%8
 .rw[if_pos e,e,um]
 .rw[if_neg e,rO _ _];exact h i hi
theorem DQ {size:Nat}(hs:jZ (size:Int)=true):(dD (List.replicate size 0)).2≠0:=by
 unfold Rec.dD;rw[List.length_replicate,if_pos hs,if_neg]
 .decide
 .intro h;have:aJ (List.replicate size 0) 0=0:=by
   unfold aJ;rw[List.drop_zero,List.take_replicate,Sup.vd]
  rw[this]at h;exact absurd h.1 (by decide)
theorem Ring.last {size:Nat}(hsec:jZ (size:Int)=true):∀(n:Nat) {L:List R} {c:Cn},L.length=n->Log L->Ring size L c->jh c 1 8=L.getLast?
 |0,L,c,hl,h,hr=>by
  have e:L=[]:=List.length_eq_zero_iff.1 hl;subst e;refine(s5 _).2 ?_;refine List.eq_nil_iff_forall_not_mem.2 fun x hx=>?_
  obtain⟨j,_,h2,h3⟩:=(pS c 1 8 x 8 0).1 hx;rw[hr j (by omega),tG]at h3;exact DQ hsec h3.1
 |n+1,L,c,hl,h,hr=>by
  have hn:L≠ []:=fun e=>by rw[e]at hl;simp at hl
  obtain⟨L',r,rfl⟩:∃ L' r,L=L'++[r]:=⟨L.dropLast,L.getLast hn,(List.dropLast_concat_getLast hn).symm⟩;obtain⟨h1,h2,h3,h4⟩:=h.init;have hsl:=qu (f:=1) (n:=8) (s:=r.s);have hk:dq 1 8 r.s=1+(r.s-1)%8:=rfl;have hm:=Nat.mod_lt (r.s-1) (show 8>0 by omega)
  let c':Cn:=eT c (dq 1 8 r.s) (wA size L' ((r.s-1)%8))
  have hr':Ring size L' c':=fun i hi=>by
   have:=hr i hi;rw[sv]at this;show eT c (dq 1 8 r.s) _ _=_
   by_cases e:i=(r.s-1)%8
   .subst e;rw[<- hk,um]
   .rw[rO _ _,this,if_neg e]
  have ih:=Ring.last hsec n (by simpa using hl) h1 hr';have hsz:=JT hsec;have hup:=G9 (c:=c') (f:=1) (n:=8) (size:=size) (by omega) (by omega) hsec h2 h3 (by rw[ih];exact h4);have e:eT c' (dq 1 8 r.s) (r.form size)=c:=by
   show eT (eT c _ _) _ _=c
   rw[Gd];have:=hr ((r.s-1)%8) hm;rw[sv,if_pos rfl,<-hk]at this;rw[<- this,J5]
  rw[e]at hup;rw[hup,List.getLast?_append];rfl
def cw (c:Cn)(ae f i:Nat):UInt64:=((cX (c ((f+i/ae:Nat):Int)))[i%ae]?).getD 0
def jS (c:Cn)(ae f n:Nat):List UInt64:=(List.range n).map (cw c ae f)
theorem Jk (c:Cn)(ae f n:Nat):(jS c ae f n).length=n:=by simp[jS]
theorem LK {d:D}{c:Cn}(h:∀ i,d.now i=c i)(x:X)(i:Nat):pw d x i=cw c (D.ae d) x.f i:=by unfold pw cw;rw[h]
theorem oq {d:D}{c:Cn}(h:∀ i,d.now i=c i)(x:X)(n:Nat):dE d x 0 n=jS c (D.ae d) x.f n:=by
 unfold dE jS;apply List.map_congr_left;intro i _;rw[Nat.zero_add,LK h]
theorem xj {c c':Cn}{ae f n s:Nat}(hp:1<=ae)(hn:n<=s*ae)(h:∀ i:Nat,i<s->c' ((f+i:Nat):Int)=c ((f+i:Nat):Int)):jS c' ae f n=jS c ae f n:=by
 unfold jS;apply List.map_congr_left;intro i hi;have hi:=List.mem_range.1 hi;have:i/ae<s:=Nat.div_lt_of_lt_mul (by rw[Nat.mul_comm];omega);unfold cw;rw[h _ this]
def kX (l:List UInt64):Nat:=(Go.Crc.sum (form l)).toNat
theorem B' (l:List UInt64):kX l<4294967296:=(Go.Crc.sum (form l)).isLt
structure Mn where
 aG:Nat
 aX:Nat
 L:List R
 dJ:List UInt64
def eO (aG ae i k:Nat):X:=⟨9+i*Lay.bI aG ae,Lay.bI k ae,2^k⟩
def mH (r:R):Bool:=decide (r.dir=1)
def dF (m:Mn)(ae:Nat)(r:R):List Pz:=eC (mH r) r.kk.toNat ae m.aX
structure vz (m:Mn)(ae:Nat)(c:Cn)(r:R):Prop where
 len:m.dJ.length=2^r.kk.toNat
 can:∀ w∈m.dJ,w.toNat<18446744069414584321
 sum:r.dJ=kX m.dJ
 ws:jS c ae 9 (2^r.kk.toNat)=m.dJ
structure vE (m:Mn)(ae:Nat)(c:Cn)(r:R):Prop where
 ps:r.ps.toNat<=(dF m ae r).length
 ws:∀ p,(dF m ae r)[r.ps.toNat-1]? =some p->jS c ae (9+p.o*Lay.bI m.aG ae) (2^r.kk.toNat)=oZ ((dF m ae r).take r.ps.toNat) m.dJ
 sum:r.out=kX (oZ ((dF m ae r).take r.ps.toNat) m.dJ)
structure Holds (sec size:Nat)(m:Mn)(c:Cn):Prop where
 sup:c 0=Sup.fI m.aG sec size m.aX
 cR:Sup.eB m.aG sec size m.aX=true
 least:ec m.aG (size/8)<=m.aX
 log:Log m.L
 ring:Ring size m.L c
 kk:∀ r,m.L.getLast? =some r->r.kk<=m.aG
 dJ:∀ r,m.L.getLast? =some r->2<=r.kd->vz m (size/8) c r
 out:∀ r,m.L.getLast? =some r->r.kd=4->vE m (size/8) c r
def wW (size:Nat)(c:Cn):Prop:=c 0=List.replicate size 0
def L1 (sec size:Nat):Option Mn->Cn->Prop
 |none,c=>wW size c
 |some m,c=>Holds sec size m c
end Eng
namespace Eng
open Go Go.Hw Go.Form Dsk Str Rec Srt Rng Pln Trn
theorem uc {k p:Nat}(hp:1<=p):2^k<=Lay.bI k p*p:=by
 have h1:=Nat.two_pow_pos k;have h2:=Nat.div_add_mod (2^k-1) p;have h3:=Nat.mod_lt (2^k-1) (show p>0 by omega);unfold Lay.bI;rw[Nat.add_mul,Nat.mul_comm,Nat.one_mul];omega
theorem qT {k m p:Nat}(h:k<=m):Lay.bI k p<=Lay.bI m p:=by
 have h1:2^k<=2^m:=Nat.pow_le_pow_right (by omega) h;unfold Lay.bI;have:=Nat.div_le_div_right (c:=p) (show 2^k-1<=2^m-1 by omega);omega
theorem k7 {s:Nat}(h:0<Lay.bP s):Lay.bP s=s/8/\4<=s/8/\s/8<=512/\8*(s/8)=s:=by
 have:s=32\/s=64\/s=128\/s=256\/s=512\/s=1024\/s=2048\/s=4096:=by
  unfold Lay.bP at h
  repeat' split at h
  all_goals omega
 rcases this with e|e|e|e|e|e|e|e<;>subst e<;>decide
theorem iD {m sec s:Nat}{ar:Int}(h:Sup.eB (m:Int) sec s ar=true):m<=32/\0<Lay.bP s/\Lay.eQ m (s/8)<=sec/\1<=ar/\ar<=16777216:=by
 have h1:=of_decide_eq_true h;have h3:=h1.2.2.1;have h2:=k7 h3;rw[h2.1,Int.toNat_natCast]at h1;exact⟨by omega,h3,by omega,h1.2.2.2.2⟩
theorem Cb {c c':Cn}{ae aG i k:Nat}(hp:1<=ae)(h:∀ j:Nat,j<Lay.bI k ae->c' ((9+i*Lay.bI aG ae+j:Nat):Int)=c ((9+i*Lay.bI aG ae+j:Nat):Int)):
  jS c' ae (9+i*Lay.bI aG ae) (2^k)=jS c ae (9+i*Lay.bI aG ae) (2^k):=xj hp (uc hp) h
theorem Holds.ae {sec size:Nat}{m:Mn}{c:Cn}(h:Holds sec size m c):4<=size/8/\size/8<=512/\8*(size/8)=size:=(k7 (iD h.cR).2.1).2
theorem Holds.Ms {sec size:Nat}{m:Mn}{c c':Cn}(h:Holds sec size m c)(h0:∀ i:Nat,i<=8->c' (i:Int)=c (i:Int))
  (h1:∀ r,m.L.getLast? =some r->2<=r.kd->∀ j:Nat,j<Lay.bI r.kk.toNat (size/8)->c' ((9+j:Nat):Int)=c ((9+j:Nat):Int))
  (h2:∀ r,m.L.getLast? =some r->r.kd=4->∀ p,(dF m (size/8) r)[r.ps.toNat-1]? =some p->∀ j:Nat,j<Lay.bI r.kk.toNat (size/8)->c' ((9+p.o*Lay.bI m.aG (size/8)+j:Nat):Int)=c ((9+p.o*Lay.bI m.aG (size/8)+j:Nat):Int)):Holds sec size m c':=by
 have hp:=h.ae;refine⟨(h0 0 (by omega)).trans h.sup,h.cR,h.least,h.log,fun i hi=>(h0 (1+i) (by omega)).trans (h.ring i hi),h.kk,fun r hr hk=>?_,fun r hr hk=>?_⟩
 .have q:=h.dJ r hr hk;refine⟨q.len,q.can,q.sum,?_⟩;rw[xj (f:=9) (by omega) (uc (show 1<=size/8 by omega)) (h1 r hr hk)];exact q.ws
 .have q:=h.out r hr hk;refine⟨q.ps,fun p hp'=>?_,q.sum⟩;rw[Cb (by omega) (h2 r hr hk p hp')];exact q.ws p hp'
theorem CQ {c:Cn}{s:Nat}{b:List UInt8}{j:Nat}(hj:9<=j:=by omega):eT c (dq 1 8 s) b (j:Int)=c (j:Int):=by
 have:=qu (f:=1) (n:=8) (s:=s);exact rO _ _
theorem vz.uR {m:Mn}{ae:Nat}{c:Cn}{r:R}(h:vz m ae c r)(hp:1<=ae)(s:Nat)(b:List UInt8):vz m ae (eT c (dq 1 8 s) b) r:=
 ⟨h.len,h.can,h.sum,by rw[xj (f:=9) hp (uc hp) (fun j _=>CQ)];exact h.ws⟩
theorem vE.uR {m:Mn}{ae:Nat}{c:Cn}{r:R}(h:vE m ae c r)(hp:1<=ae)(s:Nat)(b:List UInt8):vE m ae (eT c (dq 1 8 s) b) r:=
 ⟨h.ps,fun p hp'=>by rw[Cb hp (fun j _=>CQ)];exact h.ws p hp',h.sum⟩
theorem Holds.app {sec size:Nat}{m:Mn}{c:Cn}(h:Holds sec size m c){r:R}(hg:r.cR)(hu:r.u32)(hm:gK m.L.getLast? r=true)(hkk:r.kk<=m.aG)
  (hi:2<=r.kd->vz m (size/8) c r) (ho:r.kd=4->vE m (size/8) c r):Holds sec size { m with L:=m.L++[r]} (eT c (dq 1 8 r.s) (r.form size)):=by
 have hp:=h.ae;have hsl:=qu (f:=1) (n:=8) (s:=r.s);have hl:∀ x,(m.L++[r]).getLast? =some x->x=r:=fun x hx=>by
  rw[List.getLast?_append]at hx;have:r=x:=by simpa using hx
  exact this.symm
 refine⟨?_,h.cR,h.least,h.log.snoc hg hu hm,h.ring.uR r,fun x hx=>?_,fun x hx hk=>?_,fun x hx hk=>?_⟩
 .rw[rO _ _];exact h.sup
 .rw[hl x hx];exact hkk
 .obtain rfl:=hl x hx;have q:=(hi hk).uR (show 1<=size/8 by omega) x.s (x.form size);exact⟨q.len,q.can,q.sum,q.ws⟩
 .obtain rfl:=hl x hx;have q:=(ho hk).uR (show 1<=size/8 by omega) x.s (x.form size);exact⟨q.ps,q.ws,q.sum⟩
theorem Holds.target {sec size:Nat}{m:Mn}{c c':Cn}(h:Holds sec size m c){t k:Nat}(hk:k<=m.aG)(ht:∀ r,m.L.getLast? =some r->2<=r.kd->t≠0)
  (ho:∀ r,m.L.getLast? =some r->r.kd=4->∀ p,(dF m (size/8) r)[r.ps.toNat-1]? =some p->t≠p.o) (hs:pW (iy (eO m.aG (size/8) t k)) c c'):Holds sec size m c':=by
 have hp:=h.ae;have hrk:Lay.bI k (size/8)<=Lay.bI m.aG (size/8):=qT hk;generalize hR:Lay.bI m.aG (size/8)=Rm at hrk;have ext:∀(i j:Nat) (r:R),m.L.getLast? =some r->i≠t->j<Lay.bI r.kk.toNat (size/8)->c' ((9+i*Rm+j:Nat):Int)=c ((9+i*Rm+j:Nat):Int):=fun i j r hr hit hj=>by
  have h1:=h.kk r hr;have h2:=(h.log.last hr).1;have hkr:Lay.bI r.kk.toNat (size/8)<=Rm:=by rw[<- hR];exact qT (by omega)
  apply hs;unfold iy eO;simp only[hR];rintro⟨a,b⟩;rcases Nat.lt_or_gt_of_ne hit with hlt|hlt
  .have:(i+1)*Rm<=t*Rm:=Nat.mul_le_mul_right _ hlt;rw[Nat.succ_mul]at this;omega
  .have:(t+1)*Rm<=i*Rm:=Nat.mul_le_mul_right _ hlt;rw[Nat.succ_mul]at this;omega
 refine h.Ms (fun i hi=>hs _ ?_) (fun r hr hkd j hj=>?_) fun r hr hkd p hp' j hj=>?_
 .unfold iy eO;rintro⟨a,b⟩;have:(0:Int)<=(t*Lay.bI m.aG (size/8):Nat):=Int.natCast_nonneg _;simp only at a;omega
 .have:=ext 0 j r hr (fun e=>ht r hr hkd e.symm) hj;rw[Nat.zero_mul,Nat.add_zero]at this;exact this
 .rw[hR];exact ext p.o j r hr (fun e=>ho r hr hkd p hp' e.symm) hj
def Mn.r (m:Mn):R:=m.L.getLast?.getD dW
theorem Mn.K6 {m:Mn}{r:R}(h:m.L.getLast? =some r):m.r=r:=by unfold Mn.r;rw[h];rfl
theorem Mn.DK (m:Mn):(m.L=[]/\m.r=dW)\/m.L.getLast? =some m.r:=by
 cases h:m.L.getLast? with
 |none=>exact .inl ⟨List.getLast?_eq_none_iff.1 h,by unfold Mn.r;rw[h];rfl⟩
 |some r=>exact .inr (by rw[Mn.K6 h])
theorem Mn.xz {m:Mn}(h:m.r.kd≠0:=by omega):m.L.getLast? =some m.r:=by
 rcases m.DK with⟨_,e⟩|e
 .rw[e]at h;exact absurd rfl h
 .exact e
def Mn.add (m:Mn)(r:R):Mn:={ m with L:=m.L++[r]}
theorem Mn.kj (m:Mn)(r:R):(m.add r).r=r:=by unfold Mn.r Mn.add;simp
theorem Mn.zY (m:Mn)(r:R):(m.add r).L.getLast? =some r:=by unfold Mn.add;simp
structure Small (B:Nat)(m:Mn):Prop where
 len:m.L.length<=B
 ld:m.r.ld<=B
theorem Small.add {B:Nat}{m:Mn}(h:Small B m){r:R}(hr:r.ld<=B+1):Small (B+1) (m.add r):=⟨by unfold Mn.add;have:=h.len;simp;omega,by rw[Mn.kj];exact hr⟩
def Mn.seq (m:Mn):Nat:=m.L.length+1
theorem Mn.qV {sec size:Nat}{m:Mn}{c:Cn}(h:Holds sec size m c):m.r.s+1=m.seq:=by
 rcases m.DK with⟨e1,e2⟩|e
 .rw[e2];unfold Mn.seq;rw[e1];rfl
 .have:=(h.log.last e).2.2;unfold Mn.seq;omega
def gj (m:Mn)(k:Nat):R:=⟨m.seq,1,k,0,0,m.r.ld+1,0,0⟩
def iu (m:Mn)(k:Nat)(l:List UInt64):R:=⟨m.seq,2,k,0,0,m.r.ld,kX l,0⟩
def gX (m:Mn)(d:Bool):R:=⟨m.seq,3,m.r.kk,if d=true then 1 else 0,0,m.r.ld,m.r.dJ,0⟩
def ft (m:Mn)(ae:Nat):R:=⟨m.seq,4,m.r.kk,m.r.dir,m.r.ps+1,m.r.ld,m.r.dJ,kX (oZ ((dF m ae m.r).take (m.r.ps.toNat+1)) m.dJ)⟩
section
variable {sec size : Nat} {m : Mn} {c : Cn} (h : Holds sec size m c) {B : Nat} (hs : Small B m) (hB : B <= 1000000)
include h hs hB
theorem J' {k:Nat}(hk:k<=m.aG):(gj m k).cR/\(gj m k).u32/\gK m.L.getLast? (gj m k)=true/\Holds sec size (m.add (gj m k)) (eT c (dq 1 8 m.seq) ((gj m k).form size)):=by
 have hg:=iD h.cR;have hl:=hs.len;have hd:=hs.ld;have hsq:m.seq=m.L.length+1:=rfl;have g:(gj m k).cR:=⟨by show 1<=m.seq;omega,by show m.seq<_;omega,by show(0:Int)<=k;omega,by show(k:Int)<=32;omega,.inl rfl,.inl ⟨rfl,rfl,rfl,rfl,rfl⟩⟩;have u:(gj m k).u32:=⟨by show m.r.ld+1<_;omega,by show 0<_;omega,by show 0<_;omega⟩;have may:gK m.L.getLast? (gj m k)=true:=by
  have hsr:=Mn.qV h;rcases m.DK with⟨e1,e2⟩|e
  .rw[e1];exact decide_eq_true ⟨by show m.seq=1;rw[hsq,e1];rfl,rfl⟩
  .rw[e];exact decide_eq_true ⟨(h.log.last e).1,g,by show m.seq=_;omega,.inl rfl⟩
 exact⟨g,u,may,h.app g u may (by show(k:Int)<=m.aG;omega) (fun h2=>absurd h2 (show ¬(2:Int)<=1 by omega)) (fun h4=>absurd h4 (show ¬(1:Int)=4 by omega))⟩
theorem Jy {k:Nat}(hk:m.r.kd=1)(hkk:m.r.kk=k){l:List UInt64}(hl:l.length=2^k)(hcan:∀ w∈l,w.toNat<18446744069414584321)(hw:jS c (size/8) 9 (2^k)=l):
  (iu m k l).cR/\(iu m k l).u32/\gK m.L.getLast? (iu m k l)=true/\Holds sec size ({ m with dJ:=l}.add (iu m k l)) (eT c (dq 1 8 m.seq) ((iu m k l).form size)):=by
 have hg:=iD h.cR;have hlen:=hs.len;have hd:=hs.ld;have hsq:m.seq=m.L.length+1:=rfl;have e:=Mn.xz (m:=m);have hkm:=h.kk _ e;have hm:Holds sec size { m with dJ:=l} c:=⟨h.sup,h.cR,h.least,h.log,h.ring,h.kk,fun r hr h2=>by
  have e1:m.L.getLast? =some r:=hr;rw[e]at e1;cases e1;omega,fun r hr h4=>by
  have e1:m.L.getLast? =some r:=hr;rw[e]at e1;cases e1;omega⟩
 have g:(iu m k l).cR:=⟨by show 1<=m.seq;omega,by show m.seq<_;omega,by show(0:Int)<=k;omega,by show(k:Int)<=32;omega,.inl rfl,.inr (.inl ⟨rfl,rfl,rfl,rfl⟩)⟩;have u:(iu m k l).u32:=⟨by show m.r.ld<_;omega,B' l,by show 0<_;omega⟩;have may:gK m.L.getLast? (iu m k l)=true:=by
  have hsr:=Mn.qV h;rw[e];exact decide_eq_true ⟨(h.log.last e).1,g,by show m.seq=_;omega,.inr (.inl ⟨rfl,hk,rfl,hkk⟩)⟩
 exact⟨g,u,may,hm.app g u may (by show(k:Int)<=m.aG;omega) (fun _=>⟨by show l.length=2^((k:Int).toNat);rw[Int.toNat_natCast];exact hl,hcan,rfl,by show jS c _ 9 (2^((k:Int).toNat))=l;rw[Int.toNat_natCast];exact hw⟩) (fun h4=>absurd h4 (show ¬(2:Int)=4 by omega))⟩
theorem J0 (hk:2<=m.r.kd)(d:Bool):(gX m d).cR/\(gX m d).u32/\gK m.L.getLast? (gX m d)=true/\Holds sec size (m.add (gX m d)) (eT c (dq 1 8 m.seq) ((gX m d).form size)):=by
 have hg:=iD h.cR;have hlen:=hs.len;have hd:=hs.ld;have hsq:m.seq=m.L.length+1:=rfl;have e:=Mn.xz (m:=m);have hkm:=h.kk _ e;have hr:=h.log.last e;have hi:=h.dJ _ e hk;have g:(gX m d).cR:=⟨by show 1<=m.seq;omega,by show m.seq<_;omega,hr.1.2.2.1,hr.1.2.2.2.1,by show(if d=true then(1:Int)else 0)=0\/(if d=true then(1:Int)else 0)=1;cases d<;>simp,.inr (.inr (.inl ⟨rfl,rfl⟩))⟩;have u:(gX m d).u32:=⟨by show m.r.ld<_;omega,hr.2.1.dJ,by show 0<_;omega⟩;have may:gK m.L.getLast? (gX m d)=true:=by
  have hsr:=Mn.qV h;rw[e];exact decide_eq_true ⟨hr.1,g,by show m.seq=_;omega,.inr (.inr (.inl ⟨rfl,by omega,rfl,rfl,rfl,rfl⟩))⟩
 exact⟨g,u,may,h.app g u may hkm (fun _=>⟨hi.len,hi.can,hi.sum,hi.ws⟩) (fun h4=>absurd h4 (show ¬(3:Int)=4 by omega))⟩
end
theorem o7 (d:Bool)(k ae words:Nat):1<=(eC d k ae words).length/\(eC d k ae words).length<=5:=by
 unfold eC nI;split<;>simp
theorem wt (d:Bool)(k ae words:Nat):∀ i p,(eC d k ae words)[i]? =some p->(1<=p.o/\p.o<=3/\p.o≠p.f)/\(i=0->p.f=0)/\∀ q,(eC d k ae words)[i-1]? =some q->1<=i->p.f=q.o:=by
 intro i p hp;unfold eC at hp⊢;split at hp
 .rename_i hb
  rw[if_pos hb];rcases i with _|i
  .cases hp;exact⟨⟨by show 1<=3;omega,by show 3<=3;omega,by show(3:Nat)≠0;omega⟩,fun _=>rfl,fun q _ h=>by omega⟩
  .simp at hp
 .rename_i hb
  rw[if_neg hb];unfold nI at hp⊢;rcases i with _|_|_|_|_|i
  all_goals first|(cases hp;exact⟨⟨by simp,by simp,by simp⟩,fun h=>by first|rfl|omega,fun q hq h=>by first|omega|(cases hq;rfl)⟩)|simp at hp
theorem R.DF {r:R}(h:r.cR):0<=r.ps:=by
 obtain⟨_,_,_,_,_,h|h|h|h⟩:=h<;>omega
section
variable {sec size : Nat} {m : Mn} {c : Cn} (h : Holds sec size m c) {B : Nat} (hs : Small B m) (hB : B <= 1000000)
include h hs hB
theorem JI (hk:3<=m.r.kd){p:Pz}(hp:(dF m (size/8) m.r)[m.r.ps.toNat]? =some p)(hw:jS c (size/8) (9+p.o*Lay.bI m.aG (size/8)) (2^m.r.kk.toNat)=oZ ((dF m (size/8) m.r).take (m.r.ps.toNat+1)) m.dJ):
  (ft m (size/8)).cR/\(ft m (size/8)).u32/\gK m.L.getLast? (ft m (size/8))=true/\Holds sec size (m.add (ft m (size/8))) (eT c (dq 1 8 m.seq) ((ft m (size/8)).form size)):=by
 have hg:=iD h.cR;have hlen:=hs.len;have hd:=hs.ld;have hsq:m.seq=m.L.length+1:=rfl;have e:=Mn.xz (m:=m);have hkm:=h.kk _ e;have hr:=h.log.last e;have hi:=h.dJ _ e (by omega);have hps:=R.DF hr.1;have hlt:=(List.getElem?_eq_some_iff.1 hp).1;have hl5:=(o7 (mH m.r) m.r.kk.toNat (size/8) m.aX).2;have hl5:(dF m (size/8) m.r).length<=5:=hl5;have g:(ft m (size/8)).cR:=⟨by show 1<=m.seq;omega,by show m.seq<_;omega,hr.1.2.2.1,hr.1.2.2.2.1,hr.1.2.2.2.2.1,.inr (.inr (.inr ⟨rfl,by show 1<=m.r.ps+1;omega,by show m.r.ps+1<=7;omega⟩))⟩;have u:(ft m (size/8)).u32:=⟨by show m.r.ld<_;omega,hr.2.1.dJ,B' _⟩;have may:gK m.L.getLast? (ft m (size/8))=true:=by
  have hsr:=Mn.qV h;rw[e];exact decide_eq_true ⟨hr.1,g,by show m.seq=_;omega,.inr (.inr (.inr ⟨rfl,hk,rfl,rfl,rfl,rfl,rfl⟩))⟩
 have ept:(ft m (size/8)).ps.toNat=m.r.ps.toNat+1:=by show(m.r.ps+1).toNat=_;omega
 have epl:dF m (size/8) (ft m (size/8))=dF m (size/8) m.r:=rfl;refine⟨g,u,may,h.app g u may hkm (fun _=>⟨hi.len,hi.can,hi.sum,hi.ws⟩) fun _=>⟨?_,fun q hq=>?_,?_⟩⟩
 .rw[ept,epl];omega
 .rw[ept,epl,Nat.add_sub_cancel,hp]at hq;cases hq;rw[ept,epl];exact hw
 .rw[ept,epl];rfl
theorem Le (hk:3<=m.r.kd){p:Pz}(hp:(dF m (size/8) m.r)[m.r.ps.toNat]? =some p):
  jS c (size/8) (9+p.f*Lay.bI m.aG (size/8)) (2^m.r.kk.toNat)=oZ ((dF m (size/8) m.r).take m.r.ps.toNat) m.dJ/\(if m.r.ps=0 then m.r.dJ else m.r.out)=kX (oZ ((dF m (size/8) m.r).take m.r.ps.toNat) m.dJ)/\
  (∀ q,m.r.kd=4->(dF m (size/8) m.r)[m.r.ps.toNat-1]? =some q->p.o≠q.o):=by
 have e:=Mn.xz (m:=m);have hr:=h.log.last e;have hi:=h.dJ _ e (by omega);have ends:=wt (mH m.r) m.r.kk.toNat (size/8) m.aX _ p hp;have hps:=R.DF hr.1;have h4:m.r.kd=3/\m.r.ps=0\/m.r.kd=4/\1<=m.r.ps:=by
  obtain⟨_,_,_,_,_,h|h|h|h⟩:=hr.1<;>omega
 rcases h4 with⟨k3,p0⟩|⟨k4,p1⟩
 .have:m.r.ps.toNat=0:=by omega
  rw[this]at ends hp⊢;rw[ends.2.1 rfl,Nat.zero_mul,Nat.add_zero,if_pos p0];refine⟨hi.ws,hi.sum,fun q hq=>by omega⟩
 .have ho:=h.out _ e k4;have hlt:=(List.getElem?_eq_some_iff.1 hp).1;have hq:(dF m (size/8) m.r)[m.r.ps.toNat-1]? =some (dF m (size/8) m.r)[m.r.ps.toNat-1]:=List.getElem?_eq_getElem (by omega);have hf:=ends.2.2 _ hq (by omega);rw[if_neg (by omega),hf];refine⟨ho.ws _ hq,ho.sum,fun q _ hq'=>?_⟩;rw[hq]at hq';cases hq';rw[<- hf];exact ends.1.2.2
end
end Eng
namespace Str
open Go Go.Hw Go.Form W Dsk Are
section
variable {p q dp ap bp bq bt b rb mb : Nat} {d : D} {x y : X} {cap aj : Int} {bufs : List (Nat × Nat × Option Addr)} {ws : List UInt64}
end
structure Ij (d d':D)(x y:X)(i k:Nat):Prop where
 ok:Ok d'
 calm:Calm d'
 size:d'.size=d.size
 sec:d'.sec=d.sec
 rd:d'.rd<=d.rd+1000*i
 wr:d'.wr<=d.wr+1000*i
 src:∀ j,j<x.w->pw d' x j=pw d x j
 dst:∀ j,j<k->pw d' y j=pw d x j
theorem Ij.ae {d d':D}{x y:X}{i k:Nat}(h:Ij d d' x y i k):D.ae d'=D.ae d:=by unfold D.ae;rw[h.size]
theorem vx {P:Program}{g:FuncId}{t:TypeId}{k:IntKind}{n:Int}{K:Value->Prop}(h:eM P g=[t])(hu:P.underlying t=some (.int k))(hk:K (.int k n)):DR P (eM P g) (.int k n) K:=by
 rw[h];show DT P t _ K
 unfold DT;rw[hu];simpa using hk
section
variable {p q dp ap bp bq bt b rb mb vb : Nat} {d : D} {x y : X} {cap aj P1 : Int} {bufs : List (Nat × Nat × Option Addr)}
theorem JC {ae left:Nat}{l:Int}(h:l=left):(if(ae:Int)<l then(ae:Int)else l)=((if ae<left then ae else left:Nat):Int):=by
 subst h;by_cases c:ae<left
 .rw[if_pos c,if_pos (by omega)]
 .rw[if_neg c,if_neg (by omega)]
end
section
variable {p q dp ap : Nat} {d : D} {x y : X} {cap aj : Int} {bufs : List (Nat × Nat × Option Addr)}
end
theorem L3 (a b c d e:Value):((#[]++ #[a,b,c])++ #[d,e]:Array Value)=#[a,b,c,d,e]:=rfl
section
variable {p dp ap bp : Nat} {d : D} {x : X} {cap aj : Int} {bufs : List (Nat × Nat × Option Addr)} {B : As}
def vQ (p dp ap bp b rb mb vb:Nat)(d:D)(x:X)(cap pk:Int)(bufs:List (Nat×Nat×OA))(ae:Nat)(ws:List UInt64)(B:As):List As:=
 [ah p (ba dp ap x),Dk dp d,Ar ap cap pk (bufs++[(b,ae,some (O rb))]),ah rb (.row (af ws) 108 mb),ah bp (Oa #[V p] 270),B,ah vb (.row [V b] 331 1)]
theorem BK (K:VK)(f:FuncId)(C:Array Value)(hok:Ok d)(hcap:(D.ae d:Int)<=cap-aW bufs){H:Hp}
  (hs:Sep [ah p (ba dp ap x),Dk dp d,Ar ap cap aj bufs,ah bp (Oa #[V p] 270),B] H)
  (k:∀ b rb vb H,(∀ z∈bufs,z.1≠b)->Sep (vQ p dp ap bp b rb (D.ae d) vb d x cap (mx aj (aW bufs+D.ae d)) bufs (D.ae d) (List.replicate (D.ae d) 0) B) H->
   ∃ t,bf.l6 K t (Oo p) f #[] C (Oo b) 0 (x.w:Int) (x.f:Int) (Oo ap) (Oo vb) 1 1 H):
  aa prog 233 #[V p,.func (.func f) #[] C] H K:=by
 have hp:=Ok.dQ hok;apply bf.ok;unfold bf;simp only[HS];have rest:∀(b rb:Nat) (H:Hp),(∀ y∈bufs,y.1≠b)->Sep [Ar ap cap (if aW bufs+D.ae d>aj then aW bufs+D.ae d else aj) (bufs++[(b,D.ae d,some (O rb))]),ah rb (.row (dX (D.ae d)) 108 (D.ae d)),ah p (ba dp ap x),Dk dp d,ah bp (Oa #[V p] 270),B] H->
   bf.j2 K (Oo p) f #[] C (Oo b) 0 H:=fun b rb H hbm hs=>by
  unfold bf.j2;refine aF rfl ?_;simp only[HS];refine hs.ld 2 rfl rfl ?_;simp only[HV];refine hs.nw fun vb H hs=>?_
  refine bD.use (ov hs 2 rfl) ?_;simp only[HV];refine hs.ld 2 rfl rfl ?_;simp only[HV];have hz:dX (D.ae d)=af (List.replicate (D.ae d) 0):=by
   unfold dX;rw[eR];unfold af;rw[List.map_replicate];rfl
  rw[hz]at hs;exact k b rb vb H hbm (hs.re [2,3,0,1,4,5,6] rfl)
 have fresh:∀{L:List As} {H:Hp} (b rb:Nat) (pk:Int),Sep L H->L[0]? =some (Ar ap cap pk (bufs++[(b,D.ae d,some (O rb))]))->∀ y∈bufs,y.1≠b:=fun b rb pk hs h0 y hy e=>by
  obtain⟨mp,cl,tk,hA⟩:=Sep.ar hs 0 h0;have:=hA.bn;rw[List.map_append,List.nodup_append]at this;exact this.2.2 y.1 (List.mem_map_of_mem hy) b (by simp) e
 refine⟨?_,?_⟩
 .refine hs.ld 0 rfl rfl ?_;simp only[HV];refine aa.use (lE hs 0 1 rfl rfl hok) ?_
  try simp only[HV]
  refine(lj (a:=ap) (cap:=cap) (aj:=aj) (bufs:=bufs) (n:=D.ae d) (by omega) hcap).use hs [2] rfl rfl ?_;rintro _ _ H ⟨b,rb,rfl,rfl⟩ hs;simp only[HV];exact rest b rb H (fresh b rb _ hs rfl) hs
 .refine aa.use (lE hs 0 1 rfl rfl hok) ?_
  try simp only[HV]
  refine hs.ld 0 rfl rfl ?_;simp only[HV];refine(lj (a:=ap) (cap:=cap) (aj:=aj) (bufs:=bufs) (n:=D.ae d) (by omega) hcap).use hs [2] rfl rfl ?_;rintro _ _ H ⟨b,rb,rfl,rfl⟩ hs;simp only[HV];exact rest b rb H (fresh b rb _ hs rfl) hs
end
section
variable {p dp ap bp bw b rb mb : Nat} {d : D} {x : X} {cap aj : Int} {bufs : List (Nat × Nat × Option Addr)}
end
section
variable {p dp ap bp bw b rb mb vb : Nat} {d : D} {x : X} {cap aj pk : Int} {bufs : List (Nat × Nat × Option Addr)}
end
section
variable {p dp ap bp bc b rb mb vb : Nat} {d : D} {x : X} {cap aj pk : Int} {bufs : List (Nat × Nat × Option Addr)}
def rz (bc:Nat)(ws:List UInt64):As:=ah bc (CrcP.counter (Go.Crc.sum (form ws)) (8*ws.length))
def HO (bp bc:Nat):Array Value:=#[V bp,V bc]
end
def nS (ae w:Nat):Nat:=(w+ae-1)/ae
theorem IC {ae w i:Nat}(hp:1<=ae:=by omega):i<nS ae w↔i*ae<w:=by
 unfold nS;rw[Nat.lt_iff_add_one_le,Nat.le_div_iff_mul_le (by omega),Nat.succ_mul];omega
section
variable {p dp ap bp bc b rb mb vb : Nat} {d : D} {x : X} {cap aj pk : Int} {bufs : List (Nat × Nat × Option Addr)}
theorem Kv {ws pre:List UInt64}(hok:Ok d)(hl:d.down=false)(ho:d.rd<=4611685000000000000)(s n:Nat)(hs1:s<d.sec)(hn2:n<=D.ae d)(hpre:pre.length<=1000000000)
  (hbm:(b,D.ae d,some (O rb))∈bufs) (hws:ws.length=D.ae d):
  Tr prog 234 #[I s,I n,V b,V bp,V bc]
   [ah p (ba dp ap x),Dk dp d,Ar ap cap aj bufs,ah rb (.row (af ws) 108 mb),ah bp (Oa #[V p] 270),rz bc pre] fun v M=>
   (d.aH≠1/\v= I 0/\M=[ah p (ba dp ap x),Dk dp (D.mr d),Ar ap cap aj bufs,ah rb (.row (af (cX (d.now s))) 108 mb),ah bp (Oa #[V p] 270),rz bc (pre++(cX (d.now s)).take n)])\/
   (d.aH=1/\v= I 8/\M=[ah p (ba dp ap x),Dk dp (D.dead d),Ar ap cap aj bufs,ah rb (.row (af ws) 108 mb),ah bp (Oa #[V p] 270),rz bc pre]):=fun H hs=>by
 have hp:=Ok.dQ hok;have hwl:(cX (d.now (s:Int))).length=D.ae d:=by rw[iv,hok.now];rfl
 have htl:((cX (d.now (s:Int))).take n).length=n:=by rw[List.length_take];omega
 apply iK.ok;unfold iK
 try simp only[HS]
 refine hs.ld 4 rfl rfl ?_;simp only[HV]
 try simp only[HS]
 refine(AE (p:=p) (ap:=ap) (x:=x) (cap:=cap) (aj:=aj) (b:=b) (rb:=rb) (m:=mb) hok hl (by omega) (s:Int) (Int.natCast_nonneg _) (Int.ofNat_lt.2 hs1) hbm (xs:=af ws) (by rw[aB];exact hws)).use hs [0,1,2,3] rfl rfl ?_;rintro _ _ H (⟨hf,rfl,rfl⟩|⟨hf,rfl,rfl⟩) hs
 .simp only[HV];refine bH rfl ?_;refine aa.use (kF hs 2 rfl hbm) ?_;simp only[HV];refine wH rfl (by omega) ?_;rw[Bo,Nat.sub_zero,Nat.sub_zero];have hcell:Cells H (Oo rb) (af ((cX (d.now (s:Int))).take n)):=by
   have:=Cells.row (hs.get 3 (b:=rb) (o:=.row (af (cX (d.now (s:Int)))) 108 mb) rfl) 0 n;rw[List.drop_zero]at this;rw[show af ((cX (d.now (s:Int))).take n)=(af (cX (d.now (s:Int)))).take n by unfold af;rw[List.map_take]];exact this
  have hs:Sep [ah p (ba dp ap x),Dk dp (D.mr d),Ar ap cap aj bufs,ah rb (.row (af (cX (d.now (s:Int)))) 108 mb),ah bp (Oa #[V p] 270),ah bc (CrcP.counter (Go.Crc.sum (form pre)) (8*pre.length))] H:=hs;refine aa.use (CrcP.BF bc (Go.Crc.sum (form pre)) (8*pre.length) (Oo rb) n (D.ae d) ((cX (d.now (s:Int))).take n) htl.symm H (hs.get 5 rfl) hcell (by omega) (by omega)) ?_;have hs2:=hs.put 5 (CrcP.counter (Go.Crc.more (Go.Crc.sum (form pre)) (form ((cX (d.now (s:Int))).take n))) (8*pre.length+8*n)) rfl;refine⟨_,.inl ⟨hf,by first|rfl|trivial,rfl⟩,?_⟩;have e:rz bc (pre++(cX (d.now (s:Int))).take n)=ah bc (CrcP.counter (Go.Crc.more (Go.Crc.sum (form pre)) (form ((cX (d.now (s:Int))).take n))) (8*pre.length+8*n)):=by
   unfold rz;rw[List.length_append,htl,Nat.mul_add];have:form (pre++(cX (d.now (s:Int))).take n)=form pre++form ((cX (d.now (s:Int))).take n):=by unfold form;rw[List.flatMap_append]
   rw[this];unfold Go.Crc.sum;rw[Go.Crc.rh]
  rw[e];exact hs2
 .simp only[HV];refine bT (by decide) ?_;exact⟨_,.inr ⟨hf,by first|rfl|trivial,rfl⟩,hs⟩
def HP (p dp ap:Nat)(d:D)(x:X)(cap pk:Int)(bufs:List (Nat×Nat×OA))(v:Value)(M:List As):Prop:=
 ((d.aH=0\/nS (D.ae d) x.w<d.aH)/\v= .tuple #[Oi ((Go.Crc.sum (form (dE d x 0 x.w))).toNat:Int),I 0]/\M=[ah p (ba dp ap x),Dk dp (D.bE d (nS (D.ae d) x.w)),Ar ap cap pk bufs])\/
 (∃ j,j<nS (D.ae d) x.w/\d.aH=j+1/\v= .tuple #[Oi 0,I 8]/\M=[ah p (ba dp ap x),Dk dp (D.dead (D.bE d j)),Ar ap cap pk bufs])
theorem Di (K:VK)(hok:Ok d)(hl:d.down=false)(hbm:∀ z∈bufs,z.1≠b)(hx:On d x)(ho:d.rd<=3000000000000000000)
  (hK:∀ H,(d.aH=0\/nS (D.ae d) x.w<d.aH)->Sep [ah p (ba dp ap x),Dk dp (D.bE d (nS (D.ae d) x.w)),Ar ap cap pk bufs,rz bc (dE d x 0 x.w)] H->K (I 0) H)
  (hD:∀ j H pre,j<nS (D.ae d) x.w->d.aH=j+1->Sep [ah p (ba dp ap x),Dk dp (D.dead (D.bE d j)),Ar ap cap pk bufs,rz bc pre] H->K (I 8) H):
  ∀(t i:Nat) (ws:List UInt64) (H:Hp),x.w<=(i+t)*D.ae d->i<=nS (D.ae d) x.w->(d.aH=0\/i<d.aH)->ws.length=D.ae d->
   Sep (vQ p dp ap bp b rb mb vb (D.bE d i) x cap pk bufs (D.ae d) ws (rz bc (dE d x 0 (if i*D.ae d<x.w then i*D.ae d else x.w)))) H->
   bf.l6 K (t+2) (Oo p) 234 #[] (HO bp bc) (Oo b) 0 ((x.w:Int)-((i*D.ae d:Nat):Int)) ((x.f+i:Nat):Int) (Oo ap) (Oo vb) 1 1 H:=fun t=>by
 have hp:=Ok.dQ hok;have hsec:=hok.sec;have hroom:x.s*D.ae d<=1048576*512:=Nat.mul_le_mul (by have:=hx.fit;omega) (by omega);have h4:=hx.room;have hw1:=hx.w1;have hfit:=hx.fit;have fin:∀(i:Nat) (ws:List UInt64) (H:Hp),x.w<=i*D.ae d->i<=nS (D.ae d) x.w->(d.aH=0\/i<d.aH)->Sep (vQ p dp ap bp b rb mb vb (D.bE d i) x cap pk bufs (D.ae d) ws (rz bc (dE d x 0 (if i*D.ae d<x.w then i*D.ae d else x.w)))) H->
   dv prog 257 #[V ap,.slice (Oo vb) 1 1] H fun _ H9=>K (I 0) H9:=fun i ws H hi hie hfu hs=>by
  have e:i=nS (D.ae d) x.w:=by
   rcases Nat.lt_or_ge i (nS (D.ae d) x.w)with h|h
   .have:=(IC).1 h;omega
   .omega
  rw[if_neg (by omega)]at hs;unfold vQ at hs;refine(gp vb b (D.ae d) (Oo rb) hbm).use hs [2,6] rfl rfl ?_;rintro _ _ H ⟨rfl,rfl⟩ hs;subst e;exact hK H hfu (hs.re [1,2,0,5] rfl)
 induction t with
 |zero=>
  intro i ws H hi hie hfu hws hs;rw[Nat.add_zero]at hi;unfold bf.l6;exact au (by omega) (fin i ws H hi hie hfu hs)
 |succ t ih=>
  intro i ws H hi hie hfu hws hs;by_cases hlt:i*D.ae d<x.w
  .have his:i<x.s:=by
    apply Nat.lt_of_mul_lt_mul_right (a:=D.ae d);omega
   have hin:=(IC (ae:=D.ae d) (w:=x.w) (i:=i)).2 hlt;have hokj:=Ok.bE hok i;have hlj:(D.bE d i).down=false:=hl;generalize hnv:(if D.ae d<x.w-i*D.ae d then D.ae d else x.w-i*D.ae d)=n;have hn1:1<=n/\n<=D.ae d/\i*D.ae d+n<=x.w:=by rw[<- hnv];split<;>omega
   rw[if_pos hlt]at hs;unfold vQ at hs;unfold bf.l6;refine aA (by omega) (bH rfl ?_)
   try simp only[HS]
   refine aa.use (lE hs 0 1 rfl rfl hokj) ?_
   try simp only[HV]
   rw[show D.ae (D.bE d i)=D.ae d from rfl];refine cO (by kernel_rfl) ?_;unfold HO;rw[L3,JC (left:=x.w-i*D.ae d) (by omega),hnv];have hs1:x.f+i<(D.bE d i).sec:=by show _<d.sec;omega
   have ho1:(D.bE d i).rd<=4611685000000000000:=by show d.rd+i<=_;omega
   have hpl:(dE d x 0 (i*D.ae d)).length<=1000000000:=by rw[jW];omega
   refine(Kv (p:=p) (dp:=dp) (ap:=ap) (bp:=bp) (bc:=bc) (b:=b) (rb:=rb) (mb:=mb) (d:=D.bE d i) (x:=x) (cap:=cap) (aj:=pk) (bufs:=bufs++[(b,D.ae d,some (O rb))]) (ws:=ws) (pre:=dE d x 0 (i*D.ae d)) hokj hlj ho1 (x.f+i) n hs1 hn1.2.1 hpl (List.mem_append_right _ (List.mem_singleton.2 rfl)) hws).use hs [0,1,2,3,4,5] rfl rfl ?_;have hwl:(cX (d.now ((x.f+i:Nat):Int))).length=D.ae d:=by rw[iv,hok.now];rfl
   have e1:i64.wrap ((x.w:Int)-((i*D.ae d:Nat):Int)-(D.ae d:Int))=(x.w:Int)-(((i+1)*D.ae d:Nat):Int):=by
    rw[bg,Nat.succ_mul];omega
   have e2:i64.wrap (((x.f+i:Nat):Int)+1)=((x.f+(i+1):Nat):Int):=by
    rw[bg];omega
   rintro _ _ H (⟨hf,rfl,rfl⟩|⟨hf,rfl,rfl⟩) hs
   .refine vx (t:=63) (by kernel_rfl) (by kernel_rfl) ?_;rw[Be]at hs;simp only[HV];refine aa.use (lE hs 0 1 rfl rfl (Ok.bE hok (i+1))) ?_
    try simp only[HV]
    rw[show D.ae (D.bE d (i+1))=D.ae d from rfl,e1,e2];have hnext:i*D.ae d+n=(if(i+1)*D.ae d<x.w then(i+1)*D.ae d else x.w):=by
     rw[Nat.succ_mul,<-hnv];split<;>split<;>omega
    have hpc:(cX (d.now ((x.f+i:Nat):Int))).take n=dE d x (i*D.ae d) n:=by
     have:=uI hok x (fr:=i*D.ae d) (k:=n) (by rw[Nat.mul_mod_left];omega);rw[Nat.mul_div_cancel _ (by omega),Nat.mul_mod_left,List.drop_zero]at this;exact this
    have hpa:dE d x 0 (i*D.ae d)++(cX (d.now ((x.f+i:Nat):Int))).take n=dE d x 0 (i*D.ae d+n):=by
     rw[Cx,Nat.zero_add,hpc]
    have hf':d.aH-i≠1:=hf;refine ih (i+1) (cX (d.now ((x.f+i:Nat):Int))) H (by rw[show i+1+t=i+(t+1) by omega];exact hi) (by omega) (by omega) hwl ?_;rw[<- hnext,<-hpa];exact hs
   .refine vx (t:=63) (by kernel_rfl) (by kernel_rfl) ?_;simp only[HV];have hf':d.aH-i=1:=hf;have hokd:Ok (D.dead (D.bE d i)):=Ok.dead hokj;refine aa.use (lE hs 0 1 rfl rfl hokd) ?_
    try simp only[HV]
    rw[show D.ae (D.dead (D.bE d i))=D.ae d from rfl,e1,e2];unfold bf.l6;have give:dv prog 257 #[V ap,.slice (Oo vb) 1 1] H fun _ H9=>K (I 8) H9:=by
     refine(gp vb b (D.ae d) (Oo rb) hbm).use hs [2,6] rfl rfl ?_;rintro _ _ H ⟨rfl,rfl⟩ hs;exact hD i H _ hin (by omega) (hs.re [1,2,0,5] rfl)
    by_cases hgt:(x.w:Int)-(((i+1)*D.ae d:Nat):Int)>0
    .exact aA hgt (bT (by decide) give)
    .exact au hgt give
  .unfold bf.l6;exact au (by omega) (fin i ws H (by omega) hie hfu hs)
theorem xb (hok:Ok d)(hl:d.down=false)(hx:On d x)(ho:d.rd<=3000000000000000000)(hcap:(D.ae d:Int)<=cap-aW bufs):
  Tr prog 166 #[V p] [ah p (ba dp ap x),Dk dp d,Ar ap cap aj bufs] (HP p dp ap d x cap (mx aj (aW bufs+D.ae d)) bufs):=fun H hs=>by
 have hp:=Ok.dQ hok;apply jM.ok;unfold jM;refine hs.nw fun bp H hs=>?_
 refine hs.nw fun bc H hs=>?_
 refine hs.ld 3 rfl rfl ?_;simp only[HV];have h0:rz bc []=ah bc (Oa #[Oi 0,I 0] 329):=by
  unfold rz CrcP.counter;rfl
 have hs:Sep [ah p (ba dp ap x),Dk dp d,Ar ap cap aj bufs,ah bp (Oa #[V p] 270),rz bc []] H:=by rw[h0];exact hs
 refine BK (aj:=aj) (bufs:=bufs) (cap:=cap) (B:=rz bc []) _ 234 (HO bp bc) hok hcap hs fun b rb vb H hbm hs=>?_
 have e9:(x.w:Int)-((0*D.ae d:Nat):Int)=x.w:=by rw[Nat.zero_mul];omega
 have e0:(if 0*D.ae d<x.w then 0*D.ae d else x.w)=0:=by rw[Nat.zero_mul,if_pos (show 0<x.w from hx.w1)]
 refine⟨x.w+2,?_⟩;have t:=Di (p:=p) (dp:=dp) (ap:=ap) (bp:=bp) (bc:=bc) (b:=b) (rb:=rb) (mb:=D.ae d) (vb:=vb) (d:=d) (x:=x) (cap:=cap) (pk:=mx aj (aW bufs+D.ae d)) (bufs:=bufs)
  (fun v2 H3=>DI .i64 v2 fun x1=>aq (x1 !=(0:Int)) (∃ M,HP p dp ap d x cap (mx aj (aW bufs+D.ae d)) bufs (.tuple #[Oi 0,I x1]:Value) M/\Sep M H3)
   (aa prog 238 #[.pointer (some (O bc))] H3 fun v3 H4=>DI .u32 v3 fun x2=>∃ M,HP p dp ap d x cap (mx aj (aW bufs+D.ae d)) bufs (.tuple #[Oi x2,I 0]:Value) M/\Sep M H4))
  hok hl hbm hx ho (fun H hfu hs=>by
   simp only[HV];refine aF rfl ?_;have hs:Sep [ah p (ba dp ap x),Dk dp (D.bE d (nS (D.ae d) x.w)),Ar ap cap (mx aj (aW bufs+D.ae d)) bufs,ah bc (CrcP.counter (Go.Crc.sum (form (dE d x 0 x.w))) (8*(dE d x 0 x.w).length))] H:=hs;refine aa.use (CrcP.I3 bc _ _ H (hs.get 3 rfl)) ?_
   try simp only[HV]
   exact⟨_,.inl ⟨hfu,rfl,rfl⟩,hs.re [0,1,2] rfl⟩) (fun j H pre hj hfu hs=>by
   simp only[HV];refine aU (by decide) ?_;exact⟨_,.inr ⟨j,hj,hfu,rfl,rfl⟩,hs.re [0,1,2] rfl⟩) x.w 0 (List.replicate (D.ae d) 0) H (by rw[Nat.zero_add];exact Nat.le_mul_of_pos_right _ (by omega)) (Nat.zero_le _) (by omega) (by simp)
 rw[e0,e9]at t;exact t hs
end
end Str
namespace W
open Go Go.Hw
theorem ju :prog.follows .mixedOrders=true:=by kernel_rfl
def nf (A1:OA)(n1 m1:Nat)(x1:Int)(H:Hp)(K:VK):Prop:=
 Hz 147 #[I (n1:Int)] H fun v1 H1=>pZ v1 fun x2 c1=>(aq (!c1) (K (.tuple #[I 0,I 0,I 4]) H1) (aq (decide (x2>x1)) (K (.tuple #[I 0,I 0,I 14]) H1) (Hz 146 #[.slice A1 n1 m1] H1 fun v4 H2=>pZ v4 fun x3 c2=>(aq (!c2) (K (.tuple #[I 0,I x3,I 3]) H2) (K (.tuple #[I x2,I 0,I 0]) H2)))))
theorem nf.ok A1 n1 m1 x1 H K (h:nf A1 n1 m1 x1 H K):aa prog 131 #[.slice A1 n1 m1,I x1] H K:=
 bX ju Tryz.func131 rfl rfl h
def mq (x1 x2 x3 x4:Int)(H:Hp)(K:VK):Prop:=
 fP 196 #[I x1,I x3] H fun c1 H1=>aq (!c1) (K (.tuple #[.slice none 0 0,I 1]) H1) (aq (decide (x2<0)) (K (.tuple #[.slice none 0 0,I 18]) H1) (aq (decide (x2>1)) (K (.tuple #[.slice none 0 0,I 18]) H1) (cC 197 #[I x1,I x3] H1 fun x5 H2=>aq (decide (x4<x5)) (K (.tuple #[.slice none 0 0,I 6]) H2) (fP 198 #[I x1,I x3,I x4] H2 fun c2 H3=>aq c2 (aq (decide (x1<=(20:Int))) ((0<=(u64.wrap x1)/\eh 200 #[I x1,I x2] H3 fun x6 H4=>xN 199 #[.agg #[I 1,I (cT .i64 1 (u64.wrap x1))],I 0,I 3,I x2,I (-1),U x6] H4 fun y1 H5=>kb y1.toList fun x7 x8 x9 x10 x11 x12 x13 x14=>(Nw H5 (.row [I x7,I x8,I x9,I x10,U x11,I x12,I x13,I x14] 221 8) fun b1 H6=>K (.tuple #[.slice (Oo b1) 1 1,I 0]) H6))) (lM 201 #[I x1,I x2] H3 fun A1 n1 m1 H7=>K (.tuple #[.slice A1 n1 m1,I 0]) H7)) (lM 201 #[I x1,I x2] H3 fun A2 n2 m2 H8=>K (.tuple #[.slice A2 n2 m2,I 0]) H8)))))
theorem mq.ok x1 x2 x3 x4 H K (h:mq x1 x2 x3 x4 H K):aa prog 144 #[I x1,I x2,I x3,I x4] H K:=
 bX ju Tryz.func144 rfl rfl h
def ng (x1 x2:Int)(H:Hp)(K:VK):Prop:=
 fP 196 #[I x1,I x2] H fun c1 H1=>aq (!c1) (K (.tuple #[I 0,I 1]) H1) (cC 197 #[I x1,I x2] H1 fun x3 H2=>K (.tuple #[I x3,I 0]) H2)
theorem ng.ok x1 x2 H K (h:ng x1 x2 H K):aa prog 182 #[I x1,I x2] H K:=
 bX ju Tryz.func182 rfl rfl h
def oH (x1 x2:Int)(H:Hp)(K:VK):Prop:=
 aq (decide (x1>=0)) (aq (decide (x1<=(32:Int))) (aq (decide (x2>=4)) (aq (decide (x2<=(512:Int))) (K (.bool ((cD .i64 x2 (i64.wrap (x2-1)))==0)) H) (K (.bool false) H)) (K (.bool false) H)) (K (.bool false) H)) (K (.bool false) H)
theorem oH.ok x1 x2 H K (h:oH x1 x2 H K):aa prog 196 #[I x1,I x2] H K:=
 bX ju Tryz.func196 rfl rfl h
def ni (x1 x2:Int)(H:Hp)(K:VK):Prop:=
 ((2:Int)≠0/\i64=i64/\(0<=(u64.wrap (i64.wrap (Int.tdiv (i64.wrap (x1+1)) 2)))/\K (I (i64.wrap ((cT .i64 2 (u64.wrap (i64.wrap (Int.tdiv (i64.wrap (x1+1)) 2))))+x2))) H))
theorem ni.ok x1 x2 H K (h:ni x1 x2 H K):aa prog 197 #[I x1,I x2] H K:=
 bX ju Tryz.func197 rfl rfl h
def nh (x1 x2 x3:Int)(H:Hp)(K:VK):Prop:=
 fP 196 #[I x1,I x2] H fun c1 H1=>aq c1 ((0<=(u64.wrap x1)/\K (.bool (decide ((i64.wrap ((cT .i64 2 (u64.wrap x1))+x2))<=x3))) H1)) (K (.bool false) H1)
theorem nh.ok x1 x2 x3 H K (h:nh x1 x2 x3 H K):aa prog 198 #[I x1,I x2,I x3] H K:=
 bX ju Tryz.func198 rfl rfl h
def mu (x1 x2 x3 x4 x5 x6 x7:Int)(H:Hp)(K:VK):Prop:=
 Nw H (Oa #[I x1,I x2] 217) fun b1 H1=>Nw H1 (Oa #[I 0,I 0,I 0,I 0,U 0,I 0,I 0,I 0] 221) fun b2 H2=>aY H2 (O b1) 2 fun l1=>CZ l1.toArray.toList fun x8 x9=>(cK H2 (O b2) #[I x8,I x9,I x5,I x6,U x7,I 2,I x3,I x4] 8 fun H3=>aY H3 (O b2) 8 fun l4=>K (.agg l4.toArray) H3)
theorem mu.ok x1 x2 x3 x4 x5 x6 x7 H K (h:mu x1 x2 x3 x4 x5 x6 x7 H K):aa prog 199 #[.agg #[I x1,I x2],I x3,I x4,I x5,I x6,U x7] H K:=
 bX ju Tryz.func199 rfl rfl h
def nj (x1 x2:Int)(H:Hp)(K:VK):Prop:=
 aq (x2==0) (K (U 1) H) (Hz 118 #[I x1] H fun v1 H1=>kS v1 fun x3 x4=>(K (U x3) H1))
theorem nj.ok x1 x2 H K (h:nj x1 x2 H K):aa prog 200 #[I x1,I x2] H K:=
 bX ju Tryz.func200 rfl rfl h
def oI (x1 x2:Int)(H:Hp)(K:VK):Prop:=
 Hz 263 #[I x1] H fun v1 H1=>nZ v1 fun y1 x3=>(Nw H1 (Oa #[I 0,I 0] 217) fun b1 H2=>cK H2 (O b1) y1 2 fun H3=>aY H3 (O b1) 2 fun l4=>xN 264 #[.agg l4.toArray] H3 fun y2 H4=>Nw H4 (Oa #[I 0,I 0] 217) fun b2 H5=>cK H5 (O b2) y2 2 fun H6=>aY H6 (O b1) 2 fun l5=>B4 265 #[.agg l5.toArray,I 0,I 1] H6 fun y3=>aY H6 (O b2) 2 fun l6=>B4 199 #[.agg l6.toArray,I 1,I 2,I x2,I x1,U 1] H6 fun y4=>aY H6 (O b2) 2 fun l7=>B4 265 #[.agg l7.toArray,I 2,I 1] H6 fun y5=>aY H6 (O b1) 2 fun l8=>pf 200 #[I x1,I x2] H6 fun x4=>B4 199 #[.agg l8.toArray,I 1,I 2,I x2,I (-1),U x4] H6 fun y6=>aY H6 (O b1) 2 fun l9=>B4 265 #[.agg l9.toArray,I 2,I 3] H6 fun y7=>kb y3.toList fun x5 x6 x7 x8 x9 x10 x11 x12=>(kb y4.toList fun x13 x14 x15 x16 x17 x18 x19 x20=>(kb y5.toList fun x21 x22 x23 x24 x25 x26 x27 x28=>(kb y6.toList fun x29 x30 x31 x32 x33 x34 x35 x36=>(kb y7.toList fun x37 x38 x39 x40 x41 x42 x43 x44=>(Nw H6 (.row [I x5,I x6,I x7,I x8,U x9,I x10,I x11,I x12,I x13,I x14,I x15,I x16,U x17,I x18,I x19,I x20,I x21,I x22,I x23,I x24,U x25,I x26,I x27,I x28,I x29,I x30,I x31,I x32,U x33,I x34,I x35,I x36,I x37,I x38,I x39,I x40,U x41,I x42,I x43,I x44] 221 40) fun b3 H7=>K (.slice (Oo b3) 5 5) H7))))))
theorem oI.ok x1 x2 H K (h:oI x1 x2 H K):aa prog 201 #[I x1,I x2] H K:=
 nL (fun i=>match Nat.beq i 3 with|true=>some ([],[0,1,2,3,4,5,6,7,8,9,10,11,12,13,14,15],16)|false=>none) ju Tryz.func201 rfl rfl h
def oJ (x1 x2 x3 x4:Int)(H:Hp)(K:VK):Prop:=
 Nw H (Oa #[I x1,I x2] 217) fun b1 H1=>Nw H1 (Oa #[I 0,I 0,I 0,I 0,U 0,I 0,I 0,I 0] 221) fun b2 H2=>aY H2 (O b1) 2 fun l1=>CZ l1.toArray.toList fun x5 x6=>(cK H2 (O b2) #[I x5,I x6,I 0,I (-1),U 1,I 1,I x3,I x4] 8 fun H3=>aY H3 (O b2) 8 fun l4=>K (.agg l4.toArray) H3)
theorem oJ.ok x1 x2 x3 x4 H K (h:oJ x1 x2 x3 x4 H K):aa prog 265 #[.agg #[I x1,I x2],I x3,I x4] H K:=
 bX ju Tryz.func265 rfl rfl h
end W
namespace Pln
open Go Go.Hw W Shp Fft Ker Pas Str Dsk Trn
theorem CH :∀ k:Nat,k<61->cT .i64 2 (k:Int)=((2*2^k:Nat):Int):=by decide +kernel
theorem gO {k:Nat}(hk:k<=32:=by omega):2^k<=4294967296:=Nat.pow_le_pow_right (n:=2) (by omega) hk
theorem mR {ae:Nat}(hp:gL (ae:Int)=true):4<=ae/\ae<=512:=by have:=lD hp;omega
section
variable {k ae words : Nat} (hk : k <= 32) (hp : gL (ae : Int) = true)
include hk
theorem AB (hp:ae<=512)(H:Hp):aa prog 197 #[I (k:Int),I (ae:Int)] H (RetE (I (ec k ae:Int)) H):=by
 have h1:=gO (k:=(k+1)/2);apply ni.ok;unfold ni;rw[bg (x:=(k:Int)+1),show Int.tdiv ((k:Int)+1) 2=(((k+1)/2:Nat):Int)from rfl,dS,fC,CH _ (by omega),bg];refine⟨by decide,by simp,by omega,?_⟩;exact RetE.of (by unfold ec;rw[Int.natCast_add])
include hp
theorem lB (H:Hp):aa prog 196 #[I (k:Int),I (ae:Int)] H (RetE (.bool true) H):=by
 have h:=mR hp;apply oH.ok;unfold oH;refine aA (by omega) (aA (by omega) (aA (by omega) (aA (by omega) ?_)));rw[(xt (p:=(ae:Int))).2 hp];exact RetE.mk _ _
theorem GE (H:Hp):aa prog 182 #[I (k:Int),I (ae:Int)] H (RetE (.tuple #[I (ec k ae:Int),I 0]) H):=by
 have h:=mR hp;apply ng.ok;unfold ng;refine aa.use (lB hk hp H) ?_
 try simp only[HV]
 refine aa.use (AB hk (by omega) H) ?_
 try simp only[HV]
 exact RetE.mk _ _
theorem GL (hw:words<=16777216)(H:Hp):aa prog 198 #[I (k:Int),I (ae:Int),I (words:Int)] H (RetE (.bool (decide (2*2^k+ae<=words))) H):=by
 have h:=mR hp;have h1:=gO hk;apply nh.ok;unfold nh;refine aa.use (lB hk hp H) ?_
 try simp only[HV]
 rw[fC,CH _ (by omega),bg];refine⟨by omega,?_⟩;exact RetE.of (by congr 1;rw[decide_eq_decide];omega)
end
theorem Bl {k:Nat}(hk:k<=32)(d:Bool)(H:Hp):aa prog 200 #[I (k:Int),I (if d=true then 1 else 0)] H (RetE (U ((mK d k).toNat:Int)) H):=by
 apply nj.ok;unfold nj;cases d with
 |false=>exact bH rfl (RetE.mk _ _)
 |true=>
  refine bT (by decide) ?_;refine aa.use (rW hk H) ?_
  try simp only[HV]
  exact RetE.of (by unfold mK;rw[if_pos rfl,wN])
theorem xH (a b f o:Int)(H:Hp):aa prog 265 #[.agg #[I a,I b],I f,I o] H (RetE (.agg #[I a,I b,I 0,I (-1),U 1,I 1,I f,I o]) H):=aa.ret (by
 apply oJ.ok;unfold oJ;refine(Sep.start H).nw fun b1 H1 hs=>?_
 refine hs.nw fun b2 H1 hs=>?_
 refine hs.bJ 1 rfl rfl ?_;simp only[HV];refine hs.eY 2 rfl rfl rfl rfl fun H1 hs=>?_
 refine hs.bJ 2 rfl rfl ?_;exact hs.fin 0 rfl _)
theorem sT (a b f o di tw sh:Int)(H:Hp):aa prog 199 #[.agg #[I a,I b],I f,I o,I di,I tw,U sh] H (RetE (.agg #[I a,I b,I di,I tw,U sh,I 2,I f,I o]) H):=aa.ret (by
 apply mu.ok;unfold mu;refine(Sep.start H).nw fun b1 H1 hs=>?_
 refine hs.nw fun b2 H1 hs=>?_
 refine hs.bJ 1 rfl rfl ?_;simp only[HV];refine hs.eY 2 rfl rfl rfl rfl fun H1 hs=>?_
 refine hs.bJ 2 rfl rfl ?_;exact hs.fin 0 rfl _)
theorem EF (a b:Int)(H:Hp):aa prog 264 #[.agg #[I a,I b]] H (RetE (.agg #[I b,I a]) H):=aa.ret (by
 apply lp.ok;unfold lp;refine(Sep.start H).nw fun b1 H1 hs=>?_
 refine hs.nw fun b2 H1 hs=>?_
 refine hs.cg 1 rfl rfl ?_;simp only[HV];refine hs.cg 1 rfl rfl ?_;simp only[HV];refine hs.eY 2 rfl rfl rfl rfl fun H1 hs=>?_
 refine hs.bJ 2 rfl rfl ?_;exact hs.fin 0 rfl _)
theorem HG {k a:Nat}(hk:k<=32)(ha:a<=k)(H:Hp):aa prog 328 #[I (k:Int),I (a:Int)] H (RetE (.agg #[I ((2^a:Nat):Int),I ((2^(k-a):Nat):Int)]) H):=aa.ret (by
 apply mA.ok;unfold mA;refine(Sep.start H).nw fun b1 H1 hs=>?_
 rw[bg (x:=(k:Int)-a),show(k:Int)-a=((k-a:Nat):Int) by omega,fC,fC,Lay.lG (by omega),Lay.lG (by omega)];refine⟨by omega,by omega,?_⟩;refine hs.eY 1 rfl rfl rfl rfl fun H1 hs=>?_
 refine hs.bJ 1 rfl rfl ?_;exact hs.fin 0 rfl _)
theorem HC {k:Nat}(hk:k<=32)(H:Hp):aa prog 327 #[I (k:Int)] H (RetE (.bool true) H):=by
 apply nv.ok;unfold nv;refine aA (by omega) ?_;rw[decide_eq_true (by omega)];exact RetE.mk _ _
theorem I8 {k:Nat}(hk:k<=32)(H:Hp):aa prog 263 #[I (k:Int)] H (RetE (.tuple #[.agg #[I ((2^(k/2):Nat):Int),I ((2^(k-k/2):Nat):Int)],I 0]) H):=aa.ret (by
 apply nr.ok;unfold nr;refine(Sep.start H).nw fun b1 H1 hs=>?_
 refine aa.use (HC hk H1) ?_
 try simp only[HV]
 rw[show Int.tdiv (k:Int) 2=((k/2:Nat):Int)from rfl,dS];refine⟨by decide,by simp,?_⟩;refine aa.use (HG hk (a:=k/2) (by omega) H1) ?_
 try simp only[HV]
 refine hs.eY 1 rfl rfl rfl rfl fun H1 hs=>?_
 refine hs.bJ 1 rfl rfl ?_;exact hs.fin 0 rfl _)
def fc (ps:List Pz):List Value:=ps.flatMap fun p=>p.c.toList
theorem yG :∀ ps:List Pz,(fc ps).length=ps.length*8
 | []=>rfl
 |p::ps=>by
  show(p.c.toList++fc ps).length=_
  rw[List.length_append,yG ps,List.length_cons,Nat.succ_mul];have:p.c.toList.length=8:=rfl;omega
theorem yF :∀(ps:List Pz) (i:Nat) (p:Pz),ps[i]? =some p->((fc ps).drop (i*8)).take 8=p.c.toList
 | [],i,p,h=>by simp at h
 |q::ps,0,p,h=>by
  cases h;show((q.c.toList++fc ps).drop (0*8)).take 8=_
  rw[Nat.zero_mul,List.drop_zero,List.take_append_of_le_length (by show 8<=8;omega)];rfl
 |q::ps,i+1,p,h=>by
  show((q.c.toList++fc ps).drop ((i+1)*8)).take 8=_
  have e:(i+1)*8=q.c.toList.length+i*8:=by have:q.c.toList.length=8:=rfl;omega
  rw[e,List.drop_append,List.drop_eq_nil_of_le (by omega),List.nil_append,Nat.add_sub_cancel_left];exact yF ps i p (by simpa using h)
theorem JA {k:Nat}(hk:k<=32)(d:Bool):Tr prog 201 #[I (k:Int),I (if d=true then 1 else 0)] [] fun v M=>∃ b,v= .slice (Oo b) 5 5/\M=[ah b (.row (fc (nI d k)) 221 40)]:=fun H hs=>by
 apply oI.ok;unfold oI;refine aa.use (I8 hk H) ?_
 try simp only[HV]
 refine hs.nw fun b1 H hs=>?_
 refine hs.eY 0 rfl rfl rfl rfl fun H hs=>?_;refine hs.bJ 0 rfl rfl ?_;refine aa.use (EF _ _ H) ?_
 try simp only[HV]
 refine hs.nw fun b2 H hs=>?_
 refine hs.eY 1 rfl rfl rfl rfl fun H hs=>?_;refine hs.bJ 0 rfl rfl ?_;refine bD.use (xH _ _ 0 1 H) ?_
 try simp only[HV]
 refine hs.bJ 1 rfl rfl ?_;refine bD.use (sT _ _ 1 2 (if d=true then 1 else 0) (k:Int) 1 H) ?_
 try simp only[HV]
 refine hs.bJ 1 rfl rfl ?_;refine bD.use (xH _ _ 2 1 H) ?_
 try simp only[HV]
 refine hs.bJ 0 rfl rfl ?_;refine bD.use (Bl hk d H) ?_
 try simp only[HV]
 refine bD.use (sT _ _ 1 2 (if d=true then 1 else 0) (-1) ((mK d k).toNat:Int) H) ?_
 try simp only[HV]
 refine hs.bJ 0 rfl rfl ?_;refine bD.use (xH _ _ 2 3 H) ?_
 try simp only[HV]
 refine hs.nw fun b3 H hs=>?_
 exact⟨_,⟨b3,rfl,rfl⟩,hs.re [2] rfl⟩
def Cq (d:Bool)(k ae words:Nat)(v:Value)(M:List As):Prop:=∃ b,v= .tuple #[.slice (Oo b) (eC d k ae words).length (eC d k ae words).length,I 0]/\M=[ah b (.row (fc (eC d k ae words)) 221 ((eC d k ae words).length*8))]
theorem EB {k ae words:Nat}(hk:k<=32)(hp:gL (ae:Int)=true)(hw:ec k ae<=words/\words<=16777216)(d:Bool):
  Tr prog 144 #[I (k:Int),I (if d=true then 1 else 0),I (ae:Int),I (words:Int)] [] (Cq d k ae words):=fun H hs=>by
 have h:=mR hp;have h1:=gO hk;apply mq.ok;unfold mq;refine aa.use (lB hk hp H) ?_
 try simp only[HV]
 refine au (by cases d<;>decide) (au (by cases d<;>decide) ?_);refine aa.use (AB hk h.2 H) ?_
 try simp only[HV]
 refine au (by omega) ?_;refine aa.use (GL hk hp hw.2 H) ?_
 try simp only[HV]
 have long:Bm k ae words=false->aa prog 201 #[I (k:Int),I (if d=true then 1 else 0)] H fun v14 H7=>aE v14 fun A1 n1 m1=>∃ M,Cq d k ae words (.tuple #[.slice A1 n1 m1,I 0]) M/\Sep M H7:=fun hb=>by
  refine(JA hk d).use hs [] rfl rfl ?_;rintro _ _ H1 ⟨b,rfl,rfl⟩ hs;simp only[HV];have e:eC d k ae words=nI d k:=by unfold eC;rw[if_neg (by rw[hb];simp)]
  exact⟨_,⟨b,by rw[e];rfl,rfl⟩,by rw[e];exact hs⟩
 by_cases hs1:2*2^k+ae<=words
 .refine aA hs1 ?_;by_cases hk2:k<=20
  .refine aA (by omega) ?_;rw[fC,Lay.lG (by omega)];refine⟨by omega,?_⟩;refine aa.use (Bl hk d H) ?_
   try simp only[HV]
   refine aa.use (sT _ _ 0 3 (if d=true then 1 else 0) (-1) ((mK d k).toNat:Int) H) ?_
   try simp only[HV]
   refine hs.nw fun b1 H hs=>?_
   have e:eC d k ae words=[Bn d k]:=by unfold eC;rw[if_pos (show Bm k ae words=true from decide_eq_true ⟨hk2,hs1⟩)]
   exact⟨_,⟨b1,by rw[e];rfl,rfl⟩,by rw[e];exact hs⟩
  .refine au (by omega) (long (decide_eq_false (by omega)))
 .exact au hs1 (long (decide_eq_false (by omega)))
end Pln
namespace W
open Go Go.Hw
theorem oh :prog.follows .mixedOrders=true:=by kernel_rfl
def fT.j6 (K:VK)(p5 p6:OA)(x6:Int)(a1 a2:Addr)(p7 p8:OA)(H:Hp):=
 Hz 166 #[.pointer p7] H fun v7 H4=>rX v7 fun x7 x8=>(aq (x8 !=0) (K (.tuple #[Oi 0,I x8]) H4) (aq (x7 !=x6) (K (.tuple #[Oi 0,I 9]) H4) (aY H4 a2 8 fun l10=>aM H4 (a1.add 1) fun x9=>Hz 169 #[.pointer p7,.pointer p8,.agg l10.toArray,.pointer p6,I x9] H4 fun v11 H5=>rX v11 fun x10 x11=>(aq (x11 !=0) (K (.tuple #[Oi 0,I x11]) H5) (cC 127 #[.pointer p5] H5 fun x12 H6=>aq (x12 !=0) (K (.tuple #[Oi 0,I x12]) H6) (K (.tuple #[Oi x10,I 0]) H6))))))
def fT (p1 p2:OA)(y1:Array Value)(x1:Int)(y2:Array Value)(x2:Int)(H:Hp)(K:VK):Prop:=
 Nw H (Oa y1 153) fun b1 H1=>Nw H1 (Oa y2 221) fun b2 H2=>aY H2 (O b1) 17 fun l1=>aY H2 (O b2) 8 fun l2=>Hz 168 #[.pointer p1,.pointer p2,.agg l1.toArray,I x1,.agg l2.toArray] H2 fun v1 H3=>Iu v1 fun p3 p4 x3=>(aq (x3 !=0) (K (.tuple #[Oi 0,I x3]) H3) (aM H3 ((O b2).add 5) fun x4=>aq (x4 !=1) (aM H3 ((O b2).add 5) fun x5=>aq (x5 !=2) (K (.tuple #[Oi 0,I 18]) H3) (fT.j6 K p1 p2 x2 (O b1) (O b2) p3 p4 H3)) (fT.j6 K p1 p2 x2 (O b1) (O b2) p3 p4 H3)))
def fT.Λ (K:VK):aI:=⟨fun i=>match Nat.beq i 6 with|true=>some (fun E D H=>eP E 0 fun p5=>eP E 1 fun p6=>eI E 5 .u32 fun x6=>eN E 8 fun a1=>eN E 10 fun a2=>eP E 14 fun p7=>eP E 15 fun p8=>ax D (fT.j6 K p5 p6 x6 a1 a2 p7 p8 H))|false=>none,fun i=>none,(fun _=>none)⟩
theorem fT.ok p1 p2 y1 x1 y2 x2 H K (h:fT p1 p2 y1 x1 y2 x2 H K):aa prog 109 #[.pointer p1,.pointer p2,.agg y1,I x1,.agg y2,Oi x2] H K:=
 dV (Λ:=(fT.Λ K)) oh Tryz.func109 rfl rfl h (oC (fun E D H h=>by
   obtain⟨p5,e0,g2⟩:=GP h;obtain⟨p6,e1,g4⟩:=GP g2;obtain⟨x6,e5,g6⟩:=GI g4;obtain⟨a1,e8,g9⟩:=GN g6;obtain⟨a2,e10,g12⟩:=GN g9;obtain⟨p7,e14,g14⟩:=GP g12;obtain⟨p8,e15,g16⟩:=GP g14;obtain⟨rfl,h'⟩:=ax.out g16;exact cU (Λ:=(fT.Λ K)) oh [] (ag.cons e0 (ag.cons e1 (ag.cons e5 (ag.cons e8 (ag.cons e10 (ag.cons e14 (ag.cons e15 (ag.nil _)))))))) h' oN) oN)
def oD (p1 p2:OA)(y1:Array Value)(x1 x2:Int)(H:Hp)(K:VK):Prop:=
 Nw H (Oa y1 153) fun b1 H1=>aY H1 (O b1) 17 fun l1=>Hz 231 #[.agg l1.toArray,I x1,I x2] H1 fun v1 H2=>nZ v1 fun y2 x3=>(Nw H2 (Oa #[I 0,I 0,I 0] 150) fun b2 H3=>cK H3 (O b2) y2 3 fun H4=>aq (x3 !=0) (K (.tuple #[.pointer none,I x3]) H4) (aY H4 (O b2) 3 fun l5=>Hz 232 #[.pointer p1,.pointer p2,.agg l5.toArray] H4 fun v4 H5=>jO v4 fun p3 x4=>(K (.tuple #[.pointer p3,I x4]) H5)))
theorem oD.ok p1 p2 y1 x1 x2 H K (h:oD p1 p2 y1 x1 x2 H K):aa prog 165 #[.pointer p1,.pointer p2,.agg y1,I x1,I x2] H K:=
 bX oh Tryz.func165 rfl rfl h
def oE (p1 p2:OA)(y1:Array Value)(x1:Int)(y2:Array Value)(H:Hp)(K:VK):Prop:=
 Nw H (Oa y1 153) fun b1 H1=>Nw H1 (Oa y2 221) fun b2 H2=>aY H2 (O b1) 17 fun l1=>aM H2 ((O b2).add 6) fun x2=>Hz 165 #[.pointer p1,.pointer p2,.agg l1.toArray,I x2,I x1] H2 fun v2 H3=>jO v2 fun p3 x3=>(aq (x3==0) (aY H3 (O b1) 17 fun l5=>aM H3 ((O b2).add 7) fun x4=>Hz 165 #[.pointer p1,.pointer p2,.agg l5.toArray,I x4,I x1] H3 fun v6 H4=>jO v6 fun p4 x5=>(K (.tuple #[.pointer p3,.pointer p4,I x5]) H4)) (K (.tuple #[.pointer p3,.pointer none,I x3]) H3))
theorem oE.ok p1 p2 y1 x1 y2 H K (h:oE p1 p2 y1 x1 y2 H K):aa prog 168 #[.pointer p1,.pointer p2,.agg y1,I x1,.agg y2] H K:=
 bX oh Tryz.func168 rfl rfl h
def pn (p1 p2:OA)(y1:Array Value)(p3:OA)(x1:Int)(H:Hp)(K:VK):Prop:=
 Nw H (Oa y1 221) fun b1 H1=>aM H1 ((O b1).add 5) fun x2=>aq (x2==1) (aY H1 (((O b1).add 0).add 0) 2 fun l1=>Hz 239 #[.pointer p1,.pointer p2,.agg l1.toArray,.pointer p3,I x1] H1 fun v2 H2=>rX v2 fun x3 x4=>(K (.tuple #[Oi x3,I x4]) H2)) (aq (x2==2) (aY H1 ((O b1).add 0) 5 fun l5=>Hz 240 #[.pointer p1,.pointer p2,.agg l5.toArray,.pointer p3,I x1] H1 fun v5 H3=>rX v5 fun x5 x6=>(K (.tuple #[Oi x5,I x6]) H3)) (K (.tuple #[Oi 0,I 18]) H1))
theorem pn.ok p1 p2 y1 p3 x1 H K (h:pn p1 p2 y1 p3 x1 H K):aa prog 169 #[.pointer p1,.pointer p2,.agg y1,.pointer p3,I x1] H K:=
 bX oh Tryz.func169 rfl rfl h
def fa.q1 (H3:Hp)(b2:Nat)(K:VK):Prop:=
 cK H3 (O b2) #[I 0,I 0,I 0] 3 fun H4=>aY H4 (O b2) 3 fun l2=>K (.tuple #[.agg l2.toArray,I 1]) H4
def fa (y1:Array Value)(x1 x2:Int)(H:Hp)(K:VK):Prop:=
 Nw H (Oa y1 153) fun b1 H1=>Nw H1 (Oa #[I 0,I 0,I 0] 150) fun b2 H2=>aY H2 (O b1) 17 fun l1=>fP 295 #[.agg l1.toArray] H2 fun c1 H3=>aq (!c1) (fa.q1 H3 b2 K) (aq (decide (x1<0)) (fa.q1 H3 b2 K) (aq (decide (x1>=4)) (fa.q1 H3 b2 K) (aq (decide (x2<0)) (fa.q1 H3 b2 K) (aM H3 ((O b1).add 0) fun x3=>aq (decide (x2>x3)) (fa.q1 H3 b2 K) ((0<=(u64.wrap x2)/\cz x1 4 (aM H3 ((((O b1).add 5).add (x1.toNat*3)).add 0) fun x4=>aM H3 ((O b1).add 1) fun x5=>(x5≠0/\i64=i64/\cK H3 (O b2) #[I x4,I (i64.wrap ((i64.wrap (Int.tdiv (i64.wrap ((cT .i64 1 (u64.wrap x2))-1)) x5))+1)),I (cT .i64 1 (u64.wrap x2))] 3 fun H9=>aY H9 (O b2) 3 fun l7=>K (.tuple #[.agg l7.toArray,I 0]) H9))))))))
theorem fa.ok y1 x1 x2 H K (h:fa y1 x1 x2 H K):aa prog 231 #[.agg y1,I x1,I x2] H K:=
 nL (fun i=>match Nat.beq i 4 with|true=>some ([],[0,1,2,3,4,5,6,7,8,9,10,11,12],13)|false=>none) oh Tryz.func231 rfl rfl h
end W
namespace Eng
open Go Go.Hw Go.Form W Shp Dsk Str Are Trn Pas Pln
theorem LJ :Ct prog 153 17:=⟨by kernel_rfl,by kernel_rfl,by kernel_rfl,by kernel_rfl⟩
def Dn (k p:Nat):List Int:=
 let r:Int:=Lay.bI k p
 let w:Int:=(2^k:Nat)
 [(k:Int),(p:Int),1,8,((8*p:Nat):Int),9,r,w,9+r,r,w,9+2*r,r,w,9+3*r,r,w]
theorem DD {ae:Nat}(h:gL (ae:Int)=true):ae=4\/ae=8\/ae=16\/ae=32\/ae=64\/ae=128\/ae=256\/ae=512:=by
 unfold gL at h;simp only[Bool.or_eq_true,beq_iff_eq]at h;omega
theorem Cs {ae:Nat}(h:gL (ae:Int)=true):Lay.bP ((ae*8:Nat):Int)=ae:=by
 rcases DD h with e|e|e|e|e|e|e|e<;>subst e<;>decide
theorem yH {s:Nat}(h:0<Lay.bP s):gL ((s/8:Nat):Int)=true:=by
 have:s=32\/s=64\/s=128\/s=256\/s=512\/s=1024\/s=2048\/s=4096:=by
  unfold Lay.bP at h
  repeat' split at h
  all_goals omega
 rcases this with e|e|e|e|e|e|e|e<;>subst e<;>decide
theorem wB {k p:Nat}(hk:k<=32):Lay.bI k p<=4294967296:=by
 have:=gO hk;unfold Lay.bI;have:=Nat.div_le_self (2^k-1) p;have:=Nat.two_pow_pos k;omega
section
variable {aG ae : Nat} (hm : aG <= 32) (hp : gL (ae : Int) = true)
include hm hp
theorem we :∀ x∈Dn aG ae,-9223372036854775808<=x/\x<=9223372036854775807:=by
 have h1:=wB (p:=ae) hm;have h2:=gO hm;have h3:=mR hp;intro x hx;unfold Dn at hx;generalize Lay.bI aG ae=rr at*;generalize 2^aG=ww at*;simp only[List.mem_cons,List.not_mem_nil,or_false]at hx;omega
theorem fA (H:Hp):aa prog 295 #[.agg (Lay.ir aG ae)] H (RetE (.bool true) H):=aa.ret (by
 have h3:=mR hp;apply me.ok;unfold me;refine(Sep.start H).nw fun b1 H1 hs=>?_
 refine hs.cg 1 rfl rfl ?_;simp only[HV];refine hs.cg 1 rfl rfl ?_;simp only[HV];rw[if_neg (by omega),bg (x:=(ae:Int)*8)];refine bD.use (Lay.wo ((ae:Int)*8) H1) ?_
 try simp only[HV]
 have e:Lay.bP ((ae:Int)*8)=ae:=Cs hp;rw[e];refine bD.use (Lay.lB (aG:Int) (ae:Int) H1) ?_
 try simp only[HV]
 rw[decide_eq_true (by omega)];refine cO rfl ?_;refine hs.bJ 1 rfl rfl ?_;refine hs.cg 1 rfl rfl ?_;simp only[HV];refine hs.cg 1 rfl rfl ?_;simp only[HV];refine bD.use (Lay.Fo hm (p:=ae) (by omega) (by omega) H1) ?_
 try simp only[HV]
 refine I6 LJ (a:=Dn aG ae) (b:=Dn aG ae) rfl rfl (we hm hp) (we hm hp) rfl rfl ?_;rw[decide_eq_true rfl];exact hs.fin 0 rfl _)
theorem Er {i k:Nat}(hi:i<4)(hk:k<=aG)(H:Hp):aa prog 231 #[.agg (Lay.ir aG ae),I (i:Int),I (k:Int)] H
  (RetE (.tuple #[.agg #[I (((eO aG ae i k).f:Nat):Int),I (((eO aG ae i k).s:Nat):Int),I (((eO aG ae i k).w:Nat):Int)],I 0]) H):=aa.ret (by
 have h3:=mR hp;have h1:=gO (k:=k);have h4:=Nat.two_pow_pos k;have h5:=wB (p:=ae) hm;apply fa.ok;unfold fa fa.q1;refine(Sep.start H).nw fun b1 H1 hs=>?_
 refine hs.nw fun b2 H1 hs=>?_
 refine hs.bJ 1 rfl rfl ?_;rw[Array.toArray_toList];refine aa.use (fA hm hp H1) ?_
 try simp only[HV]
 refine au (by omega) (au (by omega) (au (by omega) ?_));refine hs.cg 1 (v:=I aG) rfl rfl ?_;simp only[HV];refine au (by omega) ⟨by rw[fC];omega,by omega,by omega,?_⟩;rw[Int.toNat_natCast]
 try simp only[HS]
 refine hs.ld 1 (v:=I (Lay.Ca (Lay.bI aG ae) i)) rfl (by rw[xp,Array.getElem?_toList];exact Lay.Fm aG ae i hi) ?_;simp only[HV];refine hs.ld 1 (v:=I ae) rfl rfl ?_;simp only[HV];rw[fC (n:=k),Lay.lG (by omega),bg (x:=((2^k:Nat):Int)-1),show((2^k:Nat):Int)-1=((2^k-1:Nat):Int) by omega,
  show Int.tdiv ((2^k-1:Nat):Int) (ae:Int)=(((2^k-1)/ae:Nat):Int)from rfl]
 have h6:=Nat.div_le_self (2^k-1) ae;rw[dS (Nat.le_trans h6 (by omega)),bg (x:=(((2^k-1)/ae:Nat):Int)+1) (by generalize(2^k-1)/ae=q at *;omega) (by generalize(2^k-1)/ae=q at *;omega)];refine⟨by omega,by simp,?_⟩;refine hs.eY 2 rfl rfl rfl rfl fun H1 hs=>?_
 refine hs.bJ 2 rfl rfl ?_;have e1:Lay.Ca (Lay.bI aG ae) i=(((eO aG ae i k).f:Nat):Int):=by unfold Lay.Ca eO;simp
 rw[e1];exact hs.fin 0 rfl _)
end
structure qF (d:D)(aG:Nat):Prop where
 m:aG<=32
 p:gL (D.ae d:Int)=true
 fit:Lay.eQ aG (D.ae d)<=d.sec
theorem qF.on {d:D}{aG:Nat}(h:qF d aG)(hok:Ok d){i k:Nat}(hi:i<4)(hk:k<=aG):On d (eO aG (D.ae d) i k):=by
 have h1:=(Ok.dQ hok).1;have h2:=qT (p:=D.ae d) hk;have h3:=h.fit;have h4:=uc (k:=k) (p:=D.ae d) (by omega);have h5:=Nat.two_pow_pos k;unfold Lay.eQ at h3;have h6:i*Lay.bI aG (D.ae d)<=3*Lay.bI aG (D.ae d):=Nat.mul_le_mul_right _ (by omega);exact⟨h5,Nat.le_add_left 1 ((2^k-1)/D.ae d),by show 9+i*Lay.bI aG (D.ae d)+Lay.bI k (D.ae d)<=d.sec;omega,h4⟩
theorem qF.prog {d d':D}{aG:Nat}(h:qF d aG)(h1:d'.sec=d.sec)(h2:d'.size=d.size):qF d' aG:=by
 have e:D.ae d'=D.ae d:=by unfold D.ae;rw[h2]
 exact⟨h.m,by rw[e];exact h.p,by rw[e,h1];exact h.fit⟩
theorem EU {aG ae i j k:Nat}(hk:k<=aG)(hij:i≠j):(eO aG ae i k).f+(eO aG ae i k).s<=(eO aG ae j k).f\/(eO aG ae j k).f+(eO aG ae j k).s<=(eO aG ae i k).f:=by
 have h2:=qT (p:=ae) hk;show 9+i*Lay.bI aG ae+Lay.bI k ae<=9+j*Lay.bI aG ae\/9+j*Lay.bI aG ae+Lay.bI k ae<=9+i*Lay.bI aG ae
 rcases Nat.lt_or_gt_of_ne hij with h|h
 .left;have:(i+1)*Lay.bI aG ae<=j*Lay.bI aG ae:=Nat.mul_le_mul_right _ h;rw[Nat.succ_mul]at this;omega
 .right;have:(j+1)*Lay.bI aG ae<=i*Lay.bI aG ae:=Nat.mul_le_mul_right _ h;rw[Nat.succ_mul]at this;omega
section
variable {dp ap : Nat} {d : D} {aG : Nat} (hok : Ok d) (hl : qF d aG)
include hok hl
theorem tR {i k:Nat}(hi:i<4)(hk:k<=aG):Tr prog 165 #[V dp,V ap,.agg (Lay.ir aG (D.ae d)),I (i:Int),I (k:Int)] [Dk dp d] fun v M=>
  ∃ p,v= .tuple #[V p,I 0]/\M=[Dk dp d,ah p (ba dp ap (eO aG (D.ae d) i k))]:=fun H hs=>by
 apply oD.ok;unfold oD;refine hs.nw fun b1 H hs=>?_
 refine hs.bJ 1 rfl rfl ?_;rw[Array.toArray_toList];refine aa.use (Er hl.m hl.p hi hk H) ?_
 try simp only[HV]
 refine hs.nw fun b2 H hs=>?_
 refine hs.eY 2 rfl rfl rfl rfl fun H hs=>?_;refine aF rfl ?_;refine hs.bJ 2 rfl rfl ?_;refine(iU (dp:=dp) (ap:=ap) hok (eO aG (D.ae d) i k) (hl.on hok hi hk)).use hs [0] rfl rfl ?_;rintro _ _ H ⟨p,rfl,rfl⟩ hs;simp only[HV];exact⟨_,⟨p,rfl,rfl⟩,hs.re [0,1] rfl⟩
theorem Jn {pz:Pz}{k:Nat}(hf:pz.f<4)(ho:pz.o<4)(hk:k<=aG):Tr prog 168 #[V dp,V ap,.agg (Lay.ir aG (D.ae d)),I (k:Int),.agg pz.c] [Dk dp d] fun v M=>
  ∃ p q,v= .tuple #[V p,V q,I 0]/\M=[Dk dp d,ah p (ba dp ap (eO aG (D.ae d) pz.f k)),ah q (ba dp ap (eO aG (D.ae d) pz.o k))]:=fun H hs=>by
 apply oE.ok;unfold oE;refine hs.nw fun b1 H hs=>?_
 refine hs.nw fun b2 H hs=>?_
 refine hs.bJ 1 rfl rfl ?_;rw[Array.toArray_toList];refine hs.cg 2 (v:=I (pz.f:Int)) rfl rfl ?_;simp only[HV];refine(tR (dp:=dp) (ap:=ap) hok hl hf hk).use hs [0] rfl rfl ?_;rintro _ _ H ⟨p,rfl,rfl⟩ hs;simp only[HV];refine bH rfl ?_;refine hs.bJ 2 rfl rfl ?_;rw[Array.toArray_toList];refine hs.cg 3 (v:=I (pz.o:Int)) rfl rfl ?_;simp only[HV];refine(tR (dp:=dp) (ap:=ap) hok hl ho hk).use hs [0] rfl rfl ?_;rintro _ _ H ⟨q,rfl,rfl⟩ hs;simp only[HV];exact⟨_,⟨p,q,rfl,rfl⟩,hs.re [0,2,1] rfl⟩
end
structure zR (pz:Pz)(k ae cap:Nat):Prop where
 f:pz.f<4
 o:pz.o<4
 fo:pz.f≠pz.o
 k:pz.j.ea+pz.j.eb=k
 tn:pz.t=true->2^pz.j.ea+ae<=cap
 rw:pz.t=false->pz.j.eb<=20/\-1<=pz.j.tw/\pz.j.tw<=32/\ae+2*2^pz.j.eb<=cap
def vv (ae cap f o:Nat)(pz:Pz)(r w:Nat):Prop:=
 (pz.t=true/\∃ j,gy ((2^pz.j.ea:Nat):Int) ((2^pz.j.eb:Nat):Int) ae cap j/\r=rT ae f o (2^pz.j.ea) (2^pz.j.eb) (2^j) (2^pz.j.eb/2^j)/\w=wT ae o (2^pz.j.ea) (2^j) (2^pz.j.eb/2^j))\/
 (pz.t=false/\∃ j,jC pz.j.ea ((cap-ae)/2^pz.j.eb) j/\r=rP ae f o (2^j*2^pz.j.eb) (2^pz.j.ea/2^j)/\w=wP ae o (2^j*2^pz.j.eb) (2^pz.j.ea/2^j))
section
variable {p q dp ap : Nat} {x y : X} {cap : Nat} {aj : Int} {TT : As} {k : Nat} {pz : Pz}
def L9 (p q dp ap:Nat)(x y:X)(cap:Nat)(pz:Pz)(TT:As)(d:D)(v:Value)(M:List As):Prop:=
 ∃ peak':Int,peak'<=cap/\∃ r w,vv (D.ae d) cap x.f y.f pz r w/\
  ((∃ d',Prog (iy y) d d' r w/\dE d' y 0 y.w=pz.ap (dE d x 0 x.w)/\v= .tuple #[Oi ((Go.Crc.sum (form (pz.ap (dE d x 0 x.w)))).toNat:Int),I 0]/\M=[ah p (ba dp ap x),ah q (ba dp ap y),Dk dp d',Ar ap cap peak' [],TT])\/
  (∃ d',gv (iy y) d d'/\d.aH<=r+w/\v= .tuple #[Oi 0,I 8]/\M=[ah p (ba dp ap x),ah q (ba dp ap y),Dk dp d',Ar ap cap peak' [],TT]))
theorem so {a b c:Int}(h1:a<=c)(h2:b<=c):mx a b<=c:=by unfold mx;split<;>assumption
theorem Lb {d:D}(hT:∀ H,TT H->T64 H)(hok:Ok d)(hl:d.down=false)(hx:On d x)(hy:On d y)(ho:d.rd<=1000000000000/\d.wr<=1000000000000)(hk32:k<=32)(hxw:x.w=2^k)(hyw:y.w=2^k)(hdis:x.f+x.s<=y.f\/y.f+y.s<=x.f)
  (hper:gL (D.ae d:Int)=true) (hcap:cap<=16777216) (hpk:aj<=cap) (hz:zR pz k (D.ae d) cap):
  Tr prog 169 #[V p,V q,.agg pz.c,V ap,I (D.ae d:Int)]
   [ah p (ba dp ap x),ah q (ba dp ap y),Dk dp d,Ar ap cap aj [],TT] (L9 p q dp ap x y cap pz TT d):=fun H hs=>by
 have hp:=Ok.dQ hok;have hkk:=hz.k;have hpow:2^pz.j.ea*2^pz.j.eb=2^k:=by rw[<- Nat.pow_add,hkk]
 have hxw2:x.w=2^pz.j.ea*2^pz.j.eb:=hxw.trans hpow.symm;have hyw2:y.w=2^pz.j.ea*2^pz.j.eb:=hyw.trans hpow.symm;apply pn.ok;unfold pn;refine hs.nw fun b1 H hs=>?_
 refine hs.cg 5 (v:=I (if pz.t=true then 1 else 2)) rfl rfl ?_;simp only[HV];cases ht:pz.t with
 |true=>
  refine bH rfl ?_
  try simp only[HS]
  refine hs.nH 5 (off:=0) (n:=2) rfl (by show 0+2<=8;omega) ?_;have ea:((pz.c.toList.drop 0).take 2).toArray=#[I ((2^pz.j.ea:Nat):Int),I ((2^pz.j.eb:Nat):Int)]:=rfl;rw[ea];have htn:=hz.tn ht;obtain⟨j,hj1,hj⟩:=gy.ex (ea:=pz.j.ea) (eb:=pz.j.eb) (ae:=(D.ae d:Int)) (free:=(cap:Int));have hjs:gy ((2^pz.j.ea:Nat):Int) ((2^pz.j.eb:Nat):Int) (D.ae d) ((cap:Int)-aW []) j:=by rw[fH,Int.sub_zero];exact hj
  have hfit:=hj.fit;have hdv:2^pz.j.eb/2^j*2^j=2^pz.j.eb:=(div_pow hj1).symm;refine(Trn.zS (p:=p) (q:=q) (dp:=dp) (ap:=ap) (x:=x) (y:=y) (cap:=cap) (aj:=aj) (bufs:=[]) hT hok hl hx hy (by omega) (by omega) hxw2 hyw2 hdis hper (by omega) (by decide) hjs).use hs [0,1,2,3,4] rfl rfl ?_;rintro v _ H ⟨M0,hq,rfl⟩ hs;have hpk2:mx aj (aW []+((2^j*2^pz.j.ea:Nat):Int)+(D.ae d:Int))<=cap:=so hpk (by rw[fH];rw[Int.natCast_mul];omega);have hap:pz.ap (dE d x 0 x.w)=qx d x (2^pz.j.ea) (2^pz.j.eb):=by unfold Pz.ap;rw[if_pos ht,J1,hxw2]
  rcases hq with⟨d',hI,rfl,rfl⟩|⟨d',hD,hfu,rfl,rfl⟩
  .simp only[HV];refine⟨_,⟨_,hpk2,_,_,.inl ⟨ht,j,hj,rfl,rfl⟩,.inl ⟨d',hI.pg,?_,by rw[hap],rfl⟩⟩,hs.re [0,1,2,3,4] rfl⟩;rw[hap];have hlen:=xG d x (2^pz.j.ea) (2^pz.j.eb);rw[hyw2];refine(Cy fun k hk=>hI.dst k ?_);rw[hdv,Nat.mul_comm];exact hk
  .simp only[HV];exact⟨_,⟨_,hpk2,_,_,.inl ⟨ht,j,hj,rfl,rfl⟩,.inr ⟨d',hD,hfu,rfl,rfl⟩⟩,hs.re [0,1,2,3,4] rfl⟩
 |false=>
  refine bT (by decide) (bH rfl ?_)
  try simp only[HS]
  refine hs.nH 5 (off:=0) (n:=5) rfl (by show 0+5<=8;omega) ?_;have ea:((pz.c.toList.drop 0).take 5).toArray=pz.j.a:=rfl;rw[ea];obtain⟨h20,htw1,htw2,hcp⟩:=hz.rw ht;have hpb:=Nat.two_pow_pos pz.j.eb;have hq2:2<=(cap-D.ae d)/2^pz.j.eb:=(Nat.le_div_iff_mul_le hpb).2 (by omega);obtain⟨j,hj⟩:=jC.ex (ea:=pz.j.ea) hq2;have hjs:jC pz.j.ea (((cap:Int)-aW []-(D.ae d:Int)).toNat/2^pz.j.eb) j:=by
   have:((cap:Int)-aW []-(D.ae d:Int)).toNat=cap-D.ae d:=by rw[fH];omega
   rw[this];exact hj
  have hfit:(2^j+1)*2^pz.j.eb<=cap-D.ae d:=(Nat.le_div_iff_mul_le hpb).1 hj.fit;rw[Nat.succ_mul]at hfit;refine(Pas.zS (p:=p) (q:=q) (dp:=dp) (ap:=ap) (x:=x) (y:=y) (cap:=cap) (aj:=aj) (bufs:=[]) (j:=pz.j) hT hok hl hx hy (by omega) (by omega) h20 ⟨htw1,htw2⟩ hxw2 hyw2 hdis hper (by omega) (by decide) (by rw[fH];omega) hjs).use hs [0,1,2,3,4] rfl rfl ?_;rintro v _ H ⟨M0,hq,rfl⟩ hs;have hpk2:mx aj (aW []+((2^j*2^pz.j.eb:Nat):Int)+((2^pz.j.eb:Nat):Int)+(D.ae d:Int))<=cap:=so hpk (by rw[fH];omega);have hap:pz.ap (dE d x 0 x.w)=gJ pz.j d x (2^pz.j.ea):=by unfold Pz.ap;rw[if_neg (by rw[ht];simp),Ed,hxw2]
  rcases hq with⟨d',hI,rfl,rfl⟩|⟨d',hD,hfu,rfl,rfl⟩
  .simp only[HV];refine⟨_,⟨_,hpk2,_,_,.inr ⟨ht,j,hj,rfl,rfl⟩,.inl ⟨d',hI.pg,?_,by rw[hap],rfl⟩⟩,hs.re [0,1,2,3,4] rfl⟩;rw[hap];have hlen:=tt pz.j d x (2^pz.j.ea);rw[hyw2,<-hlen];have hdv:2^pz.j.ea/2^j*2^j=2^pz.j.ea:=(div_pow hj.le).symm;have key:=Cy (d:=d') (x:=y) (n:=(gJ pz.j d x (2^pz.j.ea)).length) (f:=fun k=>((gJ pz.j d x (2^pz.j.ea))[k]?).getD 0) fun k hk=>by
    have:=hI.dst k (by rw[hdv,<-hlen];exact hk);rw[hdv]at this;exact this
   rw[key];exact FK _
  .simp only[HV];exact⟨_,⟨_,hpk2,_,_,.inr ⟨ht,j,hj,rfl,rfl⟩,.inr ⟨d',hD,hfu,rfl,rfl⟩⟩,hs.re [0,1,2,3,4] rfl⟩
end
theorem Am {d:D}{x:X}(hx:On d x):∀ i,iy x i->0<=i/\i<d.sec:=fun i hi=>by
 have:=hx.fit;unfold iy at hi;omega
def LV (dp ap:Nat)(d:D)(c:Cn)(aG k:Nat)(pz:Pz)(cap:Nat)(TT:As)(v:Value)(M:List As):Prop:=
 ∃ peak':Int,peak'<=cap/\∃ r w,vv (D.ae d) cap (eO aG (D.ae d) pz.f k).f (eO aG (D.ae d) pz.o k).f pz r w/\
  ((∃ d' c',fh d d' (nS (D.ae d) (2^k)+r) w 1/\Clean d' c'/\pW (iy (eO aG (D.ae d) pz.o k)) c c'/\jS c' (D.ae d) (eO aG (D.ae d) pz.o k).f (2^k)=pz.ap (jS c (D.ae d) (eO aG (D.ae d) pz.f k).f (2^k))/\
    v= .tuple #[Oi (kX (pz.ap (jS c (D.ae d) (eO aG (D.ae d) pz.f k).f (2^k))):Int),I 0]/\M=[Dk dp d',Ar ap cap peak' [],TT])\/
  (∃ d',fY d d' (nS (D.ae d) (2^k)+r+w+1)/\Left d' (fun c'=>pW (iy (eO aG (D.ae d) pz.o k)) c c')/\v= .tuple #[Oi 0,I 8]/\M=[Dk dp d',Ar ap cap peak' [],TT]))
theorem Lv {dp ap:Nat}{d:D}{c:Cn}{aG k:Nat}{pz:Pz}{cap:Nat}{aj:Int}{TT:As}(hT:∀ H,TT H->T64 H)(hc:Clean d c)(hl:qF d aG)(hk:k<=aG)(ho:d.rd<=100000000000/\d.wr<=100000000000/\d.sy<=100000000000)
  (hcap:cap<=16777216) (hpk:aj<=cap) (hz:zR pz k (D.ae d) cap):
  Tr prog 109 #[V dp,V ap,.agg (Lay.ir aG (D.ae d)),I (k:Int),.agg pz.c,Oi (kX (jS c (D.ae d) (eO aG (D.ae d) pz.f k).f (2^k)):Int)]
   [Dk dp d,Ar ap cap aj [],TT] (LV dp ap d c aG k pz cap TT):=fun H hs=>by
 have hok:=hc.ok;have hp:=Ok.dQ hok;have hm:=hl.m;have hx:=hl.on hok hz.f hk;have hy:=hl.on hok hz.o hk;have hcp:D.ae d<=cap:=by
  cases ht:pz.t with
  |true=>have:=hz.tn ht;have:=Nat.two_pow_pos pz.j.ea;omega
  |false=>have:=hz.rw ht;have:=Nat.two_pow_pos pz.j.eb;omega
 apply fT.ok;unfold fT;refine hs.nw fun b1 H hs=>?_
 refine hs.nw fun b2 H hs=>?_
 refine hs.bJ 3 rfl rfl ?_;refine hs.bJ 4 rfl rfl ?_;rw[Array.toArray_toList,Array.toArray_toList];refine(Jn (dp:=dp) (ap:=ap) hok hl hz.f hz.o hk).use hs [0] rfl rfl ?_;rintro _ _ H ⟨p,q,rfl,rfl⟩ hs;simp only[HV];refine aF rfl ?_;have hs:Sep [Dk dp d,ah p (ba dp ap (eO aG (D.ae d) pz.f k)),ah q (ba dp ap (eO aG (D.ae d) pz.o k)),Ar ap cap aj [],TT,ah b1 (Oa (Lay.ir aG (D.ae d)) 153),ah b2 (Oa pz.c 221)] H:=hs;have j6:fT.j6 (fun v H'=>∃ M,LV dp ap d c aG k pz cap TT v M/\Sep M H') (Oo dp) (Oo ap) (kX (jS c (D.ae d) (eO aG (D.ae d) pz.f k).f (2^k)):Int) (O b1) (O b2) (Oo p) (Oo q) H:=by
  have hwx:(eO aG (D.ae d) pz.f k).w=2^k:=rfl;have hwy:(eO aG (D.ae d) pz.o k).w=2^k:=rfl;have hxy:=EU (aG:=aG) (ae:=D.ae d) hk hz.fo;have hcost:∃ r w,vv (D.ae d) cap (eO aG (D.ae d) pz.f k).f (eO aG (D.ae d) pz.o k).f pz r w:=by
   have hkk:=hz.k;cases ht:pz.t with
   |true=>
    have htn:=hz.tn ht;obtain⟨j,_,hj⟩:=gy.ex (ea:=pz.j.ea) (eb:=pz.j.eb) (ae:=(D.ae d:Int)) (free:=(cap:Int));exact⟨_,_,.inl ⟨ht,j,hj,rfl,rfl⟩⟩
   |false=>
    obtain⟨_,_,_,hcp⟩:=hz.rw ht;obtain⟨j,hj⟩:=jC.ex (ea:=pz.j.ea) ((Nat.le_div_iff_mul_le (Nat.two_pow_pos pz.j.eb)).2 (by omega):2<=(cap-D.ae d)/2^pz.j.eb);exact⟨_,_,.inr ⟨ht,j,hj,rfl,rfl⟩⟩
  generalize hX:eO aG (D.ae d) pz.f k=x at*;generalize hY:eO aG (D.ae d) pz.o k=y at*;unfold fT.j6;refine(xb (p:=p) (dp:=dp) (ap:=ap) (x:=x) (cap:=cap) (aj:=aj) (bufs:=[]) hok hc.down hx (by omega) (by rw[fH];omega)).use hs [1,0,3] rfl rfl ?_;have hw0:=oq hc.now x (2^k);have hpk1:mx aj (aW []+(D.ae d:Int))<=cap:=so hpk (by rw[fH];omega);rintro _ _ H (⟨hf,rfl,rfl⟩|⟨j,hj,hf,rfl,rfl⟩) hs
  .have hsum:((Go.Crc.sum (form (dE d x 0 x.w))).toNat:Int)=(kX (jS c (D.ae d) x.f (2^k)):Int):=by rw[hwx,hw0];rfl
   rw[hsum];simp only[HV];refine aF rfl (aF rfl ?_);rw[hwx]at hs hf;generalize hN:nS (D.ae d) (2^k)=N at hs hf;have hcN:=hc.bE N;have hwN:=fh.bE hf;have hs:Sep [ah p (ba dp ap x),Dk dp (D.bE d N),Ar ap cap (mx aj (aW []+(D.ae d:Int))) [],ah q (ba dp ap y),TT,ah b1 (Oa (Lay.ir aG (D.ae d)) 153),ah b2 (Oa pz.c 221)] H:=hs;refine hs.bJ 6 rfl rfl ?_;rw[Array.toArray_toList]
   try simp only[HS]
   refine hs.ld 5 (v:=I (D.ae d:Int)) rfl rfl ?_;simp only[HV];have hwr:(D.bE d N).wr=d.wr:=rfl;have hrd:(D.bE d N).rd=d.rd+N:=rfl;have hNs:N<=4294967296:=by
    rw[<- hN];have h2k:=gO (k:=k);unfold nS;exact Nat.le_trans (Nat.div_le_of_le_mul (by
     have:2^k+D.ae d-1<=2^k*D.ae d:=by
      have h1:=Nat.two_pow_pos k;obtain⟨a,ha⟩:∃ a,2^k=a+1:=⟨2^k-1,by omega⟩;obtain⟨b,hb⟩:∃ b,D.ae d=b+1:=⟨D.ae d-1,by omega⟩;rw[ha,hb,Nat.mul_add,Nat.add_mul];omega
     rw[Nat.mul_comm];exact this)) h2k
   have hpx:dE (D.bE d N) x 0 x.w=jS c (D.ae d) x.f (2^k):=by rw[hwx];exact oq hcN.now x (2^k)
   refine(Lb (p:=p) (q:=q) (dp:=dp) (ap:=ap) (x:=x) (y:=y) (cap:=cap) (aj:=mx aj (aW []+(D.ae d:Int))) (TT:=TT) (k:=k) (pz:=pz) (d:=D.bE d N) hT hcN.ok hcN.down ⟨hx.w1,hx.s1,hx.fit,hx.room⟩ ⟨hy.w1,hy.s1,hy.fit,hy.room⟩ (by omega) (by omega) hwx hwy hxy hl.p hcap hpk1 hz).use hs [0,3,1,2,4] rfl rfl ?_;rintro v M H ⟨peak',hpk',r,w,hcost',hq⟩ hs;rw[hpx]at hq;rcases hq with⟨d',hP,hw',rfl,rfl⟩|⟨d',hD,hfu,rfl,rfl⟩
   .have h2:=hP.sy;simp only[HV];refine aF rfl ?_;refine(pO (p:=dp) (d:=d') hP.ok (by rw[h2];show d.sy<=_;omega)).use hs [2] rfl rfl ?_;rintro _ _ H ⟨rfl,rfl⟩ hs;rcases hcN.sync hP (Am (d:=D.bE d N) ⟨hy.w1,hy.s1,hy.fit,hy.room⟩)with⟨e,hw2,hc2⟩|⟨e,hcut,hleft⟩
    .rw[e];simp only[HV];refine aF rfl ?_;have hgo:=hwN.trans hw2;have hsam:pW (iy y) c d'.now:=fun i hi=>(hcN.prog hP i).2 hi
     refine⟨_,⟨peak',hpk',r,w,by rw[hX,hY];exact hcost',.inl ⟨_,_,by rw[hN];simpa using hgo,hc2,by rw[hY];exact hsam,?_,by rw[hX];rfl,rfl⟩⟩,hs.re [0,3,4] rfl⟩;rw[hX,hY,<-hw',hwy];have e2:D.ae d'=D.ae d:=hP.ae;rw[<- e2];exact(oq (fun _=>rfl) y (2^k)).symm
    .rw[e];simp only[HV];refine aU (by decide) ?_;have hgo:=hwN.cut hcut;exact⟨_,⟨peak',hpk',r,w,by rw[hX,hY];exact hcost',.inr ⟨_,by rw[hN];exact hgo.more (by omega),by rw[hY];exact hleft.mono fun _ h=>h.2,rfl,rfl⟩⟩,hs.re [0,3,4] rfl⟩
   .simp only[HV];refine aU (by decide) ?_;have hf1:1<=(D.bE d N).aH:=by have h1:=hD.sX;have h2:=hD.rd;have h3:=hD.wr;omega
    have hcut:=hcN.xk hD (Am (d:=D.bE d N) ⟨hy.w1,hy.s1,hy.fit,hy.room⟩) hfu hf1;have hgo:=hwN.cut hcut;exact⟨_,⟨peak',hpk',r,w,by rw[hX,hY];exact hcost',.inr ⟨_,by rw[hN];exact hgo.more (by omega),by rw[hY];exact hcN.u4 hD,rfl,rfl⟩⟩,hs.re [2,3,4] rfl⟩
  .simp only[HV];refine aU (by decide) ?_;obtain⟨r,w,hcost⟩:=hcost;rw[hwx]at hj;have hcut:=fY.bE hc hf hj;refine⟨_,⟨_,hpk1,r,w,by rw[hX,hY];exact hcost,.inr ⟨_,hcut.more (by omega),?_,rfl,rfl⟩⟩,hs.re [1,2,4] rfl⟩;exact(Left.bE hc j).mono fun c' e=>by rw[e];exact fun _ _=>rfl
 refine hs.cg 6 (v:=I (if pz.t=true then 1 else 2)) rfl rfl ?_;simp only[HV];cases ht:pz.t with
 |true=>exact aF rfl j6
 |false=>
  refine aU (by decide) ?_;refine hs.cg 6 (v:=I (if pz.t=true then 1 else 2)) rfl rfl ?_;rw[ht];simp only[HV];exact aF rfl j6
end Eng
namespace W
open Go Go.Hw
theorem mI :prog.follows .mixedOrders=true:=by kernel_rfl
def ig (x1 x2:Int)(H:Hp)(K:VK):Prop:=
 ((2:Int)≠0/\i64=i64/\cC 167 #[I (i64.wrap (Int.tdiv (i64.wrap (x1+1)) 2))] H fun x3 H1=>K (I (i64.wrap ((i64.wrap (2*x3))+x2))) H1)
theorem ig.ok x1 x2 H K (h:ig x1 x2 H K):aa prog 108 #[I x1,I x2] H K:=
 bX mI Tryz.func108 rfl rfl h
def bL.l3 (K:VK):Nat->Int->Int->Int->Hp->Prop
 |0,_,_,_,_=>False
 |k+1,x2,x3,x4,H=>
  let R3:=bL.l3 K k
  aq (decide (x4<x2)) (R3 x2 (i64.wrap (2*x3)) (i64.wrap (x4+1)) H) (K (I x3) H)
def bL (x1:Int)(H:Hp)(K:VK):Prop:=
 (∃ k,bL.l3 K k x1 1 0 H)
def bL.l3.L (K:VK)(k:Nat):de:=fun E D H=>
 eI E 0 .i64 fun x2=>eI E 3 .i64 fun x3=>eI E 4 .i64 fun x4=>ax D (bL.l3 K k x2 x3 x4 H)
def bL.Λ3 (_:VK)(_R3:Int->Int->Int->Hp->Prop):aI:=aI.none (fun _=>none)
def bL.Λ (K:VK):aI:=⟨fun i=>none,fun i=>match Nat.beq i 3 with|true=>some (fun E D H=>∃ k,bL.l3.L K k E D H)|false=>none,(fun _=>none)⟩
theorem bL.ok x1 H K (h:bL x1 H K):aa prog 167 #[I x1] H K:=
 dV (Λ:=(bL.Λ K)) mI Tryz.func167 rfl rfl h (oC (fun E D H h=>by
   refine Safe.cJ (bL.l3.L K) (fun E D H h=>?_) (fun k E D H h=>?_) E D H h
   .obtain⟨w0,e0,g1⟩:=DG.out h;obtain⟨x2,rfl,g2⟩:=DI.out g1;obtain⟨w3,e3,g3⟩:=DG.out g2;obtain⟨x3,rfl,g4⟩:=DI.out g3;obtain⟨w4,e4,g5⟩:=DG.out g4;obtain⟨x4,rfl,g6⟩:=DI.out g5;obtain⟨rfl,h'⟩:=ax.out g6;exact h'
   .obtain⟨x2,e0,g2⟩:=GI h;obtain⟨x3,e3,g4⟩:=GI g2;obtain⟨x4,e4,g6⟩:=GI g4;obtain⟨rfl,h'⟩:=ax.out g6;exact cU (Λ:=(bL.Λ3 K (bL.l3 K k))) mI [] (ag.cons e0 (ag.cons e3 (ag.cons e4 (ag.nil _)))) h' oN) oN)
end W
namespace Eng
open Go Go.Hw Go.Form W Shp Dsk Str Are Trn Pas Pln
theorem wu (H:Hp)(k:Nat)(hk:k<=40):∀(t i:Nat),i+t=k->bL.l3 (RetE (I ((2^k:Nat):Int)) H) (t+1) (k:Int) ((2^i:Nat):Int) (i:Int) H
 |0,i,h=>by
  unfold bL.l3;obtain rfl:i=k:=by omega
  exact au (by omega) (RetE.mk _ _)
 |t+1,i,h=>by
  unfold bL.l3;refine aA (by omega) ?_;have h2:2^i<=2^40:=Nat.pow_le_pow_right (by omega) (by omega);have h0:=Int.natCast_nonneg (2^i);have e:i64.wrap ((2:Int)*((2^i:Nat):Int))=((2^(i+1):Nat):Int):=by
   rw[bg,Nat.pow_succ];omega
  rw[e,bg (x:=(i:Int)+1)];exact wu H k hk t (i+1) (by omega)
theorem Ho (k:Nat)(hk:k<=40)(H:Hp):aa prog 167 #[I (k:Int)] H (RetE (I ((2^k:Nat):Int)) H):=by
 apply bL.ok;unfold bL;exact⟨k+1,wu H k hk k 0 (by omega)⟩
theorem FI (k ae:Nat)(hk:k<=32)(hp:ae<=512)(H:Hp):aa prog 108 #[I (k:Int),I (ae:Int)] H (RetE (I (ec k ae:Int)) H):=by
 have h1:=gO (k:=(k+1)/2);have h0:=Int.natCast_nonneg (2^((k+1)/2));apply ig.ok;unfold ig;rw[bg (x:=(k:Int)+1),show Int.tdiv ((k:Int)+1) 2=(((k+1)/2:Nat):Int)from rfl,dS];refine⟨by decide,by simp,?_⟩;refine aa.use (Ho ((k+1)/2) (by omega) H) ?_;simp only[HV];rw[bg (x:=(2:Int)*_),bg];exact RetE.of (by unfold ec;rw[Int.natCast_add];rfl)
theorem HU {k:Nat}(h:k<=6):2^k<=64:=Nat.pow_le_pow_right (n:=2) (by omega) h
theorem AT {d:Bool}{k ae words:Nat}(hk:k<=32)(hw:ec k ae<=words):∀ p∈eC d k ae words,zR p k ae words:=by
 intro p hp;unfold eC at hp;unfold ec at hw;split at hp
 .rename_i hb
  have hb:=of_decide_eq_true hb;rw[List.mem_singleton.1 hp];exact⟨by show 0<4;omega,by show 3<4;omega,by show(0:Nat)≠3;omega,by show 0+k=k;omega,fun h=>(by cases h),fun _=>⟨hb.1,by show(-1:Int)<=-1;omega,by show(-1:Int)<=32;omega,by show ae+2*2^k<=_;omega⟩⟩
 .have ha:k-k/2=(k+1)/2:=by omega
  have h1:2^(k/2)<=2^((k+1)/2):=Nat.pow_le_pow_right (by omega) (by omega);have hz:∀(ea eb f o:Nat) (t d:Bool) (tw:Int) (sh:UInt64),f<4->o<4->f≠o->ea+eb=k->ea<=(k+1)/2->eb<=(k+1)/2->-1<=tw->tw<=32->zR ⟨t,⟨ea,eb,d,tw,sh⟩,f,o⟩ k ae words:=fun ea eb f o t d tw sh h1 h2 h3 h4 h5 h6 h7 h8=>by
   have q1:2^ea<=2^((k+1)/2):=Nat.pow_le_pow_right (by omega) h5;have q2:2^eb<=2^((k+1)/2):=Nat.pow_le_pow_right (by omega) h6;exact⟨h1,h2,h3,h4,fun _=>by show 2^ea+ae<=words;omega,fun _=>⟨by show eb<=20;omega,h7,h8,by show ae+2*2^eb<=words;omega⟩⟩
  unfold nI at hp;simp only[List.mem_cons,List.not_mem_nil,or_false]at hp;rcases hp with e|e|e|e|e<;>rw[e]<;>exact hz _ _ _ _ _ _ _ _ (by omega) (by omega) (by omega) (by omega) (by omega) (by omega) (by omega) (by omega)
theorem vP (a b:Nat):a/b*b<=a:=Nat.div_mul_le_self a b
theorem Gz {ae cap f o k:Nat}{pz:Pz}{r w:Nat}(h:vv ae cap f o pz r w)(hk:pz.j.ea+pz.j.eb=k):r<=2*2^k/\w<=2^k:=by
 have hpow:2^pz.j.ea*2^pz.j.eb=2^k:=by rw[<- Nat.pow_add,hk]
 rcases h with⟨_,j,hj,rfl,rfl⟩|⟨_,j,hj,rfl,rfl⟩
 .have h1:=DJ ae f o (2^pz.j.ea) (2^pz.j.eb) (2^j) (2^pz.j.eb/2^j);have h2:=Ec ae o (2^pz.j.ea) (2^j) (2^pz.j.eb/2^j);have h3:2^pz.j.eb/2^j*(2^j*2^pz.j.ea)<=2^k:=by
   rw[<- Nat.mul_assoc,<-hpow,Nat.mul_comm (2^pz.j.ea)];exact Nat.mul_le_mul_right _ (vP _ _)
  have h4:2^pz.j.eb/2^j*(2*(2^j*2^pz.j.ea))=2*(2^pz.j.eb/2^j*(2^j*2^pz.j.ea)):=by rw[Nat.mul_left_comm]
  exact⟨by omega,by omega⟩
 .have h1:=DH ae f o (2^j*2^pz.j.eb) (2^pz.j.ea/2^j);have h2:=Eb ae o (2^j*2^pz.j.eb) (2^pz.j.ea/2^j);have h3:2^pz.j.ea/2^j*(2^j*2^pz.j.eb)<=2^k:=by
   rw[<- Nat.mul_assoc,<-hpow];exact Nat.mul_le_mul_right _ (vP _ _)
  have h4:2^pz.j.ea/2^j*(2*(2^j*2^pz.j.eb))=2*(2^pz.j.ea/2^j*(2^j*2^pz.j.eb)):=by rw[Nat.mul_left_comm]
  exact⟨by omega,by omega⟩
theorem wm {ae w:Nat}(hp:1<=ae)(hw:1<=w):nS ae w<=w:=by
 unfold nS;refine Nat.div_le_of_le_mul ?_;obtain⟨a,rfl⟩:∃ a,w=a+1:=⟨w-1,by omega⟩;obtain⟨b,rfl⟩:∃ b,ae=b+1:=⟨ae-1,by omega⟩;rw[Nat.mul_add,Nat.add_mul];omega
theorem Ke (x:X){d:D}(hok:Ok d)(src:List UInt64):dE (j3 d x src.length 0 src) x 0 src.length=src:=by
 apply List.ext_getElem?;intro i;unfold dE;rw[List.getElem?_map];by_cases h:i<src.length
 .rw[List.getElem?_range h];show some (pw _ x (0+i))=_
  rw[Nat.zero_add,xK x hok 0 src i,if_pos ⟨by omega,by omega⟩,Nat.sub_zero,List.getElem?_eq_getElem h];rfl
 .rw[List.getElem?_eq_none (by rw[List.length_range];omega),List.getElem?_eq_none (by omega)];rfl
theorem DC {L:List As}{H:Hp}(hs:Sep L H)(i:Nat){b n m:Nat}{xs:List Value}{e:TypeId}{s:Nat}(hi:L[i]? =some (ah b (.row xs e m)))(hx:xs.length=n*s)(hm:m=n*s):Sep (L.set i (cj e s (Oo b) n n xs)) H:=
 hs.jy i hi fun H1 hH=>⟨hx,.inr ⟨b,m,rfl,hH,by first|omega|exact hm|exact hm.symm|exact⟨hm,Nat.le_refl _⟩⟩⟩
end Eng
end Go.Proofs.YtlgnlghmbcpmhaaGreatDoor
