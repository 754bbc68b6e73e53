import Derived.Test.YtlgnlghmbcpmhaaGreatDoorProg
import Derived.Test.YtlgnlghmbcpmhaaGreatDoorPkWholeProof4
set_option maxRecDepth 100000
set_option linter.unusedSimpArgs false
set_option linter.unusedVariables false
set_option linter.unnecessarySimpa false
set_option linter.unusedSectionVars false
open Go.IntKind (i64 u32 u64)
namespace Go.Proofs.YtlgnlghmbcpmhaaGreatDoor
open Tryz (prog)
namespace Str
open Go Go.Hw Go.Form W Dsk Are
def j0 (ws:List UInt64)(bG:Nat)(src:List UInt64):List UInt64:=ws.take bG++src++ws.drop (bG+src.length)
theorem vr {ws src:List UInt64}{i:Nat}(h:i+src.length<=ws.length:=by omega):(j0 ws i src).length=ws.length:=by
 unfold j0;simp;omega
theorem tC (ws src:List UInt64)(i:Nat):setAt (af ws) i (af src)=af (j0 ws i src):=by
 unfold setAt j0 af;simp
def kP (d:D)(s bG:Nat)(src:List UInt64):D:=D.put (if src.length<D.ae d then D.more d else d) s (j0 (cX (d.now s)) bG src)
def wV (d:D)(x:X):Nat->Nat->List UInt64->D
 |0,_,_=>d
 |k+1,fr,src=>if src=[]then d else wV (kP d (x.f+fr/D.ae d) (fr%D.ae d) (src.take (cN (D.ae d) fr src.length))) x k (fr+cN (D.ae d) fr src.length) (src.drop (cN (D.ae d) fr src.length))
theorem JK (d:D)(s:Int)(ws:List UInt64)(i:Int):(D.put d s ws).now i=if i=s then form ws else d.now i:=by
 unfold D.put D.now gD;by_cases h:i=s
 .simp[h]
 .simp only[h,if_false];rfl
theorem Ok.put {d:D}(h:Ok d)(i:Int){ws:List UInt64}(hw:ws.length=D.ae d):Ok (D.put d i ws):=by
 have hp:=Ok.dQ h;refine⟨h.sec,h.size,h.kV,h.ae,h.safe,fun k b hb=>?_,h.fz⟩;have hb':(if k=i then some (form ws)else d.cache k)=some b:=hb;split at hb'
 .cases hb';rw[dI];show 8*ws.length=d.size;omega
 .exact h.cache k b hb'
theorem Ok.more {d:D}(h:Ok d):Ok (D.more d):=Ok.K8 h 1
theorem Calm.put {d:D}(h:Calm d)(i:Int)(ws:List UInt64):Calm (D.put d i ws):=⟨h.down,h.aH⟩
theorem Calm.more {d:D}(h:Calm d):Calm (D.more d):=⟨h.down,h.aH⟩
theorem Lo {d:D}(h:Ok d)(s bG:Nat){src:List UInt64}(hl:bG+src.length<=D.ae d):Ok (kP d s bG src):=by
 have hwl:(cX (d.now (s:Int))).length=D.ae d:=by rw[iv,h.now];rfl
 unfold kP;split
 .exact Ok.put (Ok.more h) _ (by rw[vr];exact hwl)
 .exact Ok.put h _ (by rw[vr];exact hwl)
theorem Ib {d:D}(h:Calm d)(s bG:Nat)(src:List UInt64):Calm (kP d s bG src):=by
 unfold kP;split
 .exact Calm.put (Calm.more h) _ _
 .exact Calm.put h _ _
theorem BC (d:D)(s bG:Nat)(src:List UInt64):(kP d s bG src).size=d.size/\(kP d s bG src).sec=d.sec:=by
 unfold kP;split<;>exact⟨rfl,rfl⟩
theorem CT (d:D)(s bG:Nat)(src:List UInt64):D.ae (kP d s bG src)=D.ae d:=by unfold D.ae;rw[(BC d s bG src).1]
theorem Kd (d:D)(s bG:Nat)(src:List UInt64):(kP d s bG src).wr=d.wr+1/\(kP d s bG src).rd=d.rd+(if src.length<D.ae d then 1 else 0)/\(kP d s bG src).sy=d.sy:=by
 unfold kP;split
 .exact⟨rfl,rfl,rfl⟩
 .exact⟨rfl,rfl,rfl⟩
theorem CS (d:D)(s bG:Nat)(src:List UInt64)(i:Int):(kP d s bG src).now i=if i=s then form (j0 (cX (d.now s)) bG src)else d.now i:=by
 unfold kP;rw[JK];split
 .rfl
 .split<;>rfl
def D.mr (d:D):D:={ d with rd:=d.rd+1,aH:=d.aH-1}
def D.pt (d:D)(i:Int)(ws:List UInt64):D:={ d with wr:=d.wr+1,gE:=qz d.gE i,cache:=gD d.cache i (form ws),aH:=d.aH-1}
def D.dead (d:D):D:={ d with aH:=0,down:=true}
theorem kW {d:D}(h:d.aH=1):d.bu=D.dead d:=by
 unfold D.bu D.dead;rw[if_neg (by omega),h];rfl
theorem ko {d:D}(hl:d.down=false)(h:d.aH≠1):d.bu={ d with aH:=d.aH-1}:=by
 unfold D.bu;by_cases h0:d.aH=0
 .rw[if_pos h0];cases d;simp_all
 .rw[if_neg h0];have:decide (d.aH=1)=d.down:=by rw[hl];exact decide_eq_false h
  rw[this]
theorem og {d:D}(hl:d.down=false){i:Int}(h0:0<=i)(h1:i<d.sec):d.jR i=0:=by
 unfold D.jR;rw[hl,if_neg (by simp),if_neg (by omega)]
theorem Ok.dead {d:D}(h:Ok d):Ok (D.dead d):=⟨h.sec,h.size,h.kV,h.ae,h.safe,h.cache,Nat.zero_le _⟩
theorem Ok.mr {d:D}(h:Ok d):Ok (D.mr d):=⟨h.sec,h.size,h.kV,h.ae,h.safe,h.cache,Nat.le_trans (Nat.sub_le _ _) h.fz⟩
theorem Ok.pt {d:D}(h:Ok d)(i:Int){ws:List UInt64}(hw:ws.length=D.ae d):Ok (D.pt d i ws):=by
 have:=Ok.put h i hw;exact⟨this.sec,this.size,this.kV,this.ae,this.safe,this.cache,Nat.le_trans (Nat.sub_le _ _) h.fz⟩
structure Prog (S:Int->Prop)(d d':D)(r w:Nat):Prop where
 ok:Ok d'
 down:d'.down=false
 aH:d'.aH=d.aH-(r+w)
 go:d.aH=0\/r+w<d.aH
 sec:d'.sec=d.sec
 size:d'.size=d.size
 safe:d'.safe=d.safe
 sy:d'.sy=d.sy
 cache:∀ k,¬S k->d'.cache k=d.cache k
 gE:∀ k,¬S k->d'.gE k=d.gE k
 rd:d'.rd=d.rd+r
 wr:d'.wr=d.wr+w
structure gv (S:Int->Prop)(d d':D):Prop where
 ok:Ok d'
 down:d'.down=true
 aH:d'.aH=0
 sec:d'.sec=d.sec
 size:d'.size=d.size
 safe:d'.safe=d.safe
 sy:d'.sy=d.sy
 cache:∀ k,¬S k->d'.cache k=d.cache k
 gE:∀ k,¬S k->d'.gE k=d.gE k
 sX:d'.rd+d'.wr+1=d.rd+d.wr+d.aH
 rd:d.rd<=d'.rd
 wr:d.wr<=d'.wr
section
variable {S : Int -> Prop} {d d1 d2 : D}
theorem Prog.refl (S:Int->Prop)(h:Ok d)(hl:d.down=false):Prog S d d 0 0:=⟨h,hl,by omega,by omega,rfl,rfl,rfl,rfl,fun _ _=>rfl,fun _ _=>rfl,rfl,rfl⟩
theorem Prog.ae {r w:Nat}(h:Prog S d d1 r w):D.ae d1=D.ae d:=by unfold D.ae;rw[h.size]
theorem Prog.trans {r w r' w':Nat}(h:Prog S d d1 r w)(k:Prog S d1 d2 r' w'):Prog S d d2 (r+r') (w+w'):=by
 have a1:=h.aH;have a2:=h.go;have b1:=k.aH;have b2:=k.go;have c1:=h.rd;have c2:=h.wr;have c3:=k.rd;have c4:=k.wr;exact⟨k.ok,k.down,by omega,by omega,k.sec.trans h.sec,k.size.trans h.size,k.safe.trans h.safe,k.sy.trans h.sy,fun i hi=>(k.cache i hi).trans (h.cache i hi),fun i hi=>(k.gE i hi).trans (h.gE i hi),by omega,by omega⟩
theorem gv.mono {S':Int->Prop}(h:gv S d d1)(k:∀ i,S i->S' i):gv S' d d1:={ h with cache:=fun i hi=>h.cache i fun hs=>hi (k i hs),gE:=fun i hi=>h.gE i fun hs=>hi (k i hs)}
theorem Prog.dead {r w:Nat}(h:Prog S d d1 r w)(k:gv S d1 d2):gv S d d2:=by
 have a1:=h.aH;have a2:=h.go;have c1:=h.rd;have c2:=h.wr;have c3:=k.rd;have c4:=k.wr;have c5:=k.sX;exact⟨k.ok,k.down,k.aH,k.sec.trans h.sec,k.size.trans h.size,k.safe.trans h.safe,k.sy.trans h.sy,fun i hi=>(k.cache i hi).trans (h.cache i hi),fun i hi=>(k.gE i hi).trans (h.gE i hi),by omega,by omega,by omega⟩
theorem Prog.mr (S:Int->Prop)(h:Ok d)(hl:d.down=false)(hf:d.aH≠1):Prog S d (D.mr d) 1 0:=
 ⟨Ok.mr h,hl,rfl,by omega,rfl,rfl,rfl,rfl,fun _ _=>rfl,fun _ _=>rfl,rfl,rfl⟩
theorem Prog.pt (S:Int->Prop)(h:Ok d)(hl:d.down=false)(hf:d.aH≠1){i:Int}(hi:S i){ws:List UInt64}(hw:ws.length=D.ae d):Prog S d (D.pt d i ws) 0 1:=
 ⟨Ok.pt h i hw,hl,rfl,by omega,rfl,rfl,rfl,rfl,fun k hk=>by
  show gD d.cache i (form ws) k=_
  unfold gD;exact if_neg fun(e:k=i)=>hk (by rw[e];exact hi),fun k hk=>by
  show qz d.gE i k=_
  unfold qz;exact if_neg fun(e:k=i)=>hk (by rw[e];exact hi),rfl,rfl⟩
theorem gv.one (S:Int->Prop)(h:Ok d)(hf:d.aH=1):gv S d (D.dead d):=
 ⟨Ok.dead h,rfl,rfl,rfl,rfl,rfl,rfl,fun _ _=>rfl,fun _ _=>rfl,by show d.rd+d.wr+1=_;rw[hf],Nat.le_refl _,Nat.le_refl _⟩
end
theorem Hu {p:Nat}{d:D}(hok:Ok d)(hl:d.down=false)(ho:d.rd<=4611686018427387904)(i:Int)(h0:0<=i)(h1:i<d.sec):Tr prog 46 #[V p,I i] [Dk p d] fun v M=>
  (d.aH≠1/\∃ b c m,v= .tuple #[.slice (Oo b) d.size c,I 0]/\d.size<=c/\M=[Dk p (D.mr d),ah b (.row (aC (d.now i)) 5 m)])\/
  (d.aH=1/\v= .tuple #[.slice none 0 0,I 8]/\M=[Dk p (D.dead d)]):=fun H hs=>
 (Dsk.tS hok ho i H hs).mono fun v H' ⟨M,hq,hM⟩=>by
  rcases hq with⟨h,_⟩|⟨_,h,h2,h3⟩|⟨_,hb,b,c,m,h2,h3,h4⟩
  .exact absurd (og hl h0 h1) h
  .have hf:d.aH=1:=by simpa [D.dr]using h
   rw[kW hf]at h3;exact⟨M,.inr ⟨hf,h2,h3⟩,hM⟩
  .have hf:d.aH≠1:=by simpa [D.dr]using hb
   rw[ko hl hf]at h4;exact⟨M,.inl ⟨hf,b,c,m,h2,h3,h4⟩,hM⟩
theorem AE {p dp ap:Nat}{d:D}{x:X}{cap aj:Int}{bufs:List (Nat×Nat×OA)}{b rb m:Nat}{xs:List Value}(hok:Ok d)(hl:d.down=false)(ho:d.rd<=4611686018427387904)(i:Int)(h0:0<=i)(h1:i<d.sec)
  (hbm:(b,D.ae d,some (O rb))∈bufs) (hxs:xs.length=D.ae d):
  Tr prog 235 #[V p,I i,V b] [ah p (ba dp ap x),Dk dp d,Ar ap cap aj bufs,ah rb (.row xs 108 m)] fun v M=>
   (d.aH≠1/\v= I 0/\M=[ah p (ba dp ap x),Dk dp (D.mr d),Ar ap cap aj bufs,ah rb (.row (af (cX (d.now i))) 108 m)])\/
   (d.aH=1/\v= I 8/\M=[ah p (ba dp ap x),Dk dp (D.dead d),Ar ap cap aj bufs,ah rb (.row xs 108 m)]):=fun H hs=>by
 have hp:=Ok.dQ hok;have hnow:=hok.now i;have hsz:=hok.size;apply bS.ok;unfold bS;simp only[HS];refine hs.ld 0 rfl rfl ?_;simp only[HV];refine(Hu hok hl ho i h0 h1).use hs [1] rfl rfl ?_;rintro _ _ H (⟨hf,br,c,mr,rfl,hcc,rfl⟩|⟨hf,rfl,rfl⟩) hs
 .simp only[HV];refine aF rfl ?_;refine aa.use (kF hs 3 rfl hbm) ?_
  try simp only[HV]
  refine⟨D.ae d+1,?_⟩;refine yu _ (Oo br) d.size c (d.now i) hnow.symm hcc (by omega) rb (D.ae d) m (by omega) (L:=[Dk dp (D.mr d),ah br (.row (aC (d.now i)) 5 mr),ah p (ba dp ap x),Ar ap cap aj bufs,ah rb (.row xs 108 m)]) 4 (fun H hs=>?_) (fun ys H hs=>?_) (by simp) (D.ae d) 0 xs H (by omega) hxs (by simp) hs
  .exact⟨_,.inl ⟨hf,rfl,rfl⟩,hs.re [2,0,3,4] rfl⟩
  .have:=Cells.row (hs.get 1 (b:=br) (o:=.row (aC (d.now i)) 5 mr) rfl) 0 d.size;rw[List.drop_zero,List.take_of_length_le (by rw[bk];omega)]at this;exact this
 .simp only[HV];exact aU (by decide) ⟨_,.inr ⟨hf,by trivial,rfl⟩,hs.re [1,0,2,3] rfl⟩
theorem Gj {p:Nat}{d:D}(hok:Ok d)(hl:d.down=false)(ho:d.wr<=4611686018427387904)(i:Int)(h0:0<=i)(h1:i<d.sec)(ws:List UInt64)(hw:ws.length=D.ae d)(b m:Nat):
  Tr prog 47 #[V p,I i,.slice (Oo b) (8*ws.length) (8*ws.length)] [Dk p d,ah b (.row (aC (form ws)) 5 m)] fun v M=>
   (d.aH≠1/\v= I 0/\M=[Dk p (D.pt d i ws),ah b (.row (aC (form ws)) 5 m)])\/
   (d.aH=1/\v= I 8/\M=[Dk p (D.dead d),ah b (.row (aC (form ws)) 5 m)]):=fun H hs=>by
 have hp:=Ok.dQ hok;refine(Dsk.ki hok ho i (Oo b) (8*ws.length) (8*ws.length) (form ws) (dI ws).symm (ah b (.row (aC (form ws)) 5 m)) (fun H h=>?_) H hs).mono ?_
 .have:=Cells.row h 0 (8*ws.length);rw[List.drop_zero,List.take_of_length_le (by rw[bk,dI];omega)]at this;exact this
 .rintro v H' ⟨M,⟨rfl,rfl⟩,hM⟩;have hc:=og hl h0 h1;by_cases hf:d.aH=1
  .have hb:d.dr=true:=by unfold D.dr;exact decide_eq_true hf
   have e1:d.dc i (8*ws.length)=8:=by
    unfold D.dc;rw[if_neg (by rw[hc];simp),if_neg (by omega),hb];rfl
   have e2:d.bC i (form ws)=D.dead d:=by
    unfold D.bC;rw[if_neg (by rw[hc];simp),if_neg (by rw[dI];omega),hb,if_pos rfl,kW hf]
   rw[e1];rw[e2]at hM;exact⟨_,.inr ⟨hf,rfl,rfl⟩,hM⟩
  .have hb:d.dr=false:=by unfold D.dr;exact decide_eq_false hf
   have e1:d.dc i (8*ws.length)=0:=by
    unfold D.dc;rw[if_neg (by rw[hc];simp),if_neg (by omega),hb];rfl
   have e2:d.bC i (form ws)=D.pt d i ws:=by
    unfold D.bC;rw[if_neg (by rw[hc];simp),if_neg (by rw[dI];omega),hb];unfold D.wrote D.pt;rw[ko hl hf];rfl
   rw[e1];rw[e2]at hM;exact⟨_,.inl ⟨hf,rfl,rfl⟩,hM⟩
theorem JZ {p dp ap:Nat}{d:D}{x:X}{cap aj:Int}{bufs:List (Nat×Nat×OA)}{b rb m:Nat}{ws:List UInt64}(hok:Ok d)(hl:d.down=false)(ho:d.wr<=4611686018427387904)(i:Int)(h0:0<=i)(h1:i<d.sec)
  (hbm:(b,D.ae d,some (O rb))∈bufs) (hw:ws.length=D.ae d):
  Tr prog 258 #[V p,I i,V b] [ah p (ba dp ap x),Dk dp d,Ar ap cap aj bufs,ah rb (.row (af ws) 108 m)] fun v M=>
   (d.aH≠1/\v= I 0/\M=[ah p (ba dp ap x),Dk dp (D.pt d i ws),Ar ap cap aj bufs,ah rb (.row (af ws) 108 m)])\/
   (d.aH=1/\v= I 8/\M=[ah p (ba dp ap x),Dk dp (D.dead d),Ar ap cap aj bufs,ah rb (.row (af ws) 108 m)]):=fun H hs=>by
 have hp:=Ok.dQ hok;have hcell:∀{L:List As} {H:Hp} (j:Nat),Sep L H->L[j]? =some (ah rb (.row (af ws) 108 m))->Cells H (Oo rb) (af ws):=fun j hs hj=>by
  have:=Cells.row (hs.get j hj) 0 ws.length;rw[List.drop_zero,List.take_of_length_le (by rw[aB];exact Nat.le_refl _)]at this;exact this
 apply im.ok;unfold im;simp only[HS];have put:∀(H:Hp) (K:VK),Sep [ah p (ba dp ap x),Dk dp d,Ar ap cap aj bufs,ah rb (.row (af ws) 108 m)] H->
   (∀ b' H',Sep [ah p (ba dp ap x),Dk dp d,Ar ap cap aj bufs,ah rb (.row (af ws) 108 m),ah b' (.row (aC (form ws)) 5 (8*ws.length))] H'->K (.slice (Oo b') (8*ws.length) (8*ws.length)) H')->
   aa prog 214 #[.slice (Oo rb) (D.ae d) (D.ae d)] H K:=fun H K hs k=>by
  rw[<- hw];refine(FormP.oY (Oo rb) ws.length ws.length ws rfl (by omega) H (hcell 3 hs rfl)).mono ?_;rintro v H' ⟨b',hb',rfl,rfl⟩;exact k b' _ (hs.new hb' _)
 have wr:∀(b':Nat) (H:Hp),Sep [ah p (ba dp ap x),Dk dp d,Ar ap cap aj bufs,ah rb (.row (af ws) 108 m),ah b' (.row (aC (form ws)) 5 (8*ws.length))] H->
   aa prog 47 #[V dp,I i,.slice (Oo b') (8*ws.length) (8*ws.length)] H fun v4 H3=>DI .i64 v4 fun x2=>∃ M,((d.aH≠1/\(I x2:Value)= I 0/\M=[ah p (ba dp ap x),Dk dp (D.pt d i ws),Ar ap cap aj bufs,ah rb (.row (af ws) 108 m)])\/
    (d.aH=1/\(I x2:Value)= I 8/\M=[ah p (ba dp ap x),Dk dp (D.dead d),Ar ap cap aj bufs,ah rb (.row (af ws) 108 m)]))/\Sep M H3:=fun b' H hs=>by
  refine(Gj hok hl ho i h0 h1 ws hw b' (8*ws.length)).use hs [1,4] rfl rfl ?_;rintro _ _ H (⟨hf,rfl,rfl⟩|⟨hf,rfl,rfl⟩) hs
  .exact⟨_,.inl ⟨hf,rfl,rfl⟩,hs.re [2,0,3,4] rfl⟩
  .exact⟨_,.inr ⟨hf,rfl,rfl⟩,hs.re [2,0,3,4] rfl⟩
 refine⟨?_,?_⟩
 .refine hs.ld 0 rfl rfl ?_;simp only[HV];refine aa.use (kF hs 2 rfl hbm) ?_
  try simp only[HV]
  refine put H _ hs fun b' H hs=>?_
  simp only[HV];exact wr b' H hs
 .refine aa.use (kF hs 2 rfl hbm) ?_
  try simp only[HV]
  refine⟨?_,?_⟩
  .refine hs.ld 0 rfl rfl ?_;simp only[HV];refine put H _ hs fun b' H hs=>?_
   simp only[HV];exact wr b' H hs
  .refine put H _ hs fun b' H hs=>?_
   simp only[HV];refine hs.ld 0 rfl rfl ?_;simp only[HV];exact wr b' H hs
def D.bE (d:D)(t:Nat):D:={ d with rd:=d.rd+t,aH:=d.aH-t}
theorem Ok.bE {d:D}(h:Ok d)(t:Nat):Ok (D.bE d t):=⟨h.sec,h.size,h.kV,h.ae,h.safe,h.cache,Nat.le_trans (Nat.sub_le _ _) h.fz⟩
theorem Bf (d:D):D.bE d 0=d:=rfl
theorem Be (d:D)(t:Nat):D.mr (D.bE d t)=D.bE d (t+1):=by
 unfold D.mr D.bE;simp only[D.mk.injEq,true_and,and_true];omega
theorem Prog.bE (S:Int->Prop){d:D}(h:Ok d)(hl:d.down=false){t:Nat}(hf:d.aH=0\/t<d.aH):Prog S d (D.bE d t) t 0:=
 ⟨Ok.bE h t,hl,rfl,by omega,rfl,rfl,rfl,rfl,fun _ _=>rfl,fun _ _=>rfl,rfl,rfl⟩
theorem gv.bE (S:Int->Prop){d:D}(h:Ok d)(hl:d.down=false){j:Nat}(hf:d.aH=j+1):gv S d (D.dead (D.bE d j)):=
 (Prog.bE S h hl (t:=j) (by omega)).dead (gv.one S (Ok.bE h j) (by show d.aH-j=1;omega))
theorem uL (K:VK){p dp ap:Nat}{d:D}{x:X}(hok:Ok d)(hl:d.down=false)(hx:On d x){cap aj:Int}{bufs:List (Nat×Nat×OA)}{b rb mb:Nat}(hbm:∀ y∈bufs,y.1≠b){rl off0 fr0 mm vb:Nat}{el:TypeId}{xs:List Value}{A4:OA}{n4 m4:Nat}{all:List (Nat×Nat×Nat)}(hn4:n4=all.length)(hn40:n4<=1000000000)(ho:d.rd<=4611686010000000000)
  (hK:∀ H,Sep [ah p (ba dp ap x),Dk dp (D.bE d n4),Ar ap cap aj bufs,ah rl (.row (setAt xs off0 (af (dE d x fr0 (all.map (·.2.2)).sum))) el mm)] H->d.aH=0\/n4<d.aH->K (I 0) H)
  (hK8:∀ j xs' H,j<n4->d.aH=j+1->xs'.length=xs.length->Sep [ah p (ba dp ap x),Dk dp (D.dead (D.bE d j)),Ar ap cap aj bufs,ah rl (.row xs' el mm)] H->K (I 8) H):
  ∀(k fr n j off:Nat) (A:OA) (m:Nat) (ws:List UInt64) (H:Hp),d.aH=0\/j<d.aH->n<=k->fr+n<=x.w->n<=m->all.drop j=dy (D.ae d) x.f k fr n->j<=n4->fr0+off=fr->((all.take j).map (·.2.2)).sum=off->off0+off+n<=xs.length->(0<n->A=some ⟨rl,off0+off,none⟩)->ws.length=D.ae d->
   Sep [ah p (ba dp ap x),Dk dp (D.bE d j),Ar ap cap aj (bufs++[(b,D.ae d,some (O rb))]),ah rb (.row (af ws) 108 mb),cj 360 3 A4 n4 m4 (all.flatMap kO),ah rl (.row (setAt xs off0 (af (dE d x fr0 off))) el mm),ah vb (.row [V b] 331 1)] H->
   bx.l9 K (k+1) (Oo p) A n m (Oo b) A4 n4 m4 (n4:Int) (j:Int) (Oo ap) (Oo vb) 1 1 H
 |k,fr,0,j,off,A,m,ws,H,hgo,hn,hf,hm,hall,hj,hoff,hsum,hlen,hA,hws,hs=>by
  unfold bx.l9;have e:dy (D.ae d) x.f k fr 0=[]:=by cases k<;>simp[dy]
  rw[e]at hall;have hjn:j=n4:=by
   have:=congrArg List.length hall;simp at this;omega
  subst hjn;refine au (by omega) ?_;have htake:all.take j=all:=List.take_of_length_le (by omega);rw[htake]at hsum;refine(gp vb b (D.ae d) (Oo rb) hbm).use hs [2,6] rfl rfl ?_;rintro _ _ H ⟨rfl,rfl⟩ hs;refine hK H ?_ hgo;rw[hsum];exact hs.re [1,2,0,5] rfl
 |0,fr,n+1,j,off,A,m,ws,H,hgo,hn,hf,hm,hall,hj,hoff,hsum,hlen,hA,hws,hs=>by omega
 |k+1,fr,n+1,j,off,A,m,ws,H,hgo,hn,hf,hm,hall,hj,hoff,hsum,hlen,hA,hws,hs=>by
  have hp:=Ok.dQ hok;have hsec:=hok.sec;have hroom:x.s*D.ae d<=1048576*512:=Nat.mul_le_mul (by have:=hx.fit;omega) (by omega);have h4:=hx.room;have hfit:=hx.fit;obtain rfl:=hA (by omega);have e:dy (D.ae d) x.f (k+1) fr (n+1)=(x.f+fr/D.ae d,fr%D.ae d,cN (D.ae d) fr (n+1))::dy (D.ae d) x.f k (fr+cN (D.ae d) fr (n+1)) (n+1-cN (D.ae d) fr (n+1)):=by
   show(if n+1=0 then []else _)=_
   rw[if_neg (by omega)]
  rw[e]at hall;have hjlt:j<all.length:=by
   have:=congrArg List.length hall;simp at this;omega
  have hcle:=vL (D.ae d) fr (n+1);have hcpos:=sU (ae:=D.ae d) (fr:=fr) (n:=n+1);have hcper:=z' (ae:=D.ae d) (fr:=fr) (n:=n+1);have hmod:=Nat.mod_lt fr (show 0<D.ae d by omega);have hdiv:fr/D.ae d<x.s:=by
   rw[Nat.div_lt_iff_lt_mul (by omega)];omega
  have hget:all[j]=(x.f+fr/D.ae d,fr%D.ae d,cN (D.ae d) fr (n+1)):=by
   have:=List.drop_eq_getElem_cons hjlt;rw[this]at hall;exact(List.cons.inj hall).1
  have hrest:all.drop (j+1)=dy (D.ae d) x.f k (fr+cN (D.ae d) fr (n+1)) (n+1-cN (D.ae d) fr (n+1)):=by
   have:=List.drop_eq_getElem_cons hjlt;rw[this]at hall;exact(List.cons.inj hall).2
  generalize hcv:cN (D.ae d) fr (n+1)=c at*;have hflat:∀(l:List (Nat×Nat×Nat)) (i:Nat) (hi:i<l.length),((l.flatMap kO).drop (i*3)).take 3=kO l[i]:=by
   intro l
   induction l with
   |nil=>intro i hi;simp at hi
   |cons y l ih=>
    intro i hi;rw[List.flatMap_cons];cases i with
    |zero=>simp[kO]
    |succ i=>
     rw[show(i+1)*3=(kO y).length+i*3 by simp[kO];omega,List.drop_append];simp only[Nat.add_sub_cancel_left,List.getElem_cons_succ];rw[List.drop_eq_nil_of_le (by omega),List.nil_append];exact ih i (by simpa using hi)
  unfold bx.l9;refine aA (by omega) ?_;refine(hs.own 4 rfl).Bd (ys:=kO all[j]) rfl (by omega) (hflat all j hjlt) ?_;rw[hget];refine hs.nw fun b2 H hs=>?_
  refine hs.eY 7 rfl rfl rfl rfl fun H hs=>?_;have hs:Sep [ah p (ba dp ap x),Dk dp (D.bE d j),Ar ap cap aj (bufs++[(b,D.ae d,some (O rb))]),ah rb (.row (af ws) 108 mb),cj 360 3 A4 n4 m4 (all.flatMap kO),ah rl (.row (setAt xs off0 (af (dE d x fr0 off))) el mm),ah vb (.row [V b] 331 1),
   ah b2 (Oa #[I ((x.f+fr/D.ae d:Nat):Int),I ((fr%D.ae d:Nat):Int),I (c:Int)] 360)] H:=hs
  simp only[HS];refine hs.ld 7 rfl rfl ?_;simp only[HV];have hokj:=Ok.bE hok j;refine(AE (p:=p) (ap:=ap) (x:=x) (cap:=cap) (aj:=aj) (b:=b) (rb:=rb) (m:=mb) hokj hl (by show d.rd+j<=_;omega) ((x.f+fr/D.ae d:Nat):Int) (Int.natCast_nonneg _) (Int.ofNat_lt.2 (by show _<d.sec;omega)) (bufs:=bufs++[(b,D.ae d,some (O rb))]) (List.mem_append_right _ (List.mem_singleton.2 rfl)) (xs:=af ws) (by rw[aB];exact hws)).use hs [0,1,2,3] rfl rfl ?_;have hset:(setAt xs off0 (af (dE d x fr0 off))).length=xs.length:=gN (by rw[aB,jW];omega);have hfz:(D.bE d j).aH=d.aH-j:=rfl;rintro _ _ H (⟨hf1,rfl,rfl⟩|⟨hf1,rfl,rfl⟩) hs
  case inr=>
   simp only[HV];refine aU (by decide) ?_;refine(gp vb b (D.ae d) (Oo rb) hbm).use hs [2,6] rfl rfl ?_;rintro _ _ H ⟨rfl,rfl⟩ hs;exact hK8 j _ H (by omega) (by omega) hset (hs.re [1,2,0,5] rfl)
  rw[Be]at hs;have hnow:D.now (D.bE d j) ((x.f+fr/D.ae d:Nat):Int)=d.now ((x.f+fr/D.ae d:Nat):Int):=rfl;rw[hnow]at hs;have hwl:(cX (d.now ((x.f+fr/D.ae d:Nat):Int))).length=D.ae d:=by rw[iv,hok.now];rfl
  simp only[HV];refine aF rfl ?_;refine hs.ld 7 rfl rfl ?_;simp only[HV];refine wH rfl (by omega) ?_;refine bD.use (kF hs 2 rfl (List.mem_append_right _ (List.mem_singleton.2 rfl))) ?_;simp only[HV];refine hs.ld 7 rfl rfl ?_;simp only[HV];refine qt rfl (by omega) ?_;rw[Bo,wG,Nat.zero_add];refine hs.cp 5 (k:=D.ae d-fr%D.ae d) (n:=c-0) (off:=off0+off) (ys:=af (dE d x fr c)) (by rfl) fi rfl ?_ ?_ (fun y hy=>?_) fun H hs=>?_
  .have hmin:Nat.min (D.ae d-fr%D.ae d) (c-0)=c:=Nat.min_eq_right (by omega);rw[hmin];show H.cells? ⟨rb,fr%D.ae d,none⟩ 0 (c*1)=_
   rw[Nat.mul_one,o3 (hs.get 3 (b:=rb) (o:=.row (af (cX (d.now ((x.f+fr/D.ae d:Nat):Int)))) 108 mb) rfl) (fr%D.ae d) c 0 (by rw[aB,hwl];omega)];rw[<- uI hok x (fr:=fr) (k:=c) (by omega)];unfold af;rw[List.map_take,List.map_drop,Nat.add_zero]
  .rw[aB,jW,hset];omega
  .obtain⟨z,_,rfl⟩:=List.mem_map.1 hy;rfl
  simp only[HV];refine hs.ld 7 rfl rfl ?_;simp only[HV];refine qt rfl (by omega) ?_;rw[bg (x:=(j:Int)+1)];have happ:setAt (setAt xs off0 (af (dE d x fr0 off))) (off0+off) (af (dE d x fr c))=setAt xs off0 (af (dE d x fr0 (off+c))):=by
   have hl:(af (dE d x fr0 off)).length=off:=by rw[aB,jW]
   have:=Bj (xs:=xs) (us:=af (dE d x fr0 off)) (bs:=af (dE d x fr c)) (off:=off0) (by rw[hl,aB,jW];omega);rw[hl]at this;rw[this,Cx,hoff];unfold af;rw[List.map_append]
  have hsum':((all.take (j+1)).map (·.2.2)).sum=off+c:=by
   rw[List.take_succ_eq_append_getElem hjlt,List.map_append,List.sum_append,hsum,hget];simp
  refine uL K (rb:=rb) (mb:=mb) hok hl hx hbm hn4 hn40 ho hK hK8 k (fr+c) (n+1-c) (j+1) (off+c) _ (m-c) (cX (d.now ((x.f+fr/D.ae d:Nat):Int))) H (by omega) (by omega) (by omega) (by omega) hrest (by omega) (by omega) hsum' (by omega) (fun h0=>?_) hwl ?_
  .rw[wG,Nat.add_assoc]
  .rw[<- happ];exact hs.re [0,1,2,3,4,5,6] rfl
def IJ (p dp ap:Nat)(d:D)(x:X)(cap aj:Int)(bufs:List (Nat×Nat×OA))(fr n:Nat)(xs:List Value)(off rl:Nat)(el:TypeId)(mm:Nat)(v:Value)(M:List As):Prop:=
 ((d.aH=0\/(dy (D.ae d) x.f n fr n).length<d.aH)/\v= I 0/\M=[ah p (ba dp ap x),Dk dp (D.bE d (dy (D.ae d) x.f n fr n).length),Ar ap cap (mx aj (aW bufs+D.ae d)) bufs,ah rl (.row (setAt xs off (af (dE d x fr n))) el mm)])\/
 (∃ j xs',j<(dy (D.ae d) x.f n fr n).length/\d.aH=j+1/\xs'.length=xs.length/\v= I 8/\M=[ah p (ba dp ap x),Dk dp (D.dead (D.bE d j)),Ar ap cap (mx aj (aW bufs+D.ae d)) bufs,ah rl (.row xs' el mm)])
theorem uV {p dp ap:Nat}{d:D}{x:X}{cap aj:Int}{bufs:List (Nat×Nat×OA)}{rl off mm:Nat}{el:TypeId}{xs:List Value}(hok:Ok d)(hl:d.down=false)(hx:On d x)(ho:d.rd<=4611686010000000000)(fr n m:Nat)(hn:1<=n)(hf:fr+n<=x.w)(hm:n<=m)(hxl:off+n<=xs.length)(hcap:(D.ae d:Int)<=cap-aW bufs):
  Tr prog 187 #[V p,I fr,.slice (some ⟨rl,off,none⟩) n m] [ah p (ba dp ap x),Dk dp d,Ar ap cap aj bufs,ah rl (.row xs el mm)] fun v M=>
   IJ p dp ap d x cap aj bufs fr n xs off rl el mm v M:=fun H hs=>by
 have hp:=Ok.dQ hok;have hsec:=hok.sec;have hroom:x.s*D.ae d<=1048576*512:=Nat.mul_le_mul (by have:=hx.fit;omega) (by omega);have h4:=hx.room;have hpl:=iR (D.ae d) x.f n fr n;apply bx.ok;unfold bx;refine(yI (dp:=dp) (ap:=ap) hok hx fr n hf).use hs [0,1] rfl rfl ?_;rintro _ _ H ⟨A4,m4,rfl,rfl⟩ hs;simp only[HV];refine aF rfl (bT (by omega) ?_);simp only[HS];have rest:∀(b rb:Nat) (H:Hp),(∀ y∈bufs,y.1≠b)->Sep [Ar ap cap (if aW bufs+D.ae d>aj then aW bufs+D.ae d else aj) (bufs++[(b,D.ae d,some (O rb))]),ah rb (.row (dX (D.ae d)) 108 (D.ae d)),ah p (ba dp ap x),Dk dp d,cj 360 3 A4 (dy (D.ae d) x.f n fr n).length m4 ((dy (D.ae d) x.f n fr n).flatMap kO),ah rl (.row xs el mm)] H->
   bx.j5 (fun v H'=>∃ M,IJ p dp ap d x cap aj bufs fr n xs off rl el mm v M/\Sep M H') (Oo p) (some ⟨rl,off,none⟩) n m A4 (dy (D.ae d) x.f n fr n).length m4 (0:Int) (Oo b) H:=fun b rb H hbm hs=>by
  unfold bx.j5;refine aF rfl ?_;simp only[HS];refine hs.ld 2 rfl rfl ?_;simp only[HV];refine hs.nw fun vb H hs=>?_
  refine⟨n+1,?_⟩;have hz:dX (D.ae d)=af (List.replicate (D.ae d) 0):=by
   unfold dX;rw[eR];unfold af;rw[List.map_replicate];rfl
  refine uL _ (p:=p) (dp:=dp) (ap:=ap) (d:=d) (x:=x) (cap:=cap) (aj:=mx aj (aW bufs+D.ae d)) (bufs:=bufs) (b:=b) (rb:=rb) (mb:=D.ae d) (rl:=rl) (off0:=off) (fr0:=fr) (mm:=mm) (vb:=vb) (el:=el) (xs:=xs) hok hl hx hbm rfl (by omega) ho (fun H hs hgo=>?_) (fun j xs' H hj hfj hx' hs=>⟨_,.inr ⟨j,xs',hj,hfj,hx',rfl,rfl⟩,hs⟩) n fr n 0 0 _ m (List.replicate (D.ae d) 0) H (by omega) (Nat.le_refl _) hf hm rfl (Nat.zero_le _) (by omega) rfl (by omega) (fun _=>rfl) (by simp) ?_
  .rw[Cr _ _ (by omega) n fr n (Nat.le_refl _)]at hs;exact⟨_,.inl ⟨hgo,rfl,rfl⟩,hs⟩
  .rw[<- hz,show setAt xs off (af (dE d x fr 0))=xs from mT xs off,Bf];exact hs.re [2,3,0,1,4,5,6] rfl
 have fresh:∀{L:List As} {H:Hp} (b rb:Nat) (pk:Int),Sep L H->L[0]? =some (Ar ap cap pk (bufs++[(b,D.ae d,some (O rb))]))->∀ y∈bufs,y.1≠b:=fun b rb pk hs h0 y hy e=>by
  obtain⟨mp,cl,tk,hA⟩:=Sep.ar hs 0 h0;have:=hA.bn;rw[List.map_append,List.nodup_append]at this;exact this.2.2 y.1 (List.mem_map_of_mem hy) b (by simp) e
 refine⟨?_,?_⟩
 .refine hs.ld 0 rfl rfl ?_;simp only[HV];refine aa.use (lE hs 0 1 rfl rfl hok) ?_
  try simp only[HV]
  refine(lj (a:=ap) (cap:=cap) (aj:=aj) (bufs:=bufs) (n:=D.ae d) (by omega) hcap).use hs [3] rfl rfl ?_;rintro _ _ H ⟨b,rb,rfl,rfl⟩ hs;simp only[HV];exact rest b rb H (fresh b rb _ hs rfl) (hs.re [0,1,2,3,4,5] rfl)
 .refine aa.use (lE hs 0 1 rfl rfl hok) ?_
  try simp only[HV]
  refine hs.ld 0 rfl rfl ?_;simp only[HV];refine(lj (a:=ap) (cap:=cap) (aj:=aj) (bufs:=bufs) (n:=D.ae d) (by omega) hcap).use hs [3] rfl rfl ?_;rintro _ _ H ⟨b,rb,rfl,rfl⟩ hs;simp only[HV];exact rest b rb H (fresh b rb _ hs rfl) (hs.re [0,1,2,3,4,5] rfl)
def iO (ae f k fr n:Nat):Nat:=((dy ae f k fr n).filter fun p=>decide (p.2.2<ae)).length
def nU (d:D)(s bG:Nat)(src:List UInt64):D:=D.pt (if src.length<D.ae d then D.mr d else d) s (j0 (cX (d.now s)) bG src)
def j3 (d:D)(x:X):Nat->Nat->List UInt64->D
 |0,_,_=>d
 |k+1,fr,src=>if src=[]then d else j3 (nU d (x.f+fr/D.ae d) (fr%D.ae d) (src.take (cN (D.ae d) fr src.length))) x k (fr+cN (D.ae d) fr src.length) (src.drop (cN (D.ae d) fr src.length))
theorem yX (d:D)(s bG:Nat)(src:List UInt64):(nU d s bG src).size=d.size/\(nU d s bG src).sec=d.sec:=by
 unfold nU;split<;>exact⟨rfl,rfl⟩
theorem Ie (d:D)(s bG:Nat)(src:List UInt64):D.ae (nU d s bG src)=D.ae d:=by unfold D.ae;rw[(yX d s bG src).1]
theorem Ic (d:D)(s bG:Nat)(src:List UInt64):(nU d s bG src).wr=d.wr+1/\(nU d s bG src).rd=d.rd+(if src.length<D.ae d then 1 else 0)/\(nU d s bG src).sy=d.sy:=by
 unfold nU;split
 .exact⟨rfl,rfl,rfl⟩
 .exact⟨rfl,rfl,rfl⟩
theorem tL (K:VK){p dp ap:Nat}{x:X}{cap aj:Int}{bufs:List (Nat×Nat×OA)}{b rb mb:Nat}(hbm:∀ y∈bufs,y.1≠b){vb:Nat}{R:As}{A4:OA}{n4 m4:Nat}{all:List (Nat×Nat×Nat)}(hn4:n4=all.length)(hn40:n4<=1000000000){S:Int->Prop}(hS:∀ j:Nat,j<x.s->S ((x.f+j:Nat):Int)){d0:D}{R0 W0:Nat}
  (hK8:∀ d' H,gv S d0 d'->d0.aH<=R0+W0->Sep [ah p (ba dp ap x),Dk dp d',Ar ap cap aj bufs,R] H->K (I 8) H):
  ∀(k fr j:Nat) (d:D) (A:OA) (m:Nat) (src ws:List UInt64) (H:Hp) (r w:Nat),Prog S d0 d r w->r+(iO (D.ae d) x.f k fr src.length)=R0->w+(dy (D.ae d) x.f k fr src.length).length=W0->Ok d->On d x->d.rd+k<=4611686010000000000->d.wr+k<=4611686010000000000->src.length<=k->fr+src.length<=x.w->src.length<=m->all.drop j=dy (D.ae d) x.f k fr src.length->j<=n4->(∀ H,R H->Cells H A (af src))->ws.length=D.ae d->
   (∀ H,Prog S d0 (j3 d x k fr src) R0 W0->Sep [ah p (ba dp ap x),Dk dp (j3 d x k fr src),Ar ap cap aj bufs,R] H->K (I 0) H)->
   Sep [ah p (ba dp ap x),Dk dp d,Ar ap cap aj (bufs++[(b,D.ae d,some (O rb))]),ah rb (.row (af ws) 108 mb),cj 360 3 A4 n4 m4 (all.flatMap kO),R,ah vb (.row [V b] 331 1)] H->
   aK.l9 K (k+1) (Oo p) A src.length m (Oo b) A4 n4 m4 (n4:Int) (j:Int) (Oo ap) (Oo vb) 1 1 H
 |k,fr,j,d,A,m,[],ws,H,r,w,hpg,hR0,hW0,hok,hx,hrd,hwr,hn,hf,hm,hall,hj,hR,hws,hK,hs=>by
  unfold aK.l9;have e:dy (D.ae d) x.f k fr ([]:List UInt64).length=[]:=by cases k<;>simp[dy]
  have e2:j3 d x k fr []=d:=by cases k<;>simp[j3]
  have e3:iO (D.ae d) x.f k fr ([]:List UInt64).length=0:=by unfold iO;rw[e];rfl
  rw[e3]at hR0;rw[e]at hW0;rw[e]at hall;have hjn:j=n4:=by
   have:=congrArg List.length hall;simp at this;omega
  subst hjn;refine au (by omega) ?_;refine(gp vb b (D.ae d) (Oo rb) hbm).use hs [2,6] rfl rfl ?_;rintro _ _ H ⟨rfl,rfl⟩ hs;refine hK H ?_ ?_
  .rw[e2,<-hR0,<-hW0];exact hpg
  .rw[e2];exact hs.re [1,2,0,5] rfl
 |0,fr,j,d,A,m,w0::src0,ws,H,r,w,hpg,hR0,hW0,hok,hx,hrd,hwr,hn,hf,hm,hall,hj,hR,hws,hK,hs=>by simp at hn
 |k+1,fr,j,d,A,m,w0::src0,ws,H,r,w,hpg,hR0,hW0,hok,hx,hrd,hwr,hn,hf,hm,hall,hj,hR,hws,hK,hs=>by
  generalize hsrc:w0::src0=src at*;have hne:src≠ []:=by rw[<- hsrc];simp
  have hpos:0<src.length:=by rw[<- hsrc];simp
  have hp:=Ok.dQ hok;have hsec:=hok.sec;have hroom:x.s*D.ae d<=1048576*512:=Nat.mul_le_mul (by have:=hx.fit;omega) (by omega);have h4:=hx.room;have hfit:=hx.fit;have e:dy (D.ae d) x.f (k+1) fr src.length=(x.f+fr/D.ae d,fr%D.ae d,cN (D.ae d) fr src.length)::dy (D.ae d) x.f k (fr+cN (D.ae d) fr src.length) (src.length-cN (D.ae d) fr src.length):=by
   show(if src.length=0 then []else _)=_
   rw[if_neg (by omega)]
  have ew:j3 d x (k+1) fr src=j3 (nU d (x.f+fr/D.ae d) (fr%D.ae d) (src.take (cN (D.ae d) fr src.length))) x k (fr+cN (D.ae d) fr src.length) (src.drop (cN (D.ae d) fr src.length)):=by
   show(if src=[]then d else _)=_
   rw[if_neg hne]
  have hdn:=hpg.down;rw[e]at hall;have hRs:iO (D.ae d) x.f (k+1) fr src.length=(if cN (D.ae d) fr src.length<D.ae d then 1 else 0)+iO (D.ae d) x.f k (fr+cN (D.ae d) fr src.length) (src.length-cN (D.ae d) fr src.length):=by
   unfold iO;rw[e,List.filter_cons];by_cases hq:cN (D.ae d) fr src.length<D.ae d
   .simp only[hq,decide_true,if_true,List.length_cons];omega
   .simp only[hq,decide_false,Bool.false_eq_true,if_false];omega
  rw[hRs]at hR0;rw[e,List.length_cons]at hW0;rw[ew]at hK;have hjlt:j<all.length:=by
   have:=congrArg List.length hall;simp at this;omega
  have hcle:=vL (D.ae d) fr src.length;have hcpos:=sU (ae:=D.ae d) (fr:=fr) (n:=src.length) (by omega) hpos;have hcper:=z' (ae:=D.ae d) (fr:=fr) (n:=src.length);have hmod:=Nat.mod_lt fr (show 0<D.ae d by omega);have hdiv:fr/D.ae d<x.s:=by
   rw[Nat.div_lt_iff_lt_mul (by omega)];omega
  have hget:all[j]=(x.f+fr/D.ae d,fr%D.ae d,cN (D.ae d) fr src.length):=by
   have:=List.drop_eq_getElem_cons hjlt;rw[this]at hall;exact(List.cons.inj hall).1
  have hrest:all.drop (j+1)=dy (D.ae d) x.f k (fr+cN (D.ae d) fr src.length) (src.length-cN (D.ae d) fr src.length):=by
   have:=List.drop_eq_getElem_cons hjlt;rw[this]at hall;exact(List.cons.inj hall).2
  generalize hcv:cN (D.ae d) fr src.length=c at*;have hflat:∀(l:List (Nat×Nat×Nat)) (i:Nat) (hi:i<l.length),((l.flatMap kO).drop (i*3)).take 3=kO l[i]:=by
   intro l
   induction l with
   |nil=>intro i hi;simp at hi
   |cons y l ih=>
    intro i hi;rw[List.flatMap_cons];cases i with
    |zero=>simp[kO]
    |succ i=>
     rw[show(i+1)*3=(kO y).length+i*3 by simp[kO];omega,List.drop_append];simp only[Nat.add_sub_cancel_left,List.getElem_cons_succ];rw[List.drop_eq_nil_of_le (by omega),List.nil_append];exact ih i (by simpa using hi)
  have hsec1:((x.f+fr/D.ae d:Nat):Int)<(d.sec:Int):=Int.ofNat_lt.2 (by omega);have htk:(src.take c).length=c:=by simp;omega
  have hwl:(cX (d.now ((x.f+fr/D.ae d:Nat):Int))).length=D.ae d:=by rw[iv,hok.now];rfl
  unfold aK.l9;refine aA (by omega) ?_;refine(hs.own 4 rfl).Bd (ys:=kO all[j]) rfl (by omega) (hflat all j hjlt) ?_;rw[hget];refine hs.nw fun b2 H hs=>?_
  refine hs.eY 7 rfl rfl rfl rfl fun H hs=>?_;have hs:Sep [ah p (ba dp ap x),Dk dp d,Ar ap cap aj (bufs++[(b,D.ae d,some (O rb))]),ah rb (.row (af ws) 108 mb),cj 360 3 A4 n4 m4 (all.flatMap kO),R,ah vb (.row [V b] 331 1),
   ah b2 (Oa #[I ((x.f+fr/D.ae d:Nat):Int),I ((fr%D.ae d:Nat):Int),I (c:Int)] 360)] H:=hs
    -- behind the load, if there was one
  have join:∀(d1:D) (ws1:List UInt64) (H:Hp),(d1=if c<D.ae d then D.mr d else d)->(c<D.ae d->d.aH≠1)->ws1.length=D.ae d->(c<D.ae d->ws1=cX (d.now ((x.f+fr/D.ae d:Nat):Int)))->
    Sep [ah p (ba dp ap x),Dk dp d1,Ar ap cap aj (bufs++[(b,D.ae d,some (O rb))]),ah rb (.row (af ws1) 108 mb),cj 360 3 A4 n4 m4 (all.flatMap kO),R,ah vb (.row [V b] 331 1),
     ah b2 (Oa #[I ((x.f+fr/D.ae d:Nat):Int),I ((fr%D.ae d:Nat):Int),I (c:Int)] 360)] H->
    aK.j15 K (aK.l9 K (k+1)) (Oo p) A src.length m (Oo b) (O b2) A4 n4 m4 (n4:Int) (j:Int) (Oo ap) (Oo vb) 1 1 H:=fun d1 ws1 H hd1 hnf hw1 hwe hs=>by
   have hd1p:D.ae d1=D.ae d/\Ok d1/\d1.down=false/\d1.wr=d.wr/\d1.sec=d.sec/\Prog S d0 d1 (r+if c<D.ae d then 1 else 0) w:=by
    rw[hd1];by_cases hlt:c<D.ae d
    .simp only[hlt,if_true];exact⟨by trivial,Ok.mr hok,hdn,by trivial,by trivial,hpg.trans (Prog.mr S hok hdn (hnf hlt))⟩
    .simp only[hlt,if_false];exact⟨by trivial,hok,hdn,by trivial,by trivial,hpg⟩
   obtain⟨q1,q2,q3,q4,q5,q6⟩:=hd1p;have hwset:j0 ws1 (fr%D.ae d) (src.take c)=j0 (cX (d.now ((x.f+fr/D.ae d:Nat):Int))) (fr%D.ae d) (src.take c):=by
    by_cases hlt:c<D.ae d
    .rw[hwe hlt]
    .have h0:fr%D.ae d=0:=by omega
     unfold j0;rw[h0,htk,List.drop_eq_nil_of_le (by omega),List.drop_eq_nil_of_le (by omega)];simp
   have hdisk:D.pt d1 ((x.f+fr/D.ae d:Nat):Int) (j0 ws1 (fr%D.ae d) (src.take c))=nU d (x.f+fr/D.ae d) (fr%D.ae d) (src.take c):=by
    unfold nU;rw[hwset,hd1,htk]
   unfold aK.j15;simp only[HS];refine bD.use (kF hs 2 rfl (List.mem_append_right _ (List.mem_singleton.2 rfl))) ?_;simp only[HV];refine hs.ld 7 rfl rfl ?_;simp only[HV];refine qt rfl (by omega) ?_;refine hs.ld 7 rfl rfl ?_;simp only[HV];refine wH rfl (by omega) ?_;rw[wG,Nat.zero_add];have hcell:∀{L:List As} {H:Hp},Sep L H->L[5]? =some R->Cells H A (af src):=fun hs h5=>by
    obtain⟨H1,hR1,hle⟩:=hs.fU 5 h5;exact(hR H1 hR1).le hle
   refine hs.cp 3 (b:=rb) (off:=fr%D.ae d) (n:=D.ae d-fr%D.ae d) (k:=c-0) (xs:=af ws1) (e':=108) (m:=mb) (ys:=af (src.take c)) (by rfl) fi rfl ?_ ?_ (fun y hy=>?_) fun H hs=>?_
   .have hmin:Nat.min (c-0) (D.ae d-fr%D.ae d)=c-0:=Nat.min_eq_left (by omega);rw[hmin];have h1:=((hcell hs rfl).shift (m:=m) (l:=0) (by rw[aB];omega)).take c;rw[List.drop_zero,show(af src).take c=af (src.take c) by unfold af;rw[List.map_take]]at h1;exact tF h1 (by rw[aB,htk];omega)
   .rw[aB,aB,htk,hw1];omega
   .obtain⟨z,_,rfl⟩:=List.mem_map.1 hy;rfl
   simp only[HV];rw[tC]at hs;refine hs.ld 7 rfl rfl ?_;simp only[HV];have hs:Sep [ah p (ba dp ap x),Dk dp d1,Ar ap cap aj (bufs++[(b,D.ae d,some (O rb))]),ah rb (.row (af (j0 ws1 (fr%D.ae d) (src.take c))) 108 mb),cj 360 3 A4 n4 m4 (all.flatMap kO),R,ah vb (.row [V b] 331 1),
     ah b2 (Oa #[I ((x.f+fr/D.ae d:Nat):Int),I ((fr%D.ae d:Nat):Int),I (c:Int)] 360)] H:=hs
   have hsl:(j0 ws1 (fr%D.ae d) (src.take c)).length=D.ae d:=by rw[vr];exact hw1
   refine(JZ (p:=p) (ap:=ap) (x:=x) (cap:=cap) (aj:=aj) (b:=b) (rb:=rb) (m:=mb) (d:=d1) (ws:=j0 ws1 (fr%D.ae d) (src.take c)) q2 q3 (by omega) ((x.f+fr/D.ae d:Nat):Int) (Int.natCast_nonneg _) (by rw[q5];exact hsec1) (bufs:=bufs++[(b,D.ae d,some (O rb))]) (by rw[q1];exact List.mem_append_right _ (List.mem_singleton.2 rfl)) (by rw[q1];exact hsl)).use hs [0,1,2,3] rfl rfl ?_;rintro _ _ H (⟨hf1,rfl,rfl⟩|⟨hf1,rfl,rfl⟩) hs
   case inr=>
    simp only[HV];refine aU (by decide) ?_;refine(gp vb b (D.ae d) (Oo rb) hbm).use hs [2,6] rfl rfl ?_;rintro _ _ H ⟨rfl,rfl⟩ hs;refine hK8 _ H (q6.dead (gv.one S q2 hf1)) ?_ (hs.re [1,2,0,5] rfl);have z1:=q6.aH;have z2:=q6.go;omega
   have hpg2:=q6.trans (Prog.pt S q2 q3 hf1 (i:=((x.f+fr/D.ae d:Nat):Int)) (hS _ hdiv) (ws:=j0 ws1 (fr%D.ae d) (src.take c)) (by rw[q1];exact hsl));rw[hdisk]at hpg2;rw[hdisk]at hs;simp only[HV];refine aF rfl ?_;refine hs.ld 7 rfl rfl ?_;simp only[HV];refine qt rfl (by omega) ?_;rw[bg (x:=(j:Int)+1)];have hcnt:=Ic d (x.f+fr/D.ae d) (fr%D.ae d) (src.take c);have hsz:=yX d (x.f+fr/D.ae d) (fr%D.ae d) (src.take c);have hper:=Ie d (x.f+fr/D.ae d) (fr%D.ae d) (src.take c);have hdl:(src.drop c).length=src.length-c:=by simp
   rw[<- hdl];refine tL K (rb:=rb) (mb:=mb) hbm hn4 hn40 hS hK8 k (fr+c) (j+1) _ _ (m-c) (src.drop c) (j0 ws1 (fr%D.ae d) (src.take c)) H _ _ hpg2 (by rw[hper,hdl];omega) (by rw[hper,hdl];omega) hpg2.ok ⟨hx.w1,hx.s1,by rw[hsz.2];exact hfit,by rw[hper];exact h4⟩ (by rw[hcnt.2.1];split<;>omega) (by rw[hcnt.1];omega) (by omega) (by omega) (by omega) (by rw[hper,hdl];exact hrest) (by omega) (fun H hRH=>?_) (by rw[hper];exact hsl) hK ?_
   .have:=(hR H hRH).shift (m:=m) (l:=c) (by rw[aB];omega);rw[show(af src).drop c=af (src.drop c) by unfold af;rw[List.map_drop]]at this;exact this
   .rw[hper];exact hs.re [0,1,2,3,4,5,6] rfl
  simp only[HS];refine hs.ld 7 rfl rfl ?_;simp only[HV];refine bD.use (lE hs 0 1 rfl rfl hok) ?_;simp only[HV];by_cases hlt:c<D.ae d
  .refine aA (by omega) ?_;refine hs.ld 7 rfl rfl ?_;simp only[HV];refine(AE (p:=p) (ap:=ap) (x:=x) (cap:=cap) (aj:=aj) (b:=b) (rb:=rb) (m:=mb) hok hdn (by omega) ((x.f+fr/D.ae d:Nat):Int) (Int.natCast_nonneg _) hsec1 (bufs:=bufs++[(b,D.ae d,some (O rb))]) (List.mem_append_right _ (List.mem_singleton.2 rfl)) (xs:=af ws) (by rw[aB];exact hws)).use hs [0,1,2,3] rfl rfl ?_;rintro _ _ H (⟨hf1,rfl,rfl⟩|⟨hf1,rfl,rfl⟩) hs
   case inr=>
    simp only[HV];refine aU (by decide) ?_;refine(gp vb b (D.ae d) (Oo rb) hbm).use hs [2,6] rfl rfl ?_;rintro _ _ H ⟨rfl,rfl⟩ hs;refine hK8 _ H (hpg.dead (gv.one S hok hf1)) ?_ (hs.re [1,2,0,5] rfl);have z1:=hpg.aH;have z2:=hpg.go;rw[if_pos hlt]at hR0;omega
   simp only[HV];refine aF rfl ?_;exact join (D.mr d) _ H (by rw[if_pos hlt]) (fun _=>hf1) hwl (fun _=>rfl) (hs.re [0,1,2,3,4,5,6,7] rfl)
  .refine au (by omega) ?_;exact join d ws H (by rw[if_neg hlt]) (fun h=>absurd h hlt) hws (fun h=>absurd h hlt) hs
def Gk (p dp ap:Nat)(d:D)(x:X)(cap aj:Int)(bufs:List (Nat×Nat×OA))(fr:Nat)(src:List UInt64)(R:As)(v:Value)(M:List As):Prop:=
 (Prog (fun i=>(x.f:Int)<=i/\i<((x.f+x.s:Nat):Int)) d (j3 d x src.length fr src) (iO (D.ae d) x.f src.length fr src.length) (dy (D.ae d) x.f src.length fr src.length).length/\
  v= I 0/\M=[ah p (ba dp ap x),Dk dp (j3 d x src.length fr src),Ar ap cap (mx aj (aW bufs+D.ae d)) bufs,R])\/
 (∃ d',gv (fun i=>(x.f:Int)<=i/\i<((x.f+x.s:Nat):Int)) d d'/\d.aH<=iO (D.ae d) x.f src.length fr src.length+(dy (D.ae d) x.f src.length fr src.length).length/\
  v= I 8/\M=[ah p (ba dp ap x),Dk dp d',Ar ap cap (mx aj (aW bufs+D.ae d)) bufs,R])
theorem sS {p dp ap:Nat}{d:D}{x:X}{cap aj:Int}{bufs:List (Nat×Nat×OA)}{R:As}{A:OA}{n m:Nat}{src:List UInt64}(hok:Ok d)(hl:d.down=false)(hx:On d x)(ho:d.rd<=4611686000000000000/\d.wr<=4611686000000000000)(fr:Nat)(hn:n=src.length)(hn1:1<=n)(hf:fr+n<=x.w)(hm:n<=m)(hcap:(D.ae d:Int)<=cap-aW bufs)(hR:∀ H,R H->Cells H A (af src)):
  Tr prog 185 #[V p,I fr,.slice A n m] [ah p (ba dp ap x),Dk dp d,Ar ap cap aj bufs,R] fun v M=>
   Gk p dp ap d x cap aj bufs fr src R v M:=fun H hs=>by
 subst hn;have hp:=Ok.dQ hok;have hsec:=hok.sec;have hroom:x.s*D.ae d<=1048576*512:=Nat.mul_le_mul (by have:=hx.fit;omega) (by omega);have h4:=hx.room;have hpl:=iR (D.ae d) x.f src.length fr src.length;apply aK.ok;unfold aK;refine(yI (dp:=dp) (ap:=ap) hok hx fr src.length hf).use hs [0,1] rfl rfl ?_;rintro _ _ H ⟨A4,m4,rfl,rfl⟩ hs;simp only[HV];refine aF rfl (bT (by omega) ?_);simp only[HS];have rest:∀(b rb:Nat) (H:Hp),(∀ y∈bufs,y.1≠b)->Sep [Ar ap cap (if aW bufs+D.ae d>aj then aW bufs+D.ae d else aj) (bufs++[(b,D.ae d,some (O rb))]),ah rb (.row (dX (D.ae d)) 108 (D.ae d)),ah p (ba dp ap x),Dk dp d,cj 360 3 A4 (dy (D.ae d) x.f src.length fr src.length).length m4 ((dy (D.ae d) x.f src.length fr src.length).flatMap kO),R] H->
   aK.j5 (fun v H'=>∃ M,Gk p dp ap d x cap aj bufs fr src R v M/\Sep M H') (Oo p) A src.length m A4 (dy (D.ae d) x.f src.length fr src.length).length m4 (0:Int) (Oo b) H:=fun b rb H hbm hs=>by
  unfold aK.j5;refine aF rfl ?_;simp only[HS];refine hs.ld 2 rfl rfl ?_;simp only[HV];refine hs.nw fun vb H hs=>?_
  refine⟨src.length+1,?_⟩;have hz:dX (D.ae d)=af (List.replicate (D.ae d) 0):=by
   unfold dX;rw[eR];unfold af;rw[List.map_replicate];rfl
  refine tL _ (p:=p) (dp:=dp) (ap:=ap) (x:=x) (cap:=cap) (aj:=mx aj (aW bufs+D.ae d)) (bufs:=bufs) (b:=b) (rb:=rb) (mb:=D.ae d) (vb:=vb) (R:=R) (all:=dy (D.ae d) x.f src.length fr src.length) hbm rfl (by omega) (S:=fun i=>(x.f:Int)<=i/\i<((x.f+x.s:Nat):Int)) (fun j hj=>⟨by omega,by omega⟩) (d0:=d) (R0:=iO (D.ae d) x.f src.length fr src.length) (W0:=(dy (D.ae d) x.f src.length fr src.length).length) (fun d' H hd hfu hs=>⟨_,.inr ⟨d',hd,hfu,rfl,rfl⟩,hs⟩) src.length fr 0 d A m src (List.replicate (D.ae d) 0) H 0 0 (Prog.refl _ hok hl) (Nat.zero_add _) (Nat.zero_add _) hok hx (by omega) (by omega) (Nat.le_refl _) hf hm rfl (Nat.zero_le _) hR (by simp) (fun H hpg hs=>⟨_,.inl ⟨hpg,rfl,rfl⟩,hs⟩) ?_;rw[<- hz];exact hs.re [2,3,0,1,4,5,6] rfl
 have fresh:∀{L:List As} {H:Hp} (b rb:Nat) (pk:Int),Sep L H->L[0]? =some (Ar ap cap pk (bufs++[(b,D.ae d,some (O rb))]))->∀ y∈bufs,y.1≠b:=fun b rb pk hs h0 y hy e=>by
  obtain⟨mp,cl,tk,hA⟩:=Sep.ar hs 0 h0;have:=hA.bn;rw[List.map_append,List.nodup_append]at this;exact this.2.2 y.1 (List.mem_map_of_mem hy) b (by simp) e
 refine⟨?_,?_⟩
 .refine hs.ld 0 rfl rfl ?_;simp only[HV];refine aa.use (lE hs 0 1 rfl rfl hok) ?_
  try simp only[HV]
  refine(lj (a:=ap) (cap:=cap) (aj:=aj) (bufs:=bufs) (n:=D.ae d) (by omega) hcap).use hs [3] rfl rfl ?_;rintro _ _ H ⟨b,rb,rfl,rfl⟩ hs;simp only[HV];exact rest b rb H (fresh b rb _ hs rfl) (hs.re [0,1,2,3,4,5] rfl)
 .refine aa.use (lE hs 0 1 rfl rfl hok) ?_
  try simp only[HV]
  refine hs.ld 0 rfl rfl ?_;simp only[HV];refine(lj (a:=ap) (cap:=cap) (aj:=aj) (bufs:=bufs) (n:=D.ae d) (by omega) hcap).use hs [3] rfl rfl ?_;rintro _ _ H ⟨b,rb,rfl,rfl⟩ hs;simp only[HV];exact rest b rb H (fresh b rb _ hs rfl) (hs.re [0,1,2,3,4,5] rfl)
end Str
end Go.Proofs.YtlgnlghmbcpmhaaGreatDoor
namespace Go.Crc
open Go
abbrev eu :=BitVec 32
def Hn :eu:=0x82f63b78#32
def km (v:eu):eu:=(v>>>1)^^^(if v.getLsbD 0 then Hn else 0#32)
def it (f:eu->eu):Nat->eu->eu
 |0,v=>v
 |n+1,v=>it f n (f v)
def zM (f:eu->eu):Prop:=∀ x y,f (x^^^y)=f x^^^f y
theorem zM.it {f:eu->eu}(h:zM f):∀ n,zM (it f n)
 |0=>fun _ _=>rfl
 |n+1=>fun x y=>by simp only[Crc.it];rw[h,zM.it h n]
theorem Mg (a b c d:eu):(a^^^b)^^^(c^^^d)=(a^^^c)^^^(b^^^d):=by
 rw[BitVec.xor_assoc,<-BitVec.xor_assoc b,BitVec.xor_comm b c,BitVec.xor_assoc c,<-BitVec.xor_assoc]
theorem AD :zM km:=fun x y=>by
 unfold km;rw[BitVec.ushiftRight_xor_distrib,BitVec.getLsbD_xor,Mg];congr 1;cases x.getLsbD 0<;>cases y.getLsbD 0<;>simp
theorem De {v:eu}(h:v.getLsbD 0=false):km v=v>>>1:=by unfold km;rw[h];simp
theorem Aq :∀(n:Nat) {v:eu},(∀ i,i<n->v.getLsbD i=false)->it km n v=v>>>n
 |0,v,_=>by simp[it]
 |n+1,v,h=>by
  simp only[it];rw[De (h 0 (by omega)),Aq n (fun i hi=>by rw[BitVec.getLsbD_ushiftRight];exact h _ (by omega))];rw[<- BitVec.shiftRight_add,Nat.add_comm]
theorem KX (v:eu):it km 4 v=(v>>>4)^^^it km 4 (v&&&15#32):=by
 have h1:v=(v&&& ~~~15#32)^^^(v&&&15#32):=by
  apply BitVec.eq_of_getLsbD_eq;intro i hi;simp only[BitVec.getLsbD_xor,BitVec.getLsbD_and,BitVec.getLsbD_not,hi,decide_true,Bool.true_and];cases v.getLsbD i<;>cases(15#32).getLsbD i<;>rfl
 have h2:it km 4 (v&&& ~~~15#32)=(v&&& ~~~15#32)>>>4:=Aq 4 (fun i hi=>by
  rw[BitVec.getLsbD_and];have:(~~~15#32).getLsbD i=false:=by
   rcases(by omega:i=0\/i=1\/i=2\/i=3)with rfl|rfl|rfl|rfl<;>decide
  rw[this,Bool.and_false])
 have h3:(v&&& ~~~15#32)>>>4=v>>>4:=by
  apply BitVec.eq_of_getLsbD_eq;intro i hi;simp only[BitVec.getLsbD_ushiftRight,BitVec.getLsbD_and,BitVec.getLsbD_not];by_cases h:4+i<32
  .have:(15#32).getLsbD (4+i)=false:=by
    rw[show(15#32:eu)=BitVec.ofNat 32 15 from rfl,BitVec.getLsbD_ofNat];have:Nat.testBit 15 (4+i)=false:=Nat.testBit_lt_two_pow (Nat.lt_of_lt_of_le (by decide:15<2^4) (Nat.pow_le_pow_right (by decide) (by omega)));rw[this,Bool.and_false]
   simp only[this,h,decide_true,Bool.true_and,Bool.not_false,Bool.and_true]
  .have:=BitVec.getLsbD_of_ge v (4+i) (by omega);rw[this];simp
 conv=>lhs;rw[h1]
 rw[zM.it AD 4,h2,h3]
def low (c:UInt8):eu:=c.toBitVec.setWidth 32
def byte (v:eu)(c:UInt8):eu:=it km 8 (v^^^low c)
def run (v:eu)(bs:List UInt8):eu:=bs.foldl byte v
def more (s:eu)(bs:List UInt8):eu:= ~~~ run (~~~ s) bs
def sum (bs:List UInt8):eu:=more 0#32 bs
theorem DV (v:eu)(a b:List UInt8):run v (a++b)=run (run v a) b:=List.foldl_append
theorem rh (s:eu)(a b:List UInt8):more s (a++b)=more (more s a) b:=by
 unfold more;rw[DV,BitVec.not_not]
end Go.Crc
namespace Go.Proofs.YtlgnlghmbcpmhaaGreatDoor
open Tryz (prog)
namespace W
open Go Go.Hw
theorem kH :prog.follows .mixedOrders=true:=by kernel_rfl
def ma (A1:OA)(n1 m1:Nat)(H:Hp)(K:VK):Prop:=
 lM 214 #[.slice A1 n1 m1] H fun A2 n2 m2 H1=>xO 213 #[.slice A2 n2 m2] H1 fun x1 H2=>K (Oi x1) H2
theorem ma.ok A1 n1 m1 H K (h:ma A1 n1 m1 H K):aa prog 149 #[.slice A1 n1 m1] H K:=
 bX kH Tryz.func149 rfl rfl h
def rY (A1:OA)(n1 m1:Nat)(H:Hp)(K:VK):Prop:=
 xO 270 #[Oi 0,.slice A1 n1 m1] H fun x1 H1=>K (Oi x1) H1
theorem rY.ok A1 n1 m1 H K (h:rY A1 n1 m1 H K):aa prog 213 #[.slice A1 n1 m1] H K:=
 bX kH Tryz.func213 rfl rfl h
def fe (p1 A1:OA)(n1 m1:Nat)(H:Hp)(K:VK):Prop:=
 lM 214 #[.slice A1 n1 m1] H fun A2 n2 m2 H1=>Hz 296 #[.pointer p1,.slice A2 n2 m2] H1 fun v2 H2=>K (.tuple #[]) H2
theorem fe.ok p1 A1 n1 m1 H K (h:fe p1 A1 n1 m1 H K):aa prog 236 #[.pointer p1,.slice A1 n1 m1] H K:=
 bX kH Tryz.func236 rfl rfl h
def gm (p1:OA)(H:Hp)(K:VK):Prop:=
 NN p1 fun a1=>iS H (a1.add 0) fun x1=>K (Oi x1) H
theorem gm.ok p1 H K (h:gm p1 H K):aa prog 238 #[.pointer p1] H K:=
 bX kH Tryz.func238 rfl rfl h
def dK.l4 (K:VK):Nat->Addr->Int->OA->Nat->Nat->Int->Int->Hp->Prop
 |0,_,_,_,_,_,_,_,_=>False
 |k+1,a1,x2,A2,n2,m2,x3,x4,H=>
  let R4:=dK.l4 K k
  aq (decide (x4<x3)) (cz x4 n2 (NN A2 fun a2=>Io H (a2.add (x4.toNat*1)) fun x5=>(0<=(4:Int)/\cz (cD .u32 (kU .u32 x2 (u32.wrap x5)) 15) 16 (iS H (a1.add ((cD .u32 (kU .u32 x2 (u32.wrap x5)) 15).toNat*1)) fun x6=>(0<=(4:Int)/\cz (cD .u32 (kU .u32 (cB .u32 (kU .u32 x2 (u32.wrap x5)) 4) x6) 15) 16 (iS H (a1.add ((cD .u32 (kU .u32 (cB .u32 (kU .u32 x2 (u32.wrap x5)) 4) x6) 15).toNat*1)) fun x7=>R4 a1 (kU .u32 (cB .u32 (kU .u32 (cB .u32 (kU .u32 x2 (u32.wrap x5)) 4) x6) 4) x7) A2 n2 m2 x3 (i64.wrap (x4+1)) H)))))) (K (Oi (kU .u32 u32.max x2)) H)
def dK (x1:Int)(A1:OA)(n1 m1:Nat)(H:Hp)(K:VK):Prop:=
 xN 332 #[] H fun y1 H1=>Nw H1 (Oa #[Oi 0,Oi 0,Oi 0,Oi 0,Oi 0,Oi 0,Oi 0,Oi 0,Oi 0,Oi 0,Oi 0,Oi 0,Oi 0,Oi 0,Oi 0,Oi 0] 428) fun b1 H2=>cK H2 (O b1) y1 16 fun H3=>(∃ k,dK.l4 K k (O b1) (kU .u32 u32.max x1) A1 n1 m1 (n1:Int) 0 H3)
def dK.l4.L (K:VK)(k:Nat):de:=fun E D H=>
 eN E 5 fun a1=>eI E 6 .u32 fun x2=>DG (E.get? 12) fun w12=>aE w12 fun A2 n2 m2=>eI E 13 .i64 fun x3=>eI E 14 .i64 fun x4=>ax D (dK.l4 K k a1 x2 A2 n2 m2 x3 x4 H)
def dK.Λ4 (_:VK)(_R4:Addr->Int->OA->Nat->Nat->Int->Int->Hp->Prop):aI:=aI.none (fun _=>none)
def dK.Λ (K:VK):aI:=⟨fun i=>none,fun i=>match Nat.beq i 4 with|true=>some (fun E D H=>∃ k,dK.l4.L K k E D H)|false=>none,(fun _=>none)⟩
theorem dK.ok x1 A1 n1 m1 H K (h:dK x1 A1 n1 m1 H K):aa prog 270 #[Oi x1,.slice A1 n1 m1] H K:=
 dV (Λ:=(dK.Λ K)) kH Tryz.func270 rfl rfl h (oC (fun E D H h=>by
   refine Safe.cJ (dK.l4.L K) (fun E D H h=>?_) (fun k E D H h=>?_) E D H h
   .obtain⟨w5,e5,g1⟩:=DG.out h;obtain⟨pw5,rfl,g2⟩:=DP.out g1;obtain⟨a1,rfl,g3⟩:=NN.out g2;obtain⟨w6,e6,g4⟩:=DG.out g3;obtain⟨x2,rfl,g5⟩:=DI.out g4;obtain⟨w12,e12,g6⟩:=DG.out g5;obtain⟨A2,n2,m2,rfl,g7⟩:=aE.out g6;obtain⟨w13,e13,g8⟩:=DG.out g7;obtain⟨x3,rfl,g9⟩:=DI.out g8;obtain⟨w14,e14,g10⟩:=DG.out g9;obtain⟨x4,rfl,g11⟩:=DI.out g10;obtain⟨rfl,h'⟩:=ax.out g11;exact h'
   .obtain⟨a1,e5,g3⟩:=GN h;obtain⟨x2,e6,g5⟩:=GI g3;obtain⟨w12,e12,g6⟩:=DG.out g5;obtain⟨A2,n2,m2,rfl,g7⟩:=aE.out g6;obtain⟨x3,e13,g9⟩:=GI g7;obtain⟨x4,e14,g11⟩:=GI g9;obtain⟨rfl,h'⟩:=ax.out g11;exact cU (Λ:=(dK.Λ4 K (dK.l4 K k))) kH [] (ag.cons e5 (ag.cons e6 (ag.cons e12 (ag.cons e13 (ag.cons e14 (ag.nil _)))))) h' oN) oN)
def gk (p1 A1:OA)(n1 m1:Nat)(H:Hp)(K:VK):Prop:=
 NN p1 fun a1=>iS H (a1.add 0) fun x1=>xO 270 #[Oi x1,.slice A1 n1 m1] H fun x2 H1=>NN p1 fun a2=>St H1 ((a2.add 0).add 0) (Oi x2) fun H2=>NN p1 fun a3=>aM H2 (a3.add 1) fun x3=>NN p1 fun a4=>St H2 ((a4.add 1).add 0) (I (i64.wrap (x3+(n1:Int)))) fun H3=>K (.tuple #[]) H3
theorem gk.ok p1 A1 n1 m1 H K (h:gk p1 A1 n1 m1 H K):aa prog 296 #[.pointer p1,.slice A1 n1 m1] H K:=
 bX kH Tryz.func296 rfl rfl h
def bz.l6 (K:VK)(R2:Addr->Int->Hp->Prop):Nat->Addr->Int->Int->Int->Int->Hp->Prop
 |0,_,_,_,_,_,_=>False
 |k+1,a2,x2,x3,x4,x5,H=>
  let R6:=bz.l6 K R2 k
  aq (decide (x5<4)) ((0<=(1:Int)/\R6 a2 x2 (kU .u32 (cB .u32 x3 1) (u32.wrap (2197175160*(cD .u32 x3 1)))) x4 (i64.wrap (x5+1)) H)) (cz x2 16 (St H ((a2.add (x2.toNat*1)).add 0) (Oi x3) fun H2=>R2 a2 (i64.wrap (x4+1)) H2))
def bz.l2 (K:VK):Nat->Addr->Int->Hp->Prop
 |0,_,_,_=>False
 |k+1,a1,x1,H=>
  let R2:=bz.l2 K k
  aq (decide (x1<16)) ((∃ k,bz.l6 K R2 k a1 x1 (u32.wrap x1) x1 0 H)) (aY H a1 16 fun l1=>cK H a1 l1.toArray 16 fun H3=>aY H3 a1 16 fun l2=>K (.agg l2.toArray) H3)
def bz (H:Hp)(K:VK):Prop:=
 Nw H (Oa #[Oi 0,Oi 0,Oi 0,Oi 0,Oi 0,Oi 0,Oi 0,Oi 0,Oi 0,Oi 0,Oi 0,Oi 0,Oi 0,Oi 0,Oi 0,Oi 0] 428) fun b1 H1=>(∃ k,bz.l2 K k (O b1) 0 H1)
def bz.l2.L (K:VK)(k:Nat):de:=fun E D H=>
 eN E 0 fun a1=>eI E 3 .i64 fun x1=>ax D (bz.l2 K k a1 x1 H)
def bz.l6.L (K:VK)(R2:Addr->Int->Hp->Prop)(k:Nat):de:=fun E D H=>
 eN E 0 fun a2=>eI E 1 .i64 fun x2=>eI E 2 .u32 fun x3=>eI E 3 .i64 fun x4=>eI E 8 .i64 fun x5=>ax D (bz.l6 K R2 k a2 x2 x3 x4 x5 H)
def bz.Λ6 (_:VK)(_R2:Addr->Int->Hp->Prop)(_R6:Addr->Int->Int->Int->Int->Hp->Prop):aI:=aI.none (fun _=>none)
def bz.Λ2 (K:VK)(R2:Addr→Int→Hp→Prop):aI:=⟨fun i=>none,fun i=>match Nat.beq i 6 with|true=>some (fun E D H=>∃ k,bz.l6.L K R2 k E D H)|false=>none,(fun _=>none)⟩
def bz.Λ (K:VK):aI:=⟨fun i=>none,fun i=>match Nat.beq i 2 with|true=>some (fun E D H=>∃ k,bz.l2.L K k E D H)|false=>none,(fun _=>none)⟩
theorem bz.ok H K (h:bz H K):aa prog 332 #[] H K:=
 dV (Λ:=(bz.Λ K)) kH Tryz.func332 rfl rfl h (oC (fun E D H h=>by
   refine Safe.cJ (bz.l2.L K) (fun E D H h=>?_) (fun k E D H h=>?_) E D H h
   .obtain⟨w0,e0,g1⟩:=DG.out h;obtain⟨pw0,rfl,g2⟩:=DP.out g1;obtain⟨a1,rfl,g3⟩:=NN.out g2;obtain⟨w3,e3,g4⟩:=DG.out g3;obtain⟨x1,rfl,g5⟩:=DI.out g4;obtain⟨rfl,h'⟩:=ax.out g5;exact h'
   .obtain⟨a1,e0,g3⟩:=GN h;obtain⟨x1,e3,g5⟩:=GI g3;obtain⟨rfl,h'⟩:=ax.out g5;exact cU (Λ:=(bz.Λ2 K (bz.l2 K k))) kH [] (ag.cons e0 (ag.cons e3 (ag.nil _))) h' (oC (fun E D H h=>by
      refine Safe.cJ (bz.l6.L K (bz.l2 K k)) (fun E D H h=>?_) (fun k E D H h=>?_) E D H h
      .obtain⟨w0,e0,g1⟩:=DG.out h;obtain⟨pw0,rfl,g2⟩:=DP.out g1;obtain⟨a2,rfl,g3⟩:=NN.out g2;obtain⟨w1,e1,g4⟩:=DG.out g3;obtain⟨x2,rfl,g5⟩:=DI.out g4;obtain⟨w2,e2,g6⟩:=DG.out g5;obtain⟨x3,rfl,g7⟩:=DI.out g6;obtain⟨w3,e3,g8⟩:=DG.out g7;obtain⟨x4,rfl,g9⟩:=DI.out g8;obtain⟨w8,e8,g10⟩:=DG.out g9;obtain⟨x5,rfl,g11⟩:=DI.out g10;obtain⟨rfl,h'⟩:=ax.out g11;exact h'
      .obtain⟨a2,e0,g3⟩:=GN h;obtain⟨x2,e1,g5⟩:=GI g3;obtain⟨x3,e2,g7⟩:=GI g5;obtain⟨x4,e3,g9⟩:=GI g7;obtain⟨x5,e8,g11⟩:=GI g9;obtain⟨rfl,h'⟩:=ax.out g11;exact cU (Λ:=(bz.Λ6 K (bz.l2 K k) (bz.l6 K (bz.l2 K k) k))) kH [] (ag.cons e0 (ag.cons e1 (ag.cons e2 (ag.cons e3 (ag.cons e8 (ag.nil _)))))) h' oN) oN)) oN)
end W
namespace CrcP
open Go Go.Hw Go.Crc W
theorem GX (v:eu):kU .u32 (cB .u32 (v.toNat:Int) 1) (u32.wrap ((2197175160:Int)*cD .u32 (v.toNat:Int) 1))=((km v).toNat:Int):=by
 rw[oW v (i:=1) (n:=1) rfl (by omega),show(1:Int)=((1#32:eu).toNat:Int)from rfl,Ix];have:u32.wrap ((2197175160:Int)*((v&&&1#32).toNat:Int))=((if v.getLsbD 0 then Hn else 0#32).toNat:Int):=by
  have h1:v&&&1#32=if v.getLsbD 0 then 1#32 else 0#32:=by
   apply BitVec.eq_of_getLsbD_eq;intro i hi;rw[BitVec.getLsbD_and];cases i with
   |zero=>cases h:v.getLsbD 0<;>simp
   |succ i=>cases h:v.getLsbD 0<;>simp
  rw[h1];cases v.getLsbD 0<;>decide
 rw[this,sD];rfl
def wM (i:Nat):Value:=Oi ((it km 4 (BitVec.ofNat 32 i)).toNat:Int)
theorem yA (K:VK)(R2:Addr->Int->Hp->Prop)(b:Nat)(c:Array Value)(e:TypeId)(hc:c.size=16)(H:Hp)(hb:H b=some (Oa c e))(x2:Nat)(hx:x2<16)(x4:Int)(w:eu)
  (k:R2 (O b) (i64.wrap (x4+1)) (H.set b (Oa (c.setIfInBounds x2 (Oi (w.toNat:Int))) e))):
  ∀(d j:Nat) (v:eu),j+d=4->it km d v=w->bz.l6 K R2 (d+1) (O b) x2 (v.toNat:Int) x4 j H
 |0,j,v,hj,hv=>by
  unfold bz.l6;refine au (by omega) ?_;refine⟨by omega,by omega,?_⟩;simp only[Addr.aP,Int.toNat_natCast,Nat.mul_one,Nat.zero_add,Nat.add_zero];refine pY hb (by omega) rfl ?_;obtain rfl:v=w:=hv;exact k
 |d+1,j,v,hj,hv=>by
  unfold bz.l6;refine aA (by omega) ?_;refine⟨by omega,?_⟩;rw[GX,bg];exact yA K R2 b c e hc H hb x2 hx x4 w k d (j+1) (km v) (by omega) hv
theorem yB (K:VK)(b:Nat)(e:TypeId)(H0:Hp)(hn:H0 b=none)
  (k:∀ H,H0.le H->K (.agg ((List.range 16).map wM).toArray) H):∀(d i:Nat) (H:Hp),i+d=16->H=H0.set b (Oa (filled wM (Oi 0) 16 i) e)->bz.l2 K (d+1) (O b) (i:Int) H
 |0,i,H,hi,hH=>by
  obtain rfl:i=16:=by omega
  unfold bz.l2;refine au (by omega) ?_;have hb:H b=some (Oa (filled wM (Oi 0) 16 16) e):=by rw[hH];exact Hp.bB _ _ _
  refine mN hb (lW _ _ _ _) ?_;refine xa hb (lW _ _ _ _) (by simp[lW]) ?_ ?_
  .rw[vT];intro v hv;simp at hv;obtain⟨a,_,rfl⟩:=hv;rfl
  refine mN (Hp.bB _ _ _) (by simp[lW]) ?_;rw[Array.toArray_toList,vT];refine k _ ?_;rw[hH,Hp.set_set];exact Hp.jV hn
 |d+1,i,H,hi,hH=>by
  unfold bz.l2;refine aA (by omega) ?_;refine⟨5,?_⟩;have hb:H b=some (Oa (filled wM (Oi 0) 16 i) e):=by rw[hH];exact Hp.bB _ _ _
  rw[show u32.wrap (i:Int)=((BitVec.ofNat 32 i).toNat:Int) by rw[BitVec.toNat_ofNat,Nat.mod_eq_of_lt (by omega)];exact Bw];refine yA K _ b _ e (lW _ _ _ _) H hb i (by omega) i _ ?_ 4 0 _ rfl rfl;rw[bg];refine yB K b e H0 hn k d (i+1) _ (by omega) ?_;rw[hH,Hp.set_set];congr 3;exact Dl wM (Oi 0) (by omega)
theorem Du (H:Hp):aa prog 332 #[] H (RetE (.agg ((List.range 16).map wM).toArray) H):=by
 apply aa.ret;apply bz.ok;unfold bz;intro b hb;refine⟨17,?_⟩;exact yB _ b _ H hb (fun H' hl=>⟨rfl,hl⟩) 16 0 _ rfl rfl
theorem AM (v:eu):(v>>>4)^^^it km 4 (v&&&15#32)=it km 4 v:=(KX v).symm
theorem Iw (v:eu):cD .u32 (v.toNat:Int) 15=((v&&&15#32).toNat:Int):=Ix v 15#32
theorem uW (v:eu):(v&&&15#32).toNat<16:=by
 rw[BitVec.toNat_and];exact Nat.lt_of_le_of_lt Nat.and_le_right (by decide)
theorem CO (v:eu):(((List.range 16).map wM).toArray)[(v&&&15#32).toNat]? =some (Oi ((it km 4 (v&&&15#32)).toNat:Int)):=by
 have h:=uW v;simp only[List.getElem?_toArray,List.getElem?_map,List.getElem?_range h,Option.map_some];unfold wM;rw[BitVec.ofNat_toNat,BitVec.setWidth_eq]
theorem xP (K:VK)(t:Nat)(e:TypeId)(A:OA)(n m:Nat)(bs:List UInt8)(hn:n=bs.length)(hm:n<=9223372036854775807)(H:Hp)(ht:H t=some (Oa ((List.range 16).map wM).toArray e))(hb:Cells H A (aC bs))(w:eu)
  (k:K (Oi ((~~~ w).toNat:Int)) H):∀(d j:Nat) (v:eu),j+d=n->run v (bs.drop j)=w->dK.l4 K (d+1) (O t) (v.toNat:Int) A n m n (j:Int) H
 |0,j,v,hj,hv=>by
  unfold dK.l4;refine au (by omega) ?_;rw[List.drop_eq_nil_of_le (by omega)]at hv;obtain rfl:v=w:=hv;rw[show u32.max=((BitVec.allOnes 32).toNat:Int)from rfl,sD,BitVec.allOnes_xor];exact k
 |d+1,j,v,hj,hv=>by
  unfold dK.l4;refine aA (by omega) ?_;have hlt:j<bs.length:=by omega
  refine hb.read (i:=j) (v:=.int .u8 (bs[j].toNat:Int)) (by rw[qd,List.getElem?_eq_getElem hlt];rfl) rfl (by rw[bk];omega) ?_;simp only[HV];refine⟨by omega,?_⟩;rw[show(bs[j].toNat:Int)=((bs[j].toBitVec).toNat:Int)from rfl,L6,sD,Iw];refine⟨by omega,by have:=uW (v^^^BitVec.setWidth 32 bs[j].toBitVec);omega,?_⟩;simp only[Addr.aP,Int.toNat_natCast,Nat.mul_one,Nat.zero_add];refine ez ht (CO _) ?_;simp only[HV];refine⟨by omega,?_⟩;rw[oW _ (i:=4) (n:=4) rfl (by omega),sD,AM,Iw];refine⟨by omega,by have:=uW (it km 4 (v^^^BitVec.setWidth 32 bs[j].toBitVec));omega,?_⟩;simp only[Addr.aP,Int.toNat_natCast,Nat.mul_one,Nat.zero_add];refine ez ht (CO _) ?_;simp only[HV];rw[oW _ (i:=4) (n:=4) rfl (by omega),sD,AM,bg];refine xP K t e A n m bs hn hm H ht hb w k d (j+1) _ (by omega) ?_;rw[List.drop_eq_getElem_cons hlt]at hv;exact hv
theorem wX (s:eu)(A:OA)(n m:Nat)(bs:List UInt8)(hn:n=bs.length)(hm:n<=9223372036854775807)(H:Hp)(hb:Cells H A (aC bs)):
  aa prog 270 #[Oi (s.toNat:Int),.slice A n m] H (RetE (Oi ((more s bs).toNat:Int)) H):=by
 apply aa.ret;apply dK.ok;unfold dK;refine aa.use (Du H) ?_
 try simp only[HV]
 intro b hbn;refine xa (Hp.bB _ _ _) rfl (by simp) ?_ ?_
 .intro v hv;simp at hv;obtain⟨a,_,rfl⟩:=hv;rfl
 rw[Hp.set_set];refine⟨n+1,?_⟩;rw[show u32.max=((BitVec.allOnes 32).toNat:Int)from rfl,sD,BitVec.allOnes_xor];refine xP _ b _ A n m bs hn hm _ (Hp.bB _ _ _) (hb.le (Hp.jV hbn)) (run (~~~ s) bs) ?_ n 0 _ (by omega) rfl;exact⟨rfl,Hp.jV hbn⟩
theorem ie (A:OA)(n m:Nat)(bs:List UInt8)(hn:n=bs.length)(hm:n<=9223372036854775807)(H:Hp)(hb:Cells H A (aC bs)):
  aa prog 213 #[.slice A n m] H (RetE (Oi ((sum bs).toNat:Int)) H):=by
 apply rY.ok;unfold rY;refine aa.use (wX 0#32 A n m bs hn hm H hb) ?_
 try simp only[HV]
 exact RetE.mk _ _
end CrcP
namespace CrcP
open Go Go.Hw Go.Crc Go.Form W
theorem rV (A:OA)(n m:Nat)(l:List UInt64)(hn:n=l.length)(hm:n<=10000000000)(H:Hp)(hl:Cells H A (af l)):
  aa prog 149 #[.slice A n m] H (RetE (Oi ((sum (form l)).toNat:Int)) H):=by
 apply aa.ret;apply ma.ok;unfold ma;refine(FormP.oY A n m l hn (by omega) H hl).mono ?_;rintro v H' ⟨b,hb,rfl,rfl⟩;simp only[HV];have hf:(form l).length=8*n:=by rw[dI,hn]
 refine aa.use (ie (Oo b) (8*n) (8*n) (form l) hf.symm (by omega) _ (by have:=Cells.row (Hp.bB H b (.row (aC (form l)) 5 (8*n))) 0 (8*n);rwa [List.drop_zero,List.take_of_length_le (by rw[bk,hf];omega)]at this)) ?_
 try simp only[HV]
 exact⟨rfl,Hp.jV hb⟩
def KE (i:Nat):eu:=if i=0 then Hn else 1#32<<<(i-1)
def LU (m:Nat->eu)(f:eu->eu):Prop:=zM f/\∀ i,i<32->m i=f (1#32<<<i)
theorem LU.bit :LU KE km:=⟨AD,by
 have:(List.range 32).all (fun i=>KE i==km (1#32<<<i))=true:=by decide +kernel
 intro i hi;have:=List.all_eq_true.1 this i (by simpa using hi);simpa using this⟩
def counter (s:eu)(n:Nat):AO:=Oa #[Oi (s.toNat:Int),I (n:Int)] 329
theorem pV (c:Nat)(s:eu)(k:Nat)(A:OA)(n m:Nat)(bs:List UInt8)(hn:n=bs.length)(H:Hp)(hc:H c=some (counter s k))(hb:Cells H A (aC bs))(hk:k+n<=9223372036854775807):
  aa prog 296 #[V c,.slice A n m] H (RetE (.tuple #[]) (H.set c (counter (more s bs) (k+n)))):=by
 apply gk.ok;unfold gk;simp only[dz,Addr.aP,Nat.add_zero,Nat.zero_add];refine ez hc (v:=Oi (s.toNat:Int)) rfl ?_;simp only[HV];refine aa.use (wX s A n m bs hn (by omega) H hb) ?_
 try simp only[HV]
 refine pY hc (by simp) rfl ?_;refine ez (Hp.bB _ _ _) (v:=I (k:Int)) rfl ?_;simp only[HV];refine pY (Hp.bB _ _ _) (by simp) rfl ?_;rw[Hp.set_set,show((k:Int)+(n:Int))=((k+n:Nat):Int) by omega,dS hk];exact RetE.mk _ _
theorem BF (c:Nat)(s:eu)(k:Nat)(A:OA)(n m:Nat)(l:List UInt64)(hn:n=l.length)(H:Hp)(hc:H c=some (counter s k))(hl:Cells H A (af l))(hn2:n<=10000000000)(hk:k<=1000000000000):
  aa prog 236 #[V c,.slice A n m] H (RetE (.tuple #[]) (H.set c (counter (more s (form l)) (k+8*n)))):=by
 apply aa.ret;apply fe.ok;unfold fe;refine(FormP.oY A n m l hn (by omega) H hl).mono ?_;rintro v H' ⟨b,hb,rfl,rfl⟩;simp only[HV];have hf:(form l).length=8*n:=by rw[dI,hn]
 have hle:=Hp.jV (o:=.row (aC (form l)) 5 (8*n)) hb;refine aa.use (pV c s k (Oo b) (8*n) (8*n) (form l) hf.symm _ (hle _ _ hc) (by have:=Cells.row (Hp.bB H b (.row (aC (form l)) 5 (8*n))) 0 (8*n);rwa [List.drop_zero,List.take_of_length_le (by rw[bk,hf];omega)]at this) (by omega)) ?_
 try simp only[HV]
 exact⟨rfl,Hp.nN hle _ _⟩
theorem I3 (c:Nat)(s:eu)(k:Nat)(H:Hp)(hc:H c=some (counter s k)):aa prog 238 #[V c] H (RetE (Oi (s.toNat:Int)) H):=by
 apply gm.ok;unfold gm;simp only[dz,Addr.aP,Nat.add_zero,Nat.zero_add];refine ez hc (v:=Oi (s.toNat:Int)) rfl ?_;simp only[HV];exact RetE.mk _ _
section
variable (A1 A2 : Option Addr) (n1 m1 n2 m2 : Nat) (ps : List (OA × Nat × Nat × List UInt8)) (ws : List (OA × Nat × Nat × List UInt64)) (H0 : Hp) (c : Nat)
end
def r8 (s:eu)(k:Nat)(r:List Value):Array Value:=(Value.int .u32 (s.toNat:Int)::Value.int .i64 (k:Int)::r).toArray
section
variable {L : List As} {H : Hp}
theorem Kf (h:Sep L H)(i:Nat){c:Nat}{s:eu}{k:Nat}{r:List Value}{t:TypeId}(hi:L[i]? =some (ah c (Oa (r8 s k r) t)))(A:OA)(n m:Nat)(bs:List UInt8)(hn:n=bs.length)(hb:∀ H',H.le H'->Cells H' A (aC bs))(hk:k+n<=9223372036854775807){K:VK}
  (kk:∀ H',Sep (L.set i (ah c (Oa (r8 (more s bs) (k+n) r) t))) H'->K (.tuple #[]) H'):aa prog 296 #[V c,.slice A n m] H K:=by
 apply gk.ok;unfold gk;simp only[dz];refine h.cg i hi rfl ?_;simp only[HV];refine aa.use (wX s A n m bs hn (by omega) H (hb H (Hp.le_refl _))) ?_
 try simp only[HV]
 refine h.IR i hi (by show 0<(_::_::r:List Value).toArray.size;simp) rfl fun H1 hs1=>?_
 have hi1:(L.set i (ah c (Oa ((r8 s k r).setIfInBounds 0 (Oi ((more s bs).toNat:Int))) t)))[i]? =some (ah c (Oa (r8 (more s bs) k r) t)):=by
  rw[List.getElem?_set];simp only[(List.getElem?_eq_some_iff.1 hi).1,if_true];rfl
 refine hs1.cg i hi1 rfl ?_;simp only[HV];refine hs1.IR i hi1 (by show 1<(_::_::r:List Value).toArray.size;simp) rfl fun H2 hs2=>?_
 rw[show((k:Int)+(n:Int))=((k+n:Nat):Int) by omega,dS hk,List.set_set]at hs2;exact kk H2 hs2
theorem uq (h:Sep L H)(i:Nat){c:Nat}{s:eu}{k:Nat}{r:List Value}{t:TypeId}(hi:L[i]? =some (ah c (Oa (r8 s k r) t)))(A:OA)(n m:Nat)(l:List UInt64)(hn:n=l.length)(hl:Cells H A (af l))(hn2:n<=10000000000)(hk:k<=1000000000000){K:VK}
  (kk:∀ H',Sep (L.set i (ah c (Oa (r8 (more s (form l)) (k+8*n) r) t))) H'->K (.tuple #[]) H'):aa prog 236 #[V c,.slice A n m] H K:=by
 apply fe.ok;unfold fe;refine(FormP.oY A n m l hn (by omega) H hl).mono ?_;rintro v H' ⟨b,hb,rfl,rfl⟩;simp only[HV];have hf:(form l).length=8*n:=by rw[dI,hn]
 have hs:=h.new hb (.row (aC (form l)) 5 (8*n));have hlt:=(List.getElem?_eq_some_iff.1 hi).1;refine Kf hs i (by rw[List.getElem?_append_left hlt];exact hi) (Oo b) (8*n) (8*n) (form l) hf.symm (fun H' hle=>?_) (by omega) fun H' hs'=>?_
 .have:=Cells.row (hle _ _ (Hp.bB H b (.row (aC (form l)) 5 (8*n)))) 0 (8*n)
  rwa [List.drop_zero,List.take_of_length_le (by rw[bk,hf];omega)]at this
 .rw[List.set_append_left _ _ hlt]at hs';exact kk H' (Sep.take hs')
theorem BX (h:Sep L H)(i:Nat){c:Nat}{s:eu}{k:Nat}{r:List Value}{t:TypeId}(hi:L[i]? =some (ah c (Oa (r8 s k r) t))):aa prog 238 #[V c] H (RetE (Oi (s.toNat:Int)) H):=by
 apply gm.ok;unfold gm;simp only[dz];refine h.cg i hi rfl ?_;simp only[HV];exact RetE.mk _ _
end
end CrcP
namespace Trn
open Go Go.Hw Go.Crc Go.Form W Shp Str Dsk Are
theorem Ju {r a i a' i':Nat}(hi:i<r)(hi':i'<r)(h:a*r+i=a'*r+i'):a=a'/\i=i':=by
 have h1:(a*r+i)/r=a:=by rw[Nat.add_comm,Nat.add_mul_div_right _ _ (by omega),Nat.div_eq_of_lt hi,Nat.zero_add]
 have h2:(a'*r+i')/r=a':=by rw[Nat.add_comm,Nat.add_mul_div_right _ _ (by omega),Nat.div_eq_of_lt hi',Nat.zero_add]
 have:a=a':=by rw[<- h1,<-h2,h]
 subst this;exact⟨rfl,by omega⟩
def Hx (p q r c bn:Nat):List Value:=[V p,V q,I (r:Int),I (c:Int),V bn]
def fS (s:eu)(k p q r c bn:Nat):AO:=Oa (CrcP.r8 s k (Hx p q r c bn)) 409
structure sN (F:Nat->Nat->UInt64)(rows b i k:Nat)(ws:List UInt64):Prop where
 len:ws.length=b*rows
 KP:∀ k' i',k'<b->i'<rows->(i'<i\/(i'=i/\k'<k))->ws[k'*rows+i']? =some (F i' k')
theorem Fv {k b rows i:Nat}(hk:k<b)(hi:i<rows):k*rows+i<b*rows:=by
 have:(k+1)*rows<=b*rows:=Nat.mul_le_mul_right rows hk;rw[Nat.succ_mul]at this;omega
theorem sN.step {F:Nat->Nat->UInt64}{rows b i k:Nat}{ws:List UInt64}(h:sN F rows b i k ws)(hk:k<b)(hi:i<rows):sN F rows b i (k+1) (ws.set (k*rows+i) (F i k)):=by
 have hlt:=Fv hk hi;refine⟨by rw[List.length_set];exact h.len,fun k' i' hk' hi' hc=>?_⟩;rw[List.getElem?_set];by_cases e:k*rows+i=k'*rows+i'
 .obtain⟨rfl,rfl⟩:=Ju hi hi' e;rw[if_pos rfl,if_pos (by rw[h.len];exact hlt)]
 .rw[if_neg e];refine h.KP k' i' hk' hi' ?_;rcases hc with hc|⟨rfl,hc⟩
  .exact .inl hc
  .refine .inr ⟨rfl,?_⟩;by_cases e2:k'=k
   .subst e2;exact absurd rfl e
   .omega
theorem sN.next {F:Nat->Nat->UInt64}{rows b i:Nat}{ws:List UInt64}(h:sN F rows b i b ws):sN F rows b (i+1) 0 ws:=⟨h.len,fun k' i' hk' hi' hc=>h.KP k' i' hk' hi' (by omega)⟩
theorem sN.all {F:Nat->Nat->UInt64}{rows b:Nat}{ws:List UInt64}(hr:0<rows)(h:sN F rows b rows 0 ws):ws=(List.range (b*rows)).map fun j=>F (j%rows) (j/rows):=by
 apply List.ext_getElem?;intro j;by_cases hj:j<b*rows
 .have hd:j/rows<b:=by rw[Nat.div_lt_iff_lt_mul hr];exact hj
  have hm:=Nat.mod_lt j hr;have:=h.KP (j/rows) (j%rows) hd hm (.inl hm);rw[Nat.mul_comm,Nat.div_add_mod]at this;rw[this,List.getElem?_map,List.getElem?_range hj];rfl
 .rw[List.getElem?_eq_none (by rw[h.len];omega),List.getElem?_eq_none (by simp;omega)]
theorem BB (ws:List UInt64)(i:Nat)(w:UInt64):(af ws).set i (U (w.toNat:Int))=af (ws.set i w):=by
 unfold af;rw[List.map_set]
section
variable {rn p q dp ap bn bb rl : Nat} {s : eu} {sk : Nat} {x : X} {ea eb j : Nat} {cap aj : Int} {bufs : List (Nat × Nat × Option Addr)} {mb mr : Nat}
theorem E4 (K:VK)(R4:OA->Int->OA->Nat->Nat->OA->Nat->Nat->Int->Int->Hp->Prop)(F:Nat->Nat->UInt64){rows cols b i:Nat}(hr:rows*b<=4294967296)(hb1:1<=b)(hi:i<rows)(c:Int)(row:List UInt64)(hrow:row.length=b)(hF:∀ k,k<b->row[k]? =some (F i k)){L:List As}
  (hK:∀ ws H,sN F rows b (i+1) 0 ws->Sep (ah rn (fS s sk p q rows cols bn)::ah bb (.row (af ws) 108 mb)::ah rl (.row (af row) 108 mr)::L) H->R4 (Oo rn) c (Oo bb) (b*rows) (b*rows) (Oo rl) b b (rows:Int) ((i+1:Nat):Int) H):
  ∀(t k:Nat) (ws:List UInt64) (H:Hp),k+t=b->sN F rows b i k ws->Sep (ah rn (fS s sk p q rows cols bn)::ah bb (.row (af ws) 108 mb)::ah rl (.row (af row) 108 mr)::L) H->
   aS.l10 K R4 (t+1) (Oo rn) c (Oo bb) (b*rows) (b*rows) (Oo rl) b b (i:Int) (rows:Int) (i:Int) (Oo rl) b b (b:Int) (k:Int) H:=fun t=>by
 induction t with
 |zero=>
  intro k ws H hk hf hs;have hkb:k=b:=by omega
  subst hkb;unfold aS.l10;refine au (by omega) ?_;have hr1:rows*1<=rows*k:=Nat.mul_le_mul_left rows (by omega);rw[show((i:Int)+1)=((i+1:Nat):Int) by omega,dS];exact hK ws H hf.next hs
 |succ t ih=>
  intro k ws H hk hf hs;have hkb:k<b:=by omega
  have hlt:=Fv hkb hi;have hcm:=Nat.mul_comm b rows;unfold aS.l10;refine aA (by omega) ?_;have hg:(af row)[k]? =some (U ((F i k).toNat:Int)):=by rw[ct,hF k hkb];rfl
  refine⟨by omega,by omega,?_⟩;show Ld H _ _
  rw[Int.toNat_natCast,Nat.mul_one,Addr.aP,Nat.zero_add];refine hs.ph 2 rfl hg ?_;simp only[HV];refine hs.jU 0 rfl rfl ?_;simp only[HV];have e:i64.wrap (i64.wrap ((k:Int)*(rows:Int))+(i:Int))=((k*rows+i:Nat):Int):=by
   rw[<- Int.natCast_mul,dS,show(((k*rows:Nat):Int)+(i:Int))=((k*rows+i:Nat):Int) by omega,dS]
  rw[e];refine⟨by omega,by omega,?_⟩;show St H _ _ _
  rw[Int.toNat_natCast,Nat.mul_one,Addr.aP,Addr.aP,Nat.zero_add,Nat.add_zero];refine hs.str 1 (b:=bb) (xs:=af ws) (e:=108) (m:=mb) rfl (by rw[aB,hf.len];exact hlt) rfl fun H hs=>?_;rw[BB]at hs;rw[bg (x:=(k:Int)+1) (by omega) (by have:b*1<=b*rows:=Nat.mul_le_mul_left b (by omega);omega)];exact ih (k+1) _ H (by omega) (hf.step hkb hi) hs
def gR (ae f cols c b i:Nat):Nat:=((List.range i).map fun i'=>(dy ae f b (i'*cols+c) b).length).sum
theorem rB (ae f cols c b i:Nat):gR ae f cols c b (i+1)=gR ae f cols c b i+(dy ae f b (i*cols+c) b).length:=by
 unfold gR;rw[List.range_succ,List.map_append,List.sum_append];simp
theorem Jq (ae f cols c b:Nat):∀{i j:Nat},i<=j->gR ae f cols c b i<=gR ae f cols c b j:=fun{i j} h=>by
 induction h with
 |refl=>exact Nat.le_refl _
 |step h ih=>rw[rB];omega
theorem zl (ae f cols c b:Nat):∀ i,gR ae f cols c b i<=i*b
 |0=>by simp[gR]
 |i+1=>by
  rw[rB,Nat.succ_mul];have:=zl ae f cols c b i;have:=iR ae f b (i*cols+c) b;omega
theorem JN (d:D)(a b:Nat):D.bE (D.bE d a) b=D.bE d (a+b):=by
 unfold D.bE;simp only[D.mk.injEq,true_and,and_true];omega
theorem wk (a b:Int):mx (mx a b) b=mx a b:=by
 unfold mx;by_cases h:b>a
 .rw[if_pos h,if_neg (by omega)]
 .rw[if_neg h,if_neg h]
theorem ub {d:D}{x:X}{fr n k:Nat}(h:k<n):(dE d x fr n)[k]? =some (pw d x (fr+k)):=by
 unfold dE;rw[List.getElem?_map,List.getElem?_range h];rfl
def Cd (rn p q dp ap bn bb:Nat)(s:eu)(sk:Nat)(d:D)(x:X)(rows cols b c:Nat)(cap aj:Int)(bufs:List (Nat×Nat×OA))(mb:Nat)(v:Value)(M:List As):Prop:=
 ((d.aH=0\/gR (D.ae d) x.f cols c b rows<d.aH)/\v= I 0/\
  M=[ah rn (fS s sk p q rows cols bn),ah bb (.row (af ((List.range (b*rows)).map fun j=>pw d x (j%rows*cols+c+j/rows))) 108 mb),ah p (ba dp ap x),Dk dp (D.bE d (gR (D.ae d) x.f cols c b rows)),Ar ap cap (mx aj (aW bufs+D.ae d)) bufs])\/
 (∃ d',gv (fun _=>False) d d'/\d.aH<=gR (D.ae d) x.f cols c b rows/\v= I 8/\M=[ah rn (fS s sk p q rows cols bn),ah p (ba dp ap x),Dk dp d',Ar ap cap (mx aj (aW bufs+D.ae d)) bufs])
theorem BN (K:VK){d:D}{rows cols b c:Nat}(hok:Ok d)(hl:d.down=false)(hx:On d x)(ho:d.rd<=4000000000000000000)(hw:x.w=rows*cols)(hb1:1<=b)(hcb:c+b<=cols)(hsz:rows*cols<=4294967296)(hr1:1<=rows)(hcap:(D.ae d:Int)<=cap-aW bufs)
  (hK:∀ v M H,Cd rn p q dp ap bn bb s sk d x rows cols b c cap aj bufs mb v M->Sep M H->K v H):
  ∀(t i:Nat) (ws row:List UInt64) (pk:Int) (H:Hp),i+t=rows->(d.aH=0\/gR (D.ae d) x.f cols c b i<d.aH)->sN (fun i k=>pw d x (i*cols+c+k)) rows b i 0 ws->row.length=b->mx pk (aW bufs+D.ae d)=mx aj (aW bufs+D.ae d)->(i=0\/pk=mx aj (aW bufs+D.ae d))->
   Sep [ah rn (fS s sk p q rows cols bn),ah bb (.row (af ws) 108 mb),ah rl (.row (af row) 108 mr),ah p (ba dp ap x),Dk dp (D.bE d (gR (D.ae d) x.f cols c b i)),Ar ap cap pk bufs] H->
   aS.l4 K (t+1) (Oo rn) (c:Int) (Oo bb) (b*rows) (b*rows) (Oo rl) b b (rows:Int) (i:Int) H:=fun t=>by
 have hrb:rows*b<=4294967296:=Nat.le_trans (Nat.mul_le_mul_left rows (show b<=cols by omega)) hsz;have hr32:rows*1<=rows*cols:=Nat.mul_le_mul_left rows (by omega)
 induction t with
 |zero=>
  intro i ws row pk H hi hgo hf hrow hpk hip hs;have hir:i=rows:=by omega
  subst hir;unfold aS.l4;refine au (by omega) (hK _ _ H (.inl ⟨hgo,rfl,?_⟩) (hs.re [0,1,3,4,5] rfl));rw[<- hf.all (by omega),hip.resolve_left (by omega)];rfl
 |succ t ih=>
  intro i ws row pk H hi hgo hf hrow hpk hip hs;have hir:i<rows:=by omega
  have hfr:i*cols+c+b<=rows*cols:=by
   have:(i+1)*cols<=rows*cols:=Nat.mul_le_mul_right cols hir;rw[Nat.succ_mul]at this;omega
  unfold aS.l4;refine aA (by omega) ?_;simp only[dz];refine hs.cg 0 rfl rfl ?_;simp only[HV];refine hs.jU 0 rfl rfl ?_;simp only[HV];have e:i64.wrap (i64.wrap ((i:Int)*(cols:Int))+(c:Int))=((i*cols+c:Nat):Int):=by
   rw[<- Int.natCast_mul,dS,show(((i*cols:Nat):Int)+(c:Int))=((i*cols+c:Nat):Int) by omega,dS]
  rw[e];have hgl:=zl (D.ae d) x.f cols c b i;have hib:i*b<=rows*b:=Nat.mul_le_mul_right b (by omega);have hper:D.ae (D.bE d (gR (D.ae d) x.f cols c b i))=D.ae d:=rfl;have hpg:=Prog.bE (fun _=>False) hok hl hgo;refine(uV (p:=p) (dp:=dp) (ap:=ap) (d:=D.bE d (gR (D.ae d) x.f cols c b i)) (x:=x) (cap:=cap) (aj:=pk) (bufs:=bufs) (rl:=rl) (off:=0) (mm:=mr) (el:=108) (xs:=af row) (Ok.bE hok _) hl ⟨hx.w1,hx.s1,hx.fit,hx.room⟩ (by show d.rd+_<=_;omega) (i*cols+c) b b hb1 (by omega) (Nat.le_refl _) (by rw[aB,hrow];omega) hcap).use hs [3,4,5,2] rfl rfl ?_;rintro v M H (⟨hgo2,rfl,rfl⟩|⟨j,xs',hj,hfj,hx',rfl,rfl⟩) hs
  .simp only[HV];refine aF rfl ⟨b+1,?_⟩;rw[JN,hper,<-rB]at hs;have hset:setAt (af row) 0 (af (dE (D.bE d (gR (D.ae d) x.f cols c b i)) x (i*cols+c) b))=af (dE d x (i*cols+c) b):=by
    rw[o8 (by rw[aB,aB,jW,hrow])];rfl
   rw[hset,hpk]at hs;have hgo3:d.aH=0\/gR (D.ae d) x.f cols c b (i+1)<d.aH:=by
    rw[rB];have h1:(D.bE d (gR (D.ae d) x.f cols c b i)).aH=d.aH-gR (D.ae d) x.f cols c b i:=rfl;rw[h1,hper]at hgo2;omega
   have hs:=hs.re [4,5,3,0,1,2] rfl;refine E4 K _ (fun i k=>pw d x (i*cols+c+k)) hrb hb1 hir (c:Int) (dE d x (i*cols+c) b) (jW _ _ _ _) (fun k hk=>ub hk) (fun ws' H hf' hs=>?_) b 0 ws H (by omega) hf hs;exact ih (i+1) ws' _ (mx aj (aW bufs+D.ae d)) H (by omega) hgo3 hf' (jW _ _ _ _) (wk _ _) (.inr rfl) hs
  .simp only[HV];refine aU (by decide) (hK _ _ H (.inr ⟨_,hpg.dead (gv.bE _ hpg.ok hpg.down hfj),?_,rfl,?_⟩) (hs.re [4,0,1,2] rfl))
   .have h1:(D.bE d (gR (D.ae d) x.f cols c b i)).aH=d.aH-gR (D.ae d) x.f cols c b i:=rfl;rw[h1]at hfj;have h2:=Jq (D.ae d) x.f cols c b (show i+1<=rows by omega);rw[rB]at h2;rw[hper]at hj;omega
   .rw[hper,hpk];rfl
theorem E5 {d:D}{rows cols b c:Nat}(hok:Ok d)(hl:d.down=false)(hx:On d x)(ho:d.rd<=4000000000000000000)(hw:x.w=rows*cols)(hb1:1<=b)(hcb:c+b<=cols)(hsz:rows*cols<=4294967296)(hr1:1<=rows)(hcap:(D.ae d:Int)<=cap-aW bufs)(hbn:(bn,b*rows,some (O bb))∈bufs)(ws:List UInt64)(hws:ws.length=b*rows):
  Tr prog 301 #[V rn,I (c:Int),I (b:Int)] [ah rn (fS s sk p q rows cols bn),ah bb (.row (af ws) 108 mb),ah p (ba dp ap x),Dk dp d,Ar ap cap aj bufs] (Cd rn p q dp ap bn bb s sk d x rows cols b c cap aj bufs mb):=fun H hs=>by
 have hrb:rows*b<=4294967296:=Nat.le_trans (Nat.mul_le_mul_left rows (show b<=cols by omega)) hsz;have hb32:1*b<=rows*b:=Nat.mul_le_mul_right b hr1;apply aS.ok;unfold aS;simp only[dz];refine hs.cg 0 rfl rfl ?_;simp only[HV];refine aa.use (kF hs 4 rfl hbn) ?_
 try simp only[HV]
 refine hs.nX fi rfl (n:=b) (m:=b) rfl rfl (Nat.le_refl _) (by omega) (by omega) fun rl H hs=>?_
 simp only[HV];refine hs.jU 0 rfl rfl ?_;simp only[HV];refine⟨rows+1,?_⟩;have hz:cI (#[Value.int .u64 0]:Array Value).toList b=af (List.replicate b 0):=by
  show cI [Value.int .u64 0] b=_
  rw[eR];unfold af;rw[List.map_replicate];rfl
 rw[hz]at hs;refine BN (rl:=rl) (mr:=b*1) (aj:=aj) _ hok hl hx ho hw hb1 hcb hsz hr1 hcap (fun v M H h hs=>⟨M,h,hs⟩) rows 0 ws (List.replicate b 0) aj H (by omega) (by simp[gR];omega) ⟨hws,fun k' i' _ _ h=>by omega⟩ (by simp) rfl (.inl rfl) ?_;exact hs.re [0,1,5,2,3,4] rfl
end
end Trn
namespace Str
open Go Go.Hw Go.Form W Dsk Are
theorem HB {ws src:List UInt64}{a:Nat}(ha:a<=ws.length)(i:Nat):(j0 ws a src)[i]? =if i<a then ws[i]? else if i<a+src.length then src[i-a]? else ws[i]? :=by
 unfold j0;have hl:(ws.take a).length=a:=by rw[List.length_take];omega
 rw[List.append_assoc];by_cases h1:i<a
 .rw[if_pos h1,List.getElem?_append_left (by omega),List.getElem?_take_of_lt h1]
 .rw[if_neg h1,List.getElem?_append_right (by omega),hl];by_cases h2:i<a+src.length
  .rw[if_pos h2,List.getElem?_append_left (by omega)]
  .rw[if_neg h2,List.getElem?_append_right (by omega),List.getElem?_drop];congr 1;omega
theorem Lp {d:D}(hok:Ok d)(x:X)(fr:Nat)(src:List UInt64)(hl:fr%D.ae d+src.length<=D.ae d)(j:Nat):
  pw (kP d (x.f+fr/D.ae d) (fr%D.ae d) src) x j=if fr<=j/\j<fr+src.length then(src[j-fr]?).getD 0 else pw d x j:=by
 have hp:=Ok.dQ hok;have hwl:(cX (d.now ((x.f+fr/D.ae d:Nat):Int))).length=D.ae d:=by rw[iv,hok.now];rfl
 unfold pw;rw[CT,CS];have ej:=Nat.div_add_mod j (D.ae d);have ef:=Nat.div_add_mod fr (D.ae d);have mj:=Nat.mod_lt j (show 0<D.ae d by omega);have mf:=Nat.mod_lt fr (show 0<D.ae d by omega);by_cases hs:j/D.ae d=fr/D.ae d
 .rw[hs]at ej⊢;rw[if_pos rfl,BV,HB (by omega)];generalize D.ae d*(fr/D.ae d)=q at*;by_cases h1:j%D.ae d<fr%D.ae d
  .rw[if_pos h1,if_neg (by omega)]
  .rw[if_neg h1];by_cases h2:j%D.ae d<fr%D.ae d+src.length
   .rw[if_pos h2,if_pos (by omega),show j%D.ae d-fr%D.ae d=j-fr by omega]
   .rw[if_neg h2,if_neg (by omega)]
 .rw[if_neg (by omega),if_neg];intro hc;apply hs;apply Nat.div_eq_of_lt_le
  .rw[Nat.mul_comm];omega
  .rw[Nat.succ_mul,Nat.mul_comm];omega
structure Lw (d d':D)(x:X)(fr:Nat)(src:List UInt64)(ps:List (Nat×Nat×Nat)):Prop where
 ok:Ok d'
 calm:Calm d->Calm d'
 size:d'.size=d.size
 sec:d'.sec=d.sec
 wr:d'.wr=d.wr+ps.length
 rd:d'.rd=d.rd+(ps.filter fun p=>decide (p.2.2<D.ae d)).length
 sy:d'.sy=d.sy
 safe:d'.safe=d.safe
 gE:∀ i,d'.gE i=true->d.gE i=true\/∃ j,j<src.length/\i=((x.f+(fr+j)/D.ae d:Nat):Int)
 now:∀ i,(∀ j,j<src.length->i≠((x.f+(fr+j)/D.ae d:Nat):Int))->d'.now i=d.now i
 pw:∀ j,pw d' x j=if fr<=j/\j<fr+src.length then(src[j-fr]?).getD 0 else pw d x j
theorem If (d:D)(s bG:Nat)(src:List UInt64):(kP d s bG src).safe=d.safe/\(kP d s bG src).gE=qz d.gE s:=by
 unfold kP;split<;>exact⟨rfl,rfl⟩
theorem yZ (x:X):∀(k fr:Nat) (d:D) (src:List UInt64),Ok d->src.length<=k->Lw d (wV d x k fr src) x fr src (dy (D.ae d) x.f k fr src.length)
 |k,fr,d,[],hok,hk=>by
  have e1:wV d x k fr []=d:=by cases k<;>simp[wV]
  have e2:dy (D.ae d) x.f k fr ([]:List UInt64).length=[]:=by cases k<;>simp[dy]
  rw[e1,e2];exact⟨hok,id,rfl,rfl,rfl,rfl,rfl,rfl,fun i h=>.inl h,fun _ _=>rfl,fun j=>by rw[if_neg (by simp only[List.length_nil];omega)]⟩
 |0,fr,d,w0::s0,hok,hk=>by simp at hk
 |k+1,fr,d,w0::s0,hok,hk=>by
  generalize hsrc:w0::s0=src at*;have hne:src≠ []:=by rw[<- hsrc];simp
  have hpos:0<src.length:=by rw[<- hsrc];simp
  have hp:=Ok.dQ hok;have hcle:=vL (D.ae d) fr src.length;have hcpos:=sU (ae:=D.ae d) (fr:=fr) (n:=src.length) (by omega) hpos;have hcper:=z' (ae:=D.ae d) (fr:=fr) (n:=src.length);have e:dy (D.ae d) x.f (k+1) fr src.length=(x.f+fr/D.ae d,fr%D.ae d,cN (D.ae d) fr src.length)::dy (D.ae d) x.f k (fr+cN (D.ae d) fr src.length) (src.length-cN (D.ae d) fr src.length):=by
   show(if src.length=0 then []else _)=_
   rw[if_neg (by omega)]
  have ew:wV d x (k+1) fr src=wV (kP d (x.f+fr/D.ae d) (fr%D.ae d) (src.take (cN (D.ae d) fr src.length))) x k (fr+cN (D.ae d) fr src.length) (src.drop (cN (D.ae d) fr src.length)):=by
   show(if src=[]then d else _)=_
   rw[if_neg hne]
  rw[e,ew];generalize hcv:cN (D.ae d) fr src.length=c at*;have htk:(src.take c).length=c:=by rw[List.length_take];omega
  have hdl:(src.drop c).length=src.length-c:=by simp
  have hok1:Ok (kP d (x.f+fr/D.ae d) (fr%D.ae d) (src.take c)):=Lo hok _ _ (by omega);have hsz:=BC d (x.f+fr/D.ae d) (fr%D.ae d) (src.take c);have hper:=CT d (x.f+fr/D.ae d) (fr%D.ae d) (src.take c);have hcnt:=Kd d (x.f+fr/D.ae d) (fr%D.ae d) (src.take c);have hsf:=If d (x.f+fr/D.ae d) (fr%D.ae d) (src.take c);have hnow:=CS d (x.f+fr/D.ae d) (fr%D.ae d) (src.take c);have hpw:=Lp hok x fr (src.take c) (by omega);have ih:=yZ x k (fr+c) _ (src.drop c) hok1 (by omega);rw[hper,hdl]at ih;generalize wV (kP d (x.f+fr/D.ae d) (fr%D.ae d) (src.take c)) x k (fr+c) (src.drop c)=d2 at*;generalize dy (D.ae d) x.f k (fr+c) (src.length-c)=ps at*;refine⟨ih.ok,fun hc=>ih.calm (Ib hc _ _ _),ih.size.trans hsz.1,ih.sec.trans hsz.2,?_,?_,ih.sy.trans hcnt.2.2,ih.safe.trans hsf.1,fun i hi=>?_,fun i hi=>?_,fun j=>?_⟩
  .rw[ih.wr,hcnt.1,List.length_cons];omega
  .rw[ih.rd,hcnt.2.1,htk,hper];by_cases hlt:c<D.ae d
   .rw[if_pos hlt,List.filter_cons_of_pos (by simpa using hlt),List.length_cons];omega
   .rw[if_neg hlt,List.filter_cons_of_neg (by simpa using hlt)];omega
  .rcases ih.gE i hi with h|⟨j,hj,h⟩
   .rw[hsf.2]at h;unfold qz at h;by_cases he:i=((x.f+fr/D.ae d:Nat):Int)
    .exact .inr ⟨0,hpos,by rw[Nat.add_zero];exact he⟩
    .rw[if_neg he]at h;exact .inl h
   .refine .inr ⟨c+j,by omega,?_⟩;rw[h,hper,Nat.add_assoc]
  .rw[ih.now i (fun j hj=>?_),hnow,if_neg]
   .have:=hi 0 hpos;rw[Nat.add_zero]at this;exact this
   .have:=hi (c+j) (by omega);rw[hper,Nat.add_assoc];exact this
  .rw[ih.pw j,hpw j,htk,hdl];by_cases h1:fr+c<=j/\j<fr+c+(src.length-c)
   .rw[if_pos h1,if_pos (by omega),List.getElem?_drop,show c+(j-(fr+c))=j-fr by omega]
   .rw[if_neg h1];by_cases h2:fr<=j/\j<fr+c
    .rw[if_pos h2,if_pos (by omega),List.getElem?_take_of_lt (by omega)]
    .rw[if_neg h2,if_neg (by omega)]
def D.fz (d:D)(q:Nat):D:={ d with aH:=q}
theorem Ln (d:D)(q s bG:Nat)(src:List UInt64):D.fz (nU d s bG src) q=kP (D.fz d q) s bG src:=by
 unfold nU kP;have e:D.ae (D.fz d q)=D.ae d:=rfl;rw[e];split<;>rfl
theorem Gm (x:X):∀(k fr:Nat) (d:D) (src:List UInt64) (q:Nat),D.fz (j3 d x k fr src) q=wV (D.fz d q) x k fr src
 |0,_,_,_,_=>rfl
 |k+1,fr,d,src,q=>by
  unfold j3 wV;have e:D.ae (D.fz d q)=D.ae d:=rfl;rw[e];split
  .rfl
  .rw[Gm x k,Ln]
theorem Prog.now {S:Int->Prop}{d d':D}{r w:Nat}(h:Prog S d d' r w){i:Int}(hi:¬S i):d'.now i=d.now i:=by
 unfold D.now D.sat;rw[h.cache i hi,h.safe,h.size]
theorem Prog.pw {S:Int->Prop}{d d':D}{r w:Nat}(h:Prog S d d' r w){x:X}(hok:Ok d)(hx:On d x)(hS:∀ i,S i->i<(x.f:Int)\/((x.f+x.s:Nat):Int)<=i){j:Nat}(hj:j<x.w):pw d' x j=pw d x j:=by
 have hp:=Ok.dQ hok;have h4:=hx.room;unfold Str.pw;rw[h.ae,h.now];intro hs;have hdiv:j/D.ae d<x.s:=by rw[Nat.div_lt_iff_lt_mul (by omega)];omega
 have:=hS _ hs;generalize j/D.ae d=u at*;omega
theorem xK (x:X){d:D}(hok:Ok d)(fr:Nat)(src:List UInt64)(j:Nat):pw (j3 d x src.length fr src) x j=if fr<=j/\j<fr+src.length then(src[j-fr]?).getD 0 else pw d x j:=by
 have hW:=(yZ x src.length fr (D.fz d 0) src ⟨hok.sec,hok.size,hok.kV,hok.ae,hok.safe,hok.cache,Nat.zero_le _⟩ (Nat.le_refl _)).pw j;rw[<- Gm]at hW;exact hW
theorem On.prog {S:Int->Prop}{d d':D}{r w:Nat}{x:X}(hx:On d x)(h:Prog S d d' r w):On d' x:=⟨hx.w1,hx.s1,by rw[h.sec];exact hx.fit,by rw[h.ae];exact hx.room⟩
end Str
namespace Trn
open Go Go.Hw Go.Crc Go.Form W Shp Str Dsk Are
def iy (x:X)(i:Int):Prop:=(x.f:Int)<=i/\i<((x.f+x.s:Nat):Int)
section
variable {rn p q dp ap bn bb rl : Nat} {s : eu} {sk : Nat} {x y : X} {ea eb j : Nat} {cap aj : Int} {bufs : List (Nat × Nat × Option Addr)} {mb mr : Nat}
def KS (rn p q dp ap bn bb:Nat)(s:eu)(sk:Nat)(d:D)(y:X)(rows cols c:Nat)(ws:List UInt64)(cap aj:Int)(bufs:List (Nat×Nat×OA))(mb:Nat)(v:Value)(M:List As):Prop:=
 (Prog (iy y) d (j3 d y ws.length (c*rows) ws) (iO (D.ae d) y.f ws.length (c*rows) ws.length) (dy (D.ae d) y.f ws.length (c*rows) ws.length).length/\v= I 0/\
  M=[ah rn (fS (more s (form ws)) (sk+8*ws.length) p q rows cols bn),ah bb (.row (af ws) 108 mb),ah q (ba dp ap y),Dk dp (j3 d y ws.length (c*rows) ws),Ar ap cap (mx aj (aW bufs+D.ae d)) bufs])\/
 (∃ d',gv (iy y) d d'/\d.aH<=iO (D.ae d) y.f ws.length (c*rows) ws.length+(dy (D.ae d) y.f ws.length (c*rows) ws.length).length/\v= I 8/\
  M=[ah q (ba dp ap y),Dk dp d',Ar ap cap (mx aj (aW bufs+D.ae d)) bufs])
theorem KT {d:D}{rows cols c:Nat}{ws:List UInt64}(hok:Ok d)(hl:d.down=false)(hy:On d y)(ho:d.rd<=4000000000000000000/\d.wr<=4000000000000000000)(hw1:1<=ws.length)(hf:c*rows+ws.length<=y.w)(hyw:y.w<=4294967296)(hsk:sk<=1000000000000)(hcap:(D.ae d:Int)<=cap-aW bufs)(hbn:(bn,ws.length,some (O bb))∈bufs):
  Tr prog 302 #[V rn,I (c:Int)] [ah rn (fS s sk p q rows cols bn),ah bb (.row (af ws) 108 mb),ah q (ba dp ap y),Dk dp d,Ar ap cap aj bufs] (KS rn p q dp ap bn bb s sk d y rows cols c ws cap aj bufs mb):=fun H hs=>by
 have hcell:∀ H,ah bb (.row (af ws) 108 mb) H->Cells H (Oo bb) (af ws):=fun H h=>by
  have:=Cells.row h 0 ws.length
  rwa [List.drop_zero,List.take_of_length_le (by rw[aB];exact Nat.le_refl _)]at this
 apply lv.ok;unfold lv;simp only[dz];refine hs.cg 0 rfl rfl ?_;simp only[HV];refine bD.use (kF hs 4 rfl hbn) ?_
 try simp only[HV]
 rw[Addr.add_zero];refine CrcP.uq hs 0 rfl (Oo bb) ws.length ws.length ws rfl ?_ (by omega) (by omega) fun H hs=>?_
 .obtain⟨H1,h1,hle⟩:=hs.fU 1 rfl;exact(hcell H1 h1).le hle
 have hs:Sep [ah rn (fS (more s (form ws)) (sk+8*ws.length) p q rows cols bn),ah bb (.row (af ws) 108 mb),ah q (ba dp ap y),Dk dp d,Ar ap cap aj bufs] H:=hs;refine hs.cg 0 rfl rfl ?_;simp only[HV];refine hs.jU 0 rfl rfl ?_;simp only[HV];refine hs.cg 0 rfl rfl ?_;simp only[HV];refine bD.use (kF hs 4 rfl hbn) ?_
 try simp only[HV]
 rw[<- Int.natCast_mul,dS];refine(sS (p:=q) (dp:=dp) (ap:=ap) (d:=d) (x:=y) (cap:=cap) (aj:=aj) (bufs:=bufs) (R:=ah bb (.row (af ws) 108 mb)) (A:=some (O bb)) (n:=ws.length) (m:=ws.length) (src:=ws) hok hl hy (by omega) (c*rows) rfl hw1 hf (Nat.le_refl _) hcap hcell).use hs [2,3,4,1] rfl rfl ?_;rintro v M H (⟨hpg,rfl,rfl⟩|⟨d',hd,hfu,rfl,rfl⟩) hs
 .simp only[HV];exact⟨_,.inl ⟨hpg,rfl,rfl⟩,hs.re [4,3,0,1,2] rfl⟩
 .simp only[HV];exact⟨_,.inr ⟨d',hd,hfu,rfl,rfl⟩,hs.re [0,1,2] rfl⟩
def IV (d:D)(x:X)(rows cols k:Nat):UInt64:=pw d x (k%rows*cols+k/rows)
def qx (d:D)(x:X)(rows cols:Nat):List UInt64:=(List.range (rows*cols)).map (IV d x rows cols)
theorem xG (d:D)(x:X)(rows cols:Nat):(qx d x rows cols).length=rows*cols:=by simp[qx]
theorem Dc (d d1:D)(x:X){rows cols b c:Nat}(hr:0<rows)(hcb:c+b<=cols)(hsame:∀ k,k<rows*cols->pw d1 x k=pw d x k):
  ((List.range (b*rows)).map fun j=>pw d1 x (j%rows*cols+c+j/rows))=((qx d x rows cols).drop (c*rows)).take (b*rows):=by
 apply List.ext_getElem?;intro j;have hle:(c+b)*rows<=cols*rows:=Nat.mul_le_mul_right rows hcb;rw[Nat.add_mul,Nat.mul_comm cols rows]at hle;rw[List.getElem?_map,List.getElem?_take];by_cases hj:j<b*rows
 .rw[List.getElem?_range hj,if_pos hj,List.getElem?_drop];unfold qx;rw[List.getElem?_map,List.getElem?_range (by omega)];simp only[Option.map_some,Option.some.injEq];unfold IV;have hm:=Nat.mod_lt j hr;have hd:j/rows<b:=by rw[Nat.div_lt_iff_lt_mul hr];exact hj
  rw[show c*rows+j=j+c*rows by omega,Nat.add_mul_mod_self_right,Nat.add_mul_div_right _ _ hr,hsame]
  .congr 1;omega
  .have:(j%rows+1)*cols<=rows*cols:=Nat.mul_le_mul_right cols hm;rw[Nat.succ_mul]at this;omega
 .rw[if_neg hj,List.getElem?_eq_none (by simp;omega)];rfl
def rT (ae f f' rows cols b m:Nat):Nat:=((List.range m).map fun m'=>gR ae f cols (m'*b) b rows+iO ae f' (b*rows) (m'*b*rows) (b*rows)).sum
def wT (ae f' rows b m:Nat):Nat:=((List.range m).map fun m'=>(dy ae f' (b*rows) (m'*b*rows) (b*rows)).length).sum
theorem rK (ae f f' rows cols b m:Nat):rT ae f f' rows cols b (m+1)=rT ae f f' rows cols b m+(gR ae f cols (m*b) b rows+iO ae f' (b*rows) (m*b*rows) (b*rows)):=by
 unfold rT;rw[List.range_succ,List.map_append,List.sum_append];simp
theorem rQ (ae f' rows b m:Nat):wT ae f' rows b (m+1)=wT ae f' rows b m+(dy ae f' (b*rows) (m*b*rows) (b*rows)).length:=by
 unfold wT;rw[List.range_succ,List.map_append,List.sum_append];simp
theorem CA (ae f f' rows cols b:Nat){i j:Nat}(h:i<=j):rT ae f f' rows cols b i<=rT ae f f' rows cols b j:=by
 induction h with
 |refl=>exact Nat.le_refl _
 |step h ih=>rw[rK];omega
theorem CR (ae f' rows b:Nat){i j:Nat}(h:i<=j):wT ae f' rows b i<=wT ae f' rows b j:=by
 induction h with
 |refl=>exact Nat.le_refl _
 |step h ih=>rw[rQ];omega
theorem DJ (ae f f' rows cols b:Nat):∀ m,rT ae f f' rows cols b m<=m*(2*(b*rows))
 |0=>by simp[rT]
 |m+1=>by
  rw[rK,Nat.succ_mul];have h1:=DJ ae f f' rows cols b m;have h2:=zl ae f cols (m*b) b rows;have h3:=iR ae f' (b*rows) (m*b*rows) (b*rows);have h4:iO ae f' (b*rows) (m*b*rows) (b*rows)<=(dy ae f' (b*rows) (m*b*rows) (b*rows)).length:=List.length_filter_le _ _;have h5:=Nat.mul_comm rows b;omega
theorem Ec (ae f' rows b:Nat):∀ m,wT ae f' rows b m<=m*(b*rows)
 |0=>by simp[wT]
 |m+1=>by
  rw[rQ,Nat.succ_mul];have h1:=Ec ae f' rows b m;have h3:=iR ae f' (b*rows) (m*b*rows) (b*rows);omega
structure zf (d d':D)(x y:X)(rows cols b m:Nat):Prop where
 pg:Prog (iy y) d d' (rT (D.ae d) x.f y.f rows cols b m) (wT (D.ae d) y.f rows b m)
 src:∀ k,k<x.w->pw d' x k=pw d x k
 dst:∀ k,k<m*b*rows->pw d' y k=IV d x rows cols k
def DU (p q dp ap:Nat)(d:D)(x y:X)(rows cols b:Nat)(cap aj:Int)(bufs:List (Nat×Nat×OA))(v:Value)(M:List As):Prop:=
 (∃ d',zf d d' x y rows cols b (cols/b)/\v= .tuple #[Oi ((sum (form (qx d x rows cols))).toNat:Int),I 0]/\
  M=[ah p (ba dp ap x),ah q (ba dp ap y),Dk dp d',Ar ap cap (mx aj (aW bufs+(b*rows:Nat)+D.ae d)) bufs])\/
 (∃ d',gv (iy y) d d'/\d.aH<=rT (D.ae d) x.f y.f rows cols b (cols/b)+wT (D.ae d) y.f rows b (cols/b)/\v= .tuple #[Oi 0,I 8]/\
  M=[ah p (ba dp ap x),ah q (ba dp ap y),Dk dp d',Ar ap cap (mx aj (aW bufs+(b*rows:Nat)+D.ae d)) bufs])
theorem Jj (T:List UInt64)(a n:Nat):more (sum (form (T.take a))) (form ((T.drop a).take n))=sum (form (T.take (a+n))):=by
 unfold sum;rw[<- rh,<-q9];congr 2;rw[List.take_add]
def ky (rn p q dp ap bn bb sb vb:Nat)(d0 d':D)(x y:X)(rows cols b m:Nat)(cap pk:Int)(bufs:List (Nat×Nat×OA))(ws:List UInt64)(mb:Nat)(TT:As):List As:=
 [ah sb (Oa #[I (rows:Int),I (cols:Int)] 217),ah rn (fS (sum (form ((qx d0 x rows cols).take (m*b*rows)))) (8*(m*b*rows)) p q rows cols bn),ah bb (.row (af ws) 108 mb),
  ah p (ba dp ap x),ah q (ba dp ap y),Dk dp d',Ar ap cap pk (bufs++[(bn,b*rows,some (O bb))]),ah vb (.row [V bn] 331 1),TT]
theorem vm (K:VK){TT:As}{sb vb:Nat}{d:D}{rows cols b:Nat}(hok:Ok d)(hx:On d x)(hy:On d y)(ho:d.rd<=2000000000000000000/\d.wr<=2000000000000000000)(hxw:x.w=rows*cols)(hyw:y.w=rows*cols)(hdis:x.f+x.s<=y.f\/y.f+y.s<=x.f)(hb1:1<=b)(hbd:cols=cols/b*b)(hsz:rows*cols<=4294967296)(hr1:1<=rows)(hc1:1<=cols)
  (hcap:(D.ae d:Int)<=cap-aW (bufs++[(bn,b*rows,some (O bb))])) (hbm:∀ z∈bufs,z.1≠bn)
  {P1:Int} (hP1:P1=mx aj (aW (bufs++[(bn,b*rows,some (O bb))])+D.ae d))
  (hK:∀ d' H,zf d d' x y rows cols b (cols/b)->Sep [ah p (ba dp ap x),ah q (ba dp ap y),Dk dp d',Ar ap cap P1 bufs,TT] H->K (.tuple #[Oi ((sum (form (qx d x rows cols))).toNat:Int),I 0]) H)
  (hK8:∀ d' H,gv (iy y) d d'->d.aH<=rT (D.ae d) x.f y.f rows cols b (cols/b)+wT (D.ae d) y.f rows b (cols/b)->Sep [ah p (ba dp ap x),ah q (ba dp ap y),Dk dp d',Ar ap cap P1 bufs,TT] H->K (.tuple #[Oi 0,I 8]) H):
  ∀(t m:Nat) (d':D) (pk:Int) (ws:List UInt64) (H:Hp),m+t=cols/b->zf d d' x y rows cols b m->ws.length=b*rows->mx pk (aW (bufs++[(bn,b*rows,some (O bb))])+D.ae d)=P1->(m=0\/pk=P1)->Sep (ky rn p q dp ap bn bb sb vb d d' x y rows cols b m cap pk bufs ws mb TT) H->
   dN.l14 K (t+1) (O sb) (b:Int) (O rn) ((m*b:Nat):Int) (Oo ap) (Oo vb) 1 1 H:=fun t=>by
 have hp:=Ok.dQ hok;have hcc:cols/b*b*rows=rows*cols:=by rw[<- hbd,Nat.mul_comm]
 have hnb:cols/b<=cols:=Nat.div_le_self _ _;have hn1:1<=cols/b:=by
  have:cols/b≠0:=fun h0=>by rw[h0,Nat.zero_mul]at hbd;omega
  exact Nat.pos_of_ne_zero this
 have hbr:b*rows<=rows*cols:=by
  rw[<- hcc,Nat.mul_assoc];exact Nat.le_mul_of_pos_left _ hn1
 have hcr:cols*1<=cols*rows:=Nat.mul_le_mul_left cols hr1;rw[Nat.mul_comm cols rows]at hcr;have hbr1:1*rows<=b*rows:=Nat.mul_le_mul_right rows hb1;have hbr2:b*1<=b*rows:=Nat.mul_le_mul_left b hr1;have sX:∀ m,m<=cols/b->m*(2*(b*rows))<=2*(rows*cols)/\m*(b*rows)<=rows*cols:=fun m hm=>by
  have:m*(b*rows)<=rows*cols:=by
   rw[<- hcc,Nat.mul_assoc];exact Nat.mul_le_mul_right _ hm
  refine⟨?_,this⟩;rw[Nat.mul_left_comm];omega
 induction t with
 |zero=>
  intro m d' pk ws H hm hI hws hpk hip hs;have hme:m=cols/b:=by omega
  subst hme;unfold ky at hs;unfold dN.l14;refine hs.cg 0 rfl rfl ?_;simp only[HV];rw[<- hbd];refine au (Int.lt_irrefl _) ?_;rw[Addr.add_zero];refine aa.use (CrcP.BX hs 1 rfl) ?_
  try simp only[HV]
  refine(gp vb bn (b*rows) (Oo bb) hbm).use hs [6,7] rfl rfl ?_;rintro _ _ H ⟨rfl,rfl⟩ hs;rw[hcc,List.take_of_length_le (by rw[xG];exact Nat.le_refl _)];rw[hip.resolve_left (by omega)]at hs;exact hK d' H hI (hs.re [4,5,6,0,7] rfl)
 |succ t ih=>
  intro m d' pk ws H hm hI hws hpk hip hs;have hmlt:m<cols/b:=by omega
  have hmb:(m+1)*b<=cols:=by
   have h1:(m+1)*b<=cols/b*b:=Nat.mul_le_mul_right b hmlt;omega
  have hmb':=hmb;rw[Nat.succ_mul]at hmb';have hper:D.ae d'=D.ae d:=hI.pg.ae;have hxd:=hx.prog hI.pg;have hyd:=hy.prog hI.pg;have hrt:=DJ (D.ae d) x.f y.f rows cols b m;have hwt:=Ec (D.ae d) y.f rows b m;have hcnt:=sX m (by omega);have hrd:=hI.pg.rd;have hwr:=hI.pg.wr;unfold ky at hs;unfold dN.l14;refine hs.cg 0 rfl rfl ?_;simp only[HV];refine aA (by omega) ?_;refine(E5 (rn:=rn) (p:=p) (q:=q) (dp:=dp) (ap:=ap) (bn:=bn) (bb:=bb) (s:=sum (form ((qx d x rows cols).take (m*b*rows)))) (sk:=8*(m*b*rows)) (x:=x) (cap:=cap) (aj:=pk) (bufs:=bufs++[(bn,b*rows,some (O bb))]) (mb:=mb) (c:=m*b) hI.pg.ok hI.pg.down hxd (by omega) hxw hb1 hmb' hsz hr1 (by rw[hper];exact hcap) (List.mem_append_right _ (List.mem_singleton.2 rfl)) ws hws).use hs [1,2,3,5,6] rfl rfl ?_;rintro v M H (⟨hgo,rfl,rfl⟩|⟨d2,hdd,hfu,rfl,rfl⟩) hs
  case inr=>
   simp only[HV];refine aU (by decide) ?_;refine(gp vb bn (b*rows) (Oo bb) hbm).use hs [3,6] rfl rfl ?_;rintro _ _ H ⟨rfl,rfl⟩ hs;rw[hper,hpk]at hs;refine hK8 d2 H (hI.pg.dead (hdd.mono fun _ h=>h.elim)) ?_ (hs.re [2,5,3,0,6] rfl);have z1:=hI.pg.aH;have z2:=hI.pg.go;have z3:=CA (D.ae d) x.f y.f rows cols b (show m+1<=cols/b by omega);have z4:=CR (D.ae d) y.f rows b (show m+1<=cols/b by omega);rw[rK]at z3;rw[rQ]at z4;rw[hper]at hfu;omega
  simp only[HV];refine aF rfl ?_;rw[hper,hpk,Dc d d' x (by omega) hmb' (fun k hk=>hI.src k (by rw[hxw];exact hk))]at hs;have hg:=Prog.bE (iy y) hI.pg.ok hI.pg.down hgo;rw[hper]at hg hgo;have hpg1:=hI.pg.trans hg;have hper1:D.ae (D.bE d' (gR (D.ae d) x.f cols (m*b) b rows))=D.ae d:=hper;generalize hbw:((qx d x rows cols).drop (m*b*rows)).take (b*rows)=bw at*;have hmr:m*b*rows+b*rows<=rows*cols:=by
   have h1:(m*b+b)*rows<=cols*rows:=Nat.mul_le_mul_right rows hmb';rw[Nat.add_mul,Nat.mul_comm cols rows]at h1;exact h1
  have hbl:bw.length=b*rows:=by
   rw[<- hbw,List.length_take,List.length_drop,xG];omega
  have hgl:=zl (D.ae d) x.f cols (m*b) b rows;have hcomm:=Nat.mul_comm rows b;refine(KT (rn:=rn) (p:=p) (q:=q) (dp:=dp) (ap:=ap) (bn:=bn) (bb:=bb) (s:=sum (form ((qx d x rows cols).take (m*b*rows)))) (sk:=8*(m*b*rows)) (y:=y) (rows:=rows) (cols:=cols) (c:=m*b) (cap:=cap) (aj:=P1) (bufs:=bufs++[(bn,b*rows,some (O bb))]) (mb:=mb) (ws:=bw) (d:=D.bE d' (gR (D.ae d) x.f cols (m*b) b rows)) hpg1.ok hpg1.down (hy.prog hpg1) ⟨by show d'.rd+_<=_;omega,by show d'.wr<=_;omega⟩ (by omega) (by rw[hbl,hyw];exact hmr) (by omega) (by omega) (by rw[hper1];exact hcap) (by rw[hbl];exact List.mem_append_right _ (List.mem_singleton.2 rfl))).use hs [0,1,6,3,4] rfl rfl ?_;have hPP:mx P1 (aW (bufs++[(bn,b*rows,some (O bb))])+D.ae d)=P1:=by rw[hP1,wk]
  rintro v M H hQ hs;unfold KS at hQ;rw[hper1,hbl]at hQ;rcases hQ with(⟨hpg2,rfl,rfl⟩|⟨d2,hdd,hfu,rfl,rfl⟩)
  case inr=>
   simp only[HV];refine aU (by decide) ?_;refine(gp vb bn (b*rows) (Oo bb) hbm).use hs [2,5] rfl rfl ?_;rintro _ _ H ⟨rfl,rfl⟩ hs;rw[hPP]at hs;refine hK8 d2 H (hpg1.dead hdd) ?_ (hs.re [3,1,2,0,5] rfl);have z1:=hpg1.aH;have z2:=hpg1.go;have z3:=CA (D.ae d) x.f y.f rows cols b (show m+1<=cols/b by omega);have z4:=CR (D.ae d) y.f rows b (show m+1<=cols/b by omega);rw[rK]at z3;rw[rQ]at z4;omega
  simp only[HV];refine aF rfl ?_;have hpg3:=hpg1.trans hpg2;have hrT:rT (D.ae d) x.f y.f rows cols b m+gR (D.ae d) x.f cols (m*b) b rows+iO (D.ae d) y.f (b*rows) (m*b*rows) (b*rows)=rT (D.ae d) x.f y.f rows cols b (m+1):=by rw[rK];omega
  have hwT:wT (D.ae d) y.f rows b m+0+(dy (D.ae d) y.f (b*rows) (m*b*rows) (b*rows)).length=wT (D.ae d) y.f rows b (m+1):=by rw[rQ];omega
  rw[hrT,hwT]at hpg3;have hok1:Ok (D.bE d' (gR (D.ae d) x.f cols (m*b) b rows)):=hpg1.ok;have hpw:=fun k=>xK y hok1 (m*b*rows) bw k
  rw[hbl]at hpw;have hI2:zf d (j3 (D.bE d' (gR (D.ae d) x.f cols (m*b) b rows)) y (b*rows) (m*b*rows) bw) x y rows cols b (m+1):=by
   refine⟨hpg3,fun k hk=>hpg3.pw hok hx (fun i hi=>?_) hk,fun k hk=>?_⟩
   .unfold iy at hi;omega
   .rw[hpw k];have hk2:k<m*b*rows+b*rows:=by
     rw[Nat.succ_mul,Nat.add_mul]at hk;exact hk
    by_cases h1:m*b*rows<=k
    .rw[if_pos ⟨h1,hk2⟩,<-hbw,List.getElem?_take_of_lt (by omega),List.getElem?_drop,show m*b*rows+(k-m*b*rows)=k by omega];unfold qx;rw[List.getElem?_map,List.getElem?_range (by omega)];rfl
    .rw[if_neg (by omega)];have:=hI.dst k (by omega);exact this
  have hcs:=Jj (qx d x rows cols) (m*b*rows) (b*rows);rw[hbw]at hcs;have htk:m*b*rows+b*rows=(m+1)*b*rows:=by rw[Nat.succ_mul,Nat.add_mul]
  have hsk:8*(m*b*rows)+8*(b*rows)=8*((m+1)*b*rows):=by rw[<- htk];omega
  rw[hcs,hsk,htk,hPP]at hs;rw[show i64.wrap (((m*b:Nat):Int)+(b:Int))=(((m+1)*b:Nat):Int) by rw[show(((m*b:Nat):Int)+(b:Int))=(((m+1)*b:Nat):Int) by rw[Nat.succ_mul];omega,dS]];refine ih (m+1) _ P1 bw H (by omega) hI2 hbl hPP (.inr rfl) ?_;exact hs.re [6,0,1,5,2,3,4,7,8] rfl
end
end Trn
namespace W
open Go Go.Hw
theorem js :prog.follows .mixedOrders=true:=by kernel_rfl
def cn.l17 (K:VK):Nat->OA->OA->Addr->Int->OA->Addr->Int->OA->OA->Nat->Nat->OA->OA->Nat->Nat->Hp->Prop
 |0,_,_,_,_,_,_,_,_,_,_,_,_,_,_,_,_=>False
 |k+1,p16,p17,a4,x46,p18,a5,x47,p19,A3,n3,m3,p20,A4,n4,m4,H=>
  let R17:=cn.l17 K k
  aM H ((a4.add 0).add 0) fun x48=>aq (decide (x47<x48)) (lM 237 #[.pointer p18] H fun A5 n5 m5 H21=>cC 307 #[.pointer (some a5),.pointer p16,.pointer p17,.slice A5 n5 m5,I x47] H21 fun x49 H22=>aq (x49 !=0) (dv prog 257 #[.pointer p19,.slice A3 n3 m3] H22 fun _ H25=>dv prog 257 #[.pointer p20,.slice A4 n4 m4] H25 fun _ H26=>K (.tuple #[Oi 0,I x49]) H26) (R17 p16 p17 a4 x46 p18 a5 (i64.wrap (x47+x46)) p19 A3 n3 m3 p20 A4 n4 m4 H22)) (xO 238 #[.pointer (some (a5.add 0))] H fun x50 H23=>dv prog 257 #[.pointer p19,.slice A3 n3 m3] H23 fun _ H27=>dv prog 257 #[.pointer p20,.slice A4 n4 m4] H27 fun _ H28=>K (.tuple #[Oi x50,I 0]) H28)
def cn.j16 (K:VK)(p11 p12:OA)(a2:Addr)(x45:Int)(p13:OA)(a3:Addr)(p14 A1:OA)(n1 m1:Nat)(p15 A2:OA)(n2 m2:Nat)(H:Hp):=
 (∃ k,cn.l17 K k p11 p12 a2 x45 p13 a3 0 p14 A1 n1 m1 p15 A2 n2 m2 H)
def cn.q1 (l12:List Value)(H8:Hp)(p6:OA)(K:VK)(p1 p2:OA)(b1:Nat)(x9:Int)(p4 p3:OA)(b3 b2:Nat):=
 B2 l12.toArray.toList fun x16 x17 x18 x19 x20=>(Nw H8 (Oa #[Oi 0,I 0,I x16,I x17,I x18,I x19,U x20,.pointer p6] 415) fun b4 H9=>cn.j16 K p1 p2 (O b1) x9 p4 (O b4) p3 (Oo b3) 1 1 p3 (Oo b2) 1 1 H9)
def cn (p1 p2:OA)(x1 x2 x3 x4 x5:Int)(p3:OA)(x6:Int)(H:Hp)(K:VK):Prop:=
 Nw H (Oa #[I x1,I x2,I x3,I x4,U x5] 219) fun b1 H1=>aY H1 (O b1) 5 fun l1=>cC 303 #[.pointer p1,.pointer p2,.agg l1.toArray,.pointer p3] H1 fun x7 H2=>aq (x7 !=0) (K (.tuple #[Oi 0,I x7]) H2) (aY H2 ((O b1).add 0) 2 fun l2=>NN p3 fun a1=>eG 300 #[.pointer (some (a1.add 0))] H2 fun x8=>Qz 304 #[.agg l2.toArray,I x6,I x8] H2 fun v3=>pZ v3 fun x9 c1=>(aq (!c1) (K (.tuple #[Oi 0,I 6]) H2) (aM H2 (((O b1).add 0).add 1) fun x10=>Hz 255 #[.pointer p3,I (i64.wrap (x9*x10))] H2 fun v7 H3=>jO v7 fun p4 x11=>(aq (x11 !=0) (K (.tuple #[Oi 0,I x11]) H3) (Nw H3 (.row [.pointer p4] 331 1) fun b2 H4=>aM H4 (((O b1).add 0).add 1) fun x12=>Hz 255 #[.pointer p3,I x12] H4 fun v11 H5=>jO v11 fun p5 x13=>(aq (x13 !=0) (dv prog 257 #[.pointer p3,.slice (Oo b2) 1 1] H5 fun _ H24=>K (.tuple #[Oi 0,I x13]) H24) (Nw H5 (.row [.pointer p5] 331 1) fun b3 H6=>(aY H6 (O b1) 5 fun l12=>aM H6 (((O b1).add 0).add 1) fun x14=>cC 306 #[U (u64.wrap x14)] H6 fun x15 H7=>qD 305 #[I x15] H7 fun p6 H8=>cn.q1 l12 H8 p6 K p1 p2 b1 x9 p4 p3 b3 b2)/\(aM H6 (((O b1).add 0).add 1) fun x21=>(aY H6 (O b1) 5 fun l18=>cC 306 #[U (u64.wrap x21)] H6 fun x22 H10=>qD 305 #[I x22] H10 fun p7 H11=>cn.q1 l18 H11 p7 K p1 p2 b1 x9 p4 p3 b3 b2)/\((aY H6 (O b1) 5 fun l24=>cC 306 #[U (u64.wrap x21)] H6 fun x28 H13=>qD 305 #[I x28] H13 fun p8 H14=>cn.q1 l24 H14 p8 K p1 p2 b1 x9 p4 p3 b3 b2)/\(cC 306 #[U (u64.wrap x21)] H6 fun x34 H16=>(aY H16 (O b1) 5 fun l30=>qD 305 #[I x34] H16 fun p9 H17=>cn.q1 l30 H17 p9 K p1 p2 b1 x9 p4 p3 b3 b2)/\(qD 305 #[I x34] H16 fun p10 H19=>aY H19 (O b1) 5 fun l36=>cn.q1 l36 H19 p10 K p1 p2 b1 x9 p4 p3 b3 b2)))))))))))
def cn.l17.L (K:VK)(k:Nat):de:=fun E D H=>
 eP E 0 fun p16=>eP E 1 fun p17=>eN E 7 fun a4=>eI E 13 .i64 fun x46=>eP E 15 fun p18=>eN E 17 fun a5=>eI E 18 .i64 fun x47=>gz 257 D fun dc0 da0 D1=>bF dc0 (az da0 fun u0da0 r0da0=>DP u0da0 fun p19=>az r0da0 fun u1da0 r1da0=>aE u1da0 fun A3 n3 m3=>bF r1da0 (gz 257 D1 fun dc1 da1 D2=>bF dc1 (az da1 fun u0da1 r0da1=>DP u0da1 fun p20=>az r0da1 fun u1da1 r1da1=>aE u1da1 fun A4 n4 m4=>bF r1da1 (ax D2 (cn.l17 K k p16 p17 a4 x46 p18 a5 x47 p19 A3 n3 m3 p20 A4 n4 m4 H)))))
def cn.Λ17 (_:VK)(_R17:OA→OA→Addr→Int→OA→Addr→Int→OA→OA→Nat→Nat→OA→OA→Nat→Nat→Hp→Prop):aI:=aI.none (fun i=>match Nat.beq i 15 with|true=>some ([],[0,0,2,6,14,30,62,127,255,511],0)|false=>none)
def cn.Λ (K:VK):aI:=⟨fun i=>match Nat.beq i 16 with|true=>some (fun E D H=>eP E 0 fun p11=>eP E 1 fun p12=>eN E 7 fun a2=>eI E 13 .i64 fun x45=>eP E 15 fun p13=>eN E 17 fun a3=>gz 257 D fun dc0 da0 D1=>bF dc0 (az da0 fun u0da0 r0da0=>DP u0da0 fun p14=>az r0da0 fun u1da0 r1da0=>aE u1da0 fun A1 n1 m1=>bF r1da0 (gz 257 D1 fun dc1 da1 D2=>bF dc1 (az da1 fun u0da1 r0da1=>DP u0da1 fun p15=>az r0da1 fun u1da1 r1da1=>aE u1da1 fun A2 n2 m2=>bF r1da1 (ax D2 (cn.j16 K p11 p12 a2 x45 p13 a3 p14 A1 n1 m1 p15 A2 n2 m2 H))))))|false=>none,fun i=>match Nat.beq i 17 with|true=>some (fun E D H=>∃ k,cn.l17.L K k E D H)|false=>none,(fun i=>match Nat.beq i 15 with|true=>some ([],[0,0,2,6,14,30,62,127,255,511],0)|false=>none)⟩
theorem cn.ok p1 p2 x1 x2 x3 x4 x5 p3 x6 H K (h:cn p1 p2 x1 x2 x3 x4 x5 p3 x6 H K):aa prog 240 #[.pointer p1,.pointer p2,.agg #[I x1,I x2,I x3,I x4,U x5],.pointer p3,I x6] H K:=
 dV (Λ:=(cn.Λ K)) js Tryz.func240 rfl rfl h (oC (fun E D H h=>by
   obtain⟨p11,e0,g2⟩:=GP h;obtain⟨p12,e1,g4⟩:=GP g2;obtain⟨a2,e7,g7⟩:=GN g4;obtain⟨x45,e13,g9⟩:=GI g7;obtain⟨p13,e15,g11⟩:=GP g9;obtain⟨a3,e17,g14⟩:=GN g11;obtain⟨dc0,da0,D1,rfl,g15⟩:=gz.out g14;obtain⟨rfl,g16⟩:=bF.out g15;obtain⟨u0da0,r0da0,rfl,g17⟩:=az.out g16;obtain⟨p14,rfl,g18⟩:=DP.out g17;obtain⟨u1da0,r1da0,rfl,g19⟩:=az.out g18;obtain⟨A1,n1,m1,rfl,g20⟩:=aE.out g19;obtain⟨rfl,g21⟩:=bF.out g20;obtain⟨dc1,da1,D2,rfl,g22⟩:=gz.out g21;obtain⟨rfl,g23⟩:=bF.out g22;obtain⟨u0da1,r0da1,rfl,g24⟩:=az.out g23;obtain⟨p15,rfl,g25⟩:=DP.out g24;obtain⟨u1da1,r1da1,rfl,g26⟩:=az.out g25;obtain⟨A2,n2,m2,rfl,g27⟩:=aE.out g26;obtain⟨rfl,g28⟩:=bF.out g27;obtain⟨rfl,h'⟩:=ax.out g28;exact cU (Λ:=(cn.Λ K)) js [{ target:=.fn (.func 257) #[],args:=#[.pointer p14,.slice A1 n1 m1]},{ target:=.fn (.func 257) #[],args:=#[.pointer p15,.slice A2 n2 m2]}] (ag.cons e0 (ag.cons e1 (ag.cons e7 (ag.cons e13 (ag.cons e15 (ag.cons e17 (ag.nil _))))))) h' (oC (fun E D H h=>by
     refine Safe.cJ (cn.l17.L K) (fun E D H h=>?_) (fun k E D H h=>?_) E D H h
     .obtain⟨w0,e0,g1⟩:=DG.out h;obtain⟨p16,rfl,g2⟩:=DP.out g1;obtain⟨w1,e1,g3⟩:=DG.out g2;obtain⟨p17,rfl,g4⟩:=DP.out g3;obtain⟨w7,e7,g5⟩:=DG.out g4;obtain⟨pw7,rfl,g6⟩:=DP.out g5;obtain⟨a4,rfl,g7⟩:=NN.out g6;obtain⟨w13,e13,g8⟩:=DG.out g7;obtain⟨x46,rfl,g9⟩:=DI.out g8;obtain⟨w15,e15,g10⟩:=DG.out g9;obtain⟨p18,rfl,g11⟩:=DP.out g10;obtain⟨w17,e17,g12⟩:=DG.out g11;obtain⟨pw17,rfl,g13⟩:=DP.out g12;obtain⟨a5,rfl,g14⟩:=NN.out g13;obtain⟨w18,e18,g15⟩:=DG.out g14;obtain⟨x47,rfl,g16⟩:=DI.out g15;obtain⟨dc0,da0,D1,rfl,g17⟩:=gz.out g16;obtain⟨rfl,g18⟩:=bF.out g17;obtain⟨u0da0,r0da0,rfl,g19⟩:=az.out g18;obtain⟨p19,rfl,g20⟩:=DP.out g19;obtain⟨u1da0,r1da0,rfl,g21⟩:=az.out g20;obtain⟨A3,n3,m3,rfl,g22⟩:=aE.out g21;obtain⟨rfl,g23⟩:=bF.out g22;obtain⟨dc1,da1,D2,rfl,g24⟩:=gz.out g23;obtain⟨rfl,g25⟩:=bF.out g24;obtain⟨u0da1,r0da1,rfl,g26⟩:=az.out g25;obtain⟨p20,rfl,g27⟩:=DP.out g26;obtain⟨u1da1,r1da1,rfl,g28⟩:=az.out g27;obtain⟨A4,n4,m4,rfl,g29⟩:=aE.out g28;obtain⟨rfl,g30⟩:=bF.out g29;obtain⟨rfl,h'⟩:=ax.out g30;exact h'
     .obtain⟨p16,e0,g2⟩:=GP h;obtain⟨p17,e1,g4⟩:=GP g2;obtain⟨a4,e7,g7⟩:=GN g4;obtain⟨x46,e13,g9⟩:=GI g7;obtain⟨p18,e15,g11⟩:=GP g9;obtain⟨a5,e17,g14⟩:=GN g11;obtain⟨x47,e18,g16⟩:=GI g14;obtain⟨dc0,da0,D1,rfl,g17⟩:=gz.out g16;obtain⟨rfl,g18⟩:=bF.out g17;obtain⟨u0da0,r0da0,rfl,g19⟩:=az.out g18;obtain⟨p19,rfl,g20⟩:=DP.out g19;obtain⟨u1da0,r1da0,rfl,g21⟩:=az.out g20;obtain⟨A3,n3,m3,rfl,g22⟩:=aE.out g21;obtain⟨rfl,g23⟩:=bF.out g22;obtain⟨dc1,da1,D2,rfl,g24⟩:=gz.out g23;obtain⟨rfl,g25⟩:=bF.out g24;obtain⟨u0da1,r0da1,rfl,g26⟩:=az.out g25;obtain⟨p20,rfl,g27⟩:=DP.out g26;obtain⟨u1da1,r1da1,rfl,g28⟩:=az.out g27;obtain⟨A4,n4,m4,rfl,g29⟩:=aE.out g28;obtain⟨rfl,g30⟩:=bF.out g29;obtain⟨rfl,h'⟩:=ax.out g30;exact cU (Λ:=(cn.Λ17 K (cn.l17 K k))) js [{ target:=.fn (.func 257) #[],args:=#[.pointer p19,.slice A3 n3 m3]},{ target:=.fn (.func 257) #[],args:=#[.pointer p20,.slice A4 n4 m4]}] (ag.cons e0 (ag.cons e1 (ag.cons e7 (ag.cons e13 (ag.cons e15 (ag.cons e17 (ag.cons e18 (ag.nil _)))))))) h' oN) oN)) oN)
def na (p1 p2:OA)(x1 x2 x3 x4 x5:Int)(p3:OA)(H:Hp)(K:VK):Prop:=
 Nw H (Oa #[I x1,I x2,I x3,I x4,U x5] 219) fun b1 H1=>aq p1.isNone (K (I 1) H1) (aq p2.isNone (K (I 1) H1) (aq p3.isNone (K (I 1) H1) (aY H1 ((O b1).add 0) 2 fun l1=>Ip 297 #[.agg l1.toArray] H1 fun c1=>aq (!c1) (K (I 19) H1) (eG 186 #[.pointer p1] H1 fun x6=>aY H1 ((O b1).add 0) 2 fun l2=>eG 298 #[.agg l2.toArray] H1 fun x7=>aq (x6 !=x7) (K (I 19) H1) (eG 186 #[.pointer p2] H1 fun x8=>aY H1 ((O b1).add 0) 2 fun l3=>eG 298 #[.agg l3.toArray] H1 fun x9=>aq (x8 !=x9) (K (I 19) H1) (aM H1 ((O b1).add 2) fun x10=>aq (decide (x10<0)) (K (I 18) H1) (aM H1 ((O b1).add 2) fun x11=>aq (decide (x11>1)) (K (I 18) H1) (aM H1 ((O b1).add 3) fun x12=>aq (decide (x12<(-1))) (K (I 2) H1) (aM H1 ((O b1).add 3) fun x13=>aq (decide (x13>32)) (K (I 2) H1) (K (I 0) H1))))))))))
theorem na.ok p1 p2 x1 x2 x3 x4 x5 p3 H K (h:na p1 p2 x1 x2 x3 x4 x5 p3 H K):aa prog 303 #[.pointer p1,.pointer p2,.agg #[I x1,I x2,I x3,I x4,U x5],.pointer p3] H K:=
 bX js Tryz.func303 rfl rfl h
def dh.l4 (K:VK):Nat->Int->Int->Addr->Int->Hp->Prop
 |0,_,_,_,_,_=>False
 |k+1,x7,x8,a1,x9,H=>
  let R4:=dh.l4 K k
  aM H (a1.add 0) fun x10=>aq (decide ((i64.wrap (2*x9))<=x10)) (aM H (a1.add 1) fun x11=>(x11≠0/\i64=i64/\aq (decide ((i64.wrap ((i64.wrap (2*x9))+1))<=(i64.wrap (Int.tdiv (i64.wrap (x8-x7)) x11)))) (R4 x7 x8 a1 (i64.wrap (x9*2)) H) (K (.tuple #[I x9,.bool true]) H))) (K (.tuple #[I x9,.bool true]) H)
def dh (x1 x2 x3 x4:Int)(H:Hp)(K:VK):Prop:=
 Nw H (Oa #[I x1,I x2] 217) fun b1 H1=>aY H1 (O b1) 2 fun l1=>fP 297 #[.agg l1.toArray] H1 fun c1 H2=>aq (!c1) (K (.tuple #[I 0,.bool false]) H2) (aM H2 ((O b1).add 1) fun x5=>aq (decide (x5>1048576)) (K (.tuple #[I 0,.bool false]) H2) (aq (decide (x3<4)) (K (.tuple #[I 0,.bool false]) H2) (aq (decide (x3>512)) (K (.tuple #[I 0,.bool false]) H2) (aq ((cD .i64 x3 (i64.wrap (x3-1))) !=0) (K (.tuple #[I 0,.bool false]) H2) (aq (decide (x4<x3)) (K (.tuple #[I 0,.bool false]) H2) (aM H2 ((O b1).add 1) fun x6=>aq (decide ((i64.wrap (x4-x3))<(i64.wrap (2*x6)))) (K (.tuple #[I 0,.bool false]) H2) ((∃ k,dh.l4 K k x3 x4 (O b1) 1 H2))))))))
def dh.l4.L (K:VK)(k:Nat):de:=fun E D H=>
 eI E 1 .i64 fun x7=>eI E 2 .i64 fun x8=>eN E 3 fun a1=>eI E 6 .i64 fun x9=>ax D (dh.l4 K k x7 x8 a1 x9 H)
def dh.Λ4 (_:VK)(_R4:Int->Int->Addr->Int->Hp->Prop):aI:=aI.none (fun _=>none)
def dh.Λ (K:VK):aI:=⟨fun i=>none,fun i=>match Nat.beq i 4 with|true=>some (fun E D H=>∃ k,dh.l4.L K k E D H)|false=>none,(fun _=>none)⟩
theorem dh.ok x1 x2 x3 x4 H K (h:dh x1 x2 x3 x4 H K):aa prog 304 #[.agg #[I x1,I x2],I x3,I x4] H K:=
 dV (Λ:=(dh.Λ K)) js Tryz.func304 rfl rfl h (oC (fun E D H h=>by
   refine Safe.cJ (dh.l4.L K) (fun E D H h=>?_) (fun k E D H h=>?_) E D H h
   .obtain⟨w1,e1,g1⟩:=DG.out h;obtain⟨x7,rfl,g2⟩:=DI.out g1;obtain⟨w2,e2,g3⟩:=DG.out g2;obtain⟨x8,rfl,g4⟩:=DI.out g3;obtain⟨w3,e3,g5⟩:=DG.out g4;obtain⟨pw3,rfl,g6⟩:=DP.out g5;obtain⟨a1,rfl,g7⟩:=NN.out g6;obtain⟨w6,e6,g8⟩:=DG.out g7;obtain⟨x9,rfl,g9⟩:=DI.out g8;obtain⟨rfl,h'⟩:=ax.out g9;exact h'
   .obtain⟨x7,e1,g2⟩:=GI h;obtain⟨x8,e2,g4⟩:=GI g2;obtain⟨a1,e3,g7⟩:=GN g4;obtain⟨x9,e6,g9⟩:=GI g7;obtain⟨rfl,h'⟩:=ax.out g9;exact cU (Λ:=(dh.Λ4 K (dh.l4 K k))) js [] (ag.cons e1 (ag.cons e2 (ag.cons e3 (ag.cons e6 (ag.nil _))))) h' oN) oN)
def cm.l6 (K:VK):Nat->OA->OA->OA->Nat->Nat->Int->Int->Int->Hp->Prop
 |0,_,_,_,_,_,_,_,_,_=>False
 |k+1,p4,p5,A2,n2,m2,x4,x5,x6,H=>
  let R6:=cm.l6 K k
  aq (decide (x6<(n2:Int))) (lO n2 m2 (some x6) (some (i64.wrap (x6+x5))) fun n3 n4=>(x5≠0/\i64=i64/\Hz 347 #[.pointer p4,.slice (iG A2 m2 n3 1) (n4-n3) (m2-n3),I (i64.wrap (x4+(i64.wrap (Int.tdiv x6 x5))))] H fun v3 H2=>R6 p4 p5 A2 n2 m2 x4 x5 (i64.wrap (x6+x5)) H2)) (NN p4 fun a2=>Hz 236 #[.pointer (some (a2.add 0)),.slice A2 n2 m2] H fun v4 H3=>cC 185 #[.pointer p5,I (i64.wrap (x4*x5)),.slice A2 n2 m2] H3 fun x7 H4=>K (I x7) H4)
def cm (p1 p2 p3 A1:OA)(n1 m1:Nat)(x1:Int)(H:Hp)(K:VK):Prop:=
 NN p1 fun a1=>aM H (((a1.add 2).add 0).add 1) fun x2=>cC 187 #[.pointer p2,I (i64.wrap (x1*x2)),.slice A1 n1 m1] H fun x3 H1=>aq (x3 !=0) (K (I x3) H1) ((∃ k,cm.l6 K k p1 p3 A1 n1 m1 x1 x2 0 H1))
def cm.l6.L (K:VK)(k:Nat):de:=fun E D H=>
 eP E 0 fun p4=>eP E 2 fun p5=>DG (E.get? 3) fun w3=>aE w3 fun A2 n2 m2=>eI E 4 .i64 fun x4=>eI E 11 .i64 fun x5=>eI E 13 .i64 fun x6=>ax D (cm.l6 K k p4 p5 A2 n2 m2 x4 x5 x6 H)
def cm.Λ6 (_:VK)(_R6:OA→OA→OA→Nat→Nat→Int→Int→Int→Hp→Prop):aI:=aI.none (fun i=>match Nat.beq i 8 with|true=>some ([],[0,1,2,3,4,5,6,7,8,9,10,11],12)|false=>none)
def cm.Λ (K:VK):aI:=⟨fun i=>none,fun i=>match Nat.beq i 6 with|true=>some (fun E D H=>∃ k,cm.l6.L K k E D H)|false=>none,(fun i=>match Nat.beq i 8 with|true=>some ([],[0,1,2,3,4,5,6,7,8,9,10,11],12)|false=>none)⟩
theorem cm.ok p1 p2 p3 A1 n1 m1 x1 H K (h:cm p1 p2 p3 A1 n1 m1 x1 H K):aa prog 307 #[.pointer p1,.pointer p2,.pointer p3,.slice A1 n1 m1,I x1] H K:=
 dV (Λ:=(cm.Λ K)) js Tryz.func307 rfl rfl h (oC (fun E D H h=>by
   refine Safe.cJ (cm.l6.L K) (fun E D H h=>?_) (fun k E D H h=>?_) E D H h
   .obtain⟨w0,e0,g1⟩:=DG.out h;obtain⟨p4,rfl,g2⟩:=DP.out g1;obtain⟨w2,e2,g3⟩:=DG.out g2;obtain⟨p5,rfl,g4⟩:=DP.out g3;obtain⟨w3,e3,g5⟩:=DG.out g4;obtain⟨A2,n2,m2,rfl,g6⟩:=aE.out g5;obtain⟨w4,e4,g7⟩:=DG.out g6;obtain⟨x4,rfl,g8⟩:=DI.out g7;obtain⟨w11,e11,g9⟩:=DG.out g8;obtain⟨x5,rfl,g10⟩:=DI.out g9;obtain⟨w13,e13,g11⟩:=DG.out g10;obtain⟨x6,rfl,g12⟩:=DI.out g11;obtain⟨rfl,h'⟩:=ax.out g12;exact h'
   .obtain⟨p4,e0,g2⟩:=GP h;obtain⟨p5,e2,g4⟩:=GP g2;obtain⟨w3,e3,g5⟩:=DG.out g4;obtain⟨A2,n2,m2,rfl,g6⟩:=aE.out g5;obtain⟨x4,e4,g8⟩:=GI g6;obtain⟨x5,e11,g10⟩:=GI g8;obtain⟨x6,e13,g12⟩:=GI g10;obtain⟨rfl,h'⟩:=ax.out g12;exact cU (Λ:=(cm.Λ6 K (cm.l6 K k))) js [] (ag.cons e0 (ag.cons e2 (ag.cons e3 (ag.cons e4 (ag.cons e11 (ag.cons e13 (ag.nil _))))))) h' oN) oN)
def cM.j4 (K:VK)(p3 A4:OA)(n4 m4:Nat)(H:Hp):=
 NN p3 fun a6=>df H ((a6.add 2).add 4) fun x13=>lM 362 #[.slice A4 n4 m4,U x13] H fun A5 n5 m5 H6=>qC prog 108 (.slice A4 n4 m4) (.slice A5 n5 m5) H6 fun v19 H7=>DI .i64 v19 fun x14=>K (.tuple #[]) H7
def cM.q1 (A1:OA)(n1 m1:Nat)(x1 x5 x6:Int)(H1:Hp)(K:VK)(p1:OA):=
 Hz 361 #[.slice A1 n1 m1,.agg #[I 1,I (n1:Int),I x1,I 0],I x5,I x6] H1 fun v7 H2=>kc v7 fun A2 n2 m2 x7=>(qC prog 108 (.slice A1 n1 m1) (.slice A2 n2 m2) H2 fun v15 H4=>DI .i64 v15 fun x11=>cM.j4 K p1 A1 n1 m1 H4)
def cM (p1 A1:OA)(n1 m1:Nat)(x1:Int)(H:Hp)(K:VK):Prop:=
 NN p1 fun a1=>bj H (a1.add 7) fun p2=>NN p1 fun a2=>aM H ((a2.add 2).add 2) fun x2=>cC 360 #[.pointer p2,.slice A1 n1 m1,I x2] H fun x3 H1=>NN p1 fun a3=>aM H1 ((a3.add 2).add 3) fun x4=>aq (decide (x4>=0)) (NN p1 fun a4=>NN p1 fun a5=>(aM H1 ((a4.add 2).add 3) fun x5=>aM H1 ((a5.add 2).add 2) fun x6=>cM.q1 A1 n1 m1 x1 x5 x6 H1 K p1)/\(aM H1 ((a5.add 2).add 2) fun x8=>aM H1 ((a4.add 2).add 3) fun x9=>cM.q1 A1 n1 m1 x1 x9 x8 H1 K p1)) (cM.j4 K p1 A1 n1 m1 H1)
def cM.Λ (K:VK):aI:=⟨fun i=>match Nat.beq i 4 with|true=>some (fun E D H=>eP E 0 fun p3=>DG (E.get? 1) fun w1=>aE w1 fun A4 n4 m4=>ax D (cM.j4 K p3 A4 n4 m4 H))|false=>none,fun i=>none,(fun i=>match Nat.beq i 2 with|true=>some ([],[0,0,2,6,0,30,0,64,192,448,960,0,2048,6144,14336,30720,65535,131071,262143,262143,524287,2097151],0)|false=>match Nat.beq i 0 with|true=>some ([],[0,1,2,3,4,5,6,7,8,9],10)|false=>none)⟩
theorem cM.ok p1 A1 n1 m1 x1 H K (h:cM p1 A1 n1 m1 x1 H K):aa prog 347 #[.pointer p1,.slice A1 n1 m1,I x1] H K:=
 dV (Λ:=(cM.Λ K)) js Tryz.func347 rfl rfl h (oC (fun E D H h=>by
   obtain⟨p3,e0,g2⟩:=GP h;obtain⟨w1,e1,g3⟩:=DG.out g2;obtain⟨A4,n4,m4,rfl,g4⟩:=aE.out g3;obtain⟨rfl,h'⟩:=ax.out g4;exact cU (Λ:=(cM.Λ K)) js [] (ag.cons e0 (ag.cons e1 (ag.nil _))) h' oN) oN)
end W
namespace Pas
open Go Go.Hw W Shp Gol Fft Ker
structure J where
 ea:Nat
 eb:Nat
 d:Bool
 tw:Int
 sh:UInt64
def J.a (j:J):Array Value:=#[I ((2^j.ea:Nat):Int),I ((2^j.eb:Nat):Int),I (if j.d=true then 1 else 0),I j.tw,U (j.sh.toNat:Int)]
def Hx (j:J)(kp:Nat):List Value:=[I ((2^j.ea:Nat):Int),I ((2^j.eb:Nat):Int),I (if j.d=true then 1 else 0),I j.tw,U (j.sh.toNat:Int),V kp]
def fS (s:Crc.eu)(k:Nat)(j:J)(kp:Nat):AO:=Oa (CrcP.r8 s k (Hx j kp)) 415
def yS (j:J)(r:Nat)(l:List UInt64):List UInt64:=if 0<=j.tw then uk (pw (bU j.d j.tw.toNat) r) l else l
def jX (j:J)(r:Nat)(l:List UInt64):List UInt64:=k8 (zw j.sh) (yS j r (kI j.d j.eb l))
theorem J3 (j:J)(r:Nat)(l:List UInt64):(yS j r l).length=l.length:=by
 unfold yS;split
 .exact tJ _ _
 .rfl
theorem qn (j:J)(r:Nat)(l:List UInt64):(jX j r l).length=2^j.eb:=by unfold jX;rw[qp,J3,sa]
theorem DW {xs us bs:List Value}{off:Nat}(h:off+us.length<=xs.length)(hl:bs.length=us.length):setAt (setAt xs off us) off bs=setAt xs off bs:=by
 apply List.ext_getElem?;intro i;rw[fw (by rw[gN h];omega),fw h,fw (by omega)];by_cases h1:i<off
 .rw[if_pos h1,if_pos h1,if_pos h1]
 .rw[if_neg h1,if_neg h1,if_neg h1];by_cases h2:i<off+bs.length
  .rw[if_pos h2,if_pos h2]
  .rw[if_neg h2,if_neg h2,if_neg (by omega)]
theorem Hk (ws:List UInt64):∀ y∈af ws,y.oneCell'=true:=fun y hy=>by
 unfold af at hy;obtain⟨w,_,rfl⟩:=List.mem_map.1 hy;rfl
theorem FB {e:TypeId}{A:OA}{n m:Nat}{ws:List UInt64}{H:Hp}(h:cj e 1 A n m (af ws) H):Cells H A (af ws):=by
 obtain⟨h1,h2⟩:=h;rcases h2 with⟨rfl,rfl,rfl⟩|⟨b,mm,rfl,h4,_⟩
 .rw[Nat.zero_mul]at h1;rw[List.length_eq_zero_iff.1 h1];exact Cells.nil _ _
 .have:=Cells.row h4 0 (af ws).length;rw[List.drop_zero,List.take_of_length_le (Nat.le_refl _)]at this;exact this
section
variable {TT : As} {kp b off mm n m rn r : Nat} {s : Crc.eu} {sk : Nat} {j : J} {l : List UInt64} {xs : List Value} {e : TypeId}
theorem AR {H:Hp}{L:List As}{i:Nat}(hs:Sep L H){ws us:List UInt64}(hi:L[i]? =some (ah b (.row (setAt xs off (af ws)) e mm)))(hw:ws.length=n)(hu:us.length=n)(hx:off+n<=xs.length){A:OA}{m':Nat}(hc:Cells H A (af us)){K:VK}
  (kk:∀ H',Sep (L.set i (ah b (.row (setAt xs off (af us)) e mm))) H'->K (I (n:Int)) H'):qC prog 108 (.slice (some ⟨b,off,none⟩) n m) (.slice A n m') H K:=by
 refine hs.cp i (k:=n) (n:=n) (c:=m) (x:=.slice A n m') (ys:=af us) hi fi rfl (by rw[show Nat.min n n=n from Nat.min_self n];exact tF hc (by rw[aB,hu])) (by rw[fp (by omega),aB,hu];exact hx) (Hk us) fun H' hs'=>?_
 rw[DW (by rw[aB];omega) (by rw[aB,aB,hu,hw])]at hs';rw[show Nat.min n n=n from Nat.min_self n];exact kk H' hs'
theorem Kb (hn:n=2^j.eb)(hb:j.eb<=20)(hx:off+n<=xs.length){ws:List UInt64}(hw:ws.length=n){L:List As}(K:VK)
  (hK:∀ H,Sep (ah rn (fS s sk j kp)::ah b (.row (setAt xs off (af (k8 (zw j.sh) ws))) e mm)::L) H->K (.tuple #[]) H) {H:Hp} (hs:Sep (ah rn (fS s sk j kp)::ah b (.row (setAt xs off (af ws)) e mm)::L) H):
  cM.j4 K (Oo rn) (some ⟨b,off,none⟩) n m H:=by
 have h20:=cL hb;unfold cM.j4;simp only[dz];refine hs.jU 0 rfl rfl ?_;simp only[HV];refine(GK (n:=n) (m:=m) (R:=ah b (.row (setAt xs off (af ws)) e mm)) j.sh (fun H h=>tA h) hw (by omega)).use hs [1] rfl rfl ?_;rintro _ _ H ⟨r1,rfl,rfl⟩ hs;have hs:Sep (ah r1 (.row (af (k8 (zw j.sh) ws)) 108 (n*1))::ah b (.row (setAt xs off (af ws)) e mm)::ah rn (fS s sk j kp)::L) H:=by
  have:rest (ah rn (fS s sk j kp)::ah b (.row (setAt xs off (af ws)) e mm)::L) [1]=ah rn (fS s sk j kp)::L:=by
   have key:∀(L:List As) k,2<=k->rest.go [1] k L=L:=by
    intro L
    induction L with
    |nil=>intro k _;rfl
    |cons A L ih=>
     intro k hk;unfold rest.go;have:([1]:List Nat).contains k=false:=by simp;omega
     rw[this,ih (k+1) (by omega)]
   show ah rn (fS s sk j kp)::rest.go [1] 2 L=_
   rw[key L 2 (Nat.le_refl _)]
  rw[this]at hs;exact hs
 simp only[HV];have hc:Cells H (Oo r1) (af (k8 (zw j.sh) ws)):=by
  have:=Cells.row (hs.get 0 rfl) 0 n;rw[List.drop_zero,List.take_of_length_le (by rw[aB,qp];omega)]at this;exact this
 refine AR (m':=n) hs (i:=1) rfl hw (by rw[qp];exact hw) hx hc fun H hs=>?_;simp only[HV];refine hK H ?_;have hs:=hs.tail;exact hs.swap
theorem Kc (hT:∀ H,TT H->T64 H)(hn:n=2^j.eb)(hb:j.eb<=20)(htw:j.tw<=32)(hr:r<=4294967295)(hl:l.length=n)(hm:n<=m)(hx:off+n<=xs.length)(hseg:setAt xs off (af l)=xs):
  Tr prog 347 #[V rn,.slice (some ⟨b,off,none⟩) n m,I (r:Int)] [ah rn (fS s sk j kp),ah b (.row xs e mm),Kn kp j.eb,TT] fun v M=>
   v= .tuple #[]/\M=[ah rn (fS s sk j kp),ah b (.row (setAt xs off (af (jX j r l))) e mm),Kn kp j.eb,TT]:=fun H hs=>by
 have h20:=cL hb;apply cM.ok;unfold cM cM.q1;simp only[dz];refine hs.cg 0 rfl rfl ?_;simp only[HV];refine hs.jU 0 rfl rfl ?_;simp only[HV];refine(GH (kp:=kp) (m:=m) (mm:=mm) (e:=e) hT hb hn hl hx hseg j.d).use hs [1,2,3] rfl rfl ?_;rintro _ _ H ⟨rfl,rfl⟩ hs;simp only[HV];have hs:Sep [ah b (.row (setAt xs off (af (kI j.d j.eb l))) e mm),Kn kp j.eb,TT,ah rn (fS s sk j kp)] H:=hs;refine hs.jU 3 rfl rfl ?_;simp only[HV];have hdl:(kI j.d j.eb l).length=n:=by rw[sa,hn]
 have fin:∀{ws:List UInt64} {H:Hp},ws.length=n->yS j r (kI j.d j.eb l)=ws->Sep [ah b (.row (setAt xs off (af ws)) e mm),Kn kp j.eb,TT,ah rn (fS s sk j kp)] H->
   cM.j4 (fun v H'=>∃ M,(v= .tuple #[]/\M=[ah rn (fS s sk j kp),ah b (.row (setAt xs off (af (jX j r l))) e mm),Kn kp j.eb,TT])/\Sep M H') (Oo rn) (some ⟨b,off,none⟩) n m H:=fun{ws} {H} hw he hs=>by
  refine Kb (s:=s) (sk:=sk) (kp:=kp) (mm:=mm) (e:=e) (L:=[Kn kp j.eb,TT]) hn hb hx hw _ (fun H hs=>⟨_,⟨rfl,rfl⟩,?_⟩) (hs.re [3,0,1,2] rfl);unfold jX;rw[he];exact hs
 by_cases ht:0<=j.tw
 .refine aA ht ?_;obtain⟨t,ht'⟩:=Int.eq_ofNat_of_zero_le ht;have hz:pw (bU j.d j.tw.toNat) r=pw (bU j.d t) r:=by rw[ht',Int.toNat_natCast]
  refine⟨?_,?_⟩
  all_goals
   refine hs.jU 3 rfl rfl ?_;simp only[HV];refine hs.jU 3 rfl rfl ?_;simp only[HV];rw[ht'];refine(Jc (n:=n) (m:=m) (k:=t) (r:=r) (l:=kI j.d j.eb l) (R:=ah b (.row (setAt xs off (af (kI j.d j.eb l))) e mm)) hT (fun H h=>tA h) hn hb hdl hm (by omega) hr j.d).use hs [0,2] rfl rfl ?_;rintro _ _ H ⟨A',m',rfl,rfl⟩ hs;simp only[HV];refine AR (m':=m') hs (i:=1) rfl hdl (by rw[tJ];exact hdl) hx (FB (hs.own 0 rfl)) fun H hs=>?_;simp only[HV];exact fin (by rw[tJ];exact hdl) (by unfold yS;rw[if_pos ht,hz]) (hs.re [1,3,2,4] rfl)
 .exact au ht (fin hdl (by unfold yS;rw[if_neg ht]) hs)
end
end Pas
namespace Pas
open Go Go.Hw Go.Crc Go.Form W Shp Gol Fft Ker Str Dsk Are Trn
def lR (j:J)(r:Nat)(ws:List UInt64)(i:Nat):List UInt64:=(List.range i).flatMap fun q=>jX j (r+q) ((ws.drop (q*2^j.eb)).take (2^j.eb))
def lS (j:J)(r:Nat)(ws:List UInt64)(i:Nat):List UInt64:=lR j r ws i++ws.drop (i*2^j.eb)
theorem qb (j:J)(r:Nat)(ws:List UInt64):∀ i,(lR j r ws i).length=i*2^j.eb
 |0=>by simp[lR]
 |i+1=>by
  unfold lR;rw[List.range_succ,List.flatMap_append,List.length_append];have:=qb j r ws i;unfold lR at this;rw[this,Nat.succ_mul];simp[qn]
theorem EJ (j:J)(r:Nat)(ws:List UInt64)(i:Nat):lR j r ws (i+1)=lR j r ws i++jX j (r+i) ((ws.drop (i*2^j.eb)).take (2^j.eb)):=by
 unfold lR;rw[List.range_succ,List.flatMap_append];simp
theorem GU {j:J}{r:Nat}{ws:List UInt64}{i nb:Nat}(hw:ws.length=nb*2^j.eb)(hi:i<=nb):(lS j r ws i).length=nb*2^j.eb:=by
 unfold lS;have:i*2^j.eb<=nb*2^j.eb:=Nat.mul_le_mul_right _ hi;rw[List.length_append,qb,List.length_drop];omega
theorem EK (j:J)(r:Nat)(ws:List UInt64):lS j r ws 0=ws:=by simp[lS,lR]
theorem CG (a b c:List UInt64):j0 (a++b) a.length c=a++c++b.drop c.length:=by
 unfold j0;rw[List.take_left,<-List.drop_drop,List.drop_left]
section
variable {TT : As} {kp rn p q dp ap bb mb : Nat} {s : eu} {sk : Nat} {j : J} {x y : X} {cap aj : Int} {bufs : List (Nat × Nat × Option Addr)}
theorem vK (K:VK)(hT:∀ H,TT H->T64 H)(hb:j.eb<=20)(htw:j.tw<=32){nb r:Nat}(hr:r+nb<=4294967296)(hsz:nb*2^j.eb<=4294967296){ws:List UInt64}(hw:ws.length=nb*2^j.eb){L:List As}{n:Nat}(hn:n=nb*2^j.eb)
  (hK:∀ H,Sep (ah rn (fS s sk j kp)::ah bb (.row (af (lR j r ws nb)) 108 mb)::Kn kp j.eb::TT::L) H->cm.l6 K 1 (Oo rn) (Oo q) (Oo bb) n n (r:Int) ((2^j.eb:Nat):Int) (n:Int) H):
  ∀(t i:Nat) (z:Int) (H:Hp),z=((i*2^j.eb:Nat):Int)->i+t=nb->Sep (ah rn (fS s sk j kp)::ah bb (.row (af (lS j r ws i)) 108 mb)::Kn kp j.eb::TT::L) H->
   cm.l6 K (t+1) (Oo rn) (Oo q) (Oo bb) n n (r:Int) ((2^j.eb:Nat):Int) z H
 |0,i,_,H,rfl,hi,hs=>by
  obtain rfl:i=nb:=by omega
  rw[<- hn];refine hK H ?_;unfold lS at hs;rw[List.drop_eq_nil_of_le (by omega),List.append_nil]at hs;exact hs
 |t+1,i,_,H,rfl,hi,hs=>by
  have hc1:=pow_pos j.eb;have hse:(i+1)*2^j.eb=i*2^j.eb+2^j.eb:=Nat.succ_mul _ _;have h20:=cL hb;have hi1:(i+1)*2^j.eb<=nb*2^j.eb:=Nat.mul_le_mul_right _ (by omega);have hi1':=hi1;rw[Nat.succ_mul]at hi1;unfold cm.l6;refine aA (by omega) ?_;rw[show i64.wrap (((i*2^j.eb:Nat):Int)+((2^j.eb:Nat):Int))=(((i+1)*2^j.eb:Nat):Int) by rw[Nat.succ_mul,<-Int.natCast_add,dS]];refine⟨by omega,by omega,by omega,by omega,?_⟩;rw[Int.toNat_natCast,Int.toNat_natCast];refine⟨by omega,by simp,?_⟩;rw[show Int.tdiv ((i*2^j.eb:Nat):Int) ((2^j.eb:Nat):Int)=((i*2^j.eb/2^j.eb:Nat):Int)from rfl,Nat.mul_div_cancel _ (by omega),dS (n:=i),<-Int.natCast_add,dS (n:=r+i),
   wG,show(i+1)*2^j.eb-i*2^j.eb=2^j.eb by rw[Nat.succ_mul];omega,Nat.zero_add]
  have hA:=qb j r ws i;have hlen:=GU (j:=j) (r:=r) hw (show i<=nb by omega);have hseg:setAt (af (lS j r ws i)) (i*2^j.eb) (af ((ws.drop (i*2^j.eb)).take (2^j.eb)))=af (lS j r ws i):=by
   rw[tC];unfold lS;rw[<- hA,CG,hA,List.append_assoc];congr 2;rw[List.length_take,List.length_drop,Nat.min_eq_left (by omega)];exact List.take_append_drop _ _
  have hsl:((ws.drop (i*2^j.eb)).take (2^j.eb)).length=2^j.eb:=by rw[List.length_take,List.length_drop];omega
  have ht:=Kc (rn:=rn) (kp:=kp) (b:=bb) (off:=i*2^j.eb) (mm:=mb) (n:=2^j.eb) (m:=n-i*2^j.eb) (r:=r+i) (s:=s) (sk:=sk) (j:=j) (l:=(ws.drop (i*2^j.eb)).take (2^j.eb)) (xs:=af (lS j r ws i)) (e:=108) hT rfl hb htw (by omega) hsl (by omega) (by rw[aB,hlen];omega) hseg;have e0:uO (ah rn (fS s sk j kp)::ah bb (.row (af (lS j r ws i)) 108 mb)::Kn kp j.eb::TT::L) [0,1,2,3]=[ah rn (fS s sk j kp),ah bb (.row (af (lS j r ws i)) 108 mb),Kn kp j.eb,TT]:=rfl;refine ht.use hs [0,1,2,3] e0 rfl ?_;rintro _ _ H ⟨rfl,rfl⟩ hs;have erest:rest (ah rn (fS s sk j kp)::ah bb (.row (af (lS j r ws i)) 108 mb)::Kn kp j.eb::TT::L) [0,1,2,3]=L:=by
   have key:∀(L:List As) k,4<=k->rest.go [0,1,2,3] k L=L:=by
    intro L
    induction L with
    |nil=>intro k _;rfl
    |cons A L ih=>
     intro k hk;unfold rest.go;have:([0,1,2,3]:List Nat).contains k=false:=by simp;omega
     rw[this,ih (k+1) (by omega)]
   exact key L 4 (Nat.le_refl _)
  rw[erest]at hs;have hstep:setAt (af (lS j r ws i)) (i*2^j.eb) (af (jX j (r+i) ((ws.drop (i*2^j.eb)).take (2^j.eb))))=af (lS j r ws (i+1)):=by
   rw[tC];unfold lS;rw[<- hA,CG,hA,EJ,qn,List.drop_drop,Nat.succ_mul]
  rw[hstep]at hs;exact vK K hT hb htw hr hsz hw hn hK t (i+1) _ H rfl (by omega) hs
def KD (rn p q dp ap kp bb:Nat)(s:eu)(sk:Nat)(j:J)(d:D)(x y:X)(r nb:Nat)(cap aj:Int)(bufs:List (Nat×Nat×OA))(mb:Nat)(TT:As)(v:Value)(M:List As):Prop:=
 let n:=nb*2^j.eb
 let f:=r*2^j.eb
 let us:=lR j r (dE d x f n) nb
 let t:=(dy (D.ae d) x.f n f n).length
 (Prog (iy y) d (j3 (D.bE d t) y n f us) (t+iO (D.ae d) y.f n f n) (dy (D.ae d) y.f n f n).length/\v= I 0/\
  M=[ah rn (fS (more s (form us)) (sk+8*n) j kp),ah bb (.row (af us) 108 mb),ah p (ba dp ap x),ah q (ba dp ap y),Dk dp (j3 (D.bE d t) y n f us),Ar ap cap (mx aj (aW bufs+D.ae d)) bufs,Kn kp j.eb,TT])\/
 (∃ d',gv (iy y) d d'/\d.aH<=t+iO (D.ae d) y.f n f n+(dy (D.ae d) y.f n f n).length/\v= I 8/\
  M=[ah p (ba dp ap x),ah q (ba dp ap y),Dk dp d',Ar ap cap (mx aj (aW bufs+D.ae d)) bufs,TT])
set_option maxHeartbeats 1000000 in
theorem GW {d:D}(hT:∀ H,TT H->T64 H)(hok:Ok d)(hl:d.down=false)(hx:On d x)(hy:On d y)(ho:d.rd<=4000000000000000000/\d.wr<=4000000000000000000)(hb:j.eb<=20)(htw:j.tw<=32){r nb:Nat}(hnb:1<=nb)(hr:r+nb<=4294967296)(hsz:nb*2^j.eb<=4294967296)
  (hfx:r*2^j.eb+nb*2^j.eb<=x.w) (hfy:r*2^j.eb+nb*2^j.eb<=y.w) (hxw:x.w<=4294967296) (hsk:sk<=1000000000000) (hcap:(D.ae d:Int)<=cap-aW bufs) (ws:List UInt64) (hws:ws.length=nb*2^j.eb):
  Tr prog 307 #[V rn,V p,V q,.slice (Oo bb) (nb*2^j.eb) (nb*2^j.eb),I (r:Int)]
   [ah rn (fS s sk j kp),ah bb (.row (af ws) 108 mb),ah p (ba dp ap x),ah q (ba dp ap y),Dk dp d,Ar ap cap aj bufs,Kn kp j.eb,TT] (KD rn p q dp ap kp bb s sk j d x y r nb cap aj bufs mb TT):=fun H hs=>by
 have hp:=Ok.dQ hok;have hc1:=pow_pos j.eb;have hn1:1*1<=nb*2^j.eb:=Nat.mul_le_mul hnb hc1;have hpl:=iR (D.ae d) x.f (nb*2^j.eb) (r*2^j.eb) (nb*2^j.eb);apply cm.ok;unfold cm;simp only[dz];rw[show(((O rn).add 2).add 0).add 1=⟨rn,3,none⟩ by rw[Addr.add_zero,Addr.aP,Addr.aP]];refine hs.ld 0 rfl rfl ?_;simp only[HV];rw[<- Int.natCast_mul,dS];refine(uV (p:=p) (dp:=dp) (ap:=ap) (d:=d) (x:=x) (cap:=cap) (aj:=aj) (bufs:=bufs) (rl:=bb) (off:=0) (mm:=mb) (el:=108) (xs:=af ws) hok hl hx (by omega) (r*2^j.eb) (nb*2^j.eb) (nb*2^j.eb) (by omega) hfx (Nat.le_refl _) (by rw[aB];omega) hcap).use hs [2,4,5,1] rfl rfl ?_;rintro v M H (⟨hgo,rfl,rfl⟩|⟨i,xs',hi,hfi,_,rfl,rfl⟩) hs
 case inr=>
  simp only[HV];refine aU (by decide) ⟨_,.inr ⟨_,(gv.bE (fun _=>False) hok hl hfi).mono fun _ h=>h.elim,by omega,rfl,rfl⟩,hs.re [0,5,1,2,7] rfl⟩
 simp only[HV];refine aF rfl ?_;rw[o8 (by rw[aB,aB,jW,hws])]at hs;have hpg:=Prog.bE (iy y) hok hl hgo;generalize ht:(dy (D.ae d) x.f (nb*2^j.eb) (r*2^j.eb) (nb*2^j.eb)).length=t at*;have hper:D.ae (D.bE d t)=D.ae d:=rfl;refine⟨nb+1,?_⟩;refine vK (q:=q) (s:=s) (sk:=sk) (kp:=kp) (mb:=mb) (L:=[ah p (ba dp ap x),Dk dp (D.bE d t),Ar ap cap (mx aj (aW bufs+D.ae d)) bufs,ah q (ba dp ap y)]) _ hT hb htw hr hsz (ws:=dE d x (r*2^j.eb) (nb*2^j.eb)) (jW _ _ _ _) rfl (fun H hs=>?_) nb 0 0 H (by rw[Nat.zero_mul];rfl) (by omega) ?_
 .generalize hus:lR j r (dE d x (r*2^j.eb) (nb*2^j.eb)) nb=us at*;have hul:us.length=nb*2^j.eb:=by rw[<- hus];exact qb _ _ _ _
  have hcell:∀ H,ah bb (.row (af us) 108 mb) H->Cells H (Oo bb) (af us):=fun H h=>by
   have:=Cells.row h 0 us.length
   rwa [List.drop_zero,List.take_of_length_le (by rw[aB];exact Nat.le_refl _)]at this
  unfold cm.l6;refine au (Int.lt_irrefl _) ?_;simp only[dz,Addr.add_zero];refine CrcP.uq hs 0 rfl (Oo bb) (nb*2^j.eb) (nb*2^j.eb) us hul.symm ?_ (by omega) (by omega) fun H hs=>?_
  .obtain⟨H1,h1,hle⟩:=hs.fU 1 rfl;exact(hcell H1 h1).le hle
  have hs:Sep [ah rn (fS (more s (form us)) (sk+8*(nb*2^j.eb)) j kp),ah bb (.row (af us) 108 mb),Kn kp j.eb,TT,ah p (ba dp ap x),Dk dp (D.bE d t),Ar ap cap (mx aj (aW bufs+D.ae d)) bufs,ah q (ba dp ap y)] H:=hs;rw[<- Int.natCast_mul,dS];refine(sS (p:=q) (dp:=dp) (ap:=ap) (d:=D.bE d t) (x:=y) (cap:=cap) (aj:=mx aj (aW bufs+D.ae d)) (bufs:=bufs) (R:=ah bb (.row (af us) 108 mb)) (A:=some (O bb)) (n:=nb*2^j.eb) (m:=nb*2^j.eb) (src:=us) hpg.ok hpg.down (hy.prog hpg) ⟨by show d.rd+t<=_;omega,by show d.wr<=_;omega⟩ (r*2^j.eb) hul.symm (by omega) hfy (Nat.le_refl _) hcap hcell).use hs [7,5,6,1] rfl rfl ?_;rintro v M H (⟨hpg2,rfl,rfl⟩|⟨d',hd,hfu,rfl,rfl⟩) hs
  .simp only[HV];rw[hul,hper,wk]at hs;rw[hul,hper]at hpg2;have hpg3:=hpg.trans hpg2;rw[Nat.zero_add]at hpg3;subst hus;subst ht;exact⟨_,.inl ⟨hpg3,rfl,rfl⟩,hs.re [4,3,7,0,1,2,5,6] rfl⟩
  .simp only[HV];rw[hper,wk]at hs;rw[hul,hper]at hfu;subst hus;subst ht;refine⟨_,.inr ⟨d',hpg.dead hd,?_,rfl,rfl⟩,hs.re [7,0,1,2,6] rfl⟩;have h1:=hpg.aH;have h2:=hpg.go;omega
 .rw[EK];exact hs.re [4,3,6,7,0,1,2,5] rfl
end
end Pas
namespace Trn
open Go Go.Hw Go.Crc Go.Form W Shp Str Dsk Are
theorem gy.unique {r c ae free:Int}{j j':Nat}(hr:1<=r)(h:gy r c ae free j)(h':gy r c ae free j'):j=j':=by
 have key:∀{a b:Nat},gy r c ae free a->gy r c ae free b->¬a<b:=fun{a b} ha hb hlt=>by
  have hp:2^(a+1)<=2^b:=cL hlt;rw[Nat.pow_succ]at hp;have hz:=pow_pos a;have h1:=hb.le;have h2:=hb.fit;rcases ha.aG with e|e
  .omega
  .have h3:2*((2^a:Nat):Int)<=((2^b:Nat):Int):=by omega
   have:=Int.mul_le_mul_of_nonneg_right h3 (show 0<=r by omega);omega
 have h1:=key h h';have h2:=key h' h;omega
theorem I0 (r c ae free:Int)(hper: -9223372036854775808<=ae/\ae<=9223372036854775807)(hf:free<=9223372036854775807)(H:Hp)(hT:T64 H)(hg:jg r c=true)(hp:gL ae=true)(h1:ae<=free)(h2:r<=free-ae){j:Nat}(hj:gy r c ae free j):
  aa prog 299 #[.agg #[I r,I c],I ae,I free] H (RetE (.tuple #[I ((2^j:Nat):Int),.bool true]) H):=
 (I1 r c ae free hper hf H hT).mono fun v H' ⟨hq,e⟩=>by
  rcases hq with⟨h,_⟩|⟨_,j',hj',rfl⟩
  .exact absurd ⟨hg,hp,h1,h2⟩ h
  .obtain⟨ea,_,rfl,_⟩:=pE hg;have:=pow_pos ea;rw[hj.unique (by omega) hj'];exact⟨rfl,e⟩
theorem gy.ex {ea eb:Nat}{ae free:Int}(hab:ea+eb<=32:=by omega)(h:((2^ea:Nat):Int)<=free-ae:=by omega):∃ j,j<=eb/\gy ((2^ea:Nat):Int) ((2^eb:Nat):Int) ae free j:=by
 have key:∀ t j,j+t=eb->((2^j:Nat):Int)*((2^ea:Nat):Int)<=free-ae->∃ j,j<=eb/\gy ((2^ea:Nat):Int) ((2^eb:Nat):Int) ae free j:=fun t=>by
  induction t with
  |zero=>intro j hj hf;exact⟨j,by omega,⟨by rw[show j=eb by omega];exact Int.le_refl _,hf,.inl (by rw[show j=eb by omega])⟩⟩
  |succ t ih=>
   intro j hj hf;by_cases hc:((2^(j+1):Nat):Int)*((2^ea:Nat):Int)<=free-ae
   .exact ih (j+1) (by omega) hc
   .refine⟨j,by omega,⟨Int.ofNat_le.2 (cL (by omega)),hf,.inr ?_⟩⟩;rw[show(2:Int)*((2^j:Nat):Int)=((2^(j+1):Nat):Int) by rw[Nat.pow_succ];omega];omega
 exact key eb 0 (by omega) (by rw[Nat.pow_zero];omega)
theorem gy.ge {r:Int}{eb:Nat}{ae free:Int}{j:Nat}(h:gy r ((2^eb:Nat):Int) ae free j):j<=eb:=by
 apply Nat.le_of_not_lt;intro hlt;have h1:=cL (show eb+1<=j from hlt);rw[Nat.pow_succ]at h1;have:=h.le;have:=pow_pos eb;omega
section
variable {p q dp ap : Nat} {x y : X} {cap aj : Int} {bufs : List (Nat × Nat × Option Addr)} {TT : As}
theorem oV {L:List As}{H:Hp}(hT:∀ H,TT H->T64 H)(hs:Sep L H)(i:Nat)(hi:L[i]? =some TT):T64 H:=by
 obtain⟨H1,h1,hle⟩:=hs.fU i hi;exact(hT H1 h1).le hle
theorem div_pow {a b:Nat}(h:a<=b):2^b=2^b/2^a*2^a:=(Nat.div_mul_cancel (Nat.pow_dvd_pow 2 h)).symm
theorem zS {d:D}{ea eb j:Nat}(hT:∀ H,TT H->T64 H)(hok:Ok d)(hl:d.down=false)(hx:On d x)(hy:On d y)(ho:d.rd<=2000000000000000000/\d.wr<=2000000000000000000)(hab:ea+eb<=32)(hxw:x.w=2^ea*2^eb)(hyw:y.w=2^ea*2^eb)(hdis:x.f+x.s<=y.f\/y.f+y.s<=x.f)
  (hper:gL (D.ae d:Int)=true) (hcap:cap<=1000000000000) (hsum:0<=aW bufs) (hj:gy ((2^ea:Nat):Int) ((2^eb:Nat):Int) (D.ae d) (cap-aW bufs) j):
  Tr prog 239 #[V p,V q,.agg #[I ((2^ea:Nat):Int),I ((2^eb:Nat):Int)],V ap,I (D.ae d:Int)]
   [ah p (ba dp ap x),ah q (ba dp ap y),Dk dp d,Ar ap cap aj bufs,TT] fun v M=>∃ M0,DU p q dp ap d x y (2^ea) (2^eb) (2^j) cap aj bufs v M0/\M=M0++[TT]:=fun H hs=>by
 have hp:=Ok.dQ hok;have hg:=qM hab;have hsz:=size_le hab;have hr1:=pow_pos ea;have hc1:=pow_pos eb;have hb1:=pow_pos j;have hjb:=hj.ge;have hfit:=hj.fit;rw[<- Int.natCast_mul]at hfit;have hbr:1*2^ea<=2^j*2^ea:=Nat.mul_le_mul_right _ hb1;have hbsz:2^j*2^ea<=2^ea*2^eb:=by
  rw[Nat.mul_comm];exact Nat.mul_le_mul_left _ (cL hjb)
 have hS:qW ((2^ea:Nat):Int) ((2^eb:Nat):Int)=((2^ea*2^eb:Nat):Int):=by
  unfold qW;rw[if_pos hg,Int.natCast_mul]
 apply dN.ok;unfold dN;refine hs.nw fun sb H hs=>bY rfl (bY rfl (bY rfl ?_))
 first|refine hs.bJ 5 rfl rfl ?_
 try simp only[HV]
 refine bD.use (fA _ _ H (oV hT hs 4 rfl)) ?_;rw[hg];simp only[HV];refine bD.use (ov hs 0 rfl) ?_;simp only[HV]
 first|refine hs.bJ 5 rfl rfl ?_
 try simp only[HV]
 refine bD.use (tT _ _ H (oV hT hs 4 rfl)) ?_;rw[hS];simp only[HV];refine aF (by rw[hxw]) ?_;refine bD.use (ov hs 1 rfl) ?_;simp only[HV]
 first|refine hs.bJ 5 rfl rfl ?_
 try simp only[HV]
 refine bD.use (tT _ _ H (oV hT hs 4 rfl)) ?_;rw[hS];simp only[HV];refine aF (by rw[hyw]) ?_
 first|refine hs.bJ 5 rfl rfl ?_
 try simp only[HV]
 simp only[dz,Addr.add_zero];refine bD.use (E3 hs 3 rfl) ?_;simp only[HV];refine bD.use (I0 _ _ _ _ ⟨by omega,by omega⟩ (by omega) H (oV hT hs 4 rfl) hg hper (by omega) (by omega) hj) ?_;simp only[HV];refine hs.ld 5 (v:=I ((2^ea:Nat):Int)) rfl rfl ?_;simp only[HV];rw[<- Int.natCast_mul,dS];refine(lj (a:=ap) (cap:=cap) (aj:=aj) (bufs:=bufs) (n:=2^j*2^ea)).use hs [3] rfl rfl ?_;rintro _ _ H ⟨bn,bb,rfl,rfl⟩ hs;simp only[HV];refine aF rfl ?_;have hbm:∀ z∈bufs,z.1≠bn:=fun z hz e=>by
  obtain⟨mp,cl,tk,hA⟩:=Sep.ar hs 0 rfl;have:=hA.bn;rw[List.map_append,List.nodup_append]at this;exact this.2.2 z.1 (List.mem_map_of_mem hz) bn (by simp) e
 refine hs.nw fun vb H hs=>?_
 refine hs.bJ 6 rfl rfl ?_;simp only[HV];refine hs.nw fun rn H hs=>?_
 refine⟨2^eb/2^j+1,?_⟩;have hz:dX (2^j*2^ea)=af (List.replicate (2^j*2^ea) 0):=by
  unfold dX;rw[eR];unfold af;rw[List.map_replicate];rfl
 rw[hz]at hs;have hsb:aW (bufs++[(bn,2^j*2^ea,some (O bb))])=aW bufs+((2^j*2^ea:Nat):Int):=by
  rw[lZ];simp[aW]
 have hpk:mx (mx aj (aW bufs+((2^j*2^ea:Nat):Int))) (aW (bufs++[(bn,2^j*2^ea,some (O bb))])+D.ae d)=mx aj (aW bufs+((2^j*2^ea:Nat):Int)+D.ae d):=by
  rw[hsb];generalize((2^j*2^ea:Nat):Int)=n at*;unfold mx;by_cases h1:aW bufs+n>aj
  .rw[if_pos h1,if_pos (by omega),if_pos (by omega)]
  .rw[if_neg h1]
 have out:∀{v:Value} {d':D} {H:Hp},(∀{M},M=[ah p (ba dp ap x),ah q (ba dp ap y),Dk dp d',Ar ap cap (mx aj (aW bufs+((2^j*2^ea:Nat):Int)+D.ae d)) bufs]->DU p q dp ap d x y (2^ea) (2^eb) (2^j) cap aj bufs v M)->
   Sep [ah p (ba dp ap x),ah q (ba dp ap y),Dk dp d',Ar ap cap (mx (mx aj (aW bufs+((2^j*2^ea:Nat):Int))) (aW (bufs++[(bn,2^j*2^ea,some (O bb))])+D.ae d)) bufs,TT] H->∃ M,(∃ M0,DU p q dp ap d x y (2^ea) (2^eb) (2^j) cap aj bufs v M0/\M=M0++[TT])/\Sep M H:=fun h hs=>by
  rw[hpk]at hs;exact⟨_,⟨_,h rfl,rfl⟩,hs⟩
 have hkk:=vm (p:=p) (q:=q) (dp:=dp) (ap:=ap) (rn:=rn) (bn:=bn) (bb:=bb) (sb:=sb) (vb:=vb) (x:=x) (y:=y) (cap:=cap) (aj:=mx aj (aW bufs+((2^j*2^ea:Nat):Int))) (bufs:=bufs) (mb:=2^j*2^ea) (TT:=TT) (fun v H'=>∃ M,(∃ M0,DU p q dp ap d x y (2^ea) (2^eb) (2^j) cap aj bufs v M0/\M=M0++[TT])/\Sep M H') hok hx hy ho hxw hyw hdis hb1 (div_pow hjb) hsz hr1 hc1 (by rw[hsb];omega) hbm rfl
  (fun d' H hI hs=>out (fun e=>.inl ⟨d',hI,rfl,e⟩) hs) (fun d' H hd hfu hs=>out (fun e=>.inr ⟨d',hd,hfu,rfl,e⟩) hs) (2^eb/2^j) 0 d _ (List.replicate (2^j*2^ea) 0) H (by omega)
  ⟨by simpa [rT,wT]using Prog.refl (iy y) hok hl,fun _ _=>rfl,fun k hk=>by simp at hk⟩ (by simp) rfl (.inl rfl)
 have e0:((0*2^j:Nat):Int)=0:=by rw[Nat.zero_mul];rfl
 rw[e0]at hkk;refine hkk ?_;have hs:=hs.re [6,8,1,2,3,4,0,7,5] rfl;unfold ky;simp only[Nat.zero_mul,Nat.mul_zero,List.take_zero];exact hs
end
end Trn
end Go.Proofs.YtlgnlghmbcpmhaaGreatDoor
