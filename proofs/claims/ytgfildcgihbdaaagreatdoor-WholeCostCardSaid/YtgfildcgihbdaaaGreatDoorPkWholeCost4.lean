import Derived.Test.YtgfildcgihbdaaaGreatDoorProg
import Derived.DeepKeys
import Derived.Test.YtgfildcgihbdaaaGreatDoorPkWholeCost3
set_option maxRecDepth 100000
set_option linter.unusedSimpArgs false
set_option linter.unusedVariables false
set_option linter.unnecessarySimpa false
set_option linter.unusedSectionVars false
open Go.IntKind (i64 u32 u64 u8)
namespace Go.Proofs.YtgfildcgihbdaaaGreatDoor.Dsk
open Go Go.Hw W
structure D where
 sec:Nat
 size:Nat
 safe:Int→Option (List UInt8)
 cache:Int→Option (List UInt8)
 tch:Int→Bool
 rd:Nat
 wr:Nat
 sy:Nat
 down:Bool
 fuse:Nat
def jZS (l:List UInt8):Value:=.string ⟨l.toArray⟩
def bZp (m:Int→Option (List UInt8)):Int→Option Value:=fun k=>(m k).map jZS
def hZY (m:Int→Bool):Int→Option Value:=fun k=>if m k then some (.int .i64 1)else none
def iZm (d:D)(r1 r2 r3:Nat):AO:=.obj (.cells #[.int .i64 d.sec,.int .i64 d.size,.map (some r1),.int .i64 d.rd,.int .i64 d.wr,.int .i64 d.sy,.map (some r2),.bool d.down,.int .i64 d.fuse,.map (some r3)] 54)
structure Ok (d:D):Prop where
 sec:1≤d.sec∧d.sec≤1048576
 size:32≤d.size∧d.size≤4096
 big:d.sec*d.size≤67108864
 per:d.size%8=0
 safe:∀ k b,d.safe k=some b→b.length=d.size
 cache:∀ k b,d.cache k=some b→b.length=d.size
 fz:d.fuse≤9223372036854775807
def Dk (p:Nat)(d:D):As:=fun H=>∃ r1 r2 r3,Sep [pts p (iZm d r1 r2 r3),Mp r1 (bZp d.safe),Mp r2 (hZY d.tch),Mp r3 (bZp d.cache)] H
theorem Sep.fold {M L:List As}{A:As}{H:Hp}(h:Sep (M++L) H)(k:∀ H1,Sep M H1→A H1):Sep (A::L) H:=by
 obtain⟨H1,H2,h1,h2,h3,h4,h5⟩:=h.append;exact⟨H1,H2,h1,h2,h3,k H1 h4,h5⟩
theorem Dk.open {p:Nat}{d:D}{L:List As}{H:Hp}(h:Sep (Dk p d::L) H):∃ r1 r2 r3,Sep (pts p (iZm d r1 r2 r3)::Mp r1 (bZp d.safe)::Mp r2 (hZY d.tch)::Mp r3 (bZp d.cache)::L) H:=by
 obtain⟨H1,H2,h1,h2,h3,⟨r1,r2,r3,h4⟩,h5⟩:=h;exact⟨r1,r2,r3,Sep.join h1 h2 h3 h4 h5⟩
theorem Dk.shut {p:Nat}{d:D}{r1 r2 r3:Nat}{L:List As}{H:Hp}(h:Sep (pts p (iZm d r1 r2 r3)::Mp r1 (bZp d.safe)::Mp r2 (hZY d.tch)::Mp r3 (bZp d.cache)::L) H):Sep (Dk p d::L) H:=
 Sep.fold (M:=[pts p (iZm d r1 r2 r3),Mp r1 (bZp d.safe),Mp r2 (hZY d.tch),Mp r3 (bZp d.cache)]) h fun H1 h1=>⟨r1,r2,r3,h1⟩
theorem Dk.see {p:Nat}{d:D}{L:List As}{H:Hp}(h:Sep L H)(i:Nat)(hi:L[i]? =some (Dk p d)):∃ r1 r2 r3,H p=some (iZm d r1 r2 r3):=by
 obtain⟨H1,⟨r1,r2,r3,h1⟩,hle⟩:=h.see i hi;exact⟨r1,r2,r3,hle _ _ (h1.get 0 rfl)⟩
section
variable {L : List As} {H : Hp} {p : Nat} {d : D}
theorem eZG (h:Sep L H)(i:Nat)(hi:L[i]? =some (Dk p d)):Za Tryz.prog 41 #[.pointer (some ⟨p,0,none⟩)] H (RetE (.int .i64 (d.sec:Int)) H):=by
 obtain⟨r1,r2,r3,hd⟩:=Dk.see h i hi;apply cZJ.ok;unfold cZJ;simp only[HS];refine bZn hd (v:=.int .i64 d.sec) rfl ?_;simp only[HV];exact RetE.mk _ _
theorem hZH (h:Sep L H)(i:Nat)(hi:L[i]? =some (Dk p d)):Za Tryz.prog 42 #[.pointer (some ⟨p,0,none⟩)] H (RetE (.int .i64 (d.size:Int)) H):=by
 obtain⟨r1,r2,r3,hd⟩:=Dk.see h i hi;apply dZt.ok;unfold dZt;simp only[HS];refine bZn hd (v:=.int .i64 d.size) rfl ?_;simp only[HV];exact RetE.mk _ _
theorem wZs (h:Sep L H)(i:Nat)(hi:L[i]? =some (Dk p d)):Za Tryz.prog 32 #[.pointer (some ⟨p,7,none⟩)] H (RetE (.bool d.down) H):=by
 obtain⟨r1,r2,r3,hd⟩:=Dk.see h i hi;apply dZP.ok;unfold dZP;simp only[HS];refine bZn hd (v:=.bool d.down) rfl ?_;simp only[HV];exact RetE.mk _ _
theorem pZz (h:Sep L H)(i:Nat)(hi:L[i]? =some (Dk p d)):Za Tryz.prog 15 #[.pointer (some ⟨p,3,none⟩)] H (RetE (.agg #[.int .i64 (d.rd:Int),.int .i64 (d.wr:Int),.int .i64 (d.sy:Int)]) H):=by
 obtain⟨r1,r2,r3,hd⟩:=Dk.see h i hi;apply Za.ret;apply dZh.ok;unfold dZh;refine(Sep.start H).nw fun b1 H' hs=>?_
 simp only[HS];refine rZz (hs.ow 0 rfl _ _ hd) (off:=3) (n:=3) (by show 3+3≤10;omega) ?_;refine hs.stw 1 rfl rfl rfl rfl fun H' hs=>?_
 refine hs.ldw 1 rfl rfl ?_;exact hs.fin 0 rfl _
def D.chk (d:D)(i:Int):Int:=if d.down then 8 else if i<0∨i≥d.sec then 2 else 0
theorem jZ4 (h:Sep L H)(i:Nat)(hi:L[i]? =some (Dk p d))(x:Int):Za Tryz.prog 74 #[.pointer (some ⟨p,0,none⟩),.int .i64 x] H (RetE (.int .i64 (d.chk x)) H):=by
 obtain⟨r1,r2,r3,hd⟩:=Dk.see h i hi;apply dZN.ok;unfold dZN;simp only[HS];refine bZn hd (v:=.bool d.down) rfl ?_;simp only[HV];unfold D.chk;cases d.down with
 |true=>exact RetE.mk _ _
 |false=>
  simp only[HV];rw[if_neg (by simp)];by_cases h1:x<0
  ·rw[if_pos (.inl h1)];exact Zn h1 (RetE.mk _ _)
  ·refine Zh h1 ?_;refine bZn hd (v:=.int .i64 d.sec) rfl ?_;simp only[HV];by_cases h2:x≥d.sec
   ·rw[if_pos (.inr h2)];exact Zn h2 (RetE.mk _ _)
   ·rw[if_neg (by omega)];exact Zh h2 (RetE.mk _ _)
end
def D.burnt (d:D):D:=if d.fuse=0 then d else{ d with fuse:=d.fuse-1,down:=decide (d.fuse=1)}
def D.burns (d:D):Bool:=decide (d.fuse=1)
theorem kZI {p:Nat}{d:D}(hf:d.fuse≤9223372036854775807):Tr Tryz.prog 75 #[.pointer (some ⟨p,7,none⟩)] [Dk p d] fun v M=>v= .bool d.burns∧M=[Dk p d.burnt]:=fun H hs=>by
 obtain⟨r1,r2,r3,hs⟩:=Dk.open hs;apply dZv.ok;unfold dZv;simp only[HS];refine hs.ld 0 rfl rfl ?_;simp only[HV];by_cases h0:d.fuse=0
 ·refine ZS (by omega) ⟨_,⟨?_,rfl⟩,?_⟩
  ·unfold D.burns;rw[h0];rfl
  ·have:d.burnt=d:=by unfold D.burnt;rw[if_pos h0]
   rw[this];exact Dk.shut hs
 ·refine aZg (by omega) ?_;refine hs.ld 0 rfl rfl ?_;simp only[HV];refine hs.st 0 rfl (by show 8<10;omega) rfl fun H hs=>?_;refine hs.ld 0 rfl rfl ?_;simp only[HV];rw[ZG (x:=(d.fuse:Int)-1) (by omega) (by omega)]at hs⊢;refine hs.st 0 rfl (by show 7<10;omega) rfl fun H hs=>?_;refine hs.ld 0 rfl rfl ?_;simp only[HV];have e:((d.fuse:Int)-1==0)=d.burns:=by
   unfold D.burns;by_cases h1:d.fuse=1
   ·simp[h1]
   ·rw[decide_eq_false h1];simp;omega
  rw[e]at hs⊢;refine⟨_,⟨rfl,rfl⟩,?_⟩;have hb:d.burnt={ d with fuse:=d.fuse-1,down:=d.burns}:=by unfold D.burnt;rw[if_neg h0];rfl
  rw[hb];refine Dk.shut (r1:=r1) (r2:=r2) (r3:=r3) ?_;have ef:((d.fuse-1:Nat):Int)=(d.fuse:Int)-1:=by omega
  unfold iZm;simp only[ef];exact hs
end Go.Proofs.YtgfildcgihbdaaaGreatDoor.Dsk
namespace Go.Proofs.YtgfildcgihbdaaaGreatDoor.W
open Go Go.Hw
theorem mZ3 :Tryz.prog.follows .mixedOrders=true:=by kernel_rfl
def Zo.l1 (K:VK):Nat→Option Nat→VK
 |0,_,_,_=>False
 |k+1,r3,v2,H=>
  let R1:=Zo.l1 K k
  cZw Tryz.prog (Instr.next (v2) false 0) H fun v3 H2=>Ex v3 0 fun v4=>DB v4 fun c1=>BIf c1 (cZw Tryz.prog (Instr.entry (v2)) H2 fun v5 H3=>Ex v5 0 fun v6=>DI .i64 v6 fun x1=>Ex v5 1 fun v7=>DS v7 fun s1=>cZw Tryz.prog (Instr.mapUpdate 45 (.map r3) (.int .i64 x1) (.string s1)) H3 fun _ H4=>R1 r3 v2 H4) (K (.tuple #[]) H2)
def Zo (r1 r2:Option Nat)(H:Hp)(K:VK):Prop:=
 cZw Tryz.prog (Instr.range 45 (.map r2)) H fun v1 H1=>(∃ k,Zo.l1 K k r1 v1 H1)
def Zo.l1.L (K:VK)(k:Nat):Mid:=fun E D H=>
 DG (E.get? 0) fun w0=>DM w0 fun r3=>DG (E.get? 7) fun w7=>(fun v2=>Zk D (Zo.l1 K k r3 v2 H)) w7
def Zo.Λ1 (_:VK)(_R1:Option Nat→VK):Zt:=Zt.none (fun _=>none)
def Zo.Λ (K:VK):Zt:=⟨fun i=>none,fun i=>match Nat.beq i 1 with|true=>some (fun E D H=>∃ k,Zo.l1.L K k E D H)|false=>none,(fun _=>none)⟩
theorem Zo.ok r1 r2 H K (h:Zo r1 r2 H K):Za Tryz.prog 76 #[.map r1,.map r2] H K:=
 okL (Λ:=(Zo.Λ K)) mZ3 Tryz.func76 rfl rfl h (oC (fun E D H h=>by
   refine Safe.loop' (Zo.l1.L K) (fun E D H h=>?_) (fun k E D H h=>?_) E D H h
   ·obtain⟨w0,e0,g1⟩:=DG.out h;obtain⟨r3,rfl,g2⟩:=DM.out g1;obtain⟨w7,e7,g3⟩:=DG.out g2;obtain⟨v2,rfl⟩:∃ q,q=w7:=⟨_,rfl⟩;obtain⟨rfl,h'⟩:=Zk.out g3;exact h'
   ·obtain⟨w0,e0,g1⟩:=DG.out h;obtain⟨r3,rfl,g2⟩:=DM.out g1;obtain⟨w7,e7,g3⟩:=DG.out g2;obtain⟨v2,rfl⟩:∃ q,q=w7:=⟨_,rfl⟩;obtain⟨rfl,h'⟩:=Zk.out g3;exact okJ (Λ:=(Zo.Λ1 K (Zo.l1 K k))) mZ3 [] (Zb.cons e0 (Zb.cons e7 (Zb.nil _))) h' oN) oN)
end Go.Proofs.YtgfildcgihbdaaaGreatDoor.W
namespace Go.Proofs.YtgfildcgihbdaaaGreatDoor.Dsk
open Go Go.Hw W
theorem hZw :Tryz.prog.underlying 3=some (.int .i64):=by kernel_rfl
theorem gZn :Tryz.prog.underlying 45=some (.map 3 9):=by kernel_rfl
theorem xZg :Tryz.prog.underlying 48=some (.map 3 3):=by kernel_rfl
theorem rZo :∃ j,Tryz.prog.info? 9=some j∧j.zero=some (.string ByteArray.empty):=by
 have h:(Tryz.prog.info? 9).map (·.zero)=some (some (.string ByteArray.empty)):=by kernel_rfl
 obtain⟨j,hj,h2⟩:=Option.map_eq_some_iff.1 h;exact⟨j,hj,h2⟩
theorem wZL :bZi Tryz.prog 5=some (1,1,some #[.int .u8 0]):=by kernel_rfl
def D.fresh (sec size:Nat):D:=⟨sec,size,fun _=>none,fun _=>none,fun _=>false,0,0,0,false,0⟩
def D.sat (d:D)(i:Int):List UInt8:=(d.safe i).getD (List.replicate d.size 0)
def D.now (d:D)(i:Int):List UInt8:=(d.cache i).getD (d.sat i)
theorem Ok.sat {d:D}(h:Ok d)(i:Int):(d.sat i).length=d.size:=by
 unfold D.sat;cases e:d.safe i with
 |none=>simp
 |some b=>exact h.safe i b e
theorem Ok.now {d:D}(h:Ok d)(i:Int):(d.now i).length=d.size:=by
 unfold D.now;cases e:d.cache i with
 |none=>exact h.sat i
 |some b=>exact h.cache i b e
theorem Ok.burnt {d:D}(h:Ok d):Ok d.burnt:=by
 unfold D.burnt;split
 ·exact h
 ·exact⟨h.sec,h.size,h.big,h.per,h.safe,h.cache,Nat.le_trans (Nat.sub_le _ _) h.fz⟩
theorem Ok.fresh {sec size:Nat}(h1:1≤sec∧sec≤1048576)(h2:0<Lay.ZD size)(h3:sec*size≤67108864):Ok (D.fresh sec size):=by
 have h:size=32∨size=64∨size=128∨size=256∨size=512∨size=1024∨size=2048∨size=4096:=by
  unfold Lay.ZD at h2
  repeat' split at h2
  all_goals omega
 refine⟨h1,?_,h3,?_,fun k b h=>(by cases h),fun k b h=>(by cases h),Nat.zero_le _⟩
 ·show 32≤size∧size≤4096;omega
 ·show size%8=0;omega
theorem dZp (sec size:Nat)(h1:1≤sec∧sec≤1048576)(h2:0<Lay.ZD size)(h3:sec*size≤67108864):Tr Tryz.prog 11 #[.int .i64 sec,.int .i64 size] [] fun v M=>∃ p,v= .pointer (some ⟨p,0,none⟩)∧M=[Dk p (D.fresh sec size)]:=fun H hs=>by
 apply hZd.ok;unfold hZd;have h32:¬((size:Int)<32):=fun h=>by rw[Lay.iZ4 h]at h2;omega
 have h40:¬((size:Int)>4096):=fun h=>by rw[Lay.iZ3 h]at h2;omega
 refine Zh (by omega) (Zh (by omega) (Zh h32 (Zh h40 ?_)));have ht:=List.all_eq_true.1 Lay.nZc size (by simp;omega);rw[if_pos (by omega)]at ht;rw[show((size:Int)-1)=((size-1:Nat):Int) by omega,ZG (by omega) (by omega),Lay.iZT (by omega) (by omega)];split at ht
 ·rename_i h4
  simp only[beq_iff_eq]at h4;rw[h4];refine Zq rfl ⟨by omega,rfl,?_⟩;rw[show Int.tdiv 67108864 (size:Int)=((67108864/size:Nat):Int)from rfl];have hd:sec≤67108864/size:=(Nat.le_div_iff_mul_le (by omega)).2 h3;have hle:67108864/size≤67108864:=Nat.div_le_self _ _;rw[aZJ (by omega)];refine Zh (by omega) ?_;refine hs.nw fun b1 H hs=>?_
  have hs:=Mp.new hs;refine hs.nw fun b2 H hs=>?_
  have hs:=Mp.new hs;refine hs.nw fun b3 H hs=>?_
  have hs:=Mp.new hs;refine hs.nw fun b4 H hs=>?_
  refine⟨_,⟨b4,rfl,rfl⟩,Dk.shut (r1:=b1) (r2:=b2) (r3:=b3) (hs.re [3,0,1,2] rfl)⟩
 ·simp only[beq_iff_eq]at ht;omega
theorem wZQ {p:Nat}{d:D}(hok:Ok d)(i:Int):Tr Tryz.prog 134 #[.pointer (some ⟨p,0,none⟩),.int .i64 i] [Dk p d] fun v M=>∃ b,v= .slice (some ⟨b,0,none⟩) d.size d.size∧M=[Dk p d,pts b (.row (Zm (d.sat i)) 5 d.size)]:=fun H hs=>by
 obtain⟨r1,r2,r3,hs⟩:=Dk.open hs;obtain⟨jz,hz1,hz2⟩:=rZo;have hsz:=hok.size;apply dZO.ok;unfold dZO;simp only[HS];refine hs.ld 0 rfl rfl ?_;simp only[HV];refine hs.mks wZL rfl (n:=d.size) (m:=d.size) rfl rfl (Nat.le_refl _) (by omega) (by omega) fun b H hs=>?_
 simp only[HV];refine hs.ld 0 rfl rfl ?_;simp only[HV];obtain⟨H1,⟨l,clock,hr1,hgk⟩,hle⟩:=hs.see 1 rfl;refine mZj hZw gZn hz1 hz2 (hle _ _ hr1) false ?_;rw[hgk.get];have e:∀ bs:List UInt8,(bs.length=d.size∨bs=[])→setAt (aZv [.int .u8 0] d.size) 0 (Zm bs)=Zm (if bs=[]then List.replicate d.size 0 else bs):=fun bs hb=>by
  rw[bZw];rcases hb with hb|rfl
  ·rw[gZ4 (by rw[ZL,List.length_replicate];exact hb),if_neg (fun e=>by rw[e]at hb;simp at hb;omega)]
  ·rw[show Zm []=[]from rfl,fZN,if_pos rfl];simp[Zm]
 have fin:∀ bs:List UInt8,(bs.length=d.size∨bs=[])→(if bs=[]then List.replicate d.size 0 else bs)=d.sat i→
   CpK Tryz.prog 5 (.slice (some ⟨b,0,none⟩) d.size d.size) (.string ⟨bs.toArray⟩) H fun v5 H2=>DI .i64 v5 fun x3=>∃ M,(∃ b',(.slice (some ⟨b,0,none⟩) d.size d.size:Value)= .slice (some ⟨b',0,none⟩) d.size d.size∧M=[Dk p d,pts b' (.row (Zm (d.sat i)) 5 d.size)])∧Sep M H2:=fun bs hb hsat=>by
  have hlb:bs.length≤d.size:=by rcases hb with hb|rfl<;>simp_all
  refine hs.cp 4 (k:=bs.length) (ys:=Zm bs) rfl wZL rfl ?_ (by rw[ZL,bZI];simp;omega) (fun y hy=>?_) fun H hs=>?_
  ·rw[show Nat.min bs.length d.size=bs.length from Nat.min_eq_left hlb];show some (Zm ((⟨bs.toArray⟩:ByteArray).extract 0 bs.length).data.toList)=_
   congr 2;simp[ByteArray.extract,ByteArray.copySlice]
  ·obtain⟨x,_,rfl⟩:=List.mem_map.1 hy;rfl
  ·simp only[HV];refine⟨_,⟨b,rfl,rfl⟩,?_⟩;rw[e bs hb,hsat,Nat.mul_one]at hs;exact Dk.shut (hs.re [0,1,2,3,4] rfl)
 unfold bZp;cases hsf:d.safe i with
 |none=>
  exact fin [] (.inr rfl) (by unfold D.sat;rw[hsf];rfl)
 |some bs=>
  have:=hok.safe i bs hsf;exact fin bs (.inl this) (by unfold D.sat;rw[hsf,if_neg (fun e=>by rw[e]at this;simp at this;omega)];rfl)
def uZY (p:Nat)(d:D)(i:Int)(v:Value)(M:List As):Prop:=
 (d.chk i≠0∧v= .tuple #[.slice none 0 0,.int .i64 (d.chk i)]∧M=[Dk p d])∨
 (d.chk i=0∧d.burns=true∧v= .tuple #[.slice none 0 0,.int .i64 8]∧M=[Dk p d.burnt])∨
 (d.chk i=0∧d.burns=false∧∃ b c m,v= .tuple #[.slice (some ⟨b,0,none⟩) d.size c,.int .i64 0]∧d.size≤c∧M=[Dk p { d.burnt with rd:=d.rd+1},pts b (.row (Zm (d.now i)) 5 m)])
theorem bZ6 (d:D):d.burnt.rd=d.rd∧d.burnt.wr=d.wr∧d.burnt.sy=d.sy∧d.burnt.size=d.size∧d.burnt.sec=d.sec∧d.burnt.safe=d.safe∧d.burnt.cache=d.cache∧d.burnt.tch=d.tch:=by
 unfold D.burnt;split<;>simp
theorem jZ2 {p:Nat}{d:D}(hok:Ok d)(ho:d.rd≤4611686018427387904)(i:Int):Tr Tryz.prog 91 #[.pointer (some ⟨p,0,none⟩),.int .i64 i] [Dk p d] (uZY p d i):=fun H hs=>by
 obtain⟨jz,hz1,hz2⟩:=rZo;have hsz:=hok.size;have hf:=hok.fz;apply dZ9.ok;unfold dZ9;simp only[HS];refine Za.use (jZ4 hs 0 rfl i) ?_
 try simp only[HV]
 by_cases hc:d.chk i=0
 ·refine Zq hc ?_;refine(kZI hf).use hs [0] rfl rfl ?_;rintro _ _ H ⟨rfl,rfl⟩ hs;simp only[HV];cases hb:d.burns with
  |true=>exact⟨_,.inr (.inl ⟨hc,hb,rfl,rfl⟩),hs⟩
  |false=>
   simp only[HV];have hbr:=bZ6 d;obtain⟨r1,r2,r3,hs⟩:=Dk.open (L:=[]) hs;refine hs.ld 0 rfl rfl ?_;simp only[HV];refine hs.st 0 rfl (by show 3<10;omega) rfl fun H hs=>?_;rw[hbr.1]at hs;rw[ZG (x:=(d.rd:Int)+1) (by omega) (by omega)]at hs;refine hs.ld 0 rfl rfl ?_;simp only[HV];have hs:Sep [pts p (iZm { d.burnt with rd:=d.rd+1} r1 r2 r3),Mp r1 (bZp d.burnt.safe),Mp r2 (hZY d.burnt.tch),Mp r3 (bZp d.burnt.cache)] H:=hs;obtain⟨H1,⟨l,clock,hr1,hgk⟩,hle⟩:=hs.see 3 rfl;refine mZj hZw gZn hz1 hz2 (hle _ _ hr1) true ?_;rw[hgk.get,hbr.2.2.2.2.2.2.1];unfold bZp;cases hcd:d.cache i with
   |some bs=>
    have hl:=hok.cache i bs hcd;simp only[Option.map_some,jZS,if_true];simp only[HV];refine⟨by show bs.toArray.size≤_;simp;omega,fun c hbc=>?_⟩;refine hs.nw fun b H hs=>?_
    simp only[HV];have hsize:((⟨bs.toArray⟩:ByteArray).size)=d.size:=by show bs.toArray.size=_;simpa using hl
    rw[hsize]at hbc⊢;refine⟨_,.inr (.inr ⟨hc,hb,b,c,c,rfl,hbc,rfl⟩),?_⟩;have:d.now i=bs:=by unfold D.now;rw[hcd];rfl
    rw[this];exact Dk.shut hs
   |none=>
    simp only[Option.map_none,if_true];simp only[HV];have hs:=Dk.shut (L:=[]) hs;have hsat:(D.sat { d.burnt with rd:=d.rd+1} i)=d.sat i:=by unfold D.sat;rw[show({ d.burnt with rd:=d.rd+1}:D).safe=d.burnt.safe from rfl,hbr.2.2.2.2.2.1,show({ d.burnt with rd:=d.rd+1}:D).size=d.burnt.size from rfl,hbr.2.2.2.1]
    have hok2:Ok { d.burnt with rd:=d.rd+1}:=⟨hok.burnt.sec,hok.burnt.size,hok.burnt.big,hok.burnt.per,hok.burnt.safe,hok.burnt.cache,hok.burnt.fz⟩;refine(wZQ hok2 i).use hs [0] rfl rfl ?_;rintro _ _ H ⟨b,rfl,rfl⟩ hs;simp only[HV];refine⟨_,.inr (.inr ⟨hc,hb,b,d.size,d.size,?_,Nat.le_refl _,rfl⟩),?_⟩
    ·show(Value.tuple #[.slice (some ⟨b,0,none⟩) d.burnt.size d.burnt.size,.int .i64 0])=_
     rw[hbr.2.2.2.1]
    ·have:d.now i=d.sat i:=by unfold D.now;rw[hcd];rfl
     rw[this,←hsat];have e:({ d.burnt with rd:=d.rd+1}:D).size=d.size:=hbr.2.2.2.1;rw[← e];exact hs
 ·refine ZA hc ⟨_,.inl ⟨hc,rfl,rfl⟩,hs⟩
def cZy (m:Int→Option (List UInt8))(k:Int)(v:List UInt8):Int→Option (List UInt8):=fun j=>if j=k then some v else m j
def hZ0 (m:Int→Bool)(k:Int):Int→Bool:=fun j=>if j=k then true else m j
theorem oZ7 (m:Int→Option (List UInt8))(k:Int)(v:List UInt8):fZH (bZp m) k (jZS v)=bZp (cZy m k v):=by
 funext j
 unfold fZH bZp cZy;split<;>rfl
theorem xZh (m:Int→Bool)(k:Int):fZH (hZY m) k (.int .i64 1)=hZY (hZ0 m k):=by
 funext j
 unfold fZH hZY hZ0;split<;>rfl
def D.wrote (d:D)(i:Int)(bs:List UInt8):D:={ d.burnt with wr:=d.wr+1,tch:=hZ0 d.tch i,cache:=cZy d.cache i bs}
def D.writeE (d:D)(i:Int)(n:Nat):Int:=if d.chk i≠0 then d.chk i else if n≠d.size then 19 else if d.burns then 8 else 0
def D.writeD (d:D)(i:Int)(bs:List UInt8):D:=if d.chk i≠0 then d else if bs.length≠d.size then d else if d.burns then d.burnt else d.wrote i bs
theorem eZc {p:Nat}{d:D}(hok:Ok d)(ho:d.wr≤4611686018427387904)(i:Int)(A:OA)(n m:Nat)(bs:List UInt8)(hn:n=bs.length)(R:As)(hR:∀ H,R H→Cells H A (Zm bs)):
  Tr Tryz.prog 45 #[.pointer (some ⟨p,0,none⟩),.int .i64 i,.slice A n m] [Dk p d,R] fun v M=>v= .int .i64 (d.writeE i n)∧M=[Dk p (d.writeD i bs),R]:=fun H hs=>by
 have hf:=hok.fz;have hsz:=hok.size;apply dZM.ok;unfold dZM;simp only[HS];refine Za.use (jZ4 hs 0 rfl i) ?_
 try simp only[HV]
 by_cases hc:d.chk i=0
 ·refine Zq hc ?_;obtain⟨r1,r2,r3,hd⟩:=Dk.see hs 0 rfl;refine bZn hd (v:=.int .i64 d.size) rfl ?_;simp only[HV];by_cases hnd:n=d.size
  ·refine Zq (by omega) ?_;have hnl:bs.length=d.size:=by omega
   refine(kZI hf).use hs [0] rfl rfl ?_;rintro _ _ H ⟨rfl,rfl⟩ hs;simp only[HV];cases hb:d.burns with
   |true=>exact⟨_,⟨by simp[D.writeE,hc,hnd,hb],by simp[D.writeD,hc,hnl,hb];rfl⟩,hs⟩
   |false=>
    simp only[HV];have hbr:=bZ6 d;obtain⟨r1,r2,r3,hs⟩:=Dk.open hs;refine hs.ld 0 rfl rfl ?_;simp only[HV];refine hs.st 0 rfl (by show 4<10;omega) rfl fun H hs=>?_;rw[hbr.2.1]at hs;rw[ZG (x:=(d.wr:Int)+1) (by omega) (by omega)]at hs;refine hs.ld 0 rfl rfl ?_;simp only[HV];refine hs.upd hZw xZg 2 rfl fun H hs=>?_;rw[xZh,hbr.2.2.2.2.2.2.2]at hs;refine hs.ld 0 rfl rfl ?_;simp only[HV];obtain⟨H1,hR1,hle⟩:=hs.see 4 (A:=R) rfl;refine rZr ((hR H1 hR1).le hle) hn ?_;refine hs.upd hZw gZn 3 rfl fun H hs=>?_;rw[show(Value.string ⟨bs.toArray⟩)=jZS bs from rfl,oZ7,hbr.2.2.2.2.2.2.1]at hs;refine⟨_,⟨by simp[D.writeE,hc,hnd,hb],by simp[D.writeD,hc,hnl,hb];rfl⟩,?_⟩;exact Dk.shut (d:=d.wrote i bs) (r1:=r1) (r2:=r2) (r3:=r3) hs
  ·refine ZA (by omega) ?_;have hnl:bs.length≠d.size:=by omega
   exact⟨_,⟨by simp[D.writeE,hc,hnd],by simp[D.writeD,hc,hnl]⟩,hs⟩
 ·refine ZA hc ?_;exact⟨_,⟨by simp[D.writeE,hc],by simp[D.writeD,hc]⟩,hs⟩
theorem rZR {d:D}{i:Int}(h:d.chk i=0):0≤i∧i<d.sec∧d.down=false:=by
 unfold D.chk at h;split at h
 ·omega
 ·split at h
  ·omega
  ·rename_i h1 h2
   exact⟨by omega,by omega,by simpa using h1⟩
end Go.Proofs.YtgfildcgihbdaaaGreatDoor.Dsk
namespace Go.Proofs.YtgfildcgihbdaaaGreatDoor.Lay
open Go Go.Hw W
def kZM (f s w:Int):Array Value:=#[.int .i64 f,.int .i64 s,.int .i64 w]
def bZJ (k p:Nat):Array Value:=
 let r:Int:=ZF k p
 let w:Int:=(2^k:Nat)
 #[.int .i64 k,.int .i64 p,.int .i64 1,.int .i64 8,.int .i64 ((8*p:Nat):Int),.int .i64 9,.int .i64 r,.int .i64 w,.int .i64 (9+r),.int .i64 r,.int .i64 w,.int .i64 (9+2*r),.int .i64 r,.int .i64 w,.int .i64 (9+3*r),.int .i64 r,.int .i64 w]
def mZi :Array Value:=#[.int .i64 0,.int .i64 0,.int .i64 0,.int .i64 0,.int .i64 0,.int .i64 0,.int .i64 0,.int .i64 0,.int .i64 0,.int .i64 0,.int .i64 0,.int .i64 0,.int .i64 0,.int .i64 0,.int .i64 0,.int .i64 0,.int .i64 0]
theorem iZb (K:VK)(d b1 b2:Nat)(e:TypeId)(k:Nat)(hk:k≤32)(H:Hp)(c:Array Value)(hc:c.size=17)(x r:Int)(hx:0≤x∧x≤100000000000)(hr:0≤r∧r≤100000000000)(i:Nat)(hi:i<4)
  (h:aZL.l4 K d (k:Int) ⟨b1,0,none⟩ ⟨b2,0,none⟩ (x+r) r ((i+1:Nat):Int) (H.set b2 (.obj (.cells (setAt c.toList (5+i*3) (kZM x r ((2^k:Nat):Int)).toList).toArray e)))):
  aZL.l4 K (d+1) (k:Int) ⟨b1,0,none⟩ ⟨b2,0,none⟩ x r (i:Int) (H.set b2 (.obj (.cells c e))):=by
 conv=>unfold aZL.l4
 refine Zn (by omega) ⟨by rw[cZg (by omega)];omega,by omega,by omega,?_⟩;simp only[Addr.add_lit',Int.toNat_natCast,Nat.zero_add];rw[cZg (by omega),gZz (by omega)];refine pZG (Hp.set_same _ _ _) (by omega) (by rfl) (by rfl) ?_;rw[Hp.set_set,ZG (x:=x+r) (by omega) (by omega),ZG (x:=(i:Int)+1) (by omega) (by omega)];exact h
theorem sZl {k p:Nat}(hk:k≤32)(hp:0<p)(hp2:p≤512)(H:Hp):Za Tryz.prog 98 #[.int .i64 k,.int .i64 p] H (RetE (.agg (bZJ k p)) H):=by
 apply Za.ret;apply aZL.ok;unfold aZL;intro b1 hb1;intro b2 hb2';obtain⟨hne,hb2⟩:=Hp.set_none hb2';refine hZy (Hp.set_same _ _ _) (by rfl) (by rfl) (by rfl) ?_;rw[Hp.set_set];refine Za.use (pZ7 (k:=k) (p:=p) (by omega) hp (by omega) _) ?_
 try simp only[HV]
 have hr:=oZT (k:=k) (p:=p) (by omega);have w8:i64.wrap (8*(p:Int))=((8*p:Nat):Int):=by rw[ZG (by omega) (by omega)];omega
 rw[w8];refine⟨5,?_⟩;refine iZb _ 4 b1 b2 _ k hk _ _ (by rfl) 9 _ (by omega) (by omega) 0 (by omega) ?_;refine iZb _ 3 b1 b2 _ k hk _ _ (by rfl) _ _ (by omega) (by omega) 1 (by omega) ?_;refine iZb _ 2 b1 b2 _ k hk _ _ (by rfl) _ _ (by omega) (by omega) 2 (by omega) ?_;refine iZb _ 1 b1 b2 _ k hk _ _ (by rfl) _ _ (by omega) (by omega) 3 (by omega) ?_;unfold aZL.l4;refine Zh (by decide) ?_;have hv:(setAt (setAt (setAt (setAt (#[.int .i64 (k:Int),.int .i64 (p:Int),.int .i64 1,.int .i64 8,.int .i64 ((8*p:Nat):Int),.int .i64 0,.int .i64 0,.int .i64 0,.int .i64 0,.int .i64 0,.int .i64 0,.int .i64 0,.int .i64 0,.int .i64 0,.int .i64 0,.int .i64 0,.int .i64 0]:Array Value).toList
   (5+0*3) (kZM 9 (ZF k p) ((2^k:Nat):Int)).toList).toArray.toList (5+1*3) (kZM (9+ZF k p) (ZF k p) ((2^k:Nat):Int)).toList).toArray.toList (5+2*3) (kZM (9+ZF k p+ZF k p) (ZF k p) ((2^k:Nat):Int)).toList).toArray.toList (5+3*3) (kZM (9+ZF k p+ZF k p+ZF k p) (ZF k p) ((2^k:Nat):Int)).toList).toArray=bZJ k p:=by
  have e2:(9+(ZF k p:Int)+ZF k p)=9+2*ZF k p:=by omega
  have e3:(9+2*(ZF k p:Int)+ZF k p)=9+3*ZF k p:=by omega
  rw[e2,e3];rfl
 rw[hv];refine fZI (Hp.set_same _ _ _) (by rfl) ?_;refine hZy (c:=mZi) (y:=(bZJ k p)) (by rw[Hp.set_other _ _ (Ne.symm hne)];exact Hp.set_same _ _ _) (by rfl) (by rfl) (by rfl) ?_;refine fZI (Hp.set_same _ _ _) (by rfl) ?_;exact⟨rfl,fun b q hq=>by
  have h1:b≠b1:=fun e=>by rw[e,hb1]at hq;cases hq
  have h2:b≠b2:=fun e=>by rw[e,hb2]at hq;cases hq
  rw[Hp.set_other _ _ h1,Hp.set_other _ _ h2,Hp.set_other _ _ h1];exact hq⟩
def OfV (k sec s:Int):Array Value×Int:=
 if 0≤k∧k≤32∧0<ZD s then(if sec<bZs k.toNat (ZD s)then(mZi,7)else(bZJ k.toNat (ZD s),0))else(mZi,1)
theorem eZB (k sec s:Int)(H:Hp):Za Tryz.prog 70 #[.int .i64 k,.int .i64 sec,.int .i64 s] H (RetE (.tuple #[.agg (OfV k sec s).1,.int .i64 (OfV k sec s).2]) H):=by
 apply Za.ret;apply gZJ.ok;unfold gZJ;intro b hb;have hle:=fun o=>Hp.le_set (o:=o) hb
 refine Za.use (jZ0 k s _) ?_
 try simp only[HV]
 unfold OfV gZE;by_cases h:0≤k∧k≤32∧0<ZD s
 ·rw[if_pos h,if_pos h];refine aZc (by rfl) ?_;by_cases h2:sec<(bZs k.toNat (ZD s):Int)
  ·rw[if_pos h2];refine Zn h2 ?_;refine hZy (Hp.set_same _ _ _) (by rfl) (by rfl) (by rfl) (fZI (Hp.set_same _ _ _) (by rfl) ?_);rw[Hp.set_set];exact⟨rfl,hle _⟩
  ·rw[if_neg h2];refine Zh h2 ?_;refine Za.use (lZK s _) ?_
   try simp only[HV]
   obtain⟨n,rfl⟩:=Int.eq_ofNat_of_zero_le h.1;have:=iZE s;refine Za.use (sZl (k:=n) (p:=ZD s) (by omega) h.2.2 this _) ?_
   try simp only[HV]
   refine hZy (Hp.set_same _ _ _) (by rfl) (by rfl) (by rfl) (fZI (Hp.set_same _ _ _) (by rfl) ?_);rw[Hp.set_set];exact⟨rfl,hle _⟩
 ·rw[if_neg h,if_neg h];refine aZx (by rfl) ?_;refine hZy (Hp.set_same _ _ _) (by rfl) (by rfl) (by rfl) (fZI (Hp.set_same _ _ _) (by rfl) ?_);rw[Hp.set_set];exact⟨rfl,hle _⟩
def eZs (f s w p i:Int):Int×Int×Int:=if p<1∨i<0∨i≥w∨Int.tdiv i p≥s then(0,0,2)else(f+Int.tdiv i p,Int.tmod i p,0)
theorem rZF (f s w p i:Int)(hf:0≤f∧f≤1000000000000)(hw:w≤1000000000000)(H:Hp):
  Za Tryz.prog 157 #[.agg (kZM f s w),.int .i64 p,.int .i64 i] H (RetE (.tuple #[.int .i64 (eZs f s w p i).1,.int .i64 (eZs f s w p i).2.1,.int .i64 (eZs f s w p i).2.2]) H):=by
 apply Za.ret;apply eZD.ok;unfold eZD;intro b hb;have hle:=Hp.le_set (o:=.obj (.cells #[.int .i64 f,.int .i64 s,.int .i64 w] 87)) hb;simp only[Addr.add_lit',Nat.zero_add];have no:(p<1∨i<0∨i≥w∨Int.tdiv i p≥s)→Ret (.tuple #[.int .i64 (eZs f s w p i).1,.int .i64 (eZs f s w p i).2.1,.int .i64 (eZs f s w p i).2.2]) H (.tuple #[.int .i64 0,.int .i64 0,.int .i64 2]) (H.set b (.obj (.cells #[.int .i64 f,.int .i64 s,.int .i64 w] 87))):=fun h=>by
  unfold eZs;rw[if_pos h];exact⟨rfl,hle⟩
 rw[cZU,cZU];split
 ·exact no (by omega)
 split
 ·exact no (by omega)
 refine bZn (Hp.set_same _ _ _) (v:=.int .i64 w) rfl ?_;simp only[HV];rw[cZU];split
 ·exact no (by omega)
 refine⟨by omega,by simp,?_⟩;refine bZn (Hp.set_same _ _ _) (v:=.int .i64 s) rfl ?_;simp only[HV];have h1:0≤Int.tdiv i p:=Int.tdiv_nonneg (by omega) (by omega);have h2:Int.tdiv i p≤i:=by
  obtain⟨a,rfl⟩:=Int.eq_ofNat_of_zero_le (show 0≤i by omega);obtain⟨c,rfl⟩:=Int.eq_ofNat_of_zero_le (show 0≤p by omega);exact Int.ofNat_le.2 (Nat.div_le_self a c)
 rw[ZG (x:=Int.tdiv i p) (by omega) (by omega),cZU];split
 ·rename_i h3;exact no (by omega)
 refine bZn (Hp.set_same _ _ _) (v:=.int .i64 f) rfl ?_;simp only[HV];refine⟨by omega,by simp,by omega,by simp,?_⟩;rw[ZG (x:=f+Int.tdiv i p) (by omega) (by omega)];unfold eZs;rw[if_neg (by omega)];exact⟨rfl,hle⟩
def exF (r:Int)(i:Nat):Int:=9+i*r
theorem sZk (k p i:Nat)(hi:i<4):(bZJ k p)[5+i*3]? =some (.int .i64 (exF (ZF k p) i)):=by
 unfold exF;rcases(by omega:i=0∨i=1∨i=2∨i=3)with rfl|rfl|rfl|rfl<;>simp[bZJ]
section
variable (K : Value → Hp → Prop) (k p e : Nat) (hk : k ≤ 10) (b1 b2 : Nat) (H0 H : Hp) (hle : H0.le H) (h1 : H b1 = some (.obj (.cells (bZJ k p) 90))) (h2 : H b2 = some (.obj (.cells (kZM (exF (ZF k p) e) (ZF k p) ((2 ^ k : Nat) : Int)) 87)))
include hk hle h1 h2
end
end Go.Proofs.YtgfildcgihbdaaaGreatDoor.Lay
namespace Go.Proofs.YtgfildcgihbdaaaGreatDoor.W
open Go Go.Hw
theorem cZ4 :Tryz.prog.follows .mixedOrders=true:=by kernel_rfl
def fZl (A1:OA)(n1 m1:Nat)(H:Hp)(K:VK):Prop:=
 HcI 106 #[.slice A1 n1 m1,.func (.func 107) #[] #[]] H fun x1 H1=>K (.tuple #[.int .i64 (if 0>x1 then 0 else x1),.bool (decide (x1<0))]) H1
theorem fZl.ok A1 n1 m1 H K (h:fZl A1 n1 m1 H K):Za Tryz.prog 80 #[.slice A1 n1 m1] H K:=
 okN cZ4 Tryz.func80 rfl rfl h
def aZ0.l3 (K:VK):Nat→OA→Nat→Nat→OA→Nat→Nat→Int→Int→Hp→Prop
 |0,_,_,_,_,_,_,_,_,_=>False
 |k+1,A3,n3,m3,A4,n4,m4,x1,x2,H=>
  let R3:=aZ0.l3 K k
  BIf (decide (x2<x1)) (ixI x2 n4 (NN A4 fun a1=>LeW H (a1.add (x2.toNat*1)) fun x3=>slB n3 m3 (some (i64.wrap (8*x2))) none fun n5 n6=>Hz 149 #[.slice (slA A3 m3 n5 1) (n6-n5) (m3-n5),.int .u64 x3] H fun v3 H2=>R3 A3 n3 m3 A4 n4 m4 x1 (i64.wrap (x2+1)) H2)) (K (.slice A3 n3 m3) H)
def aZ0 (A1:OA)(n1 m1:Nat)(H:Hp)(K:VK):Prop:=
 MkS Tryz.prog 5 (i64.wrap (8*(n1:Int))) (i64.wrap (8*(n1:Int))) H fun v1 H1=>DSl v1 fun A2 n2 m2=>(∃ k,aZ0.l3 K k A2 n2 m2 A1 n1 m1 (n1:Int) 0 H1)
def aZ0.l3.L (K:VK)(k:Nat):Mid:=fun E D H=>
 DG (E.get? 3) fun w3=>DSl w3 fun A3 n3 m3=>DG (E.get? 10) fun w10=>DSl w10 fun A4 n4 m4=>eI E 11 .i64 fun x1=>eI E 12 .i64 fun x2=>Zk D (aZ0.l3 K k A3 n3 m3 A4 n4 m4 x1 x2 H)
def aZ0.Λ3 (_:VK)(_R3:OA→Nat→Nat→OA→Nat→Nat→Int→Int→Hp→Prop):Zt:=Zt.none (fun _=>none)
def aZ0.Λ (K:VK):Zt:=⟨fun i=>none,fun i=>match Nat.beq i 3 with|true=>some (fun E D H=>∃ k,aZ0.l3.L K k E D H)|false=>none,(fun _=>none)⟩
theorem aZ0.ok A1 n1 m1 H K (h:aZ0 A1 n1 m1 H K):Za Tryz.prog 103 #[.slice A1 n1 m1] H K:=
 okL (Λ:=(aZ0.Λ K)) cZ4 Tryz.func103 rfl rfl h (oC (fun E D H h=>by
   refine Safe.loop' (aZ0.l3.L K) (fun E D H h=>?_) (fun k E D H h=>?_) E D H h
   ·obtain⟨w3,e3,g1⟩:=DG.out h;obtain⟨A3,n3,m3,rfl,g2⟩:=DSl.out g1;obtain⟨w10,e10,g3⟩:=DG.out g2;obtain⟨A4,n4,m4,rfl,g4⟩:=DSl.out g3;obtain⟨w11,e11,g5⟩:=DG.out g4;obtain⟨x1,rfl,g6⟩:=DI.out g5;obtain⟨w12,e12,g7⟩:=DG.out g6;obtain⟨x2,rfl,g8⟩:=DI.out g7;obtain⟨rfl,h'⟩:=Zk.out g8;exact h'
   ·obtain⟨w3,e3,g1⟩:=DG.out h;obtain⟨A3,n3,m3,rfl,g2⟩:=DSl.out g1;obtain⟨w10,e10,g3⟩:=DG.out g2;obtain⟨A4,n4,m4,rfl,g4⟩:=DSl.out g3;obtain⟨x1,e11,g6⟩:=GI g4;obtain⟨x2,e12,g8⟩:=GI g6;obtain⟨rfl,h'⟩:=Zk.out g8;exact okJ (Λ:=(aZ0.Λ3 K (aZ0.l3 K k))) cZ4 [] (Zb.cons e3 (Zb.cons e10 (Zb.cons e11 (Zb.cons e12 (Zb.nil _))))) h' oN) oN)
def eZC (x1:Int)(H:Hp)(K:VK):Prop:=
 HcB 108 #[.int .u64 x1] H fun c1 H1=>K (.bool (!c1)) H1
theorem eZC.ok x1 H K (h:eZC x1 H K):Za Tryz.prog 107 #[.int .u64 x1] H K:=
 okN cZ4 Tryz.func107 rfl rfl h
def fZR (A1:OA)(n1 m1:Nat)(x1:Int)(H:Hp)(K:VK):Prop:=
 HcB 175 #[.slice A1 n1 m1,.int .i64 x1] H fun c1 H1=>BIf (!c1) (K (.tuple #[.int .u64 0,.int .i64 2]) H1) (slB n1 m1 (some (i64.wrap (8*x1))) none fun n2 n3=>HcW 176 #[.slice (slA A1 m1 n2 1) (n3-n2) (m1-n2)] H1 fun x2 H2=>K (.tuple #[.int .u64 x2,.int .i64 0]) H2)
theorem fZR.ok A1 n1 m1 x1 H K (h:fZR A1 n1 m1 x1 H K):Za Tryz.prog 136 #[.slice A1 n1 m1,.int .i64 x1] H K:=
 okN cZ4 Tryz.func136 rfl rfl h
def aZ7.l1 (K:VK):Nat→OA→Nat→Nat→Int→Int→Hp→Prop
 |0,_,_,_,_,_,_=>False
 |k+1,A2,n2,m2,x2,x3,H=>
  let R1:=aZ7.l1 K k
  BIf (decide (x3<8)) ((0≤(u64.wrap (i64.wrap (8*x3)))∧ixI x3 n2 (NN A2 fun a1=>St H ((a1.add (x3.toNat*1)).add 0) (.int .u8 (u8.wrap (aZq .u64 x2 (u64.wrap (i64.wrap (8*x3)))))) fun H1=>R1 A2 n2 m2 x2 (i64.wrap (x3+1)) H1))) (K (.tuple #[]) H)
def aZ7 (A1:OA)(n1 m1:Nat)(x1:Int)(H:Hp)(K:VK):Prop:=
 (∃ k,aZ7.l1 K k A1 n1 m1 x1 0 H)
def aZ7.l1.L (K:VK)(k:Nat):Mid:=fun E D H=>
 DG (E.get? 0) fun w0=>DSl w0 fun A2 n2 m2=>eI E 1 .u64 fun x2=>eI E 5 .i64 fun x3=>Zk D (aZ7.l1 K k A2 n2 m2 x2 x3 H)
def aZ7.Λ1 (_:VK)(_R1:OA→Nat→Nat→Int→Int→Hp→Prop):Zt:=Zt.none (fun _=>none)
def aZ7.Λ (K:VK):Zt:=⟨fun i=>none,fun i=>match Nat.beq i 1 with|true=>some (fun E D H=>∃ k,aZ7.l1.L K k E D H)|false=>none,(fun _=>none)⟩
theorem aZ7.ok A1 n1 m1 x1 H K (h:aZ7 A1 n1 m1 x1 H K):Za Tryz.prog 149 #[.slice A1 n1 m1,.int .u64 x1] H K:=
 okL (Λ:=(aZ7.Λ K)) cZ4 Tryz.func149 rfl rfl h (oC (fun E D H h=>by
   refine Safe.loop' (aZ7.l1.L K) (fun E D H h=>?_) (fun k E D H h=>?_) E D H h
   ·obtain⟨w0,e0,g1⟩:=DG.out h;obtain⟨A2,n2,m2,rfl,g2⟩:=DSl.out g1;obtain⟨w1,e1,g3⟩:=DG.out g2;obtain⟨x2,rfl,g4⟩:=DI.out g3;obtain⟨w5,e5,g5⟩:=DG.out g4;obtain⟨x3,rfl,g6⟩:=DI.out g5;obtain⟨rfl,h'⟩:=Zk.out g6;exact h'
   ·obtain⟨w0,e0,g1⟩:=DG.out h;obtain⟨A2,n2,m2,rfl,g2⟩:=DSl.out g1;obtain⟨x2,e1,g4⟩:=GI g2;obtain⟨x3,e5,g6⟩:=GI g4;obtain⟨rfl,h'⟩:=Zk.out g6;exact okJ (Λ:=(aZ7.Λ1 K (aZ7.l1 K k))) cZ4 [] (Zb.cons e0 (Zb.cons e1 (Zb.cons e5 (Zb.nil _)))) h' oN) oN)
def eZS (A1:OA)(n1 m1:Nat)(x1:Int)(H:Hp)(K:VK):Prop:=
 BIf (decide (x1≥0)) (((8:Int)≠0∧i64=i64∧K (.bool (decide (x1<(i64.wrap (Int.tdiv (n1:Int) 8))))) H)) (K (.bool false) H)
theorem eZS.ok A1 n1 m1 x1 H K (h:eZS A1 n1 m1 x1 H K):Za Tryz.prog 175 #[.slice A1 n1 m1,.int .i64 x1] H K:=
 okN cZ4 Tryz.func175 rfl rfl h
def aZX.l3 (K:VK):Nat→OA→Nat→Nat→Int→Int→Hp→Prop
 |0,_,_,_,_,_,_=>False
 |k+1,A2,n2,m2,x1,x2,H=>
  let R3:=aZX.l3 K k
  BIf (decide (x2≥0)) ((0≤(8:Int)∧ixI x2 n2 (NN A2 fun a1=>LeV H (a1.add (x2.toNat*1)) fun x3=>R3 A2 n2 m2 (bOr .u64 (aZE .u64 x1 8) (u64.wrap x3)) (i64.wrap (x2-1)) H))) (K (.int .u64 x1) H)
def aZX (A1:OA)(n1 m1:Nat)(H:Hp)(K:VK):Prop:=
 (∃ k,aZX.l3 K k A1 n1 m1 0 7 H)
def aZX.l3.L (K:VK)(k:Nat):Mid:=fun E D H=>
 DG (E.get? 0) fun w0=>DSl w0 fun A2 n2 m2=>eI E 3 .u64 fun x1=>eI E 4 .i64 fun x2=>Zk D (aZX.l3 K k A2 n2 m2 x1 x2 H)
def aZX.Λ3 (_:VK)(_R3:OA→Nat→Nat→Int→Int→Hp→Prop):Zt:=Zt.none (fun _=>none)
def aZX.Λ (K:VK):Zt:=⟨fun i=>none,fun i=>match Nat.beq i 3 with|true=>some (fun E D H=>∃ k,aZX.l3.L K k E D H)|false=>none,(fun _=>none)⟩
theorem aZX.ok A1 n1 m1 H K (h:aZX A1 n1 m1 H K):Za Tryz.prog 176 #[.slice A1 n1 m1] H K:=
 okL (Λ:=(aZX.Λ K)) cZ4 Tryz.func176 rfl rfl h (oC (fun E D H h=>by
   refine Safe.loop' (aZX.l3.L K) (fun E D H h=>?_) (fun k E D H h=>?_) E D H h
   ·obtain⟨w0,e0,g1⟩:=DG.out h;obtain⟨A2,n2,m2,rfl,g2⟩:=DSl.out g1;obtain⟨w3,e3,g3⟩:=DG.out g2;obtain⟨x1,rfl,g4⟩:=DI.out g3;obtain⟨w4,e4,g5⟩:=DG.out g4;obtain⟨x2,rfl,g6⟩:=DI.out g5;obtain⟨rfl,h'⟩:=Zk.out g6;exact h'
   ·obtain⟨w0,e0,g1⟩:=DG.out h;obtain⟨A2,n2,m2,rfl,g2⟩:=DSl.out g1;obtain⟨x1,e3,g4⟩:=GI g2;obtain⟨x2,e4,g6⟩:=GI g4;obtain⟨rfl,h'⟩:=Zk.out g6;exact okJ (Λ:=(aZX.Λ3 K (aZX.l3 K k))) cZ4 [] (Zb.cons e0 (Zb.cons e3 (Zb.cons e4 (Zb.nil _)))) h' oN) oN)
end Go.Proofs.YtgfildcgihbdaaaGreatDoor.W
namespace Go.Form
open Go Go.Hw
def dZk (w:UInt64):List UInt8:=(List.range 8).map fun k=>UInt8.ofNat (w.toNat/256^k)
def form (l:List UInt64):List UInt8:=l.flatMap dZk
theorem dZY (w:UInt64):(dZk w).length=8:=by simp[dZk]
theorem aZ8 (l:List UInt64):(form l).length=8*l.length:=by
 induction l with
 |nil=>rfl
 |cons w l ih=>simp only[form,List.flatMap_cons,List.length_append,dZY,List.length_cons];rw[show(List.flatMap dZk l).length=(form l).length from rfl,ih];omega
theorem iZo (a b:List UInt64):form (a++b)=form a++form b:=by simp[form]
theorem rZ1 (l:List UInt64){i:Nat}(h:i<l.length):form (l.take (i+1))=form (l.take i)++dZk l[i]:=by
 rw[List.take_succ_eq_append_getElem h,iZo];simp[form]
theorem uZi (w:UInt64)(k:Nat):u8.wrap ((w.toNat>>>(8*k):Nat):Int)=((UInt8.ofNat (w.toNat/256^k)).toNat:Int):=by
 rw[xZF,Nat.shiftRight_eq_div_pow,show(2:Nat)^(8*k)=256^k from by rw[Nat.pow_mul]];simp
end Go.Form
namespace Go.Proofs.YtgfildcgihbdaaaGreatDoor.FormP
open Go Go.Hw Go.Form W
theorem oZX (K:VK)(b off n m mm:Nat)(xs:List Value)(e:TypeId)(w:UInt64)(H0:Hp)(ho:off+8≤xs.length)(hn:8≤n)
  (k:K (.tuple #[]) (H0.set b (.row (setAt xs off (Zm (dZk w))) e mm))):∀(d j:Nat) (H:Hp),j+d=8→H=H0.set b (.row (setAt xs off ((Zm (dZk w)).take j)) e mm)→
   aZ7.l1 K (d+1) (some ⟨b,off,none⟩) n m (w.toNat:Int) (j:Int) H
 |0,j,H,hj,hH=>by
  obtain rfl:j=8:=by omega
  unfold aZ7.l1;refine Zh (by omega) ?_;rw[List.take_of_length_le (by rw[ZL,dZY];omega)]at hH;rw[hH];exact k
 |d+1,j,H,hj,hH=>by
  unfold aZ7.l1;refine Zn (by omega) ?_;rw[ZG (x:=8*(j:Int)) (by omega) (by omega),eZp (by omega) (by omega)];refine⟨by omega,by omega,by omega,?_⟩;simp only[aZY,Addr.add_lit',Int.toNat_natCast,Nat.mul_one,Nat.add_zero];rw[sZS w.toNat (i:=8*(j:Int)) (n:=8*j) (by omega) (by show 8*j≤64;omega),uZi,ZG (by omega) (by omega)];have hlen:(Zm (dZk w)).length=8:=by rw[ZL,dZY]
  have hb:H b=some (.row (setAt xs off ((Zm (dZk w)).take j)) e mm):=by rw[hH];exact Hp.set_same _ _ _
  refine nZ7 hb (by rw[cZH (by rw[List.length_take,hlen];omega)];omega) rfl ?_;refine oZX K b off n m mm xs e w H0 ho hn k d (j+1) _ (by omega) ?_;rw[hH,Hp.set_set];congr 2;have:=rZa (xs:=xs) (vs:=Zm (dZk w)) (off:=off) (k:=j) (by rw[hlen];exact ho) (by rw[hlen];omega);rw[← this];congr 1;simp[Zm,dZk]
theorem xZa (b off n m mm:Nat)(xs:List Value)(e:TypeId)(w:UInt64)(H:Hp)(hb:H b=some (.row xs e mm))(ho:off+8≤xs.length)(hn:8≤n):
  Za Tryz.prog 149 #[.slice (some ⟨b,off,none⟩) n m,.int .u64 (w.toNat:Int)] H (RetE (.tuple #[]) (H.set b (.row (setAt xs off (Zm (dZk w))) e mm))):=by
 apply aZ7.ok;refine⟨9,oZX _ b off n m mm xs e w H ho hn (RetE.mk _ _) 8 0 H rfl ?_⟩;rw[List.take_zero,fZN,Hp.set_id hb]
theorem vZ2 (b m l:Nat):slA (some ⟨b,0,none⟩) m l 1=if m=l then some ⟨b,0,none⟩else some ⟨b,l,none⟩:=by
 unfold slA;split
 ·rfl
 ·simp
theorem nZ3 (K:VK)(b:Nat)(e:TypeId)(A:OA)(n m:Nat)(l:List UInt64)(hn:n=l.length)(hm:n≤17592186044416)(H0:Hp)(hb0:H0 b=none)(hl:Cells H0 A (Zc l))(z:List Value)(hz:z.length=8*n)
  (k:∀ H,H=H0.set b (.row (Zm (form l)) e (8*n))→K (.slice (some ⟨b,0,none⟩) (8*n) (8*n)) H):∀(d j:Nat) (H:Hp),j+d=n→H=H0.set b (.row (setAt z 0 (Zm (form (l.take j)))) e (8*n))→
   aZ0.l3 K (d+1) (some ⟨b,0,none⟩) (8*n) (8*n) A n m (n:Int) (j:Int) H
 |0,j,H,hj,hH=>by
  unfold aZ0.l3;refine Zh (by omega) (k _ ?_);rw[hH,List.take_of_length_le (by omega),gZ4 (by rw[ZL,aZ8,hz,hn])]
 |d+1,j,H,hj,hH=>by
  unfold aZ0.l3;refine Zn (by omega) ?_;have hlt:j<l.length:=by omega
  have hle:H0.le H:=by rw[hH];exact Hp.le_set hb0
  refine(hl.le hle).read (i:=j) (v:=.int .u64 (l[j].toNat:Int)) (by rw[aZ9,List.getElem?_eq_getElem hlt];rfl) rfl (by rw[Zr];omega) ?_;simp only[HV];rw[ZG (x:=8*(j:Int)) (by omega) (by omega)];refine⟨by omega,by omega,?_⟩
  dsimp only
  rw[show(8*(j:Int)).toNat=8*j by omega,vZ2,if_neg (by omega)];have hlen:(Zm (form (l.take j))).length=8*j:=by rw[ZL,aZ8,List.length_take,Nat.min_eq_left (by omega)]
  have hb:H b=some (.row (setAt z 0 (Zm (form (l.take j)))) e (8*n)):=by rw[hH];exact Hp.set_same _ _ _
  have hsl:(setAt z 0 (Zm (form (l.take j)))).length=8*n:=by rw[cZH (by omega),hz]
  refine Za.use (xZa b (8*j) _ _ _ _ e l[j] H hb (by omega) (by omega)) ?_;rw[ZG (by omega) (by omega)];refine nZ3 K b e A n m l hn hm H0 hb0 hl z hz k d (j+1) _ (by omega) ?_;rw[hH,Hp.set_set];congr 2;rw[rZ1 l hlt,hZ7];have h8:(Zm (dZk l[j])).length=8:=by rw[ZL,dZY]
  rw[← pZu (by rw[hlen,h8];omega),hlen]
theorem eZv :bZi Tryz.prog 5=some (1,1,some #[.int .u8 0]):=by kernel_rfl
theorem Put_ok (A:OA)(n m:Nat)(l:List UInt64)(hn:n=l.length)(hm:n≤17592186044416)(H:Hp)(hl:Cells H A (Zc l)):
  Za Tryz.prog 103 #[.slice A n m] H (fun v H'=>∃ b,H b=none∧v= .slice (some ⟨b,0,none⟩) (8*n) (8*n)∧H'=H.set b (.row (Zm (form l)) 5 (8*n))):=by
 apply aZ0.ok;unfold aZ0;rw[ZG (x:=8*(n:Int)) (by omega) (by omega)];refine nZ2 eZv rfl (n:=8*n) (m:=8*n) (by omega) (by omega) (Nat.le_refl _) (by omega) (by omega) ?_;intro b hb;rw[Nat.mul_one];simp only[HV];refine⟨n+1,?_⟩;refine nZ3 _ b 5 A n m l hn hm H hb hl (aZv [.int .u8 0] (8*n)) (by rw[bZI];simp) ?_ n 0 _ (by omega) ?_
 ·intro H' hH;exact⟨b,hb,rfl,hH⟩
 ·rw[List.take_zero];simp[form,Zm,fZN]
end Go.Proofs.YtgfildcgihbdaaaGreatDoor.FormP
namespace Go.Form
open Go Go.Hw
theorem pZm (w:UInt64):dZk w=hZL 8 w.toNat:=pZr 8 w.toNat
theorem sZm (w:UInt64):leN (dZk w)=w.toNat:=by
 rw[pZm,lZC];exact Nat.mod_eq_of_lt w.toNat_lt
def Zs (bs:List UInt8)(o:Nat):Nat:=leN ((bs.drop o).take 8)
theorem cZT (bs:List UInt8)(o:Nat):Zs bs o<2^64:=pZT (by simp;omega)
theorem rZ0 (l:List UInt64)(i:Nat):(form l).drop (8*i)=form (l.drop i):=by
 induction i generalizing l with
 |zero=>simp
 |succ i ih=>
  cases l with
  |nil=>simp[form]
  |cons w l=>
   rw[List.drop_succ_cons,←ih];show List.drop (8*(i+1)) (dZk w++form l)=_
   rw[show 8*(i+1)=(dZk w).length+8*i by rw[dZY];omega,List.drop_append];simp
theorem eZ7 {l:List UInt64}{i:Nat}(h:i<l.length)(r:List UInt8):Zs (form l++r) (8*i)=l[i].toNat:=by
 unfold Zs;rw[List.drop_append_of_le_length (by rw[aZ8];omega),rZ0,List.drop_eq_getElem_cons h];show leN (((dZk l[i]++form (l.drop (i+1)))++r).take 8)=_
 rw[List.append_assoc,List.take_left' (dZY _),sZm]
end Go.Form
namespace Go.Proofs.YtgfildcgihbdaaaGreatDoor.FormP
open Go Go.Hw Go.Form W
theorem nZl (K:VK)(A:OA)(n m:Nat)(bs:List UInt8)(hl:bs.length=8)(hn:8≤n)(H:Hp)(hb:Cells H A (Zm bs))(k:K (.int .u64 (leN bs:Nat)) H):∀ j:Nat,j≤8→
  aZX.l3 K (j+1) A n m ((leN (bs.drop j):Nat):Int) ((j:Int)-1) H
 |0,_=>by
  unfold aZX.l3;refine Zh (by omega) ?_;exact k
 |j+1,hj=>by
  unfold aZX.l3;refine Zn (by omega) ⟨by omega,?_⟩;rw[show(((j+1:Nat):Int)-1)=(j:Int) by omega];have hlt:j<bs.length:=by omega
  refine⟨by omega,by omega,?_⟩;obtain⟨a,rfl,hc⟩:=hb j (.int .u8 (bs[j].toNat:Int)) (by rw[hZK,List.getElem?_eq_getElem hlt];rfl);show Ld H _ _
  refine gZC (v:=.int .u8 (bs[j].toNat:Int)) (by rw[Int.toNat_natCast,Nat.mul_one];exact hc) ?_;simp only[HV];have h1:leN (bs.drop (j+1))<256^7:=by
   have h1:=oZu (bs.drop (j+1));have h2:256^(bs.drop (j+1)).length≤256^7:=Nat.pow_le_pow_right (by omega) (by simp;omega);omega
  have h2:bs[j].toNat<256:=bs[j].toNat_lt;have h3:leN (bs.drop (j+1))*2^8<2^64:=by
   rw[show(256:Nat)^7=2^56 by decide]at h1;omega
  rw[rZb (i:=(8:Int)) (n:=8) rfl (by omega),Nat.mod_eq_of_lt h3,cZg (by omega),orN h3 (by omega),ZG (by omega) (by omega)];rw[← Nat.shiftLeft_eq,←Nat.shiftLeft_add_eq_or_of_lt (by omega:bs[j].toNat<2^8),Nat.shiftLeft_eq];have e:=tZU hlt;rw[show leN (bs.drop (j+1))*2^8+bs[j].toNat=leN (bs.drop j) by rw[e];omega];exact nZl K _ n m bs hl hn H hb k j (by omega)
theorem wZj (A:OA)(n m:Nat)(bs:List UInt8)(hl:bs.length=8)(hn:8≤n)(H:Hp)(hb:Cells H A (Zm bs)):Za Tryz.prog 176 #[.slice A n m] H (RetE (.int .u64 (leN bs:Nat)) H):=by
 apply aZX.ok;refine⟨9,?_⟩;have:=nZl (RetE (.int .u64 (leN bs:Nat)) H) A n m bs hl hn H hb (RetE.mk _ _) 8 (Nat.le_refl _);rw[List.drop_eq_nil_of_le (by omega)]at this;exact this
theorem sZa (A:OA)(n m:Nat)(hn:n≤9000000000000000000)(i:Int)(H:Hp):Za Tryz.prog 175 #[.slice A n m,.int .i64 i] H (RetE (.bool (decide (0≤i∧i<(n/8:Nat)))) H):=by
 apply eZS.ok;unfold eZS;rw[cZU];split
 ·refine⟨by omega,rfl,RetE.of ?_⟩;rw[show Int.tdiv ((n:Nat):Int) 8=((n/8:Nat):Int)from rfl,aZJ (by omega)];congr 1;simp only[decide_eq_decide];omega
 ·refine RetE.of ?_;congr 1;exact(decide_eq_false (by omega)).symm
theorem Word_ok (A:OA)(n m:Nat)(hnm:n≤m)(hm:n≤9000000000000000000)(bs:List UInt8)(hl:n=bs.length)(i:Nat)(hi:8*i+8≤n)(H:Hp)(hb:Cells H A (Zm bs)):
  Za Tryz.prog 136 #[.slice A n m,.int .i64 i] H (RetE (.tuple #[.int .u64 (Zs bs (8*i):Nat),.int .i64 0]) H):=by
 apply fZR.ok;unfold fZR;refine Za.use (sZa A n m (by omega) i H) ?_
 try simp only[HV]
 refine aZc (by simp;omega) ?_;rw[ZG (x:=8*(i:Int)) (by omega) (by omega)];refine⟨by omega,by omega,?_⟩;rw[show(8*(i:Int)).toNat=8*i by omega];have h1:=(hb.shift (m:=m) (l:=8*i) (by rw[ZL];omega)).take 8;rw[show((Zm bs).drop (8*i)).take 8=Zm ((bs.drop (8*i)).take 8) by unfold Zm;rw[List.map_take,List.map_drop]]at h1;refine Za.use (wZj _ (n-8*i) (m-8*i) ((bs.drop (8*i)).take 8) (by simp;omega) (by omega) H h1) ?_
 try simp only[HV]
 exact RetE.mk _ _
end Go.Proofs.YtgfildcgihbdaaaGreatDoor.FormP
namespace Go.Hw
open Go
def lZD :Lf→Lit→Bool
 | .int k,.int k' n=>decide (k'=k)&&(Lit.int k n).wf
 | .bool,.bool _=>true
 | .str,.string l=>decide (l.length≤maxLen)
 |_,_=>false
def cZs :List Lf→List Lit→Bool
 | [],[]=>true
 |f::fs,l::ls=>lZD f l&&cZs fs ls
 |_,_=>false
def lZx (P:Program)(g:TypeId→Option (List Lf)):List Field→Nat→Option (List Lf)
 | [],_=>some []
 | f :: r, off => match f.name != "_" && Nat.beq f.offset off with
  |true=>match g f.type with
   |some l=>match Nat.beq l.length (P.cellsOf f.type)with
    |true=>match lZx P g r (off+l.length)with
     |some k=>some (l++k)
     |none=>none
    |false=>none
   |none=>none
  |false=>none
def flat (P:Program):Nat→TypeId→Option (List Lf)
 |0,_=>none
 |d+1,t=>match P.underlying t with
  |some .bool=>some [.bool]
  |some (.int q)=>some [.int q]
  |some .string=>some [.str]
  |some (.array n e)=>match flat P d e with
   |some l=>match Nat.beq l.length (P.cellsOf e)&&Nat.beq (n*l.length) (P.cellsOf t)with
    |true=>some (List.replicate n l).flatten
    |false=>none
   |none=>none
  |some (.struct fs)=>match lZx P (flat P d) fs.toList 0 with
   |some l=>match Nat.beq l.length (P.cellsOf t)with
    |true=>some l
    |false=>none
   |none=>none
  |_=>none
theorem dZC :∀{fs:List Lf} {ls:List Lit},cZs fs ls=true→ls.length=fs.length
 | [],[],_=>rfl
 |_::fs,_::ls,h=>by
  simp only[cZs,Bool.and_eq_true]at h;simp[dZC h.2]
 | [],_::_,h=>by cases h
 |_::_,[],h=>by cases h
theorem iZp :∀{a b:List Lf} {ls:List Lit},cZs (a++b) ls=true→∃ x y,ls=x++y∧cZs a x=true∧cZs b y=true
 | [],b,ls,h=>⟨[],ls,rfl,rfl,h⟩
 |f::a,b,[],h=>by cases h
 |f::a,b,l::ls,h=>by
  simp only[List.cons_append,cZs,Bool.and_eq_true]at h;obtain⟨x,y,rfl,h1,h2⟩:=iZp h.2;exact⟨l::x,y,rfl,by simp[cZs,h.1,h1],h2⟩
theorem jZA {f:Lf}{ls:List Lit}(h:cZs [f] ls=true):∃ x,ls=[x]:=by
 have:=dZC h
 match ls,this with
 | [x],_=>exact⟨x,rfl⟩
theorem gZe {P:Program}:∀(d:Nat) (t:TypeId) (ks:List Lf) (ls:List Lit),flat P d t=some ks→cZs ks ls=true→P.keyLits d t (ls.map Lit.value)=some ls
 |0,_,_,_,h,_=>by cases h
 |d+1,t,ks,ls,h,ho=>by
  unfold flat at h;unfold Program.keyLits;split at h
  ·rename_i hu
   cases h;obtain⟨x,rfl⟩:=jZA ho;cases x<;>simp only[cZs,lZD,Bool.and_true,Bool.false_eq_true,Bool.false_and]at ho;simp[hu,Lit.value]
  ·rename_i q hu
   cases h;obtain⟨x,rfl⟩:=jZA ho;cases x<;>simp only[cZs,lZD,Bool.and_eq_true,decide_eq_true_eq,Bool.and_true,Bool.false_eq_true,Bool.false_and]at ho;obtain⟨rfl,hw⟩:=ho;simp[hu,Lit.value,hw]
  ·rename_i hu
   cases h;obtain⟨x,rfl⟩:=jZA ho;cases x<;>simp only[cZs,lZD,decide_eq_true_eq,Bool.and_true,Bool.false_eq_true,Bool.false_and]at ho;simp[hu,Lit.value,ByteArray.size,ho]
  ·rename_i n e hu
   split at h
   ·rename_i l hl
    split at h
    ·rename_i hb
     cases h;simp only[Bool.and_eq_true]at hb;have h1:=Nat.eq_of_beq_eq_true hb.1;have h2:=Nat.eq_of_beq_eq_true hb.2;simp only[hu];have hlen:=dZC ho;rw[if_pos (by rw[List.length_map,hlen,List.length_flatten];simp[h2,←h1])];have key:∀(m i:Nat) (pre ls:List Lit),pre.length=i*l.length→cZs (List.replicate m l).flatten ls=true→
       ∃ out,(List.range' i m).mapM (fun i=>P.keyLits d e ((((pre++ls).map Lit.value).drop (i*P.cellsOf e)).take (P.cellsOf e)))=some out∧out.flatten=ls:=by
      intro m
      induction m with
      |zero=>
       intro i pre ls _ ho;have:ls=[]:=by have:=dZC ho;simpa using this
       subst this;exact⟨[],by simp,rfl⟩
      |succ m ih=>
       intro i pre ls hp ho;rw[List.replicate_succ,List.flatten_cons]at ho;obtain⟨x,y,rfl,hx,hy⟩:=iZp ho;have lx:=dZC hx;obtain⟨out,ho1,ho2⟩:=ih (i+1) (pre++x) y (by rw[List.length_append,hp,lx,Nat.succ_mul]) hy;refine⟨x::out,?_,by rw[List.flatten_cons,ho2]⟩;rw[List.range'_succ,List.mapM_cons];have e1:((((pre++(x++y)).map Lit.value).drop (i*P.cellsOf e)).take (P.cellsOf e))=x.map Lit.value:=by
        rw[← h1,←hp,List.map_append,List.drop_left' (by simp),List.map_append,List.take_left' (by simp[lx])]
       rw[e1,gZe d e l x hl hx];rw[List.append_assoc]at ho1;rw[ho1];rfl
     obtain⟨out,h3,h4⟩:=key n 0 [] ls (by simp) ho;rw[List.range_eq_range'];simp only[List.nil_append]at h3;rw[h3];simp[h4]
    ·cases h
   ·cases h
  ·rename_i fs hu
   split at h
   ·rename_i l hl
    split at h
    ·rename_i hb
     cases h;have h1:=Nat.eq_of_beq_eq_true hb;have hlen:=dZC ho;have key:∀(fl:List Field) (off:Nat) (k:List Lf) (pre ls:List Lit),lZx P (flat P d) fl off=some k→pre.length=off→cZs k ls=true→
       (fl.all (·.name != "_") = true) ∧ ∃ out, fl.mapM (fun f => P.keyLits d f.type ((((pre ++ ls).map Lit.value).drop f.offset).take (P.cellsOf f.type))) = some out ∧ out.flatten = ls := by
      intro fl
      induction fl with
      |nil=>
       intro off k pre ls hk _ ho;cases hk;have:ls=[]:=by have:=dZC ho;simpa using this
       subst this;exact⟨rfl,[],by simp,rfl⟩
      |cons f fl ih=>
       intro off k pre ls hk hp ho;unfold lZx at hk;split at hk
       ·rename_i hn
        simp only[Bool.and_eq_true]at hn;have hoff:=Nat.eq_of_beq_eq_true hn.2;split at hk
        ·rename_i kl hkl
         split at hk
         ·rename_i hb2
          have h2:=Nat.eq_of_beq_eq_true hb2;split at hk
          ·rename_i kr hkr
           cases hk;obtain⟨x,y,rfl,hx,hy⟩:=iZp ho;have lx:=dZC hx;obtain⟨hn2,out,ho1,ho2⟩:=ih (off+kl.length) kr (pre++x) y hkr (by rw[List.length_append,hp,lx]) hy;refine⟨by rw[List.all_cons,hn.1,hn2];rfl,x::out,?_,by rw[List.flatten_cons,ho2]⟩;rw[List.mapM_cons];have e1:((((pre++(x++y)).map Lit.value).drop f.offset).take (P.cellsOf f.type))=x.map Lit.value:=by
            rw[hoff,←h2,←hp,List.map_append,List.drop_left' (by simp),List.map_append,List.take_left' (by simp[lx])]
           rw[e1,gZe d f.type kl x hkl hx];rw[List.append_assoc]at ho1;rw[ho1];rfl
          ·cases hk
         ·cases hk
        ·cases hk
       ·cases hk
     obtain⟨hn,out,h3,h4⟩:=key fs.toList 0 ks [] ls hl rfl ho;simp only[hu];rw[if_pos ⟨by rw[List.length_map,hlen,h1],by rw[← Array.all_toList];exact hn⟩];simp only[List.nil_append]at h3;rw[h3];simp[h4]
    ·cases h
   ·cases h
  ·cases h
theorem tZP {P:Program}{d:Nat}{t:TypeId}{ks:List Lf}(ha:iZ0 P t=true)(h:flat P d t=some ks):ks.length=P.cellsOf t:=by
 cases d with
 |zero=>cases h
 |succ d=>
  unfold flat at h;unfold iZ0 at ha;split at h
  ·rename_i hu;rw[hu]at ha;cases ha
  ·rename_i hu;rw[hu]at ha;cases ha
  ·rename_i hu;rw[hu]at ha;cases ha
  ·split at h
   ·rename_i l hl
    split at h
    ·rename_i hb
     cases h;simp only[Bool.and_eq_true]at hb;rw[← Nat.eq_of_beq_eq_true hb.2];simp[List.length_flatten]
    ·cases h
   ·cases h
  ·split at h
   ·split at h
    ·rename_i hb;cases h;exact Nat.eq_of_beq_eq_true hb
    ·cases h
   ·cases h
  ·cases h
theorem qZL {P:Program}{d m:Nat}{t:TypeId}{ks:List Lf}(ha:iZ0 P t=true)(hf:flat P d t=some ks)(hk:P.keyTypeAt m t=true)(hm:m≤10000){lx ly:List Lit}(ox:cZs ks lx=true)(oy:cZs ks ly=true){c:Bool}(hc:c=true↔lx=ly)(w:World):
  (Op.equal t (.agg (lx.map Lit.value).toArray) (.agg (ly.map Lit.value).toArray)).run P w= .ok c w:=by
 have hform:∀ l:List Lit,cZs ks l=true→(Value.agg (l.map Lit.value).toArray).formed P t=true:=fun l hl=>by
  have:=dZC hl;have h2:=tZP ha hf;unfold Value.formed;unfold iZ0 at ha;split at ha
  ·rename_i hu;rw[hu];simp[this,h2]
  ·rename_i hu;rw[hu];simp[this,h2]
  ·cases ha
 obtain⟨r,hr,hiff⟩:=run_equalIn_deep (P:=P) (10000-m) m t hk w d d _ _ lx ly (hform lx ox) (hform ly oy) (by simpa [Value.cells]using gZe d t ks lx hf ox) (by simpa [Value.cells]using gZe d t ks ly hf oy);rw[show 10000-m+m=10000 by omega]at hr;have:r=c:=by
  cases r<;>cases c<;>simp_all
 rw[← this];exact hr
theorem xZS {n:Int}(h0: -9223372036854775808≤n)(h1:n≤9223372036854775807):(Lit.int .i64 n).wf=true:=by
 simp only[Lit.wf,Bool.and_eq_true,decide_eq_true_eq];exact⟨h0,h1⟩
theorem wfI {n:Int}(h: -9223372036854775808≤n∧n≤9223372036854775807):(Lit.int .i64 n).wf=true:=xZS h.1 h.2
theorem tZ1 :∀(n:Nat) (l:List Int),l.length=n→(∀ x∈l,-9223372036854775808≤x∧x≤9223372036854775807)→cZs (List.replicate n (.int .i64)) (l.map (Lit.int .i64))=true
 |0,[],_,_=>rfl
 |n+1,x::l,h,hr=>by
  have h1:=wfI (hr x (by simp));have h2:=tZ1 n l (by simpa using h) (fun y hy=>hr y (by simp[hy]));rw[List.replicate_succ,List.map_cons];simp only[cZs,lZD,decide_true,Bool.true_and,Bool.and_eq_true];exact⟨h1,h2⟩
section
variable {P : Program} {d m : Nat} {t : TypeId} {ks : List Lf} (ha : iZ0 P t = true) (hf : flat P d t = some ks) (hk : P.keyTypeAt m t = true) (hm : m ≤ 10000) (hg : P.eqGuardType P.depth t = false)
include ha hf hk hm hg
theorem vZd {lx ly:List Lit}(ox:cZs ks lx=true)(oy:cZs ks ly=true){cx cy:Array Value}(ex:cx=(lx.map Lit.value).toArray)(ey:cy=(ly.map Lit.value).toArray){K:Bool→Prop}(c:Bool)(hc:c=true↔lx=ly)(k:K c):EqV P .eql t (.agg cx) (.agg cy) K:=by
 subst ex;subst ey;refine⟨_,k,fun xo yo w=>?_⟩;have h:=qZL ha hf hk hm ox oy hc w;simp[eqGuard,binOp,h,hg]
end
def pZ2 (P:Program)(t:TypeId)(n:Nat):Prop:=iZ0 P t=true∧flat P 9 t=some (List.replicate n (.int .i64))∧P.keyTypeAt 9 t=true∧P.eqGuardType P.depth t=false
theorem uZS (l:List Int):(l.map (Lit.int .i64)).map Lit.value=l.map (Value.int .i64):=by rw[List.map_map];rfl
theorem xZp {a b:List Int}:a.map (Lit.int .i64)=b.map (Lit.int .i64)↔a=b:=by
 constructor
 ·intro h;have:∀{a b:List Int},a.map (Lit.int .i64)=b.map (Lit.int .i64)→a=b:=by
   intro a
   induction a with
   |nil=>intro b h;cases b with
    |nil=>rfl
    |cons _ _=>simp at h
   |cons x a ih=>intro b h;cases b with
    |nil=>simp at h
    |cons y b=>simp at h;rw[h.1,ih (by simpa using h.2)]
  exact this h
 ·intro h;rw[h]
theorem vZc {P:Program}{t:TypeId}{n:Nat}(hp:pZ2 P t n){a b:List Int}(la:a.length=n)(lb:b.length=n)(ra:∀ x∈a,-9223372036854775808≤x∧x≤9223372036854775807)(rb:∀ x∈b,-9223372036854775808≤x∧x≤9223372036854775807)
  {cx cy:Array Value} (ex:cx=(a.map (Value.int .i64)).toArray) (ey:cy=(b.map (Value.int .i64)).toArray) {K:Bool→Prop} (k:K (decide (a=b))):EqV P .eql t (.agg cx) (.agg cy) K:=
 vZd hp.1 hp.2.1 hp.2.2.1 (by omega) hp.2.2.2 (tZ1 n a la ra) (tZ1 n b lb rb) (by rw[uZS];exact ex) (by rw[uZS];exact ey) _ (by rw[xZp];simp) k
end Go.Hw
namespace Go.Proofs.YtgfildcgihbdaaaGreatDoor.W
open Go Go.Hw
theorem aZ6 :Tryz.prog.follows .mixedOrders=true:=by kernel_rfl
def Zu.j15 (K:VK)(R9:OA→OA→Nat→Nat→OA→OA→Nat→Nat→Int→Int→OA→OA→Nat→Nat→Hp→Prop)(p12 A8:OA)(n8 m8:Nat)(p13:OA)(a7:Addr)(A9:OA)(n9 m9:Nat)(x14 x15:Int)(p14 A10:OA)(n10 m10:Nat)(H:Hp):=
 QcS 119 #[.pointer p13] H fun A11 n11 m11=>LeI H (a7.add 1) fun x16=>slB n11 m11 (some x16) none fun n12 n13=>LeI H (a7.add 2) fun x17=>slB n8 m8 none (some x17) fun n14 n15=>CpK Tryz.prog 82 (.slice (slA A11 m11 n12 1) (n13-n12) (m11-n12)) (.slice (slA A8 m8 n14 1) (n15-n14) (m8-n14)) H fun v22 H10=>DI .i64 v22 fun x18=>NN p12 fun a8=>LeI H10 (a7.add 0) fun x19=>HcI 120 #[.pointer (some (a8.add 0)),.int .i64 x19,.pointer p13] H10 fun x20 H11=>BIf (x20 !=0) (aZU Tryz.prog 117 #[.pointer p14,.slice A10 n10 m10] H11 fun _ H13=>K (.int .i64 x20) H13) (LeI H11 (a7.add 2) fun x21=>slB n8 m8 (some x21) none fun n16 n17=>R9 p12 (slA A8 m8 n16 1) (n17-n16) (m8-n16) p13 A9 n9 m9 x14 (i64.wrap (x15+1)) p14 A10 n10 m10 H11)
def Zu.l9 (K:VK):Nat→OA→OA→Nat→Nat→OA→OA→Nat→Nat→Int→Int→OA→OA→Nat→Nat→Hp→Prop
 |0,_,_,_,_,_,_,_,_,_,_,_,_,_,_,_=>False
 |k+1,p9,A5,n5,m5,p10,A6,n6,m6,x8,x9,p11,A7,n7,m7,H=>
  let R9:=Zu.l9 K k
  BIf (decide (x9<x8)) (ixI x9 n6 (NN A6 fun a4=>LdA H (a4.add (x9.toNat*3)) 3 fun l10=>Nw H (.obj (.cells #[.int .i64 0,.int .i64 0,.int .i64 0] 204)) fun b2 H7=>StA H7 ⟨b2,0,none⟩ l10.toArray 3 fun H8=>LeI H8 ((⟨b2,0,none⟩:Addr).add 2) fun x10=>NN p9 fun a5=>QcI 116 #[.pointer (some (a5.add 0))] H8 fun x11=>BIf (decide (x10<x11)) (NN p9 fun a6=>LeI H8 ((⟨b2,0,none⟩:Addr).add 0) fun x12=>HcI 118 #[.pointer (some (a6.add 0)),.int .i64 x12,.pointer p10] H8 fun x13 H9=>BIf (x13 !=0) (aZU Tryz.prog 117 #[.pointer p11,.slice A7 n7 m7] H9 fun _ H12=>K (.int .i64 x13) H12) (Zu.j15 K R9 p9 A5 n5 m5 p10 ⟨b2,0,none⟩ A6 n6 m6 x8 x9 p11 A7 n7 m7 H9)) (Zu.j15 K R9 p9 A5 n5 m5 p10 ⟨b2,0,none⟩ A6 n6 m6 x8 x9 p11 A7 n7 m7 H8))) (aZU Tryz.prog 117 #[.pointer p11,.slice A7 n7 m7] H fun _ H14=>K (.int .i64 0) H14)
def Zu.j5 (K:VK)(p6 A3:OA)(n3 m3:Nat)(A4:OA)(n4 m4:Nat)(x7:Int)(p7:OA)(H:Hp):=
 BIf (x7 !=0) (K (.int .i64 x7) H) (NN p6 fun a3=>LeP H ((a3.add 0).add 1) fun p8=>Nw H (.row [.pointer p7] 195 1) fun b1 H6=>(∃ k,Zu.l9 K k p6 A3 n3 m3 p7 A4 n4 m4 (n4:Int) 0 p8 (some ⟨b1,0,none⟩) 1 1 H6))
def Zu (p1:OA)(x1:Int)(A1:OA)(n1 m1:Nat)(H:Hp)(K:VK):Prop:=
 Hz 114 #[.pointer p1,.int .i64 x1,.int .i64 (n1:Int)] H fun v1 H1=>dZ7 v1 fun A2 n2 m2 x2=>(BIf (x2 !=0) (K (.int .i64 x2) H1) (BIf ((n1:Int)==0) (K (.int .i64 x2) H1) (NN p1 fun a1=>NN p1 fun a2=>(LeP H1 ((a1.add 0).add 1) fun p2=>HcI 116 #[.pointer (some (a2.add 0))] H1 fun x3 H2=>Hz 115 #[.pointer p2,.int .i64 x3] H2 fun v6 H3=>dZV v6 fun p3 x4=>(Zu.j5 K p1 A1 n1 m1 A2 n2 m2 x4 p3 H3))∧(HcI 116 #[.pointer (some (a2.add 0))] H1 fun x5 H4=>LeP H4 ((a1.add 0).add 1) fun p4=>Hz 115 #[.pointer p4,.int .i64 x5] H4 fun v11 H5=>dZV v11 fun p5 x6=>(Zu.j5 K p1 A1 n1 m1 A2 n2 m2 x6 p5 H5)))))
def Zu.l9.L (K:VK)(k:Nat):Mid:=fun E D H=>
 eP E 0 fun p9=>DG (E.get? 2) fun w2=>DSl w2 fun A5 n5 m5=>eP E 9 fun p10=>DG (E.get? 53) fun w53=>DSl w53 fun A6 n6 m6=>eI E 54 .i64 fun x8=>eI E 55 .i64 fun x9=>cZv 117 D fun dc0 da0 D1=>ZR dc0 (Zl da0 fun u0da0 r0da0=>DP u0da0 fun p11=>Zl r0da0 fun u1da0 r1da0=>DSl u1da0 fun A7 n7 m7=>ZR r1da0 (Zk D1 (Zu.l9 K k p9 A5 n5 m5 p10 A6 n6 m6 x8 x9 p11 A7 n7 m7 H)))
def Zu.Λ9 (K:VK)(R9:OA→OA→Nat→Nat→OA→OA→Nat→Nat→Int→Int→OA→OA→Nat→Nat→Hp→Prop):Zt:=⟨fun i=>match Nat.beq i 15 with|true=>some (fun E D H=>eP E 0 fun p12=>DG (E.get? 2) fun w2=>DSl w2 fun A8 n8 m8=>eP E 9 fun p13=>eN E 11 fun a7=>DG (E.get? 53) fun w53=>DSl w53 fun A9 n9 m9=>eI E 54 .i64 fun x14=>eI E 55 .i64 fun x15=>cZv 117 D fun dc0 da0 D1=>ZR dc0 (Zl da0 fun u0da0 r0da0=>DP u0da0 fun p14=>Zl r0da0 fun u1da0 r1da0=>DSl u1da0 fun A10 n10 m10=>ZR r1da0 (Zk D1 (Zu.j15 K R9 p12 A8 n8 m8 p13 a7 A9 n9 m9 x14 x15 p14 A10 n10 m10 H))))|false=>none,fun i=>none,(fun i=>match Nat.beq i 16 with|true=>some ([],[0,1,2,3,4,5],6)|false=>match Nat.beq i 15 with|true=>some ([],[0,1,2,3,4,5,6,7,8],9)|false=>match Nat.beq i 12 with|true=>some ([],[0,1,2,3,4,5],6)|false=>match Nat.beq i 4 with|true=>some ([],[0,1,3,7,15,0,32,96,224,511,1023,2047,2047,4095,16383],0)|false=>none)⟩
def Zu.Λ (K:VK):Zt:=⟨fun i=>match Nat.beq i 5 with|true=>some (fun E D H=>eP E 0 fun p6=>DG (E.get? 2) fun w2=>DSl w2 fun A3 n3 m3=>DG (E.get? 7) fun w7=>DSl w7 fun A4 n4 m4=>eI E 8 .i64 fun x7=>eP E 9 fun p7=>Zk D (Zu.j5 K p6 A3 n3 m3 A4 n4 m4 x7 p7 H))|false=>none,fun i=>match Nat.beq i 9 with|true=>some (fun E D H=>∃ k,Zu.l9.L K k E D H)|false=>none,(fun i=>match Nat.beq i 16 with|true=>some ([],[0,1,2,3,4,5],6)|false=>match Nat.beq i 15 with|true=>some ([],[0,1,2,3,4,5,6,7,8],9)|false=>match Nat.beq i 12 with|true=>some ([],[0,1,2,3,4,5],6)|false=>match Nat.beq i 4 with|true=>some ([],[0,1,3,7,15,0,32,96,224,511,1023,2047,2047,4095,16383],0)|false=>none)⟩
theorem Zu.ok p1 x1 A1 n1 m1 H K (h:Zu p1 x1 A1 n1 m1 H K):Za Tryz.prog 83 #[.pointer p1,.int .i64 x1,.slice A1 n1 m1] H K:=
 okL (Λ:=(Zu.Λ K)) aZ6 Tryz.func83 rfl rfl h (oC (fun E D H h=>by
   obtain⟨p6,e0,g2⟩:=GP h;obtain⟨w2,e2,g3⟩:=DG.out g2;obtain⟨A3,n3,m3,rfl,g4⟩:=DSl.out g3;obtain⟨w7,e7,g5⟩:=DG.out g4;obtain⟨A4,n4,m4,rfl,g6⟩:=DSl.out g5;obtain⟨x7,e8,g8⟩:=GI g6;obtain⟨p7,e9,g10⟩:=GP g8;obtain⟨rfl,h'⟩:=Zk.out g10;exact okJ (Λ:=(Zu.Λ K)) aZ6 [] (Zb.cons e0 (Zb.cons e2 (Zb.cons e7 (Zb.cons e8 (Zb.cons e9 (Zb.nil _)))))) h' (oC (fun E D H h=>by
     refine Safe.loop' (Zu.l9.L K) (fun E D H h=>?_) (fun k E D H h=>?_) E D H h
     ·obtain⟨w0,e0,g1⟩:=DG.out h;obtain⟨p9,rfl,g2⟩:=DP.out g1;obtain⟨w2,e2,g3⟩:=DG.out g2;obtain⟨A5,n5,m5,rfl,g4⟩:=DSl.out g3;obtain⟨w9,e9,g5⟩:=DG.out g4;obtain⟨p10,rfl,g6⟩:=DP.out g5;obtain⟨w53,e53,g7⟩:=DG.out g6;obtain⟨A6,n6,m6,rfl,g8⟩:=DSl.out g7;obtain⟨w54,e54,g9⟩:=DG.out g8;obtain⟨x8,rfl,g10⟩:=DI.out g9;obtain⟨w55,e55,g11⟩:=DG.out g10;obtain⟨x9,rfl,g12⟩:=DI.out g11;obtain⟨dc0,da0,D1,rfl,g13⟩:=cZv.out g12;obtain⟨rfl,g14⟩:=ZR.out g13;obtain⟨u0da0,r0da0,rfl,g15⟩:=Zl.out g14;obtain⟨p11,rfl,g16⟩:=DP.out g15;obtain⟨u1da0,r1da0,rfl,g17⟩:=Zl.out g16;obtain⟨A7,n7,m7,rfl,g18⟩:=DSl.out g17;obtain⟨rfl,g19⟩:=ZR.out g18;obtain⟨rfl,h'⟩:=Zk.out g19;exact h'
     ·obtain⟨p9,e0,g2⟩:=GP h;obtain⟨w2,e2,g3⟩:=DG.out g2;obtain⟨A5,n5,m5,rfl,g4⟩:=DSl.out g3;obtain⟨p10,e9,g6⟩:=GP g4;obtain⟨w53,e53,g7⟩:=DG.out g6;obtain⟨A6,n6,m6,rfl,g8⟩:=DSl.out g7;obtain⟨x8,e54,g10⟩:=GI g8;obtain⟨x9,e55,g12⟩:=GI g10;obtain⟨dc0,da0,D1,rfl,g13⟩:=cZv.out g12;obtain⟨rfl,g14⟩:=ZR.out g13;obtain⟨u0da0,r0da0,rfl,g15⟩:=Zl.out g14;obtain⟨p11,rfl,g16⟩:=DP.out g15;obtain⟨u1da0,r1da0,rfl,g17⟩:=Zl.out g16;obtain⟨A7,n7,m7,rfl,g18⟩:=DSl.out g17;obtain⟨rfl,g19⟩:=ZR.out g18;obtain⟨rfl,h'⟩:=Zk.out g19;exact okJ (Λ:=(Zu.Λ9 K (Zu.l9 K k))) aZ6 [{ target:=.fn (.func 117) #[],args:=#[.pointer p11,.slice A7 n7 m7]}] (Zb.cons e0 (Zb.cons e2 (Zb.cons e9 (Zb.cons e53 (Zb.cons e54 (Zb.cons e55 (Zb.nil _))))))) h' (oC (fun E D H h=>by
        obtain⟨p12,e0,g2⟩:=GP h;obtain⟨w2,e2,g3⟩:=DG.out g2;obtain⟨A8,n8,m8,rfl,g4⟩:=DSl.out g3;obtain⟨p13,e9,g6⟩:=GP g4;obtain⟨a7,e11,g9⟩:=GN g6;obtain⟨w53,e53,g10⟩:=DG.out g9;obtain⟨A9,n9,m9,rfl,g11⟩:=DSl.out g10;obtain⟨x14,e54,g13⟩:=GI g11;obtain⟨x15,e55,g15⟩:=GI g13;obtain⟨dc0,da0,D1,rfl,g16⟩:=cZv.out g15;obtain⟨rfl,g17⟩:=ZR.out g16;obtain⟨u0da0,r0da0,rfl,g18⟩:=Zl.out g17;obtain⟨p14,rfl,g19⟩:=DP.out g18;obtain⟨u1da0,r1da0,rfl,g20⟩:=Zl.out g19;obtain⟨A10,n10,m10,rfl,g21⟩:=DSl.out g20;obtain⟨rfl,g22⟩:=ZR.out g21;obtain⟨rfl,h'⟩:=Zk.out g22;exact okJ (Λ:=(Zu.Λ9 K (Zu.l9 K k))) aZ6 [{ target:=.fn (.func 117) #[],args:=#[.pointer p14,.slice A10 n10 m10]}] (Zb.cons e0 (Zb.cons e2 (Zb.cons e9 (Zb.cons e11 (Zb.cons e53 (Zb.cons e54 (Zb.cons e55 (Zb.nil _)))))))) h' oN) oN)) oN)) oN)
def dZT (p1:OA)(H:Hp)(K:VK):Prop:=
 Nw H (.obj (.cells #[.pointer p1] 153)) fun b1 H1=>Nw H1 (.obj (.cells #[.int .u32 0,.int .i64 0] 208)) fun b2 H2=>LeP H2 ⟨b1,0,none⟩ fun p2=>HcI 121 #[.pointer p2,.func (.func 122) #[] #[.pointer (some ⟨b1,0,none⟩),.pointer (some ⟨b2,0,none⟩)]] H2 fun x1 H3=>BIf (x1 !=0) (K (.tuple #[.int .u32 0,.int .i64 x1]) H3) (HcU 124 #[.pointer (some ⟨b2,0,none⟩)] H3 fun x2 H4=>K (.tuple #[.int .u32 x2,.int .i64 0]) H4)
theorem dZT.ok p1 H K (h:dZT p1 H K):Za Tryz.prog 84 #[.pointer p1] H K:=
 okN aZ6 Tryz.func84 rfl rfl h
def dZj (p1:OA)(H:Hp)(K:VK):Prop:=
 NN p1 fun a1=>LeI H ((a1.add 2).add 2) fun x1=>K (.int .i64 x1) H
theorem dZj.ok p1 H K (h:dZj p1 H K):Za Tryz.prog 89 #[.pointer p1] H K:=
 okN aZ6 Tryz.func89 rfl rfl h
def ZO.l9 (K:VK):Nat→OA→OA→Nat→Nat→OA→OA→Nat→Nat→Int→Int→OA→OA→Nat→Nat→Hp→Prop
 |0,_,_,_,_,_,_,_,_,_,_,_,_,_,_,_=>False
 |k+1,p9,A5,n5,m5,p10,A6,n6,m6,x8,x9,p11,A7,n7,m7,H=>
  let R9:=ZO.l9 K k
  BIf (decide (x9<x8)) (ixI x9 n6 (NN A6 fun a4=>LdA H (a4.add (x9.toNat*3)) 3 fun l10=>Nw H (.obj (.cells #[.int .i64 0,.int .i64 0,.int .i64 0] 204)) fun b2 H7=>StA H7 ⟨b2,0,none⟩ l10.toArray 3 fun H8=>NN p9 fun a5=>LeI H8 ((⟨b2,0,none⟩:Addr).add 0) fun x10=>HcI 118 #[.pointer (some (a5.add 0)),.int .i64 x10,.pointer p10] H8 fun x11 H9=>BIf (x11 !=0) (aZU Tryz.prog 117 #[.pointer p11,.slice A7 n7 m7] H9 fun _ H11=>K (.int .i64 x11) H11) (LeI H9 ((⟨b2,0,none⟩:Addr).add 2) fun x12=>slB n5 m5 none (some x12) fun n8 n9=>QcS 119 #[.pointer p10] H9 fun A8 n10 m8=>LeI H9 ((⟨b2,0,none⟩:Addr).add 1) fun x13=>slB n10 m8 (some x13) none fun n11 n12=>CpK Tryz.prog 82 (.slice (slA A5 m5 n8 1) (n9-n8) (m5-n8)) (.slice (slA A8 m8 n11 1) (n12-n11) (m8-n11)) H9 fun v20 H10=>DI .i64 v20 fun x14=>LeI H10 ((⟨b2,0,none⟩:Addr).add 2) fun x15=>slB n5 m5 (some x15) none fun n13 n14=>R9 p9 (slA A5 m5 n13 1) (n14-n13) (m5-n13) p10 A6 n6 m6 x8 (i64.wrap (x9+1)) p11 A7 n7 m7 H10))) (aZU Tryz.prog 117 #[.pointer p11,.slice A7 n7 m7] H fun _ H12=>K (.int .i64 0) H12)
def ZO.j5 (K:VK)(p6 A3:OA)(n3 m3:Nat)(A4:OA)(n4 m4:Nat)(x7:Int)(p7:OA)(H:Hp):=
 BIf (x7 !=0) (K (.int .i64 x7) H) (NN p6 fun a3=>LeP H ((a3.add 0).add 1) fun p8=>Nw H (.row [.pointer p7] 195 1) fun b1 H6=>(∃ k,ZO.l9 K k p6 A3 n3 m3 p7 A4 n4 m4 (n4:Int) 0 p8 (some ⟨b1,0,none⟩) 1 1 H6))
def ZO (p1:OA)(x1:Int)(A1:OA)(n1 m1:Nat)(H:Hp)(K:VK):Prop:=
 Hz 114 #[.pointer p1,.int .i64 x1,.int .i64 (n1:Int)] H fun v1 H1=>dZ7 v1 fun A2 n2 m2 x2=>(BIf (x2 !=0) (K (.int .i64 x2) H1) (BIf ((n1:Int)==0) (K (.int .i64 x2) H1) (NN p1 fun a1=>NN p1 fun a2=>(LeP H1 ((a1.add 0).add 1) fun p2=>HcI 116 #[.pointer (some (a2.add 0))] H1 fun x3 H2=>Hz 115 #[.pointer p2,.int .i64 x3] H2 fun v6 H3=>dZV v6 fun p3 x4=>(ZO.j5 K p1 A1 n1 m1 A2 n2 m2 x4 p3 H3))∧(HcI 116 #[.pointer (some (a2.add 0))] H1 fun x5 H4=>LeP H4 ((a1.add 0).add 1) fun p4=>Hz 115 #[.pointer p4,.int .i64 x5] H4 fun v11 H5=>dZV v11 fun p5 x6=>(ZO.j5 K p1 A1 n1 m1 A2 n2 m2 x6 p5 H5)))))
def ZO.l9.L (K:VK)(k:Nat):Mid:=fun E D H=>
 eP E 0 fun p9=>DG (E.get? 2) fun w2=>DSl w2 fun A5 n5 m5=>eP E 9 fun p10=>DG (E.get? 52) fun w52=>DSl w52 fun A6 n6 m6=>eI E 53 .i64 fun x8=>eI E 54 .i64 fun x9=>cZv 117 D fun dc0 da0 D1=>ZR dc0 (Zl da0 fun u0da0 r0da0=>DP u0da0 fun p11=>Zl r0da0 fun u1da0 r1da0=>DSl u1da0 fun A7 n7 m7=>ZR r1da0 (Zk D1 (ZO.l9 K k p9 A5 n5 m5 p10 A6 n6 m6 x8 x9 p11 A7 n7 m7 H)))
def ZO.Λ9 (_:VK)(_R9:OA→OA→Nat→Nat→OA→OA→Nat→Nat→Int→Int→OA→OA→Nat→Nat→Hp→Prop):Zt:=Zt.none (fun i=>match Nat.beq i 14 with|true=>some ([],[0,1,2,3,4,5,6,7,8],9)|false=>match Nat.beq i 11 with|true=>some ([],[0,1,2,3,4,5],6)|false=>match Nat.beq i 4 with|true=>some ([],[0,1,3,7,15,0,32,96,224,511,1023,2047,2047,4095,16383],0)|false=>none)
def ZO.Λ (K:VK):Zt:=⟨fun i=>match Nat.beq i 5 with|true=>some (fun E D H=>eP E 0 fun p6=>DG (E.get? 2) fun w2=>DSl w2 fun A3 n3 m3=>DG (E.get? 7) fun w7=>DSl w7 fun A4 n4 m4=>eI E 8 .i64 fun x7=>eP E 9 fun p7=>Zk D (ZO.j5 K p6 A3 n3 m3 A4 n4 m4 x7 p7 H))|false=>none,fun i=>match Nat.beq i 9 with|true=>some (fun E D H=>∃ k,ZO.l9.L K k E D H)|false=>none,(fun i=>match Nat.beq i 14 with|true=>some ([],[0,1,2,3,4,5,6,7,8],9)|false=>match Nat.beq i 11 with|true=>some ([],[0,1,2,3,4,5],6)|false=>match Nat.beq i 4 with|true=>some ([],[0,1,3,7,15,0,32,96,224,511,1023,2047,2047,4095,16383],0)|false=>none)⟩
theorem ZO.ok p1 x1 A1 n1 m1 H K (h:ZO p1 x1 A1 n1 m1 H K):Za Tryz.prog 90 #[.pointer p1,.int .i64 x1,.slice A1 n1 m1] H K:=
 okL (Λ:=(ZO.Λ K)) aZ6 Tryz.func90 rfl rfl h (oC (fun E D H h=>by
   obtain⟨p6,e0,g2⟩:=GP h;obtain⟨w2,e2,g3⟩:=DG.out g2;obtain⟨A3,n3,m3,rfl,g4⟩:=DSl.out g3;obtain⟨w7,e7,g5⟩:=DG.out g4;obtain⟨A4,n4,m4,rfl,g6⟩:=DSl.out g5;obtain⟨x7,e8,g8⟩:=GI g6;obtain⟨p7,e9,g10⟩:=GP g8;obtain⟨rfl,h'⟩:=Zk.out g10;exact okJ (Λ:=(ZO.Λ K)) aZ6 [] (Zb.cons e0 (Zb.cons e2 (Zb.cons e7 (Zb.cons e8 (Zb.cons e9 (Zb.nil _)))))) h' (oC (fun E D H h=>by
     refine Safe.loop' (ZO.l9.L K) (fun E D H h=>?_) (fun k E D H h=>?_) E D H h
     ·obtain⟨w0,e0,g1⟩:=DG.out h;obtain⟨p9,rfl,g2⟩:=DP.out g1;obtain⟨w2,e2,g3⟩:=DG.out g2;obtain⟨A5,n5,m5,rfl,g4⟩:=DSl.out g3;obtain⟨w9,e9,g5⟩:=DG.out g4;obtain⟨p10,rfl,g6⟩:=DP.out g5;obtain⟨w52,e52,g7⟩:=DG.out g6;obtain⟨A6,n6,m6,rfl,g8⟩:=DSl.out g7;obtain⟨w53,e53,g9⟩:=DG.out g8;obtain⟨x8,rfl,g10⟩:=DI.out g9;obtain⟨w54,e54,g11⟩:=DG.out g10;obtain⟨x9,rfl,g12⟩:=DI.out g11;obtain⟨dc0,da0,D1,rfl,g13⟩:=cZv.out g12;obtain⟨rfl,g14⟩:=ZR.out g13;obtain⟨u0da0,r0da0,rfl,g15⟩:=Zl.out g14;obtain⟨p11,rfl,g16⟩:=DP.out g15;obtain⟨u1da0,r1da0,rfl,g17⟩:=Zl.out g16;obtain⟨A7,n7,m7,rfl,g18⟩:=DSl.out g17;obtain⟨rfl,g19⟩:=ZR.out g18;obtain⟨rfl,h'⟩:=Zk.out g19;exact h'
     ·obtain⟨p9,e0,g2⟩:=GP h;obtain⟨w2,e2,g3⟩:=DG.out g2;obtain⟨A5,n5,m5,rfl,g4⟩:=DSl.out g3;obtain⟨p10,e9,g6⟩:=GP g4;obtain⟨w52,e52,g7⟩:=DG.out g6;obtain⟨A6,n6,m6,rfl,g8⟩:=DSl.out g7;obtain⟨x8,e53,g10⟩:=GI g8;obtain⟨x9,e54,g12⟩:=GI g10;obtain⟨dc0,da0,D1,rfl,g13⟩:=cZv.out g12;obtain⟨rfl,g14⟩:=ZR.out g13;obtain⟨u0da0,r0da0,rfl,g15⟩:=Zl.out g14;obtain⟨p11,rfl,g16⟩:=DP.out g15;obtain⟨u1da0,r1da0,rfl,g17⟩:=Zl.out g16;obtain⟨A7,n7,m7,rfl,g18⟩:=DSl.out g17;obtain⟨rfl,g19⟩:=ZR.out g18;obtain⟨rfl,h'⟩:=Zk.out g19;exact okJ (Λ:=(ZO.Λ9 K (ZO.l9 K k))) aZ6 [{ target:=.fn (.func 117) #[],args:=#[.pointer p11,.slice A7 n7 m7]}] (Zb.cons e0 (Zb.cons e2 (Zb.cons e9 (Zb.cons e52 (Zb.cons e53 (Zb.cons e54 (Zb.nil _))))))) h' oN) oN)) oN)
def fZ6 (p1 p2:OA)(x1 x2 x3:Int)(H:Hp)(K:VK):Prop:=
 Nw H (.obj (.cells #[.int .i64 x1,.int .i64 x2,.int .i64 x3] 87)) fun b1 H1=>BIf p1.isNone (K (.tuple #[.pointer none,.int .i64 1]) H1) (BIf p2.isNone (K (.tuple #[.pointer none,.int .i64 1]) H1) (LdA H1 ⟨b1,0,none⟩ 3 fun l1=>gZD l1.toArray.toList fun x4 x5 x6=>(Nw H1 (.obj (.cells #[.pointer p1,.pointer p2,.int .i64 x4,.int .i64 x5,.int .i64 x6] 200)) fun b2 H2=>LeI H2 ((⟨b1,0,none⟩:Addr).add 2) fun x7=>BIf (decide (x7<1)) (K (.tuple #[.pointer none,.int .i64 2]) H2) (LeI H2 ((⟨b1,0,none⟩:Addr).add 0) fun x8=>BIf (decide (x8<0)) (K (.tuple #[.pointer none,.int .i64 2]) H2) (LeI H2 ((⟨b1,0,none⟩:Addr).add 1) fun x9=>BIf (decide (x9<1)) (K (.tuple #[.pointer none,.int .i64 2]) H2) (LeI H2 ((⟨b1,0,none⟩:Addr).add 0) fun x10=>NN p1 fun a1=>QcI 41 #[.pointer (some (a1.add 0))] H2 fun x11=>BIf (decide (x10≥x11)) (K (.tuple #[.pointer none,.int .i64 2]) H2) (LeI H2 ((⟨b1,0,none⟩:Addr).add 1) fun x12=>NN p1 fun a2=>QcI 41 #[.pointer (some (a2.add 0))] H2 fun x13=>LeI H2 ((⟨b1,0,none⟩:Addr).add 0) fun x14=>BIf (decide (x12>(i64.wrap (x13-x14)))) (K (.tuple #[.pointer none,.int .i64 2]) H2) (LeI H2 ((⟨b1,0,none⟩:Addr).add 2) fun x15=>LeI H2 ((⟨b1,0,none⟩:Addr).add 1) fun x16=>QcI 116 #[.pointer (some ((⟨b2,0,none⟩:Addr).add 0))] H2 fun x17=>BIf (decide (x15>(i64.wrap (x16*x17)))) (K (.tuple #[.pointer none,.int .i64 2]) H2) (K (.tuple #[.pointer (some ⟨b2,0,none⟩),.int .i64 0]) H2)))))))))
theorem fZ6.ok p1 p2 x1 x2 x3 H K (h:fZ6 p1 p2 x1 x2 x3 H K):Za Tryz.prog 113 #[.pointer p1,.pointer p2,.agg #[.int .i64 x1,.int .i64 x2,.int .i64 x3]] H K:=
 okN aZ6 Tryz.func113 rfl rfl h
def ZU.l4 (K:VK):Nat→OA→Int→Int→OA→Nat→Nat→Hp→Prop
 |0,_,_,_,_,_,_,_=>False
 |k+1,p2,x5,x6,A1,n1,m1,H=>
  let R4:=ZU.l4 K k
  BIf (decide (x6>0)) (NN p2 fun a1=>LdA H (a1.add 2) 3 fun l1=>NN p2 fun a2=>QcI 116 #[.pointer (some (a2.add 0))] H fun x7=>Qz 157 #[.agg l1.toArray,.int .i64 x7,.int .i64 x5] H fun v4=>nZB v4 fun x8 x9 x10=>(BIf (x10 !=0) (K (.tuple #[.slice none 0 0,.int .i64 x10]) H) (NN p2 fun a3=>HcI 116 #[.pointer (some (a3.add 0))] H fun x11 H3=>Nw H3 (.row [.int .i64 x8,.int .i64 x9,.int .i64 (if(i64.wrap (x11-x9))<x6 then(i64.wrap (x11-x9))else x6)] 204 3) fun b1 H4=>cZ8 Tryz.prog 204 (.slice A1 n1 m1) (.slice (some ⟨b1,0,none⟩) 1 1) H4 fun v9 H5=>DSl v9 fun A2 n2 m2=>R4 p2 (i64.wrap (x5+(if(i64.wrap (x11-x9))<x6 then(i64.wrap (x11-x9))else x6))) (i64.wrap (x6-(if(i64.wrap (x11-x9))<x6 then(i64.wrap (x11-x9))else x6))) A2 n2 m2 H5))) (K (.tuple #[.slice A1 n1 m1,.int .i64 0]) H)
def ZU (p1:OA)(x1 x2:Int)(H:Hp)(K:VK):Prop:=
 BIf (decide (x1<0)) (K (.tuple #[.slice none 0 0,.int .i64 2]) H) (HcI 89 #[.pointer p1] H fun x3 H1=>BIf (decide (x1>x3)) (K (.tuple #[.slice none 0 0,.int .i64 2]) H1) (HcI 89 #[.pointer p1] H1 fun x4 H2=>BIf (decide (x2>(i64.wrap (x4-x1)))) (K (.tuple #[.slice none 0 0,.int .i64 2]) H2) ((∃ k,ZU.l4 K k p1 x1 x2 none 0 0 H2))))
def ZU.l4.L (K:VK)(k:Nat):Mid:=fun E D H=>
 eP E 0 fun p2=>eI E 1 .i64 fun x5=>eI E 2 .i64 fun x6=>DG (E.get? 8) fun w8=>DSl w8 fun A1 n1 m1=>Zk D (ZU.l4 K k p2 x5 x6 A1 n1 m1 H)
def ZU.Λ4 (_:VK)(_R4:OA→Int→Int→OA→Nat→Nat→Hp→Prop):Zt:=Zt.none (fun _=>none)
def ZU.Λ (K:VK):Zt:=⟨fun i=>none,fun i=>match Nat.beq i 4 with|true=>some (fun E D H=>∃ k,ZU.l4.L K k E D H)|false=>none,(fun _=>none)⟩
theorem ZU.ok p1 x1 x2 H K (h:ZU p1 x1 x2 H K):Za Tryz.prog 114 #[.pointer p1,.int .i64 x1,.int .i64 x2] H K:=
 okL (Λ:=(ZU.Λ K)) aZ6 Tryz.func114 rfl rfl h (oC (fun E D H h=>by
   refine Safe.loop' (ZU.l4.L K) (fun E D H h=>?_) (fun k E D H h=>?_) E D H h
   ·obtain⟨w0,e0,g1⟩:=DG.out h;obtain⟨p2,rfl,g2⟩:=DP.out g1;obtain⟨w1,e1,g3⟩:=DG.out g2;obtain⟨x5,rfl,g4⟩:=DI.out g3;obtain⟨w2,e2,g5⟩:=DG.out g4;obtain⟨x6,rfl,g6⟩:=DI.out g5;obtain⟨w8,e8,g7⟩:=DG.out g6;obtain⟨A1,n1,m1,rfl,g8⟩:=DSl.out g7;obtain⟨rfl,h'⟩:=Zk.out g8;exact h'
   ·obtain⟨p2,e0,g2⟩:=GP h;obtain⟨x5,e1,g4⟩:=GI g2;obtain⟨x6,e2,g6⟩:=GI g4;obtain⟨w8,e8,g7⟩:=DG.out g6;obtain⟨A1,n1,m1,rfl,g8⟩:=DSl.out g7;obtain⟨rfl,h'⟩:=Zk.out g8;exact okJ (Λ:=(ZU.Λ4 K (ZU.l4 K k))) aZ6 [] (Zb.cons e0 (Zb.cons e1 (Zb.cons e2 (Zb.cons e8 (Zb.nil _))))) h' oN) oN)
def dZz (p1:OA)(H:Hp)(K:VK):Prop:=
 NN p1 fun a1=>LeP H (a1.add 0) fun p2=>NN p2 fun a2=>HcI 42 #[.pointer (some (a2.add 0))] H fun x1 H1=>((8:Int)≠0∧i64=i64∧K (.int .i64 (i64.wrap (Int.tdiv x1 8))) H1)
theorem dZz.ok p1 H K (h:dZz p1 H K):Za Tryz.prog 116 #[.pointer p1] H K:=
 okN aZ6 Tryz.func116 rfl rfl h
def ZY.l6 (K:VK):Nat→OA→Nat→Nat→OA→Nat→Nat→Int→Int→Hp→Prop
 |0,_,_,_,_,_,_,_,_,_=>False
 |k+1,A3,n3,m3,A4,n4,m4,x3,x4,H=>
  let R6:=ZY.l6 K k
  BIf (decide (x4<x3)) (Hz 136 #[.slice A3 n3 m3,.int .i64 x4] H fun v6 H3=>gZ7 v6 fun x5 x6=>(ixI x4 n4 (NN A4 fun a2=>St H3 ((a2.add (x4.toNat*1)).add 0) (.int .u64 x5) fun H4=>R6 A3 n3 m3 A4 n4 m4 x3 (i64.wrap (x4+1)) H4))) (K (.int .i64 0) H)
def ZY (p1:OA)(x1:Int)(p2:OA)(H:Hp)(K:VK):Prop:=
 NN p1 fun a1=>LeP H (a1.add 0) fun p3=>Hz 91 #[.pointer p3,.int .i64 x1] H fun v2 H1=>dZ7 v2 fun A1 n1 m1 x2=>(BIf (x2 !=0) (K (.int .i64 x2) H1) (HcS 119 #[.pointer p2] H1 fun A2 n2 m2 H2=>(∃ k,ZY.l6 K k A1 n1 m1 A2 n2 m2 (n2:Int) 0 H2)))
def ZY.l6.L (K:VK)(k:Nat):Mid:=fun E D H=>
 DG (E.get? 7) fun w7=>DSl w7 fun A3 n3 m3=>DG (E.get? 9) fun w9=>DSl w9 fun A4 n4 m4=>eI E 28 .i64 fun x3=>eI E 29 .i64 fun x4=>Zk D (ZY.l6 K k A3 n3 m3 A4 n4 m4 x3 x4 H)
def ZY.Λ6 (_:VK)(_R6:OA→Nat→Nat→OA→Nat→Nat→Int→Int→Hp→Prop):Zt:=Zt.none (fun _=>none)
def ZY.Λ (K:VK):Zt:=⟨fun i=>none,fun i=>match Nat.beq i 6 with|true=>some (fun E D H=>∃ k,ZY.l6.L K k E D H)|false=>none,(fun _=>none)⟩
theorem ZY.ok p1 x1 p2 H K (h:ZY p1 x1 p2 H K):Za Tryz.prog 118 #[.pointer p1,.int .i64 x1,.pointer p2] H K:=
 okL (Λ:=(ZY.Λ K)) aZ6 Tryz.func118 rfl rfl h (oC (fun E D H h=>by
   refine Safe.loop' (ZY.l6.L K) (fun E D H h=>?_) (fun k E D H h=>?_) E D H h
   ·obtain⟨w7,e7,g1⟩:=DG.out h;obtain⟨A3,n3,m3,rfl,g2⟩:=DSl.out g1;obtain⟨w9,e9,g3⟩:=DG.out g2;obtain⟨A4,n4,m4,rfl,g4⟩:=DSl.out g3;obtain⟨w28,e28,g5⟩:=DG.out g4;obtain⟨x3,rfl,g6⟩:=DI.out g5;obtain⟨w29,e29,g7⟩:=DG.out g6;obtain⟨x4,rfl,g8⟩:=DI.out g7;obtain⟨rfl,h'⟩:=Zk.out g8;exact h'
   ·obtain⟨w7,e7,g1⟩:=DG.out h;obtain⟨A3,n3,m3,rfl,g2⟩:=DSl.out g1;obtain⟨w9,e9,g3⟩:=DG.out g2;obtain⟨A4,n4,m4,rfl,g4⟩:=DSl.out g3;obtain⟨x3,e28,g6⟩:=GI g4;obtain⟨x4,e29,g8⟩:=GI g6;obtain⟨rfl,h'⟩:=Zk.out g8;exact okJ (Λ:=(ZY.Λ6 K (ZY.l6 K k))) aZ6 [] (Zb.cons e7 (Zb.cons e9 (Zb.cons e28 (Zb.cons e29 (Zb.nil _))))) h' oN) oN)
def cZZ (p1:OA)(x1:Int)(p2:OA)(H:Hp)(K:VK):Prop:=
 NN p1 fun a1=>(LeP H (a1.add 0) fun p3=>HcS 119 #[.pointer p2] H fun A1 n1 m1 H1=>HcS 103 #[.slice A1 n1 m1] H1 fun A2 n2 m2 H2=>HcI 45 #[.pointer p3,.int .i64 x1,.slice A2 n2 m2] H2 fun x2 H3=>K (.int .i64 x2) H3)∧(HcS 119 #[.pointer p2] H fun A3 n3 m3 H4=>(LeP H4 (a1.add 0) fun p4=>HcS 103 #[.slice A3 n3 m3] H4 fun A4 n4 m4 H5=>HcI 45 #[.pointer p4,.int .i64 x1,.slice A4 n4 m4] H5 fun x3 H6=>K (.int .i64 x3) H6)∧(HcS 103 #[.slice A3 n3 m3] H4 fun A5 n5 m5 H7=>LeP H7 (a1.add 0) fun p5=>HcI 45 #[.pointer p5,.int .i64 x1,.slice A5 n5 m5] H7 fun x4 H8=>K (.int .i64 x4) H8))
theorem cZZ.ok p1 x1 p2 H K (h:cZZ p1 x1 p2 H K):Za Tryz.prog 120 #[.pointer p1,.int .i64 x1,.pointer p2] H K:=
 ok0 (fun i=>match Nat.beq i 1 with|true=>some ([],[0,1,3,7,0,0,32,96,255,511],0)|false=>none) aZ6 Tryz.func120 rfl rfl h
def ZK.l6 (K:VK):Nat→OA→FuncId→Array Value→Array Value→OA→Int→Int→Int→OA→OA→Nat→Nat→Hp→Prop
 |0,_,_,_,_,_,_,_,_,_,_,_,_,_=>False
 |k+1,p9,fd3,F3,C3,p10,x8,x9,x10,p11,A1,n1,m1,H=>
  let R6:=ZK.l6 K k
  BIf (decide (x9>0)) (BIf (x8==0) (NN p9 fun a5=>HcI 116 #[.pointer (some (a5.add 0))] H fun x11 H6=>dZJ Tryz.prog fd3 ((F3++ #[.int .i64 x10,.int .i64 (if x11<x9 then x11 else x9),.pointer p10])++C3) H6 fun v15 H7=>DR Tryz.prog (bZv Tryz.prog fd3) v15 fun v16=>DI .i64 v16 fun x12=>NN p9 fun a6=>HcI 116 #[.pointer (some (a6.add 0))] H7 fun x13 H8=>R6 p9 fd3 F3 C3 p10 x12 (i64.wrap (x9-x13)) (i64.wrap (x10+1)) p11 A1 n1 m1 H8) (aZU Tryz.prog 117 #[.pointer p11,.slice A1 n1 m1] H fun _ H9=>K (.int .i64 x8) H9)) (aZU Tryz.prog 117 #[.pointer p11,.slice A1 n1 m1] H fun _ H10=>K (.int .i64 x8) H10)
def ZK.j2 (K:VK)(p6:OA)(fd2:FuncId)(F2 C2:Array Value)(p7:OA)(x5:Int)(H:Hp):=
 BIf (x5 !=0) (K (.int .i64 x5) H) (NN p6 fun a3=>LeP H ((a3.add 0).add 1) fun p8=>Nw H (.row [.pointer p7] 195 1) fun b1 H5=>QcI 89 #[.pointer p6] H5 fun x6=>NN p6 fun a4=>LeI H5 ((a4.add 2).add 0) fun x7=>(∃ k,ZK.l6 K k p6 fd2 F2 C2 p7 x5 x6 x7 p8 (some ⟨b1,0,none⟩) 1 1 H5))
def ZK (p1:OA)(fd1:FuncId)(F1 C1:Array Value)(H:Hp)(K:VK):Prop:=
 NN p1 fun a1=>NN p1 fun a2=>(LeP H ((a1.add 0).add 1) fun p2=>HcI 116 #[.pointer (some (a2.add 0))] H fun x1 H1=>Hz 115 #[.pointer p2,.int .i64 x1] H1 fun v3 H2=>dZV v3 fun p3 x2=>(ZK.j2 K p1 fd1 F1 C1 p3 x2 H2))∧(HcI 116 #[.pointer (some (a2.add 0))] H fun x3 H3=>LeP H3 ((a1.add 0).add 1) fun p4=>Hz 115 #[.pointer p4,.int .i64 x3] H3 fun v8 H4=>dZV v8 fun p5 x4=>(ZK.j2 K p1 fd1 F1 C1 p5 x4 H4))
def ZK.l6.L (K:VK)(k:Nat):Mid:=fun E D H=>
 eP E 0 fun p9=>DG (E.get? 1) fun w1=>DFn w1 fun fd3 F3 C3=>eP E 5 fun p10=>eI E 6 .i64 fun x8=>eI E 7 .i64 fun x9=>eI E 8 .i64 fun x10=>cZv 117 D fun dc0 da0 D1=>ZR dc0 (Zl da0 fun u0da0 r0da0=>DP u0da0 fun p11=>Zl r0da0 fun u1da0 r1da0=>DSl u1da0 fun A1 n1 m1=>ZR r1da0 (Zk D1 (ZK.l6 K k p9 fd3 F3 C3 p10 x8 x9 x10 p11 A1 n1 m1 H)))
def ZK.Λ6 (_:VK)(_R6:OA→FuncId→Array Value→Array Value→OA→Int→Int→Int→OA→OA→Nat→Nat→Hp→Prop):Zt:=Zt.none (fun i=>match Nat.beq i 1 with|true=>some ([],[0,1,3,7,15,0,32,96,224,511,1023,2047,2047,4095,16383],0)|false=>none)
def ZK.Λ (K:VK):Zt:=⟨fun i=>match Nat.beq i 2 with|true=>some (fun E D H=>eP E 0 fun p6=>DG (E.get? 1) fun w1=>DFn w1 fun fd2 F2 C2=>eP E 5 fun p7=>eI E 6 .i64 fun x5=>Zk D (ZK.j2 K p6 fd2 F2 C2 p7 x5 H))|false=>none,fun i=>match Nat.beq i 6 with|true=>some (fun E D H=>∃ k,ZK.l6.L K k E D H)|false=>none,(fun i=>match Nat.beq i 1 with|true=>some ([],[0,1,3,7,15,0,32,96,224,511,1023,2047,2047,4095,16383],0)|false=>none)⟩
theorem ZK.ok p1 fd1 F1 C1 H K (h:ZK p1 fd1 F1 C1 H K):Za Tryz.prog 121 #[.pointer p1,.func (.func fd1) F1 C1] H K:=
 okL (Λ:=(ZK.Λ K)) aZ6 Tryz.func121 rfl rfl h (oC (fun E D H h=>by
   obtain⟨p6,e0,g2⟩:=GP h;obtain⟨w1,e1,g3⟩:=DG.out g2;obtain⟨fd2,F2,C2,rfl,g4⟩:=DFn.out g3;obtain⟨p7,e5,g6⟩:=GP g4;obtain⟨x5,e6,g8⟩:=GI g6;obtain⟨rfl,h'⟩:=Zk.out g8;exact okJ (Λ:=(ZK.Λ K)) aZ6 [] (Zb.cons e0 (Zb.cons e1 (Zb.cons e5 (Zb.cons e6 (Zb.nil _))))) h' (oC (fun E D H h=>by
     refine Safe.loop' (ZK.l6.L K) (fun E D H h=>?_) (fun k E D H h=>?_) E D H h
     ·obtain⟨w0,e0,g1⟩:=DG.out h;obtain⟨p9,rfl,g2⟩:=DP.out g1;obtain⟨w1,e1,g3⟩:=DG.out g2;obtain⟨fd3,F3,C3,rfl,g4⟩:=DFn.out g3;obtain⟨w5,e5,g5⟩:=DG.out g4;obtain⟨p10,rfl,g6⟩:=DP.out g5;obtain⟨w6,e6,g7⟩:=DG.out g6;obtain⟨x8,rfl,g8⟩:=DI.out g7;obtain⟨w7,e7,g9⟩:=DG.out g8;obtain⟨x9,rfl,g10⟩:=DI.out g9;obtain⟨w8,e8,g11⟩:=DG.out g10;obtain⟨x10,rfl,g12⟩:=DI.out g11;obtain⟨dc0,da0,D1,rfl,g13⟩:=cZv.out g12;obtain⟨rfl,g14⟩:=ZR.out g13;obtain⟨u0da0,r0da0,rfl,g15⟩:=Zl.out g14;obtain⟨p11,rfl,g16⟩:=DP.out g15;obtain⟨u1da0,r1da0,rfl,g17⟩:=Zl.out g16;obtain⟨A1,n1,m1,rfl,g18⟩:=DSl.out g17;obtain⟨rfl,g19⟩:=ZR.out g18;obtain⟨rfl,h'⟩:=Zk.out g19;exact h'
     ·obtain⟨p9,e0,g2⟩:=GP h;obtain⟨w1,e1,g3⟩:=DG.out g2;obtain⟨fd3,F3,C3,rfl,g4⟩:=DFn.out g3;obtain⟨p10,e5,g6⟩:=GP g4;obtain⟨x8,e6,g8⟩:=GI g6;obtain⟨x9,e7,g10⟩:=GI g8;obtain⟨x10,e8,g12⟩:=GI g10;obtain⟨dc0,da0,D1,rfl,g13⟩:=cZv.out g12;obtain⟨rfl,g14⟩:=ZR.out g13;obtain⟨u0da0,r0da0,rfl,g15⟩:=Zl.out g14;obtain⟨p11,rfl,g16⟩:=DP.out g15;obtain⟨u1da0,r1da0,rfl,g17⟩:=Zl.out g16;obtain⟨A1,n1,m1,rfl,g18⟩:=DSl.out g17;obtain⟨rfl,g19⟩:=ZR.out g18;obtain⟨rfl,h'⟩:=Zk.out g19;exact okJ (Λ:=(ZK.Λ6 K (ZK.l6 K k))) aZ6 [{ target:=.fn (.func 117) #[],args:=#[.pointer p11,.slice A1 n1 m1]}] (Zb.cons e0 (Zb.cons e1 (Zb.cons e5 (Zb.cons e6 (Zb.cons e7 (Zb.cons e8 (Zb.nil _))))))) h' oN) oN)) oN)
def dZi (x1 x2:Int)(p1 p2 p3:OA)(H:Hp)(K:VK):Prop:=
 NN p2 fun a1=>LeP H a1 fun p4=>NN p4 fun a2=>HcI 118 #[.pointer (some (a2.add 0)),.int .i64 x1,.pointer p1] H fun x3 H1=>BIf (x3==0) (HcS 119 #[.pointer p1] H1 fun A1 n1 m1 H2=>slB n1 m1 none (some x2) fun n2 n3=>Hz 123 #[.pointer p3,.slice (slA A1 m1 n2 1) (n3-n2) (m1-n2)] H2 fun v4 H3=>K (.int .i64 x3) H3) (K (.int .i64 x3) H1)
theorem dZi.ok x1 x2 p1 p2 p3 H K (h:dZi x1 x2 p1 p2 p3 H K):Za Tryz.prog 122 #[.int .i64 x1,.int .i64 x2,.pointer p1,.pointer p2,.pointer p3] H K:=
 okN aZ6 Tryz.func122 rfl rfl h
end Go.Proofs.YtgfildcgihbdaaaGreatDoor.W
namespace Go.Proofs.YtgfildcgihbdaaaGreatDoor.Str
open Go Go.Hw Go.Form W Dsk Are
structure X where
 f:Nat
 s:Nat
 w:Nat
def ZI (dp ap:Nat)(x:X):AO:=.obj (.cells #[.pointer (some ⟨dp,0,none⟩),.pointer (some ⟨ap,0,none⟩),.int .i64 x.f,.int .i64 x.s,.int .i64 x.w] 200)
def D.per (d:D):Nat:=d.size/8
structure On (d:D)(x:X):Prop where
 w1:1≤x.w
 s1:1≤x.s
 fit:x.f+x.s≤d.sec
 room:x.w≤x.s*D.per d
theorem Ok.per_le {d:D}(h:Ok d):4≤D.per d∧D.per d≤512∧8*D.per d=d.size:=by
 have h1:=h.size;have h2:=h.per;unfold D.per;omega
section
variable {L : List As} {H : Hp} {p dp ap : Nat} {d : D} {x : X}
theorem eZ3 (h:Sep L H)(i j:Nat)(hi:L[i]? =some (pts p (ZI dp ap x)))(hj:L[j]? =some (Dk dp d))(hok:Ok d):Za Tryz.prog 116 #[.pointer (some ⟨p,0,none⟩)] H (RetE (.int .i64 (D.per d:Int)) H):=by
 have hsz:=hok.size;apply dZz.ok;unfold dZz;simp only[HS];refine bZn (h.get i hi) (v:=.pointer (some ⟨dp,0,none⟩)) rfl ?_;simp only[HV]
 try simp only[HS]
 refine Za.use (hZH h j hj) ?_
 try simp only[HV]
 refine⟨by decide,by simp,RetE.of ?_⟩;rw[show Int.tdiv (d.size:Int) 8=((d.size/8:Nat):Int)from rfl,aZJ (by omega)];rfl
theorem gZB (h:Sep L H)(i:Nat)(hi:L[i]? =some (pts p (ZI dp ap x))):Za Tryz.prog 89 #[.pointer (some ⟨p,0,none⟩)] H (RetE (.int .i64 (x.w:Int)) H):=by
 apply dZj.ok;unfold dZj;simp only[HS];refine bZn (h.get i hi) (v:=.int .i64 x.w) rfl ?_;simp only[HV];exact RetE.mk _ _
end
def aZG (bs:List UInt8):List UInt64:=(List.range (bs.length/8)).map fun i=>UInt64.ofNat (Zs bs (8*i))
theorem cZ3 (bs:List UInt8):(aZG bs).length=bs.length/8:=by simp[aZG]
theorem lZ6 (bs:List UInt8)(i:Nat)(h:i<bs.length/8):(aZG bs)[i]? =some (UInt64.ofNat (Zs bs (8*i))):=by
 unfold aZG;rw[List.getElem?_map,List.getElem?_range h];rfl
theorem pZv (l:List UInt64):aZG (form l)=l:=by
 apply List.ext_getElem?;intro i;by_cases h:i<l.length
 ·rw[lZ6 _ _ (by rw[aZ8];omega)];have:=eZ7 h [];rw[List.append_nil]at this;rw[this,List.getElem?_eq_getElem h];simp
 ·rw[List.getElem?_eq_none (by rw[cZ3,aZ8];omega),List.getElem?_eq_none (by omega)]
structure Calm (d:D):Prop where
 down:d.down=false
 fuse:d.fuse=0
def D.more (d:D):D:={ d with rd:=d.rd+1}
theorem mZ2 (K:VK)(A:OA)(n c:Nat)(bs:List UInt8)(hn:n=bs.length)(hnc:n≤c)(hn2:n≤4096)(rb per m:Nat)(hper:8*per=n){L:List As}(i:Nat)
  (hK:∀ H,Sep (L.set i (pts rb (.row (Zc (aZG bs)) 82 m))) H→K (.int .i64 0) H) (hb:∀ xs H,Sep (L.set i (pts rb (.row xs 82 m))) H→Cells H A (Zm bs)) (hi:i<L.length):∀(d j:Nat) (xs:List Value) (H:Hp),j+d=per→xs.length=per→xs.take j=(Zc (aZG bs)).take j→
   Sep (L.set i (pts rb (.row xs 82 m))) H→ZY.l6 K (d+1) A n c (some ⟨rb,0,none⟩) per per (per:Int) (j:Int) H
 |0,j,xs,H,hj,hl,hx,hs=>by
  unfold ZY.l6;refine Zh (by omega) (hK H ?_);rw[List.take_of_length_le (by omega),List.take_of_length_le (by rw[Zr,cZ3];omega)]at hx;rw[← hx];exact hs
 |d+1,j,xs,H,hj,hl,hx,hs=>by
  unfold ZY.l6;refine Zn (by omega) ?_;refine Za.use (FormP.Word_ok A n c hnc (by omega) bs hn j (by omega) H (hb xs H hs)) ?_
  try simp only[HV]
  refine⟨by omega,by omega,?_⟩;rw[Int.toNat_natCast,Nat.mul_one];show St H _ _ _
  rw[Addr.add_lit',Nat.zero_add,Addr.add_zero];refine hs.str i (b:=rb) (xs:=xs) (e:=82) (m:=m) (by rw[List.getElem?_set];simp[hi]) (by omega) rfl fun H hs=>?_;rw[List.set_set]at hs;rw[ZG (x:=(j:Int)+1) (by omega) (by omega)];refine mZ2 K A n c bs hn hnc hn2 rb per m hper i hK hb hi d (j+1) _ H (by omega) (by rw[List.length_set];exact hl) ?_ hs;have hw:(Zc (aZG bs))[j]? =some (.int .u64 (Zs bs (8*j):Nat)):=by
   rw[aZ9,lZ6 _ _ (by omega)];simp only[Option.map_some];rw[UInt64.toNat_ofNat_of_lt' (cZT bs (8*j))]
  obtain⟨hlt,hg⟩:=List.getElem?_eq_some_iff.1 hw;rw[List.take_succ_eq_append_getElem hlt,hg,←hx,List.take_succ_eq_append_getElem (by rw[List.length_set];omega),List.take_set_of_le (by omega),List.getElem_set_self]
end Go.Proofs.YtgfildcgihbdaaaGreatDoor.Str
namespace Go.Proofs.YtgfildcgihbdaaaGreatDoor.Str
open Go Go.Hw Go.Form W Dsk Are
def D.put (d:D)(i:Int)(ws:List UInt64):D:={ d with wr:=d.wr+1,tch:=hZ0 d.tch i,cache:=cZy d.cache i (form ws)}
def right (d:D)(f s w:Int):Prop:=1≤w∧0≤f∧1≤s∧f<d.sec∧s≤d.sec-f∧w≤s*D.per d
theorem dZp {dp ap:Nat}{d:D}(hok:Ok d)(x:X)(hx:On d x):Tr Tryz.prog 113 #[.pointer (some ⟨dp,0,none⟩),.pointer (some ⟨ap,0,none⟩),.agg #[.int .i64 x.f,.int .i64 x.s,.int .i64 x.w]] [Dk dp d] fun v M=>
  ∃ p,v= .tuple #[.pointer (some ⟨p,0,none⟩),.int .i64 0]∧M=[Dk dp d,pts p (ZI dp ap x)]:=fun H hs=>by
 have hp:=Ok.per_le hok;have hsec:=hok.sec;obtain⟨h1,h2,h3,h4⟩:=hx;have hroom:x.s*D.per d≤1048576*512:=Nat.mul_le_mul (by omega) (by omega);apply fZ6.ok;unfold fZ6;simp only[HS];refine hs.nw fun b1 H hs=>aZc rfl (aZc rfl ?_)
 refine hs.ldw 1 rfl rfl ?_;simp only[HV];refine hs.nw fun b2 H hs=>?_
 refine hs.ld 1 rfl rfl ?_;simp only[HV];refine Zh (by omega) ?_;refine hs.ld 1 rfl rfl ?_;simp only[HV];refine Zh (by omega) ?_;refine hs.ld 1 rfl rfl ?_;simp only[HV];refine Zh (by omega) ?_;refine hs.ld 1 rfl rfl ?_;simp only[HV];refine ZQ.use (eZG hs 0 rfl) ?_
 try simp only[HV]
 refine Zh (by omega) ?_;refine hs.ld 1 rfl rfl ?_;simp only[HV];refine ZQ.use (eZG hs 0 rfl) ?_
 try simp only[HV]
 refine hs.ld 1 rfl rfl ?_;simp only[HV];rw[ZG (x:=(d.sec:Int)-x.f) (by omega) (by omega)];refine Zh (by omega) ?_;refine hs.ld 1 rfl rfl ?_;simp only[HV];refine hs.ld 1 rfl rfl ?_;simp only[HV];refine ZQ.use (eZ3 (p:=b2) (dp:=dp) (ap:=ap) (x:=x) hs 2 0 rfl rfl hok) ?_;simp only[HV];rw[← Int.natCast_mul,aZJ (by omega)];refine Zh (by omega) ?_;exact⟨_,⟨b2,rfl,rfl⟩,hs.re [0,2] rfl⟩
end Go.Proofs.YtgfildcgihbdaaaGreatDoor.Str
namespace Go.Proofs.YtgfildcgihbdaaaGreatDoor.Str
open Go Go.Hw Go.Form W Dsk Are
def cN (per fr n:Nat):Nat:=if per-fr%per<n then per-fr%per else n
def pcs (per f:Nat):Nat→Nat→Nat→List (Nat×Nat×Nat)
 |0,_,_=>[]
 |k+1,fr,n=>if n=0 then []else(f+fr/per,fr%per,cN per fr n)::pcs per f k (fr+cN per fr n) (n-cN per fr n)
def pcV (y:Nat×Nat×Nat):List Value:=[.int .i64 (y.1:Int),.int .i64 (y.2.1:Int),.int .i64 (y.2.2:Int)]
theorem lZl (per fr n:Nat):cN per fr n≤n:=by unfold cN;split<;>omega
theorem jZp {per fr n:Nat}(hp:0<per)(hn:0<n):0<cN per fr n:=by
 have:=Nat.mod_lt fr hp;unfold cN;split<;>omega
theorem oZd {per fr n:Nat}(hp:0<per):fr%per+cN per fr n≤per:=by
 have:=Nat.mod_lt fr hp;unfold cN;split<;>omega
theorem vZn :bZi Tryz.prog 204=some (3,24,some #[.int .i64 0,.int .i64 0,.int .i64 0]):=by kernel_rfl
theorem kZv (K:VK){p dp ap:Nat}{d:D}{x:X}(hok:Ok d)(hx:On d x):
  ∀(k fr n:Nat) (A:OA) (c m:Nat) (acc:List (Nat×Nat×Nat)) (H:Hp),n≤k→fr+n≤x.w→acc.length=c→c+n≤1000000000→
   (∀ A' m' H',Sep [pts p (ZI dp ap x),Dk dp d,Own 204 3 A' (acc++pcs (D.per d) x.f k fr n).length m' ((acc++pcs (D.per d) x.f k fr n).flatMap pcV)] H'→K (.tuple #[.slice A' (acc++pcs (D.per d) x.f k fr n).length m',.int .i64 0]) H')→
   Sep [pts p (ZI dp ap x),Dk dp d,Own 204 3 A c m (acc.flatMap pcV)] H→ZU.l4 K (k+1) (some ⟨p,0,none⟩) (fr:Int) (n:Int) A c m H
 |k,fr,0,A,c,m,acc,H,hn,hf,hc,hcn,hk,hs=>by
  unfold ZU.l4;refine Zh (by omega) ?_;have e:pcs (D.per d) x.f k fr 0=[]:=by cases k<;>simp[pcs]
  rw[e,List.append_nil,hc]at hk;exact hk A m H hs
 |0,fr,n+1,A,c,m,acc,H,hn,hf,hc,hcn,hk,hs=>by omega
 |k+1,fr,n+1,A,c,m,acc,H,hn,hf,hc,hcn,hk,hs=>by
  have hp:=Ok.per_le hok;have hsec:=hok.sec;have hroom:x.s*D.per d≤1048576*512:=Nat.mul_le_mul (by have:=hx.fit;omega) (by omega);have h4:=hx.room;have hfit:=hx.fit;unfold ZU.l4;refine Zn (by omega) ?_;simp only[HS];refine hs.lda 0 rfl (Nat.le_refl _) ?_;refine ZQ.use (eZ3 hs 0 1 rfl rfl hok) ?_;simp only[HV];refine ZQ.use (Lay.rZF x.f x.s x.w (D.per d) fr ⟨by omega,by omega⟩ (by omega) H) ?_;have hdiv:fr/D.per d<x.s:=by
   rw[Nat.div_lt_iff_lt_mul (by omega)];omega
  have hS:Lay.eZs x.f x.s x.w (D.per d) fr=(((x.f+fr/D.per d:Nat):Int),((fr%D.per d:Nat):Int),(0:Int)):=by
   unfold Lay.eZs;have e:Int.tdiv (fr:Int) (D.per d:Int)=((fr/D.per d:Nat):Int):=rfl;have e2:Int.tmod (fr:Int) (D.per d:Int)=((fr%D.per d:Nat):Int):=rfl;rw[e,e2,if_neg (by omega)];simp
  rw[hS];simp only[HV];refine Zq rfl ?_;refine Za.use (eZ3 hs 0 1 rfl rfl hok) ?_
  try simp only[HV]
  have hmod:=Nat.mod_lt fr (show 0<D.per d by omega);rw[ZG (x:=(D.per d:Int)-((fr%D.per d:Nat):Int)) (by omega) (by omega)];have hcN:(if(D.per d:Int)-((fr%D.per d:Nat):Int)<((n+1:Nat):Int)then(D.per d:Int)-((fr%D.per d:Nat):Int)else((n+1:Nat):Int))=((cN (D.per d) fr (n+1):Nat):Int):=by
   unfold cN;by_cases h:D.per d-fr%D.per d<n+1
   ·rw[if_pos h,if_pos (by omega)];omega
   ·rw[if_neg h,if_neg (by omega)]
  rw[hcN];have hcle:=lZl (D.per d) fr (n+1);have hcpos:=jZp (per:=D.per d) (fr:=fr) (n:=n+1) (by omega) (by omega);refine hs.appS 2 (by rfl) vZn rfl (by omega) (by omega) rfl (by rfl) (by omega) (by omega) fun A' m' H hs=>?_
  simp only[HV];rw[ZG (x:=(fr:Int)+((cN (D.per d) fr (n+1):Nat):Int)) (by omega) (by omega),ZG (x:=((n+1:Nat):Int)-((cN (D.per d) fr (n+1):Nat):Int)) (by omega) (by omega)];rw[show(fr:Int)+((cN (D.per d) fr (n+1):Nat):Int)=((fr+cN (D.per d) fr (n+1):Nat):Int) by omega,show((n+1:Nat):Int)-((cN (D.per d) fr (n+1):Nat):Int)=((n+1-cN (D.per d) fr (n+1):Nat):Int) by omega];have e:pcs (D.per d) x.f (k+1) fr (n+1)=(x.f+fr/D.per d,fr%D.per d,cN (D.per d) fr (n+1))::pcs (D.per d) x.f k (fr+cN (D.per d) fr (n+1)) (n+1-cN (D.per d) fr (n+1)):=by
   show(if n+1=0 then []else _)=_
   rw[if_neg (by omega)]
  refine kZv K (dp:=dp) (ap:=ap) hok hx k _ _ A' (c+1) m' (acc++[(x.f+fr/D.per d,fr%D.per d,cN (D.per d) fr (n+1))]) H (by omega) (by omega) (by rw[List.length_append];simp;exact hc) (by omega) (fun A' m' H' hs=>?_) ?_
  ·rw[List.append_assoc]at hs⊢;rw[show [(x.f+fr/D.per d,fr%D.per d,cN (D.per d) fr (n+1))]++pcs (D.per d) x.f k (fr+cN (D.per d) fr (n+1)) (n+1-cN (D.per d) fr (n+1))=pcs (D.per d) x.f (k+1) fr (n+1) by rw[e];rfl]at hs⊢;exact hk A' m' H' hs
  ·rw[List.flatMap_append];exact hs
theorem nZb {p dp ap:Nat}{d:D}{x:X}(hok:Ok d)(hx:On d x)(fr n:Nat)(hf:fr+n≤x.w):Tr Tryz.prog 114 #[.pointer (some ⟨p,0,none⟩),.int .i64 fr,.int .i64 n] [pts p (ZI dp ap x),Dk dp d] fun v M=>
  ∃ A m,v= .tuple #[.slice A (pcs (D.per d) x.f n fr n).length m,.int .i64 0]∧M=[pts p (ZI dp ap x),Dk dp d,Own 204 3 A (pcs (D.per d) x.f n fr n).length m ((pcs (D.per d) x.f n fr n).flatMap pcV)]:=fun H hs=>by
 have hp:=Ok.per_le hok;have hsec:=hok.sec;have hroom:x.s*D.per d≤1048576*512:=Nat.mul_le_mul (by have:=hx.fit;omega) (by omega);have h4:=hx.room;apply ZU.ok;unfold ZU;refine Zh (by omega) ?_;refine Za.use (gZB hs 0 rfl) ?_
 try simp only[HV]
 refine Zh (by omega) ?_;refine Za.use (gZB hs 0 rfl) ?_
 try simp only[HV]
 rw[ZG (x:=(x.w:Int)-fr) (by omega) (by omega)];refine Zh (by omega) ⟨n+1,?_⟩;have e0:Sep [pts p (ZI dp ap x),Dk dp d,Own 204 3 none 0 0 (([]:List (Nat×Nat×Nat)).flatMap pcV)] H:=by
  have:Sep (Own 204 3 none 0 0 []::[pts p (ZI dp ap x),Dk dp d]) H:=⟨fun _=>none,H,fun _ _ h=>(nomatch h),Hp.le_refl _,fun _=>.inl rfl,Own.none _ _ _,hs⟩;exact this.re [1,2,0] rfl
 refine kZv _ (dp:=dp) (ap:=ap) hok hx n fr n none 0 0 [] H (Nat.le_refl _) hf rfl (by omega) (fun A' m' H' hs=>?_) e0;exact⟨_,⟨A',m',rfl,rfl⟩,hs⟩
def pw (d:D)(x:X)(i:Nat):UInt64:=((aZG (d.now ((x.f+i/D.per d:Nat):Int)))[i%D.per d]?).getD 0
def pws (d:D)(x:X)(fr n:Nat):List UInt64:=(List.range n).map fun i=>pw d x (fr+i)
theorem dZZ (d:D)(x:X)(fr n:Nat):(pws d x fr n).length=n:=by simp[pws]
theorem pZ4 (d:D)(x:X)(fr a b:Nat):pws d x fr (a+b)=pws d x fr a++pws d x (fr+a) b:=by
 unfold pws;rw[List.range_add,List.map_append,List.map_map];congr 1;apply List.map_congr_left;intro i _;simp only[Function.comp];congr 1;omega
theorem kZu {d:D}(hok:Ok d)(x:X){fr k:Nat}(h:fr%D.per d+k≤D.per d):((aZG (d.now ((x.f+fr/D.per d:Nat):Int))).drop (fr%D.per d)).take k=pws d x fr k:=by
 have hp:=Ok.per_le hok;apply List.ext_getElem?;intro i;unfold pws;rw[List.getElem?_take,List.getElem?_map];by_cases hi:i<k
 ·rw[if_pos hi,List.getElem?_drop,List.getElem?_range hi];simp only[Option.map_some];have hlen:(aZG (d.now ((x.f+fr/D.per d:Nat):Int))).length=D.per d:=by
   rw[cZ3,hok.now];rfl
  unfold pw;have e:=Nat.div_add_mod fr (D.per d);have h1:(fr+i)/D.per d=fr/D.per d:=by
   rw[Nat.div_eq_of_lt_le]
   ·rw[Nat.mul_comm];omega
   ·rw[Nat.succ_mul,Nat.mul_comm];omega
  have h2:(fr+i)%D.per d=fr%D.per d+i:=by
   have:=Nat.div_add_mod (fr+i) (D.per d);rw[h1]at this;omega
  rw[h1,h2,List.getElem?_eq_getElem (by rw[hlen];omega)];rfl
 ·rw[if_neg hi,List.getElem?_eq_none (by simp;omega)];rfl
def D.rdN (d:D)(t:Nat):D:={ d with rd:=d.rd+t}
theorem Ok.rdN {d:D}(h:Ok d)(t:Nat):Ok (D.rdN d t):=⟨h.sec,h.size,h.big,h.per,h.safe,h.cache,h.fz⟩
theorem pZ0 (per f:Nat)(hp:0<per):∀(k fr n:Nat),n≤k→((pcs per f k fr n).map (·.2.2)).sum=n
 |k,fr,0,_=>by cases k<;>simp[pcs]
 |0,fr,n+1,h=>by omega
 |k+1,fr,n+1,h=>by
  have hcle:=lZl per fr (n+1);have hcpos:=jZp (per:=per) (fr:=fr) (n:=n+1) hp (by omega);unfold pcs;rw[if_neg (by omega),List.map_cons,List.sum_cons,pZ0 per f hp k _ _ (by omega)];show cN per fr (n+1)+_=_
  omega
theorem dZo (per f:Nat):∀(k fr n:Nat),(pcs per f k fr n).length≤k
 |0,_,_=>by simp[pcs]
 |k+1,fr,n=>by
  unfold pcs;split
  ·simp
  ·have:=dZo per f k (fr+cN per fr n) (n-cN per fr n);simp only[List.length_cons];omega
def mx (a b:Int):Int:=if b>a then b else a
end Go.Proofs.YtgfildcgihbdaaaGreatDoor.Str
namespace Go.Proofs.YtgfildcgihbdaaaGreatDoor.Str
open Go Go.Hw Go.Form W Dsk Are
def dZ2 (ws:List UInt64)(at':Nat)(src:List UInt64):List UInt64:=ws.take at'++src++ws.drop (at'+src.length)
theorem kZ3 {ws src:List UInt64}{i:Nat}(h:i+src.length≤ws.length):(dZ2 ws i src).length=ws.length:=by
 unfold dZ2;simp;omega
theorem jZN (ws src:List UInt64)(i:Nat):setAt (Zc ws) i (Zc src)=Zc (dZ2 ws i src):=by
 unfold setAt dZ2 Zc;simp
def wpc (d:D)(s at':Nat)(src:List UInt64):D:=D.put (if src.length<D.per d then D.more d else d) s (dZ2 (aZG (d.now s)) at' src)
def wrs (d:D)(x:X):Nat→Nat→List UInt64→D
 |0,_,_=>d
 |k+1,fr,src=>if src=[]then d else wrs (wpc d (x.f+fr/D.per d) (fr%D.per d) (src.take (cN (D.per d) fr src.length))) x k (fr+cN (D.per d) fr src.length) (src.drop (cN (D.per d) fr src.length))
theorem vZQ (d:D)(s:Int)(ws:List UInt64)(i:Int):(D.put d s ws).now i=if i=s then form ws else d.now i:=by
 unfold D.put D.now cZy;by_cases h:i=s
 ·simp[h]
 ·simp only[h,if_false];rfl
theorem Ok.put {d:D}(h:Ok d)(i:Int){ws:List UInt64}(hw:ws.length=D.per d):Ok (D.put d i ws):=by
 have hp:=Ok.per_le h;refine⟨h.sec,h.size,h.big,h.per,h.safe,fun k b hb=>?_,h.fz⟩;have hb':(if k=i then some (form ws)else d.cache k)=some b:=hb;split at hb'
 ·cases hb';rw[aZ8];show 8*ws.length=d.size;omega
 ·exact h.cache k b hb'
theorem Ok.more {d:D}(h:Ok d):Ok (D.more d):=Ok.rdN h 1
theorem Calm.put {d:D}(h:Calm d)(i:Int)(ws:List UInt64):Calm (D.put d i ws):=⟨h.down,h.fuse⟩
theorem Calm.more {d:D}(h:Calm d):Calm (D.more d):=⟨h.down,h.fuse⟩
theorem xZj {d:D}(h:Ok d)(s at':Nat){src:List UInt64}(hl:at'+src.length≤D.per d):Ok (wpc d s at' src):=by
 have hwl:(aZG (d.now (s:Int))).length=D.per d:=by rw[cZ3,h.now];rfl
 unfold wpc;split
 ·exact Ok.put (Ok.more h) _ (by rw[kZ3 (by omega)];exact hwl)
 ·exact Ok.put h _ (by rw[kZ3 (by omega)];exact hwl)
theorem uZD {d:D}(h:Calm d)(s at':Nat)(src:List UInt64):Calm (wpc d s at' src):=by
 unfold wpc;split
 ·exact Calm.put (Calm.more h) _ _
 ·exact Calm.put h _ _
theorem pZb (d:D)(s at':Nat)(src:List UInt64):(wpc d s at' src).size=d.size∧(wpc d s at' src).sec=d.sec:=by
 unfold wpc;split<;>exact⟨rfl,rfl⟩
theorem qZt (d:D)(s at':Nat)(src:List UInt64):D.per (wpc d s at' src)=D.per d:=by unfold D.per;rw[(pZb d s at' src).1]
theorem wZm (d:D)(s at':Nat)(src:List UInt64):(wpc d s at' src).wr=d.wr+1∧(wpc d s at' src).rd=d.rd+(if src.length<D.per d then 1 else 0)∧(wpc d s at' src).sy=d.sy:=by
 unfold wpc;split
 ·exact⟨rfl,rfl,rfl⟩
 ·exact⟨rfl,rfl,rfl⟩
theorem qZs (d:D)(s at':Nat)(src:List UInt64)(i:Int):(wpc d s at' src).now i=if i=s then form (dZ2 (aZG (d.now s)) at' src)else d.now i:=by
 unfold wpc;rw[vZQ];split
 ·rfl
 ·split<;>rfl
end Go.Proofs.YtgfildcgihbdaaaGreatDoor.Str
namespace Go.Proofs.YtgfildcgihbdaaaGreatDoor.Str
open Go Go.Hw Go.Form W Dsk Are
def D.mr (d:D):D:={ d with rd:=d.rd+1,fuse:=d.fuse-1}
def D.pt (d:D)(i:Int)(ws:List UInt64):D:={ d with wr:=d.wr+1,tch:=hZ0 d.tch i,cache:=cZy d.cache i (form ws),fuse:=d.fuse-1}
def D.dead (d:D):D:={ d with fuse:=0,down:=true}
theorem eZI {d:D}(h:d.fuse=1):d.burnt=D.dead d:=by
 unfold D.burnt D.dead;rw[if_neg (by omega),h];rfl
theorem eZf {d:D}(hl:d.down=false)(h:d.fuse≠1):d.burnt={ d with fuse:=d.fuse-1}:=by
 unfold D.burnt;by_cases h0:d.fuse=0
 ·rw[if_pos h0];cases d;simp_all
 ·rw[if_neg h0];have:decide (d.fuse=1)=d.down:=by rw[hl];exact decide_eq_false h
  rw[this]
theorem gZu {d:D}(hl:d.down=false){i:Int}(h0:0≤i)(h1:i<d.sec):d.chk i=0:=by
 unfold D.chk;rw[hl,if_neg (by simp),if_neg (by omega)]
theorem Ok.dead {d:D}(h:Ok d):Ok (D.dead d):=⟨h.sec,h.size,h.big,h.per,h.safe,h.cache,Nat.zero_le _⟩
theorem Ok.mr {d:D}(h:Ok d):Ok (D.mr d):=⟨h.sec,h.size,h.big,h.per,h.safe,h.cache,Nat.le_trans (Nat.sub_le _ _) h.fz⟩
theorem Ok.pt {d:D}(h:Ok d)(i:Int){ws:List UInt64}(hw:ws.length=D.per d):Ok (D.pt d i ws):=by
 have:=Ok.put h i hw;exact⟨this.sec,this.size,this.big,this.per,this.safe,this.cache,Nat.le_trans (Nat.sub_le _ _) h.fz⟩
structure Prog (S:Int→Prop)(d d':D)(r w:Nat):Prop where
 ok:Ok d'
 down:d'.down=false
 fuse:d'.fuse=d.fuse-(r+w)
 go:d.fuse=0∨r+w<d.fuse
 sec:d'.sec=d.sec
 size:d'.size=d.size
 safe:d'.safe=d.safe
 sy:d'.sy=d.sy
 cache:∀ k,¬S k→d'.cache k=d.cache k
 tch:∀ k,¬S k→d'.tch k=d.tch k
 rd:d'.rd=d.rd+r
 wr:d'.wr=d.wr+w
structure cZr (S:Int→Prop)(d d':D):Prop where
 ok:Ok d'
 down:d'.down=true
 fuse:d'.fuse=0
 sec:d'.sec=d.sec
 size:d'.size=d.size
 safe:d'.safe=d.safe
 sy:d'.sy=d.sy
 cache:∀ k,¬S k→d'.cache k=d.cache k
 tch:∀ k,¬S k→d'.tch k=d.tch k
 cnt:d'.rd+d'.wr+1=d.rd+d.wr+d.fuse
 rd:d.rd≤d'.rd
 wr:d.wr≤d'.wr
section
variable {S : Int → Prop} {d d1 d2 : D}
theorem Prog.refl (S:Int→Prop)(h:Ok d)(hl:d.down=false):Prog S d d 0 0:=⟨h,hl,by omega,by omega,rfl,rfl,rfl,rfl,fun _ _=>rfl,fun _ _=>rfl,rfl,rfl⟩
theorem Prog.per {r w:Nat}(h:Prog S d d1 r w):D.per d1=D.per d:=by unfold D.per;rw[h.size]
theorem Prog.trans {r w r' w':Nat}(h:Prog S d d1 r w)(k:Prog S d1 d2 r' w'):Prog S d d2 (r+r') (w+w'):=by
 have a1:=h.fuse;have a2:=h.go;have b1:=k.fuse;have b2:=k.go;have c1:=h.rd;have c2:=h.wr;have c3:=k.rd;have c4:=k.wr;exact⟨k.ok,k.down,by omega,by omega,k.sec.trans h.sec,k.size.trans h.size,k.safe.trans h.safe,k.sy.trans h.sy,fun i hi=>(k.cache i hi).trans (h.cache i hi),fun i hi=>(k.tch i hi).trans (h.tch i hi),by omega,by omega⟩
theorem cZr.mono {S':Int→Prop}(h:cZr S d d1)(k:∀ i,S i→S' i):cZr S' d d1:={ h with cache:=fun i hi=>h.cache i fun hs=>hi (k i hs),tch:=fun i hi=>h.tch i fun hs=>hi (k i hs)}
theorem Prog.dead {r w:Nat}(h:Prog S d d1 r w)(k:cZr S d1 d2):cZr S d d2:=by
 have a1:=h.fuse;have a2:=h.go;have c1:=h.rd;have c2:=h.wr;have c3:=k.rd;have c4:=k.wr;have c5:=k.cnt;exact⟨k.ok,k.down,k.fuse,k.sec.trans h.sec,k.size.trans h.size,k.safe.trans h.safe,k.sy.trans h.sy,fun i hi=>(k.cache i hi).trans (h.cache i hi),fun i hi=>(k.tch i hi).trans (h.tch i hi),by omega,by omega,by omega⟩
theorem Prog.mr (S:Int→Prop)(h:Ok d)(hl:d.down=false)(hf:d.fuse≠1):Prog S d (D.mr d) 1 0:=
 ⟨Ok.mr h,hl,rfl,by omega,rfl,rfl,rfl,rfl,fun _ _=>rfl,fun _ _=>rfl,rfl,rfl⟩
theorem Prog.pt (S:Int→Prop)(h:Ok d)(hl:d.down=false)(hf:d.fuse≠1){i:Int}(hi:S i){ws:List UInt64}(hw:ws.length=D.per d):Prog S d (D.pt d i ws) 0 1:=
 ⟨Ok.pt h i hw,hl,rfl,by omega,rfl,rfl,rfl,rfl,fun k hk=>by
  show cZy d.cache i (form ws) k=_
  unfold cZy;exact if_neg fun(e:k=i)=>hk (by rw[e];exact hi),fun k hk=>by
  show hZ0 d.tch i k=_
  unfold hZ0;exact if_neg fun(e:k=i)=>hk (by rw[e];exact hi),rfl,rfl⟩
theorem cZr.one (S:Int→Prop)(h:Ok d)(hf:d.fuse=1):cZr S d (D.dead d):=
 ⟨Ok.dead h,rfl,rfl,rfl,rfl,rfl,rfl,fun _ _=>rfl,fun _ _=>rfl,by show d.rd+d.wr+1=_;rw[hf],Nat.le_refl _,Nat.le_refl _⟩
end
theorem uZa {p:Nat}{d:D}(hok:Ok d)(hl:d.down=false)(ho:d.rd≤4611686018427387904)(i:Int)(h0:0≤i)(h1:i<d.sec):Tr Tryz.prog 91 #[.pointer (some ⟨p,0,none⟩),.int .i64 i] [Dk p d] fun v M=>
  (d.fuse≠1∧∃ b c m,v= .tuple #[.slice (some ⟨b,0,none⟩) d.size c,.int .i64 0]∧d.size≤c∧M=[Dk p (D.mr d),pts b (.row (Zm (d.now i)) 5 m)])∨
  (d.fuse=1∧v= .tuple #[.slice none 0 0,.int .i64 8]∧M=[Dk p (D.dead d)]):=fun H hs=>
 (Dsk.jZ2 hok ho i H hs).mono fun v H' ⟨M,hq,hM⟩=>by
  rcases hq with⟨h,_⟩|⟨_,h,h2,h3⟩|⟨_,hb,b,c,m,h2,h3,h4⟩
  ·exact absurd (gZu hl h0 h1) h
  ·have hf:d.fuse=1:=by simpa [D.burns]using h
   rw[eZI hf]at h3;exact⟨M,.inr ⟨hf,h2,h3⟩,hM⟩
  ·have hf:d.fuse≠1:=by simpa [D.burns]using hb
   rw[eZf hl hf]at h4;exact⟨M,.inl ⟨hf,b,c,m,h2,h3,h4⟩,hM⟩
theorem oZy {p dp ap:Nat}{d:D}{x:X}{cap peak:Int}{bufs:List (Nat×Nat×OA)}{b rb m:Nat}{xs:List Value}(hok:Ok d)(hl:d.down=false)(ho:d.rd≤4611686018427387904)(i:Int)(h0:0≤i)(h1:i<d.sec)
  (hbm:(b,D.per d,some ⟨rb,0,none⟩)∈bufs) (hxs:xs.length=D.per d):
  Tr Tryz.prog 118 #[.pointer (some ⟨p,0,none⟩),.int .i64 i,.pointer (some ⟨b,0,none⟩)] [pts p (ZI dp ap x),Dk dp d,Ar ap cap peak bufs,pts rb (.row xs 82 m)] fun v M=>
   (d.fuse≠1∧v= .int .i64 0∧M=[pts p (ZI dp ap x),Dk dp (D.mr d),Ar ap cap peak bufs,pts rb (.row (Zc (aZG (d.now i))) 82 m)])∨
   (d.fuse=1∧v= .int .i64 8∧M=[pts p (ZI dp ap x),Dk dp (D.dead d),Ar ap cap peak bufs,pts rb (.row xs 82 m)]):=fun H hs=>by
 have hp:=Ok.per_le hok;have hnow:=hok.now i;have hsz:=hok.size;apply ZY.ok;unfold ZY;simp only[HS];refine hs.ld 0 rfl rfl ?_;simp only[HV];refine(uZa hok hl ho i h0 h1).use hs [1] rfl rfl ?_;rintro _ _ H (⟨hf,br,c,mr,rfl,hcc,rfl⟩|⟨hf,rfl,rfl⟩) hs
 ·simp only[HV];refine Zq rfl ?_;refine Za.use (eZu hs 3 rfl hbm) ?_
  try simp only[HV]
  refine⟨D.per d+1,?_⟩;refine mZ2 _ (some ⟨br,0,none⟩) d.size c (d.now i) hnow.symm hcc (by omega) rb (D.per d) m (by omega) (L:=[Dk dp (D.mr d),pts br (.row (Zm (d.now i)) 5 mr),pts p (ZI dp ap x),Ar ap cap peak bufs,pts rb (.row xs 82 m)]) 4 (fun H hs=>?_) (fun ys H hs=>?_) (by simp) (D.per d) 0 xs H (by omega) hxs (by simp) hs
  ·exact⟨_,.inl ⟨hf,rfl,rfl⟩,hs.re [2,0,3,4] rfl⟩
  ·have:=Cells.row (hs.get 1 (b:=br) (o:=.row (Zm (d.now i)) 5 mr) rfl) 0 d.size;rw[List.drop_zero,List.take_of_length_le (by rw[ZL];omega)]at this;exact this
 ·simp only[HV];exact ZA (by decide) ⟨_,.inr ⟨hf,by trivial,rfl⟩,hs.re [1,0,2,3] rfl⟩
theorem tZb {p:Nat}{d:D}(hok:Ok d)(hl:d.down=false)(ho:d.wr≤4611686018427387904)(i:Int)(h0:0≤i)(h1:i<d.sec)(ws:List UInt64)(hw:ws.length=D.per d)(b m:Nat):
  Tr Tryz.prog 45 #[.pointer (some ⟨p,0,none⟩),.int .i64 i,.slice (some ⟨b,0,none⟩) (8*ws.length) (8*ws.length)] [Dk p d,pts b (.row (Zm (form ws)) 5 m)] fun v M=>
   (d.fuse≠1∧v= .int .i64 0∧M=[Dk p (D.pt d i ws),pts b (.row (Zm (form ws)) 5 m)])∨
   (d.fuse=1∧v= .int .i64 8∧M=[Dk p (D.dead d),pts b (.row (Zm (form ws)) 5 m)]):=fun H hs=>by
 have hp:=Ok.per_le hok;refine(Dsk.eZc hok ho i (some ⟨b,0,none⟩) (8*ws.length) (8*ws.length) (form ws) (aZ8 ws).symm (pts b (.row (Zm (form ws)) 5 m)) (fun H h=>?_) H hs).mono ?_
 ·have:=Cells.row h 0 (8*ws.length);rw[List.drop_zero,List.take_of_length_le (by rw[ZL,aZ8];omega)]at this;exact this
 ·rintro v H' ⟨M,⟨rfl,rfl⟩,hM⟩;have hc:=gZu hl h0 h1;by_cases hf:d.fuse=1
  ·have hb:d.burns=true:=by unfold D.burns;exact decide_eq_true hf
   have e1:d.writeE i (8*ws.length)=8:=by
    unfold D.writeE;rw[if_neg (by rw[hc];simp),if_neg (by omega),hb];rfl
   have e2:d.writeD i (form ws)=D.dead d:=by
    unfold D.writeD;rw[if_neg (by rw[hc];simp),if_neg (by rw[aZ8];omega),hb,if_pos rfl,eZI hf]
   rw[e1];rw[e2]at hM;exact⟨_,.inr ⟨hf,rfl,rfl⟩,hM⟩
  ·have hb:d.burns=false:=by unfold D.burns;exact decide_eq_false hf
   have e1:d.writeE i (8*ws.length)=0:=by
    unfold D.writeE;rw[if_neg (by rw[hc];simp),if_neg (by omega),hb];rfl
   have e2:d.writeD i (form ws)=D.pt d i ws:=by
    unfold D.writeD;rw[if_neg (by rw[hc];simp),if_neg (by rw[aZ8];omega),hb];unfold D.wrote D.pt;rw[eZf hl hf];rfl
   rw[e1];rw[e2]at hM;exact⟨_,.inl ⟨hf,rfl,rfl⟩,hM⟩
theorem vZ7 {p dp ap:Nat}{d:D}{x:X}{cap peak:Int}{bufs:List (Nat×Nat×OA)}{b rb m:Nat}{ws:List UInt64}(hok:Ok d)(hl:d.down=false)(ho:d.wr≤4611686018427387904)(i:Int)(h0:0≤i)(h1:i<d.sec)
  (hbm:(b,D.per d,some ⟨rb,0,none⟩)∈bufs) (hw:ws.length=D.per d):
  Tr Tryz.prog 120 #[.pointer (some ⟨p,0,none⟩),.int .i64 i,.pointer (some ⟨b,0,none⟩)] [pts p (ZI dp ap x),Dk dp d,Ar ap cap peak bufs,pts rb (.row (Zc ws) 82 m)] fun v M=>
   (d.fuse≠1∧v= .int .i64 0∧M=[pts p (ZI dp ap x),Dk dp (D.pt d i ws),Ar ap cap peak bufs,pts rb (.row (Zc ws) 82 m)])∨
   (d.fuse=1∧v= .int .i64 8∧M=[pts p (ZI dp ap x),Dk dp (D.dead d),Ar ap cap peak bufs,pts rb (.row (Zc ws) 82 m)]):=fun H hs=>by
 have hp:=Ok.per_le hok;have hcell:∀{L:List As} {H:Hp} (j:Nat),Sep L H→L[j]? =some (pts rb (.row (Zc ws) 82 m))→Cells H (some ⟨rb,0,none⟩) (Zc ws):=fun j hs hj=>by
  have:=Cells.row (hs.get j hj) 0 ws.length;rw[List.drop_zero,List.take_of_length_le (by rw[Zr];exact Nat.le_refl _)]at this;exact this
 apply cZZ.ok;unfold cZZ;simp only[HS];have put:∀(H:Hp) (K:VK),Sep [pts p (ZI dp ap x),Dk dp d,Ar ap cap peak bufs,pts rb (.row (Zc ws) 82 m)] H→
   (∀ b' H',Sep [pts p (ZI dp ap x),Dk dp d,Ar ap cap peak bufs,pts rb (.row (Zc ws) 82 m),pts b' (.row (Zm (form ws)) 5 (8*ws.length))] H'→K (.slice (some ⟨b',0,none⟩) (8*ws.length) (8*ws.length)) H')→
   Za Tryz.prog 103 #[.slice (some ⟨rb,0,none⟩) (D.per d) (D.per d)] H K:=fun H K hs k=>by
  rw[← hw];refine(FormP.Put_ok (some ⟨rb,0,none⟩) ws.length ws.length ws rfl (by omega) H (hcell 3 hs rfl)).mono ?_;rintro v H' ⟨b',hb',rfl,rfl⟩;exact k b' _ (hs.new hb' _)
 have wr:∀(b':Nat) (H:Hp),Sep [pts p (ZI dp ap x),Dk dp d,Ar ap cap peak bufs,pts rb (.row (Zc ws) 82 m),pts b' (.row (Zm (form ws)) 5 (8*ws.length))] H→
   Za Tryz.prog 45 #[.pointer (some ⟨dp,0,none⟩),.int .i64 i,.slice (some ⟨b',0,none⟩) (8*ws.length) (8*ws.length)] H fun v4 H3=>DI .i64 v4 fun x2=>∃ M,((d.fuse≠1∧(.int .i64 x2:Value)= .int .i64 0∧M=[pts p (ZI dp ap x),Dk dp (D.pt d i ws),Ar ap cap peak bufs,pts rb (.row (Zc ws) 82 m)])∨
    (d.fuse=1∧(.int .i64 x2:Value)= .int .i64 8∧M=[pts p (ZI dp ap x),Dk dp (D.dead d),Ar ap cap peak bufs,pts rb (.row (Zc ws) 82 m)]))∧Sep M H3:=fun b' H hs=>by
  refine(tZb hok hl ho i h0 h1 ws hw b' (8*ws.length)).use hs [1,4] rfl rfl ?_;rintro _ _ H (⟨hf,rfl,rfl⟩|⟨hf,rfl,rfl⟩) hs
  ·exact⟨_,.inl ⟨hf,rfl,rfl⟩,hs.re [2,0,3,4] rfl⟩
  ·exact⟨_,.inr ⟨hf,rfl,rfl⟩,hs.re [2,0,3,4] rfl⟩
 refine⟨?_,?_⟩
 ·refine hs.ld 0 rfl rfl ?_;simp only[HV];refine Za.use (eZu hs 2 rfl hbm) ?_
  try simp only[HV]
  refine put H _ hs fun b' H hs=>?_
  simp only[HV];exact wr b' H hs
 ·refine Za.use (eZu hs 2 rfl hbm) ?_
  try simp only[HV]
  refine⟨?_,?_⟩
  ·refine hs.ld 0 rfl rfl ?_;simp only[HV];refine put H _ hs fun b' H hs=>?_
   simp only[HV];exact wr b' H hs
  ·refine put H _ hs fun b' H hs=>?_
   simp only[HV];refine hs.ld 0 rfl rfl ?_;simp only[HV];exact wr b' H hs
end Go.Proofs.YtgfildcgihbdaaaGreatDoor.Str
namespace Go.Proofs.YtgfildcgihbdaaaGreatDoor.Str
open Go Go.Hw Go.Form W Dsk Are
def D.rdG (d:D)(t:Nat):D:={ d with rd:=d.rd+t,fuse:=d.fuse-t}
theorem Ok.rdG {d:D}(h:Ok d)(t:Nat):Ok (D.rdG d t):=⟨h.sec,h.size,h.big,h.per,h.safe,h.cache,Nat.le_trans (Nat.sub_le _ _) h.fz⟩
theorem oZR (d:D):D.rdG d 0=d:=rfl
theorem oZQ (d:D)(t:Nat):D.mr (D.rdG d t)=D.rdG d (t+1):=by
 unfold D.mr D.rdG;simp only[D.mk.injEq,true_and,and_true];omega
theorem Prog.rdG (S:Int→Prop){d:D}(h:Ok d)(hl:d.down=false){t:Nat}(hf:d.fuse=0∨t<d.fuse):Prog S d (D.rdG d t) t 0:=
 ⟨Ok.rdG h t,hl,rfl,by omega,rfl,rfl,rfl,rfl,fun _ _=>rfl,fun _ _=>rfl,rfl,rfl⟩
theorem cZr.rdG (S:Int→Prop){d:D}(h:Ok d)(hl:d.down=false){j:Nat}(hf:d.fuse=j+1):cZr S d (D.dead (D.rdG d j)):=
 (Prog.rdG S h hl (t:=j) (by omega)).dead (cZr.one S (Ok.rdG h j) (by show d.fuse-j=1;omega))
theorem kZx (K:VK){p dp ap:Nat}{d:D}{x:X}(hok:Ok d)(hl:d.down=false)(hx:On d x){cap peak:Int}{bufs:List (Nat×Nat×OA)}{b rb mb:Nat}(hbm:∀ y∈bufs,y.1≠b){rl off0 fr0 mm vb:Nat}{el:TypeId}{xs:List Value}{A4:OA}{n4 m4:Nat}{all:List (Nat×Nat×Nat)}(hn4:n4=all.length)(hn40:n4≤1000000000)(ho:d.rd≤4611686010000000000)
  (hK:∀ H,Sep [pts p (ZI dp ap x),Dk dp (D.rdG d n4),Ar ap cap peak bufs,pts rl (.row (setAt xs off0 (Zc (pws d x fr0 (all.map (·.2.2)).sum))) el mm)] H→d.fuse=0∨n4<d.fuse→K (.int .i64 0) H)
  (hK8:∀ j xs' H,j<n4→d.fuse=j+1→xs'.length=xs.length→Sep [pts p (ZI dp ap x),Dk dp (D.dead (D.rdG d j)),Ar ap cap peak bufs,pts rl (.row xs' el mm)] H→K (.int .i64 8) H):
  ∀(k fr n j off:Nat) (A:OA) (m:Nat) (ws:List UInt64) (H:Hp),d.fuse=0∨j<d.fuse→n≤k→fr+n≤x.w→n≤m→all.drop j=pcs (D.per d) x.f k fr n→j≤n4→fr0+off=fr→((all.take j).map (·.2.2)).sum=off→off0+off+n≤xs.length→(0<n→A=some ⟨rl,off0+off,none⟩)→ws.length=D.per d→
   Sep [pts p (ZI dp ap x),Dk dp (D.rdG d j),Ar ap cap peak (bufs++[(b,D.per d,some ⟨rb,0,none⟩)]),pts rb (.row (Zc ws) 82 mb),Own 204 3 A4 n4 m4 (all.flatMap pcV),pts rl (.row (setAt xs off0 (Zc (pws d x fr0 off))) el mm),pts vb (.row [.pointer (some ⟨b,0,none⟩)] 195 1)] H→
   ZO.l9 K (k+1) (some ⟨p,0,none⟩) A n m (some ⟨b,0,none⟩) A4 n4 m4 (n4:Int) (j:Int) (some ⟨ap,0,none⟩) (some ⟨vb,0,none⟩) 1 1 H
 |k,fr,0,j,off,A,m,ws,H,hgo,hn,hf,hm,hall,hj,hoff,hsum,hlen,hA,hws,hs=>by
  unfold ZO.l9;have e:pcs (D.per d) x.f k fr 0=[]:=by cases k<;>simp[pcs]
  rw[e]at hall;have hjn:j=n4:=by
   have:=congrArg List.length hall;simp at this;omega
  subst hjn;refine Zh (by omega) ?_;have htake:all.take j=all:=List.take_of_length_le (by omega);rw[htake]at hsum;refine(cZo vb b (D.per d) (some ⟨rb,0,none⟩) hbm).use hs [2,6] rfl rfl ?_;rintro _ _ H ⟨rfl,rfl⟩ hs;refine hK H ?_ hgo;rw[hsum];exact hs.re [1,2,0,5] rfl
 |0,fr,n+1,j,off,A,m,ws,H,hgo,hn,hf,hm,hall,hj,hoff,hsum,hlen,hA,hws,hs=>by omega
 |k+1,fr,n+1,j,off,A,m,ws,H,hgo,hn,hf,hm,hall,hj,hoff,hsum,hlen,hA,hws,hs=>by
  have hp:=Ok.per_le hok;have hsec:=hok.sec;have hroom:x.s*D.per d≤1048576*512:=Nat.mul_le_mul (by have:=hx.fit;omega) (by omega);have h4:=hx.room;have hfit:=hx.fit;obtain rfl:=hA (by omega);have e:pcs (D.per d) x.f (k+1) fr (n+1)=(x.f+fr/D.per d,fr%D.per d,cN (D.per d) fr (n+1))::pcs (D.per d) x.f k (fr+cN (D.per d) fr (n+1)) (n+1-cN (D.per d) fr (n+1)):=by
   show(if n+1=0 then []else _)=_
   rw[if_neg (by omega)]
  rw[e]at hall;have hjlt:j<all.length:=by
   have:=congrArg List.length hall;simp at this;omega
  have hcle:=lZl (D.per d) fr (n+1);have hcpos:=jZp (per:=D.per d) (fr:=fr) (n:=n+1) (by omega) (by omega);have hcper:=oZd (per:=D.per d) (fr:=fr) (n:=n+1) (by omega);have hmod:=Nat.mod_lt fr (show 0<D.per d by omega);have hdiv:fr/D.per d<x.s:=by
   rw[Nat.div_lt_iff_lt_mul (by omega)];omega
  have hget:all[j]=(x.f+fr/D.per d,fr%D.per d,cN (D.per d) fr (n+1)):=by
   have:=List.drop_eq_getElem_cons hjlt;rw[this]at hall;exact(List.cons.inj hall).1
  have hrest:all.drop (j+1)=pcs (D.per d) x.f k (fr+cN (D.per d) fr (n+1)) (n+1-cN (D.per d) fr (n+1)):=by
   have:=List.drop_eq_getElem_cons hjlt;rw[this]at hall;exact(List.cons.inj hall).2
  generalize hcv:cN (D.per d) fr (n+1)=c at*;have hflat:∀(l:List (Nat×Nat×Nat)) (i:Nat) (hi:i<l.length),((l.flatMap pcV).drop (i*3)).take 3=pcV l[i]:=by
   intro l
   induction l with
   |nil=>intro i hi;simp at hi
   |cons y l ih=>
    intro i hi;rw[List.flatMap_cons];cases i with
    |zero=>simp[pcV]
    |succ i=>
     rw[show(i+1)*3=(pcV y).length+i*3 by simp[pcV];omega,List.drop_append];simp only[Nat.add_sub_cancel_left,List.getElem_cons_succ];rw[List.drop_eq_nil_of_le (by omega),List.nil_append];exact ih i (by simpa using hi)
  unfold ZO.l9;refine Zn (by omega) ?_;refine(hs.own 4 rfl).rdA (ys:=pcV all[j]) rfl (by omega) (hflat all j hjlt) ?_;rw[hget];refine hs.nw fun b2 H hs=>?_
  refine hs.stw 7 rfl rfl rfl rfl fun H hs=>?_;have hs:Sep [pts p (ZI dp ap x),Dk dp (D.rdG d j),Ar ap cap peak (bufs++[(b,D.per d,some ⟨rb,0,none⟩)]),pts rb (.row (Zc ws) 82 mb),Own 204 3 A4 n4 m4 (all.flatMap pcV),pts rl (.row (setAt xs off0 (Zc (pws d x fr0 off))) el mm),pts vb (.row [.pointer (some ⟨b,0,none⟩)] 195 1),
   pts b2 (.obj (.cells #[.int .i64 ((x.f+fr/D.per d:Nat):Int),.int .i64 ((fr%D.per d:Nat):Int),.int .i64 (c:Int)] 204))] H:=hs
  simp only[HS];refine hs.ld 7 rfl rfl ?_;simp only[HV];have hokj:=Ok.rdG hok j;refine(oZy (p:=p) (ap:=ap) (x:=x) (cap:=cap) (peak:=peak) (b:=b) (rb:=rb) (m:=mb) hokj hl (by show d.rd+j≤_;omega) ((x.f+fr/D.per d:Nat):Int) (Int.natCast_nonneg _) (Int.ofNat_lt.2 (by show _<d.sec;omega)) (bufs:=bufs++[(b,D.per d,some ⟨rb,0,none⟩)]) (List.mem_append_right _ (List.mem_singleton.2 rfl)) (xs:=Zc ws) (by rw[Zr];exact hws)).use hs [0,1,2,3] rfl rfl ?_;have hset:(setAt xs off0 (Zc (pws d x fr0 off))).length=xs.length:=cZH (by rw[Zr,dZZ];omega);have hfz:(D.rdG d j).fuse=d.fuse-j:=rfl;rintro _ _ H (⟨hf1,rfl,rfl⟩|⟨hf1,rfl,rfl⟩) hs
  case inr=>
   simp only[HV];refine ZA (by decide) ?_;refine(cZo vb b (D.per d) (some ⟨rb,0,none⟩) hbm).use hs [2,6] rfl rfl ?_;rintro _ _ H ⟨rfl,rfl⟩ hs;exact hK8 j _ H (by omega) (by omega) hset (hs.re [1,2,0,5] rfl)
  rw[oZQ]at hs;have hnow:D.now (D.rdG d j) ((x.f+fr/D.per d:Nat):Int)=d.now ((x.f+fr/D.per d:Nat):Int):=rfl;rw[hnow]at hs;have hwl:(aZG (d.now ((x.f+fr/D.per d:Nat):Int))).length=D.per d:=by rw[cZ3,hok.now];rfl
  simp only[HV];refine Zq rfl ?_;refine hs.ld 7 rfl rfl ?_;simp only[HV];refine lZX rfl (by omega) ?_;refine ZQ.use (eZu hs 2 rfl (List.mem_append_right _ (List.mem_singleton.2 rfl))) ?_;simp only[HV];refine hs.ld 7 rfl rfl ?_;simp only[HV];refine hZV rfl (by omega) ?_;rw[oZ1,lZW (by omega),Nat.zero_add];refine hs.cp 5 (k:=D.per d-fr%D.per d) (n:=c-0) (off:=off0+off) (ys:=Zc (pws d x fr c)) (by rfl) bZ7 rfl ?_ ?_ (fun y hy=>?_) fun H hs=>?_
  ·have hmin:Nat.min (D.per d-fr%D.per d) (c-0)=c:=Nat.min_eq_right (by omega);rw[hmin];show H.cells? ⟨rb,fr%D.per d,none⟩ 0 (c*1)=_
   rw[Nat.mul_one,fZJ (hs.get 3 (b:=rb) (o:=.row (Zc (aZG (d.now ((x.f+fr/D.per d:Nat):Int)))) 82 mb) rfl) (fr%D.per d) c 0 (by rw[Zr,hwl];omega)];rw[← kZu hok x (fr:=fr) (k:=c) (by omega)];unfold Zc;rw[List.map_take,List.map_drop,Nat.add_zero]
  ·rw[Zr,dZZ,hset];omega
  ·obtain⟨z,_,rfl⟩:=List.mem_map.1 hy;rfl
  simp only[HV];refine hs.ld 7 rfl rfl ?_;simp only[HV];refine hZV rfl (by omega) ?_;rw[ZG (x:=(j:Int)+1) (by omega) (by omega)];have happ:setAt (setAt xs off0 (Zc (pws d x fr0 off))) (off0+off) (Zc (pws d x fr c))=setAt xs off0 (Zc (pws d x fr0 (off+c))):=by
   have hl:(Zc (pws d x fr0 off)).length=off:=by rw[Zr,dZZ]
   have:=oZW (xs:=xs) (us:=Zc (pws d x fr0 off)) (bs:=Zc (pws d x fr c)) (off:=off0) (by rw[hl,Zr,dZZ];omega);rw[hl]at this;rw[this,pZ4,hoff];unfold Zc;rw[List.map_append]
  have hsum':((all.take (j+1)).map (·.2.2)).sum=off+c:=by
   rw[List.take_succ_eq_append_getElem hjlt,List.map_append,List.sum_append,hsum,hget];simp
  refine kZx K (rb:=rb) (mb:=mb) hok hl hx hbm hn4 hn40 ho hK hK8 k (fr+c) (n+1-c) (j+1) (off+c) _ (m-c) (aZG (d.now ((x.f+fr/D.per d:Nat):Int))) H (by omega) (by omega) (by omega) (by omega) hrest (by omega) (by omega) hsum' (by omega) (fun h0=>?_) hwl ?_
  ·rw[lZW (by omega),Nat.add_assoc]
  ·rw[← happ];exact hs.re [0,1,2,3,4,5,6] rfl
def uZX (p dp ap:Nat)(d:D)(x:X)(cap peak:Int)(bufs:List (Nat×Nat×OA))(fr n:Nat)(xs:List Value)(off rl:Nat)(el:TypeId)(mm:Nat)(v:Value)(M:List As):Prop:=
 ((d.fuse=0∨(pcs (D.per d) x.f n fr n).length<d.fuse)∧v= .int .i64 0∧M=[pts p (ZI dp ap x),Dk dp (D.rdG d (pcs (D.per d) x.f n fr n).length),Ar ap cap (mx peak (ZE bufs+D.per d)) bufs,pts rl (.row (setAt xs off (Zc (pws d x fr n))) el mm)])∨
 (∃ j xs',j<(pcs (D.per d) x.f n fr n).length∧d.fuse=j+1∧xs'.length=xs.length∧v= .int .i64 8∧M=[pts p (ZI dp ap x),Dk dp (D.dead (D.rdG d j)),Ar ap cap (mx peak (ZE bufs+D.per d)) bufs,pts rl (.row xs' el mm)])
theorem kZF {p dp ap:Nat}{d:D}{x:X}{cap peak:Int}{bufs:List (Nat×Nat×OA)}{rl off mm:Nat}{el:TypeId}{xs:List Value}(hok:Ok d)(hl:d.down=false)(hx:On d x)(ho:d.rd≤4611686010000000000)(fr n m:Nat)(hn:1≤n)(hf:fr+n≤x.w)(hm:n≤m)(hxl:off+n≤xs.length)(hcap:(D.per d:Int)≤cap-ZE bufs):
  Tr Tryz.prog 90 #[.pointer (some ⟨p,0,none⟩),.int .i64 fr,.slice (some ⟨rl,off,none⟩) n m] [pts p (ZI dp ap x),Dk dp d,Ar ap cap peak bufs,pts rl (.row xs el mm)] fun v M=>
   uZX p dp ap d x cap peak bufs fr n xs off rl el mm v M:=fun H hs=>by
 have hp:=Ok.per_le hok;have hsec:=hok.sec;have hroom:x.s*D.per d≤1048576*512:=Nat.mul_le_mul (by have:=hx.fit;omega) (by omega);have h4:=hx.room;have hpl:=dZo (D.per d) x.f n fr n;apply ZO.ok;unfold ZO;refine(nZb (dp:=dp) (ap:=ap) hok hx fr n hf).use hs [0,1] rfl rfl ?_;rintro _ _ H ⟨A4,m4,rfl,rfl⟩ hs;simp only[HV];refine Zq rfl (aZg (by omega) ?_);simp only[HS];have rest:∀(b rb:Nat) (H:Hp),(∀ y∈bufs,y.1≠b)→Sep [Ar ap cap (if ZE bufs+D.per d>peak then ZE bufs+D.per d else peak) (bufs++[(b,D.per d,some ⟨rb,0,none⟩)]),pts rb (.row (bZj (D.per d)) 82 (D.per d)),pts p (ZI dp ap x),Dk dp d,Own 204 3 A4 (pcs (D.per d) x.f n fr n).length m4 ((pcs (D.per d) x.f n fr n).flatMap pcV),pts rl (.row xs el mm)] H→
   ZO.j5 (fun v H'=>∃ M,uZX p dp ap d x cap peak bufs fr n xs off rl el mm v M∧Sep M H') (some ⟨p,0,none⟩) (some ⟨rl,off,none⟩) n m A4 (pcs (D.per d) x.f n fr n).length m4 (0:Int) (some ⟨b,0,none⟩) H:=fun b rb H hbm hs=>by
  unfold ZO.j5;refine Zq rfl ?_;simp only[HS];refine hs.ld 2 rfl rfl ?_;simp only[HV];refine hs.nw fun vb H hs=>?_
  refine⟨n+1,?_⟩;have hz:bZj (D.per d)=Zc (List.replicate (D.per d) 0):=by
   unfold bZj;rw[bZw];unfold Zc;rw[List.map_replicate];rfl
  refine kZx _ (p:=p) (dp:=dp) (ap:=ap) (d:=d) (x:=x) (cap:=cap) (peak:=mx peak (ZE bufs+D.per d)) (bufs:=bufs) (b:=b) (rb:=rb) (mb:=D.per d) (rl:=rl) (off0:=off) (fr0:=fr) (mm:=mm) (vb:=vb) (el:=el) (xs:=xs) hok hl hx hbm rfl (by omega) ho (fun H hs hgo=>?_) (fun j xs' H hj hfj hx' hs=>⟨_,.inr ⟨j,xs',hj,hfj,hx',rfl,rfl⟩,hs⟩) n fr n 0 0 _ m (List.replicate (D.per d) 0) H (by omega) (Nat.le_refl _) hf hm rfl (Nat.zero_le _) (by omega) rfl (by omega) (fun _=>rfl) (by simp) ?_
  ·rw[pZ0 _ _ (by omega) n fr n (Nat.le_refl _)]at hs;exact⟨_,.inl ⟨hgo,rfl,rfl⟩,hs⟩
  ·rw[← hz,show setAt xs off (Zc (pws d x fr 0))=xs from fZN xs off,oZR];exact hs.re [2,3,0,1,4,5,6] rfl
 have fresh:∀{L:List As} {H:Hp} (b rb:Nat) (pk:Int),Sep L H→L[0]? =some (Ar ap cap pk (bufs++[(b,D.per d,some ⟨rb,0,none⟩)]))→∀ y∈bufs,y.1≠b:=fun b rb pk hs h0 y hy e=>by
  obtain⟨mp,cl,tk,hA⟩:=Sep.ar hs 0 h0;have:=hA.bn;rw[List.map_append,List.nodup_append]at this;exact this.2.2 y.1 (List.mem_map_of_mem hy) b (by simp) e
 refine⟨?_,?_⟩
 ·refine hs.ld 0 rfl rfl ?_;simp only[HV];refine Za.use (eZ3 hs 0 1 rfl rfl hok) ?_
  try simp only[HV]
  refine(eZR (a:=ap) (cap:=cap) (peak:=peak) (bufs:=bufs) (n:=D.per d) (by omega) hcap).use hs [3] rfl rfl ?_;rintro _ _ H ⟨b,rb,rfl,rfl⟩ hs;simp only[HV];exact rest b rb H (fresh b rb _ hs rfl) (hs.re [0,1,2,3,4,5] rfl)
 ·refine Za.use (eZ3 hs 0 1 rfl rfl hok) ?_
  try simp only[HV]
  refine hs.ld 0 rfl rfl ?_;simp only[HV];refine(eZR (a:=ap) (cap:=cap) (peak:=peak) (bufs:=bufs) (n:=D.per d) (by omega) hcap).use hs [3] rfl rfl ?_;rintro _ _ H ⟨b,rb,rfl,rfl⟩ hs;simp only[HV];exact rest b rb H (fresh b rb _ hs rfl) (hs.re [0,1,2,3,4,5] rfl)
end Go.Proofs.YtgfildcgihbdaaaGreatDoor.Str
namespace Go.Proofs.YtgfildcgihbdaaaGreatDoor.Str
open Go Go.Hw Go.Form W Dsk Are
def cZS (per f k fr n:Nat):Nat:=((pcs per f k fr n).filter fun p=>decide (p.2.2<per)).length
def gZp (d:D)(s at':Nat)(src:List UInt64):D:=D.pt (if src.length<D.per d then D.mr d else d) s (dZ2 (aZG (d.now s)) at' src)
def dZ3 (d:D)(x:X):Nat→Nat→List UInt64→D
 |0,_,_=>d
 |k+1,fr,src=>if src=[]then d else dZ3 (gZp d (x.f+fr/D.per d) (fr%D.per d) (src.take (cN (D.per d) fr src.length))) x k (fr+cN (D.per d) fr src.length) (src.drop (cN (D.per d) fr src.length))
theorem nZo (d:D)(s at':Nat)(src:List UInt64):(gZp d s at' src).size=d.size∧(gZp d s at' src).sec=d.sec:=by
 unfold gZp;split<;>exact⟨rfl,rfl⟩
theorem uZF (d:D)(s at':Nat)(src:List UInt64):D.per (gZp d s at' src)=D.per d:=by unfold D.per;rw[(nZo d s at' src).1]
theorem uZE (d:D)(s at':Nat)(src:List UInt64):(gZp d s at' src).wr=d.wr+1∧(gZp d s at' src).rd=d.rd+(if src.length<D.per d then 1 else 0)∧(gZp d s at' src).sy=d.sy:=by
 unfold gZp;split
 ·exact⟨rfl,rfl,rfl⟩
 ·exact⟨rfl,rfl,rfl⟩
theorem jZW (K:VK){p dp ap:Nat}{x:X}{cap peak:Int}{bufs:List (Nat×Nat×OA)}{b rb mb:Nat}(hbm:∀ y∈bufs,y.1≠b){vb:Nat}{R:As}{A4:OA}{n4 m4:Nat}{all:List (Nat×Nat×Nat)}(hn4:n4=all.length)(hn40:n4≤1000000000){S:Int→Prop}(hS:∀ j:Nat,j<x.s→S ((x.f+j:Nat):Int)){d0:D}{R0 W0:Nat}
  (hK8:∀ d' H,cZr S d0 d'→d0.fuse≤R0+W0→Sep [pts p (ZI dp ap x),Dk dp d',Ar ap cap peak bufs,R] H→K (.int .i64 8) H):
  ∀(k fr j:Nat) (d:D) (A:OA) (m:Nat) (src ws:List UInt64) (H:Hp) (r w:Nat),Prog S d0 d r w→r+(cZS (D.per d) x.f k fr src.length)=R0→w+(pcs (D.per d) x.f k fr src.length).length=W0→Ok d→On d x→d.rd+k≤4611686010000000000→d.wr+k≤4611686010000000000→src.length≤k→fr+src.length≤x.w→src.length≤m→all.drop j=pcs (D.per d) x.f k fr src.length→j≤n4→(∀ H,R H→Cells H A (Zc src))→ws.length=D.per d→
   (∀ H,Prog S d0 (dZ3 d x k fr src) R0 W0→Sep [pts p (ZI dp ap x),Dk dp (dZ3 d x k fr src),Ar ap cap peak bufs,R] H→K (.int .i64 0) H)→
   Sep [pts p (ZI dp ap x),Dk dp d,Ar ap cap peak (bufs++[(b,D.per d,some ⟨rb,0,none⟩)]),pts rb (.row (Zc ws) 82 mb),Own 204 3 A4 n4 m4 (all.flatMap pcV),R,pts vb (.row [.pointer (some ⟨b,0,none⟩)] 195 1)] H→
   Zu.l9 K (k+1) (some ⟨p,0,none⟩) A src.length m (some ⟨b,0,none⟩) A4 n4 m4 (n4:Int) (j:Int) (some ⟨ap,0,none⟩) (some ⟨vb,0,none⟩) 1 1 H
 |k,fr,j,d,A,m,[],ws,H,r,w,hpg,hR0,hW0,hok,hx,hrd,hwr,hn,hf,hm,hall,hj,hR,hws,hK,hs=>by
  unfold Zu.l9;have e:pcs (D.per d) x.f k fr ([]:List UInt64).length=[]:=by cases k<;>simp[pcs]
  have e2:dZ3 d x k fr []=d:=by cases k<;>simp[dZ3]
  have e3:cZS (D.per d) x.f k fr ([]:List UInt64).length=0:=by unfold cZS;rw[e];rfl
  rw[e3]at hR0;rw[e]at hW0;rw[e]at hall;have hjn:j=n4:=by
   have:=congrArg List.length hall;simp at this;omega
  subst hjn;refine Zh (by omega) ?_;refine(cZo vb b (D.per d) (some ⟨rb,0,none⟩) hbm).use hs [2,6] rfl rfl ?_;rintro _ _ H ⟨rfl,rfl⟩ hs;refine hK H ?_ ?_
  ·rw[e2,←hR0,←hW0];exact hpg
  ·rw[e2];exact hs.re [1,2,0,5] rfl
 |0,fr,j,d,A,m,w0::src0,ws,H,r,w,hpg,hR0,hW0,hok,hx,hrd,hwr,hn,hf,hm,hall,hj,hR,hws,hK,hs=>by simp at hn
 |k+1,fr,j,d,A,m,w0::src0,ws,H,r,w,hpg,hR0,hW0,hok,hx,hrd,hwr,hn,hf,hm,hall,hj,hR,hws,hK,hs=>by
  generalize hsrc:w0::src0=src at*;have hne:src≠ []:=by rw[← hsrc];simp
  have hpos:0<src.length:=by rw[← hsrc];simp
  have hp:=Ok.per_le hok;have hsec:=hok.sec;have hroom:x.s*D.per d≤1048576*512:=Nat.mul_le_mul (by have:=hx.fit;omega) (by omega);have h4:=hx.room;have hfit:=hx.fit;have e:pcs (D.per d) x.f (k+1) fr src.length=(x.f+fr/D.per d,fr%D.per d,cN (D.per d) fr src.length)::pcs (D.per d) x.f k (fr+cN (D.per d) fr src.length) (src.length-cN (D.per d) fr src.length):=by
   show(if src.length=0 then []else _)=_
   rw[if_neg (by omega)]
  have ew:dZ3 d x (k+1) fr src=dZ3 (gZp d (x.f+fr/D.per d) (fr%D.per d) (src.take (cN (D.per d) fr src.length))) x k (fr+cN (D.per d) fr src.length) (src.drop (cN (D.per d) fr src.length)):=by
   show(if src=[]then d else _)=_
   rw[if_neg hne]
  have hdn:=hpg.down;rw[e]at hall;have hRs:cZS (D.per d) x.f (k+1) fr src.length=(if cN (D.per d) fr src.length<D.per d then 1 else 0)+cZS (D.per d) x.f k (fr+cN (D.per d) fr src.length) (src.length-cN (D.per d) fr src.length):=by
   unfold cZS;rw[e,List.filter_cons];by_cases hq:cN (D.per d) fr src.length<D.per d
   ·simp only[hq,decide_true,if_true,List.length_cons];omega
   ·simp only[hq,decide_false,Bool.false_eq_true,if_false];omega
  rw[hRs]at hR0;rw[e,List.length_cons]at hW0;rw[ew]at hK;have hjlt:j<all.length:=by
   have:=congrArg List.length hall;simp at this;omega
  have hcle:=lZl (D.per d) fr src.length;have hcpos:=jZp (per:=D.per d) (fr:=fr) (n:=src.length) (by omega) hpos;have hcper:=oZd (per:=D.per d) (fr:=fr) (n:=src.length) (by omega);have hmod:=Nat.mod_lt fr (show 0<D.per d by omega);have hdiv:fr/D.per d<x.s:=by
   rw[Nat.div_lt_iff_lt_mul (by omega)];omega
  have hget:all[j]=(x.f+fr/D.per d,fr%D.per d,cN (D.per d) fr src.length):=by
   have:=List.drop_eq_getElem_cons hjlt;rw[this]at hall;exact(List.cons.inj hall).1
  have hrest:all.drop (j+1)=pcs (D.per d) x.f k (fr+cN (D.per d) fr src.length) (src.length-cN (D.per d) fr src.length):=by
   have:=List.drop_eq_getElem_cons hjlt;rw[this]at hall;exact(List.cons.inj hall).2
  generalize hcv:cN (D.per d) fr src.length=c at*;have hflat:∀(l:List (Nat×Nat×Nat)) (i:Nat) (hi:i<l.length),((l.flatMap pcV).drop (i*3)).take 3=pcV l[i]:=by
   intro l
   induction l with
   |nil=>intro i hi;simp at hi
   |cons y l ih=>
    intro i hi;rw[List.flatMap_cons];cases i with
    |zero=>simp[pcV]
    |succ i=>
     rw[show(i+1)*3=(pcV y).length+i*3 by simp[pcV];omega,List.drop_append];simp only[Nat.add_sub_cancel_left,List.getElem_cons_succ];rw[List.drop_eq_nil_of_le (by omega),List.nil_append];exact ih i (by simpa using hi)
  have hsec1:((x.f+fr/D.per d:Nat):Int)<(d.sec:Int):=Int.ofNat_lt.2 (by omega);have htk:(src.take c).length=c:=by simp;omega
  have hwl:(aZG (d.now ((x.f+fr/D.per d:Nat):Int))).length=D.per d:=by rw[cZ3,hok.now];rfl
  unfold Zu.l9;refine Zn (by omega) ?_;refine(hs.own 4 rfl).rdA (ys:=pcV all[j]) rfl (by omega) (hflat all j hjlt) ?_;rw[hget];refine hs.nw fun b2 H hs=>?_
  refine hs.stw 7 rfl rfl rfl rfl fun H hs=>?_;have hs:Sep [pts p (ZI dp ap x),Dk dp d,Ar ap cap peak (bufs++[(b,D.per d,some ⟨rb,0,none⟩)]),pts rb (.row (Zc ws) 82 mb),Own 204 3 A4 n4 m4 (all.flatMap pcV),R,pts vb (.row [.pointer (some ⟨b,0,none⟩)] 195 1),
   pts b2 (.obj (.cells #[.int .i64 ((x.f+fr/D.per d:Nat):Int),.int .i64 ((fr%D.per d:Nat):Int),.int .i64 (c:Int)] 204))] H:=hs
    -- behind the load, if there was one
  have join:∀(d1:D) (ws1:List UInt64) (H:Hp),(d1=if c<D.per d then D.mr d else d)→(c<D.per d→d.fuse≠1)→ws1.length=D.per d→(c<D.per d→ws1=aZG (d.now ((x.f+fr/D.per d:Nat):Int)))→
    Sep [pts p (ZI dp ap x),Dk dp d1,Ar ap cap peak (bufs++[(b,D.per d,some ⟨rb,0,none⟩)]),pts rb (.row (Zc ws1) 82 mb),Own 204 3 A4 n4 m4 (all.flatMap pcV),R,pts vb (.row [.pointer (some ⟨b,0,none⟩)] 195 1),
     pts b2 (.obj (.cells #[.int .i64 ((x.f+fr/D.per d:Nat):Int),.int .i64 ((fr%D.per d:Nat):Int),.int .i64 (c:Int)] 204))] H→
    Zu.j15 K (Zu.l9 K (k+1)) (some ⟨p,0,none⟩) A src.length m (some ⟨b,0,none⟩) ⟨b2,0,none⟩ A4 n4 m4 (n4:Int) (j:Int) (some ⟨ap,0,none⟩) (some ⟨vb,0,none⟩) 1 1 H:=fun d1 ws1 H hd1 hnf hw1 hwe hs=>by
   have hd1p:D.per d1=D.per d∧Ok d1∧d1.down=false∧d1.wr=d.wr∧d1.sec=d.sec∧Prog S d0 d1 (r+if c<D.per d then 1 else 0) w:=by
    rw[hd1];by_cases hlt:c<D.per d
    ·simp only[hlt,if_true];exact⟨by trivial,Ok.mr hok,hdn,by trivial,by trivial,hpg.trans (Prog.mr S hok hdn (hnf hlt))⟩
    ·simp only[hlt,if_false];exact⟨by trivial,hok,hdn,by trivial,by trivial,hpg⟩
   obtain⟨q1,q2,q3,q4,q5,q6⟩:=hd1p;have hwset:dZ2 ws1 (fr%D.per d) (src.take c)=dZ2 (aZG (d.now ((x.f+fr/D.per d:Nat):Int))) (fr%D.per d) (src.take c):=by
    by_cases hlt:c<D.per d
    ·rw[hwe hlt]
    ·have h0:fr%D.per d=0:=by omega
     unfold dZ2;rw[h0,htk,List.drop_eq_nil_of_le (by omega),List.drop_eq_nil_of_le (by omega)];simp
   have hdisk:D.pt d1 ((x.f+fr/D.per d:Nat):Int) (dZ2 ws1 (fr%D.per d) (src.take c))=gZp d (x.f+fr/D.per d) (fr%D.per d) (src.take c):=by
    unfold gZp;rw[hwset,hd1,htk]
   unfold Zu.j15;simp only[HS];refine ZQ.use (eZu hs 2 rfl (List.mem_append_right _ (List.mem_singleton.2 rfl))) ?_;simp only[HV];refine hs.ld 7 rfl rfl ?_;simp only[HV];refine hZV rfl (by omega) ?_;refine hs.ld 7 rfl rfl ?_;simp only[HV];refine lZX rfl (by omega) ?_;rw[lZW (by omega),Nat.zero_add];have hcell:∀{L:List As} {H:Hp},Sep L H→L[5]? =some R→Cells H A (Zc src):=fun hs h5=>by
    obtain⟨H1,hR1,hle⟩:=hs.see 5 h5;exact(hR H1 hR1).le hle
   refine hs.cp 3 (b:=rb) (off:=fr%D.per d) (n:=D.per d-fr%D.per d) (k:=c-0) (xs:=Zc ws1) (e':=82) (m:=mb) (ys:=Zc (src.take c)) (by rfl) bZ7 rfl ?_ ?_ (fun y hy=>?_) fun H hs=>?_
   ·have hmin:Nat.min (c-0) (D.per d-fr%D.per d)=c-0:=Nat.min_eq_left (by omega);rw[hmin];have h1:=((hcell hs rfl).shift (m:=m) (l:=0) (by rw[Zr];omega)).take c;rw[List.drop_zero,show(Zc src).take c=Zc (src.take c) by unfold Zc;rw[List.map_take]]at h1;exact jZP h1 (by rw[Zr,htk];omega)
   ·rw[Zr,Zr,htk,hw1];omega
   ·obtain⟨z,_,rfl⟩:=List.mem_map.1 hy;rfl
   simp only[HV];rw[jZN]at hs;refine hs.ld 7 rfl rfl ?_;simp only[HV];have hs:Sep [pts p (ZI dp ap x),Dk dp d1,Ar ap cap peak (bufs++[(b,D.per d,some ⟨rb,0,none⟩)]),pts rb (.row (Zc (dZ2 ws1 (fr%D.per d) (src.take c))) 82 mb),Own 204 3 A4 n4 m4 (all.flatMap pcV),R,pts vb (.row [.pointer (some ⟨b,0,none⟩)] 195 1),
     pts b2 (.obj (.cells #[.int .i64 ((x.f+fr/D.per d:Nat):Int),.int .i64 ((fr%D.per d:Nat):Int),.int .i64 (c:Int)] 204))] H:=hs
   have hsl:(dZ2 ws1 (fr%D.per d) (src.take c)).length=D.per d:=by rw[kZ3 (by omega)];exact hw1
   refine(vZ7 (p:=p) (ap:=ap) (x:=x) (cap:=cap) (peak:=peak) (b:=b) (rb:=rb) (m:=mb) (d:=d1) (ws:=dZ2 ws1 (fr%D.per d) (src.take c)) q2 q3 (by omega) ((x.f+fr/D.per d:Nat):Int) (Int.natCast_nonneg _) (by rw[q5];exact hsec1) (bufs:=bufs++[(b,D.per d,some ⟨rb,0,none⟩)]) (by rw[q1];exact List.mem_append_right _ (List.mem_singleton.2 rfl)) (by rw[q1];exact hsl)).use hs [0,1,2,3] rfl rfl ?_;rintro _ _ H (⟨hf1,rfl,rfl⟩|⟨hf1,rfl,rfl⟩) hs
   case inr=>
    simp only[HV];refine ZA (by decide) ?_;refine(cZo vb b (D.per d) (some ⟨rb,0,none⟩) hbm).use hs [2,6] rfl rfl ?_;rintro _ _ H ⟨rfl,rfl⟩ hs;refine hK8 _ H (q6.dead (cZr.one S q2 hf1)) ?_ (hs.re [1,2,0,5] rfl);have z1:=q6.fuse;have z2:=q6.go;omega
   have hpg2:=q6.trans (Prog.pt S q2 q3 hf1 (i:=((x.f+fr/D.per d:Nat):Int)) (hS _ hdiv) (ws:=dZ2 ws1 (fr%D.per d) (src.take c)) (by rw[q1];exact hsl));rw[hdisk]at hpg2;rw[hdisk]at hs;simp only[HV];refine Zq rfl ?_;refine hs.ld 7 rfl rfl ?_;simp only[HV];refine hZV rfl (by omega) ?_;rw[ZG (x:=(j:Int)+1) (by omega) (by omega)];have hcnt:=uZE d (x.f+fr/D.per d) (fr%D.per d) (src.take c);have hsz:=nZo d (x.f+fr/D.per d) (fr%D.per d) (src.take c);have hper:=uZF d (x.f+fr/D.per d) (fr%D.per d) (src.take c);have hdl:(src.drop c).length=src.length-c:=by simp
   rw[← hdl];refine jZW K (rb:=rb) (mb:=mb) hbm hn4 hn40 hS hK8 k (fr+c) (j+1) _ _ (m-c) (src.drop c) (dZ2 ws1 (fr%D.per d) (src.take c)) H _ _ hpg2 (by rw[hper,hdl];omega) (by rw[hper,hdl];omega) hpg2.ok ⟨hx.w1,hx.s1,by rw[hsz.2];exact hfit,by rw[hper];exact h4⟩ (by rw[hcnt.2.1];split<;>omega) (by rw[hcnt.1];omega) (by omega) (by omega) (by omega) (by rw[hper,hdl];exact hrest) (by omega) (fun H hRH=>?_) (by rw[hper];exact hsl) hK ?_
   ·have:=(hR H hRH).shift (m:=m) (l:=c) (by rw[Zr];omega);rw[show(Zc src).drop c=Zc (src.drop c) by unfold Zc;rw[List.map_drop]]at this;exact this
   ·rw[hper];exact hs.re [0,1,2,3,4,5,6] rfl
  simp only[HS];refine hs.ld 7 rfl rfl ?_;simp only[HV];refine ZQ.use (eZ3 hs 0 1 rfl rfl hok) ?_;simp only[HV];by_cases hlt:c<D.per d
  ·refine Zn (by omega) ?_;refine hs.ld 7 rfl rfl ?_;simp only[HV];refine(oZy (p:=p) (ap:=ap) (x:=x) (cap:=cap) (peak:=peak) (b:=b) (rb:=rb) (m:=mb) hok hdn (by omega) ((x.f+fr/D.per d:Nat):Int) (Int.natCast_nonneg _) hsec1 (bufs:=bufs++[(b,D.per d,some ⟨rb,0,none⟩)]) (List.mem_append_right _ (List.mem_singleton.2 rfl)) (xs:=Zc ws) (by rw[Zr];exact hws)).use hs [0,1,2,3] rfl rfl ?_;rintro _ _ H (⟨hf1,rfl,rfl⟩|⟨hf1,rfl,rfl⟩) hs
   case inr=>
    simp only[HV];refine ZA (by decide) ?_;refine(cZo vb b (D.per d) (some ⟨rb,0,none⟩) hbm).use hs [2,6] rfl rfl ?_;rintro _ _ H ⟨rfl,rfl⟩ hs;refine hK8 _ H (hpg.dead (cZr.one S hok hf1)) ?_ (hs.re [1,2,0,5] rfl);have z1:=hpg.fuse;have z2:=hpg.go;rw[if_pos hlt]at hR0;omega
   simp only[HV];refine Zq rfl ?_;exact join (D.mr d) _ H (by rw[if_pos hlt]) (fun _=>hf1) hwl (fun _=>rfl) (hs.re [0,1,2,3,4,5,6,7] rfl)
  ·refine Zh (by omega) ?_;exact join d ws H (by rw[if_neg hlt]) (fun h=>absurd h hlt) hws (fun h=>absurd h hlt) hs
def tZc (p dp ap:Nat)(d:D)(x:X)(cap peak:Int)(bufs:List (Nat×Nat×OA))(fr:Nat)(src:List UInt64)(R:As)(v:Value)(M:List As):Prop:=
 (Prog (fun i=>(x.f:Int)≤i∧i<((x.f+x.s:Nat):Int)) d (dZ3 d x src.length fr src) (cZS (D.per d) x.f src.length fr src.length) (pcs (D.per d) x.f src.length fr src.length).length∧
  v= .int .i64 0∧M=[pts p (ZI dp ap x),Dk dp (dZ3 d x src.length fr src),Ar ap cap (mx peak (ZE bufs+D.per d)) bufs,R])∨
 (∃ d',cZr (fun i=>(x.f:Int)≤i∧i<((x.f+x.s:Nat):Int)) d d'∧d.fuse≤cZS (D.per d) x.f src.length fr src.length+(pcs (D.per d) x.f src.length fr src.length).length∧
  v= .int .i64 8∧M=[pts p (ZI dp ap x),Dk dp d',Ar ap cap (mx peak (ZE bufs+D.per d)) bufs,R])
theorem jZn {p dp ap:Nat}{d:D}{x:X}{cap peak:Int}{bufs:List (Nat×Nat×OA)}{R:As}{A:OA}{n m:Nat}{src:List UInt64}(hok:Ok d)(hl:d.down=false)(hx:On d x)(ho:d.rd≤4611686000000000000∧d.wr≤4611686000000000000)(fr:Nat)(hn:n=src.length)(hn1:1≤n)(hf:fr+n≤x.w)(hm:n≤m)(hcap:(D.per d:Int)≤cap-ZE bufs)(hR:∀ H,R H→Cells H A (Zc src)):
  Tr Tryz.prog 83 #[.pointer (some ⟨p,0,none⟩),.int .i64 fr,.slice A n m] [pts p (ZI dp ap x),Dk dp d,Ar ap cap peak bufs,R] fun v M=>
   tZc p dp ap d x cap peak bufs fr src R v M:=fun H hs=>by
 subst hn;have hp:=Ok.per_le hok;have hsec:=hok.sec;have hroom:x.s*D.per d≤1048576*512:=Nat.mul_le_mul (by have:=hx.fit;omega) (by omega);have h4:=hx.room;have hpl:=dZo (D.per d) x.f src.length fr src.length;apply Zu.ok;unfold Zu;refine(nZb (dp:=dp) (ap:=ap) hok hx fr src.length hf).use hs [0,1] rfl rfl ?_;rintro _ _ H ⟨A4,m4,rfl,rfl⟩ hs;simp only[HV];refine Zq rfl (aZg (by omega) ?_);simp only[HS];have rest:∀(b rb:Nat) (H:Hp),(∀ y∈bufs,y.1≠b)→Sep [Ar ap cap (if ZE bufs+D.per d>peak then ZE bufs+D.per d else peak) (bufs++[(b,D.per d,some ⟨rb,0,none⟩)]),pts rb (.row (bZj (D.per d)) 82 (D.per d)),pts p (ZI dp ap x),Dk dp d,Own 204 3 A4 (pcs (D.per d) x.f src.length fr src.length).length m4 ((pcs (D.per d) x.f src.length fr src.length).flatMap pcV),R] H→
   Zu.j5 (fun v H'=>∃ M,tZc p dp ap d x cap peak bufs fr src R v M∧Sep M H') (some ⟨p,0,none⟩) A src.length m A4 (pcs (D.per d) x.f src.length fr src.length).length m4 (0:Int) (some ⟨b,0,none⟩) H:=fun b rb H hbm hs=>by
  unfold Zu.j5;refine Zq rfl ?_;simp only[HS];refine hs.ld 2 rfl rfl ?_;simp only[HV];refine hs.nw fun vb H hs=>?_
  refine⟨src.length+1,?_⟩;have hz:bZj (D.per d)=Zc (List.replicate (D.per d) 0):=by
   unfold bZj;rw[bZw];unfold Zc;rw[List.map_replicate];rfl
  refine jZW _ (p:=p) (dp:=dp) (ap:=ap) (x:=x) (cap:=cap) (peak:=mx peak (ZE bufs+D.per d)) (bufs:=bufs) (b:=b) (rb:=rb) (mb:=D.per d) (vb:=vb) (R:=R) (all:=pcs (D.per d) x.f src.length fr src.length) hbm rfl (by omega) (S:=fun i=>(x.f:Int)≤i∧i<((x.f+x.s:Nat):Int)) (fun j hj=>⟨by omega,by omega⟩) (d0:=d) (R0:=cZS (D.per d) x.f src.length fr src.length) (W0:=(pcs (D.per d) x.f src.length fr src.length).length) (fun d' H hd hfu hs=>⟨_,.inr ⟨d',hd,hfu,rfl,rfl⟩,hs⟩) src.length fr 0 d A m src (List.replicate (D.per d) 0) H 0 0 (Prog.refl _ hok hl) (Nat.zero_add _) (Nat.zero_add _) hok hx (by omega) (by omega) (Nat.le_refl _) hf hm rfl (Nat.zero_le _) hR (by simp) (fun H hpg hs=>⟨_,.inl ⟨hpg,rfl,rfl⟩,hs⟩) ?_;rw[← hz];exact hs.re [2,3,0,1,4,5,6] rfl
 have fresh:∀{L:List As} {H:Hp} (b rb:Nat) (pk:Int),Sep L H→L[0]? =some (Ar ap cap pk (bufs++[(b,D.per d,some ⟨rb,0,none⟩)]))→∀ y∈bufs,y.1≠b:=fun b rb pk hs h0 y hy e=>by
  obtain⟨mp,cl,tk,hA⟩:=Sep.ar hs 0 h0;have:=hA.bn;rw[List.map_append,List.nodup_append]at this;exact this.2.2 y.1 (List.mem_map_of_mem hy) b (by simp) e
 refine⟨?_,?_⟩
 ·refine hs.ld 0 rfl rfl ?_;simp only[HV];refine Za.use (eZ3 hs 0 1 rfl rfl hok) ?_
  try simp only[HV]
  refine(eZR (a:=ap) (cap:=cap) (peak:=peak) (bufs:=bufs) (n:=D.per d) (by omega) hcap).use hs [3] rfl rfl ?_;rintro _ _ H ⟨b,rb,rfl,rfl⟩ hs;simp only[HV];exact rest b rb H (fresh b rb _ hs rfl) (hs.re [0,1,2,3,4,5] rfl)
 ·refine Za.use (eZ3 hs 0 1 rfl rfl hok) ?_
  try simp only[HV]
  refine hs.ld 0 rfl rfl ?_;simp only[HV];refine(eZR (a:=ap) (cap:=cap) (peak:=peak) (bufs:=bufs) (n:=D.per d) (by omega) hcap).use hs [3] rfl rfl ?_;rintro _ _ H ⟨b,rb,rfl,rfl⟩ hs;simp only[HV];exact rest b rb H (fresh b rb _ hs rfl) (hs.re [0,1,2,3,4,5] rfl)
end Go.Proofs.YtgfildcgihbdaaaGreatDoor.Str
namespace Go.Crc
open Go
abbrev W32 :=BitVec 32
def tZ5 :W32:=0x82f63b78#32
def eZe (v:W32):W32:=(v>>>1)^^^(if v.getLsbD 0 then tZ5 else 0#32)
def it (f:W32→W32):Nat→W32→W32
 |0,v=>v
 |n+1,v=>it f n (f v)
def Lin (f:W32→W32):Prop:=∀ x y,f (x^^^y)=f x^^^f y
theorem Lin.it {f:W32→W32}(h:Lin f):∀ n,Lin (it f n)
 |0=>fun _ _=>rfl
 |n+1=>fun x y=>by simp only[Crc.it];rw[h,Lin.it h n]
theorem xZT (a b c d:W32):(a^^^b)^^^(c^^^d)=(a^^^c)^^^(b^^^d):=by
 rw[BitVec.xor_assoc,←BitVec.xor_assoc b,BitVec.xor_comm b c,BitVec.xor_assoc c,←BitVec.xor_assoc]
theorem oZx :Lin eZe:=fun x y=>by
 unfold eZe;rw[BitVec.ushiftRight_xor_distrib,BitVec.getLsbD_xor,xZT];congr 1;cases x.getLsbD 0<;>cases y.getLsbD 0<;>simp
theorem qZG {v:W32}(h:v.getLsbD 0=false):eZe v=v>>>1:=by unfold eZe;rw[h];simp
theorem oZr :∀(n:Nat) {v:W32},(∀ i,i<n→v.getLsbD i=false)→it eZe n v=v>>>n
 |0,v,_=>by simp[it]
 |n+1,v,h=>by
  simp only[it];rw[qZG (h 0 (by omega)),oZr n (fun i hi=>by rw[BitVec.getLsbD_ushiftRight];exact h _ (by omega))];rw[← BitVec.shiftRight_add,Nat.add_comm]
theorem wZY (v:W32):it eZe 4 v=(v>>>4)^^^it eZe 4 (v&&&15#32):=by
 have h1:v=(v&&& ~~~15#32)^^^(v&&&15#32):=by
  apply BitVec.eq_of_getLsbD_eq;intro i hi;simp only[BitVec.getLsbD_xor,BitVec.getLsbD_and,BitVec.getLsbD_not,hi,decide_true,Bool.true_and];cases v.getLsbD i<;>cases(15#32).getLsbD i<;>rfl
 have h2:it eZe 4 (v&&& ~~~15#32)=(v&&& ~~~15#32)>>>4:=oZr 4 (fun i hi=>by
  rw[BitVec.getLsbD_and];have:(~~~15#32).getLsbD i=false:=by
   rcases(by omega:i=0∨i=1∨i=2∨i=3)with rfl|rfl|rfl|rfl<;>decide
  rw[this,Bool.and_false])
 have h3:(v&&& ~~~15#32)>>>4=v>>>4:=by
  apply BitVec.eq_of_getLsbD_eq;intro i hi;simp only[BitVec.getLsbD_ushiftRight,BitVec.getLsbD_and,BitVec.getLsbD_not];by_cases h:4+i<32
  ·have:(15#32).getLsbD (4+i)=false:=by
    rw[show(15#32:W32)=BitVec.ofNat 32 15 from rfl,BitVec.getLsbD_ofNat];have:Nat.testBit 15 (4+i)=false:=Nat.testBit_lt_two_pow (Nat.lt_of_lt_of_le (by decide:15<2^4) (Nat.pow_le_pow_right (by decide) (by omega)));rw[this,Bool.and_false]
   simp only[this,h,decide_true,Bool.true_and,Bool.not_false,Bool.and_true]
  ·have:=BitVec.getLsbD_of_ge v (4+i) (by omega);rw[this];simp
 conv=>lhs;rw[h1]
 rw[Lin.it oZx 4,h2,h3]
def low (c:UInt8):W32:=c.toBitVec.setWidth 32
def byte (v:W32)(c:UInt8):W32:=it eZe 8 (v^^^low c)
def run (v:W32)(bs:List UInt8):W32:=bs.foldl byte v
def more (s:W32)(bs:List UInt8):W32:= ~~~ run (~~~ s) bs
def sum (bs:List UInt8):W32:=more 0#32 bs
theorem qZ8 (v:W32)(a b:List UInt8):run v (a++b)=run (run v a) b:=List.foldl_append
theorem more_append (s:W32)(a b:List UInt8):more s (a++b)=more (more s a) b:=by
 unfold more;rw[qZ8,BitVec.not_not]
end Go.Crc
namespace Go.Proofs.YtgfildcgihbdaaaGreatDoor.W
open Go Go.Hw
theorem eZw :Tryz.prog.follows .mixedOrders=true:=by kernel_rfl
def fZm (A1:OA)(n1 m1:Nat)(H:Hp)(K:VK):Prop:=
 HcS 103 #[.slice A1 n1 m1] H fun A2 n2 m2 H1=>HcU 150 #[.slice A2 n2 m2] H1 fun x1 H2=>K (.int .u32 x1) H2
theorem fZm.ok A1 n1 m1 H K (h:fZm A1 n1 m1 H K):Za Tryz.prog 104 #[.slice A1 n1 m1] H K:=
 okN eZw Tryz.func104 rfl rfl h
def bZH (p1 A1:OA)(n1 m1:Nat)(H:Hp)(K:VK):Prop:=
 HcS 103 #[.slice A1 n1 m1] H fun A2 n2 m2 H1=>Hz 160 #[.pointer p1,.slice A2 n2 m2] H1 fun v2 H2=>K (.tuple #[]) H2
theorem bZH.ok p1 A1 n1 m1 H K (h:bZH p1 A1 n1 m1 H K):Za Tryz.prog 123 #[.pointer p1,.slice A1 n1 m1] H K:=
 okN eZw Tryz.func123 rfl rfl h
def cZn (p1:OA)(H:Hp)(K:VK):Prop:=
 NN p1 fun a1=>LeU H (a1.add 0) fun x1=>K (.int .u32 x1) H
theorem cZn.ok p1 H K (h:cZn p1 H K):Za Tryz.prog 124 #[.pointer p1] H K:=
 okN eZw Tryz.func124 rfl rfl h
def iZS (A1:OA)(n1 m1:Nat)(H:Hp)(K:VK):Prop:=
 HcU 185 #[.int .u32 0,.slice A1 n1 m1] H fun x1 H1=>K (.int .u32 x1) H1
theorem iZS.ok A1 n1 m1 H K (h:iZS A1 n1 m1 H K):Za Tryz.prog 150 #[.slice A1 n1 m1] H K:=
 okN eZw Tryz.func150 rfl rfl h
def cZm (p1 A1:OA)(n1 m1:Nat)(H:Hp)(K:VK):Prop:=
 NN p1 fun a1=>LeU H (a1.add 0) fun x1=>HcU 185 #[.int .u32 x1,.slice A1 n1 m1] H fun x2 H1=>NN p1 fun a2=>St H1 ((a2.add 0).add 0) (.int .u32 x2) fun H2=>NN p1 fun a3=>LeI H2 (a3.add 1) fun x3=>NN p1 fun a4=>St H2 ((a4.add 1).add 0) (.int .i64 (i64.wrap (x3+(n1:Int)))) fun H3=>K (.tuple #[]) H3
theorem cZm.ok p1 A1 n1 m1 H K (h:cZm p1 A1 n1 m1 H K):Za Tryz.prog 160 #[.pointer p1,.slice A1 n1 m1] H K:=
 okN eZw Tryz.func160 rfl rfl h
def bZa.l4 (K:VK):Nat→Addr→Int→OA→Nat→Nat→Int→Int→Hp→Prop
 |0,_,_,_,_,_,_,_,_=>False
 |k+1,a1,x2,A2,n2,m2,x3,x4,H=>
  let R4:=bZa.l4 K k
  BIf (decide (x4<x3)) (ixI x4 n2 (NN A2 fun a2=>LeV H (a2.add (x4.toNat*1)) fun x5=>(0≤(4:Int)∧ixI (aZr .u32 (eZH .u32 x2 (u32.wrap x5)) 15) 16 (LeU H (a1.add ((aZr .u32 (eZH .u32 x2 (u32.wrap x5)) 15).toNat*1)) fun x6=>(0≤(4:Int)∧ixI (aZr .u32 (eZH .u32 (aZq .u32 (eZH .u32 x2 (u32.wrap x5)) 4) x6) 15) 16 (LeU H (a1.add ((aZr .u32 (eZH .u32 (aZq .u32 (eZH .u32 x2 (u32.wrap x5)) 4) x6) 15).toNat*1)) fun x7=>R4 a1 (eZH .u32 (aZq .u32 (eZH .u32 (aZq .u32 (eZH .u32 x2 (u32.wrap x5)) 4) x6) 4) x7) A2 n2 m2 x3 (i64.wrap (x4+1)) H)))))) (K (.int .u32 (eZH .u32 u32.max x2)) H)
def bZa (x1:Int)(A1:OA)(n1 m1:Nat)(H:Hp)(K:VK):Prop:=
 HcA 212 #[] H fun y1 H1=>Nw H1 (.obj (.cells #[.int .u32 0,.int .u32 0,.int .u32 0,.int .u32 0,.int .u32 0,.int .u32 0,.int .u32 0,.int .u32 0,.int .u32 0,.int .u32 0,.int .u32 0,.int .u32 0,.int .u32 0,.int .u32 0,.int .u32 0,.int .u32 0] 304)) fun b1 H2=>StA H2 ⟨b1,0,none⟩ y1 16 fun H3=>(∃ k,bZa.l4 K k ⟨b1,0,none⟩ (eZH .u32 u32.max x1) A1 n1 m1 (n1:Int) 0 H3)
def bZa.l4.L (K:VK)(k:Nat):Mid:=fun E D H=>
 eN E 5 fun a1=>eI E 6 .u32 fun x2=>DG (E.get? 12) fun w12=>DSl w12 fun A2 n2 m2=>eI E 13 .i64 fun x3=>eI E 14 .i64 fun x4=>Zk D (bZa.l4 K k a1 x2 A2 n2 m2 x3 x4 H)
def bZa.Λ4 (_:VK)(_R4:Addr→Int→OA→Nat→Nat→Int→Int→Hp→Prop):Zt:=Zt.none (fun _=>none)
def bZa.Λ (K:VK):Zt:=⟨fun i=>none,fun i=>match Nat.beq i 4 with|true=>some (fun E D H=>∃ k,bZa.l4.L K k E D H)|false=>none,(fun _=>none)⟩
theorem bZa.ok x1 A1 n1 m1 H K (h:bZa x1 A1 n1 m1 H K):Za Tryz.prog 185 #[.int .u32 x1,.slice A1 n1 m1] H K:=
 okL (Λ:=(bZa.Λ K)) eZw Tryz.func185 rfl rfl h (oC (fun E D H h=>by
   refine Safe.loop' (bZa.l4.L K) (fun E D H h=>?_) (fun k E D H h=>?_) E D H h
   ·obtain⟨w5,e5,g1⟩:=DG.out h;obtain⟨pw5,rfl,g2⟩:=DP.out g1;obtain⟨a1,rfl,g3⟩:=NN.out g2;obtain⟨w6,e6,g4⟩:=DG.out g3;obtain⟨x2,rfl,g5⟩:=DI.out g4;obtain⟨w12,e12,g6⟩:=DG.out g5;obtain⟨A2,n2,m2,rfl,g7⟩:=DSl.out g6;obtain⟨w13,e13,g8⟩:=DG.out g7;obtain⟨x3,rfl,g9⟩:=DI.out g8;obtain⟨w14,e14,g10⟩:=DG.out g9;obtain⟨x4,rfl,g11⟩:=DI.out g10;obtain⟨rfl,h'⟩:=Zk.out g11;exact h'
   ·obtain⟨a1,e5,g3⟩:=GN h;obtain⟨x2,e6,g5⟩:=GI g3;obtain⟨w12,e12,g6⟩:=DG.out g5;obtain⟨A2,n2,m2,rfl,g7⟩:=DSl.out g6;obtain⟨x3,e13,g9⟩:=GI g7;obtain⟨x4,e14,g11⟩:=GI g9;obtain⟨rfl,h'⟩:=Zk.out g11;exact okJ (Λ:=(bZa.Λ4 K (bZa.l4 K k))) eZw [] (Zb.cons e5 (Zb.cons e6 (Zb.cons e12 (Zb.cons e13 (Zb.cons e14 (Zb.nil _)))))) h' oN) oN)
def ZP.l6 (K:VK)(R2:Addr→Int→Hp→Prop):Nat→Addr→Int→Int→Int→Int→Hp→Prop
 |0,_,_,_,_,_,_=>False
 |k+1,a2,x2,x3,x4,x5,H=>
  let R6:=ZP.l6 K R2 k
  BIf (decide (x5<4)) ((0≤(1:Int)∧R6 a2 x2 (eZH .u32 (aZq .u32 x3 1) (u32.wrap (2197175160*(aZr .u32 x3 1)))) x4 (i64.wrap (x5+1)) H)) (ixI x2 16 (St H ((a2.add (x2.toNat*1)).add 0) (.int .u32 x3) fun H2=>R2 a2 (i64.wrap (x4+1)) H2))
def ZP.l2 (K:VK):Nat→Addr→Int→Hp→Prop
 |0,_,_,_=>False
 |k+1,a1,x1,H=>
  let R2:=ZP.l2 K k
  BIf (decide (x1<16)) ((∃ k,ZP.l6 K R2 k a1 x1 (u32.wrap x1) x1 0 H)) (LdA H a1 16 fun l1=>StA H a1 l1.toArray 16 fun H3=>LdA H3 a1 16 fun l2=>K (.agg l2.toArray) H3)
def ZP (H:Hp)(K:VK):Prop:=
 Nw H (.obj (.cells #[.int .u32 0,.int .u32 0,.int .u32 0,.int .u32 0,.int .u32 0,.int .u32 0,.int .u32 0,.int .u32 0,.int .u32 0,.int .u32 0,.int .u32 0,.int .u32 0,.int .u32 0,.int .u32 0,.int .u32 0,.int .u32 0] 304)) fun b1 H1=>(∃ k,ZP.l2 K k ⟨b1,0,none⟩ 0 H1)
def ZP.l2.L (K:VK)(k:Nat):Mid:=fun E D H=>
 eN E 0 fun a1=>eI E 3 .i64 fun x1=>Zk D (ZP.l2 K k a1 x1 H)
def ZP.l6.L (K:VK)(R2:Addr→Int→Hp→Prop)(k:Nat):Mid:=fun E D H=>
 eN E 0 fun a2=>eI E 1 .i64 fun x2=>eI E 2 .u32 fun x3=>eI E 3 .i64 fun x4=>eI E 8 .i64 fun x5=>Zk D (ZP.l6 K R2 k a2 x2 x3 x4 x5 H)
def ZP.Λ6 (_:VK)(_R2:Addr→Int→Hp→Prop)(_R6:Addr→Int→Int→Int→Int→Hp→Prop):Zt:=Zt.none (fun _=>none)
def ZP.Λ2 (K:VK)(R2:Addr→Int→Hp→Prop):Zt:=⟨fun i=>none,fun i=>match Nat.beq i 6 with|true=>some (fun E D H=>∃ k,ZP.l6.L K R2 k E D H)|false=>none,(fun _=>none)⟩
def ZP.Λ (K:VK):Zt:=⟨fun i=>none,fun i=>match Nat.beq i 2 with|true=>some (fun E D H=>∃ k,ZP.l2.L K k E D H)|false=>none,(fun _=>none)⟩
theorem ZP.ok H K (h:ZP H K):Za Tryz.prog 212 #[] H K:=
 okL (Λ:=(ZP.Λ K)) eZw Tryz.func212 rfl rfl h (oC (fun E D H h=>by
   refine Safe.loop' (ZP.l2.L K) (fun E D H h=>?_) (fun k E D H h=>?_) E D H h
   ·obtain⟨w0,e0,g1⟩:=DG.out h;obtain⟨pw0,rfl,g2⟩:=DP.out g1;obtain⟨a1,rfl,g3⟩:=NN.out g2;obtain⟨w3,e3,g4⟩:=DG.out g3;obtain⟨x1,rfl,g5⟩:=DI.out g4;obtain⟨rfl,h'⟩:=Zk.out g5;exact h'
   ·obtain⟨a1,e0,g3⟩:=GN h;obtain⟨x1,e3,g5⟩:=GI g3;obtain⟨rfl,h'⟩:=Zk.out g5;exact okJ (Λ:=(ZP.Λ2 K (ZP.l2 K k))) eZw [] (Zb.cons e0 (Zb.cons e3 (Zb.nil _))) h' (oC (fun E D H h=>by
      refine Safe.loop' (ZP.l6.L K (ZP.l2 K k)) (fun E D H h=>?_) (fun k E D H h=>?_) E D H h
      ·obtain⟨w0,e0,g1⟩:=DG.out h;obtain⟨pw0,rfl,g2⟩:=DP.out g1;obtain⟨a2,rfl,g3⟩:=NN.out g2;obtain⟨w1,e1,g4⟩:=DG.out g3;obtain⟨x2,rfl,g5⟩:=DI.out g4;obtain⟨w2,e2,g6⟩:=DG.out g5;obtain⟨x3,rfl,g7⟩:=DI.out g6;obtain⟨w3,e3,g8⟩:=DG.out g7;obtain⟨x4,rfl,g9⟩:=DI.out g8;obtain⟨w8,e8,g10⟩:=DG.out g9;obtain⟨x5,rfl,g11⟩:=DI.out g10;obtain⟨rfl,h'⟩:=Zk.out g11;exact h'
      ·obtain⟨a2,e0,g3⟩:=GN h;obtain⟨x2,e1,g5⟩:=GI g3;obtain⟨x3,e2,g7⟩:=GI g5;obtain⟨x4,e3,g9⟩:=GI g7;obtain⟨x5,e8,g11⟩:=GI g9;obtain⟨rfl,h'⟩:=Zk.out g11;exact okJ (Λ:=(ZP.Λ6 K (ZP.l2 K k) (ZP.l6 K (ZP.l2 K k) k))) eZw [] (Zb.cons e0 (Zb.cons e1 (Zb.cons e2 (Zb.cons e3 (Zb.cons e8 (Zb.nil _)))))) h' oN) oN)) oN)
end Go.Proofs.YtgfildcgihbdaaaGreatDoor.W
