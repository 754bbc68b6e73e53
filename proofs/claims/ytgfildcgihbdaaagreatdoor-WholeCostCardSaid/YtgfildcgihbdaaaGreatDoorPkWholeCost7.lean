import Derived.Shelf.Strings.Trim
import Derived.Test.YtgfildcgihbdaaaGreatDoorProg
import Derived.Test.YtgfildcgihbdaaaGreatDoorPkWholeCost6
set_option maxRecDepth 100000
set_option linter.unusedSimpArgs false
set_option linter.unusedVariables false
set_option linter.unnecessarySimpa false
set_option linter.unusedSectionVars false
open Go.IntKind (i64 u32 u64)
namespace Go.Proofs.YtgfildcgihbdaaaGreatDoor.Rec
open Go Go.Hw Go.Form Go.Crc W
def jZ9 (ps:List (Nat×Nat)):List Value:=ps.flatMap fun(p:Nat×Nat)=>[Value.int .u64 (p.1:Int),Value.int .u64 (p.2:Int)]
def bZg (w:Nat):List (Nat×Nat)→Nat
 | []=>w
 |p::ps=>bZg (w|||(p.1*2^p.2%2^64)) ps
theorem eZj :∀(ps:List (Nat×Nat)) (w:Nat),w<2^64→bZg w ps<2^64
 | [],w,h=>h
 |p::ps,w,h=>eZj ps _ (nZN h (Nat.mod_lt _ (Nat.two_pow_pos 64)))
theorem nZa :∀(ps:List (Nat×Nat)) (j:Nat) (p:Nat×Nat),ps[j]? =some p→(jZ9 ps)[j*2]? =some (.int .u64 (p.1:Int))∧(jZ9 ps)[j*2+1]? =some (.int .u64 (p.2:Int))
 | [],j,p,h=>by simp at h
 |q::ps,0,p,h=>by
  simp at h;subst h;exact⟨rfl,rfl⟩
 |q::ps,j+1,p,h=>by
  have:=nZa ps j p (by simpa using h);rw[show(j+1)*2=j*2+2 by omega];exact this
theorem vZf {H:Hp}{g off:Nat}{u v:Value}{K:List Value→Prop}(h1:H.cell? ⟨g,off,none⟩=some u)(h2:H.cell? ⟨g,off+1,none⟩=some v)(k:K [u,v]):LdA H ⟨g,off,none⟩ 2 K:=by
 have e0:(⟨g,off,none⟩:Addr).add 0=⟨g,off,none⟩:=by rw[Addr.add_lit'];rfl
 have e1:(⟨g,off,none⟩:Addr).add (0+1)=⟨g,off+1,none⟩:=by rw[Addr.add_lit']
 unfold LdA Hp.cells? Hp.cells? Hp.cells?;rw[e0,e1,h1,h2];exact k
theorem mZ0 {H0:Hp}{b:Nat}{ps:List (Nat×Nat)}(hc:Cells H0 (some ⟨b,0,none⟩) (jZ9 ps))(hp:∀ p∈ps,p.1<2^64∧p.2≤64)(hl:ps.length≤1000):
  ∀(t j w:Nat) (H:Hp),j+t=ps.length→w<2^64→Sep [own H0] H→aZH.l3 (Ret (.int .u64 ((bZg w (ps.drop j):Nat):Int)) H0) (t+1) (w:Int) (some ⟨b,0,none⟩) ps.length ps.length (ps.length:Int) (j:Int) H
 |0,j,w,H,hj,hw,hs=>by
  unfold aZH.l3;rw[List.drop_eq_nil_of_le (by omega)];exact Zh (by omega) (hs.fin 0 rfl _)
 |t+1,j,w,H,hj,hw,hs=>by
  have hlt:j<ps.length:=by omega
  have hg:=nZa ps j _ (List.getElem?_eq_getElem hlt);obtain⟨hp1,hp2⟩:=hp _ (List.getElem_mem hlt);have hcH:=hc.le (hs.ow 0 rfl);unfold aZH.l3;refine Zn (by omega) ⟨by omega,by omega,?_⟩;rw[List.drop_eq_getElem_cons hlt];generalize ps[j]=p at*;simp only[aZY];rw[Int.toNat_natCast,Addr.add_lit',Nat.zero_add];have g1:H.cell? ⟨b,j*2,none⟩=some (.int .u64 (p.1:Int)):=by
   obtain⟨a,ha,hc⟩:=hcH _ _ hg.1;cases ha;rw[Addr.add_lit',Nat.zero_add]at hc;exact hc
  have g2:H.cell? ⟨b,j*2+1,none⟩=some (.int .u64 (p.2:Int)):=by
   obtain⟨a,ha,hc⟩:=hcH _ _ hg.2;cases ha;rw[Addr.add_lit',Nat.zero_add]at hc;exact hc
  refine vZf g1 g2 ?_;refine hs.nw fun b1 H1 hs=>?_
  refine hs.stw 1 rfl rfl rfl rfl fun H1 hs=>?_
  refine hs.ldf 1 rfl rfl ?_;simp only[HV];refine hs.ldf 1 rfl rfl ?_;simp only[HV];refine⟨by omega,?_⟩;have hm:p.1*2^p.2%2^64<2^64:=Nat.mod_lt _ (Nat.two_pow_pos 64);rw[rZb (x:=p.1) (i:=(p.2:Int)) (n:=p.2) rfl hp2,orN hw hm,ZG (x:=(j:Int)+1) (by omega) (by omega),show(j:Int)+1=((j+1:Nat):Int) by omega];exact mZ0 hc hp hl t (j+1) _ H1 (by omega) (nZN hw hm) (hs.re [0] rfl)
theorem vZB {H:Hp}{b:Nat}(ps:List (Nat×Nat))(n:Nat)(hn:n=ps.length)(hc:Cells H (some ⟨b,0,none⟩) (jZ9 ps))(hp:∀ p∈ps,p.1<2^64∧p.2≤64)(hl:ps.length≤1000):
  Za Tryz.prog 187 #[.slice (some ⟨b,0,none⟩) n n] H (RetE (.int .u64 ((bZg 0 ps:Nat):Int)) H):=Za.ret (by
 subst hn;apply aZH.ok;unfold aZH;exact⟨ps.length+1,mZ0 hc hp hl ps.length 0 0 H (by omega) (by decide) (Sep.start H)⟩)
def R.p1 (r:R):List (Nat×Nat):=[(21061,48),(r.s,0)]
def R.p2 (r:R):List (Nat×Nat):=[(r.ld,32),(r.ps.toNat,24),(r.kk.toNat,16),(r.dir.toNat,8),(r.kd.toNat,0)]
def R.p3 (r:R):List (Nat×Nat):=[(r.inp,32),(r.out,0)]
def R.w3 (r:R):List UInt64:=[UInt64.ofNat (bZg 0 r.p1),UInt64.ofNat (bZg 0 r.p2),UInt64.ofNat (bZg 0 r.p3)]
structure R.u32 (r:R):Prop where
 ld:r.ld<4294967296
 inp:r.inp<4294967296
 out:r.out<4294967296
def oZJ (ps:List (Nat×Nat)):AO:=.row (jZ9 ps) 280 (2*ps.length)
theorem jn {L:List As}{H:Hp}(hs:Sep L H)(i:Nat){b:Nat}{ps:List (Nat×Nat)}(hi:L[i]? =some (pts b (oZJ ps)))(n:Nat)(hn:n=ps.length)(hp:∀ p∈ps,p.1<2^64∧p.2≤64)(hl:n≤1000):
  Za Tryz.prog 187 #[.slice (some ⟨b,0,none⟩) n n] H (RetE (.int .u64 ((bZg 0 ps:Nat):Int)) H):=by
 refine vZB ps n hn ?_ hp (by omega);have:=Cells.row (hs.get i hi) 0 (jZ9 ps).length;rw[List.drop_zero,List.take_of_length_le (Nat.le_refl _)]at this;exact this
theorem uZw (r:R)(hg:r.good)(hu:r.u32):Tr Tryz.prog 153 #[.agg r.c] [] fun v M=>∃ b,v= .slice (some ⟨b,0,none⟩) 3 3∧M=[pts b (.row (Zc r.w3) 82 3)]:=fun H hs=>by
 obtain⟨g1,g2,g3,g4,g5,g6⟩:=hg;obtain⟨u1,u2,u3⟩:=hu;have c1:∀ p∈r.p1,p.1<2^64∧p.2≤64:=fun p hp=>by
  simp only[R.p1,List.mem_cons,List.not_mem_nil,or_false]at hp;rcases hp with rfl|rfl<;>exact⟨by simp only[];omega,by simp only[];omega⟩
 have c2:∀ p∈r.p2,p.1<2^64∧p.2≤64:=fun p hp=>by
  simp only[R.p2,List.mem_cons,List.not_mem_nil,or_false]at hp;rcases hp with rfl|rfl|rfl|rfl|rfl<;>exact⟨by simp only[];omega,by simp only[];omega⟩
 have c3:∀ p∈r.p3,p.1<2^64∧p.2≤64:=fun p hp=>by
  simp only[R.p3,List.mem_cons,List.not_mem_nil,or_false]at hp;rcases hp with rfl|rfl<;>exact⟨by simp only[];omega,by simp only[];omega⟩
 apply aZt.ok;unfold aZt aZt.q4 aZt.q3 aZt.q2 aZt.q1;refine hs.nw fun b1 H hs=>?_
 have hs:Sep [pts b1 (bZD r)] H:=hs;refine hs.ldf 0 rfl rfl ?_;simp only[HV];refine hs.ldf 0 rfl rfl ?_;simp only[HV];refine hs.ldf 0 rfl rfl ?_;simp only[HV];refine hs.ldf 0 rfl rfl ?_;simp only[HV];refine hs.ldf 0 rfl rfl ?_;simp only[HV];refine hs.ldf 0 rfl rfl ?_;simp only[HV];refine hs.ldf 0 rfl rfl ?_;simp only[HV];refine hs.ldf 0 rfl rfl ?_;simp only[HV];have e1:u64.wrap (r.ld:Int)=(r.ld:Int):=cZg (by omega);have e2:u64.wrap r.ps=(r.ps.toNat:Int):=by rw[eZp (by omega) (by omega)];omega
 have e3:u64.wrap r.kk=(r.kk.toNat:Int):=by rw[eZp (by omega) (by omega)];omega
 have e4:u64.wrap r.dir=(r.dir.toNat:Int):=by rw[eZp (by omega) (by omega)];omega
 have e5:u64.wrap r.kd=(r.kd.toNat:Int):=by rw[eZp (by omega) (by omega)];omega
 have e6:u64.wrap (r.inp:Int)=(r.inp:Int):=cZg (by omega);have e7:u64.wrap (r.out:Int)=(r.out:Int):=cZg (by omega);rw[e1,e2,e3,e4,e5,e6,e7];have done:∀{L:List As} {H:Hp},Sep L H→Nw H (.row [.int .u64 ((bZg 0 r.p1:Nat):Int),.int .u64 ((bZg 0 r.p2:Nat):Int),.int .u64 ((bZg 0 r.p3:Nat):Int)] 82 3) fun b5 H5=>∃ M,(∃ b,(.slice (some ⟨b5,0,none⟩) 3 3:Value)= .slice (some ⟨b,0,none⟩) 3 3∧M=[pts b (.row (Zc r.w3) 82 3)])∧Sep M H5:=fun{L H} hs=>by
  refine hs.nw fun b5 H5 hs=>⟨_,⟨b5,rfl,rfl⟩,?_⟩
  have hw:Zc r.w3=[.int .u64 ((bZg 0 r.p1:Nat):Int),.int .u64 ((bZg 0 r.p2:Nat):Int),.int .u64 ((bZg 0 r.p3:Nat):Int)]:=by
   show [Value.int .u64 ((UInt64.ofNat (bZg 0 r.p1)).toNat:Int),Value.int .u64 ((UInt64.ofNat (bZg 0 r.p2)).toNat:Int),Value.int .u64 ((UInt64.ofNat (bZg 0 r.p3)).toNat:Int)]=_
   rw[UInt64.toNat_ofNat_of_lt' (eZj r.p1 0 (by decide)),UInt64.toNat_ofNat_of_lt' (eZj r.p2 0 (by decide)),UInt64.toNat_ofNat_of_lt' (eZj r.p3 0 (by decide))]
  rw[hw];have hg:=hs.get L.length (b:=b5) (o:=.row [.int .u64 ((bZg 0 r.p1:Nat):Int),.int .u64 ((bZg 0 r.p2:Nat):Int),.int .u64 ((bZg 0 r.p3:Nat):Int)] 82 3) (by simp);exact⟨H5,fun _=>none,Hp.le_refl _,fun b o h=>(by cases h),fun b=>.inr rfl,hg,trivial⟩
 have n1:∀{L:List As} {H:Hp} {K:Nat→Hp→Prop},Sep L H→(∀ b H',Sep (L++[pts b (oZJ r.p1)]) H'→K b H')→Nw H (.row [.int .u64 21061,.int .u64 48,.int .u64 (r.s:Int),.int .u64 0] 280 4) K:=fun hs k=>hs.nw k
 have n2:∀{L:List As} {H:Hp} {K:Nat→Hp→Prop},Sep L H→(∀ b H',Sep (L++[pts b (oZJ r.p2)]) H'→K b H')→Nw H (.row [.int .u64 (r.ld:Int),.int .u64 32,.int .u64 (r.ps.toNat:Int),.int .u64 24,.int .u64 (r.kk.toNat:Int),.int .u64 16,.int .u64 (r.dir.toNat:Int),.int .u64 8,.int .u64 (r.kd.toNat:Int),.int .u64 0] 280 10) K:=fun hs k=>hs.nw k
 have n3:∀{L:List As} {H:Hp} {K:Nat→Hp→Prop},Sep L H→(∀ b H',Sep (L++[pts b (oZJ r.p3)]) H'→K b H')→Nw H (.row [.int .u64 (r.inp:Int),.int .u64 32,.int .u64 (r.out:Int),.int .u64 0] 280 4) K:=fun hs k=>hs.nw k
 refine⟨n1 hs fun b2 H hs=>?_,n2 hs fun b2 H hs=>?_,n3 hs fun b2 H hs=>?_⟩
 ·refine ZQ.use (jn hs 1 rfl 2 rfl c1 (by decide)) ?_;simp only[HV];refine⟨n2 hs fun b3 H hs=>?_,n3 hs fun b3 H hs=>n2 hs fun b4 H hs=>?_⟩
  ·refine ZQ.use (jn hs 2 rfl 5 rfl c2 (by decide)) ?_;simp only[HV];refine n3 hs fun b4 H hs=>?_
   refine ZQ.use (jn hs 3 rfl 2 rfl c3 (by decide)) ?_;simp only[HV];exact done hs
  ·refine ZQ.use (jn hs 3 rfl 5 rfl c2 (by decide)) ?_;simp only[HV];refine ZQ.use (jn hs 2 rfl 2 rfl c3 (by decide)) ?_;simp only[HV];exact done hs
 ·refine⟨n1 hs fun b3 H hs=>?_,n3 hs fun b3 H hs=>n1 hs fun b4 H hs=>?_⟩
  ·refine ZQ.use (jn hs 2 rfl 2 rfl c1 (by decide)) ?_;simp only[HV];refine ZQ.use (jn hs 1 rfl 5 rfl c2 (by decide)) ?_;simp only[HV];refine n3 hs fun b4 H hs=>?_
   refine ZQ.use (jn hs 3 rfl 2 rfl c3 (by decide)) ?_;simp only[HV];exact done hs
  ·refine ZQ.use (jn hs 3 rfl 2 rfl c1 (by decide)) ?_;simp only[HV];refine ZQ.use (jn hs 1 rfl 5 rfl c2 (by decide)) ?_;simp only[HV];refine ZQ.use (jn hs 2 rfl 2 rfl c3 (by decide)) ?_;simp only[HV];exact done hs
 ·refine⟨n1 hs fun b3 H hs=>?_,n2 hs fun b3 H hs=>n1 hs fun b4 H hs=>?_⟩
  ·refine ZQ.use (jn hs 2 rfl 2 rfl c1 (by decide)) ?_;simp only[HV];refine n2 hs fun b4 H hs=>?_
   refine ZQ.use (jn hs 3 rfl 5 rfl c2 (by decide)) ?_;simp only[HV];refine ZQ.use (jn hs 1 rfl 2 rfl c3 (by decide)) ?_;simp only[HV];exact done hs
  ·refine ZQ.use (jn hs 3 rfl 2 rfl c1 (by decide)) ?_;simp only[HV];refine ZQ.use (jn hs 2 rfl 5 rfl c2 (by decide)) ?_;simp only[HV];refine ZQ.use (jn hs 1 rfl 2 rfl c3 (by decide)) ?_;simp only[HV];exact done hs
end Go.Proofs.YtgfildcgihbdaaaGreatDoor.Rec
namespace Go.Proofs.YtgfildcgihbdaaaGreatDoor.Gen
open Go
def eZy (xs:List Nat):List Value:=List.map (fun(x:Nat)=>Value.int .u64 (x:Int)) xs
theorem gZW (xs:List Nat):(eZy xs).length=xs.length:=by simp[eZy]
theorem bZ7 :Hw.bZi Tryz.prog 82=some (1,8,some #[.int .u64 0]):=by kernel_rfl
end Go.Proofs.YtgfildcgihbdaaaGreatDoor.Gen
namespace Go.Hw
open Go
end Go.Hw
namespace Go.Proofs.YtgfildcgihbdaaaGreatDoor.Rec
open Go Go.Hw Go.Form Go.Crc W
theorem tZL :bZi Tryz.prog 82=some (1,8,some #[.int .u64 0]):=by kernel_rfl
theorem eZv :bZi Tryz.prog 5=some (1,1,some #[.int .u8 0]):=by kernel_rfl
def gZX (l:List UInt64):List (Nat×Nat):=[(4294967295-(sum (form l)).toNat,32),((sum (form l)).toNat,0)]
theorem qZb (A:OA)(n m:Nat)(l:List UInt64)(hn:n=l.length)(hm:n≤1000)(H:Hp)(hl:Cells H A (Zc l)):Za Tryz.prog 154 #[.slice A n m] H (RetE (.int .u64 ((bZg 0 (gZX l):Nat):Int)) H):=Za.ret (by
 apply fZv.ok;unfold fZv;have hs:=Sep.start H;refine Za.use (CrcP.iZP A n m l hn (by omega) H hl) ?_;simp only[HV];have hx:eZH .u32 u32.max ((sum (form l)).toNat:Int)=((4294967295-(sum (form l)).toNat:Nat):Int):=by
  rw[show u32.max=((BitVec.allOnes 32).toNat:Int)from rfl,jZe,BitVec.allOnes_xor,BitVec.toNat_not]
 have hlt:=(sum (form l)).isLt;rw[hx,cZg (n:=4294967295-(sum (form l)).toNat) (by omega),cZg (n:=(sum (form l)).toNat) (by omega)];refine hs.nw fun b1 H1 hs=>?_
 have hs:Sep [own H,pts b1 (oZJ (gZX l))] H1:=hs;refine Za.use (jn hs 1 rfl 2 rfl (fun p hp=>?_) (by decide)) ?_
 ·simp only[gZX,List.mem_cons,List.not_mem_nil,or_false]at hp;rcases hp with rfl|rfl<;>exact⟨by simp only[];omega,by simp only[];omega⟩
 simp only[HV];exact hs.fin 0 rfl _)
def R.w4 (r:R):List UInt64:=r.w3++[UInt64.ofNat (bZg 0 (gZX r.w3))]
theorem wZy (r:R)(hg:r.good)(hu:r.u32)(size:Nat)(h32:32≤size)(h40:size≤4096)(hsz:(Lay.gZE 0 size).2=0):
  Tr Tryz.prog 109 #[.agg r.c,.int .i64 (size:Int)] [] fun v M=>∃ b,v= .tuple #[.slice (some ⟨b,0,none⟩) size size,.int .i64 0]∧
   M=[pts b (.row (setAt (aZv [.int .u8 0] size) 0 (Zm (form r.w4))) 5 (size*1))]:=fun H hs=>by
 apply dZW.ok;unfold dZW;refine hs.nw fun b1 H hs=>?_
 have hs:Sep [pts b1 (bZD r)] H:=hs;refine hs.ldw 0 rfl rfl ?_;refine Za.use (bZR r H) ?_;rw[decide_eq_true hg];simp only[HV];have hsec:Za Tryz.prog 152 #[.int .i64 (size:Int)] H (RetE (.bool true) H):=by
  apply cZO.ok;unfold cZO;refine Za.use (Lay.jZ0 0 size H) ?_;rw[hsz];simp only[HV];exact RetE.mk _ _
 refine Za.use hsec ?_;simp only[HV];refine hs.ldw 0 rfl rfl ?_;refine(uZw r hg hu).use hs [] rfl rfl ?_;rintro _ _ H ⟨b3,rfl,rfl⟩ hs;simp only[HV];refine hs.mks eZv rfl (n:=size) (m:=size) rfl rfl (Nat.le_refl _) (by omega) (by omega) fun bo H hs=>?_
 simp only[HV];have hs:Sep [pts b3 (.row (Zc r.w3) 82 3),pts b1 (bZD r),pts bo (.row (aZv [.int .u8 0] size) 5 (size*1))] H:=hs;have hc:Cells H (some ⟨b3,0,none⟩) (Zc r.w3):=by
  have:=Cells.row (hs.get 0 rfl) 0 3;exact this
 refine Za.use (qZb (some ⟨b3,0,none⟩) 3 3 r.w3 rfl (by omega) H hc) ?_;simp only[HV];have hs:=hs.turn 0 rfl (B:=Own 82 1 (some ⟨b3,0,none⟩) 3 3 (Zc r.w3)) (fun H1 h=>⟨rfl,.inr ⟨b3,3,rfl,h,Nat.le_refl _⟩⟩);refine hs.app1 0 rfl tZL (by omega) rfl (by omega) (by omega) fun A' m' H hs=>?_
 simp only[HV];have hw:Zc r.w3++[.int .u64 ((bZg 0 (gZX r.w3):Nat):Int)]=Zc r.w4:=by
  unfold R.w4 Zc;rw[List.map_append];show _=_++[Value.int .u64 ((UInt64.ofNat (bZg 0 (gZX r.w3))).toNat:Int)]
  rw[UInt64.toNat_ofNat_of_lt' (eZj _ 0 (by decide))]
 rw[hw]at hs;have hc:Cells H A' (Zc r.w4):=by
  obtain⟨hl,h⟩:=hs.own 0 rfl;rcases h with⟨_,h0,_⟩|⟨b,mm,rfl,hb,_⟩
  ·omega
  ·have:=Cells.row hb 0 4;exact this
 refine Za.mono (FormP.Put_ok A' 4 m' r.w4 rfl (by omega) H hc) ?_;rintro _ _ ⟨b',hb',rfl,rfl⟩;have hs:=hs.new hb' (.row (Zm (form r.w4)) 5 (8*4));generalize H.set b' (.row (Zm (form r.w4)) 5 (8*4))=H at*;simp only[HV];have hlen:(Zm (form r.w4)).length=32:=by rw[ZL,aZ8];rfl
 have hmin:Nat.min 32 size=32:=Nat.min_eq_left h32;refine hs.cp 2 (b:=bo) (off:=0) (n:=size) (k:=32) (xs:=aZv [.int .u8 0] size) (e':=5) (m:=size*1) (ys:=Zm (form r.w4)) rfl eZv rfl ?_ ?_ (fun y hy=>?_) fun H hs=>?_
 ·rw[hmin];have:=Cells.row (hs.get 3 rfl) 0 32;rw[List.drop_zero,List.take_of_length_le (by rw[hlen];exact Nat.le_refl _)]at this;exact jZP this hlen.symm
 ·rw[hlen,bZw,List.length_replicate];omega
 ·obtain⟨z,_,rfl⟩:=List.mem_map.1 hy;rfl
 simp only[HV];exact⟨_,⟨bo,rfl,rfl⟩,hs.re [2] rfl⟩
end Go.Proofs.YtgfildcgihbdaaaGreatDoor.Rec
namespace Go.Proofs.YtgfildcgihbdaaaGreatDoor.Lib2
open Go Go.Proofs Go.Shelf Go.RowKit
def sZ1 :Go.Shelf.Ren:=⟨fun|160=>194|232=>221|231=>220|227=>222|234=>224|233=>223|236=>226|235=>225|228=>243|271=>246|151=>245|197=>244|120=>260|152=>259|260=>258|137=>265|119=>266|224=>267|225=>268|217=>272|266=>274|n=>n,fun|9=>9|4=>4|3=>3|5=>5|117=>320|116=>319|0=>0|124=>323|21=>21|105=>337|46=>110|119=>355|139=>358|138=>357|n=>n,fun|3=>3|4=>4|n=>n⟩
theorem xZD :Go.Proofs.Lays.n160 Tryz.prog sZ1 where
 mixed:=by kernel_rfl
 f119:=Tryz.func266.trans (congrArg some (by kernel_rfl))
 f120:=Tryz.func260.trans (congrArg some (by kernel_rfl))
 f137:=Tryz.func265.trans (congrArg some (by kernel_rfl))
 f151:=Tryz.func245.trans (congrArg some (by kernel_rfl))
 f152:=Tryz.func259.trans (congrArg some (by kernel_rfl))
 f160:=Tryz.func194.trans (congrArg some (by kernel_rfl))
 f197:=Tryz.func244.trans (congrArg some (by kernel_rfl))
 f217:=Tryz.func272.trans (congrArg some (by kernel_rfl))
 f224:=Tryz.func267.trans (congrArg some (by kernel_rfl))
 f225:=Tryz.func268.trans (congrArg some (by kernel_rfl))
 f227:=Tryz.func222.trans (congrArg some (by kernel_rfl))
 f228:=Tryz.func243.trans (congrArg some (by kernel_rfl))
 f231:=Tryz.func220.trans (congrArg some (by kernel_rfl))
 f232:=Tryz.func221.trans (congrArg some (by kernel_rfl))
 f233:=Tryz.func223.trans (congrArg some (by kernel_rfl))
 f234:=Tryz.func224.trans (congrArg some (by kernel_rfl))
 f235:=Tryz.func225.trans (congrArg some (by kernel_rfl))
 f236:=Tryz.func226.trans (congrArg some (by kernel_rfl))
 f260:=Tryz.func258.trans (congrArg some (by kernel_rfl))
 f266:=Tryz.func274.trans (congrArg some (by kernel_rfl))
 f271:=Tryz.func246.trans (congrArg some (by kernel_rfl))
 t0:=Tryz.underlying0
 a0:=Tryz.isAgg0
 z0:=Tryz.sizeOf0
 v0:=Tryz.zeroValue0
 t3:=Tryz.underlying3
 a3:=Tryz.isAgg3
 z3:=Tryz.sizeOf3
 v3:=Tryz.zeroValue3
 t4:=Tryz.underlying4
 a4:=Tryz.isAgg4
 z4:=Tryz.sizeOf4
 v4:=Tryz.zeroValue4
 t5:=Tryz.underlying5
 a5:=Tryz.isAgg5
 z5:=Tryz.sizeOf5
 v5:=Tryz.zeroValue5
 t9:=Tryz.underlying9
 a9:=Tryz.isAgg9
 z9:=Tryz.sizeOf9
 v9:=Tryz.zeroValue9
 t21:=Tryz.underlying21
 a21:=Tryz.isAgg21
 z21:=Tryz.sizeOf21
 v21:=Tryz.zeroValue21
 t46:=Tryz.underlying110
 a46:=Tryz.isAgg110
 z46:=Tryz.sizeOf110
 v46:=Tryz.zeroValue110
 t105:=Tryz.underlying337
 a105:=Tryz.isAgg337
 z105:=Tryz.sizeOf337
 v105:=Tryz.zeroValue337
 t116:=Tryz.underlying319
 a116:=Tryz.isAgg319
 z116:=Tryz.sizeOf319
 t117:=Tryz.underlying320
 a117:=Tryz.isAgg320
 z117:=Tryz.sizeOf320
 v117:=Tryz.zeroValue320
 t119:=Tryz.underlying355
 a119:=Tryz.isAgg355
 z119:=Tryz.sizeOf355
 t124:=Tryz.underlying323
 a124:=Tryz.isAgg323
 z124:=Tryz.sizeOf323
 v124:=Tryz.zeroValue323
 t138:=Tryz.underlying357
 a138:=Tryz.isAgg357
 z138:=Tryz.sizeOf357
 v138:=Tryz.zeroValue357
 t139:=Tryz.underlying358
 a139:=Tryz.isAgg358
 z139:=Tryz.sizeOf358
 v139:=Tryz.zeroValue358
 g3:=by kernel_rfl
 g4:=by kernel_rfl
end Go.Proofs.YtgfildcgihbdaaaGreatDoor.Lib2
namespace Go.Hw
open Go Go.Proofs Go.Proofs.YtgfildcgihbdaaaGreatDoor.Lib2 Go.RowKit Go.Shelf
theorem vZi (s:ByteArray)(c:UInt8)(hc:c.toNat<128)(hs:s.size≤9223372036854775807)(H:Hp):
  Za Tryz.prog 194 #[.string s,.string ⟨#[c]⟩] H (RetE (.string ⟨(Lib.trimB s.data.toList c).toArray⟩) H):=fun w hw=>by
 refine(Any.strings_Trim_one xZD s c hc w hs).mono ?_;rintro e w' ⟨rfl,h⟩;refine⟨_,H,rfl,⟨rfl,rfl⟩,?_⟩;rcases h with rfl|rfl
 ·exact At.refl hw
 ·exact⟨hw,Nat.le_refl _,rfl,rfl,rfl,fun _ _ h=>⟨h,rfl⟩⟩
theorem rZU (p:UInt8→Bool):∀ l:List UInt8,l.dropWhile p=[]↔∀ x∈l,p x=true
 | []=>by simp
 |z::l=>by
  rw[List.dropWhile_cons];by_cases hz:p z=true
  ·rw[if_pos hz,rZU p l];constructor
   ·intro h x hx;rcases List.mem_cons.1 hx with rfl|hx
    ·exact hz
    ·exact h x hx
   ·intro h x hx;exact h x (List.mem_cons_of_mem _ hx)
  ·rw[if_neg hz];constructor
   ·intro h;cases h
   ·intro h;exact absurd (h z (by simp)) hz
theorem rZT (p:UInt8→Bool):∀ l:List UInt8,(∀ x∈l.dropWhile p,p x=true)→∀ x∈l,p x=true
 | [],_=>by simp
 |z::l,h=>by
  rw[List.dropWhile_cons]at h;by_cases hz:p z=true
  ·rw[if_pos hz]at h;intro x hx;rcases List.mem_cons.1 hx with rfl|hx
   ·exact hz
   ·exact rZT p l h x hx
  ·rw[if_neg hz]at h;exact absurd (h z (by simp)) hz
theorem nZh (l:List UInt8)(c:UInt8):Lib.trimB l c=[]↔∀ x∈l,x=c:=by
 unfold Lib.trimB Lib.trimLeftB Lib.trimRightB;rw[rZU];constructor
 ·intro h x hx;have:=rZT (· ==c) l.reverse (fun y hy=>h y (by simpa using hy)) x (by simpa using hx);simpa using this
 ·intro h x hx;have:=(List.dropWhile_sublist (· ==c)).subset (List.mem_reverse.1 hx);simpa using h x (List.mem_reverse.1 this)
end Go.Hw
namespace Go.Proofs.YtgfildcgihbdaaaGreatDoor.Rec
open Go Go.Hw Go.Form Go.Crc W
def iZe (a b c:Nat):R:=⟨a%281474976710656,((b%256:Nat):Int),((b/65536%256:Nat):Int),((b/256%256:Nat):Int),((b/16777216%256:Nat):Int),b/4294967296,c/4294967296,c%4294967296⟩
theorem wZW {x:Nat}(hx:x<2^64):aZr .u64 (x:Int) 281474976710655=((x%281474976710656:Nat):Int):=by
 rw[show(281474976710655:Int)=((281474976710655:Nat):Int)from rfl,mZd hx (by omega),show 281474976710655=2^48-1 from rfl,Nat.and_two_pow_sub_one_eq_mod]
theorem nZK {x:Nat}(hx:x<2^64):aZr .u64 (x:Int) 255=((x%256:Nat):Int):=by
 rw[show(255:Int)=((255:Nat):Int)from rfl,mZd hx (by omega),show 255=2^8-1 from rfl,Nat.and_two_pow_sub_one_eq_mod]
theorem xZP (x:Nat):u32.wrap (x:Int)=((x%4294967296:Nat):Int):=by
 simp only[IntKind.wrap,IntKind.bits,IntKind.signed,Bool.false_and,Bool.false_eq_true,if_false];omega
theorem nZM (A:OA)(n m a b c:Nat)(ws:List Nat)(hn:n=(a::b::c::ws).length)(ha:a<2^64)(hb:b<2^64)(hc:c<2^64)(H:Hp)(hl:Cells H A (Gen.eZy (a::b::c::ws))):
  Za Tryz.prog 178 #[.slice A n m] H (RetE (.agg (iZe a b c).c) H):=Za.ret (by
 apply gZO.ok;unfold gZO;have hlen:(Gen.eZy (a::b::c::ws)).length≤n:=by rw[Gen.gZW,hn];exact Nat.le_refl _
 refine(Sep.start H).nw fun b1 H1 hs=>?_
 have hl1:=hl.le (hs.ow 0 rfl);have r0:(Gen.eZy (a::b::c::ws))[0]? =some (.int .u64 (a:Int)):=rfl;have r1:(Gen.eZy (a::b::c::ws))[1]? =some (.int .u64 (b:Int)):=rfl;have r2:(Gen.eZy (a::b::c::ws))[2]? =some (.int .u64 (c:Int)):=rfl;refine hl1.read r0 rfl hlen ?_;simp only[HV];refine hl1.read r1 rfl hlen ?_;simp only[HV];refine hl1.read r1 rfl hlen ?_;simp only[HV];refine⟨by decide,?_⟩;refine hl1.read r1 rfl hlen ?_;simp only[HV];refine⟨by decide,?_⟩;refine hl1.read r1 rfl hlen ?_;simp only[HV];refine⟨by decide,?_⟩;refine hl1.read r1 rfl hlen ?_;simp only[HV];refine⟨by decide,?_⟩;refine hl1.read r2 rfl hlen ?_;simp only[HV];refine⟨by decide,?_⟩;refine hl1.read r2 rfl hlen ?_;simp only[HV];have s8:aZq .u64 (b:Int) 8=((b/256:Nat):Int):=hZU (k:=.u64) (a:=b) (i:=8) (n:=8) rfl (by decide);have s16:aZq .u64 (b:Int) 16=((b/65536:Nat):Int):=hZU (k:=.u64) (a:=b) (i:=16) (n:=16) rfl (by decide);have s24:aZq .u64 (b:Int) 24=((b/16777216:Nat):Int):=hZU (k:=.u64) (a:=b) (i:=24) (n:=24) rfl (by decide);have s32:aZq .u64 (b:Int) 32=((b/4294967296:Nat):Int):=hZU (k:=.u64) (a:=b) (i:=32) (n:=32) rfl (by decide);have t32:aZq .u64 (c:Int) 32=((c/4294967296:Nat):Int):=hZU (k:=.u64) (a:=c) (i:=32) (n:=32) rfl (by decide);rw[s8,s16,s24,s32,t32,wZW ha,nZK hb,nZK (x:=b/65536) (by omega),nZK (x:=b/256) (by omega),nZK (x:=b/16777216) (by omega),aZJ (n:=b%256) (by omega),aZJ (n:=b/65536%256) (by omega),aZJ (n:=b/256%256) (by omega),aZJ (n:=b/16777216%256) (by omega),
  oZ6 (n:=b/4294967296) (by omega),oZ6 (n:=c/4294967296) (by omega),xZP c]
 refine hs.stw 1 rfl rfl rfl rfl fun H1 hs=>?_
 refine hs.ldw 1 rfl rfl ?_;exact hs.fin 0 rfl _)
def wds (bs:List UInt8)(n:Nat):List Nat:=(List.range n).map fun i=>Zs bs (8*i)
theorem uZB (bs:List UInt8)(n:Nat):wds bs (n+1)=wds bs n++[Zs bs (8*n)]:=by
 unfold wds;rw[List.range_succ,List.map_append];rfl
def gZh (bs:List UInt8):Bool:=decide (∀ x∈bs.drop 32,x=0)
theorem oZc (K:VK){A:OA}{n m:Nat}{bs:List UInt8}{R:As}(hR:∀ H,R H→Cells H A (Zm bs))(hn:n=bs.length)(hnm:n≤m)(h32:32≤n)(hbig:n≤1000000)
  (hK:∀ A' m' H,4≤m'→Sep [R,Own 82 1 A' 4 m' (Gen.eZy (wds bs 4))] H→K (.tuple #[.slice A' 4 m',.bool (gZh bs)]) H):
  ∀(t i:Nat) (A':OA) (m':Nat) (H:Hp),i+t=4→i≤m'→Sep [R,Own 82 1 A' i m' (Gen.eZy (wds bs i))] H→aZP.l2 K (t+1) A n m A' i m' (i:Int) H
 |0,i,A',m',H,hi,hm',hs=>by
  obtain rfl:i=4:=by omega
  have hc:Cells H A (Zm bs):=by
   obtain⟨H1,h1,hle⟩:=hs.see 0 rfl;exact(hR H1 h1).le hle
  unfold aZP.l2;refine Zh (by decide) ?_;refine hZV (l:=32) rfl h32 ?_;have h1:Cells H (slA A m 32 1) (Zm (bs.drop 32)):=by
   have:=hc.shift (m:=m) (l:=32) (by rw[ZL];omega);rw[show(Zm bs).drop 32=Zm (bs.drop 32) by unfold Zm;rw[List.map_drop]]at this;exact this
  refine rZr h1 (by rw[List.length_drop];omega) ?_;refine Za.use (vZi ⟨(bs.drop 32).toArray⟩ 0 (by decide) (by show(bs.drop 32).toArray.size≤_;simp;omega) H) ?_;simp only[HV];have he:((⟨(Go.Lib.trimB (bs.drop 32) 0).toArray⟩:ByteArray).toList==(⟨#[]⟩:ByteArray).toList)=gZh bs:=by
   rw[ByteArray.toList_mk,show(⟨#[]⟩:ByteArray).toList=[]from ByteArray.toList_mk []];unfold gZh;by_cases h:Go.Lib.trimB (bs.drop 32) 0=[]
   ·rw[h,decide_eq_true ((nZh _ _).1 h)];rfl
   ·rw[decide_eq_false (fun g=>h ((nZh _ _).2 g)),beq_eq_false_iff_ne.2 h]
  rw[he];exact hK A' m' H hm' hs
 |t+1,i,A',m',H,hi,hm',hs=>by
  have hc:Cells H A (Zm bs):=by
   obtain⟨H1,h1,hle⟩:=hs.see 0 rfl;exact(hR H1 h1).le hle
  unfold aZP.l2;refine Zn (by omega) ?_;refine Za.use (FormP.Word_ok A n m hnm (by omega) bs hn i (by omega) H hc) ?_;simp only[HV];refine rZC ?_;refine hs.app1 1 rfl Gen.bZ7 (by omega) rfl (by omega) (by omega) fun A2 m2 H hs hcap=>?_
  simp only[HV];rw[ZG (x:=(i:Int)+1) (by omega) (by omega),show(i:Int)+1=((i+1:Nat):Int) by omega];refine oZc K hR hn hnm h32 hbig hK t (i+1) A2 m2 H (by omega) (hcap _ _ _ rfl) ?_;rw[uZB,show Gen.eZy (wds bs i++[Zs bs (8*i)])=Gen.eZy (wds bs i)++[.int .u64 ((Zs bs (8*i):Nat):Int)] by unfold Gen.eZy;rw[List.map_append];rfl];exact hs
theorem wZH {A:OA}{n m:Nat}{bs:List UInt8}{R:As}(hR:∀ H,R H→Cells H A (Zm bs))(hn:n=bs.length)(hnm:n≤m)(h32:32≤n)(hbig:n≤1000000):
  Tr Tryz.prog 177 #[.slice A n m] [R] fun v M=>∃ A' m',4≤m'∧v= .tuple #[.slice A' 4 m',.bool (gZh bs)]∧M=[R,Own 82 1 A' 4 m' (Gen.eZy (wds bs 4))]:=fun H hs=>by
 apply aZP.ok;unfold aZP;have e0:Sep [R,Own 82 1 none 0 0 (Gen.eZy (wds bs 0))] H:=by
  have:Sep (Own 82 1 none 0 0 []::[R]) H:=⟨fun _=>none,H,fun _ _ h=>(nomatch h),Hp.le_refl _,fun _=>.inl rfl,Own.none _ _ _,hs⟩;exact this.re [1,0] rfl
 refine⟨5,?_⟩;refine oZc _ hR hn hnm h32 hbig (fun A' m' H hm' hs=>?_) 4 0 none 0 H rfl (Nat.le_refl _) e0;exact⟨_,⟨A',m',hm',rfl,rfl⟩,hs⟩
end Go.Proofs.YtgfildcgihbdaaaGreatDoor.Rec
namespace Go.Proofs.YtgfildcgihbdaaaGreatDoor.Rec
open Go Go.Hw Go.Form Go.Crc W
def secB (n:Int):Bool:=decide ((Lay.gZE 0 n).2=0)
theorem iZg (x:Int)(H:Hp):Za Tryz.prog 152 #[.int .i64 x] H (RetE (.bool (secB x)) H):=by
 apply cZO.ok;unfold cZO;refine Za.use (Lay.jZ0 0 x H) ?_;simp only[HV];refine⟨?_,rfl⟩;unfold secB;by_cases h:(Lay.gZE 0 x).2=0
 ·rw[decide_eq_true h,h];rfl
 ·rw[decide_eq_false h,beq_eq_false_iff_ne.2 h]
def bZh :R:=⟨0,0,0,0,0,0,0,0⟩
def w3U (bs:List UInt8):List UInt64:=[UInt64.ofNat (Zs bs 0),UInt64.ofNat (Zs bs 8),UInt64.ofNat (Zs bs 16)]
def aZ2 (bs:List UInt8):R×Int:=
 if secB (bs.length:Int)=true then
  if Zs bs 0/281474976710656=21061∧gZh bs=true then
   if Zs bs 24=bZg 0 (gZX (w3U bs))then
    if(iZe (Zs bs 0) (Zs bs 8) (Zs bs 16)).good then(iZe (Zs bs 0) (Zs bs 8) (Zs bs 16),0)else(bZh,1)
   else(bZh,9)
  else(bZh,10)
 else(bZh,15)
theorem cZT (bs:List UInt8)(o:Nat):Zs bs o<2^64:=pZT (by simp;omega)
set_option maxHeartbeats 1000000 in
theorem iZu (A:OA)(n m:Nat)(bs:List UInt8)(hn:n=bs.length)(hnm:n≤m)(hbig:n≤1000000)(h32:secB (n:Int)=true→32≤n)(H:Hp)(hc:Cells H A (Zm bs)):
  Za Tryz.prog 138 #[.slice A n m] H (RetE (.tuple #[.agg (aZ2 bs).1.c,.int .i64 (aZ2 bs).2]) H):=Za.ret (by
 apply cZp.ok;unfold cZp cZp.q1 aZ2;rw[← hn];refine(Sep.start H).nw fun b1 H1 hs=>?_
 have hs:Sep [own H,pts b1 (bZD bZh)] H1:=hs;refine Za.use (iZg n H1) ?_;simp only[HV];by_cases hsec:secB (n:Int)=true
 case neg=>
  rw[if_neg hsec,show secB (n:Int)=false by simpa using hsec];refine aZx rfl ?_;refine hs.stw 1 rfl rfl rfl rfl fun H1 hs=>?_
  refine hs.ldw 1 rfl rfl ?_;exact hs.fin 0 rfl _
 rw[if_pos hsec,hsec];refine aZc rfl ?_;refine(wZH (R:=own H) (fun H' h=>hc.le h) hn hnm (h32 hsec) hbig).use hs [0] rfl rfl ?_;rintro _ _ H1 ⟨A',m',hm',rfl,rfl⟩ hs;simp only[HV];have hA:Cells H1 A' (Gen.eZy (wds bs 4)):=by
  obtain⟨hl,h⟩:=hs.own 1 rfl;rcases h with⟨_,h0,_⟩|⟨b,mm,rfl,hb,_⟩
  ·omega
  ·have:=Cells.row hb 0 4;exact this
 have hw:wds bs 4=[Zs bs 0,Zs bs 8,Zs bs 16,Zs bs 24]:=rfl;rw[hw]at hA hs;refine Za.use (nZM A' 4 m' (Zs bs 0) (Zs bs 8) (Zs bs 16) [Zs bs 24] rfl (cZT _ _) (cZT _ _) (cZT _ _) H1 hA) ?_;simp only[HV];refine hs.nw fun b2 H1 hs=>?_
 refine hs.stw 3 rfl rfl rfl rfl fun H1 hs=>?_
 have hs:Sep [own H,Own 82 1 A' 4 m' (Gen.eZy [Zs bs 0,Zs bs 8,Zs bs 16,Zs bs 24]),pts b1 (bZD bZh),pts b2 (bZD (iZe (Zs bs 0) (Zs bs 8) (Zs bs 16)))] H1:=hs;have hA:Cells H1 A' (Gen.eZy [Zs bs 0,Zs bs 8,Zs bs 16,Zs bs 24]):=by
  obtain⟨hl,h⟩:=hs.own 1 rfl;rcases h with⟨_,h0,_⟩|⟨b,mm,rfl,hb,_⟩
  ·omega
  ·have:=Cells.row hb 0 4;exact this
 refine hA.read (i:=0) rfl rfl (by rw[Gen.gZW];exact Nat.le_refl _) ?_;simp only[HV];refine⟨by decide,?_⟩;have s48:aZq .u64 ((Zs bs 0:Nat):Int) 48=((Zs bs 0/281474976710656:Nat):Int):=hZU (k:=.u64) (a:=Zs bs 0) (i:=48) (n:=48) rfl (by decide);rw[s48];by_cases hmg:Zs bs 0/281474976710656=21061
 case neg=>
  rw[if_neg (fun h=>hmg h.1)];refine ZA (by omega) ?_;refine hs.stw 2 rfl rfl rfl rfl fun H1 hs=>?_
  refine hs.ldw 2 rfl rfl ?_;exact hs.fin 0 rfl _
 refine Zq (by omega) ?_;by_cases hno:gZh bs=true
 case neg=>
  rw[if_neg (fun h=>hno h.2),show gZh bs=false by simpa using hno];refine aZx rfl ?_;refine hs.stw 2 rfl rfl rfl rfl fun H1 hs=>?_
  refine hs.ldw 2 rfl rfl ?_;exact hs.fin 0 rfl _
 rw[if_pos ⟨hmg,hno⟩,hno];refine aZc rfl ?_;refine hA.read (i:=3) rfl rfl (by rw[Gen.gZW];exact Nat.le_refl _) ?_;simp only[HV];refine lZX (r:=3) rfl (by omega) ?_;have hU:Cells H1 (slA A' m' 0 1) (Zc (w3U bs)):=by
  have:=(hA.shift (m:=m') (l:=0) (by rw[Gen.gZW];exact hm')).take 3;have e:Zc (w3U bs)=((Gen.eZy [Zs bs 0,Zs bs 8,Zs bs 16,Zs bs 24]).drop 0).take 3:=by
   show [Value.int .u64 ((UInt64.ofNat (Zs bs 0)).toNat:Int),Value.int .u64 ((UInt64.ofNat (Zs bs 8)).toNat:Int),Value.int .u64 ((UInt64.ofNat (Zs bs 16)).toNat:Int)]=_
   rw[UInt64.toNat_ofNat_of_lt' (cZT bs 0),UInt64.toNat_ofNat_of_lt' (cZT bs 8),UInt64.toNat_ofNat_of_lt' (cZT bs 16)];rfl
  rw[e];exact this
 refine ZQ.use (qZb (slA A' m' 0 1) 3 (m'-0) (w3U bs) rfl (by omega) H1 hU) ?_;simp only[HV];by_cases hsl:Zs bs 24=bZg 0 (gZX (w3U bs))
 case neg=>
  rw[if_neg hsl];refine ZA (by omega) ?_;refine hs.stw 2 rfl rfl rfl rfl fun H1 hs=>?_
  refine hs.ldw 2 rfl rfl ?_;exact hs.fin 0 rfl _
 rw[if_pos hsl];refine Zq (by omega) ?_;refine hs.ldw 3 rfl rfl ?_;refine Za.use (bZR (iZe (Zs bs 0) (Zs bs 8) (Zs bs 16)) H1) ?_;simp only[HV];by_cases hg:(iZe (Zs bs 0) (Zs bs 8) (Zs bs 16)).good
 ·rw[if_pos hg,decide_eq_true hg];refine aZc rfl ?_;refine hs.ldw 3 rfl rfl ?_;refine hs.stw 2 rfl rfl rfl rfl fun H1 hs=>?_
  refine hs.ldw 2 rfl rfl ?_;exact hs.fin 0 rfl _
 ·rw[if_neg hg,decide_eq_false hg];refine aZx rfl ?_;refine hs.stw 2 rfl rfl rfl rfl fun H1 hs=>?_
  refine hs.ldw 2 rfl rfl ?_;exact hs.fin 0 rfl _)
end Go.Proofs.YtgfildcgihbdaaaGreatDoor.Rec
namespace Go.Proofs.YtgfildcgihbdaaaGreatDoor.W
open Go Go.Hw
theorem cZq :Tryz.prog.follows .mixedOrders=true:=by kernel_rfl
def fZx (p1:OA)(x1 x2 x3 x4:Int)(H:Hp)(K:VK):Prop:=
 Nw H (.obj (.cells #[.int .i64 x1,.int .i64 x2,.int .i64 x3,.int .i64 x4] 27)) fun b1 H1=>LdA H1 ⟨b1,0,none⟩ 4 fun l1=>Hz 77 #[.agg l1.toArray] H1 fun v1 H2=>dZ7 v1 fun A1 n1 m1 x5=>(BIf (x5 !=0) (K (.int .i64 1) H2) (LdA H2 ⟨b1,0,none⟩ 4 fun l5=>HcB 78 #[.pointer p1,.agg l5.toArray] H2 fun c1 H3=>BIf (!c1) (K (.int .i64 1) H3) (HcI 45 #[.pointer p1,.int .i64 0,.slice A1 n1 m1] H3 fun x6 H4=>BIf (x6 !=0) (K (.int .i64 x6) H4) (HcI 47 #[.pointer p1] H4 fun x7 H5=>K (.int .i64 x7) H5))))
theorem fZx.ok p1 x1 x2 x3 x4 H K (h:fZx p1 x1 x2 x3 x4 H K):Za Tryz.prog 50 #[.pointer p1,.agg #[.int .i64 x1,.int .i64 x2,.int .i64 x3,.int .i64 x4]] H K:=
 okN cZq Tryz.func50 rfl rfl h
def dZX (p1:OA)(H:Hp)(K:VK):Prop:=
 Nw H (.obj (.cells #[.int .i64 0,.int .i64 0,.int .i64 0,.int .i64 0] 27)) fun b1 H1=>Hz 91 #[.pointer p1,.int .i64 0] H1 fun v1 H2=>dZ7 v1 fun A1 n1 m1 x1=>(BIf (x1 !=0) (StA H2 ⟨b1,0,none⟩ #[.int .i64 0,.int .i64 0,.int .i64 0,.int .i64 0] 4 fun H3=>LdA H3 ⟨b1,0,none⟩ 4 fun l9=>K (.tuple #[.agg l9.toArray,.int .i64 x1]) H3) (Hz 92 #[.slice A1 n1 m1] H2 fun v4 H4=>cZ9 v4 fun y1 x2=>(Nw H4 (.obj (.cells #[.int .i64 0,.int .i64 0,.int .i64 0,.int .i64 0] 27)) fun b2 H5=>StA H5 ⟨b2,0,none⟩ y1 4 fun H6=>BIf (x2 !=0) (StA H6 ⟨b1,0,none⟩ #[.int .i64 0,.int .i64 0,.int .i64 0,.int .i64 0] 4 fun H7=>LdA H7 ⟨b1,0,none⟩ 4 fun l10=>K (.tuple #[.agg l10.toArray,.int .i64 x2]) H7) (LdA H6 ⟨b2,0,none⟩ 4 fun l7=>HcB 78 #[.pointer p1,.agg l7.toArray] H6 fun c1 H8=>BIf (!c1) (StA H8 ⟨b1,0,none⟩ #[.int .i64 0,.int .i64 0,.int .i64 0,.int .i64 0] 4 fun H9=>LdA H9 ⟨b1,0,none⟩ 4 fun l11=>K (.tuple #[.agg l11.toArray,.int .i64 1]) H9) (LdA H8 ⟨b2,0,none⟩ 4 fun l8=>StA H8 ⟨b1,0,none⟩ l8.toArray 4 fun H10=>LdA H10 ⟨b1,0,none⟩ 4 fun l12=>K (.tuple #[.agg l12.toArray,.int .i64 0]) H10)))))
theorem dZX.ok p1 H K (h:dZX p1 H K):Za Tryz.prog 64 #[.pointer p1] H K:=
 okN cZq Tryz.func64 rfl rfl h
def eZV (x1 x2 x3 x4:Int)(H:Hp)(K:VK):Prop:=
 Nw H (.obj (.cells #[.int .i64 x1,.int .i64 x2,.int .i64 x3,.int .i64 x4] 27)) fun b1 H1=>Nw H1 (.obj (.cells #[.int .i64 0,.int .i64 0,.int .i64 0,.int .i64 0,.int .i64 0,.int .i64 0,.int .i64 0,.int .i64 0,.int .i64 0,.int .i64 0,.int .i64 0,.int .i64 0,.int .i64 0,.int .i64 0,.int .i64 0,.int .i64 0,.int .i64 0] 90)) fun b2 H2=>LdA H2 ⟨b1,0,none⟩ 4 fun l1=>HcB 96 #[.agg l1.toArray] H2 fun c1 H3=>BIf (!c1) (StA H3 ⟨b2,0,none⟩ #[.int .i64 0,.int .i64 0,.int .i64 0,.int .i64 0,.int .i64 0,.int .i64 0,.int .i64 0,.int .i64 0,.int .i64 0,.int .i64 0,.int .i64 0,.int .i64 0,.int .i64 0,.int .i64 0,.int .i64 0,.int .i64 0,.int .i64 0] 17 fun H4=>LdA H4 ⟨b2,0,none⟩ 17 fun l5=>K (.tuple #[.agg l5.toArray,.int .i64 1]) H4) (LeI H3 ((⟨b1,0,none⟩:Addr).add 0) fun x5=>LeI H3 ((⟨b1,0,none⟩:Addr).add 1) fun x6=>LeI H3 ((⟨b1,0,none⟩:Addr).add 2) fun x7=>Hz 70 #[.int .i64 x5,.int .i64 x6,.int .i64 x7] H3 fun v5 H5=>cZ9 v5 fun y1 x8=>(StA H5 ⟨b2,0,none⟩ y1 17 fun H6=>LdA H6 ⟨b2,0,none⟩ 17 fun l6=>K (.tuple #[.agg l6.toArray,.int .i64 x8]) H6))
theorem eZV.ok x1 x2 x3 x4 H K (h:eZV x1 x2 x3 x4 H K):Za Tryz.prog 69 #[.agg #[.int .i64 x1,.int .i64 x2,.int .i64 x3,.int .i64 x4]] H K:=
 okN cZq Tryz.func69 rfl rfl h
def eZt (x1 x2 x3 x4:Int)(H:Hp)(K:VK):Prop:=
 Nw H (.obj (.cells #[.int .i64 x1,.int .i64 x2,.int .i64 x3,.int .i64 x4] 27)) fun b1 H1=>LdA H1 ⟨b1,0,none⟩ 4 fun l1=>HcB 96 #[.agg l1.toArray] H1 fun c1 H2=>BIf (!c1) (K (.tuple #[.slice none 0 0,.int .i64 1]) H2) (LdA H2 ⟨b1,0,none⟩ 4 fun l2=>QcW 102 #[.agg l2.toArray] H2 fun x5=>LeI H2 ((⟨b1,0,none⟩:Addr).add 1) fun x6=>LeI H2 ((⟨b1,0,none⟩:Addr).add 3) fun x7=>Nw H2 (.row [.int .u64 x5,.int .u64 (u64.wrap x6),.int .u64 (u64.wrap x7)] 82 3) fun b2 H3=>LeI H3 ((⟨b1,0,none⟩:Addr).add 2) fun x8=>MkS Tryz.prog 5 x8 x8 H3 fun v6 H4=>DSl v6 fun A1 n1 m1=>HcU 104 #[.slice (some ⟨b2,0,none⟩) 3 3] H4 fun x9 H5=>Nw H5 (.row [.int .u64 (u64.wrap x9)] 82 1) fun b3 H6=>cZ8 Tryz.prog 82 (.slice (some ⟨b2,0,none⟩) 3 3) (.slice (some ⟨b3,0,none⟩) 1 1) H6 fun v8 H7=>DSl v8 fun A2 n2 m2=>HcS 103 #[.slice A2 n2 m2] H7 fun A3 n3 m3 H8=>CpK Tryz.prog 5 (.slice A1 n1 m1) (.slice A3 n3 m3) H8 fun v10 H9=>DI .i64 v10 fun x10=>K (.tuple #[.slice A1 n1 m1,.int .i64 0]) H9)
theorem eZt.ok x1 x2 x3 x4 H K (h:eZt x1 x2 x3 x4 H K):Za Tryz.prog 77 #[.agg #[.int .i64 x1,.int .i64 x2,.int .i64 x3,.int .i64 x4]] H K:=
 ok0 (fun i=>match Nat.beq i 3 with|true=>some ([],[0,1,2,3,4,5,6,7],8)|false=>none) cZq Tryz.func77 rfl rfl h
def hZm (p1:OA)(x1 x2 x3 x4:Int)(H:Hp)(K:VK):Prop:=
 Nw H (.obj (.cells #[.int .i64 x1,.int .i64 x2,.int .i64 x3,.int .i64 x4] 27)) fun b1 H1=>LeI H1 ((⟨b1,0,none⟩:Addr).add 1) fun x5=>NN p1 fun a1=>QcI 41 #[.pointer (some (a1.add 0))] H1 fun x6=>BIf (x5==x6) (LeI H1 ((⟨b1,0,none⟩:Addr).add 2) fun x7=>NN p1 fun a2=>QcI 42 #[.pointer (some (a2.add 0))] H1 fun x8=>K (.bool (x7==x8)) H1) (K (.bool false) H1)
theorem hZm.ok p1 x1 x2 x3 x4 H K (h:hZm p1 x1 x2 x3 x4 H K):Za Tryz.prog 78 #[.pointer p1,.agg #[.int .i64 x1,.int .i64 x2,.int .i64 x3,.int .i64 x4]] H K:=
 okN cZq Tryz.func78 rfl rfl h
def aZm.l5.q1 (H9:Hp)(a1:Addr)(K:VK):Prop:=
 StA H9 a1 #[.int .i64 0,.int .i64 0,.int .i64 0,.int .i64 0] 4 fun H13=>LdA H13 a1 4 fun l11=>K (.tuple #[.agg l11.toArray,.int .i64 1]) H13
def aZm.l5 (K:VK):Nat→OA→Nat→Nat→Addr→Addr→Int→Hp→Prop
 |0,_,_,_,_,_,_,_=>False
 |k+1,A2,n2,m2,a1,a2,x1,H=>
  let R5:=aZm.l5 K k
  BIf (decide (x1<4)) (Hz 136 #[.slice A2 n2 m2,.int .i64 x1] H fun v2 H5=>gZ7 v2 fun x2 x3=>(ixI x1 4 (St H5 ((a2.add (x1.toNat*1)).add 0) (.int .u64 x2) fun H6=>R5 A2 n2 m2 a1 a2 (i64.wrap (x1+1)) H6))) (ixI 0 4 (LeW H (a2.add ((0:Int).toNat*1)) fun x4=>(0≤(16:Int)∧ixI 0 4 (LeW H (a2.add ((0:Int).toNat*1)) fun x5=>(0≤(aZr .u64 x5 63)∧ixI 1 4 (LeW H (a2.add ((1:Int).toNat*1)) fun x6=>ixI 2 4 (LeW H (a2.add ((2:Int).toNat*1)) fun x7=>Nw H (.obj (.cells #[.int .i64 0,.int .i64 0,.int .i64 0,.int .i64 0] 27)) fun b3 H7=>StA H7 ⟨b3,0,none⟩ #[.int .i64 (i64.wrap (aZr .u64 (aZq .u64 x4 16) 65535)),.int .i64 (i64.wrap x6),.int .i64 (aZE .i64 1 (aZr .u64 x5 63)),.int .i64 (i64.wrap x7)] 4 fun H8=>ixI 0 4 (LeW H8 (a2.add ((0:Int).toNat*1)) fun x8=>(0≤(32:Int)∧BIf ((aZq .u64 x8 32) !=1094861123) (StA H8 a1 #[.int .i64 0,.int .i64 0,.int .i64 0,.int .i64 0] 4 fun H10=>LdA H10 a1 4 fun l8=>K (.tuple #[.agg l8.toArray,.int .i64 10]) H10) (HcB 137 #[.slice A2 n2 m2] H8 fun c2 H9=>BIf (!c2) (StA H9 a1 #[.int .i64 0,.int .i64 0,.int .i64 0,.int .i64 0] 4 fun H11=>LdA H11 a1 4 fun l9=>K (.tuple #[.agg l9.toArray,.int .i64 10]) H11) (ixI 3 4 (LeW H9 (a2.add ((3:Int).toNat*1)) fun x9=>slB 4 4 none (some 3) fun n3 n4=>QcU 104 #[.slice (slA (some a2) 4 n3 1) (n4-n3) (4-n3)] H9 fun x10=>BIf (x9 !=(u64.wrap x10)) (StA H9 a1 #[.int .i64 0,.int .i64 0,.int .i64 0,.int .i64 0] 4 fun H12=>LdA H12 a1 4 fun l10=>K (.tuple #[.agg l10.toArray,.int .i64 9]) H12) (LdA H9 ⟨b3,0,none⟩ 4 fun l4=>QcB 96 #[.agg l4.toArray] H9 fun c3=>BIf (!c3) (aZm.l5.q1 H9 a1 K) (LdA H9 ⟨b3,0,none⟩ 4 fun l5=>QcW 102 #[.agg l5.toArray] H9 fun x11=>ixI 0 4 (LeW H9 (a2.add ((0:Int).toNat*1)) fun x12=>BIf (x11 !=x12) (aZm.l5.q1 H9 a1 K) (LeI H9 ((⟨b3,0,none⟩:Addr).add 2) fun x13=>BIf (x13 !=(n2:Int)) (aZm.l5.q1 H9 a1 K) (LdA H9 ⟨b3,0,none⟩ 4 fun l6=>StA H9 a1 l6.toArray 4 fun H16=>LdA H16 a1 4 fun l14=>K (.tuple #[.agg l14.toArray,.int .i64 0]) H16)))))))))))))))))
def aZm (A1:OA)(n1 m1:Nat)(H:Hp)(K:VK):Prop:=
 Nw H (.obj (.cells #[.int .i64 0,.int .i64 0,.int .i64 0,.int .i64 0] 27)) fun b1 H1=>HcB 135 #[.slice A1 n1 m1] H1 fun c1 H2=>BIf (!c1) (StA H2 ⟨b1,0,none⟩ #[.int .i64 0,.int .i64 0,.int .i64 0,.int .i64 0] 4 fun H3=>LdA H3 ⟨b1,0,none⟩ 4 fun l7=>K (.tuple #[.agg l7.toArray,.int .i64 15]) H3) (Nw H2 (.obj (.cells #[.int .u64 0,.int .u64 0,.int .u64 0,.int .u64 0] 223)) fun b2 H4=>(∃ k,aZm.l5 K k A1 n1 m1 ⟨b1,0,none⟩ ⟨b2,0,none⟩ 0 H4))
def aZm.l5.L (K:VK)(k:Nat):Mid:=fun E D H=>
 DG (E.get? 0) fun w0=>DSl w0 fun A2 n2 m2=>eN E 2 fun a1=>eN E 4 fun a2=>eI E 13 .i64 fun x1=>Zk D (aZm.l5 K k A2 n2 m2 a1 a2 x1 H)
def aZm.Λ5 (_:VK)(_R5:OA→Nat→Nat→Addr→Addr→Int→Hp→Prop):Zt:=Zt.none (fun _=>none)
def aZm.Λ (K:VK):Zt:=⟨fun i=>none,fun i=>match Nat.beq i 5 with|true=>some (fun E D H=>∃ k,aZm.l5.L K k E D H)|false=>none,(fun _=>none)⟩
theorem aZm.ok A1 n1 m1 H K (h:aZm A1 n1 m1 H K):Za Tryz.prog 92 #[.slice A1 n1 m1] H K:=
 okL (Λ:=(aZm.Λ K)) cZq Tryz.func92 rfl rfl h (oC (fun E D H h=>by
   refine Safe.loop' (aZm.l5.L K) (fun E D H h=>?_) (fun k E D H h=>?_) E D H h
   ·obtain⟨w0,e0,g1⟩:=DG.out h;obtain⟨A2,n2,m2,rfl,g2⟩:=DSl.out g1;obtain⟨w2,e2,g3⟩:=DG.out g2;obtain⟨pw2,rfl,g4⟩:=DP.out g3;obtain⟨a1,rfl,g5⟩:=NN.out g4;obtain⟨w4,e4,g6⟩:=DG.out g5;obtain⟨pw4,rfl,g7⟩:=DP.out g6;obtain⟨a2,rfl,g8⟩:=NN.out g7;obtain⟨w13,e13,g9⟩:=DG.out g8;obtain⟨x1,rfl,g10⟩:=DI.out g9;obtain⟨rfl,h'⟩:=Zk.out g10;exact h'
   ·obtain⟨w0,e0,g1⟩:=DG.out h;obtain⟨A2,n2,m2,rfl,g2⟩:=DSl.out g1;obtain⟨a1,e2,g5⟩:=GN g2;obtain⟨a2,e4,g8⟩:=GN g5;obtain⟨x1,e13,g10⟩:=GI g8;obtain⟨rfl,h'⟩:=Zk.out g10;exact okJ (Λ:=(aZm.Λ5 K (aZm.l5 K k))) cZq [] (Zb.cons e0 (Zb.cons e2 (Zb.cons e4 (Zb.cons e13 (Zb.nil _))))) h' oN) oN)
def fZ7 (x1 x2 x3 x4:Int)(H:Hp)(K:VK):Prop:=
 Nw H (.obj (.cells #[.int .i64 x1,.int .i64 x2,.int .i64 x3,.int .i64 x4] 27)) fun b1 H1=>LeI H1 ((⟨b1,0,none⟩:Addr).add 0) fun x5=>LeI H1 ((⟨b1,0,none⟩:Addr).add 1) fun x6=>LeI H1 ((⟨b1,0,none⟩:Addr).add 2) fun x7=>Hz 70 #[.int .i64 x5,.int .i64 x6,.int .i64 x7] H1 fun v4 H2=>cZ9 v4 fun y1 x8=>(Nw H2 (.obj (.cells #[.int .i64 0,.int .i64 0,.int .i64 0,.int .i64 0,.int .i64 0,.int .i64 0,.int .i64 0,.int .i64 0,.int .i64 0,.int .i64 0,.int .i64 0,.int .i64 0,.int .i64 0,.int .i64 0,.int .i64 0,.int .i64 0,.int .i64 0] 90)) fun b2 H3=>StA H3 ⟨b2,0,none⟩ y1 17 fun H4=>BIf (x8==0) (LeI H4 ((⟨b1,0,none⟩:Addr).add 3) fun x9=>BIf (decide (x9≥1)) (LeI H4 ((⟨b1,0,none⟩:Addr).add 3) fun x10=>K (.bool (decide (x10≤(16777216:Int)))) H4) (K (.bool false) H4)) (K (.bool false) H4))
theorem fZ7.ok x1 x2 x3 x4 H K (h:fZ7 x1 x2 x3 x4 H K):Za Tryz.prog 96 #[.agg #[.int .i64 x1,.int .i64 x2,.int .i64 x3,.int .i64 x4]] H K:=
 okN cZq Tryz.func96 rfl rfl h
def fZy (x1 x2 x3 x4:Int)(H:Hp)(K:VK):Prop:=
 Nw H (.obj (.cells #[.int .i64 x1,.int .i64 x2,.int .i64 x3,.int .i64 x4] 27)) fun b1 H1=>LeI H1 ((⟨b1,0,none⟩:Addr).add 0) fun x5=>(0≤(16:Int)∧LeI H1 ((⟨b1,0,none⟩:Addr).add 2) fun x6=>QcI 148 #[.int .u64 (u64.wrap x6)] H1 fun x7=>K (.int .u64 (bOr .u64 (bOr .u64 4702392716946833408 (aZE .u64 (u64.wrap x5) 16)) (u64.wrap (i64.wrap (x7-1))))) H1)
theorem fZy.ok x1 x2 x3 x4 H K (h:fZy x1 x2 x3 x4 H K):Za Tryz.prog 102 #[.agg #[.int .i64 x1,.int .i64 x2,.int .i64 x3,.int .i64 x4]] H K:=
 okN cZq Tryz.func102 rfl rfl h
def eZW (A1:OA)(n1 m1:Nat)(H:Hp)(K:VK):Prop:=
 Hz 97 #[.int .i64 0,.int .i64 (n1:Int)] H fun v1 H1=>jZm v1 fun x1 x2=>(K (.bool (x2==0)) H1)
theorem eZW.ok A1 n1 m1 H K (h:eZW A1 n1 m1 H K):Za Tryz.prog 135 #[.slice A1 n1 m1] H K:=
 okN cZq Tryz.func135 rfl rfl h
def aZA.l2 (K:VK):Nat→OA→Nat→Nat→Int→Int→Hp→Prop
 |0,_,_,_,_,_,_=>False
 |k+1,A2,n4,m2,x1,x2,H=>
  let R2:=aZA.l2 K k
  BIf (decide (x2<x1)) (ixI x2 n4 (NN A2 fun a1=>LeV H (a1.add (x2.toNat*1)) fun x3=>BIf (x3 !=0) (K (.bool false) H) (R2 A2 n4 m2 x1 (i64.wrap (x2+1)) H))) (K (.bool true) H)
def aZA (A1:OA)(n1 m1:Nat)(H:Hp)(K:VK):Prop:=
 slB n1 m1 (some 32) none fun n2 n3=>(∃ k,aZA.l2 K k (slA A1 m1 n2 1) (n3-n2) (m1-n2) ((n3-n2:Nat):Int) 0 H)
def aZA.l2.L (K:VK)(k:Nat):Mid:=fun E D H=>
 DG (E.get? 6) fun w6=>DSl w6 fun A2 n4 m2=>eI E 7 .i64 fun x1=>eI E 8 .i64 fun x2=>Zk D (aZA.l2 K k A2 n4 m2 x1 x2 H)
def aZA.Λ2 (_:VK)(_R2:OA→Nat→Nat→Int→Int→Hp→Prop):Zt:=Zt.none (fun _=>none)
def aZA.Λ (K:VK):Zt:=⟨fun i=>none,fun i=>match Nat.beq i 2 with|true=>some (fun E D H=>∃ k,aZA.l2.L K k E D H)|false=>none,(fun _=>none)⟩
theorem aZA.ok A1 n1 m1 H K (h:aZA A1 n1 m1 H K):Za Tryz.prog 137 #[.slice A1 n1 m1] H K:=
 okL (Λ:=(aZA.Λ K)) cZq Tryz.func137 rfl rfl h (oC (fun E D H h=>by
   refine Safe.loop' (aZA.l2.L K) (fun E D H h=>?_) (fun k E D H h=>?_) E D H h
   ·obtain⟨w6,e6,g1⟩:=DG.out h;obtain⟨A2,n4,m2,rfl,g2⟩:=DSl.out g1;obtain⟨w7,e7,g3⟩:=DG.out g2;obtain⟨x1,rfl,g4⟩:=DI.out g3;obtain⟨w8,e8,g5⟩:=DG.out g4;obtain⟨x2,rfl,g6⟩:=DI.out g5;obtain⟨rfl,h'⟩:=Zk.out g6;exact h'
   ·obtain⟨w6,e6,g1⟩:=DG.out h;obtain⟨A2,n4,m2,rfl,g2⟩:=DSl.out g1;obtain⟨x1,e7,g4⟩:=GI g2;obtain⟨x2,e8,g6⟩:=GI g4;obtain⟨rfl,h'⟩:=Zk.out g6;exact okJ (Λ:=(aZA.Λ2 K (aZA.l2 K k))) cZq [] (Zb.cons e6 (Zb.cons e7 (Zb.cons e8 (Zb.nil _)))) h' oN) oN)
end Go.Proofs.YtgfildcgihbdaaaGreatDoor.W
namespace Go.Proofs.YtgfildcgihbdaaaGreatDoor.W
open Go Go.Hw
theorem hZP :Tryz.prog.follows .mixedOrders=true:=by kernel_rfl
def aZd.l3 (K:VK):Nat→Int→Int→Int→Int→Hp→Prop
 |0,_,_,_,_,_=>False
 |k+1,x3,x4,x5,x6,H=>
  let R3:=aZd.l3 K k
  BIf (decide (x6<x3)) (R3 x3 x4 (i64.wrap (2*x5)) (i64.wrap (x6+1)) H) (((8:Int)≠0∧i64=i64∧BIf (decide (x5≤(i64.wrap (Int.tdiv x4 8)))) (K (.int .i64 13) H) (((i64.wrap (Int.tdiv x4 8))≠0∧i64=i64∧K (.int .i64 (i64.wrap (9+(i64.wrap (4*(i64.wrap (Int.tdiv x5 (i64.wrap (Int.tdiv x4 8))))))))) H))))
def aZd (x1 x2:Int)(H:Hp)(K:VK):Prop:=
 (∃ k,aZd.l3 K k x1 x2 1 0 H)
def aZd.l3.L (K:VK)(k:Nat):Mid:=fun E D H=>
 eI E 0 .i64 fun x3=>eI E 1 .i64 fun x4=>eI E 5 .i64 fun x5=>eI E 6 .i64 fun x6=>Zk D (aZd.l3 K k x3 x4 x5 x6 H)
def aZd.Λ3 (_:VK)(_R3:Int→Int→Int→Int→Hp→Prop):Zt:=Zt.none (fun _=>none)
def aZd.Λ (K:VK):Zt:=⟨fun i=>none,fun i=>match Nat.beq i 3 with|true=>some (fun E D H=>∃ k,aZd.l3.L K k E D H)|false=>none,(fun _=>none)⟩
theorem aZd.ok x1 x2 H K (h:aZd x1 x2 H K):Za Tryz.prog 8 #[.int .i64 x1,.int .i64 x2] H K:=
 okL (Λ:=(aZd.Λ K)) hZP Tryz.func8 rfl rfl h (oC (fun E D H h=>by
   refine Safe.loop' (aZd.l3.L K) (fun E D H h=>?_) (fun k E D H h=>?_) E D H h
   ·obtain⟨w0,e0,g1⟩:=DG.out h;obtain⟨x3,rfl,g2⟩:=DI.out g1;obtain⟨w1,e1,g3⟩:=DG.out g2;obtain⟨x4,rfl,g4⟩:=DI.out g3;obtain⟨w5,e5,g5⟩:=DG.out g4;obtain⟨x5,rfl,g6⟩:=DI.out g5;obtain⟨w6,e6,g7⟩:=DG.out g6;obtain⟨x6,rfl,g8⟩:=DI.out g7;obtain⟨rfl,h'⟩:=Zk.out g8;exact h'
   ·obtain⟨x3,e0,g2⟩:=GI h;obtain⟨x4,e1,g4⟩:=GI g2;obtain⟨x5,e5,g6⟩:=GI g4;obtain⟨x6,e6,g8⟩:=GI g6;obtain⟨rfl,h'⟩:=Zk.out g8;exact okJ (Λ:=(aZd.Λ3 K (aZd.l3 K k))) hZP [] (Zb.cons e0 (Zb.cons e1 (Zb.cons e5 (Zb.cons e6 (Zb.nil _))))) h' oN) oN)
end Go.Proofs.YtgfildcgihbdaaaGreatDoor.W
namespace Go.Proofs.YtgfildcgihbdaaaGreatDoor.Sup
open Go Go.Hw Go.Form W Lay
def bZo (k sec s ar:Int):Array Value:=#[.int .i64 k,.int .i64 sec,.int .i64 s,.int .i64 ar]
def aZ3 (k sec s ar:Int):Bool:=decide (0≤k∧k≤32∧0<ZD s∧(bZs k.toNat (ZD s):Int)≤sec∧1≤ar∧ar≤16777216)
theorem kZE (k sec s:Int):(OfV k sec s).1.size=17:=by
 unfold OfV;split
 ·split<;>rfl
 ·rfl
theorem pZE (k sec s:Int):(OfV k sec s).1.toList.all (fun v=>v.oneCell')=true:=by
 unfold OfV;split
 ·split<;>rfl
 ·rfl
theorem bZR (k sec s ar:Int)(H:Hp):Za Tryz.prog 96 #[.agg (bZo k sec s ar)] H (RetE (.bool (aZ3 k sec s ar)) H):=by
 apply Za.ret;apply fZ7.ok;unfold fZ7;simp only[HS];refine(Sep.start H).nw fun b1 H hs=>?_
 first|refine hs.ld 1 rfl rfl ?_|refine hs.ld 2 rfl rfl ?_|refine hs.ld 3 rfl rfl ?_|refine hs.ld 4 rfl rfl ?_|refine hs.ld 5 rfl rfl ?_|refine hs.ld 6 rfl rfl ?_|refine hs.ld 7 rfl rfl ?_|refine hs.ld 8 rfl rfl ?_
 try simp only[HV]
 first|refine hs.ld 1 rfl rfl ?_|refine hs.ld 2 rfl rfl ?_|refine hs.ld 3 rfl rfl ?_|refine hs.ld 4 rfl rfl ?_|refine hs.ld 5 rfl rfl ?_|refine hs.ld 6 rfl rfl ?_|refine hs.ld 7 rfl rfl ?_|refine hs.ld 8 rfl rfl ?_
 try simp only[HV]
 first|refine hs.ld 1 rfl rfl ?_|refine hs.ld 2 rfl rfl ?_|refine hs.ld 3 rfl rfl ?_|refine hs.ld 4 rfl rfl ?_|refine hs.ld 5 rfl rfl ?_|refine hs.ld 6 rfl rfl ?_|refine hs.ld 7 rfl rfl ?_|refine hs.ld 8 rfl rfl ?_
 try simp only[HV]
 refine Za.use (eZB k sec s H) ?_
 try simp only[HV]
 refine hs.nw fun b2 H hs=>?_
 refine hs.stw 2 rfl rfl (kZE _ _ _) (pZE _ _ _) fun H hs=>?_;have hr:=hs.fin 0 rfl (.bool (aZ3 k sec s ar));by_cases h:0≤k∧k≤32∧0<ZD s∧(bZs k.toNat (ZD s):Int)≤sec
 ·have:(OfV k sec s).2=0:=by unfold OfV;rw[if_pos (by omega),if_neg (by omega)]
  rw[this];refine aZx rfl ?_
  first|refine hs.ld 1 rfl rfl ?_|refine hs.ld 2 rfl rfl ?_|refine hs.ld 3 rfl rfl ?_|refine hs.ld 4 rfl rfl ?_|refine hs.ld 5 rfl rfl ?_|refine hs.ld 6 rfl rfl ?_|refine hs.ld 7 rfl rfl ?_|refine hs.ld 8 rfl rfl ?_
  try simp only[HV]
  by_cases h2:ar≥1
  ·refine Zn h2 ?_
   first|refine hs.ld 1 rfl rfl ?_|refine hs.ld 2 rfl rfl ?_|refine hs.ld 3 rfl rfl ?_|refine hs.ld 4 rfl rfl ?_|refine hs.ld 5 rfl rfl ?_|refine hs.ld 6 rfl rfl ?_|refine hs.ld 7 rfl rfl ?_|refine hs.ld 8 rfl rfl ?_
   try simp only[HV]
   have:decide (ar≤16777216)=aZ3 k sec s ar:=by unfold aZ3;simp only[decide_eq_decide];omega
   rw[this];exact hr
  ·refine Zh h2 ?_;have:false=aZ3 k sec s ar:=by unfold aZ3;symm;simp only[decide_eq_false_iff_not];omega
   rw[this];exact hr
 ·refine aZc ?_ ?_
  ·have:(OfV k sec s).2=1∨(OfV k sec s).2=7:=by
    unfold OfV;split
    ·rw[if_pos (by omega)];exact .inr rfl
    ·exact .inl rfl
   rcases this with e|e<;>rw[e]<;>rfl
  ·have:false=aZ3 k sec s ar:=by unfold aZ3;symm;simp only[decide_eq_false_iff_not];omega
   rw[this];exact hr
def cZf (s:Int):Int:=if s=32 then 5 else if s=64 then 6 else if s=128 then 7 else if s=256 then 8 else if s=512 then 9 else if s=1024 then 10 else if s=2048 then 11 else if s=4096 then 12 else -1
theorem hZB (s:Int):(0<ZD s∧s=8*ZD s∧5≤cZf s∧cZf s≤12∧ZD s=2^(cZf s-3).toNat)∨(ZD s=0∧cZf s=-1):=by
 unfold ZD cZf
 repeat' split
 all_goals first|(subst_vars;left;decide)|(right;exact⟨rfl,rfl⟩)
theorem mZ5 (K:VK)(k:Nat)(hk:k≤32)(s:Int)(hs:0<ZD s)(H:Hp)(hK:K (.int .i64 (bZs k (ZD s))) H):∀ d j:Nat,j+d=k→aZd.l3 K (d+1) (k:Int) s ((2^j:Nat):Int) (j:Int) H
 |0,j,hj=>by
  obtain rfl:j=k:=by omega
  unfold aZd.l3;refine Zh (by omega) ⟨by decide,rfl,?_⟩;obtain⟨_,h1,h2,h3,h4⟩:0<ZD s∧s=8*ZD s∧5≤cZf s∧cZf s≤12∧ZD s=2^(cZf s-3).toNat:=by
   rcases hZB s with h|h
   ·exact h
   ·omega
  have hle:=iZE s;have hp:=mZn (k:=j) (by omega);have e1:i64.wrap (Int.tdiv s 8)=(ZD s:Int):=by
   have:Int.tdiv s 8=(ZD s:Int):=by
    conv=>lhs;rw[h1]
    exact Int.mul_tdiv_cancel_left _ (by omega)
   rw[this];exact aZJ (by omega)
  rw[e1];have h2j:1≤2^j:=Nat.one_le_two_pow;by_cases hc:(2^j:Nat)≤ZD s
  ·refine Zn (Int.ofNat_le.2 hc) ?_;have:bZs j (ZD s)=13:=by
    unfold bZs ZF;rw[Nat.div_eq_of_lt (by omega)]
   rw[this]at hK;exact hK
  ·refine Zh (fun h=>hc (Int.ofNat_le.1 h)) ⟨by omega,rfl,?_⟩;have hd:ZD s∣2^j:=by
    rw[h4];refine Nat.pow_dvd_pow 2 ?_;rw[h4]at hc;have:=(Nat.pow_lt_pow_iff_right (a:=2) (by omega)).1 (Nat.lt_of_not_le hc);omega
   obtain⟨q,hq⟩:=hd;have hq1:1≤q:=by
    cases q with
    |zero=>rw[hq]at h2j;omega
    |succ q=>omega
   have hdiv:2^j/ZD s=q:=by rw[hq];exact Nat.mul_div_cancel_left q hs
   have hroom:ZF j (ZD s)=q:=by
    unfold ZF;have:2^j-1=ZD s*(q-1)+(ZD s-1):=by
     rw[hq];have:ZD s*q=ZD s*(q-1)+ZD s:=by
      rw[← Nat.mul_succ];congr 1;omega
     omega
    rw[this,Nat.mul_add_div hs,Nat.div_eq_of_lt (by omega)];omega
   have hqle:q≤2^j:=by rw[← hdiv];exact Nat.div_le_self _ _
   have hp32:2^j≤2^32:=Nat.pow_le_pow_right (by omega) hk;rw[show Int.tdiv ((2^j:Nat):Int) (ZD s:Int)=((2^j/ZD s:Nat):Int)from rfl,hdiv,aZJ (n:=q) (by omega),ZG (x:=4*(q:Int)) (by omega) (by omega),ZG (x:=9+4*(q:Int)) (by omega) (by omega)];unfold bZs at hK;rw[hroom]at hK;rw[show((9:Int)+4*(q:Int))=((9+4*q:Nat):Int) by omega];exact hK
 |d+1,j,hj=>by
  unfold aZd.l3;have hp:2^j≤4294967296:=(Nat.pow_le_pow_right (by omega) (by omega):2^j≤2^32);have hnn:=Int.natCast_nonneg (2^j);have hp':((2^j:Nat):Int)≤4294967296:=by exact Int.ofNat_le.2 hp
  refine Zn (by omega) ?_;rw[ZG (x:=2*((2^j:Nat):Int)) (by omega) (by omega),ZG (x:=(j:Int)+1) (by omega) (by omega)];have:=mZ5 K k hk s hs H hK d (j+1) (by omega);rw[show(2:Int)*((2^j:Nat):Int)=((2^(j+1):Nat):Int) by rw[Nat.pow_succ];omega];exact this
theorem rZB (k:Nat)(hk:k≤32)(s:Int)(hs:0<ZD s)(H:Hp):Za Tryz.prog 8 #[.int .i64 k,.int .i64 s] H (RetE (.int .i64 (bZs k (ZD s))) H):=by
 apply aZd.ok;exact⟨k+1,mZ5 _ k hk s hs H (RetE.mk _ _) k 0 (by omega)⟩
end Go.Proofs.YtgfildcgihbdaaaGreatDoor.Sup
namespace Go.Proofs.YtgfildcgihbdaaaGreatDoor.Rec
open Go Go.Hw Go.Form Go.Crc W FormP
theorem kZ1 (s:Int):secB s=true↔0<Lay.ZD s:=by
 unfold secB Lay.gZE;by_cases h:0<Lay.ZD s
 ·rw[if_pos ⟨by omega,by omega,h⟩];simp[h]
 ·rw[if_neg (fun g=>h g.2.2)];simp[h]
theorem vZ1 {s:Int}(h:secB s=true):32≤s∧s≤4096:=by
 rw[kZ1]at h;refine⟨Int.not_lt.1 fun g=>?_,Int.not_lt.1 fun g=>?_⟩
 ·rw[Lay.iZ4 g]at h;omega
 ·rw[Lay.iZ3 g]at h;omega
theorem xZt {p q:Nat}(hp:p<4294967296)(hq:q<4294967296):bZg 0 [(p,32),(q,0)]=p*4294967296+q:=by
 show(0|||(p*2^32%2^64))|||(q*2^0%2^64)=_
 rw[Nat.zero_or,Nat.mod_eq_of_lt (by omega),Nat.pow_zero,Nat.mul_one,Nat.mod_eq_of_lt (by omega),Nat.mul_comm p,←Nat.two_pow_add_eq_or_of_lt (i:=32) hq p]
end Go.Proofs.YtgfildcgihbdaaaGreatDoor.Rec
namespace Go.Proofs.YtgfildcgihbdaaaGreatDoor.Rec
open Go Go.Hw Go.Form Go.Crc W FormP
theorem jZC {w q:Nat}(k:Nat)(hw:2^k∣w)(hq:q<2^k):w|||q=w+q:=by
 obtain⟨t,rfl⟩:=hw;exact(Nat.two_pow_add_eq_or_of_lt hq t).symm
theorem sZz (r:R)(hg:r.good):bZg 0 r.p1=5928144484503126016+r.s:=by
 obtain⟨g1,g2,_⟩:=hg;show(0|||(21061*2^48%2^64))|||(r.s*2^0%2^64)=_
 rw[Nat.zero_or,Nat.pow_zero,Nat.mul_one,Nat.mod_eq_of_lt (show r.s<2^64 by omega),jZC 48 ⟨21061,by decide⟩ (by omega)]
theorem wZ3 (r:R)(hu:r.u32):bZg 0 r.p3=r.inp*4294967296+r.out:=xZt hu.inp hu.out
theorem wZ2 (r:R)(hg:r.good)(hu:r.u32):bZg 0 r.p2=r.ld*4294967296+r.ps.toNat*16777216+r.kk.toNat*65536+r.dir.toNat*256+r.kd.toNat:=by
 obtain⟨g1,g2,g3,g4,g5,g6⟩:=hg;have hu:=hu.ld;have h1:r.ps.toNat<256:=by omega
 have h2:r.kk.toNat<256:=by omega
 have h3:r.dir.toNat<256:=by omega
 have h4:r.kd.toNat<256:=by omega
 show((((0|||(r.ld*2^32%2^64))|||(r.ps.toNat*2^24%2^64))|||(r.kk.toNat*2^16%2^64))|||(r.dir.toNat*2^8%2^64))|||(r.kd.toNat*2^0%2^64)=_
 generalize r.ps.toNat=a at*;generalize r.kk.toNat=b at*;generalize r.dir.toNat=c at*;generalize r.kd.toNat=d at*;generalize r.ld=l at*;rw[Nat.zero_or,Nat.mod_eq_of_lt (show l*2^32<2^64 by omega),Nat.mod_eq_of_lt (show a*2^24<2^64 by omega),Nat.mod_eq_of_lt (show b*2^16<2^64 by omega),Nat.mod_eq_of_lt (show c*2^8<2^64 by omega),Nat.pow_zero,Nat.mul_one,Nat.mod_eq_of_lt (show d<2^64 by omega)];rw[jZC 32 ⟨l,Nat.mul_comm _ _⟩ (show a*2^24<2^32 by omega),jZC 24 ⟨l*256+a,by omega⟩ (show b*2^16<2^24 by omega),jZC 16 ⟨(l*256+a)*256+b,by omega⟩ (show c*2^8<2^16 by omega),jZC 8 ⟨((l*256+a)*256+b)*256+c,by omega⟩ (show d<2^8 by omega)]
end Go.Proofs.YtgfildcgihbdaaaGreatDoor.Rec
namespace Go.Proofs.YtgfildcgihbdaaaGreatDoor.Rec
open Go Go.Hw Go.Form Go.Crc W FormP
structure R.wf (r:R):Prop where
 s:r.s<2^64
 kd: -9223372036854775808≤r.kd∧r.kd≤9223372036854775807
 kk: -9223372036854775808≤r.kk∧r.kk≤9223372036854775807
 dir: -9223372036854775808≤r.dir∧r.dir≤9223372036854775807
 ps: -9223372036854775808≤r.ps∧r.ps≤9223372036854775807
 u:r.u32
end Go.Proofs.YtgfildcgihbdaaaGreatDoor.Rec
namespace Go.Proofs.YtgfildcgihbdaaaGreatDoor.Rec
open Go Go.Hw Go.Form Go.Crc W FormP
def R.form (r:R)(size:Nat):List UInt8:=Form.form r.w4++List.replicate (size-32) 0
theorem jZ5 (r:R):(Form.form r.w4).length=32:=by rw[aZ8];rfl
theorem jZH (r:R){size:Nat}(h:32≤size):(r.form size).length=size:=by
 unfold R.form;rw[List.length_append,jZ5,List.length_replicate];omega
theorem oZS (r:R)(size:Nat):gZh (r.form size)=true:=by
 unfold gZh R.form;refine decide_eq_true fun x hx=>?_
 rw[List.drop_append,jZ5,Nat.sub_self,List.drop_eq_nil_of_le (by rw[jZ5];exact Nat.le_refl _),List.nil_append,List.drop_zero]at hx;exact(List.mem_replicate.1 hx).2
theorem vZV (r:R)(hg:r.good)(hu:r.u32):iZe (bZg 0 r.p1) (bZg 0 r.p2) (bZg 0 r.p3)=r:=by
 rw[sZz r hg,wZ2 r hg hu,wZ3 r hu];obtain⟨g1,g2,g3,g4,g5,g6⟩:=hg;obtain⟨u1,u2,u3⟩:=hu;obtain⟨s,kd,kk,dir,ps,ld,inp,out⟩:=r;simp only at*;unfold iZe;congr 1<;>omega
theorem pZs (r:R)(size:Nat):Zs (r.form size) 0=bZg 0 r.p1∧Zs (r.form size) 8=bZg 0 r.p2∧Zs (r.form size) 16=bZg 0 r.p3∧Zs (r.form size) 24=bZg 0 (gZX r.w3):=by
 have h4:r.w4.length=4:=rfl;have w0:=eZ7 (l:=r.w4) (i:=0) (by omega) (List.replicate (size-32) 0);have w1:=eZ7 (l:=r.w4) (i:=1) (by omega) (List.replicate (size-32) 0);have w2:=eZ7 (l:=r.w4) (i:=2) (by omega) (List.replicate (size-32) 0);have w3:=eZ7 (l:=r.w4) (i:=3) (by omega) (List.replicate (size-32) 0);refine⟨w0.trans ?_,w1.trans ?_,w2.trans ?_,w3.trans ?_⟩
 ·exact UInt64.toNat_ofNat_of_lt' (eZj r.p1 0 (by decide))
 ·exact UInt64.toNat_ofNat_of_lt' (eZj r.p2 0 (by decide))
 ·exact UInt64.toNat_ofNat_of_lt' (eZj r.p3 0 (by decide))
 ·exact UInt64.toNat_ofNat_of_lt' (eZj (gZX r.w3) 0 (by decide))
theorem rZd (r:R)(hg:r.good)(hu:r.u32){size:Nat}(h32:32≤size)(hs:secB (size:Int)=true):aZ2 (r.form size)=(r,0):=by
 obtain⟨w0,w1,w2,w3⟩:=pZs r size;have hU:w3U (r.form size)=r.w3:=by
  unfold w3U;rw[w0,w1,w2];rfl
 have hr:=vZV r hg hu;have hm:bZg 0 r.p1/281474976710656=21061:=by
  have:=sZz r hg;have:=hg.1;have:=hg.2.1;omega
 unfold aZ2;rw[jZH r h32,if_pos hs,hU,w0,w1,w2,w3,hr,if_pos ⟨hm,oZS r size⟩,if_pos rfl,if_pos hg]
end Go.Proofs.YtgfildcgihbdaaaGreatDoor.Rec
namespace Go.Proofs.YtgfildcgihbdaaaGreatDoor.Rng
open Go Go.Hw W Rec Srt Dsk
def ZV (p:Nat)(f n w:Int):AO:=.obj (.cells #[.int .i64 f,.int .i64 n,.int .i64 w,.pointer (some ⟨p,0,none⟩)] 146)
def mZg (d:D)(f n:Int):Bool:=decide (2≤n∧0≤f∧f<d.sec∧n≤d.sec-f)
def lZ9 (p:Nat)(d:D)(f n w:Int)(v:Value)(M:List As):Prop:=
 (mZg d f n=true∧∃ b,v= .tuple #[.pointer (some ⟨b,0,none⟩),.int .i64 0]∧M=[Dk p d,pts b (ZV p f n w)])∨(mZg d f n=false∧v= .tuple #[.pointer none,.int .i64 2]∧M=[Dk p d])
theorem lZ9.yes {p:Nat}{d:D}{f n w:Int}(h:mZg d f n=true)(b:Nat):lZ9 p d f n w (.tuple #[.pointer (some ⟨b,0,none⟩),.int .i64 0]) [Dk p d,pts b (ZV p f n w)]:=.inl ⟨h,b,rfl,rfl⟩
theorem lZ9.no {p:Nat}{d:D}{f n w:Int}(h:mZg d f n=false):lZ9 p d f n w (.tuple #[.pointer none,.int .i64 2]) [Dk p d]:=.inr ⟨h,rfl,rfl⟩
theorem dZp {p:Nat}{d:D}(hok:Ok d)(f n w:Int)(hf: -9223372036854775808≤f∧f≤9223372036854775807):
  Tr Tryz.prog 72 #[.pointer (some ⟨p,0,none⟩),.agg #[.int .i64 f,.int .i64 n,.int .i64 w]] [Dk p d] (lZ9 p d f n w):=fun H hs=>by
 have hsec:=hok.sec;apply hZl.ok;unfold hZl;refine hs.nw fun b1 H hs=>?_
 have hs:Hw.Sep [Dk p d,pts b1 (.obj (.cells #[.int .i64 f,.int .i64 n,.int .i64 w] 87))] H:=hs;have bad:mZg d f n=false→∃ M,lZ9 p d f n w (.tuple #[.pointer none,.int .i64 2]) M∧Hw.Sep M H:=fun h=>⟨_,.no h,hs.re [0] rfl⟩
 refine aZc rfl ?_;refine hs.ldf 1 rfl rfl ?_;simp only[HV];by_cases h1:n<2
 ·exact Zn h1 (bad (decide_eq_false (by omega)))
 refine Zh h1 ?_;refine hs.ldf 1 rfl rfl ?_;simp only[HV];by_cases h2:f<0
 ·exact Zn h2 (bad (decide_eq_false (by omega)))
 refine Zh h2 ?_;refine hs.ldf 1 rfl rfl ?_;simp only[HV];refine ZQ.use (eZG hs 0 rfl) ?_;simp only[HV];by_cases h3:f≥(d.sec:Int)
 ·exact Zn h3 (bad (decide_eq_false (by omega)))
 refine Zh h3 ?_;refine hs.ldf 1 rfl rfl ?_;simp only[HV];refine ZQ.use (eZG hs 0 rfl) ?_;simp only[HV];refine hs.ldf 1 rfl rfl ?_;simp only[HV];rw[ZG (x:=(d.sec:Int)-f) (by omega) (by omega)];by_cases h4:n>(d.sec:Int)-f
 ·exact Zn h4 (bad (decide_eq_false (by omega)))
 refine Zh h4 ?_
 first|refine hs.ldw 1 rfl rfl ?_
 try simp only[HV]
 refine hs.nw fun b2 H hs=>?_
 exact⟨_,.yes (decide_eq_true (by omega)) b2,hs.re [0,2] rfl⟩
def aZS (f n s:Nat):Nat:=f+(s-1)%n
theorem qZe {L:List As}{H:Hp}(hs:Hw.Sep L H)(i:Nat){b p f n:Nat}{w:Int}(hi:L[i]? =some (pts b (ZV p f n w)))(hf:f≤1048576)(hn:1≤n)(hn2:n≤1048576)(s:Nat)(h1:1≤s)(h2:s<18446744073709551616):
  Za Tryz.prog 111 #[.pointer (some ⟨b,0,none⟩),.int .u64 (s:Int)] H (RetE (.int .i64 (aZS f n s:Int)) H):=by
 apply eZb.ok;unfold eZb;simp only[HS];refine hs.ld i hi rfl ?_;simp only[HV]
 try simp only[HS]
 refine hs.ld i hi rfl ?_;simp only[HV];have hm:(s-1)%n<n:=Nat.mod_lt _ (by omega);rw[cZg (by omega),eZp (x:=(s:Int)-1) (by omega) (by omega),show(s:Int)-1=((s-1:Nat):Int) by omega,show Int.tmod ((s-1:Nat):Int) (n:Int)=(((s-1)%n:Nat):Int)from rfl,aZJ (by omega),ZG (by omega) (by omega)];refine⟨by omega,by simp,?_⟩;unfold aZS;exact RetE.of (by rw[Int.natCast_add])
end Go.Proofs.YtgfildcgihbdaaaGreatDoor.Rng
namespace Go.Proofs.YtgfildcgihbdaaaGreatDoor.Rng
open Go Go.Hw W Rec Srt Dsk
def eZ6 (f n:Nat)(bs:List UInt8)(i:Nat):List R:=if(aZ2 bs).2=0∧aZS f n (aZ2 bs).1.s=f+i then [(aZ2 bs).1]else []
def D.red (d:D):D:={ d.burnt with rd:=d.rd+1}
theorem Ok.red {d:D}(hok:Ok d):Ok (D.red d):=⟨hok.burnt.sec,hok.burnt.size,hok.burnt.big,hok.burnt.per,hok.burnt.safe,hok.burnt.cache,hok.burnt.fz⟩
def cZP (f n:Nat):Nat→Nat→D→List R→Int×D×List R
 |0,_,d,acc=>(0,d,acc)
 |k+1,i,d,acc=>if d.chk ((f+i:Nat):Int)≠0 then(d.chk ((f+i:Nat):Int),d,[])else if d.burns=true then(8,d.burnt,[])else cZP f n k (i+1) (D.red d) (acc++eZ6 f n (d.now ((f+i:Nat):Int)) i)
def lZg (b p f n:Nat)(w:Int)(r:Int×D×List R)(v:Value)(M:List As):Prop:=
 ∃ A m,v= .tuple #[.slice A r.2.2.length m,.int .i64 r.1]∧M=[Dk p r.2.1,pts b (ZV p f n w),Own 102 8 A r.2.2.length m (cZk (bZ1 r.2.2 (r.2.2.length-1)))]∧r.2.2.length≤m
theorem rZe {bs:List UInt8}(h:(aZ2 bs).2=0):(aZ2 bs).1.good:=by
 unfold aZ2 at h⊢;split at h
 ·rename_i h1
  rw[if_pos h1];split at h
  ·rename_i h2
   rw[if_pos h2];split at h
   ·rename_i h3
    rw[if_pos h3];split at h
    ·rename_i h4
     rw[if_pos h4];exact h4
    ·cases h
   ·cases h
  ·cases h
 ·cases h
theorem tZK :bZi Tryz.prog 102=some (8,56,some #[.int .u64 0,.int .i64 0,.int .i64 0,.int .i64 0,.int .i64 0,.int .u32 0,.int .u32 0,.int .u32 0]):=by kernel_rfl
theorem qZW {L:List As}{H:Hp}(h:Hw.Sep L H):Hw.Sep (L++[Own 102 8 none 0 0 []]) H:=by
 have:Hw.Sep (Own 102 8 none 0 0 []::L) H:=⟨fun _=>none,H,fun _ _ h=>(nomatch h),Hp.le_refl _,fun _=>.inl rfl,Own.none _ _ _,h⟩;exact Hw.Sep.perm (List.perm_append_comm (l₁:=[_])) this
theorem jZk (b p f n:Nat)(w:Int)(hn:1≤n)(hfn:f+n≤1048576)(r:Int×D×List R)(hr12:r.1=0→r.2.2.length≤12):
  ∀(t i:Nat) (d:D) (acc:List R) (A:OA) (m:Nat) (H:Hp),i+t=n→Ok d→d.rd+t≤1000000→acc.length≤i→acc.length≤m→r=cZP f n t i d acc→
   Hw.Sep [Dk p d,pts b (ZV p f n w),Own 102 8 A acc.length m (cZk acc)] H→
   ZM.l2 (fun v H'=>∃ M,lZg b p f n w r v M∧Hw.Sep M H') (t+1) (some ⟨b,0,none⟩) A acc.length m (n:Int) (i:Int) H
 |0,i,d,acc,A,m,H,hi,hok,hrd,hacc,hm,hr,hs=>by
  unfold ZM.l2;refine Zh (by omega) ?_;have hr:r=(0,d,acc):=hr;have h12:=hr12 (by rw[hr]);rw[hr]at h12;refine(pZi A acc.length m h12 acc rfl).use hs [2] rfl rfl ?_;rintro _ _ H1 ⟨rfl,rfl⟩ hs;rw[hr];exact⟨_,⟨A,m,rfl,rfl,hm⟩,hs.re [1,2,0] rfl⟩
 |t+1,i,d,acc,A,m,H,hi,hok,hrd,hacc,hm,hr,hs=>by
  unfold ZM.l2;refine Zn (by omega) ?_;have hj5:∀(H:Hp) (v:Value) (M:List As),uZY p d ((f+i:Nat):Int) v M→Hw.Sep (M++[pts b (ZV p f n w),Own 102 8 A acc.length m (cZk acc)]) H→
    bZz v fun l1=>Zl l1 fun v5 l2=>DSl v5 fun A2 n2 m2=>Zl l2 fun v6 l3=>DI .i64 v6 fun x5=>ZR l3 (ZM.j5 (fun v H'=>∃ M,lZg b p f n w r v M∧Hw.Sep M H') (ZM.l2 (fun v H'=>∃ M,lZg b p f n w r v M∧Hw.Sep M H') (t+1)) (some ⟨b,0,none⟩) A acc.length m (i:Int) A2 n2 m2 x5 (n:Int) (i:Int) H):=by
   rintro H _ _ (⟨hc,rfl,rfl⟩|⟨hc,hb,rfl,rfl⟩|⟨hc,hb,b2,c,mm,rfl,hcc,rfl⟩) hs
   ·simp only[HV];unfold ZM.j5;refine ZA hc ?_;unfold cZP at hr;rw[if_pos hc]at hr;rw[hr];have hs:=qZW hs;exact⟨_,⟨none,0,rfl,rfl,Nat.le_refl _⟩,hs.re [0,1,3] rfl⟩
   ·simp only[HV];unfold ZM.j5;refine ZA (by decide) ?_;unfold cZP at hr;rw[if_neg (by omega),if_pos hb]at hr;rw[hr];have hs:=qZW hs;exact⟨_,⟨none,0,rfl,rfl,Nat.le_refl _⟩,hs.re [0,1,3] rfl⟩
   ·simp only[HV];unfold ZM.j5;refine Zq rfl ?_;have hs:Hw.Sep [Dk p (D.red d),pts b2 (.row (Zm (d.now ((f+i:Nat):Int))) 5 mm),pts b (ZV p f n w),Own 102 8 A acc.length m (cZk acc)] H:=hs;unfold cZP at hr;rw[if_neg (by omega),if_neg (by simp[hb])]at hr;have hnow:=hok.now ((f+i:Nat):Int);have hsz:=hok.size;generalize d.now ((f+i:Nat):Int)=bs at*;have hcell:Cells H (some ⟨b2,0,none⟩) (Zm bs):=by
     have:=Cells.row (hs.get 1 (b:=b2) (o:=.row (Zm bs) 5 mm) rfl) 0 d.size;rw[List.drop_zero,List.take_of_length_le (by rw[ZL];omega)]at this;exact this
    refine Za.use (iZu (some ⟨b2,0,none⟩) d.size c bs hnow.symm hcc (by omega) (fun _=>hsz.1) H hcell) ?_;simp only[HV];have hg:=rZe (bs:=bs);have hst:eZ6 f n bs i=if(aZ2 bs).2=0∧aZS f n (aZ2 bs).1.s=f+i then [(aZ2 bs).1]else []:=rfl
    generalize aZ2 bs=tv at*;obtain⟨q,e⟩:=tv;simp only at hg hst;refine hs.nw fun b3 H hs=>?_
    refine hs.stw 4 (y:=q.c) rfl rfl rfl (eZ4 q) fun H hs=>?_;have hs:Hw.Sep [Dk p (D.red d),pts b2 (.row (Zm bs) 5 mm),pts b (ZV p f n w),Own 102 8 A acc.length m (cZk acc),pts b3 (.obj (.cells q.c 102))] H:=hs;have hred:(D.red d).rd=d.rd+1:=rfl;have next:∀ H,eZ6 f n bs i=[]→Hw.Sep [Dk p (D.red d),pts b (ZV p f n w),Own 102 8 A acc.length m (cZk acc)] H→
      ZM.l2 (fun v H'=>∃ M,lZg b p f n w r v M∧Hw.Sep M H') (t+1) (some ⟨b,0,none⟩) A acc.length m (n:Int) (i64.wrap ((i:Int)+1)) H:=fun H h0 hs=>by
     rw[ZG (x:=(i:Int)+1) (by omega) (by omega)];rw[h0,List.append_nil]at hr;exact jZk b p f n w hn hfn r hr12 t (i+1) (D.red d) acc A m H (by omega) (Ok.red hok) (by rw[hred];omega) (by omega) hm hr hs
    by_cases he:e=0
    ·have hgood:=hg he;obtain⟨s1,s2,_⟩:=hgood;refine ZS he ?_;refine hs.ldf 4 rfl rfl ?_;simp only[HV];refine ZQ.use (qZe hs 2 rfl (by omega) hn (by omega) q.s s1 (by omega)) ?_;simp only[HV]
     try simp only[HS]
     refine hs.ld 2 rfl rfl ?_;simp only[HV];rw[ZG (x:=(f:Int)+(i:Int)) (by omega) (by omega)];by_cases hsl:aZS f n q.s=f+i
     ·refine ZS (by omega) ?_;rw[if_pos ⟨he,hsl⟩]at hst;refine hs.ldw 4 rfl rfl ?_;unfold R.c;simp only[HV];refine rZC (x:=fun b=>.slice (some ⟨b,0,none⟩) 1 1) ?_;refine hs.appS 3 rfl tZK rfl (by omega) (by omega) rfl rfl (by omega) (by omega) fun A' m' H hs hcap=>?_
      have hm':=hcap _ _ _ rfl;simp only[HV];rw[ZG (x:=(i:Int)+1) (by omega) (by omega)];rw[hst]at hr;have hlen:(acc++[q]).length=acc.length+1:=by simp
      have ih:=jZk b p f n w hn hfn r hr12 t (i+1) (D.red d) (acc++[q]) A' m' H (by omega) (Ok.red hok) (by rw[hred];omega) (by omega) (by rw[hlen];exact hm') hr;rw[hlen]at ih;refine ih ?_;have e1:cZk (acc++[q])=cZk acc++q.c.toList:=by simp[cZk]
      rw[e1];exact hs.re [0,2,3] rfl
     ·refine aZg (by omega) ?_;rw[if_neg (fun h=>hsl h.2)]at hst;exact next H hst (hs.re [0,2,3] rfl)
    ·refine aZg he ?_;rw[if_neg (fun h=>he h.1)]at hst;exact next H hst (hs.re [0,2,3] rfl)
  try simp only[HS]
  have hw:i64.wrap ((f:Int)+(i:Int))=((f+i:Nat):Int):=by rw[ZG (by omega) (by omega)];omega
  have hR:=jZ2 (p:=p) (d:=d) hok (by omega) ((f+i:Nat):Int);refine⟨?_,?_⟩
  ·refine hs.ld 1 rfl rfl ?_;simp only[HV]
   try simp only[HS]
   refine hs.ld 1 rfl rfl ?_;simp only[HV];rw[hw];refine hR.use hs [0] rfl rfl ?_;intro v M H1 hq hs;exact hj5 H1 v M hq hs
  ·refine hs.ld 1 rfl rfl ?_;simp only[HV]
   try simp only[HS]
   refine hs.ld 1 rfl rfl ?_;simp only[HV];rw[hw];refine hR.use hs [0] rfl rfl ?_;intro v M H1 hq hs;exact hj5 H1 v M hq hs
end Go.Proofs.YtgfildcgihbdaaaGreatDoor.Rng
namespace Go.Proofs.YtgfildcgihbdaaaGreatDoor.Rng
open Go Go.Hw W Rec Srt Dsk
theorem sZW (f n:Nat)(bs:List UInt8)(i:Nat):(eZ6 f n bs i).length≤1:=by unfold eZ6;split<;>simp
theorem jZK (f n:Nat):∀(k i:Nat) (d:D) (acc:List R),(cZP f n k i d acc).2.2.length≤acc.length+k
 |0,_,_,_=>Nat.le_refl _
 |k+1,i,d,acc=>by
  unfold cZP;split
  ·exact Nat.zero_le _
  ·split
   ·exact Nat.zero_le _
   ·have h1:=jZK f n k (i+1) (D.red d) (acc++eZ6 f n (d.now ((f+i:Nat):Int)) i);have h2:=sZW f n (d.now ((f+i:Nat):Int)) i;rw[List.length_append]at h1;omega
theorem nZd (f n:Nat):∀(k i:Nat) (d:D) (acc:List R),(cZP f n k i d acc).1≠0→(cZP f n k i d acc).2.2=[]
 |0,_,_,_,h=>absurd rfl h
 |k+1,i,d,acc,h=>by
  unfold cZP at h⊢;by_cases h1:d.chk ((f+i:Nat):Int)≠0
  ·rw[if_pos h1]
  ·rw[if_neg h1]at h⊢;by_cases h2:d.burns=true
   ·rw[if_pos h2]
   ·rw[if_neg h2]at h⊢;exact nZd f n k (i+1) _ _ h
def aZT (f n:Nat)(d:D):Int×D×List R:=cZP f n n 0 d []
theorem vZg {b p f n:Nat}{w:Int}{d:D}(hn:1≤n)(hfn:f+n≤1048576)(hok:Ok d)(hrd:d.rd+n≤1000000)(h12:(aZT f n d).1=0→(aZT f n d).2.2.length≤12):
  Tr Tryz.prog 93 #[.pointer (some ⟨b,0,none⟩)] [Dk p d,pts b (ZV p f n w)] (lZg b p f n w (aZT f n d)):=fun H hs=>by
 apply ZM.ok;unfold ZM
 try simp only[HS]
 refine hs.ld 1 rfl rfl ?_;simp only[HV];exact⟨n+1,jZk b p f n w hn hfn _ h12 n 0 d [] none 0 H (by omega) hok hrd (Nat.le_refl _) (Nat.le_refl _) rfl (qZW hs)⟩
def eZk (r:Int×D×List R):Option R:=(bZ1 r.2.2 (r.2.2.length-1)).getLast?
def uZK (b p f n:Nat)(w:Int)(r:Int×D×List R)(v:Value)(M:List As):Prop:=
 v= .tuple #[.agg ((eZk r).getD bZh).c,.bool (eZk r).isSome,.int .i64 r.1]∧M=[Dk p r.2.1,pts b (ZV p f n w)]
theorem pZB {b p f n:Nat}{w:Int}{d:D}(hn:1≤n)(hfn:f+n≤1048576)(hok:Ok d)(hrd:d.rd+n≤1000000)(h12:(aZT f n d).1=0→(aZT f n d).2.2.length≤12):
  Tr Tryz.prog 65 #[.pointer (some ⟨b,0,none⟩)] [Dk p d,pts b (ZV p f n w)] (uZK b p f n w (aZT f n d)):=fun H hs=>by
 apply bZO.ok;unfold bZO bZO.q1;refine hs.nw fun b1 H hs=>?_
 have herr:=nZd f n n 0 d [];have hlen:=eZK ((aZT f n d).2.2.length-1) (aZT f n d).2.2;refine(vZg (b:=b) (p:=p) (w:=w) hn hfn hok hrd h12).use hs [0,1] rfl rfl ?_;rintro _ _ H1 ⟨A,m,rfl,rfl,_⟩ hs;change (aZT f n d).1≠0→(aZT f n d).2.2=[]at herr;unfold uZK eZk;generalize aZT f n d=r at*;obtain⟨e,d',l⟩:=r;simp only at hlen herr h12 hs⊢;simp only[HV];have hs:Hw.Sep [Dk p d',pts b (ZV p f n w),Own 102 8 A l.length m (cZk (bZ1 l (l.length-1))),pts b1 (.obj (.cells #[.int .u64 0,.int .i64 0,.int .i64 0,.int .i64 0,.int .i64 0,.int .u32 0,.int .u32 0,.int .u32 0] 102))] H1:=hs;have zero:l=[]→∀ H,Hw.Sep [Dk p d',pts b (ZV p f n w),Own 102 8 A l.length m (cZk (bZ1 l (l.length-1))),pts b1 (.obj (.cells #[.int .u64 0,.int .i64 0,.int .i64 0,.int .i64 0,.int .i64 0,.int .u32 0,.int .u32 0,.int .u32 0] 102))] H→
   StA H ⟨b1,0,none⟩ #[.int .u64 0,.int .i64 0,.int .i64 0,.int .i64 0,.int .i64 0,.int .u32 0,.int .u32 0,.int .u32 0] 8 fun H3=>LdA H3 ⟨b1,0,none⟩ 8 fun l5=>∃ M,((Value.tuple #[.agg l5.toArray,.bool false,.int .i64 e])= .tuple #[.agg (((bZ1 l (l.length-1)).getLast?).getD bZh).c,.bool ((bZ1 l (l.length-1)).getLast?).isSome,.int .i64 e]∧M=[Dk p d',pts b (ZV p f n w)])∧Hw.Sep M H3:=fun h0 H hs=>by
  subst h0;refine hs.stw 3 rfl rfl rfl rfl fun H hs=>hs.ldw 3 rfl rfl ?_
  exact⟨_,⟨rfl,rfl⟩,hs.re [0,1] rfl⟩
 by_cases he:e≠0
 ·refine ZA he ?_;exact zero (herr he) _ hs
 ·have he0:e=0:=by omega
  refine Zq he0 ?_;by_cases hl:l=[]
  ·refine ZS (by rw[hl];rfl) ?_;exact zero hl _ hs
  ·have hp:0<l.length:=List.length_pos_iff.2 hl;refine aZg (by omega) ?_;have ei:i64.wrap ((l.length:Int)-1)=((l.length-1:Nat):Int):=by
    have h12':=h12 he0;rw[ZG (by omega) (by omega)];omega
   rw[ei];have hlt:l.length-1<(bZ1 l (l.length-1)).length:=by omega
   refine(hs.own 2 rfl).rdA rfl (by omega) (hZR _ (l.length-1) hlt) ?_;rw[Array.toArray_toList];refine hs.stw 3 rfl rfl rfl (eZ4 _) fun H hs=>hs.ldw 3 rfl rfl ?_
   rw[Array.toArray_toList];have hgl:(bZ1 l (l.length-1)).getLast? =some (bZ1 l (l.length-1))[l.length-1]:=by
    rw[List.getLast?_eq_getElem?,hlen,List.getElem?_eq_getElem hlt]
   rw[hgl,he0];exact⟨_,⟨rfl,rfl⟩,hs.re [0,1] rfl⟩
end Go.Proofs.YtgfildcgihbdaaaGreatDoor.Rng
namespace Go.Proofs.YtgfildcgihbdaaaGreatDoor.Rec
open Go Go.Hw Go.Form Go.Crc W FormP
theorem nZ4 (r:R)(x:Int)(h:¬(r.good∧secB x=true))(H:Hp):Za Tryz.prog 109 #[.agg r.c,.int .i64 x] H (RetE (.tuple #[.slice none 0 0,.int .i64 1]) H):=Za.ret (by
 apply dZW.ok;unfold dZW;refine(Sep.start H).nw fun b1 H1 hs=>?_
 have hs:Sep [own H,pts b1 (bZD r)] H1:=hs;refine hs.ldw 1 rfl rfl ?_;refine Za.use (bZR r H1) ?_;simp only[HV];by_cases hg:r.good
 ·rw[decide_eq_true hg];refine aZc rfl ?_;refine Za.use (iZg x H1) ?_;rw[show secB x=false by simpa using fun g=>h ⟨hg,g⟩];simp only[HV];exact hs.fin 0 rfl _
 ·rw[decide_eq_false hg];exact aZx rfl (hs.fin 0 rfl _))
theorem kZa (r:R){size:Nat}(h32:32≤size):setAt (aZv [Value.int .u8 0] size) 0 (Zm (Form.form r.w4))=Zm (r.form size):=by
 rw[bZw];unfold setAt R.form;rw[List.take_zero,List.nil_append,Nat.zero_add,ZL,jZ5,List.drop_replicate];unfold Zm;rw[List.map_append,List.map_replicate];rfl
end Go.Proofs.YtgfildcgihbdaaaGreatDoor.Rec
namespace Go.Proofs.YtgfildcgihbdaaaGreatDoor.Rng
open Go Go.Hw W Rec Srt Dsk
theorem oZU (f n:Nat):∀(k i:Nat) (d:D) (acc:List R),Ok d→Ok (cZP f n k i d acc).2.1∧(cZP f n k i d acc).2.1.wr=d.wr∧(cZP f n k i d acc).2.1.sy=d.sy∧(cZP f n k i d acc).2.1.size=d.size∧(cZP f n k i d acc).2.1.sec=d.sec
 |0,_,d,_,h=>⟨h,rfl,rfl,rfl,rfl⟩
 |k+1,i,d,acc,h=>by
  have hb:=bZ6 d;unfold cZP;split
  ·exact⟨h,rfl,rfl,rfl,rfl⟩
  ·split
   ·exact⟨h.burnt,hb.2.1,hb.2.2.1,hb.2.2.2.1,hb.2.2.2.2.1⟩
   ·obtain⟨h1,h2,h3,h4,h5⟩:=oZU f n k (i+1) (D.red d) (acc++eZ6 f n (d.now ((f+i:Nat):Int)) i) (Ok.red h);exact⟨h1,h2.trans hb.2.1,h3.trans hb.2.2.1,h4.trans hb.2.2.2.1,h5.trans hb.2.2.2.2.1⟩
def mZo (f n:Nat)(d:D)(r:R):Int×D:=
 if d.writeE (aZS f n r.s) d.size≠0 then(d.writeE (aZS f n r.s) d.size,d.writeD (aZS f n r.s) (r.form d.size))
 else((d.writeD (aZS f n r.s) (r.form d.size)).syncE,(d.writeD (aZS f n r.s) (r.form d.size)).syncD)
def cZG (q:Option R)(r:R):Bool:=match q with|some q=>decide (after q r)|none=>decide (r.s=1∧r.kd=1)
def eZ9 (f n:Nat)(d:D)(r:R):Int×D:=
 if ¬r.good then(10,d)else if(aZT f n d).1≠0 then((aZT f n d).1,(aZT f n d).2.1)
 else if cZG (eZk (aZT f n d)) r=false then(5,(aZT f n d).2.1)else mZo f n (aZT f n d).2.1 r
def iZO (b p f n:Nat)(w:Int)(r:Int×D)(v:Value)(M:List As):Prop:=v= .int .i64 r.1∧M=[Dk p r.2,pts b (ZV p f n w)]
theorem xZs {b p f n:Nat}{w:Int}(hn:1≤n)(hfn:f+n≤1048576){d:D}(hok:Ok d)(hw:d.wr≤1000000∧d.sy≤1000000)(r:R)(hg:r.good)(b1 b2 mm:Nat)(H:Hp)
  (hs:Hw.Sep [Dk p d,pts b (ZV p f n w),pts b1 (bZD r),pts b2 (.row (Zm (r.form d.size)) 5 mm)] H):
  ZJ.j9 (fun v H'=>∃ M,iZO b p f n w (mZo f n d r) v M∧Hw.Sep M H') (some ⟨b,0,none⟩) ⟨b1,0,none⟩ (some ⟨b2,0,none⟩) d.size d.size H:=by
 unfold ZJ.j9;obtain⟨s1,s2,_⟩:=hg;have hsz:=hok.size
 try simp only[HS]
 refine hs.ld 1 rfl rfl ?_;simp only[HV];refine hs.ld 2 rfl rfl ?_;simp only[HV];refine ZQ.use (qZe hs 1 rfl (by omega) hn (by omega) r.s s1 (by omega)) ?_;simp only[HV];have hl:=jZH r hsz.1;refine(eZc (p:=p) (d:=d) hok (by omega) (aZS f n r.s:Int) (some ⟨b2,0,none⟩) d.size d.size (r.form d.size) hl.symm (pts b2 (.row (Zm (r.form d.size)) 5 mm)) (fun H h=>?_)).use hs [0,3] rfl rfl ?_
 ·have:=Cells.row h 0 d.size;rw[List.drop_zero,List.take_of_length_le (by rw[ZL];omega)]at this;exact this
 rintro _ _ H1 ⟨rfl,rfl⟩ hs;have hs:Hw.Sep [Dk p (d.writeD (aZS f n r.s) (r.form d.size)),pts b2 (.row (Zm (r.form d.size)) 5 mm),pts b (ZV p f n w),pts b1 (bZD r)] H1:=hs;unfold iZO mZo;by_cases he:d.writeE (aZS f n r.s) d.size≠0
 ·rw[if_pos he];simp only[HV];refine ZA he ?_;exact⟨_,⟨by first|trivial|rfl,rfl⟩,hs.re [0,2] rfl⟩
 ·rw[if_neg he];simp only[HV];refine Zq (by omega) ?_
  try simp only[HS]
  refine hs.ld 2 rfl rfl ?_;simp only[HV];have hsy:(d.writeD (aZS f n r.s) (r.form d.size)).sy=d.sy:=by
   have hbr:=bZ6 d;unfold D.writeD;split
   ·rfl
   ·split
    ·rfl
    ·split
     ·exact hbr.2.2.1
     ·exact hbr.2.2.1
  refine(hZz (p:=p) (d:=d.writeD (aZS f n r.s) (r.form d.size)) (Ok.writeD hok _ _) (by rw[hsy];omega)).use hs [0] rfl rfl ?_;rintro _ _ H2 ⟨rfl,rfl⟩ hs;simp only[HV];exact⟨_,⟨by first|trivial|rfl,rfl⟩,hs.re [0,2] rfl⟩
end Go.Proofs.YtgfildcgihbdaaaGreatDoor.Rng
namespace Go.Proofs.YtgfildcgihbdaaaGreatDoor.Rng
open Go Go.Hw W Rec Srt Dsk
theorem xZq {K:VK}{p4:OA}{a4:Addr}{A:OA}{n m:Nat}{x:Int}{H:Hp}(hx:x≠0)(k:K (.int .i64 10) H):ZJ.j2 K p4 a4 A n m x H:=by
 unfold ZJ.j2;exact ZA hx k
theorem xZr {b p f n:Nat}{w:Int}(hn:1≤n)(hfn:f+n≤1048576){d:D}(hok:Ok d)(hw:d.wr≤1000000∧d.sy≤1000000)(hrd:d.rd+n≤1000000)(h12:(aZT f n d).1=0→(aZT f n d).2.2.length≤12)(r:R)(hg:r.good)(b1 b2 mm:Nat)(H:Hp)
  (hs:Hw.Sep [Dk p d,pts b (ZV p f n w),pts b1 (bZD r),pts b2 (.row (Zm (r.form d.size)) 5 mm)] H):
  ZJ.j2 (fun v H'=>∃ M,iZO b p f n w (eZ9 f n d r) v M∧Hw.Sep M H') (some ⟨b,0,none⟩) ⟨b1,0,none⟩ (some ⟨b2,0,none⟩) d.size d.size 0 H:=by
 unfold ZJ.j2;refine Zq rfl ?_;refine(pZB (b:=b) (p:=p) (w:=w) hn hfn hok hrd h12).use hs [0,1] rfl rfl ?_;rintro _ _ H1 ⟨rfl,rfl⟩ hs;obtain⟨hok',hwr',hsy',hsz',_⟩:=oZU f n n 0 d [] hok;have hok':Ok (aZT f n d).2.1:=hok';have hwr':(aZT f n d).2.1.wr=d.wr:=hwr';have hsy':(aZT f n d).2.1.sy=d.sy:=hsy';have hsz':(aZT f n d).2.1.size=d.size:=hsz';have hj9:=fun(b1 b2 mm:Nat) (H:Hp) hs=>xZs (b:=b) (p:=p) (w:=w) hn hfn hok' (by rw[hwr',hsy'];exact hw) r hg b1 b2 mm H hs
 have hap:eZ9 f n d r=if(aZT f n d).1≠0 then((aZT f n d).1,(aZT f n d).2.1)else if cZG (eZk (aZT f n d)) r=false then(5,(aZT f n d).2.1)else mZo f n (aZT f n d).2.1 r:=by
  unfold eZ9;rw[if_neg (fun h=>h hg)]
 rw[hap];rw[hsz']at hj9;generalize eZk (aZT f n d)=lq at*;generalize aZT f n d=sc at*;obtain⟨e,d',l⟩:=sc;simp only at hj9 hs hok' hwr' hsy' hsz' h12⊢;simp only[HV];refine hs.nw fun b3 H hs=>?_
 refine hs.stw 4 (y:=(lq.getD bZh).c) rfl rfl rfl (eZ4 _) fun H hs=>?_;have hs:Hw.Sep [Dk p d',pts b (ZV p f n w),pts b1 (bZD r),pts b2 (.row (Zm (r.form d.size)) 5 mm),pts b3 (.obj (.cells (lq.getD bZh).c 102))] H:=hs;by_cases he:e≠0
 ·refine ZA he ?_;rw[if_pos he];exact⟨_,⟨rfl,rfl⟩,hs.re [0,1] rfl⟩
 refine Zq (by omega) ?_;rw[if_neg he];cases lq with
 |some q=>
  refine aZx rfl ?_;refine hs.ldw 4 rfl rfl ?_;refine hs.ldw 2 rfl rfl ?_;rw[Array.toArray_toList,Array.toArray_toList];refine Za.use (tZg q r H) ?_;simp only[HV];by_cases ha:after q r
  ·rw[decide_eq_true ha];refine aZc rfl (aZc rfl ?_);rw[if_neg (show ¬cZG (some q) r=false by show ¬(decide (after q r)=false);rw[decide_eq_true ha];decide)];exact hj9 b1 b2 mm H (hs.re [0,1,2,3] rfl)
  ·rw[decide_eq_false ha];refine aZx rfl ?_;rw[if_pos (show cZG (some q) r=false from decide_eq_false ha)];exact⟨_,⟨rfl,rfl⟩,hs.re [0,1] rfl⟩
 |none=>
  refine aZc rfl (aZx rfl ?_);refine hs.ldf 2 rfl rfl ?_;simp only[HV];by_cases h1:r.s=1
  ·refine Zq (by omega) ?_;refine hs.ldf 2 rfl rfl ?_;simp only[HV];by_cases h2:r.kd=1
   ·refine Zq h2 ?_;rw[if_neg (show ¬cZG none r=false by show ¬(decide (r.s=1∧r.kd=1)=false);rw[decide_eq_true ⟨h1,h2⟩];decide)];exact hj9 b1 b2 mm H (hs.re [0,1,2,3] rfl)
   ·refine ZA h2 ?_;rw[if_pos (show cZG none r=false from decide_eq_false fun h=>h2 h.2)];exact⟨_,⟨rfl,rfl⟩,hs.re [0,1] rfl⟩
  ·refine ZA (by omega) ?_;rw[if_pos (show cZG none r=false from decide_eq_false fun h=>h1 h.1)];exact⟨_,⟨rfl,rfl⟩,hs.re [0,1] rfl⟩
theorem rZq {b p f n:Nat}{w:Int}(hn:1≤n)(hfn:f+n≤1048576){d:D}(hok:Ok d)(hw:d.wr≤1000000∧d.sy≤1000000)(hrd:d.rd+n≤1000000)(h12:(aZT f n d).1=0→(aZT f n d).2.2.length≤12)(hsec:secB (d.size:Int)=true)(r:R)(hu:r.u32):
  Tr Tryz.prog 81 #[.pointer (some ⟨b,0,none⟩),.agg r.c] [Dk p d,pts b (ZV p f n w)] (iZO b p f n w (eZ9 f n d r)):=fun H hs=>by
 apply ZJ.ok;unfold ZJ ZJ.q1;have hsz:=hok.size;refine hs.nw fun b1 H hs=>?_
 have hs:Hw.Sep [Dk p d,pts b (ZV p f n w),pts b1 (bZD r)] H:=hs;have put:Za Tryz.prog 109 #[.agg r.c,.int .i64 (d.size:Int)] H fun v3 H3=>bZz v3 fun l2=>Zl l2 fun v4 l3=>DSl v4 fun A1 n1 m1=>Zl l3 fun v5 l4=>DI .i64 v5 fun x2=>ZR l4 (ZJ.j2 (fun v H'=>∃ M,iZO b p f n w (eZ9 f n d r) v M∧Hw.Sep M H') (some ⟨b,0,none⟩) ⟨b1,0,none⟩ A1 n1 m1 x2 H3):=by
  by_cases hg:r.good
  ·have hneed:(Lay.gZE 0 (d.size:Int)).2=0:=of_decide_eq_true hsec;refine(wZy r hg hu d.size hsz.1 hsz.2 hneed).use hs [] rfl rfl ?_;rintro _ _ H1 ⟨b2,rfl,rfl⟩ hs;rw[kZa r hsz.1]at hs;simp only[HV];have hs:Hw.Sep [pts b2 (.row (Zm (r.form d.size)) 5 (d.size*1)),Dk p d,pts b (ZV p f n w),pts b1 (bZD r)] H1:=hs;exact xZr hn hfn hok hw hrd h12 r hg b1 b2 _ H1 (hs.re [1,2,3,0] rfl)
  ·refine Za.use (nZ4 r (d.size:Int) (fun h=>hg h.1) H) ?_;simp only[HV];refine xZq (by decide) ?_;have:eZ9 f n d r=(10,d):=by unfold eZ9;rw[if_pos hg]
   rw[this];exact⟨_,⟨rfl,rfl⟩,hs.re [0,1] rfl⟩
 have lda:∀{K:List Value→Prop},K r.c.toList→LdA H (⟨b1,0,none⟩:Addr) 8 K:=fun k=>hs.ldw 2 rfl rfl k
 have ldd:∀{K:Value→Prop},K (.pointer (some ⟨p,0,none⟩))→Ld H ((⟨b,0,none⟩:Addr).add 3) K:=fun k=>hs.ldf 1 rfl rfl k
 have hS:=hZH hs 0 rfl;rw[aZY];refine⟨lda (ldd ?_),ldd ?_⟩
 ·simp only[HV];refine Za.use hS ?_;simp only[HV];exact put
 ·simp only[HV];refine⟨lda ?_,?_⟩
  ·refine Za.use hS ?_;simp only[HV];exact put
  ·refine Za.use hS ?_;simp only[HV];refine lda ?_;rw[Array.toArray_toList];exact put
end Go.Proofs.YtgfildcgihbdaaaGreatDoor.Rng
namespace Go.Proofs.YtgfildcgihbdaaaGreatDoor.Rng
open Go Go.Hw W Rec Srt Dsk
end Go.Proofs.YtgfildcgihbdaaaGreatDoor.Rng
namespace Go.Proofs.YtgfildcgihbdaaaGreatDoor.Rng
open Go Go.Hw W Rec Srt Dsk
def iZU (f:Nat):Nat→Nat→D→Int×D
 |0,_,d=>(d.syncE,d.syncD)
 |k+1,i,d=>if d.writeE ((f+i:Nat):Int) d.size≠0 then(d.writeE ((f+i:Nat):Int) d.size,d.writeD ((f+i:Nat):Int) (List.replicate d.size 0))else iZU f k (i+1) (d.writeD ((f+i:Nat):Int) (List.replicate d.size 0))
theorem nZp (d:D)(i:Int)(bs:List UInt8):(d.writeD i bs).sy=d.sy∧(d.writeD i bs).wr≤d.wr+1∧(d.writeD i bs).size=d.size:=by
 have hbr:=bZ6 d;unfold D.writeD;split
 ·exact⟨rfl,by omega,rfl⟩
 ·split
  ·exact⟨rfl,by omega,rfl⟩
  ·split
   ·exact⟨hbr.2.2.1,by omega,hbr.2.2.2.1⟩
   ·exact⟨hbr.2.2.1,Nat.le_refl _,hbr.2.2.2.1⟩
theorem eZ8 (n:Nat):aZv [Value.int .u8 0] n=Zm (List.replicate n 0):=by
 rw[bZw];simp[Zm]
theorem kZ6 {b p f n:Nat}{w:Int}(hfn:f+n≤1048576)(r:Int×D):∀(t i:Nat) (d:D) (H:Hp),i+t=n→Ok d→d.wr+t≤1000000→d.sy≤1000000→r=iZU f t i d→Hw.Sep [Dk p d,pts b (ZV p f n w)] H→
  ZN.l2 (fun v H'=>∃ M,iZO b p f n w r v M∧Hw.Sep M H') (t+1) (some ⟨b,0,none⟩) (n:Int) (i:Int) H
 |0,i,d,H,hi,hok,hwr,hsy,hr,hs=>by
  unfold ZN.l2 ZN.l2.q1;refine Zh (by omega) ?_
  try simp only[HS]
  refine hs.ld 1 rfl rfl ?_;simp only[HV]
  try simp only[HS]
  refine(hZz (p:=p) (d:=d) hok (by omega)).use hs [0] rfl rfl ?_;rintro _ _ H1 ⟨rfl,rfl⟩ hs;have hr:r=(d.syncE,d.syncD):=hr;rw[hr];simp only[HV];exact⟨_,⟨rfl,rfl⟩,hs⟩
 |t+1,i,d,H,hi,hok,hwr,hsy,hr,hs=>by
  unfold ZN.l2 ZN.l2.q1;refine Zn (by omega) ?_;have hsz:=hok.size;have hw:=nZp d ((f+i:Nat):Int) (List.replicate d.size 0);have hadd:i64.wrap ((f:Int)+(i:Int))=((f+i:Nat):Int):=by rw[ZG (by omega) (by omega)];omega
  have rest:∀ H1,Hw.Sep [Dk p (d.writeD ((f+i:Nat):Int) (List.replicate d.size 0)),pts b (ZV p f n w)] H1→
    BIf (d.writeE ((f+i:Nat):Int) d.size !=0) (∃ M,iZO b p f n w r (.int .i64 (d.writeE ((f+i:Nat):Int) d.size)) M∧Hw.Sep M H1) (ZN.l2 (fun v H'=>∃ M,iZO b p f n w r v M∧Hw.Sep M H') (t+1) (some ⟨b,0,none⟩) (n:Int) (i64.wrap ((i:Int)+1)) H1):=fun H1 hs=>by
   unfold iZU at hr;by_cases he:d.writeE ((f+i:Nat):Int) d.size≠0
   ·rw[if_pos he]at hr;refine ZA he ?_;rw[hr];exact⟨_,⟨rfl,rfl⟩,hs⟩
   ·rw[if_neg he]at hr;refine Zq (by omega) ?_;rw[ZG (x:=(i:Int)+1) (by omega) (by omega)];exact kZ6 hfn r t (i+1) _ H1 (by omega) (Ok.writeD hok _ _) (by omega) (by omega) hr hs
  try simp only[HS]
  refine hs.ld 1 rfl rfl ?_;simp only[HV]
  try simp only[HS]
  refine ZQ.use (hZH hs 0 rfl) ?_;simp only[HV]
  try simp only[HS]
  refine⟨?_,?_,?_⟩
  ·refine hs.ld 1 rfl rfl ?_;simp only[HV]
   try simp only[HS]
   refine⟨?_,?_⟩
   ·refine hs.ld 1 rfl rfl ?_;simp only[HV]
    try simp only[HS]
    rw[hadd];refine hs.mks eZv rfl (n:=d.size) (m:=d.size) rfl rfl (Nat.le_refl _) (by omega) (by omega) fun b2 H hs=>?_
    simp only[HV];rw[eZ8]at hs;have hs:Hw.Sep [Dk p d,pts b (ZV p f n w),pts b2 (.row (Zm (List.replicate d.size 0)) 5 (d.size*1))] H:=hs;refine(eZc (p:=p) (d:=d) hok (by omega) ((f+i:Nat):Int) (some ⟨b2,0,none⟩) d.size d.size (List.replicate d.size 0) (by rw[List.length_replicate]) (pts b2 (.row (Zm (List.replicate d.size 0)) 5 (d.size*1))) (fun H h=>?_)).use hs [0,2] rfl rfl ?_
    ·have:=Cells.row h 0 d.size;rw[List.drop_zero,List.take_of_length_le (by rw[ZL,List.length_replicate];omega)]at this;exact this
    rintro _ _ H1 ⟨rfl,rfl⟩ hs;simp only[HV];exact rest _ (hs.re [0,2] rfl)
   ·refine hs.mks eZv rfl (n:=d.size) (m:=d.size) rfl rfl (Nat.le_refl _) (by omega) (by omega) fun b2 H hs=>?_
    simp only[HV];rw[eZ8]at hs;have hs:Hw.Sep [Dk p d,pts b (ZV p f n w),pts b2 (.row (Zm (List.replicate d.size 0)) 5 (d.size*1))] H:=hs;refine hs.ld 1 rfl rfl ?_;simp only[HV]
    try simp only[HS]
    rw[hadd];refine(eZc (p:=p) (d:=d) hok (by omega) ((f+i:Nat):Int) (some ⟨b2,0,none⟩) d.size d.size (List.replicate d.size 0) (by rw[List.length_replicate]) (pts b2 (.row (Zm (List.replicate d.size 0)) 5 (d.size*1))) (fun H h=>?_)).use hs [0,2] rfl rfl ?_
    ·have:=Cells.row h 0 d.size;rw[List.drop_zero,List.take_of_length_le (by rw[ZL,List.length_replicate];omega)]at this;exact this
    rintro _ _ H1 ⟨rfl,rfl⟩ hs;simp only[HV];exact rest _ (hs.re [0,2] rfl)
  ·refine hs.ld 1 rfl rfl ?_;simp only[HV]
   try simp only[HS]
   rw[hadd];refine⟨?_,?_⟩
   ·refine hs.ld 1 rfl rfl ?_;simp only[HV]
    try simp only[HS]
    refine hs.mks eZv rfl (n:=d.size) (m:=d.size) rfl rfl (Nat.le_refl _) (by omega) (by omega) fun b2 H hs=>?_
    simp only[HV];rw[eZ8]at hs;have hs:Hw.Sep [Dk p d,pts b (ZV p f n w),pts b2 (.row (Zm (List.replicate d.size 0)) 5 (d.size*1))] H:=hs;refine(eZc (p:=p) (d:=d) hok (by omega) ((f+i:Nat):Int) (some ⟨b2,0,none⟩) d.size d.size (List.replicate d.size 0) (by rw[List.length_replicate]) (pts b2 (.row (Zm (List.replicate d.size 0)) 5 (d.size*1))) (fun H h=>?_)).use hs [0,2] rfl rfl ?_
    ·have:=Cells.row h 0 d.size;rw[List.drop_zero,List.take_of_length_le (by rw[ZL,List.length_replicate];omega)]at this;exact this
    rintro _ _ H1 ⟨rfl,rfl⟩ hs;simp only[HV];exact rest _ (hs.re [0,2] rfl)
   ·refine hs.mks eZv rfl (n:=d.size) (m:=d.size) rfl rfl (Nat.le_refl _) (by omega) (by omega) fun b2 H hs=>?_
    simp only[HV];rw[eZ8]at hs;have hs:Hw.Sep [Dk p d,pts b (ZV p f n w),pts b2 (.row (Zm (List.replicate d.size 0)) 5 (d.size*1))] H:=hs;refine hs.ld 1 rfl rfl ?_;simp only[HV]
    try simp only[HS]
    refine(eZc (p:=p) (d:=d) hok (by omega) ((f+i:Nat):Int) (some ⟨b2,0,none⟩) d.size d.size (List.replicate d.size 0) (by rw[List.length_replicate]) (pts b2 (.row (Zm (List.replicate d.size 0)) 5 (d.size*1))) (fun H h=>?_)).use hs [0,2] rfl rfl ?_
    ·have:=Cells.row h 0 d.size;rw[List.drop_zero,List.take_of_length_le (by rw[ZL,List.length_replicate];omega)]at this;exact this
    rintro _ _ H1 ⟨rfl,rfl⟩ hs;simp only[HV];exact rest _ (hs.re [0,2] rfl)
  ·refine hs.mks eZv rfl (n:=d.size) (m:=d.size) rfl rfl (Nat.le_refl _) (by omega) (by omega) fun b2 H hs=>?_
   simp only[HV];rw[eZ8]at hs;have hs:Hw.Sep [Dk p d,pts b (ZV p f n w),pts b2 (.row (Zm (List.replicate d.size 0)) 5 (d.size*1))] H:=hs;refine hs.ld 1 rfl rfl ?_;simp only[HV]
   try simp only[HS]
   refine hs.ld 1 rfl rfl ?_;simp only[HV]
   try simp only[HS]
   rw[hadd];refine(eZc (p:=p) (d:=d) hok (by omega) ((f+i:Nat):Int) (some ⟨b2,0,none⟩) d.size d.size (List.replicate d.size 0) (by rw[List.length_replicate]) (pts b2 (.row (Zm (List.replicate d.size 0)) 5 (d.size*1))) (fun H h=>?_)).use hs [0,2] rfl rfl ?_
   ·have:=Cells.row h 0 d.size;rw[List.drop_zero,List.take_of_length_le (by rw[ZL,List.length_replicate];omega)]at this;exact this
   rintro _ _ H1 ⟨rfl,rfl⟩ hs;simp only[HV];exact rest _ (hs.re [0,2] rfl)
theorem tZm {b p f n:Nat}{w:Int}(hfn:f+n≤1048576){d:D}(hok:Ok d)(hwr:d.wr+n≤1000000)(hsy:d.sy≤1000000):
  Tr Tryz.prog 48 #[.pointer (some ⟨b,0,none⟩)] [Dk p d,pts b (ZV p f n w)] (iZO b p f n w (iZU f n 0 d)):=fun H hs=>by
 apply ZN.ok;unfold ZN
 try simp only[HS]
 refine hs.ld 1 rfl rfl ?_;simp only[HV];exact⟨n+1,kZ6 hfn _ n 0 d H (by omega) hok hwr hsy rfl hs⟩
end Go.Proofs.YtgfildcgihbdaaaGreatDoor.Rng
namespace Go.Proofs.YtgfildcgihbdaaaGreatDoor.Rng
open Go Go.Hw W Rec Srt Dsk
structure Act where
 k:Int
 i:Int
 r:R
 A:OA
 n:Nat
 m:Nat
 ks:List Bool
 A':OA
 n':Nat
 m':Nat
 b:List UInt8
structure OkA (H:Hp)(a:Act):Prop where
 n:a.n=a.ks.length
 ks:Cells H a.A (bZ5 a.ks)
 n':a.n'=a.b.length
 b:Cells H a.A' (Zm a.b)
 i: -9223372036854775808≤a.i∧a.i≤9223372036854775807
 wf:a.r.wf
theorem OkA.le {H H':Hp}{a:Act}(h:OkA H a)(k:H.le H'):OkA H' a:=⟨h.n,h.ks.le k,h.n',h.b.le k,h.i,h.wf⟩
def short (a:Act):Prop:=a.n≤20∧a.n'≤100
end Go.Proofs.YtgfildcgihbdaaaGreatDoor.Rng
namespace Go.Proofs.YtgfildcgihbdaaaGreatDoor.Rng
open Go Go.Hw Rec Srt Dsk
theorem jZw (r:Int×D×List R):eZk r=none↔r.2.2=[]:=by
 unfold eZk;rw[List.getLast?_eq_none_iff];constructor
 ·intro h;have:=eZK (r.2.2.length-1) r.2.2;rw[h]at this;exact List.length_eq_zero_iff.1 this.symm
 ·intro h;rw[h];rfl
theorem mZ1 {r:Int×D×List R}{q:R}(h:eZk r=some q):q∈r.2.2∧∀ x∈r.2.2,x.s≤q.s:=by
 unfold eZk at h;have hp:=sZd r.2.2;have hs:=oZq r.2.2;generalize bZ1 r.2.2 (r.2.2.length-1)=l at*;obtain⟨p,rfl⟩:=List.getLast?_eq_some_iff.1 h;refine⟨hp.mem_iff.1 (by simp),fun x hx=>?_⟩;have hx2:=hp.mem_iff.2 hx;rw[List.pairwise_append]at hs;rcases List.mem_append.1 hx2 with h1|h1
 ·exact hs.2.2 x h1 q (by simp)
 ·have:x=q:=by simpa using h1
  rw[this];exact Nat.le_refl _
theorem tZR {r:Int×D×List R}{q:R}(hq:q∈r.2.2)(hm:∀ x∈r.2.2,x.s≤q.s)(hd:∀ x∈r.2.2,x.s=q.s→x=q):eZk r=some q:=by
 cases h:eZk r with
 |none=>rw[(jZw r).1 h]at hq;simp at hq
 |some y=>
  obtain⟨h1,h2⟩:=mZ1 h;have:=h2 q hq;have:=hm y h1;rw[hd y h1 (by omega)]
end Go.Proofs.YtgfildcgihbdaaaGreatDoor.Rng
namespace Go.Proofs.YtgfildcgihbdaaaGreatDoor.Eng
open Go Go.Hw Go.Form Dsk Str Rec Srt Rng
def stC (c:Cn)(f n:Nat):Nat→Nat→List R
 |0,_=>[]
 |k+1,i=>eZ6 f n (c ((f+i:Nat):Int)) i++stC c f n k (i+1)
def bZx (c:Cn)(k:Nat)(b:List UInt8):Cn:=fun i=>if i=(k:Int)then b else c i
def lastC (c:Cn)(f n:Nat):Option R:=eZk (0,(D.fresh 1 32),stC c f n n 0)
theorem oZt {d:D}{e:Int}{c:Cn}{f n:Nat}:eZk (e,d,stC c f n n 0)=lastC c f n:=rfl
theorem hZD (c:Cn)(f n:Nat)(x:R):∀ k i,x∈stC c f n k i↔∃ j,i≤j∧j<i+k∧x∈eZ6 f n (c ((f+j:Nat):Int)) j
 |0,i=>by
  constructor
  ·intro h;cases h
  ·rintro⟨j,h1,h2,_⟩;omega
 |k+1,i=>by
  show x∈_++_↔_
  rw[List.mem_append,hZD c f n x k (i+1)];constructor
  ·rintro(h|⟨j,h1,h2,h3⟩)
   ·exact⟨i,Nat.le_refl _,by omega,h⟩
   ·exact⟨j,by omega,by omega,h3⟩
  ·rintro⟨j,h1,h2,h3⟩;by_cases e:j=i
   ·subst e;exact .inl h3
   ·exact .inr ⟨j,by omega,by omega,h3⟩
theorem jZR {f n:Nat}{bs:List UInt8}{i:Nat}{x:R}:x∈eZ6 f n bs i↔(aZ2 bs).2=0∧aZS f n x.s=f+i∧x=(aZ2 bs).1:=by
 unfold eZ6;split
 ·rename_i h
  rw[List.mem_singleton];constructor
  ·rintro rfl;exact⟨h.1,h.2,rfl⟩
  ·rintro⟨_,_,h3⟩;exact h3
 ·rename_i h
  constructor
  ·intro h';cases h'
  ·rintro⟨h1,h2,rfl⟩;exact absurd ⟨h1,h2⟩ h
theorem lZU {d:D}{c:Cn}(h:Clean d c)(f n:Nat):∀(k i t:Nat) (acc:List R),f+i+k≤d.sec→d.fuse=0∨t<d.fuse→
  ((d.fuse=0∨t+k<d.fuse)∧cZP f n k i (D.rdG d t) acc=(0,D.rdG d (t+k),acc++stC c f n k i))∨(∃ j,j<t+k∧d.fuse=j+1∧cZP f n k i (D.rdG d t) acc=(8,D.dead (D.rdG d j),[]))
 |0,i,t,acc,hf,hl=>.inl ⟨hl,by show(0,D.rdG d t,acc)=_;rw[Nat.add_zero];show _=(0,D.rdG d t,acc++[]);rw[List.append_nil]⟩
 |k+1,i,t,acc,hf,hl=>by
  have hc:=h.rdG t;have hchk:(D.rdG d t).chk ((f+i:Nat):Int)=0:=gZu hc.down (Int.natCast_nonneg _) (by show _<(d.sec:Int);omega);unfold cZP;rw[if_neg (by rw[hchk];simp)];have hfu:(D.rdG d t).fuse=d.fuse-t:=rfl;by_cases hb:d.fuse-t=1
  ·rw[if_pos (by unfold D.burns;simp[hfu,hb]),eZI (by rw[hfu];exact hb)];exact .inr ⟨t,by omega,by omega,rfl⟩
  ·rw[if_neg (by unfold D.burns;simp[hfu,hb])];have e:D.red (D.rdG d t)=D.rdG d (t+1):=by
    unfold D.red;rw[eZf hc.down (by rw[hfu];exact hb)];exact oZQ d t
   rw[e,hc.now];rcases lZU h f n k (i+1) (t+1) (acc++eZ6 f n (c ((f+i:Nat):Int)) i) (by omega) (by omega)with⟨h1,h2⟩|⟨j,h1,h2,h3⟩
   ·refine .inl ⟨by omega,?_⟩;rw[h2,List.append_assoc,show t+1+k=t+(k+1) by omega];rfl
   ·exact .inr ⟨j,by omega,h2,h3⟩
theorem kZz {d:D}{c:Cn}(h:Clean d c)(f n:Nat)(hf:f+n≤d.sec):
  ((d.fuse=0∨n<d.fuse)∧aZT f n d=(0,D.rdG d n,stC c f n n 0))∨(∃ j,j<n∧d.fuse=j+1∧aZT f n d=(8,D.dead (D.rdG d j),[])):=by
 rcases lZU h f n n 0 0 [] (by omega) (by omega)with⟨h1,h2⟩|⟨j,h1,h2,h3⟩
 ·rw[Nat.zero_add]at h1 h2;exact .inl ⟨h1,h2⟩
 ·rw[Nat.zero_add]at h1;exact .inr ⟨j,h1,h2,h3⟩
theorem Prog.wrote {S:Int→Prop}{d:D}(h:Ok d)(hl:d.down=false)(hf:d.fuse≠1){i:Int}(hi:S i){bs:List UInt8}(hb:bs.length=d.size):Prog S d (d.wrote i bs) 0 1:=by
 have hbt:=eZf hl hf;have hbr:=bZ6 d;unfold D.wrote;refine⟨⟨h.burnt.sec,h.burnt.size,h.burnt.big,h.burnt.per,h.burnt.safe,fun k b hk=>?_,h.burnt.fz⟩,?_,?_,by omega,hbr.2.2.2.2.1,hbr.2.2.2.1,hbr.2.2.2.2.2.1,hbr.2.2.1,fun k hk=>?_,fun k hk=>?_,hbr.1,rfl⟩
 ·have hk':cZy d.cache i bs k=some b:=hk;show b.length=d.burnt.size
  rw[hbr.2.2.2.1];unfold cZy at hk';split at hk'
  ·cases hk';exact hb
  ·exact h.cache k b hk'
 ·show d.burnt.down=false;rw[hbt];exact hl
 ·show d.burnt.fuse=_;rw[hbt]
 ·have hne:k≠i:=fun e=>hk (e▸hi)
  show cZy d.cache i bs k=_
  unfold cZy;rw[if_neg hne]
 ·have hne:k≠i:=fun e=>hk (e▸hi)
  show hZ0 d.tch i k=_
  unfold hZ0;rw[if_neg hne]
def hZa (d:D)(k:Nat)(b:List UInt8):Int×D:=
 if d.writeE k d.size≠0 then(d.writeE k d.size,d.writeD k b)else((d.writeD k b).syncE,(d.writeD k b).syncD)
theorem jZF {d:D}{c:Cn}(h:Clean d c)(k:Nat)(hk:k<d.sec)(b:List UInt8)(hb:b.length=d.size):
  ∃ d',(hZa d k b=(0,d')∧bZA d d' 0 1 1∧Clean d' (bZx c k b))∨(hZa d k b=(8,d')∧Cut d d' 2∧Left d' fun c'=>c'=c∨c'=bZx c k b):=by
 have hchk:d.chk (k:Int)=0:=gZu h.down (Int.natCast_nonneg _) (by omega);unfold hZa;by_cases hf:d.fuse=1
 ·have hbn:d.burns=true:=by unfold D.burns;simp[hf]
  have e1:d.writeE k d.size=8:=by unfold D.writeE;rw[if_neg (by rw[hchk];simp),if_neg (by simp),hbn];rfl
  have e2:d.writeD k b=D.dead d:=by unfold D.writeD;rw[if_neg (by rw[hchk];simp),if_neg (by simp[hb]),hbn,eZI hf];rfl
  rw[e1,e2,if_pos (by decide)];refine⟨_,.inr ⟨rfl,⟨Ok.dead h.ok,h.dom,rfl,rfl,rfl,rfl,?_,Nat.le_refl _,Nat.le_refl _,Nat.le_refl _,by omega,by omega⟩,fun c' hc=>.inl (funext fun i=>?_)⟩⟩
  ·show d.rd+d.wr+d.sy+1=_;omega
  ·rcases hc i with e|e
   ·exact e.trans (h.sat i)
   ·exact e.trans (h.now i)
 ·have hbn:d.burns=false:=by unfold D.burns;exact decide_eq_false hf
  have e1:d.writeE k d.size=0:=by unfold D.writeE;rw[if_neg (by rw[hchk];simp),if_neg (by simp),hbn];rfl
  have e2:d.writeD k b=d.wrote k b:=by unfold D.writeD;rw[if_neg (by rw[hchk];simp),if_neg (by simp[hb]),hbn];rfl
  rw[e1,e2,if_neg (by simp)];have p:=Prog.wrote (S:=fun i=>i=(k:Int)) h.ok h.down hf rfl hb;have hnow:(d.wrote k b).now=bZx c k b:=funext fun i=>by
   unfold bZx;by_cases hi:i=(k:Int)
   ·rw[if_pos hi];show((cZy d.cache k b i)).getD _=b
    unfold cZy;rw[if_pos hi];rfl
   ·rw[if_neg hi];exact(h.prog p i).2 hi
  rcases h.sync p (fun i hi=>⟨by omega,by omega⟩)with⟨s1,s2,s3⟩|⟨s1,s2,s3⟩
  ·rw[hnow]at s3;exact⟨_,.inl ⟨by rw[s1],s2,s3⟩⟩
  ·refine⟨_,.inr ⟨by rw[s1],s2,s3.mono fun c' hc=>?_⟩⟩;rw[hnow]at hc;by_cases hk':c' (k:Int)=c k
   ·left
    funext i
    by_cases hi:i=(k:Int)
    ·rw[hi];exact hk'
    ·exact hc.2 i hi
   ·right
    funext i
    by_cases hi:i=(k:Int)
    ·rw[hi];exact(hc.1 _).resolve_left hk'
    ·rw[hc.2 i hi];unfold bZx;rw[if_neg hi]
theorem hZW {f n s:Nat}(hn:1≤n):f≤aZS f n s∧aZS f n s<f+n:=by
 have:=Nat.mod_lt (s-1) (show n>0 by omega);unfold aZS;omega
theorem rZK {d:D}{c:Cn}(h:Clean d c){f n:Nat}(hn:1≤n)(hf:f+n≤d.sec)(r:R):
  (¬r.good∧eZ9 f n d r=(10,d))∨
  (r.good∧∃ d',eZ9 f n d r=(8,d')∧Cut d d' n∧Left d' fun c'=>c'=c)∨
  (r.good∧cZG (lastC c f n) r=false∧∃ d',eZ9 f n d r=(5,d')∧bZA d d' n 0 0∧Clean d' c)∨
  (r.good∧cZG (lastC c f n) r=true∧∃ d',eZ9 f n d r=(8,d')∧Cut d d' (n+2)∧Left d' fun c'=>c'=c∨c'=bZx c (aZS f n r.s) (r.form d.size))∨
  (r.good∧cZG (lastC c f n) r=true∧∃ d',eZ9 f n d r=(0,d')∧bZA d d' n 1 1∧Clean d' (bZx c (aZS f n r.s) (r.form d.size))):=by
 by_cases hg:r.good
 ·right;have e0:eZ9 f n d r=if(aZT f n d).1≠0 then((aZT f n d).1,(aZT f n d).2.1)else if cZG (eZk (aZT f n d)) r=false then(5,(aZT f n d).2.1)else mZo f n (aZT f n d).2.1 r:=by
   unfold eZ9;rw[if_neg (fun h=>h hg)]
  rcases kZz h f n hf with⟨h1,h2⟩|⟨j,h1,h2,h3⟩
  ·right;rw[h2,oZt,if_neg (by simp)]at e0;have hw:=bZA.rdG h1;have hc:=h.rdG n;cases hm:cZG (lastC c f n) r with
   |false=>
    left;rw[if_pos hm]at e0;exact⟨hg,rfl,_,e0,hw,hc⟩
   |true=>
    right;rw[if_neg (by rw[hm];simp)]at e0;have hsl:=hZW (f:=f) (s:=r.s) hn;have hp:=jZF hc (aZS f n r.s) (by show _<d.sec;omega) (r.form d.size) (jZH r h.ok.size.1);have e1:mZo f n (D.rdG d n) r=hZa (D.rdG d n) (aZS f n r.s) (r.form d.size):=rfl;rw[e1]at e0;obtain⟨d',⟨e2,h4,h5⟩|⟨e2,h4,h5⟩⟩:=hp
    ·exact .inr ⟨hg,rfl,d',e0.trans e2,by have:=hw.trans h4;simpa using this,h5⟩
    ·exact .inl ⟨hg,rfl,d',e0.trans e2,by have:=hw.cut h4;simpa using this,h5⟩
  ·left;rw[h3,if_pos (by show(8:Int)≠0;decide)]at e0;exact⟨hg,_,e0,Cut.rdG h h2 h1,Left.rdG h j⟩
 ·left;exact⟨hg,by unfold eZ9;rw[if_pos hg]⟩
theorem tZT {c:Cn}{f n size:Nat}(hn:1≤n)(hsz:32≤size)(hsec:secB (size:Int)=true){r:R}(hg:r.good)(hu:r.u32)(hm:cZG (lastC c f n) r=true):
  lastC (bZx c (aZS f n r.s) (r.form size)) f n=some r:=by
 have hsl:=hZW (f:=f) (s:=r.s) hn;have ht:=rZd r hg hu hsz hsec;have hstand:∀ j,j<n→∀ x,x∈eZ6 f n (bZx c (aZS f n r.s) (r.form size) ((f+j:Nat):Int)) j→x=r∨x∈stC c f n n 0:=fun j hj x hx=>by
  unfold bZx at hx;by_cases e:((f+j:Nat):Int)=(aZS f n r.s:Nat)
  ·rw[if_pos e,jZR,ht]at hx;exact .inl hx.2.2
  ·rw[if_neg e]at hx;exact .inr ((hZD c f n x n 0).2 ⟨j,Nat.zero_le _,by omega,hx⟩)
 have hless:∀ x∈stC c f n n 0,x.s<r.s:=fun x hx=>by
  unfold cZG at hm;cases hq:lastC c f n with
  |none=>
   have e:stC c f n n 0=[]:=(jZw _).1 hq;rw[e]at hx;cases hx
  |some q=>
   rw[hq]at hm;have ha:after q r:=of_decide_eq_true hm;have:=(mZ1 hq).2 x hx;have:=ha.2.2.1;omega
 refine tZR (q:=r) ?_ (fun x hx=>?_) fun x hx e=>?_
 ·refine(hZD _ f n r n 0).2 ⟨aZS f n r.s-f,Nat.zero_le _,by omega,?_⟩;rw[show f+(aZS f n r.s-f)=aZS f n r.s by omega,jZR];unfold bZx;rw[if_pos rfl,ht];exact⟨rfl,by omega,rfl⟩
 ·obtain⟨j,_,h2,h3⟩:=(hZD _ f n x n 0).1 hx;rcases hstand j (by omega) x h3 with e|e
  ·rw[e];exact Nat.le_refl _
  ·exact Nat.le_of_lt (hless x e)
 ·obtain⟨j,_,h2,h3⟩:=(hZD _ f n x n 0).1 hx;rcases hstand j (by omega) x h3 with e'|e'
  ·exact e'
  ·have:=hless x e';omega
end Go.Proofs.YtgfildcgihbdaaaGreatDoor.Eng
namespace Go.Proofs.YtgfildcgihbdaaaGreatDoor.Sup
open Go Go.Hw Go.Form W Lay
theorem nZ0 (s:Int)(hs:0<ZD s)(H:Hp):Za Tryz.prog 148 #[.int .u64 s] H (RetE (.int .i64 (cZf s+1)) H):=by
 apply cZM.ok;unfold cZM;refine Za.use (v:=.int .i64 (cZf s+1)) ?_ (RetE.mk _ _);apply aZn.ok;have:s=32∨s=64∨s=128∨s=256∨s=512∨s=1024∨s=2048∨s=4096:=by
  unfold ZD at hs
  repeat' split at hs
  all_goals omega
 unfold aZn;rcases this with rfl|rfl|rfl|rfl|rfl|rfl|rfl|rfl
 all_goals
  refine aZc rfl ?_;unfold aZn.j4;refine aZc rfl ?_;unfold aZn.j7
  first
   |(refine aZx rfl ⟨by decide,by decide,?_⟩;refine sZe (by decide) ?_;exact RetE.of rfl)
   |(refine aZc rfl ⟨by decide,?_⟩;refine sZe (by decide) ?_;exact RetE.of rfl)
def bZy (k:Nat)(s:Int):Nat:=4702392716946833408+k*65536+(cZf s).toNat
def gZl (k sec s ar:Int):List UInt64:=[UInt64.ofNat (bZy k.toNat s),UInt64.ofNat sec.toNat,UInt64.ofNat ar.toNat]
def hZc (k sec s ar:Int):List UInt64:=gZl k sec s ar++[UInt64.ofNat (Go.Crc.sum (form (gZl k sec s ar))).toNat]
def bZY (k sec s ar:Int):List UInt8:=form (hZc k sec s ar)++List.replicate (s.toNat-32) 0
theorem sZn (s:Int):cZf s≤12:=by
 rcases hZB s with h|h<;>omega
theorem oZk (k:Nat)(sec s ar:Int)(hk:k≤65535)(hs:0<ZD s)(H:Hp):Za Tryz.prog 102 #[.agg (bZo k sec s ar)] H (RetE (.int .u64 ((UInt64.ofNat (bZy k s)).toNat:Int)) H):=by
 apply Za.ret;apply fZy.ok;unfold fZy;simp only[HS];refine(Sep.start H).nw fun b1 H hs'=>?_
 have hs0:=hs;have hs:=hs';have h1:=hZB s;have h2:=iZE s
 first|refine hs.ld 1 rfl rfl ?_|refine hs.ld 2 rfl rfl ?_|refine hs.ld 3 rfl rfl ?_|refine hs.ld 4 rfl rfl ?_|refine hs.ld 5 rfl rfl ?_|refine hs.ld 6 rfl rfl ?_|refine hs.ld 7 rfl rfl ?_|refine hs.ld 8 rfl rfl ?_
 try simp only[HV]
 refine⟨by omega,?_⟩
 first|refine hs.ld 1 rfl rfl ?_|refine hs.ld 2 rfl rfl ?_|refine hs.ld 3 rfl rfl ?_|refine hs.ld 4 rfl rfl ?_|refine hs.ld 5 rfl rfl ?_|refine hs.ld 6 rfl rfl ?_|refine hs.ld 7 rfl rfl ?_|refine hs.ld 8 rfl rfl ?_
 try simp only[HV]
 rw[eZp (x:=s) (by omega) (by omega)];refine ZQ.use (nZ0 s hs0 H) ?_
 try simp only[HV]
 have h3:bZy k s<2^64:=by unfold bZy;omega
 rw[show cZf s+1-1=cZf s by omega,ZG (x:=cZf s) (by omega) (by omega),eZp (x:=cZf s) (by omega) (by omega),cZg (n:=k) (by omega)];rw[rZb (i:=(16:Int)) (n:=16) rfl (by omega),Nat.mod_eq_of_lt (by omega)];obtain⟨g,hg⟩:=Int.eq_ofNat_of_zero_le (show 0≤cZf s by omega);have h4:k*2^16<2^64:=by omega
 rw[show(4702392716946833408:Int)=((4702392716946833408:Nat):Int)from rfl,orN (by omega) h4,hg,orN (nZN (by omega) h4) (by omega)];have e1:∀ q,q=4702392716946833408→q|||k*2^16=q+k*2^16:=fun q hq=>by
  have h5:∀ p,p=1094861123→p*2^32=q:=fun p hp=>by omega
  have:=Nat.shiftLeft_add_eq_or_of_lt (show k*2^16<2^32 by omega) 1094861123;rw[Nat.shiftLeft_eq,h5 _ rfl]at this;exact this.symm
 have e2:∀ q,q=4702392716946833408+k*2^16→q|||g=q+g:=fun q hq=>by
  have h5:∀ p,p=1094861123*2^16+k→p*2^16=q:=fun p hp=>by omega
  have:=Nat.shiftLeft_add_eq_or_of_lt (show g<2^16 by omega) (1094861123*2^16+k);rw[Nat.shiftLeft_eq,h5 _ rfl]at this;exact this.symm
 have e3:4702392716946833408+k*2^16+g=bZy k s:=by unfold bZy;rw[hg];rfl
 rw[e1 _ rfl,e2 _ rfl,e3];rw[show(UInt64.ofNat (bZy k s)).toNat=bZy k s from UInt64.toNat_ofNat_of_lt' h3];exact hs.fin 0 rfl _
theorem jZb (k sec s ar:Int):(hZc k sec s ar).length=4:=rfl
theorem iZ9 (k sec s ar:Int)(hs:0<ZD s):((bZY k sec s ar).length:Int)=s:=by
 have h1:=hZB s;unfold bZY;rw[List.length_append,aZ8,jZb,List.length_replicate];have:4≤ZD s:=by
  rcases h1 with h|h
  ·rw[h.2.2.2.2];have:2^2≤2^(cZf s-3).toNat:=Nat.pow_le_pow_right (by omega) (by omega);omega
  ·omega
 omega
theorem bZ7 :bZi Tryz.prog 82=some (1,8,some #[.int .u64 0]):=by kernel_rfl
theorem oZf :bZi Tryz.prog 5=some (1,1,some #[.int .u8 0]):=by kernel_rfl
theorem nZ4 (k sec s ar:Int)(h:aZ3 k sec s ar=false)(H:Hp):Za Tryz.prog 77 #[.agg (bZo k sec s ar)] H (RetE (.tuple #[.slice none 0 0,.int .i64 1]) H):=by
 apply Za.ret;apply eZt.ok;unfold eZt;refine(Sep.start H).nw fun b1 H hs=>?_
 first|refine hs.ldw 1 rfl rfl ?_|refine hs.ldw 2 rfl rfl ?_|refine hs.ldw 3 rfl rfl ?_|refine hs.ldw 4 rfl rfl ?_|refine hs.ldw 5 rfl rfl ?_|refine hs.ldw 6 rfl rfl ?_|refine hs.ldw 7 rfl rfl ?_|refine hs.ldw 8 rfl rfl ?_
 try simp only[HV]
 refine Za.use (bZR k sec s ar H) ?_
 try simp only[HV]
 rw[h];exact hs.fin 0 rfl _
theorem eZQ {x:Nat}(h:x<2^64):(UInt64.ofNat x).toNat=x:=UInt64.toNat_ofNat_of_lt' h
theorem Put_ok (k sec s ar:Int)(h:aZ3 k sec s ar=true)(hsec:sec≤9223372036854775807):Tr Tryz.prog 77 #[.agg (bZo k sec s ar)] [] fun v M=>∃ b,v= .tuple #[.slice (some ⟨b,0,none⟩) s.toNat s.toNat,.int .i64 0]∧M=[pts b (.row (Zm (bZY k sec s ar)) 5 s.toNat)]:=fun H _=>by
 have hg:=h;unfold aZ3 at hg;simp only[decide_eq_true_eq]at hg;obtain⟨h1,h2,h3,h4,h5,h6⟩:=hg;obtain⟨kn,rfl⟩:=Int.eq_ofNat_of_zero_le h1;have hp:=iZE s;have hlog:=hZB s;have hlen:=iZ9 kn sec s ar h3;apply eZt.ok;unfold eZt;simp only[HS];refine(Sep.start H).nw fun b1 H hs=>?_
 first|refine hs.ldw 1 rfl rfl ?_|refine hs.ldw 2 rfl rfl ?_|refine hs.ldw 3 rfl rfl ?_|refine hs.ldw 4 rfl rfl ?_|refine hs.ldw 5 rfl rfl ?_|refine hs.ldw 6 rfl rfl ?_|refine hs.ldw 7 rfl rfl ?_|refine hs.ldw 8 rfl rfl ?_
 try simp only[HV]
 refine Za.use (bZR kn sec s ar H) ?_
 try simp only[HV]
 rw[h];simp only[HV]
 first|refine hs.ldw 1 rfl rfl ?_|refine hs.ldw 2 rfl rfl ?_|refine hs.ldw 3 rfl rfl ?_|refine hs.ldw 4 rfl rfl ?_|refine hs.ldw 5 rfl rfl ?_|refine hs.ldw 6 rfl rfl ?_|refine hs.ldw 7 rfl rfl ?_|refine hs.ldw 8 rfl rfl ?_
 try simp only[HV]
 refine ZQ.use (oZk kn sec s ar (by omega) h3 H) ?_
 try simp only[HV]
 first|refine hs.ld 1 rfl rfl ?_|refine hs.ld 2 rfl rfl ?_|refine hs.ld 3 rfl rfl ?_|refine hs.ld 4 rfl rfl ?_|refine hs.ld 5 rfl rfl ?_|refine hs.ld 6 rfl rfl ?_|refine hs.ld 7 rfl rfl ?_|refine hs.ld 8 rfl rfl ?_
 try simp only[HV]
 first|refine hs.ld 1 rfl rfl ?_|refine hs.ld 2 rfl rfl ?_|refine hs.ld 3 rfl rfl ?_|refine hs.ld 4 rfl rfl ?_|refine hs.ld 5 rfl rfl ?_|refine hs.ld 6 rfl rfl ?_|refine hs.ld 7 rfl rfl ?_|refine hs.ld 8 rfl rfl ?_
 try simp only[HV]
 rw[eZp (x:=sec) (by omega) (by omega),eZp (x:=ar) (by omega) (by omega)];have hw:([.int .u64 ((UInt64.ofNat (bZy kn s)).toNat:Int),.int .u64 sec,.int .u64 ar]:List Value)=Zc (gZl kn sec s ar):=by
  unfold gZl Zc;simp only[List.map_cons,List.map_nil,Int.toNat_natCast];rw[eZQ (x:=sec.toNat) (by omega),eZQ (x:=ar.toNat) (by omega)];rw[show((sec.toNat:Nat):Int)=sec by omega,show((ar.toNat:Nat):Int)=ar by omega]
 rw[hw];refine hs.nw fun b2 H hs=>?_
 first|refine hs.ld 1 rfl rfl ?_|refine hs.ld 2 rfl rfl ?_|refine hs.ld 3 rfl rfl ?_|refine hs.ld 4 rfl rfl ?_|refine hs.ld 5 rfl rfl ?_|refine hs.ld 6 rfl rfl ?_|refine hs.ld 7 rfl rfl ?_|refine hs.ld 8 rfl rfl ?_
 try simp only[HV]
 refine hs.mks oZf rfl (n:=s.toNat) (m:=s.toNat) (by omega) (by omega) (Nat.le_refl _) (by omega) (by omega) fun bo H hs=>?_
 simp only[HV];have hc2:∀ H,H b2=some (.row (Zc (gZl kn sec s ar)) 82 3)→Cells H (some ⟨b2,0,none⟩) (Zc (gZl kn sec s ar)):=fun H hb=>Cells.row hb 0 3
 refine Za.use (CrcP.iZP (some ⟨b2,0,none⟩) 3 3 (gZl kn sec s ar) rfl (by omega) H (hc2 H (hs.get 2 rfl))) ?_
 try simp only[HV]
 have hsum:=(Go.Crc.sum (form (gZl kn sec s ar))).isLt;rw[cZg (n:=(Go.Crc.sum (form (gZl kn sec s ar))).toNat) (by omega)];have hs:Sep [own _,pts b1 _,Own 82 1 (some ⟨b2,0,none⟩) 3 3 (Zc (gZl kn sec s ar)),pts bo (.row (aZv [.int .u8 0] s.toNat) 5 (s.toNat*1))] H:=hs.turn 2 rfl fun H1 hH=>⟨rfl,.inr ⟨b2,3,rfl,hH,by omega⟩⟩
 refine hs.app1 2 (by rfl) bZ7 (by omega) (by rfl) (by omega) (by omega) fun A' m' H hs=>?_
 simp only[HV];have hw4:Zc (gZl kn sec s ar)++[.int .u64 ((Go.Crc.sum (form (gZl kn sec s ar))).toNat:Int)]=Zc (hZc kn sec s ar):=by
  unfold hZc Zc;rw[List.map_append];congr 1;simp only[List.map_cons,List.map_nil];rw[eZQ (by omega)]
 rw[hw4]at hs;have hc4:Cells H A' (Zc (hZc kn sec s ar)):=by
  obtain⟨_,h7⟩:=hs.own 2 rfl;rcases h7 with⟨_,h8,_⟩|⟨b,mm,rfl,h8,_⟩
  ·omega
  ·exact Cells.row h8 0 4
 refine(FormP.Put_ok A' 4 m' (hZc kn sec s ar) rfl (by omega) H hc4).mono ?_;rintro v H' ⟨b4,hb4,rfl,rfl⟩;have hs:=hs.new hb4 (.row (Zm (form (hZc kn sec s ar))) 5 (8*4));simp only[HV];have hf:(form (hZc kn sec s ar)).length=32:=by rw[aZ8];rfl
 have hmin:Nat.min 32 s.toNat=32:=by
  have:4≤ZD s:=by
   rcases hlog with h|h
   ·rw[h.2.2.2.2];have:2^2≤2^(cZf s-3).toNat:=Nat.pow_le_pow_right (by omega) (by omega);omega
   ·omega
  exact Nat.min_eq_left (by omega)
 refine hs.cp 3 (k:=32) (n:=s.toNat) (ys:=Zm (form (hZc kn sec s ar))) (by rfl) oZf rfl ?_ ?_ (fun y hy=>?_) fun H hs=>?_
 ·rw[hmin];refine jZP ?_ (by rw[ZL,hf]);have:=Cells.row (hs.get 4 (b:=b4) (o:=.row (Zm (form (hZc kn sec s ar))) 5 (8*4)) rfl) 0 32;rw[List.drop_zero,List.take_of_length_le (by rw[ZL,hf];exact Nat.le_refl _)]at this;exact this
 ·rw[ZL,hf,bZI];rw[← hmin];simp;exact Nat.min_le_right _ _
 ·obtain⟨x,_,rfl⟩:=List.mem_map.1 hy;rfl
 simp only[HV];refine⟨_,⟨bo,rfl,rfl⟩,?_⟩;have hs:=hs.re [3] rfl;have e:setAt (aZv [.int .u8 0] s.toNat) 0 (Zm (form (hZc kn sec s ar)))=Zm (bZY kn sec s ar):=by
  unfold bZY;rw[hZ7,bZw];unfold setAt;rw[ZL,hf];simp[Zm]
 rw[e,Nat.mul_one]at hs;exact hs
end Go.Proofs.YtgfildcgihbdaaaGreatDoor.Sup
namespace Go.Proofs.YtgfildcgihbdaaaGreatDoor.Sup
open Go Go.Hw Go.Form W Lay
theorem iZg (A:OA)(n m:Nat)(H:Hp):Za Tryz.prog 135 #[.slice A n m] H (RetE (.bool (decide (0<ZD n))) H):=by
 apply eZW.ok;unfold eZW;refine Za.use (jZ0 0 n H) ?_
 try simp only[HV]
 unfold gZE;by_cases h:0<ZD n
 ·rw[if_pos (by omega)];exact RetE.of (by simp[h])
 ·rw[if_neg (by omega)];exact RetE.of (by simp[h])
def iZC (bs:List UInt8):Bool:=(bs.drop 32).all (· ==0)
theorem xZE (b:UInt8):((b.toNat:Int) !=0)= !(b==0):=by
 by_cases h:b=0
 ·subst h;rfl
 ·have:b.toNat≠0:=fun e=>h (UInt8.toNat_inj.1 (by rw[e];rfl))
  have h2:(b==0)=false:=by simpa using h
  rw[h2];simp;omega
theorem kZm (K:VK)(A:OA)(n m:Nat)(bs:List UInt8)(hn:n=bs.length)(hm:n≤9000000000000000000)(H:Hp)(hb:Cells H A (Zm bs))(r:Bool)(hK:K (.bool (bs.all (· ==0))) H):∀ d j:Nat,j+d=n→(bs.take j).all (· ==0)=true→
  aZA.l2 K (d+1) A n m (n:Int) (j:Int) H
 |0,j,hj,h0=>by
  unfold aZA.l2;refine Zh (by omega) ?_;rw[List.take_of_length_le (by omega)]at h0;rw[h0]at hK;exact hK
 |d+1,j,hj,h0=>by
  unfold aZA.l2;refine Zn (by omega) ?_;have hlt:j<bs.length:=by omega
  refine hb.read (i:=j) (v:=.int .u8 (bs[j].toNat:Int)) (by rw[hZK,List.getElem?_eq_getElem hlt];rfl) rfl (by rw[ZL];omega) ?_;simp only[HV];rw[xZE];by_cases h:bs[j]=0
  ·refine aZc (by simp[h]) ?_;rw[ZG (by omega) (by omega)];refine kZm K A n m bs hn hm H hb r hK d (j+1) (by omega) ?_;rw[List.take_succ_eq_append_getElem hlt,List.all_append,h0];simp[h]
  ·refine aZx (by simp[h]) ?_;have:bs.all (· ==0)=false:=by
    rw[List.all_eq_false];exact⟨bs[j],List.getElem_mem hlt,by simpa using h⟩
   rw[this]at hK;exact hK
theorem rZP (A:OA)(n m:Nat)(hnm:n≤m)(bs:List UInt8)(hn:n=bs.length)(h32:32≤n)(hm:n≤9000000000000000000)(H:Hp)(hb:Cells H A (Zm bs)):
  Za Tryz.prog 137 #[.slice A n m] H (RetE (.bool (iZC bs)) H):=by
 apply aZA.ok;unfold aZA;refine⟨by omega,by omega,n-32+1,?_⟩;have h1:=hb.shift (m:=m) (l:=32) (by rw[ZL];omega);rw[show(Zm bs).drop 32=Zm (bs.drop 32) by unfold Zm;rw[List.map_drop]]at h1;exact kZm _ _ (n-32) (m-32) (bs.drop 32) (by simp;omega) (by omega) H h1 true (RetE.mk _ _) (n-32) 0 (by omega) rfl
abbrev Sb :=Int×Int×Int×Int
def sbV (x:Sb):Array Value:=bZo x.1 x.2.1 x.2.2.1 x.2.2.2
def mZe (a b c:Nat):Nat:=(Go.Crc.sum (form [UInt64.ofNat a,UInt64.ofNat b,UInt64.ofNat c])).toNat
def eZz (bs:List UInt8):Sb:=(((Zs bs 0/65536%65536:Nat):Int),i64.wrap (Zs bs 8:Nat),((bs.length:Nat):Int),i64.wrap (Zs bs 16:Nat))
def aZ2 (bs:List UInt8):Sb×Int:=
 if ZD bs.length=0 then((0,0,0,0),15)
 else if Zs bs 0/4294967296≠1094861123∨iZC bs=false then((0,0,0,0),10)
 else if Zs bs 24≠mZe (Zs bs 0) (Zs bs 8) (Zs bs 16)then((0,0,0,0),9)
 else if aZ3 (eZz bs).1 (eZz bs).2.1 (eZz bs).2.2.1 (eZz bs).2.2.2=true∧((Zs bs 0%65536:Nat):Int)=cZf bs.length then(eZz bs,0)
 else((0,0,0,0),1)
theorem sZ7 (bs:List UInt8):([.int .u64 (Zs bs 0:Nat),.int .u64 (Zs bs 8:Nat),.int .u64 (Zs bs 16:Nat)]:List Value)=Zc [UInt64.ofNat (Zs bs 0),UInt64.ofNat (Zs bs 8),UInt64.ofNat (Zs bs 16)]:=by
 unfold Zc;simp only[List.map_cons,List.map_nil];rw[eZQ (cZT bs 0),eZQ (cZT bs 8),eZQ (cZT bs 16)]
theorem vZo (a b c:Nat):mZe a b c<2^32:=(Go.Crc.sum _).isLt
theorem oZz {n:Int}(h:0<ZD n):n=((2^(cZf n).toNat:Nat):Int)∧5≤cZf n∧cZf n≤12:=by
 unfold ZD at h;unfold cZf
 repeat' split
 all_goals first|(subst_vars;refine⟨by decide,by decide,by decide⟩)|skip
 repeat' split at h
 all_goals omega
theorem sZR {t:Nat}(h:t≤62):aZE .i64 1 (t:Int)=((2^t:Nat):Int):=gZz h
theorem tZS {a:Nat}(ha:a<2^64)(hm:a/4294967296=1094861123){sec ar n:Int}(hn:0<ZD n):
  (aZ3 ((a/65536%65536:Nat):Int) sec (aZE .i64 1 ((a%64:Nat):Int)) ar=true∧bZy (a/65536%65536) (aZE .i64 1 ((a%64:Nat):Int))=a∧aZE .i64 1 ((a%64:Nat):Int)=n)↔
   (aZ3 ((a/65536%65536:Nat):Int) sec n ar=true∧((a%65536:Nat):Int)=cZf n):=by
 obtain⟨h1,h2,h3⟩:=oZz hn;constructor
 ·rintro⟨g1,g2,g3⟩;rw[g3]at g1 g2;refine⟨g1,?_⟩;unfold bZy at g2;omega
 ·rintro⟨g1,g2⟩;obtain⟨t,ht⟩:=Int.eq_ofNat_of_zero_le (show 0≤cZf n by omega);have h64:a%64=t:=by omega
  have hv:aZE .i64 1 ((a%64:Nat):Int)=n:=by
   rw[h64,sZR (by omega),h1,ht];rfl
  rw[hv];refine⟨g1,?_,rfl⟩;unfold bZy;rw[ht]at g2⊢;have:(Int.toNat (t:Int))=t:=Int.toNat_natCast t;rw[this];omega
theorem hZv (K:VK)(d b1 b2:Nat)(A:OA)(n m:Nat)(hnm:n≤m)(hm:n≤9000000000000000000)(bs:List UInt8)(hn:n=bs.length)(h32:32≤n)(H0 H:Hp)(hb:Cells H0 A (Zm bs))(c:Array Value)(hc:c.size=4)(z:Array Value)(e1 e2:TypeId)(i:Nat)(hi:i<4)
  (hs:Sep [own H0,pts b1 (.obj (.cells z e1)),pts b2 (.obj (.cells c e2))] H)
  (k:∀ H,Sep [own H0,pts b1 (.obj (.cells z e1)),pts b2 (.obj (.cells (c.setIfInBounds i (.int .u64 (Zs bs (8*i):Nat))) e2))] H→aZm.l5 K d A n m ⟨b1,0,none⟩ ⟨b2,0,none⟩ ((i+1:Nat):Int) H):
  aZm.l5 K (d+1) A n m ⟨b1,0,none⟩ ⟨b2,0,none⟩ (i:Int) H:=by
 conv=>unfold aZm.l5 aZm.l5.q1
 refine Zn (by omega) ?_;refine Za.use (FormP.Word_ok A n m hnm hm bs hn i (by omega) H (hb.le (hs.ow 0 rfl))) ?_
 try simp only[HV]
 refine hs.stx 2 rfl (j:=i) rfl hi (by omega) rfl fun H hs=>?_;rw[ZG (x:=(i:Int)+1) (by omega) (by omega)];exact k H hs
theorem fZM (K:VK){L:List As}{H:Hp}(hs:Sep L H){b1:Nat}{z:Array Value}{e1:TypeId}(i:Nat)(hi:L[i]? =some (pts b1 (.obj (.cells z e1))))(hz:z.size=4)(e:Int)(y:Array Value)(hy:y.size=4)(hv:y.toList.all (fun v=>v.oneCell')=true)
  (hK:∀ H,Sep (L.set i (pts b1 (.obj (.cells y e1)))) H→K (.tuple #[.agg y,.int .i64 e]) H):StA H (⟨b1,0,none⟩:Addr) y 4 fun H3=>LdA H3 (⟨b1,0,none⟩:Addr) 4 fun l7=>K (.tuple #[.agg l7.toArray,.int .i64 e]) H3:=by
 refine hs.stw i hi hz hy hv fun H hs=>?_;have hlt:=(List.getElem?_eq_some_iff.1 hi).1;refine hs.ldw i (b:=b1) (c:=y) (e:=e1) (by rw[List.getElem?_set];simp[hlt]) hy ?_;rw[Array.toArray_toList];exact hK H hs
theorem iZu (A:OA)(n m:Nat)(hnm:n≤m)(hm:n≤9000000000000000000)(bs:List UInt8)(hn:n=bs.length)(H:Hp)(hb:Cells H A (Zm bs)):
  Za Tryz.prog 92 #[.slice A n m] H (RetE (.tuple #[.agg (sbV (aZ2 bs).1),.int .i64 (aZ2 bs).2]) H):=by
 apply Za.ret;apply aZm.ok;unfold aZm;refine(Sep.start H).nw fun b1 H' hs=>?_
 have fin:∀{L:List As} {H':Hp} (x:Sb) (e:Int),Sep L H'→L[0]? =some (own H)→aZ2 bs=(x,e)→Ret (.tuple #[.agg (sbV (aZ2 bs).1),.int .i64 (aZ2 bs).2]) H (.tuple #[.agg (sbV x),.int .i64 e]) H':=fun x e hs h0 he=>by
  rw[he];exact hs.fin 0 h0 _
 refine Za.use (iZg A n m H') ?_
 try simp only[HV]
 by_cases hp:ZD (n:Int)=0
 ·refine aZx (by simp;omega) ?_;refine fZM _ hs 1 rfl rfl 15 _ rfl rfl fun H' hs=>fin (0,0,0,0) 15 hs rfl ?_
  unfold aZ2;rw[← hn,if_pos hp]
 refine aZc (by simp;omega) ?_;refine hs.nw fun b2 H' hs=>?_
 have hp':0<ZD (n:Int):=by omega
 have h32:32≤n:=by
  obtain⟨h1,h2,h3⟩:=oZz hp';have:2^5≤2^(cZf n).toNat:=Nat.pow_le_pow_right (by omega) (by omega);omega
 refine⟨5,?_⟩;refine hZv _ 4 b1 b2 A n m hnm hm bs hn h32 H H' hb _ rfl _ _ _ 0 (by omega) hs fun H' hs=>?_
 refine hZv _ 3 b1 b2 A n m hnm hm bs hn h32 H H' hb _ rfl _ _ _ 1 (by omega) hs fun H' hs=>?_
 refine hZv _ 2 b1 b2 A n m hnm hm bs hn h32 H H' hb _ rfl _ _ _ 2 (by omega) hs fun H' hs=>?_
 refine hZv _ 1 b1 b2 A n m hnm hm bs hn h32 H H' hb _ rfl _ _ _ 3 (by omega) hs fun H' hs=>?_
 have hs:Sep [own H,pts b1 (.obj (.cells #[.int .i64 0,.int .i64 0,.int .i64 0,.int .i64 0] 27)),pts b2 (.obj (.cells #[.int .u64 (Zs bs 0:Nat),.int .u64 (Zs bs 8:Nat),.int .u64 (Zs bs 16:Nat),.int .u64 (Zs bs 24:Nat)] 223))] H':=hs;have w0:=cZT bs 0;unfold aZm.l5 aZm.l5.q1;refine Zh (by omega) ?_;refine hs.ldx 2 rfl (j:=0) rfl (by omega) rfl ?_;simp only[HV];refine⟨by omega,?_⟩;refine hs.ldx 2 rfl (j:=0) rfl (by omega) rfl ?_;simp only[HV];rw[show aZr .u64 ((Zs bs 0:Nat):Int) 63=((Zs bs 0%64:Nat):Int) by rw[show(63:Int)=((63:Nat):Int)from rfl,mZd w0 (by omega),Nat.and_two_pow_sub_one_eq_mod _ 6]];refine⟨by omega,?_⟩;refine hs.ldx 2 rfl (j:=1) rfl (by omega) rfl ?_;simp only[HV];refine hs.ldx 2 rfl (j:=2) rfl (by omega) rfl ?_;simp only[HV];refine hs.nw fun b3 H' hs=>?_
 refine hs.stw 3 rfl rfl rfl rfl fun H' hs=>?_
 have e16:i64.wrap (aZr .u64 (aZq .u64 ((Zs bs 0:Nat):Int) 16) 65535)=((Zs bs 0/65536%65536:Nat):Int):=by
  rw[hZU (i:=(16:Int)) (n:=16) rfl (by decide),show(65535:Int)=((65535:Nat):Int)from rfl,mZd (by omega) (by omega),Nat.and_two_pow_sub_one_eq_mod _ 16,aZJ (by omega)]
 rw[e16]at hs;refine hs.ldx 2 rfl (j:=0) rfl (by omega) rfl ?_;simp only[HV];refine⟨by omega,?_⟩;rw[hZU (i:=(32:Int)) (n:=32) rfl (by decide)];by_cases hmg:Zs bs 0/4294967296=1094861123
 ·refine Zq (by omega) ?_;refine Za.use (rZP A n m hnm bs hn h32 (by omega) H' (hb.le (hs.ow 0 rfl))) ?_
  try simp only[HV]
  by_cases hz:iZC bs=true
  ·refine aZc (by simp[hz]) ?_;refine hs.ldx 2 rfl (j:=3) rfl (by omega) rfl ?_;simp only[HV];refine⟨by omega,by omega,?_⟩;have hc3:=Cells.obj (hs.get 2 (b:=b2) (o:=.obj (.cells #[.int .u64 (Zs bs 0:Nat),.int .u64 (Zs bs 8:Nat),.int .u64 (Zs bs 16:Nat),.int .u64 (Zs bs 24:Nat)] 223)) rfl) 3;have hc3:Cells H' (some ⟨b2,0,none⟩) (Zc [UInt64.ofNat (Zs bs 0),UInt64.ofNat (Zs bs 8),UInt64.ofNat (Zs bs 16)]):=by
    rw[← sZ7];exact hc3
   refine ZQ.use (CrcP.iZP (some ⟨b2,0,none⟩) 3 4 _ rfl (by omega) H' hc3) ?_;simp only[HV];have hcl:=vZo (Zs bs 0) (Zs bs 8) (Zs bs 16);rw[show(Go.Crc.sum (form [UInt64.ofNat (Zs bs 0),UInt64.ofNat (Zs bs 8),UInt64.ofNat (Zs bs 16)])).toNat=mZe (Zs bs 0) (Zs bs 8) (Zs bs 16)from rfl,cZg (by omega)];by_cases hcr:Zs bs 24=mZe (Zs bs 0) (Zs bs 8) (Zs bs 16)
   ·refine Zq (by omega) ?_;refine hs.ldw 3 rfl rfl ?_;have hiff:=tZS w0 hmg (sec:=i64.wrap (Zs bs 8:Nat)) (ar:=i64.wrap (Zs bs 16:Nat)) hp';have hno:¬(aZ3 (eZz bs).1 (eZz bs).2.1 (eZz bs).2.2.1 (eZz bs).2.2.2=true∧((Zs bs 0%65536:Nat):Int)=cZf bs.length)→aZ2 bs=((0,0,0,0),1):=fun h=>by
     unfold aZ2;rw[← hn,if_neg (by omega),if_neg (by simp[hmg,hz]),if_neg (by simp[hcr]),if_neg (by rw[hn];exact h)]
    have hyes:(aZ3 (eZz bs).1 (eZz bs).2.1 (eZz bs).2.2.1 (eZz bs).2.2.2=true∧((Zs bs 0%65536:Nat):Int)=cZf bs.length)→aZ2 bs=(eZz bs,0):=fun h=>by
     unfold aZ2;rw[← hn,if_neg (by omega),if_neg (by simp[hmg,hz]),if_neg (by simp[hcr]),if_pos (by rw[hn];exact h)]
    have hsb:eZz bs=(((Zs bs 0/65536%65536:Nat):Int),i64.wrap (Zs bs 8:Nat),(n:Int),i64.wrap (Zs bs 16:Nat)):=by unfold eZz;rw[hn]
    rw[hsb]at hno hyes;simp only at hno hyes;rw[← hn]at hno hyes;rw[← hiff]at hno hyes;refine ZQ.use (bZR ((Zs bs 0/65536%65536:Nat):Int) (i64.wrap (Zs bs 8:Nat)) (aZE .i64 1 ((Zs bs 0%64:Nat):Int)) (i64.wrap (Zs bs 16:Nat)) H') ?_;simp only[HV];by_cases hg:aZ3 ((Zs bs 0/65536%65536:Nat):Int) (i64.wrap (Zs bs 8:Nat)) (aZE .i64 1 ((Zs bs 0%64:Nat):Int)) (i64.wrap (Zs bs 16:Nat))=true
    ·refine aZc (by rw[hg];rfl) ?_;refine hs.ldw 3 rfl rfl ?_;have hg2:=hg;unfold aZ3 at hg2;simp only[decide_eq_true_eq]at hg2;refine ZQ.use (oZk (Zs bs 0/65536%65536) (i64.wrap (Zs bs 8:Nat)) (aZE .i64 1 ((Zs bs 0%64:Nat):Int)) (i64.wrap (Zs bs 16:Nat)) (by omega) hg2.2.2.1 H') ?_;simp only[HV];have hf64:bZy (Zs bs 0/65536%65536) (aZE .i64 1 ((Zs bs 0%64:Nat):Int))<2^64:=by
      have:=sZn (aZE .i64 1 ((Zs bs 0%64:Nat):Int));unfold bZy;omega
     rw[eZQ hf64];refine hs.ldx 2 rfl (j:=0) rfl (by omega) rfl ?_;simp only[HV];by_cases hf:bZy (Zs bs 0/65536%65536) (aZE .i64 1 ((Zs bs 0%64:Nat):Int))=Zs bs 0
     ·refine Zq (by omega) ?_;simp only[HS];refine hs.ld 3 rfl rfl ?_;simp only[HV];by_cases hv:aZE .i64 1 ((Zs bs 0%64:Nat):Int)=(n:Int)
      ·refine Zq hv ?_;refine hs.ldw 3 rfl rfl ?_;have hy:=hyes ⟨hg,hf,hv⟩;rw[hv];refine fZM _ hs 1 rfl rfl 0 _ rfl rfl fun H' hs=>fin _ 0 hs rfl hy
      ·refine ZA hv ?_;refine fZM _ hs 1 rfl rfl 1 _ rfl rfl fun H' hs=>fin (0,0,0,0) 1 hs rfl (hno fun h=>hv h.2.2)
     ·refine ZA (by omega) ?_;refine fZM _ hs 1 rfl rfl 1 _ rfl rfl fun H' hs=>fin (0,0,0,0) 1 hs rfl (hno fun h=>hf h.2.1)
    ·refine aZx (by rw[Bool.not_eq_true]at hg;rw[hg];rfl) ?_;refine fZM _ hs 1 rfl rfl 1 _ rfl rfl fun H' hs=>fin (0,0,0,0) 1 hs rfl (hno fun h=>hg h.1)
   ·refine ZA (by omega) ?_;refine fZM _ hs 1 rfl rfl 9 _ rfl rfl fun H' hs=>fin (0,0,0,0) 9 hs rfl ?_
    unfold aZ2;rw[← hn,if_neg (by omega),if_neg (by simp[hmg,hz]),if_pos hcr]
  ·refine aZx (by simp[hz]) ?_;refine fZM _ hs 1 rfl rfl 10 _ rfl rfl fun H' hs=>fin (0,0,0,0) 10 hs rfl ?_
   unfold aZ2;rw[← hn,if_neg (by omega),if_pos (.inr (by simpa using hz))]
 ·refine ZA (by omega) ?_;refine fZM _ hs 1 rfl rfl 10 _ rfl rfl fun H' hs=>fin (0,0,0,0) 10 hs rfl ?_
  unfold aZ2;rw[← hn,if_neg (by omega),if_pos (.inl hmg)]
end Go.Proofs.YtgfildcgihbdaaaGreatDoor.Sup
namespace Go.Proofs.YtgfildcgihbdaaaGreatDoor.Sup
open Go Go.Hw Go.Form W Lay
theorem mZz (k sec s ar:Int)(H:Hp):Za Tryz.prog 69 #[.agg (bZo k sec s ar)] H (RetE (if aZ3 k sec s ar=true then .tuple #[.agg (bZJ k.toNat (ZD s)),.int .i64 0]else .tuple #[.agg mZi,.int .i64 1]) H):=by
 apply Za.ret;apply eZV.ok;unfold eZV;simp only[HS];refine(Sep.start H).nw fun b1 H' hs=>?_
 refine hs.nw fun b2 H' hs=>?_
 first|refine hs.ldw 1 rfl rfl ?_|refine hs.ldw 2 rfl rfl ?_|refine hs.ldw 3 rfl rfl ?_|refine hs.ldw 4 rfl rfl ?_|refine hs.ldw 5 rfl rfl ?_|refine hs.ldw 6 rfl rfl ?_|refine hs.ldw 7 rfl rfl ?_|refine hs.ldw 8 rfl rfl ?_
 try simp only[HV]
 refine Za.use (bZR k sec s ar H') ?_
 try simp only[HV]
 by_cases h:aZ3 k sec s ar=true
 ·rw[if_pos h,h];simp only[HV];have hg:=h;unfold aZ3 at hg;simp only[decide_eq_true_eq]at hg
  first|refine hs.ld 1 rfl rfl ?_|refine hs.ld 2 rfl rfl ?_|refine hs.ld 3 rfl rfl ?_|refine hs.ld 4 rfl rfl ?_|refine hs.ld 5 rfl rfl ?_|refine hs.ld 6 rfl rfl ?_|refine hs.ld 7 rfl rfl ?_|refine hs.ld 8 rfl rfl ?_
  try simp only[HV]
  first|refine hs.ld 1 rfl rfl ?_|refine hs.ld 2 rfl rfl ?_|refine hs.ld 3 rfl rfl ?_|refine hs.ld 4 rfl rfl ?_|refine hs.ld 5 rfl rfl ?_|refine hs.ld 6 rfl rfl ?_|refine hs.ld 7 rfl rfl ?_|refine hs.ld 8 rfl rfl ?_
  try simp only[HV]
  first|refine hs.ld 1 rfl rfl ?_|refine hs.ld 2 rfl rfl ?_|refine hs.ld 3 rfl rfl ?_|refine hs.ld 4 rfl rfl ?_|refine hs.ld 5 rfl rfl ?_|refine hs.ld 6 rfl rfl ?_|refine hs.ld 7 rfl rfl ?_|refine hs.ld 8 rfl rfl ?_
  try simp only[HV]
  refine Za.use (eZB k sec s H') ?_
  try simp only[HV]
  have:OfV k sec s=(bZJ k.toNat (ZD s),0):=by unfold OfV;rw[if_pos (by omega),if_neg (by omega)]
  rw[this];refine hs.stw 2 rfl rfl rfl rfl fun H' hs=>?_
  refine hs.ldw 2 rfl rfl ?_;exact hs.fin 0 rfl _
 ·rw[Bool.not_eq_true]at h;rw[if_neg (by rw[h];simp),h];simp only[HV];refine hs.stw 2 rfl rfl rfl rfl fun H' hs=>?_
  refine hs.ldw 2 rfl rfl ?_;exact hs.fin 0 rfl _
end Go.Proofs.YtgfildcgihbdaaaGreatDoor.Sup
namespace Go.Proofs.YtgfildcgihbdaaaGreatDoor.Sup
open Go Go.Hw Go.Form W Lay Dsk
theorem kZR :∀ n,leN (List.replicate n 0)=0
 |0=>rfl
 |n+1=>by
  rw[List.replicate_succ];show(0:UInt8).toNat+256*leN (List.replicate n 0)=0
  rw[kZR n];rfl
theorem rZg (s:Nat)(hs:0<ZD s):aZ2 (List.replicate s 0)=((0,0,0,0),10):=by
 unfold aZ2;rw[List.length_replicate,if_neg (by omega),if_pos];left;have:Zs (List.replicate s 0) 0=0:=by
  unfold Zs;rw[List.drop_zero,List.take_replicate,kZR]
 rw[this];decide
def ofB (d:D)(sec s:Int):Bool:=decide (sec=d.sec∧s=d.size)
theorem nZM {L:List As}{H:Hp}{p:Nat}{d:D}(hs0:Sep L H)(i:Nat)(hi:L[i]? =some (Dk p d))(k sec s ar:Int):Za Tryz.prog 78 #[.pointer (some ⟨p,0,none⟩),.agg (bZo k sec s ar)] H (RetE (.bool (ofB d sec s)) H):=by
 apply Za.ret;apply hZm.ok;unfold hZm;refine(Sep.start H).nw fun b1 H' hs=>?_
 have hle:=hs.ow 0 rfl;refine hs.ld 1 rfl rfl ?_;simp only[HV]
 try simp only[HS]
 refine ZQ.use (eZG (hs0.up hle) i hi) ?_;simp only[HV];by_cases h1:sec=d.sec
 ·refine ZS h1 (hs.ld 1 rfl rfl ?_);simp only[HV]
  try simp only[HS]
  refine ZQ.use (hZH (hs0.up hle) i hi) ?_;simp only[HV];have e:(s==(d.size:Int))=ofB d sec s:=by
   unfold ofB;by_cases h2:s=d.size
   ·simp[h1,h2]
   ·simp[h2]
  rw[e];exact hs.fin 0 rfl _
 ·refine aZg h1 ?_;have e:ofB d sec s=false:=by unfold ofB;simp[h1]
  rw[e];exact hs.fin 0 rfl _
def wrV (d:D)(k sec s ar:Int):Int×D:=
 if aZ3 k sec s ar=false∨ofB d sec s=false then(1,d)
 else if d.writeE 0 s.toNat≠0 then(d.writeE 0 s.toNat,d.writeD 0 (bZY k sec s ar))
 else((d.writeD 0 (bZY k sec s ar)).syncE,(d.writeD 0 (bZY k sec s ar)).syncD)
theorem sZQ {p:Nat}{d:D}(hok:Ok d)(hb:d.wr≤1000000∧d.sy≤1000000)(k sec s ar:Int)(hsec:sec≤9223372036854775807):
  Tr Tryz.prog 50 #[.pointer (some ⟨p,0,none⟩),.agg (bZo k sec s ar)] [Dk p d] fun v M=>v= .int .i64 (wrV d k sec s ar).1∧M=[Dk p (wrV d k sec s ar).2]:=fun H hs=>by
 apply fZx.ok;unfold fZx;refine hs.nw fun b1 H hs=>?_
 refine hs.ldw 1 rfl rfl ?_;cases hg:aZ3 k sec s ar with
 |false=>
  refine Za.use (nZ4 k sec s ar hg H) ?_;simp only[HV];have e:wrV d k sec s ar=(1,d):=by unfold wrV;rw[if_pos (.inl hg)]
  rw[e];exact ZA (by omega) ⟨_,⟨rfl,rfl⟩,hs.re [0] rfl⟩
 |true=>
  refine(Put_ok k sec s ar hg hsec).use hs [] rfl rfl ?_;rintro _ _ H ⟨b,rfl,rfl⟩ hs;simp only[HV];refine Zq rfl ?_;have hs:Sep [pts b (.row (Zm (bZY k sec s ar)) 5 s.toNat),Dk p d,pts b1 (.obj (.cells (bZo k sec s ar) 27))] H:=hs;refine hs.ldw 2 rfl rfl ?_;refine Za.use (nZM hs 1 rfl k sec s ar) ?_;simp only[HV];cases ho:ofB d sec s with
  |false=>
   have e:wrV d k sec s ar=(1,d):=by unfold wrV;rw[if_pos (.inr ho)]
   rw[e];exact aZx rfl ⟨_,⟨rfl,rfl⟩,hs.re [1] rfl⟩
  |true=>
   refine aZc rfl ?_;have hper:0<ZD s:=by
    unfold aZ3 at hg;simp only[decide_eq_true_eq]at hg;exact hg.2.2.1
   have hl:=iZ9 k sec s ar hper;refine(eZc (p:=p) (d:=d) hok (by omega) 0 (some ⟨b,0,none⟩) s.toNat s.toNat (bZY k sec s ar) (by omega) (pts b (.row (Zm (bZY k sec s ar)) 5 s.toNat)) (fun H h=>?_)).use hs [1,0] rfl rfl ?_
   ·have:=Cells.row h 0 s.toNat;rw[List.drop_zero,List.take_of_length_le (by rw[ZL];omega)]at this;exact this
   rintro _ _ H ⟨rfl,rfl⟩ hs;simp only[HV];by_cases he:d.writeE 0 s.toNat=0
   ·refine Zq he ?_;have e:wrV d k sec s ar=((d.writeD 0 (bZY k sec s ar)).syncE,(d.writeD 0 (bZY k sec s ar)).syncD):=by
     unfold wrV;rw[if_neg (by rw[hg,ho];simp),if_neg (by rw[he];simp)]
    have hsy:(d.writeD 0 (bZY k sec s ar)).sy=d.sy:=by
     have hbr:=bZ6 d;unfold D.writeD;split
     ·rfl
     ·split
      ·rfl
      ·split
       ·exact hbr.2.2.1
       ·exact hbr.2.2.1
    refine(hZz (p:=p) (d:=d.writeD 0 (bZY k sec s ar)) (Ok.writeD hok 0 _) (by rw[hsy];omega)).use hs [0] rfl rfl ?_;rintro _ _ H ⟨rfl,rfl⟩ hs;simp only[HV];rw[e];exact⟨_,⟨rfl,rfl⟩,hs.re [0] rfl⟩
   ·have e:wrV d k sec s ar=(d.writeE 0 s.toNat,d.writeD 0 (bZY k sec s ar)):=by
     unfold wrV;rw[if_neg (by rw[hg,ho];simp),if_pos he]
    rw[e];exact ZA he ⟨_,⟨rfl,rfl⟩,hs.re [0] rfl⟩
def rdV (d:D)(bs:List UInt8):Sb×Int:=
 if(aZ2 bs).2≠0 then((0,0,0,0),(aZ2 bs).2)else if ofB d (aZ2 bs).1.2.1 (aZ2 bs).1.2.2.1=true then((aZ2 bs).1,0)else((0,0,0,0),1)
theorem uZd {p:Nat}{d:D}(hok:Ok d)(ho:d.rd≤1000000)(hc:d.chk 0=0)(hb:d.burns=false):
  Tr Tryz.prog 64 #[.pointer (some ⟨p,0,none⟩)] [Dk p d] fun v M=>v= .tuple #[.agg (sbV (rdV d (d.now 0)).1),.int .i64 (rdV d (d.now 0)).2]∧M=[Dk p { d.burnt with rd:=d.rd+1}]:=fun H hs=>by
 have hnow:=hok.now 0;have hsz:=hok.size;have hbr:=bZ6 d;apply dZX.ok;unfold dZX;refine hs.nw fun b1 H hs=>?_
 refine(jZ2 (p:=p) (d:=d) hok (by omega) 0).use hs [0] rfl rfl ?_;rintro _ _ H (⟨h,_⟩|⟨_,h,_⟩|⟨_,_,b,c,m,rfl,hcc,rfl⟩) hs
 ·exact absurd hc h
 ·rw[hb]at h;cases h
 ·simp only[HV];refine Zq rfl ?_;have hcell:Cells H (some ⟨b,0,none⟩) (Zm (d.now 0)):=by
   have:=Cells.row (hs.get 1 (b:=b) (o:=.row (Zm (d.now 0)) 5 m) rfl) 0 d.size;rw[List.drop_zero,List.take_of_length_le (by rw[ZL];omega)]at this;exact this
  refine Za.use (iZu (some ⟨b,0,none⟩) d.size c hcc (by omega) (d.now 0) hnow.symm H hcell) ?_;simp only[HV];have hof:∀ x y,ofB { d.burnt with rd:=d.rd+1} x y=ofB d x y:=fun x y=>by
   unfold ofB;show decide (x=(d.burnt.sec:Int)∧y=(d.burnt.size:Int))=_
   rw[hbr.2.2.2.2.1,hbr.2.2.2.1]
  unfold rdV;generalize aZ2 (d.now 0)=tv at*;obtain⟨⟨k,sec,s,ar⟩,e⟩:=tv;have hs:Sep [Dk p { d.burnt with rd:=d.rd+1},pts b (.row (Zm (d.now 0)) 5 m),pts b1 (.obj (.cells (bZo 0 0 0 0) 27))] H:=hs;refine hs.nw fun b2 H hs=>?_
  refine hs.stw 3 (y:=bZo k sec s ar) rfl rfl rfl rfl fun H hs=>?_;have hs:Sep [Dk p { d.burnt with rd:=d.rd+1},pts b (.row (Zm (d.now 0)) 5 m),pts b1 (.obj (.cells (bZo 0 0 0 0) 27)),pts b2 (.obj (.cells (bZo k sec s ar) 27))] H:=hs;by_cases he:e=0
  ·refine Zq he ?_;refine hs.ldw 3 rfl rfl ?_;refine Za.use (nZM hs 0 rfl k sec s ar) ?_;rw[hof];simp only[HV];cases hob:ofB d sec s with
   |false=>
    refine aZx rfl ?_;refine hs.stw 2 rfl rfl rfl rfl fun H hs=>?_;refine hs.ldw 2 rfl rfl ?_;refine⟨_,⟨?_,rfl⟩,hs.re [0] rfl⟩;rw[if_neg (by simpa using he),if_neg (by simp)];rfl
   |true=>
    refine aZc rfl ?_;refine hs.ldw 3 rfl rfl ?_;refine hs.stw 2 rfl rfl rfl rfl fun H hs=>?_;refine hs.ldw 2 rfl rfl ?_;refine⟨_,⟨?_,rfl⟩,hs.re [0] rfl⟩;rw[if_neg (by simpa using he),if_pos rfl];rfl
  ·refine ZA he ?_;refine hs.stw 2 rfl rfl rfl rfl fun H hs=>?_;refine hs.ldw 2 rfl rfl ?_;refine⟨_,⟨?_,rfl⟩,hs.re [0] rfl⟩;rw[if_pos (by simpa using he)];rfl
end Go.Proofs.YtgfildcgihbdaaaGreatDoor.Sup
namespace Go.Proofs.YtgfildcgihbdaaaGreatDoor.Eng
open Go Go.Hw Go.Form Dsk Str Rec Srt Rng Pln
structure Log (L:List R):Prop where
 u:∀ r∈L,r.u32
 g:∀ r∈L,r.good
 hd:∀ r,L[0]? =some r→r.s=1∧r.kd=1
 ch:∀ i a b,L[i]? =some a→L[i+1]? =some b→after a b
theorem Log.nil :Log []:=⟨fun _ h=>(by cases h),fun _ h=>(by cases h),fun _ h=>(by simp at h),fun _ _ _ h=>(by simp at h)⟩
theorem Log.snoc {L:List R}(h:Log L){r:R}(hg:r.good)(hu:r.u32)(hm:cZG L.getLast? r=true):Log (L++[r]):=by
 refine⟨fun x hx=>?_,fun x hx=>?_,fun x hx=>?_,fun i a b ha hb=>?_⟩
 ·rcases List.mem_append.1 hx with h1|h1
  ·exact h.u x h1
  ·rw[List.mem_singleton.1 h1];exact hu
 ·rcases List.mem_append.1 hx with h1|h1
  ·exact h.g x h1
  ·rw[List.mem_singleton.1 h1];exact hg
 ·cases L with
  |nil=>
   have:r=x:=by simpa using hx
   subst this;exact of_decide_eq_true hm
  |cons y L=>exact h.hd x (by simpa using hx)
 ·have hb2:=hb;rw[List.getElem?_append]at ha hb;have hlt:=(List.getElem?_eq_some_iff.1 hb2).1;rw[List.length_append,List.length_singleton]at hlt;rw[if_pos (by omega)]at ha;by_cases e:i+1<L.length
  ·rw[if_pos e]at hb;exact h.ch i a b ha hb
  ·rw[if_neg e]at hb;have e2:i+1-L.length=0:=by omega
   rw[e2]at hb;have:r=b:=by simpa using hb
   subst this;have hl:L.getLast? =some a:=by rw[List.getLast?_eq_getElem?,show L.length-1=i by omega];exact ha
   rw[hl]at hm;exact of_decide_eq_true hm
theorem Log.init {L:List R}{r:R}(h:Log (L++[r])):Log L∧r.good∧r.u32∧cZG L.getLast? r=true:=by
 refine⟨⟨fun x hx=>h.u x (List.mem_append_left _ hx),fun x hx=>h.g x (List.mem_append_left _ hx),fun x hx=>?_,fun i a b ha hb=>?_⟩,h.g r (by simp),h.u r (by simp),?_⟩
 ·exact h.hd x (by rw[List.getElem?_append_left (List.getElem?_eq_some_iff.1 hx).1];exact hx)
 ·exact h.ch i a b (by rw[List.getElem?_append_left (List.getElem?_eq_some_iff.1 ha).1];exact ha) (by rw[List.getElem?_append_left (List.getElem?_eq_some_iff.1 hb).1];exact hb)
 ·cases hl:L.getLast? with
  |none=>
   rw[List.getLast?_eq_none_iff]at hl;subst hl;exact decide_eq_true (h.hd r (by simp))
  |some a=>
   have hn:L≠ []:=fun e=>by rw[e]at hl;simp at hl
   have hp:=List.length_pos_iff.2 hn;rw[List.getLast?_eq_getElem?]at hl;refine decide_eq_true (h.ch (L.length-1) a r ?_ ?_)
   ·rw[List.getElem?_append_left (by omega)];exact hl
   ·rw[show L.length-1+1=L.length by omega,List.getElem?_append_right (Nat.le_refl _),Nat.sub_self];rfl
theorem Log.num {L:List R}(h:Log L):∀ i a,L[i]? =some a→a.s=i+1
 |0,a,ha=>(h.hd a ha).1
 |i+1,a,ha=>by
  have hlt:=(List.getElem?_eq_some_iff.1 ha).1;have hb:L[i]? =some L[i]:=List.getElem?_eq_getElem (by omega);have:=h.num i _ hb;have h2:=(h.ch i _ a hb ha).2.2.1;omega
theorem Log.last {L:List R}(h:Log L){r:R}(hr:L.getLast? =some r):r.good∧r.u32∧r.s=L.length:=by
 have hn:L≠ []:=fun e=>by rw[e]at hr;simp at hr
 have hp:=List.length_pos_iff.2 hn;have hm:r∈L:=List.mem_of_getLast? hr;rw[List.getLast?_eq_getElem?]at hr;have:=h.num _ _ hr;exact⟨h.g r hm,h.u r hm,by omega⟩
def lZQ (size:Nat)(L:List R):Nat→List UInt8:=L.foldl (fun f r=>fun j=>if j=(r.s-1)%8 then r.form size else f j) (fun _=>List.replicate size 0)
theorem iZ7 (size:Nat)(L:List R)(r:R)(j:Nat):lZQ size (L++[r]) j=if j=(r.s-1)%8 then r.form size else lZQ size L j:=by
 unfold lZQ;rw[List.foldl_append];rfl
def Ring (size:Nat)(L:List R)(c:Cn):Prop:=∀ i,i<8→c ((1+i:Nat):Int)=lZQ size L i
theorem sZ4 (c:Cn)(k:Nat)(a b:List UInt8):bZx (bZx c k a) k b=bZx c k b:=funext fun i=>by
 unfold bZx;split<;>rfl
theorem wZc (c:Cn)(k:Nat):bZx c k (c k)=c:=funext fun i=>by
 unfold bZx;split
 ·rename_i h;rw[h]
 ·rfl
theorem kZh (c:Cn)(k:Nat)(b:List UInt8):bZx c k b k=b:=if_pos rfl
theorem iZL (c:Cn){k:Nat}(b:List UInt8){i:Int}(h:i≠k):bZx c k b i=c i:=if_neg h
theorem Ring.upd {size:Nat}{L:List R}{c:Cn}(h:Ring size L c)(r:R):Ring size (L++[r]) (bZx c (aZS 1 8 r.s) (r.form size)):=fun i hi=>by
 rw[iZ7];unfold aZS;by_cases e:i=(r.s-1)%8
 ·rw[if_pos e,e,kZh]
 ·rw[if_neg e,iZL _ _ (by omega)];exact h i hi
theorem qZ6 {size:Nat}(hs:secB (size:Int)=true):(aZ2 (List.replicate size 0)).2≠0:=by
 unfold Rec.aZ2;rw[List.length_replicate,if_pos hs,if_neg]
 ·decide
 ·intro h;have:Zs (List.replicate size 0) 0=0:=by
   unfold Zs;rw[List.drop_zero,List.take_replicate,Sup.kZR]
  rw[this]at h;exact absurd h.1 (by decide)
theorem Ring.last {size:Nat}(hsec:secB (size:Int)=true):∀(n:Nat) {L:List R} {c:Cn},L.length=n→Log L→Ring size L c→lastC c 1 8=L.getLast?
 |0,L,c,hl,h,hr=>by
  have e:L=[]:=List.length_eq_zero_iff.1 hl;subst e;refine(jZw _).2 ?_;refine List.eq_nil_iff_forall_not_mem.2 fun x hx=>?_
  obtain⟨j,_,h2,h3⟩:=(hZD c 1 8 x 8 0).1 hx;rw[hr j (by omega),jZR]at h3;exact qZ6 hsec h3.1
 |n+1,L,c,hl,h,hr=>by
  have hn:L≠ []:=fun e=>by rw[e]at hl;simp at hl
  obtain⟨L',r,rfl⟩:∃ L' r,L=L'++[r]:=⟨L.dropLast,L.getLast hn,(List.dropLast_concat_getLast hn).symm⟩;obtain⟨h1,h2,h3,h4⟩:=h.init;have hsl:=hZW (f:=1) (n:=8) (s:=r.s) (by omega);have hk:aZS 1 8 r.s=1+(r.s-1)%8:=rfl;have hm:=Nat.mod_lt (r.s-1) (show 8>0 by omega)
  let c':Cn:=bZx c (aZS 1 8 r.s) (lZQ size L' ((r.s-1)%8))
  have hr':Ring size L' c':=fun i hi=>by
   have:=hr i hi;rw[iZ7]at this;show bZx c (aZS 1 8 r.s) _ _=_
   by_cases e:i=(r.s-1)%8
   ·subst e;rw[← hk,kZh]
   ·rw[iZL _ _ (by omega),this,if_neg e]
  have ih:=Ring.last hsec n (by simpa using hl) h1 hr';have hsz:=vZ1 hsec;have hup:=tZT (c:=c') (f:=1) (n:=8) (size:=size) (by omega) (by omega) hsec h2 h3 (by rw[ih];exact h4);have e:bZx c' (aZS 1 8 r.s) (r.form size)=c:=by
   show bZx (bZx c _ _) _ _=c
   rw[sZ4];have:=hr ((r.s-1)%8) hm;rw[iZ7,if_pos rfl,←hk]at this;rw[← this,wZc]
  rw[e]at hup;rw[hup,List.getLast?_append];rfl
def cw (c:Cn)(per f i:Nat):UInt64:=((aZG (c ((f+i/per:Nat):Int)))[i%per]?).getD 0
def cws (c:Cn)(per f n:Nat):List UInt64:=(List.range n).map (cw c per f)
theorem vZq (c:Cn)(per f n:Nat):(cws c per f n).length=n:=by simp[cws]
theorem xZx {d:D}{c:Cn}(h:∀ i,d.now i=c i)(x:X)(i:Nat):pw d x i=cw c (D.per d) x.f i:=by unfold pw cw;rw[h]
theorem gZy {d:D}{c:Cn}(h:∀ i,d.now i=c i)(x:X)(n:Nat):pws d x 0 n=cws c (D.per d) x.f n:=by
 unfold pws cws;apply List.map_congr_left;intro i _;rw[Nat.zero_add,xZx h]
theorem mZf {c c':Cn}{per f n s:Nat}(hp:1≤per)(hn:n≤s*per)(h:∀ i:Nat,i<s→c' ((f+i:Nat):Int)=c ((f+i:Nat):Int)):cws c' per f n=cws c per f n:=by
 unfold cws;apply List.map_congr_left;intro i hi;have hi:=List.mem_range.1 hi;have:i/per<s:=Nat.div_lt_of_lt_mul (by rw[Nat.mul_comm];omega);unfold cw;rw[h _ this]
def eZJ (l:List UInt64):Nat:=(Go.Crc.sum (form l)).toNat
theorem pZN (l:List UInt64):eZJ l<4294967296:=(Go.Crc.sum (form l)).isLt
structure Mn where
 most:Nat
 arena:Nat
 L:List R
 inp:List UInt64
def exX (most per i k:Nat):X:=⟨9+i*Lay.ZF most per,Lay.ZF k per,2^k⟩
def fZE (r:R):Bool:=decide (r.dir=1)
def aZ4 (m:Mn)(per:Nat)(r:R):List Pz:=aZb (fZE r) r.kk.toNat per m.arena
structure kZ9 (m:Mn)(per:Nat)(c:Cn)(r:R):Prop where
 len:m.inp.length=2^r.kk.toNat
 can:∀ w∈m.inp,w.toNat<18446744069414584321
 sum:r.inp=eZJ m.inp
 ws:cws c per 9 (2^r.kk.toNat)=m.inp
structure lZc (m:Mn)(per:Nat)(c:Cn)(r:R):Prop where
 ps:r.ps.toNat≤(aZ4 m per r).length
 ws:∀ p,(aZ4 m per r)[r.ps.toNat-1]? =some p→cws c per (9+p.o*Lay.ZF m.most per) (2^r.kk.toNat)=apL ((aZ4 m per r).take r.ps.toNat) m.inp
 sum:r.out=eZJ (apL ((aZ4 m per r).take r.ps.toNat) m.inp)
structure Holds (sec size:Nat)(m:Mn)(c:Cn):Prop where
 sup:c 0=Sup.bZY m.most sec size m.arena
 good:Sup.aZ3 m.most sec size m.arena=true
 least:aZR m.most (size/8)≤m.arena
 log:Log m.L
 ring:Ring size m.L c
 kk:∀ r,m.L.getLast? =some r→r.kk≤m.most
 inp:∀ r,m.L.getLast? =some r→2≤r.kd→kZ9 m (size/8) c r
 out:∀ r,m.L.getLast? =some r→r.kd=4→lZc m (size/8) c r
def lZ7 (size:Nat)(c:Cn):Prop:=c 0=List.replicate size 0
def xZG (sec size:Nat):Option Mn→Cn→Prop
 |none,c=>lZ7 size c
 |some m,c=>Holds sec size m c
end Go.Proofs.YtgfildcgihbdaaaGreatDoor.Eng
namespace Go.Proofs.YtgfildcgihbdaaaGreatDoor.Eng
open Go Go.Hw Go.Form Dsk Str Rec Srt Rng Pln Trn
theorem kZd {k p:Nat}(hp:1≤p):2^k≤Lay.ZF k p*p:=by
 have h1:=Nat.two_pow_pos k;have h2:=Nat.div_add_mod (2^k-1) p;have h3:=Nat.mod_lt (2^k-1) (show p>0 by omega);unfold Lay.ZF;rw[Nat.add_mul,Nat.mul_comm,Nat.one_mul];omega
theorem iZf {k m p:Nat}(h:k≤m):Lay.ZF k p≤Lay.ZF m p:=by
 have h1:2^k≤2^m:=Nat.pow_le_pow_right (by omega) h;unfold Lay.ZF;have:=Nat.div_le_div_right (c:=p) (show 2^k-1≤2^m-1 by omega);omega
theorem dZ4 {s:Nat}(h:0<Lay.ZD s):Lay.ZD s=s/8∧4≤s/8∧s/8≤512∧8*(s/8)=s:=by
 have:s=32∨s=64∨s=128∨s=256∨s=512∨s=1024∨s=2048∨s=4096:=by
  unfold Lay.ZD at h
  repeat' split at h
  all_goals omega
 rcases this with e|e|e|e|e|e|e|e<;>subst e<;>decide
theorem cZ7 {m sec s:Nat}{ar:Int}(h:Sup.aZ3 (m:Int) sec s ar=true):m≤32∧0<Lay.ZD s∧Lay.bZs m (s/8)≤sec∧1≤ar∧ar≤16777216:=by
 have h1:=of_decide_eq_true h;have h3:=h1.2.2.1;have h2:=dZ4 h3;rw[h2.1,Int.toNat_natCast]at h1;exact⟨by omega,h3,by omega,h1.2.2.2.2⟩
theorem pZP {c c':Cn}{per most i k:Nat}(hp:1≤per)(h:∀ j:Nat,j<Lay.ZF k per→c' ((9+i*Lay.ZF most per+j:Nat):Int)=c ((9+i*Lay.ZF most per+j:Nat):Int)):
  cws c' per (9+i*Lay.ZF most per) (2^k)=cws c per (9+i*Lay.ZF most per) (2^k):=mZf hp (kZd hp) h
theorem Holds.per {sec size:Nat}{m:Mn}{c:Cn}(h:Holds sec size m c):4≤size/8∧size/8≤512∧8*(size/8)=size:=(dZ4 (cZ7 h.good).2.1).2
theorem Holds.sam {sec size:Nat}{m:Mn}{c c':Cn}(h:Holds sec size m c)(h0:∀ i:Nat,i≤8→c' (i:Int)=c (i:Int))
  (h1:∀ r,m.L.getLast? =some r→2≤r.kd→∀ j:Nat,j<Lay.ZF r.kk.toNat (size/8)→c' ((9+j:Nat):Int)=c ((9+j:Nat):Int))
  (h2:∀ r,m.L.getLast? =some r→r.kd=4→∀ p,(aZ4 m (size/8) r)[r.ps.toNat-1]? =some p→∀ j:Nat,j<Lay.ZF r.kk.toNat (size/8)→c' ((9+p.o*Lay.ZF m.most (size/8)+j:Nat):Int)=c ((9+p.o*Lay.ZF m.most (size/8)+j:Nat):Int)):Holds sec size m c':=by
 have hp:=h.per;refine⟨(h0 0 (by omega)).trans h.sup,h.good,h.least,h.log,fun i hi=>(h0 (1+i) (by omega)).trans (h.ring i hi),h.kk,fun r hr hk=>?_,fun r hr hk=>?_⟩
 ·have q:=h.inp r hr hk;refine⟨q.len,q.can,q.sum,?_⟩;rw[mZf (f:=9) (by omega) (kZd (show 1≤size/8 by omega)) (h1 r hr hk)];exact q.ws
 ·have q:=h.out r hr hk;refine⟨q.ps,fun p hp'=>?_,q.sum⟩;rw[pZP (by omega) (h2 r hr hk p hp')];exact q.ws p hp'
theorem qZo {c:Cn}{s:Nat}{b:List UInt8}{j:Nat}(hj:9≤j):bZx c (aZS 1 8 s) b (j:Int)=c (j:Int):=by
 have:=hZW (f:=1) (n:=8) (s:=s) (by omega);exact iZL _ _ (by omega)
theorem kZ9.upd {m:Mn}{per:Nat}{c:Cn}{r:R}(h:kZ9 m per c r)(hp:1≤per)(s:Nat)(b:List UInt8):kZ9 m per (bZx c (aZS 1 8 s) b) r:=
 ⟨h.len,h.can,h.sum,by rw[mZf (f:=9) hp (kZd hp) (fun j _=>qZo (by omega))];exact h.ws⟩
theorem lZc.upd {m:Mn}{per:Nat}{c:Cn}{r:R}(h:lZc m per c r)(hp:1≤per)(s:Nat)(b:List UInt8):lZc m per (bZx c (aZS 1 8 s) b) r:=
 ⟨h.ps,fun p hp'=>by rw[pZP hp (fun j _=>qZo (by omega))];exact h.ws p hp',h.sum⟩
theorem Holds.app {sec size:Nat}{m:Mn}{c:Cn}(h:Holds sec size m c){r:R}(hg:r.good)(hu:r.u32)(hm:cZG m.L.getLast? r=true)(hkk:r.kk≤m.most)
  (hi:2≤r.kd→kZ9 m (size/8) c r) (ho:r.kd=4→lZc m (size/8) c r):Holds sec size { m with L:=m.L++[r]} (bZx c (aZS 1 8 r.s) (r.form size)):=by
 have hp:=h.per;have hsl:=hZW (f:=1) (n:=8) (s:=r.s) (by omega);have hl:∀ x,(m.L++[r]).getLast? =some x→x=r:=fun x hx=>by
  rw[List.getLast?_append]at hx;have:r=x:=by simpa using hx
  exact this.symm
 refine⟨?_,h.good,h.least,h.log.snoc hg hu hm,h.ring.upd r,fun x hx=>?_,fun x hx hk=>?_,fun x hx hk=>?_⟩
 ·rw[iZL _ _ (by omega)];exact h.sup
 ·rw[hl x hx];exact hkk
 ·obtain rfl:=hl x hx;have q:=(hi hk).upd (show 1≤size/8 by omega) x.s (x.form size);exact⟨q.len,q.can,q.sum,q.ws⟩
 ·obtain rfl:=hl x hx;have q:=(ho hk).upd (show 1≤size/8 by omega) x.s (x.form size);exact⟨q.ps,q.ws,q.sum⟩
theorem Holds.target {sec size:Nat}{m:Mn}{c c':Cn}(h:Holds sec size m c){t k:Nat}(hk:k≤m.most)(ht:∀ r,m.L.getLast? =some r→2≤r.kd→t≠0)
  (ho:∀ r,m.L.getLast? =some r→r.kd=4→∀ p,(aZ4 m (size/8) r)[r.ps.toNat-1]? =some p→t≠p.o) (hs:Sam (inX (exX m.most (size/8) t k)) c c'):Holds sec size m c':=by
 have hp:=h.per;have hrk:Lay.ZF k (size/8)≤Lay.ZF m.most (size/8):=iZf hk;generalize hR:Lay.ZF m.most (size/8)=Rm at hrk;have ext:∀(i j:Nat) (r:R),m.L.getLast? =some r→i≠t→j<Lay.ZF r.kk.toNat (size/8)→c' ((9+i*Rm+j:Nat):Int)=c ((9+i*Rm+j:Nat):Int):=fun i j r hr hit hj=>by
  have h1:=h.kk r hr;have h2:=(h.log.last hr).1;have hkr:Lay.ZF r.kk.toNat (size/8)≤Rm:=by rw[← hR];exact iZf (by omega)
  apply hs;unfold inX exX;simp only[hR];rintro⟨a,b⟩;rcases Nat.lt_or_gt_of_ne hit with hlt|hlt
  ·have:(i+1)*Rm≤t*Rm:=Nat.mul_le_mul_right _ hlt;rw[Nat.succ_mul]at this;omega
  ·have:(t+1)*Rm≤i*Rm:=Nat.mul_le_mul_right _ hlt;rw[Nat.succ_mul]at this;omega
 refine h.sam (fun i hi=>hs _ ?_) (fun r hr hkd j hj=>?_) fun r hr hkd p hp' j hj=>?_
 ·unfold inX exX;rintro⟨a,b⟩;have:(0:Int)≤(t*Lay.ZF m.most (size/8):Nat):=Int.natCast_nonneg _;simp only at a;omega
 ·have:=ext 0 j r hr (fun e=>ht r hr hkd e.symm) hj;rw[Nat.zero_mul,Nat.add_zero]at this;exact this
 ·rw[hR];exact ext p.o j r hr (fun e=>ho r hr hkd p hp' e.symm) hj
end Go.Proofs.YtgfildcgihbdaaaGreatDoor.Eng
