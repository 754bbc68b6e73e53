import Derived.Test.YtgfildcgihbdaaaGreatDoorProg
import Derived.Test.YtgfildcgihbdaaaGreatDoorPkBudgetTells6
set_option maxRecDepth 100000
set_option linter.unusedSimpArgs false
set_option linter.unusedVariables false
set_option linter.unnecessarySimpa false
set_option linter.unusedSectionVars false
open Go.IntKind (i64 u64)
namespace Go.Proofs.YtgfildcgihbdaaaGreatDoor
open Tryz (prog)
namespace Sup
open Go Go.Hw Go.Form W Lay
def aZR (k sec s ar:Int):Array Value:=#[.int .i64 k,.int .i64 sec,.int .i64 s,.int .i64 ar]
def aZX (k sec s ar:Int):Bool:=decide (0≤k∧k≤32∧0<Zs s∧(bZj k.toNat (Zs s):Int)≤sec∧1≤ar∧ar≤16777216)
theorem kZn (k sec s:Int):(OfV k sec s).1.size=17:=by
 unfold OfV;split
 ·split<;>rfl
 ·rfl
theorem pZe (k sec s:Int):(OfV k sec s).1.toList.all (fun v=>v.oneCell')=true:=by
 unfold OfV;split
 ·split<;>rfl
 ·rfl
theorem bZR (k sec s ar:Int)(H:Hp):Za prog 96 #[.agg (aZR k sec s ar)] H (RetE (.bool (aZX k sec s ar)) H):=by
 apply Za.ret;apply fZ1.ok;unfold fZ1;simp only[HS];refine(Sep.start H).nw fun b1 H hs=>?_
 first|refine hs.ld 1 rfl rfl ?_|refine hs.ld 2 rfl rfl ?_|refine hs.ld 3 rfl rfl ?_|refine hs.ld 4 rfl rfl ?_|refine hs.ld 5 rfl rfl ?_|refine hs.ld 6 rfl rfl ?_|refine hs.ld 7 rfl rfl ?_|refine hs.ld 8 rfl rfl ?_
 try simp only[HV]
 first|refine hs.ld 1 rfl rfl ?_|refine hs.ld 2 rfl rfl ?_|refine hs.ld 3 rfl rfl ?_|refine hs.ld 4 rfl rfl ?_|refine hs.ld 5 rfl rfl ?_|refine hs.ld 6 rfl rfl ?_|refine hs.ld 7 rfl rfl ?_|refine hs.ld 8 rfl rfl ?_
 try simp only[HV]
 first|refine hs.ld 1 rfl rfl ?_|refine hs.ld 2 rfl rfl ?_|refine hs.ld 3 rfl rfl ?_|refine hs.ld 4 rfl rfl ?_|refine hs.ld 5 rfl rfl ?_|refine hs.ld 6 rfl rfl ?_|refine hs.ld 7 rfl rfl ?_|refine hs.ld 8 rfl rfl ?_
 try simp only[HV]
 refine Za.use (eZs k sec s H) ?_
 try simp only[HV]
 refine hs.nw fun b2 H hs=>?_
 refine hs.stw 2 rfl rfl (kZn _ _ _) (pZe _ _ _) fun H hs=>?_;have hr:=hs.fin 0 rfl (.bool (aZX k sec s ar));by_cases h:0≤k∧k≤32∧0<Zs s∧(bZj k.toNat (Zs s):Int)≤sec
 ·have:(OfV k sec s).2=0:=by unfold OfV;rw[if_pos (by omega),if_neg (by omega)]
  rw[this];refine aZt rfl ?_
  first|refine hs.ld 1 rfl rfl ?_|refine hs.ld 2 rfl rfl ?_|refine hs.ld 3 rfl rfl ?_|refine hs.ld 4 rfl rfl ?_|refine hs.ld 5 rfl rfl ?_|refine hs.ld 6 rfl rfl ?_|refine hs.ld 7 rfl rfl ?_|refine hs.ld 8 rfl rfl ?_
  try simp only[HV]
  by_cases h2:ar≥1
  ·refine Zm h2 ?_
   first|refine hs.ld 1 rfl rfl ?_|refine hs.ld 2 rfl rfl ?_|refine hs.ld 3 rfl rfl ?_|refine hs.ld 4 rfl rfl ?_|refine hs.ld 5 rfl rfl ?_|refine hs.ld 6 rfl rfl ?_|refine hs.ld 7 rfl rfl ?_|refine hs.ld 8 rfl rfl ?_
   try simp only[HV]
   have:decide (ar≤16777216)=aZX k sec s ar:=by unfold aZX;simp only[decide_eq_decide];omega
   rw[this];exact hr
  ·refine Zh h2 ?_;have:false=aZX k sec s ar:=by unfold aZX;symm;simp only[decide_eq_false_iff_not];omega
   rw[this];exact hr
 ·refine aZb ?_ ?_
  ·have:(OfV k sec s).2=1∨(OfV k sec s).2=7:=by
    unfold OfV;split
    ·rw[if_pos (by omega)];exact .inr rfl
    ·exact .inl rfl
   rcases this with e|e<;>rw[e]<;>rfl
  ·have:false=aZX k sec s ar:=by unfold aZX;symm;simp only[decide_eq_false_iff_not];omega
   rw[this];exact hr
def cZh (s:Int):Int:=if s=32 then 5 else if s=64 then 6 else if s=128 then 7 else if s=256 then 8 else if s=512 then 9 else if s=1024 then 10 else if s=2048 then 11 else if s=4096 then 12 else -1
theorem hZr (s:Int):(0<Zs s∧s=8*Zs s∧5≤cZh s∧cZh s≤12∧Zs s=2^(cZh s-3).toNat)∨(Zs s=0∧cZh s=-1):=by
 unfold Zs cZh
 repeat' split
 all_goals first|(subst_vars;left;decide)|(right;exact⟨rfl,rfl⟩)
theorem mZN (K:VK)(k:Nat)(hk:k≤32)(s:Int)(hs:0<Zs s)(H:Hp)(hK:K (.int .i64 (bZj k (Zs s))) H):∀ d j:Nat,j+d=k→aZe.l3 K (d+1) (k:Int) s ((2^j:Nat):Int) (j:Int) H
 |0,j,hj=>by
  obtain rfl:j=k:=by omega
  unfold aZe.l3;refine Zh (by omega) ⟨by decide,rfl,?_⟩;obtain⟨_,h1,h2,h3,h4⟩:0<Zs s∧s=8*Zs s∧5≤cZh s∧cZh s≤12∧Zs s=2^(cZh s-3).toNat:=by
   rcases hZr s with h|h
   ·exact h
   ·omega
  have hle:=iZl s;have hp:=lZ9 (k:=j) (by omega);have e1:i64.wrap (Int.tdiv s 8)=(Zs s:Int):=by
   have:Int.tdiv s 8=(Zs s:Int):=by
    conv=>lhs;rw[h1]
    exact Int.mul_tdiv_cancel_left _ (by omega)
   rw[this];exact aZu (by omega)
  rw[e1];have h2j:1≤2^j:=Nat.one_le_two_pow;by_cases hc:(2^j:Nat)≤Zs s
  ·refine Zm (Int.ofNat_le.2 hc) ?_;have:bZj j (Zs s)=13:=by
    unfold bZj Zx;rw[Nat.div_eq_of_lt (by omega)]
   rw[this]at hK;exact hK
  ·refine Zh (fun h=>hc (Int.ofNat_le.1 h)) ⟨by omega,rfl,?_⟩;have hd:Zs s∣2^j:=by
    rw[h4];refine Nat.pow_dvd_pow 2 ?_;rw[h4]at hc;have:=(Nat.pow_lt_pow_iff_right (a:=2) (by omega)).1 (Nat.lt_of_not_le hc);omega
   obtain⟨q,hq⟩:=hd;have hq1:1≤q:=by
    cases q with
    |zero=>rw[hq]at h2j;omega
    |succ q=>omega
   have hdiv:2^j/Zs s=q:=by rw[hq];exact Nat.mul_div_cancel_left q hs
   have hroom:Zx j (Zs s)=q:=by
    unfold Zx;have:2^j-1=Zs s*(q-1)+(Zs s-1):=by
     rw[hq];have:Zs s*q=Zs s*(q-1)+Zs s:=by
      rw[← Nat.mul_succ];congr 1;omega
     omega
    rw[this,Nat.mul_add_div hs,Nat.div_eq_of_lt (by omega)];omega
   have hqle:q≤2^j:=by rw[← hdiv];exact Nat.div_le_self _ _
   have hp32:2^j≤2^32:=Nat.pow_le_pow_right (by omega) hk;rw[show Int.tdiv ((2^j:Nat):Int) (Zs s:Int)=((2^j/Zs s:Nat):Int)from rfl,hdiv,aZu (n:=q) (by omega),ZL (x:=4*(q:Int)) (by omega) (by omega),ZL (x:=9+4*(q:Int)) (by omega) (by omega)];unfold bZj at hK;rw[hroom]at hK;rw[show((9:Int)+4*(q:Int))=((9+4*q:Nat):Int) by omega];exact hK
 |d+1,j,hj=>by
  unfold aZe.l3;have hp:2^j≤4294967296:=(Nat.pow_le_pow_right (by omega) (by omega):2^j≤2^32);have hnn:=Int.natCast_nonneg (2^j);have hp':((2^j:Nat):Int)≤4294967296:=by exact Int.ofNat_le.2 hp
  refine Zm (by omega) ?_;rw[ZL (x:=2*((2^j:Nat):Int)) (by omega) (by omega),ZL (x:=(j:Int)+1) (by omega) (by omega)];have:=mZN K k hk s hs H hK d (j+1) (by omega);rw[show(2:Int)*((2^j:Nat):Int)=((2^(j+1):Nat):Int) by rw[Nat.pow_succ];omega];exact this
theorem qZ3 (k:Nat)(hk:k≤32)(s:Int)(hs:0<Zs s)(H:Hp):Za prog 8 #[.int .i64 k,.int .i64 s] H (RetE (.int .i64 (bZj k (Zs s))) H):=by
 apply aZe.ok;exact⟨k+1,mZN _ k hk s hs H (RetE.mk _ _) k 0 (by omega)⟩
end Sup
namespace Rec
open Go Go.Hw Go.Form Go.Crc W FormP
theorem kZP (s:Int):secB s=true↔0<Lay.Zs s:=by
 unfold secB Lay.gZs;by_cases h:0<Lay.Zs s
 ·rw[if_pos ⟨by omega,by omega,h⟩];simp[h]
 ·rw[if_neg (fun g=>h g.2.2)];simp[h]
theorem vZn {s:Int}(h:secB s=true):32≤s∧s≤4096:=by
 rw[kZP]at h;refine⟨Int.not_lt.1 fun g=>?_,Int.not_lt.1 fun g=>?_⟩
 ·rw[Lay.iZL g]at h;omega
 ·rw[Lay.iZK g]at h;omega
theorem wZQ {p q:Nat}(hp:p<4294967296)(hq:q<4294967296):bZd 0 [(p,32),(q,0)]=p*4294967296+q:=by
 show(0|||(p*2^32%2^64))|||(q*2^0%2^64)=_
 rw[Nat.zero_or,Nat.mod_eq_of_lt (by omega),Nat.pow_zero,Nat.mul_one,Nat.mod_eq_of_lt (by omega),Nat.mul_comm p,←Nat.two_pow_add_eq_or_of_lt (i:=32) hq p]
theorem jZk {w q:Nat}(k:Nat)(hw:2^k∣w)(hq:q<2^k):w|||q=w+q:=by
 obtain⟨t,rfl⟩:=hw;exact(Nat.two_pow_add_eq_or_of_lt hq t).symm
theorem rZ0 (r:R)(hg:r.good):bZd 0 r.p1=5928144484503126016+r.s:=by
 obtain⟨g1,g2,_⟩:=hg;show(0|||(21061*2^48%2^64))|||(r.s*2^0%2^64)=_
 rw[Nat.zero_or,Nat.pow_zero,Nat.mul_one,Nat.mod_eq_of_lt (show r.s<2^64 by omega),jZk 48 ⟨21061,by decide⟩ (by omega)]
theorem wZr (r:R)(hu:r.u32):bZd 0 r.p3=r.inp*4294967296+r.out:=wZQ hu.inp hu.out
theorem wZq (r:R)(hg:r.good)(hu:r.u32):bZd 0 r.p2=r.ld*4294967296+r.ps.toNat*16777216+r.kk.toNat*65536+r.dir.toNat*256+r.kd.toNat:=by
 obtain⟨g1,g2,g3,g4,g5,g6⟩:=hg;have hu:=hu.ld;have h1:r.ps.toNat<256:=by omega
 have h2:r.kk.toNat<256:=by omega
 have h3:r.dir.toNat<256:=by omega
 have h4:r.kd.toNat<256:=by omega
 show((((0|||(r.ld*2^32%2^64))|||(r.ps.toNat*2^24%2^64))|||(r.kk.toNat*2^16%2^64))|||(r.dir.toNat*2^8%2^64))|||(r.kd.toNat*2^0%2^64)=_
 generalize r.ps.toNat=a at*;generalize r.kk.toNat=b at*;generalize r.dir.toNat=c at*;generalize r.kd.toNat=d at*;generalize r.ld=l at*;rw[Nat.zero_or,Nat.mod_eq_of_lt (show l*2^32<2^64 by omega),Nat.mod_eq_of_lt (show a*2^24<2^64 by omega),Nat.mod_eq_of_lt (show b*2^16<2^64 by omega),Nat.mod_eq_of_lt (show c*2^8<2^64 by omega),Nat.pow_zero,Nat.mul_one,Nat.mod_eq_of_lt (show d<2^64 by omega)];rw[jZk 32 ⟨l,Nat.mul_comm _ _⟩ (show a*2^24<2^32 by omega),jZk 24 ⟨l*256+a,by omega⟩ (show b*2^16<2^24 by omega),jZk 16 ⟨(l*256+a)*256+b,by omega⟩ (show c*2^8<2^16 by omega),jZk 8 ⟨((l*256+a)*256+b)*256+c,by omega⟩ (show d<2^8 by omega)]
structure R.wf (r:R):Prop where
 s:r.s<2^64
 kd: -9223372036854775808≤r.kd∧r.kd≤9223372036854775807
 kk: -9223372036854775808≤r.kk∧r.kk≤9223372036854775807
 dir: -9223372036854775808≤r.dir∧r.dir≤9223372036854775807
 ps: -9223372036854775808≤r.ps∧r.ps≤9223372036854775807
 u:r.u32
def R.form (r:R)(size:Nat):List UInt8:=Form.form r.w4++List.replicate (size-32) 0
theorem jZM (r:R):(Form.form r.w4).length=32:=by rw[aZ6];rfl
theorem jZq (r:R){size:Nat}(h:32≤size):(r.form size).length=size:=by
 unfold R.form;rw[List.length_append,jZM,List.length_replicate];omega
theorem oZA (r:R)(size:Nat):gZa (r.form size)=true:=by
 unfold gZa R.form;refine decide_eq_true fun x hx=>?_
 rw[List.drop_append,jZM,Nat.sub_self,List.drop_eq_nil_of_le (by rw[jZM];exact Nat.le_refl _),List.nil_append,List.drop_zero]at hx;exact(List.mem_replicate.1 hx).2
theorem vZi (r:R)(hg:r.good)(hu:r.u32):hZZ (bZd 0 r.p1) (bZd 0 r.p2) (bZd 0 r.p3)=r:=by
 rw[rZ0 r hg,wZq r hg hu,wZr r hu];obtain⟨g1,g2,g3,g4,g5,g6⟩:=hg;obtain⟨u1,u2,u3⟩:=hu;obtain⟨s,kd,kk,dir,ps,ld,inp,out⟩:=r;simp only at*;unfold hZZ;congr 1<;>omega
theorem oZ5 (r:R)(size:Nat):Zt (r.form size) 0=bZd 0 r.p1∧Zt (r.form size) 8=bZd 0 r.p2∧Zt (r.form size) 16=bZd 0 r.p3∧Zt (r.form size) 24=bZd 0 (gZL r.w3):=by
 have h4:r.w4.length=4:=rfl;have w0:=eZY (l:=r.w4) (i:=0) (by omega) (List.replicate (size-32) 0);have w1:=eZY (l:=r.w4) (i:=1) (by omega) (List.replicate (size-32) 0);have w2:=eZY (l:=r.w4) (i:=2) (by omega) (List.replicate (size-32) 0);have w3:=eZY (l:=r.w4) (i:=3) (by omega) (List.replicate (size-32) 0);refine⟨w0.trans ?_,w1.trans ?_,w2.trans ?_,w3.trans ?_⟩
 ·exact UInt64.toNat_ofNat_of_lt' (eZc r.p1 0 (by decide))
 ·exact UInt64.toNat_ofNat_of_lt' (eZc r.p2 0 (by decide))
 ·exact UInt64.toNat_ofNat_of_lt' (eZc r.p3 0 (by decide))
 ·exact UInt64.toNat_ofNat_of_lt' (eZc (gZL r.w3) 0 (by decide))
theorem qZD (r:R)(hg:r.good)(hu:r.u32){size:Nat}(h32:32≤size)(hs:secB (size:Int)=true):aZ2 (r.form size)=(r,0):=by
 obtain⟨w0,w1,w2,w3⟩:=oZ5 r size;have hU:w3U (r.form size)=r.w3:=by
  unfold w3U;rw[w0,w1,w2];rfl
 have hr:=vZi r hg hu;have hm:bZd 0 r.p1/281474976710656=21061:=by
  have:=rZ0 r hg;have:=hg.1;have:=hg.2.1;omega
 unfold aZ2;rw[jZq r h32,if_pos hs,hU,w0,w1,w2,w3,hr,if_pos ⟨hm,oZA r size⟩,if_pos rfl,if_pos hg]
end Rec
namespace Rng
open Go Go.Hw W Rec Srt Dsk
def ZW (p:Nat)(f n w:Int):AO:=.obj (.cells #[.int .i64 f,.int .i64 n,.int .i64 w,.pointer (some ⟨p,0,none⟩)] 146)
def lZ1 (d:D)(f n:Int):Bool:=decide (2≤n∧0≤f∧f<d.sec∧n≤d.sec-f)
def lZS (p:Nat)(d:D)(f n w:Int)(v:Value)(M:List As):Prop:=
 (lZ1 d f n=true∧∃ b,v= .tuple #[.pointer (some ⟨b,0,none⟩),.int .i64 0]∧M=[Dk p d,pts b (ZW p f n w)])∨(lZ1 d f n=false∧v= .tuple #[.pointer none,.int .i64 2]∧M=[Dk p d])
theorem lZS.yes {p:Nat}{d:D}{f n w:Int}(h:lZ1 d f n=true)(b:Nat):lZS p d f n w (.tuple #[.pointer (some ⟨b,0,none⟩),.int .i64 0]) [Dk p d,pts b (ZW p f n w)]:=.inl ⟨h,b,rfl,rfl⟩
theorem lZS.no {p:Nat}{d:D}{f n w:Int}(h:lZ1 d f n=false):lZS p d f n w (.tuple #[.pointer none,.int .i64 2]) [Dk p d]:=.inr ⟨h,rfl,rfl⟩
theorem dZS {p:Nat}{d:D}(hok:Ok d)(f n w:Int)(hf: -9223372036854775808≤f∧f≤9223372036854775807):
  Tr prog 72 #[.pointer (some ⟨p,0,none⟩),.agg #[.int .i64 f,.int .i64 n,.int .i64 w]] [Dk p d] (lZS p d f n w):=fun H hs=>by
 have hsec:=hok.sec;apply hZa.ok;unfold hZa;refine hs.nw fun b1 H hs=>?_
 have hs:Hw.Sep [Dk p d,pts b1 (.obj (.cells #[.int .i64 f,.int .i64 n,.int .i64 w] 87))] H:=hs;have bad:lZ1 d f n=false→∃ M,lZS p d f n w (.tuple #[.pointer none,.int .i64 2]) M∧Hw.Sep M H:=fun h=>⟨_,.no h,hs.re [0] rfl⟩
 refine aZb rfl ?_;refine hs.ldf 1 rfl rfl ?_;simp only[HV];by_cases h1:n<2
 ·exact Zm h1 (bad (decide_eq_false (by omega)))
 refine Zh h1 ?_;refine hs.ldf 1 rfl rfl ?_;simp only[HV];by_cases h2:f<0
 ·exact Zm h2 (bad (decide_eq_false (by omega)))
 refine Zh h2 ?_;refine hs.ldf 1 rfl rfl ?_;simp only[HV];refine ZM.use (eZz hs 0 rfl) ?_;simp only[HV];by_cases h3:f≥(d.sec:Int)
 ·exact Zm h3 (bad (decide_eq_false (by omega)))
 refine Zh h3 ?_;refine hs.ldf 1 rfl rfl ?_;simp only[HV];refine ZM.use (eZz hs 0 rfl) ?_;simp only[HV];refine hs.ldf 1 rfl rfl ?_;simp only[HV];rw[ZL (x:=(d.sec:Int)-f) (by omega) (by omega)];by_cases h4:n>(d.sec:Int)-f
 ·exact Zm h4 (bad (decide_eq_false (by omega)))
 refine Zh h4 ?_
 first|refine hs.ldw 1 rfl rfl ?_
 try simp only[HV]
 refine hs.nw fun b2 H hs=>?_
 exact⟨_,.yes (decide_eq_true (by omega)) b2,hs.re [0,2] rfl⟩
def aZQ (f n s:Nat):Nat:=f+(s-1)%n
theorem pZK {L:List As}{H:Hp}(hs:Hw.Sep L H)(i:Nat){b p f n:Nat}{w:Int}(hi:L[i]? =some (pts b (ZW p f n w)))(hf:f≤1048576)(hn:1≤n)(hn2:n≤1048576)(s:Nat)(h1:1≤s)(h2:s<18446744073709551616):
  Za prog 111 #[.pointer (some ⟨b,0,none⟩),.int .u64 (s:Int)] H (RetE (.int .i64 (aZQ f n s:Int)) H):=by
 apply dZ6.ok;unfold dZ6;simp only[HS];refine hs.ld i hi rfl ?_;simp only[HV]
 try simp only[HS]
 refine hs.ld i hi rfl ?_;simp only[HV];have hm:(s-1)%n<n:=Nat.mod_lt _ (by omega);rw[bZ5 (by omega),eZh (x:=(s:Int)-1) (by omega) (by omega),show(s:Int)-1=((s-1:Nat):Int) by omega,show Int.tmod ((s-1:Nat):Int) (n:Int)=(((s-1)%n:Nat):Int)from rfl,aZu (by omega),ZL (by omega) (by omega)];refine⟨by omega,by simp,?_⟩;unfold aZQ;exact RetE.of (by rw[Int.natCast_add])
def eZX (f n:Nat)(bs:List UInt8)(i:Nat):List R:=if(aZ2 bs).2=0∧aZQ f n (aZ2 bs).1.s=f+i then [(aZ2 bs).1]else []
def D.red (d:D):D:={ d.burnt with rd:=d.rd+1}
theorem Ok.red {d:D}(hok:Ok d):Ok (D.red d):=⟨hok.burnt.sec,hok.burnt.size,hok.burnt.big,hok.burnt.per,hok.burnt.safe,hok.burnt.cache,hok.burnt.fz⟩
def cZO (f n:Nat):Nat→Nat→D→List R→Int×D×List R
 |0,_,d,acc=>(0,d,acc)
 |k+1,i,d,acc=>if d.chk ((f+i:Nat):Int)≠0 then(d.chk ((f+i:Nat):Int),d,[])else if d.burns=true then(8,d.burnt,[])else cZO f n k (i+1) (D.red d) (acc++eZX f n (d.now ((f+i:Nat):Int)) i)
def kZ4 (b p f n:Nat)(w:Int)(r:Int×D×List R)(v:Value)(M:List As):Prop:=
 ∃ A m,v= .tuple #[.slice A r.2.2.length m,.int .i64 r.1]∧M=[Dk p r.2.1,pts b (ZW p f n w),Own 102 8 A r.2.2.length m (cZm (bZ2 r.2.2 (r.2.2.length-1)))]∧r.2.2.length≤m
theorem qZE {bs:List UInt8}(h:(aZ2 bs).2=0):(aZ2 bs).1.good:=by
 unfold aZ2 at h⊢;split at h
 ·rename_i h1
  rw[if_pos h1];split at h
  ·rename_i h2
   rw[if_pos h2];split at h
   ·rename_i h3
    rw[if_pos h3];split at h
    ·rename_i h4
     rw[if_pos h4];exact h4
    ·cases h
   ·cases h
  ·cases h
 ·cases h
theorem tZc :bZf prog 102=some (8,56,some #[.int .u64 0,.int .i64 0,.int .i64 0,.int .i64 0,.int .i64 0,.int .u32 0,.int .u32 0,.int .u32 0]):=by kernel_rfl
theorem qZm {L:List As}{H:Hp}(h:Hw.Sep L H):Hw.Sep (L++[Own 102 8 none 0 0 []]) H:=by
 have:Hw.Sep (Own 102 8 none 0 0 []::L) H:=⟨fun _=>none,H,fun _ _ h=>(nomatch h),Hp.le_refl _,fun _=>.inl rfl,Own.none _ _ _,h⟩;exact Hw.Sep.perm (List.perm_append_comm (l₁:=[_])) this
theorem iZ2 (b p f n:Nat)(w:Int)(hn:1≤n)(hfn:f+n≤1048576)(r:Int×D×List R)(hr12:r.1=0→r.2.2.length≤12):
  ∀(t i:Nat) (d:D) (acc:List R) (A:OA) (m:Nat) (H:Hp),i+t=n→Ok d→d.rd+t≤1000000→acc.length≤i→acc.length≤m→r=cZO f n t i d acc→
   Hw.Sep [Dk p d,pts b (ZW p f n w),Own 102 8 A acc.length m (cZm acc)] H→
   ZN.l2 (fun v H'=>∃ M,kZ4 b p f n w r v M∧Hw.Sep M H') (t+1) (some ⟨b,0,none⟩) A acc.length m (n:Int) (i:Int) H
 |0,i,d,acc,A,m,H,hi,hok,hrd,hacc,hm,hr,hs=>by
  unfold ZN.l2;refine Zh (by omega) ?_;have hr:r=(0,d,acc):=hr;have h12:=hr12 (by rw[hr]);rw[hr]at h12;refine(oZW A acc.length m h12 acc rfl).use hs [2] rfl rfl ?_;rintro _ _ H1 ⟨rfl,rfl⟩ hs;rw[hr];exact⟨_,⟨A,m,rfl,rfl,hm⟩,hs.re [1,2,0] rfl⟩
 |t+1,i,d,acc,A,m,H,hi,hok,hrd,hacc,hm,hr,hs=>by
  unfold ZN.l2;refine Zm (by omega) ?_;have hj5:∀(H:Hp) (v:Value) (M:List As),uZj p d ((f+i:Nat):Int) v M→Hw.Sep (M++[pts b (ZW p f n w),Own 102 8 A acc.length m (cZm acc)]) H→
    bZv v fun l1=>Zl l1 fun v5 l2=>DSl v5 fun A2 n2 m2=>Zl l2 fun v6 l3=>DI .i64 v6 fun x5=>ZS l3 (ZN.j5 (fun v H'=>∃ M,kZ4 b p f n w r v M∧Hw.Sep M H') (ZN.l2 (fun v H'=>∃ M,kZ4 b p f n w r v M∧Hw.Sep M H') (t+1)) (some ⟨b,0,none⟩) A acc.length m (i:Int) A2 n2 m2 x5 (n:Int) (i:Int) H):=by
   rintro H _ _ (⟨hc,rfl,rfl⟩|⟨hc,hb,rfl,rfl⟩|⟨hc,hb,b2,c,mm,rfl,hcc,rfl⟩) hs
   ·simp only[HV];unfold ZN.j5;refine ZC hc ?_;unfold cZO at hr;rw[if_pos hc]at hr;rw[hr];have hs:=qZm hs;exact⟨_,⟨none,0,rfl,rfl,Nat.le_refl _⟩,hs.re [0,1,3] rfl⟩
   ·simp only[HV];unfold ZN.j5;refine ZC (by decide) ?_;unfold cZO at hr;rw[if_neg (by omega),if_pos hb]at hr;rw[hr];have hs:=qZm hs;exact⟨_,⟨none,0,rfl,rfl,Nat.le_refl _⟩,hs.re [0,1,3] rfl⟩
   ·simp only[HV];unfold ZN.j5;refine Zq rfl ?_;have hs:Hw.Sep [Dk p (D.red d),pts b2 (.row (Zn (d.now ((f+i:Nat):Int))) 5 mm),pts b (ZW p f n w),Own 102 8 A acc.length m (cZm acc)] H:=hs;unfold cZO at hr;rw[if_neg (by omega),if_neg (by simp[hb])]at hr;have hnow:=hok.now ((f+i:Nat):Int);have hsz:=hok.size;generalize d.now ((f+i:Nat):Int)=bs at*;have hcell:Cells H (some ⟨b2,0,none⟩) (Zn bs):=by
     have:=Cells.row (hs.get 1 (b:=b2) (o:=.row (Zn bs) 5 mm) rfl) 0 d.size;rw[List.drop_zero,List.take_of_length_le (by rw[ZO];omega)]at this;exact this
    refine Za.use (iZd (some ⟨b2,0,none⟩) d.size c bs hnow.symm hcc (by omega) (fun _=>hsz.1) H hcell) ?_;simp only[HV];have hg:=qZE (bs:=bs);have hst:eZX f n bs i=if(aZ2 bs).2=0∧aZQ f n (aZ2 bs).1.s=f+i then [(aZ2 bs).1]else []:=rfl
    generalize aZ2 bs=tv at*;obtain⟨q,e⟩:=tv;simp only at hg hst;refine hs.nw fun b3 H hs=>?_
    refine hs.stw 4 (y:=q.c) rfl rfl rfl (eZU q) fun H hs=>?_;have hs:Hw.Sep [Dk p (D.red d),pts b2 (.row (Zn bs) 5 mm),pts b (ZW p f n w),Own 102 8 A acc.length m (cZm acc),pts b3 (.obj (.cells q.c 102))] H:=hs;have hred:(D.red d).rd=d.rd+1:=rfl;have next:∀ H,eZX f n bs i=[]→Hw.Sep [Dk p (D.red d),pts b (ZW p f n w),Own 102 8 A acc.length m (cZm acc)] H→
      ZN.l2 (fun v H'=>∃ M,kZ4 b p f n w r v M∧Hw.Sep M H') (t+1) (some ⟨b,0,none⟩) A acc.length m (n:Int) (i64.wrap ((i:Int)+1)) H:=fun H h0 hs=>by
     rw[ZL (x:=(i:Int)+1) (by omega) (by omega)];rw[h0,List.append_nil]at hr;exact iZ2 b p f n w hn hfn r hr12 t (i+1) (D.red d) acc A m H (by omega) (Ok.red hok) (by rw[hred];omega) (by omega) hm hr hs
    by_cases he:e=0
    ·have hgood:=hg he;obtain⟨s1,s2,_⟩:=hgood;refine ZT he ?_;refine hs.ldf 4 rfl rfl ?_;simp only[HV];refine ZM.use (pZK hs 2 rfl (by omega) hn (by omega) q.s s1 (by omega)) ?_;simp only[HV]
     try simp only[HS]
     refine hs.ld 2 rfl rfl ?_;simp only[HV];rw[ZL (x:=(f:Int)+(i:Int)) (by omega) (by omega)];by_cases hsl:aZQ f n q.s=f+i
     ·refine ZT (by omega) ?_;rw[if_pos ⟨he,hsl⟩]at hst;refine hs.ldw 4 rfl rfl ?_;unfold R.c;simp only[HV];refine qZ4 (x:=fun b=>.slice (some ⟨b,0,none⟩) 1 1) ?_;refine hs.appS 3 rfl tZc rfl (by omega) (by omega) rfl rfl (by omega) (by omega) fun A' m' H hs hcap=>?_
      have hm':=hcap _ _ _ rfl;simp only[HV];rw[ZL (x:=(i:Int)+1) (by omega) (by omega)];rw[hst]at hr;have hlen:(acc++[q]).length=acc.length+1:=by simp
      have ih:=iZ2 b p f n w hn hfn r hr12 t (i+1) (D.red d) (acc++[q]) A' m' H (by omega) (Ok.red hok) (by rw[hred];omega) (by omega) (by rw[hlen];exact hm') hr;rw[hlen]at ih;refine ih ?_;have e1:cZm (acc++[q])=cZm acc++q.c.toList:=by simp[cZm]
      rw[e1];exact hs.re [0,2,3] rfl
     ·refine aZg (by omega) ?_;rw[if_neg (fun h=>hsl h.2)]at hst;exact next H hst (hs.re [0,2,3] rfl)
    ·refine aZg he ?_;rw[if_neg (fun h=>he h.1)]at hst;exact next H hst (hs.re [0,2,3] rfl)
  try simp only[HS]
  have hw:i64.wrap ((f:Int)+(i:Int))=((f+i:Nat):Int):=by rw[ZL (by omega) (by omega)];omega
  have hR:=jZJ (p:=p) (d:=d) hok (by omega) ((f+i:Nat):Int);refine⟨?_,?_⟩
  ·refine hs.ld 1 rfl rfl ?_;simp only[HV]
   try simp only[HS]
   refine hs.ld 1 rfl rfl ?_;simp only[HV];rw[hw];refine hR.use hs [0] rfl rfl ?_;intro v M H1 hq hs;exact hj5 H1 v M hq hs
  ·refine hs.ld 1 rfl rfl ?_;simp only[HV]
   try simp only[HS]
   refine hs.ld 1 rfl rfl ?_;simp only[HV];rw[hw];refine hR.use hs [0] rfl rfl ?_;intro v M H1 hq hs;exact hj5 H1 v M hq hs
theorem sZn (f n:Nat)(bs:List UInt8)(i:Nat):(eZX f n bs i).length≤1:=by unfold eZX;split<;>simp
theorem jZs (f n:Nat):∀(k i:Nat) (d:D) (acc:List R),(cZO f n k i d acc).2.2.length≤acc.length+k
 |0,_,_,_=>Nat.le_refl _
 |k+1,i,d,acc=>by
  unfold cZO;split
  ·exact Nat.zero_le _
  ·split
   ·exact Nat.zero_le _
   ·have h1:=jZs f n k (i+1) (D.red d) (acc++eZX f n (d.now ((f+i:Nat):Int)) i);have h2:=sZn f n (d.now ((f+i:Nat):Int)) i;rw[List.length_append]at h1;omega
theorem mZU (f n:Nat):∀(k i:Nat) (d:D) (acc:List R),(cZO f n k i d acc).1≠0→(cZO f n k i d acc).2.2=[]
 |0,_,_,_,h=>absurd rfl h
 |k+1,i,d,acc,h=>by
  unfold cZO at h⊢;by_cases h1:d.chk ((f+i:Nat):Int)≠0
  ·rw[if_pos h1]
  ·rw[if_neg h1]at h⊢;by_cases h2:d.burns=true
   ·rw[if_pos h2]
   ·rw[if_neg h2]at h⊢;exact mZU f n k (i+1) _ _ h
def aZS (f n:Nat)(d:D):Int×D×List R:=cZO f n n 0 d []
theorem uZD {b p f n:Nat}{w:Int}{d:D}(hn:1≤n)(hfn:f+n≤1048576)(hok:Ok d)(hrd:d.rd+n≤1000000)(h12:(aZS f n d).1=0→(aZS f n d).2.2.length≤12):
  Tr prog 93 #[.pointer (some ⟨b,0,none⟩)] [Dk p d,pts b (ZW p f n w)] (kZ4 b p f n w (aZS f n d)):=fun H hs=>by
 apply ZN.ok;unfold ZN
 try simp only[HS]
 refine hs.ld 1 rfl rfl ?_;simp only[HV];exact⟨n+1,iZ2 b p f n w hn hfn _ h12 n 0 d [] none 0 H (by omega) hok hrd (Nat.le_refl _) (Nat.le_refl _) rfl (qZm hs)⟩
def eZd (r:Int×D×List R):Option R:=(bZ2 r.2.2 (r.2.2.length-1)).getLast?
def tZ6 (b p f n:Nat)(w:Int)(r:Int×D×List R)(v:Value)(M:List As):Prop:=
 v= .tuple #[.agg ((eZd r).getD bZe).c,.bool (eZd r).isSome,.int .i64 r.1]∧M=[Dk p r.2.1,pts b (ZW p f n w)]
theorem pZc {b p f n:Nat}{w:Int}{d:D}(hn:1≤n)(hfn:f+n≤1048576)(hok:Ok d)(hrd:d.rd+n≤1000000)(h12:(aZS f n d).1=0→(aZS f n d).2.2.length≤12):
  Tr prog 65 #[.pointer (some ⟨b,0,none⟩)] [Dk p d,pts b (ZW p f n w)] (tZ6 b p f n w (aZS f n d)):=fun H hs=>by
 apply bZM.ok;unfold bZM bZM.q1;refine hs.nw fun b1 H hs=>?_
 have herr:=mZU f n n 0 d [];have hlen:=eZD ((aZS f n d).2.2.length-1) (aZS f n d).2.2;refine(uZD (b:=b) (p:=p) (w:=w) hn hfn hok hrd h12).use hs [0,1] rfl rfl ?_;rintro _ _ H1 ⟨A,m,rfl,rfl,_⟩ hs;change (aZS f n d).1≠0→(aZS f n d).2.2=[]at herr;unfold tZ6 eZd;generalize aZS f n d=r at*;obtain⟨e,d',l⟩:=r;simp only at hlen herr h12 hs⊢;simp only[HV];have hs:Hw.Sep [Dk p d',pts b (ZW p f n w),Own 102 8 A l.length m (cZm (bZ2 l (l.length-1))),pts b1 (.obj (.cells #[.int .u64 0,.int .i64 0,.int .i64 0,.int .i64 0,.int .i64 0,.int .u32 0,.int .u32 0,.int .u32 0] 102))] H1:=hs;have zero:l=[]→∀ H,Hw.Sep [Dk p d',pts b (ZW p f n w),Own 102 8 A l.length m (cZm (bZ2 l (l.length-1))),pts b1 (.obj (.cells #[.int .u64 0,.int .i64 0,.int .i64 0,.int .i64 0,.int .i64 0,.int .u32 0,.int .u32 0,.int .u32 0] 102))] H→
   StA H ⟨b1,0,none⟩ #[.int .u64 0,.int .i64 0,.int .i64 0,.int .i64 0,.int .i64 0,.int .u32 0,.int .u32 0,.int .u32 0] 8 fun H3=>LdA H3 ⟨b1,0,none⟩ 8 fun l5=>∃ M,((Value.tuple #[.agg l5.toArray,.bool false,.int .i64 e])= .tuple #[.agg (((bZ2 l (l.length-1)).getLast?).getD bZe).c,.bool ((bZ2 l (l.length-1)).getLast?).isSome,.int .i64 e]∧M=[Dk p d',pts b (ZW p f n w)])∧Hw.Sep M H3:=fun h0 H hs=>by
  subst h0;refine hs.stw 3 rfl rfl rfl rfl fun H hs=>hs.ldw 3 rfl rfl ?_
  exact⟨_,⟨rfl,rfl⟩,hs.re [0,1] rfl⟩
 by_cases he:e≠0
 ·refine ZC he ?_;exact zero (herr he) _ hs
 ·have he0:e=0:=by omega
  refine Zq he0 ?_;by_cases hl:l=[]
  ·refine ZT (by rw[hl];rfl) ?_;exact zero hl _ hs
  ·have hp:0<l.length:=List.length_pos_iff.2 hl;refine aZg (by omega) ?_;have ei:i64.wrap ((l.length:Int)-1)=((l.length-1:Nat):Int):=by
    have h12':=h12 he0;rw[ZL (by omega) (by omega)];omega
   rw[ei];have hlt:l.length-1<(bZ2 l (l.length-1)).length:=by omega
   refine(hs.own 2 rfl).rdA rfl (by omega) (hZJ _ (l.length-1) hlt) ?_;rw[Array.toArray_toList];refine hs.stw 3 rfl rfl rfl (eZU _) fun H hs=>hs.ldw 3 rfl rfl ?_
   rw[Array.toArray_toList];have hgl:(bZ2 l (l.length-1)).getLast? =some (bZ2 l (l.length-1))[l.length-1]:=by
    rw[List.getLast?_eq_getElem?,hlen,List.getElem?_eq_getElem hlt]
   rw[hgl,he0];exact⟨_,⟨rfl,rfl⟩,hs.re [0,1] rfl⟩
end Rng
namespace Rec
open Go Go.Hw Go.Form Go.Crc W FormP
theorem nZN (r:R)(x:Int)(h:¬(r.good∧secB x=true))(H:Hp):Za prog 109 #[.agg r.c,.int .i64 x] H (RetE (.tuple #[.slice none 0 0,.int .i64 1]) H):=Za.ret (by
 apply dZU.ok;unfold dZU;refine(Sep.start H).nw fun b1 H1 hs=>?_
 have hs:Sep [own H,pts b1 (bZy r)] H1:=hs;refine hs.ldw 1 rfl rfl ?_;refine Za.use (bZR r H1) ?_;simp only[HV];by_cases hg:r.good
 ·rw[decide_eq_true hg];refine aZb rfl ?_;refine Za.use (hZ1 x H1) ?_;rw[show secB x=false by simpa using fun g=>h ⟨hg,g⟩];simp only[HV];exact hs.fin 0 rfl _
 ·rw[decide_eq_false hg];exact aZt rfl (hs.fin 0 rfl _))
theorem jZT (r:R){size:Nat}(h32:32≤size):setAt (aZs [Value.int .u8 0] size) 0 (Zn (Form.form r.w4))=Zn (r.form size):=by
 rw[bZs];unfold setAt R.form;rw[List.take_zero,List.nil_append,Nat.zero_add,ZO,jZM,List.drop_replicate];unfold Zn;rw[List.map_append,List.map_replicate];rfl
end Rec
namespace Rng
open Go Go.Hw W Rec Srt Dsk
theorem oZD (f n:Nat):∀(k i:Nat) (d:D) (acc:List R),Ok d→Ok (cZO f n k i d acc).2.1∧(cZO f n k i d acc).2.1.wr=d.wr∧(cZO f n k i d acc).2.1.sy=d.sy∧(cZO f n k i d acc).2.1.size=d.size∧(cZO f n k i d acc).2.1.sec=d.sec
 |0,_,d,_,h=>⟨h,rfl,rfl,rfl,rfl⟩
 |k+1,i,d,acc,h=>by
  have hb:=bZ8 d;unfold cZO;split
  ·exact⟨h,rfl,rfl,rfl,rfl⟩
  ·split
   ·exact⟨h.burnt,hb.2.1,hb.2.2.1,hb.2.2.2.1,hb.2.2.2.2.1⟩
   ·obtain⟨h1,h2,h3,h4,h5⟩:=oZD f n k (i+1) (D.red d) (acc++eZX f n (d.now ((f+i:Nat):Int)) i) (Ok.red h);exact⟨h1,h2.trans hb.2.1,h3.trans hb.2.2.1,h4.trans hb.2.2.2.1,h5.trans hb.2.2.2.2.1⟩
def mZa (f n:Nat)(d:D)(r:R):Int×D:=
 if d.writeE (aZQ f n r.s) d.size≠0 then(d.writeE (aZQ f n r.s) d.size,d.writeD (aZQ f n r.s) (r.form d.size))
 else((d.writeD (aZQ f n r.s) (r.form d.size)).syncE,(d.writeD (aZQ f n r.s) (r.form d.size)).syncD)
def cZF (q:Option R)(r:R):Bool:=match q with|some q=>decide (after q r)|none=>decide (r.s=1∧r.kd=1)
def eZ0 (f n:Nat)(d:D)(r:R):Int×D:=
 if ¬r.good then(10,d)else if(aZS f n d).1≠0 then((aZS f n d).1,(aZS f n d).2.1)
 else if cZF (eZd (aZS f n d)) r=false then(5,(aZS f n d).2.1)else mZa f n (aZS f n d).2.1 r
def iZx (b p f n:Nat)(w:Int)(r:Int×D)(v:Value)(M:List As):Prop:=v= .int .i64 r.1∧M=[Dk p r.2,pts b (ZW p f n w)]
theorem wZP {b p f n:Nat}{w:Int}(hn:1≤n)(hfn:f+n≤1048576){d:D}(hok:Ok d)(hw:d.wr≤1000000∧d.sy≤1000000)(r:R)(hg:r.good)(b1 b2 mm:Nat)(H:Hp)
  (hs:Hw.Sep [Dk p d,pts b (ZW p f n w),pts b1 (bZy r),pts b2 (.row (Zn (r.form d.size)) 5 mm)] H):
  ZJ.j9 (fun v H'=>∃ M,iZx b p f n w (mZa f n d r) v M∧Hw.Sep M H') (some ⟨b,0,none⟩) ⟨b1,0,none⟩ (some ⟨b2,0,none⟩) d.size d.size H:=by
 unfold ZJ.j9;obtain⟨s1,s2,_⟩:=hg;have hsz:=hok.size
 try simp only[HS]
 refine hs.ld 1 rfl rfl ?_;simp only[HV];refine hs.ld 2 rfl rfl ?_;simp only[HV];refine ZM.use (pZK hs 1 rfl (by omega) hn (by omega) r.s s1 (by omega)) ?_;simp only[HV];have hl:=jZq r hsz.1;refine(dZ7 (p:=p) (d:=d) hok (by omega) (aZQ f n r.s:Int) (some ⟨b2,0,none⟩) d.size d.size (r.form d.size) hl.symm (pts b2 (.row (Zn (r.form d.size)) 5 mm)) (fun H h=>?_)).use hs [0,3] rfl rfl ?_
 ·have:=Cells.row h 0 d.size;rw[List.drop_zero,List.take_of_length_le (by rw[ZO];omega)]at this;exact this
 rintro _ _ H1 ⟨rfl,rfl⟩ hs;have hs:Hw.Sep [Dk p (d.writeD (aZQ f n r.s) (r.form d.size)),pts b2 (.row (Zn (r.form d.size)) 5 mm),pts b (ZW p f n w),pts b1 (bZy r)] H1:=hs;unfold iZx mZa;by_cases he:d.writeE (aZQ f n r.s) d.size≠0
 ·rw[if_pos he];simp only[HV];refine ZC he ?_;exact⟨_,⟨by first|trivial|rfl,rfl⟩,hs.re [0,2] rfl⟩
 ·rw[if_neg he];simp only[HV];refine Zq (by omega) ?_
  try simp only[HS]
  refine hs.ld 2 rfl rfl ?_;simp only[HV];have hsy:(d.writeD (aZQ f n r.s) (r.form d.size)).sy=d.sy:=by
   have hbr:=bZ8 d;unfold D.writeD;split
   ·rfl
   ·split
    ·rfl
    ·split
     ·exact hbr.2.2.1
     ·exact hbr.2.2.1
  refine(hZp (p:=p) (d:=d.writeD (aZQ f n r.s) (r.form d.size)) (Ok.writeD hok _ _) (by rw[hsy];omega)).use hs [0] rfl rfl ?_;rintro _ _ H2 ⟨rfl,rfl⟩ hs;simp only[HV];exact⟨_,⟨by first|trivial|rfl,rfl⟩,hs.re [0,2] rfl⟩
theorem wZN {K:VK}{p4:OA}{a4:Addr}{A:OA}{n m:Nat}{x:Int}{H:Hp}(hx:x≠0)(k:K (.int .i64 10) H):ZJ.j2 K p4 a4 A n m x H:=by
 unfold ZJ.j2;exact ZC hx k
theorem wZO {b p f n:Nat}{w:Int}(hn:1≤n)(hfn:f+n≤1048576){d:D}(hok:Ok d)(hw:d.wr≤1000000∧d.sy≤1000000)(hrd:d.rd+n≤1000000)(h12:(aZS f n d).1=0→(aZS f n d).2.2.length≤12)(r:R)(hg:r.good)(b1 b2 mm:Nat)(H:Hp)
  (hs:Hw.Sep [Dk p d,pts b (ZW p f n w),pts b1 (bZy r),pts b2 (.row (Zn (r.form d.size)) 5 mm)] H):
  ZJ.j2 (fun v H'=>∃ M,iZx b p f n w (eZ0 f n d r) v M∧Hw.Sep M H') (some ⟨b,0,none⟩) ⟨b1,0,none⟩ (some ⟨b2,0,none⟩) d.size d.size 0 H:=by
 unfold ZJ.j2;refine Zq rfl ?_;refine(pZc (b:=b) (p:=p) (w:=w) hn hfn hok hrd h12).use hs [0,1] rfl rfl ?_;rintro _ _ H1 ⟨rfl,rfl⟩ hs;obtain⟨hok',hwr',hsy',hsz',_⟩:=oZD f n n 0 d [] hok;have hok':Ok (aZS f n d).2.1:=hok';have hwr':(aZS f n d).2.1.wr=d.wr:=hwr';have hsy':(aZS f n d).2.1.sy=d.sy:=hsy';have hsz':(aZS f n d).2.1.size=d.size:=hsz';have hj9:=fun(b1 b2 mm:Nat) (H:Hp) hs=>wZP (b:=b) (p:=p) (w:=w) hn hfn hok' (by rw[hwr',hsy'];exact hw) r hg b1 b2 mm H hs
 have hap:eZ0 f n d r=if(aZS f n d).1≠0 then((aZS f n d).1,(aZS f n d).2.1)else if cZF (eZd (aZS f n d)) r=false then(5,(aZS f n d).2.1)else mZa f n (aZS f n d).2.1 r:=by
  unfold eZ0;rw[if_neg (fun h=>h hg)]
 rw[hap];rw[hsz']at hj9;generalize eZd (aZS f n d)=lq at*;generalize aZS f n d=sc at*;obtain⟨e,d',l⟩:=sc;simp only at hj9 hs hok' hwr' hsy' hsz' h12⊢;simp only[HV];refine hs.nw fun b3 H hs=>?_
 refine hs.stw 4 (y:=(lq.getD bZe).c) rfl rfl rfl (eZU _) fun H hs=>?_;have hs:Hw.Sep [Dk p d',pts b (ZW p f n w),pts b1 (bZy r),pts b2 (.row (Zn (r.form d.size)) 5 mm),pts b3 (.obj (.cells (lq.getD bZe).c 102))] H:=hs;by_cases he:e≠0
 ·refine ZC he ?_;rw[if_pos he];exact⟨_,⟨rfl,rfl⟩,hs.re [0,1] rfl⟩
 refine Zq (by omega) ?_;rw[if_neg he];cases lq with
 |some q=>
  refine aZt rfl ?_;refine hs.ldw 4 rfl rfl ?_;refine hs.ldw 2 rfl rfl ?_;rw[Array.toArray_toList,Array.toArray_toList];refine Za.use (sZI q r H) ?_;simp only[HV];by_cases ha:after q r
  ·rw[decide_eq_true ha];refine aZb rfl (aZb rfl ?_);rw[if_neg (show ¬cZF (some q) r=false by show ¬(decide (after q r)=false);rw[decide_eq_true ha];decide)];exact hj9 b1 b2 mm H (hs.re [0,1,2,3] rfl)
  ·rw[decide_eq_false ha];refine aZt rfl ?_;rw[if_pos (show cZF (some q) r=false from decide_eq_false ha)];exact⟨_,⟨rfl,rfl⟩,hs.re [0,1] rfl⟩
 |none=>
  refine aZb rfl (aZt rfl ?_);refine hs.ldf 2 rfl rfl ?_;simp only[HV];by_cases h1:r.s=1
  ·refine Zq (by omega) ?_;refine hs.ldf 2 rfl rfl ?_;simp only[HV];by_cases h2:r.kd=1
   ·refine Zq h2 ?_;rw[if_neg (show ¬cZF none r=false by show ¬(decide (r.s=1∧r.kd=1)=false);rw[decide_eq_true ⟨h1,h2⟩];decide)];exact hj9 b1 b2 mm H (hs.re [0,1,2,3] rfl)
   ·refine ZC h2 ?_;rw[if_pos (show cZF none r=false from decide_eq_false fun h=>h2 h.2)];exact⟨_,⟨rfl,rfl⟩,hs.re [0,1] rfl⟩
  ·refine ZC (by omega) ?_;rw[if_pos (show cZF none r=false from decide_eq_false fun h=>h1 h.1)];exact⟨_,⟨rfl,rfl⟩,hs.re [0,1] rfl⟩
theorem qZQ {b p f n:Nat}{w:Int}(hn:1≤n)(hfn:f+n≤1048576){d:D}(hok:Ok d)(hw:d.wr≤1000000∧d.sy≤1000000)(hrd:d.rd+n≤1000000)(h12:(aZS f n d).1=0→(aZS f n d).2.2.length≤12)(hsec:secB (d.size:Int)=true)(r:R)(hu:r.u32):
  Tr prog 81 #[.pointer (some ⟨b,0,none⟩),.agg r.c] [Dk p d,pts b (ZW p f n w)] (iZx b p f n w (eZ0 f n d r)):=fun H hs=>by
 apply ZJ.ok;unfold ZJ ZJ.q1;have hsz:=hok.size;refine hs.nw fun b1 H hs=>?_
 have hs:Hw.Sep [Dk p d,pts b (ZW p f n w),pts b1 (bZy r)] H:=hs;have put:Za prog 109 #[.agg r.c,.int .i64 (d.size:Int)] H fun v3 H3=>bZv v3 fun l2=>Zl l2 fun v4 l3=>DSl v4 fun A1 n1 m1=>Zl l3 fun v5 l4=>DI .i64 v5 fun x2=>ZS l4 (ZJ.j2 (fun v H'=>∃ M,iZx b p f n w (eZ0 f n d r) v M∧Hw.Sep M H') (some ⟨b,0,none⟩) ⟨b1,0,none⟩ A1 n1 m1 x2 H3):=by
  by_cases hg:r.good
  ·have hneed:(Lay.gZs 0 (d.size:Int)).2=0:=of_decide_eq_true hsec;refine(vZR r hg hu d.size hsz.1 hsz.2 hneed).use hs [] rfl rfl ?_;rintro _ _ H1 ⟨b2,rfl,rfl⟩ hs;rw[jZT r hsz.1]at hs;simp only[HV];have hs:Hw.Sep [pts b2 (.row (Zn (r.form d.size)) 5 (d.size*1)),Dk p d,pts b (ZW p f n w),pts b1 (bZy r)] H1:=hs;exact wZO hn hfn hok hw hrd h12 r hg b1 b2 _ H1 (hs.re [1,2,3,0] rfl)
  ·refine Za.use (nZN r (d.size:Int) (fun h=>hg h.1) H) ?_;simp only[HV];refine wZN (by decide) ?_;have:eZ0 f n d r=(10,d):=by unfold eZ0;rw[if_pos hg]
   rw[this];exact⟨_,⟨rfl,rfl⟩,hs.re [0,1] rfl⟩
 have lda:∀{K:List Value→Prop},K r.c.toList→LdA H (⟨b1,0,none⟩:Addr) 8 K:=fun k=>hs.ldw 2 rfl rfl k
 have ldd:∀{K:Value→Prop},K (.pointer (some ⟨p,0,none⟩))→Ld H ((⟨b,0,none⟩:Addr).add 3) K:=fun k=>hs.ldf 1 rfl rfl k
 have hS:=hZx hs 0 rfl;rw[aZZ];refine⟨lda (ldd ?_),ldd ?_⟩
 ·simp only[HV];refine Za.use hS ?_;simp only[HV];exact put
 ·simp only[HV];refine⟨lda ?_,?_⟩
  ·refine Za.use hS ?_;simp only[HV];exact put
  ·refine Za.use hS ?_;simp only[HV];refine lda ?_;rw[Array.toArray_toList];exact put
def iZD (f:Nat):Nat→Nat→D→Int×D
 |0,_,d=>(d.syncE,d.syncD)
 |k+1,i,d=>if d.writeE ((f+i:Nat):Int) d.size≠0 then(d.writeE ((f+i:Nat):Int) d.size,d.writeD ((f+i:Nat):Int) (List.replicate d.size 0))else iZD f k (i+1) (d.writeD ((f+i:Nat):Int) (List.replicate d.size 0))
theorem mZ6 (d:D)(i:Int)(bs:List UInt8):(d.writeD i bs).sy=d.sy∧(d.writeD i bs).wr≤d.wr+1∧(d.writeD i bs).size=d.size:=by
 have hbr:=bZ8 d;unfold D.writeD;split
 ·exact⟨rfl,by omega,rfl⟩
 ·split
  ·exact⟨rfl,by omega,rfl⟩
  ·split
   ·exact⟨hbr.2.2.1,by omega,hbr.2.2.2.1⟩
   ·exact⟨hbr.2.2.1,Nat.le_refl _,hbr.2.2.2.1⟩
theorem eZZ (n:Nat):aZs [Value.int .u8 0] n=Zn (List.replicate n 0):=by
 rw[bZs];simp[Zn]
theorem kZV {b p f n:Nat}{w:Int}(hfn:f+n≤1048576)(r:Int×D):∀(t i:Nat) (d:D) (H:Hp),i+t=n→Ok d→d.wr+t≤1000000→d.sy≤1000000→r=iZD f t i d→Hw.Sep [Dk p d,pts b (ZW p f n w)] H→
  ZP.l2 (fun v H'=>∃ M,iZx b p f n w r v M∧Hw.Sep M H') (t+1) (some ⟨b,0,none⟩) (n:Int) (i:Int) H
 |0,i,d,H,hi,hok,hwr,hsy,hr,hs=>by
  unfold ZP.l2 ZP.l2.q1;refine Zh (by omega) ?_
  try simp only[HS]
  refine hs.ld 1 rfl rfl ?_;simp only[HV]
  try simp only[HS]
  refine(hZp (p:=p) (d:=d) hok (by omega)).use hs [0] rfl rfl ?_;rintro _ _ H1 ⟨rfl,rfl⟩ hs;have hr:r=(d.syncE,d.syncD):=hr;rw[hr];simp only[HV];exact⟨_,⟨rfl,rfl⟩,hs⟩
 |t+1,i,d,H,hi,hok,hwr,hsy,hr,hs=>by
  unfold ZP.l2 ZP.l2.q1;refine Zm (by omega) ?_;have hsz:=hok.size;have hw:=mZ6 d ((f+i:Nat):Int) (List.replicate d.size 0);have hadd:i64.wrap ((f:Int)+(i:Int))=((f+i:Nat):Int):=by rw[ZL (by omega) (by omega)];omega
  have rest:∀ H1,Hw.Sep [Dk p (d.writeD ((f+i:Nat):Int) (List.replicate d.size 0)),pts b (ZW p f n w)] H1→
    BIf (d.writeE ((f+i:Nat):Int) d.size !=0) (∃ M,iZx b p f n w r (.int .i64 (d.writeE ((f+i:Nat):Int) d.size)) M∧Hw.Sep M H1) (ZP.l2 (fun v H'=>∃ M,iZx b p f n w r v M∧Hw.Sep M H') (t+1) (some ⟨b,0,none⟩) (n:Int) (i64.wrap ((i:Int)+1)) H1):=fun H1 hs=>by
   unfold iZD at hr;by_cases he:d.writeE ((f+i:Nat):Int) d.size≠0
   ·rw[if_pos he]at hr;refine ZC he ?_;rw[hr];exact⟨_,⟨rfl,rfl⟩,hs⟩
   ·rw[if_neg he]at hr;refine Zq (by omega) ?_;rw[ZL (x:=(i:Int)+1) (by omega) (by omega)];exact kZV hfn r t (i+1) _ H1 (by omega) (Ok.writeD hok _ _) (by omega) (by omega) hr hs
  try simp only[HS]
  refine hs.ld 1 rfl rfl ?_;simp only[HV]
  try simp only[HS]
  refine ZM.use (hZx hs 0 rfl) ?_;simp only[HV]
  try simp only[HS]
  refine⟨?_,?_,?_⟩
  ·refine hs.ld 1 rfl rfl ?_;simp only[HV]
   try simp only[HS]
   refine⟨?_,?_⟩
   ·refine hs.ld 1 rfl rfl ?_;simp only[HV]
    try simp only[HS]
    rw[hadd];refine hs.mks eZn rfl (n:=d.size) (m:=d.size) rfl rfl (Nat.le_refl _) (by omega) (by omega) fun b2 H hs=>?_
    simp only[HV];rw[eZZ]at hs;have hs:Hw.Sep [Dk p d,pts b (ZW p f n w),pts b2 (.row (Zn (List.replicate d.size 0)) 5 (d.size*1))] H:=hs;refine(dZ7 (p:=p) (d:=d) hok (by omega) ((f+i:Nat):Int) (some ⟨b2,0,none⟩) d.size d.size (List.replicate d.size 0) (by rw[List.length_replicate]) (pts b2 (.row (Zn (List.replicate d.size 0)) 5 (d.size*1))) (fun H h=>?_)).use hs [0,2] rfl rfl ?_
    ·have:=Cells.row h 0 d.size;rw[List.drop_zero,List.take_of_length_le (by rw[ZO,List.length_replicate];omega)]at this;exact this
    rintro _ _ H1 ⟨rfl,rfl⟩ hs;simp only[HV];exact rest _ (hs.re [0,2] rfl)
   ·refine hs.mks eZn rfl (n:=d.size) (m:=d.size) rfl rfl (Nat.le_refl _) (by omega) (by omega) fun b2 H hs=>?_
    simp only[HV];rw[eZZ]at hs;have hs:Hw.Sep [Dk p d,pts b (ZW p f n w),pts b2 (.row (Zn (List.replicate d.size 0)) 5 (d.size*1))] H:=hs;refine hs.ld 1 rfl rfl ?_;simp only[HV]
    try simp only[HS]
    rw[hadd];refine(dZ7 (p:=p) (d:=d) hok (by omega) ((f+i:Nat):Int) (some ⟨b2,0,none⟩) d.size d.size (List.replicate d.size 0) (by rw[List.length_replicate]) (pts b2 (.row (Zn (List.replicate d.size 0)) 5 (d.size*1))) (fun H h=>?_)).use hs [0,2] rfl rfl ?_
    ·have:=Cells.row h 0 d.size;rw[List.drop_zero,List.take_of_length_le (by rw[ZO,List.length_replicate];omega)]at this;exact this
    rintro _ _ H1 ⟨rfl,rfl⟩ hs;simp only[HV];exact rest _ (hs.re [0,2] rfl)
  ·refine hs.ld 1 rfl rfl ?_;simp only[HV]
   try simp only[HS]
   rw[hadd];refine⟨?_,?_⟩
   ·refine hs.ld 1 rfl rfl ?_;simp only[HV]
    try simp only[HS]
    refine hs.mks eZn rfl (n:=d.size) (m:=d.size) rfl rfl (Nat.le_refl _) (by omega) (by omega) fun b2 H hs=>?_
    simp only[HV];rw[eZZ]at hs;have hs:Hw.Sep [Dk p d,pts b (ZW p f n w),pts b2 (.row (Zn (List.replicate d.size 0)) 5 (d.size*1))] H:=hs;refine(dZ7 (p:=p) (d:=d) hok (by omega) ((f+i:Nat):Int) (some ⟨b2,0,none⟩) d.size d.size (List.replicate d.size 0) (by rw[List.length_replicate]) (pts b2 (.row (Zn (List.replicate d.size 0)) 5 (d.size*1))) (fun H h=>?_)).use hs [0,2] rfl rfl ?_
    ·have:=Cells.row h 0 d.size;rw[List.drop_zero,List.take_of_length_le (by rw[ZO,List.length_replicate];omega)]at this;exact this
    rintro _ _ H1 ⟨rfl,rfl⟩ hs;simp only[HV];exact rest _ (hs.re [0,2] rfl)
   ·refine hs.mks eZn rfl (n:=d.size) (m:=d.size) rfl rfl (Nat.le_refl _) (by omega) (by omega) fun b2 H hs=>?_
    simp only[HV];rw[eZZ]at hs;have hs:Hw.Sep [Dk p d,pts b (ZW p f n w),pts b2 (.row (Zn (List.replicate d.size 0)) 5 (d.size*1))] H:=hs;refine hs.ld 1 rfl rfl ?_;simp only[HV]
    try simp only[HS]
    refine(dZ7 (p:=p) (d:=d) hok (by omega) ((f+i:Nat):Int) (some ⟨b2,0,none⟩) d.size d.size (List.replicate d.size 0) (by rw[List.length_replicate]) (pts b2 (.row (Zn (List.replicate d.size 0)) 5 (d.size*1))) (fun H h=>?_)).use hs [0,2] rfl rfl ?_
    ·have:=Cells.row h 0 d.size;rw[List.drop_zero,List.take_of_length_le (by rw[ZO,List.length_replicate];omega)]at this;exact this
    rintro _ _ H1 ⟨rfl,rfl⟩ hs;simp only[HV];exact rest _ (hs.re [0,2] rfl)
  ·refine hs.mks eZn rfl (n:=d.size) (m:=d.size) rfl rfl (Nat.le_refl _) (by omega) (by omega) fun b2 H hs=>?_
   simp only[HV];rw[eZZ]at hs;have hs:Hw.Sep [Dk p d,pts b (ZW p f n w),pts b2 (.row (Zn (List.replicate d.size 0)) 5 (d.size*1))] H:=hs;refine hs.ld 1 rfl rfl ?_;simp only[HV]
   try simp only[HS]
   refine hs.ld 1 rfl rfl ?_;simp only[HV]
   try simp only[HS]
   rw[hadd];refine(dZ7 (p:=p) (d:=d) hok (by omega) ((f+i:Nat):Int) (some ⟨b2,0,none⟩) d.size d.size (List.replicate d.size 0) (by rw[List.length_replicate]) (pts b2 (.row (Zn (List.replicate d.size 0)) 5 (d.size*1))) (fun H h=>?_)).use hs [0,2] rfl rfl ?_
   ·have:=Cells.row h 0 d.size;rw[List.drop_zero,List.take_of_length_le (by rw[ZO,List.length_replicate];omega)]at this;exact this
   rintro _ _ H1 ⟨rfl,rfl⟩ hs;simp only[HV];exact rest _ (hs.re [0,2] rfl)
theorem sZO {b p f n:Nat}{w:Int}(hfn:f+n≤1048576){d:D}(hok:Ok d)(hwr:d.wr+n≤1000000)(hsy:d.sy≤1000000):
  Tr prog 48 #[.pointer (some ⟨b,0,none⟩)] [Dk p d,pts b (ZW p f n w)] (iZx b p f n w (iZD f n 0 d)):=fun H hs=>by
 apply ZP.ok;unfold ZP
 try simp only[HS]
 refine hs.ld 1 rfl rfl ?_;simp only[HV];exact⟨n+1,kZV hfn _ n 0 d H (by omega) hok hwr hsy rfl hs⟩
structure Act where
 k:Int
 i:Int
 r:R
 A:OA
 n:Nat
 m:Nat
 ks:List Bool
 A':OA
 n':Nat
 m':Nat
 b:List UInt8
structure OkA (H:Hp)(a:Act):Prop where
 n:a.n=a.ks.length
 ks:Cells H a.A (gZk a.ks)
 n':a.n'=a.b.length
 b:Cells H a.A' (Zn a.b)
 i: -9223372036854775808≤a.i∧a.i≤9223372036854775807
 wf:a.r.wf
theorem OkA.le {H H':Hp}{a:Act}(h:OkA H a)(k:H.le H'):OkA H' a:=⟨h.n,h.ks.le k,h.n',h.b.le k,h.i,h.wf⟩
def short (a:Act):Prop:=a.n≤20∧a.n'≤100
end Rng
namespace Rng
open Go Go.Hw Rec Srt Dsk
theorem jZc (r:Int×D×List R):eZd r=none↔r.2.2=[]:=by
 unfold eZd;rw[List.getLast?_eq_none_iff];constructor
 ·intro h;have:=eZD (r.2.2.length-1) r.2.2;rw[h]at this;exact List.length_eq_zero_iff.1 this.symm
 ·intro h;rw[h];rfl
theorem mZJ {r:Int×D×List R}{q:R}(h:eZd r=some q):q∈r.2.2∧∀ x∈r.2.2,x.s≤q.s:=by
 unfold eZd at h;have hp:=rZF r.2.2;have hs:=nZ8 r.2.2;generalize bZ2 r.2.2 (r.2.2.length-1)=l at*;obtain⟨p,rfl⟩:=List.getLast?_eq_some_iff.1 h;refine⟨hp.mem_iff.1 (by simp),fun x hx=>?_⟩;have hx2:=hp.mem_iff.2 hx;rw[List.pairwise_append]at hs;rcases List.mem_append.1 hx2 with h1|h1
 ·exact hs.2.2 x h1 q (by simp)
 ·have:x=q:=by simpa using h1
  rw[this];exact Nat.le_refl _
theorem tZk {r:Int×D×List R}{q:R}(hq:q∈r.2.2)(hm:∀ x∈r.2.2,x.s≤q.s)(hd:∀ x∈r.2.2,x.s=q.s→x=q):eZd r=some q:=by
 cases h:eZd r with
 |none=>rw[(jZc r).1 h]at hq;simp at hq
 |some y=>
  obtain⟨h1,h2⟩:=mZJ h;have:=h2 q hq;have:=hm y h1;rw[hd y h1 (by omega)]
end Rng
namespace Eng
open Go Go.Hw Go.Form Dsk Str Rec Srt Rng
def stC (c:Cn)(f n:Nat):Nat→Nat→List R
 |0,_=>[]
 |k+1,i=>eZX f n (c ((f+i:Nat):Int)) i++stC c f n k (i+1)
def bZt (c:Cn)(k:Nat)(b:List UInt8):Cn:=fun i=>if i=(k:Int)then b else c i
def lastC (c:Cn)(f n:Nat):Option R:=eZd (0,(D.fresh 1 32),stC c f n n 0)
theorem oZa {d:D}{e:Int}{c:Cn}{f n:Nat}:eZd (e,d,stC c f n n 0)=lastC c f n:=rfl
theorem hZt (c:Cn)(f n:Nat)(x:R):∀ k i,x∈stC c f n k i↔∃ j,i≤j∧j<i+k∧x∈eZX f n (c ((f+j:Nat):Int)) j
 |0,i=>by
  constructor
  ·intro h;cases h
  ·rintro⟨j,h1,h2,_⟩;omega
 |k+1,i=>by
  show x∈_++_↔_
  rw[List.mem_append,hZt c f n x k (i+1)];constructor
  ·rintro(h|⟨j,h1,h2,h3⟩)
   ·exact⟨i,Nat.le_refl _,by omega,h⟩
   ·exact⟨j,by omega,by omega,h3⟩
  ·rintro⟨j,h1,h2,h3⟩;by_cases e:j=i
   ·subst e;exact .inl h3
   ·exact .inr ⟨j,by omega,by omega,h3⟩
theorem jZx {f n:Nat}{bs:List UInt8}{i:Nat}{x:R}:x∈eZX f n bs i↔(aZ2 bs).2=0∧aZQ f n x.s=f+i∧x=(aZ2 bs).1:=by
 unfold eZX;split
 ·rename_i h
  rw[List.mem_singleton];constructor
  ·rintro rfl;exact⟨h.1,h.2,rfl⟩
  ·rintro⟨_,_,h3⟩;exact h3
 ·rename_i h
  constructor
  ·intro h';cases h'
  ·rintro⟨h1,h2,rfl⟩;exact absurd ⟨h1,h2⟩ h
theorem lZG {d:D}{c:Cn}(h:Clean d c)(f n:Nat):∀(k i t:Nat) (acc:List R),f+i+k≤d.sec→d.fuse=0∨t<d.fuse→
  ((d.fuse=0∨t+k<d.fuse)∧cZO f n k i (D.rdG d t) acc=(0,D.rdG d (t+k),acc++stC c f n k i))∨(∃ j,j<t+k∧d.fuse=j+1∧cZO f n k i (D.rdG d t) acc=(8,D.dead (D.rdG d j),[]))
 |0,i,t,acc,hf,hl=>.inl ⟨hl,by show(0,D.rdG d t,acc)=_;rw[Nat.add_zero];show _=(0,D.rdG d t,acc++[]);rw[List.append_nil]⟩
 |k+1,i,t,acc,hf,hl=>by
  have hc:=h.rdG t;have hchk:(D.rdG d t).chk ((f+i:Nat):Int)=0:=gZm hc.down (Int.natCast_nonneg _) (by show _<(d.sec:Int);omega);unfold cZO;rw[if_neg (by rw[hchk];simp)];have hfu:(D.rdG d t).fuse=d.fuse-t:=rfl;by_cases hb:d.fuse-t=1
  ·rw[if_pos (by unfold D.burns;simp[hfu,hb]),eZB (by rw[hfu];exact hb)];exact .inr ⟨t,by omega,by omega,rfl⟩
  ·rw[if_neg (by unfold D.burns;simp[hfu,hb])];have e:D.red (D.rdG d t)=D.rdG d (t+1):=by
    unfold D.red;rw[dZ9 hc.down (by rw[hfu];exact hb)];exact oZy d t
   rw[e,hc.now];rcases lZG h f n k (i+1) (t+1) (acc++eZX f n (c ((f+i:Nat):Int)) i) (by omega) (by omega)with⟨h1,h2⟩|⟨j,h1,h2,h3⟩
   ·refine .inl ⟨by omega,?_⟩;rw[h2,List.append_assoc,show t+1+k=t+(k+1) by omega];rfl
   ·exact .inr ⟨j,by omega,h2,h3⟩
theorem kZj {d:D}{c:Cn}(h:Clean d c)(f n:Nat)(hf:f+n≤d.sec):
  ((d.fuse=0∨n<d.fuse)∧aZS f n d=(0,D.rdG d n,stC c f n n 0))∨(∃ j,j<n∧d.fuse=j+1∧aZS f n d=(8,D.dead (D.rdG d j),[])):=by
 rcases lZG h f n n 0 0 [] (by omega) (by omega)with⟨h1,h2⟩|⟨j,h1,h2,h3⟩
 ·rw[Nat.zero_add]at h1 h2;exact .inl ⟨h1,h2⟩
 ·rw[Nat.zero_add]at h1;exact .inr ⟨j,h1,h2,h3⟩
theorem Prog.wrote {S:Int→Prop}{d:D}(h:Ok d)(hl:d.down=false)(hf:d.fuse≠1){i:Int}(hi:S i){bs:List UInt8}(hb:bs.length=d.size):Prog S d (d.wrote i bs) 0 1:=by
 have hbt:=dZ9 hl hf;have hbr:=bZ8 d;unfold D.wrote;refine⟨⟨h.burnt.sec,h.burnt.size,h.burnt.big,h.burnt.per,h.burnt.safe,fun k b hk=>?_,h.burnt.fz⟩,?_,?_,by omega,hbr.2.2.2.2.1,hbr.2.2.2.1,hbr.2.2.2.2.2.1,hbr.2.2.1,fun k hk=>?_,fun k hk=>?_,hbr.1,rfl⟩
 ·have hk':cZT d.cache i bs k=some b:=hk;show b.length=d.burnt.size
  rw[hbr.2.2.2.1];unfold cZT at hk';split at hk'
  ·cases hk';exact hb
  ·exact h.cache k b hk'
 ·show d.burnt.down=false;rw[hbt];exact hl
 ·show d.burnt.fuse=_;rw[hbt]
 ·have hne:k≠i:=fun e=>hk (e▸hi)
  show cZT d.cache i bs k=_
  unfold cZT;rw[if_neg hne]
 ·have hne:k≠i:=fun e=>hk (e▸hi)
  show hZQ d.tch i k=_
  unfold hZQ;rw[if_neg hne]
def gZY (d:D)(k:Nat)(b:List UInt8):Int×D:=
 if d.writeE k d.size≠0 then(d.writeE k d.size,d.writeD k b)else((d.writeD k b).syncE,(d.writeD k b).syncD)
theorem jZo {d:D}{c:Cn}(h:Clean d c)(k:Nat)(hk:k<d.sec)(b:List UInt8)(hb:b.length=d.size):
  ∃ d',(gZY d k b=(0,d')∧bZB d d' 0 1 1∧Clean d' (bZt c k b))∨(gZY d k b=(8,d')∧Cut d d' 2∧Left d' fun c'=>c'=c∨c'=bZt c k b):=by
 have hchk:d.chk (k:Int)=0:=gZm h.down (Int.natCast_nonneg _) (by omega);unfold gZY;by_cases hf:d.fuse=1
 ·have hbn:d.burns=true:=by unfold D.burns;simp[hf]
  have e1:d.writeE k d.size=8:=by unfold D.writeE;rw[if_neg (by rw[hchk];simp),if_neg (by simp),hbn];rfl
  have e2:d.writeD k b=D.dead d:=by unfold D.writeD;rw[if_neg (by rw[hchk];simp),if_neg (by simp[hb]),hbn,eZB hf];rfl
  rw[e1,e2,if_pos (by decide)];refine⟨_,.inr ⟨rfl,⟨Ok.dead h.ok,h.dom,rfl,rfl,rfl,rfl,?_,Nat.le_refl _,Nat.le_refl _,Nat.le_refl _,by omega,by omega⟩,fun c' hc=>.inl (funext fun i=>?_)⟩⟩
  ·show d.rd+d.wr+d.sy+1=_;omega
  ·rcases hc i with e|e
   ·exact e.trans (h.sat i)
   ·exact e.trans (h.now i)
 ·have hbn:d.burns=false:=by unfold D.burns;exact decide_eq_false hf
  have e1:d.writeE k d.size=0:=by unfold D.writeE;rw[if_neg (by rw[hchk];simp),if_neg (by simp),hbn];rfl
  have e2:d.writeD k b=d.wrote k b:=by unfold D.writeD;rw[if_neg (by rw[hchk];simp),if_neg (by simp[hb]),hbn];rfl
  rw[e1,e2,if_neg (by simp)];have p:=Prog.wrote (S:=fun i=>i=(k:Int)) h.ok h.down hf rfl hb;have hnow:(d.wrote k b).now=bZt c k b:=funext fun i=>by
   unfold bZt;by_cases hi:i=(k:Int)
   ·rw[if_pos hi];show((cZT d.cache k b i)).getD _=b
    unfold cZT;rw[if_pos hi];rfl
   ·rw[if_neg hi];exact(h.prog p i).2 hi
  rcases h.sync p (fun i hi=>⟨by omega,by omega⟩)with⟨s1,s2,s3⟩|⟨s1,s2,s3⟩
  ·rw[hnow]at s3;exact⟨_,.inl ⟨by rw[s1],s2,s3⟩⟩
  ·refine⟨_,.inr ⟨by rw[s1],s2,s3.mono fun c' hc=>?_⟩⟩;rw[hnow]at hc;by_cases hk':c' (k:Int)=c k
   ·left
    funext i
    by_cases hi:i=(k:Int)
    ·rw[hi];exact hk'
    ·exact hc.2 i hi
   ·right
    funext i
    by_cases hi:i=(k:Int)
    ·rw[hi];exact(hc.1 _).resolve_left hk'
    ·rw[hc.2 i hi];unfold bZt;rw[if_neg hi]
theorem hZM {f n s:Nat}(hn:1≤n):f≤aZQ f n s∧aZQ f n s<f+n:=by
 have:=Nat.mod_lt (s-1) (show n>0 by omega);unfold aZQ;omega
theorem rZd {d:D}{c:Cn}(h:Clean d c){f n:Nat}(hn:1≤n)(hf:f+n≤d.sec)(r:R):
  (¬r.good∧eZ0 f n d r=(10,d))∨
  (r.good∧∃ d',eZ0 f n d r=(8,d')∧Cut d d' n∧Left d' fun c'=>c'=c)∨
  (r.good∧cZF (lastC c f n) r=false∧∃ d',eZ0 f n d r=(5,d')∧bZB d d' n 0 0∧Clean d' c)∨
  (r.good∧cZF (lastC c f n) r=true∧∃ d',eZ0 f n d r=(8,d')∧Cut d d' (n+2)∧Left d' fun c'=>c'=c∨c'=bZt c (aZQ f n r.s) (r.form d.size))∨
  (r.good∧cZF (lastC c f n) r=true∧∃ d',eZ0 f n d r=(0,d')∧bZB d d' n 1 1∧Clean d' (bZt c (aZQ f n r.s) (r.form d.size))):=by
 by_cases hg:r.good
 ·right;have e0:eZ0 f n d r=if(aZS f n d).1≠0 then((aZS f n d).1,(aZS f n d).2.1)else if cZF (eZd (aZS f n d)) r=false then(5,(aZS f n d).2.1)else mZa f n (aZS f n d).2.1 r:=by
   unfold eZ0;rw[if_neg (fun h=>h hg)]
  rcases kZj h f n hf with⟨h1,h2⟩|⟨j,h1,h2,h3⟩
  ·right;rw[h2,oZa,if_neg (by simp)]at e0;have hw:=bZB.rdG h1;have hc:=h.rdG n;cases hm:cZF (lastC c f n) r with
   |false=>
    left;rw[if_pos hm]at e0;exact⟨hg,rfl,_,e0,hw,hc⟩
   |true=>
    right;rw[if_neg (by rw[hm];simp)]at e0;have hsl:=hZM (f:=f) (s:=r.s) hn;have hp:=jZo hc (aZQ f n r.s) (by show _<d.sec;omega) (r.form d.size) (jZq r h.ok.size.1);have e1:mZa f n (D.rdG d n) r=gZY (D.rdG d n) (aZQ f n r.s) (r.form d.size):=rfl;rw[e1]at e0;obtain⟨d',⟨e2,h4,h5⟩|⟨e2,h4,h5⟩⟩:=hp
    ·exact .inr ⟨hg,rfl,d',e0.trans e2,by have:=hw.trans h4;simpa using this,h5⟩
    ·exact .inl ⟨hg,rfl,d',e0.trans e2,by have:=hw.cut h4;simpa using this,h5⟩
  ·left;rw[h3,if_pos (by show(8:Int)≠0;decide)]at e0;exact⟨hg,_,e0,Cut.rdG h h2 h1,Left.rdG h j⟩
 ·left;exact⟨hg,by unfold eZ0;rw[if_pos hg]⟩
theorem tZm {c:Cn}{f n size:Nat}(hn:1≤n)(hsz:32≤size)(hsec:secB (size:Int)=true){r:R}(hg:r.good)(hu:r.u32)(hm:cZF (lastC c f n) r=true):
  lastC (bZt c (aZQ f n r.s) (r.form size)) f n=some r:=by
 have hsl:=hZM (f:=f) (s:=r.s) hn;have ht:=qZD r hg hu hsz hsec;have hstand:∀ j,j<n→∀ x,x∈eZX f n (bZt c (aZQ f n r.s) (r.form size) ((f+j:Nat):Int)) j→x=r∨x∈stC c f n n 0:=fun j hj x hx=>by
  unfold bZt at hx;by_cases e:((f+j:Nat):Int)=(aZQ f n r.s:Nat)
  ·rw[if_pos e,jZx,ht]at hx;exact .inl hx.2.2
  ·rw[if_neg e]at hx;exact .inr ((hZt c f n x n 0).2 ⟨j,Nat.zero_le _,by omega,hx⟩)
 have hless:∀ x∈stC c f n n 0,x.s<r.s:=fun x hx=>by
  unfold cZF at hm;cases hq:lastC c f n with
  |none=>
   have e:stC c f n n 0=[]:=(jZc _).1 hq;rw[e]at hx;cases hx
  |some q=>
   rw[hq]at hm;have ha:after q r:=of_decide_eq_true hm;have:=(mZJ hq).2 x hx;have:=ha.2.2.1;omega
 refine tZk (q:=r) ?_ (fun x hx=>?_) fun x hx e=>?_
 ·refine(hZt _ f n r n 0).2 ⟨aZQ f n r.s-f,Nat.zero_le _,by omega,?_⟩;rw[show f+(aZQ f n r.s-f)=aZQ f n r.s by omega,jZx];unfold bZt;rw[if_pos rfl,ht];exact⟨rfl,by omega,rfl⟩
 ·obtain⟨j,_,h2,h3⟩:=(hZt _ f n x n 0).1 hx;rcases hstand j (by omega) x h3 with e|e
  ·rw[e];exact Nat.le_refl _
  ·exact Nat.le_of_lt (hless x e)
 ·obtain⟨j,_,h2,h3⟩:=(hZt _ f n x n 0).1 hx;rcases hstand j (by omega) x h3 with e'|e'
  ·exact e'
  ·have:=hless x e';omega
end Eng
namespace Sup
open Go Go.Hw Go.Form W Lay
theorem nZK (s:Int)(hs:0<Zs s)(H:Hp):Za prog 148 #[.int .u64 s] H (RetE (.int .i64 (cZh s+1)) H):=by
 apply cZL.ok;unfold cZL;refine Za.use (v:=.int .i64 (cZh s+1)) ?_ (RetE.mk _ _);apply aZl.ok;have:s=32∨s=64∨s=128∨s=256∨s=512∨s=1024∨s=2048∨s=4096:=by
  unfold Zs at hs
  repeat' split at hs
  all_goals omega
 unfold aZl;rcases this with rfl|rfl|rfl|rfl|rfl|rfl|rfl|rfl
 all_goals
  refine aZb rfl ?_;unfold aZl.j4;refine aZb rfl ?_;unfold aZl.j7
  first
   |(refine aZt rfl ⟨by decide,by decide,?_⟩;refine rZG (by decide) ?_;exact RetE.of rfl)
   |(refine aZb rfl ⟨by decide,?_⟩;refine rZG (by decide) ?_;exact RetE.of rfl)
def bZu (k:Nat)(s:Int):Nat:=4702392716946833408+k*65536+(cZh s).toNat
def gZc (k sec s ar:Int):List UInt64:=[UInt64.ofNat (bZu k.toNat s),UInt64.ofNat sec.toNat,UInt64.ofNat ar.toNat]
def gZ0 (k sec s ar:Int):List UInt64:=gZc k sec s ar++[UInt64.ofNat (Go.Crc.sum (form (gZc k sec s ar))).toNat]
def bZZ (k sec s ar:Int):List UInt8:=form (gZ0 k sec s ar)++List.replicate (s.toNat-32) 0
theorem rZR (s:Int):cZh s≤12:=by
 rcases hZr s with h|h<;>omega
theorem nZ2 (k:Nat)(sec s ar:Int)(hk:k≤65535)(hs:0<Zs s)(H:Hp):Za prog 102 #[.agg (aZR k sec s ar)] H (RetE (.int .u64 ((UInt64.ofNat (bZu k s)).toNat:Int)) H):=by
 apply Za.ret;apply fZr.ok;unfold fZr;simp only[HS];refine(Sep.start H).nw fun b1 H hs'=>?_
 have hs0:=hs;have hs:=hs';have h1:=hZr s;have h2:=iZl s
 first|refine hs.ld 1 rfl rfl ?_|refine hs.ld 2 rfl rfl ?_|refine hs.ld 3 rfl rfl ?_|refine hs.ld 4 rfl rfl ?_|refine hs.ld 5 rfl rfl ?_|refine hs.ld 6 rfl rfl ?_|refine hs.ld 7 rfl rfl ?_|refine hs.ld 8 rfl rfl ?_
 try simp only[HV]
 refine⟨by omega,?_⟩
 first|refine hs.ld 1 rfl rfl ?_|refine hs.ld 2 rfl rfl ?_|refine hs.ld 3 rfl rfl ?_|refine hs.ld 4 rfl rfl ?_|refine hs.ld 5 rfl rfl ?_|refine hs.ld 6 rfl rfl ?_|refine hs.ld 7 rfl rfl ?_|refine hs.ld 8 rfl rfl ?_
 try simp only[HV]
 rw[eZh (x:=s) (by omega) (by omega)];refine ZM.use (nZK s hs0 H) ?_
 try simp only[HV]
 have h3:bZu k s<2^64:=by unfold bZu;omega
 rw[show cZh s+1-1=cZh s by omega,ZL (x:=cZh s) (by omega) (by omega),eZh (x:=cZh s) (by omega) (by omega),bZ5 (n:=k) (by omega)];rw[qZB (i:=(16:Int)) (n:=16) rfl (by omega),Nat.mod_eq_of_lt (by omega)];obtain⟨g,hg⟩:=Int.eq_ofNat_of_zero_le (show 0≤cZh s by omega);have h4:k*2^16<2^64:=by omega
 rw[show(4702392716946833408:Int)=((4702392716946833408:Nat):Int)from rfl,orN (by omega) h4,hg,orN (nZx (by omega) h4) (by omega)];have e1:∀ q,q=4702392716946833408→q|||k*2^16=q+k*2^16:=fun q hq=>by
  have h5:∀ p,p=1094861123→p*2^32=q:=fun p hp=>by omega
  have:=Nat.shiftLeft_add_eq_or_of_lt (show k*2^16<2^32 by omega) 1094861123;rw[Nat.shiftLeft_eq,h5 _ rfl]at this;exact this.symm
 have e2:∀ q,q=4702392716946833408+k*2^16→q|||g=q+g:=fun q hq=>by
  have h5:∀ p,p=1094861123*2^16+k→p*2^16=q:=fun p hp=>by omega
  have:=Nat.shiftLeft_add_eq_or_of_lt (show g<2^16 by omega) (1094861123*2^16+k);rw[Nat.shiftLeft_eq,h5 _ rfl]at this;exact this.symm
 have e3:4702392716946833408+k*2^16+g=bZu k s:=by unfold bZu;rw[hg];rfl
 rw[e1 _ rfl,e2 _ rfl,e3];rw[show(UInt64.ofNat (bZu k s)).toNat=bZu k s from UInt64.toNat_ofNat_of_lt' h3];exact hs.fin 0 rfl _
theorem iZT (k sec s ar:Int):(gZ0 k sec s ar).length=4:=rfl
theorem iZS (k sec s ar:Int)(hs:0<Zs s):((bZZ k sec s ar).length:Int)=s:=by
 have h1:=hZr s;unfold bZZ;rw[List.length_append,aZ6,iZT,List.length_replicate];have:4≤Zs s:=by
  rcases h1 with h|h
  ·rw[h.2.2.2.2];have:2^2≤2^(cZh s-3).toNat:=Nat.pow_le_pow_right (by omega) (by omega);omega
  ·omega
 omega
theorem bZW :bZf prog 82=some (1,8,some #[.int .u64 0]):=by kernel_rfl
theorem nZW :bZf prog 5=some (1,1,some #[.int .u8 0]):=by kernel_rfl
theorem nZN (k sec s ar:Int)(h:aZX k sec s ar=false)(H:Hp):Za prog 77 #[.agg (aZR k sec s ar)] H (RetE (.tuple #[.slice none 0 0,.int .i64 1]) H):=by
 apply Za.ret;apply eZl.ok;unfold eZl;refine(Sep.start H).nw fun b1 H hs=>?_
 first|refine hs.ldw 1 rfl rfl ?_|refine hs.ldw 2 rfl rfl ?_|refine hs.ldw 3 rfl rfl ?_|refine hs.ldw 4 rfl rfl ?_|refine hs.ldw 5 rfl rfl ?_|refine hs.ldw 6 rfl rfl ?_|refine hs.ldw 7 rfl rfl ?_|refine hs.ldw 8 rfl rfl ?_
 try simp only[HV]
 refine Za.use (bZR k sec s ar H) ?_
 try simp only[HV]
 rw[h];exact hs.fin 0 rfl _
theorem eZH {x:Nat}(h:x<2^64):(UInt64.ofNat x).toNat=x:=UInt64.toNat_ofNat_of_lt' h
theorem Put_ok (k sec s ar:Int)(h:aZX k sec s ar=true)(hsec:sec≤9223372036854775807):Tr prog 77 #[.agg (aZR k sec s ar)] [] fun v M=>∃ b,v= .tuple #[.slice (some ⟨b,0,none⟩) s.toNat s.toNat,.int .i64 0]∧M=[pts b (.row (Zn (bZZ k sec s ar)) 5 s.toNat)]:=fun H _=>by
 have hg:=h;unfold aZX at hg;simp only[decide_eq_true_eq]at hg;obtain⟨h1,h2,h3,h4,h5,h6⟩:=hg;obtain⟨kn,rfl⟩:=Int.eq_ofNat_of_zero_le h1;have hp:=iZl s;have hlog:=hZr s;have hlen:=iZS kn sec s ar h3;apply eZl.ok;unfold eZl;simp only[HS];refine(Sep.start H).nw fun b1 H hs=>?_
 first|refine hs.ldw 1 rfl rfl ?_|refine hs.ldw 2 rfl rfl ?_|refine hs.ldw 3 rfl rfl ?_|refine hs.ldw 4 rfl rfl ?_|refine hs.ldw 5 rfl rfl ?_|refine hs.ldw 6 rfl rfl ?_|refine hs.ldw 7 rfl rfl ?_|refine hs.ldw 8 rfl rfl ?_
 try simp only[HV]
 refine Za.use (bZR kn sec s ar H) ?_
 try simp only[HV]
 rw[h];simp only[HV]
 first|refine hs.ldw 1 rfl rfl ?_|refine hs.ldw 2 rfl rfl ?_|refine hs.ldw 3 rfl rfl ?_|refine hs.ldw 4 rfl rfl ?_|refine hs.ldw 5 rfl rfl ?_|refine hs.ldw 6 rfl rfl ?_|refine hs.ldw 7 rfl rfl ?_|refine hs.ldw 8 rfl rfl ?_
 try simp only[HV]
 refine ZM.use (nZ2 kn sec s ar (by omega) h3 H) ?_
 try simp only[HV]
 first|refine hs.ld 1 rfl rfl ?_|refine hs.ld 2 rfl rfl ?_|refine hs.ld 3 rfl rfl ?_|refine hs.ld 4 rfl rfl ?_|refine hs.ld 5 rfl rfl ?_|refine hs.ld 6 rfl rfl ?_|refine hs.ld 7 rfl rfl ?_|refine hs.ld 8 rfl rfl ?_
 try simp only[HV]
 first|refine hs.ld 1 rfl rfl ?_|refine hs.ld 2 rfl rfl ?_|refine hs.ld 3 rfl rfl ?_|refine hs.ld 4 rfl rfl ?_|refine hs.ld 5 rfl rfl ?_|refine hs.ld 6 rfl rfl ?_|refine hs.ld 7 rfl rfl ?_|refine hs.ld 8 rfl rfl ?_
 try simp only[HV]
 rw[eZh (x:=sec) (by omega) (by omega),eZh (x:=ar) (by omega) (by omega)];have hw:([.int .u64 ((UInt64.ofNat (bZu kn s)).toNat:Int),.int .u64 sec,.int .u64 ar]:List Value)=Zd (gZc kn sec s ar):=by
  unfold gZc Zd;simp only[List.map_cons,List.map_nil,Int.toNat_natCast];rw[eZH (x:=sec.toNat) (by omega),eZH (x:=ar.toNat) (by omega)];rw[show((sec.toNat:Nat):Int)=sec by omega,show((ar.toNat:Nat):Int)=ar by omega]
 rw[hw];refine hs.nw fun b2 H hs=>?_
 first|refine hs.ld 1 rfl rfl ?_|refine hs.ld 2 rfl rfl ?_|refine hs.ld 3 rfl rfl ?_|refine hs.ld 4 rfl rfl ?_|refine hs.ld 5 rfl rfl ?_|refine hs.ld 6 rfl rfl ?_|refine hs.ld 7 rfl rfl ?_|refine hs.ld 8 rfl rfl ?_
 try simp only[HV]
 refine hs.mks nZW rfl (n:=s.toNat) (m:=s.toNat) (by omega) (by omega) (Nat.le_refl _) (by omega) (by omega) fun bo H hs=>?_
 simp only[HV];have hc2:∀ H,H b2=some (.row (Zd (gZc kn sec s ar)) 82 3)→Cells H (some ⟨b2,0,none⟩) (Zd (gZc kn sec s ar)):=fun H hb=>Cells.row hb 0 3
 refine Za.use (CrcP.iZy (some ⟨b2,0,none⟩) 3 3 (gZc kn sec s ar) rfl (by omega) H (hc2 H (hs.get 2 rfl))) ?_
 try simp only[HV]
 have hsum:=(Go.Crc.sum (form (gZc kn sec s ar))).isLt;rw[bZ5 (n:=(Go.Crc.sum (form (gZc kn sec s ar))).toNat) (by omega)];have hs:Sep [own _,pts b1 _,Own 82 1 (some ⟨b2,0,none⟩) 3 3 (Zd (gZc kn sec s ar)),pts bo (.row (aZs [.int .u8 0] s.toNat) 5 (s.toNat*1))] H:=hs.turn 2 rfl fun H1 hH=>⟨rfl,.inr ⟨b2,3,rfl,hH,by omega⟩⟩
 refine hs.app1 2 (by rfl) bZW (by omega) (by rfl) (by omega) (by omega) fun A' m' H hs=>?_
 simp only[HV];have hw4:Zd (gZc kn sec s ar)++[.int .u64 ((Go.Crc.sum (form (gZc kn sec s ar))).toNat:Int)]=Zd (gZ0 kn sec s ar):=by
  unfold gZ0 Zd;rw[List.map_append];congr 1;simp only[List.map_cons,List.map_nil];rw[eZH (by omega)]
 rw[hw4]at hs;have hc4:Cells H A' (Zd (gZ0 kn sec s ar)):=by
  obtain⟨_,h7⟩:=hs.own 2 rfl;rcases h7 with⟨_,h8,_⟩|⟨b,mm,rfl,h8,_⟩
  ·omega
  ·exact Cells.row h8 0 4
 refine(FormP.Put_ok A' 4 m' (gZ0 kn sec s ar) rfl (by omega) H hc4).mono ?_;rintro v H' ⟨b4,hb4,rfl,rfl⟩;have hs:=hs.new hb4 (.row (Zn (form (gZ0 kn sec s ar))) 5 (8*4));simp only[HV];have hf:(form (gZ0 kn sec s ar)).length=32:=by rw[aZ6];rfl
 have hmin:Nat.min 32 s.toNat=32:=by
  have:4≤Zs s:=by
   rcases hlog with h|h
   ·rw[h.2.2.2.2];have:2^2≤2^(cZh s-3).toNat:=Nat.pow_le_pow_right (by omega) (by omega);omega
   ·omega
  exact Nat.min_eq_left (by omega)
 refine hs.cp 3 (k:=32) (n:=s.toNat) (ys:=Zn (form (gZ0 kn sec s ar))) (by rfl) nZW rfl ?_ ?_ (fun y hy=>?_) fun H hs=>?_
 ·rw[hmin];refine iZp ?_ (by rw[ZO,hf]);have:=Cells.row (hs.get 4 (b:=b4) (o:=.row (Zn (form (gZ0 kn sec s ar))) 5 (8*4)) rfl) 0 32;rw[List.drop_zero,List.take_of_length_le (by rw[ZO,hf];exact Nat.le_refl _)]at this;exact this
 ·rw[ZO,hf,bZE];rw[← hmin];simp;exact Nat.min_le_right _ _
 ·obtain⟨x,_,rfl⟩:=List.mem_map.1 hy;rfl
 simp only[HV];refine⟨_,⟨bo,rfl,rfl⟩,?_⟩;have hs:=hs.re [3] rfl;have e:setAt (aZs [.int .u8 0] s.toNat) 0 (Zn (form (gZ0 kn sec s ar)))=Zn (bZZ kn sec s ar):=by
  unfold bZZ;rw[hZV,bZs];unfold setAt;rw[ZO,hf];simp[Zn]
 rw[e,Nat.mul_one]at hs;exact hs
theorem hZ1 (A:OA)(n m:Nat)(H:Hp):Za prog 135 #[.slice A n m] H (RetE (.bool (decide (0<Zs n))) H):=by
 apply eZN.ok;unfold eZN;refine Za.use (jZH 0 n H) ?_
 try simp only[HV]
 unfold gZs;by_cases h:0<Zs n
 ·rw[if_pos (by omega)];exact RetE.of (by simp[h])
 ·rw[if_neg (by omega)];exact RetE.of (by simp[h])
def iZk (bs:List UInt8):Bool:=(bs.drop 32).all (· ==0)
theorem wZZ (b:UInt8):((b.toNat:Int) !=0)= !(b==0):=by
 by_cases h:b=0
 ·subst h;rfl
 ·have:b.toNat≠0:=fun e=>h (UInt8.toNat_inj.1 (by rw[e];rfl))
  have h2:(b==0)=false:=by simpa using h
  rw[h2];simp;omega
theorem jZ7 (K:VK)(A:OA)(n m:Nat)(bs:List UInt8)(hn:n=bs.length)(hm:n≤9000000000000000000)(H:Hp)(hb:Cells H A (Zn bs))(r:Bool)(hK:K (.bool (bs.all (· ==0))) H):∀ d j:Nat,j+d=n→(bs.take j).all (· ==0)=true→
  aZy.l2 K (d+1) A n m (n:Int) (j:Int) H
 |0,j,hj,h0=>by
  unfold aZy.l2;refine Zh (by omega) ?_;rw[List.take_of_length_le (by omega)]at h0;rw[h0]at hK;exact hK
 |d+1,j,hj,h0=>by
  unfold aZy.l2;refine Zm (by omega) ?_;have hlt:j<bs.length:=by omega
  refine hb.read (i:=j) (v:=.int .u8 (bs[j].toNat:Int)) (by rw[hZA,List.getElem?_eq_getElem hlt];rfl) rfl (by rw[ZO];omega) ?_;simp only[HV];rw[wZZ];by_cases h:bs[j]=0
  ·refine aZb (by simp[h]) ?_;rw[ZL (by omega) (by omega)];refine jZ7 K A n m bs hn hm H hb r hK d (j+1) (by omega) ?_;rw[List.take_succ_eq_append_getElem hlt,List.all_append,h0];simp[h]
  ·refine aZt (by simp[h]) ?_;have:bs.all (· ==0)=false:=by
    rw[List.all_eq_false];exact⟨bs[j],List.getElem_mem hlt,by simpa using h⟩
   rw[this]at hK;exact hK
theorem rZi (A:OA)(n m:Nat)(hnm:n≤m)(bs:List UInt8)(hn:n=bs.length)(h32:32≤n)(hm:n≤9000000000000000000)(H:Hp)(hb:Cells H A (Zn bs)):
  Za prog 137 #[.slice A n m] H (RetE (.bool (iZk bs)) H):=by
 apply aZy.ok;unfold aZy;refine⟨by omega,by omega,n-32+1,?_⟩;have h1:=hb.shift (m:=m) (l:=32) (by rw[ZO];omega);rw[show(Zn bs).drop 32=Zn (bs.drop 32) by unfold Zn;rw[List.map_drop]]at h1;exact jZ7 _ _ (n-32) (m-32) (bs.drop 32) (by simp;omega) (by omega) H h1 true (RetE.mk _ _) (n-32) 0 (by omega) rfl
abbrev Sb :=Int×Int×Int×Int
def sbV (x:Sb):Array Value:=aZR x.1 x.2.1 x.2.2.1 x.2.2.2
def lZZ (a b c:Nat):Nat:=(Go.Crc.sum (form [UInt64.ofNat a,UInt64.ofNat b,UInt64.ofNat c])).toNat
def eZq (bs:List UInt8):Sb:=(((Zt bs 0/65536%65536:Nat):Int),i64.wrap (Zt bs 8:Nat),((bs.length:Nat):Int),i64.wrap (Zt bs 16:Nat))
def aZ2 (bs:List UInt8):Sb×Int:=
 if Zs bs.length=0 then((0,0,0,0),15)
 else if Zt bs 0/4294967296≠1094861123∨iZk bs=false then((0,0,0,0),10)
 else if Zt bs 24≠lZZ (Zt bs 0) (Zt bs 8) (Zt bs 16)then((0,0,0,0),9)
 else if aZX (eZq bs).1 (eZq bs).2.1 (eZq bs).2.2.1 (eZq bs).2.2.2=true∧((Zt bs 0%65536:Nat):Int)=cZh bs.length then(eZq bs,0)
 else((0,0,0,0),1)
theorem sZz (bs:List UInt8):([.int .u64 (Zt bs 0:Nat),.int .u64 (Zt bs 8:Nat),.int .u64 (Zt bs 16:Nat)]:List Value)=Zd [UInt64.ofNat (Zt bs 0),UInt64.ofNat (Zt bs 8),UInt64.ofNat (Zt bs 16)]:=by
 unfold Zd;simp only[List.map_cons,List.map_nil];rw[eZH (cZU bs 0),eZH (cZU bs 8),eZH (cZU bs 16)]
theorem uZP (a b c:Nat):lZZ a b c<2^32:=(Go.Crc.sum _).isLt
theorem oZg {n:Int}(h:0<Zs n):n=((2^(cZh n).toNat:Nat):Int)∧5≤cZh n∧cZh n≤12:=by
 unfold Zs at h;unfold cZh
 repeat' split
 all_goals first|(subst_vars;refine⟨by decide,by decide,by decide⟩)|skip
 repeat' split at h
 all_goals omega
theorem sZi {t:Nat}(h:t≤62):aZB .i64 1 (t:Int)=((2^t:Nat):Int):=eZV h
theorem tZl {a:Nat}(ha:a<2^64)(hm:a/4294967296=1094861123){sec ar n:Int}(hn:0<Zs n):
  (aZX ((a/65536%65536:Nat):Int) sec (aZB .i64 1 ((a%64:Nat):Int)) ar=true∧bZu (a/65536%65536) (aZB .i64 1 ((a%64:Nat):Int))=a∧aZB .i64 1 ((a%64:Nat):Int)=n)↔
   (aZX ((a/65536%65536:Nat):Int) sec n ar=true∧((a%65536:Nat):Int)=cZh n):=by
 obtain⟨h1,h2,h3⟩:=oZg hn;constructor
 ·rintro⟨g1,g2,g3⟩;rw[g3]at g1 g2;refine⟨g1,?_⟩;unfold bZu at g2;omega
 ·rintro⟨g1,g2⟩;obtain⟨t,ht⟩:=Int.eq_ofNat_of_zero_le (show 0≤cZh n by omega);have h64:a%64=t:=by omega
  have hv:aZB .i64 1 ((a%64:Nat):Int)=n:=by
   rw[h64,sZi (by omega),h1,ht];rfl
  rw[hv];refine⟨g1,?_,rfl⟩;unfold bZu;rw[ht]at g2⊢;have:(Int.toNat (t:Int))=t:=Int.toNat_natCast t;rw[this];omega
theorem hZm (K:VK)(d b1 b2:Nat)(A:OA)(n m:Nat)(hnm:n≤m)(hm:n≤9000000000000000000)(bs:List UInt8)(hn:n=bs.length)(h32:32≤n)(H0 H:Hp)(hb:Cells H0 A (Zn bs))(c:Array Value)(hc:c.size=4)(z:Array Value)(e1 e2:TypeId)(i:Nat)(hi:i<4)
  (hs:Sep [own H0,pts b1 (.obj (.cells z e1)),pts b2 (.obj (.cells c e2))] H)
  (k:∀ H,Sep [own H0,pts b1 (.obj (.cells z e1)),pts b2 (.obj (.cells (c.setIfInBounds i (.int .u64 (Zt bs (8*i):Nat))) e2))] H→aZk.l5 K d A n m ⟨b1,0,none⟩ ⟨b2,0,none⟩ ((i+1:Nat):Int) H):
  aZk.l5 K (d+1) A n m ⟨b1,0,none⟩ ⟨b2,0,none⟩ (i:Int) H:=by
 conv=>unfold aZk.l5 aZk.l5.q1
 refine Zm (by omega) ?_;refine Za.use (FormP.Word_ok A n m hnm hm bs hn i (by omega) H (hb.le (hs.ow 0 rfl))) ?_
 try simp only[HV]
 refine hs.stx 2 rfl (j:=i) rfl hi (by omega) rfl fun H hs=>?_;rw[ZL (x:=(i:Int)+1) (by omega) (by omega)];exact k H hs
theorem fZF (K:VK){L:List As}{H:Hp}(hs:Sep L H){b1:Nat}{z:Array Value}{e1:TypeId}(i:Nat)(hi:L[i]? =some (pts b1 (.obj (.cells z e1))))(hz:z.size=4)(e:Int)(y:Array Value)(hy:y.size=4)(hv:y.toList.all (fun v=>v.oneCell')=true)
  (hK:∀ H,Sep (L.set i (pts b1 (.obj (.cells y e1)))) H→K (.tuple #[.agg y,.int .i64 e]) H):StA H (⟨b1,0,none⟩:Addr) y 4 fun H3=>LdA H3 (⟨b1,0,none⟩:Addr) 4 fun l7=>K (.tuple #[.agg l7.toArray,.int .i64 e]) H3:=by
 refine hs.stw i hi hz hy hv fun H hs=>?_;have hlt:=(List.getElem?_eq_some_iff.1 hi).1;refine hs.ldw i (b:=b1) (c:=y) (e:=e1) (by rw[List.getElem?_set];simp[hlt]) hy ?_;rw[Array.toArray_toList];exact hK H hs
theorem iZd (A:OA)(n m:Nat)(hnm:n≤m)(hm:n≤9000000000000000000)(bs:List UInt8)(hn:n=bs.length)(H:Hp)(hb:Cells H A (Zn bs)):
  Za prog 92 #[.slice A n m] H (RetE (.tuple #[.agg (sbV (aZ2 bs).1),.int .i64 (aZ2 bs).2]) H):=by
 apply Za.ret;apply aZk.ok;unfold aZk;refine(Sep.start H).nw fun b1 H' hs=>?_
 have fin:∀{L:List As} {H':Hp} (x:Sb) (e:Int),Sep L H'→L[0]? =some (own H)→aZ2 bs=(x,e)→Ret (.tuple #[.agg (sbV (aZ2 bs).1),.int .i64 (aZ2 bs).2]) H (.tuple #[.agg (sbV x),.int .i64 e]) H':=fun x e hs h0 he=>by
  rw[he];exact hs.fin 0 h0 _
 refine Za.use (hZ1 A n m H') ?_
 try simp only[HV]
 by_cases hp:Zs (n:Int)=0
 ·refine aZt (by simp;omega) ?_;refine fZF _ hs 1 rfl rfl 15 _ rfl rfl fun H' hs=>fin (0,0,0,0) 15 hs rfl ?_
  unfold aZ2;rw[← hn,if_pos hp]
 refine aZb (by simp;omega) ?_;refine hs.nw fun b2 H' hs=>?_
 have hp':0<Zs (n:Int):=by omega
 have h32:32≤n:=by
  obtain⟨h1,h2,h3⟩:=oZg hp';have:2^5≤2^(cZh n).toNat:=Nat.pow_le_pow_right (by omega) (by omega);omega
 refine⟨5,?_⟩;refine hZm _ 4 b1 b2 A n m hnm hm bs hn h32 H H' hb _ rfl _ _ _ 0 (by omega) hs fun H' hs=>?_
 refine hZm _ 3 b1 b2 A n m hnm hm bs hn h32 H H' hb _ rfl _ _ _ 1 (by omega) hs fun H' hs=>?_
 refine hZm _ 2 b1 b2 A n m hnm hm bs hn h32 H H' hb _ rfl _ _ _ 2 (by omega) hs fun H' hs=>?_
 refine hZm _ 1 b1 b2 A n m hnm hm bs hn h32 H H' hb _ rfl _ _ _ 3 (by omega) hs fun H' hs=>?_
 have hs:Sep [own H,pts b1 (.obj (.cells #[.int .i64 0,.int .i64 0,.int .i64 0,.int .i64 0] 27)),pts b2 (.obj (.cells #[.int .u64 (Zt bs 0:Nat),.int .u64 (Zt bs 8:Nat),.int .u64 (Zt bs 16:Nat),.int .u64 (Zt bs 24:Nat)] 223))] H':=hs;have w0:=cZU bs 0;unfold aZk.l5 aZk.l5.q1;refine Zh (by omega) ?_;refine hs.ldx 2 rfl (j:=0) rfl (by omega) rfl ?_;simp only[HV];refine⟨by omega,?_⟩;refine hs.ldx 2 rfl (j:=0) rfl (by omega) rfl ?_;simp only[HV];rw[show aZo .u64 ((Zt bs 0:Nat):Int) 63=((Zt bs 0%64:Nat):Int) by rw[show(63:Int)=((63:Nat):Int)from rfl,lZX w0 (by omega),Nat.and_two_pow_sub_one_eq_mod _ 6]];refine⟨by omega,?_⟩;refine hs.ldx 2 rfl (j:=1) rfl (by omega) rfl ?_;simp only[HV];refine hs.ldx 2 rfl (j:=2) rfl (by omega) rfl ?_;simp only[HV];refine hs.nw fun b3 H' hs=>?_
 refine hs.stw 3 rfl rfl rfl rfl fun H' hs=>?_
 have e16:i64.wrap (aZo .u64 (aZn .u64 ((Zt bs 0:Nat):Int) 16) 65535)=((Zt bs 0/65536%65536:Nat):Int):=by
  rw[hZK (i:=(16:Int)) (n:=16) rfl (by decide),show(65535:Int)=((65535:Nat):Int)from rfl,lZX (by omega) (by omega),Nat.and_two_pow_sub_one_eq_mod _ 16,aZu (by omega)]
 rw[e16]at hs;refine hs.ldx 2 rfl (j:=0) rfl (by omega) rfl ?_;simp only[HV];refine⟨by omega,?_⟩;rw[hZK (i:=(32:Int)) (n:=32) rfl (by decide)];by_cases hmg:Zt bs 0/4294967296=1094861123
 ·refine Zq (by omega) ?_;refine Za.use (rZi A n m hnm bs hn h32 (by omega) H' (hb.le (hs.ow 0 rfl))) ?_
  try simp only[HV]
  by_cases hz:iZk bs=true
  ·refine aZb (by simp[hz]) ?_;refine hs.ldx 2 rfl (j:=3) rfl (by omega) rfl ?_;simp only[HV];refine⟨by omega,by omega,?_⟩;have hc3:=Cells.obj (hs.get 2 (b:=b2) (o:=.obj (.cells #[.int .u64 (Zt bs 0:Nat),.int .u64 (Zt bs 8:Nat),.int .u64 (Zt bs 16:Nat),.int .u64 (Zt bs 24:Nat)] 223)) rfl) 3;have hc3:Cells H' (some ⟨b2,0,none⟩) (Zd [UInt64.ofNat (Zt bs 0),UInt64.ofNat (Zt bs 8),UInt64.ofNat (Zt bs 16)]):=by
    rw[← sZz];exact hc3
   refine ZM.use (CrcP.iZy (some ⟨b2,0,none⟩) 3 4 _ rfl (by omega) H' hc3) ?_;simp only[HV];have hcl:=uZP (Zt bs 0) (Zt bs 8) (Zt bs 16);rw[show(Go.Crc.sum (form [UInt64.ofNat (Zt bs 0),UInt64.ofNat (Zt bs 8),UInt64.ofNat (Zt bs 16)])).toNat=lZZ (Zt bs 0) (Zt bs 8) (Zt bs 16)from rfl,bZ5 (by omega)];by_cases hcr:Zt bs 24=lZZ (Zt bs 0) (Zt bs 8) (Zt bs 16)
   ·refine Zq (by omega) ?_;refine hs.ldw 3 rfl rfl ?_;have hiff:=tZl w0 hmg (sec:=i64.wrap (Zt bs 8:Nat)) (ar:=i64.wrap (Zt bs 16:Nat)) hp';have hno:¬(aZX (eZq bs).1 (eZq bs).2.1 (eZq bs).2.2.1 (eZq bs).2.2.2=true∧((Zt bs 0%65536:Nat):Int)=cZh bs.length)→aZ2 bs=((0,0,0,0),1):=fun h=>by
     unfold aZ2;rw[← hn,if_neg (by omega),if_neg (by simp[hmg,hz]),if_neg (by simp[hcr]),if_neg (by rw[hn];exact h)]
    have hyes:(aZX (eZq bs).1 (eZq bs).2.1 (eZq bs).2.2.1 (eZq bs).2.2.2=true∧((Zt bs 0%65536:Nat):Int)=cZh bs.length)→aZ2 bs=(eZq bs,0):=fun h=>by
     unfold aZ2;rw[← hn,if_neg (by omega),if_neg (by simp[hmg,hz]),if_neg (by simp[hcr]),if_pos (by rw[hn];exact h)]
    have hsb:eZq bs=(((Zt bs 0/65536%65536:Nat):Int),i64.wrap (Zt bs 8:Nat),(n:Int),i64.wrap (Zt bs 16:Nat)):=by unfold eZq;rw[hn]
    rw[hsb]at hno hyes;simp only at hno hyes;rw[← hn]at hno hyes;rw[← hiff]at hno hyes;refine ZM.use (bZR ((Zt bs 0/65536%65536:Nat):Int) (i64.wrap (Zt bs 8:Nat)) (aZB .i64 1 ((Zt bs 0%64:Nat):Int)) (i64.wrap (Zt bs 16:Nat)) H') ?_;simp only[HV];by_cases hg:aZX ((Zt bs 0/65536%65536:Nat):Int) (i64.wrap (Zt bs 8:Nat)) (aZB .i64 1 ((Zt bs 0%64:Nat):Int)) (i64.wrap (Zt bs 16:Nat))=true
    ·refine aZb (by rw[hg];rfl) ?_;refine hs.ldw 3 rfl rfl ?_;have hg2:=hg;unfold aZX at hg2;simp only[decide_eq_true_eq]at hg2;refine ZM.use (nZ2 (Zt bs 0/65536%65536) (i64.wrap (Zt bs 8:Nat)) (aZB .i64 1 ((Zt bs 0%64:Nat):Int)) (i64.wrap (Zt bs 16:Nat)) (by omega) hg2.2.2.1 H') ?_;simp only[HV];have hf64:bZu (Zt bs 0/65536%65536) (aZB .i64 1 ((Zt bs 0%64:Nat):Int))<2^64:=by
      have:=rZR (aZB .i64 1 ((Zt bs 0%64:Nat):Int));unfold bZu;omega
     rw[eZH hf64];refine hs.ldx 2 rfl (j:=0) rfl (by omega) rfl ?_;simp only[HV];by_cases hf:bZu (Zt bs 0/65536%65536) (aZB .i64 1 ((Zt bs 0%64:Nat):Int))=Zt bs 0
     ·refine Zq (by omega) ?_;simp only[HS];refine hs.ld 3 rfl rfl ?_;simp only[HV];by_cases hv:aZB .i64 1 ((Zt bs 0%64:Nat):Int)=(n:Int)
      ·refine Zq hv ?_;refine hs.ldw 3 rfl rfl ?_;have hy:=hyes ⟨hg,hf,hv⟩;rw[hv];refine fZF _ hs 1 rfl rfl 0 _ rfl rfl fun H' hs=>fin _ 0 hs rfl hy
      ·refine ZC hv ?_;refine fZF _ hs 1 rfl rfl 1 _ rfl rfl fun H' hs=>fin (0,0,0,0) 1 hs rfl (hno fun h=>hv h.2.2)
     ·refine ZC (by omega) ?_;refine fZF _ hs 1 rfl rfl 1 _ rfl rfl fun H' hs=>fin (0,0,0,0) 1 hs rfl (hno fun h=>hf h.2.1)
    ·refine aZt (by rw[Bool.not_eq_true]at hg;rw[hg];rfl) ?_;refine fZF _ hs 1 rfl rfl 1 _ rfl rfl fun H' hs=>fin (0,0,0,0) 1 hs rfl (hno fun h=>hg h.1)
   ·refine ZC (by omega) ?_;refine fZF _ hs 1 rfl rfl 9 _ rfl rfl fun H' hs=>fin (0,0,0,0) 9 hs rfl ?_
    unfold aZ2;rw[← hn,if_neg (by omega),if_neg (by simp[hmg,hz]),if_pos hcr]
  ·refine aZt (by simp[hz]) ?_;refine fZF _ hs 1 rfl rfl 10 _ rfl rfl fun H' hs=>fin (0,0,0,0) 10 hs rfl ?_
   unfold aZ2;rw[← hn,if_neg (by omega),if_pos (.inr (by simpa using hz))]
 ·refine ZC (by omega) ?_;refine fZF _ hs 1 rfl rfl 10 _ rfl rfl fun H' hs=>fin (0,0,0,0) 10 hs rfl ?_
  unfold aZ2;rw[← hn,if_neg (by omega),if_pos (.inl hmg)]
theorem mZl (k sec s ar:Int)(H:Hp):Za prog 69 #[.agg (aZR k sec s ar)] H (RetE (if aZX k sec s ar=true then .tuple #[.agg (bZk k.toNat (Zs s)),.int .i64 0]else .tuple #[.agg kZC,.int .i64 1]) H):=by
 apply Za.ret;apply eZM.ok;unfold eZM;simp only[HS];refine(Sep.start H).nw fun b1 H' hs=>?_
 refine hs.nw fun b2 H' hs=>?_
 first|refine hs.ldw 1 rfl rfl ?_|refine hs.ldw 2 rfl rfl ?_|refine hs.ldw 3 rfl rfl ?_|refine hs.ldw 4 rfl rfl ?_|refine hs.ldw 5 rfl rfl ?_|refine hs.ldw 6 rfl rfl ?_|refine hs.ldw 7 rfl rfl ?_|refine hs.ldw 8 rfl rfl ?_
 try simp only[HV]
 refine Za.use (bZR k sec s ar H') ?_
 try simp only[HV]
 by_cases h:aZX k sec s ar=true
 ·rw[if_pos h,h];simp only[HV];have hg:=h;unfold aZX at hg;simp only[decide_eq_true_eq]at hg
  first|refine hs.ld 1 rfl rfl ?_|refine hs.ld 2 rfl rfl ?_|refine hs.ld 3 rfl rfl ?_|refine hs.ld 4 rfl rfl ?_|refine hs.ld 5 rfl rfl ?_|refine hs.ld 6 rfl rfl ?_|refine hs.ld 7 rfl rfl ?_|refine hs.ld 8 rfl rfl ?_
  try simp only[HV]
  first|refine hs.ld 1 rfl rfl ?_|refine hs.ld 2 rfl rfl ?_|refine hs.ld 3 rfl rfl ?_|refine hs.ld 4 rfl rfl ?_|refine hs.ld 5 rfl rfl ?_|refine hs.ld 6 rfl rfl ?_|refine hs.ld 7 rfl rfl ?_|refine hs.ld 8 rfl rfl ?_
  try simp only[HV]
  first|refine hs.ld 1 rfl rfl ?_|refine hs.ld 2 rfl rfl ?_|refine hs.ld 3 rfl rfl ?_|refine hs.ld 4 rfl rfl ?_|refine hs.ld 5 rfl rfl ?_|refine hs.ld 6 rfl rfl ?_|refine hs.ld 7 rfl rfl ?_|refine hs.ld 8 rfl rfl ?_
  try simp only[HV]
  refine Za.use (eZs k sec s H') ?_
  try simp only[HV]
  have:OfV k sec s=(bZk k.toNat (Zs s),0):=by unfold OfV;rw[if_pos (by omega),if_neg (by omega)]
  rw[this];refine hs.stw 2 rfl rfl rfl rfl fun H' hs=>?_
  refine hs.ldw 2 rfl rfl ?_;exact hs.fin 0 rfl _
 ·rw[Bool.not_eq_true]at h;rw[if_neg (by rw[h];simp),h];simp only[HV];refine hs.stw 2 rfl rfl rfl rfl fun H' hs=>?_
  refine hs.ldw 2 rfl rfl ?_;exact hs.fin 0 rfl _
end Sup
namespace Sup
open Go Go.Hw Go.Form W Lay Dsk
theorem kZD :∀ n,leN (List.replicate n 0)=0
 |0=>rfl
 |n+1=>by
  rw[List.replicate_succ];show(0:UInt8).toNat+256*leN (List.replicate n 0)=0
  rw[kZD n];rfl
theorem qZG (s:Nat)(hs:0<Zs s):aZ2 (List.replicate s 0)=((0,0,0,0),10):=by
 unfold aZ2;rw[List.length_replicate,if_neg (by omega),if_pos];left;have:Zt (List.replicate s 0) 0=0:=by
  unfold Zt;rw[List.drop_zero,List.take_replicate,kZD]
 rw[this];decide
def ofB (d:D)(sec s:Int):Bool:=decide (sec=d.sec∧s=d.size)
theorem nZw {L:List As}{H:Hp}{p:Nat}{d:D}(hs0:Sep L H)(i:Nat)(hi:L[i]? =some (Dk p d))(k sec s ar:Int):Za prog 78 #[.pointer (some ⟨p,0,none⟩),.agg (aZR k sec s ar)] H (RetE (.bool (ofB d sec s)) H):=by
 apply Za.ret;apply hZb.ok;unfold hZb;refine(Sep.start H).nw fun b1 H' hs=>?_
 have hle:=hs.ow 0 rfl;refine hs.ld 1 rfl rfl ?_;simp only[HV]
 try simp only[HS]
 refine ZM.use (eZz (hs0.up hle) i hi) ?_;simp only[HV];by_cases h1:sec=d.sec
 ·refine ZT h1 (hs.ld 1 rfl rfl ?_);simp only[HV]
  try simp only[HS]
  refine ZM.use (hZx (hs0.up hle) i hi) ?_;simp only[HV];have e:(s==(d.size:Int))=ofB d sec s:=by
   unfold ofB;by_cases h2:s=d.size
   ·simp[h1,h2]
   ·simp[h2]
  rw[e];exact hs.fin 0 rfl _
 ·refine aZg h1 ?_;have e:ofB d sec s=false:=by unfold ofB;simp[h1]
  rw[e];exact hs.fin 0 rfl _
def wrV (d:D)(k sec s ar:Int):Int×D:=
 if aZX k sec s ar=false∨ofB d sec s=false then(1,d)
 else if d.writeE 0 s.toNat≠0 then(d.writeE 0 s.toNat,d.writeD 0 (bZZ k sec s ar))
 else((d.writeD 0 (bZZ k sec s ar)).syncE,(d.writeD 0 (bZZ k sec s ar)).syncD)
theorem sZh {p:Nat}{d:D}(hok:Ok d)(hb:d.wr≤1000000∧d.sy≤1000000)(k sec s ar:Int)(hsec:sec≤9223372036854775807):
  Tr prog 50 #[.pointer (some ⟨p,0,none⟩),.agg (aZR k sec s ar)] [Dk p d] fun v M=>v= .int .i64 (wrV d k sec s ar).1∧M=[Dk p (wrV d k sec s ar).2]:=fun H hs=>by
 apply fZq.ok;unfold fZq;refine hs.nw fun b1 H hs=>?_
 refine hs.ldw 1 rfl rfl ?_;cases hg:aZX k sec s ar with
 |false=>
  refine Za.use (nZN k sec s ar hg H) ?_;simp only[HV];have e:wrV d k sec s ar=(1,d):=by unfold wrV;rw[if_pos (.inl hg)]
  rw[e];exact ZC (by omega) ⟨_,⟨rfl,rfl⟩,hs.re [0] rfl⟩
 |true=>
  refine(Put_ok k sec s ar hg hsec).use hs [] rfl rfl ?_;rintro _ _ H ⟨b,rfl,rfl⟩ hs;simp only[HV];refine Zq rfl ?_;have hs:Sep [pts b (.row (Zn (bZZ k sec s ar)) 5 s.toNat),Dk p d,pts b1 (.obj (.cells (aZR k sec s ar) 27))] H:=hs;refine hs.ldw 2 rfl rfl ?_;refine Za.use (nZw hs 1 rfl k sec s ar) ?_;simp only[HV];cases ho:ofB d sec s with
  |false=>
   have e:wrV d k sec s ar=(1,d):=by unfold wrV;rw[if_pos (.inr ho)]
   rw[e];exact aZt rfl ⟨_,⟨rfl,rfl⟩,hs.re [1] rfl⟩
  |true=>
   refine aZb rfl ?_;have hper:0<Zs s:=by
    unfold aZX at hg;simp only[decide_eq_true_eq]at hg;exact hg.2.2.1
   have hl:=iZS k sec s ar hper;refine(dZ7 (p:=p) (d:=d) hok (by omega) 0 (some ⟨b,0,none⟩) s.toNat s.toNat (bZZ k sec s ar) (by omega) (pts b (.row (Zn (bZZ k sec s ar)) 5 s.toNat)) (fun H h=>?_)).use hs [1,0] rfl rfl ?_
   ·have:=Cells.row h 0 s.toNat;rw[List.drop_zero,List.take_of_length_le (by rw[ZO];omega)]at this;exact this
   rintro _ _ H ⟨rfl,rfl⟩ hs;simp only[HV];by_cases he:d.writeE 0 s.toNat=0
   ·refine Zq he ?_;have e:wrV d k sec s ar=((d.writeD 0 (bZZ k sec s ar)).syncE,(d.writeD 0 (bZZ k sec s ar)).syncD):=by
     unfold wrV;rw[if_neg (by rw[hg,ho];simp),if_neg (by rw[he];simp)]
    have hsy:(d.writeD 0 (bZZ k sec s ar)).sy=d.sy:=by
     have hbr:=bZ8 d;unfold D.writeD;split
     ·rfl
     ·split
      ·rfl
      ·split
       ·exact hbr.2.2.1
       ·exact hbr.2.2.1
    refine(hZp (p:=p) (d:=d.writeD 0 (bZZ k sec s ar)) (Ok.writeD hok 0 _) (by rw[hsy];omega)).use hs [0] rfl rfl ?_;rintro _ _ H ⟨rfl,rfl⟩ hs;simp only[HV];rw[e];exact⟨_,⟨rfl,rfl⟩,hs.re [0] rfl⟩
   ·have e:wrV d k sec s ar=(d.writeE 0 s.toNat,d.writeD 0 (bZZ k sec s ar)):=by
     unfold wrV;rw[if_neg (by rw[hg,ho];simp),if_pos he]
    rw[e];exact ZC he ⟨_,⟨rfl,rfl⟩,hs.re [0] rfl⟩
def rdV (d:D)(bs:List UInt8):Sb×Int:=
 if(aZ2 bs).2≠0 then((0,0,0,0),(aZ2 bs).2)else if ofB d (aZ2 bs).1.2.1 (aZ2 bs).1.2.2.1=true then((aZ2 bs).1,0)else((0,0,0,0),1)
theorem tZF {p:Nat}{d:D}(hok:Ok d)(ho:d.rd≤1000000)(hc:d.chk 0=0)(hb:d.burns=false):
  Tr prog 64 #[.pointer (some ⟨p,0,none⟩)] [Dk p d] fun v M=>v= .tuple #[.agg (sbV (rdV d (d.now 0)).1),.int .i64 (rdV d (d.now 0)).2]∧M=[Dk p { d.burnt with rd:=d.rd+1}]:=fun H hs=>by
 have hnow:=hok.now 0;have hsz:=hok.size;have hbr:=bZ8 d;apply dZV.ok;unfold dZV;refine hs.nw fun b1 H hs=>?_
 refine(jZJ (p:=p) (d:=d) hok (by omega) 0).use hs [0] rfl rfl ?_;rintro _ _ H (⟨h,_⟩|⟨_,h,_⟩|⟨_,_,b,c,m,rfl,hcc,rfl⟩) hs
 ·exact absurd hc h
 ·rw[hb]at h;cases h
 ·simp only[HV];refine Zq rfl ?_;have hcell:Cells H (some ⟨b,0,none⟩) (Zn (d.now 0)):=by
   have:=Cells.row (hs.get 1 (b:=b) (o:=.row (Zn (d.now 0)) 5 m) rfl) 0 d.size;rw[List.drop_zero,List.take_of_length_le (by rw[ZO];omega)]at this;exact this
  refine Za.use (iZd (some ⟨b,0,none⟩) d.size c hcc (by omega) (d.now 0) hnow.symm H hcell) ?_;simp only[HV];have hof:∀ x y,ofB { d.burnt with rd:=d.rd+1} x y=ofB d x y:=fun x y=>by
   unfold ofB;show decide (x=(d.burnt.sec:Int)∧y=(d.burnt.size:Int))=_
   rw[hbr.2.2.2.2.1,hbr.2.2.2.1]
  unfold rdV;generalize aZ2 (d.now 0)=tv at*;obtain⟨⟨k,sec,s,ar⟩,e⟩:=tv;have hs:Sep [Dk p { d.burnt with rd:=d.rd+1},pts b (.row (Zn (d.now 0)) 5 m),pts b1 (.obj (.cells (aZR 0 0 0 0) 27))] H:=hs;refine hs.nw fun b2 H hs=>?_
  refine hs.stw 3 (y:=aZR k sec s ar) rfl rfl rfl rfl fun H hs=>?_;have hs:Sep [Dk p { d.burnt with rd:=d.rd+1},pts b (.row (Zn (d.now 0)) 5 m),pts b1 (.obj (.cells (aZR 0 0 0 0) 27)),pts b2 (.obj (.cells (aZR k sec s ar) 27))] H:=hs;by_cases he:e=0
  ·refine Zq he ?_;refine hs.ldw 3 rfl rfl ?_;refine Za.use (nZw hs 0 rfl k sec s ar) ?_;rw[hof];simp only[HV];cases hob:ofB d sec s with
   |false=>
    refine aZt rfl ?_;refine hs.stw 2 rfl rfl rfl rfl fun H hs=>?_;refine hs.ldw 2 rfl rfl ?_;refine⟨_,⟨?_,rfl⟩,hs.re [0] rfl⟩;rw[if_neg (by simpa using he),if_neg (by simp)];rfl
   |true=>
    refine aZb rfl ?_;refine hs.ldw 3 rfl rfl ?_;refine hs.stw 2 rfl rfl rfl rfl fun H hs=>?_;refine hs.ldw 2 rfl rfl ?_;refine⟨_,⟨?_,rfl⟩,hs.re [0] rfl⟩;rw[if_neg (by simpa using he),if_pos rfl];rfl
  ·refine ZC he ?_;refine hs.stw 2 rfl rfl rfl rfl fun H hs=>?_;refine hs.ldw 2 rfl rfl ?_;refine⟨_,⟨?_,rfl⟩,hs.re [0] rfl⟩;rw[if_pos (by simpa using he)];rfl
end Sup
namespace Eng
open Go Go.Hw Go.Form Dsk Str Rec Srt Rng Pln
structure Log (L:List R):Prop where
 u:∀ r∈L,r.u32
 g:∀ r∈L,r.good
 hd:∀ r,L[0]? =some r→r.s=1∧r.kd=1
 ch:∀ i a b,L[i]? =some a→L[i+1]? =some b→after a b
theorem Log.nil :Log []:=⟨fun _ h=>(by cases h),fun _ h=>(by cases h),fun _ h=>(by simp at h),fun _ _ _ h=>(by simp at h)⟩
theorem Log.snoc {L:List R}(h:Log L){r:R}(hg:r.good)(hu:r.u32)(hm:cZF L.getLast? r=true):Log (L++[r]):=by
 refine⟨fun x hx=>?_,fun x hx=>?_,fun x hx=>?_,fun i a b ha hb=>?_⟩
 ·rcases List.mem_append.1 hx with h1|h1
  ·exact h.u x h1
  ·rw[List.mem_singleton.1 h1];exact hu
 ·rcases List.mem_append.1 hx with h1|h1
  ·exact h.g x h1
  ·rw[List.mem_singleton.1 h1];exact hg
 ·cases L with
  |nil=>
   have:r=x:=by simpa using hx
   subst this;exact of_decide_eq_true hm
  |cons y L=>exact h.hd x (by simpa using hx)
 ·have hb2:=hb;rw[List.getElem?_append]at ha hb;have hlt:=(List.getElem?_eq_some_iff.1 hb2).1;rw[List.length_append,List.length_singleton]at hlt;rw[if_pos (by omega)]at ha;by_cases e:i+1<L.length
  ·rw[if_pos e]at hb;exact h.ch i a b ha hb
  ·rw[if_neg e]at hb;have e2:i+1-L.length=0:=by omega
   rw[e2]at hb;have:r=b:=by simpa using hb
   subst this;have hl:L.getLast? =some a:=by rw[List.getLast?_eq_getElem?,show L.length-1=i by omega];exact ha
   rw[hl]at hm;exact of_decide_eq_true hm
theorem Log.init {L:List R}{r:R}(h:Log (L++[r])):Log L∧r.good∧r.u32∧cZF L.getLast? r=true:=by
 refine⟨⟨fun x hx=>h.u x (List.mem_append_left _ hx),fun x hx=>h.g x (List.mem_append_left _ hx),fun x hx=>?_,fun i a b ha hb=>?_⟩,h.g r (by simp),h.u r (by simp),?_⟩
 ·exact h.hd x (by rw[List.getElem?_append_left (List.getElem?_eq_some_iff.1 hx).1];exact hx)
 ·exact h.ch i a b (by rw[List.getElem?_append_left (List.getElem?_eq_some_iff.1 ha).1];exact ha) (by rw[List.getElem?_append_left (List.getElem?_eq_some_iff.1 hb).1];exact hb)
 ·cases hl:L.getLast? with
  |none=>
   rw[List.getLast?_eq_none_iff]at hl;subst hl;exact decide_eq_true (h.hd r (by simp))
  |some a=>
   have hn:L≠ []:=fun e=>by rw[e]at hl;simp at hl
   have hp:=List.length_pos_iff.2 hn;rw[List.getLast?_eq_getElem?]at hl;refine decide_eq_true (h.ch (L.length-1) a r ?_ ?_)
   ·rw[List.getElem?_append_left (by omega)];exact hl
   ·rw[show L.length-1+1=L.length by omega,List.getElem?_append_right (Nat.le_refl _),Nat.sub_self];rfl
theorem Log.num {L:List R}(h:Log L):∀ i a,L[i]? =some a→a.s=i+1
 |0,a,ha=>(h.hd a ha).1
 |i+1,a,ha=>by
  have hlt:=(List.getElem?_eq_some_iff.1 ha).1;have hb:L[i]? =some L[i]:=List.getElem?_eq_getElem (by omega);have:=h.num i _ hb;have h2:=(h.ch i _ a hb ha).2.2.1;omega
theorem Log.last {L:List R}(h:Log L){r:R}(hr:L.getLast? =some r):r.good∧r.u32∧r.s=L.length:=by
 have hn:L≠ []:=fun e=>by rw[e]at hr;simp at hr
 have hp:=List.length_pos_iff.2 hn;have hm:r∈L:=List.mem_of_getLast? hr;rw[List.getLast?_eq_getElem?]at hr;have:=h.num _ _ hr;exact⟨h.g r hm,h.u r hm,by omega⟩
def lZE (size:Nat)(L:List R):Nat→List UInt8:=L.foldl (fun f r=>fun j=>if j=(r.s-1)%8 then r.form size else f j) (fun _=>List.replicate size 0)
theorem iZO (size:Nat)(L:List R)(r:R)(j:Nat):lZE size (L++[r]) j=if j=(r.s-1)%8 then r.form size else lZE size L j:=by
 unfold lZE;rw[List.foldl_append];rfl
def Ring (size:Nat)(L:List R)(c:Cn):Prop:=∀ i,i<8→c ((1+i:Nat):Int)=lZE size L i
theorem sZw (c:Cn)(k:Nat)(a b:List UInt8):bZt (bZt c k a) k b=bZt c k b:=funext fun i=>by
 unfold bZt;split<;>rfl
theorem vZy (c:Cn)(k:Nat):bZt c k (c k)=c:=funext fun i=>by
 unfold bZt;split
 ·rename_i h;rw[h]
 ·rfl
theorem jZ1 (c:Cn)(k:Nat)(b:List UInt8):bZt c k b k=b:=if_pos rfl
theorem iZt (c:Cn){k:Nat}(b:List UInt8){i:Int}(h:i≠k):bZt c k b i=c i:=if_neg h
theorem Ring.upd {size:Nat}{L:List R}{c:Cn}(h:Ring size L c)(r:R):Ring size (L++[r]) (bZt c (aZQ 1 8 r.s) (r.form size)):=fun i hi=>by
 rw[iZO];unfold aZQ;by_cases e:i=(r.s-1)%8
 ·rw[if_pos e,e,jZ1]
 ·rw[if_neg e,iZt _ _ (by omega)];exact h i hi
theorem qZw {size:Nat}(hs:secB (size:Int)=true):(aZ2 (List.replicate size 0)).2≠0:=by
 unfold Rec.aZ2;rw[List.length_replicate,if_pos hs,if_neg]
 ·decide
 ·intro h;have:Zt (List.replicate size 0) 0=0:=by
   unfold Zt;rw[List.drop_zero,List.take_replicate,Sup.kZD]
  rw[this]at h;exact absurd h.1 (by decide)
theorem Ring.last {size:Nat}(hsec:secB (size:Int)=true):∀(n:Nat) {L:List R} {c:Cn},L.length=n→Log L→Ring size L c→lastC c 1 8=L.getLast?
 |0,L,c,hl,h,hr=>by
  have e:L=[]:=List.length_eq_zero_iff.1 hl;subst e;refine(jZc _).2 ?_;refine List.eq_nil_iff_forall_not_mem.2 fun x hx=>?_
  obtain⟨j,_,h2,h3⟩:=(hZt c 1 8 x 8 0).1 hx;rw[hr j (by omega),jZx]at h3;exact qZw hsec h3.1
 |n+1,L,c,hl,h,hr=>by
  have hn:L≠ []:=fun e=>by rw[e]at hl;simp at hl
  obtain⟨L',r,rfl⟩:∃ L' r,L=L'++[r]:=⟨L.dropLast,L.getLast hn,(List.dropLast_concat_getLast hn).symm⟩;obtain⟨h1,h2,h3,h4⟩:=h.init;have hsl:=hZM (f:=1) (n:=8) (s:=r.s) (by omega);have hk:aZQ 1 8 r.s=1+(r.s-1)%8:=rfl;have hm:=Nat.mod_lt (r.s-1) (show 8>0 by omega)
  let c':Cn:=bZt c (aZQ 1 8 r.s) (lZE size L' ((r.s-1)%8))
  have hr':Ring size L' c':=fun i hi=>by
   have:=hr i hi;rw[iZO]at this;show bZt c (aZQ 1 8 r.s) _ _=_
   by_cases e:i=(r.s-1)%8
   ·subst e;rw[← hk,jZ1]
   ·rw[iZt _ _ (by omega),this,if_neg e]
  have ih:=Ring.last hsec n (by simpa using hl) h1 hr';have hsz:=vZn hsec;have hup:=tZm (c:=c') (f:=1) (n:=8) (size:=size) (by omega) (by omega) hsec h2 h3 (by rw[ih];exact h4);have e:bZt c' (aZQ 1 8 r.s) (r.form size)=c:=by
   show bZt (bZt c _ _) _ _=c
   rw[sZw];have:=hr ((r.s-1)%8) hm;rw[iZO,if_pos rfl,←hk]at this;rw[← this,vZy]
  rw[e]at hup;rw[hup,List.getLast?_append];rfl
def cw (c:Cn)(per f i:Nat):UInt64:=((aZE (c ((f+i/per:Nat):Int)))[i%per]?).getD 0
def cws (c:Cn)(per f n:Nat):List UInt64:=(List.range n).map (cw c per f)
theorem uZR (c:Cn)(per f n:Nat):(cws c per f n).length=n:=by simp[cws]
theorem wZU {d:D}{c:Cn}(h:∀ i,d.now i=c i)(x:X)(i:Nat):pw d x i=cw c (D.per d) x.f i:=by unfold pw cw;rw[h]
theorem gZo {d:D}{c:Cn}(h:∀ i,d.now i=c i)(x:X)(n:Nat):pws d x 0 n=cws c (D.per d) x.f n:=by
 unfold pws cws;apply List.map_congr_left;intro i _;rw[Nat.zero_add,wZU h]
theorem lZ0 {c c':Cn}{per f n s:Nat}(hp:1≤per)(hn:n≤s*per)(h:∀ i:Nat,i<s→c' ((f+i:Nat):Int)=c ((f+i:Nat):Int)):cws c' per f n=cws c per f n:=by
 unfold cws;apply List.map_congr_left;intro i hi;have hi:=List.mem_range.1 hi;have:i/per<s:=Nat.div_lt_of_lt_mul (by rw[Nat.mul_comm];omega);unfold cw;rw[h _ this]
def eZC (l:List UInt64):Nat:=(Go.Crc.sum (form l)).toNat
theorem pZk (l:List UInt64):eZC l<4294967296:=(Go.Crc.sum (form l)).isLt
structure Mn where
 most:Nat
 arena:Nat
 L:List R
 inp:List UInt64
def exX (most per i k:Nat):X:=⟨9+i*Lay.Zx most per,Lay.Zx k per,2^k⟩
def fZv (r:R):Bool:=decide (r.dir=1)
def aZ3 (m:Mn)(per:Nat)(r:R):List Pz:=aZA (fZv r) r.kk.toNat per m.arena
structure kZY (m:Mn)(per:Nat)(c:Cn)(r:R):Prop where
 len:m.inp.length=2^r.kk.toNat
 can:∀ w∈m.inp,w.toNat<18446744069414584321
 sum:r.inp=eZC m.inp
 ws:cws c per 9 (2^r.kk.toNat)=m.inp
structure kZ1 (m:Mn)(per:Nat)(c:Cn)(r:R):Prop where
 ps:r.ps.toNat≤(aZ3 m per r).length
 ws:∀ p,(aZ3 m per r)[r.ps.toNat-1]? =some p→cws c per (9+p.o*Lay.Zx m.most per) (2^r.kk.toNat)=apL ((aZ3 m per r).take r.ps.toNat) m.inp
 sum:r.out=eZC (apL ((aZ3 m per r).take r.ps.toNat) m.inp)
structure Holds (sec size:Nat)(m:Mn)(c:Cn):Prop where
 sup:c 0=Sup.bZZ m.most sec size m.arena
 good:Sup.aZX m.most sec size m.arena=true
 least:aZC m.most (size/8)≤m.arena
 log:Log m.L
 ring:Ring size m.L c
 kk:∀ r,m.L.getLast? =some r→r.kk≤m.most
 inp:∀ r,m.L.getLast? =some r→2≤r.kd→kZY m (size/8) c r
 out:∀ r,m.L.getLast? =some r→r.kd=4→kZ1 m (size/8) c r
def lZQ (size:Nat)(c:Cn):Prop:=c 0=List.replicate size 0
def wZ1 (sec size:Nat):Option Mn→Cn→Prop
 |none,c=>lZQ size c
 |some m,c=>Holds sec size m c
end Eng
namespace Eng
open Go Go.Hw Go.Form Dsk Str Rec Srt Rng Pln Trn
theorem jZW {k p:Nat}(hp:1≤p):2^k≤Lay.Zx k p*p:=by
 have h1:=Nat.two_pow_pos k;have h2:=Nat.div_add_mod (2^k-1) p;have h3:=Nat.mod_lt (2^k-1) (show p>0 by omega);unfold Lay.Zx;rw[Nat.add_mul,Nat.mul_comm,Nat.one_mul];omega
theorem hZ0 {k m p:Nat}(h:k≤m):Lay.Zx k p≤Lay.Zx m p:=by
 have h1:2^k≤2^m:=Nat.pow_le_pow_right (by omega) h;unfold Lay.Zx;have:=Nat.div_le_div_right (c:=p) (show 2^k-1≤2^m-1 by omega);omega
theorem dZ0 {s:Nat}(h:0<Lay.Zs s):Lay.Zs s=s/8∧4≤s/8∧s/8≤512∧8*(s/8)=s:=by
 have:s=32∨s=64∨s=128∨s=256∨s=512∨s=1024∨s=2048∨s=4096:=by
  unfold Lay.Zs at h
  repeat' split at h
  all_goals omega
 rcases this with e|e|e|e|e|e|e|e<;>subst e<;>decide
theorem cZ5 {m sec s:Nat}{ar:Int}(h:Sup.aZX (m:Int) sec s ar=true):m≤32∧0<Lay.Zs s∧Lay.bZj m (s/8)≤sec∧1≤ar∧ar≤16777216:=by
 have h1:=of_decide_eq_true h;have h3:=h1.2.2.1;have h2:=dZ0 h3;rw[h2.1,Int.toNat_natCast]at h1;exact⟨by omega,h3,by omega,h1.2.2.2.2⟩
theorem pZl {c c':Cn}{per most i k:Nat}(hp:1≤per)(h:∀ j:Nat,j<Lay.Zx k per→c' ((9+i*Lay.Zx most per+j:Nat):Int)=c ((9+i*Lay.Zx most per+j:Nat):Int)):
  cws c' per (9+i*Lay.Zx most per) (2^k)=cws c per (9+i*Lay.Zx most per) (2^k):=lZ0 hp (jZW hp) h
theorem Holds.per {sec size:Nat}{m:Mn}{c:Cn}(h:Holds sec size m c):4≤size/8∧size/8≤512∧8*(size/8)=size:=(dZ0 (cZ5 h.good).2.1).2
theorem Holds.sam {sec size:Nat}{m:Mn}{c c':Cn}(h:Holds sec size m c)(h0:∀ i:Nat,i≤8→c' (i:Int)=c (i:Int))
  (h1:∀ r,m.L.getLast? =some r→2≤r.kd→∀ j:Nat,j<Lay.Zx r.kk.toNat (size/8)→c' ((9+j:Nat):Int)=c ((9+j:Nat):Int))
  (h2:∀ r,m.L.getLast? =some r→r.kd=4→∀ p,(aZ3 m (size/8) r)[r.ps.toNat-1]? =some p→∀ j:Nat,j<Lay.Zx r.kk.toNat (size/8)→c' ((9+p.o*Lay.Zx m.most (size/8)+j:Nat):Int)=c ((9+p.o*Lay.Zx m.most (size/8)+j:Nat):Int)):Holds sec size m c':=by
 have hp:=h.per;refine⟨(h0 0 (by omega)).trans h.sup,h.good,h.least,h.log,fun i hi=>(h0 (1+i) (by omega)).trans (h.ring i hi),h.kk,fun r hr hk=>?_,fun r hr hk=>?_⟩
 ·have q:=h.inp r hr hk;refine⟨q.len,q.can,q.sum,?_⟩;rw[lZ0 (f:=9) (by omega) (jZW (show 1≤size/8 by omega)) (h1 r hr hk)];exact q.ws
 ·have q:=h.out r hr hk;refine⟨q.ps,fun p hp'=>?_,q.sum⟩;rw[pZl (by omega) (h2 r hr hk p hp')];exact q.ws p hp'
theorem pZN {c:Cn}{s:Nat}{b:List UInt8}{j:Nat}(hj:9≤j):bZt c (aZQ 1 8 s) b (j:Int)=c (j:Int):=by
 have:=hZM (f:=1) (n:=8) (s:=s) (by omega);exact iZt _ _ (by omega)
theorem kZY.upd {m:Mn}{per:Nat}{c:Cn}{r:R}(h:kZY m per c r)(hp:1≤per)(s:Nat)(b:List UInt8):kZY m per (bZt c (aZQ 1 8 s) b) r:=
 ⟨h.len,h.can,h.sum,by rw[lZ0 (f:=9) hp (jZW hp) (fun j _=>pZN (by omega))];exact h.ws⟩
theorem kZ1.upd {m:Mn}{per:Nat}{c:Cn}{r:R}(h:kZ1 m per c r)(hp:1≤per)(s:Nat)(b:List UInt8):kZ1 m per (bZt c (aZQ 1 8 s) b) r:=
 ⟨h.ps,fun p hp'=>by rw[pZl hp (fun j _=>pZN (by omega))];exact h.ws p hp',h.sum⟩
theorem Holds.app {sec size:Nat}{m:Mn}{c:Cn}(h:Holds sec size m c){r:R}(hg:r.good)(hu:r.u32)(hm:cZF m.L.getLast? r=true)(hkk:r.kk≤m.most)
  (hi:2≤r.kd→kZY m (size/8) c r) (ho:r.kd=4→kZ1 m (size/8) c r):Holds sec size { m with L:=m.L++[r]} (bZt c (aZQ 1 8 r.s) (r.form size)):=by
 have hp:=h.per;have hsl:=hZM (f:=1) (n:=8) (s:=r.s) (by omega);have hl:∀ x,(m.L++[r]).getLast? =some x→x=r:=fun x hx=>by
  rw[List.getLast?_append]at hx;have:r=x:=by simpa using hx
  exact this.symm
 refine⟨?_,h.good,h.least,h.log.snoc hg hu hm,h.ring.upd r,fun x hx=>?_,fun x hx hk=>?_,fun x hx hk=>?_⟩
 ·rw[iZt _ _ (by omega)];exact h.sup
 ·rw[hl x hx];exact hkk
 ·obtain rfl:=hl x hx;have q:=(hi hk).upd (show 1≤size/8 by omega) x.s (x.form size);exact⟨q.len,q.can,q.sum,q.ws⟩
 ·obtain rfl:=hl x hx;have q:=(ho hk).upd (show 1≤size/8 by omega) x.s (x.form size);exact⟨q.ps,q.ws,q.sum⟩
theorem Holds.target {sec size:Nat}{m:Mn}{c c':Cn}(h:Holds sec size m c){t k:Nat}(hk:k≤m.most)(ht:∀ r,m.L.getLast? =some r→2≤r.kd→t≠0)
  (ho:∀ r,m.L.getLast? =some r→r.kd=4→∀ p,(aZ3 m (size/8) r)[r.ps.toNat-1]? =some p→t≠p.o) (hs:Sam (inX (exX m.most (size/8) t k)) c c'):Holds sec size m c':=by
 have hp:=h.per;have hrk:Lay.Zx k (size/8)≤Lay.Zx m.most (size/8):=hZ0 hk;generalize hR:Lay.Zx m.most (size/8)=Rm at hrk;have ext:∀(i j:Nat) (r:R),m.L.getLast? =some r→i≠t→j<Lay.Zx r.kk.toNat (size/8)→c' ((9+i*Rm+j:Nat):Int)=c ((9+i*Rm+j:Nat):Int):=fun i j r hr hit hj=>by
  have h1:=h.kk r hr;have h2:=(h.log.last hr).1;have hkr:Lay.Zx r.kk.toNat (size/8)≤Rm:=by rw[← hR];exact hZ0 (by omega)
  apply hs;unfold inX exX;simp only[hR];rintro⟨a,b⟩;rcases Nat.lt_or_gt_of_ne hit with hlt|hlt
  ·have:(i+1)*Rm≤t*Rm:=Nat.mul_le_mul_right _ hlt;rw[Nat.succ_mul]at this;omega
  ·have:(t+1)*Rm≤i*Rm:=Nat.mul_le_mul_right _ hlt;rw[Nat.succ_mul]at this;omega
 refine h.sam (fun i hi=>hs _ ?_) (fun r hr hkd j hj=>?_) fun r hr hkd p hp' j hj=>?_
 ·unfold inX exX;rintro⟨a,b⟩;have:(0:Int)≤(t*Lay.Zx m.most (size/8):Nat):=Int.natCast_nonneg _;simp only at a;omega
 ·have:=ext 0 j r hr (fun e=>ht r hr hkd e.symm) hj;rw[Nat.zero_mul,Nat.add_zero]at this;exact this
 ·rw[hR];exact ext p.o j r hr (fun e=>ho r hr hkd p hp' e.symm) hj
def Mn.r (m:Mn):R:=m.L.getLast?.getD bZe
theorem Mn.r_some {m:Mn}{r:R}(h:m.L.getLast? =some r):m.r=r:=by unfold Mn.r;rw[h];rfl
theorem Mn.r_or (m:Mn):(m.L=[]∧m.r=bZe)∨m.L.getLast? =some m.r:=by
 cases h:m.L.getLast? with
 |none=>exact .inl ⟨List.getLast?_eq_none_iff.1 h,by unfold Mn.r;rw[h];rfl⟩
 |some r=>exact .inr (by rw[Mn.r_some h])
theorem Mn.r_kd {m:Mn}(h:m.r.kd≠0):m.L.getLast? =some m.r:=by
 rcases m.r_or with⟨_,e⟩|e
 ·rw[e]at h;exact absurd rfl h
 ·exact e
def Mn.add (m:Mn)(r:R):Mn:={ m with L:=m.L++[r]}
theorem Mn.add_r (m:Mn)(r:R):(m.add r).r=r:=by unfold Mn.r Mn.add;simp
theorem Mn.add_last (m:Mn)(r:R):(m.add r).L.getLast? =some r:=by unfold Mn.add;simp
structure Small (B:Nat)(m:Mn):Prop where
 len:m.L.length≤B
 ld:m.r.ld≤B
theorem Small.add {B:Nat}{m:Mn}(h:Small B m){r:R}(hr:r.ld≤B+1):Small (B+1) (m.add r):=⟨by unfold Mn.add;have:=h.len;simp;omega,by rw[Mn.add_r];exact hr⟩
def Mn.seq (m:Mn):Nat:=m.L.length+1
theorem Mn.seq_r {sec size:Nat}{m:Mn}{c:Cn}(h:Holds sec size m c):m.r.s+1=m.seq:=by
 rcases m.r_or with⟨e1,e2⟩|e
 ·rw[e2];unfold Mn.seq;rw[e1];rfl
 ·have:=(h.log.last e).2.2;unfold Mn.seq;omega
def cZy (m:Mn)(k:Nat):R:=⟨m.seq,1,k,0,0,m.r.ld+1,0,0⟩
def dZi (m:Mn)(k:Nat)(l:List UInt64):R:=⟨m.seq,2,k,0,0,m.r.ld,eZC l,0⟩
def cZw (m:Mn)(d:Bool):R:=⟨m.seq,3,m.r.kk,if d=true then 1 else 0,0,m.r.ld,m.r.inp,0⟩
def bZx (m:Mn)(per:Nat):R:=⟨m.seq,4,m.r.kk,m.r.dir,m.r.ps+1,m.r.ld,m.r.inp,eZC (apL ((aZ3 m per m.r).take (m.r.ps.toNat+1)) m.inp)⟩
section
variable {sec size : Nat} {m : Mn} {c : Cn} (h : Holds sec size m c) {B : Nat} (hs : Small B m) (hB : B ≤ 1000000)
include h hs hB
theorem vZC {k:Nat}(hk:k≤m.most):(cZy m k).good∧(cZy m k).u32∧cZF m.L.getLast? (cZy m k)=true∧Holds sec size (m.add (cZy m k)) (bZt c (aZQ 1 8 m.seq) ((cZy m k).form size)):=by
 have hg:=cZ5 h.good;have hl:=hs.len;have hd:=hs.ld;have hsq:m.seq=m.L.length+1:=rfl;have g:(cZy m k).good:=⟨by show 1≤m.seq;omega,by show m.seq<_;omega,by show(0:Int)≤k;omega,by show(k:Int)≤32;omega,.inl rfl,.inl ⟨rfl,rfl,rfl,rfl,rfl⟩⟩;have u:(cZy m k).u32:=⟨by show m.r.ld+1<_;omega,by show 0<_;omega,by show 0<_;omega⟩;have may:cZF m.L.getLast? (cZy m k)=true:=by
  have hsr:=Mn.seq_r h;rcases m.r_or with⟨e1,e2⟩|e
  ·rw[e1];exact decide_eq_true ⟨by show m.seq=1;rw[hsq,e1];rfl,rfl⟩
  ·rw[e];exact decide_eq_true ⟨(h.log.last e).1,g,by show m.seq=_;omega,.inl rfl⟩
 exact⟨g,u,may,h.app g u may (by show(k:Int)≤m.most;omega) (fun h2=>absurd h2 (show ¬(2:Int)≤1 by omega)) (fun h4=>absurd h4 (show ¬(1:Int)=4 by omega))⟩
theorem uZ4 {k:Nat}(hk:m.r.kd=1)(hkk:m.r.kk=k){l:List UInt64}(hl:l.length=2^k)(hcan:∀ w∈l,w.toNat<18446744069414584321)(hw:cws c (size/8) 9 (2^k)=l):
  (dZi m k l).good∧(dZi m k l).u32∧cZF m.L.getLast? (dZi m k l)=true∧Holds sec size ({ m with inp:=l}.add (dZi m k l)) (bZt c (aZQ 1 8 m.seq) ((dZi m k l).form size)):=by
 have hg:=cZ5 h.good;have hlen:=hs.len;have hd:=hs.ld;have hsq:m.seq=m.L.length+1:=rfl;have e:=Mn.r_kd (m:=m) (by omega);have hkm:=h.kk _ e;have hm:Holds sec size { m with inp:=l} c:=⟨h.sup,h.good,h.least,h.log,h.ring,h.kk,fun r hr h2=>by
  have e1:m.L.getLast? =some r:=hr;rw[e]at e1;cases e1;omega,fun r hr h4=>by
  have e1:m.L.getLast? =some r:=hr;rw[e]at e1;cases e1;omega⟩
 have g:(dZi m k l).good:=⟨by show 1≤m.seq;omega,by show m.seq<_;omega,by show(0:Int)≤k;omega,by show(k:Int)≤32;omega,.inl rfl,.inr (.inl ⟨rfl,rfl,rfl,rfl⟩)⟩;have u:(dZi m k l).u32:=⟨by show m.r.ld<_;omega,pZk l,by show 0<_;omega⟩;have may:cZF m.L.getLast? (dZi m k l)=true:=by
  have hsr:=Mn.seq_r h;rw[e];exact decide_eq_true ⟨(h.log.last e).1,g,by show m.seq=_;omega,.inr (.inl ⟨rfl,hk,rfl,hkk⟩)⟩
 exact⟨g,u,may,hm.app g u may (by show(k:Int)≤m.most;omega) (fun _=>⟨by show l.length=2^((k:Int).toNat);rw[Int.toNat_natCast];exact hl,hcan,rfl,by show cws c _ 9 (2^((k:Int).toNat))=l;rw[Int.toNat_natCast];exact hw⟩) (fun h4=>absurd h4 (show ¬(2:Int)=4 by omega))⟩
theorem vZt (hk:2≤m.r.kd)(d:Bool):(cZw m d).good∧(cZw m d).u32∧cZF m.L.getLast? (cZw m d)=true∧Holds sec size (m.add (cZw m d)) (bZt c (aZQ 1 8 m.seq) ((cZw m d).form size)):=by
 have hg:=cZ5 h.good;have hlen:=hs.len;have hd:=hs.ld;have hsq:m.seq=m.L.length+1:=rfl;have e:=Mn.r_kd (m:=m) (by omega);have hkm:=h.kk _ e;have hr:=h.log.last e;have hi:=h.inp _ e hk;have g:(cZw m d).good:=⟨by show 1≤m.seq;omega,by show m.seq<_;omega,hr.1.2.2.1,hr.1.2.2.2.1,by show(if d=true then(1:Int)else 0)=0∨(if d=true then(1:Int)else 0)=1;cases d<;>simp,.inr (.inr (.inl ⟨rfl,rfl⟩))⟩;have u:(cZw m d).u32:=⟨by show m.r.ld<_;omega,hr.2.1.inp,by show 0<_;omega⟩;have may:cZF m.L.getLast? (cZw m d)=true:=by
  have hsr:=Mn.seq_r h;rw[e];exact decide_eq_true ⟨hr.1,g,by show m.seq=_;omega,.inr (.inr (.inl ⟨rfl,by omega,rfl,rfl,rfl,rfl⟩))⟩
 exact⟨g,u,may,h.app g u may hkm (fun _=>⟨hi.len,hi.can,hi.sum,hi.ws⟩) (fun h4=>absurd h4 (show ¬(3:Int)=4 by omega))⟩
end
theorem cZG (d:Bool)(k per words:Nat):1≤(aZA d k per words).length∧(aZA d k per words).length≤5:=by
 unfold aZA jZO;split<;>simp
theorem lZz (d:Bool)(k per words:Nat):∀ i p,(aZA d k per words)[i]? =some p→(1≤p.o∧p.o≤3∧p.o≠p.f)∧(i=0→p.f=0)∧∀ q,(aZA d k per words)[i-1]? =some q→1≤i→p.f=q.o:=by
 intro i p hp;unfold aZA at hp⊢;split at hp
 ·rename_i hb
  rw[if_pos hb];rcases i with _|i
  ·cases hp;exact⟨⟨by show 1≤3;omega,by show 3≤3;omega,by show(3:Nat)≠0;omega⟩,fun _=>rfl,fun q _ h=>by omega⟩
  ·simp at hp
 ·rename_i hb
  rw[if_neg hb];unfold jZO at hp⊢;rcases i with _|_|_|_|_|i
  all_goals first|(cases hp;exact⟨⟨by simp,by simp,by simp⟩,fun h=>by first|rfl|omega,fun q hq h=>by first|omega|(cases hq;rfl)⟩)|simp at hp
theorem R.ps_nn {r:R}(h:r.good):0≤r.ps:=by
 obtain⟨_,_,_,_,_,h|h|h|h⟩:=h<;>omega
section
variable {sec size : Nat} {m : Mn} {c : Cn} (h : Holds sec size m c) {B : Nat} (hs : Small B m) (hB : B ≤ 1000000)
include h hs hB
theorem vZb (hk:3≤m.r.kd){p:Pz}(hp:(aZ3 m (size/8) m.r)[m.r.ps.toNat]? =some p)(hw:cws c (size/8) (9+p.o*Lay.Zx m.most (size/8)) (2^m.r.kk.toNat)=apL ((aZ3 m (size/8) m.r).take (m.r.ps.toNat+1)) m.inp):
  (bZx m (size/8)).good∧(bZx m (size/8)).u32∧cZF m.L.getLast? (bZx m (size/8))=true∧Holds sec size (m.add (bZx m (size/8))) (bZt c (aZQ 1 8 m.seq) ((bZx m (size/8)).form size)):=by
 have hg:=cZ5 h.good;have hlen:=hs.len;have hd:=hs.ld;have hsq:m.seq=m.L.length+1:=rfl;have e:=Mn.r_kd (m:=m) (by omega);have hkm:=h.kk _ e;have hr:=h.log.last e;have hi:=h.inp _ e (by omega);have hps:=R.ps_nn hr.1;have hlt:=(List.getElem?_eq_some_iff.1 hp).1;have hl5:=(cZG (fZv m.r) m.r.kk.toNat (size/8) m.arena).2;have hl5:(aZ3 m (size/8) m.r).length≤5:=hl5;have g:(bZx m (size/8)).good:=⟨by show 1≤m.seq;omega,by show m.seq<_;omega,hr.1.2.2.1,hr.1.2.2.2.1,hr.1.2.2.2.2.1,.inr (.inr (.inr ⟨rfl,by show 1≤m.r.ps+1;omega,by show m.r.ps+1≤7;omega⟩))⟩;have u:(bZx m (size/8)).u32:=⟨by show m.r.ld<_;omega,hr.2.1.inp,pZk _⟩;have may:cZF m.L.getLast? (bZx m (size/8))=true:=by
  have hsr:=Mn.seq_r h;rw[e];exact decide_eq_true ⟨hr.1,g,by show m.seq=_;omega,.inr (.inr (.inr ⟨rfl,hk,rfl,rfl,rfl,rfl,rfl⟩))⟩
 have ept:(bZx m (size/8)).ps.toNat=m.r.ps.toNat+1:=by show(m.r.ps+1).toNat=_;omega
 have epl:aZ3 m (size/8) (bZx m (size/8))=aZ3 m (size/8) m.r:=rfl;refine⟨g,u,may,h.app g u may hkm (fun _=>⟨hi.len,hi.can,hi.sum,hi.ws⟩) fun _=>⟨?_,fun q hq=>?_,?_⟩⟩
 ·rw[ept,epl];omega
 ·rw[ept,epl,Nat.add_sub_cancel,hp]at hq;cases hq;rw[ept,epl];exact hw
 ·rw[ept,epl];rfl
theorem wZz (hk:3≤m.r.kd){p:Pz}(hp:(aZ3 m (size/8) m.r)[m.r.ps.toNat]? =some p):
  cws c (size/8) (9+p.f*Lay.Zx m.most (size/8)) (2^m.r.kk.toNat)=apL ((aZ3 m (size/8) m.r).take m.r.ps.toNat) m.inp∧(if m.r.ps=0 then m.r.inp else m.r.out)=eZC (apL ((aZ3 m (size/8) m.r).take m.r.ps.toNat) m.inp)∧
  (∀ q,m.r.kd=4→(aZ3 m (size/8) m.r)[m.r.ps.toNat-1]? =some q→p.o≠q.o):=by
 have e:=Mn.r_kd (m:=m) (by omega);have hr:=h.log.last e;have hi:=h.inp _ e (by omega);have ends:=lZz (fZv m.r) m.r.kk.toNat (size/8) m.arena _ p hp;have hps:=R.ps_nn hr.1;have h4:m.r.kd=3∧m.r.ps=0∨m.r.kd=4∧1≤m.r.ps:=by
  obtain⟨_,_,_,_,_,h|h|h|h⟩:=hr.1<;>omega
 rcases h4 with⟨k3,p0⟩|⟨k4,p1⟩
 ·have:m.r.ps.toNat=0:=by omega
  rw[this]at ends hp⊢;rw[ends.2.1 rfl,Nat.zero_mul,Nat.add_zero,if_pos p0];refine⟨hi.ws,hi.sum,fun q hq=>by omega⟩
 ·have ho:=h.out _ e k4;have hlt:=(List.getElem?_eq_some_iff.1 hp).1;have hq:(aZ3 m (size/8) m.r)[m.r.ps.toNat-1]? =some (aZ3 m (size/8) m.r)[m.r.ps.toNat-1]:=List.getElem?_eq_getElem (by omega);have hf:=ends.2.2 _ hq (by omega);rw[if_neg (by omega),hf];refine⟨ho.ws _ hq,ho.sum,fun q _ hq'=>?_⟩;rw[hq]at hq';cases hq';rw[← hf];exact ends.1.2.2
end
end Eng
namespace Str
open Go Go.Hw Go.Form W Dsk Are
section
variable {p q dp ap bp bq bt b rb mb : Nat} {d : D} {x y : X} {cap peak : Int} {bufs : List (Nat × Nat × Option Addr)} {ws : List UInt64}
end
structure tZ4 (d d':D)(x y:X)(i k:Nat):Prop where
 ok:Ok d'
 calm:Calm d'
 size:d'.size=d.size
 sec:d'.sec=d.sec
 rd:d'.rd≤d.rd+1000*i
 wr:d'.wr≤d.wr+1000*i
 src:∀ j,j<x.w→pw d' x j=pw d x j
 dst:∀ j,j<k→pw d' y j=pw d x j
theorem tZ4.per {d d':D}{x y:X}{i k:Nat}(h:tZ4 d d' x y i k):D.per d'=D.per d:=by unfold D.per;rw[h.size]
theorem kZW {P:Program}{g:FuncId}{t:TypeId}{k:IntKind}{n:Int}{K:Value→Prop}(h:bZr P g=[t])(hu:P.underlying t=some (.int k))(hk:K (.int k n)):DR P (bZr P g) (.int k n) K:=by
 rw[h];show DT P t _ K
 unfold DT;rw[hu];simpa using hk
section
variable {p q dp ap bp bq bt b rb mb vb : Nat} {d : D} {x y : X} {cap peak P1 : Int} {bufs : List (Nat × Nat × Option Addr)}
theorem uZ6 {per left:Nat}{l:Int}(h:l=left):(if(per:Int)<l then(per:Int)else l)=((if per<left then per else left:Nat):Int):=by
 subst h;by_cases c:per<left
 ·rw[if_pos c,if_pos (by omega)]
 ·rw[if_neg c,if_neg (by omega)]
end
section
variable {p q dp ap : Nat} {d : D} {x y : X} {cap peak : Int} {bufs : List (Nat × Nat × Option Addr)}
end
theorem wZ3 (a b c d e:Value):((#[]++ #[a,b,c])++ #[d,e]:Array Value)=#[a,b,c,d,e]:=rfl
section
variable {p dp ap bp : Nat} {d : D} {x : X} {cap peak : Int} {bufs : List (Nat × Nat × Option Addr)} {B : As}
def lZd (p dp ap bp b rb mb vb:Nat)(d:D)(x:X)(cap pk:Int)(bufs:List (Nat×Nat×OA))(per:Nat)(ws:List UInt64)(B:As):List As:=
 [pts p (ZI dp ap x),Dk dp d,Ar ap cap pk (bufs++[(b,per,some ⟨rb,0,none⟩)]),pts rb (.row (Zd ws) 82 mb),pts bp (.obj (.cells #[.pointer (some ⟨p,0,none⟩)] 153)),B,pts vb (.row [.pointer (some ⟨b,0,none⟩)] 195 1)]
theorem oZX (K:VK)(f:FuncId)(C:Array Value)(hok:Ok d)(hcap:(D.per d:Int)≤cap-ZG bufs){H:Hp}
  (hs:Sep [pts p (ZI dp ap x),Dk dp d,Ar ap cap peak bufs,pts bp (.obj (.cells #[.pointer (some ⟨p,0,none⟩)] 153)),B] H)
  (k:∀ b rb vb H,(∀ z∈bufs,z.1≠b)→Sep (lZd p dp ap bp b rb (D.per d) vb d x cap (mx peak (ZG bufs+D.per d)) bufs (D.per d) (List.replicate (D.per d) 0) B) H→
   ∃ t,ZK.l6 K t (some ⟨p,0,none⟩) f #[] C (some ⟨b,0,none⟩) 0 (x.w:Int) (x.f:Int) (some ⟨ap,0,none⟩) (some ⟨vb,0,none⟩) 1 1 H):
  Za prog 121 #[.pointer (some ⟨p,0,none⟩),.func (.func f) #[] C] H K:=by
 have hp:=Ok.per_le hok;apply ZK.ok;unfold ZK;simp only[HS];have rest:∀(b rb:Nat) (H:Hp),(∀ y∈bufs,y.1≠b)→Sep [Ar ap cap (if ZG bufs+D.per d>peak then ZG bufs+D.per d else peak) (bufs++[(b,D.per d,some ⟨rb,0,none⟩)]),pts rb (.row (bZh (D.per d)) 82 (D.per d)),pts p (ZI dp ap x),Dk dp d,pts bp (.obj (.cells #[.pointer (some ⟨p,0,none⟩)] 153)),B] H→
   ZK.j2 K (some ⟨p,0,none⟩) f #[] C (some ⟨b,0,none⟩) 0 H:=fun b rb H hbm hs=>by
  unfold ZK.j2;refine Zq rfl ?_;simp only[HS];refine hs.ld 2 rfl rfl ?_;simp only[HV];refine hs.nw fun vb H hs=>?_
  refine ZM.use (gZq hs 2 rfl) ?_;simp only[HV];refine hs.ld 2 rfl rfl ?_;simp only[HV];have hz:bZh (D.per d)=Zd (List.replicate (D.per d) 0):=by
   unfold bZh;rw[bZs];unfold Zd;rw[List.map_replicate];rfl
  rw[hz]at hs;exact k b rb vb H hbm (hs.re [2,3,0,1,4,5,6] rfl)
 have fresh:∀{L:List As} {H:Hp} (b rb:Nat) (pk:Int),Sep L H→L[0]? =some (Ar ap cap pk (bufs++[(b,D.per d,some ⟨rb,0,none⟩)]))→∀ y∈bufs,y.1≠b:=fun b rb pk hs h0 y hy e=>by
  obtain⟨mp,cl,tk,hA⟩:=Sep.ar hs 0 h0;have:=hA.bn;rw[List.map_append,List.nodup_append]at this;exact this.2.2 y.1 (List.mem_map_of_mem hy) b (by simp) e
 refine⟨?_,?_⟩
 ·refine hs.ld 0 rfl rfl ?_;simp only[HV];refine Za.use (eZT hs 0 1 rfl rfl hok) ?_
  try simp only[HV]
  refine(eZI (a:=ap) (cap:=cap) (peak:=peak) (bufs:=bufs) (n:=D.per d) (by omega) hcap).use hs [2] rfl rfl ?_;rintro _ _ H ⟨b,rb,rfl,rfl⟩ hs;simp only[HV];exact rest b rb H (fresh b rb _ hs rfl) hs
 ·refine Za.use (eZT hs 0 1 rfl rfl hok) ?_
  try simp only[HV]
  refine hs.ld 0 rfl rfl ?_;simp only[HV];refine(eZI (a:=ap) (cap:=cap) (peak:=peak) (bufs:=bufs) (n:=D.per d) (by omega) hcap).use hs [2] rfl rfl ?_;rintro _ _ H ⟨b,rb,rfl,rfl⟩ hs;simp only[HV];exact rest b rb H (fresh b rb _ hs rfl) hs
end
section
variable {p dp ap bp bw b rb mb : Nat} {d : D} {x : X} {cap peak : Int} {bufs : List (Nat × Nat × Option Addr)}
end
section
variable {p dp ap bp bw b rb mb vb : Nat} {d : D} {x : X} {cap peak pk : Int} {bufs : List (Nat × Nat × Option Addr)}
end
section
variable {p dp ap bp bc b rb mb vb : Nat} {d : D} {x : X} {cap peak pk : Int} {bufs : List (Nat × Nat × Option Addr)}
def ctr (bc:Nat)(ws:List UInt64):As:=pts bc (CrcP.counter (Go.Crc.sum (form ws)) (8*ws.length))
def tZR (bp bc:Nat):Array Value:=#[.pointer (some ⟨bp,0,none⟩),.pointer (some ⟨bc,0,none⟩)]
end
def nS (per w:Nat):Nat:=(w+per-1)/per
theorem uZf {per w i:Nat}(hp:1≤per):i<nS per w↔i*per<w:=by
 unfold nS;rw[Nat.lt_iff_add_one_le,Nat.le_div_iff_mul_le (by omega),Nat.succ_mul];omega
section
variable {p dp ap bp bc b rb mb vb : Nat} {d : D} {x : X} {cap peak pk : Int} {bufs : List (Nat × Nat × Option Addr)}
theorem vZV {ws pre:List UInt64}(hok:Ok d)(hl:d.down=false)(ho:d.rd≤4611685000000000000)(s n:Nat)(hs1:s<d.sec)(hn2:n≤D.per d)(hpre:pre.length≤1000000000)
  (hbm:(b,D.per d,some ⟨rb,0,none⟩)∈bufs) (hws:ws.length=D.per d):
  Tr prog 122 #[.int .i64 s,.int .i64 n,.pointer (some ⟨b,0,none⟩),.pointer (some ⟨bp,0,none⟩),.pointer (some ⟨bc,0,none⟩)]
   [pts p (ZI dp ap x),Dk dp d,Ar ap cap peak bufs,pts rb (.row (Zd ws) 82 mb),pts bp (.obj (.cells #[.pointer (some ⟨p,0,none⟩)] 153)),ctr bc pre] fun v M=>
   (d.fuse≠1∧v= .int .i64 0∧M=[pts p (ZI dp ap x),Dk dp (D.mr d),Ar ap cap peak bufs,pts rb (.row (Zd (aZE (d.now s))) 82 mb),pts bp (.obj (.cells #[.pointer (some ⟨p,0,none⟩)] 153)),ctr bc (pre++(aZE (d.now s)).take n)])∨
   (d.fuse=1∧v= .int .i64 8∧M=[pts p (ZI dp ap x),Dk dp (D.dead d),Ar ap cap peak bufs,pts rb (.row (Zd ws) 82 mb),pts bp (.obj (.cells #[.pointer (some ⟨p,0,none⟩)] 153)),ctr bc pre]):=fun H hs=>by
 have hp:=Ok.per_le hok;have hwl:(aZE (d.now (s:Int))).length=D.per d:=by rw[cZ2,hok.now];rfl
 have htl:((aZE (d.now (s:Int))).take n).length=n:=by rw[List.length_take];omega
 apply dZf.ok;unfold dZf
 try simp only[HS]
 refine hs.ld 4 rfl rfl ?_;simp only[HV]
 try simp only[HS]
 refine(oZf (p:=p) (ap:=ap) (x:=x) (cap:=cap) (peak:=peak) (b:=b) (rb:=rb) (m:=mb) hok hl (by omega) (s:Int) (Int.natCast_nonneg _) (Int.ofNat_lt.2 hs1) hbm (xs:=Zd ws) (by rw[Zr];exact hws)).use hs [0,1,2,3] rfl rfl ?_;rintro _ _ H (⟨hf,rfl,rfl⟩|⟨hf,rfl,rfl⟩) hs
 ·simp only[HV];refine ZT rfl ?_;refine Za.use (eZm hs 2 rfl hbm) ?_;simp only[HV];refine lZJ rfl (by omega) ?_;rw[oZI,Nat.sub_zero,Nat.sub_zero];have hcell:Cells H (some ⟨rb,0,none⟩) (Zd ((aZE (d.now (s:Int))).take n)):=by
   have:=Cells.row (hs.get 3 (b:=rb) (o:=.row (Zd (aZE (d.now (s:Int)))) 82 mb) rfl) 0 n;rw[List.drop_zero]at this;rw[show Zd ((aZE (d.now (s:Int))).take n)=(Zd (aZE (d.now (s:Int)))).take n by unfold Zd;rw[List.map_take]];exact this
  have hs:Sep [pts p (ZI dp ap x),Dk dp (D.mr d),Ar ap cap peak bufs,pts rb (.row (Zd (aZE (d.now (s:Int)))) 82 mb),pts bp (.obj (.cells #[.pointer (some ⟨p,0,none⟩)] 153)),pts bc (CrcP.counter (Go.Crc.sum (form pre)) (8*pre.length))] H:=hs;refine Za.use (CrcP.oZU bc (Go.Crc.sum (form pre)) (8*pre.length) (some ⟨rb,0,none⟩) n (D.per d) ((aZE (d.now (s:Int))).take n) htl.symm H (hs.get 5 rfl) hcell (by omega) (by omega)) ?_;have hs2:=hs.put 5 (CrcP.counter (Go.Crc.more (Go.Crc.sum (form pre)) (form ((aZE (d.now (s:Int))).take n))) (8*pre.length+8*n)) rfl;refine⟨_,.inl ⟨hf,by first|rfl|trivial,rfl⟩,?_⟩;have e:ctr bc (pre++(aZE (d.now (s:Int))).take n)=pts bc (CrcP.counter (Go.Crc.more (Go.Crc.sum (form pre)) (form ((aZE (d.now (s:Int))).take n))) (8*pre.length+8*n)):=by
   unfold ctr;rw[List.length_append,htl,Nat.mul_add];have:form (pre++(aZE (d.now (s:Int))).take n)=form pre++form ((aZE (d.now (s:Int))).take n):=by unfold form;rw[List.flatMap_append]
   rw[this];unfold Go.Crc.sum;rw[Go.Crc.more_append]
  rw[e];exact hs2
 ·simp only[HV];refine aZg (by decide) ?_;exact⟨_,.inr ⟨hf,by first|rfl|trivial,rfl⟩,hs⟩
def tZS (p dp ap:Nat)(d:D)(x:X)(cap pk:Int)(bufs:List (Nat×Nat×OA))(v:Value)(M:List As):Prop:=
 ((d.fuse=0∨nS (D.per d) x.w<d.fuse)∧v= .tuple #[.int .u32 ((Go.Crc.sum (form (pws d x 0 x.w))).toNat:Int),.int .i64 0]∧M=[pts p (ZI dp ap x),Dk dp (D.rdG d (nS (D.per d) x.w)),Ar ap cap pk bufs])∨
 (∃ j,j<nS (D.per d) x.w∧d.fuse=j+1∧v= .tuple #[.int .u32 0,.int .i64 8]∧M=[pts p (ZI dp ap x),Dk dp (D.dead (D.rdG d j)),Ar ap cap pk bufs])
theorem qZb (K:VK)(hok:Ok d)(hl:d.down=false)(hbm:∀ z∈bufs,z.1≠b)(hx:On d x)(ho:d.rd≤3000000000000000000)
  (hK:∀ H,(d.fuse=0∨nS (D.per d) x.w<d.fuse)→Sep [pts p (ZI dp ap x),Dk dp (D.rdG d (nS (D.per d) x.w)),Ar ap cap pk bufs,ctr bc (pws d x 0 x.w)] H→K (.int .i64 0) H)
  (hD:∀ j H pre,j<nS (D.per d) x.w→d.fuse=j+1→Sep [pts p (ZI dp ap x),Dk dp (D.dead (D.rdG d j)),Ar ap cap pk bufs,ctr bc pre] H→K (.int .i64 8) H):
  ∀(t i:Nat) (ws:List UInt64) (H:Hp),x.w≤(i+t)*D.per d→i≤nS (D.per d) x.w→(d.fuse=0∨i<d.fuse)→ws.length=D.per d→
   Sep (lZd p dp ap bp b rb mb vb (D.rdG d i) x cap pk bufs (D.per d) ws (ctr bc (pws d x 0 (if i*D.per d<x.w then i*D.per d else x.w)))) H→
   ZK.l6 K (t+2) (some ⟨p,0,none⟩) 122 #[] (tZR bp bc) (some ⟨b,0,none⟩) 0 ((x.w:Int)-((i*D.per d:Nat):Int)) ((x.f+i:Nat):Int) (some ⟨ap,0,none⟩) (some ⟨vb,0,none⟩) 1 1 H:=fun t=>by
 have hp:=Ok.per_le hok;have hsec:=hok.sec;have hroom:x.s*D.per d≤1048576*512:=Nat.mul_le_mul (by have:=hx.fit;omega) (by omega);have h4:=hx.room;have hw1:=hx.w1;have hfit:=hx.fit;have fin:∀(i:Nat) (ws:List UInt64) (H:Hp),x.w≤i*D.per d→i≤nS (D.per d) x.w→(d.fuse=0∨i<d.fuse)→Sep (lZd p dp ap bp b rb mb vb (D.rdG d i) x cap pk bufs (D.per d) ws (ctr bc (pws d x 0 (if i*D.per d<x.w then i*D.per d else x.w)))) H→
   aZU prog 117 #[.pointer (some ⟨ap,0,none⟩),.slice (some ⟨vb,0,none⟩) 1 1] H fun _ H9=>K (.int .i64 0) H9:=fun i ws H hi hie hfu hs=>by
  have e:i=nS (D.per d) x.w:=by
   rcases Nat.lt_or_ge i (nS (D.per d) x.w)with h|h
   ·have:=(uZf (by omega)).1 h;omega
   ·omega
  rw[if_neg (by omega)]at hs;unfold lZd at hs;refine(cZp vb b (D.per d) (some ⟨rb,0,none⟩) hbm).use hs [2,6] rfl rfl ?_;rintro _ _ H ⟨rfl,rfl⟩ hs;subst e;exact hK H hfu (hs.re [1,2,0,5] rfl)
 induction t with
 |zero=>
  intro i ws H hi hie hfu hws hs;rw[Nat.add_zero]at hi;unfold ZK.l6;exact Zh (by omega) (fin i ws H hi hie hfu hs)
 |succ t ih=>
  intro i ws H hi hie hfu hws hs;by_cases hlt:i*D.per d<x.w
  ·have his:i<x.s:=by
    apply Nat.lt_of_mul_lt_mul_right (a:=D.per d);omega
   have hin:=(uZf (per:=D.per d) (w:=x.w) (i:=i) (by omega)).2 hlt;have hokj:=Ok.rdG hok i;have hlj:(D.rdG d i).down=false:=hl;generalize hnv:(if D.per d<x.w-i*D.per d then D.per d else x.w-i*D.per d)=n;have hn1:1≤n∧n≤D.per d∧i*D.per d+n≤x.w:=by rw[← hnv];split<;>omega
   rw[if_pos hlt]at hs;unfold lZd at hs;unfold ZK.l6;refine Zm (by omega) (ZT rfl ?_)
   try simp only[HS]
   refine Za.use (eZT hs 0 1 rfl rfl hokj) ?_
   try simp only[HV]
   rw[show D.per (D.rdG d i)=D.per d from rfl];refine aZt (by kernel_rfl) ?_;unfold tZR;rw[wZ3,uZ6 (left:=x.w-i*D.per d) (by omega),hnv];have hs1:x.f+i<(D.rdG d i).sec:=by show _<d.sec;omega
   have ho1:(D.rdG d i).rd≤4611685000000000000:=by show d.rd+i≤_;omega
   have hpl:(pws d x 0 (i*D.per d)).length≤1000000000:=by rw[dZX];omega
   refine(vZV (p:=p) (dp:=dp) (ap:=ap) (bp:=bp) (bc:=bc) (b:=b) (rb:=rb) (mb:=mb) (d:=D.rdG d i) (x:=x) (cap:=cap) (peak:=pk) (bufs:=bufs++[(b,D.per d,some ⟨rb,0,none⟩)]) (ws:=ws) (pre:=pws d x 0 (i*D.per d)) hokj hlj ho1 (x.f+i) n hs1 hn1.2.1 hpl (List.mem_append_right _ (List.mem_singleton.2 rfl)) hws).use hs [0,1,2,3,4,5] rfl rfl ?_;have hwl:(aZE (d.now ((x.f+i:Nat):Int))).length=D.per d:=by rw[cZ2,hok.now];rfl
   have e1:i64.wrap ((x.w:Int)-((i*D.per d:Nat):Int)-(D.per d:Int))=(x.w:Int)-(((i+1)*D.per d:Nat):Int):=by
    rw[ZL (by omega) (by omega),Nat.succ_mul];omega
   have e2:i64.wrap (((x.f+i:Nat):Int)+1)=((x.f+(i+1):Nat):Int):=by
    rw[ZL (by omega) (by omega)];omega
   rintro _ _ H (⟨hf,rfl,rfl⟩|⟨hf,rfl,rfl⟩) hs
   ·refine kZW (t:=40) (by kernel_rfl) (by kernel_rfl) ?_;rw[oZy]at hs;simp only[HV];refine Za.use (eZT hs 0 1 rfl rfl (Ok.rdG hok (i+1))) ?_
    try simp only[HV]
    rw[show D.per (D.rdG d (i+1))=D.per d from rfl,e1,e2];have hnext:i*D.per d+n=(if(i+1)*D.per d<x.w then(i+1)*D.per d else x.w):=by
     rw[Nat.succ_mul,←hnv];split<;>split<;>omega
    have hpc:(aZE (d.now ((x.f+i:Nat):Int))).take n=pws d x (i*D.per d) n:=by
     have:=kZe hok x (fr:=i*D.per d) (k:=n) (by rw[Nat.mul_mod_left];omega);rw[Nat.mul_div_cancel _ (by omega),Nat.mul_mod_left,List.drop_zero]at this;exact this
    have hpa:pws d x 0 (i*D.per d)++(aZE (d.now ((x.f+i:Nat):Int))).take n=pws d x 0 (i*D.per d+n):=by
     rw[pZB,Nat.zero_add,hpc]
    have hf':d.fuse-i≠1:=hf;refine ih (i+1) (aZE (d.now ((x.f+i:Nat):Int))) H (by rw[show i+1+t=i+(t+1) by omega];exact hi) (by omega) (by omega) hwl ?_;rw[← hnext,←hpa];exact hs
   ·refine kZW (t:=40) (by kernel_rfl) (by kernel_rfl) ?_;simp only[HV];have hf':d.fuse-i=1:=hf;have hokd:Ok (D.dead (D.rdG d i)):=Ok.dead hokj;refine Za.use (eZT hs 0 1 rfl rfl hokd) ?_
    try simp only[HV]
    rw[show D.per (D.dead (D.rdG d i))=D.per d from rfl,e1,e2];unfold ZK.l6;have give:aZU prog 117 #[.pointer (some ⟨ap,0,none⟩),.slice (some ⟨vb,0,none⟩) 1 1] H fun _ H9=>K (.int .i64 8) H9:=by
     refine(cZp vb b (D.per d) (some ⟨rb,0,none⟩) hbm).use hs [2,6] rfl rfl ?_;rintro _ _ H ⟨rfl,rfl⟩ hs;exact hD i H _ hin (by omega) (hs.re [1,2,0,5] rfl)
    by_cases hgt:(x.w:Int)-(((i+1)*D.per d:Nat):Int)>0
    ·exact Zm hgt (aZg (by decide) give)
    ·exact Zh hgt give
  ·unfold ZK.l6;exact Zh (by omega) (fin i ws H (by omega) hie hfu hs)
theorem lZU (hok:Ok d)(hl:d.down=false)(hx:On d x)(ho:d.rd≤3000000000000000000)(hcap:(D.per d:Int)≤cap-ZG bufs):
  Tr prog 84 #[.pointer (some ⟨p,0,none⟩)] [pts p (ZI dp ap x),Dk dp d,Ar ap cap peak bufs] (tZS p dp ap d x cap (mx peak (ZG bufs+D.per d)) bufs):=fun H hs=>by
 have hp:=Ok.per_le hok;apply dZQ.ok;unfold dZQ;refine hs.nw fun bp H hs=>?_
 refine hs.nw fun bc H hs=>?_
 refine hs.ld 3 rfl rfl ?_;simp only[HV];have h0:ctr bc []=pts bc (.obj (.cells #[.int .u32 0,.int .i64 0] 208)):=by
  unfold ctr CrcP.counter;rfl
 have hs:Sep [pts p (ZI dp ap x),Dk dp d,Ar ap cap peak bufs,pts bp (.obj (.cells #[.pointer (some ⟨p,0,none⟩)] 153)),ctr bc []] H:=by rw[h0];exact hs
 refine oZX (peak:=peak) (bufs:=bufs) (cap:=cap) (B:=ctr bc []) _ 122 (tZR bp bc) hok hcap hs fun b rb vb H hbm hs=>?_
 have e9:(x.w:Int)-((0*D.per d:Nat):Int)=x.w:=by rw[Nat.zero_mul];omega
 have e0:(if 0*D.per d<x.w then 0*D.per d else x.w)=0:=by rw[Nat.zero_mul,if_pos (show 0<x.w from hx.w1)]
 refine⟨x.w+2,?_⟩;have t:=qZb (p:=p) (dp:=dp) (ap:=ap) (bp:=bp) (bc:=bc) (b:=b) (rb:=rb) (mb:=D.per d) (vb:=vb) (d:=d) (x:=x) (cap:=cap) (pk:=mx peak (ZG bufs+D.per d)) (bufs:=bufs)
  (fun v2 H3=>DI .i64 v2 fun x1=>BIf (x1 !=(0:Int)) (∃ M,tZS p dp ap d x cap (mx peak (ZG bufs+D.per d)) bufs (.tuple #[.int .u32 0,.int .i64 x1]:Value) M∧Sep M H3)
   (Za prog 124 #[.pointer (some (⟨bc,0,none⟩:Addr))] H3 fun v3 H4=>DI .u32 v3 fun x2=>∃ M,tZS p dp ap d x cap (mx peak (ZG bufs+D.per d)) bufs (.tuple #[.int .u32 x2,.int .i64 0]:Value) M∧Sep M H4))
  hok hl hbm hx ho (fun H hfu hs=>by
   simp only[HV];refine Zq rfl ?_;have hs:Sep [pts p (ZI dp ap x),Dk dp (D.rdG d (nS (D.per d) x.w)),Ar ap cap (mx peak (ZG bufs+D.per d)) bufs,pts bc (CrcP.counter (Go.Crc.sum (form (pws d x 0 x.w))) (8*(pws d x 0 x.w).length))] H:=hs;refine Za.use (CrcP.uZu bc _ _ H (hs.get 3 rfl)) ?_
   try simp only[HV]
   exact⟨_,.inl ⟨hfu,rfl,rfl⟩,hs.re [0,1,2] rfl⟩) (fun j H pre hj hfu hs=>by
   simp only[HV];refine ZC (by decide) ?_;exact⟨_,.inr ⟨j,hj,hfu,rfl,rfl⟩,hs.re [0,1,2] rfl⟩) x.w 0 (List.replicate (D.per d) 0) H (by rw[Nat.zero_add];exact Nat.le_mul_of_pos_right _ (by omega)) (Nat.zero_le _) (by omega) (by simp)
 rw[e0,e9]at t;exact t hs
end
end Str
namespace W
open Go Go.Hw
theorem cZ7 :prog.follows .mixedOrders=true:=by kernel_rfl
def cZd.j6 (K:VK)(p5 p6:OA)(x6:Int)(a1 a2:Addr)(p7 p8:OA)(H:Hp):=
 Hz 84 #[.pointer p7] H fun v7 H4=>iZA v7 fun x7 x8=>(BIf (x8 !=0) (K (.tuple #[.int .u32 0,.int .i64 x8]) H4) (BIf (x7 !=x6) (K (.tuple #[.int .u32 0,.int .i64 9]) H4) (LdA H4 a2 8 fun l10=>LeI H4 (a1.add 1) fun x9=>Hz 88 #[.pointer p7,.pointer p8,.agg l10.toArray,.pointer p6,.int .i64 x9] H4 fun v11 H5=>iZA v11 fun x10 x11=>(BIf (x11 !=0) (K (.tuple #[.int .u32 0,.int .i64 x11]) H5) (HcI 47 #[.pointer p5] H5 fun x12 H6=>BIf (x12 !=0) (K (.tuple #[.int .u32 0,.int .i64 x12]) H6) (K (.tuple #[.int .u32 x10,.int .i64 0]) H6))))))
def cZd (p1 p2:OA)(y1:Array Value)(x1:Int)(y2:Array Value)(x2:Int)(H:Hp)(K:VK):Prop:=
 Nw H (.obj (.cells y1 90)) fun b1 H1=>Nw H1 (.obj (.cells y2 126)) fun b2 H2=>LdA H2 ⟨b1,0,none⟩ 17 fun l1=>LdA H2 ⟨b2,0,none⟩ 8 fun l2=>Hz 87 #[.pointer p1,.pointer p2,.agg l1.toArray,.int .i64 x1,.agg l2.toArray] H2 fun v1 H3=>tZ9 v1 fun p3 p4 x3=>(BIf (x3 !=0) (K (.tuple #[.int .u32 0,.int .i64 x3]) H3) (LeI H3 ((⟨b2,0,none⟩:Addr).add 5) fun x4=>BIf (x4 !=1) (LeI H3 ((⟨b2,0,none⟩:Addr).add 5) fun x5=>BIf (x5 !=2) (K (.tuple #[.int .u32 0,.int .i64 18]) H3) (cZd.j6 K p1 p2 x2 ⟨b1,0,none⟩ ⟨b2,0,none⟩ p3 p4 H3)) (cZd.j6 K p1 p2 x2 ⟨b1,0,none⟩ ⟨b2,0,none⟩ p3 p4 H3)))
def cZd.Λ (K:VK):Zu:=⟨fun i=>match Nat.beq i 6 with|true=>some (fun E D H=>eP E 0 fun p5=>eP E 1 fun p6=>eI E 5 .u32 fun x6=>eN E 8 fun a1=>eN E 10 fun a2=>eP E 14 fun p7=>eP E 15 fun p8=>Zk D (cZd.j6 K p5 p6 x6 a1 a2 p7 p8 H))|false=>none,fun i=>none,(fun _=>none)⟩
theorem cZd.ok p1 p2 y1 x1 y2 x2 H K (h:cZd p1 p2 y1 x1 y2 x2 H K):Za prog 61 #[.pointer p1,.pointer p2,.agg y1,.int .i64 x1,.agg y2,.int .u32 x2] H K:=
 okL (Λ:=(cZd.Λ K)) cZ7 Tryz.func61 rfl rfl h (oC (fun E D H h=>by
   obtain⟨p5,e0,g2⟩:=GP h;obtain⟨p6,e1,g4⟩:=GP g2;obtain⟨x6,e5,g6⟩:=GI g4;obtain⟨a1,e8,g9⟩:=GN g6;obtain⟨a2,e10,g12⟩:=GN g9;obtain⟨p7,e14,g14⟩:=GP g12;obtain⟨p8,e15,g16⟩:=GP g14;obtain⟨rfl,h'⟩:=Zk.out g16;exact okJ (Λ:=(cZd.Λ K)) cZ7 [] (Zb.cons e0 (Zb.cons e1 (Zb.cons e5 (Zb.cons e8 (Zb.cons e10 (Zb.cons e14 (Zb.cons e15 (Zb.nil _)))))))) h' oN) oN)
def gZu (p1 p2:OA)(y1:Array Value)(x1 x2:Int)(H:Hp)(K:VK):Prop:=
 Nw H (.obj (.cells y1 90)) fun b1 H1=>LdA H1 ⟨b1,0,none⟩ 17 fun l1=>Hz 112 #[.agg l1.toArray,.int .i64 x1,.int .i64 x2] H1 fun v1 H2=>bZS v1 fun y2 x3=>(Nw H2 (.obj (.cells #[.int .i64 0,.int .i64 0,.int .i64 0] 87)) fun b2 H3=>StA H3 ⟨b2,0,none⟩ y2 3 fun H4=>BIf (x3 !=0) (K (.tuple #[.pointer none,.int .i64 x3]) H4) (LdA H4 ⟨b2,0,none⟩ 3 fun l5=>Hz 113 #[.pointer p1,.pointer p2,.agg l5.toArray] H4 fun v4 H5=>dZT v4 fun p3 x4=>(K (.tuple #[.pointer p3,.int .i64 x4]) H5)))
theorem gZu.ok p1 p2 y1 x1 x2 H K (h:gZu p1 p2 y1 x1 x2 H K):Za prog 82 #[.pointer p1,.pointer p2,.agg y1,.int .i64 x1,.int .i64 x2] H K:=
 okN cZ7 Tryz.func82 rfl rfl h
def aZV.j13 (K:VK)(a5 a6:Addr)(x14:Int)(a7:Addr)(H:Hp):=
 BIf (x14 !=0) (StA H a5 #[.int .i64 0,.int .i64 0,.int .i64 0] 3 fun H14=>LdA H14 a5 3 fun l22=>K (.tuple #[.agg l22.toArray,.int .i64 x14]) H14) (LdA H a7 3 fun l17=>LeI H (a6.add 1) fun x15=>dZ1 l17.toArray.toList fun x16 x17 x18=>(Nw H (.row [.int .i64 x16,.int .i64 x17,.int .i64 x18,.int .i64 x15,.int .i64 0,.int .i64 1] 39 6) fun b6 H15=>HcA 131 #[.slice (some ⟨b6,0,none⟩) 2 2] H15 fun y7 H16=>StA H16 a5 y7 3 fun H17=>LdA H17 a5 3 fun l23=>K (.tuple #[.agg l23.toArray,.int .i64 0]) H17))
def aZV.j4 (K:VK)(x7:Int)(a1 a2 a3 a4:Addr)(x8:Int)(H:Hp):=
 BIf (x8 !=0) (StA H a3 #[.int .i64 0,.int .i64 0,.int .i64 0] 3 fun H8=>LdA H8 a3 3 fun l21=>K (.tuple #[.agg l21.toArray,.int .i64 x8]) H8) (Nw H (.obj (.cells #[.int .i64 0,.int .i64 0,.int .i64 0] 39)) fun b5 H9=>LeI H9 (a2.add 5) fun x9=>BIf (x9==1) (LdA H9 ((a2.add 0).add 0) 2 fun l9=>LeI H9 (a1.add 1) fun x10=>Hz 129 #[.agg l9.toArray,.int .i64 x10,.int .i64 x7] H9 fun v11 H10=>bZS v11 fun y5 x11=>(StA H10 ⟨b5,0,none⟩ y5 3 fun H11=>aZV.j13 K a3 a4 x11 ⟨b5,0,none⟩ H11)) (BIf (x9==2) (LdA H9 ((a2.add 0).add 0) 2 fun l13=>LeI H9 (a1.add 1) fun x12=>Hz 130 #[.agg l13.toArray,.int .i64 x12,.int .i64 x7] H9 fun v15 H12=>bZS v15 fun y6 x13=>(StA H12 ⟨b5,0,none⟩ y6 3 fun H13=>aZV.j13 K a3 a4 x13 ⟨b5,0,none⟩ H13)) (aZV.j13 K a3 a4 18 ⟨b5,0,none⟩ H9)))
def aZV (y1:Array Value)(x1:Int)(y2:Array Value)(x2:Int)(H:Hp)(K:VK):Prop:=
 Nw H (.obj (.cells y1 90)) fun b1 H1=>Nw H1 (.obj (.cells y2 126)) fun b2 H2=>Nw H2 (.obj (.cells #[.int .i64 0,.int .i64 0,.int .i64 0] 39)) fun b3 H3=>LdA H3 ⟨b1,0,none⟩ 17 fun l1=>LeI H3 ((⟨b2,0,none⟩:Addr).add 6) fun x3=>Hz 112 #[.agg l1.toArray,.int .i64 x3,.int .i64 x1] H3 fun v2 H4=>bZS v2 fun y3 x4=>(Nw H4 (.obj (.cells #[.int .i64 0,.int .i64 0,.int .i64 0] 87)) fun b4 H5=>StA H5 ⟨b4,0,none⟩ y3 3 fun H6=>BIf (x4==0) (LdA H6 ⟨b1,0,none⟩ 17 fun l5=>LeI H6 ((⟨b2,0,none⟩:Addr).add 7) fun x5=>Hz 112 #[.agg l5.toArray,.int .i64 x5,.int .i64 x1] H6 fun v6 H7=>bZS v6 fun y4 x6=>(aZV.j4 K x2 ⟨b1,0,none⟩ ⟨b2,0,none⟩ ⟨b3,0,none⟩ ⟨b4,0,none⟩ x6 H7)) (aZV.j4 K x2 ⟨b1,0,none⟩ ⟨b2,0,none⟩ ⟨b3,0,none⟩ ⟨b4,0,none⟩ x4 H6))
def aZV.Λ (K:VK):Zu:=⟨fun i=>match Nat.beq i 13 with|true=>some (fun E D H=>eN E 8 fun a5=>eN E 10 fun a6=>eI E 11 .i64 fun x14=>eN E 12 fun a7=>Zk D (aZV.j13 K a5 a6 x14 a7 H))|false=>match Nat.beq i 4 with|true=>some (fun E D H=>eI E 3 .i64 fun x7=>eN E 4 fun a1=>eN E 6 fun a2=>eN E 8 fun a3=>eN E 10 fun a4=>eI E 11 .i64 fun x8=>Zk D (aZV.j4 K x7 a1 a2 a3 a4 x8 H))|false=>none,fun i=>none,(fun _=>none)⟩
theorem aZV.ok y1 x1 y2 x2 H K (h:aZV y1 x1 y2 x2 H K):Za prog 86 #[.agg y1,.int .i64 x1,.agg y2,.int .i64 x2] H K:=
 okL (Λ:=(aZV.Λ K)) cZ7 Tryz.func86 rfl rfl h (oC (fun E D H h=>by
   obtain⟨x7,e3,g2⟩:=GI h;obtain⟨a1,e4,g5⟩:=GN g2;obtain⟨a2,e6,g8⟩:=GN g5;obtain⟨a3,e8,g11⟩:=GN g8;obtain⟨a4,e10,g14⟩:=GN g11;obtain⟨x8,e11,g16⟩:=GI g14;obtain⟨rfl,h'⟩:=Zk.out g16;exact okJ (Λ:=(aZV.Λ K)) cZ7 [] (Zb.cons e3 (Zb.cons e4 (Zb.cons e6 (Zb.cons e8 (Zb.cons e10 (Zb.cons e11 (Zb.nil _))))))) h' (oC (fun E D H h=>by
     obtain⟨a5,e8,g3⟩:=GN h;obtain⟨a6,e10,g6⟩:=GN g3;obtain⟨x14,e11,g8⟩:=GI g6;obtain⟨a7,e12,g11⟩:=GN g8;obtain⟨rfl,h'⟩:=Zk.out g11;exact okJ (Λ:=(aZV.Λ K)) cZ7 [] (Zb.cons e8 (Zb.cons e10 (Zb.cons e11 (Zb.cons e12 (Zb.nil _))))) h' oN) oN)) oN)
def gZv (p1 p2:OA)(y1:Array Value)(x1:Int)(y2:Array Value)(H:Hp)(K:VK):Prop:=
 Nw H (.obj (.cells y1 90)) fun b1 H1=>Nw H1 (.obj (.cells y2 126)) fun b2 H2=>LdA H2 ⟨b1,0,none⟩ 17 fun l1=>LeI H2 ((⟨b2,0,none⟩:Addr).add 6) fun x2=>Hz 82 #[.pointer p1,.pointer p2,.agg l1.toArray,.int .i64 x2,.int .i64 x1] H2 fun v2 H3=>dZT v2 fun p3 x3=>(BIf (x3==0) (LdA H3 ⟨b1,0,none⟩ 17 fun l5=>LeI H3 ((⟨b2,0,none⟩:Addr).add 7) fun x4=>Hz 82 #[.pointer p1,.pointer p2,.agg l5.toArray,.int .i64 x4,.int .i64 x1] H3 fun v6 H4=>dZT v6 fun p4 x5=>(K (.tuple #[.pointer p3,.pointer p4,.int .i64 x5]) H4)) (K (.tuple #[.pointer p3,.pointer none,.int .i64 x3]) H3))
theorem gZv.ok p1 p2 y1 x1 y2 H K (h:gZv p1 p2 y1 x1 y2 H K):Za prog 87 #[.pointer p1,.pointer p2,.agg y1,.int .i64 x1,.agg y2] H K:=
 okN cZ7 Tryz.func87 rfl rfl h
def gZ3 (p1 p2:OA)(y1:Array Value)(p3:OA)(x1:Int)(H:Hp)(K:VK):Prop:=
 Nw H (.obj (.cells y1 126)) fun b1 H1=>LeI H1 ((⟨b1,0,none⟩:Addr).add 5) fun x2=>BIf (x2==1) (LdA H1 (((⟨b1,0,none⟩:Addr).add 0).add 0) 2 fun l1=>Hz 132 #[.pointer p1,.pointer p2,.agg l1.toArray,.pointer p3,.int .i64 x1] H1 fun v2 H2=>iZA v2 fun x3 x4=>(K (.tuple #[.int .u32 x3,.int .i64 x4]) H2)) (BIf (x2==2) (LdA H1 ((⟨b1,0,none⟩:Addr).add 0) 5 fun l5=>Hz 133 #[.pointer p1,.pointer p2,.agg l5.toArray,.pointer p3,.int .i64 x1] H1 fun v5 H3=>iZA v5 fun x5 x6=>(K (.tuple #[.int .u32 x5,.int .i64 x6]) H3)) (K (.tuple #[.int .u32 0,.int .i64 18]) H1))
theorem gZ3.ok p1 p2 y1 p3 x1 H K (h:gZ3 p1 p2 y1 p3 x1 H K):Za prog 88 #[.pointer p1,.pointer p2,.agg y1,.pointer p3,.int .i64 x1] H K:=
 okN cZ7 Tryz.func88 rfl rfl h
def bZA.q1 (H3:Hp)(b2:Nat)(K:VK):Prop:=
 StA H3 ⟨b2,0,none⟩ #[.int .i64 0,.int .i64 0,.int .i64 0] 3 fun H4=>LdA H4 ⟨b2,0,none⟩ 3 fun l2=>K (.tuple #[.agg l2.toArray,.int .i64 1]) H4
def bZA (y1:Array Value)(x1 x2:Int)(H:Hp)(K:VK):Prop:=
 Nw H (.obj (.cells y1 90)) fun b1 H1=>Nw H1 (.obj (.cells #[.int .i64 0,.int .i64 0,.int .i64 0] 87)) fun b2 H2=>LdA H2 ⟨b1,0,none⟩ 17 fun l1=>HcB 156 #[.agg l1.toArray] H2 fun c1 H3=>BIf (!c1) (bZA.q1 H3 b2 K) (BIf (decide (x1<0)) (bZA.q1 H3 b2 K) (BIf (decide (x1≥4)) (bZA.q1 H3 b2 K) (BIf (decide (x2<0)) (bZA.q1 H3 b2 K) (LeI H3 ((⟨b1,0,none⟩:Addr).add 0) fun x3=>BIf (decide (x2>x3)) (bZA.q1 H3 b2 K) ((0≤(u64.wrap x2)∧ixI x1 4 (LeI H3 ((((⟨b1,0,none⟩:Addr).add 5).add (x1.toNat*3)).add 0) fun x4=>LeI H3 ((⟨b1,0,none⟩:Addr).add 1) fun x5=>(x5≠0∧i64=i64∧StA H3 ⟨b2,0,none⟩ #[.int .i64 x4,.int .i64 (i64.wrap ((i64.wrap (Int.tdiv (i64.wrap ((aZB .i64 1 (u64.wrap x2))-1)) x5))+1)),.int .i64 (aZB .i64 1 (u64.wrap x2))] 3 fun H9=>LdA H9 ⟨b2,0,none⟩ 3 fun l7=>K (.tuple #[.agg l7.toArray,.int .i64 0]) H9))))))))
theorem bZA.ok y1 x1 x2 H K (h:bZA y1 x1 x2 H K):Za prog 112 #[.agg y1,.int .i64 x1,.int .i64 x2] H K:=
 ok0 (fun i=>match Nat.beq i 4 with|true=>some ([],[0,1,2,3,4,5,6,7,8,9,10,11,12],13)|false=>none) cZ7 Tryz.func112 rfl rfl h
def aZM.l2 (K:VK):Nat→Addr→OA→Nat→Nat→Int→Int→Hp→Prop
 |0,_,_,_,_,_,_,_=>False
 |k+1,a1,A2,n2,m2,x1,x2,H=>
  let R2:=aZM.l2 K k
  BIf (decide (x2<x1)) (ixI x2 n2 (NN A2 fun a2=>LdA H (a2.add (x2.toNat*3)) 3 fun l1=>Nw H (.obj (.cells #[.int .i64 0,.int .i64 0,.int .i64 0] 39)) fun b2 H2=>StA H2 ⟨b2,0,none⟩ l1.toArray 3 fun H3=>LeI H3 (a1.add 0) fun x3=>LeI H3 ((⟨b2,0,none⟩:Addr).add 0) fun x4=>LeI H3 (a1.add 1) fun x5=>LeI H3 ((⟨b2,0,none⟩:Addr).add 1) fun x6=>LeI H3 (a1.add 2) fun x7=>LeI H3 ((⟨b2,0,none⟩:Addr).add 2) fun x8=>StA H3 a1 #[.int .i64 (i64.wrap (x3+x4)),.int .i64 (i64.wrap (x5+x6)),.int .i64 (i64.wrap (x7+x8))] 3 fun H4=>R2 a1 A2 n2 m2 x1 (i64.wrap (x2+1)) H4)) (LdA H a1 3 fun l2=>StA H a1 l2.toArray 3 fun H5=>LdA H5 a1 3 fun l3=>K (.agg l3.toArray) H5)
def aZM (A1:OA)(n1 m1:Nat)(H:Hp)(K:VK):Prop:=
 Nw H (.obj (.cells #[.int .i64 0,.int .i64 0,.int .i64 0] 39)) fun b1 H1=>(∃ k,aZM.l2 K k ⟨b1,0,none⟩ A1 n1 m1 (n1:Int) 0 H1)
def aZM.l2.L (K:VK)(k:Nat):Mid:=fun E D H=>
 eN E 2 fun a1=>DG (E.get? 5) fun w5=>DSl w5 fun A2 n2 m2=>eI E 6 .i64 fun x1=>eI E 7 .i64 fun x2=>Zk D (aZM.l2 K k a1 A2 n2 m2 x1 x2 H)
def aZM.Λ2 (_:VK)(_R2:Addr→OA→Nat→Nat→Int→Int→Hp→Prop):Zu:=Zu.none (fun _=>none)
def aZM.Λ (K:VK):Zu:=⟨fun i=>none,fun i=>match Nat.beq i 2 with|true=>some (fun E D H=>∃ k,aZM.l2.L K k E D H)|false=>none,(fun _=>none)⟩
theorem aZM.ok A1 n1 m1 H K (h:aZM A1 n1 m1 H K):Za prog 131 #[.slice A1 n1 m1] H K:=
 okL (Λ:=(aZM.Λ K)) cZ7 Tryz.func131 rfl rfl h (oC (fun E D H h=>by
   refine Safe.loop' (aZM.l2.L K) (fun E D H h=>?_) (fun k E D H h=>?_) E D H h
   ·obtain⟨w2,e2,g1⟩:=DG.out h;obtain⟨pw2,rfl,g2⟩:=DP.out g1;obtain⟨a1,rfl,g3⟩:=NN.out g2;obtain⟨w5,e5,g4⟩:=DG.out g3;obtain⟨A2,n2,m2,rfl,g5⟩:=DSl.out g4;obtain⟨w6,e6,g6⟩:=DG.out g5;obtain⟨x1,rfl,g7⟩:=DI.out g6;obtain⟨w7,e7,g8⟩:=DG.out g7;obtain⟨x2,rfl,g9⟩:=DI.out g8;obtain⟨rfl,h'⟩:=Zk.out g9;exact h'
   ·obtain⟨a1,e2,g3⟩:=GN h;obtain⟨w5,e5,g4⟩:=DG.out g3;obtain⟨A2,n2,m2,rfl,g5⟩:=DSl.out g4;obtain⟨x1,e6,g7⟩:=GI g5;obtain⟨x2,e7,g9⟩:=GI g7;obtain⟨rfl,h'⟩:=Zk.out g9;exact okJ (Λ:=(aZM.Λ2 K (aZM.l2 K k))) cZ7 [] (Zb.cons e2 (Zb.cons e5 (Zb.cons e6 (Zb.cons e7 (Zb.nil _))))) h' oN) oN)
end W
namespace Eng
open Go Go.Hw Go.Form W Shp Dsk Str Are Trn Pas Pln
theorem wZT :jZS prog 90 17:=⟨by kernel_rfl,by kernel_rfl,by kernel_rfl,by kernel_rfl⟩
def qZf (k p:Nat):List Int:=
 let r:Int:=Lay.Zx k p
 let w:Int:=(2^k:Nat)
 [(k:Int),(p:Int),1,8,((8*p:Nat):Int),9,r,w,9+r,r,w,9+2*r,r,w,9+3*r,r,w]
theorem lZw {per:Nat}(h:bZ9 (per:Int)=true):per=4∨per=8∨per=16∨per=32∨per=64∨per=128∨per=256∨per=512:=by
 unfold bZ9 at h;simp only[Bool.or_eq_true,beq_iff_eq]at h;omega
theorem pZz {per:Nat}(h:bZ9 (per:Int)=true):Lay.Zs ((per*8:Nat):Int)=per:=by
 rcases lZw h with e|e|e|e|e|e|e|e<;>subst e<;>decide
theorem jZn {s:Nat}(h:0<Lay.Zs s):bZ9 ((s/8:Nat):Int)=true:=by
 have:s=32∨s=64∨s=128∨s=256∨s=512∨s=1024∨s=2048∨s=4096:=by
  unfold Lay.Zs at h
  repeat' split at h
  all_goals omega
 rcases this with e|e|e|e|e|e|e|e<;>subst e<;>decide
theorem iZP {k p:Nat}(hk:k≤32):Lay.Zx k p≤4294967296:=by
 have:=cZt hk;unfold Lay.Zx;have:=Nat.div_le_self (2^k-1) p;have:=Nat.two_pow_pos k;omega
section
variable {most per : Nat} (hm : most ≤ 32) (hp : bZ9 (per : Int) = true)
include hm hp
theorem lZp :∀ x∈qZf most per,-9223372036854775808≤x∧x≤9223372036854775807:=by
 have h1:=iZP (p:=per) hm;have h2:=cZt hm;have h3:=eZS hp;intro x hx;unfold qZf at hx;generalize Lay.Zx most per=rr at*;generalize 2^most=ww at*;simp only[List.mem_cons,List.not_mem_nil,or_false]at hx;omega
theorem bZR (H:Hp):Za prog 156 #[.agg (Lay.bZk most per)] H (RetE (.bool true) H):=Za.ret (by
 have h3:=eZS hp;apply fZg.ok;unfold fZg;refine(Sep.start H).nw fun b1 H1 hs=>?_
 refine hs.ldf 1 rfl rfl ?_;simp only[HV];refine hs.ldf 1 rfl rfl ?_;simp only[HV];rw[if_neg (by omega),ZL (x:=(per:Int)*8) (by omega) (by omega)];refine ZM.use (Lay.lZx ((per:Int)*8) H1) ?_
 try simp only[HV]
 have e:Lay.Zs ((per:Int)*8)=per:=pZz hp;rw[e];refine ZM.use (Lay.eZQ (most:Int) (per:Int) H1) ?_
 try simp only[HV]
 rw[decide_eq_true (by omega)];refine aZt rfl ?_;refine hs.ldw 1 rfl rfl ?_;refine hs.ldf 1 rfl rfl ?_;simp only[HV];refine hs.ldf 1 rfl rfl ?_;simp only[HV];refine ZM.use (Lay.rZO hm (p:=per) (by omega) (by omega) H1) ?_
 try simp only[HV]
 refine pZb wZT (a:=qZf most per) (b:=qZf most per) rfl rfl (lZp hm hp) (lZp hm hp) rfl rfl ?_;rw[decide_eq_true rfl];exact hs.fin 0 rfl _)
theorem iZ0 {i k:Nat}(hi:i<4)(hk:k≤most)(H:Hp):Za prog 112 #[.agg (Lay.bZk most per),.int .i64 (i:Int),.int .i64 (k:Int)] H
  (RetE (.tuple #[.agg #[.int .i64 (((exX most per i k).f:Nat):Int),.int .i64 (((exX most per i k).s:Nat):Int),.int .i64 (((exX most per i k).w:Nat):Int)],.int .i64 0]) H):=Za.ret (by
 have h3:=eZS hp;have h1:=cZt (k:=k) (by omega);have h4:=Nat.two_pow_pos k;have h5:=iZP (p:=per) hm;apply bZA.ok;unfold bZA bZA.q1;refine(Sep.start H).nw fun b1 H1 hs=>?_
 refine hs.nw fun b2 H1 hs=>?_
 refine hs.ldw 1 rfl rfl ?_;rw[Array.toArray_toList];refine Za.use (bZR hm hp H1) ?_
 try simp only[HV]
 refine Zh (by omega) (Zh (by omega) (Zh (by omega) ?_));refine hs.ldf 1 (v:=.int .i64 most) rfl rfl ?_;simp only[HV];refine Zh (by omega) ⟨by rw[bZ5 (by omega)];omega,by omega,by omega,?_⟩;rw[Int.toNat_natCast]
 try simp only[HS]
 refine hs.ld 1 (v:=.int .i64 (Lay.exF (Lay.Zx most per) i)) rfl (by rw[lZ5,Array.getElem?_toList];exact Lay.rZN most per i hi) ?_;simp only[HV];refine hs.ld 1 (v:=.int .i64 per) rfl rfl ?_;simp only[HV];rw[bZ5 (n:=k) (by omega),Lay.eZV (by omega),ZL (x:=((2^k:Nat):Int)-1) (by omega) (by omega),show((2^k:Nat):Int)-1=((2^k-1:Nat):Int) by omega,
  show Int.tdiv ((2^k-1:Nat):Int) (per:Int)=(((2^k-1)/per:Nat):Int)from rfl]
 have h6:=Nat.div_le_self (2^k-1) per;rw[aZu (Nat.le_trans h6 (by omega)),ZL (x:=(((2^k-1)/per:Nat):Int)+1) (by generalize(2^k-1)/per=q at *;omega) (by generalize(2^k-1)/per=q at *;omega)];refine⟨by omega,by simp,?_⟩;refine hs.stw 2 rfl rfl rfl rfl fun H1 hs=>?_
 refine hs.ldw 2 rfl rfl ?_;have e1:Lay.exF (Lay.Zx most per) i=(((exX most per i k).f:Nat):Int):=by unfold Lay.exF exX;simp
 rw[e1];exact hs.fin 0 rfl _)
end
structure hZS (d:D)(most:Nat):Prop where
 m:most≤32
 p:bZ9 (D.per d:Int)=true
 fit:Lay.bZj most (D.per d)≤d.sec
theorem hZS.on {d:D}{most:Nat}(h:hZS d most)(hok:Ok d){i k:Nat}(hi:i<4)(hk:k≤most):On d (exX most (D.per d) i k):=by
 have h1:=(Ok.per_le hok).1;have h2:=hZ0 (p:=D.per d) hk;have h3:=h.fit;have h4:=jZW (k:=k) (p:=D.per d) (by omega);have h5:=Nat.two_pow_pos k;unfold Lay.bZj at h3;have h6:i*Lay.Zx most (D.per d)≤3*Lay.Zx most (D.per d):=Nat.mul_le_mul_right _ (by omega);exact⟨h5,Nat.le_add_left 1 ((2^k-1)/D.per d),by show 9+i*Lay.Zx most (D.per d)+Lay.Zx k (D.per d)≤d.sec;omega,h4⟩
theorem hZS.prog {d d':D}{most:Nat}(h:hZS d most)(h1:d'.sec=d.sec)(h2:d'.size=d.size):hZS d' most:=by
 have e:D.per d'=D.per d:=by unfold D.per;rw[h2]
 exact⟨h.m,by rw[e];exact h.p,by rw[e,h1];exact h.fit⟩
theorem rZr {most per i j k:Nat}(hk:k≤most)(hij:i≠j):(exX most per i k).f+(exX most per i k).s≤(exX most per j k).f∨(exX most per j k).f+(exX most per j k).s≤(exX most per i k).f:=by
 have h2:=hZ0 (p:=per) hk;show 9+i*Lay.Zx most per+Lay.Zx k per≤9+j*Lay.Zx most per∨9+j*Lay.Zx most per+Lay.Zx k per≤9+i*Lay.Zx most per
 rcases Nat.lt_or_gt_of_ne hij with h|h
 ·left;have:(i+1)*Lay.Zx most per≤j*Lay.Zx most per:=Nat.mul_le_mul_right _ h;rw[Nat.succ_mul]at this;omega
 ·right;have:(j+1)*Lay.Zx most per≤i*Lay.Zx most per:=Nat.mul_le_mul_right _ h;rw[Nat.succ_mul]at this;omega
section
variable {dp ap : Nat} {d : D} {most : Nat} (hok : Ok d) (hl : hZS d most)
include hok hl
theorem jZI {i k:Nat}(hi:i<4)(hk:k≤most):Tr prog 82 #[.pointer (some ⟨dp,0,none⟩),.pointer (some ⟨ap,0,none⟩),.agg (Lay.bZk most (D.per d)),.int .i64 (i:Int),.int .i64 (k:Int)] [Dk dp d] fun v M=>
  ∃ p,v= .tuple #[.pointer (some ⟨p,0,none⟩),.int .i64 0]∧M=[Dk dp d,pts p (ZI dp ap (exX most (D.per d) i k))]:=fun H hs=>by
 apply gZu.ok;unfold gZu;refine hs.nw fun b1 H hs=>?_
 refine hs.ldw 1 rfl rfl ?_;rw[Array.toArray_toList];refine Za.use (iZ0 hl.m hl.p hi hk H) ?_
 try simp only[HV]
 refine hs.nw fun b2 H hs=>?_
 refine hs.stw 2 rfl rfl rfl rfl fun H hs=>?_;refine Zq rfl ?_;refine hs.ldw 2 rfl rfl ?_;refine(dZS (dp:=dp) (ap:=ap) hok (exX most (D.per d) i k) (hl.on hok hi hk)).use hs [0] rfl rfl ?_;rintro _ _ H ⟨p,rfl,rfl⟩ hs;simp only[HV];exact⟨_,⟨p,rfl,rfl⟩,hs.re [0,1] rfl⟩
theorem uZU {pz:Pz}{k:Nat}(hf:pz.f<4)(ho:pz.o<4)(hk:k≤most):Tr prog 87 #[.pointer (some ⟨dp,0,none⟩),.pointer (some ⟨ap,0,none⟩),.agg (Lay.bZk most (D.per d)),.int .i64 (k:Int),.agg pz.c] [Dk dp d] fun v M=>
  ∃ p q,v= .tuple #[.pointer (some ⟨p,0,none⟩),.pointer (some ⟨q,0,none⟩),.int .i64 0]∧M=[Dk dp d,pts p (ZI dp ap (exX most (D.per d) pz.f k)),pts q (ZI dp ap (exX most (D.per d) pz.o k))]:=fun H hs=>by
 apply gZv.ok;unfold gZv;refine hs.nw fun b1 H hs=>?_
 refine hs.nw fun b2 H hs=>?_
 refine hs.ldw 1 rfl rfl ?_;rw[Array.toArray_toList];refine hs.ldf 2 (v:=.int .i64 (pz.f:Int)) rfl rfl ?_;simp only[HV];refine(jZI (dp:=dp) (ap:=ap) hok hl hf hk).use hs [0] rfl rfl ?_;rintro _ _ H ⟨p,rfl,rfl⟩ hs;simp only[HV];refine ZT rfl ?_;refine hs.ldw 2 rfl rfl ?_;rw[Array.toArray_toList];refine hs.ldf 3 (v:=.int .i64 (pz.o:Int)) rfl rfl ?_;simp only[HV];refine(jZI (dp:=dp) (ap:=ap) hok hl ho hk).use hs [0] rfl rfl ?_;rintro _ _ H ⟨q,rfl,rfl⟩ hs;simp only[HV];exact⟨_,⟨p,q,rfl,rfl⟩,hs.re [0,2,1] rfl⟩
end
end Eng
end Go.Proofs.YtgfildcgihbdaaaGreatDoor
