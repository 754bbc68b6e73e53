import Derived.Test.YtahjgjaenegpgaaGreatDoorProg
import Derived.Test.YtahjgjaenegpgaaGreatDoorPkEngineSolves7
set_option maxRecDepth 100000
set_option linter.unusedSimpArgs false
set_option linter.unusedVariables false
set_option linter.unnecessarySimpa false
set_option linter.unusedSectionVars false
namespace Go.Proofs.YtahjgjaenegpgaaGreatDoor
open Tryz (prog)
namespace Sup
open Go Go.Hw Go.Form W Lay
theorem iZa (A:Option Addr)(n m:Nat)(H:Hp):Zc prog 102 #[.slice A n m] H (RetE (.bool (decide (0<aZL n))) H):=by
 apply eZ4.ok;unfold eZ4;refine Zc.use (jZN 0 n H) ?_
 try simp only[HV]
 unfold gZF;by_cases h:0<aZL n
 ·rw[if_pos (by omega)];exact RetE.of (by simp[h])
 ·rw[if_neg (by omega)];exact RetE.of (by simp[h])
def iZv (bs:List UInt8):Bool:=(bs.drop 32).all (· ==0)
theorem wZ8 (b:UInt8):((b.toNat:Int) !=0)= !(b==0):=by
 by_cases h:b=0
 ·subst h;rfl
 ·have:b.toNat≠0:=fun e=>h (UInt8.toNat_inj.1 (by rw[e];rfl))
  have h2:(b==0)=false:=by simpa using h
  rw[h2];simp;omega
theorem kZc (K:Value→Hp→Prop)(A:Option Addr)(n m:Nat)(bs:List UInt8)(hn:n=bs.length)(hm:n≤9000000000000000000)(H:Hp)(hb:Cells H A (Zx bs))(r:Bool)(hK:K (.bool (bs.all (· ==0))) H):∀ d j:Nat,j+d=n→(bs.take j).all (· ==0)=true→
  aZQ.l2 K (d+1) A n m (n:Int) (j:Int) H
 |0,j,hj,h0=>by
  unfold aZQ.l2;refine Zm (by omega) ?_;rw[List.take_of_length_le (by omega)]at h0;rw[h0]at hK;exact hK
 |d+1,j,hj,h0=>by
  unfold aZQ.l2;refine Zw (by omega) ?_;have hlt:j<bs.length:=by omega
  refine hb.read (i:=j) (v:=.int .u8 (bs[j].toNat:Int)) (by rw[hZF,List.getElem?_eq_getElem hlt];rfl) rfl (by rw[ZT];omega) ?_;simp only[HV];rw[wZ8];by_cases h:bs[j]=0
  ·refine aZu (by simp[h]) ?_;rw[ZV (by omega) (by omega)];refine kZc K A n m bs hn hm H hb r hK d (j+1) (by omega) ?_;rw[List.take_succ_eq_append_getElem hlt,List.all_append,h0];simp[h]
  ·refine aZN (by simp[h]) ?_;have:bs.all (· ==0)=false:=by
    rw[List.all_eq_false];exact⟨bs[j],List.getElem_mem hlt,by simpa using h⟩
   rw[this]at hK;exact hK
theorem rZA (A:Option Addr)(n m:Nat)(hnm:n≤m)(bs:List UInt8)(hn:n=bs.length)(h32:32≤n)(hm:n≤9000000000000000000)(H:Hp)(hb:Cells H A (Zx bs)):
  Zc prog 104 #[.slice A n m] H (RetE (.bool (iZv bs)) H):=by
 apply aZQ.ok;unfold aZQ;refine⟨by omega,by omega,n-32+1,?_⟩;have h1:=hb.shift (m:=m) (l:=32) (by rw[ZT];omega);rw[show(Zx bs).drop 32=Zx (bs.drop 32) by unfold Zx;rw[List.map_drop]]at h1;exact kZc _ _ (n-32) (m-32) (bs.drop 32) (by simp;omega) (by omega) H h1 true (RetE.mk _ _) (n-32) 0 (by omega) rfl
abbrev Sb :=Int×Int×Int×Int
def sbV (x:Sb):Array Value:=bZX x.1 x.2.1 x.2.2.1 x.2.2.2
def lZ4 (a b c:Nat):Nat:=(Go.Crc.sum (form [UInt64.ofNat a,UInt64.ofNat b,UInt64.ofNat c])).toNat
def eZI (bs:List UInt8):Sb:=(((ZC bs 0/65536%65536:Nat):Int),IntKind.i64.wrap (ZC bs 8:Nat),((bs.length:Nat):Int),IntKind.i64.wrap (ZC bs 16:Nat))
def bZc (bs:List UInt8):Sb×Int:=
 if aZL bs.length=0 then((0,0,0,0),15)
 else if ZC bs 0/4294967296≠1094861123∨iZv bs=false then((0,0,0,0),10)
 else if ZC bs 24≠lZ4 (ZC bs 0) (ZC bs 8) (ZC bs 16)then((0,0,0,0),9)
 else if bZz (eZI bs).1 (eZI bs).2.1 (eZI bs).2.2.1 (eZI bs).2.2.2=true∧((ZC bs 0%65536:Nat):Int)=cZG bs.length then(eZI bs,0)
 else((0,0,0,0),1)
theorem sZN (bs:List UInt8):([.int .u64 (ZC bs 0:Nat),.int .u64 (ZC bs 8:Nat),.int .u64 (ZC bs 16:Nat)]:List Value)=Zd [UInt64.ofNat (ZC bs 0),UInt64.ofNat (ZC bs 8),UInt64.ofNat (ZC bs 16)]:=by
 unfold Zd;simp only[List.map_cons,List.map_nil];rw[eZY (cZ6 bs 0),eZY (cZ6 bs 8),eZY (cZ6 bs 16)]
theorem uZX (a b c:Nat):lZ4 a b c<2^32:=(Go.Crc.sum _).isLt
theorem oZp {n:Int}(h:0<aZL n):n=((2^(cZG n).toNat:Nat):Int)∧5≤cZG n∧cZG n≤12:=by
 unfold aZL at h;unfold cZG
 repeat' split
 all_goals first|(subst_vars;refine⟨by decide,by decide,by decide⟩)|skip
 repeat' split at h
 all_goals omega
theorem sZz {t:Nat}(h:t≤62):aZY .i64 1 (t:Int)=((2^t:Nat):Int):=gZB h
theorem tZw {a:Nat}(ha:a<2^64)(hm:a/4294967296=1094861123){sec ar:Int}{n:Int}(hn:0<aZL n):
  (bZz ((a/65536%65536:Nat):Int) sec (aZY .i64 1 ((a%64:Nat):Int)) ar=true∧bZF (a/65536%65536) (aZY .i64 1 ((a%64:Nat):Int))=a∧aZY .i64 1 ((a%64:Nat):Int)=n)↔
   (bZz ((a/65536%65536:Nat):Int) sec n ar=true∧((a%65536:Nat):Int)=cZG n):=by
 obtain⟨h1,h2,h3⟩:=oZp hn;constructor
 ·rintro⟨g1,g2,g3⟩;rw[g3]at g1 g2;refine⟨g1,?_⟩;unfold bZF at g2;omega
 ·rintro⟨g1,g2⟩;obtain⟨t,ht⟩:=Int.eq_ofNat_of_zero_le (show 0≤cZG n by omega);have h64:a%64=t:=by omega
  have hv:aZY .i64 1 ((a%64:Nat):Int)=n:=by
   rw[h64,sZz (by omega),h1,ht];rfl
  rw[hv];refine⟨g1,?_,rfl⟩;unfold bZF;rw[ht]at g2⊢;have:(Int.toNat (t:Int))=t:=Int.toNat_natCast t;rw[this];omega
theorem hZv (K:Value→Hp→Prop)(d b1 b2:Nat)(A:Option Addr)(n m:Nat)(hnm:n≤m)(hm:n≤9000000000000000000)(bs:List UInt8)(hn:n=bs.length)(h32:32≤n)(H0 H:Hp)(hb:Cells H0 A (Zx bs))(c:Array Value)(hc:c.size=4)(z:Array Value)(e1 e2:TypeId)(i:Nat)(hi:i<4)
  (hs:Sep [own H0,pts b1 (.obj (.cells z e1)),pts b2 (.obj (.cells c e2))] H)
  (k:∀ H,Sep [own H0,pts b1 (.obj (.cells z e1)),pts b2 (.obj (.cells (c.setIfInBounds i (.int .u64 (ZC bs (8*i):Nat))) e2))] H→aZA.l5 K d A n m ⟨b1,0,none⟩ ⟨b2,0,none⟩ ((i+1:Nat):Int) H):
  aZA.l5 K (d+1) A n m ⟨b1,0,none⟩ ⟨b2,0,none⟩ (i:Int) H:=by
 conv=>unfold aZA.l5 aZA.l5.q1
 refine Zw (by omega) ?_;refine Zc.use (FormP.Word_ok A n m hnm hm bs hn i (by omega) H (hb.le (hs.ow 0 rfl))) ?_
 try simp only[HV]
 refine hs.stx 2 rfl (j:=i) rfl hi (by omega) rfl fun H hs=>?_;rw[ZV (x:=(i:Int)+1) (by omega) (by omega)];exact k H hs
theorem fZR (K:Value→Hp→Prop){L:List As}{H:Hp}(hs:Sep L H){b1:Nat}{z:Array Value}{e1:TypeId}(i:Nat)(hi:L[i]? =some (pts b1 (.obj (.cells z e1))))(hz:z.size=4)(e:Int)(y:Array Value)(hy:y.size=4)(hv:y.toList.all (fun v=>v.oneCell')=true)
  (hK:∀ H,Sep (L.set i (pts b1 (.obj (.cells y e1)))) H→K (.tuple #[.agg y,.int .i64 e]) H):StA H (⟨b1,0,none⟩:Addr) y 4 fun H3=>LdA H3 (⟨b1,0,none⟩:Addr) 4 fun l7=>K (.tuple #[.agg l7.toArray,.int .i64 e]) H3:=by
 refine hs.stw i hi hz hy hv fun H hs=>?_;have hlt:=(List.getElem?_eq_some_iff.1 hi).1;refine hs.ldw i (b:=b1) (c:=y) (e:=e1) (by rw[List.getElem?_set];simp[hlt]) hy ?_;rw[Array.toArray_toList];exact hK H hs
theorem iZo (A:Option Addr)(n m:Nat)(hnm:n≤m)(hm:n≤9000000000000000000)(bs:List UInt8)(hn:n=bs.length)(H:Hp)(hb:Cells H A (Zx bs)):
  Zc prog 71 #[.slice A n m] H (RetE (.tuple #[.agg (sbV (bZc bs).1),.int .i64 (bZc bs).2]) H):=by
 apply Zc.ret;apply aZA.ok;unfold aZA;refine(Sep.start H).nw fun b1 H' hs=>?_
 have fin:∀{L:List As} {H':Hp} (x:Sb) (e:Int),Sep L H'→L[0]? =some (own H)→bZc bs=(x,e)→Ret (.tuple #[.agg (sbV (bZc bs).1),.int .i64 (bZc bs).2]) H (.tuple #[.agg (sbV x),.int .i64 e]) H':=fun x e hs h0 he=>by
  rw[he];exact hs.fin 0 h0 _
 refine Zc.use (iZa A n m H') ?_
 try simp only[HV]
 by_cases hp:aZL (n:Int)=0
 ·refine aZN (by simp;omega) ?_;refine fZR _ hs 1 rfl rfl 15 _ rfl rfl fun H' hs=>fin (0,0,0,0) 15 hs rfl ?_
  unfold bZc;rw[← hn,if_pos hp]
 refine aZu (by simp;omega) ?_;refine hs.nw fun b2 H' hs=>?_
 have hp':0<aZL (n:Int):=by omega
 have h32:32≤n:=by
  obtain⟨h1,h2,h3⟩:=oZp hp';have:2^5≤2^(cZG n).toNat:=Nat.pow_le_pow_right (by omega) (by omega);omega
 refine⟨5,?_⟩;refine hZv _ 4 b1 b2 A n m hnm hm bs hn h32 H H' hb _ rfl _ _ _ 0 (by omega) hs fun H' hs=>?_
 refine hZv _ 3 b1 b2 A n m hnm hm bs hn h32 H H' hb _ rfl _ _ _ 1 (by omega) hs fun H' hs=>?_
 refine hZv _ 2 b1 b2 A n m hnm hm bs hn h32 H H' hb _ rfl _ _ _ 2 (by omega) hs fun H' hs=>?_
 refine hZv _ 1 b1 b2 A n m hnm hm bs hn h32 H H' hb _ rfl _ _ _ 3 (by omega) hs fun H' hs=>?_
 have hs:Sep [own H,pts b1 (.obj (.cells #[.int .i64 0,.int .i64 0,.int .i64 0,.int .i64 0] 30)),pts b2 (.obj (.cells #[.int .u64 (ZC bs 0:Nat),.int .u64 (ZC bs 8:Nat),.int .u64 (ZC bs 16:Nat),.int .u64 (ZC bs 24:Nat)] 184))] H':=hs;have w0:=cZ6 bs 0;unfold aZA.l5 aZA.l5.q1;refine Zm (by omega) ?_;refine hs.ldx 2 rfl (j:=0) rfl (by omega) rfl ?_;simp only[HV];refine⟨by omega,?_⟩;refine hs.ldx 2 rfl (j:=0) rfl (by omega) rfl ?_;simp only[HV];rw[show aZF .u64 ((ZC bs 0:Nat):Int) 63=((ZC bs 0%64:Nat):Int) by rw[show(63:Int)=((63:Nat):Int)from rfl,lZ3 w0 (by omega),Nat.and_two_pow_sub_one_eq_mod _ 6]];refine⟨by omega,?_⟩;refine hs.ldx 2 rfl (j:=1) rfl (by omega) rfl ?_;simp only[HV];refine hs.ldx 2 rfl (j:=2) rfl (by omega) rfl ?_;simp only[HV];refine hs.nw fun b3 H' hs=>?_
 refine hs.stw 3 rfl rfl rfl rfl fun H' hs=>?_
 have e16:IntKind.i64.wrap (aZF .u64 (aZE .u64 ((ZC bs 0:Nat):Int) 16) 65535)=((ZC bs 0/65536%65536:Nat):Int):=by
  rw[hZP (i:=(16:Int)) (n:=16) rfl (by decide),show(65535:Int)=((65535:Nat):Int)from rfl,lZ3 (by omega) (by omega),Nat.and_two_pow_sub_one_eq_mod _ 16,bZi (by omega)]
 rw[e16]at hs;refine hs.ldx 2 rfl (j:=0) rfl (by omega) rfl ?_;simp only[HV];refine⟨by omega,?_⟩;rw[hZP (i:=(32:Int)) (n:=32) rfl (by decide)];by_cases hmg:ZC bs 0/4294967296=1094861123
 ·refine ZB (by omega) ?_;refine Zc.use (rZA A n m hnm bs hn h32 (by omega) H' (hb.le (hs.ow 0 rfl))) ?_
  try simp only[HV]
  by_cases hz:iZv bs=true
  ·refine aZu (by simp[hz]) ?_;refine hs.ldx 2 rfl (j:=3) rfl (by omega) rfl ?_;simp only[HV];refine⟨by omega,by omega,?_⟩;have hc3:=Cells.obj (hs.get 2 (b:=b2) (o:=.obj (.cells #[.int .u64 (ZC bs 0:Nat),.int .u64 (ZC bs 8:Nat),.int .u64 (ZC bs 16:Nat),.int .u64 (ZC bs 24:Nat)] 184)) rfl) 3;have hc3:Cells H' (some ⟨b2,0,none⟩) (Zd [UInt64.ofNat (ZC bs 0),UInt64.ofNat (ZC bs 8),UInt64.ofNat (ZC bs 16)]):=by
    rw[← sZN];exact hc3
   refine aZc.use (CrcP.iZI (some ⟨b2,0,none⟩) 3 4 _ rfl (by omega) H' hc3) ?_;simp only[HV];have hcl:=uZX (ZC bs 0) (ZC bs 8) (ZC bs 16);rw[show(Go.Crc.sum (form [UInt64.ofNat (ZC bs 0),UInt64.ofNat (ZC bs 8),UInt64.ofNat (ZC bs 16)])).toNat=lZ4 (ZC bs 0) (ZC bs 8) (ZC bs 16)from rfl,bZ1 (by omega)];by_cases hcr:ZC bs 24=lZ4 (ZC bs 0) (ZC bs 8) (ZC bs 16)
   ·refine ZB (by omega) ?_;refine hs.ldw 3 rfl rfl ?_;have hiff:=tZw w0 hmg (sec:=IntKind.i64.wrap (ZC bs 8:Nat)) (ar:=IntKind.i64.wrap (ZC bs 16:Nat)) hp';have hno:¬(bZz (eZI bs).1 (eZI bs).2.1 (eZI bs).2.2.1 (eZI bs).2.2.2=true∧((ZC bs 0%65536:Nat):Int)=cZG bs.length)→bZc bs=((0,0,0,0),1):=fun h=>by
     unfold bZc;rw[← hn,if_neg (by omega),if_neg (by simp[hmg,hz]),if_neg (by simp[hcr]),if_neg (by rw[hn];exact h)]
    have hyes:(bZz (eZI bs).1 (eZI bs).2.1 (eZI bs).2.2.1 (eZI bs).2.2.2=true∧((ZC bs 0%65536:Nat):Int)=cZG bs.length)→bZc bs=(eZI bs,0):=fun h=>by
     unfold bZc;rw[← hn,if_neg (by omega),if_neg (by simp[hmg,hz]),if_neg (by simp[hcr]),if_pos (by rw[hn];exact h)]
    have hsb:eZI bs=(((ZC bs 0/65536%65536:Nat):Int),IntKind.i64.wrap (ZC bs 8:Nat),(n:Int),IntKind.i64.wrap (ZC bs 16:Nat)):=by unfold eZI;rw[hn]
    rw[hsb]at hno hyes;simp only at hno hyes;rw[← hn]at hno hyes;rw[← hiff]at hno hyes;refine aZc.use (bZZ ((ZC bs 0/65536%65536:Nat):Int) (IntKind.i64.wrap (ZC bs 8:Nat)) (aZY .i64 1 ((ZC bs 0%64:Nat):Int)) (IntKind.i64.wrap (ZC bs 16:Nat)) H') ?_;simp only[HV];by_cases hg:bZz ((ZC bs 0/65536%65536:Nat):Int) (IntKind.i64.wrap (ZC bs 8:Nat)) (aZY .i64 1 ((ZC bs 0%64:Nat):Int)) (IntKind.i64.wrap (ZC bs 16:Nat))=true
    ·refine aZu (by rw[hg];rfl) ?_;refine hs.ldw 3 rfl rfl ?_;have hg2:=hg;unfold bZz at hg2;simp only[decide_eq_true_eq]at hg2;refine aZc.use (nZ9 (ZC bs 0/65536%65536) (IntKind.i64.wrap (ZC bs 8:Nat)) (aZY .i64 1 ((ZC bs 0%64:Nat):Int)) (IntKind.i64.wrap (ZC bs 16:Nat)) (by omega) hg2.2.2.1 H') ?_;simp only[HV];have hf64:bZF (ZC bs 0/65536%65536) (aZY .i64 1 ((ZC bs 0%64:Nat):Int))<2^64:=by
      have:=rZ6 (aZY .i64 1 ((ZC bs 0%64:Nat):Int));unfold bZF;omega
     rw[eZY hf64];refine hs.ldx 2 rfl (j:=0) rfl (by omega) rfl ?_;simp only[HV];by_cases hf:bZF (ZC bs 0/65536%65536) (aZY .i64 1 ((ZC bs 0%64:Nat):Int))=ZC bs 0
     ·refine ZB (by omega) ?_;simp only[HS];refine hs.ld 3 rfl rfl ?_;simp only[HV];by_cases hv:aZY .i64 1 ((ZC bs 0%64:Nat):Int)=(n:Int)
      ·refine ZB hv ?_;refine hs.ldw 3 rfl rfl ?_;have hy:=hyes ⟨hg,hf,hv⟩;rw[hv];refine fZR _ hs 1 rfl rfl 0 _ rfl rfl fun H' hs=>fin _ 0 hs rfl hy
      ·refine ZK hv ?_;refine fZR _ hs 1 rfl rfl 1 _ rfl rfl fun H' hs=>fin (0,0,0,0) 1 hs rfl (hno fun h=>hv h.2.2)
     ·refine ZK (by omega) ?_;refine fZR _ hs 1 rfl rfl 1 _ rfl rfl fun H' hs=>fin (0,0,0,0) 1 hs rfl (hno fun h=>hf h.2.1)
    ·refine aZN (by rw[Bool.not_eq_true]at hg;rw[hg];rfl) ?_;refine fZR _ hs 1 rfl rfl 1 _ rfl rfl fun H' hs=>fin (0,0,0,0) 1 hs rfl (hno fun h=>hg h.1)
   ·refine ZK (by omega) ?_;refine fZR _ hs 1 rfl rfl 9 _ rfl rfl fun H' hs=>fin (0,0,0,0) 9 hs rfl ?_
    unfold bZc;rw[← hn,if_neg (by omega),if_neg (by simp[hmg,hz]),if_pos hcr]
  ·refine aZN (by simp[hz]) ?_;refine fZR _ hs 1 rfl rfl 10 _ rfl rfl fun H' hs=>fin (0,0,0,0) 10 hs rfl ?_
   unfold bZc;rw[← hn,if_neg (by omega),if_pos (.inr (by simpa using hz))]
 ·refine ZK (by omega) ?_;refine fZR _ hs 1 rfl rfl 10 _ rfl rfl fun H' hs=>fin (0,0,0,0) 10 hs rfl ?_
  unfold bZc;rw[← hn,if_neg (by omega),if_pos (.inl hmg)]
theorem rZk (k sec s ar:Int)(H:Hp):Zc prog 73 #[.agg (bZX k sec s ar)] H (RetE (if bZz k sec s ar=true then .tuple #[.agg (dZh k.toNat (aZL s)),.int .i64 0]else .tuple #[.agg oZj,.int .i64 1]) H):=by
 apply Zc.ret;apply eZ3.ok;unfold eZ3;simp only[HS];refine(Sep.start H).nw fun b1 H' hs=>?_
 refine hs.nw fun b2 H' hs=>?_
 first|refine hs.ldw 1 rfl rfl ?_|refine hs.ldw 2 rfl rfl ?_|refine hs.ldw 3 rfl rfl ?_|refine hs.ldw 4 rfl rfl ?_|refine hs.ldw 5 rfl rfl ?_|refine hs.ldw 6 rfl rfl ?_|refine hs.ldw 7 rfl rfl ?_|refine hs.ldw 8 rfl rfl ?_
 try simp only[HV]
 refine Zc.use (bZZ k sec s ar H') ?_
 try simp only[HV]
 by_cases h:bZz k sec s ar=true
 ·rw[if_pos h,h];simp only[HV];have hg:=h;unfold bZz at hg;simp only[decide_eq_true_eq]at hg
  first|refine hs.ld 1 rfl rfl ?_|refine hs.ld 2 rfl rfl ?_|refine hs.ld 3 rfl rfl ?_|refine hs.ld 4 rfl rfl ?_|refine hs.ld 5 rfl rfl ?_|refine hs.ld 6 rfl rfl ?_|refine hs.ld 7 rfl rfl ?_|refine hs.ld 8 rfl rfl ?_
  try simp only[HV]
  first|refine hs.ld 1 rfl rfl ?_|refine hs.ld 2 rfl rfl ?_|refine hs.ld 3 rfl rfl ?_|refine hs.ld 4 rfl rfl ?_|refine hs.ld 5 rfl rfl ?_|refine hs.ld 6 rfl rfl ?_|refine hs.ld 7 rfl rfl ?_|refine hs.ld 8 rfl rfl ?_
  try simp only[HV]
  first|refine hs.ld 1 rfl rfl ?_|refine hs.ld 2 rfl rfl ?_|refine hs.ld 3 rfl rfl ?_|refine hs.ld 4 rfl rfl ?_|refine hs.ld 5 rfl rfl ?_|refine hs.ld 6 rfl rfl ?_|refine hs.ld 7 rfl rfl ?_|refine hs.ld 8 rfl rfl ?_
  try simp only[HV]
  refine Zc.use (eZJ k sec s H') ?_
  try simp only[HV]
  have:OfV k sec s=(dZh k.toNat (aZL s),0):=by unfold OfV;rw[if_pos (by omega),if_neg (by omega)]
  rw[this];refine hs.stw 2 rfl rfl rfl rfl fun H' hs=>?_
  refine hs.ldw 2 rfl rfl ?_;exact hs.fin 0 rfl _
 ·rw[Bool.not_eq_true]at h;rw[if_neg (by rw[h];simp),h];simp only[HV];refine hs.stw 2 rfl rfl rfl rfl fun H' hs=>?_
  refine hs.ldw 2 rfl rfl ?_;exact hs.fin 0 rfl _
end Sup
namespace Sup
open Go Go.Hw Go.Form W Lay Dsk
theorem kZK :∀ n,leN (List.replicate n 0)=0
 |0=>rfl
 |n+1=>by
  rw[List.replicate_succ];show(0:UInt8).toNat+256*leN (List.replicate n 0)=0
  rw[kZK n];rfl
theorem qZ0 (s:Nat)(hs:0<aZL s):bZc (List.replicate s 0)=((0,0,0,0),10):=by
 unfold bZc;rw[List.length_replicate,if_neg (by omega),if_pos];left;have:ZC (List.replicate s 0) 0=0:=by
  unfold ZC;rw[List.drop_zero,List.take_replicate,kZK]
 rw[this];decide
def ofB (d:D)(sec s:Int):Bool:=decide (sec=d.sec∧s=d.size)
theorem nZF {L:List As}{H:Hp}{p:Nat}{d:D}(hs0:Sep L H)(i:Nat)(hi:L[i]? =some (Dk p d))(k sec s ar:Int):Zc prog 72 #[.pointer (some ⟨p,0,none⟩),.agg (bZX k sec s ar)] H (RetE (.bool (ofB d sec s)) H):=by
 apply Zc.ret;apply hZk.ok;unfold hZk;refine(Sep.start H).nw fun b1 H' hs=>?_
 have hle:=hs.ow 0 rfl;refine hs.ld 1 rfl rfl ?_;simp only[HV]
 try simp only[HS]
 refine aZc.use (eZN (hs0.up hle) i hi) ?_;simp only[HV];by_cases h1:sec=d.sec
 ·refine aZb h1 (hs.ld 1 rfl rfl ?_);simp only[HV]
  try simp only[HS]
  refine aZc.use (hZC (hs0.up hle) i hi) ?_;simp only[HV];have e:(s==(d.size:Int))=ofB d sec s:=by
   unfold ofB;by_cases h2:s=d.size
   ·simp[h1,h2]
   ·simp[h2]
  rw[e];exact hs.fin 0 rfl _
 ·refine aZm h1 ?_;have e:ofB d sec s=false:=by unfold ofB;simp[h1]
  rw[e];exact hs.fin 0 rfl _
def wrV (d:D)(k sec s ar:Int):Int×D:=
 if bZz k sec s ar=false∨ofB d sec s=false then(1,d)
 else if d.writeE 0 s.toNat≠0 then(d.writeE 0 s.toNat,d.writeD 0 (bZ5 k sec s ar))
 else((d.writeD 0 (bZ5 k sec s ar)).syncE,(d.writeD 0 (bZ5 k sec s ar)).syncD)
theorem sZx {p:Nat}{d:D}(hok:Ok d)(hb:d.wr≤1000000∧d.sy≤1000000)(k sec s ar:Int)(hsec:sec≤9223372036854775807):
  Tr prog 58 #[.pointer (some ⟨p,0,none⟩),.agg (bZX k sec s ar)] [Dk p d] fun v M=>v= .int .i64 (wrV d k sec s ar).1∧M=[Dk p (wrV d k sec s ar).2]:=fun H hs=>by
 apply fZB.ok;unfold fZB;refine hs.nw fun b1 H hs=>?_
 refine hs.ldw 1 rfl rfl ?_;cases hg:bZz k sec s ar with
 |false=>
  refine Zc.use (nZU k sec s ar hg H) ?_;simp only[HV];have e:wrV d k sec s ar=(1,d):=by unfold wrV;rw[if_pos (.inl hg)]
  rw[e];exact ZK (by omega) ⟨_,⟨rfl,rfl⟩,hs.re [0] rfl⟩
 |true=>
  refine(Put_ok k sec s ar hg hsec).use hs [] rfl rfl ?_;rintro _ _ H ⟨b,rfl,rfl⟩ hs;simp only[HV];refine ZB rfl ?_;have hs:Sep [pts b (.row (Zx (bZ5 k sec s ar)) 5 s.toNat),Dk p d,pts b1 (.obj (.cells (bZX k sec s ar) 30))] H:=hs;refine hs.ldw 2 rfl rfl ?_;refine Zc.use (nZF hs 1 rfl k sec s ar) ?_;simp only[HV];cases ho:ofB d sec s with
  |false=>
   have e:wrV d k sec s ar=(1,d):=by unfold wrV;rw[if_pos (.inr ho)]
   rw[e];exact aZN rfl ⟨_,⟨rfl,rfl⟩,hs.re [1] rfl⟩
  |true=>
   refine aZu rfl ?_;have hper:0<aZL s:=by
    unfold bZz at hg;simp only[decide_eq_true_eq]at hg;exact hg.2.2.1
   have hl:=iZZ k sec s ar hper;refine(eZn (p:=p) (d:=d) hok (by omega) 0 (some ⟨b,0,none⟩) s.toNat s.toNat (bZ5 k sec s ar) (by omega) (pts b (.row (Zx (bZ5 k sec s ar)) 5 s.toNat)) (fun H h=>?_)).use hs [1,0] rfl rfl ?_
   ·have:=Cells.row h 0 s.toNat;rw[List.drop_zero,List.take_of_length_le (by rw[ZT];omega)]at this;exact this
   rintro _ _ H ⟨rfl,rfl⟩ hs;simp only[HV];by_cases he:d.writeE 0 s.toNat=0
   ·refine ZB he ?_;have e:wrV d k sec s ar=((d.writeD 0 (bZ5 k sec s ar)).syncE,(d.writeD 0 (bZ5 k sec s ar)).syncD):=by
     unfold wrV;rw[if_neg (by rw[hg,ho];simp),if_neg (by rw[he];simp)]
    have hsy:(d.writeD 0 (bZ5 k sec s ar)).sy=d.sy:=by
     have hbr:=cZd d;unfold D.writeD;split
     ·rfl
     ·split
      ·rfl
      ·split
       ·exact hbr.2.2.1
       ·exact hbr.2.2.1
    refine(hZz (p:=p) (d:=d.writeD 0 (bZ5 k sec s ar)) (Ok.writeD hok 0 _) (by rw[hsy];omega)).use hs [0] rfl rfl ?_;rintro _ _ H ⟨rfl,rfl⟩ hs;simp only[HV];rw[e];exact⟨_,⟨rfl,rfl⟩,hs.re [0] rfl⟩
   ·have e:wrV d k sec s ar=(d.writeE 0 s.toNat,d.writeD 0 (bZ5 k sec s ar)):=by
     unfold wrV;rw[if_neg (by rw[hg,ho];simp),if_pos he]
    rw[e];exact ZK he ⟨_,⟨rfl,rfl⟩,hs.re [0] rfl⟩
def rdV (d:D)(bs:List UInt8):Sb×Int:=
 if(bZc bs).2≠0 then((0,0,0,0),(bZc bs).2)else if ofB d (bZc bs).1.2.1 (bZc bs).1.2.2.1=true then((bZc bs).1,0)else((0,0,0,0),1)
theorem tZQ {p:Nat}{d:D}(hok:Ok d)(ho:d.rd≤1000000)(hc:d.chk 0=0)(hb:d.burns=false):
  Tr prog 38 #[.pointer (some ⟨p,0,none⟩)] [Dk p d] fun v M=>v= .tuple #[.agg (sbV (rdV d (d.now 0)).1),.int .i64 (rdV d (d.now 0)).2]∧M=[Dk p { d.burnt with rd:=d.rd+1}]:=fun H hs=>by
 have hnow:=hok.now 0;have hsz:=hok.size;have hbr:=cZd d;apply eZc.ok;unfold eZc;refine hs.nw fun b1 H hs=>?_
 refine(jZP (p:=p) (d:=d) hok (by omega) 0).use hs [0] rfl rfl ?_;rintro _ _ H (⟨h,_⟩|⟨_,h,_⟩|⟨_,_,b,c,m,rfl,hcc,rfl⟩) hs
 ·exact absurd hc h
 ·rw[hb]at h;cases h
 ·simp only[HV];refine ZB rfl ?_;have hcell:Cells H (some ⟨b,0,none⟩) (Zx (d.now 0)):=by
   have:=Cells.row (hs.get 1 (b:=b) (o:=.row (Zx (d.now 0)) 5 m) rfl) 0 d.size;rw[List.drop_zero,List.take_of_length_le (by rw[ZT];omega)]at this;exact this
  refine Zc.use (iZo (some ⟨b,0,none⟩) d.size c hcc (by omega) (d.now 0) hnow.symm H hcell) ?_;simp only[HV];have hof:∀ x y,ofB { d.burnt with rd:=d.rd+1} x y=ofB d x y:=fun x y=>by
   unfold ofB;show decide (x=(d.burnt.sec:Int)∧y=(d.burnt.size:Int))=_
   rw[hbr.2.2.2.2.1,hbr.2.2.2.1]
  unfold rdV;generalize bZc (d.now 0)=tv at*;obtain⟨⟨k,sec,s,ar⟩,e⟩:=tv;have hs:Sep [Dk p { d.burnt with rd:=d.rd+1},pts b (.row (Zx (d.now 0)) 5 m),pts b1 (.obj (.cells (bZX 0 0 0 0) 30))] H:=hs;refine hs.nw fun b2 H hs=>?_
  refine hs.stw 3 (y:=bZX k sec s ar) rfl rfl rfl rfl fun H hs=>?_;have hs:Sep [Dk p { d.burnt with rd:=d.rd+1},pts b (.row (Zx (d.now 0)) 5 m),pts b1 (.obj (.cells (bZX 0 0 0 0) 30)),pts b2 (.obj (.cells (bZX k sec s ar) 30))] H:=hs;by_cases he:e=0
  ·refine ZB he ?_;refine hs.ldw 3 rfl rfl ?_;refine Zc.use (nZF hs 0 rfl k sec s ar) ?_;rw[hof];simp only[HV];cases hob:ofB d sec s with
   |false=>
    refine aZN rfl ?_;refine hs.stw 2 rfl rfl rfl rfl fun H hs=>?_;refine hs.ldw 2 rfl rfl ?_;refine⟨_,⟨?_,rfl⟩,hs.re [0] rfl⟩;rw[if_neg (by simpa using he),if_neg (by simp)];rfl
   |true=>
    refine aZu rfl ?_;refine hs.ldw 3 rfl rfl ?_;refine hs.stw 2 rfl rfl rfl rfl fun H hs=>?_;refine hs.ldw 2 rfl rfl ?_;refine⟨_,⟨?_,rfl⟩,hs.re [0] rfl⟩;rw[if_neg (by simpa using he),if_pos rfl];rfl
  ·refine ZK he ?_;refine hs.stw 2 rfl rfl rfl rfl fun H hs=>?_;refine hs.ldw 2 rfl rfl ?_;refine⟨_,⟨?_,rfl⟩,hs.re [0] rfl⟩;rw[if_pos (by simpa using he)];rfl
end Sup
namespace Eng
open Go Go.Hw Go.Form Dsk Str Rec Srt Rng Pln
structure Log (L:List R):Prop where
 u:∀ r∈L,r.u32
 g:∀ r∈L,r.good
 hd:∀ r,L[0]? =some r→r.s=1∧r.kd=1
 ch:∀ i a b,L[i]? =some a→L[i+1]? =some b→after a b
theorem Log.nil :Log []:=⟨fun _ h=>(by cases h),fun _ h=>(by cases h),fun _ h=>(by simp at h),fun _ _ _ h=>(by simp at h)⟩
theorem Log.snoc {L:List R}(h:Log L){r:R}(hg:r.good)(hu:r.u32)(hm:cZQ L.getLast? r=true):Log (L++[r]):=by
 refine⟨fun x hx=>?_,fun x hx=>?_,fun x hx=>?_,fun i a b ha hb=>?_⟩
 ·rcases List.mem_append.1 hx with h1|h1
  ·exact h.u x h1
  ·rw[List.mem_singleton.1 h1];exact hu
 ·rcases List.mem_append.1 hx with h1|h1
  ·exact h.g x h1
  ·rw[List.mem_singleton.1 h1];exact hg
 ·cases L with
  |nil=>
   have:r=x:=by simpa using hx
   subst this;exact of_decide_eq_true hm
  |cons y L=>exact h.hd x (by simpa using hx)
 ·have hb2:=hb;rw[List.getElem?_append]at ha hb;have hlt:=(List.getElem?_eq_some_iff.1 hb2).1;rw[List.length_append,List.length_singleton]at hlt;rw[if_pos (by omega)]at ha;by_cases e:i+1<L.length
  ·rw[if_pos e]at hb;exact h.ch i a b ha hb
  ·rw[if_neg e]at hb;have e2:i+1-L.length=0:=by omega
   rw[e2]at hb;have:r=b:=by simpa using hb
   subst this;have hl:L.getLast? =some a:=by rw[List.getLast?_eq_getElem?,show L.length-1=i by omega];exact ha
   rw[hl]at hm;exact of_decide_eq_true hm
theorem Log.init {L:List R}{r:R}(h:Log (L++[r])):Log L∧r.good∧r.u32∧cZQ L.getLast? r=true:=by
 refine⟨⟨fun x hx=>h.u x (List.mem_append_left _ hx),fun x hx=>h.g x (List.mem_append_left _ hx),fun x hx=>?_,fun i a b ha hb=>?_⟩,h.g r (by simp),h.u r (by simp),?_⟩
 ·exact h.hd x (by rw[List.getElem?_append_left (List.getElem?_eq_some_iff.1 hx).1];exact hx)
 ·exact h.ch i a b (by rw[List.getElem?_append_left (List.getElem?_eq_some_iff.1 ha).1];exact ha) (by rw[List.getElem?_append_left (List.getElem?_eq_some_iff.1 hb).1];exact hb)
 ·cases hl:L.getLast? with
  |none=>
   rw[List.getLast?_eq_none_iff]at hl;subst hl;exact decide_eq_true (h.hd r (by simp))
  |some a=>
   have hn:L≠ []:=fun e=>by rw[e]at hl;simp at hl
   have hp:=List.length_pos_iff.2 hn;rw[List.getLast?_eq_getElem?]at hl;refine decide_eq_true (h.ch (L.length-1) a r ?_ ?_)
   ·rw[List.getElem?_append_left (by omega)];exact hl
   ·rw[show L.length-1+1=L.length by omega,List.getElem?_append_right (Nat.le_refl _),Nat.sub_self];rfl
theorem Log.num {L:List R}(h:Log L):∀ i a,L[i]? =some a→a.s=i+1
 |0,a,ha=>(h.hd a ha).1
 |i+1,a,ha=>by
  have hlt:=(List.getElem?_eq_some_iff.1 ha).1;have hb:L[i]? =some L[i]:=List.getElem?_eq_getElem (by omega);have:=h.num i _ hb;have h2:=(h.ch i _ a hb ha).2.2.1;omega
theorem Log.last {L:List R}(h:Log L){r:R}(hr:L.getLast? =some r):r.good∧r.u32∧r.s=L.length:=by
 have hn:L≠ []:=fun e=>by rw[e]at hr;simp at hr
 have hp:=List.length_pos_iff.2 hn;have hm:r∈L:=List.mem_of_getLast? hr;rw[List.getLast?_eq_getElem?]at hr;have:=h.num _ _ hr;exact⟨h.g r hm,h.u r hm,by omega⟩
def lZI (size:Nat)(L:List R):Nat→List UInt8:=L.foldl (fun f r=>fun j=>if j=(r.s-1)%8 then r.form size else f j) (fun _=>List.replicate size 0)
theorem iZX (size:Nat)(L:List R)(r:R)(j:Nat):lZI size (L++[r]) j=if j=(r.s-1)%8 then r.form size else lZI size L j:=by
 unfold lZI;rw[List.foldl_append];rfl
def Ring (size:Nat)(L:List R)(c:Cn):Prop:=∀ i,i<8→c ((1+i:Nat):Int)=lZI size L i
theorem sZM (c:Cn)(k:Nat)(a b:List UInt8):bZE (bZE c k a) k b=bZE c k b:=funext fun i=>by
 unfold bZE;split<;>rfl
theorem vZJ (c:Cn)(k:Nat):bZE c k (c k)=c:=funext fun i=>by
 unfold bZE;split
 ·rename_i h;rw[h]
 ·rfl
theorem jZ7 (c:Cn)(k:Nat)(b:List UInt8):bZE c k b k=b:=if_pos rfl
theorem iZC (c:Cn){k:Nat}(b:List UInt8){i:Int}(h:i≠k):bZE c k b i=c i:=if_neg h
theorem Ring.upd {size:Nat}{L:List R}{c:Cn}(h:Ring size L c)(r:R):Ring size (L++[r]) (bZE c (aZ2 1 8 r.s) (r.form size)):=fun i hi=>by
 rw[iZX];unfold aZ2;by_cases e:i=(r.s-1)%8
 ·rw[if_pos e,e,jZ7]
 ·rw[if_neg e,iZC _ _ (by omega)];exact h i hi
theorem qZQ {size:Nat}(hs:secB (size:Int)=true):(bZc (List.replicate size 0)).2≠0:=by
 unfold Rec.bZc;rw[List.length_replicate,if_pos hs,if_neg]
 ·decide
 ·intro h;have:ZC (List.replicate size 0) 0=0:=by
   unfold ZC;rw[List.drop_zero,List.take_replicate,Sup.kZK]
  rw[this]at h;exact absurd h.1 (by decide)
theorem Ring.last {size:Nat}(hsec:secB (size:Int)=true):∀(n:Nat) {L:List R} {c:Cn},L.length=n→Log L→Ring size L c→lastC c 1 8=L.getLast?
 |0,L,c,hl,h,hr=>by
  have e:L=[]:=List.length_eq_zero_iff.1 hl;subst e;refine(jZl _).2 ?_;refine List.eq_nil_iff_forall_not_mem.2 fun x hx=>?_
  obtain⟨j,_,h2,h3⟩:=(hZA c 1 8 x 8 0).1 hx;rw[hr j (by omega),jZF]at h3;exact qZQ hsec h3.1
 |n+1,L,c,hl,h,hr=>by
  have hn:L≠ []:=fun e=>by rw[e]at hl;simp at hl
  obtain⟨L',r,rfl⟩:∃ L' r,L=L'++[r]:=⟨L.dropLast,L.getLast hn,(List.dropLast_concat_getLast hn).symm⟩;obtain⟨h1,h2,h3,h4⟩:=h.init;have hsl:=hZR (f:=1) (n:=8) (s:=r.s) (by omega);have hk:aZ2 1 8 r.s=1+(r.s-1)%8:=rfl;have hm:=Nat.mod_lt (r.s-1) (show 8>0 by omega)
  let c':Cn:=bZE c (aZ2 1 8 r.s) (lZI size L' ((r.s-1)%8))
  have hr':Ring size L' c':=fun i hi=>by
   have:=hr i hi;rw[iZX]at this;show bZE c (aZ2 1 8 r.s) _ _=_
   by_cases e:i=(r.s-1)%8
   ·subst e;rw[← hk,jZ7]
   ·rw[iZC _ _ (by omega),this,if_neg e]
  have ih:=Ring.last hsec n (by simpa using hl) h1 hr';have hsz:=vZy hsec;have hup:=tZx (c:=c') (f:=1) (n:=8) (size:=size) (by omega) (by omega) hsec h2 h3 (by rw[ih];exact h4);have e:bZE c' (aZ2 1 8 r.s) (r.form size)=c:=by
   show bZE (bZE c _ _) _ _=c
   rw[sZM];have:=hr ((r.s-1)%8) hm;rw[iZX,if_pos rfl,←hk]at this;rw[← this,vZJ]
  rw[e]at hup;rw[hup,List.getLast?_append];rfl
def cw (c:Cn)(per f i:Nat):UInt64:=((aZS (c ((f+i/per:Nat):Int)))[i%per]?).getD 0
def cws (c:Cn)(per f n:Nat):List UInt64:=(List.range n).map (cw c per f)
theorem uZZ (c:Cn)(per f n:Nat):(cws c per f n).length=n:=by simp[cws]
theorem wZ2 {d:D}{c:Cn}(h:∀ i,d.now i=c i)(x:X)(i:Nat):pw d x i=cw c (D.per d) x.f i:=by unfold pw cw;rw[h]
theorem gZy {d:D}{c:Cn}(h:∀ i,d.now i=c i)(x:X)(n:Nat):pws d x 0 n=cws c (D.per d) x.f n:=by
 unfold pws cws;apply List.map_congr_left;intro i _;rw[Nat.zero_add,wZ2 h]
theorem lZ6 {c c':Cn}{per f n s:Nat}(hp:1≤per)(hn:n≤s*per)(h:∀ i:Nat,i<s→c' ((f+i:Nat):Int)=c ((f+i:Nat):Int)):cws c' per f n=cws c per f n:=by
 unfold cws;apply List.map_congr_left;intro i hi;have hi:=List.mem_range.1 hi;have:i/per<s:=Nat.div_lt_of_lt_mul (by rw[Nat.mul_comm];omega);unfold cw;rw[h _ this]
def eZQ (l:List UInt64):Nat:=(Go.Crc.sum (form l)).toNat
theorem pZs (l:List UInt64):eZQ l<4294967296:=(Go.Crc.sum (form l)).isLt
structure Mn where
 most:Nat
 arena:Nat
 L:List R
 inp:List UInt64
def exX (most per i k:Nat):X:=⟨9+i*Lay.aZj most per,Lay.aZj k per,2^k⟩
def fZH (r:R):Bool:=decide (r.dir=1)
def bZd (m:Mn)(per:Nat)(r:R):List Pz:=aZM (fZH r) r.kk.toNat per m.arena
structure kZ3 (m:Mn)(per:Nat)(c:Cn)(r:R):Prop where
 len:m.inp.length=2^r.kk.toNat
 can:∀ w∈m.inp,w.toNat<18446744069414584321
 sum:r.inp=eZQ m.inp
 ws:cws c per 9 (2^r.kk.toNat)=m.inp
structure kZ6 (m:Mn)(per:Nat)(c:Cn)(r:R):Prop where
 ps:r.ps.toNat≤(bZd m per r).length
 ws:∀ p,(bZd m per r)[r.ps.toNat-1]? =some p→cws c per (9+p.o*Lay.aZj m.most per) (2^r.kk.toNat)=apL ((bZd m per r).take r.ps.toNat) m.inp
 sum:r.out=eZQ (apL ((bZd m per r).take r.ps.toNat) m.inp)
structure Holds (sec size:Nat)(m:Mn)(c:Cn):Prop where
 sup:c 0=Sup.bZ5 m.most sec size m.arena
 good:Sup.bZz m.most sec size m.arena=true
 least:bZ2 m.most (size/8)≤m.arena
 log:Log m.L
 ring:Ring size m.L c
 kk:∀ r,m.L.getLast? =some r→r.kk≤m.most
 inp:∀ r,m.L.getLast? =some r→2≤r.kd→kZ3 m (size/8) c r
 out:∀ r,m.L.getLast? =some r→r.kd=4→kZ6 m (size/8) c r
def lZW (size:Nat)(c:Cn):Prop:=c 0=List.replicate size 0
def xZa (sec size:Nat):Option Mn→Cn→Prop
 |none,c=>lZW size c
 |some m,c=>Holds sec size m c
end Eng
namespace Eng
open Go Go.Hw Go.Form Dsk Str Rec Srt Rng Pln Trn
theorem jZ2 {k p:Nat}(hp:1≤p):2^k≤Lay.aZj k p*p:=by
 have h1:=Nat.two_pow_pos k;have h2:=Nat.div_add_mod (2^k-1) p;have h3:=Nat.mod_lt (2^k-1) (show p>0 by omega);unfold Lay.aZj;rw[Nat.add_mul,Nat.mul_comm,Nat.one_mul];omega
theorem hZ9 {k m p:Nat}(h:k≤m):Lay.aZj k p≤Lay.aZj m p:=by
 have h1:2^k≤2^m:=Nat.pow_le_pow_right (by omega) h;unfold Lay.aZj;have:=Nat.div_le_div_right (c:=p) (show 2^k-1≤2^m-1 by omega);omega
theorem eZU {s:Nat}(h:0<Lay.aZL s):Lay.aZL s=s/8∧4≤s/8∧s/8≤512∧8*(s/8)=s:=by
 have:s=32∨s=64∨s=128∨s=256∨s=512∨s=1024∨s=2048∨s=4096:=by
  unfold Lay.aZL at h
  repeat' split at h
  all_goals omega
 rcases this with e|e|e|e|e|e|e|e<;>subst e<;>decide
theorem dZn {m sec s:Nat}{ar:Int}(h:Sup.bZz (m:Int) sec s ar=true):m≤32∧0<Lay.aZL s∧Lay.cZN m (s/8)≤sec∧1≤ar∧ar≤16777216:=by
 have h1:=of_decide_eq_true h;have h3:=h1.2.2.1;have h2:=eZU h3;rw[h2.1,Int.toNat_natCast]at h1;exact⟨by omega,h3,by omega,h1.2.2.2.2⟩
theorem pZu {c c':Cn}{per most i k:Nat}(hp:1≤per)(h:∀ j:Nat,j<Lay.aZj k per→c' ((9+i*Lay.aZj most per+j:Nat):Int)=c ((9+i*Lay.aZj most per+j:Nat):Int)):
  cws c' per (9+i*Lay.aZj most per) (2^k)=cws c per (9+i*Lay.aZj most per) (2^k):=lZ6 hp (jZ2 hp) h
theorem Holds.per {sec size:Nat}{m:Mn}{c:Cn}(h:Holds sec size m c):4≤size/8∧size/8≤512∧8*(size/8)=size:=(eZU (dZn h.good).2.1).2
theorem Holds.sam {sec size:Nat}{m:Mn}{c c':Cn}(h:Holds sec size m c)(h0:∀ i:Nat,i≤8→c' (i:Int)=c (i:Int))
  (h1:∀ r,m.L.getLast? =some r→2≤r.kd→∀ j:Nat,j<Lay.aZj r.kk.toNat (size/8)→c' ((9+j:Nat):Int)=c ((9+j:Nat):Int))
  (h2:∀ r,m.L.getLast? =some r→r.kd=4→∀ p,(bZd m (size/8) r)[r.ps.toNat-1]? =some p→∀ j:Nat,j<Lay.aZj r.kk.toNat (size/8)→c' ((9+p.o*Lay.aZj m.most (size/8)+j:Nat):Int)=c ((9+p.o*Lay.aZj m.most (size/8)+j:Nat):Int)):Holds sec size m c':=by
 have hp:=h.per;refine⟨(h0 0 (by omega)).trans h.sup,h.good,h.least,h.log,fun i hi=>(h0 (1+i) (by omega)).trans (h.ring i hi),h.kk,fun r hr hk=>?_,fun r hr hk=>?_⟩
 ·have q:=h.inp r hr hk;refine⟨q.len,q.can,q.sum,?_⟩;rw[lZ6 (f:=9) (by omega) (jZ2 (show 1≤size/8 by omega)) (h1 r hr hk)];exact q.ws
 ·have q:=h.out r hr hk;refine⟨q.ps,fun p hp'=>?_,q.sum⟩;rw[pZu (by omega) (h2 r hr hk p hp')];exact q.ws p hp'
theorem pZ8 {c:Cn}{s:Nat}{b:List UInt8}{j:Nat}(hj:9≤j):bZE c (aZ2 1 8 s) b (j:Int)=c (j:Int):=by
 have:=hZR (f:=1) (n:=8) (s:=s) (by omega);exact iZC _ _ (by omega)
theorem kZ3.upd {m:Mn}{per:Nat}{c:Cn}{r:R}(h:kZ3 m per c r)(hp:1≤per)(s:Nat)(b:List UInt8):kZ3 m per (bZE c (aZ2 1 8 s) b) r:=
 ⟨h.len,h.can,h.sum,by rw[lZ6 (f:=9) hp (jZ2 hp) (fun j _=>pZ8 (by omega))];exact h.ws⟩
theorem kZ6.upd {m:Mn}{per:Nat}{c:Cn}{r:R}(h:kZ6 m per c r)(hp:1≤per)(s:Nat)(b:List UInt8):kZ6 m per (bZE c (aZ2 1 8 s) b) r:=
 ⟨h.ps,fun p hp'=>by rw[pZu hp (fun j _=>pZ8 (by omega))];exact h.ws p hp',h.sum⟩
theorem Holds.app {sec size:Nat}{m:Mn}{c:Cn}(h:Holds sec size m c){r:R}(hg:r.good)(hu:r.u32)(hm:cZQ m.L.getLast? r=true)(hkk:r.kk≤m.most)
  (hi:2≤r.kd→kZ3 m (size/8) c r) (ho:r.kd=4→kZ6 m (size/8) c r):Holds sec size { m with L:=m.L++[r]} (bZE c (aZ2 1 8 r.s) (r.form size)):=by
 have hp:=h.per;have hsl:=hZR (f:=1) (n:=8) (s:=r.s) (by omega);have hl:∀ x,(m.L++[r]).getLast? =some x→x=r:=fun x hx=>by
  rw[List.getLast?_append]at hx;have:r=x:=by simpa using hx
  exact this.symm
 refine⟨?_,h.good,h.least,h.log.snoc hg hu hm,h.ring.upd r,fun x hx=>?_,fun x hx hk=>?_,fun x hx hk=>?_⟩
 ·rw[iZC _ _ (by omega)];exact h.sup
 ·rw[hl x hx];exact hkk
 ·obtain rfl:=hl x hx;have q:=(hi hk).upd (show 1≤size/8 by omega) x.s (x.form size);exact⟨q.len,q.can,q.sum,q.ws⟩
 ·obtain rfl:=hl x hx;have q:=(ho hk).upd (show 1≤size/8 by omega) x.s (x.form size);exact⟨q.ps,q.ws,q.sum⟩
theorem Holds.target {sec size:Nat}{m:Mn}{c c':Cn}(h:Holds sec size m c){t k:Nat}(hk:k≤m.most)(ht:∀ r,m.L.getLast? =some r→2≤r.kd→t≠0)
  (ho:∀ r,m.L.getLast? =some r→r.kd=4→∀ p,(bZd m (size/8) r)[r.ps.toNat-1]? =some p→t≠p.o) (hs:Sam (inX (exX m.most (size/8) t k)) c c'):Holds sec size m c':=by
 have hp:=h.per;have hrk:Lay.aZj k (size/8)≤Lay.aZj m.most (size/8):=hZ9 hk;generalize hR:Lay.aZj m.most (size/8)=Rm at hrk;have ext:∀(i j:Nat) (r:R),m.L.getLast? =some r→i≠t→j<Lay.aZj r.kk.toNat (size/8)→c' ((9+i*Rm+j:Nat):Int)=c ((9+i*Rm+j:Nat):Int):=fun i j r hr hit hj=>by
  have h1:=h.kk r hr;have h2:=(h.log.last hr).1;have hkr:Lay.aZj r.kk.toNat (size/8)≤Rm:=by rw[← hR];exact hZ9 (by omega)
  apply hs;unfold inX exX;simp only[hR];rintro⟨a,b⟩;rcases Nat.lt_or_gt_of_ne hit with hlt|hlt
  ·have:(i+1)*Rm≤t*Rm:=Nat.mul_le_mul_right _ hlt;rw[Nat.succ_mul]at this;omega
  ·have:(t+1)*Rm≤i*Rm:=Nat.mul_le_mul_right _ hlt;rw[Nat.succ_mul]at this;omega
 refine h.sam (fun i hi=>hs _ ?_) (fun r hr hkd j hj=>?_) fun r hr hkd p hp' j hj=>?_
 ·unfold inX exX;rintro⟨a,b⟩;have:(0:Int)≤(t*Lay.aZj m.most (size/8):Nat):=Int.natCast_nonneg _;simp only at a;omega
 ·have:=ext 0 j r hr (fun e=>ht r hr hkd e.symm) hj;rw[Nat.zero_mul,Nat.add_zero]at this;exact this
 ·rw[hR];exact ext p.o j r hr (fun e=>ho r hr hkd p hp' e.symm) hj
def Mn.r (m:Mn):R:=m.L.getLast?.getD bZq
theorem Mn.r_some {m:Mn}{r:R}(h:m.L.getLast? =some r):m.r=r:=by unfold Mn.r;rw[h];rfl
theorem Mn.r_or (m:Mn):(m.L=[]∧m.r=bZq)∨m.L.getLast? =some m.r:=by
 cases h:m.L.getLast? with
 |none=>exact .inl ⟨List.getLast?_eq_none_iff.1 h,by unfold Mn.r;rw[h];rfl⟩
 |some r=>exact .inr (by rw[Mn.r_some h])
theorem Mn.r_kd {m:Mn}(h:m.r.kd≠0):m.L.getLast? =some m.r:=by
 rcases m.r_or with⟨_,e⟩|e
 ·rw[e]at h;exact absurd rfl h
 ·exact e
def Mn.add (m:Mn)(r:R):Mn:={ m with L:=m.L++[r]}
theorem Mn.add_r (m:Mn)(r:R):(m.add r).r=r:=by unfold Mn.r Mn.add;simp
theorem Mn.add_last (m:Mn)(r:R):(m.add r).L.getLast? =some r:=by unfold Mn.add;simp
structure Small (B:Nat)(m:Mn):Prop where
 len:m.L.length≤B
 ld:m.r.ld≤B
theorem Small.add {B:Nat}{m:Mn}(h:Small B m){r:R}(hr:r.ld≤B+1):Small (B+1) (m.add r):=⟨by unfold Mn.add;have:=h.len;simp;omega,by rw[Mn.add_r];exact hr⟩
def Mn.seq (m:Mn):Nat:=m.L.length+1
theorem Mn.seq_r {sec size:Nat}{m:Mn}{c:Cn}(h:Holds sec size m c):m.r.s+1=m.seq:=by
 rcases m.r_or with⟨e1,e2⟩|e
 ·rw[e2];unfold Mn.seq;rw[e1];rfl
 ·have:=(h.log.last e).2.2;unfold Mn.seq;omega
def cZt (m:Mn)(k:Nat):R:=⟨m.seq,1,k,0,0,m.r.ld+1,0,0⟩
def dZi (m:Mn)(k:Nat)(l:List UInt64):R:=⟨m.seq,2,k,0,0,m.r.ld,eZQ l,0⟩
def cZ3 (m:Mn)(d:Bool):R:=⟨m.seq,3,m.r.kk,if d=true then 1 else 0,0,m.r.ld,m.r.inp,0⟩
def bZu (m:Mn)(per:Nat):R:=⟨m.seq,4,m.r.kk,m.r.dir,m.r.ps+1,m.r.ld,m.r.inp,eZQ (apL ((bZd m per m.r).take (m.r.ps.toNat+1)) m.inp)⟩
section
variable {sec size : Nat} {m : Mn} {c : Cn} (h : Holds sec size m c) {B : Nat} (hs : Small B m) (hB : B ≤ 1000000)
include h hs hB
theorem vZN {k:Nat}(hk:k≤m.most):(cZt m k).good∧(cZt m k).u32∧cZQ m.L.getLast? (cZt m k)=true∧Holds sec size (m.add (cZt m k)) (bZE c (aZ2 1 8 m.seq) ((cZt m k).form size)):=by
 have hg:=dZn h.good;have hl:=hs.len;have hd:=hs.ld;have hsq:m.seq=m.L.length+1:=rfl;have g:(cZt m k).good:=⟨by show 1≤m.seq;omega,by show m.seq<_;omega,by show(0:Int)≤k;omega,by show(k:Int)≤32;omega,.inl rfl,.inl ⟨rfl,rfl,rfl,rfl,rfl⟩⟩;have u:(cZt m k).u32:=⟨by show m.r.ld+1<_;omega,by show 0<_;omega,by show 0<_;omega⟩;have may:cZQ m.L.getLast? (cZt m k)=true:=by
  have hsr:=Mn.seq_r h;rcases m.r_or with⟨e1,e2⟩|e
  ·rw[e1];exact decide_eq_true ⟨by show m.seq=1;rw[hsq,e1];rfl,rfl⟩
  ·rw[e];exact decide_eq_true ⟨(h.log.last e).1,g,by show m.seq=_;omega,.inl rfl⟩
 exact⟨g,u,may,h.app g u may (by show(k:Int)≤m.most;omega) (fun h2=>absurd h2 (show ¬(2:Int)≤1 by omega)) (fun h4=>absurd h4 (show ¬(1:Int)=4 by omega))⟩
theorem vZc {k:Nat}(hk:m.r.kd=1)(hkk:m.r.kk=k){l:List UInt64}(hl:l.length=2^k)(hcan:∀ w∈l,w.toNat<18446744069414584321)(hw:cws c (size/8) 9 (2^k)=l):
  (dZi m k l).good∧(dZi m k l).u32∧cZQ m.L.getLast? (dZi m k l)=true∧Holds sec size ({ m with inp:=l}.add (dZi m k l)) (bZE c (aZ2 1 8 m.seq) ((dZi m k l).form size)):=by
 have hg:=dZn h.good;have hlen:=hs.len;have hd:=hs.ld;have hsq:m.seq=m.L.length+1:=rfl;have e:=Mn.r_kd (m:=m) (by omega);have hkm:=h.kk _ e;have hm:Holds sec size { m with inp:=l} c:=⟨h.sup,h.good,h.least,h.log,h.ring,h.kk,fun r hr h2=>by
  have e1:m.L.getLast? =some r:=hr;rw[e]at e1;cases e1;omega,fun r hr h4=>by
  have e1:m.L.getLast? =some r:=hr;rw[e]at e1;cases e1;omega⟩
 have g:(dZi m k l).good:=⟨by show 1≤m.seq;omega,by show m.seq<_;omega,by show(0:Int)≤k;omega,by show(k:Int)≤32;omega,.inl rfl,.inr (.inl ⟨rfl,rfl,rfl,rfl⟩)⟩;have u:(dZi m k l).u32:=⟨by show m.r.ld<_;omega,pZs l,by show 0<_;omega⟩;have may:cZQ m.L.getLast? (dZi m k l)=true:=by
  have hsr:=Mn.seq_r h;rw[e];exact decide_eq_true ⟨(h.log.last e).1,g,by show m.seq=_;omega,.inr (.inl ⟨rfl,hk,rfl,hkk⟩)⟩
 exact⟨g,u,may,hm.app g u may (by show(k:Int)≤m.most;omega) (fun _=>⟨by show l.length=2^((k:Int).toNat);rw[Int.toNat_natCast];exact hl,hcan,rfl,by show cws c _ 9 (2^((k:Int).toNat))=l;rw[Int.toNat_natCast];exact hw⟩) (fun h4=>absurd h4 (show ¬(2:Int)=4 by omega))⟩
theorem vZF (hk:2≤m.r.kd)(d:Bool):(cZ3 m d).good∧(cZ3 m d).u32∧cZQ m.L.getLast? (cZ3 m d)=true∧Holds sec size (m.add (cZ3 m d)) (bZE c (aZ2 1 8 m.seq) ((cZ3 m d).form size)):=by
 have hg:=dZn h.good;have hlen:=hs.len;have hd:=hs.ld;have hsq:m.seq=m.L.length+1:=rfl;have e:=Mn.r_kd (m:=m) (by omega);have hkm:=h.kk _ e;have hr:=h.log.last e;have hi:=h.inp _ e hk;have g:(cZ3 m d).good:=⟨by show 1≤m.seq;omega,by show m.seq<_;omega,hr.1.2.2.1,hr.1.2.2.2.1,by show(if d=true then(1:Int)else 0)=0∨(if d=true then(1:Int)else 0)=1;cases d<;>simp,.inr (.inr (.inl ⟨rfl,rfl⟩))⟩;have u:(cZ3 m d).u32:=⟨by show m.r.ld<_;omega,hr.2.1.inp,by show 0<_;omega⟩;have may:cZQ m.L.getLast? (cZ3 m d)=true:=by
  have hsr:=Mn.seq_r h;rw[e];exact decide_eq_true ⟨hr.1,g,by show m.seq=_;omega,.inr (.inr (.inl ⟨rfl,by omega,rfl,rfl,rfl,rfl⟩))⟩
 exact⟨g,u,may,h.app g u may hkm (fun _=>⟨hi.len,hi.can,hi.sum,hi.ws⟩) (fun h4=>absurd h4 (show ¬(3:Int)=4 by omega))⟩
end
theorem fZP (d:Bool)(k per words:Nat):1≤(aZM d k per words).length∧(aZM d k per words).length≤5:=by
 unfold aZM hZp;split<;>simp
theorem lZC (d:Bool)(k per words:Nat):∀ i p,(aZM d k per words)[i]? =some p→(1≤p.o∧p.o≤3∧p.o≠p.f)∧(i=0→p.f=0)∧∀ q,(aZM d k per words)[i-1]? =some q→1≤i→p.f=q.o:=by
 intro i p hp;unfold aZM at hp⊢;split at hp
 ·rename_i hb
  rw[if_pos hb];rcases i with _|i
  ·cases hp;exact⟨⟨by show 1≤3;omega,by show 3≤3;omega,by show(3:Nat)≠0;omega⟩,fun _=>rfl,fun q _ h=>by omega⟩
  ·simp at hp
 ·rename_i hb
  rw[if_neg hb];unfold hZp at hp⊢;rcases i with _|_|_|_|_|i
  all_goals first|(cases hp;exact⟨⟨by simp,by simp,by simp⟩,fun h=>by first|rfl|omega,fun q hq h=>by first|omega|(cases hq;rfl)⟩)|simp at hp
theorem R.ps_nn {r:R}(h:r.good):0≤r.ps:=by
 obtain⟨_,_,_,_,_,h|h|h|h⟩:=h<;>omega
section
variable {sec size : Nat} {m : Mn} {c : Cn} (h : Holds sec size m c) {B : Nat} (hs : Small B m) (hB : B ≤ 1000000)
include h hs hB
theorem vZl (hk:3≤m.r.kd){p:Pz}(hp:(bZd m (size/8) m.r)[m.r.ps.toNat]? =some p)(hw:cws c (size/8) (9+p.o*Lay.aZj m.most (size/8)) (2^m.r.kk.toNat)=apL ((bZd m (size/8) m.r).take (m.r.ps.toNat+1)) m.inp):
  (bZu m (size/8)).good∧(bZu m (size/8)).u32∧cZQ m.L.getLast? (bZu m (size/8))=true∧Holds sec size (m.add (bZu m (size/8))) (bZE c (aZ2 1 8 m.seq) ((bZu m (size/8)).form size)):=by
 have hg:=dZn h.good;have hlen:=hs.len;have hd:=hs.ld;have hsq:m.seq=m.L.length+1:=rfl;have e:=Mn.r_kd (m:=m) (by omega);have hkm:=h.kk _ e;have hr:=h.log.last e;have hi:=h.inp _ e (by omega);have hps:=R.ps_nn hr.1;have hlt:=(List.getElem?_eq_some_iff.1 hp).1;have hl5:=(fZP (fZH m.r) m.r.kk.toNat (size/8) m.arena).2;have hl5:(bZd m (size/8) m.r).length≤5:=hl5;have g:(bZu m (size/8)).good:=⟨by show 1≤m.seq;omega,by show m.seq<_;omega,hr.1.2.2.1,hr.1.2.2.2.1,hr.1.2.2.2.2.1,.inr (.inr (.inr ⟨rfl,by show 1≤m.r.ps+1;omega,by show m.r.ps+1≤7;omega⟩))⟩;have u:(bZu m (size/8)).u32:=⟨by show m.r.ld<_;omega,hr.2.1.inp,pZs _⟩;have may:cZQ m.L.getLast? (bZu m (size/8))=true:=by
  have hsr:=Mn.seq_r h;rw[e];exact decide_eq_true ⟨hr.1,g,by show m.seq=_;omega,.inr (.inr (.inr ⟨rfl,hk,rfl,rfl,rfl,rfl,rfl⟩))⟩
 have ept:(bZu m (size/8)).ps.toNat=m.r.ps.toNat+1:=by show(m.r.ps+1).toNat=_;omega
 have epl:bZd m (size/8) (bZu m (size/8))=bZd m (size/8) m.r:=rfl;refine⟨g,u,may,h.app g u may hkm (fun _=>⟨hi.len,hi.can,hi.sum,hi.ws⟩) fun _=>⟨?_,fun q hq=>?_,?_⟩⟩
 ·rw[ept,epl];omega
 ·rw[ept,epl,Nat.add_sub_cancel,hp]at hq;cases hq;rw[ept,epl];exact hw
 ·rw[ept,epl];rfl
theorem wZF (hk:3≤m.r.kd){p:Pz}(hp:(bZd m (size/8) m.r)[m.r.ps.toNat]? =some p):
  cws c (size/8) (9+p.f*Lay.aZj m.most (size/8)) (2^m.r.kk.toNat)=apL ((bZd m (size/8) m.r).take m.r.ps.toNat) m.inp∧(if m.r.ps=0 then m.r.inp else m.r.out)=eZQ (apL ((bZd m (size/8) m.r).take m.r.ps.toNat) m.inp)∧
  (∀ q,m.r.kd=4→(bZd m (size/8) m.r)[m.r.ps.toNat-1]? =some q→p.o≠q.o):=by
 have e:=Mn.r_kd (m:=m) (by omega);have hr:=h.log.last e;have hi:=h.inp _ e (by omega);have ends:=lZC (fZH m.r) m.r.kk.toNat (size/8) m.arena _ p hp;have hps:=R.ps_nn hr.1;have h4:m.r.kd=3∧m.r.ps=0∨m.r.kd=4∧1≤m.r.ps:=by
  obtain⟨_,_,_,_,_,h|h|h|h⟩:=hr.1<;>omega
 rcases h4 with⟨k3,p0⟩|⟨k4,p1⟩
 ·have:m.r.ps.toNat=0:=by omega
  rw[this]at ends hp⊢;rw[ends.2.1 rfl,Nat.zero_mul,Nat.add_zero,if_pos p0];refine⟨hi.ws,hi.sum,fun q hq=>by omega⟩
 ·have ho:=h.out _ e k4;have hlt:=(List.getElem?_eq_some_iff.1 hp).1;have hq:(bZd m (size/8) m.r)[m.r.ps.toNat-1]? =some (bZd m (size/8) m.r)[m.r.ps.toNat-1]:=List.getElem?_eq_getElem (by omega);have hf:=ends.2.2 _ hq (by omega);rw[if_neg (by omega),hf];refine⟨ho.ws _ hq,ho.sum,fun q _ hq'=>?_⟩;rw[hq]at hq';cases hq';rw[← hf];exact ends.1.2.2
end
end Eng
namespace Str
open Go Go.Hw Go.Form W Dsk Are
section
variable {p q dp ap bp bq bt b rb mb : Nat} {d : D} {x y : X} {cap peak : Int} {bufs : List (Nat × Nat × Option Addr)} {ws : List UInt64}
end
structure uZm (d d':D)(x y:X)(i k:Nat):Prop where
 ok:Ok d'
 calm:Calm d'
 size:d'.size=d.size
 sec:d'.sec=d.sec
 rd:d'.rd≤d.rd+1000*i
 wr:d'.wr≤d.wr+1000*i
 src:∀ j,j<x.w→pw d' x j=pw d x j
 dst:∀ j,j<k→pw d' y j=pw d x j
theorem uZm.per {d d':D}{x y:X}{i k:Nat}(h:uZm d d' x y i k):D.per d'=D.per d:=by unfold D.per;rw[h.size]
theorem kZ1 {P:Program}{g:FuncId}{t:TypeId}{k:IntKind}{n:Int}{K:Value→Prop}(h:bZC P g=[t])(hu:P.underlying t=some (.int k))(hk:K (.int k n)):DR P (bZC P g) (.int k n) K:=by
 rw[h];show DT P t _ K
 unfold DT;rw[hu];simpa using hk
section
variable {p q dp ap bp bq bt b rb mb vb : Nat} {d : D} {x y : X} {cap peak P1 : Int} {bufs : List (Nat × Nat × Option Addr)}
theorem vZf {per left:Nat}{l:Int}(h:l=left):(if(per:Int)<l then(per:Int)else l)=((if per<left then per else left:Nat):Int):=by
 subst h;by_cases c:per<left
 ·rw[if_pos c,if_pos (by omega)]
 ·rw[if_neg c,if_neg (by omega)]
end
section
variable {p q dp ap : Nat} {d : D} {x y : X} {cap peak : Int} {bufs : List (Nat × Nat × Option Addr)}
end
theorem xZc (a b c d e:Value):((#[]++ #[a,b,c])++ #[d,e]:Array Value)=#[a,b,c,d,e]:=rfl
section
variable {p dp ap bp : Nat} {d : D} {x : X} {cap peak : Int} {bufs : List (Nat × Nat × Option Addr)} {B : As}
def lZj (p dp ap bp b rb mb vb:Nat)(d:D)(x:X)(cap pk:Int)(bufs:List (Nat×Nat×Option Addr))(per:Nat)(ws:List UInt64)(B:As):List As:=
 [pts p (ZP dp ap x),Dk dp d,Ar ap cap pk (bufs++[(b,per,some ⟨rb,0,none⟩)]),pts rb (.row (Zd ws) 84 mb),pts bp (.obj (.cells #[.pointer (some ⟨p,0,none⟩)] 157)),B,pts vb (.row [.pointer (some ⟨b,0,none⟩)] 206 1)]
theorem oZ5 (K:Value→Hp→Prop)(f:FuncId)(C:Array Value)(hok:Ok d)(hcap:(D.per d:Int)≤cap-ZN bufs){H:Hp}
  (hs:Sep [pts p (ZP dp ap x),Dk dp d,Ar ap cap peak bufs,pts bp (.obj (.cells #[.pointer (some ⟨p,0,none⟩)] 157)),B] H)
  (k:∀ b rb vb H,(∀ z∈bufs,z.1≠b)→Sep (lZj p dp ap bp b rb (D.per d) vb d x cap (mx peak (ZN bufs+D.per d)) bufs (D.per d) (List.replicate (D.per d) 0) B) H→
   ∃ t,ZR.l6 K t (some ⟨p,0,none⟩) f #[] C (some ⟨b,0,none⟩) 0 (x.w:Int) (x.f:Int) (some ⟨ap,0,none⟩) (some ⟨vb,0,none⟩) 1 1 H):
  Zc prog 121 #[.pointer (some ⟨p,0,none⟩),.func (.func f) #[] C] H K:=by
 have hp:=Ok.per_le hok;apply ZR.ok;unfold ZR;simp only[HS];have rest:∀(b rb:Nat) (H:Hp),(∀ y∈bufs,y.1≠b)→Sep [Ar ap cap (if ZN bufs+D.per d>peak then ZN bufs+D.per d else peak) (bufs++[(b,D.per d,some ⟨rb,0,none⟩)]),pts rb (.row (bZr (D.per d)) 84 (D.per d)),pts p (ZP dp ap x),Dk dp d,pts bp (.obj (.cells #[.pointer (some ⟨p,0,none⟩)] 157)),B] H→
   ZR.j2 K (some ⟨p,0,none⟩) f #[] C (some ⟨b,0,none⟩) 0 H:=fun b rb H hbm hs=>by
  unfold ZR.j2;refine ZB rfl ?_;simp only[HS];refine hs.ld 2 rfl rfl ?_;simp only[HV];refine hs.nw fun vb H hs=>?_
  refine aZc.use (gZD hs 2 rfl) ?_;simp only[HV];refine hs.ld 2 rfl rfl ?_;simp only[HV];have hz:bZr (D.per d)=Zd (List.replicate (D.per d) 0):=by
   unfold bZr;rw[bZD];unfold Zd;rw[List.map_replicate];rfl
  rw[hz]at hs;exact k b rb vb H hbm (hs.re [2,3,0,1,4,5,6] rfl)
 have fresh:∀{L:List As} {H:Hp} (b rb:Nat) (pk:Int),Sep L H→L[0]? =some (Ar ap cap pk (bufs++[(b,D.per d,some ⟨rb,0,none⟩)]))→∀ y∈bufs,y.1≠b:=fun b rb pk hs h0 y hy e=>by
  obtain⟨mp,cl,tk,hA⟩:=Sep.ar hs 0 h0;have:=hA.bn;rw[List.map_append,List.nodup_append]at this;exact this.2.2 y.1 (List.mem_map_of_mem hy) b (by simp) e
 refine⟨?_,?_⟩
 ·refine hs.ld 0 rfl rfl ?_;simp only[HV];refine Zc.use (fZa hs 0 1 rfl rfl hok) ?_
  try simp only[HV]
  refine(eZZ (a:=ap) (cap:=cap) (peak:=peak) (bufs:=bufs) (n:=D.per d) (by omega) hcap).use hs [2] rfl rfl ?_;rintro _ _ H ⟨b,rb,rfl,rfl⟩ hs;simp only[HV];exact rest b rb H (fresh b rb _ hs rfl) hs
 ·refine Zc.use (fZa hs 0 1 rfl rfl hok) ?_
  try simp only[HV]
  refine hs.ld 0 rfl rfl ?_;simp only[HV];refine(eZZ (a:=ap) (cap:=cap) (peak:=peak) (bufs:=bufs) (n:=D.per d) (by omega) hcap).use hs [2] rfl rfl ?_;rintro _ _ H ⟨b,rb,rfl,rfl⟩ hs;simp only[HV];exact rest b rb H (fresh b rb _ hs rfl) hs
end
section
variable {p dp ap bp bw b rb mb : Nat} {d : D} {x : X} {cap peak : Int} {bufs : List (Nat × Nat × Option Addr)}
end
section
variable {p dp ap bp bw b rb mb vb : Nat} {d : D} {x : X} {cap peak pk : Int} {bufs : List (Nat × Nat × Option Addr)}
end
section
variable {p dp ap bp bc b rb mb vb : Nat} {d : D} {x : X} {cap peak pk : Int} {bufs : List (Nat × Nat × Option Addr)}
def ctr (bc:Nat)(ws:List UInt64):As:=pts bc (CrcP.counter (Go.Crc.sum (form ws)) (8*ws.length))
def tZ7 (bp bc:Nat):Array Value:=#[.pointer (some ⟨bp,0,none⟩),.pointer (some ⟨bc,0,none⟩)]
end
def nS (per w:Nat):Nat:=(w+per-1)/per
theorem uZw {per w i:Nat}(hp:1≤per):i<nS per w↔i*per<w:=by
 unfold nS;rw[Nat.lt_iff_add_one_le,Nat.le_div_iff_mul_le (by omega),Nat.succ_mul];omega
section
variable {p dp ap bp bc b rb mb vb : Nat} {d : D} {x : X} {cap peak pk : Int} {bufs : List (Nat × Nat × Option Addr)}
theorem vZ8 {ws pre:List UInt64}(hok:Ok d)(hl:d.down=false)(ho:d.rd≤4611685000000000000)(s n:Nat)(hs1:s<d.sec)(hn2:n≤D.per d)(hpre:pre.length≤1000000000)
  (hbm:(b,D.per d,some ⟨rb,0,none⟩)∈bufs) (hws:ws.length=D.per d):
  Tr prog 122 #[.int .i64 s,.int .i64 n,.pointer (some ⟨b,0,none⟩),.pointer (some ⟨bp,0,none⟩),.pointer (some ⟨bc,0,none⟩)]
   [pts p (ZP dp ap x),Dk dp d,Ar ap cap peak bufs,pts rb (.row (Zd ws) 84 mb),pts bp (.obj (.cells #[.pointer (some ⟨p,0,none⟩)] 157)),ctr bc pre] fun v M=>
   (d.fuse≠1∧v= .int .i64 0∧M=[pts p (ZP dp ap x),Dk dp (D.mr d),Ar ap cap peak bufs,pts rb (.row (Zd (aZS (d.now s))) 84 mb),pts bp (.obj (.cells #[.pointer (some ⟨p,0,none⟩)] 157)),ctr bc (pre++(aZS (d.now s)).take n)])∨
   (d.fuse=1∧v= .int .i64 8∧M=[pts p (ZP dp ap x),Dk dp (D.dead d),Ar ap cap peak bufs,pts rb (.row (Zd ws) 84 mb),pts bp (.obj (.cells #[.pointer (some ⟨p,0,none⟩)] 157)),ctr bc pre]):=fun H hs=>by
 have hp:=Ok.per_le hok;have hwl:(aZS (d.now (s:Int))).length=D.per d:=by rw[dZk,hok.now];rfl
 have htl:((aZS (d.now (s:Int))).take n).length=n:=by rw[List.length_take];omega
 apply dZt.ok;unfold dZt
 try simp only[HS]
 refine hs.ld 4 rfl rfl ?_;simp only[HV]
 try simp only[HS]
 refine(oZo (p:=p) (ap:=ap) (x:=x) (cap:=cap) (peak:=peak) (b:=b) (rb:=rb) (m:=mb) hok hl (by omega) (s:Int) (Int.natCast_nonneg _) (Int.ofNat_lt.2 hs1) hbm (xs:=Zd ws) (by rw[ZA];exact hws)).use hs [0,1,2,3] rfl rfl ?_;rintro _ _ H (⟨hf,rfl,rfl⟩|⟨hf,rfl,rfl⟩) hs
 ·simp only[HV];refine aZb rfl ?_;refine Zc.use (eZD hs 2 rfl hbm) ?_;simp only[HV];refine lZP rfl (by omega) ?_;rw[oZN,Nat.sub_zero,Nat.sub_zero];have hcell:Cells H (some ⟨rb,0,none⟩) (Zd ((aZS (d.now (s:Int))).take n)):=by
   have:=Cells.row (hs.get 3 (b:=rb) (o:=.row (Zd (aZS (d.now (s:Int)))) 84 mb) rfl) 0 n;rw[List.drop_zero]at this;rw[show Zd ((aZS (d.now (s:Int))).take n)=(Zd (aZS (d.now (s:Int)))).take n by unfold Zd;rw[List.map_take]];exact this
  have hs:Sep [pts p (ZP dp ap x),Dk dp (D.mr d),Ar ap cap peak bufs,pts rb (.row (Zd (aZS (d.now (s:Int)))) 84 mb),pts bp (.obj (.cells #[.pointer (some ⟨p,0,none⟩)] 157)),pts bc (CrcP.counter (Go.Crc.sum (form pre)) (8*pre.length))] H:=hs;refine Zc.use (CrcP.oZ1 bc (Go.Crc.sum (form pre)) (8*pre.length) (some ⟨rb,0,none⟩) n (D.per d) ((aZS (d.now (s:Int))).take n) htl.symm H (hs.get 5 rfl) hcell (by omega) (by omega)) ?_;have hs2:=hs.put 5 (CrcP.counter (Go.Crc.more (Go.Crc.sum (form pre)) (form ((aZS (d.now (s:Int))).take n))) (8*pre.length+8*n)) rfl;refine⟨_,.inl ⟨hf,by first|rfl|trivial,rfl⟩,?_⟩;have e:ctr bc (pre++(aZS (d.now (s:Int))).take n)=pts bc (CrcP.counter (Go.Crc.more (Go.Crc.sum (form pre)) (form ((aZS (d.now (s:Int))).take n))) (8*pre.length+8*n)):=by
   unfold ctr;rw[List.length_append,htl,Nat.mul_add];have:form (pre++(aZS (d.now (s:Int))).take n)=form pre++form ((aZS (d.now (s:Int))).take n):=by unfold form;rw[List.flatMap_append]
   rw[this];unfold Go.Crc.sum;rw[Go.Crc.more_append]
  rw[e];exact hs2
 ·simp only[HV];refine aZm (by decide) ?_;exact⟨_,.inr ⟨hf,by first|rfl|trivial,rfl⟩,hs⟩
def tZ8 (p dp ap:Nat)(d:D)(x:X)(cap pk:Int)(bufs:List (Nat×Nat×Option Addr))(v:Value)(M:List As):Prop:=
 ((d.fuse=0∨nS (D.per d) x.w<d.fuse)∧v= .tuple #[.int .u32 ((Go.Crc.sum (form (pws d x 0 x.w))).toNat:Int),.int .i64 0]∧M=[pts p (ZP dp ap x),Dk dp (D.rdG d (nS (D.per d) x.w)),Ar ap cap pk bufs])∨
 (∃ j,j<nS (D.per d) x.w∧d.fuse=j+1∧v= .tuple #[.int .u32 0,.int .i64 8]∧M=[pts p (ZP dp ap x),Dk dp (D.dead (D.rdG d j)),Ar ap cap pk bufs])
theorem qZu (K:Value→Hp→Prop)(hok:Ok d)(hl:d.down=false)(hbm:∀ z∈bufs,z.1≠b)(hx:On d x)(ho:d.rd≤3000000000000000000)
  (hK:∀ H,(d.fuse=0∨nS (D.per d) x.w<d.fuse)→Sep [pts p (ZP dp ap x),Dk dp (D.rdG d (nS (D.per d) x.w)),Ar ap cap pk bufs,ctr bc (pws d x 0 x.w)] H→K (.int .i64 0) H)
  (hD:∀ j H pre,j<nS (D.per d) x.w→d.fuse=j+1→Sep [pts p (ZP dp ap x),Dk dp (D.dead (D.rdG d j)),Ar ap cap pk bufs,ctr bc pre] H→K (.int .i64 8) H):
  ∀(t i:Nat) (ws:List UInt64) (H:Hp),x.w≤(i+t)*D.per d→i≤nS (D.per d) x.w→(d.fuse=0∨i<d.fuse)→ws.length=D.per d→
   Sep (lZj p dp ap bp b rb mb vb (D.rdG d i) x cap pk bufs (D.per d) ws (ctr bc (pws d x 0 (if i*D.per d<x.w then i*D.per d else x.w)))) H→
   ZR.l6 K (t+2) (some ⟨p,0,none⟩) 122 #[] (tZ7 bp bc) (some ⟨b,0,none⟩) 0 ((x.w:Int)-((i*D.per d:Nat):Int)) ((x.f+i:Nat):Int) (some ⟨ap,0,none⟩) (some ⟨vb,0,none⟩) 1 1 H:=fun t=>by
 have hp:=Ok.per_le hok;have hsec:=hok.sec;have hroom:x.s*D.per d≤1048576*512:=Nat.mul_le_mul (by have:=hx.fit;omega) (by omega);have h4:=hx.room;have hw1:=hx.w1;have hfit:=hx.fit;have fin:∀(i:Nat) (ws:List UInt64) (H:Hp),x.w≤i*D.per d→i≤nS (D.per d) x.w→(d.fuse=0∨i<d.fuse)→Sep (lZj p dp ap bp b rb mb vb (D.rdG d i) x cap pk bufs (D.per d) ws (ctr bc (pws d x 0 (if i*D.per d<x.w then i*D.per d else x.w)))) H→
   aZ9 prog 130 #[.pointer (some ⟨ap,0,none⟩),.slice (some ⟨vb,0,none⟩) 1 1] H fun _ H9=>K (.int .i64 0) H9:=fun i ws H hi hie hfu hs=>by
  have e:i=nS (D.per d) x.w:=by
   rcases Nat.lt_or_ge i (nS (D.per d) x.w)with h|h
   ·have:=(uZw (by omega)).1 h;omega
   ·omega
  rw[if_neg (by omega)]at hs;unfold lZj at hs;refine(cZw vb b (D.per d) (some ⟨rb,0,none⟩) hbm).use hs [2,6] rfl rfl ?_;rintro _ _ H ⟨rfl,rfl⟩ hs;subst e;exact hK H hfu (hs.re [1,2,0,5] rfl)
 induction t with
 |zero=>
  intro i ws H hi hie hfu hws hs;rw[Nat.add_zero]at hi;unfold ZR.l6;exact Zm (by omega) (fin i ws H hi hie hfu hs)
 |succ t ih=>
  intro i ws H hi hie hfu hws hs;by_cases hlt:i*D.per d<x.w
  ·have his:i<x.s:=by
    apply Nat.lt_of_mul_lt_mul_right (a:=D.per d);omega
   have hin:=(uZw (per:=D.per d) (w:=x.w) (i:=i) (by omega)).2 hlt;have hokj:=Ok.rdG hok i;have hlj:(D.rdG d i).down=false:=hl;generalize hnv:(if D.per d<x.w-i*D.per d then D.per d else x.w-i*D.per d)=n;have hn1:1≤n∧n≤D.per d∧i*D.per d+n≤x.w:=by rw[← hnv];split<;>omega
   rw[if_pos hlt]at hs;unfold lZj at hs;unfold ZR.l6;refine Zw (by omega) (aZb rfl ?_)
   try simp only[HS]
   refine Zc.use (fZa hs 0 1 rfl rfl hokj) ?_
   try simp only[HV]
   rw[show D.per (D.rdG d i)=D.per d from rfl];refine aZN (by kernel_rfl) ?_;unfold tZ7;rw[xZc,vZf (left:=x.w-i*D.per d) (by omega),hnv];have hs1:x.f+i<(D.rdG d i).sec:=by show _<d.sec;omega
   have ho1:(D.rdG d i).rd≤4611685000000000000:=by show d.rd+i≤_;omega
   have hpl:(pws d x 0 (i*D.per d)).length≤1000000000:=by rw[eZe];omega
   refine(vZ8 (p:=p) (dp:=dp) (ap:=ap) (bp:=bp) (bc:=bc) (b:=b) (rb:=rb) (mb:=mb) (d:=D.rdG d i) (x:=x) (cap:=cap) (peak:=pk) (bufs:=bufs++[(b,D.per d,some ⟨rb,0,none⟩)]) (ws:=ws) (pre:=pws d x 0 (i*D.per d)) hokj hlj ho1 (x.f+i) n hs1 hn1.2.1 hpl (List.mem_append_right _ (List.mem_singleton.2 rfl)) hws).use hs [0,1,2,3,4,5] rfl rfl ?_;have hwl:(aZS (d.now ((x.f+i:Nat):Int))).length=D.per d:=by rw[dZk,hok.now];rfl
   have e1:IntKind.i64.wrap ((x.w:Int)-((i*D.per d:Nat):Int)-(D.per d:Int))=(x.w:Int)-(((i+1)*D.per d:Nat):Int):=by
    rw[ZV (by omega) (by omega),Nat.succ_mul];omega
   have e2:IntKind.i64.wrap (((x.f+i:Nat):Int)+1)=((x.f+(i+1):Nat):Int):=by
    rw[ZV (by omega) (by omega)];omega
   rintro _ _ H (⟨hf,rfl,rfl⟩|⟨hf,rfl,rfl⟩) hs
   ·refine kZ1 (t:=53) (by kernel_rfl) (by kernel_rfl) ?_;rw[oZF]at hs;simp only[HV];refine Zc.use (fZa hs 0 1 rfl rfl (Ok.rdG hok (i+1))) ?_
    try simp only[HV]
    rw[show D.per (D.rdG d (i+1))=D.per d from rfl,e1,e2];have hnext:i*D.per d+n=(if(i+1)*D.per d<x.w then(i+1)*D.per d else x.w):=by
     rw[Nat.succ_mul,←hnv];split<;>split<;>omega
    have hpc:(aZS (d.now ((x.f+i:Nat):Int))).take n=pws d x (i*D.per d) n:=by
     have:=kZm hok x (fr:=i*D.per d) (k:=n) (by rw[Nat.mul_mod_left];omega);rw[Nat.mul_div_cancel _ (by omega),Nat.mul_mod_left,List.drop_zero]at this;exact this
    have hpa:pws d x 0 (i*D.per d)++(aZS (d.now ((x.f+i:Nat):Int))).take n=pws d x 0 (i*D.per d+n):=by
     rw[pZK,Nat.zero_add,hpc]
    have hf':d.fuse-i≠1:=hf;refine ih (i+1) (aZS (d.now ((x.f+i:Nat):Int))) H (by rw[show i+1+t=i+(t+1) by omega];exact hi) (by omega) (by omega) hwl ?_;rw[← hnext,←hpa];exact hs
   ·refine kZ1 (t:=53) (by kernel_rfl) (by kernel_rfl) ?_;simp only[HV];have hf':d.fuse-i=1:=hf;have hokd:Ok (D.dead (D.rdG d i)):=Ok.dead hokj;refine Zc.use (fZa hs 0 1 rfl rfl hokd) ?_
    try simp only[HV]
    rw[show D.per (D.dead (D.rdG d i))=D.per d from rfl,e1,e2];unfold ZR.l6;have give:aZ9 prog 130 #[.pointer (some ⟨ap,0,none⟩),.slice (some ⟨vb,0,none⟩) 1 1] H fun _ H9=>K (.int .i64 8) H9:=by
     refine(cZw vb b (D.per d) (some ⟨rb,0,none⟩) hbm).use hs [2,6] rfl rfl ?_;rintro _ _ H ⟨rfl,rfl⟩ hs;exact hD i H _ hin (by omega) (hs.re [1,2,0,5] rfl)
    by_cases hgt:(x.w:Int)-(((i+1)*D.per d:Nat):Int)>0
    ·exact Zw hgt (aZm (by decide) give)
    ·exact Zm hgt give
  ·unfold ZR.l6;exact Zm (by omega) (fin i ws H (by omega) hie hfu hs)
theorem lZ1 (hok:Ok d)(hl:d.down=false)(hx:On d x)(ho:d.rd≤3000000000000000000)(hcap:(D.per d:Int)≤cap-ZN bufs):
  Tr prog 79 #[.pointer (some ⟨p,0,none⟩)] [pts p (ZP dp ap x),Dk dp d,Ar ap cap peak bufs] (tZ8 p dp ap d x cap (mx peak (ZN bufs+D.per d)) bufs):=fun H hs=>by
 have hp:=Ok.per_le hok;apply dZ7.ok;unfold dZ7;refine hs.nw fun bp H hs=>?_
 refine hs.nw fun bc H hs=>?_
 refine hs.ld 3 rfl rfl ?_;simp only[HV];have h0:ctr bc []=pts bc (.obj (.cells #[.int .u32 0,.int .i64 0] 204)):=by
  unfold ctr CrcP.counter;rfl
 have hs:Sep [pts p (ZP dp ap x),Dk dp d,Ar ap cap peak bufs,pts bp (.obj (.cells #[.pointer (some ⟨p,0,none⟩)] 157)),ctr bc []] H:=by rw[h0];exact hs
 refine oZ5 (peak:=peak) (bufs:=bufs) (cap:=cap) (B:=ctr bc []) _ 122 (tZ7 bp bc) hok hcap hs fun b rb vb H hbm hs=>?_
 have e9:(x.w:Int)-((0*D.per d:Nat):Int)=x.w:=by rw[Nat.zero_mul];omega
 have e0:(if 0*D.per d<x.w then 0*D.per d else x.w)=0:=by rw[Nat.zero_mul,if_pos (show 0<x.w from hx.w1)]
 refine⟨x.w+2,?_⟩;have t:=qZu (p:=p) (dp:=dp) (ap:=ap) (bp:=bp) (bc:=bc) (b:=b) (rb:=rb) (mb:=D.per d) (vb:=vb) (d:=d) (x:=x) (cap:=cap) (pk:=mx peak (ZN bufs+D.per d)) (bufs:=bufs)
  (fun v2 H3=>DI .i64 v2 fun x1=>BIf (x1 !=(0:Int)) (∃ M,tZ8 p dp ap d x cap (mx peak (ZN bufs+D.per d)) bufs (.tuple #[.int .u32 0,.int .i64 x1]:Value) M∧Sep M H3)
   (Zc prog 126 #[.pointer (some (⟨bc,0,none⟩:Addr))] H3 fun v3 H4=>DI .u32 v3 fun x2=>∃ M,tZ8 p dp ap d x cap (mx peak (ZN bufs+D.per d)) bufs (.tuple #[.int .u32 x2,.int .i64 0]:Value) M∧Sep M H4))
  hok hl hbm hx ho (fun H hfu hs=>by
   simp only[HV];refine ZB rfl ?_;have hs:Sep [pts p (ZP dp ap x),Dk dp (D.rdG d (nS (D.per d) x.w)),Ar ap cap (mx peak (ZN bufs+D.per d)) bufs,pts bc (CrcP.counter (Go.Crc.sum (form (pws d x 0 x.w))) (8*(pws d x 0 x.w).length))] H:=hs;refine Zc.use (CrcP.uZK bc _ _ H (hs.get 3 rfl)) ?_
   try simp only[HV]
   exact⟨_,.inl ⟨hfu,rfl,rfl⟩,hs.re [0,1,2] rfl⟩) (fun j H pre hj hfu hs=>by
   simp only[HV];refine ZK (by decide) ?_;exact⟨_,.inr ⟨j,hj,hfu,rfl,rfl⟩,hs.re [0,1,2] rfl⟩) x.w 0 (List.replicate (D.per d) 0) H (by rw[Nat.zero_add];exact Nat.le_mul_of_pos_right _ (by omega)) (Nat.zero_le _) (by omega) (by simp)
 rw[e0,e9]at t;exact t hs
end
end Str
namespace W
open Go Go.Hw
theorem dZS :prog.follows .mixedOrders=true:=by kernel_rfl
def fZ1 (A1:Option Addr)(n1:Nat)(m1:Nat)(x1:Int)(H:Hp)(K:Value→Hp→Prop):Prop:=
 Hz 95 #[.int .i64 (n1:Int)] H fun v1 H1=>iZe v1 fun x2 c1=>(BIf (!c1) (K (.tuple #[.int .i64 0,.int .i64 0,.int .i64 4]) H1) (BIf (decide (x2>x1)) (K (.tuple #[.int .i64 0,.int .i64 0,.int .i64 14]) H1) (Hz 96 #[.slice A1 n1 m1] H1 fun v4 H2=>iZe v4 fun x3 c2=>(BIf (!c2) (K (.tuple #[.int .i64 0,.int .i64 x3,.int .i64 3]) H2) (K (.tuple #[.int .i64 x2,.int .i64 0,.int .i64 0]) H2)))))
theorem fZ1.ok (A1:Option Addr)(n1:Nat)(m1:Nat)(x1:Int)(H:Hp)(K:Value→Hp→Prop)(h:fZ1 A1 n1 m1 x1 H K):Zc prog 59 #[.slice A1 n1 m1,.int .i64 x1] H K:=
 Zr Tryz.func59 rfl (nbl rfl) (Zf (Λ:=Zn.none (fun _=>none)) dZS _ _ _ _ _ (Eq.mp (by kernel_rfl) h) (Zt _ _ _ _ _))
def fZw (x1:Int)(x2:Int)(x3:Int)(x4:Int)(H:Hp)(K:Value→Hp→Prop):Prop:=
 HcB 113 #[.int .i64 x1,.int .i64 x3] H fun c1 H1=>BIf (!c1) (K (.tuple #[.slice none 0 0,.int .i64 1]) H1) (BIf (decide (x2<0)) (K (.tuple #[.slice none 0 0,.int .i64 18]) H1) (BIf (decide (x2>1)) (K (.tuple #[.slice none 0 0,.int .i64 18]) H1) (HcI 114 #[.int .i64 x1,.int .i64 x3] H1 fun x5 H2=>BIf (decide (x4<x5)) (K (.tuple #[.slice none 0 0,.int .i64 6]) H2) (HcB 115 #[.int .i64 x1,.int .i64 x3,.int .i64 x4] H2 fun c2 H3=>BIf c2 (BIf (decide (x1≤(20:Int))) ((0≤(IntKind.u64.wrap x1)∧HcW 117 #[.int .i64 x1,.int .i64 x2] H3 fun x6 H4=>HcA 116 #[.agg #[.int .i64 1,.int .i64 (aZY .i64 1 (IntKind.u64.wrap x1))],.int .i64 0,.int .i64 3,.int .i64 x2,.int .i64 (-1),.int .u64 x6] H4 fun y1 H5=>eZj y1.toList fun x7 x8 x9 x10 x11 x12 x13 x14=>(Nw H5 (.row [.int .i64 x7,.int .i64 x8,.int .i64 x9,.int .i64 x10,.int .u64 x11,.int .i64 x12,.int .i64 x13,.int .i64 x14] 122 8) fun b1 H6=>K (.tuple #[.slice (some ⟨b1,0,none⟩) 1 1,.int .i64 0]) H6))) (HcS 118 #[.int .i64 x1,.int .i64 x2] H3 fun A1 n1 m1 H7=>K (.tuple #[.slice A1 n1 m1,.int .i64 0]) H7)) (HcS 118 #[.int .i64 x1,.int .i64 x2] H3 fun A2 n2 m2 H8=>K (.tuple #[.slice A2 n2 m2,.int .i64 0]) H8)))))
theorem fZw.ok (x1:Int)(x2:Int)(x3:Int)(x4:Int)(H:Hp)(K:Value→Hp→Prop)(h:fZw x1 x2 x3 x4 H K):Zc prog 77 #[.int .i64 x1,.int .i64 x2,.int .i64 x3,.int .i64 x4] H K:=
 Zr Tryz.func77 rfl (nbl rfl) (Zf (Λ:=Zn.none (fun _=>none)) dZS _ _ _ _ _ (Eq.mp (by kernel_rfl) h) (Zt _ _ _ _ _))
def fZ2 (x1:Int)(x2:Int)(H:Hp)(K:Value→Hp→Prop):Prop:=
 HcB 113 #[.int .i64 x1,.int .i64 x2] H fun c1 H1=>BIf (!c1) (K (.tuple #[.int .i64 0,.int .i64 1]) H1) (HcI 114 #[.int .i64 x1,.int .i64 x2] H1 fun x3 H2=>K (.tuple #[.int .i64 x3,.int .i64 0]) H2)
theorem fZ2.ok (x1:Int)(x2:Int)(H:Hp)(K:Value→Hp→Prop)(h:fZ2 x1 x2 H K):Zc prog 90 #[.int .i64 x1,.int .i64 x2] H K:=
 Zr Tryz.func90 rfl (nbl rfl) (Zf (Λ:=Zn.none (fun _=>none)) dZS _ _ _ _ _ (Eq.mp (by kernel_rfl) h) (Zt _ _ _ _ _))
def gZL (x1:Int)(x2:Int)(H:Hp)(K:Value→Hp→Prop):Prop:=
 BIf (decide (x1≥0)) (BIf (decide (x1≤(32:Int))) (BIf (decide (x2≥4)) (BIf (decide (x2≤(512:Int))) (K (.bool ((aZF .i64 x2 (IntKind.i64.wrap (x2-1)))==0)) H) (K (.bool false) H)) (K (.bool false) H)) (K (.bool false) H)) (K (.bool false) H)
theorem gZL.ok (x1:Int)(x2:Int)(H:Hp)(K:Value→Hp→Prop)(h:gZL x1 x2 H K):Zc prog 113 #[.int .i64 x1,.int .i64 x2] H K:=
 Zr Tryz.func113 rfl (nbl rfl) (Zf (Λ:=Zn.none (fun _=>none)) dZS _ _ _ _ _ (Eq.mp (by kernel_rfl) h) (Zt _ _ _ _ _))
def fZ4 (x1:Int)(x2:Int)(H:Hp)(K:Value→Hp→Prop):Prop:=
 ((2:Int)≠0∧IntKind.i64=IntKind.i64∧(0≤(IntKind.u64.wrap (IntKind.i64.wrap (Int.tdiv (IntKind.i64.wrap (x1+1)) 2)))∧K (.int .i64 (IntKind.i64.wrap ((aZY .i64 2 (IntKind.u64.wrap (IntKind.i64.wrap (Int.tdiv (IntKind.i64.wrap (x1+1)) 2))))+x2))) H))
theorem fZ4.ok (x1:Int)(x2:Int)(H:Hp)(K:Value→Hp→Prop)(h:fZ4 x1 x2 H K):Zc prog 114 #[.int .i64 x1,.int .i64 x2] H K:=
 Zr Tryz.func114 rfl (nbl rfl) (Zf (Λ:=Zn.none (fun _=>none)) dZS _ _ _ _ _ (Eq.mp (by kernel_rfl) h) (Zt _ _ _ _ _))
def fZ3 (x1:Int)(x2:Int)(x3:Int)(H:Hp)(K:Value→Hp→Prop):Prop:=
 HcB 113 #[.int .i64 x1,.int .i64 x2] H fun c1 H1=>BIf c1 ((0≤(IntKind.u64.wrap x1)∧K (.bool (decide ((IntKind.i64.wrap ((aZY .i64 2 (IntKind.u64.wrap x1))+x2))≤x3))) H1)) (K (.bool false) H1)
theorem fZ3.ok (x1:Int)(x2:Int)(x3:Int)(H:Hp)(K:Value→Hp→Prop)(h:fZ3 x1 x2 x3 H K):Zc prog 115 #[.int .i64 x1,.int .i64 x2,.int .i64 x3] H K:=
 Zr Tryz.func115 rfl (nbl rfl) (Zf (Λ:=Zn.none (fun _=>none)) dZS _ _ _ _ _ (Eq.mp (by kernel_rfl) h) (Zt _ _ _ _ _))
def fZx (x1:Int)(x2:Int)(x3:Int)(x4:Int)(x5:Int)(x6:Int)(x7:Int)(H:Hp)(K:Value→Hp→Prop):Prop:=
 Nw H (.obj (.cells #[.int .i64 x1,.int .i64 x2] 118)) fun b1 H1=>Nw H1 (.obj (.cells #[.int .i64 0,.int .i64 0,.int .i64 0,.int .i64 0,.int .u64 0,.int .i64 0,.int .i64 0,.int .i64 0] 122)) fun b2 H2=>LdA H2 ⟨b1,0,none⟩ 2 fun l1=>iZH l1.toArray.toList fun x8 x9=>(StA H2 ⟨b2,0,none⟩ #[.int .i64 x8,.int .i64 x9,.int .i64 x5,.int .i64 x6,.int .u64 x7,.int .i64 2,.int .i64 x3,.int .i64 x4] 8 fun H3=>LdA H3 ⟨b2,0,none⟩ 8 fun l4=>K (.agg l4.toArray) H3)
theorem fZx.ok (x1:Int)(x2:Int)(x3:Int)(x4:Int)(x5:Int)(x6:Int)(x7:Int)(H:Hp)(K:Value→Hp→Prop)(h:fZx x1 x2 x3 x4 x5 x6 x7 H K):Zc prog 116 #[.agg #[.int .i64 x1,.int .i64 x2],.int .i64 x3,.int .i64 x4,.int .i64 x5,.int .i64 x6,.int .u64 x7] H K:=
 Zr Tryz.func116 rfl (nbl rfl) (Zf (Λ:=Zn.none (fun _=>none)) dZS _ _ _ _ _ (Eq.mp (by kernel_rfl) h) (Zt _ _ _ _ _))
def fZ5 (x1:Int)(x2:Int)(H:Hp)(K:Value→Hp→Prop):Prop:=
 BIf (x2==0) (K (.int .u64 1) H) (Hz 159 #[.int .i64 x1] H fun v1 H1=>gZ6 v1 fun x3 x4=>(K (.int .u64 x3) H1))
theorem fZ5.ok (x1:Int)(x2:Int)(H:Hp)(K:Value→Hp→Prop)(h:fZ5 x1 x2 H K):Zc prog 117 #[.int .i64 x1,.int .i64 x2] H K:=
 Zr Tryz.func117 rfl (nbl rfl) (Zf (Λ:=Zn.none (fun _=>none)) dZS _ _ _ _ _ (Eq.mp (by kernel_rfl) h) (Zt _ _ _ _ _))
def gZM (x1:Int)(x2:Int)(H:Hp)(K:Value→Hp→Prop):Prop:=
 Hz 160 #[.int .i64 x1] H fun v1 H1=>fZW v1 fun y1 x3=>(Nw H1 (.obj (.cells #[.int .i64 0,.int .i64 0] 118)) fun b1 H2=>StA H2 ⟨b1,0,none⟩ y1 2 fun H3=>LdA H3 ⟨b1,0,none⟩ 2 fun l4=>HcA 161 #[.agg l4.toArray] H3 fun y2 H4=>Nw H4 (.obj (.cells #[.int .i64 0,.int .i64 0] 118)) fun b2 H5=>StA H5 ⟨b2,0,none⟩ y2 2 fun H6=>LdA H6 ⟨b1,0,none⟩ 2 fun l5=>QcA 162 #[.agg l5.toArray,.int .i64 0,.int .i64 1] H6 fun y3=>LdA H6 ⟨b2,0,none⟩ 2 fun l6=>QcA 116 #[.agg l6.toArray,.int .i64 1,.int .i64 2,.int .i64 x2,.int .i64 x1,.int .u64 1] H6 fun y4=>LdA H6 ⟨b2,0,none⟩ 2 fun l7=>QcA 162 #[.agg l7.toArray,.int .i64 2,.int .i64 1] H6 fun y5=>LdA H6 ⟨b1,0,none⟩ 2 fun l8=>QcW 117 #[.int .i64 x1,.int .i64 x2] H6 fun x4=>QcA 116 #[.agg l8.toArray,.int .i64 1,.int .i64 2,.int .i64 x2,.int .i64 (-1),.int .u64 x4] H6 fun y6=>LdA H6 ⟨b1,0,none⟩ 2 fun l9=>QcA 162 #[.agg l9.toArray,.int .i64 2,.int .i64 3] H6 fun y7=>eZj y3.toList fun x5 x6 x7 x8 x9 x10 x11 x12=>(eZj y4.toList fun x13 x14 x15 x16 x17 x18 x19 x20=>(eZj y5.toList fun x21 x22 x23 x24 x25 x26 x27 x28=>(eZj y6.toList fun x29 x30 x31 x32 x33 x34 x35 x36=>(eZj y7.toList fun x37 x38 x39 x40 x41 x42 x43 x44=>(Nw H6 (.row [.int .i64 x5,.int .i64 x6,.int .i64 x7,.int .i64 x8,.int .u64 x9,.int .i64 x10,.int .i64 x11,.int .i64 x12,.int .i64 x13,.int .i64 x14,.int .i64 x15,.int .i64 x16,.int .u64 x17,.int .i64 x18,.int .i64 x19,.int .i64 x20,.int .i64 x21,.int .i64 x22,.int .i64 x23,.int .i64 x24,.int .u64 x25,.int .i64 x26,.int .i64 x27,.int .i64 x28,.int .i64 x29,.int .i64 x30,.int .i64 x31,.int .i64 x32,.int .u64 x33,.int .i64 x34,.int .i64 x35,.int .i64 x36,.int .i64 x37,.int .i64 x38,.int .i64 x39,.int .i64 x40,.int .u64 x41,.int .i64 x42,.int .i64 x43,.int .i64 x44] 122 40) fun b3 H7=>K (.slice (some ⟨b3,0,none⟩) 5 5) H7))))))
theorem gZM.ok (x1:Int)(x2:Int)(H:Hp)(K:Value→Hp→Prop)(h:gZM x1 x2 H K):Zc prog 118 #[.int .i64 x1,.int .i64 x2] H K:=
 Zr Tryz.func118 rfl (nbl rfl) (Zf (Λ:=Zn.none (fun i=>match Nat.beq i 3 with|true=>some ([],[0,1,2,3,4,5,6,7,8,9,10,11,12,13,14,15],16)|false=>none)) dZS _ _ _ _ _ (Eq.mp (by kernel_rfl) h) (Zt _ _ _ _ _))
def gZN (x1:Int)(x2:Int)(x3:Int)(x4:Int)(H:Hp)(K:Value→Hp→Prop):Prop:=
 Nw H (.obj (.cells #[.int .i64 x1,.int .i64 x2] 118)) fun b1 H1=>Nw H1 (.obj (.cells #[.int .i64 0,.int .i64 0,.int .i64 0,.int .i64 0,.int .u64 0,.int .i64 0,.int .i64 0,.int .i64 0] 122)) fun b2 H2=>LdA H2 ⟨b1,0,none⟩ 2 fun l1=>iZH l1.toArray.toList fun x5 x6=>(StA H2 ⟨b2,0,none⟩ #[.int .i64 x5,.int .i64 x6,.int .i64 0,.int .i64 (-1),.int .u64 1,.int .i64 1,.int .i64 x3,.int .i64 x4] 8 fun H3=>LdA H3 ⟨b2,0,none⟩ 8 fun l4=>K (.agg l4.toArray) H3)
theorem gZN.ok (x1:Int)(x2:Int)(x3:Int)(x4:Int)(H:Hp)(K:Value→Hp→Prop)(h:gZN x1 x2 x3 x4 H K):Zc prog 162 #[.agg #[.int .i64 x1,.int .i64 x2],.int .i64 x3,.int .i64 x4] H K:=
 Zr Tryz.func162 rfl (nbl rfl) (Zf (Λ:=Zn.none (fun _=>none)) dZS _ _ _ _ _ (Eq.mp (by kernel_rfl) h) (Zt _ _ _ _ _))
end W
namespace Pln
open Go Go.Hw W Shp Fft Ker Pas Str Dsk Trn
theorem pZV :∀ k:Nat,k<61→aZY .i64 2 (k:Int)=((2*2^k:Nat):Int):=by decide +kernel
theorem cZT {k:Nat}(hk:k≤32):2^k≤4294967296:=Nat.pow_le_pow_right (n:=2) (by omega) hk
theorem fZO {per:Nat}(hp:cZR (per:Int)=true):4≤per∧per≤512:=by have:=eZ9 hp;omega
section
variable {k per words : Nat} (hk : k ≤ 32) (hp : cZR (per : Int) = true)
include hk
theorem oZl (hp:per≤512)(H:Hp):Zc prog 114 #[.int .i64 (k:Int),.int .i64 (per:Int)] H (RetE (.int .i64 (bZ2 k per:Int)) H):=by
 have h1:=cZT (k:=(k+1)/2) (by omega);apply fZ4.ok;unfold fZ4;rw[ZV (x:=(k:Int)+1) (by omega) (by omega),show Int.tdiv ((k:Int)+1) 2=(((k+1)/2:Nat):Int)from rfl,bZi (by omega),bZ1 (by omega),pZV _ (by omega),ZV (by omega) (by omega)];refine⟨by decide,by simp,by omega,?_⟩;exact RetE.of (by unfold bZ2;rw[Int.natCast_add])
include hp
theorem eZ8 (H:Hp):Zc prog 113 #[.int .i64 (k:Int),.int .i64 (per:Int)] H (RetE (.bool true) H):=by
 have h:=fZO hp;apply gZL.ok;unfold gZL;refine Zw (by omega) (Zw (by omega) (Zw (by omega) (Zw (by omega) ?_)));rw[(mZe (p:=(per:Int)) (by omega) (by omega)).2 hp];exact RetE.mk _ _
theorem sZ7 (H:Hp):Zc prog 90 #[.int .i64 (k:Int),.int .i64 (per:Int)] H (RetE (.tuple #[.int .i64 (bZ2 k per:Int),.int .i64 0]) H):=by
 have h:=fZO hp;apply fZ2.ok;unfold fZ2;refine Zc.use (eZ8 hk hp H) ?_
 try simp only[HV]
 refine Zc.use (oZl hk (by omega) H) ?_
 try simp only[HV]
 exact RetE.mk _ _
theorem tZd (hw:words≤16777216)(H:Hp):Zc prog 115 #[.int .i64 (k:Int),.int .i64 (per:Int),.int .i64 (words:Int)] H (RetE (.bool (decide (2*2^k+per≤words))) H):=by
 have h:=fZO hp;have h1:=cZT hk;apply fZ3.ok;unfold fZ3;refine Zc.use (eZ8 hk hp H) ?_
 try simp only[HV]
 rw[bZ1 (by omega),pZV _ (by omega),ZV (by omega) (by omega)];refine⟨by omega,?_⟩;exact RetE.of (by congr 1;rw[decide_eq_decide];omega)
end
theorem oZM {k:Nat}(hk:k≤32)(d:Bool)(H:Hp):Zc prog 117 #[.int .i64 (k:Int),.int .i64 (if d=true then 1 else 0)] H (RetE (.int .u64 ((eZW d k).toNat:Int)) H):=by
 apply fZ5.ok;unfold fZ5;cases d with
 |false=>exact aZb rfl (RetE.mk _ _)
 |true=>
  refine aZm (by decide) ?_;refine Zc.use (nZY hk H) ?_
  try simp only[HV]
  exact RetE.of (by unfold eZW;rw[if_pos rfl,lZR])
theorem mZo (a b f o:Int)(H:Hp):Zc prog 162 #[.agg #[.int .i64 a,.int .i64 b],.int .i64 f,.int .i64 o] H (RetE (.agg #[.int .i64 a,.int .i64 b,.int .i64 0,.int .i64 (-1),.int .u64 1,.int .i64 1,.int .i64 f,.int .i64 o]) H):=Zc.ret (by
 apply gZN.ok;unfold gZN;refine(Sep.start H).nw fun b1 H1 hs=>?_
 refine hs.nw fun b2 H1 hs=>?_
 refine hs.ldw 1 rfl rfl ?_;simp only[HV];refine hs.stw 2 rfl rfl rfl rfl fun H1 hs=>?_
 refine hs.ldw 2 rfl rfl ?_;exact hs.fin 0 rfl _)
theorem jZd (a b f o di tw sh:Int)(H:Hp):Zc prog 116 #[.agg #[.int .i64 a,.int .i64 b],.int .i64 f,.int .i64 o,.int .i64 di,.int .i64 tw,.int .u64 sh] H (RetE (.agg #[.int .i64 a,.int .i64 b,.int .i64 di,.int .i64 tw,.int .u64 sh,.int .i64 2,.int .i64 f,.int .i64 o]) H):=Zc.ret (by
 apply fZx.ok;unfold fZx;refine(Sep.start H).nw fun b1 H1 hs=>?_
 refine hs.nw fun b2 H1 hs=>?_
 refine hs.ldw 1 rfl rfl ?_;simp only[HV];refine hs.stw 2 rfl rfl rfl rfl fun H1 hs=>?_
 refine hs.ldw 2 rfl rfl ?_;exact hs.fin 0 rfl _)
theorem rZt (a b:Int)(H:Hp):Zc prog 161 #[.agg #[.int .i64 a,.int .i64 b]] H (RetE (.agg #[.int .i64 b,.int .i64 a]) H):=Zc.ret (by
 apply eZ2.ok;unfold eZ2;refine(Sep.start H).nw fun b1 H1 hs=>?_
 refine hs.nw fun b2 H1 hs=>?_
 refine hs.ldf 1 rfl rfl ?_;simp only[HV];refine hs.ldf 1 rfl rfl ?_;simp only[HV];refine hs.stw 2 rfl rfl rfl rfl fun H1 hs=>?_
 refine hs.ldw 2 rfl rfl ?_;exact hs.fin 0 rfl _)
theorem tZ0 {k a:Nat}(hk:k≤32)(ha:a≤k)(H:Hp):Zc prog 209 #[.int .i64 (k:Int),.int .i64 (a:Int)] H (RetE (.agg #[.int .i64 ((2^a:Nat):Int),.int .i64 ((2^(k-a):Nat):Int)]) H):=Zc.ret (by
 apply fZA.ok;unfold fZA;refine(Sep.start H).nw fun b1 H1 hs=>?_
 rw[ZV (x:=(k:Int)-a) (by omega) (by omega),show(k:Int)-a=((k-a:Nat):Int) by omega,bZ1 (by omega),bZ1 (by omega),Lay.gZB (by omega),Lay.gZB (by omega)];refine⟨by omega,by omega,?_⟩;refine hs.stw 1 rfl rfl rfl rfl fun H1 hs=>?_
 refine hs.ldw 1 rfl rfl ?_;exact hs.fin 0 rfl _)
theorem tZT {k:Nat}(hk:k≤32)(H:Hp):Zc prog 208 #[.int .i64 (k:Int)] H (RetE (.bool true) H):=by
 apply gZb.ok;unfold gZb;refine Zw (by omega) ?_;rw[decide_eq_true (by omega)];exact RetE.mk _ _
theorem uZO {k:Nat}(hk:k≤32)(H:Hp):Zc prog 160 #[.int .i64 (k:Int)] H (RetE (.tuple #[.agg #[.int .i64 ((2^(k/2):Nat):Int),.int .i64 ((2^(k-k/2):Nat):Int)],.int .i64 0]) H):=Zc.ret (by
 apply fZ8.ok;unfold fZ8;refine(Sep.start H).nw fun b1 H1 hs=>?_
 refine Zc.use (tZT hk H1) ?_
 try simp only[HV]
 rw[show Int.tdiv (k:Int) 2=((k/2:Nat):Int)from rfl,bZi (by omega)];refine⟨by decide,by simp,?_⟩;refine Zc.use (tZ0 hk (a:=k/2) (by omega) H1) ?_
 try simp only[HV]
 refine hs.stw 1 rfl rfl rfl rfl fun H1 hs=>?_
 refine hs.ldw 1 rfl rfl ?_;exact hs.fin 0 rfl _)
def bZA (ps:List Pz):List Value:=ps.flatMap fun p=>p.c.toList
theorem mZ0 :∀ ps:List Pz,(bZA ps).length=ps.length*8
 | []=>rfl
 |p::ps=>by
  show(p.c.toList++bZA ps).length=_
  rw[List.length_append,mZ0 ps,List.length_cons,Nat.succ_mul];have:p.c.toList.length=8:=rfl;omega
theorem mZZ :∀(ps:List Pz) (i:Nat) (p:Pz),ps[i]? =some p→((bZA ps).drop (i*8)).take 8=p.c.toList
 | [],i,p,h=>by simp at h
 |q::ps,0,p,h=>by
  cases h;show((q.c.toList++bZA ps).drop (0*8)).take 8=_
  rw[Nat.zero_mul,List.drop_zero,List.take_append_of_le_length (by show 8≤8;omega)];rfl
 |q::ps,i+1,p,h=>by
  show((q.c.toList++bZA ps).drop ((i+1)*8)).take 8=_
  have e:(i+1)*8=q.c.toList.length+i*8:=by have:q.c.toList.length=8:=rfl;omega
  rw[e,List.drop_append,List.drop_eq_nil_of_le (by omega),List.nil_append,Nat.add_sub_cancel_left];exact mZZ ps i p (by simpa using h)
theorem vZe {k:Nat}(hk:k≤32)(d:Bool):Tr prog 118 #[.int .i64 (k:Int),.int .i64 (if d=true then 1 else 0)] [] fun v M=>∃ b,v= .slice (some ⟨b,0,none⟩) 5 5∧M=[pts b (.row (bZA (hZp d k)) 122 40)]:=fun H hs=>by
 apply gZM.ok;unfold gZM;refine Zc.use (uZO hk H) ?_
 try simp only[HV]
 refine hs.nw fun b1 H hs=>?_
 refine hs.stw 0 rfl rfl rfl rfl fun H hs=>?_;refine hs.ldw 0 rfl rfl ?_;refine Zc.use (rZt _ _ H) ?_
 try simp only[HV]
 refine hs.nw fun b2 H hs=>?_
 refine hs.stw 1 rfl rfl rfl rfl fun H hs=>?_;refine hs.ldw 0 rfl rfl ?_;refine aZc.use (mZo _ _ 0 1 H) ?_
 try simp only[HV]
 refine hs.ldw 1 rfl rfl ?_;refine aZc.use (jZd _ _ 1 2 (if d=true then 1 else 0) (k:Int) 1 H) ?_
 try simp only[HV]
 refine hs.ldw 1 rfl rfl ?_;refine aZc.use (mZo _ _ 2 1 H) ?_
 try simp only[HV]
 refine hs.ldw 0 rfl rfl ?_;refine aZc.use (oZM hk d H) ?_
 try simp only[HV]
 refine aZc.use (jZd _ _ 1 2 (if d=true then 1 else 0) (-1) ((eZW d k).toNat:Int) H) ?_
 try simp only[HV]
 refine hs.ldw 0 rfl rfl ?_;refine aZc.use (mZo _ _ 2 3 H) ?_
 try simp only[HV]
 refine hs.nw fun b3 H hs=>?_
 exact⟨_,⟨b3,rfl,rfl⟩,hs.re [2] rfl⟩
def pZD (d:Bool)(k per words:Nat)(v:Value)(M:List As):Prop:=∃ b,v= .tuple #[.slice (some ⟨b,0,none⟩) (aZM d k per words).length (aZM d k per words).length,.int .i64 0]∧M=[pts b (.row (bZA (aZM d k per words)) 122 ((aZM d k per words).length*8))]
theorem rZp {k per words:Nat}(hk:k≤32)(hp:cZR (per:Int)=true)(hw:bZ2 k per≤words∧words≤16777216)(d:Bool):
  Tr prog 77 #[.int .i64 (k:Int),.int .i64 (if d=true then 1 else 0),.int .i64 (per:Int),.int .i64 (words:Int)] [] (pZD d k per words):=fun H hs=>by
 have h:=fZO hp;have h1:=cZT hk;apply fZw.ok;unfold fZw;refine Zc.use (eZ8 hk hp H) ?_
 try simp only[HV]
 refine Zm (by cases d<;>decide) (Zm (by cases d<;>decide) ?_);refine Zc.use (oZl hk h.2 H) ?_
 try simp only[HV]
 refine Zm (by omega) ?_;refine Zc.use (tZd hk hp hw.2 H) ?_
 try simp only[HV]
 have long:jZC k per words=false→Zc prog 118 #[.int .i64 (k:Int),.int .i64 (if d=true then 1 else 0)] H fun v14 H7=>DSl v14 fun A1 n1 m1=>∃ M,pZD d k per words (.tuple #[.slice A1 n1 m1,.int .i64 0]) M∧Sep M H7:=fun hb=>by
  refine(vZe hk d).use hs [] rfl rfl ?_;rintro _ _ H1 ⟨b,rfl,rfl⟩ hs;simp only[HV];have e:aZM d k per words=hZp d k:=by unfold aZM;rw[if_neg (by rw[hb];simp)]
  exact⟨_,⟨b,by rw[e];rfl,rfl⟩,by rw[e];exact hs⟩
 by_cases hs1:2*2^k+per≤words
 ·refine Zw hs1 ?_;by_cases hk2:k≤20
  ·refine Zw (by omega) ?_;rw[bZ1 (by omega),Lay.gZB (by omega)];refine⟨by omega,?_⟩;refine Zc.use (oZM hk d H) ?_
   try simp only[HV]
   refine Zc.use (jZd _ _ 0 3 (if d=true then 1 else 0) (-1) ((eZW d k).toNat:Int) H) ?_
   try simp only[HV]
   refine hs.nw fun b1 H hs=>?_
   have e:aZM d k per words=[jZD d k]:=by unfold aZM;rw[if_pos (show jZC k per words=true from decide_eq_true ⟨hk2,hs1⟩)]
   exact⟨_,⟨b1,by rw[e];rfl,rfl⟩,by rw[e];exact hs⟩
  ·refine Zm (by omega) (long (decide_eq_false (by omega)))
 ·exact Zm hs1 (long (decide_eq_false (by omega)))
end Pln
namespace W
open Go Go.Hw
theorem gZx :prog.follows .mixedOrders=true:=by kernel_rfl
def cZi.j6 (K:Value→Hp→Prop)(p5:Option Addr)(p6:Option Addr)(x6:Int)(a1:Addr)(a2:Addr)(p7:Option Addr)(p8:Option Addr)(H:Hp):Prop:=
 Hz 79 #[.pointer p7] H fun v7 H4=>iZJ v7 fun x7 x8=>(BIf (x8 !=0) (K (.tuple #[.int .u32 0,.int .i64 x8]) H4) (BIf (x7 !=x6) (K (.tuple #[.int .u32 0,.int .i64 9]) H4) (LdA H4 a2 8 fun l10=>LeI H4 (a1.add 1) fun x9=>Hz 83 #[.pointer p7,.pointer p8,.agg l10.toArray,.pointer p6,.int .i64 x9] H4 fun v11 H5=>iZJ v11 fun x10 x11=>(BIf (x11 !=0) (K (.tuple #[.int .u32 0,.int .i64 x11]) H5) (HcI 55 #[.pointer p5] H5 fun x12 H6=>BIf (x12 !=0) (K (.tuple #[.int .u32 0,.int .i64 x12]) H6) (K (.tuple #[.int .u32 x10,.int .i64 0]) H6))))))
def cZi (p1:Option Addr)(p2:Option Addr)(y1:Array Value)(x1:Int)(y2:Array Value)(x2:Int)(H:Hp)(K:Value→Hp→Prop):Prop:=
 Nw H (.obj (.cells y1 101)) fun b1 H1=>Nw H1 (.obj (.cells y2 122)) fun b2 H2=>LdA H2 ⟨b1,0,none⟩ 17 fun l1=>LdA H2 ⟨b2,0,none⟩ 8 fun l2=>Hz 82 #[.pointer p1,.pointer p2,.agg l1.toArray,.int .i64 x1,.agg l2.toArray] H2 fun v1 H3=>uZr v1 fun p3 p4 x3=>(BIf (x3 !=0) (K (.tuple #[.int .u32 0,.int .i64 x3]) H3) (LeI H3 ((⟨b2,0,none⟩:Addr).add 5) fun x4=>BIf (x4 !=1) (LeI H3 ((⟨b2,0,none⟩:Addr).add 5) fun x5=>BIf (x5 !=2) (K (.tuple #[.int .u32 0,.int .i64 18]) H3) (cZi.j6 K p1 p2 x2 ⟨b1,0,none⟩ ⟨b2,0,none⟩ p3 p4 H3)) (cZi.j6 K p1 p2 x2 ⟨b1,0,none⟩ ⟨b2,0,none⟩ p3 p4 H3)))
def cZi.Λ (K:Value→Hp→Prop):Zn:=⟨fun i=>match Nat.beq i 6 with|true=>some (fun E D H=>eP E 0 fun p5=>eP E 1 fun p6=>eI E 5 .u32 fun x6=>eN E 8 fun a1=>eN E 10 fun a2=>eP E 14 fun p7=>eP E 15 fun p8=>Zo D (cZi.j6 K p5 p6 x6 a1 a2 p7 p8 H))|false=>none,fun i=>none,(fun _=>none)⟩
theorem cZi.ok (p1:Option Addr)(p2:Option Addr)(y1:Array Value)(x1:Int)(y2:Array Value)(x2:Int)(H:Hp)(K:Value→Hp→Prop)(h:cZi p1 p2 y1 x1 y2 x2 H K):Zc prog 44 #[.pointer p1,.pointer p2,.agg y1,.int .i64 x1,.agg y2,.int .u32 x2] H K:=
 Zr Tryz.func44 rfl (nbl rfl) (Zf (Λ:=(cZi.Λ K)) gZx _ _ _ _ _ (Eq.mp (by kernel_rfl) h) (Zb Za rfl (Zb Za rfl (aZH (Zu (Zb Za rfl (Zk (Zb Za rfl Zy) (Zb Za rfl (Zk (Zb Za rfl Zy) Zl))))) rfl (fun E D H h=>by
   obtain⟨p5,e0,g2⟩:=GP h;obtain⟨p6,e1,g4⟩:=GP g2;obtain⟨x6,e5,g6⟩:=GI g4;obtain⟨a1,e8,g9⟩:=GN g6;obtain⟨a2,e10,g12⟩:=GN g9;obtain⟨p7,e14,g14⟩:=GP g12;obtain⟨p8,e15,g16⟩:=GP g14;obtain⟨rfl,h'⟩:=Zo.out g16;exact(Zf (Λ:=(cZi.Λ K)) gZx _ _ [(0,.pointer p5),(1,.pointer p6),(5,.int .u32 x6),(8,.pointer (some a1)),(10,.pointer (some a2)),(14,.pointer p7),(15,.pointer p8)] [] H (Eq.mp (by kernel_rfl) h') (Zb Za rfl (Zb (Zu (Zb Za rfl (Zk (Zb Za rfl Zy) (Zb Za rfl (Zk (Zb Za rfl Zy) Zl))))) rfl (Zb (Zb Za rfl (Zb Za rfl (Zk (Zb Za rfl Zy) Zl))) rfl (Zb (Zb Za rfl (Zb Za rfl (Zk (Zb Za rfl Zy) Zl))) rfl (Zb Za rfl Zy)))))).weaken (Ze.cons e0 (Ze.cons e1 (Ze.cons e5 (Ze.cons e8 (Ze.cons e10 (Ze.cons e14 (Ze.cons e15 (Ze.nil _)))))))) (Hp.le_refl _))))))
def gZH (p1:Option Addr)(p2:Option Addr)(y1:Array Value)(x1:Int)(x2:Int)(H:Hp)(K:Value→Hp→Prop):Prop:=
 Nw H (.obj (.cells y1 101)) fun b1 H1=>LdA H1 ⟨b1,0,none⟩ 17 fun l1=>Hz 119 #[.agg l1.toArray,.int .i64 x1,.int .i64 x2] H1 fun v1 H2=>fZW v1 fun y2 x3=>(Nw H2 (.obj (.cells #[.int .i64 0,.int .i64 0,.int .i64 0] 98)) fun b2 H3=>StA H3 ⟨b2,0,none⟩ y2 3 fun H4=>BIf (x3 !=0) (K (.tuple #[.pointer none,.int .i64 x3]) H4) (LdA H4 ⟨b2,0,none⟩ 3 fun l5=>Hz 120 #[.pointer p1,.pointer p2,.agg l5.toArray] H4 fun v4 H5=>dZ9 v4 fun p3 x4=>(K (.tuple #[.pointer p3,.int .i64 x4]) H5)))
theorem gZH.ok (p1:Option Addr)(p2:Option Addr)(y1:Array Value)(x1:Int)(x2:Int)(H:Hp)(K:Value→Hp→Prop)(h:gZH p1 p2 y1 x1 x2 H K):Zc prog 78 #[.pointer p1,.pointer p2,.agg y1,.int .i64 x1,.int .i64 x2] H K:=
 Zr Tryz.func78 rfl (nbl rfl) (Zf (Λ:=Zn.none (fun _=>none)) gZx _ _ _ _ _ (Eq.mp (by kernel_rfl) h) (Zt _ _ _ _ _))
def gZI (p1:Option Addr)(p2:Option Addr)(y1:Array Value)(x1:Int)(y2:Array Value)(H:Hp)(K:Value→Hp→Prop):Prop:=
 Nw H (.obj (.cells y1 101)) fun b1 H1=>Nw H1 (.obj (.cells y2 122)) fun b2 H2=>LdA H2 ⟨b1,0,none⟩ 17 fun l1=>LeI H2 ((⟨b2,0,none⟩:Addr).add 6) fun x2=>Hz 78 #[.pointer p1,.pointer p2,.agg l1.toArray,.int .i64 x2,.int .i64 x1] H2 fun v2 H3=>dZ9 v2 fun p3 x3=>(BIf (x3==0) (LdA H3 ⟨b1,0,none⟩ 17 fun l5=>LeI H3 ((⟨b2,0,none⟩:Addr).add 7) fun x4=>Hz 78 #[.pointer p1,.pointer p2,.agg l5.toArray,.int .i64 x4,.int .i64 x1] H3 fun v6 H4=>dZ9 v6 fun p4 x5=>(K (.tuple #[.pointer p3,.pointer p4,.int .i64 x5]) H4)) (K (.tuple #[.pointer p3,.pointer none,.int .i64 x3]) H3))
theorem gZI.ok (p1:Option Addr)(p2:Option Addr)(y1:Array Value)(x1:Int)(y2:Array Value)(H:Hp)(K:Value→Hp→Prop)(h:gZI p1 p2 y1 x1 y2 H K):Zc prog 82 #[.pointer p1,.pointer p2,.agg y1,.int .i64 x1,.agg y2] H K:=
 Zr Tryz.func82 rfl (nbl rfl) (Zf (Λ:=Zn.none (fun _=>none)) gZx _ _ _ _ _ (Eq.mp (by kernel_rfl) h) (Zt _ _ _ _ _))
def hZc (p1:Option Addr)(p2:Option Addr)(y1:Array Value)(p3:Option Addr)(x1:Int)(H:Hp)(K:Value→Hp→Prop):Prop:=
 Nw H (.obj (.cells y1 122)) fun b1 H1=>LeI H1 ((⟨b1,0,none⟩:Addr).add 5) fun x2=>BIf (x2==1) (LdA H1 (((⟨b1,0,none⟩:Addr).add 0).add 0) 2 fun l1=>Hz 131 #[.pointer p1,.pointer p2,.agg l1.toArray,.pointer p3,.int .i64 x1] H1 fun v2 H2=>iZJ v2 fun x3 x4=>(K (.tuple #[.int .u32 x3,.int .i64 x4]) H2)) (BIf (x2==2) (LdA H1 ((⟨b1,0,none⟩:Addr).add 0) 5 fun l5=>Hz 132 #[.pointer p1,.pointer p2,.agg l5.toArray,.pointer p3,.int .i64 x1] H1 fun v5 H3=>iZJ v5 fun x5 x6=>(K (.tuple #[.int .u32 x5,.int .i64 x6]) H3)) (K (.tuple #[.int .u32 0,.int .i64 18]) H1))
theorem hZc.ok (p1:Option Addr)(p2:Option Addr)(y1:Array Value)(p3:Option Addr)(x1:Int)(H:Hp)(K:Value→Hp→Prop)(h:hZc p1 p2 y1 p3 x1 H K):Zc prog 83 #[.pointer p1,.pointer p2,.agg y1,.pointer p3,.int .i64 x1] H K:=
 Zr Tryz.func83 rfl (nbl rfl) (Zf (Λ:=Zn.none (fun _=>none)) gZx _ _ _ _ _ (Eq.mp (by kernel_rfl) h) (Zt _ _ _ _ _))
def bZL.q1 (H3:Hp)(b2:Nat)(K:Value→Hp→Prop):Prop:=
 StA H3 ⟨b2,0,none⟩ #[.int .i64 0,.int .i64 0,.int .i64 0] 3 fun H4=>LdA H4 ⟨b2,0,none⟩ 3 fun l2=>K (.tuple #[.agg l2.toArray,.int .i64 1]) H4
def bZL (y1:Array Value)(x1:Int)(x2:Int)(H:Hp)(K:Value→Hp→Prop):Prop:=
 Nw H (.obj (.cells y1 101)) fun b1 H1=>Nw H1 (.obj (.cells #[.int .i64 0,.int .i64 0,.int .i64 0] 98)) fun b2 H2=>LdA H2 ⟨b1,0,none⟩ 17 fun l1=>HcB 163 #[.agg l1.toArray] H2 fun c1 H3=>BIf (!c1) (bZL.q1 H3 b2 K) (BIf (decide (x1<0)) (bZL.q1 H3 b2 K) (BIf (decide (x1≥4)) (bZL.q1 H3 b2 K) (BIf (decide (x2<0)) (bZL.q1 H3 b2 K) (LeI H3 ((⟨b1,0,none⟩:Addr).add 0) fun x3=>BIf (decide (x2>x3)) (bZL.q1 H3 b2 K) ((0≤(IntKind.u64.wrap x2)∧ixI x1 4 (LeI H3 ((((⟨b1,0,none⟩:Addr).add 5).add (x1.toNat*3)).add 0) fun x4=>LeI H3 ((⟨b1,0,none⟩:Addr).add 1) fun x5=>(x5≠0∧IntKind.i64=IntKind.i64∧StA H3 ⟨b2,0,none⟩ #[.int .i64 x4,.int .i64 (IntKind.i64.wrap ((IntKind.i64.wrap (Int.tdiv (IntKind.i64.wrap ((aZY .i64 1 (IntKind.u64.wrap x2))-1)) x5))+1)),.int .i64 (aZY .i64 1 (IntKind.u64.wrap x2))] 3 fun H9=>LdA H9 ⟨b2,0,none⟩ 3 fun l7=>K (.tuple #[.agg l7.toArray,.int .i64 0]) H9))))))))
theorem bZL.ok (y1:Array Value)(x1:Int)(x2:Int)(H:Hp)(K:Value→Hp→Prop)(h:bZL y1 x1 x2 H K):Zc prog 119 #[.agg y1,.int .i64 x1,.int .i64 x2] H K:=
 Zr Tryz.func119 rfl (nbl rfl) (Zf (Λ:=Zn.none (fun i=>match Nat.beq i 4 with|true=>some ([],[0,1,2,3,4,5,6,7,8,9,10,11,12],13)|false=>none)) gZx _ _ _ _ _ (Eq.mp (by kernel_rfl) h) (Zt _ _ _ _ _))
end W
namespace Eng
open Go Go.Hw Go.Form W Shp Dsk Str Are Trn Pas Pln
theorem wZZ :pZG prog 101 17:=⟨by kernel_rfl,by kernel_rfl,by kernel_rfl,by kernel_rfl⟩
def qZy (k p:Nat):List Int:=
 let r:Int:=Lay.aZj k p
 let w:Int:=(2^k:Nat)
 [(k:Int),(p:Int),1,8,((8*p:Nat):Int),9,r,w,9+r,r,w,9+2*r,r,w,9+3*r,r,w]
theorem qZI {per:Nat}(h:cZR (per:Int)=true):per=4∨per=8∨per=16∨per=32∨per=64∨per=128∨per=256∨per=512:=by
 unfold cZR at h;simp only[Bool.or_eq_true,beq_iff_eq]at h;omega
theorem pZF {per:Nat}(h:cZR (per:Int)=true):Lay.aZL ((per*8:Nat):Int)=per:=by
 rcases qZI h with e|e|e|e|e|e|e|e<;>subst e<;>decide
theorem mZ1 {s:Nat}(h:0<Lay.aZL s):cZR ((s/8:Nat):Int)=true:=by
 have:s=32∨s=64∨s=128∨s=256∨s=512∨s=1024∨s=2048∨s=4096:=by
  unfold Lay.aZL at h
  repeat' split at h
  all_goals omega
 rcases this with e|e|e|e|e|e|e|e<;>subst e<;>decide
theorem lZJ {k p:Nat}(hk:k≤32):Lay.aZj k p≤4294967296:=by
 have:=cZT hk;unfold Lay.aZj;have:=Nat.div_le_self (2^k-1) p;have:=Nat.two_pow_pos k;omega
section
variable {most per : Nat} (hm : most ≤ 32) (hp : cZR (per : Int) = true)
include hm hp
theorem lZu :∀ x∈qZy most per,-9223372036854775808≤x∧x≤9223372036854775807:=by
 have h1:=lZJ (p:=per) hm;have h2:=cZT hm;have h3:=fZO hp;intro x hx;unfold qZy at hx;generalize Lay.aZj most per=rr at*;generalize 2^most=ww at*;simp only[List.mem_cons,List.not_mem_nil,or_false]at hx;omega
theorem bZZ (H:Hp):Zc prog 163 #[.agg (Lay.dZh most per)] H (RetE (.bool true) H):=Zc.ret (by
 have h3:=fZO hp;apply fZr.ok;unfold fZr;refine(Sep.start H).nw fun b1 H1 hs=>?_
 refine hs.ldf 1 rfl rfl ?_;simp only[HV];refine hs.ldf 1 rfl rfl ?_;simp only[HV];rw[if_neg (by omega),ZV (x:=(per:Int)*8) (by omega) (by omega)];refine aZc.use (Lay.lZA ((per:Int)*8) H1) ?_
 try simp only[HV]
 have e:Lay.aZL ((per:Int)*8)=per:=pZF hp;rw[e];refine aZc.use (Lay.eZ8 (most:Int) (per:Int) H1) ?_
 try simp only[HV]
 rw[decide_eq_true (by omega)];refine aZN rfl ?_;refine hs.ldw 1 rfl rfl ?_;refine hs.ldf 1 rfl rfl ?_;simp only[HV];refine hs.ldf 1 rfl rfl ?_;simp only[HV];refine aZc.use (Lay.rZ4 hm (p:=per) (by omega) (by omega) H1) ?_
 try simp only[HV]
 refine uZM wZZ (a:=qZy most per) (b:=qZy most per) rfl rfl (lZu hm hp) (lZu hm hp) rfl rfl ?_;rw[decide_eq_true rfl];exact hs.fin 0 rfl _)
theorem rZi {i k:Nat}(hi:i<4)(hk:k≤most)(H:Hp):Zc prog 119 #[.agg (Lay.dZh most per),.int .i64 (i:Int),.int .i64 (k:Int)] H
  (RetE (.tuple #[.agg #[.int .i64 (((exX most per i k).f:Nat):Int),.int .i64 (((exX most per i k).s:Nat):Int),.int .i64 (((exX most per i k).w:Nat):Int)],.int .i64 0]) H):=Zc.ret (by
 have h3:=fZO hp;have h1:=cZT (k:=k) (by omega);have h4:=Nat.two_pow_pos k;have h5:=lZJ (p:=per) hm;apply bZL.ok;unfold bZL bZL.q1;refine(Sep.start H).nw fun b1 H1 hs=>?_
 refine hs.nw fun b2 H1 hs=>?_
 refine hs.ldw 1 rfl rfl ?_;rw[Array.toArray_toList];refine Zc.use (bZZ hm hp H1) ?_
 try simp only[HV]
 refine Zm (by omega) (Zm (by omega) (Zm (by omega) ?_));refine hs.ldf 1 (v:=.int .i64 most) rfl rfl ?_;simp only[HV];refine Zm (by omega) ⟨by rw[bZ1 (by omega)];omega,by omega,by omega,?_⟩;rw[Int.toNat_natCast]
 try simp only[HS]
 refine hs.ld 1 (v:=.int .i64 (Lay.exF (Lay.aZj most per) i)) rfl (by rw[mZb,Array.getElem?_toList];exact Lay.rZ3 most per i hi) ?_;simp only[HV];refine hs.ld 1 (v:=.int .i64 per) rfl rfl ?_;simp only[HV];rw[bZ1 (n:=k) (by omega),Lay.gZB (by omega),ZV (x:=((2^k:Nat):Int)-1) (by omega) (by omega),show((2^k:Nat):Int)-1=((2^k-1:Nat):Int) by omega,
  show Int.tdiv ((2^k-1:Nat):Int) (per:Int)=(((2^k-1)/per:Nat):Int)from rfl]
 have h6:=Nat.div_le_self (2^k-1) per;rw[bZi (Nat.le_trans h6 (by omega)),ZV (x:=(((2^k-1)/per:Nat):Int)+1) (by generalize(2^k-1)/per=q at *;omega) (by generalize(2^k-1)/per=q at *;omega)];refine⟨by omega,by simp,?_⟩;refine hs.stw 2 rfl rfl rfl rfl fun H1 hs=>?_
 refine hs.ldw 2 rfl rfl ?_;have e1:Lay.exF (Lay.aZj most per) i=(((exX most per i k).f:Nat):Int):=by unfold Lay.exF exX;simp
 rw[e1];exact hs.fin 0 rfl _)
end
structure hZY (d:D)(most:Nat):Prop where
 m:most≤32
 p:cZR (D.per d:Int)=true
 fit:Lay.cZN most (D.per d)≤d.sec
theorem hZY.on {d:D}{most:Nat}(h:hZY d most)(hok:Ok d){i k:Nat}(hi:i<4)(hk:k≤most):On d (exX most (D.per d) i k):=by
 have h1:=(Ok.per_le hok).1;have h2:=hZ9 (p:=D.per d) hk;have h3:=h.fit;have h4:=jZ2 (k:=k) (p:=D.per d) (by omega);have h5:=Nat.two_pow_pos k;unfold Lay.cZN at h3;have h6:i*Lay.aZj most (D.per d)≤3*Lay.aZj most (D.per d):=Nat.mul_le_mul_right _ (by omega);exact⟨h5,Nat.le_add_left 1 ((2^k-1)/D.per d),by show 9+i*Lay.aZj most (D.per d)+Lay.aZj k (D.per d)≤d.sec;omega,h4⟩
theorem hZY.prog {d d':D}{most:Nat}(h:hZY d most)(h1:d'.sec=d.sec)(h2:d'.size=d.size):hZY d' most:=by
 have e:D.per d'=D.per d:=by unfold D.per;rw[h2]
 exact⟨h.m,by rw[e];exact h.p,by rw[e,h1];exact h.fit⟩
theorem rZI {most per i j k:Nat}(hk:k≤most)(hij:i≠j):(exX most per i k).f+(exX most per i k).s≤(exX most per j k).f∨(exX most per j k).f+(exX most per j k).s≤(exX most per i k).f:=by
 have h2:=hZ9 (p:=per) hk;show 9+i*Lay.aZj most per+Lay.aZj k per≤9+j*Lay.aZj most per∨9+j*Lay.aZj most per+Lay.aZj k per≤9+i*Lay.aZj most per
 rcases Nat.lt_or_gt_of_ne hij with h|h
 ·left;have:(i+1)*Lay.aZj most per≤j*Lay.aZj most per:=Nat.mul_le_mul_right _ h;rw[Nat.succ_mul]at this;omega
 ·right;have:(j+1)*Lay.aZj most per≤i*Lay.aZj most per:=Nat.mul_le_mul_right _ h;rw[Nat.succ_mul]at this;omega
section
variable {dp ap : Nat} {d : D} {most : Nat} (hok : Ok d) (hl : hZY d most)
include hok hl
theorem jZO {i k:Nat}(hi:i<4)(hk:k≤most):Tr prog 78 #[.pointer (some ⟨dp,0,none⟩),.pointer (some ⟨ap,0,none⟩),.agg (Lay.dZh most (D.per d)),.int .i64 (i:Int),.int .i64 (k:Int)] [Dk dp d] fun v M=>
  ∃ p,v= .tuple #[.pointer (some ⟨p,0,none⟩),.int .i64 0]∧M=[Dk dp d,pts p (ZP dp ap (exX most (D.per d) i k))]:=fun H hs=>by
 apply gZH.ok;unfold gZH;refine hs.nw fun b1 H hs=>?_
 refine hs.ldw 1 rfl rfl ?_;rw[Array.toArray_toList];refine Zc.use (rZi hl.m hl.p hi hk H) ?_
 try simp only[HV]
 refine hs.nw fun b2 H hs=>?_
 refine hs.stw 2 rfl rfl rfl rfl fun H hs=>?_;refine ZB rfl ?_;refine hs.ldw 2 rfl rfl ?_;refine(dZA (dp:=dp) (ap:=ap) hok (exX most (D.per d) i k) (hl.on hok hi hk)).use hs [0] rfl rfl ?_;rintro _ _ H ⟨p,rfl,rfl⟩ hs;simp only[HV];exact⟨_,⟨p,rfl,rfl⟩,hs.re [0,1] rfl⟩
theorem uZ2 {pz:Pz}{k:Nat}(hf:pz.f<4)(ho:pz.o<4)(hk:k≤most):Tr prog 82 #[.pointer (some ⟨dp,0,none⟩),.pointer (some ⟨ap,0,none⟩),.agg (Lay.dZh most (D.per d)),.int .i64 (k:Int),.agg pz.c] [Dk dp d] fun v M=>
  ∃ p q,v= .tuple #[.pointer (some ⟨p,0,none⟩),.pointer (some ⟨q,0,none⟩),.int .i64 0]∧M=[Dk dp d,pts p (ZP dp ap (exX most (D.per d) pz.f k)),pts q (ZP dp ap (exX most (D.per d) pz.o k))]:=fun H hs=>by
 apply gZI.ok;unfold gZI;refine hs.nw fun b1 H hs=>?_
 refine hs.nw fun b2 H hs=>?_
 refine hs.ldw 1 rfl rfl ?_;rw[Array.toArray_toList];refine hs.ldf 2 (v:=.int .i64 (pz.f:Int)) rfl rfl ?_;simp only[HV];refine(jZO (dp:=dp) (ap:=ap) hok hl hf hk).use hs [0] rfl rfl ?_;rintro _ _ H ⟨p,rfl,rfl⟩ hs;simp only[HV];refine aZb rfl ?_;refine hs.ldw 2 rfl rfl ?_;rw[Array.toArray_toList];refine hs.ldf 3 (v:=.int .i64 (pz.o:Int)) rfl rfl ?_;simp only[HV];refine(jZO (dp:=dp) (ap:=ap) hok hl ho hk).use hs [0] rfl rfl ?_;rintro _ _ H ⟨q,rfl,rfl⟩ hs;simp only[HV];exact⟨_,⟨p,q,rfl,rfl⟩,hs.re [0,2,1] rfl⟩
end
structure nZV (pz:Pz)(k per cap:Nat):Prop where
 f:pz.f<4
 o:pz.o<4
 fo:pz.f≠pz.o
 k:pz.j.ea+pz.j.eb=k
 tn:pz.t=true→2^pz.j.ea+per≤cap
 rw:pz.t=false→pz.j.eb≤20∧-1≤pz.j.tw∧pz.j.tw≤32∧per+2*2^pz.j.eb≤cap
def jZL (per cap f o:Nat)(pz:Pz)(r w:Nat):Prop:=
 (pz.t=true∧∃ j,cZC ((2^pz.j.ea:Nat):Int) ((2^pz.j.eb:Nat):Int) per cap j∧r=rT per f o (2^pz.j.ea) (2^pz.j.eb) (2^j) (2^pz.j.eb/2^j)∧w=wT per o (2^pz.j.ea) (2^j) (2^pz.j.eb/2^j))∨
 (pz.t=false∧∃ j,dZV pz.j.ea ((cap-per)/2^pz.j.eb) j∧r=rP per f o (2^j*2^pz.j.eb) (2^pz.j.ea/2^j)∧w=wP per o (2^j*2^pz.j.eb) (2^pz.j.ea/2^j))
section
variable {p q dp ap : Nat} {x y : X} {cap : Nat} {peak : Int} {TT : As} {k : Nat} {pz : Pz}
def xZi (p q dp ap:Nat)(x y:X)(cap:Nat)(pz:Pz)(TT:As)(d:D)(v:Value)(M:List As):Prop:=
 ∃ peak':Int,peak'≤cap∧∃ r w,jZL (D.per d) cap x.f y.f pz r w∧
  ((∃ d',Prog (inX y) d d' r w∧pws d' y 0 y.w=pz.ap (pws d x 0 x.w)∧v= .tuple #[.int .u32 ((Go.Crc.sum (form (pz.ap (pws d x 0 x.w)))).toNat:Int),.int .i64 0]∧M=[pts p (ZP dp ap x),pts q (ZP dp ap y),Dk dp d',Ar ap cap peak' [],TT])∨
  (∃ d',cZz (inX y) d d'∧d.fuse≤r+w∧v= .tuple #[.int .u32 0,.int .i64 8]∧M=[pts p (ZP dp ap x),pts q (ZP dp ap y),Dk dp d',Ar ap cap peak' [],TT]))
theorem iZR {a b c:Int}(h1:a≤c)(h2:b≤c):mx a b≤c:=by unfold mx;split<;>assumption
theorem wZD {d:D}(hT:∀ H,TT H→T64 H)(hok:Ok d)(hl:d.down=false)(hx:On d x)(hy:On d y)(ho:d.rd≤1000000000000∧d.wr≤1000000000000)(hk32:k≤32)(hxw:x.w=2^k)(hyw:y.w=2^k)(hdis:x.f+x.s≤y.f∨y.f+y.s≤x.f)
  (hper:cZR (D.per d:Int)=true) (hcap:cap≤16777216) (hpk:peak≤cap) (hz:nZV pz k (D.per d) cap):
  Tr prog 83 #[.pointer (some ⟨p,0,none⟩),.pointer (some ⟨q,0,none⟩),.agg pz.c,.pointer (some ⟨ap,0,none⟩),.int .i64 (D.per d:Int)]
   [pts p (ZP dp ap x),pts q (ZP dp ap y),Dk dp d,Ar ap cap peak [],TT] (xZi p q dp ap x y cap pz TT d):=fun H hs=>by
 have hp:=Ok.per_le hok;have hkk:=hz.k;have hpow:2^pz.j.ea*2^pz.j.eb=2^k:=by rw[← Nat.pow_add,hkk]
 have hxw2:x.w=2^pz.j.ea*2^pz.j.eb:=hxw.trans hpow.symm;have hyw2:y.w=2^pz.j.ea*2^pz.j.eb:=hyw.trans hpow.symm;apply hZc.ok;unfold hZc;refine hs.nw fun b1 H hs=>?_
 refine hs.ldf 5 (v:=.int .i64 (if pz.t=true then 1 else 2)) rfl rfl ?_;simp only[HV];cases ht:pz.t with
 |true=>
  refine aZb rfl ?_
  try simp only[HS]
  refine hs.lda 5 (off:=0) (n:=2) rfl (by show 0+2≤8;omega) ?_;have ea:((pz.c.toList.drop 0).take 2).toArray=#[.int .i64 ((2^pz.j.ea:Nat):Int),.int .i64 ((2^pz.j.eb:Nat):Int)]:=rfl;rw[ea];have htn:=hz.tn ht;obtain⟨j,hj1,hj⟩:=cZC.ex (ea:=pz.j.ea) (eb:=pz.j.eb) (per:=(D.per d:Int)) (free:=(cap:Int)) (by omega) (by omega);have hjs:cZC ((2^pz.j.ea:Nat):Int) ((2^pz.j.eb:Nat):Int) (D.per d) ((cap:Int)-ZN []) j:=by rw[bZ4,Int.sub_zero];exact hj
  have hfit:=hj.fit;have hdv:2^pz.j.eb/2^j*2^j=2^pz.j.eb:=(div_pow hj1).symm;refine(Trn.nZX (p:=p) (q:=q) (dp:=dp) (ap:=ap) (x:=x) (y:=y) (cap:=cap) (peak:=peak) (bufs:=[]) hT hok hl hx hy (by omega) (by omega) hxw2 hyw2 hdis hper (by omega) (by decide) hjs).use hs [0,1,2,3,4] rfl rfl ?_;rintro v _ H ⟨M0,hq,rfl⟩ hs;have hpk2:mx peak (ZN []+((2^j*2^pz.j.ea:Nat):Int)+(D.per d:Int))≤cap:=iZR hpk (by rw[bZ4];rw[Int.natCast_mul];omega);have hap:pz.ap (pws d x 0 x.w)=trW d x (2^pz.j.ea) (2^pz.j.eb):=by unfold Pz.ap;rw[if_pos ht,vZG,hxw2]
  rcases hq with⟨d',hI,rfl,rfl⟩|⟨d',hD,hfu,rfl,rfl⟩
  ·simp only[HV];refine⟨_,⟨_,hpk2,_,_,.inl ⟨ht,j,hj,rfl,rfl⟩,.inl ⟨d',hI.pg,?_,by rw[hap],rfl⟩⟩,hs.re [0,1,2,3,4] rfl⟩;rw[hap];have hlen:=mZn d x (2^pz.j.ea) (2^pz.j.eb);rw[hyw2];refine(pZL fun k hk=>hI.dst k ?_);rw[hdv,Nat.mul_comm];exact hk
  ·simp only[HV];exact⟨_,⟨_,hpk2,_,_,.inl ⟨ht,j,hj,rfl,rfl⟩,.inr ⟨d',hD,hfu,rfl,rfl⟩⟩,hs.re [0,1,2,3,4] rfl⟩
 |false=>
  refine aZm (by decide) (aZb rfl ?_)
  try simp only[HS]
  refine hs.lda 5 (off:=0) (n:=5) rfl (by show 0+5≤8;omega) ?_;have ea:((pz.c.toList.drop 0).take 5).toArray=pz.j.a:=rfl;rw[ea];obtain⟨h20,htw1,htw2,hcp⟩:=hz.rw ht;have hpb:=Nat.two_pow_pos pz.j.eb;have hq2:2≤(cap-D.per d)/2^pz.j.eb:=(Nat.le_div_iff_mul_le hpb).2 (by omega);obtain⟨j,hj⟩:=dZV.ex (ea:=pz.j.ea) hq2;have hjs:dZV pz.j.ea (((cap:Int)-ZN []-(D.per d:Int)).toNat/2^pz.j.eb) j:=by
   have:((cap:Int)-ZN []-(D.per d:Int)).toNat=cap-D.per d:=by rw[bZ4];omega
   rw[this];exact hj
  have hfit:(2^j+1)*2^pz.j.eb≤cap-D.per d:=(Nat.le_div_iff_mul_le hpb).1 hj.fit;rw[Nat.succ_mul]at hfit;refine(Pas.nZX (p:=p) (q:=q) (dp:=dp) (ap:=ap) (x:=x) (y:=y) (cap:=cap) (peak:=peak) (bufs:=[]) (j:=pz.j) hT hok hl hx hy (by omega) (by omega) h20 ⟨htw1,htw2⟩ hxw2 hyw2 hdis hper (by omega) (by decide) (by rw[bZ4];omega) hjs).use hs [0,1,2,3,4] rfl rfl ?_;rintro v _ H ⟨M0,hq,rfl⟩ hs;have hpk2:mx peak (ZN []+((2^j*2^pz.j.eb:Nat):Int)+((2^pz.j.eb:Nat):Int)+(D.per d:Int))≤cap:=iZR hpk (by rw[bZ4];omega);have hap:pz.ap (pws d x 0 x.w)=cZO pz.j d x (2^pz.j.ea):=by unfold Pz.ap;rw[if_neg (by rw[ht];simp),qZ7,hxw2]
  rcases hq with⟨d',hI,rfl,rfl⟩|⟨d',hD,hfu,rfl,rfl⟩
  ·simp only[HV];refine⟨_,⟨_,hpk2,_,_,.inr ⟨ht,j,hj,rfl,rfl⟩,.inl ⟨d',hI.pg,?_,by rw[hap],rfl⟩⟩,hs.re [0,1,2,3,4] rfl⟩;rw[hap];have hlen:=jZw pz.j d x (2^pz.j.ea);rw[hyw2,←hlen];have hdv:2^pz.j.ea/2^j*2^j=2^pz.j.ea:=(div_pow hj.le).symm;have key:=pZL (d:=d') (x:=y) (n:=(cZO pz.j d x (2^pz.j.ea)).length) (f:=fun k=>((cZO pz.j d x (2^pz.j.ea))[k]?).getD 0) fun k hk=>by
    have:=hI.dst k (by rw[hdv,←hlen];exact hk);rw[hdv]at this;exact this
   rw[key];exact sZo _
  ·simp only[HV];exact⟨_,⟨_,hpk2,_,_,.inr ⟨ht,j,hj,rfl,rfl⟩,.inr ⟨d',hD,hfu,rfl,rfl⟩⟩,hs.re [0,1,2,3,4] rfl⟩
end
theorem oZc {d:D}{x:X}(hx:On d x):∀ i,inX x i→0≤i∧i<d.sec:=fun i hi=>by
 have:=hx.fit;unfold inX at hi;omega
def doP (dp ap:Nat)(d:D)(c:Cn)(most k:Nat)(pz:Pz)(cap:Nat)(TT:As)(v:Value)(M:List As):Prop:=
 ∃ peak':Int,peak'≤cap∧∃ r w,jZL (D.per d) cap (exX most (D.per d) pz.f k).f (exX most (D.per d) pz.o k).f pz r w∧
  ((∃ d' c',bZQ d d' (nS (D.per d) (2^k)+r) w 1∧Clean d' c'∧Sam (inX (exX most (D.per d) pz.o k)) c c'∧cws c' (D.per d) (exX most (D.per d) pz.o k).f (2^k)=pz.ap (cws c (D.per d) (exX most (D.per d) pz.f k).f (2^k))∧
    v= .tuple #[.int .u32 (eZQ (pz.ap (cws c (D.per d) (exX most (D.per d) pz.f k).f (2^k))):Int),.int .i64 0]∧M=[Dk dp d',Ar ap cap peak' [],TT])∨
  (∃ d',Cut d d' (nS (D.per d) (2^k)+r+w+1)∧Left d' (fun c'=>Sam (inX (exX most (D.per d) pz.o k)) c c')∧v= .tuple #[.int .u32 0,.int .i64 8]∧M=[Dk dp d',Ar ap cap peak' [],TT]))
theorem wZQ {dp ap:Nat}{d:D}{c:Cn}{most k:Nat}{pz:Pz}{cap:Nat}{peak:Int}{TT:As}(hT:∀ H,TT H→T64 H)(hc:Clean d c)(hl:hZY d most)(hk:k≤most)(ho:d.rd≤100000000000∧d.wr≤100000000000∧d.sy≤100000000000)
  (hcap:cap≤16777216) (hpk:peak≤cap) (hz:nZV pz k (D.per d) cap):
  Tr prog 44 #[.pointer (some ⟨dp,0,none⟩),.pointer (some ⟨ap,0,none⟩),.agg (Lay.dZh most (D.per d)),.int .i64 (k:Int),.agg pz.c,.int .u32 (eZQ (cws c (D.per d) (exX most (D.per d) pz.f k).f (2^k)):Int)]
   [Dk dp d,Ar ap cap peak [],TT] (doP dp ap d c most k pz cap TT):=fun H hs=>by
 have hok:=hc.ok;have hp:=Ok.per_le hok;have hm:=hl.m;have hx:=hl.on hok hz.f hk;have hy:=hl.on hok hz.o hk;have hcp:D.per d≤cap:=by
  cases ht:pz.t with
  |true=>have:=hz.tn ht;have:=Nat.two_pow_pos pz.j.ea;omega
  |false=>have:=hz.rw ht;have:=Nat.two_pow_pos pz.j.eb;omega
 apply cZi.ok;unfold cZi;refine hs.nw fun b1 H hs=>?_
 refine hs.nw fun b2 H hs=>?_
 refine hs.ldw 3 rfl rfl ?_;refine hs.ldw 4 rfl rfl ?_;rw[Array.toArray_toList,Array.toArray_toList];refine(uZ2 (dp:=dp) (ap:=ap) hok hl hz.f hz.o hk).use hs [0] rfl rfl ?_;rintro _ _ H ⟨p,q,rfl,rfl⟩ hs;simp only[HV];refine ZB rfl ?_;have hs:Sep [Dk dp d,pts p (ZP dp ap (exX most (D.per d) pz.f k)),pts q (ZP dp ap (exX most (D.per d) pz.o k)),Ar ap cap peak [],TT,pts b1 (.obj (.cells (Lay.dZh most (D.per d)) 101)),pts b2 (.obj (.cells pz.c 122))] H:=hs;have j6:cZi.j6 (fun v H'=>∃ M,doP dp ap d c most k pz cap TT v M∧Sep M H') (some ⟨dp,0,none⟩) (some ⟨ap,0,none⟩) (eZQ (cws c (D.per d) (exX most (D.per d) pz.f k).f (2^k)):Int) ⟨b1,0,none⟩ ⟨b2,0,none⟩ (some ⟨p,0,none⟩) (some ⟨q,0,none⟩) H:=by
  have hwx:(exX most (D.per d) pz.f k).w=2^k:=rfl;have hwy:(exX most (D.per d) pz.o k).w=2^k:=rfl;have hxy:=rZI (most:=most) (per:=D.per d) hk hz.fo;have hcost:∃ r w,jZL (D.per d) cap (exX most (D.per d) pz.f k).f (exX most (D.per d) pz.o k).f pz r w:=by
   have hkk:=hz.k;cases ht:pz.t with
   |true=>
    have htn:=hz.tn ht;obtain⟨j,_,hj⟩:=cZC.ex (ea:=pz.j.ea) (eb:=pz.j.eb) (per:=(D.per d:Int)) (free:=(cap:Int)) (by omega) (by omega);exact⟨_,_,.inl ⟨ht,j,hj,rfl,rfl⟩⟩
   |false=>
    obtain⟨_,_,_,hcp⟩:=hz.rw ht;obtain⟨j,hj⟩:=dZV.ex (ea:=pz.j.ea) ((Nat.le_div_iff_mul_le (Nat.two_pow_pos pz.j.eb)).2 (by omega):2≤(cap-D.per d)/2^pz.j.eb);exact⟨_,_,.inr ⟨ht,j,hj,rfl,rfl⟩⟩
  generalize hX:exX most (D.per d) pz.f k=x at*;generalize hY:exX most (D.per d) pz.o k=y at*;unfold cZi.j6;refine(lZ1 (p:=p) (dp:=dp) (ap:=ap) (x:=x) (cap:=cap) (peak:=peak) (bufs:=[]) hok hc.down hx (by omega) (by rw[bZ4];omega)).use hs [1,0,3] rfl rfl ?_;have hw0:=gZy hc.now x (2^k);have hpk1:mx peak (ZN []+(D.per d:Int))≤cap:=iZR hpk (by rw[bZ4];omega);rintro _ _ H (⟨hf,rfl,rfl⟩|⟨j,hj,hf,rfl,rfl⟩) hs
  ·have hsum:((Go.Crc.sum (form (pws d x 0 x.w))).toNat:Int)=(eZQ (cws c (D.per d) x.f (2^k)):Int):=by rw[hwx,hw0];rfl
   rw[hsum];simp only[HV];refine ZB rfl (ZB rfl ?_);rw[hwx]at hs hf;generalize hN:nS (D.per d) (2^k)=N at hs hf;have hcN:=hc.rdG N;have hwN:=bZQ.rdG hf;have hs:Sep [pts p (ZP dp ap x),Dk dp (D.rdG d N),Ar ap cap (mx peak (ZN []+(D.per d:Int))) [],pts q (ZP dp ap y),TT,pts b1 (.obj (.cells (Lay.dZh most (D.per d)) 101)),pts b2 (.obj (.cells pz.c 122))] H:=hs;refine hs.ldw 6 rfl rfl ?_;rw[Array.toArray_toList]
   try simp only[HS]
   refine hs.ld 5 (v:=.int .i64 (D.per d:Int)) rfl rfl ?_;simp only[HV];have hwr:(D.rdG d N).wr=d.wr:=rfl;have hrd:(D.rdG d N).rd=d.rd+N:=rfl;have hNs:N≤4294967296:=by
    rw[← hN];have h2k:=cZT (k:=k) (by omega);unfold nS;exact Nat.le_trans (Nat.div_le_of_le_mul (by
     have:2^k+D.per d-1≤2^k*D.per d:=by
      have h1:=Nat.two_pow_pos k;obtain⟨a,ha⟩:∃ a,2^k=a+1:=⟨2^k-1,by omega⟩;obtain⟨b,hb⟩:∃ b,D.per d=b+1:=⟨D.per d-1,by omega⟩;rw[ha,hb,Nat.mul_add,Nat.add_mul];omega
     rw[Nat.mul_comm];exact this)) h2k
   have hpx:pws (D.rdG d N) x 0 x.w=cws c (D.per d) x.f (2^k):=by rw[hwx];exact gZy hcN.now x (2^k)
   refine(wZD (p:=p) (q:=q) (dp:=dp) (ap:=ap) (x:=x) (y:=y) (cap:=cap) (peak:=mx peak (ZN []+(D.per d:Int))) (TT:=TT) (k:=k) (pz:=pz) (d:=D.rdG d N) hT hcN.ok hcN.down ⟨hx.w1,hx.s1,hx.fit,hx.room⟩ ⟨hy.w1,hy.s1,hy.fit,hy.room⟩ (by omega) (by omega) hwx hwy hxy hl.p hcap hpk1 hz).use hs [0,3,1,2,4] rfl rfl ?_;rintro v M H ⟨peak',hpk',r,w,hcost',hq⟩ hs;rw[hpx]at hq;rcases hq with⟨d',hP,hw',rfl,rfl⟩|⟨d',hD,hfu,rfl,rfl⟩
   ·have h2:=hP.sy;simp only[HV];refine ZB rfl ?_;refine(hZz (p:=dp) (d:=d') hP.ok (by rw[h2];show d.sy≤_;omega)).use hs [2] rfl rfl ?_;rintro _ _ H ⟨rfl,rfl⟩ hs;rcases hcN.sync hP (oZc (d:=D.rdG d N) ⟨hy.w1,hy.s1,hy.fit,hy.room⟩)with⟨e,hw2,hc2⟩|⟨e,hcut,hleft⟩
    ·rw[e];simp only[HV];refine ZB rfl ?_;have hgo:=hwN.trans hw2;have hsam:Sam (inX y) c d'.now:=fun i hi=>(hcN.prog hP i).2 hi
     refine⟨_,⟨peak',hpk',r,w,by rw[hX,hY];exact hcost',.inl ⟨_,_,by rw[hN];simpa using hgo,hc2,by rw[hY];exact hsam,?_,by rw[hX];rfl,rfl⟩⟩,hs.re [0,3,4] rfl⟩;rw[hX,hY,←hw',hwy];have e2:D.per d'=D.per d:=hP.per;rw[← e2];exact(gZy (fun _=>rfl) y (2^k)).symm
    ·rw[e];simp only[HV];refine ZK (by decide) ?_;have hgo:=hwN.cut hcut;exact⟨_,⟨peak',hpk',r,w,by rw[hX,hY];exact hcost',.inr ⟨_,by rw[hN];exact hgo.more (by omega),by rw[hY];exact hleft.mono fun _ h=>h.2,rfl,rfl⟩⟩,hs.re [0,3,4] rfl⟩
   ·simp only[HV];refine ZK (by decide) ?_;have hf1:1≤(D.rdG d N).fuse:=by have h1:=hD.cnt;have h2:=hD.rd;have h3:=hD.wr;omega
    have hcut:=hcN.deadCut hD (oZc (d:=D.rdG d N) ⟨hy.w1,hy.s1,hy.fit,hy.room⟩) hfu hf1;have hgo:=hwN.cut hcut;exact⟨_,⟨peak',hpk',r,w,by rw[hX,hY];exact hcost',.inr ⟨_,by rw[hN];exact hgo.more (by omega),by rw[hY];exact hcN.deadLeft hD,rfl,rfl⟩⟩,hs.re [2,3,4] rfl⟩
  ·simp only[HV];refine ZK (by decide) ?_;obtain⟨r,w,hcost⟩:=hcost;rw[hwx]at hj;have hcut:=Cut.rdG hc hf hj;refine⟨_,⟨_,hpk1,r,w,by rw[hX,hY];exact hcost,.inr ⟨_,hcut.more (by omega),?_,rfl,rfl⟩⟩,hs.re [1,2,4] rfl⟩;exact(Left.rdG hc j).mono fun c' e=>by rw[e];exact fun _ _=>rfl
 refine hs.ldf 6 (v:=.int .i64 (if pz.t=true then 1 else 2)) rfl rfl ?_;simp only[HV];cases ht:pz.t with
 |true=>exact ZB rfl j6
 |false=>
  refine ZK (by decide) ?_;refine hs.ldf 6 (v:=.int .i64 (if pz.t=true then 1 else 2)) rfl rfl ?_;rw[ht];simp only[HV];exact ZB rfl j6
end Eng
namespace W
open Go Go.Hw
theorem dZp :prog.follows .mixedOrders=true:=by kernel_rfl
def aZa.j6 (K:Value→Hp→Prop)(x13:Int)(x14:Int)(x15:Int)(H:Hp):Prop:=
 ((2:Int)≠0∧IntKind.i64=IntKind.i64∧HcI 67 #[.int .i64 (IntKind.i64.wrap (Int.tdiv x13 2))] H fun x16 H5=>((2:Int)≠0∧IntKind.i64=IntKind.i64∧HcI 67 #[.int .i64 (IntKind.i64.wrap (x13-(IntKind.i64.wrap (Int.tdiv x13 2))))] H5 fun x17 H6=>Nw H6 (.obj (.cells #[.int .i64 0,.int .i64 0] 118)) fun b2 H7=>StA H7 ⟨b2,0,none⟩ #[.int .i64 x16,.int .i64 x17] 2 fun H8=>LeI H8 ((⟨b2,0,none⟩:Addr).add 1) fun x18=>LeI H8 ((⟨b2,0,none⟩:Addr).add 0) fun x19=>Nw H8 (.obj (.cells #[.int .i64 0,.int .i64 0] 118)) fun b3 H9=>StA H9 ⟨b3,0,none⟩ #[.int .i64 x18,.int .i64 x19] 2 fun H10=>LdA H10 ⟨b2,0,none⟩ 2 fun l1=>iZH l1.toArray.toList fun x20 x21=>(LdA H10 ⟨b3,0,none⟩ 2 fun l4=>iZH l4.toArray.toList fun x22 x23=>(LdA H10 ⟨b3,0,none⟩ 2 fun l7=>iZH l7.toArray.toList fun x24 x25=>(LdA H10 ⟨b2,0,none⟩ 2 fun l10=>iZH l10.toArray.toList fun x26 x27=>(LdA H10 ⟨b2,0,none⟩ 2 fun l13=>iZH l13.toArray.toList fun x28 x29=>(Nw H10 (.row [.int .i64 x20,.int .i64 x21,.int .i64 0,.int .i64 (-1),.int .u64 1,.int .i64 1,.int .i64 0,.int .i64 1,.int .i64 x22,.int .i64 x23,.int .i64 x14,.int .i64 x13,.int .u64 1,.int .i64 2,.int .i64 1,.int .i64 2,.int .i64 x24,.int .i64 x25,.int .i64 0,.int .i64 (-1),.int .u64 1,.int .i64 1,.int .i64 2,.int .i64 1,.int .i64 x26,.int .i64 x27,.int .i64 x14,.int .i64 (-1),.int .u64 x15,.int .i64 2,.int .i64 1,.int .i64 2,.int .i64 x28,.int .i64 x29,.int .i64 0,.int .i64 (-1),.int .u64 1,.int .i64 1,.int .i64 2,.int .i64 3] 122 40) fun b4 H11=>K (.slice (some ⟨b4,0,none⟩) 5 5) H11)))))))
def aZa.j4 (K:Value→Hp→Prop)(x6:Int)(x7:Int)(x8:Int)(x9:Int)(x10:Int)(H:Hp):Prop:=
 BIf (decide (x6≤(20:Int))) (HcI 67 #[.int .i64 x6] H fun x11 H2=>BIf (decide ((IntKind.i64.wrap ((IntKind.i64.wrap (2*x11))+x8))≤x9)) (HcI 67 #[.int .i64 x6] H2 fun x12 H3=>Nw H3 (.row [.int .i64 1,.int .i64 x12,.int .i64 x7,.int .i64 (-1),.int .u64 x10,.int .i64 2,.int .i64 0,.int .i64 3] 122 8) fun b1 H4=>K (.slice (some ⟨b1,0,none⟩) 1 1) H4) (aZa.j6 K x6 x7 x10 H2)) (aZa.j6 K x6 x7 x10 H)
def aZa (x1:Int)(x2:Int)(x3:Int)(x4:Int)(H:Hp)(K:Value→Hp→Prop):Prop:=
 BIf (x2==1) (HcW 48 #[.int .i64 x1] H fun x5 H1=>aZa.j4 K x1 x2 x3 x4 x5 H1) (aZa.j4 K x1 x2 x3 x4 1 H)
def aZa.Λ (K:Value→Hp→Prop):Zn:=⟨fun i=>match Nat.beq i 6 with|true=>some (fun E D H=>eI E 0 .i64 fun x13=>eI E 1 .i64 fun x14=>eI E 9 .u64 fun x15=>Zo D (aZa.j6 K x13 x14 x15 H))|false=>match Nat.beq i 4 with|true=>some (fun E D H=>eI E 0 .i64 fun x6=>eI E 1 .i64 fun x7=>eI E 2 .i64 fun x8=>eI E 3 .i64 fun x9=>eI E 9 .u64 fun x10=>Zo D (aZa.j4 K x6 x7 x8 x9 x10 H))|false=>none,fun i=>none,(fun _=>none)⟩
theorem aZa.ok (x1:Int)(x2:Int)(x3:Int)(x4:Int)(H:Hp)(K:Value→Hp→Prop)(h:aZa x1 x2 x3 x4 H K):Zc prog 64 #[.int .i64 x1,.int .i64 x2,.int .i64 x3,.int .i64 x4] H K:=
 Zr Tryz.func64 rfl (nbl rfl) (Zf (Λ:=(aZa.Λ K)) dZp _ _ _ _ _ (Eq.mp (by kernel_rfl) h) (Zb Za rfl (Zb Za rfl (aZH (Zb Za rfl (Zk Za Zl)) rfl (fun E D H h=>by
   obtain⟨x6,e0,g2⟩:=GI h;obtain⟨x7,e1,g4⟩:=GI g2;obtain⟨x8,e2,g6⟩:=GI g4;obtain⟨x9,e3,g8⟩:=GI g6;obtain⟨x10,e9,g10⟩:=GI g8;obtain⟨rfl,h'⟩:=Zo.out g10;exact(Zf (Λ:=(aZa.Λ K)) dZp _ _ [(0,.int .i64 x6),(1,.int .i64 x7),(2,.int .i64 x8),(3,.int .i64 x9),(9,.int .u64 x10)] [] H (Eq.mp (by kernel_rfl) h') (aZH (Zb Za rfl (Zk (Zb Za rfl Zy) Zl)) rfl (fun E D H h=>by
     obtain⟨x13,e0,g2⟩:=GI h;obtain⟨x14,e1,g4⟩:=GI g2;obtain⟨x15,e9,g6⟩:=GI g4;obtain⟨rfl,h'⟩:=Zo.out g6;exact(Zf (Λ:=(aZa.Λ K)) dZp _ _ [(0,.int .i64 x13),(1,.int .i64 x14),(9,.int .u64 x15)] [] H (Eq.mp (by kernel_rfl) h') (Zb Za rfl (Zb Za rfl (Zb Za rfl Zy)))).weaken (Ze.cons e0 (Ze.cons e1 (Ze.cons e9 (Ze.nil _)))) (Hp.le_refl _)))).weaken (Ze.cons e0 (Ze.cons e1 (Ze.cons e2 (Ze.cons e3 (Ze.cons e9 (Ze.nil _)))))) (Hp.le_refl _))))))
def aZg.l3 (K:Value→Hp→Prop):Nat→Int→Int→Int→Hp→Prop
 |0,_,_,_,_=>False
 |k+1,x2,x3,x4,H=>
  let R3:=aZg.l3 K k
  BIf (decide (x4<x2)) (R3 x2 (IntKind.i64.wrap (2*x3)) (IntKind.i64.wrap (x4+1)) H) (K (.int .i64 x3) H)
def aZg (x1:Int)(H:Hp)(K:Value→Hp→Prop):Prop:=
 (∃ k,aZg.l3 K k x1 1 0 H)
def aZg.l3.L (K:Value→Hp→Prop)(k:Nat):Mid:=fun E D H=>
 eI E 0 .i64 fun x2=>eI E 3 .i64 fun x3=>eI E 4 .i64 fun x4=>Zo D (aZg.l3 K k x2 x3 x4 H)
def aZg.Λ3 (_:Value→Hp→Prop)(_R3:Int→Int→Int→Hp→Prop):Zn:=Zn.none (fun _=>none)
def aZg.Λ (K:Value→Hp→Prop):Zn:=⟨fun i=>none,fun i=>match Nat.beq i 3 with|true=>some (fun E D H=>∃ k,aZg.l3.L K k E D H)|false=>none,(fun _=>none)⟩
theorem aZg.ok (x1:Int)(H:Hp)(K:Value→Hp→Prop)(h:aZg x1 H K):Zc prog 67 #[.int .i64 x1] H K:=
 Zr Tryz.func67 rfl (nbl rfl) (Zf (Λ:=(aZg.Λ K)) dZp _ _ _ _ _ (Eq.mp (by kernel_rfl) h) (Zb Za rfl (Zb Za rfl (Zb (Zb Za rfl (Zu (ZZ rfl (fun E D H h=>by
   refine Safe.loop' (aZg.l3.L K) (fun E D H h=>?_) (fun k E D H h=>?_) E D H h
   ·obtain⟨w0,e0,g1⟩:=DG.out h;obtain⟨x2,rfl,g2⟩:=DI.out g1;obtain⟨w3,e3,g3⟩:=DG.out g2;obtain⟨x3,rfl,g4⟩:=DI.out g3;obtain⟨w4,e4,g5⟩:=DG.out g4;obtain⟨x4,rfl,g6⟩:=DI.out g5;obtain⟨rfl,h'⟩:=Zo.out g6;exact h'
   ·obtain⟨x2,e0,g2⟩:=GI h;obtain⟨x3,e3,g4⟩:=GI g2;obtain⟨x4,e4,g6⟩:=GI g4;obtain⟨rfl,h'⟩:=Zo.out g6;exact(Zf (Λ:=(aZg.Λ3 K (aZg.l3 K k))) dZp _ _ [(0,.int .i64 x2),(3,.int .i64 x3),(4,.int .i64 x4)] [] H (Eq.mp (by kernel_rfl) h') (Zb (Zb Za rfl (Zk Zl ZS)) rfl (Zb (Zu Za) rfl Za))).weaken (Ze.cons e0 (Ze.cons e3 (Ze.cons e4 (Ze.nil _)))) (Hp.le_refl _))))) rfl (Zb Za rfl Zy)))))
end W
namespace Eng
open Go Go.Hw Go.Form W Shp Dsk Str Are Trn Pas Pln
theorem kZ8 (H:Hp)(A B:Option Addr)(n m m':Nat)(ws:List UInt64)(hn:n=ws.length)(hl:n≤1000000000)(ha:Cells H A (Zd ws))(hb:Cells H B (Zd ws)):
  ∀(t i:Nat),i+t=n→aZp.l4 (RetE (.bool true) H) (t+1) A n m B n m' (i:Int) H
 |0,i,h=>by
  unfold aZp.l4;exact Zm (by omega) (RetE.mk _ _)
 |t+1,i,h=>by
  unfold aZp.l4;refine Zw (by omega) ?_;have hg:(Zd ws)[i]? =some (.int .u64 ((ws[i]'(by omega)).toNat:Int)):=by
   rw[aZ8,List.getElem?_eq_getElem (by omega)];rfl
  refine ha.read hg rfl (by rw[ZA];omega) ?_;simp only[HV];refine hb.read hg rfl (by rw[ZA];omega) ?_;simp only[HV];refine ZB rfl ?_;rw[ZV (x:=(i:Int)+1) (by omega) (by omega)];exact kZ8 H A B n m m' ws hn hl ha hb t (i+1) (by omega)
theorem kZB (A B:Option Addr)(n n' m m':Nat)(ws:List UInt64)(hn:n=ws.length)(hn':n'=ws.length)(hl:n≤1000000000)(H:Hp)(ha:Cells H A (Zd ws))(hb:Cells H B (Zd ws)):
  Zc prog 18 #[.slice A n m,.slice B n' m'] H (RetE (.bool true) H):=by
 obtain rfl:n'=n:=by omega
 apply aZp.ok;unfold aZp;refine ZB rfl ⟨n'+1,?_⟩;exact kZ8 H A B n' m m' ws hn hl ha hb n' 0 (by omega)
theorem lZD (H:Hp)(k:Nat)(hk:k≤40):∀(t i:Nat),i+t=k→aZg.l3 (RetE (.int .i64 ((2^k:Nat):Int)) H) (t+1) (k:Int) ((2^i:Nat):Int) (i:Int) H
 |0,i,h=>by
  unfold aZg.l3;obtain rfl:i=k:=by omega
  exact Zm (by omega) (RetE.mk _ _)
 |t+1,i,h=>by
  unfold aZg.l3;refine Zw (by omega) ?_;have h2:2^i≤2^40:=Nat.pow_le_pow_right (by omega) (by omega);have h0:=Int.natCast_nonneg (2^i);have e:IntKind.i64.wrap ((2:Int)*((2^i:Nat):Int))=((2^(i+1):Nat):Int):=by
   rw[ZV (by omega) (by omega),Nat.pow_succ];omega
  rw[e,ZV (x:=(i:Int)+1) (by omega) (by omega)];exact lZD H k hk t (i+1) (by omega)
theorem iZV (k:Nat)(hk:k≤40)(H:Hp):Zc prog 67 #[.int .i64 (k:Int)] H (RetE (.int .i64 ((2^k:Nat):Int)) H):=by
 apply aZg.ok;unfold aZg;exact⟨k+1,lZD H k hk k 0 (by omega)⟩
theorem mZp {k:Nat}(h:k≤6):2^k≤64:=Nat.pow_le_pow_right (n:=2) (by omega) h
theorem oZz {d:Bool}{k per words:Nat}(hk:k≤32)(hw:bZ2 k per≤words):∀ p∈aZM d k per words,nZV p k per words:=by
 intro p hp;unfold aZM at hp;unfold bZ2 at hw;split at hp
 ·rename_i hb
  have hb:=of_decide_eq_true hb;rw[List.mem_singleton.1 hp];exact⟨by show 0<4;omega,by show 3<4;omega,by show(0:Nat)≠3;omega,by show 0+k=k;omega,fun h=>(by cases h),fun _=>⟨hb.1,by show(-1:Int)≤-1;omega,by show(-1:Int)≤32;omega,by show per+2*2^k≤_;omega⟩⟩
 ·have ha:k-k/2=(k+1)/2:=by omega
  have h1:2^(k/2)≤2^((k+1)/2):=Nat.pow_le_pow_right (by omega) (by omega);have hz:∀(ea eb f o:Nat) (t d:Bool) (tw:Int) (sh:UInt64),f<4→o<4→f≠o→ea+eb=k→ea≤(k+1)/2→eb≤(k+1)/2→-1≤tw→tw≤32→nZV ⟨t,⟨ea,eb,d,tw,sh⟩,f,o⟩ k per words:=fun ea eb f o t d tw sh h1 h2 h3 h4 h5 h6 h7 h8=>by
   have q1:2^ea≤2^((k+1)/2):=Nat.pow_le_pow_right (by omega) h5;have q2:2^eb≤2^((k+1)/2):=Nat.pow_le_pow_right (by omega) h6;exact⟨h1,h2,h3,h4,fun _=>by show 2^ea+per≤words;omega,fun _=>⟨by show eb≤20;omega,h7,h8,by show per+2*2^eb≤words;omega⟩⟩
  unfold hZp at hp;simp only[List.mem_cons,List.not_mem_nil,or_false]at hp;rcases hp with e|e|e|e|e<;>rw[e]<;>exact hz _ _ _ _ _ _ _ _ (by omega) (by omega) (by omega) (by omega) (by omega) (by omega) (by omega) (by omega)
theorem lZi (a b:Nat):a/b*b≤a:=Nat.div_mul_le_self a b
theorem sZ3 {per cap f o k:Nat}{pz:Pz}{r w:Nat}(h:jZL per cap f o pz r w)(hk:pz.j.ea+pz.j.eb=k):r≤2*2^k∧w≤2^k:=by
 have hpow:2^pz.j.ea*2^pz.j.eb=2^k:=by rw[← Nat.pow_add,hk]
 rcases h with⟨_,j,hj,rfl,rfl⟩|⟨_,j,hj,rfl,rfl⟩
 ·have h1:=qZO per f o (2^pz.j.ea) (2^pz.j.eb) (2^j) (2^pz.j.eb/2^j);have h2:=qZ6 per o (2^pz.j.ea) (2^j) (2^pz.j.eb/2^j);have h3:2^pz.j.eb/2^j*(2^j*2^pz.j.ea)≤2^k:=by
   rw[← Nat.mul_assoc,←hpow,Nat.mul_comm (2^pz.j.ea)];exact Nat.mul_le_mul_right _ (lZi _ _)
  have h4:2^pz.j.eb/2^j*(2*(2^j*2^pz.j.ea))=2*(2^pz.j.eb/2^j*(2^j*2^pz.j.ea)):=by rw[Nat.mul_left_comm]
  exact⟨by omega,by omega⟩
 ·have h1:=qZL per f o (2^j*2^pz.j.eb) (2^pz.j.ea/2^j);have h2:=qZ5 per o (2^j*2^pz.j.eb) (2^pz.j.ea/2^j);have h3:2^pz.j.ea/2^j*(2^j*2^pz.j.eb)≤2^k:=by
   rw[← Nat.mul_assoc,←hpow];exact Nat.mul_le_mul_right _ (lZi _ _)
  have h4:2^pz.j.ea/2^j*(2*(2^j*2^pz.j.eb))=2*(2^pz.j.ea/2^j*(2^j*2^pz.j.eb)):=by rw[Nat.mul_left_comm]
  exact⟨by omega,by omega⟩
theorem jZV {per w:Nat}(hp:1≤per)(hw:1≤w):nS per w≤w:=by
 unfold nS;refine Nat.div_le_of_le_mul ?_;obtain⟨a,rfl⟩:∃ a,w=a+1:=⟨w-1,by omega⟩;obtain⟨b,rfl⟩:∃ b,per=b+1:=⟨per-1,by omega⟩;rw[Nat.mul_add,Nat.add_mul];omega
theorem vZS (x:X){d:D}(hok:Ok d)(src:List UInt64):pws (eZh d x src.length 0 src) x 0 src.length=src:=by
 apply List.ext_getElem?;intro i;unfold pws;rw[List.getElem?_map];by_cases h:i<src.length
 ·rw[List.getElem?_range h];show some (pw _ x (0+i))=_
  rw[Nat.zero_add,mZr x hok 0 src i,if_pos ⟨by omega,by omega⟩,Nat.sub_zero,List.getElem?_eq_getElem h];rfl
 ·rw[List.getElem?_eq_none (by rw[List.length_range];omega),List.getElem?_eq_none (by omega)];rfl
theorem qZH {L:List As}{H:Hp}(hs:Sep L H)(i:Nat){b n m:Nat}{xs:List Value}{e:TypeId}{s:Nat}(hi:L[i]? =some (pts b (.row xs e m)))(hx:xs.length=n*s)(hm:m=n*s):Sep (L.set i (Own e s (some ⟨b,0,none⟩) n n xs)) H:=
 hs.turn i hi fun H1 hH=>⟨hx,.inr ⟨b,m,rfl,hH,by first|omega|exact hm|exact hm.symm|exact⟨hm,Nat.le_refl _⟩⟩⟩
end Eng
end Go.Proofs.YtahjgjaenegpgaaGreatDoor
