import Derived.Test.YtahjgjaenegpgaaGreatDoorProg
import Derived.Test.YtahjgjaenegpgaaGreatDoorPkWholeInput7
set_option maxRecDepth 100000
set_option linter.unusedSimpArgs false
set_option linter.unusedVariables false
set_option linter.unnecessarySimpa false
set_option linter.unusedSectionVars false
namespace Go.Proofs.YtahjgjaenegpgaaGreatDoor
open Tryz (prog)
namespace Str
open Go Go.Hw Go.Form W Dsk Are
section
variable {p dp ap bp bc b rb mb vb : Nat} {d : D} {x : X} {cap peak pk : Int} {bufs : List (Nat × Nat × Option Addr)}
def ctr (bc:Nat)(ws:List UInt64):As:=pts bc (CrcP.counter (Go.Crc.sum (form ws)) (8*ws.length))
def tZI (bp bc:Nat):Array Value:=#[.pointer (some ⟨bp,0,none⟩),.pointer (some ⟨bc,0,none⟩)]
end
def nS (per w:Nat):Nat:=(w+per-1)/per
theorem tZ7 {per w i:Nat}(hp:1≤per):i<nS per w↔i*per<w:=by
 unfold nS;rw[Nat.lt_iff_add_one_le,Nat.le_div_iff_mul_le (by omega),Nat.succ_mul];omega
section
variable {p dp ap bp bc b rb mb vb : Nat} {d : D} {x : X} {cap peak pk : Int} {bufs : List (Nat × Nat × Option Addr)}
theorem vZL {ws pre:List UInt64}(hok:Ok d)(hl:d.down=false)(ho:d.rd≤4611685000000000000)(s n:Nat)(hs1:s<d.sec)(hn2:n≤D.per d)(hpre:pre.length≤1000000000)
  (hbm:(b,D.per d,some ⟨rb,0,none⟩)∈bufs) (hws:ws.length=D.per d):
  Tr prog 122 #[.int .i64 s,.int .i64 n,.pointer (some ⟨b,0,none⟩),.pointer (some ⟨bp,0,none⟩),.pointer (some ⟨bc,0,none⟩)]
   [pts p (ZO dp ap x),Dk dp d,Ar ap cap peak bufs,pts rb (.row (Zd ws) 84 mb),pts bp (.obj (.cells #[.pointer (some ⟨p,0,none⟩)] 157)),ctr bc pre] fun v M=>
   (d.fuse≠1∧v= .int .i64 0∧M=[pts p (ZO dp ap x),Dk dp (D.mr d),Ar ap cap peak bufs,pts rb (.row (Zd (aZO (d.now s))) 84 mb),pts bp (.obj (.cells #[.pointer (some ⟨p,0,none⟩)] 157)),ctr bc (pre++(aZO (d.now s)).take n)])∨
   (d.fuse=1∧v= .int .i64 8∧M=[pts p (ZO dp ap x),Dk dp (D.dead d),Ar ap cap peak bufs,pts rb (.row (Zd ws) 84 mb),pts bp (.obj (.cells #[.pointer (some ⟨p,0,none⟩)] 157)),ctr bc pre]):=fun H hs=>by
 have hp:=Ok.per_le hok;have hwl:(aZO (d.now (s:Int))).length=D.per d:=by rw[cZ7,hok.now];rfl
 have htl:((aZO (d.now (s:Int))).take n).length=n:=by rw[List.length_take];omega
 apply dZh.ok;unfold dZh
 try simp only[HS]
 refine hs.ld 4 rfl rfl ?_;simp only[HV]
 try simp only[HS]
 refine(nZZ (p:=p) (ap:=ap) (x:=x) (cap:=cap) (peak:=peak) (b:=b) (rb:=rb) (m:=mb) hok hl (by omega) (s:Int) (Int.natCast_nonneg _) (Int.ofNat_lt.2 hs1) hbm (xs:=Zd ws) (by rw[Zz];exact hws)).use hs [0,1,2,3] rfl rfl ?_;rintro _ _ H (⟨hf,rfl,rfl⟩|⟨hf,rfl,rfl⟩) hs
 ·simp only[HV];refine ZY rfl ?_;refine Zc.use (eZo hs 2 rfl hbm) ?_;simp only[HV];refine lZu rfl (by omega) ?_;rw[oZr,Nat.sub_zero,Nat.sub_zero];have hcell:Cells H (some ⟨rb,0,none⟩) (Zd ((aZO (d.now (s:Int))).take n)):=by
   have:=Cells.row (hs.get 3 (b:=rb) (o:=.row (Zd (aZO (d.now (s:Int)))) 84 mb) rfl) 0 n;rw[List.drop_zero]at this;rw[show Zd ((aZO (d.now (s:Int))).take n)=(Zd (aZO (d.now (s:Int)))).take n by unfold Zd;rw[List.map_take]];exact this
  have hs:Sep [pts p (ZO dp ap x),Dk dp (D.mr d),Ar ap cap peak bufs,pts rb (.row (Zd (aZO (d.now (s:Int)))) 84 mb),pts bp (.obj (.cells #[.pointer (some ⟨p,0,none⟩)] 157)),pts bc (CrcP.counter (Go.Crc.sum (form pre)) (8*pre.length))] H:=hs;refine Zc.use (CrcP.oZH bc (Go.Crc.sum (form pre)) (8*pre.length) (some ⟨rb,0,none⟩) n (D.per d) ((aZO (d.now (s:Int))).take n) htl.symm H (hs.get 5 rfl) hcell (by omega) (by omega)) ?_;have hs2:=hs.put 5 (CrcP.counter (Go.Crc.more (Go.Crc.sum (form pre)) (form ((aZO (d.now (s:Int))).take n))) (8*pre.length+8*n)) rfl;refine⟨_,.inl ⟨hf,by first|rfl|trivial,rfl⟩,?_⟩;have e:ctr bc (pre++(aZO (d.now (s:Int))).take n)=pts bc (CrcP.counter (Go.Crc.more (Go.Crc.sum (form pre)) (form ((aZO (d.now (s:Int))).take n))) (8*pre.length+8*n)):=by
   unfold ctr;rw[List.length_append,htl,Nat.mul_add];have:form (pre++(aZO (d.now (s:Int))).take n)=form pre++form ((aZO (d.now (s:Int))).take n):=by unfold form;rw[List.flatMap_append]
   rw[this];unfold Go.Crc.sum;rw[Go.Crc.more_append]
  rw[e];exact hs2
 ·simp only[HV];refine aZd (by decide) ?_;exact⟨_,.inr ⟨hf,by first|rfl|trivial,rfl⟩,hs⟩
def tZJ (p dp ap:Nat)(d:D)(x:X)(cap pk:Int)(bufs:List (Nat×Nat×Option Addr))(v:Value)(M:List As):Prop:=
 ((d.fuse=0∨nS (D.per d) x.w<d.fuse)∧v= .tuple #[.int .u32 ((Go.Crc.sum (form (pws d x 0 x.w))).toNat:Int),.int .i64 0]∧M=[pts p (ZO dp ap x),Dk dp (D.rdG d (nS (D.per d) x.w)),Ar ap cap pk bufs])∨
 (∃ j,j<nS (D.per d) x.w∧d.fuse=j+1∧v= .tuple #[.int .u32 0,.int .i64 8]∧M=[pts p (ZO dp ap x),Dk dp (D.dead (D.rdG d j)),Ar ap cap pk bufs])
theorem pZ5 (K:Value→Hp→Prop)(hok:Ok d)(hl:d.down=false)(hbm:∀ z∈bufs,z.1≠b)(hx:On d x)(ho:d.rd≤3000000000000000000)
  (hK:∀ H,(d.fuse=0∨nS (D.per d) x.w<d.fuse)→Sep [pts p (ZO dp ap x),Dk dp (D.rdG d (nS (D.per d) x.w)),Ar ap cap pk bufs,ctr bc (pws d x 0 x.w)] H→K (.int .i64 0) H)
  (hD:∀ j H pre,j<nS (D.per d) x.w→d.fuse=j+1→Sep [pts p (ZO dp ap x),Dk dp (D.dead (D.rdG d j)),Ar ap cap pk bufs,ctr bc pre] H→K (.int .i64 8) H):
  ∀(t i:Nat) (ws:List UInt64) (H:Hp),x.w≤(i+t)*D.per d→i≤nS (D.per d) x.w→(d.fuse=0∨i<d.fuse)→ws.length=D.per d→
   Sep (kZZ p dp ap bp b rb mb vb (D.rdG d i) x cap pk bufs (D.per d) ws (ctr bc (pws d x 0 (if i*D.per d<x.w then i*D.per d else x.w)))) H→
   ZQ.l6 K (t+2) (some ⟨p,0,none⟩) 122 #[] (tZI bp bc) (some ⟨b,0,none⟩) 0 ((x.w:Int)-((i*D.per d:Nat):Int)) ((x.f+i:Nat):Int) (some ⟨ap,0,none⟩) (some ⟨vb,0,none⟩) 1 1 H:=fun t=>by
 have hp:=Ok.per_le hok;have hsec:=hok.sec;have hroom:x.s*D.per d≤1048576*512:=Nat.mul_le_mul (by have:=hx.fit;omega) (by omega);have h4:=hx.room;have hw1:=hx.w1;have hfit:=hx.fit;have fin:∀(i:Nat) (ws:List UInt64) (H:Hp),x.w≤i*D.per d→i≤nS (D.per d) x.w→(d.fuse=0∨i<d.fuse)→Sep (kZZ p dp ap bp b rb mb vb (D.rdG d i) x cap pk bufs (D.per d) ws (ctr bc (pws d x 0 (if i*D.per d<x.w then i*D.per d else x.w)))) H→
   aZ1 prog 130 #[.pointer (some ⟨ap,0,none⟩),.slice (some ⟨vb,0,none⟩) 1 1] H fun _ H9=>K (.int .i64 0) H9:=fun i ws H hi hie hfu hs=>by
  have e:i=nS (D.per d) x.w:=by
   rcases Nat.lt_or_ge i (nS (D.per d) x.w)with h|h
   ·have:=(tZ7 (by omega)).1 h;omega
   ·omega
  rw[if_neg (by omega)]at hs;unfold kZZ at hs;refine(cZs vb b (D.per d) (some ⟨rb,0,none⟩) hbm).use hs [2,6] rfl rfl ?_;rintro _ _ H ⟨rfl,rfl⟩ hs;subst e;exact hK H hfu (hs.re [1,2,0,5] rfl)
 induction t with
 |zero=>
  intro i ws H hi hie hfu hws hs;rw[Nat.add_zero]at hi;unfold ZQ.l6;exact Zl (by omega) (fin i ws H hi hie hfu hs)
 |succ t ih=>
  intro i ws H hi hie hfu hws hs;by_cases hlt:i*D.per d<x.w
  ·have his:i<x.s:=by
    apply Nat.lt_of_mul_lt_mul_right (a:=D.per d);omega
   have hin:=(tZ7 (per:=D.per d) (w:=x.w) (i:=i) (by omega)).2 hlt;have hokj:=Ok.rdG hok i;have hlj:(D.rdG d i).down=false:=hl;generalize hnv:(if D.per d<x.w-i*D.per d then D.per d else x.w-i*D.per d)=n;have hn1:1≤n∧n≤D.per d∧i*D.per d+n≤x.w:=by rw[← hnv];split<;>omega
   rw[if_pos hlt]at hs;unfold kZZ at hs;unfold ZQ.l6;refine Zv (by omega) (ZY rfl ?_)
   try simp only[HS]
   refine Zc.use (eZX hs 0 1 rfl rfl hokj) ?_
   try simp only[HV]
   rw[show D.per (D.rdG d i)=D.per d from rfl];refine aZI (by kernel_rfl) ?_;unfold tZI;rw[wZP,uZT (left:=x.w-i*D.per d) (by omega),hnv];have hs1:x.f+i<(D.rdG d i).sec:=by show _<d.sec;omega
   have ho1:(D.rdG d i).rd≤4611685000000000000:=by show d.rd+i≤_;omega
   have hpl:(pws d x 0 (i*D.per d)).length≤1000000000:=by rw[dZ1];omega
   refine(vZL (p:=p) (dp:=dp) (ap:=ap) (bp:=bp) (bc:=bc) (b:=b) (rb:=rb) (mb:=mb) (d:=D.rdG d i) (x:=x) (cap:=cap) (peak:=pk) (bufs:=bufs++[(b,D.per d,some ⟨rb,0,none⟩)]) (ws:=ws) (pre:=pws d x 0 (i*D.per d)) hokj hlj ho1 (x.f+i) n hs1 hn1.2.1 hpl (List.mem_append_right _ (List.mem_singleton.2 rfl)) hws).use hs [0,1,2,3,4,5] rfl rfl ?_;have hwl:(aZO (d.now ((x.f+i:Nat):Int))).length=D.per d:=by rw[cZ7,hok.now];rfl
   have e1:IntKind.i64.wrap ((x.w:Int)-((i*D.per d:Nat):Int)-(D.per d:Int))=(x.w:Int)-(((i+1)*D.per d:Nat):Int):=by
    rw[ZU (by omega) (by omega),Nat.succ_mul];omega
   have e2:IntKind.i64.wrap (((x.f+i:Nat):Int)+1)=((x.f+(i+1):Nat):Int):=by
    rw[ZU (by omega) (by omega)];omega
   rintro _ _ H (⟨hf,rfl,rfl⟩|⟨hf,rfl,rfl⟩) hs
   ·refine kZG (t:=53) (by kernel_rfl) (by kernel_rfl) ?_;rw[oZg]at hs;simp only[HV];refine Zc.use (eZX hs 0 1 rfl rfl (Ok.rdG hok (i+1))) ?_
    try simp only[HV]
    rw[show D.per (D.rdG d (i+1))=D.per d from rfl,e1,e2];have hnext:i*D.per d+n=(if(i+1)*D.per d<x.w then(i+1)*D.per d else x.w):=by
     rw[Nat.succ_mul,←hnv];split<;>split<;>omega
    have hpc:(aZO (d.now ((x.f+i:Nat):Int))).take n=pws d x (i*D.per d) n:=by
     have:=jZ4 hok x (fr:=i*D.per d) (k:=n) (by rw[Nat.mul_mod_left];omega);rw[Nat.mul_div_cancel _ (by omega),Nat.mul_mod_left,List.drop_zero]at this;exact this
    have hpa:pws d x 0 (i*D.per d)++(aZO (d.now ((x.f+i:Nat):Int))).take n=pws d x 0 (i*D.per d+n):=by
     rw[pZo,Nat.zero_add,hpc]
    have hf':d.fuse-i≠1:=hf;refine ih (i+1) (aZO (d.now ((x.f+i:Nat):Int))) H (by rw[show i+1+t=i+(t+1) by omega];exact hi) (by omega) (by omega) hwl ?_;rw[← hnext,←hpa];exact hs
   ·refine kZG (t:=53) (by kernel_rfl) (by kernel_rfl) ?_;simp only[HV];have hf':d.fuse-i=1:=hf;have hokd:Ok (D.dead (D.rdG d i)):=Ok.dead hokj;refine Zc.use (eZX hs 0 1 rfl rfl hokd) ?_
    try simp only[HV]
    rw[show D.per (D.dead (D.rdG d i))=D.per d from rfl,e1,e2];unfold ZQ.l6;have give:aZ1 prog 130 #[.pointer (some ⟨ap,0,none⟩),.slice (some ⟨vb,0,none⟩) 1 1] H fun _ H9=>K (.int .i64 8) H9:=by
     refine(cZs vb b (D.per d) (some ⟨rb,0,none⟩) hbm).use hs [2,6] rfl rfl ?_;rintro _ _ H ⟨rfl,rfl⟩ hs;exact hD i H _ hin (by omega) (hs.re [1,2,0,5] rfl)
    by_cases hgt:(x.w:Int)-(((i+1)*D.per d:Nat):Int)>0
    ·exact Zv hgt (aZd (by decide) give)
    ·exact Zl hgt give
  ·unfold ZQ.l6;exact Zl (by omega) (fin i ws H (by omega) hie hfu hs)
theorem lZI (hok:Ok d)(hl:d.down=false)(hx:On d x)(ho:d.rd≤3000000000000000000)(hcap:(D.per d:Int)≤cap-ZM bufs):
  Tr prog 79 #[.pointer (some ⟨p,0,none⟩)] [pts p (ZO dp ap x),Dk dp d,Ar ap cap peak bufs] (tZJ p dp ap d x cap (mx peak (ZM bufs+D.per d)) bufs):=fun H hs=>by
 have hp:=Ok.per_le hok;apply dZV.ok;unfold dZV;refine hs.nw fun bp H hs=>?_
 refine hs.nw fun bc H hs=>?_
 refine hs.ld 3 rfl rfl ?_;simp only[HV];have h0:ctr bc []=pts bc (.obj (.cells #[.int .u32 0,.int .i64 0] 204)):=by
  unfold ctr CrcP.counter;rfl
 have hs:Sep [pts p (ZO dp ap x),Dk dp d,Ar ap cap peak bufs,pts bp (.obj (.cells #[.pointer (some ⟨p,0,none⟩)] 157)),ctr bc []] H:=by rw[h0];exact hs
 refine oZL (peak:=peak) (bufs:=bufs) (cap:=cap) (B:=ctr bc []) _ 122 (tZI bp bc) hok hcap hs fun b rb vb H hbm hs=>?_
 have e9:(x.w:Int)-((0*D.per d:Nat):Int)=x.w:=by rw[Nat.zero_mul];omega
 have e0:(if 0*D.per d<x.w then 0*D.per d else x.w)=0:=by rw[Nat.zero_mul,if_pos (show 0<x.w from hx.w1)]
 refine⟨x.w+2,?_⟩;have t:=pZ5 (p:=p) (dp:=dp) (ap:=ap) (bp:=bp) (bc:=bc) (b:=b) (rb:=rb) (mb:=D.per d) (vb:=vb) (d:=d) (x:=x) (cap:=cap) (pk:=mx peak (ZM bufs+D.per d)) (bufs:=bufs)
  (fun v2 H3=>DI .i64 v2 fun x1=>BIf (x1 !=(0:Int)) (∃ M,tZJ p dp ap d x cap (mx peak (ZM bufs+D.per d)) bufs (.tuple #[.int .u32 0,.int .i64 x1]:Value) M∧Sep M H3)
   (Zc prog 126 #[.pointer (some (⟨bc,0,none⟩:Addr))] H3 fun v3 H4=>DI .u32 v3 fun x2=>∃ M,tZJ p dp ap d x cap (mx peak (ZM bufs+D.per d)) bufs (.tuple #[.int .u32 x2,.int .i64 0]:Value) M∧Sep M H4))
  hok hl hbm hx ho (fun H hfu hs=>by
   simp only[HV];refine ZB rfl ?_;have hs:Sep [pts p (ZO dp ap x),Dk dp (D.rdG d (nS (D.per d) x.w)),Ar ap cap (mx peak (ZM bufs+D.per d)) bufs,pts bc (CrcP.counter (Go.Crc.sum (form (pws d x 0 x.w))) (8*(pws d x 0 x.w).length))] H:=hs;refine Zc.use (CrcP.uZm bc _ _ H (hs.get 3 rfl)) ?_
   try simp only[HV]
   exact⟨_,.inl ⟨hfu,rfl,rfl⟩,hs.re [0,1,2] rfl⟩) (fun j H pre hj hfu hs=>by
   simp only[HV];refine ZL (by decide) ?_;exact⟨_,.inr ⟨j,hj,hfu,rfl,rfl⟩,hs.re [0,1,2] rfl⟩) x.w 0 (List.replicate (D.per d) 0) H (by rw[Nat.zero_add];exact Nat.le_mul_of_pos_right _ (by omega)) (Nat.zero_le _) (by omega) (by simp)
 rw[e0,e9]at t;exact t hs
end
end Str
namespace W
open Go Go.Hw
theorem dZH :prog.follows .mixedOrders=true:=by kernel_rfl
def fZL (A1:Option Addr)(n1:Nat)(m1:Nat)(x1:Int)(H:Hp)(K:Value→Hp→Prop):Prop:=
 Hz 95 #[.int .i64 (n1:Int)] H fun v1 H1=>hZ0 v1 fun x2 c1=>(BIf (!c1) (K (.tuple #[.int .i64 0,.int .i64 0,.int .i64 4]) H1) (BIf (decide (x2>x1)) (K (.tuple #[.int .i64 0,.int .i64 0,.int .i64 14]) H1) (Hz 96 #[.slice A1 n1 m1] H1 fun v4 H2=>hZ0 v4 fun x3 c2=>(BIf (!c2) (K (.tuple #[.int .i64 0,.int .i64 x3,.int .i64 3]) H2) (K (.tuple #[.int .i64 x2,.int .i64 0,.int .i64 0]) H2)))))
theorem fZL.ok (A1:Option Addr)(n1:Nat)(m1:Nat)(x1:Int)(H:Hp)(K:Value→Hp→Prop)(h:fZL A1 n1 m1 x1 H K):Zc prog 59 #[.slice A1 n1 m1,.int .i64 x1] H K:=
 Zq Tryz.func59 rfl (nbl rfl) (Zf (Λ:=Zn.none (fun _=>none)) dZH _ _ _ _ _ (Eq.mp (by kernel_rfl) h) (Zs _ _ _ _ _))
def fZj (x1:Int)(x2:Int)(x3:Int)(x4:Int)(H:Hp)(K:Value→Hp→Prop):Prop:=
 HcB 113 #[.int .i64 x1,.int .i64 x3] H fun c1 H1=>BIf (!c1) (K (.tuple #[.slice none 0 0,.int .i64 1]) H1) (BIf (decide (x2<0)) (K (.tuple #[.slice none 0 0,.int .i64 18]) H1) (BIf (decide (x2>1)) (K (.tuple #[.slice none 0 0,.int .i64 18]) H1) (HcI 114 #[.int .i64 x1,.int .i64 x3] H1 fun x5 H2=>BIf (decide (x4<x5)) (K (.tuple #[.slice none 0 0,.int .i64 6]) H2) (HcB 115 #[.int .i64 x1,.int .i64 x3,.int .i64 x4] H2 fun c2 H3=>BIf c2 (BIf (decide (x1≤(20:Int))) ((0≤(IntKind.u64.wrap x1)∧HcW 117 #[.int .i64 x1,.int .i64 x2] H3 fun x6 H4=>HcA 116 #[.agg #[.int .i64 1,.int .i64 (aZN .i64 1 (IntKind.u64.wrap x1))],.int .i64 0,.int .i64 3,.int .i64 x2,.int .i64 (-1),.int .u64 x6] H4 fun y1 H5=>dZ5 y1.toList fun x7 x8 x9 x10 x11 x12 x13 x14=>(Nw H5 (.row [.int .i64 x7,.int .i64 x8,.int .i64 x9,.int .i64 x10,.int .u64 x11,.int .i64 x12,.int .i64 x13,.int .i64 x14] 122 8) fun b1 H6=>K (.tuple #[.slice (some ⟨b1,0,none⟩) 1 1,.int .i64 0]) H6))) (HcS 118 #[.int .i64 x1,.int .i64 x2] H3 fun A1 n1 m1 H7=>K (.tuple #[.slice A1 n1 m1,.int .i64 0]) H7)) (HcS 118 #[.int .i64 x1,.int .i64 x2] H3 fun A2 n2 m2 H8=>K (.tuple #[.slice A2 n2 m2,.int .i64 0]) H8)))))
theorem fZj.ok (x1:Int)(x2:Int)(x3:Int)(x4:Int)(H:Hp)(K:Value→Hp→Prop)(h:fZj x1 x2 x3 x4 H K):Zc prog 77 #[.int .i64 x1,.int .i64 x2,.int .i64 x3,.int .i64 x4] H K:=
 Zq Tryz.func77 rfl (nbl rfl) (Zf (Λ:=Zn.none (fun _=>none)) dZH _ _ _ _ _ (Eq.mp (by kernel_rfl) h) (Zs _ _ _ _ _))
def fZM (x1:Int)(x2:Int)(H:Hp)(K:Value→Hp→Prop):Prop:=
 HcB 113 #[.int .i64 x1,.int .i64 x2] H fun c1 H1=>BIf (!c1) (K (.tuple #[.int .i64 0,.int .i64 1]) H1) (HcI 114 #[.int .i64 x1,.int .i64 x2] H1 fun x3 H2=>K (.tuple #[.int .i64 x3,.int .i64 0]) H2)
theorem fZM.ok (x1:Int)(x2:Int)(H:Hp)(K:Value→Hp→Prop)(h:fZM x1 x2 H K):Zc prog 90 #[.int .i64 x1,.int .i64 x2] H K:=
 Zq Tryz.func90 rfl (nbl rfl) (Zf (Λ:=Zn.none (fun _=>none)) dZH _ _ _ _ _ (Eq.mp (by kernel_rfl) h) (Zs _ _ _ _ _))
def gZx (x1:Int)(x2:Int)(H:Hp)(K:Value→Hp→Prop):Prop:=
 BIf (decide (x1≥0)) (BIf (decide (x1≤(32:Int))) (BIf (decide (x2≥4)) (BIf (decide (x2≤(512:Int))) (K (.bool ((aZC .i64 x2 (IntKind.i64.wrap (x2-1)))==0)) H) (K (.bool false) H)) (K (.bool false) H)) (K (.bool false) H)) (K (.bool false) H)
theorem gZx.ok (x1:Int)(x2:Int)(H:Hp)(K:Value→Hp→Prop)(h:gZx x1 x2 H K):Zc prog 113 #[.int .i64 x1,.int .i64 x2] H K:=
 Zq Tryz.func113 rfl (nbl rfl) (Zf (Λ:=Zn.none (fun _=>none)) dZH _ _ _ _ _ (Eq.mp (by kernel_rfl) h) (Zs _ _ _ _ _))
def fZO (x1:Int)(x2:Int)(H:Hp)(K:Value→Hp→Prop):Prop:=
 ((2:Int)≠0∧IntKind.i64=IntKind.i64∧(0≤(IntKind.u64.wrap (IntKind.i64.wrap (Int.tdiv (IntKind.i64.wrap (x1+1)) 2)))∧K (.int .i64 (IntKind.i64.wrap ((aZN .i64 2 (IntKind.u64.wrap (IntKind.i64.wrap (Int.tdiv (IntKind.i64.wrap (x1+1)) 2))))+x2))) H))
theorem fZO.ok (x1:Int)(x2:Int)(H:Hp)(K:Value→Hp→Prop)(h:fZO x1 x2 H K):Zc prog 114 #[.int .i64 x1,.int .i64 x2] H K:=
 Zq Tryz.func114 rfl (nbl rfl) (Zf (Λ:=Zn.none (fun _=>none)) dZH _ _ _ _ _ (Eq.mp (by kernel_rfl) h) (Zs _ _ _ _ _))
def fZN (x1:Int)(x2:Int)(x3:Int)(H:Hp)(K:Value→Hp→Prop):Prop:=
 HcB 113 #[.int .i64 x1,.int .i64 x2] H fun c1 H1=>BIf c1 ((0≤(IntKind.u64.wrap x1)∧K (.bool (decide ((IntKind.i64.wrap ((aZN .i64 2 (IntKind.u64.wrap x1))+x2))≤x3))) H1)) (K (.bool false) H1)
theorem fZN.ok (x1:Int)(x2:Int)(x3:Int)(H:Hp)(K:Value→Hp→Prop)(h:fZN x1 x2 x3 H K):Zc prog 115 #[.int .i64 x1,.int .i64 x2,.int .i64 x3] H K:=
 Zq Tryz.func115 rfl (nbl rfl) (Zf (Λ:=Zn.none (fun _=>none)) dZH _ _ _ _ _ (Eq.mp (by kernel_rfl) h) (Zs _ _ _ _ _))
def fZk (x1:Int)(x2:Int)(x3:Int)(x4:Int)(x5:Int)(x6:Int)(x7:Int)(H:Hp)(K:Value→Hp→Prop):Prop:=
 Nw H (.obj (.cells #[.int .i64 x1,.int .i64 x2] 118)) fun b1 H1=>Nw H1 (.obj (.cells #[.int .i64 0,.int .i64 0,.int .i64 0,.int .i64 0,.int .u64 0,.int .i64 0,.int .i64 0,.int .i64 0] 122)) fun b2 H2=>LdA H2 ⟨b1,0,none⟩ 2 fun l1=>pZU l1.toArray.toList fun x8 x9=>(StA H2 ⟨b2,0,none⟩ #[.int .i64 x8,.int .i64 x9,.int .i64 x5,.int .i64 x6,.int .u64 x7,.int .i64 2,.int .i64 x3,.int .i64 x4] 8 fun H3=>LdA H3 ⟨b2,0,none⟩ 8 fun l4=>K (.agg l4.toArray) H3)
theorem fZk.ok (x1:Int)(x2:Int)(x3:Int)(x4:Int)(x5:Int)(x6:Int)(x7:Int)(H:Hp)(K:Value→Hp→Prop)(h:fZk x1 x2 x3 x4 x5 x6 x7 H K):Zc prog 116 #[.agg #[.int .i64 x1,.int .i64 x2],.int .i64 x3,.int .i64 x4,.int .i64 x5,.int .i64 x6,.int .u64 x7] H K:=
 Zq Tryz.func116 rfl (nbl rfl) (Zf (Λ:=Zn.none (fun _=>none)) dZH _ _ _ _ _ (Eq.mp (by kernel_rfl) h) (Zs _ _ _ _ _))
def fZP (x1:Int)(x2:Int)(H:Hp)(K:Value→Hp→Prop):Prop:=
 BIf (x2==0) (K (.int .u64 1) H) (Hz 159 #[.int .i64 x1] H fun v1 H1=>gZS v1 fun x3 x4=>(K (.int .u64 x3) H1))
theorem fZP.ok (x1:Int)(x2:Int)(H:Hp)(K:Value→Hp→Prop)(h:fZP x1 x2 H K):Zc prog 117 #[.int .i64 x1,.int .i64 x2] H K:=
 Zq Tryz.func117 rfl (nbl rfl) (Zf (Λ:=Zn.none (fun _=>none)) dZH _ _ _ _ _ (Eq.mp (by kernel_rfl) h) (Zs _ _ _ _ _))
def gZy (x1:Int)(x2:Int)(H:Hp)(K:Value→Hp→Prop):Prop:=
 Hz 160 #[.int .i64 x1] H fun v1 H1=>gZg v1 fun y1 x3=>(Nw H1 (.obj (.cells #[.int .i64 0,.int .i64 0] 118)) fun b1 H2=>StA H2 ⟨b1,0,none⟩ y1 2 fun H3=>LdA H3 ⟨b1,0,none⟩ 2 fun l4=>HcA 161 #[.agg l4.toArray] H3 fun y2 H4=>Nw H4 (.obj (.cells #[.int .i64 0,.int .i64 0] 118)) fun b2 H5=>StA H5 ⟨b2,0,none⟩ y2 2 fun H6=>LdA H6 ⟨b1,0,none⟩ 2 fun l5=>QcA 162 #[.agg l5.toArray,.int .i64 0,.int .i64 1] H6 fun y3=>LdA H6 ⟨b2,0,none⟩ 2 fun l6=>QcA 116 #[.agg l6.toArray,.int .i64 1,.int .i64 2,.int .i64 x2,.int .i64 x1,.int .u64 1] H6 fun y4=>LdA H6 ⟨b2,0,none⟩ 2 fun l7=>QcA 162 #[.agg l7.toArray,.int .i64 2,.int .i64 1] H6 fun y5=>LdA H6 ⟨b1,0,none⟩ 2 fun l8=>QcW 117 #[.int .i64 x1,.int .i64 x2] H6 fun x4=>QcA 116 #[.agg l8.toArray,.int .i64 1,.int .i64 2,.int .i64 x2,.int .i64 (-1),.int .u64 x4] H6 fun y6=>LdA H6 ⟨b1,0,none⟩ 2 fun l9=>QcA 162 #[.agg l9.toArray,.int .i64 2,.int .i64 3] H6 fun y7=>dZ5 y3.toList fun x5 x6 x7 x8 x9 x10 x11 x12=>(dZ5 y4.toList fun x13 x14 x15 x16 x17 x18 x19 x20=>(dZ5 y5.toList fun x21 x22 x23 x24 x25 x26 x27 x28=>(dZ5 y6.toList fun x29 x30 x31 x32 x33 x34 x35 x36=>(dZ5 y7.toList fun x37 x38 x39 x40 x41 x42 x43 x44=>(Nw H6 (.row [.int .i64 x5,.int .i64 x6,.int .i64 x7,.int .i64 x8,.int .u64 x9,.int .i64 x10,.int .i64 x11,.int .i64 x12,.int .i64 x13,.int .i64 x14,.int .i64 x15,.int .i64 x16,.int .u64 x17,.int .i64 x18,.int .i64 x19,.int .i64 x20,.int .i64 x21,.int .i64 x22,.int .i64 x23,.int .i64 x24,.int .u64 x25,.int .i64 x26,.int .i64 x27,.int .i64 x28,.int .i64 x29,.int .i64 x30,.int .i64 x31,.int .i64 x32,.int .u64 x33,.int .i64 x34,.int .i64 x35,.int .i64 x36,.int .i64 x37,.int .i64 x38,.int .i64 x39,.int .i64 x40,.int .u64 x41,.int .i64 x42,.int .i64 x43,.int .i64 x44] 122 40) fun b3 H7=>K (.slice (some ⟨b3,0,none⟩) 5 5) H7))))))
theorem gZy.ok (x1:Int)(x2:Int)(H:Hp)(K:Value→Hp→Prop)(h:gZy x1 x2 H K):Zc prog 118 #[.int .i64 x1,.int .i64 x2] H K:=
 Zq Tryz.func118 rfl (nbl rfl) (Zf (Λ:=Zn.none (fun i=>match Nat.beq i 3 with|true=>some ([],[0,1,2,3,4,5,6,7,8,9,10,11,12,13,14,15],16)|false=>none)) dZH _ _ _ _ _ (Eq.mp (by kernel_rfl) h) (Zs _ _ _ _ _))
def gZz (x1:Int)(x2:Int)(x3:Int)(x4:Int)(H:Hp)(K:Value→Hp→Prop):Prop:=
 Nw H (.obj (.cells #[.int .i64 x1,.int .i64 x2] 118)) fun b1 H1=>Nw H1 (.obj (.cells #[.int .i64 0,.int .i64 0,.int .i64 0,.int .i64 0,.int .u64 0,.int .i64 0,.int .i64 0,.int .i64 0] 122)) fun b2 H2=>LdA H2 ⟨b1,0,none⟩ 2 fun l1=>pZU l1.toArray.toList fun x5 x6=>(StA H2 ⟨b2,0,none⟩ #[.int .i64 x5,.int .i64 x6,.int .i64 0,.int .i64 (-1),.int .u64 1,.int .i64 1,.int .i64 x3,.int .i64 x4] 8 fun H3=>LdA H3 ⟨b2,0,none⟩ 8 fun l4=>K (.agg l4.toArray) H3)
theorem gZz.ok (x1:Int)(x2:Int)(x3:Int)(x4:Int)(H:Hp)(K:Value→Hp→Prop)(h:gZz x1 x2 x3 x4 H K):Zc prog 162 #[.agg #[.int .i64 x1,.int .i64 x2],.int .i64 x3,.int .i64 x4] H K:=
 Zq Tryz.func162 rfl (nbl rfl) (Zf (Λ:=Zn.none (fun _=>none)) dZH _ _ _ _ _ (Eq.mp (by kernel_rfl) h) (Zs _ _ _ _ _))
end W
namespace Pln
open Go Go.Hw W Shp Fft Ker Pas Str Dsk Trn
theorem pZy :∀ k:Nat,k<61→aZN .i64 2 (k:Int)=((2*2^k:Nat):Int):=by decide +kernel
theorem cZL {k:Nat}(hk:k≤32):2^k≤4294967296:=Nat.pow_le_pow_right (n:=2) (by omega) hk
theorem fZC {per:Nat}(hp:cZJ (per:Int)=true):4≤per∧per≤512:=by have:=eZW hp;omega
section
variable {k per words : Nat} (hk : k ≤ 32) (hp : cZJ (per : Int) = true)
include hk
theorem nZW (hp:per≤512)(H:Hp):Zc prog 114 #[.int .i64 (k:Int),.int .i64 (per:Int)] H (RetE (.int .i64 (bZn k per:Int)) H):=by
 have h1:=cZL (k:=(k+1)/2) (by omega);apply fZO.ok;unfold fZO;rw[ZU (x:=(k:Int)+1) (by omega) (by omega),show Int.tdiv ((k:Int)+1) 2=(((k+1)/2:Nat):Int)from rfl,bZh (by omega),cZj (by omega),pZy _ (by omega),ZU (by omega) (by omega)];refine⟨by decide,by simp,by omega,?_⟩;exact RetE.of (by unfold bZn;rw[Int.natCast_add])
include hp
theorem eZV (H:Hp):Zc prog 113 #[.int .i64 (k:Int),.int .i64 (per:Int)] H (RetE (.bool true) H):=by
 have h:=fZC hp;apply gZx.ok;unfold gZx;refine Zv (by omega) (Zv (by omega) (Zv (by omega) (Zv (by omega) ?_)));rw[(lZT (p:=(per:Int)) (by omega) (by omega)).2 hp];exact RetE.mk _ _
theorem sZJ (H:Hp):Zc prog 90 #[.int .i64 (k:Int),.int .i64 (per:Int)] H (RetE (.tuple #[.int .i64 (bZn k per:Int),.int .i64 0]) H):=by
 have h:=fZC hp;apply fZM.ok;unfold fZM;refine Zc.use (eZV hk hp H) ?_
 try simp only[HV]
 refine Zc.use (nZW hk (by omega) H) ?_
 try simp only[HV]
 exact RetE.mk _ _
theorem sZQ (hw:words≤16777216)(H:Hp):Zc prog 115 #[.int .i64 (k:Int),.int .i64 (per:Int),.int .i64 (words:Int)] H (RetE (.bool (decide (2*2^k+per≤words))) H):=by
 have h:=fZC hp;have h1:=cZL hk;apply fZN.ok;unfold fZN;refine Zc.use (eZV hk hp H) ?_
 try simp only[HV]
 rw[cZj (by omega),pZy _ (by omega),ZU (by omega) (by omega)];refine⟨by omega,?_⟩;exact RetE.of (by congr 1;rw[decide_eq_decide];omega)
end
theorem oZo {k:Nat}(hk:k≤32)(d:Bool)(H:Hp):Zc prog 117 #[.int .i64 (k:Int),.int .i64 (if d=true then 1 else 0)] H (RetE (.int .u64 ((fZ9 d k).toNat:Int)) H):=by
 apply fZP.ok;unfold fZP;cases d with
 |false=>exact ZY rfl (RetE.mk _ _)
 |true=>
  refine aZd (by decide) ?_;refine Zc.use (nZz hk H) ?_
  try simp only[HV]
  exact RetE.of (by unfold fZ9;rw[if_pos rfl,oZz])
theorem lZ3 (a b f o:Int)(H:Hp):Zc prog 162 #[.agg #[.int .i64 a,.int .i64 b],.int .i64 f,.int .i64 o] H (RetE (.agg #[.int .i64 a,.int .i64 b,.int .i64 0,.int .i64 (-1),.int .u64 1,.int .i64 1,.int .i64 f,.int .i64 o]) H):=Zc.ret (by
 apply gZz.ok;unfold gZz;refine(Sep.start H).nw fun b1 H1 hs=>?_
 refine hs.nw fun b2 H1 hs=>?_
 refine hs.ldw 1 rfl rfl ?_;simp only[HV];refine hs.stw 2 rfl rfl rfl rfl fun H1 hs=>?_
 refine hs.ldw 2 rfl rfl ?_;exact hs.fin 0 rfl _)
theorem iZ0 (a b f o di tw sh:Int)(H:Hp):Zc prog 116 #[.agg #[.int .i64 a,.int .i64 b],.int .i64 f,.int .i64 o,.int .i64 di,.int .i64 tw,.int .u64 sh] H (RetE (.agg #[.int .i64 a,.int .i64 b,.int .i64 di,.int .i64 tw,.int .u64 sh,.int .i64 2,.int .i64 f,.int .i64 o]) H):=Zc.ret (by
 apply fZk.ok;unfold fZk;refine(Sep.start H).nw fun b1 H1 hs=>?_
 refine hs.nw fun b2 H1 hs=>?_
 refine hs.ldw 1 rfl rfl ?_;simp only[HV];refine hs.stw 2 rfl rfl rfl rfl fun H1 hs=>?_
 refine hs.ldw 2 rfl rfl ?_;exact hs.fin 0 rfl _)
theorem qZ7 (a b:Int)(H:Hp):Zc prog 161 #[.agg #[.int .i64 a,.int .i64 b]] H (RetE (.agg #[.int .i64 b,.int .i64 a]) H):=Zc.ret (by
 apply eZP.ok;unfold eZP;refine(Sep.start H).nw fun b1 H1 hs=>?_
 refine hs.nw fun b2 H1 hs=>?_
 refine hs.ldf 1 rfl rfl ?_;simp only[HV];refine hs.ldf 1 rfl rfl ?_;simp only[HV];refine hs.stw 2 rfl rfl rfl rfl fun H1 hs=>?_
 refine hs.ldw 2 rfl rfl ?_;exact hs.fin 0 rfl _)
theorem tZA {k a:Nat}(hk:k≤32)(ha:a≤k)(H:Hp):Zc prog 209 #[.int .i64 (k:Int),.int .i64 (a:Int)] H (RetE (.agg #[.int .i64 ((2^a:Nat):Int),.int .i64 ((2^(k-a):Nat):Int)]) H):=Zc.ret (by
 apply fZn.ok;unfold fZn;refine(Sep.start H).nw fun b1 H1 hs=>?_
 rw[ZU (x:=(k:Int)-a) (by omega) (by omega),show(k:Int)-a=((k-a:Nat):Int) by omega,cZj (by omega),cZj (by omega),Lay.gZm (by omega),Lay.gZm (by omega)];refine⟨by omega,by omega,?_⟩;refine hs.stw 1 rfl rfl rfl rfl fun H1 hs=>?_
 refine hs.ldw 1 rfl rfl ?_;exact hs.fin 0 rfl _)
theorem tZw {k:Nat}(hk:k≤32)(H:Hp):Zc prog 208 #[.int .i64 (k:Int)] H (RetE (.bool true) H):=by
 apply fZV.ok;unfold fZV;refine Zv (by omega) ?_;rw[decide_eq_true (by omega)];exact RetE.mk _ _
theorem uZr {k:Nat}(hk:k≤32)(H:Hp):Zc prog 160 #[.int .i64 (k:Int)] H (RetE (.tuple #[.agg #[.int .i64 ((2^(k/2):Nat):Int),.int .i64 ((2^(k-k/2):Nat):Int)],.int .i64 0]) H):=Zc.ret (by
 apply fZS.ok;unfold fZS;refine(Sep.start H).nw fun b1 H1 hs=>?_
 refine Zc.use (tZw hk H1) ?_
 try simp only[HV]
 rw[show Int.tdiv (k:Int) 2=((k/2:Nat):Int)from rfl,bZh (by omega)];refine⟨by decide,by simp,?_⟩;refine Zc.use (tZA hk (a:=k/2) (by omega) H1) ?_
 try simp only[HV]
 refine hs.stw 1 rfl rfl rfl rfl fun H1 hs=>?_
 refine hs.ldw 1 rfl rfl ?_;exact hs.fin 0 rfl _)
def bZJ (ps:List Pz):List Value:=ps.flatMap fun p=>p.c.toList
theorem mZF :∀ ps:List Pz,(bZJ ps).length=ps.length*8
 | []=>rfl
 |p::ps=>by
  show(p.c.toList++bZJ ps).length=_
  rw[List.length_append,mZF ps,List.length_cons,Nat.succ_mul];have:p.c.toList.length=8:=rfl;omega
theorem mZE :∀(ps:List Pz) (i:Nat) (p:Pz),ps[i]? =some p→((bZJ ps).drop (i*8)).take 8=p.c.toList
 | [],i,p,h=>by simp at h
 |q::ps,0,p,h=>by
  cases h;show((q.c.toList++bZJ ps).drop (0*8)).take 8=_
  rw[Nat.zero_mul,List.drop_zero,List.take_append_of_le_length (by show 8≤8;omega)];rfl
 |q::ps,i+1,p,h=>by
  show((q.c.toList++bZJ ps).drop ((i+1)*8)).take 8=_
  have e:(i+1)*8=q.c.toList.length+i*8:=by have:q.c.toList.length=8:=rfl;omega
  rw[e,List.drop_append,List.drop_eq_nil_of_le (by omega),List.nil_append,Nat.add_sub_cancel_left];exact mZE ps i p (by simpa using h)
theorem uZR {k:Nat}(hk:k≤32)(d:Bool):Tr prog 118 #[.int .i64 (k:Int),.int .i64 (if d=true then 1 else 0)] [] fun v M=>∃ b,v= .slice (some ⟨b,0,none⟩) 5 5∧M=[pts b (.row (bZJ (fZ4 d k)) 122 40)]:=fun H hs=>by
 apply gZy.ok;unfold gZy;refine Zc.use (uZr hk H) ?_
 try simp only[HV]
 refine hs.nw fun b1 H hs=>?_
 refine hs.stw 0 rfl rfl rfl rfl fun H hs=>?_;refine hs.ldw 0 rfl rfl ?_;refine Zc.use (qZ7 _ _ H) ?_
 try simp only[HV]
 refine hs.nw fun b2 H hs=>?_
 refine hs.stw 1 rfl rfl rfl rfl fun H hs=>?_;refine hs.ldw 0 rfl rfl ?_;refine ZZ.use (lZ3 _ _ 0 1 H) ?_
 try simp only[HV]
 refine hs.ldw 1 rfl rfl ?_;refine ZZ.use (iZ0 _ _ 1 2 (if d=true then 1 else 0) (k:Int) 1 H) ?_
 try simp only[HV]
 refine hs.ldw 1 rfl rfl ?_;refine ZZ.use (lZ3 _ _ 2 1 H) ?_
 try simp only[HV]
 refine hs.ldw 0 rfl rfl ?_;refine ZZ.use (oZo hk d H) ?_
 try simp only[HV]
 refine ZZ.use (iZ0 _ _ 1 2 (if d=true then 1 else 0) (-1) ((fZ9 d k).toNat:Int) H) ?_
 try simp only[HV]
 refine hs.ldw 0 rfl rfl ?_;refine ZZ.use (lZ3 _ _ 2 3 H) ?_
 try simp only[HV]
 refine hs.nw fun b3 H hs=>?_
 exact⟨_,⟨b3,rfl,rfl⟩,hs.re [2] rfl⟩
def pZj (d:Bool)(k per words:Nat)(v:Value)(M:List As):Prop:=∃ b,v= .tuple #[.slice (some ⟨b,0,none⟩) (bZO d k per words).length (bZO d k per words).length,.int .i64 0]∧M=[pts b (.row (bZJ (bZO d k per words)) 122 ((bZO d k per words).length*8))]
theorem qZ2 {k per words:Nat}(hk:k≤32)(hp:cZJ (per:Int)=true)(hw:bZn k per≤words∧words≤16777216)(d:Bool):
  Tr prog 77 #[.int .i64 (k:Int),.int .i64 (if d=true then 1 else 0),.int .i64 (per:Int),.int .i64 (words:Int)] [] (pZj d k per words):=fun H hs=>by
 have h:=fZC hp;have h1:=cZL hk;apply fZj.ok;unfold fZj;refine Zc.use (eZV hk hp H) ?_
 try simp only[HV]
 refine Zl (by cases d<;>decide) (Zl (by cases d<;>decide) ?_);refine Zc.use (nZW hk h.2 H) ?_
 try simp only[HV]
 refine Zl (by omega) ?_;refine Zc.use (sZQ hk hp hw.2 H) ?_
 try simp only[HV]
 have long:oZp k per words=false→Zc prog 118 #[.int .i64 (k:Int),.int .i64 (if d=true then 1 else 0)] H fun v14 H7=>DSl v14 fun A1 n1 m1=>∃ M,pZj d k per words (.tuple #[.slice A1 n1 m1,.int .i64 0]) M∧Sep M H7:=fun hb=>by
  refine(uZR hk d).use hs [] rfl rfl ?_;rintro _ _ H1 ⟨b,rfl,rfl⟩ hs;simp only[HV];have e:bZO d k per words=fZ4 d k:=by unfold bZO;rw[if_neg (by rw[hb];simp)]
  exact⟨_,⟨b,by rw[e];rfl,rfl⟩,by rw[e];exact hs⟩
 by_cases hs1:2*2^k+per≤words
 ·refine Zv hs1 ?_;by_cases hk2:k≤20
  ·refine Zv (by omega) ?_;rw[cZj (by omega),Lay.gZm (by omega)];refine⟨by omega,?_⟩;refine Zc.use (oZo hk d H) ?_
   try simp only[HV]
   refine Zc.use (iZ0 _ _ 0 3 (if d=true then 1 else 0) (-1) ((fZ9 d k).toNat:Int) H) ?_
   try simp only[HV]
   refine hs.nw fun b1 H hs=>?_
   have e:bZO d k per words=[oZq d k]:=by unfold bZO;rw[if_pos (show oZp k per words=true from decide_eq_true ⟨hk2,hs1⟩)]
   exact⟨_,⟨b1,by rw[e];rfl,rfl⟩,by rw[e];exact hs⟩
  ·refine Zl (by omega) (long (decide_eq_false (by omega)))
 ·exact Zl hs1 (long (decide_eq_false (by omega)))
end Pln
namespace W
open Go Go.Hw
theorem gZk :prog.follows .mixedOrders=true:=by kernel_rfl
def cZe.j6 (K:Value→Hp→Prop)(p5:Option Addr)(p6:Option Addr)(x6:Int)(a1:Addr)(a2:Addr)(p7:Option Addr)(p8:Option Addr)(H:Hp):Prop:=
 Hz 79 #[.pointer p7] H fun v7 H4=>iZx v7 fun x7 x8=>(BIf (x8 !=0) (K (.tuple #[.int .u32 0,.int .i64 x8]) H4) (BIf (x7 !=x6) (K (.tuple #[.int .u32 0,.int .i64 9]) H4) (LdA H4 a2 8 fun l10=>LeI H4 (a1.add 1) fun x9=>Hz 83 #[.pointer p7,.pointer p8,.agg l10.toArray,.pointer p6,.int .i64 x9] H4 fun v11 H5=>iZx v11 fun x10 x11=>(BIf (x11 !=0) (K (.tuple #[.int .u32 0,.int .i64 x11]) H5) (HcI 55 #[.pointer p5] H5 fun x12 H6=>BIf (x12 !=0) (K (.tuple #[.int .u32 0,.int .i64 x12]) H6) (K (.tuple #[.int .u32 x10,.int .i64 0]) H6))))))
def cZe (p1:Option Addr)(p2:Option Addr)(y1:Array Value)(x1:Int)(y2:Array Value)(x2:Int)(H:Hp)(K:Value→Hp→Prop):Prop:=
 Nw H (.obj (.cells y1 101)) fun b1 H1=>Nw H1 (.obj (.cells y2 122)) fun b2 H2=>LdA H2 ⟨b1,0,none⟩ 17 fun l1=>LdA H2 ⟨b2,0,none⟩ 8 fun l2=>Hz 82 #[.pointer p1,.pointer p2,.agg l1.toArray,.int .i64 x1,.agg l2.toArray] H2 fun v1 H3=>tZ2 v1 fun p3 p4 x3=>(BIf (x3 !=0) (K (.tuple #[.int .u32 0,.int .i64 x3]) H3) (LeI H3 ((⟨b2,0,none⟩:Addr).add 5) fun x4=>BIf (x4 !=1) (LeI H3 ((⟨b2,0,none⟩:Addr).add 5) fun x5=>BIf (x5 !=2) (K (.tuple #[.int .u32 0,.int .i64 18]) H3) (cZe.j6 K p1 p2 x2 ⟨b1,0,none⟩ ⟨b2,0,none⟩ p3 p4 H3)) (cZe.j6 K p1 p2 x2 ⟨b1,0,none⟩ ⟨b2,0,none⟩ p3 p4 H3)))
def cZe.Λ (K:Value→Hp→Prop):Zn:=⟨fun i=>match Nat.beq i 6 with|true=>some (fun E D H=>eP E 0 fun p5=>eP E 1 fun p6=>eI E 5 .u32 fun x6=>eN E 8 fun a1=>eN E 10 fun a2=>eP E 14 fun p7=>eP E 15 fun p8=>Zt D (cZe.j6 K p5 p6 x6 a1 a2 p7 p8 H))|false=>none,fun i=>none,(fun _=>none)⟩
theorem cZe.ok (p1:Option Addr)(p2:Option Addr)(y1:Array Value)(x1:Int)(y2:Array Value)(x2:Int)(H:Hp)(K:Value→Hp→Prop)(h:cZe p1 p2 y1 x1 y2 x2 H K):Zc prog 44 #[.pointer p1,.pointer p2,.agg y1,.int .i64 x1,.agg y2,.int .u32 x2] H K:=
 Zq Tryz.func44 rfl (nbl rfl) (Zf (Λ:=(cZe.Λ K)) gZk _ _ _ _ _ (Eq.mp (by kernel_rfl) h) (Zb Za rfl (Zb Za rfl (aZL (Zu (Zb Za rfl (Zj (Zb Za rfl Zy) (Zb Za rfl (Zj (Zb Za rfl Zy) Zk))))) rfl (fun E D H h=>by
   obtain⟨p5,e0,g2⟩:=GP h;obtain⟨p6,e1,g4⟩:=GP g2;obtain⟨x6,e5,g6⟩:=GI g4;obtain⟨a1,e8,g9⟩:=GN g6;obtain⟨a2,e10,g12⟩:=GN g9;obtain⟨p7,e14,g14⟩:=GP g12;obtain⟨p8,e15,g16⟩:=GP g14;obtain⟨rfl,h'⟩:=Zt.out g16;exact(Zf (Λ:=(cZe.Λ K)) gZk _ _ [(0,.pointer p5),(1,.pointer p6),(5,.int .u32 x6),(8,.pointer (some a1)),(10,.pointer (some a2)),(14,.pointer p7),(15,.pointer p8)] [] H (Eq.mp (by kernel_rfl) h') (Zb Za rfl (Zb (Zu (Zb Za rfl (Zj (Zb Za rfl Zy) (Zb Za rfl (Zj (Zb Za rfl Zy) Zk))))) rfl (Zb (Zb Za rfl (Zb Za rfl (Zj (Zb Za rfl Zy) Zk))) rfl (Zb (Zb Za rfl (Zb Za rfl (Zj (Zb Za rfl Zy) Zk))) rfl (Zb Za rfl Zy)))))).weaken (Ze.cons e0 (Ze.cons e1 (Ze.cons e5 (Ze.cons e8 (Ze.cons e10 (Ze.cons e14 (Ze.cons e15 (Ze.nil _)))))))) (Hp.le_refl _))))))
def gZt (p1:Option Addr)(p2:Option Addr)(y1:Array Value)(x1:Int)(x2:Int)(H:Hp)(K:Value→Hp→Prop):Prop:=
 Nw H (.obj (.cells y1 101)) fun b1 H1=>LdA H1 ⟨b1,0,none⟩ 17 fun l1=>Hz 119 #[.agg l1.toArray,.int .i64 x1,.int .i64 x2] H1 fun v1 H2=>gZg v1 fun y2 x3=>(Nw H2 (.obj (.cells #[.int .i64 0,.int .i64 0,.int .i64 0] 98)) fun b2 H3=>StA H3 ⟨b2,0,none⟩ y2 3 fun H4=>BIf (x3 !=0) (K (.tuple #[.pointer none,.int .i64 x3]) H4) (LdA H4 ⟨b2,0,none⟩ 3 fun l5=>Hz 120 #[.pointer p1,.pointer p2,.agg l5.toArray] H4 fun v4 H5=>dZX v4 fun p3 x4=>(K (.tuple #[.pointer p3,.int .i64 x4]) H5)))
theorem gZt.ok (p1:Option Addr)(p2:Option Addr)(y1:Array Value)(x1:Int)(x2:Int)(H:Hp)(K:Value→Hp→Prop)(h:gZt p1 p2 y1 x1 x2 H K):Zc prog 78 #[.pointer p1,.pointer p2,.agg y1,.int .i64 x1,.int .i64 x2] H K:=
 Zq Tryz.func78 rfl (nbl rfl) (Zf (Λ:=Zn.none (fun _=>none)) gZk _ _ _ _ _ (Eq.mp (by kernel_rfl) h) (Zs _ _ _ _ _))
def gZu (p1:Option Addr)(p2:Option Addr)(y1:Array Value)(x1:Int)(y2:Array Value)(H:Hp)(K:Value→Hp→Prop):Prop:=
 Nw H (.obj (.cells y1 101)) fun b1 H1=>Nw H1 (.obj (.cells y2 122)) fun b2 H2=>LdA H2 ⟨b1,0,none⟩ 17 fun l1=>LeI H2 ((⟨b2,0,none⟩:Addr).add 6) fun x2=>Hz 78 #[.pointer p1,.pointer p2,.agg l1.toArray,.int .i64 x2,.int .i64 x1] H2 fun v2 H3=>dZX v2 fun p3 x3=>(BIf (x3==0) (LdA H3 ⟨b1,0,none⟩ 17 fun l5=>LeI H3 ((⟨b2,0,none⟩:Addr).add 7) fun x4=>Hz 78 #[.pointer p1,.pointer p2,.agg l5.toArray,.int .i64 x4,.int .i64 x1] H3 fun v6 H4=>dZX v6 fun p4 x5=>(K (.tuple #[.pointer p3,.pointer p4,.int .i64 x5]) H4)) (K (.tuple #[.pointer p3,.pointer none,.int .i64 x3]) H3))
theorem gZu.ok (p1:Option Addr)(p2:Option Addr)(y1:Array Value)(x1:Int)(y2:Array Value)(H:Hp)(K:Value→Hp→Prop)(h:gZu p1 p2 y1 x1 y2 H K):Zc prog 82 #[.pointer p1,.pointer p2,.agg y1,.int .i64 x1,.agg y2] H K:=
 Zq Tryz.func82 rfl (nbl rfl) (Zf (Λ:=Zn.none (fun _=>none)) gZk _ _ _ _ _ (Eq.mp (by kernel_rfl) h) (Zs _ _ _ _ _))
def gZY (p1:Option Addr)(p2:Option Addr)(y1:Array Value)(p3:Option Addr)(x1:Int)(H:Hp)(K:Value→Hp→Prop):Prop:=
 Nw H (.obj (.cells y1 122)) fun b1 H1=>LeI H1 ((⟨b1,0,none⟩:Addr).add 5) fun x2=>BIf (x2==1) (LdA H1 (((⟨b1,0,none⟩:Addr).add 0).add 0) 2 fun l1=>Hz 131 #[.pointer p1,.pointer p2,.agg l1.toArray,.pointer p3,.int .i64 x1] H1 fun v2 H2=>iZx v2 fun x3 x4=>(K (.tuple #[.int .u32 x3,.int .i64 x4]) H2)) (BIf (x2==2) (LdA H1 ((⟨b1,0,none⟩:Addr).add 0) 5 fun l5=>Hz 132 #[.pointer p1,.pointer p2,.agg l5.toArray,.pointer p3,.int .i64 x1] H1 fun v5 H3=>iZx v5 fun x5 x6=>(K (.tuple #[.int .u32 x5,.int .i64 x6]) H3)) (K (.tuple #[.int .u32 0,.int .i64 18]) H1))
theorem gZY.ok (p1:Option Addr)(p2:Option Addr)(y1:Array Value)(p3:Option Addr)(x1:Int)(H:Hp)(K:Value→Hp→Prop)(h:gZY p1 p2 y1 p3 x1 H K):Zc prog 83 #[.pointer p1,.pointer p2,.agg y1,.pointer p3,.int .i64 x1] H K:=
 Zq Tryz.func83 rfl (nbl rfl) (Zf (Λ:=Zn.none (fun _=>none)) gZk _ _ _ _ _ (Eq.mp (by kernel_rfl) h) (Zs _ _ _ _ _))
def bZG.q1 (H3:Hp)(b2:Nat)(K:Value→Hp→Prop):Prop:=
 StA H3 ⟨b2,0,none⟩ #[.int .i64 0,.int .i64 0,.int .i64 0] 3 fun H4=>LdA H4 ⟨b2,0,none⟩ 3 fun l2=>K (.tuple #[.agg l2.toArray,.int .i64 1]) H4
def bZG (y1:Array Value)(x1:Int)(x2:Int)(H:Hp)(K:Value→Hp→Prop):Prop:=
 Nw H (.obj (.cells y1 101)) fun b1 H1=>Nw H1 (.obj (.cells #[.int .i64 0,.int .i64 0,.int .i64 0] 98)) fun b2 H2=>LdA H2 ⟨b1,0,none⟩ 17 fun l1=>HcB 163 #[.agg l1.toArray] H2 fun c1 H3=>BIf (!c1) (bZG.q1 H3 b2 K) (BIf (decide (x1<0)) (bZG.q1 H3 b2 K) (BIf (decide (x1≥4)) (bZG.q1 H3 b2 K) (BIf (decide (x2<0)) (bZG.q1 H3 b2 K) (LeI H3 ((⟨b1,0,none⟩:Addr).add 0) fun x3=>BIf (decide (x2>x3)) (bZG.q1 H3 b2 K) ((0≤(IntKind.u64.wrap x2)∧ixI x1 4 (LeI H3 ((((⟨b1,0,none⟩:Addr).add 5).add (x1.toNat*3)).add 0) fun x4=>LeI H3 ((⟨b1,0,none⟩:Addr).add 1) fun x5=>(x5≠0∧IntKind.i64=IntKind.i64∧StA H3 ⟨b2,0,none⟩ #[.int .i64 x4,.int .i64 (IntKind.i64.wrap ((IntKind.i64.wrap (Int.tdiv (IntKind.i64.wrap ((aZN .i64 1 (IntKind.u64.wrap x2))-1)) x5))+1)),.int .i64 (aZN .i64 1 (IntKind.u64.wrap x2))] 3 fun H9=>LdA H9 ⟨b2,0,none⟩ 3 fun l7=>K (.tuple #[.agg l7.toArray,.int .i64 0]) H9))))))))
theorem bZG.ok (y1:Array Value)(x1:Int)(x2:Int)(H:Hp)(K:Value→Hp→Prop)(h:bZG y1 x1 x2 H K):Zc prog 119 #[.agg y1,.int .i64 x1,.int .i64 x2] H K:=
 Zq Tryz.func119 rfl (nbl rfl) (Zf (Λ:=Zn.none (fun i=>match Nat.beq i 4 with|true=>some ([],[0,1,2,3,4,5,6,7,8,9,10,11,12],13)|false=>none)) gZk _ _ _ _ _ (Eq.mp (by kernel_rfl) h) (Zs _ _ _ _ _))
end W
namespace Eng
open Go Go.Hw Go.Form W Shp Dsk Str Are Trn Pas Pln
theorem wZD :pZm prog 101 17:=⟨by kernel_rfl,by kernel_rfl,by kernel_rfl,by kernel_rfl⟩
def pZ9 (k p:Nat):List Int:=
 let r:Int:=Lay.aZe k p
 let w:Int:=(2^k:Nat)
 [(k:Int),(p:Int),1,8,((8*p:Nat):Int),9,r,w,9+r,r,w,9+2*r,r,w,9+3*r,r,w]
theorem qZl {per:Nat}(h:cZJ (per:Int)=true):per=4∨per=8∨per=16∨per=32∨per=64∨per=128∨per=256∨per=512:=by
 unfold cZJ at h;simp only[Bool.or_eq_true,beq_iff_eq]at h;omega
theorem pZl {per:Nat}(h:cZJ (per:Int)=true):Lay.aZj ((per*8:Nat):Int)=per:=by
 rcases qZl h with e|e|e|e|e|e|e|e<;>subst e<;>decide
theorem mZG {s:Nat}(h:0<Lay.aZj s):cZJ ((s/8:Nat):Int)=true:=by
 have:s=32∨s=64∨s=128∨s=256∨s=512∨s=1024∨s=2048∨s=4096:=by
  unfold Lay.aZj at h
  repeat' split at h
  all_goals omega
 rcases this with e|e|e|e|e|e|e|e<;>subst e<;>decide
theorem lZn {k p:Nat}(hk:k≤32):Lay.aZe k p≤4294967296:=by
 have:=cZL hk;unfold Lay.aZe;have:=Nat.div_le_self (2^k-1) p;have:=Nat.two_pow_pos k;omega
section
variable {most per : Nat} (hm : most ≤ 32) (hp : cZJ (per : Int) = true)
include hm hp
theorem lZa :∀ x∈pZ9 most per,-9223372036854775808≤x∧x≤9223372036854775807:=by
 have h1:=lZn (p:=per) hm;have h2:=cZL hm;have h3:=fZC hp;intro x hx;unfold pZ9 at hx;generalize Lay.aZe most per=rr at*;generalize 2^most=ww at*;simp only[List.mem_cons,List.not_mem_nil,or_false]at hx;omega
theorem bZW (H:Hp):Zc prog 163 #[.agg (Lay.cZ5 most per)] H (RetE (.bool true) H):=Zc.ret (by
 have h3:=fZC hp;apply fZe.ok;unfold fZe;refine(Sep.start H).nw fun b1 H1 hs=>?_
 refine hs.ldf 1 rfl rfl ?_;simp only[HV];refine hs.ldf 1 rfl rfl ?_;simp only[HV];rw[if_neg (by omega),ZU (x:=(per:Int)*8) (by omega) (by omega)];refine ZZ.use (Lay.lZg ((per:Int)*8) H1) ?_
 try simp only[HV]
 have e:Lay.aZj ((per:Int)*8)=per:=pZl hp;rw[e];refine ZZ.use (Lay.eZV (most:Int) (per:Int) H1) ?_
 try simp only[HV]
 rw[decide_eq_true (by omega)];refine aZI rfl ?_;refine hs.ldw 1 rfl rfl ?_;refine hs.ldf 1 rfl rfl ?_;simp only[HV];refine hs.ldf 1 rfl rfl ?_;simp only[HV];refine ZZ.use (Lay.rZH hm (p:=per) (by omega) (by omega) H1) ?_
 try simp only[HV]
 refine uZp wZD (a:=pZ9 most per) (b:=pZ9 most per) rfl rfl (lZa hm hp) (lZa hm hp) rfl rfl ?_;rw[decide_eq_true rfl];exact hs.fin 0 rfl _)
theorem qZV {i k:Nat}(hi:i<4)(hk:k≤most)(H:Hp):Zc prog 119 #[.agg (Lay.cZ5 most per),.int .i64 (i:Int),.int .i64 (k:Int)] H
  (RetE (.tuple #[.agg #[.int .i64 (((exX most per i k).f:Nat):Int),.int .i64 (((exX most per i k).s:Nat):Int),.int .i64 (((exX most per i k).w:Nat):Int)],.int .i64 0]) H):=Zc.ret (by
 have h3:=fZC hp;have h1:=cZL (k:=k) (by omega);have h4:=Nat.two_pow_pos k;have h5:=lZn (p:=per) hm;apply bZG.ok;unfold bZG bZG.q1;refine(Sep.start H).nw fun b1 H1 hs=>?_
 refine hs.nw fun b2 H1 hs=>?_
 refine hs.ldw 1 rfl rfl ?_;rw[Array.toArray_toList];refine Zc.use (bZW hm hp H1) ?_
 try simp only[HV]
 refine Zl (by omega) (Zl (by omega) (Zl (by omega) ?_));refine hs.ldf 1 (v:=.int .i64 most) rfl rfl ?_;simp only[HV];refine Zl (by omega) ⟨by rw[cZj (by omega)];omega,by omega,by omega,?_⟩;rw[Int.toNat_natCast]
 try simp only[HS]
 refine hs.ld 1 (v:=.int .i64 (Lay.exF (Lay.aZe most per) i)) rfl (by rw[lZR,Array.getElem?_toList];exact Lay.rZG most per i hi) ?_;simp only[HV];refine hs.ld 1 (v:=.int .i64 per) rfl rfl ?_;simp only[HV];rw[cZj (n:=k) (by omega),Lay.gZm (by omega),ZU (x:=((2^k:Nat):Int)-1) (by omega) (by omega),show((2^k:Nat):Int)-1=((2^k-1:Nat):Int) by omega,
  show Int.tdiv ((2^k-1:Nat):Int) (per:Int)=(((2^k-1)/per:Nat):Int)from rfl]
 have h6:=Nat.div_le_self (2^k-1) per;rw[bZh (Nat.le_trans h6 (by omega)),ZU (x:=(((2^k-1)/per:Nat):Int)+1) (by generalize(2^k-1)/per=q at *;omega) (by generalize(2^k-1)/per=q at *;omega)];refine⟨by omega,by simp,?_⟩;refine hs.stw 2 rfl rfl rfl rfl fun H1 hs=>?_
 refine hs.ldw 2 rfl rfl ?_;have e1:Lay.exF (Lay.aZe most per) i=(((exX most per i k).f:Nat):Int):=by unfold Lay.exF exX;simp
 rw[e1];exact hs.fin 0 rfl _)
end
structure hZJ (d:D)(most:Nat):Prop where
 m:most≤32
 p:cZJ (D.per d:Int)=true
 fit:Lay.bZy most (D.per d)≤d.sec
theorem hZJ.on {d:D}{most:Nat}(h:hZJ d most)(hok:Ok d){i k:Nat}(hi:i<4)(hk:k≤most):On d (exX most (D.per d) i k):=by
 have h1:=(Ok.per_le hok).1;have h2:=hZU (p:=D.per d) hk;have h3:=h.fit;have h4:=jZN (k:=k) (p:=D.per d) (by omega);have h5:=Nat.two_pow_pos k;unfold Lay.bZy at h3;have h6:i*Lay.aZe most (D.per d)≤3*Lay.aZe most (D.per d):=Nat.mul_le_mul_right _ (by omega);exact⟨h5,Nat.le_add_left 1 ((2^k-1)/D.per d),by show 9+i*Lay.aZe most (D.per d)+Lay.aZe k (D.per d)≤d.sec;omega,h4⟩
theorem hZJ.prog {d d':D}{most:Nat}(h:hZJ d most)(h1:d'.sec=d.sec)(h2:d'.size=d.size):hZJ d' most:=by
 have e:D.per d'=D.per d:=by unfold D.per;rw[h2]
 exact⟨h.m,by rw[e];exact h.p,by rw[e,h1];exact h.fit⟩
theorem rZk {most per i j k:Nat}(hk:k≤most)(hij:i≠j):(exX most per i k).f+(exX most per i k).s≤(exX most per j k).f∨(exX most per j k).f+(exX most per j k).s≤(exX most per i k).f:=by
 have h2:=hZU (p:=per) hk;show 9+i*Lay.aZe most per+Lay.aZe k per≤9+j*Lay.aZe most per∨9+j*Lay.aZe most per+Lay.aZe k per≤9+i*Lay.aZe most per
 rcases Nat.lt_or_gt_of_ne hij with h|h
 ·left;have:(i+1)*Lay.aZe most per≤j*Lay.aZe most per:=Nat.mul_le_mul_right _ h;rw[Nat.succ_mul]at this;omega
 ·right;have:(j+1)*Lay.aZe most per≤i*Lay.aZe most per:=Nat.mul_le_mul_right _ h;rw[Nat.succ_mul]at this;omega
section
variable {dp ap : Nat} {d : D} {most : Nat} (hok : Ok d) (hl : hZJ d most)
include hok hl
theorem jZB {i k:Nat}(hi:i<4)(hk:k≤most):Tr prog 78 #[.pointer (some ⟨dp,0,none⟩),.pointer (some ⟨ap,0,none⟩),.agg (Lay.cZ5 most (D.per d)),.int .i64 (i:Int),.int .i64 (k:Int)] [Dk dp d] fun v M=>
  ∃ p,v= .tuple #[.pointer (some ⟨p,0,none⟩),.int .i64 0]∧M=[Dk dp d,pts p (ZO dp ap (exX most (D.per d) i k))]:=fun H hs=>by
 apply gZt.ok;unfold gZt;refine hs.nw fun b1 H hs=>?_
 refine hs.ldw 1 rfl rfl ?_;rw[Array.toArray_toList];refine Zc.use (qZV hl.m hl.p hi hk H) ?_
 try simp only[HV]
 refine hs.nw fun b2 H hs=>?_
 refine hs.stw 2 rfl rfl rfl rfl fun H hs=>?_;refine ZB rfl ?_;refine hs.ldw 2 rfl rfl ?_;refine(dZn (dp:=dp) (ap:=ap) hok (exX most (D.per d) i k) (hl.on hok hi hk)).use hs [0] rfl rfl ?_;rintro _ _ H ⟨p,rfl,rfl⟩ hs;simp only[HV];exact⟨_,⟨p,rfl,rfl⟩,hs.re [0,1] rfl⟩
theorem uZF {pz:Pz}{k:Nat}(hf:pz.f<4)(ho:pz.o<4)(hk:k≤most):Tr prog 82 #[.pointer (some ⟨dp,0,none⟩),.pointer (some ⟨ap,0,none⟩),.agg (Lay.cZ5 most (D.per d)),.int .i64 (k:Int),.agg pz.c] [Dk dp d] fun v M=>
  ∃ p q,v= .tuple #[.pointer (some ⟨p,0,none⟩),.pointer (some ⟨q,0,none⟩),.int .i64 0]∧M=[Dk dp d,pts p (ZO dp ap (exX most (D.per d) pz.f k)),pts q (ZO dp ap (exX most (D.per d) pz.o k))]:=fun H hs=>by
 apply gZu.ok;unfold gZu;refine hs.nw fun b1 H hs=>?_
 refine hs.nw fun b2 H hs=>?_
 refine hs.ldw 1 rfl rfl ?_;rw[Array.toArray_toList];refine hs.ldf 2 (v:=.int .i64 (pz.f:Int)) rfl rfl ?_;simp only[HV];refine(jZB (dp:=dp) (ap:=ap) hok hl hf hk).use hs [0] rfl rfl ?_;rintro _ _ H ⟨p,rfl,rfl⟩ hs;simp only[HV];refine ZY rfl ?_;refine hs.ldw 2 rfl rfl ?_;rw[Array.toArray_toList];refine hs.ldf 3 (v:=.int .i64 (pz.o:Int)) rfl rfl ?_;simp only[HV];refine(jZB (dp:=dp) (ap:=ap) hok hl ho hk).use hs [0] rfl rfl ?_;rintro _ _ H ⟨q,rfl,rfl⟩ hs;simp only[HV];exact⟨_,⟨p,q,rfl,rfl⟩,hs.re [0,2,1] rfl⟩
end
structure nZx (pz:Pz)(k per cap:Nat):Prop where
 f:pz.f<4
 o:pz.o<4
 fo:pz.f≠pz.o
 k:pz.j.ea+pz.j.eb=k
 tn:pz.t=true→2^pz.j.ea+per≤cap
 rw:pz.t=false→pz.j.eb≤20∧-1≤pz.j.tw∧pz.j.tw≤32∧per+2*2^pz.j.eb≤cap
def kZF (per cap f o:Nat)(pz:Pz)(r w:Nat):Prop:=
 (pz.t=true∧∃ j,cZy ((2^pz.j.ea:Nat):Int) ((2^pz.j.eb:Nat):Int) per cap j∧r=rT per f o (2^pz.j.ea) (2^pz.j.eb) (2^j) (2^pz.j.eb/2^j)∧w=wT per o (2^pz.j.ea) (2^j) (2^pz.j.eb/2^j))∨
 (pz.t=false∧∃ j,dZK pz.j.ea ((cap-per)/2^pz.j.eb) j∧r=rP per f o (2^j*2^pz.j.eb) (2^pz.j.ea/2^j)∧w=wP per o (2^j*2^pz.j.eb) (2^pz.j.ea/2^j))
section
variable {p q dp ap : Nat} {x y : X} {cap : Nat} {peak : Int} {TT : As} {k : Nat} {pz : Pz}
def wZU (p q dp ap:Nat)(x y:X)(cap:Nat)(pz:Pz)(TT:As)(d:D)(v:Value)(M:List As):Prop:=
 ∃ peak':Int,peak'≤cap∧∃ r w,kZF (D.per d) cap x.f y.f pz r w∧
  ((∃ d',Prog (inX y) d d' r w∧pws d' y 0 y.w=pz.ap (pws d x 0 x.w)∧v= .tuple #[.int .u32 ((Go.Crc.sum (form (pz.ap (pws d x 0 x.w)))).toNat:Int),.int .i64 0]∧M=[pts p (ZO dp ap x),pts q (ZO dp ap y),Dk dp d',Ar ap cap peak' [],TT])∨
  (∃ d',cZv (inX y) d d'∧d.fuse≤r+w∧v= .tuple #[.int .u32 0,.int .i64 8]∧M=[pts p (ZO dp ap x),pts q (ZO dp ap y),Dk dp d',Ar ap cap peak' [],TT]))
theorem iZH {a b c:Int}(h1:a≤c)(h2:b≤c):mx a b≤c:=by unfold mx;split<;>assumption
theorem wZg {d:D}(hT:∀ H,TT H→T64 H)(hok:Ok d)(hl:d.down=false)(hx:On d x)(hy:On d y)(ho:d.rd≤1000000000000∧d.wr≤1000000000000)(hk32:k≤32)(hxw:x.w=2^k)(hyw:y.w=2^k)(hdis:x.f+x.s≤y.f∨y.f+y.s≤x.f)
  (hper:cZJ (D.per d:Int)=true) (hcap:cap≤16777216) (hpk:peak≤cap) (hz:nZx pz k (D.per d) cap):
  Tr prog 83 #[.pointer (some ⟨p,0,none⟩),.pointer (some ⟨q,0,none⟩),.agg pz.c,.pointer (some ⟨ap,0,none⟩),.int .i64 (D.per d:Int)]
   [pts p (ZO dp ap x),pts q (ZO dp ap y),Dk dp d,Ar ap cap peak [],TT] (wZU p q dp ap x y cap pz TT d):=fun H hs=>by
 have hp:=Ok.per_le hok;have hkk:=hz.k;have hpow:2^pz.j.ea*2^pz.j.eb=2^k:=by rw[← Nat.pow_add,hkk]
 have hxw2:x.w=2^pz.j.ea*2^pz.j.eb:=hxw.trans hpow.symm;have hyw2:y.w=2^pz.j.ea*2^pz.j.eb:=hyw.trans hpow.symm;apply gZY.ok;unfold gZY;refine hs.nw fun b1 H hs=>?_
 refine hs.ldf 5 (v:=.int .i64 (if pz.t=true then 1 else 2)) rfl rfl ?_;simp only[HV];cases ht:pz.t with
 |true=>
  refine ZY rfl ?_
  try simp only[HS]
  refine hs.lda 5 (off:=0) (n:=2) rfl (by show 0+2≤8;omega) ?_;have ea:((pz.c.toList.drop 0).take 2).toArray=#[.int .i64 ((2^pz.j.ea:Nat):Int),.int .i64 ((2^pz.j.eb:Nat):Int)]:=rfl;rw[ea];have htn:=hz.tn ht;obtain⟨j,hj1,hj⟩:=cZy.ex (ea:=pz.j.ea) (eb:=pz.j.eb) (per:=(D.per d:Int)) (free:=(cap:Int)) (by omega) (by omega);have hjs:cZy ((2^pz.j.ea:Nat):Int) ((2^pz.j.eb:Nat):Int) (D.per d) ((cap:Int)-ZM []) j:=by rw[bZ0,Int.sub_zero];exact hj
  have hfit:=hj.fit;have hdv:2^pz.j.eb/2^j*2^j=2^pz.j.eb:=(div_pow hj1).symm;refine(Trn.nZy (p:=p) (q:=q) (dp:=dp) (ap:=ap) (x:=x) (y:=y) (cap:=cap) (peak:=peak) (bufs:=[]) hT hok hl hx hy (by omega) (by omega) hxw2 hyw2 hdis hper (by omega) (by decide) hjs).use hs [0,1,2,3,4] rfl rfl ?_;rintro v _ H ⟨M0,hq,rfl⟩ hs;have hpk2:mx peak (ZM []+((2^j*2^pz.j.ea:Nat):Int)+(D.per d:Int))≤cap:=iZH hpk (by rw[bZ0];rw[Int.natCast_mul];omega);have hap:pz.ap (pws d x 0 x.w)=trW d x (2^pz.j.ea) (2^pz.j.eb):=by unfold Pz.ap;rw[if_pos ht,vZj,hxw2]
  rcases hq with⟨d',hI,rfl,rfl⟩|⟨d',hD,hfu,rfl,rfl⟩
  ·simp only[HV];refine⟨_,⟨_,hpk2,_,_,.inl ⟨ht,j,hj,rfl,rfl⟩,.inl ⟨d',hI.pg,?_,by rw[hap],rfl⟩⟩,hs.re [0,1,2,3,4] rfl⟩;rw[hap];have hlen:=lZ2 d x (2^pz.j.ea) (2^pz.j.eb);rw[hyw2];refine(pZp fun k hk=>hI.dst k ?_);rw[hdv,Nat.mul_comm];exact hk
  ·simp only[HV];exact⟨_,⟨_,hpk2,_,_,.inl ⟨ht,j,hj,rfl,rfl⟩,.inr ⟨d',hD,hfu,rfl,rfl⟩⟩,hs.re [0,1,2,3,4] rfl⟩
 |false=>
  refine aZd (by decide) (ZY rfl ?_)
  try simp only[HS]
  refine hs.lda 5 (off:=0) (n:=5) rfl (by show 0+5≤8;omega) ?_;have ea:((pz.c.toList.drop 0).take 5).toArray=pz.j.a:=rfl;rw[ea];obtain⟨h20,htw1,htw2,hcp⟩:=hz.rw ht;have hpb:=Nat.two_pow_pos pz.j.eb;have hq2:2≤(cap-D.per d)/2^pz.j.eb:=(Nat.le_div_iff_mul_le hpb).2 (by omega);obtain⟨j,hj⟩:=dZK.ex (ea:=pz.j.ea) hq2;have hjs:dZK pz.j.ea (((cap:Int)-ZM []-(D.per d:Int)).toNat/2^pz.j.eb) j:=by
   have:((cap:Int)-ZM []-(D.per d:Int)).toNat=cap-D.per d:=by rw[bZ0];omega
   rw[this];exact hj
  have hfit:(2^j+1)*2^pz.j.eb≤cap-D.per d:=(Nat.le_div_iff_mul_le hpb).1 hj.fit;rw[Nat.succ_mul]at hfit;refine(Pas.nZy (p:=p) (q:=q) (dp:=dp) (ap:=ap) (x:=x) (y:=y) (cap:=cap) (peak:=peak) (bufs:=[]) (j:=pz.j) hT hok hl hx hy (by omega) (by omega) h20 ⟨htw1,htw2⟩ hxw2 hyw2 hdis hper (by omega) (by decide) (by rw[bZ0];omega) hjs).use hs [0,1,2,3,4] rfl rfl ?_;rintro v _ H ⟨M0,hq,rfl⟩ hs;have hpk2:mx peak (ZM []+((2^j*2^pz.j.eb:Nat):Int)+((2^pz.j.eb:Nat):Int)+(D.per d:Int))≤cap:=iZH hpk (by rw[bZ0];omega);have hap:pz.ap (pws d x 0 x.w)=cZH pz.j d x (2^pz.j.ea):=by unfold Pz.ap;rw[if_neg (by rw[ht];simp),qZJ,hxw2]
  rcases hq with⟨d',hI,rfl,rfl⟩|⟨d',hD,hfu,rfl,rfl⟩
  ·simp only[HV];refine⟨_,⟨_,hpk2,_,_,.inr ⟨ht,j,hj,rfl,rfl⟩,.inl ⟨d',hI.pg,?_,by rw[hap],rfl⟩⟩,hs.re [0,1,2,3,4] rfl⟩;rw[hap];have hlen:=jZi pz.j d x (2^pz.j.ea);rw[hyw2,←hlen];have hdv:2^pz.j.ea/2^j*2^j=2^pz.j.ea:=(div_pow hj.le).symm;have key:=pZp (d:=d') (x:=y) (n:=(cZH pz.j d x (2^pz.j.ea)).length) (f:=fun k=>((cZH pz.j d x (2^pz.j.ea))[k]?).getD 0) fun k hk=>by
    have:=hI.dst k (by rw[hdv,←hlen];exact hk);rw[hdv]at this;exact this
   rw[key];exact rZZ _
  ·simp only[HV];exact⟨_,⟨_,hpk2,_,_,.inr ⟨ht,j,hj,rfl,rfl⟩,.inr ⟨d',hD,hfu,rfl,rfl⟩⟩,hs.re [0,1,2,3,4] rfl⟩
end
theorem nZN {d:D}{x:X}(hx:On d x):∀ i,inX x i→0≤i∧i<d.sec:=fun i hi=>by
 have:=hx.fit;unfold inX at hi;omega
def doP (dp ap:Nat)(d:D)(c:Cn)(most k:Nat)(pz:Pz)(cap:Nat)(TT:As)(v:Value)(M:List As):Prop:=
 ∃ peak':Int,peak'≤cap∧∃ r w,kZF (D.per d) cap (exX most (D.per d) pz.f k).f (exX most (D.per d) pz.o k).f pz r w∧
  ((∃ d' c',bZN d d' (nS (D.per d) (2^k)+r) w 1∧Clean d' c'∧Sam (inX (exX most (D.per d) pz.o k)) c c'∧cws c' (D.per d) (exX most (D.per d) pz.o k).f (2^k)=pz.ap (cws c (D.per d) (exX most (D.per d) pz.f k).f (2^k))∧
    v= .tuple #[.int .u32 (eZC (pz.ap (cws c (D.per d) (exX most (D.per d) pz.f k).f (2^k))):Int),.int .i64 0]∧M=[Dk dp d',Ar ap cap peak' [],TT])∨
  (∃ d',Cut d d' (nS (D.per d) (2^k)+r+w+1)∧Left d' (fun c'=>Sam (inX (exX most (D.per d) pz.o k)) c c')∧v= .tuple #[.int .u32 0,.int .i64 8]∧M=[Dk dp d',Ar ap cap peak' [],TT]))
theorem wZt {dp ap:Nat}{d:D}{c:Cn}{most k:Nat}{pz:Pz}{cap:Nat}{peak:Int}{TT:As}(hT:∀ H,TT H→T64 H)(hc:Clean d c)(hl:hZJ d most)(hk:k≤most)(ho:d.rd≤100000000000∧d.wr≤100000000000∧d.sy≤100000000000)
  (hcap:cap≤16777216) (hpk:peak≤cap) (hz:nZx pz k (D.per d) cap):
  Tr prog 44 #[.pointer (some ⟨dp,0,none⟩),.pointer (some ⟨ap,0,none⟩),.agg (Lay.cZ5 most (D.per d)),.int .i64 (k:Int),.agg pz.c,.int .u32 (eZC (cws c (D.per d) (exX most (D.per d) pz.f k).f (2^k)):Int)]
   [Dk dp d,Ar ap cap peak [],TT] (doP dp ap d c most k pz cap TT):=fun H hs=>by
 have hok:=hc.ok;have hp:=Ok.per_le hok;have hm:=hl.m;have hx:=hl.on hok hz.f hk;have hy:=hl.on hok hz.o hk;have hcp:D.per d≤cap:=by
  cases ht:pz.t with
  |true=>have:=hz.tn ht;have:=Nat.two_pow_pos pz.j.ea;omega
  |false=>have:=hz.rw ht;have:=Nat.two_pow_pos pz.j.eb;omega
 apply cZe.ok;unfold cZe;refine hs.nw fun b1 H hs=>?_
 refine hs.nw fun b2 H hs=>?_
 refine hs.ldw 3 rfl rfl ?_;refine hs.ldw 4 rfl rfl ?_;rw[Array.toArray_toList,Array.toArray_toList];refine(uZF (dp:=dp) (ap:=ap) hok hl hz.f hz.o hk).use hs [0] rfl rfl ?_;rintro _ _ H ⟨p,q,rfl,rfl⟩ hs;simp only[HV];refine ZB rfl ?_;have hs:Sep [Dk dp d,pts p (ZO dp ap (exX most (D.per d) pz.f k)),pts q (ZO dp ap (exX most (D.per d) pz.o k)),Ar ap cap peak [],TT,pts b1 (.obj (.cells (Lay.cZ5 most (D.per d)) 101)),pts b2 (.obj (.cells pz.c 122))] H:=hs;have j6:cZe.j6 (fun v H'=>∃ M,doP dp ap d c most k pz cap TT v M∧Sep M H') (some ⟨dp,0,none⟩) (some ⟨ap,0,none⟩) (eZC (cws c (D.per d) (exX most (D.per d) pz.f k).f (2^k)):Int) ⟨b1,0,none⟩ ⟨b2,0,none⟩ (some ⟨p,0,none⟩) (some ⟨q,0,none⟩) H:=by
  have hwx:(exX most (D.per d) pz.f k).w=2^k:=rfl;have hwy:(exX most (D.per d) pz.o k).w=2^k:=rfl;have hxy:=rZk (most:=most) (per:=D.per d) hk hz.fo;have hcost:∃ r w,kZF (D.per d) cap (exX most (D.per d) pz.f k).f (exX most (D.per d) pz.o k).f pz r w:=by
   have hkk:=hz.k;cases ht:pz.t with
   |true=>
    have htn:=hz.tn ht;obtain⟨j,_,hj⟩:=cZy.ex (ea:=pz.j.ea) (eb:=pz.j.eb) (per:=(D.per d:Int)) (free:=(cap:Int)) (by omega) (by omega);exact⟨_,_,.inl ⟨ht,j,hj,rfl,rfl⟩⟩
   |false=>
    obtain⟨_,_,_,hcp⟩:=hz.rw ht;obtain⟨j,hj⟩:=dZK.ex (ea:=pz.j.ea) ((Nat.le_div_iff_mul_le (Nat.two_pow_pos pz.j.eb)).2 (by omega):2≤(cap-D.per d)/2^pz.j.eb);exact⟨_,_,.inr ⟨ht,j,hj,rfl,rfl⟩⟩
  generalize hX:exX most (D.per d) pz.f k=x at*;generalize hY:exX most (D.per d) pz.o k=y at*;unfold cZe.j6;refine(lZI (p:=p) (dp:=dp) (ap:=ap) (x:=x) (cap:=cap) (peak:=peak) (bufs:=[]) hok hc.down hx (by omega) (by rw[bZ0];omega)).use hs [1,0,3] rfl rfl ?_;have hw0:=gZl hc.now x (2^k);have hpk1:mx peak (ZM []+(D.per d:Int))≤cap:=iZH hpk (by rw[bZ0];omega);rintro _ _ H (⟨hf,rfl,rfl⟩|⟨j,hj,hf,rfl,rfl⟩) hs
  ·have hsum:((Go.Crc.sum (form (pws d x 0 x.w))).toNat:Int)=(eZC (cws c (D.per d) x.f (2^k)):Int):=by rw[hwx,hw0];rfl
   rw[hsum];simp only[HV];refine ZB rfl (ZB rfl ?_);rw[hwx]at hs hf;generalize hN:nS (D.per d) (2^k)=N at hs hf;have hcN:=hc.rdG N;have hwN:=bZN.rdG hf;have hs:Sep [pts p (ZO dp ap x),Dk dp (D.rdG d N),Ar ap cap (mx peak (ZM []+(D.per d:Int))) [],pts q (ZO dp ap y),TT,pts b1 (.obj (.cells (Lay.cZ5 most (D.per d)) 101)),pts b2 (.obj (.cells pz.c 122))] H:=hs;refine hs.ldw 6 rfl rfl ?_;rw[Array.toArray_toList]
   try simp only[HS]
   refine hs.ld 5 (v:=.int .i64 (D.per d:Int)) rfl rfl ?_;simp only[HV];have hwr:(D.rdG d N).wr=d.wr:=rfl;have hrd:(D.rdG d N).rd=d.rd+N:=rfl;have hNs:N≤4294967296:=by
    rw[← hN];have h2k:=cZL (k:=k) (by omega);unfold nS;exact Nat.le_trans (Nat.div_le_of_le_mul (by
     have:2^k+D.per d-1≤2^k*D.per d:=by
      have h1:=Nat.two_pow_pos k;obtain⟨a,ha⟩:∃ a,2^k=a+1:=⟨2^k-1,by omega⟩;obtain⟨b,hb⟩:∃ b,D.per d=b+1:=⟨D.per d-1,by omega⟩;rw[ha,hb,Nat.mul_add,Nat.add_mul];omega
     rw[Nat.mul_comm];exact this)) h2k
   have hpx:pws (D.rdG d N) x 0 x.w=cws c (D.per d) x.f (2^k):=by rw[hwx];exact gZl hcN.now x (2^k)
   refine(wZg (p:=p) (q:=q) (dp:=dp) (ap:=ap) (x:=x) (y:=y) (cap:=cap) (peak:=mx peak (ZM []+(D.per d:Int))) (TT:=TT) (k:=k) (pz:=pz) (d:=D.rdG d N) hT hcN.ok hcN.down ⟨hx.w1,hx.s1,hx.fit,hx.room⟩ ⟨hy.w1,hy.s1,hy.fit,hy.room⟩ (by omega) (by omega) hwx hwy hxy hl.p hcap hpk1 hz).use hs [0,3,1,2,4] rfl rfl ?_;rintro v M H ⟨peak',hpk',r,w,hcost',hq⟩ hs;rw[hpx]at hq;rcases hq with⟨d',hP,hw',rfl,rfl⟩|⟨d',hD,hfu,rfl,rfl⟩
   ·have h2:=hP.sy;simp only[HV];refine ZB rfl ?_;refine(hZj (p:=dp) (d:=d') hP.ok (by rw[h2];show d.sy≤_;omega)).use hs [2] rfl rfl ?_;rintro _ _ H ⟨rfl,rfl⟩ hs;rcases hcN.sync hP (nZN (d:=D.rdG d N) ⟨hy.w1,hy.s1,hy.fit,hy.room⟩)with⟨e,hw2,hc2⟩|⟨e,hcut,hleft⟩
    ·rw[e];simp only[HV];refine ZB rfl ?_;have hgo:=hwN.trans hw2;have hsam:Sam (inX y) c d'.now:=fun i hi=>(hcN.prog hP i).2 hi
     refine⟨_,⟨peak',hpk',r,w,by rw[hX,hY];exact hcost',.inl ⟨_,_,by rw[hN];simpa using hgo,hc2,by rw[hY];exact hsam,?_,by rw[hX];rfl,rfl⟩⟩,hs.re [0,3,4] rfl⟩;rw[hX,hY,←hw',hwy];have e2:D.per d'=D.per d:=hP.per;rw[← e2];exact(gZl (fun _=>rfl) y (2^k)).symm
    ·rw[e];simp only[HV];refine ZL (by decide) ?_;have hgo:=hwN.cut hcut;exact⟨_,⟨peak',hpk',r,w,by rw[hX,hY];exact hcost',.inr ⟨_,by rw[hN];exact hgo.more (by omega),by rw[hY];exact hleft.mono fun _ h=>h.2,rfl,rfl⟩⟩,hs.re [0,3,4] rfl⟩
   ·simp only[HV];refine ZL (by decide) ?_;have hf1:1≤(D.rdG d N).fuse:=by have h1:=hD.cnt;have h2:=hD.rd;have h3:=hD.wr;omega
    have hcut:=hcN.deadCut hD (nZN (d:=D.rdG d N) ⟨hy.w1,hy.s1,hy.fit,hy.room⟩) hfu hf1;have hgo:=hwN.cut hcut;exact⟨_,⟨peak',hpk',r,w,by rw[hX,hY];exact hcost',.inr ⟨_,by rw[hN];exact hgo.more (by omega),by rw[hY];exact hcN.deadLeft hD,rfl,rfl⟩⟩,hs.re [2,3,4] rfl⟩
  ·simp only[HV];refine ZL (by decide) ?_;obtain⟨r,w,hcost⟩:=hcost;rw[hwx]at hj;have hcut:=Cut.rdG hc hf hj;refine⟨_,⟨_,hpk1,r,w,by rw[hX,hY];exact hcost,.inr ⟨_,hcut.more (by omega),?_,rfl,rfl⟩⟩,hs.re [1,2,4] rfl⟩;exact(Left.rdG hc j).mono fun c' e=>by rw[e];exact fun _ _=>rfl
 refine hs.ldf 6 (v:=.int .i64 (if pz.t=true then 1 else 2)) rfl rfl ?_;simp only[HV];cases ht:pz.t with
 |true=>exact ZB rfl j6
 |false=>
  refine ZL (by decide) ?_;refine hs.ldf 6 (v:=.int .i64 (if pz.t=true then 1 else 2)) rfl rfl ?_;rw[ht];simp only[HV];exact ZB rfl j6
end Eng
namespace W
open Go Go.Hw
theorem fZx :prog.follows .mixedOrders=true:=by kernel_rfl
def cZZ (x1:Int)(x2:Int)(H:Hp)(K:Value→Hp→Prop):Prop:=
 ((2:Int)≠0∧IntKind.i64=IntKind.i64∧HcI 67 #[.int .i64 (IntKind.i64.wrap (Int.tdiv (IntKind.i64.wrap (x1+1)) 2))] H fun x3 H1=>K (.int .i64 (IntKind.i64.wrap ((IntKind.i64.wrap (2*x3))+x2))) H1)
theorem cZZ.ok (x1:Int)(x2:Int)(H:Hp)(K:Value→Hp→Prop)(h:cZZ x1 x2 H K):Zc prog 35 #[.int .i64 x1,.int .i64 x2] H K:=
 Zq Tryz.func35 rfl (nbl rfl) (Zf (Λ:=Zn.none (fun _=>none)) fZx _ _ _ _ _ (Eq.mp (by kernel_rfl) h) (Zs _ _ _ _ _))
def aZf.l3 (K:Value→Hp→Prop):Nat→Int→Int→Int→Hp→Prop
 |0,_,_,_,_=>False
 |k+1,x2,x3,x4,H=>
  let R3:=aZf.l3 K k
  BIf (decide (x4<x2)) (R3 x2 (IntKind.i64.wrap (2*x3)) (IntKind.i64.wrap (x4+1)) H) (K (.int .i64 x3) H)
def aZf (x1:Int)(H:Hp)(K:Value→Hp→Prop):Prop:=
 (∃ k,aZf.l3 K k x1 1 0 H)
def aZf.l3.L (K:Value→Hp→Prop)(k:Nat):Mid:=fun E D H=>
 eI E 0 .i64 fun x2=>eI E 3 .i64 fun x3=>eI E 4 .i64 fun x4=>Zt D (aZf.l3 K k x2 x3 x4 H)
def aZf.Λ3 (_:Value→Hp→Prop)(_R3:Int→Int→Int→Hp→Prop):Zn:=Zn.none (fun _=>none)
def aZf.Λ (K:Value→Hp→Prop):Zn:=⟨fun i=>none,fun i=>match Nat.beq i 3 with|true=>some (fun E D H=>∃ k,aZf.l3.L K k E D H)|false=>none,(fun _=>none)⟩
theorem aZf.ok (x1:Int)(H:Hp)(K:Value→Hp→Prop)(h:aZf x1 H K):Zc prog 67 #[.int .i64 x1] H K:=
 Zq Tryz.func67 rfl (nbl rfl) (Zf (Λ:=(aZf.Λ K)) fZx _ _ _ _ _ (Eq.mp (by kernel_rfl) h) (Zb Za rfl (Zb Za rfl (Zb (Zb Za rfl (Zu (aZc rfl (fun E D H h=>by
   refine Safe.loop' (aZf.l3.L K) (fun E D H h=>?_) (fun k E D H h=>?_) E D H h
   ·obtain⟨w0,e0,g1⟩:=DG.out h;obtain⟨x2,rfl,g2⟩:=DI.out g1;obtain⟨w3,e3,g3⟩:=DG.out g2;obtain⟨x3,rfl,g4⟩:=DI.out g3;obtain⟨w4,e4,g5⟩:=DG.out g4;obtain⟨x4,rfl,g6⟩:=DI.out g5;obtain⟨rfl,h'⟩:=Zt.out g6;exact h'
   ·obtain⟨x2,e0,g2⟩:=GI h;obtain⟨x3,e3,g4⟩:=GI g2;obtain⟨x4,e4,g6⟩:=GI g4;obtain⟨rfl,h'⟩:=Zt.out g6;exact(Zf (Λ:=(aZf.Λ3 K (aZf.l3 K k))) fZx _ _ [(0,.int .i64 x2),(3,.int .i64 x3),(4,.int .i64 x4)] [] H (Eq.mp (by kernel_rfl) h') (Zb (Zb Za rfl (Zj Zk ZT)) rfl (Zb (Zu Za) rfl Za))).weaken (Ze.cons e0 (Ze.cons e3 (Ze.cons e4 (Ze.nil _)))) (Hp.le_refl _))))) rfl (Zb Za rfl Zy)))))
end W
namespace Eng
open Go Go.Hw Go.Form W Shp Dsk Str Are Trn Pas Pln
theorem kZO (H:Hp)(A B:Option Addr)(n m m':Nat)(ws:List UInt64)(hn:n=ws.length)(hl:n≤1000000000)(ha:Cells H A (Zd ws))(hb:Cells H B (Zd ws)):
  ∀(t i:Nat),i+t=n→aZm.l4 (RetE (.bool true) H) (t+1) A n m B n m' (i:Int) H
 |0,i,h=>by
  unfold aZm.l4;exact Zl (by omega) (RetE.mk _ _)
 |t+1,i,h=>by
  unfold aZm.l4;refine Zv (by omega) ?_;have hg:(Zd ws)[i]? =some (.int .u64 ((ws[i]'(by omega)).toNat:Int)):=by
   rw[aZ7,List.getElem?_eq_getElem (by omega)];rfl
  refine ha.read hg rfl (by rw[Zz];omega) ?_;simp only[HV];refine hb.read hg rfl (by rw[Zz];omega) ?_;simp only[HV];refine ZB rfl ?_;rw[ZU (x:=(i:Int)+1) (by omega) (by omega)];exact kZO H A B n m m' ws hn hl ha hb t (i+1) (by omega)
theorem sZO (A B:Option Addr)(n n' m m':Nat)(ws:List UInt64)(hn:n=ws.length)(hn':n'=ws.length)(hl:n≤1000000000)(H:Hp)(ha:Cells H A (Zd ws))(hb:Cells H B (Zd ws)):
  Zc prog 18 #[.slice A n m,.slice B n' m'] H (RetE (.bool true) H):=by
 obtain rfl:n'=n:=by omega
 apply aZm.ok;unfold aZm;refine ZB rfl ⟨n'+1,?_⟩;exact kZO H A B n' m m' ws hn hl ha hb n' 0 (by omega)
theorem lZj (H:Hp)(k:Nat)(hk:k≤40):∀(t i:Nat),i+t=k→aZf.l3 (RetE (.int .i64 ((2^k:Nat):Int)) H) (t+1) (k:Int) ((2^i:Nat):Int) (i:Int) H
 |0,i,h=>by
  unfold aZf.l3;obtain rfl:i=k:=by omega
  exact Zl (by omega) (RetE.mk _ _)
 |t+1,i,h=>by
  unfold aZf.l3;refine Zv (by omega) ?_;have h2:2^i≤2^40:=Nat.pow_le_pow_right (by omega) (by omega);have h0:=Int.natCast_nonneg (2^i);have e:IntKind.i64.wrap ((2:Int)*((2^i:Nat):Int))=((2^(i+1):Nat):Int):=by
   rw[ZU (by omega) (by omega),Nat.pow_succ];omega
  rw[e,ZU (x:=(i:Int)+1) (by omega) (by omega)];exact lZj H k hk t (i+1) (by omega)
theorem tZn (k:Nat)(hk:k≤40)(H:Hp):Zc prog 67 #[.int .i64 (k:Int)] H (RetE (.int .i64 ((2^k:Nat):Int)) H):=by
 apply aZf.ok;unfold aZf;exact⟨k+1,lZj H k hk k 0 (by omega)⟩
theorem rZY (k per:Nat)(hk:k≤32)(hp:per≤512)(H:Hp):Zc prog 35 #[.int .i64 (k:Int),.int .i64 (per:Int)] H (RetE (.int .i64 (bZn k per:Int)) H):=by
 have h1:=cZL (k:=(k+1)/2) (by omega);have h0:=Int.natCast_nonneg (2^((k+1)/2));apply cZZ.ok;unfold cZZ;rw[ZU (x:=(k:Int)+1) (by omega) (by omega),show Int.tdiv ((k:Int)+1) 2=(((k+1)/2:Nat):Int)from rfl,bZh (by omega)];refine⟨by decide,by simp,?_⟩;refine Zc.use (tZn ((k+1)/2) (by omega) H) ?_;simp only[HV];rw[ZU (x:=(2:Int)*_) (by omega) (by omega),ZU (by omega) (by omega)];exact RetE.of (by unfold bZn;rw[Int.natCast_add];rfl)
theorem kZC {k:Nat}(h:k≤6):2^k≤64:=Nat.pow_le_pow_right (n:=2) (by omega) h
theorem oZa {d:Bool}{k per words:Nat}(hk:k≤32)(hw:bZn k per≤words):∀ p∈bZO d k per words,nZx p k per words:=by
 intro p hp;unfold bZO at hp;unfold bZn at hw;split at hp
 ·rename_i hb
  have hb:=of_decide_eq_true hb;rw[List.mem_singleton.1 hp];exact⟨by show 0<4;omega,by show 3<4;omega,by show(0:Nat)≠3;omega,by show 0+k=k;omega,fun h=>(by cases h),fun _=>⟨hb.1,by show(-1:Int)≤-1;omega,by show(-1:Int)≤32;omega,by show per+2*2^k≤_;omega⟩⟩
 ·have ha:k-k/2=(k+1)/2:=by omega
  have h1:2^(k/2)≤2^((k+1)/2):=Nat.pow_le_pow_right (by omega) (by omega);have hz:∀(ea eb f o:Nat) (t d:Bool) (tw:Int) (sh:UInt64),f<4→o<4→f≠o→ea+eb=k→ea≤(k+1)/2→eb≤(k+1)/2→-1≤tw→tw≤32→nZx ⟨t,⟨ea,eb,d,tw,sh⟩,f,o⟩ k per words:=fun ea eb f o t d tw sh h1 h2 h3 h4 h5 h6 h7 h8=>by
   have q1:2^ea≤2^((k+1)/2):=Nat.pow_le_pow_right (by omega) h5;have q2:2^eb≤2^((k+1)/2):=Nat.pow_le_pow_right (by omega) h6;exact⟨h1,h2,h3,h4,fun _=>by show 2^ea+per≤words;omega,fun _=>⟨by show eb≤20;omega,h7,h8,by show per+2*2^eb≤words;omega⟩⟩
  unfold fZ4 at hp;simp only[List.mem_cons,List.not_mem_nil,or_false]at hp;rcases hp with e|e|e|e|e<;>rw[e]<;>exact hz _ _ _ _ _ _ _ _ (by omega) (by omega) (by omega) (by omega) (by omega) (by omega) (by omega) (by omega)
theorem kZY (a b:Nat):a/b*b≤a:=Nat.div_mul_le_self a b
theorem sZF {per cap f o k:Nat}{pz:Pz}{r w:Nat}(h:kZF per cap f o pz r w)(hk:pz.j.ea+pz.j.eb=k):r≤2*2^k∧w≤2^k:=by
 have hpow:2^pz.j.ea*2^pz.j.eb=2^k:=by rw[← Nat.pow_add,hk]
 rcases h with⟨_,j,hj,rfl,rfl⟩|⟨_,j,hj,rfl,rfl⟩
 ·have h1:=qZo per f o (2^pz.j.ea) (2^pz.j.eb) (2^j) (2^pz.j.eb/2^j);have h2:=qZI per o (2^pz.j.ea) (2^j) (2^pz.j.eb/2^j);have h3:2^pz.j.eb/2^j*(2^j*2^pz.j.ea)≤2^k:=by
   rw[← Nat.mul_assoc,←hpow,Nat.mul_comm (2^pz.j.ea)];exact Nat.mul_le_mul_right _ (kZY _ _)
  have h4:2^pz.j.eb/2^j*(2*(2^j*2^pz.j.ea))=2*(2^pz.j.eb/2^j*(2^j*2^pz.j.ea)):=by rw[Nat.mul_left_comm]
  exact⟨by omega,by omega⟩
 ·have h1:=qZn per f o (2^j*2^pz.j.eb) (2^pz.j.ea/2^j);have h2:=qZH per o (2^j*2^pz.j.eb) (2^pz.j.ea/2^j);have h3:2^pz.j.ea/2^j*(2^j*2^pz.j.eb)≤2^k:=by
   rw[← Nat.mul_assoc,←hpow];exact Nat.mul_le_mul_right _ (kZY _ _)
  have h4:2^pz.j.ea/2^j*(2*(2^j*2^pz.j.eb))=2*(2^pz.j.ea/2^j*(2^j*2^pz.j.eb)):=by rw[Nat.mul_left_comm]
  exact⟨by omega,by omega⟩
theorem jZI {per w:Nat}(hp:1≤per)(hw:1≤w):nS per w≤w:=by
 unfold nS;refine Nat.div_le_of_le_mul ?_;obtain⟨a,rfl⟩:∃ a,w=a+1:=⟨w-1,by omega⟩;obtain⟨b,rfl⟩:∃ b,per=b+1:=⟨per-1,by omega⟩;rw[Nat.mul_add,Nat.add_mul];omega
theorem vZw (x:X){d:D}(hok:Ok d)(src:List UInt64):pws (dZ4 d x src.length 0 src) x 0 src.length=src:=by
 apply List.ext_getElem?;intro i;unfold pws;rw[List.getElem?_map];by_cases h:i<src.length
 ·rw[List.getElem?_range h];show some (pw _ x (0+i))=_
  rw[Nat.zero_add,lZ5 x hok 0 src i,if_pos ⟨by omega,by omega⟩,Nat.sub_zero,List.getElem?_eq_getElem h];rfl
 ·rw[List.getElem?_eq_none (by rw[List.length_range];omega),List.getElem?_eq_none (by omega)];rfl
theorem qZk {L:List As}{H:Hp}(hs:Sep L H)(i:Nat){b n m:Nat}{xs:List Value}{e:TypeId}{s:Nat}(hi:L[i]? =some (pts b (.row xs e m)))(hx:xs.length=n*s)(hm:m=n*s):Sep (L.set i (Own e s (some ⟨b,0,none⟩) n n xs)) H:=
 hs.turn i hi fun H1 hH=>⟨hx,.inr ⟨b,m,rfl,hH,by first|omega|exact hm|exact hm.symm|exact⟨hm,Nat.le_refl _⟩⟩⟩
end Eng
end Go.Proofs.YtahjgjaenegpgaaGreatDoor
