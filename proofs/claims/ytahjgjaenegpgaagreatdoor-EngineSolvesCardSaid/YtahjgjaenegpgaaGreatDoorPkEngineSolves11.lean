import Derived.Test.YtahjgjaenegpgaaGreatDoorPkEngineSolves10
set_option maxRecDepth 100000
set_option linter.unusedSimpArgs false
set_option linter.unusedVariables false
set_option linter.unnecessarySimpa false
set_option linter.unusedSectionVars false
namespace Go.Proofs.YtahjgjaenegpgaaGreatDoor
namespace Eng
open Go Go.Hw Go.Form W Shp Dsk Str Are Trn Pas Pln Rec Srt Rng
section
variable {H0 : Hp} {A7 A8 A9 : Option Addr} {n7 m7 n8 m8 n9 m9 : Nat} {dp b3 k sc ar : Nat} {b : Bool} {l : List UInt64} {keep : List Bool} {fs : List UInt8} {A' : Option Addr} {m' : Nat}
variable (hT : T64 H0) (hk6 : k ≤ 6) (hl : Cells H0 A7 (Zd l)) (hn7 : n7 = l.length) (hl2 : l.length = 2 ^ k) (hn9 : n9 = keep.length) (hc9 : Cells H0 A9 (cZ4 keep)) (hn8 : n8 = fs.length) (hn12 : n8 ≤ 12) (hc8 : Cells H0 A8 (Zx fs))
def jmC (k:Nat)(b:Bool)(sc ar:Nat)(A':Option Addr)(n m':Nat):AO:=eZG (3,1,(k:Int),if b=true then 1 else 0,0,((aZM b k (32/8) ar).length:Int)) 5 ar sc 32 1 A' n m'
def iZl (p dp b3 k sc ar:Nat)(b:Bool)(l:List UInt64)(A':Option Addr)(m':Nat)(H0:Hp)(g:Option Eg)(d:D):List As:=[En p dp g,Dk dp d,own H0,pts b3 (jmC k b sc ar A' l.length m'),Own 84 1 A' l.length m' (Zd l)]
include hl hn7 hl2 hk6 in
theorem sZC {R21:Option Addr→Nat→Nat→Option Addr→Nat→Nat→Option Addr→Nat→Nat→Option Addr→Option Addr→Addr→Int→Int→Hp→Prop}{p N i j:Nat}{d:D}{c:Cn}{m:Mn}{pk:Int}{H:Hp}(hJ:Jb N sc 32 ar k b l d c m i)(hN:N≤380)(hpk:pk≤m.arena)
  (hR:∀(H:Hp) (d:D) (c:Cn) (m:Mn) (pk:Int),Jb (N+2) sc 32 ar k b l d c m i→d.fuse=0→pk≤m.arena→Sep (iZl p dp b3 k sc ar b l A' m' H0 (some (egM d m pk)) d) H→R21 A7 n7 m7 A8 n8 m8 A9 n9 m9 (some ⟨dp,0,none⟩) (some ⟨p,0,none⟩) ⟨b3,0,none⟩ (i:Int) (IntKind.i64.wrap ((j:Int)+1)) H)
  (hs:Sep (iZl p dp b3 k sc ar b l A' m' H0 (some (egM d m pk)) d) H) (t:Nat):
  Zg.l31 (Ret (.bool true) H0) R21 (t+1) A7 n7 m7 A8 n8 m8 A9 n9 m9 (some ⟨dp,0,none⟩) (some ⟨p,0,none⟩) ⟨b3,0,none⟩ (i:Int) (j:Int) H:=by
 have hL0:=hJ.lv.fused 0 (by omega);have h64:=mZp hk6;unfold iZl at hs;unfold Zg.l31
 try simp only[HS]
 refine Zc.use (pZt hs 1 rfl) ?_;rw[hJ.lv.cl.down];simp only[HV]
 try simp only[HS]
 refine(lZX (p:=dp) (d:=d) 0).use hs [1] rfl rfl ?_;rintro _ _ H ⟨rfl,rfl⟩ hs;have hs:Sep [Dk dp { d with fuse:=0},En p dp (some (egM d m pk)),own H0,pts b3 (jmC k b sc ar A' l.length m'),Own 84 1 A' l.length m' (Zd l)] H:=hs;have hsz:=hJ.size;have hsec:=hJ.sec;generalize hd0:{ d with fuse:=0}=d0 at*;have hf0:d0.fuse=0:=by rw[← hd0]
 have hz0:d0.size=d.size:=by rw[← hd0]
 have hs0:d0.sec=d.sec:=by rw[← hd0]
 rw[← eZz m pk hs0 hz0]at hs;have hsm:=hL0.small (by omega);refine(nZW (p:=p) (dp:=dp) hL0.cl hL0.hh hsm.2 hpk).use hs [1,0] rfl rfl ?_;rintro _ _ H (⟨h,_,_⟩|⟨_,⟨d3,bi,mi,pk3,h4,hw,hc,rfl,rfl⟩|⟨d3,hcut,_⟩⟩) hs
 ·have:=(pZ3 (m:=m) (per:=d0.size/8)).2 (by have:=hJ.jb.kd;omega);omega
 ·simp only[HV];refine ZB rfl ?_;rw[hJ.jb.inp]at hs⊢;have hs:Sep [En p dp (some (egM d0 m pk3)),Dk dp d3,pts bi (.row (Zd l) 84 mi),own H0,pts b3 (jmC k b sc ar A' l.length m'),Own 84 1 A' l.length m' (Zd l)] H:=hs;have hcell:Cells H (some ⟨bi,0,none⟩) (Zd l):=by
   have:=Cells.row (hs.get 2 (b:=bi) rfl) 0 (Zd l).length
   rwa [List.drop_zero,List.take_length]at this
  refine Zc.use (kZB (some ⟨bi,0,none⟩) A7 l.length n7 _ m7 l rfl hn7 (by omega) H hcell (hl.le (hs.ow 3 rfl))) ?_;simp only[HV];rw[← eZz m pk3 hw.sec hw.size]at hs;have hrdc:rdC m (d0.size/8) 0≤128:=by
   have h1:=wZz (m:=m) (i:=0) (show 1≤d0.size/8 by have:=hL0.hh.per;omega);have h2:=mZp hL0.kk;omega
  have hL3:=hL0.went hw (by omega) hc hL0.hh rfl (by have:=hL0.len;omega) (by have:=hL0.ld;omega);exact hR H d3 c m pk3 ⟨hL3,hw.sec.trans (hs0.trans hsec),hw.size.trans (hz0.trans hsz),hJ.har,hJ.jb,hJ.le⟩ (hw.calm hf0) h4 (hs.re [0,1,3,4,5] rfl)
 ·exact(hcut.calm hf0).elim
include hk6 hl hn7 hl2 in
theorem pZ2 {p N:Nat}{d:D}{c:Cn}{m:Mn}{pk:Int}{H:Hp}(hJ:Jb N sc 32 ar k b l d c m (aZM b k (32/8) ar).length)(hN:N≤380)(hf:d.fuse=0)(hpk:pk≤m.arena)(hs:Sep (iZl p dp b3 k sc ar b l A' m' H0 (some (egM d m pk)) d) H):
  Zg.j45 (Ret (.bool true) H0) (some ⟨p,0,none⟩) ⟨b3,0,none⟩ (((aZM b k (32/8) ar).length:Nat):Int) H:=by
 have hL:=hJ.lv;have hsz:=hJ.size;have h64:=mZp hk6;have hp5:=(fZP b k (32/8) ar).2;have hstm:stM m (d.size/8)=4:=by rw[hJ.jb.st,hsz,hJ.har,if_neg (by omega)]
 have hout:mZd m (d.size/8)=tfL b k l:=by
  unfold mZd;rw[hJ.jb.plan,hJ.jb.inp];exact pZH b k _ _ (by omega) l hl2
 have hlen:(tfL b k l).length=2^k:=pZ5 _ _ _;have hsm:=hL.small (by omega);unfold iZl at hs;unfold Zg.j45;refine(iZ3 (p:=p) (dp:=dp) hL.cl hL.hh hsm.2 hpk).use hs [0,1] rfl rfl ?_;rintro v M H (⟨h,_⟩|⟨_,hq⟩) hs
 ·exact absurd hstm h
 rw[hout]at hq;rcases hq with⟨d',bo,mo,pk',h1,h2,h3,rfl,rfl⟩|⟨d',h1,_⟩
 ·simp only[HV];have hs:Sep [En p dp (some (egM d m pk')),Dk dp d',pts bo (.row (Zd (tfL b k l)) 84 mo),own H0,pts b3 (jmC k b sc ar A' l.length m'),Own 84 1 A' l.length m' (Zd l)] H:=hs;refine aZb rfl ?_;refine hs.ldw 4 rfl rfl ?_
  try simp only[Array.toArray_toList]
  refine(qZK (k:=k) (l:=l) (R0:=Own 84 1 A' l.length m' (Zd l)) (fun H h=>iZS h) rfl hl2 (by omega) b).use hs [5] rfl rfl ?_;rintro _ _ H ⟨A2,m2,rfl,rfl⟩ hs;simp only[HV];have hs:Sep [Own 84 1 A2 l.length m2 (Zd (tfL b k l)),Own 84 1 A' l.length m' (Zd l),En p dp (some (egM d m pk')),Dk dp d',pts bo (.row (Zd (tfL b k l)) 84 mo),own H0,pts b3 (jmC k b sc ar A' l.length m')] H:=hs;have hcell:Cells H (some ⟨bo,0,none⟩) (Zd (tfL b k l)):=by
   have:=Cells.row (hs.get 4 (b:=bo) rfl) 0 (Zd (tfL b k l)).length
   rwa [List.drop_zero,List.take_length]at this
  refine Zc.use (kZB (some ⟨bo,0,none⟩) A2 (tfL b k l).length l.length _ m2 (tfL b k l) rfl (by omega) (by omega) H hcell (iZS (hs.own 0 rfl))) ?_;simp only[HV];have har:=hJ.har;have fin:∀(H:Hp),Sep [En p dp (some (egM d m pk')),Own 84 1 A2 l.length m2 (Zd (tfL b k l)),Own 84 1 A' l.length m' (Zd l),Dk dp d',pts bo (.row (Zd (tfL b k l)) 84 mo),own H0,pts b3 (jmC k b sc ar A' l.length m')] H→
    Ld H ((⟨b3,0,none⟩:Addr).add 5) fun v51=>DI .i64 v51 fun x38=>Ret (.bool true) H0 (.bool ((((aZM b k (32/8) ar).length:Nat):Int)==x38)) H:=fun H hs=>by
   try simp only[HS]
   refine hs.ld 6 (v:=.int .i64 ((aZM b k (32/8) ar).length:Int)) rfl rfl ?_;simp only[HV];rw[beq_self_eq_true];exact hs.fin 5 rfl _
  refine⟨?_,?_⟩
  ·refine(pZl (p:=p) (dp:=dp) (some (egM d m pk'))).use hs [2] rfl rfl ?_;rintro _ _ H ⟨rfl,rfl⟩ hs;simp only[HV]
   try simp only[HS]
   refine hs.ld 6 (v:=.int .i64 (ar:Int)) rfl rfl ?_;simp only[HV];refine Zw (by show pk'≤_;omega) ?_;exact fin H hs
  ·try simp only[HS]
   refine hs.ld 6 (v:=.int .i64 (ar:Int)) rfl rfl ?_;simp only[HV];refine(pZl (p:=p) (dp:=dp) (some (egM d m pk'))).use hs [2] rfl rfl ?_;rintro _ _ H ⟨rfl,rfl⟩ hs;simp only[HV];refine Zw (by show pk'≤_;omega) ?_;exact fin H hs
 ·exact(h1.calm hf).elim
include hT hk6 hl hn7 hl2 hn9 hc9 in
theorem tZZ {R21:Option Addr→Nat→Nat→Option Addr→Nat→Nat→Option Addr→Nat→Nat→Option Addr→Option Addr→Addr→Int→Int→Hp→Prop}{p N i j:Nat}{d:D}{c:Cn}{m:Mn}{pk:Int}{H:Hp}(hJ:Jb N sc 32 ar k b l d c m i)(hN:N≤370)(hlt:i<(aZM b k (32/8) ar).length)(hpk:pk≤m.arena)
  (hR:∀(H:Hp) (p:Nat) (d':D) (c:Cn) (m:Mn) (pk:Int) (i':Nat),Jb (N+6) sc 32 ar k b l d' c m i'→d'.fuse=0→pk≤m.arena→i≤i'→(d.fuse=0→i+1≤i')→Sep (iZl p dp b3 k sc ar b l A' m' H0 (some (egM d' m pk)) d') H→R21 A7 n7 m7 A8 n8 m8 A9 n9 m9 (some ⟨dp,0,none⟩) (some ⟨p,0,none⟩) ⟨b3,0,none⟩ (i':Int) (IntKind.i64.wrap ((j:Int)+1)) H)
  (hs:Sep (iZl p dp b3 k sc ar b l A' m' H0 (some (egM d m pk)) d) H):
  Zg.j26 (Ret (.bool true) H0) R21 A7 n7 m7 A8 n8 m8 A9 n9 m9 (some ⟨dp,0,none⟩) (some ⟨p,0,none⟩) ⟨b3,0,none⟩ (i:Int) (j:Int) H:=by
 have hL:=hJ.lv;have hsm:=hL.small (by omega);have hlen:=hL.len;have hld:=hL.ld;have hile:=hJ.le;have hsz:=hJ.size;have hp5:=(fZP b k (32/8) ar).2;have hstm:stM m (d.size/8)=3:=by rw[hJ.jb.st,hsz,hJ.har,if_pos hlt]
 have hkk:=hJ.jb.kk;unfold iZl at hs;unfold Zg.j26;refine(pZo (p:=p) (dp:=dp) (TT:=own H0) (fun H h=>hT.le h) hL.cl hL.hh hsm.1 hsm.2 hpk (by omega)).use hs [0,1,2] rfl rfl ?_;rintro _ _ H (⟨h,_⟩|⟨_,r,w',hC,⟨d',c',pk',hpk',hw,hc,hh,rfl,rfl⟩|⟨d',hcut,hleft,rfl,rfl⟩⟩) hs
 ·exact absurd hstm h
 ·simp only[HV];refine aZb rfl ⟨1,?_⟩;rw[ZV (x:=(i:Int)+1) (by omega) (by omega)];have hnx:Jb (N+2) sc 32 ar k b l d' c' (m.add (bZu m (d.size/8))) (i+1):=⟨hL.stepped hC hw hc hh,hw.sec.trans hJ.sec,hw.size.trans hsz,hJ.har,hJ.jb.next _,by omega⟩;rw[← eZz _ pk' hw.sec hw.size]at hs;refine sZC hk6 hl hn7 hl2 (i:=i+1) hnx (by omega) hpk' (fun H d c m pk h1 h2 h3 h4=>?_) (hs.re [0,1,2,3,4] rfl) 0;exact hR H p d c m pk (i+1) ⟨h1.lv.up (by omega),h1.sec,h1.size,h1.har,h1.jb,h1.le⟩ h2 h3 (by omega) (fun _=>Nat.le_refl _) h4
 ·simp only[HV];refine aZm (by decide) (ZB rfl ⟨2,?_⟩);have hf1:=hcut.pos;have hf2:=hcut.fuse;have hkl:r≤2000∧w'≤900:=by
   have h1:=hC.le (by have:=hL.hh.per;omega) (by have:=hL.kk;omega) (Nat.le_trans (hZo (by have:=(Mn.r_wf hL.hh).2.2;omega)) hL.hh.least);have h2:=mZp hL.kk;omega
  have hmost:=hL.most;have hD:Dea (N+2) d.sec d.size d' fun m=>m.arena=ar∧∃ i',Job m k b l i'∧(i'=i∨i'=i+1)∧i'≤(aZM b k (32/8) ar).length:=hL.cut hcut (by omega) (hleft.mono fun c' h=>by
   rcases h with h|h
   ·exact⟨m,⟨hJ.har,i,hJ.jb,.inl rfl,hile⟩,hmost,by omega,by omega,h⟩
   ·refine⟨m.add (bZu m (d.size/8)),⟨hJ.har,i+1,hJ.jb.next _,.inr rfl,by omega⟩,hmost,?_,?_,h⟩
    ·show(m.L++[_]).length≤_;simp;omega
    ·rw[Mn.add_r];show m.r.ld≤_;omega)
  rw[hJ.sec,hsz]at hD;have hs:Sep [En p dp none,Dk dp d',own H0,pts b3 (jmC k b sc ar A' l.length m'),Own 84 1 A' l.length m' (Zd l)] H:=hs;unfold Zg.l31
  try simp only[HS]
  refine Zc.use (pZt hs 1 rfl) ?_;rw[hD.down];simp only[HV];refine(uZJ (p:=dp) hD.ok hD.dom hD.down A9 n9 m9 keep hn9 (own H0) (fun H h=>hc9.le h)).use hs [1,2] rfl rfl ?_;rintro _ _ H ⟨ks,hks,rfl,rfl⟩ hs;simp only[HV];refine ZB rfl ?_;obtain⟨c2,m2,⟨ha2,i2,hj2,hi2,hle2⟩,hL2,hsec2,hsize2⟩:=hD.boot hks keep;have hfb:(D.boot d' ks keep).fuse=0:=hf2;generalize D.boot d' ks keep=d2 at*;have hs:Sep [Dk dp d2,own H0,En p dp none,pts b3 (jmC k b sc ar A' l.length m'),Own 84 1 A' l.length m' (Zd l)] H:=hs;refine(jZh (dp:=dp)).use hs [] rfl rfl ?_;rintro _ _ H ⟨p2,rfl,rfl⟩ hs;have hs:Sep [En p2 dp none,Dk dp d2,own H0,En p dp none,pts b3 (jmC k b sc ar A' l.length m'),Own 84 1 A' l.length m' (Zd l)] H:=hs;simp only[HV];have hsm2:=hL2.small (by omega);have hlen2:=hL2.len;have hld2:=hL2.ld;refine(qZj (p:=p2) (dp:=dp) (g:=none) hL2.cl hL2.per hsm2.2 (o:=some m2) hL2.hh).use hs [0,1] rfl rfl ?_;rintro _ _ H (⟨_,h,_⟩|⟨d4,m4,hm4,hw4,hc4,rfl,rfl⟩|⟨_,hcut4,_⟩) hs
  ·cases h
  rotate_left
  ·exact(hcut4.calm hfb).elim
  cases hm4;have hs:Sep [En p2 dp (some (egM d2 m2 0)),Dk dp d4,own H0,En p dp none,pts b3 (jmC k b sc ar A' l.length m'),Own 84 1 A' l.length m' (Zd l)] H:=hs;rw[← eZz m2 0 hw4.sec hw4.size]at hs;have hJ4:Jb (N+4) sc 32 ar k b l d4 c2 m2 i2:=⟨hL2.went hw4 (by omega) hc4 hL2.hh rfl (by omega) (by omega),hw4.sec.trans hsec2,hw4.size.trans hsize2,ha2,hj2,hle2⟩;have hst3:3≤stE (egM d4 m2 0):=by
   rw[hZs,hj2.st];split<;>omega
  have hps:m2.r.ps=(i2:Int):=hj2.ps;have hstat:=sZG hst3;simp only[HV];refine(jZa (p:=p2) (dp:=dp) (some (egM d4 m2 0)) (fun e he=>by cases he;show m2.r.ld<_;omega)).use hs [0] rfl rfl ?_;rintro _ _ H ⟨rfl,rfl⟩ hs;rw[hstat];have hs:Sep [En p2 dp (some (egM d4 m2 0)),Dk dp d4,own H0,En p dp none,pts b3 (jmC k b sc ar A' l.length m'),Own 84 1 A' l.length m' (Zd l)] H:=hs;simp only[HV];refine hs.nw fun b4 H hs=>?_
  refine hs.stw 6 rfl rfl rfl rfl fun H hs=>?_;refine aZb rfl ?_;refine hs.ld 6 (v:=.int .i64 m2.r.ps) rfl rfl ?_;simp only[HV];refine Zm (by omega) ?_;refine hs.ld 6 (v:=.int .i64 m2.r.ps) rfl rfl ?_;simp only[HV];refine Zm (by rw[ZV (by omega) (by omega)];omega) ?_;refine ZB rfl (aZb rfl ?_);refine hs.ld 6 (v:=.int .i64 m2.r.ps) rfl rfl ?_;simp only[HV];rw[hps];refine sZC hk6 hl hn7 hl2 (i:=i2) hJ4 (by omega) (pk:=0) (by omega) (fun H d c m pk h1 h2 h3 h4=>?_) (hs.re [0,1,2,4,5] rfl) 0;exact hR H p2 d c m pk i2 ⟨h1.lv.up (by omega),h1.sec,h1.size,h1.har,h1.jb,h1.le⟩ h2 h3 (by omega) (fun h=>by omega) h4
include hT hk6 hl hn7 hl2 hn9 hc9 hn8 hn12 hc8 in
theorem tZY :∀(t j i N p:Nat) (d:D) (c:Cn) (m:Mn) (pk:Int) (H:Hp),Jb N sc 32 ar k b l d c m i→N≤10+6*j→d.fuse=0→pk≤m.arena→(n8-j)+((aZM b k (32/8) ar).length-i)≤t→j+t≤30→
  Sep (iZl p dp b3 k sc ar b l A' m' H0 (some (egM d m pk)) d) H→
  Zg.l21 (Ret (.bool true) H0) (t+1) A7 n7 m7 A8 n8 m8 A9 n9 m9 (some ⟨dp,0,none⟩) (some ⟨p,0,none⟩) ⟨b3,0,none⟩ (i:Int) (j:Int) H:=fun t=>by
 induction t with
 |zero=>
  intro j i N p d c m pk H hJ hN hf hpk hφ hjt hs;have hile:=hJ.le;have hld:=hJ.lv.ld;have hip:i=(aZM b k (32/8) ar).length:=by omega
  subst hip;unfold Zg.l21;refine Zw (by omega) ?_;refine(jZa (p:=p) (dp:=dp) (some (egM d m pk)) (fun e he=>by cases he;show m.r.ld<_;omega)).use hs [0] rfl rfl ?_;rintro _ _ H ⟨rfl,rfl⟩ hs;simp only[HV];refine rZY (mZ8 _) ?_;simp only[HV];refine ZB (by rw[hZs,hJ.jb.st,hJ.size,hJ.har,if_neg (by omega)]) ?_;exact pZ2 hk6 hl hn7 hl2 hJ (by omega) hf hpk hs
 |succ t ih=>
  intro j i N p d c m pk H hJ hN hf hpk hφ hjt hs;have hile:=hJ.le;have hld:=hJ.lv.ld;unfold Zg.l21;refine Zw (by omega) ?_;refine(jZa (p:=p) (dp:=dp) (some (egM d m pk)) (fun e he=>by cases he;show m.r.ld<_;omega)).use hs [0] rfl rfl ?_;rintro _ _ H ⟨rfl,rfl⟩ hs;have hs:Sep [En p dp (some (egM d m pk)),Dk dp d,own H0,pts b3 (jmC k b sc ar A' l.length m'),Own 84 1 A' l.length m' (Zd l)] H:=hs;simp only[HV];refine rZY (mZ8 _) ?_;simp only[HV];by_cases hip:i=(aZM b k (32/8) ar).length
  ·subst hip;refine ZB (by rw[hZs,hJ.jb.st,hJ.size,hJ.har,if_neg (by omega)]) ?_;exact pZ2 hk6 hl hn7 hl2 hJ (by omega) hf hpk hs
  ·refine ZK (by rw[hZs,hJ.jb.st,hJ.size,hJ.har,if_pos (by omega)];decide) ?_;have turn:∀(fu:Nat) (H:Hp),fu≤255→(j<n8∨fu=0)→Sep (iZl p dp b3 k sc ar b l A' m' H0 (some (egM d m pk)) { d with fuse:=fu}) H→
     Zg.j26 (Ret (.bool true) H0) (Zg.l21 (Ret (.bool true) H0) (t+1)) A7 n7 m7 A8 n8 m8 A9 n9 m9 (some ⟨dp,0,none⟩) (some ⟨p,0,none⟩) ⟨b3,0,none⟩ (i:Int) (j:Int) H:=fun fu H hfu hor hs=>by
    have hJ2:Jb N sc 32 ar k b l { d with fuse:=fu} c m i:=⟨hJ.lv.fused fu (by omega),hJ.sec,hJ.size,hJ.har,hJ.jb,hile⟩;refine tZZ (R21:=Zg.l21 (Ret (.bool true) H0) (t+1)) hT hk6 hl hn7 hl2 hn9 hc9 hJ2 (by omega) (by omega) hpk (fun H p' d' c' m1 pk' i' h1 h2 h3 h4 h5 hs=>?_) hs;rw[ZV (x:=(j:Int)+1) (by omega) (by omega)];have h5':fu=0→i+1≤i':=h5;have hile':=h1.le;refine ih (j+1) i' (N+6) p' d' c' m1 pk' H h1 (by omega) h2 h3 ?_ (by omega) hs;rcases hor with h|h
    ·omega
    ·have:=h5' h;omega
   by_cases hlt:j<n8
   ·refine Zw (by omega) ?_;have hlt2:j<fs.length:=by omega
    have hg:(Zx fs)[j]? =some (.int .u8 ((fs[j]'hlt2).toNat:Int)):=by
     unfold Zx;rw[List.getElem?_map,List.getElem?_eq_getElem hlt2];rfl
    try simp only[HS]
    refine(hc8.le (hs.ow 2 rfl)).read hg rfl (by rw[ZT];omega) ?_;simp only[HV];have hf255:(fs[j]'hlt2).toNat≤255:=by have:=(fs[j]'hlt2).toNat_lt;omega
    generalize(fs[j]'hlt2).toNat=fu at hf255;rw[bZi (n:=fu) (by omega)]
    try simp only[HS]
    refine(lZX (p:=dp) (d:=d) (fu:Int)).use hs [1] rfl rfl ?_;rintro _ _ H ⟨rfl,rfl⟩ hs;exact turn fu H hf255 (.inl hlt) (hs.re [1,0,2,3,4] rfl)
   ·refine Zm (by omega) ?_
    try simp only[HS]
    refine(lZX (p:=dp) (d:=d) 0).use hs [1] rfl rfl ?_;rintro _ _ H ⟨rfl,rfl⟩ hs;exact turn 0 H (by omega) (.inr rfl) (hs.re [1,0,2,3,4] rfl)
end
theorem tZX {sc ar:Nat}(hs:45≤sc∧sc≤54)(ha:20≤ar∧ar≤79):bZN sc (32/8) ((5:Nat):Int) ((ar:Nat):Int)=0:=by
 have h1:Lay.cZN 5 (32/8)=41:=by decide
 have h2:bZ2 5 (32/8)=20:=by decide
 unfold bZN;rw[if_neg (by omega),if_neg (by rw[Int.toNat_natCast,h1];omega),if_neg (by rw[Int.toNat_natCast,h2];omega)]
theorem EngineSolves_ok (A1 A2 A3:Option Addr)(n1 m1 n2 m2 n3 m3:Nat)(l:List UInt64)(hn1:n1=l.length)(hm1:n1≤m1)(dir:Int)(x w:Nat)(hx:x<256)(hw:w<256)(fs:List UInt8)(hn2:n2=fs.length)(keep:List Bool)(hn3:n3=keep.length)
  (H:Hp) (hT:T64 H) (hl:Cells H A1 (Zd l)) (hcF:Cells H A2 (Zx fs)) (hcK:Cells H A3 (cZ4 keep)):
  Zc Tryz.prog 5 #[.slice A1 n1 m1,.int .i64 dir,.int .u8 (x:Int),.int .u8 (w:Int),.slice A2 n2 m2,.slice A3 n3 m3] H (RetE (.bool true) H):=by
 apply Zc.ret;apply Zg.ok;unfold Zg;refine Zc.use (qZn H hT) ?_;simp only[HV];have yes:Ret (.bool true) H (.bool true) H:=⟨rfl,Hp.le_refl _⟩;by_cases h1:(n1:Int)>32
 ·exact Zw h1 yes
 refine Zm h1 ?_;by_cases h2:(n2:Int)>12
 ·exact Zw h2 yes
 refine Zm h2 ?_;by_cases h3:(n3:Int)>40
 ·exact Zw h3 yes
 refine Zm h3 ?_;have j5:∀ b:Bool,dir=(if b=true then 1 else 0)→Zg.j5 (Ret (.bool true) H) A1 n1 m1 dir (x:Int) (w:Int) A2 n2 m2 A3 n3 m3 H:=fun b hb=>by
  subst hb;unfold Zg.j5;have e1:IntKind.i64.wrap ((45:Int)+Int.tmod (IntKind.i64.wrap (x:Int)) 10)=((45+x%10:Nat):Int):=by
   rw[bZi (n:=x) (by omega),show Int.tmod (x:Int) 10=((x%10:Nat):Int)from rfl,ZV (by omega) (by omega)];omega
  have e2:IntKind.i64.wrap ((20:Int)+Int.tmod (IntKind.i64.wrap (w:Int)) 60)=((20+w%60:Nat):Int):=by
   rw[bZi (n:=w) (by omega),show Int.tmod (w:Int) 60=((w%60:Nat):Int)from rfl,ZV (by omega) (by omega)];omega
  rw[e1,e2];obtain⟨sc,hsc⟩:∃ sc,sc=45+x%10:=⟨_,rfl⟩;obtain⟨ar,har⟩:∃ ar,ar=20+w%60:=⟨_,rfl⟩;rw[← hsc,←har];have hscr:45≤sc∧sc≤54:=by omega
  have harr:20≤ar∧ar≤79:=by omega
  refine⟨by decide,by simp,?_⟩;have hs:=Sep.start H;refine(Dsk.dZA sc 32 (by omega) (by decide) (by omega)).use hs [] rfl rfl ?_;rintro _ _ H1 ⟨dp,rfl,rfl⟩ hs;simp only[HV];refine(jZh (dp:=dp)).use hs [] rfl rfl ?_;rintro _ _ H1 ⟨p,rfl,rfl⟩ hs;simp only[HV];refine aZu rfl (aZu rfl ⟨by decide,by simp,?_⟩);have hs:Sep [En p dp none,Dk dp (D.fresh sc 32),own H] H1:=hs;have hcl:=Clean.fresh (sec:=sc) (size:=32) (by omega) (by decide) (by omega);refine(mZt (p:=p) (dp:=dp) (g:=none) hcl (by show 0<Lay.aZL ((32:Nat):Int);decide) ⟨Nat.zero_le _,Nat.zero_le _,Nat.zero_le _⟩ 5 (ar:Int)).use hs [0,1] rfl rfl ?_;rintro _ _ H1 (⟨h,_⟩|⟨kn,wn,e1,e2,_,⟨d,c,hw',hc,hh,rfl,rfl⟩|⟨d',hcut,_⟩⟩) hs
  ·exact absurd (tZX hscr harr) h
  rotate_left
  ·exact(hcut.calm rfl).elim
  obtain rfl:kn=5:=by omega
  obtain rfl:wn=ar:=by omega
  have r1:=hw'.rd;have r2:=hw'.wr;have r3:=hw'.sy;have hL:Liv 2 d c (aZ3 5 wn):=⟨hc,by rw[hw'.sec,hw'.size];exact hh,by show 5≤6;omega,Nat.zero_le _,Nat.zero_le _,by rw[r1];show 0+0≤_;omega,by rw[r2];show 0+10≤_;omega,by rw[r3];show 0+3≤_;omega⟩;have hf:d.fuse=0:=hw'.calm rfl;have hsz:d.size=32:=hw'.size;have hsec:d.sec=sc:=hw'.sec;simp only[HV];refine ZB rfl ⟨by decide,by simp,?_⟩;have hs:Sep [En p dp (some (egM (D.fresh sc 32) (aZ3 5 wn) 0)),Dk dp d,own H] H1:=hs;rw[← eZz (aZ3 5 wn) 0 hw'.sec hw'.size]at hs;refine hs.nw fun b1 H1 hs=>?_
  refine hs.stw 3 (y:=mch (1,0,0,0,0,0) 5 wn sc 32 0 .none 0 0) rfl rfl rfl rfl fun H1 hs=>?_
  refine hs.ldw 3 rfl rfl ?_
  try simp only[Array.toArray_toList]
  have hlen32:l.length≤32:=by omega
  have rl:∀{L:List As} {H1:Hp} {K:Value→Hp→Prop},Sep (own H::L) H1→(∀(y:Array Value) (i e:Int) H2,e≠0→(∀ k,¬okL l 5 k)→y.size=12→y.toList.all (fun v=>v.oneCell')=true→Sep (own H::L) H2→K (.tuple #[.agg y,.int .i64 i,.int .i64 e]) H2)→
    (∀(k:Nat) (A':Option Addr) (m':Nat) H2,okL l 5 k→Sep (Own 84 1 A' l.length m' (Zd l)::own H::L) H2→K (.tuple #[.agg (mch (2,1,k,0,0,0) 5 wn sc 32 1 A' l.length m'),.int .i64 0,.int .i64 0]) H2)→
    Zc Tryz.prog 26 #[.agg (mch (1,0,0,0,0,0) 5 wn sc 32 0 .none 0 0),.slice A1 n1 m1] H1 K:=fun{L H1 K} hs kbad kok=>by
   refine(tZM (R0:=own H) (A:=A1) (n:=n1) (m:=m1) (l:=l) (most:=5) (ar:=(wn:Int)) (sc:=(sc:Int)) (sz:=32) (ld:=0) hn1 (by omega) (fun H h=>hl.le h) (by decide) (by decide)).use hs [0] rfl rfl ?_;have hr:Hw.rest (own H::L) [0]=L:=by
    have go:∀(L:List As) (k:Nat),0<k→Hw.rest.go [0] k L=L:=fun L=>by
     induction L with
     |nil=>intro k _;rfl
     |cons A L ih=>
      intro k hk;unfold Hw.rest.go;have hc:([0]:List Nat).contains k=false:=by
       rw[Bool.eq_false_iff];intro h;have:k=0:=by simpa using h
       omega
      rw[hc];show A::_=_
      rw[ih (k+1) (by omega)]
    exact go L 1 (by omega)
   rintro _ _ H2 (⟨y,i,e,he,hno,hy1,hy2,rfl,rfl⟩|⟨k,A',m',hok,rfl,rfl⟩) hs
   ·rw[hr]at hs;exact kbad y i e H2 he hno hy1 hy2 hs
   ·rw[hr]at hs;exact kok k A' m' H2 hok hs
  refine rl (L:=[En p dp (some (egM d (aZ3 5 wn) 0)),Dk dp d,pts b1 (eZG (1,0,0,0,0,0) 5 wn sc 32 0 .none 0 0)]) (hs.re [2,0,1,3] rfl) (fun y i e H1 he hno hy1 hy2 hs=>?_) (fun k A' m' H1 hok hs=>?_)
  ·simp only[HV];refine hs.nw fun b2 H1 hs=>?_
   refine hs.stw 4 (y:=y) rfl rfl hy1 hy2 fun H1 hs=>?_
   exact ZK he (hs.fin 0 rfl _)
  ·simp only[HV];have hs:Sep [own H,En p dp (some (egM d (aZ3 5 wn) 0)),Dk dp d,pts b1 (eZG (1,0,0,0,0,0) 5 wn sc 32 0 .none 0 0)] H1:=hs.re [1,2,3,4] rfl;refine hs.nw fun b2 H1 hs=>?_
   refine hs.stw 4 (y:=mch (2,1,k,0,0,0) 5 wn sc 32 1 A' l.length m') rfl rfl rfl rfl fun H1 hs=>?_
   refine ZB rfl ?_;obtain⟨hlg,hk5,hcan⟩:=hok;have hl2:l.length=2^k:=by have:=(dZz hlg).2;omega
   have hsm:=hL.small (by omega);have hs:Sep [En p dp (some (egM d (aZ3 5 wn) 0)),Dk dp d,own H,(fun _=>True),pts b1 (eZG (1,0,0,0,0,0) 5 wn sc 32 0 .none 0 0)] H1:=by
    have:=(Sep.unit (X:=fun _=>True) hs trivial);exact this.re [2,3,1,0,4] rfl
   refine(pZi (p:=p) (dp:=dp) hL.cl hL.hh hsm.1 hsm.2 (by show(0:Int)≤_;omega) (l:=l) (A:=A1) (n:=n1) (mm:=m1) (RR:=own H) (TT:=fun _=>True) hn1 hm1 (by omega) (fun H' h=>hl.le h) (.inr fun H' h=>hT.le h)).use hs [0,1,2,3] rfl rfl ?_;rintro _ _ H1 (⟨k',i,e,hchk,hne,_⟩|⟨k',hk',_,_,⟨d1,c1,pk1,hpk1,hw1,hc1,hh1,rfl,rfl⟩|⟨d1,hcut,_⟩⟩) hs
   ·cases hchk with
    |len h=>rw[h]at hlg;cases hlg
    |big h h2=>rw[h]at hlg;cases hlg;exact absurd h2 (by show ¬((_:Nat):Int)>((5:Nat):Int);omega)
    |word h h2 h3=>exact absurd hcan h3
    |ok h h2 h3=>exact absurd rfl hne
   rotate_left
   ·exact(hcut.calm hf).elim
   obtain rfl:k=k':=by rw[hlg]at hk';cases hk';rfl
   have hf1:d1.fuse=0:=hw1.calm hf;have h64:=mZp (k:=k) (by omega);have hper:=hL.hh.per;have hb1:=lZT (d.size/8) k;have hb2:=lZU (d.size/8) k;have hb3:=jZV (per:=d.size/8) (w:=2^k) (by omega) (Nat.two_pow_pos k);have h1r:(aZR (aZ3 5 wn) k).r=cZt (aZ3 5 wn) k:=Mn.add_r _ _;have h2r:(bZe (aZ3 5 wn) k l).r=dZi (aZR (aZ3 5 wn) k) k l:=Mn.add_r _ _;have h3r:(eZs (aZ3 5 wn) k l b).r=cZ3 (bZe (aZ3 5 wn) k l) b:=Mn.add_r _ _;have hld1:(bZe (aZ3 5 wn) k l).r.ld=1:=by rw[h2r];show(aZR (aZ3 5 wn) k).r.ld=_;rw[h1r];rfl
   have hld2:(eZs (aZ3 5 wn) k l b).r.ld=1:=by rw[h3r];exact hld1
   have hL1:Liv 4 d1 c1 (bZe (aZ3 5 wn) k l):=hL.went hw1 (by unfold ldR ldW;omega) hc1 hh1 rfl (by show([]++[_]++[_]:List _).length≤_;simp) (by omega);have hsm1:=hL1.small (by omega);simp only[HV];refine ZB rfl ?_;have hs:Sep [En p dp (some (egM d (bZe (aZ3 5 wn) k l) pk1)),Dk dp d1,own H,(fun _=>True),pts b1 (eZG (1,0,0,0,0,0) 5 wn sc 32 0 .none 0 0)] H1:=hs;rw[← eZz (bZe (aZ3 5 wn) k l) pk1 hw1.sec hw1.size]at hs;have hst:stM (bZe (aZ3 5 wn) k l) (d1.size/8)=2:=by unfold stM;rw[if_pos (by rw[h2r];rfl)]
   refine(mZx (p:=p) (dp:=dp) hL1.cl hL1.hh hsm1.1 hsm1.2 hpk1 (if b=true then 1 else 0)).use hs [0,1] rfl rfl ?_;rintro _ _ H1 (⟨h,_⟩|⟨_,h,_⟩|⟨_,b',hb',⟨d2,c2,hw2,hc2,hh2,rfl,rfl⟩|⟨d2,hcut,_⟩⟩) hs
   ·exact absurd hst h
   ·exact absurd (by cases b<;>simp) h
   rotate_left
   ·exact(hcut.calm hf1).elim
   obtain rfl:b'=b:=by cases b<;>cases b'<;>first|rfl|(exfalso;revert hb';decide)
   have hL2:Liv 6 d2 c2 (eZs (aZ3 5 wn) k l b'):=hL1.went hw2 (by omega) hc2 hh2 rfl (by show([]++[_]++[_]++[_]:List _).length≤_;simp) (by omega);simp only[HV];refine ZB rfl ?_;have hs:Sep [En p dp (some (egM d1 (eZs (aZ3 5 wn) k l b') pk1)),Dk dp d2,own H,(fun _=>True),pts b1 (eZG (1,0,0,0,0,0) 5 wn sc 32 0 .none 0 0)] H1:=hs;rw[← eZz (eZs (aZ3 5 wn) k l b') pk1 hw2.sec hw2.size]at hs;refine hs.ldw 4 rfl rfl ?_
   try simp only[Array.toArray_toList]
   refine rl (L:=[En p dp (some (egM d2 (eZs (aZ3 5 wn) k l b') pk1)),Dk dp d2]) (hs.re [2,0,1] rfl) (fun y i e H1 he hno hy1 hy2 hs=>absurd ⟨hlg,hk5,hcan⟩ (hno k)) (fun k2 A' m' H1 hok2 hs=>?_);obtain rfl:k=k2:=by have:=hok2.1;rw[hlg]at this;cases this;rfl
   simp only[HV];refine hs.nw fun b3 H1 hs=>?_
   refine hs.stw 4 (y:=mch (2,1,k,0,0,0) 5 wn sc 32 1 A' l.length m') rfl rfl rfl rfl fun H1 hs=>?_
   refine hs.ldw 4 rfl rfl ?_
   try simp only[Array.toArray_toList]
   refine(qZN (k:=k) (ar:=wn) (sz:=32) (mo:=5) (sc:=(sc:Int)) (ld:=1) (ld':=1) (A:=A') (n:=l.length) (m:=m') (by omega) (by omega) (by omega) b').use hs [] rfl rfl ?_;rintro _ _ H1 ⟨rfl,rfl⟩ hs;simp only[HV];refine hs.stw 4 (y:=mch (3,1,k,if b'=true then 1 else 0,0,(aZM b' k (32/8) wn).length) 5 wn sc 32 1 A' l.length m') rfl rfl rfl rfl fun H1 hs=>?_
   have hs:Sep [Own 84 1 A' l.length m' (Zd l),own H,En p dp (some (egM d2 (eZs (aZ3 5 wn) k l b') pk1)),Dk dp d2,pts b3 (jmC k b' sc wn A' l.length m')] H1:=hs;have hj:=oZh (aZ3 5 wn) k l b';have hp5:=(fZP b' k (32/8) wn).2;refine⟨n2+5+1,?_⟩;exact tZY (dp:=dp) (b3:=b3) (k:=k) (sc:=sc) (ar:=wn) (b:=b') (l:=l) (A':=A') (m':=m') hT (by omega) hl hn1 hl2 hn3 hcK hn2 (by omega) hcF (n2+5) 0 0 10 p d2 c2 (eZs (aZ3 5 wn) k l b') pk1 H1 ⟨hL2.up (by omega),hw2.sec.trans (hw1.sec.trans hsec),hw2.size.trans (hw1.size.trans hsz),rfl,hj,Nat.zero_le _⟩ (by omega) (hw2.calm hf1) hpk1 (by omega) (by omega) (hs.re [2,3,1,4,0] rfl)
 by_cases h0:dir=0
 ·exact ZB h0 (j5 false h0)
 ·refine ZK h0 ?_;by_cases h1:dir=1
  ·exact ZB h1 (j5 true h1)
  ·exact ZK h1 yes
end Eng
end Go.Proofs.YtahjgjaenegpgaaGreatDoor
