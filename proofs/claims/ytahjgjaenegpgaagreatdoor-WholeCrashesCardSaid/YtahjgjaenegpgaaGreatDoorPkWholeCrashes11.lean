import Derived.Test.YtahjgjaenegpgaaGreatDoorPkWholeCrashes10
set_option maxRecDepth 100000
set_option linter.unusedSimpArgs false
set_option linter.unusedVariables false
set_option linter.unnecessarySimpa false
set_option linter.unusedSectionVars false
namespace Go.Proofs.YtahjgjaenegpgaaGreatDoor
namespace Eng
open Go Go.Hw Go.Form W Shp Dsk Str Are Trn Pas Pln Rec Srt Rng
theorem jZC (e:Eg):(((jZ2 (some e)).map (Value.int .i64)).toArray)[0]? =some (.int .i64 (stE e)):=by
 have h:=jZA e;show(((if stE e=1 then _ else if stE e=2 then _ else _:List Int).map (Value.int .i64)).toArray)[0]? =_
 rcases h with h|h|h|h<;>rw[h]<;>rfl
theorem sZK {e:Eg}(h:3≤stE e):jZ2 (some e)=[stE e,e.r.ld,e.r.kk,e.r.dir,e.r.ps,(psE e).length]:=by
 show(if stE e=1 then _ else if stE e=2 then _ else _:List Int)=_
 rw[if_neg (by omega),if_neg (by omega)]
theorem jZQ {dp:Nat}{d:D}{L:List As}{H:Hp}(h:Sep L H)(i:Nat)(hi:L[i]? =some (Dk dp d)):Zc Tryz.prog 12 #[.pointer (some ⟨dp,7,none⟩)] H (RetE (.bool d.down) H):=vZ5 h i hi
structure Jb (N sc sz ar:Nat)(k:Nat)(b:Bool)(l:List UInt64)(d:D)(c:Cn)(m:Mn)(i:Nat):Prop where
 lv:Liv N d c m
 sec:d.sec=sc
 size:d.size=sz
 har:m.arena=ar
 jb:Job m k b l i
 le:i≤(aZY b k (sz/8) ar).length
def opn (d:D)(m:Mn)(g:Option Eg)(i done:Nat):Prop:=(∃ pk:Int,pk≤m.arena∧g=some (egM d m pk)∧i=done)∨(g=none∧(i=done∨i=done+1))
def oZD (g:Option Eg):Nat:=match g with|none=>1|some _=>0
abbrev dZy (dp p k x w:Nat):AO:=.obj (.cells (mZj dp p k x w) 32)
section
variable {K : Value → Hp → Prop} {R12 : Option Addr → Nat → Nat → Int → Option Addr → Nat → Nat → Option Addr → Nat → Nat → Option Addr → Nat → Nat → Int → Addr → Int → Int → Int → Hp → Prop} {H0 : Hp}
variable {A9 A10 A11 A12 : Option Addr} {n9 m9 n10 m10 n11 m11 n12 m12 : Nat} {x9 : Int} {p dp b1 k x w sc sz ar : Nat} {b : Bool} {l : List UInt64} {keep more : List Bool}
variable (hT : T64 H0) (hk6 : k ≤ 6) (hn11 : n11 = keep.length) (hc11 : Cells H0 A11 (cZH keep)) (hn12 : n12 = more.length) (hc12 : Cells H0 A12 (cZH more))
def qZH (R12:Option Addr→Nat→Nat→Int→Option Addr→Nat→Nat→Option Addr→Nat→Nat→Option Addr→Nat→Nat→Int→Addr→Int→Int→Int→Hp→Prop)(H0:Hp)(A9 A10 A11 A12:Option Addr)(n9 m9 n10 m10 n11 m11 n12 m12:Nat)(x9:Int)(p dp b1 k x w sc sz ar:Nat)(b:Bool)(l:List UInt64)(N φ fu j:Nat)(at':Int):Prop:=
 ∀(H:Hp) (d:D) (c:Cn) (m:Mn) (g:Option Eg) (i done:Nat),Jb (N+4) sc sz ar k b l d c m i→opn d m g i done→oZD g+((aZY b k (sz/8) ar).length-i)≤φ+1→(fu=0→oZD g+((aZY b k (sz/8) ar).length-i)+1≤φ)→
  Sep [En p dp g,Dk dp d,own H0,pts b1 (dZy dp p k x w)] H→R12 A9 n9 m9 x9 A10 n10 m10 A11 n11 m11 A12 n12 m12 (k:Int) ⟨b1,0,none⟩ (done:Int) at' (IntKind.i64.wrap ((j:Int)+1)) H
include hn11 hc11 hn12 hc12 in
theorem qZd {N φ fu j done:Nat}{at':Int}(nx:qZH R12 H0 A9 A10 A11 A12 n9 m9 n10 m10 n11 m11 n12 m12 x9 p dp b1 k x w sc sz ar b l N φ fu j at')(hfu:fu≠0){i:Nat}(hφ:1+((aZY b k (sz/8) ar).length-i)≤φ+1){d:D}{H:Hp}
  (hD:Dea (N+2) sc sz d fun m=>m.arena=ar∧∃ i',Job m k b l i'∧(i'=done∨i'=done+1)∧i≤i'∧i'≤(aZY b k (sz/8) ar).length)
  (hs:Sep [En p dp none,Dk dp d,own H0,pts b1 (dZy dp p k x w)] H):
  Zg.j30 K R12 A9 n9 m9 x9 A10 n10 m10 A11 n11 m11 A12 n12 m12 (k:Int) ⟨b1,0,none⟩ (done:Int) at' (j:Int) 8 H:=by
 unfold Zg.j30;refine ZK (by decide) (ZA rfl ?_)
 try simp only[HS]
 refine hs.ld 3 (v:=.pointer (some ⟨dp,0,none⟩)) rfl rfl ?_;simp only[HV]
 try simp only[HS]
 refine Zc.use (jZQ hs 1 rfl) ?_;rw[hD.down];simp only[HV];refine aZr rfl ?_;unfold Zg.j32
 try simp only[HS]
 refine hs.ld 3 (v:=.pointer (some ⟨dp,0,none⟩)) rfl rfl ?_;simp only[HV]
 try simp only[HS]
 refine Zc.use (jZQ hs 1 rfl) ?_;rw[hD.down];simp only[HV];have fin:∀(ks:List Int) (kp:List Bool) (H:Hp),KeysOf (bZy d.cache) ks→Sep [En p dp none,Dk dp (D.boot d ks kp),own H0,pts b1 (dZy dp p k x w)] H→R12 A9 n9 m9 x9 A10 n10 m10 A11 n11 m11 A12 n12 m12 (k:Int) ⟨b1,0,none⟩ (done:Int) at' (IntKind.i64.wrap ((j:Int)+1)) H:=fun ks kp H hks hs=>by
  obtain⟨c,m,⟨hP1,i',hP2,hP3,hP4,hP5⟩,hL,h1,h2⟩:=hD.boot hks kp;exact nx H _ c m none i' done ⟨hL.up (by omega),h1,h2,hP1,hP2,hP5⟩ (.inr ⟨rfl,hP3⟩) (by show 1+_≤_;omega) (fun h=>absurd h hfu) hs
 have e2:Int.tmod (j:Int) 2=((j%2:Nat):Int):=rfl;refine⟨by decide,by simp,?_⟩;rw[e2];by_cases hj:j%2=0
 ·refine aZa (by omega) ?_;refine hs.ld 3 (v:=.pointer (some ⟨dp,0,none⟩)) rfl rfl ?_;simp only[HV];refine(lZV (p:=dp) hD.ok hD.dom hD.down A11 n11 m11 keep hn11 (own H0) (fun H h=>hc11.le h)).use hs [1,2] rfl rfl ?_;rintro _ _ H ⟨ks,hks,rfl,rfl⟩ hs;simp only[HV];refine ZA rfl ⟨by decide,by simp,aZe (by omega) ?_⟩;exact fin ks keep H hks (hs.re [2,0,1,3] rfl)
 ·refine aZe (by omega) ⟨by decide,by simp,aZa (by omega) ?_⟩;refine hs.ld 3 (v:=.pointer (some ⟨dp,0,none⟩)) rfl rfl ?_;simp only[HV];refine(lZV (p:=dp) hD.ok hD.dom hD.down A12 n12 m12 more hn12 (own H0) (fun H h=>hc12.le h)).use hs [1,2] rfl rfl ?_;rintro _ _ H ⟨ks,hks,rfl,rfl⟩ hs;simp only[HV];refine ZA rfl ?_;exact fin ks more H hks (hs.re [2,0,1,3] rfl)
theorem qZe {N φ fu j i:Nat}{at':Int}(nx:qZH R12 H0 A9 A10 A11 A12 n9 m9 n10 m10 n11 m11 n12 m12 x9 p dp b1 k x w sc sz ar b l N φ fu j at'){d:D}{c:Cn}{m:Mn}{pk:Int}{H:Hp}(hJ:Jb (N+4) sc sz ar k b l d c m i)(hpk:pk≤m.arena)(hφ:((aZY b k (sz/8) ar).length-i)+1≤φ)
  (hs:Sep [En p dp (some (egM d m pk)),Dk dp d,own H0,pts b1 (dZy dp p k x w)] H):
  Zg.j30 K R12 A9 n9 m9 x9 A10 n10 m10 A11 n11 m11 A12 n12 m12 (k:Int) ⟨b1,0,none⟩ (i:Int) at' (j:Int) 0 H:=by
 have hdn:=hJ.lv.cl.down;unfold Zg.j30;refine ZA rfl ?_
 try simp only[HS]
 refine hs.ld 3 (v:=.pointer (some ⟨dp,0,none⟩)) rfl rfl ?_;simp only[HV]
 try simp only[HS]
 refine Zc.use (jZQ hs 1 rfl) ?_;rw[hdn];simp only[HV];refine aZr rfl ?_;unfold Zg.j32
 try simp only[HS]
 refine hs.ld 3 (v:=.pointer (some ⟨dp,0,none⟩)) rfl rfl ?_;simp only[HV]
 try simp only[HS]
 refine Zc.use (jZQ hs 1 rfl) ?_;rw[hdn];simp only[HV];exact nx H d c m (some (egM d m pk)) i i hJ (.inl ⟨pk,hpk,rfl,rfl⟩) (by show 0+_≤_;omega) (fun _=>by show 0+_+1≤_;omega) hs
include hT hk6 hn11 hc11 hn12 hc12 in
theorem vZU {N j i done:Nat}{at':Int}{d:D}{c:Cn}{m:Mn}{g:Option Eg}{H:Hp}(hJ:Jb N sc sz ar k b l d c m i)(hN:N≤380)(ho:opn d m g i done)(hnd:¬(i=(aZY b k (sz/8) ar).length∧g≠none))
  (nx:qZH R12 H0 A9 A10 A11 A12 n9 m9 n10 m10 n11 m11 n12 m12 x9 p dp b1 k x w sc sz ar b l N (oZD g+((aZY b k (sz/8) ar).length-i)) d.fuse j at')
  (hs:Sep [En p dp g,Dk dp d,own H0,pts b1 (dZy dp p k x w)] H):
  Zg.j18 K R12 A9 n9 m9 x9 A10 n10 m10 A11 n11 m11 A12 n12 m12 (k:Int) ⟨b1,0,none⟩ (done:Int) at' (j:Int) H:=by
 have hL:=hJ.lv;have hsm:=hL.small (by omega);have hlen:=hL.len;have hld:=hL.ld;have hp5:=(eZR b k (sz/8) ar).2;have hile:=hJ.le;have hsz:=hJ.size;have hstm:stM m (d.size/8)=if i<(aZY b k (sz/8) ar).length then 3 else 4:=by rw[hJ.jb.st,hsz,hJ.har]
 have hkk:=hJ.jb.kk;have hld4:∀ e,g=some e→e.r.ld<4294967296:=fun e he=>by
  rcases ho with⟨pk,_,h,_⟩|⟨h,_⟩
  ·rw[h]at he;cases he;show m.r.ld<_;omega
  ·rw[h]at he;cases he
 unfold Zg.j18
 try simp only[HS]
 refine hs.ld 3 (v:=.pointer (some ⟨p,0,none⟩)) rfl rfl ?_;simp only[HV];refine(fZL (p:=p) (dp:=dp) g hld4).use hs [0] rfl rfl ?_;rintro _ _ H ⟨rfl,rfl⟩ hs;simp only[HV];have hs:Sep [En p dp g,Dk dp d,own H0,pts b1 (dZy dp p k x w)] H:=hs;rcases ho with⟨pk,hpk,rfl,rfl⟩|⟨rfl,hid⟩
 ·-- a step
  have hlt:i<(aZY b k (sz/8) ar).length:=by
   rcases Nat.lt_or_ge i (aZY b k (sz/8) ar).length with h|h
   ·exact h
   ·exact absurd ⟨by omega,by simp⟩ hnd
  rw[if_pos hlt]at hstm;refine iZq (jZC _) ?_;simp only[HV];have hst:stE (egM d m pk)≠0:=by have:=jZA (egM d m pk);omega
  refine aZe hst ?_;refine hs.ld 3 (v:=.pointer (some ⟨p,0,none⟩)) rfl rfl ?_;simp only[HV];refine(pZu (p:=p) (dp:=dp) (TT:=own H0) (fun H h=>hT.le h) hL.cl hL.hh hsm.1 hsm.2 hpk (by omega)).use hs [0,1,2] rfl rfl ?_;rintro _ _ H (⟨h,_⟩|⟨_,r,w',hC,⟨d',c',pk',hpk',hw,hc,hh,rfl,rfl⟩|⟨d',hcut,hleft,rfl,rfl⟩⟩) hs
  ·exact absurd hstm h
  ·simp only[HV];refine aZa rfl ?_;rw[ZT (x:=(i:Int)+1) (by omega) (by omega)];have hnx:Jb (N+4) sc sz ar k b l d' c' (m.add (bZL m (d.size/8))) (i+1):=⟨(hL.stepped hC hw hc hh).up (by omega),hw.sec.trans hJ.sec,hw.size.trans hsz,hJ.har,hJ.jb.next _,by omega⟩;refine qZe (K:=K) (i:=i+1) nx hnx hpk' (by show _+1≤0+_;omega) ?_;rw[eZM _ pk' hw.sec hw.size];exact hs.re [0,1,2,3] rfl
  ·simp only[HV];refine aZe (by decide) ?_;have hf1:=hcut.pos;have hst2:=Liv.step (d':=d') (c':=c) hL hC;have hkl:r≤2000∧w'≤900:=by
    have h1:=hC.le (by have:=hL.hh.per;omega) (by have:=hL.kk;omega) (Nat.le_trans (hZp (by have:=(Mn.r_wf hL.hh).2.2;omega)) hL.hh.least);have h2:=mZr hL.kk;omega
   have hmost:=hL.most;have hD:Dea (N+2) d.sec d.size d' fun m=>m.arena=ar∧∃ i',Job m k b l i'∧(i'=i∨i'=i+1)∧i≤i'∧i'≤(aZY b k (sz/8) ar).length:=hL.cut hcut (by omega) (hleft.mono fun c' h=>by
    rcases h with h|h
    ·exact⟨m,⟨hJ.har,i,hJ.jb,.inl rfl,Nat.le_refl _,hile⟩,hmost,by omega,by omega,h⟩
    ·refine⟨m.add (bZL m (d.size/8)),⟨hJ.har,i+1,hJ.jb.next _,.inr rfl,Nat.le_succ _,by omega⟩,hmost,?_,?_,h⟩
     ·show(m.L++[_]).length≤_;simp;omega
     ·rw[Mn.add_r];show m.r.ld≤_;omega)
   rw[hJ.sec,hsz]at hD;exact qZd (K:=K) hn11 hc11 hn12 hc12 nx (by omega) (i:=i) (by show 1+_≤0+_+1;omega) hD (hs.re [0,1,2,3] rfl)
 ·-- a recovery
  refine iZq (v:=.int .i64 0) rfl ?_;simp only[HV];refine aZa rfl ?_;refine hs.ld 3 (v:=.pointer (some ⟨p,0,none⟩)) rfl rfl ?_;simp only[HV];refine(kZ5 (p:=p) (dp:=dp) (g:=none) hL.cl hL.per hsm.2 (o:=some m) hL.hh).use hs [0,1] rfl rfl ?_;rintro _ _ H (⟨_,h,_⟩|⟨d',m4,hm4,hw,hc,rfl,rfl⟩|⟨d',hcut,_,hleft,rfl,rfl⟩) hs
  ·cases h
  ·cases hm4;have hs:Sep [En p dp (some (egM d m 0)),Dk dp d',own H0,pts b1 (dZy dp p k x w)] H:=hs;rw[← eZM m 0 hw.sec hw.size]at hs;have hnx:Jb (N+4) sc sz ar k b l d' c m i:=⟨(hL.went hw (by omega) hc hL.hh rfl (by omega) (by omega)).up (by omega),hw.sec.trans hJ.sec,hw.size.trans hsz,hJ.har,hJ.jb,hile⟩;have hst3:3≤stE (egM d' m 0):=by
    rw[hZs,hw.size,hstm];split<;>omega
   have hps:m.r.ps=(i:Int):=hJ.jb.ps;have hstat:=sZK hst3;have hld5:∀ e,some (egM d' m 0)=some e→e.r.ld<4294967296:=fun e he=>by cases he;show m.r.ld<_;omega
   simp only[HV]
   try simp only[HS]
   refine hs.ld 3 (v:=.pointer (some ⟨p,0,none⟩)) rfl rfl ?_;simp only[HV];refine(fZL (p:=p) (dp:=dp) (some (egM d' m 0)) hld5).use hs [0] rfl rfl ?_;rintro _ _ H ⟨rfl,rfl⟩ hs;rw[hstat];have hs:Sep [En p dp (some (egM d' m 0)),Dk dp d',own H0,pts b1 (dZy dp p k x w)] H:=hs;simp only[HV];refine hs.nw fun b2 H hs=>?_
   refine hs.stw 4 rfl rfl rfl rfl fun H hs=>?_;refine aZa rfl ?_;refine hs.ld 4 (v:=.int .i64 (stE (egM d' m 0))) rfl rfl ?_;simp only[HV];refine Zl (by omega) ?_;refine hs.ld 4 (v:=.int .i64 m.r.ps) rfl rfl ?_;simp only[HV];refine Zl (by omega) ?_;refine hs.ld 4 (v:=.int .i64 m.r.ps) rfl rfl ?_;simp only[HV];have hdone:done≤1000000:=by have:=(eZR b k (sz/8) ar).2;omega
   refine Zl (by rw[ZT (by omega) (by omega)];omega) ?_;unfold Zg.j24;refine aZa rfl ?_
   try simp only[HS]
   refine hs.ld 3 (v:=.pointer (some ⟨p,0,none⟩)) rfl rfl ?_;simp only[HV];refine(fZL (p:=p) (dp:=dp) (some (egM d' m 0)) hld5).use hs [0] rfl rfl ?_;rintro _ _ H ⟨rfl,rfl⟩ hs;rw[hstat];simp only[HV];refine iZq (v:=.int .i64 (i:Int)) (by rw[← hps];rfl) ?_;simp only[HV];exact qZe (K:=K) (i:=i) nx hnx (pk:=0) (by omega) (by show _+1≤1+_;omega) (hs.re [0,1,2,3] rfl)
  ·have hf1:=hcut.pos;have hs:Sep [En p dp none,Dk dp d',own H0,pts b1 (dZy dp p k x w)] H:=hs;simp only[HV]
   try simp only[HS]
   refine hs.ld 3 (v:=.pointer (some ⟨p,0,none⟩)) rfl rfl ?_;simp only[HV];refine(fZL (p:=p) (dp:=dp) none (fun e he=>by cases he)).use hs [0] rfl rfl ?_;rintro _ _ H ⟨rfl,rfl⟩ hs;have hs:Sep [En p dp none,Dk dp d',own H0,pts b1 (dZy dp p k x w)] H:=hs;simp only[HV];refine hs.nw fun b2 H hs=>?_
   refine hs.stw 4 rfl rfl rfl rfl fun H hs=>?_;refine aZe (by decide) ?_;unfold Zg.j24;refine aZe (by decide) ?_;have hmost:=hL.most;have hD:Dea (N+2) d.sec d.size d' fun m=>m.arena=ar∧∃ i',Job m k b l i'∧(i'=done∨i'=done+1)∧i≤i'∧i'≤(aZY b k (sz/8) ar).length:=hL.cut hcut (by omega) (hleft.mono fun c' h=>⟨m,⟨hJ.har,i,hJ.jb,hid,Nat.le_refl _,hile⟩,hmost,by omega,by omega,by rw[h];exact hL.hh⟩)
   rw[hJ.sec,hsz]at hD;exact qZd (K:=K) hn11 hc11 hn12 hc12 nx (by omega) (i:=i) (by show 1+_≤1+_+1;omega) hD (hs.re [0,1,2,3] rfl)
end
section
variable {H0 : Hp} {A9 A10 A11 A12 : Option Addr} {n9 m9 n10 m10 n11 m11 n12 m12 : Nat} {p dp b1 k x w sc sz ar : Nat} {b : Bool} {l : List UInt64} {keep more : List Bool} {fs : List UInt8}
variable (hT : T64 H0) (hk6 : k ≤ 6) (hl : Cells H0 A9 (Ze l)) (hn9 : n9 = l.length) (hl2 : l.length = 2 ^ k) (hn11 : n11 = keep.length) (hc11 : Cells H0 A11 (cZH keep)) (hn12 : n12 = more.length) (hc12 : Cells H0 A12 (cZH more)) (hn10 : n10 = fs.length) (hn16 : n10 ≤ 16) (hc10 : Cells H0 A10 (Zx fs))
include hk6 hl hn9 hl2 in
theorem sZS {N:Nat}{d:D}{c:Cn}{m:Mn}{pk:Int}{H:Hp}(hJ:Jb N sc sz ar k b l d c m (aZY b k (sz/8) ar).length)(hN:N≤380)(hpk:pk≤m.arena)
  (hs:Sep [En p dp (some (egM d m pk)),Dk dp d,own H0,pts b1 (dZy dp p k x w)] H):
  Zg.j35 (Ret (.bool true) H0) A9 n9 m9 (if b=true then 1 else 0) (k:Int) ⟨b1,0,none⟩ H:=by
 have hL:=hJ.lv.fused 0 (by omega);have hsz:=hJ.size;have h64:=mZr hk6;have hstm:stM m (d.size/8)=4:=by rw[hJ.jb.st,hsz,hJ.har,if_neg (by omega)]
 have hout:mZc m (d.size/8)=tfL b k l:=by
  unfold mZc;rw[hJ.jb.plan,hJ.jb.inp];exact pZM b k _ _ (by omega) l hl2
 have hlen:(tfL b k l).length=2^k:=mZn _ _ _;unfold Zg.j35
 try simp only[HS]
 refine hs.ld 3 (v:=.pointer (some ⟨dp,0,none⟩)) rfl rfl ?_;simp only[HV]
 try simp only[HS]
 refine(lZW (p:=dp) (d:=d) 0).use hs [1] rfl rfl ?_;rintro _ _ H ⟨rfl,rfl⟩ hs;have hs:Sep [Dk dp { d with fuse:=0},En p dp (some (egM d m pk)),own H0,pts b1 (dZy dp p k x w)] H:=hs;generalize hd0:{ d with fuse:=0}=d0 at*;have hf0:d0.fuse=0:=by rw[← hd0]
 have hz0:d0.size=d.size:=by rw[← hd0]
 have he0:egM d m pk=egM d0 m pk:=by rw[← hd0];rfl
 rw[he0]at hs;rw[← hz0]at hstm hout;have hsm:=hL.small (by omega);refine hs.ld 3 (v:=.pointer (some ⟨p,0,none⟩)) rfl rfl ?_;simp only[HV];refine(iZ1 (p:=p) (dp:=dp) hL.cl hL.hh hsm.2 hpk).use hs [1,0] rfl rfl ?_;rintro v M H (⟨h,_⟩|⟨_,hq⟩) hs
 ·exact absurd hstm h
 rw[hout]at hq;rcases hq with⟨d',bo,mo,pk',h1,h2,h3,rfl,rfl⟩|⟨d',h1,_⟩
 ·simp only[HV];have hs:Sep [En p dp (some (egM d0 m pk')),Dk dp d',pts bo (.row (Ze (tfL b k l)) 84 mo),own H0,pts b1 (dZy dp p k x w)] H:=hs;rw[← eZM m pk' h2.sec h2.size]at hs;have hrdc:rdC m (d0.size/8) 3≤128:=by
   have h1:=wZG (m:=m) (i:=3) (show 1≤d0.size/8 by have:=hL.hh.per;omega);have h2:=mZr hL.kk;omega
  have hL2:=hL.went h2 (by omega) h3 hL.hh rfl (by have:=hL.len;omega) (by have:=hL.ld;omega);have hsm2:=hL2.small (by omega);refine hs.ld 4 (v:=.pointer (some ⟨p,0,none⟩)) rfl rfl ?_;simp only[HV];refine(nZY (p:=p) (dp:=dp) hL2.cl hL2.hh hsm2.2 h1).use hs [0,1] rfl rfl ?_;rintro _ _ H (⟨h,_,_⟩|⟨_,⟨d3,bi,mi,pk3,h4,hw,hc,rfl,rfl⟩|⟨d3,hcut,_⟩⟩) hs
  ·have:=(pZ6 (m:=m) (per:=d'.size/8)).2 (by have:=hJ.jb.kd;omega);omega
  ·simp only[HV];refine aZa rfl (aZa rfl ?_);rw[hJ.jb.inp]at hs⊢;have hs:Sep [En p dp (some (egM d' m pk3)),Dk dp d3,pts bi (.row (Ze l) 84 mi),pts bo (.row (Ze (tfL b k l)) 84 mo),own H0,pts b1 (dZy dp p k x w)] H:=hs;refine(nZ4 (R:=own H0) (A:=A9) (n:=n9) (m:=m9) (k:=k) (l:=l) (fun H h=>hl.le h) hn9.symm (hn9.trans hl2) (by omega) b).use hs [4] rfl rfl ?_;rintro _ _ H ⟨A2,m2,rfl,rfl⟩ hs;simp only[HV];have row:∀{q mq:Nat} {ws:List UInt64} {H:Hp},H q=some (.row (Ze ws) 84 mq)→Cells H (some ⟨q,0,none⟩) (Ze ws):=fun{q mq ws H} h=>by
    have:=Cells.row h 0 (Ze ws).length
    rwa [List.drop_zero,List.take_length]at this
   refine Zc.use (nZ0 (some ⟨bo,0,none⟩) A2 (tfL b k l).length n9 _ m2 (tfL b k l) rfl (by omega) (by omega) H (row (hs.get 5 rfl)) (lZy (hs.own 0 rfl))) ?_;simp only[HV];refine Zc.use (nZ0 (some ⟨bi,0,none⟩) A9 l.length n9 _ m9 l rfl hn9 (by omega) H (row (hs.get 4 rfl)) (hl.le (hs.ow 1 rfl))) ?_;simp only[HV];exact hs.fin 1 rfl _
  ·exact(hcut.calm (h2.calm hf0)).elim
 ·exact(h1.calm hf0).elim
include hT hk6 hl hn9 hl2 hn11 hc11 hn12 hc12 hn10 hn16 hc10 in
theorem vZT :∀(t j at' done N i:Nat) (d:D) (c:Cn) (m:Mn) (g:Option Eg) (H:Hp),Jb N sc sz ar k b l d c m i→N≤10+4*j→opn d m g i done→at'≤n10→2*(n10-at')+(oZD g+((aZY b k (sz/8) ar).length-i))≤t→j+t≤50→
  Sep [En p dp g,Dk dp d,own H0,pts b1 (dZy dp p k x w)] H→
  Zg.l12 (Ret (.bool true) H0) (t+1) A9 n9 m9 (if b=true then 1 else 0) A10 n10 m10 A11 n11 m11 A12 n12 m12 (k:Int) ⟨b1,0,none⟩ (done:Int) (at':Int) (j:Int) H:=fun t=>by
 induction t with
 |zero=>
  intro j at' done N i d c m g H hJ hN ho hat hφ hjt hs;have hile:=hJ.le;have hL:=hJ.lv;have hld:=hL.ld;unfold Zg.l12;refine Zw (by omega) ?_
  try simp only[HS]
  refine hs.ld 3 (v:=.pointer (some ⟨p,0,none⟩)) rfl rfl ?_;simp only[HV];rcases ho with⟨pk,hpk,rfl,rfl⟩|⟨rfl,_⟩
  ·have hip:i=(aZY b k (sz/8) ar).length:=by omega
   subst hip;refine(fZL (p:=p) (dp:=dp) (some (egM d m pk)) (fun e he=>by cases he;show m.r.ld<_;omega)).use hs [0] rfl rfl ?_;rintro _ _ H ⟨rfl,rfl⟩ hs;simp only[HV];refine iZq (jZC _) ?_;simp only[HV];refine ZA (by rw[hZs,hJ.jb.st,hJ.size,hJ.har,if_neg (by omega)]) ?_;exact sZS hk6 hl hn9 hl2 hJ (by omega) hpk (hs.re [0,1,2,3] rfl)
  ·have:oZD none=1:=rfl;omega
 |succ t ih=>
  intro j at' done N i d c m g H hJ hN ho hat hφ hjt hs;have hile:=hJ.le;have hL:=hJ.lv;have hld:=hL.ld;have hp5:=(eZR b k (sz/8) ar).2;have hld4:∀ e,g=some e→e.r.ld<4294967296:=fun e he=>by
   rcases ho with⟨pk,_,h,_⟩|⟨h,_⟩
   ·rw[h]at he;cases he;show m.r.ld<_;omega
   ·rw[h]at he;cases he
  unfold Zg.l12;refine Zw (by omega) ?_
  try simp only[HS]
  refine hs.ld 3 (v:=.pointer (some ⟨p,0,none⟩)) rfl rfl ?_;simp only[HV];refine(fZL (p:=p) (dp:=dp) g hld4).use hs [0] rfl rfl ?_;rintro _ _ H ⟨rfl,rfl⟩ hs;have hs:Sep [En p dp g,Dk dp d,own H0,pts b1 (dZy dp p k x w)] H:=hs;simp only[HV]
    -- a turn, with whatever fuse
  have turn:∀(fu at2:Nat) (H:Hp),fu≤255→at2≤n10→2*(n10-at2)+(if fu=0 then 0 else 2)≤2*(n10-at')→¬(i=(aZY b k (sz/8) ar).length∧g≠none)→(fu=0→at2=at'∨at2=at'+1)→Sep [En p dp g,Dk dp { d with fuse:=fu},own H0,pts b1 (dZy dp p k x w)] H→
    Zg.j18 (Ret (.bool true) H0) (Zg.l12 (Ret (.bool true) H0) (t+1)) A9 n9 m9 (if b=true then 1 else 0) A10 n10 m10 A11 n11 m11 A12 n12 m12 (k:Int) ⟨b1,0,none⟩ (done:Int) (at2:Int) (j:Int) H:=fun fu at2 H hfu hat2 hpot hnd _ hs=>by
   have hJ2:Jb N sc sz ar k b l { d with fuse:=fu} c m i:=⟨hL.fused fu (by omega),hJ.sec,hJ.size,hJ.har,hJ.jb,hile⟩;have ho2:opn { d with fuse:=fu} m g i done:=ho;refine vZU (R12:=Zg.l12 (Ret (.bool true) H0) (t+1)) hT hk6 hn11 hc11 hn12 hc12 hJ2 (by omega) ho2 hnd (fun H d' c' m' g' i' done' hJ' ho' h1 h2 hs=>?_) hs;rw[ZT (x:=(j:Int)+1) (by omega) (by omega)];have h2':fu=0→_:=h2;refine ih (j+1) at2 done' (N+4) i' d' c' m' g' H hJ' (by omega) ho' hat2 ?_ (by omega) hs;by_cases hz:fu=0
   ·have:=h2' hz;rw[if_pos hz]at hpot;omega
   ·rw[if_neg hz]at hpot;omega
  have go:¬(i=(aZY b k (sz/8) ar).length∧g≠none)→Sep [En p dp g,Dk dp d,own H0,pts b1 (dZy dp p k x w)] H→
    (Ld H (⟨b1,0,none⟩:Addr) fun v10=>DP v10 fun p2=>NN p2 fun a2=>Zc Tryz.prog 14 #[.pointer (some (a2.add 7)),.int .i64 0] H fun v11 H8=>BIf (decide ((at':Int)<((n10:Nat):Int))) (Ld H8 ((⟨b1,0,none⟩:Addr).add 0) fun v12=>DP v12 fun p3=>NN p3 fun a3=>ixI (at':Int) n10 (NN A10 fun a4=>Ld H8 (a4.add ((at':Int).toNat*1)) fun v13=>DI .u8 v13 fun x15=>Zc Tryz.prog 14 #[.pointer (some (a3.add 7)),.int .i64 (IntKind.i64.wrap x15)] H8 fun v14 H9=>Zg.j18 (Ret (.bool true) H0) (Zg.l12 (Ret (.bool true) H0) (t+1)) A9 n9 m9 (if b=true then 1 else 0) A10 n10 m10 A11 n11 m11 A12 n12 m12 (k:Int) ⟨b1,0,none⟩ (done:Int) (IntKind.i64.wrap ((at':Int)+(1:Int))) (j:Int) H9))
     (Zg.j18 (Ret (.bool true) H0) (Zg.l12 (Ret (.bool true) H0) (t+1)) A9 n9 m9 (if b=true then 1 else 0) A10 n10 m10 A11 n11 m11 A12 n12 m12 (k:Int) ⟨b1,0,none⟩ (done:Int) (at':Int) (j:Int) H8)):=fun hnd hs=>by
   refine hs.ld 3 (v:=.pointer (some ⟨dp,0,none⟩)) rfl rfl ?_;simp only[HV]
   try simp only[HS]
   refine(lZW (p:=dp) (d:=d) 0).use hs [1] rfl rfl ?_;rintro _ _ H ⟨rfl,rfl⟩ hs;have hs:Sep [Dk dp { d with fuse:=0},En p dp g,own H0,pts b1 (dZy dp p k x w)] H:=hs;by_cases hlt:at'<n10
   ·refine Zw (by omega) ?_
    try simp only[HS]
    refine hs.ld 3 (v:=.pointer (some ⟨dp,0,none⟩)) rfl rfl ?_;simp only[HV];have hlt2:at'<fs.length:=by omega
    have hg:(Zx fs)[at']? =some (.int .u8 ((fs[at']'hlt2).toNat:Int)):=by
     unfold Zx;rw[List.getElem?_map,List.getElem?_eq_getElem hlt2];rfl
    refine(hc10.le (hs.ow 2 rfl)).read hg rfl (by rw[ZU];omega) ?_;simp only[HV];have hf255:(fs[at']'hlt2).toNat≤255:=by have:=(fs[at']'hlt2).toNat_lt;omega
    generalize(fs[at']'hlt2).toNat=fu at hf255;rw[bZm (n:=fu) (by omega),ZT (x:=(at':Int)+1) (by omega) (by omega)]
    try simp only[HS]
    refine(lZW (p:=dp) (d:={ d with fuse:=0}) (fu:Int)).use hs [0] rfl rfl ?_;rintro _ _ H ⟨rfl,rfl⟩ hs;have hs:Sep [Dk dp { d with fuse:=fu},En p dp g,own H0,pts b1 (dZy dp p k x w)] H:=hs;exact turn fu (at'+1) H hf255 (by omega) (by split<;>omega) hnd (fun _=>.inr rfl) (hs.re [1,0,2,3] rfl)
   ·refine Zl (by omega) ?_;exact turn 0 at' H (by omega) hat (by rw[if_pos rfl];omega) hnd (fun _=>.inl rfl) (hs.re [1,0,2,3] rfl)
  rcases ho with⟨pk,hpk,rfl,rfl⟩|⟨rfl,hid⟩
  ·refine iZq (jZC _) ?_;simp only[HV];by_cases hip:i=(aZY b k (sz/8) ar).length
   ·subst hip;refine ZA (by rw[hZs,hJ.jb.st,hJ.size,hJ.har,if_neg (by omega)]) ?_;exact sZS hk6 hl hn9 hl2 hJ (by omega) hpk hs
   ·refine ZK (by rw[hZs,hJ.jb.st,hJ.size,hJ.har,if_pos (by omega)];decide) ?_;exact go (fun h=>hip h.1) hs
  ·refine iZq (v:=.int .i64 0) rfl ?_;simp only[HV];refine ZK (by decide) ?_;exact go (fun h=>h.2 rfl) hs
end
theorem WholeCrashes_ok (A1 A2 A3 A4:Option Addr)(n1 m1 n2 m2 n3 m3 n4 m4:Nat)(l:List UInt64)(hn1:n1=l.length)(hm1:n1≤m1)(dir:Int)(x w:Nat)(hx:x<256)(hw:w<256)(fs:List UInt8)(hn2:n2=fs.length)(keep more:List Bool)(hn3:n3=keep.length)(hn4:n4=more.length)
  (H:Hp) (hT:T64 H) (hl:Cells H A1 (Ze l)) (hc2:Cells H A2 (Zx fs)) (hc3:Cells H A3 (cZH keep)) (hc4:Cells H A4 (cZH more)):
  Zc Tryz.prog 4 #[.slice A1 n1 m1,.int .i64 dir,.int .u8 (x:Int),.int .u8 (w:Int),.slice A2 n2 m2,.slice A3 n3 m3,.slice A4 n4 m4] H (RetE (.bool true) H):=by
 apply Zc.ret;apply Zg.ok;unfold Zg;refine Zc.use (uZj H hT) ?_;simp only[HV];refine Zc.use (uZh A1 n1 m1 l hn1 H hl) ?_;simp only[HV];by_cases hneg:iZO l<0
 ·exact Zw hneg ((Sep.start H).fin 0 rfl _)
 refine Zl hneg ?_;obtain⟨k,ek,hlg,hk6,hlen,hcan⟩:=rZL (l:=l) (by omega);rw[ek];have j6:∀ b:Bool,dir=(if b=true then 1 else 0)→n2≤16→Zg.j6 (Ret (.bool true) H) A1 n1 m1 dir (x:Int) (w:Int) A2 n2 m2 A3 n3 m3 A4 n4 m4 (k:Int) H:=fun b hb h16=>by
  subst hb;unfold Zg.j6;have hs:=Sep.start H;refine(vZm (k:=k) (x:=x) (w:=w) hk6 hx hw).use hs [] rfl rfl ?_;rintro _ _ H1 ⟨dp,p,d,c,rfl,hsec,hsize,hf,hL,rfl⟩ hs;simp only[HV];refine hs.nw fun b1 H1 hs=>?_
  refine hs.stw 3 (y:=mZj dp p k x w) rfl rfl rfl rfl fun H1 hs=>?_
  have hs:Sep [En p dp (some (egM d (bZF k (arS k x w)) 0)),Dk dp d,own H,pts b1 (dZy dp p k x w)] H1:=hs;refine hs.ldw 3 rfl rfl ?_
  try simp only[Array.toArray_toList]
  have hs:Sep [En p dp (some (egM d (bZF k (arS k x w)) 0)),Dk dp d,own H,(fun _=>True),pts b1 (dZy dp p k x w)] H1:=by
   have:=(Sep.unit (X:=fun _=>True) hs trivial);exact this.re [1,2,3,0,4] rfl
  refine(tZ9 (dp:=dp) (p:=p) (k:=k) (x:=x) (w:=w) (kk:=k) (aw:=w) (A:=A1) (mm:=m1) (rig:=mZj dp p k x w) (RR:=own H) (TT:=fun _=>True) rfl hL (by omega) hf (by omega) hlg (Nat.le_refl _) hcan hn1 hm1 b (fun H' h=>hl.le h) (.inr fun H' h=>hT.le h)).use hs [0,1,2,3] rfl rfl ?_;rintro _ _ H1 ⟨d',c',pk',rfl,hpk',hsec',hsize',hf',hL',rfl⟩ hs;simp only[HV];have hj:=oZk (bZF k (arS k x w)) k l b;have hp5:=(eZR b k (szS x/8) (arS k x w)).2;refine⟨2*n2+5+1,?_⟩;refine vZT (p:=p) (dp:=dp) (k:=k) (x:=x) (w:=w) (sc:=scS k x) (sz:=szS x) (ar:=arS k x w) (b:=b) (l:=l) hT hk6 hl hn1 hlen hn3 hc3 hn4 hc4 hn2 h16 hc2 (2*n2+5) 0 0 0 10 0 d' c' (dZo (bZF k (arS k x w)) k l b) (some (egM d' (dZo (bZF k (arS k x w)) k l b) pk')) H1 ⟨hL'.up (by omega),hsec'.trans hsec,hsize'.trans hsize,rfl,hj,Nat.zero_le _⟩ (by omega) (.inl ⟨pk',hpk',rfl,rfl⟩) (by omega) ?_ (by omega) (hs.re [0,1,2,4] rfl);show 2*(n2-0)+(0+(_-0))≤_
  omega
 have guard:∀ b:Bool,dir=(if b=true then 1 else 0)→(BIf (decide ((n2:Int)>16)) (Ret (.bool true) H (.bool true) H) (BIf (decide ((n3:Int)>40)) (Ret (.bool true) H (.bool true) H) (BIf (decide ((n4:Int)>40)) (Ret (.bool true) H (.bool true) H) (Zg.j6 (Ret (.bool true) H) A1 n1 m1 dir (x:Int) (w:Int) A2 n2 m2 A3 n3 m3 A4 n4 m4 (k:Int) H)))):=fun b hb=>by
  have yes:Ret (.bool true) H (.bool true) H:=⟨rfl,Hp.le_refl _⟩;by_cases h2:(n2:Int)>16
  ·exact Zw h2 yes
  refine Zl h2 ?_;by_cases h3:(n3:Int)>40
  ·exact Zw h3 yes
  refine Zl h3 ?_;by_cases h4:(n4:Int)>40
  ·exact Zw h4 yes
  exact Zl h4 (j6 b hb (by omega))
 by_cases h0:dir=0
 ·exact ZA h0 (guard false h0)
 ·refine ZK h0 ?_;by_cases h1:dir=1
  ·exact ZA h1 (guard true h1)
  ·exact ZK h1 ⟨rfl,Hp.le_refl _⟩
end Eng
end Go.Proofs.YtahjgjaenegpgaaGreatDoor
