import Derived.Test.YtgfildcgihbdaaaGreatDoorPkBudgetTells10
set_option maxRecDepth 100000
set_option linter.unusedSimpArgs false
set_option linter.unusedVariables false
set_option linter.unnecessarySimpa false
set_option linter.unusedSectionVars false
open Go.IntKind (i64)
namespace Go.Proofs.YtgfildcgihbdaaaGreatDoor
namespace Eng
open Go Go.Hw Go.Form W Shp Dsk Str Are Trn Pas Pln Rec Srt Rng
section
variable {H0 : Hp} {p dp b1 mo k sc ar : Nat} {b : Bool} {l : List UInt64} {cs : List O3} (hT : T64 H0) (hr : Rcd H0) (hg : Sup.aZX mo (sc : Int) (32 : Nat) ar = true) (hk : k ≤ mo) (hmo6 : mo ≤ 6) (hw : aZC k (32 / 8) ≤ ar ∧ ar ≤ 1000) (hC : fZa mo k (32 / 8) ar (aZA b k (32 / 8) ar) cs)
variable {A : Option Addr} {n mm : Nat} (hn : n = l.length) (hnm : n ≤ mm) (hl : Cells H0 A (Zd l)) (hlg : lg (l.length : Int) = some k) (hcan : hZ3 l) (hlen : l.length ≤ 32)
include hT hr hg hk hmo6 hw hC
theorem vZ6 {d:D}{c:Cn}{m:Mn}{pk:Int}{was:O3}{bw:Nat}{H:Hp}(hL:Liv 4 d c m)(hsz:d.size=32)(hsec:d.sec=sc)(hf:d.fuse=0)(hpk:pk≤m.arena)(har:m.arena=ar)(hmo:m.most=mo)(hst:stM m (d.size/8)=2)(hJ:∀ b,Job (m.add (cZw m b)) k b l 0)(hl0:m.L.length=2)(hld:m.r.ld=1)
  (hs:Sep [En p dp (some (egM d m pk)),Dk dp d,own H0,pts b1 (bZI mo sc 32 ar),pts bw (aZI was)] H):
  Zc.j23 (Ret (.bool true) H0) (if b=true then 1 else 0) (k:Int) ⟨b1,0,none⟩ (some ⟨dp,0,none⟩) (some ⟨p,0,none⟩) ⟨bw,0,none⟩ H:=by
 have hsm:=hL.small (by omega);have hcn:=hL.cnt (by omega);unfold Zc.j23 Zc.j23.q1
 try simp only[HS]
 refine Za.use (gZi hs 1 rfl) ?_;simp only[HV];refine hs.stw 4 (y:=(ZD (dZj d)).toArray) rfl rfl rfl rfl fun H hs=>?_;refine hs.ldw 3 rfl rfl ?_
 try simp only[Array.toArray_toList]
 refine Za.use (pZ3 hg hk H (hr.le (hs.ow 2 rfl))) ?_;simp only[HV];refine hs.nw fun b2 H hs=>?_
 refine hs.stw 5 (y:=(ZD aZT).toArray) rfl rfl rfl rfl fun H hs=>?_;refine Zq rfl ?_;refine(qZ9 (p:=p) (dp:=dp) hL.cl hL.hh hsm.1 hsm.2 hpk (if b=true then 1 else 0)).use hs [0,1] rfl rfl ?_;rintro _ _ H (⟨h,_⟩|⟨_,h,_⟩|⟨_,b',hb',⟨d2,c2,hw2,hc2,hh2,rfl,rfl⟩|⟨d2,hcut,_⟩⟩) hs
 ·exact absurd hst h
 ·exact absurd (by cases b<;>simp) h
 rotate_left
 ·exact(hcut.calm hf).elim
 obtain rfl:b'=b:=by cases b<;>cases b'<;>first|rfl|(exfalso;revert hb';decide)
 simp only[HV];refine Zq rfl ?_
 try simp only[HS]
 have hs:Sep [En p dp (some (egM d (m.add (cZw m b')) pk)),Dk dp d2,own H0,pts b1 (bZI mo sc 32 ar),pts bw (aZI (dZj d)),pts b2 (aZI aZT)] H:=hs;refine nZl hs 1 4 5 rfl rfl rfl (fZC hw2) hcn ⟨by decide,by decide,by decide⟩ ?_;rw[← iZg _ pk hw2.sec hw2.size]at hs;have hL2:Liv 6 d2 c2 (m.add (cZw m b')):=hL.went hw2 (by omega) hc2 hh2 rfl (by show(m.L++[_]).length≤_;simp;omega) (by rw[Mn.add_r];show m.r.ld≤_;omega);show Zc.j27 _ _ _ _ _ _ _ _ _
 unfold Zc.j27;refine hs.ldw 5 rfl rfl ?_;refine hs.nw fun b3 H hs=>?_
 refine hs.stw 6 (y:=(ZD aZT).toArray) rfl rfl rfl rfl fun H hs=>?_;refine⟨(aZA b' k (32/8) ar).length+1,?_⟩;have h5:=(cZG b' k (32/8) ar).2;exact pZi (l:=l) (bw:=bw) (ba:=b3) hT hr hg hk (by omega) hw hC (aZA b' k (32/8) ar).length 0 6 (dZj d) d2 c2 (m.add (cZw m b')) pk H (by omega) ⟨hL2,hw2.sec.trans hsec,hw2.size.trans hsz,har,hJ b',Nat.zero_le _⟩ hmo (by omega) (hw2.calm hf) hpk (hs.re [0,1,2,3,4,6] rfl)
include hn hnm hl hlg hcan hlen in
theorem vZ5 {d:D}{c:Cn}{H:Hp}(hL:Liv 2 d c (cZv mo ar))(hsz:d.size=32)(hsec:d.sec=sc)(hf:d.fuse=0)
  (hs:Sep [En p dp (some (egM d (cZv mo ar) 0)),Dk dp d,own H0,pts b1 (bZI mo sc 32 ar)] H):
  Zc.j18 (Ret (.bool true) H0) A n mm (if b=true then 1 else 0) (k:Int) ⟨b1,0,none⟩ (some ⟨dp,0,none⟩) (some ⟨p,0,none⟩) H:=by
 have hsm:=hL.small (by omega);have hcn:=hL.cnt (by omega);have hpe:Lay.Zs ((32:Nat):Int)=32/8:=by decide
 have h64:=gZ1 (k:=k) (by omega);have hro:=nZB (k:=k) (per:=Lay.Zs ((32:Nat):Int)) (by omega);unfold Zc.j18 Zc.j18.q1
 try simp only[HS]
 refine Za.use (gZi hs 1 rfl) ?_;simp only[HV];refine hs.nw fun bw H hs=>?_
 refine hs.stw 4 (y:=(ZD (dZj d)).toArray) rfl rfl rfl rfl fun H hs=>?_;refine hs.ldw 3 rfl rfl ?_
 try simp only[Array.toArray_toList]
 refine Za.use (sZ4 hg hk (by omega) H (hr.le (hs.ow 2 rfl))) ?_;simp only[HV];refine hs.nw fun b2 H hs=>?_
 refine hs.stw 5 (y:=(ZD (hZh k (Lay.Zs ((32:Nat):Int)))).toArray) rfl rfl rfl rfl fun H hs=>?_;have hs:Sep [En p dp (some (egM d (cZv mo ar) 0)),Dk dp d,own H0,pts b1 (bZI mo sc 32 ar),pts bw (aZI (dZj d)),pts b2 (aZI (hZh k (Lay.Zs ((32:Nat):Int))))] H:=hs;refine(uZC (p:=p) (dp:=dp) hL.cl hL.hh hsm.1 hsm.2 (by show(0:Int)≤_;omega) (l:=l) (A:=A) (n:=n) (mm:=mm) (RR:=own H0) (TT:=pts b1 (bZI mo sc 32 ar)) hn hnm (by omega) (fun H' h=>hl.le h) (.inr fun H' h=>hT.le h)).use hs [0,1,2,3] rfl rfl ?_;rintro _ _ H (⟨k',i,e,hchk,hne,_⟩|⟨k',hk',_,_,⟨d1,c1,pk1,hpk1,hw1,hc1,hh1,rfl,rfl⟩|⟨d1,hcut,_⟩⟩) hs
 ·cases hchk with
  |len h=>rw[h]at hlg;cases hlg
  |big h h2=>rw[h]at hlg;cases hlg;exact absurd h2 (by show ¬((_:Nat):Int)>((mo:Nat):Int);omega)
  |word h h2 h3=>exact absurd hcan h3
  |ok h h2 h3=>exact absurd rfl hne
 rotate_left
 ·exact(hcut.calm hf).elim
 obtain rfl:k=k':=by rw[hlg]at hk';cases hk';rfl
 have hper:=hL.hh.per;have hb1:=oZN (d.size/8) k;have hb2:=oZO (d.size/8) k;have hb3:=nZv (per:=d.size/8) (w:=2^k) (by omega) (Nat.two_pow_pos k);have h1r:(aZK (cZv mo ar) k).r=cZy (cZv mo ar) k:=Mn.add_r _ _;have h2r:(bZJ (cZv mo ar) k l).r=dZi (aZK (cZv mo ar) k) k l:=Mn.add_r _ _;have hld1:(bZJ (cZv mo ar) k l).r.ld=1:=by rw[h2r];show(aZK (cZv mo ar) k).r.ld=_;rw[h1r];rfl
 have hL1:Liv 4 d1 c1 (bZJ (cZv mo ar) k l):=hL.went hw1 (by unfold ldR ldW;omega) hc1 hh1 rfl (by show([]++[_]++[_]:List _).length≤_;simp) (by omega);have hst:stM (bZJ (cZv mo ar) k l) (d1.size/8)=2:=by unfold stM;rw[if_pos (by rw[h2r];rfl)]
 simp only[HV];refine Zq rfl (Zq rfl ?_)
 try simp only[HS]
 have hs:Sep [En p dp (some (egM d (bZJ (cZv mo ar) k l) pk1)),Dk dp d1,own H0,pts b1 (bZI mo sc 32 ar),pts bw (aZI (dZj d)),pts b2 (aZI (hZh k (Lay.Zs ((32:Nat):Int))))] H:=hs;have hlo:(ldR (d.size/8) k,ldW (d.size/8) k,3)=hZh k (Lay.Zs ((32:Nat):Int)):=by rw[hsz,hpe];exact rZQ (q:=2) rfl k
 have hcw:=fZC hw1;rw[hlo]at hcw;refine nZl hs 1 4 5 rfl rfl rfl hcw hcn (by unfold hZh;exact⟨by show 16+_+(if _ then 1 else 0)≤_;split<;>omega,by show 2+_≤_;omega,by show 3≤_;omega⟩) ?_;rw[← iZg _ pk1 hw1.sec hw1.size]at hs;exact vZ6 (l:=l) hT hr hg hk hmo6 hw hC hL1 (hw1.size.trans hsz) (hw1.sec.trans hsec) (hw1.calm hf) hpk1 rfl rfl hst (fun b=>tZj (cZv mo ar) k l b) rfl hld1 (hs.re [0,1,2,3,4] rfl)
end
theorem BudgetTells_ok (A1:OA)(n1 m1:Nat)(l:List UInt64)(hn1:n1=l.length)(hm1:n1≤m1)(dir:Int)(x w:Nat)(hx:x<256)(hw:w<256)(H:Hp)(hT:T64 H)(hr:Rcd H)(hl:Cells H A1 (Zd l)):
  Za Tryz.prog 3 #[.slice A1 n1 m1,.int .i64 dir,.int .u8 (x:Int),.int .u8 (w:Int)] H (RetE (.bool true) H):=by
 apply Za.ret;apply Zc.ok;unfold Zc;refine Za.use (pZ1 H) ?_;simp only[HV];have yes:Ret (.bool true) H (.bool true) H:=⟨rfl,Hp.le_refl _⟩;refine Za.use (oZx (n1:Int) H) ?_;simp only[HV];by_cases h1:(n1:Int)>32
 ·exact Zm h1 yes
 refine Zh h1 ?_;cases hlg:lg (n1:Int)with
 |none=>
  refine Zm (by unfold eZ7;rw[hlg];decide) yes
 |some k=>
 have hfit:eZ7 (n1:Int)=(k:Int):=by unfold eZ7;rw[hlg]
 rw[hfit];refine Zh (by omega) ?_;have hl2:=(dZm hlg).2;have hk5:k≤5:=by
  rcases Nat.lt_or_ge 5 k with h|h
  ·have:2^6≤2^k:=Nat.pow_le_pow_right (by omega) h;omega
  ·exact h
 obtain⟨mo,hmo⟩:∃ mo,mo=min (k+x%3) 6:=⟨_,rfl⟩;have hmo6:mo≤6∧k≤mo:=by omega
 obtain⟨sc,hsc⟩:∃ sc,sc=Lay.bZj mo 4+x%5:=⟨_,rfl⟩;obtain⟨ar,har⟩:∃ ar,ar=aZC mo 4+w:=⟨_,rfl⟩;have hg:Sup.aZX mo (sc:Int) (32:Nat) ar=true:=by rw[hsc,har];exact uZM hmo6.1 (by omega) hw
 have hfv:bZC sc (32/8) mo ar=0:=by rw[hsc,har];exact uZL hmo6.1 hw
 have hns:=qZj (k:=mo) (per:=4) hmo6.1;have hls:=hZ7 (k:=mo) (per:=4) hmo6.1;have hn9:9≤Lay.bZj mo 4:=by unfold Lay.bZj;omega
 have hscr:9≤sc∧sc≤300:=by omega
 have hwk:aZC k (32/8)≤ar∧ar≤1000:=by
  have h:aZC k 4≤aZC mo 4:=hZg hmo6.2;exact⟨by show aZC k 4≤_;omega,by omega⟩
 have e1:(if(6:Int)<i64.wrap ((k:Int)+Int.tmod (i64.wrap (x:Int)) 3)then(6:Int)else i64.wrap ((k:Int)+Int.tmod (i64.wrap (x:Int)) 3))=((mo:Nat):Int):=by
  rw[aZu (n:=x) (by omega),show Int.tmod (x:Int) 3=((x%3:Nat):Int)from rfl,ZL (by omega) (by omega)];split<;>omega
 have e2:i64.wrap ((Lay.bZj mo 4:Int)+Int.tmod (i64.wrap (x:Int)) 5)=((sc:Nat):Int):=by
  rw[aZu (n:=x) (by omega),show Int.tmod (x:Int) 5=((x%5:Nat):Int)from rfl,ZL (by omega) (by omega)];omega
 have e3:i64.wrap ((aZC mo 4:Int)+i64.wrap (w:Int))=((ar:Nat):Int):=by
  rw[aZu (n:=w) (by omega),ZL (by omega) (by omega)];omega
 have j6:∀ b:Bool,dir=(if b=true then 1 else 0)→Zc.j6 (Ret (.bool true) H) A1 n1 m1 dir (x:Int) (w:Int) (k:Int) H:=fun b hb=>by
  subst hb;unfold Zc.j6 Zc.j6.q1;rw[e1];refine⟨by decide,by simp,?_⟩;refine Za.use (Sup.qZ3 mo (by omega) 32 (by decide) H) ?_;simp only[HV];rw[show Lay.Zs 32=4 from by decide,e2];refine⟨by decide,by simp,?_⟩;refine Za.use (rZ6 mo 4 (by omega) (by omega) H) ?_;simp only[HV];rw[e3];refine(Sep.start H).nw fun b1 H1 hs=>?_
  refine hs.stw 1 (y:=Sup.aZR mo sc (32:Nat) ar) rfl rfl rfl rfl fun H1 hs=>?_
  have hs:Sep [own H,pts b1 (bZI mo sc 32 ar)] H1:=hs;refine(tZB (R0:=own H) (A:=A1) (n:=n1) (m:=m1) (l:=l) (most:=mo) (st:=1) (ar:=0) (sc:=0) (sz:=0) (ld:=0) (s1:=0) (s2:=0) (s3:=0) (s4:=0) (s5:=0) hn1 (by omega) (fun H h=>hl.le h) (by decide) (by decide)).use hs [0] rfl rfl ?_;rintro _ _ H1 (⟨y,i,e,he,hno,hy1,hy2,rfl,rfl⟩|⟨k2,A',m',hok,rfl,rfl⟩) hs
  ·simp only[HV];refine hs.nw fun b2 H1 hs=>?_
   refine hs.stw 2 (y:=y) rfl rfl hy1 hy2 fun H1 hs=>?_
   exact ZC he (hs.fin 0 rfl _)
  simp only[HV];refine hs.nw fun b2 H1 hs=>?_
  refine hs.stw 3 (y:=mch (2,0+1,k2,0,0,0) mo 0 0 0 (0+1) A' l.length m') rfl rfl rfl rfl fun H1 hs=>?_
  refine Zq rfl ?_;have hs:Sep [own H,pts b1 (bZI mo sc 32 ar)] H1:=hs.re [1,2] rfl;have hcan:=hok.2.2
  try simp only[HS]
  refine hs.ld 1 (v:=.int .i64 (sc:Int)) rfl rfl ?_;simp only[HV];refine(Dsk.dZS sc 32 (by omega) (by decide) (by omega)).use hs [] rfl rfl ?_;rintro _ _ H1 ⟨dp,rfl,rfl⟩ hs;simp only[HV];refine(rZp (dp:=dp)).use hs [] rfl rfl ?_;rintro _ _ H1 ⟨p,rfl,rfl⟩ hs;simp only[HV];refine aZb rfl (aZb rfl ?_);have hs:Sep [En p dp none,Dk dp (D.fresh sc 32),own H,pts b1 (bZI mo sc 32 ar)] H1:=hs;refine hs.ldw 3 rfl rfl ?_
  try simp only[Array.toArray_toList]
  refine Za.use (pZ2 hg H1) ?_;simp only[HV];refine hs.nw fun b3 H1 hs=>?_
  refine hs.stw 4 (y:=(ZD (0,10,3)).toArray) rfl rfl rfl rfl fun H1 hs=>?_
  refine Zq rfl ?_;have hs:Sep [En p dp none,Dk dp (D.fresh sc 32),own H,pts b1 (bZI mo sc 32 ar),pts b3 (aZI (0,10,3))] H1:=hs;have hcl:=Clean.fresh (sec:=sc) (size:=32) (by omega) (by decide) (by omega);obtain⟨cs,hC⟩:=fZa.ex (most:=mo) (k:=k) (per:=32/8) (words:=ar) (by decide) (by omega) hmo6.2 (by omega) hwk.2 hT (aZA b k (32/8) ar) (iZM (by omega) hwk.1);have fin:∀(d:D) (c:Cn) (H1:Hp),Liv 2 d c (cZv mo ar)→d.size=32→d.sec=sc→d.fuse=0→Sep [En p dp (some (egM d (cZv mo ar) 0)),Dk dp d,own H,pts b1 (bZI mo sc 32 ar),pts b3 (aZI (0,10,3))] H1→Zc.j18 (Ret (.bool true) H) A1 n1 m1 (if b=true then 1 else 0) (k:Int) ⟨b1,0,none⟩ (some ⟨dp,0,none⟩) (some ⟨p,0,none⟩) H1:=fun d c H1 hL h1 h2 h3 hs=>
   vZ5 hT hr hg hmo6.2 hmo6.1 hwk hC hn1 hm1 hl (by rw[← hn1];exact hlg) hcan (by omega) hL h1 h2 h3 (hs.re [0,1,2,3] rfl)
  have key:∀ K:VK,(∀(d:D) (c:Cn) (H1:Hp),Liv 2 d c (cZv mo ar)→d.size=32→d.sec=sc→d.fuse=0→dZj d=(0,10,3)→Sep [En p dp (some (egM d (cZv mo ar) 0)),Dk dp d,own H,pts b1 (bZI mo sc 32 ar),pts b3 (aZI (0,10,3))] H1→K (.int .i64 0) H1)→
    Za Tryz.prog 14 #[.pointer (some ⟨p,0,none⟩),.int .i64 (mo:Int),.int .i64 (ar:Int)] H1 K:=fun K hK=>by
   refine(qZY (p:=p) (dp:=dp) (g:=none) hcl (by show 0<Lay.Zs ((32:Nat):Int);decide) ⟨Nat.zero_le _,Nat.zero_le _,Nat.zero_le _⟩ (mo:Int) (ar:Int)).use hs [0,1] rfl rfl ?_;rintro _ _ H1 (⟨h,_⟩|⟨kn,wn,e1,e2,_,⟨d,c,hw',hc,hh,rfl,rfl⟩|⟨d',hcut,_⟩⟩) hs
   ·exact absurd hfv h
   rotate_left
   ·exact(hcut.calm rfl).elim
   obtain rfl:mo=kn:=by omega
   obtain rfl:ar=wn:=by omega
   have r1:=hw'.rd;have r2:=hw'.wr;have r3:=hw'.sy;have hL:Liv 2 d c (cZv mo ar):=⟨hc,by rw[hw'.sec,hw'.size];exact hh,hmo6.1,Nat.zero_le _,Nat.zero_le _,by rw[r1];show 0+0≤_;omega,by rw[r2];show 0+10≤_;omega,by rw[r3];show 0+3≤_;omega⟩;have hs:Sep [En p dp (some (egM (D.fresh sc 32) (cZv mo ar) 0)),Dk dp d,own H,pts b1 (bZI mo sc 32 ar),pts b3 (aZI (0,10,3))] H1:=hs;rw[← iZg (cZv mo ar) 0 hw'.sec hw'.size]at hs;exact hK d c H1 hL hw'.size hw'.sec (hw'.calm rfl) (fZC hw') hs
  constructor
  all_goals
   try simp only[HS]
   first|refine hs.ld 3 (v:=.int .i64 (mo:Int)) rfl rfl ?_|refine hs.ld 3 (v:=.int .i64 (ar:Int)) rfl rfl ?_
   simp only[HV]
   first|refine hs.ld 3 (v:=.int .i64 (mo:Int)) rfl rfl ?_|refine hs.ld 3 (v:=.int .i64 (ar:Int)) rfl rfl ?_
   simp only[HV];refine key _ fun d c H1 hL h1 h2 h3 hcn hs=>?_
   simp only[HV];refine Zq rfl ?_
   try simp only[HS]
   have hCnt:Za Tryz.prog 15 #[.pointer (some ⟨dp,3,none⟩)] H1 (RetE (.agg (ZD (0,10,3)).toArray) H1):=by rw[← hcn];exact gZi hs 1 rfl
   have hsm:smO 1000 (0,10,3):=⟨by decide,by decide,by decide⟩;constructor
   ·refine Za.use hCnt ?_;simp only[HV];exact hs.ldw 4 rfl rfl (tZt hsm (by omega) (aZb rfl (fin d c H1 hL h1 h2 h3 hs)))
   ·refine hs.ldw 4 rfl rfl ?_;refine Za.use hCnt ?_;simp only[HV];exact tZt hsm (by omega) (aZb rfl (fin d c H1 hL h1 h2 h3 hs))
 by_cases h0:dir=0
 ·exact Zq h0 (j6 false h0)
 ·refine ZC h0 ?_;by_cases h1:dir=1
  ·exact Zq h1 (j6 true h1)
  ·exact ZC h1 yes
end Eng
end Go.Proofs.YtgfildcgihbdaaaGreatDoor
