import Derived.Test.YtahjgjaenegpgaaGreatDoorPkWholeInput10
set_option maxRecDepth 100000
set_option linter.unusedSimpArgs false
set_option linter.unusedVariables false
set_option linter.unnecessarySimpa false
set_option linter.unusedSectionVars false
namespace Go.Proofs.YtahjgjaenegpgaaGreatDoor
namespace Eng
open Go Go.Hw Go.Form W Shp Dsk Str Are Trn Pas Pln Rec Srt Rng
theorem qZw (e:Eg):(((lZw (some e)).map (Value.int .i64)).toArray)[0]? =some (.int .i64 (stE e)):=by
 have h:=jZq e;show(((if stE e=1 then _ else if stE e=2 then _ else _:List Int).map (Value.int .i64)).toArray)[0]? =_
 rcases h with h|h|h|h<;>rw[h]<;>rfl
section
variable {H0 : Hp} (hT : T64 H0) {p dp b1 k x w n3 m3 n4 m4 : Nat} {A3 A4 : Option Addr} {l : List UInt64} (hl : Cells H0 A3 (Zd l)) (hn3 : n3 = l.length) (hl64 : l.length ≤ 64) {m0 : Mn} (hm0 : m0.inp = l)
include hl hn3 hl64 hm0
theorem sZo {R10:Option Addr→Nat→Nat→Option Addr→Nat→Nat→Addr→Int→Hp→Prop}{N j:Nat}{d:D}{c:Cn}{m:Mn}{pk:Int}{H:Hp}(hL:Liv N d c m)(hN:N≤390)(hS:cZY m0 m)(hpk:pk≤m.arena)(hf:d.fuse=0)
  (hR:∀(H:Hp) (d:D) (c:Cn) (m:Mn) (pk:Int),Liv (N+2) d c m→cZY m0 m→pk≤m.arena→Sep [En p dp (some (egM d m pk)),Dk dp d,own H0,pts b1 (.obj (.cells (eZg dp p k x w) 32))] H→R10 A3 n3 m3 A4 n4 m4 ⟨b1,0,none⟩ (IntKind.i64.wrap ((j:Int)+1)) H)
  (hs:Sep [En p dp (some (egM d m pk)),Dk dp d,own H0,pts b1 (.obj (.cells (eZg dp p k x w) 32))] H):
  ZA.j21 (Ret (.bool true) H0) R10 A3 n3 m3 A4 n4 m4 ⟨b1,0,none⟩ (j:Int) H:=by
 have hsm:=hL.small (by omega);have hlen:=hL.len;have hld:=hL.ld;unfold ZA.j21
 try simp only[HS]
 refine hs.ld 3 (v:=.pointer (some ⟨p,0,none⟩)) rfl rfl ?_;simp only[HV];refine(iZV (p:=p) (dp:=dp) hL.cl hL.hh hsm.2 hpk).use hs [0,1] rfl rfl ?_;rintro _ _ H1 (⟨h,_,_⟩|⟨_,⟨d',b,mm,pk',h1,hw,hc,rfl,rfl⟩|⟨d',hcut,_⟩⟩) hs
 ·have:=(pZF (m:=m) (per:=d.size/8)).2 hS.kd;omega
 ·simp only[HV];refine ZB rfl ?_;have hrdc:rdC m (d.size/8) 0≤128:=by
   have h1:=rZ0 (m:=m) (i:=0) (show 1≤d.size/8 by have:=hL.hh.per;omega);have h2:=kZC hL.kk;omega
  have hL':=hL.went hw (by omega) hc hL.hh rfl (by omega) (by omega);have hin:m.inp=l:=hS.inp.trans hm0;rw[hin]at hs⊢;have hs:Sep [En p dp (some (egM d m pk')),Dk dp d',pts b (.row (Zd l) 84 mm),own H0,pts b1 (.obj (.cells (eZg dp p k x w) 32))] H1:=hs;have hcell:Cells H1 (some ⟨b,0,none⟩) (Zd l):=by
   have:=Cells.row (hs.get 2 (b:=b) (o:=.row (Zd l) 84 mm) rfl) 0 l.length
   rwa [List.drop_zero,List.take_of_length_le (by rw[Zz];exact Nat.le_refl _)]at this
  refine Zc.use (sZO (some ⟨b,0,none⟩) A3 l.length n3 l.length m3 l rfl hn3 (by omega) H1 hcell (hl.le (hs.ow 3 rfl))) ?_;simp only[HV];refine hR H1 d' c m pk' hL' hS h1 ?_;rw[eZD m pk' hw.sec hw.size];exact hs.re [0,1,3,4] rfl
 ·exact(hcut.calm hf).elim
theorem sZn {R10:Option Addr→Nat→Nat→Option Addr→Nat→Nat→Addr→Int→Hp→Prop}{N j:Nat}{d:D}{c:Cn}{m:Mn}{g:Option Eg}{H:Hp}(hL:Liv N d c m)(hN:N≤380)(hS:cZY m0 m)(hg:g=none∨∃ pk:Int,pk≤m.arena∧g=some (egM d m pk))
  (hR:∀(H:Hp) (d:D) (c:Cn) (m:Mn) (pk:Int),Liv (N+4) d c m→cZY m0 m→pk≤m.arena→Sep [En p dp (some (egM d m pk)),Dk dp d,own H0,pts b1 (.obj (.cells (eZg dp p k x w) 32))] H→R10 A3 n3 m3 A4 n4 m4 ⟨b1,0,none⟩ (IntKind.i64.wrap ((j:Int)+1)) H)
  (hs:Sep [En p dp g,Dk dp d,own H0,pts b1 (.obj (.cells (eZg dp p k x w) 32))] H):
  ZA.j18 (Ret (.bool true) H0) R10 A3 n3 m3 A4 n4 m4 ⟨b1,0,none⟩ (j:Int) H:=by
 have hlen:=hL.len;have hld:=hL.ld;unfold ZA.j18
 try simp only[HS]
 refine hs.ld 3 (v:=.pointer (some ⟨dp,0,none⟩)) rfl rfl ?_;simp only[HV]
 try simp only[HS]
 refine(oZY (p:=dp) (d:=d) 0).use hs [1] rfl rfl ?_;rintro _ _ H1 ⟨rfl,rfl⟩ hs;have hs:Sep [Dk dp { d with fuse:=0},En p dp g,own H0,pts b1 (.obj (.cells (eZg dp p k x w) 32))] H1:=hs;have hL0:Liv N { d with fuse:=0} c m:=hL.fused 0 (by omega)
 try simp only[HV]
 try simp only[HS]
 refine hs.ld 3 (v:=.pointer (some ⟨p,0,none⟩)) rfl rfl ?_;simp only[HV];refine(qZ6 (p:=p) (dp:=dp) g (fun e he=>by
  rcases hg with h|⟨pk,_,h⟩
  ·rw[h]at he;cases he
  ·rw[h]at he;cases he;show m.r.ld<_;omega)).use hs [1] rfl rfl ?_
 rintro _ _ H1 ⟨rfl,rfl⟩ hs;have hs:Sep [En p dp g,Dk dp { d with fuse:=0},own H0,pts b1 (.obj (.cells (eZg dp p k x w) 32))] H1:=hs;simp only[HV];rcases hg with rfl|⟨pk,hpk,rfl⟩
 ·refine rZB (v:=.int .i64 0) rfl ?_;simp only[HV];refine ZY rfl ?_
  try simp only[HS]
  refine hs.ld 3 (v:=.pointer (some ⟨p,0,none⟩)) rfl rfl ?_;simp only[HV];have hsm0:=hL0.small (by omega);refine(iZv (p:=p) (dp:=dp) (g:=none) hL0.cl hL0.per hsm0.2 (o:=some m) hL0.hh).use hs [0,1] rfl rfl ?_;rintro _ _ H1 (⟨_,h,_⟩|⟨d4,m4,hm4,hw4,hc4,rfl,rfl⟩|⟨_,hcut,_⟩) hs
  ·cases h
  ·cases hm4;simp only[HV];refine ZB rfl ?_;have hL4:=hL0.went hw4 (by omega) hc4 hL0.hh rfl (by omega) (by omega);refine sZo hl hn3 hl64 hm0 hL4 (by omega) hS (pk:=0) (by omega) (hw4.calm rfl) (fun H d c m pk h1 h2 h3 h4=>hR H d c m pk h1 h2 h3 h4) ?_;rw[eZD m 0 hw4.sec hw4.size];exact hs
  ·exact(hcut.calm rfl).elim
 ·refine rZB (qZw _) ?_;simp only[HV];have hst:stE (egM d m pk)≠0:=by have:=jZq (egM d m pk);omega
  refine aZd hst ?_;refine sZo hl hn3 hl64 hm0 hL0 (by omega) hS (pk:=pk) hpk rfl (fun H d c m pk h1 h2 h3 h4=>hR H d c m pk (h1.up (by omega)) h2 h3 h4) hs
include hT
theorem pZM {ls:List hZZ}(hls:ls.length=n4)(hn4:n4≤40)(hc4:cZW 5 H0 A4 (ls.map cZS))(hok:∀ a∈ls,OkE H0 a):∀(t j:Nat) (H:Hp) (d:D) (c:Cn) (m:Mn) (pk:Int),j+t=n4→Liv (10+8*j) d c m→cZY m0 m→pk≤m.arena→
  Sep [En p dp (some (egM d m pk)),Dk dp d,own H0,pts b1 (.obj (.cells (eZg dp p k x w) 32))] H→ZA.l10 (Ret (.bool true) H0) (t+1) A3 n3 m3 A4 n4 m4 ⟨b1,0,none⟩ (j:Int) H
 |0,j,H,d,c,m,pk,hj,hL,hS,hpk,hs=>by
  unfold ZA.l10;exact Zl (by omega) (hs.fin 2 rfl _)
 |t+1,j,H,d,c,m,pk,hj,hL,hS,hpk,hs=>by
  have ih:=pZM hls hn4 hc4 hok t (j+1);have hjl:j<ls.length:=by omega
  have hOK:=hok _ (List.getElem_mem hjl);have hrow:(ls.map cZS)[j]? =some (cZS (ls[j]'hjl)):=by rw[List.getElem?_map,List.getElem?_eq_getElem hjl];rfl
  have again:∀(H:Hp) (d:D) (c:Cn) (m:Mn) (pk:Int),Liv (10+8*j+8) d c m→cZY m0 m→pk≤m.arena→Sep [En p dp (some (egM d m pk)),Dk dp d,own H0,pts b1 (.obj (.cells (eZg dp p k x w) 32))] H→
    ZA.l10 (Ret (.bool true) H0) (t+1) A3 n3 m3 A4 n4 m4 ⟨b1,0,none⟩ (IntKind.i64.wrap ((j:Int)+1)) H:=fun H d c m pk h1 h2 h3 h4=>by
   rw[ZU (x:=(j:Int)+1) (by omega) (by omega)];exact ih H d c m pk (by omega) (h1.up (by omega)) h2 h3 h4
  unfold ZA.l10;refine Zv (by omega) ?_;refine cZW.rdA (hc4.le (hs.ow 2 rfl)) hrow rfl rfl (by rw[List.length_map];omega) ?_;generalize ls[j]'hjl=a at hOK;refine hs.nw fun b2 H hs=>?_
  refine hs.stw 4 (y:=(cZS a).toArray) rfl rfl rfl rfl fun H hs=>?_;have hs:Sep [En p dp (some (egM d m pk)),Dk dp d,own H0,pts b1 (.obj (.cells (eZg dp p k x w) 32)),pts b2 (.obj (.cells (cZS a).toArray 38))] H:=hs
  try simp only[HS]
  refine hs.ld 4 (v:=.int .i64 a.k) rfl rfl ?_;simp only[HV];by_cases hk:a.k≤2
  ·refine Zv hk ?_;exact again H d c m pk (hL.up (by omega)) hS hpk (hs.re [0,1,2,3] rfl)
  refine Zl hk ?_
  try simp only[HS]
  refine hs.ld 3 (v:=.pointer (some ⟨dp,0,none⟩)) rfl rfl ?_;simp only[HV];refine hs.ld 3 (v:=.pointer (some ⟨p,0,none⟩)) rfl rfl ?_;simp only[HV];refine hs.ldw 4 rfl rfl ?_
  try simp only[Array.toArray_toList]
  refine(uZo (p:=p) (dp:=dp) (a:=a) hT hL (by omega) hS hpk (by omega) hOK).use hs [0,1,2] rfl rfl ?_;rintro _ _ H ⟨e,B,nn,mm,M',rfl,(⟨d',c',m',pk',hL',hsec',hsize',hS',hpk',rfl⟩|⟨hk10,d',hD,rfl⟩),rfl⟩ hs
  ·simp only[HV];have hs:Sep [En p dp (some (egM d' m' pk')),Dk dp d',own H0,pts b1 (.obj (.cells (eZg dp p k x w) 32)),pts b2 (.obj (.cells (cZS a).toArray 38))] H:=hs
   try simp only[HS]
   refine hs.ld 4 (v:=.int .i64 a.k) rfl rfl ?_;simp only[HV];by_cases h10:a.k=10
   ·refine ZY h10 ?_;exact again H d' c' m' pk' (hL'.up (by omega)) hS' hpk' (hs.re [0,1,2,3] rfl)
   refine aZd h10 ?_
   try simp only[HS]
   refine hs.ld 3 (v:=.pointer (some ⟨dp,0,none⟩)) rfl rfl ?_;simp only[HV]
   try simp only[HS]
   refine Zc.use (qZT hs 1 rfl) ?_;rw[hL'.cl.down];simp only[HV];exact sZn hl hn3 hl64 hm0 hL' (by omega) hS' (.inr ⟨pk',hpk',rfl⟩) (fun H d c m pk h1 h2 h3 h4=>again H d c m pk (h1.up (by omega)) h2 h3 h4) (hs.re [0,1,2,3] rfl)
  ·simp only[HV];have hs:Sep [En p dp none,Dk dp d',own H0,pts b1 (.obj (.cells (eZg dp p k x w) 32)),pts b2 (.obj (.cells (cZS a).toArray 38))] H:=hs
   try simp only[HS]
   refine hs.ld 4 (v:=.int .i64 a.k) rfl rfl ?_;simp only[HV];refine aZd hk10 ?_
   try simp only[HS]
   refine hs.ld 3 (v:=.pointer (some ⟨dp,0,none⟩)) rfl rfl ?_;simp only[HV]
   try simp only[HS]
   refine Zc.use (qZT hs 1 rfl) ?_;rw[hD.down];simp only[HV]
   try simp only[HS]
   refine hs.ld 3 (v:=.pointer (some ⟨dp,0,none⟩)) rfl rfl ?_;simp only[HV];refine hs.ld 4 (v:=.slice a.G a.nG a.mG) rfl rfl ?_;simp only[HV];refine(lZE (p:=dp) hD.ok hD.dom hD.down a.G a.nG a.mG a.ks hOK.nG (own H0) (fun H h=>hOK.ks.le h)).use hs [1,2] rfl rfl ?_;rintro _ _ H ⟨kk,hkk',rfl,rfl⟩ hs;simp only[HV];obtain⟨c2,m2,hS2,hL2,_,_⟩:=hD.boot hkk' a.ks;exact sZn hl hn3 hl64 hm0 hL2 (by omega) hS2 (.inl rfl) (fun H d c m pk h1 h2 h3 h4=>again H d c m pk (h1.up (by omega)) h2 h3 h4) (hs.re [2,0,1,3] rfl)
end
theorem WholeInput_ok (A1 A2:Option Addr)(n1 m1 n2 m2:Nat)(l:List UInt64)(hn1:n1=l.length)(hm1:n1≤m1)(x w:Nat)(hx:x<256)(hw:w<256)(ls:List hZZ)(hls:ls.length=n2)(H:Hp)(hT:T64 H)(hl:Cells H A1 (Zd l))(hc:cZW 5 H A2 (ls.map cZS))(hok:∀ a∈ls,OkE H a):
  Zc Tryz.prog 3 #[.slice A1 n1 m1,.int .u8 (x:Int),.int .u8 (w:Int),.slice A2 n2 m2] H (RetE (.bool true) H):=by
 apply Zc.ret;apply ZA.ok;unfold ZA;refine Zc.use (tZO H hT) ?_;simp only[HV];refine Zc.use (tZM A1 n1 m1 l hn1 H hl) ?_;simp only[HV];by_cases hneg:iZE l<0
 ·exact Zv hneg ((Sep.start H).fin 0 rfl _)
 refine Zl hneg ?_;obtain⟨k,ek,hlg,hk6,hlen,hcan⟩:=rZl (l:=l) (by omega);have hl64:l.length≤64:=by rw[hlen];exact kZC hk6
 rw[ek];refine Zc.mono (vZB A2 n2 m2 ls hls H hc) ?_;rintro _ H' ⟨hH,y,rfl,hfew⟩;rw[hH];clear hH H';simp only[HV];by_cases hy:y=0
 rotate_left
 ·exact ZL hy ((Sep.start H).fin 0 rfl _)
 refine ZB hy ?_;obtain⟨h40,_⟩:=hfew hy;have hs:=Sep.start H;refine(uZS (k:=k) (x:=x) (w:=w) hk6 hx hw).use hs [] rfl rfl ?_;rintro _ _ H1 ⟨dp,p,d,c,rfl,hsec,hsize,hf,hL,rfl⟩ hs;simp only[HV];refine hs.nw fun b1 H1 hs=>?_
 refine hs.stw 3 (y:=eZg dp p k x w) rfl rfl rfl rfl fun H1 hs=>?_
 have hs:Sep [En p dp (some (egM d (bZA k (arS k x w)) 0)),Dk dp d,own H,pts b1 (.obj (.cells (eZg dp p k x w) 32))] H1:=hs;refine hs.ldw 3 rfl rfl ?_
 try simp only[Array.toArray_toList]
 have hs:Sep [En p dp (some (egM d (bZA k (arS k x w)) 0)),Dk dp d,own H,(fun _=>True),pts b1 (.obj (.cells (eZg dp p k x w) 32))] H1:=by
  have:=(Sep.unit (X:=fun _=>True) hs trivial);exact this.re [1,2,3,0,4] rfl
 refine(tZF (dp:=dp) (p:=p) (k:=k) (x:=x) (w:=w) (kk:=k) (aw:=w) (A:=A1) (mm:=m1) (rig:=eZg dp p k x w) (RR:=own H) (TT:=fun _=>True) rfl hL (by omega) hf (by omega) hlg (Nat.le_refl _) hcan hn1 hm1 false (fun H' h=>hl.le h) (.inr fun H' h=>hT.le h)).use hs [0,1,2,3] rfl rfl ?_;rintro _ _ H1 ⟨d',c',pk',rfl,hpk',hsec',hsize',hf',hL',rfl⟩ hs;simp only[HV];refine⟨n2+1,?_⟩;have hlen0:(dZd (bZA k (arS k x w)) k l false).inp=l:=rfl;have hj:=nZS (bZA k (arS k x w)) k l false;exact pZM (p:=p) (dp:=dp) (k:=k) (x:=x) (w:=w) hT hl hn1 hl64 (m0:=dZd (bZA k (arS k x w)) k l false) hlen0 hls h40 hc hok n2 0 H1 d' c' _ pk' (by omega) (hL'.up (by omega)) ⟨rfl,rfl,rfl,by have:=hj.kd;omega⟩ hpk' (hs.re [0,1,2,4] rfl)
end Eng
end Go.Proofs.YtahjgjaenegpgaaGreatDoor
