import Derived.Test.YtahjgjaenegpgaaGreatDoorProg
import Derived.Test.YtahjgjaenegpgaaGreatDoorPkEngineSolves6
set_option maxRecDepth 100000
set_option linter.unusedSimpArgs false
set_option linter.unusedVariables false
set_option linter.unnecessarySimpa false
set_option linter.unusedSectionVars false
namespace Go.Proofs.YtahjgjaenegpgaaGreatDoor
open Tryz (prog)
namespace Str
open Go Go.Hw Go.Form W Dsk Are
def D.fz (d:D)(q:Nat):D:={ d with fuse:=q}
theorem wZM (d:D)(q s at':Nat)(src:List UInt64):D.fz (gZs d s at' src) q=wpc (D.fz d q) s at' src:=by
 unfold gZs wpc;have e:D.per (D.fz d q)=D.per d:=rfl;rw[e];split<;>rfl
theorem sZT (x:X):∀(k fr:Nat) (d:D) (src:List UInt64) (q:Nat),D.fz (eZh d x k fr src) q=wrs (D.fz d q) x k fr src
 |0,_,_,_,_=>rfl
 |k+1,fr,d,src,q=>by
  unfold eZh wrs;have e:D.per (D.fz d q)=D.per d:=rfl;rw[e];split
  ·rfl
  ·rw[sZT x k,wZM]
theorem Prog.now {S:Int→Prop}{d d':D}{r w:Nat}(h:Prog S d d' r w){i:Int}(hi:¬S i):d'.now i=d.now i:=by
 unfold D.now D.sat;rw[h.cache i hi,h.safe,h.size]
theorem Prog.pw {S:Int→Prop}{d d':D}{r w:Nat}(h:Prog S d d' r w){x:X}(hok:Ok d)(hx:On d x)(hS:∀ i,S i→i<(x.f:Int)∨((x.f+x.s:Nat):Int)≤i){j:Nat}(hj:j<x.w):pw d' x j=pw d x j:=by
 have hp:=Ok.per_le hok;have h4:=hx.room;unfold Str.pw;rw[h.per,h.now];intro hs;have hdiv:j/D.per d<x.s:=by rw[Nat.div_lt_iff_lt_mul (by omega)];omega
 have:=hS _ hs;generalize j/D.per d=u at*;omega
theorem mZr (x:X){d:D}(hok:Ok d)(fr:Nat)(src:List UInt64)(j:Nat):pw (eZh d x src.length fr src) x j=if fr≤j∧j<fr+src.length then(src[j-fr]?).getD 0 else pw d x j:=by
 have hW:=(nZk x src.length fr (D.fz d 0) src ⟨hok.sec,hok.size,hok.big,hok.per,hok.safe,hok.cache,Nat.zero_le _⟩ (Nat.le_refl _)).pw j;rw[← sZT]at hW;exact hW
theorem On.prog {S:Int→Prop}{d d':D}{r w:Nat}{x:X}(hx:On d x)(h:Prog S d d' r w):On d' x:=⟨hx.w1,hx.s1,by rw[h.sec];exact hx.fit,by rw[h.per];exact hx.room⟩
end Str
namespace Trn
open Go Go.Hw Go.Crc Go.Form W Shp Str Dsk Are
def inX (x:X)(i:Int):Prop:=(x.f:Int)≤i∧i<((x.f+x.s:Nat):Int)
section
variable {rn p q dp ap bn bb rl : Nat} {s : W32} {sk : Nat} {x y : X} {ea eb j : Nat} {cap peak : Int} {bufs : List (Nat × Nat × Option Addr)} {mb mr : Nat}
def wZm (rn p q dp ap bn bb:Nat)(s:W32)(sk:Nat)(d:D)(y:X)(rows cols c:Nat)(ws:List UInt64)(cap peak:Int)(bufs:List (Nat×Nat×Option Addr))(mb:Nat)(v:Value)(M:List As):Prop:=
 (Prog (inX y) d (eZh d y ws.length (c*rows) ws) (dZx (D.per d) y.f ws.length (c*rows) ws.length) (pcs (D.per d) y.f ws.length (c*rows) ws.length).length∧v= .int .i64 0∧
  M=[pts rn (cZh (more s (form ws)) (sk+8*ws.length) p q rows cols bn),pts bb (.row (Zd ws) 84 mb),pts q (ZP dp ap y),Dk dp (eZh d y ws.length (c*rows) ws),Ar ap cap (mx peak (ZN bufs+D.per d)) bufs])∨
 (∃ d',cZz (inX y) d d'∧d.fuse≤dZx (D.per d) y.f ws.length (c*rows) ws.length+(pcs (D.per d) y.f ws.length (c*rows) ws.length).length∧v= .int .i64 8∧
  M=[pts q (ZP dp ap y),Dk dp d',Ar ap cap (mx peak (ZN bufs+D.per d)) bufs])
theorem wZn {d:D}{rows cols c:Nat}{ws:List UInt64}(hok:Ok d)(hl:d.down=false)(hy:On d y)(ho:d.rd≤4000000000000000000∧d.wr≤4000000000000000000)(hw1:1≤ws.length)(hf:c*rows+ws.length≤y.w)(hyw:y.w≤4294967296)(hsk:sk≤1000000000000)(hcap:(D.per d:Int)≤cap-ZN bufs)(hbn:(bn,ws.length,some ⟨bb,0,none⟩)∈bufs):
  Tr prog 172 #[.pointer (some ⟨rn,0,none⟩),.int .i64 (c:Int)] [pts rn (cZh s sk p q rows cols bn),pts bb (.row (Zd ws) 84 mb),pts q (ZP dp ap y),Dk dp d,Ar ap cap peak bufs] (wZm rn p q dp ap bn bb s sk d y rows cols c ws cap peak bufs mb):=fun H hs=>by
 have hcell:∀ H,pts bb (.row (Zd ws) 84 mb) H→Cells H (some ⟨bb,0,none⟩) (Zd ws):=fun H h=>by
  have:=Cells.row h 0 ws.length
  rwa [List.drop_zero,List.take_of_length_le (by rw[ZA];exact Nat.le_refl _)]at this
 apply eZ5.ok;unfold eZ5;simp only[aZ5];refine hs.ldf 0 rfl rfl ?_;simp only[HV];refine aZc.use (eZD hs 4 rfl hbn) ?_
 try simp only[HV]
 rw[Addr.add_zero];refine CrcP.kZa hs 0 rfl (some ⟨bb,0,none⟩) ws.length ws.length ws rfl ?_ (by omega) (by omega) fun H hs=>?_
 ·obtain⟨H1,h1,hle⟩:=hs.see 1 rfl;exact(hcell H1 h1).le hle
 have hs:Sep [pts rn (cZh (more s (form ws)) (sk+8*ws.length) p q rows cols bn),pts bb (.row (Zd ws) 84 mb),pts q (ZP dp ap y),Dk dp d,Ar ap cap peak bufs] H:=hs;refine hs.ldf 0 rfl rfl ?_;simp only[HV];refine hs.ldg 0 rfl rfl ?_;simp only[HV];refine hs.ldf 0 rfl rfl ?_;simp only[HV];refine aZc.use (eZD hs 4 rfl hbn) ?_
 try simp only[HV]
 rw[← Int.natCast_mul,bZi (by omega)];refine(jZc (p:=q) (dp:=dp) (ap:=ap) (d:=d) (x:=y) (cap:=cap) (peak:=peak) (bufs:=bufs) (R:=pts bb (.row (Zd ws) 84 mb)) (A:=some ⟨bb,0,none⟩) (n:=ws.length) (m:=ws.length) (src:=ws) hok hl hy (by omega) (c*rows) rfl hw1 hf (Nat.le_refl _) hcap hcell).use hs [2,3,4,1] rfl rfl ?_;rintro v M H (⟨hpg,rfl,rfl⟩|⟨d',hd,hfu,rfl,rfl⟩) hs
 ·simp only[HV];exact⟨_,.inl ⟨hpg,rfl,rfl⟩,hs.re [4,3,0,1,2] rfl⟩
 ·simp only[HV];exact⟨_,.inr ⟨d',hd,hfu,rfl,rfl⟩,hs.re [0,1,2] rfl⟩
def trK (d:D)(x:X)(rows cols k:Nat):UInt64:=pw d x (k%rows*cols+k/rows)
def trW (d:D)(x:X)(rows cols:Nat):List UInt64:=(List.range (rows*cols)).map (trK d x rows cols)
theorem mZn (d:D)(x:X)(rows cols:Nat):(trW d x rows cols).length=rows*cols:=by simp[trW]
theorem qZo (d d1:D)(x:X){rows cols b c:Nat}(hr:0<rows)(hcb:c+b≤cols)(hsame:∀ k,k<rows*cols→pw d1 x k=pw d x k):
  ((List.range (b*rows)).map fun j=>pw d1 x (j%rows*cols+c+j/rows))=((trW d x rows cols).drop (c*rows)).take (b*rows):=by
 apply List.ext_getElem?;intro j;have hle:(c+b)*rows≤cols*rows:=Nat.mul_le_mul_right rows hcb;rw[Nat.add_mul,Nat.mul_comm cols rows]at hle;rw[List.getElem?_map,List.getElem?_take];by_cases hj:j<b*rows
 ·rw[List.getElem?_range hj,if_pos hj,List.getElem?_drop];unfold trW;rw[List.getElem?_map,List.getElem?_range (by omega)];simp only[Option.map_some,Option.some.injEq];unfold trK;have hm:=Nat.mod_lt j hr;have hd:j/rows<b:=by rw[Nat.div_lt_iff_lt_mul hr];exact hj
  rw[show c*rows+j=j+c*rows by omega,Nat.add_mul_mod_self_right,Nat.add_mul_div_right _ _ hr,hsame]
  ·congr 1;omega
  ·have:(j%rows+1)*cols≤rows*cols:=Nat.mul_le_mul_right cols hm;rw[Nat.succ_mul]at this;omega
 ·rw[if_neg hj,List.getElem?_eq_none (by simp;omega)];rfl
def rT (per f f' rows cols b m:Nat):Nat:=((List.range m).map fun m'=>gR per f cols (m'*b) b rows+dZx per f' (b*rows) (m'*b*rows) (b*rows)).sum
def wT (per f' rows b m:Nat):Nat:=((List.range m).map fun m'=>(pcs per f' (b*rows) (m'*b*rows) (b*rows)).length).sum
theorem iZx (per f f' rows cols b m:Nat):rT per f f' rows cols b (m+1)=rT per f f' rows cols b m+(gR per f cols (m*b) b rows+dZx per f' (b*rows) (m*b*rows) (b*rows)):=by
 unfold rT;rw[List.range_succ,List.map_append,List.sum_append];simp
theorem iZD (per f' rows b m:Nat):wT per f' rows b (m+1)=wT per f' rows b m+(pcs per f' (b*rows) (m*b*rows) (b*rows)).length:=by
 unfold wT;rw[List.range_succ,List.map_append,List.sum_append];simp
theorem pZN (per f f' rows cols b:Nat){i j:Nat}(h:i≤j):rT per f f' rows cols b i≤rT per f f' rows cols b j:=by
 induction h with
 |refl=>exact Nat.le_refl _
 |step h ih=>rw[iZx];omega
theorem pZ9 (per f' rows b:Nat){i j:Nat}(h:i≤j):wT per f' rows b i≤wT per f' rows b j:=by
 induction h with
 |refl=>exact Nat.le_refl _
 |step h ih=>rw[iZD];omega
theorem qZO (per f f' rows cols b:Nat):∀ m,rT per f f' rows cols b m≤m*(2*(b*rows))
 |0=>by simp[rT]
 |m+1=>by
  rw[iZx,Nat.succ_mul];have h1:=qZO per f f' rows cols b m;have h2:=nZz per f cols (m*b) b rows;have h3:=dZo per f' (b*rows) (m*b*rows) (b*rows);have h4:dZx per f' (b*rows) (m*b*rows) (b*rows)≤(pcs per f' (b*rows) (m*b*rows) (b*rows)).length:=List.length_filter_le _ _;have h5:=Nat.mul_comm rows b;omega
theorem qZ6 (per f' rows b:Nat):∀ m,wT per f' rows b m≤m*(b*rows)
 |0=>by simp[wT]
 |m+1=>by
  rw[iZD,Nat.succ_mul];have h1:=qZ6 per f' rows b m;have h3:=dZo per f' (b*rows) (m*b*rows) (b*rows);omega
structure nZt (d d':D)(x y:X)(rows cols b m:Nat):Prop where
 pg:Prog (inX y) d d' (rT (D.per d) x.f y.f rows cols b m) (wT (D.per d) y.f rows b m)
 src:∀ k,k<x.w→pw d' x k=pw d x k
 dst:∀ k,k<m*b*rows→pw d' y k=trK d x rows cols k
def qZR (p q dp ap:Nat)(d:D)(x y:X)(rows cols b:Nat)(cap peak:Int)(bufs:List (Nat×Nat×Option Addr))(v:Value)(M:List As):Prop:=
 (∃ d',nZt d d' x y rows cols b (cols/b)∧v= .tuple #[.int .u32 ((sum (form (trW d x rows cols))).toNat:Int),.int .i64 0]∧
  M=[pts p (ZP dp ap x),pts q (ZP dp ap y),Dk dp d',Ar ap cap (mx peak (ZN bufs+(b*rows:Nat)+D.per d)) bufs])∨
 (∃ d',cZz (inX y) d d'∧d.fuse≤rT (D.per d) x.f y.f rows cols b (cols/b)+wT (D.per d) y.f rows b (cols/b)∧v= .tuple #[.int .u32 0,.int .i64 8]∧
  M=[pts p (ZP dp ap x),pts q (ZP dp ap y),Dk dp d',Ar ap cap (mx peak (ZN bufs+(b*rows:Nat)+D.per d)) bufs])
theorem uZY (T:List UInt64)(a n:Nat):more (sum (form (T.take a))) (form ((T.drop a).take n))=sum (form (T.take (a+n))):=by
 unfold sum;rw[← more_append,←iZi];congr 2;rw[List.take_add]
def eZx (rn p q dp ap bn bb sb vb:Nat)(d0 d':D)(x y:X)(rows cols b m:Nat)(cap pk:Int)(bufs:List (Nat×Nat×Option Addr))(ws:List UInt64)(mb:Nat)(TT:As):List As:=
 [pts sb (.obj (.cells #[.int .i64 (rows:Int),.int .i64 (cols:Int)] 118)),pts rn (cZh (sum (form ((trW d0 x rows cols).take (m*b*rows)))) (8*(m*b*rows)) p q rows cols bn),pts bb (.row (Zd ws) 84 mb),
  pts p (ZP dp ap x),pts q (ZP dp ap y),Dk dp d',Ar ap cap pk (bufs++[(bn,b*rows,some ⟨bb,0,none⟩)]),pts vb (.row [.pointer (some ⟨bn,0,none⟩)] 206 1),TT]
theorem kZS (K:Value→Hp→Prop){TT:As}{sb vb:Nat}{d:D}{rows cols b:Nat}(hok:Ok d)(hx:On d x)(hy:On d y)(ho:d.rd≤2000000000000000000∧d.wr≤2000000000000000000)(hxw:x.w=rows*cols)(hyw:y.w=rows*cols)(hdis:x.f+x.s≤y.f∨y.f+y.s≤x.f)(hb1:1≤b)(hbd:cols=cols/b*b)(hsz:rows*cols≤4294967296)(hr1:1≤rows)(hc1:1≤cols)
  (hcap:(D.per d:Int)≤cap-ZN (bufs++[(bn,b*rows,some ⟨bb,0,none⟩)])) (hbm:∀ z∈bufs,z.1≠bn)
  {P1:Int} (hP1:P1=mx peak (ZN (bufs++[(bn,b*rows,some ⟨bb,0,none⟩)])+D.per d))
  (hK:∀ d' H,nZt d d' x y rows cols b (cols/b)→Sep [pts p (ZP dp ap x),pts q (ZP dp ap y),Dk dp d',Ar ap cap P1 bufs,TT] H→K (.tuple #[.int .u32 ((sum (form (trW d x rows cols))).toNat:Int),.int .i64 0]) H)
  (hK8:∀ d' H,cZz (inX y) d d'→d.fuse≤rT (D.per d) x.f y.f rows cols b (cols/b)+wT (D.per d) y.f rows b (cols/b)→Sep [pts p (ZP dp ap x),pts q (ZP dp ap y),Dk dp d',Ar ap cap P1 bufs,TT] H→K (.tuple #[.int .u32 0,.int .i64 8]) H):
  ∀(t m:Nat) (d':D) (pk:Int) (ws:List UInt64) (H:Hp),m+t=cols/b→nZt d d' x y rows cols b m→ws.length=b*rows→mx pk (ZN (bufs++[(bn,b*rows,some ⟨bb,0,none⟩)])+D.per d)=P1→(m=0∨pk=P1)→Sep (eZx rn p q dp ap bn bb sb vb d d' x y rows cols b m cap pk bufs ws mb TT) H→
   bZm.l14 K (t+1) ⟨sb,0,none⟩ (b:Int) ⟨rn,0,none⟩ ((m*b:Nat):Int) (some ⟨ap,0,none⟩) (some ⟨vb,0,none⟩) 1 1 H:=fun t=>by
 have hp:=Ok.per_le hok;have hcc:cols/b*b*rows=rows*cols:=by rw[← hbd,Nat.mul_comm]
 have hnb:cols/b≤cols:=Nat.div_le_self _ _;have hn1:1≤cols/b:=by
  have:cols/b≠0:=fun h0=>by rw[h0,Nat.zero_mul]at hbd;omega
  exact Nat.pos_of_ne_zero this
 have hbr:b*rows≤rows*cols:=by
  rw[← hcc,Nat.mul_assoc];exact Nat.le_mul_of_pos_left _ hn1
 have hcr:cols*1≤cols*rows:=Nat.mul_le_mul_left cols hr1;rw[Nat.mul_comm cols rows]at hcr;have hbr1:1*rows≤b*rows:=Nat.mul_le_mul_right rows hb1;have hbr2:b*1≤b*rows:=Nat.mul_le_mul_left b hr1;have cnt:∀ m,m≤cols/b→m*(2*(b*rows))≤2*(rows*cols)∧m*(b*rows)≤rows*cols:=fun m hm=>by
  have:m*(b*rows)≤rows*cols:=by
   rw[← hcc,Nat.mul_assoc];exact Nat.mul_le_mul_right _ hm
  refine⟨?_,this⟩;rw[Nat.mul_left_comm];omega
 induction t with
 |zero=>
  intro m d' pk ws H hm hI hws hpk hip hs;have hme:m=cols/b:=by omega
  subst hme;unfold eZx at hs;unfold bZm.l14;refine hs.ldf 0 rfl rfl ?_;simp only[HV];rw[← hbd];refine Zm (Int.lt_irrefl _) ?_;rw[Addr.add_zero];refine Zc.use (CrcP.pZg hs 1 rfl) ?_
  try simp only[HV]
  refine(cZw vb bn (b*rows) (some ⟨bb,0,none⟩) hbm).use hs [6,7] rfl rfl ?_;rintro _ _ H ⟨rfl,rfl⟩ hs;rw[hcc,List.take_of_length_le (by rw[mZn];exact Nat.le_refl _)];rw[hip.resolve_left (by omega)]at hs;exact hK d' H hI (hs.re [4,5,6,0,7] rfl)
 |succ t ih=>
  intro m d' pk ws H hm hI hws hpk hip hs;have hmlt:m<cols/b:=by omega
  have hmb:(m+1)*b≤cols:=by
   have h1:(m+1)*b≤cols/b*b:=Nat.mul_le_mul_right b hmlt;omega
  have hmb':=hmb;rw[Nat.succ_mul]at hmb';have hper:D.per d'=D.per d:=hI.pg.per;have hxd:=hx.prog hI.pg;have hyd:=hy.prog hI.pg;have hrt:=qZO (D.per d) x.f y.f rows cols b m;have hwt:=qZ6 (D.per d) y.f rows b m;have hcnt:=cnt m (by omega);have hrd:=hI.pg.rd;have hwr:=hI.pg.wr;unfold eZx at hs;unfold bZm.l14;refine hs.ldf 0 rfl rfl ?_;simp only[HV];refine Zw (by omega) ?_;refine(rZO (rn:=rn) (p:=p) (q:=q) (dp:=dp) (ap:=ap) (bn:=bn) (bb:=bb) (s:=sum (form ((trW d x rows cols).take (m*b*rows)))) (sk:=8*(m*b*rows)) (x:=x) (cap:=cap) (peak:=pk) (bufs:=bufs++[(bn,b*rows,some ⟨bb,0,none⟩)]) (mb:=mb) (c:=m*b) hI.pg.ok hI.pg.down hxd (by omega) hxw hb1 hmb' hsz hr1 (by rw[hper];exact hcap) (List.mem_append_right _ (List.mem_singleton.2 rfl)) ws hws).use hs [1,2,3,5,6] rfl rfl ?_;rintro v M H (⟨hgo,rfl,rfl⟩|⟨d2,hdd,hfu,rfl,rfl⟩) hs
  case inr=>
   simp only[HV];refine ZK (by decide) ?_;refine(cZw vb bn (b*rows) (some ⟨bb,0,none⟩) hbm).use hs [3,6] rfl rfl ?_;rintro _ _ H ⟨rfl,rfl⟩ hs;rw[hper,hpk]at hs;refine hK8 d2 H (hI.pg.dead (hdd.mono fun _ h=>h.elim)) ?_ (hs.re [2,5,3,0,6] rfl);have z1:=hI.pg.fuse;have z2:=hI.pg.go;have z3:=pZN (D.per d) x.f y.f rows cols b (show m+1≤cols/b by omega);have z4:=pZ9 (D.per d) y.f rows b (show m+1≤cols/b by omega);rw[iZx]at z3;rw[iZD]at z4;rw[hper]at hfu;omega
  simp only[HV];refine ZB rfl ?_;rw[hper,hpk,qZo d d' x (by omega) hmb' (fun k hk=>hI.src k (by rw[hxw];exact hk))]at hs;have hg:=Prog.rdG (inX y) hI.pg.ok hI.pg.down hgo;rw[hper]at hg hgo;have hpg1:=hI.pg.trans hg;have hper1:D.per (D.rdG d' (gR (D.per d) x.f cols (m*b) b rows))=D.per d:=hper;generalize hbw:((trW d x rows cols).drop (m*b*rows)).take (b*rows)=bw at*;have hmr:m*b*rows+b*rows≤rows*cols:=by
   have h1:(m*b+b)*rows≤cols*rows:=Nat.mul_le_mul_right rows hmb';rw[Nat.add_mul,Nat.mul_comm cols rows]at h1;exact h1
  have hbl:bw.length=b*rows:=by
   rw[← hbw,List.length_take,List.length_drop,mZn];omega
  have hgl:=nZz (D.per d) x.f cols (m*b) b rows;have hcomm:=Nat.mul_comm rows b;refine(wZn (rn:=rn) (p:=p) (q:=q) (dp:=dp) (ap:=ap) (bn:=bn) (bb:=bb) (s:=sum (form ((trW d x rows cols).take (m*b*rows)))) (sk:=8*(m*b*rows)) (y:=y) (rows:=rows) (cols:=cols) (c:=m*b) (cap:=cap) (peak:=P1) (bufs:=bufs++[(bn,b*rows,some ⟨bb,0,none⟩)]) (mb:=mb) (ws:=bw) (d:=D.rdG d' (gR (D.per d) x.f cols (m*b) b rows)) hpg1.ok hpg1.down (hy.prog hpg1) ⟨by show d'.rd+_≤_;omega,by show d'.wr≤_;omega⟩ (by omega) (by rw[hbl,hyw];exact hmr) (by omega) (by omega) (by rw[hper1];exact hcap) (by rw[hbl];exact List.mem_append_right _ (List.mem_singleton.2 rfl))).use hs [0,1,6,3,4] rfl rfl ?_;have hPP:mx P1 (ZN (bufs++[(bn,b*rows,some ⟨bb,0,none⟩)])+D.per d)=P1:=by rw[hP1,lZz]
  rintro v M H hQ hs;unfold wZm at hQ;rw[hper1,hbl]at hQ;rcases hQ with(⟨hpg2,rfl,rfl⟩|⟨d2,hdd,hfu,rfl,rfl⟩)
  case inr=>
   simp only[HV];refine ZK (by decide) ?_;refine(cZw vb bn (b*rows) (some ⟨bb,0,none⟩) hbm).use hs [2,5] rfl rfl ?_;rintro _ _ H ⟨rfl,rfl⟩ hs;rw[hPP]at hs;refine hK8 d2 H (hpg1.dead hdd) ?_ (hs.re [3,1,2,0,5] rfl);have z1:=hpg1.fuse;have z2:=hpg1.go;have z3:=pZN (D.per d) x.f y.f rows cols b (show m+1≤cols/b by omega);have z4:=pZ9 (D.per d) y.f rows b (show m+1≤cols/b by omega);rw[iZx]at z3;rw[iZD]at z4;omega
  simp only[HV];refine ZB rfl ?_;have hpg3:=hpg1.trans hpg2;have hrT:rT (D.per d) x.f y.f rows cols b m+gR (D.per d) x.f cols (m*b) b rows+dZx (D.per d) y.f (b*rows) (m*b*rows) (b*rows)=rT (D.per d) x.f y.f rows cols b (m+1):=by rw[iZx];omega
  have hwT:wT (D.per d) y.f rows b m+0+(pcs (D.per d) y.f (b*rows) (m*b*rows) (b*rows)).length=wT (D.per d) y.f rows b (m+1):=by rw[iZD];omega
  rw[hrT,hwT]at hpg3;have hok1:Ok (D.rdG d' (gR (D.per d) x.f cols (m*b) b rows)):=hpg1.ok;have hpw:=fun k=>mZr y hok1 (m*b*rows) bw k
  rw[hbl]at hpw;have hI2:nZt d (eZh (D.rdG d' (gR (D.per d) x.f cols (m*b) b rows)) y (b*rows) (m*b*rows) bw) x y rows cols b (m+1):=by
   refine⟨hpg3,fun k hk=>hpg3.pw hok hx (fun i hi=>?_) hk,fun k hk=>?_⟩
   ·unfold inX at hi;omega
   ·rw[hpw k];have hk2:k<m*b*rows+b*rows:=by
     rw[Nat.succ_mul,Nat.add_mul]at hk;exact hk
    by_cases h1:m*b*rows≤k
    ·rw[if_pos ⟨h1,hk2⟩,←hbw,List.getElem?_take_of_lt (by omega),List.getElem?_drop,show m*b*rows+(k-m*b*rows)=k by omega];unfold trW;rw[List.getElem?_map,List.getElem?_range (by omega)];rfl
    ·rw[if_neg (by omega)];have:=hI.dst k (by omega);exact this
  have hcs:=uZY (trW d x rows cols) (m*b*rows) (b*rows);rw[hbw]at hcs;have htk:m*b*rows+b*rows=(m+1)*b*rows:=by rw[Nat.succ_mul,Nat.add_mul]
  have hsk:8*(m*b*rows)+8*(b*rows)=8*((m+1)*b*rows):=by rw[← htk];omega
  rw[hcs,hsk,htk,hPP]at hs;rw[show IntKind.i64.wrap (((m*b:Nat):Int)+(b:Int))=(((m+1)*b:Nat):Int) by rw[show(((m*b:Nat):Int)+(b:Int))=(((m+1)*b:Nat):Int) by rw[Nat.succ_mul];omega,bZi (by omega)]];refine ih (m+1) _ P1 bw H (by omega) hI2 hbl hPP (.inr rfl) ?_;exact hs.re [6,0,1,5,2,3,4,7,8] rfl
end
end Trn
namespace W
open Go Go.Hw
theorem dZR :prog.follows .mixedOrders=true:=by kernel_rfl
def aZz.l17 (K:Value→Hp→Prop):Nat→Option Addr→Option Addr→Addr→Int→Option Addr→Addr→Int→Option Addr→Option Addr→Nat→Nat→Option Addr→Option Addr→Nat→Nat→Hp→Prop
 |0,_,_,_,_,_,_,_,_,_,_,_,_,_,_,_,_=>False
 |k+1,p16,p17,a4,x46,p18,a5,x47,p19,A3,n3,m3,p20,A4,n4,m4,H=>
  let R17:=aZz.l17 K k
  LeI H ((a4.add 0).add 0) fun x48=>BIf (decide (x47<x48)) (HcS 125 #[.pointer p18] H fun A5 n5 m5 H21=>HcI 177 #[.pointer (some a5),.pointer p16,.pointer p17,.slice A5 n5 m5,.int .i64 x47] H21 fun x49 H22=>BIf (x49 !=0) (aZ9 prog 130 #[.pointer p19,.slice A3 n3 m3] H22 fun _ H25=>aZ9 prog 130 #[.pointer p20,.slice A4 n4 m4] H25 fun _ H26=>K (.tuple #[.int .u32 0,.int .i64 x49]) H26) (R17 p16 p17 a4 x46 p18 a5 (IntKind.i64.wrap (x47+x46)) p19 A3 n3 m3 p20 A4 n4 m4 H22)) (HcU 126 #[.pointer (some (a5.add 0))] H fun x50 H23=>aZ9 prog 130 #[.pointer p19,.slice A3 n3 m3] H23 fun _ H27=>aZ9 prog 130 #[.pointer p20,.slice A4 n4 m4] H27 fun _ H28=>K (.tuple #[.int .u32 x50,.int .i64 0]) H28)
def aZz.j16 (K:Value→Hp→Prop)(p11:Option Addr)(p12:Option Addr)(a2:Addr)(x45:Int)(p13:Option Addr)(a3:Addr)(p14:Option Addr)(A1:Option Addr)(n1:Nat)(m1:Nat)(p15:Option Addr)(A2:Option Addr)(n2:Nat)(m2:Nat)(H:Hp):Prop:=
 (∃ k,aZz.l17 K k p11 p12 a2 x45 p13 a3 0 p14 A1 n1 m1 p15 A2 n2 m2 H)
def aZz.q1 (l12:List Value)(H8:Hp)(p6:Option Addr)(K:Value→Hp→Prop)(p1:Option Addr)(p2:Option Addr)(b1:Nat)(x9:Int)(p4:Option Addr)(p3:Option Addr)(b3:Nat)(b2:Nat):Prop:=
 pZj l12.toArray.toList fun x16 x17 x18 x19 x20=>(Nw H8 (.obj (.cells #[.int .u32 0,.int .i64 0,.int .i64 x16,.int .i64 x17,.int .i64 x18,.int .i64 x19,.int .u64 x20,.pointer p6] 271)) fun b4 H9=>aZz.j16 K p1 p2 ⟨b1,0,none⟩ x9 p4 ⟨b4,0,none⟩ p3 (some ⟨b3,0,none⟩) 1 1 p3 (some ⟨b2,0,none⟩) 1 1 H9)
def aZz (p1:Option Addr)(p2:Option Addr)(x1:Int)(x2:Int)(x3:Int)(x4:Int)(x5:Int)(p3:Option Addr)(x6:Int)(H:Hp)(K:Value→Hp→Prop):Prop:=
 Nw H (.obj (.cells #[.int .i64 x1,.int .i64 x2,.int .i64 x3,.int .i64 x4,.int .u64 x5] 120)) fun b1 H1=>LdA H1 ⟨b1,0,none⟩ 5 fun l1=>HcI 173 #[.pointer p1,.pointer p2,.agg l1.toArray,.pointer p3] H1 fun x7 H2=>BIf (x7 !=0) (K (.tuple #[.int .u32 0,.int .i64 x7]) H2) (LdA H2 ((⟨b1,0,none⟩:Addr).add 0) 2 fun l2=>NN p3 fun a1=>QcI 166 #[.pointer (some (a1.add 0))] H2 fun x8=>Qz 174 #[.agg l2.toArray,.int .i64 x6,.int .i64 x8] H2 fun v3=>iZe v3 fun x9 c1=>(BIf (!c1) (K (.tuple #[.int .u32 0,.int .i64 6]) H2) (LeI H2 (((⟨b1,0,none⟩:Addr).add 0).add 1) fun x10=>Hz 128 #[.pointer p3,.int .i64 (IntKind.i64.wrap (x9*x10))] H2 fun v7 H3=>dZ9 v7 fun p4 x11=>(BIf (x11 !=0) (K (.tuple #[.int .u32 0,.int .i64 x11]) H3) (Nw H3 (.row [.pointer p4] 206 1) fun b2 H4=>LeI H4 (((⟨b1,0,none⟩:Addr).add 0).add 1) fun x12=>Hz 128 #[.pointer p3,.int .i64 x12] H4 fun v11 H5=>dZ9 v11 fun p5 x13=>(BIf (x13 !=0) (aZ9 prog 130 #[.pointer p3,.slice (some ⟨b2,0,none⟩) 1 1] H5 fun _ H24=>K (.tuple #[.int .u32 0,.int .i64 x13]) H24) (Nw H5 (.row [.pointer p5] 206 1) fun b3 H6=>(LdA H6 ⟨b1,0,none⟩ 5 fun l12=>LeI H6 (((⟨b1,0,none⟩:Addr).add 0).add 1) fun x14=>HcI 176 #[.int .u64 (IntKind.u64.wrap x14)] H6 fun x15 H7=>HcP 175 #[.int .i64 x15] H7 fun p6 H8=>aZz.q1 l12 H8 p6 K p1 p2 b1 x9 p4 p3 b3 b2)∧(LeI H6 (((⟨b1,0,none⟩:Addr).add 0).add 1) fun x21=>(LdA H6 ⟨b1,0,none⟩ 5 fun l18=>HcI 176 #[.int .u64 (IntKind.u64.wrap x21)] H6 fun x22 H10=>HcP 175 #[.int .i64 x22] H10 fun p7 H11=>aZz.q1 l18 H11 p7 K p1 p2 b1 x9 p4 p3 b3 b2)∧((LdA H6 ⟨b1,0,none⟩ 5 fun l24=>HcI 176 #[.int .u64 (IntKind.u64.wrap x21)] H6 fun x28 H13=>HcP 175 #[.int .i64 x28] H13 fun p8 H14=>aZz.q1 l24 H14 p8 K p1 p2 b1 x9 p4 p3 b3 b2)∧(HcI 176 #[.int .u64 (IntKind.u64.wrap x21)] H6 fun x34 H16=>(LdA H16 ⟨b1,0,none⟩ 5 fun l30=>HcP 175 #[.int .i64 x34] H16 fun p9 H17=>aZz.q1 l30 H17 p9 K p1 p2 b1 x9 p4 p3 b3 b2)∧(HcP 175 #[.int .i64 x34] H16 fun p10 H19=>LdA H19 ⟨b1,0,none⟩ 5 fun l36=>aZz.q1 l36 H19 p10 K p1 p2 b1 x9 p4 p3 b3 b2)))))))))))
def aZz.l17.L (K:Value→Hp→Prop)(k:Nat):Mid:=fun E D H=>
 eP E 0 fun p16=>eP E 1 fun p17=>eN E 7 fun a4=>eI E 13 .i64 fun x46=>eP E 15 fun p18=>eN E 17 fun a5=>eI E 18 .i64 fun x47=>cZD 130 D fun dc0 da0 D1=>aZd dc0 (Zv da0 fun u0da0 r0da0=>DP u0da0 fun p19=>Zv r0da0 fun u1da0 r1da0=>DSl u1da0 fun A3 n3 m3=>aZd r1da0 (cZD 130 D1 fun dc1 da1 D2=>aZd dc1 (Zv da1 fun u0da1 r0da1=>DP u0da1 fun p20=>Zv r0da1 fun u1da1 r1da1=>DSl u1da1 fun A4 n4 m4=>aZd r1da1 (Zo D2 (aZz.l17 K k p16 p17 a4 x46 p18 a5 x47 p19 A3 n3 m3 p20 A4 n4 m4 H)))))
def aZz.Λ17 (_:Value→Hp→Prop)(_R17:Option Addr→Option Addr→Addr→Int→Option Addr→Addr→Int→Option Addr→Option Addr→Nat→Nat→Option Addr→Option Addr→Nat→Nat→Hp→Prop):Zn:=Zn.none (fun i=>match Nat.beq i 15 with|true=>some ([],[0,0,2,6,14,30,62,127,255,511],0)|false=>none)
def aZz.Λ (K:Value→Hp→Prop):Zn:=⟨fun i=>match Nat.beq i 16 with|true=>some (fun E D H=>eP E 0 fun p11=>eP E 1 fun p12=>eN E 7 fun a2=>eI E 13 .i64 fun x45=>eP E 15 fun p13=>eN E 17 fun a3=>cZD 130 D fun dc0 da0 D1=>aZd dc0 (Zv da0 fun u0da0 r0da0=>DP u0da0 fun p14=>Zv r0da0 fun u1da0 r1da0=>DSl u1da0 fun A1 n1 m1=>aZd r1da0 (cZD 130 D1 fun dc1 da1 D2=>aZd dc1 (Zv da1 fun u0da1 r0da1=>DP u0da1 fun p15=>Zv r0da1 fun u1da1 r1da1=>DSl u1da1 fun A2 n2 m2=>aZd r1da1 (Zo D2 (aZz.j16 K p11 p12 a2 x45 p13 a3 p14 A1 n1 m1 p15 A2 n2 m2 H))))))|false=>none,fun i=>match Nat.beq i 17 with|true=>some (fun E D H=>∃ k,aZz.l17.L K k E D H)|false=>none,(fun i=>match Nat.beq i 15 with|true=>some ([],[0,0,2,6,14,30,62,127,255,511],0)|false=>none)⟩
theorem aZz.ok (p1:Option Addr)(p2:Option Addr)(x1:Int)(x2:Int)(x3:Int)(x4:Int)(x5:Int)(p3:Option Addr)(x6:Int)(H:Hp)(K:Value→Hp→Prop)(h:aZz p1 p2 x1 x2 x3 x4 x5 p3 x6 H K):Zc prog 132 #[.pointer p1,.pointer p2,.agg #[.int .i64 x1,.int .i64 x2,.int .i64 x3,.int .i64 x4,.int .u64 x5],.pointer p3,.int .i64 x6] H K:=
 Zr Tryz.func132 rfl (nbl rfl) (Zf (Λ:=(aZz.Λ K)) dZR _ _ _ _ _ (Eq.mp (by kernel_rfl) h) (Zb Za rfl (Zb (Zb Za rfl (Zb Za rfl (Zk (Zb Za rfl Zy) Zl))) rfl (Zb Za rfl (Zb (Zb Za rfl (Zk (Zb Za rfl Zy) Zl)) rfl (Zb Za rfl (Zb (Zb Za rfl (Zk (Zb Za rfl Zy) Zl)) rfl (Zb Za rfl (Zb Za rfl (Zb (Zb Za rfl (Zk (Zb Za rfl Zy) Zl)) rfl (Zb Za rfl (aZH Za rfl (fun E D H h=>by
   obtain⟨p11,e0,g2⟩:=GP h;obtain⟨p12,e1,g4⟩:=GP g2;obtain⟨a2,e7,g7⟩:=GN g4;obtain⟨x45,e13,g9⟩:=GI g7;obtain⟨p13,e15,g11⟩:=GP g9;obtain⟨a3,e17,g14⟩:=GN g11;obtain⟨dc0,da0,D1,rfl,g15⟩:=cZD.out g14;obtain⟨rfl,g16⟩:=aZd.out g15;obtain⟨u0da0,r0da0,rfl,g17⟩:=Zv.out g16;obtain⟨p14,rfl,g18⟩:=DP.out g17;obtain⟨u1da0,r1da0,rfl,g19⟩:=Zv.out g18;obtain⟨A1,n1,m1,rfl,g20⟩:=DSl.out g19;obtain⟨rfl,g21⟩:=aZd.out g20;obtain⟨dc1,da1,D2,rfl,g22⟩:=cZD.out g21;obtain⟨rfl,g23⟩:=aZd.out g22;obtain⟨u0da1,r0da1,rfl,g24⟩:=Zv.out g23;obtain⟨p15,rfl,g25⟩:=DP.out g24;obtain⟨u1da1,r1da1,rfl,g26⟩:=Zv.out g25;obtain⟨A2,n2,m2,rfl,g27⟩:=DSl.out g26;obtain⟨rfl,g28⟩:=aZd.out g27;obtain⟨rfl,h'⟩:=Zo.out g28;exact(Zf (Λ:=(aZz.Λ K)) dZR _ _ [(0,.pointer p11),(1,.pointer p12),(7,.pointer (some a2)),(13,.int .i64 x45),(15,.pointer p13),(17,.pointer (some a3))] [{ target:=.fn (.func 130) #[],args:=#[.pointer p14,.slice A1 n1 m1]},{ target:=.fn (.func 130) #[],args:=#[.pointer p15,.slice A2 n2 m2]}] H (Eq.mp (by kernel_rfl) h') (Zb (Zb Za rfl (Zu (ZZ rfl (fun E D H h=>by
     refine Safe.loop' (aZz.l17.L K) (fun E D H h=>?_) (fun k E D H h=>?_) E D H h
     ·obtain⟨w0,e0,g1⟩:=DG.out h;obtain⟨p16,rfl,g2⟩:=DP.out g1;obtain⟨w1,e1,g3⟩:=DG.out g2;obtain⟨p17,rfl,g4⟩:=DP.out g3;obtain⟨w7,e7,g5⟩:=DG.out g4;obtain⟨pw7,rfl,g6⟩:=DP.out g5;obtain⟨a4,rfl,g7⟩:=NN.out g6;obtain⟨w13,e13,g8⟩:=DG.out g7;obtain⟨x46,rfl,g9⟩:=DI.out g8;obtain⟨w15,e15,g10⟩:=DG.out g9;obtain⟨p18,rfl,g11⟩:=DP.out g10;obtain⟨w17,e17,g12⟩:=DG.out g11;obtain⟨pw17,rfl,g13⟩:=DP.out g12;obtain⟨a5,rfl,g14⟩:=NN.out g13;obtain⟨w18,e18,g15⟩:=DG.out g14;obtain⟨x47,rfl,g16⟩:=DI.out g15;obtain⟨dc0,da0,D1,rfl,g17⟩:=cZD.out g16;obtain⟨rfl,g18⟩:=aZd.out g17;obtain⟨u0da0,r0da0,rfl,g19⟩:=Zv.out g18;obtain⟨p19,rfl,g20⟩:=DP.out g19;obtain⟨u1da0,r1da0,rfl,g21⟩:=Zv.out g20;obtain⟨A3,n3,m3,rfl,g22⟩:=DSl.out g21;obtain⟨rfl,g23⟩:=aZd.out g22;obtain⟨dc1,da1,D2,rfl,g24⟩:=cZD.out g23;obtain⟨rfl,g25⟩:=aZd.out g24;obtain⟨u0da1,r0da1,rfl,g26⟩:=Zv.out g25;obtain⟨p20,rfl,g27⟩:=DP.out g26;obtain⟨u1da1,r1da1,rfl,g28⟩:=Zv.out g27;obtain⟨A4,n4,m4,rfl,g29⟩:=DSl.out g28;obtain⟨rfl,g30⟩:=aZd.out g29;obtain⟨rfl,h'⟩:=Zo.out g30;exact h'
     ·obtain⟨p16,e0,g2⟩:=GP h;obtain⟨p17,e1,g4⟩:=GP g2;obtain⟨a4,e7,g7⟩:=GN g4;obtain⟨x46,e13,g9⟩:=GI g7;obtain⟨p18,e15,g11⟩:=GP g9;obtain⟨a5,e17,g14⟩:=GN g11;obtain⟨x47,e18,g16⟩:=GI g14;obtain⟨dc0,da0,D1,rfl,g17⟩:=cZD.out g16;obtain⟨rfl,g18⟩:=aZd.out g17;obtain⟨u0da0,r0da0,rfl,g19⟩:=Zv.out g18;obtain⟨p19,rfl,g20⟩:=DP.out g19;obtain⟨u1da0,r1da0,rfl,g21⟩:=Zv.out g20;obtain⟨A3,n3,m3,rfl,g22⟩:=DSl.out g21;obtain⟨rfl,g23⟩:=aZd.out g22;obtain⟨dc1,da1,D2,rfl,g24⟩:=cZD.out g23;obtain⟨rfl,g25⟩:=aZd.out g24;obtain⟨u0da1,r0da1,rfl,g26⟩:=Zv.out g25;obtain⟨p20,rfl,g27⟩:=DP.out g26;obtain⟨u1da1,r1da1,rfl,g28⟩:=Zv.out g27;obtain⟨A4,n4,m4,rfl,g29⟩:=DSl.out g28;obtain⟨rfl,g30⟩:=aZd.out g29;obtain⟨rfl,h'⟩:=Zo.out g30;exact(Zf (Λ:=(aZz.Λ17 K (aZz.l17 K k))) dZR _ _ [(0,.pointer p16),(1,.pointer p17),(7,.pointer (some a4)),(13,.int .i64 x46),(15,.pointer p18),(17,.pointer (some a5)),(18,.int .i64 x47)] [{ target:=.fn (.func 130) #[],args:=#[.pointer p19,.slice A3 n3 m3]},{ target:=.fn (.func 130) #[],args:=#[.pointer p20,.slice A4 n4 m4]}] H (Eq.mp (by kernel_rfl) h') (Zb (Zb Za rfl (Zk Zl ZS)) rfl (Zb (Zu (Zb Za rfl (Zb Za rfl (Zk (Zb Za rfl Zy) Zl)))) rfl Za))).weaken (Ze.cons e0 (Ze.cons e1 (Ze.cons e7 (Ze.cons e13 (Ze.cons e15 (Ze.cons e17 (Ze.cons e18 (Ze.nil _)))))))) (Hp.le_refl _))))) rfl (Zb Za rfl Zy))).weaken (Ze.cons e0 (Ze.cons e1 (Ze.cons e7 (Ze.cons e13 (Ze.cons e15 (Ze.cons e17 (Ze.nil _))))))) (Hp.le_refl _))))))))))))))
def fZ0 (p1:Option Addr)(p2:Option Addr)(x1:Int)(x2:Int)(x3:Int)(x4:Int)(x5:Int)(p3:Option Addr)(H:Hp)(K:Value→Hp→Prop):Prop:=
 Nw H (.obj (.cells #[.int .i64 x1,.int .i64 x2,.int .i64 x3,.int .i64 x4,.int .u64 x5] 120)) fun b1 H1=>BIf p1.isNone (K (.int .i64 1) H1) (BIf p2.isNone (K (.int .i64 1) H1) (BIf p3.isNone (K (.int .i64 1) H1) (LdA H1 ((⟨b1,0,none⟩:Addr).add 0) 2 fun l1=>QcB 168 #[.agg l1.toArray] H1 fun c1=>BIf (!c1) (K (.int .i64 19) H1) (QcI 80 #[.pointer p1] H1 fun x6=>LdA H1 ((⟨b1,0,none⟩:Addr).add 0) 2 fun l2=>QcI 169 #[.agg l2.toArray] H1 fun x7=>BIf (x6 !=x7) (K (.int .i64 19) H1) (QcI 80 #[.pointer p2] H1 fun x8=>LdA H1 ((⟨b1,0,none⟩:Addr).add 0) 2 fun l3=>QcI 169 #[.agg l3.toArray] H1 fun x9=>BIf (x8 !=x9) (K (.int .i64 19) H1) (LeI H1 ((⟨b1,0,none⟩:Addr).add 2) fun x10=>BIf (decide (x10<0)) (K (.int .i64 18) H1) (LeI H1 ((⟨b1,0,none⟩:Addr).add 2) fun x11=>BIf (decide (x11>1)) (K (.int .i64 18) H1) (LeI H1 ((⟨b1,0,none⟩:Addr).add 3) fun x12=>BIf (decide (x12<(-1))) (K (.int .i64 2) H1) (LeI H1 ((⟨b1,0,none⟩:Addr).add 3) fun x13=>BIf (decide (x13>32)) (K (.int .i64 2) H1) (K (.int .i64 0) H1))))))))))
theorem fZ0.ok (p1:Option Addr)(p2:Option Addr)(x1:Int)(x2:Int)(x3:Int)(x4:Int)(x5:Int)(p3:Option Addr)(H:Hp)(K:Value→Hp→Prop)(h:fZ0 p1 p2 x1 x2 x3 x4 x5 p3 H K):Zc prog 173 #[.pointer p1,.pointer p2,.agg #[.int .i64 x1,.int .i64 x2,.int .i64 x3,.int .i64 x4,.int .u64 x5],.pointer p3] H K:=
 Zr Tryz.func173 rfl (nbl rfl) (Zf (Λ:=Zn.none (fun _=>none)) dZR _ _ _ _ _ (Eq.mp (by kernel_rfl) h) (Zt _ _ _ _ _))
def aZZ.l4 (K:Value→Hp→Prop):Nat→Int→Int→Addr→Int→Hp→Prop
 |0,_,_,_,_,_=>False
 |k+1,x7,x8,a1,x9,H=>
  let R4:=aZZ.l4 K k
  LeI H (a1.add 0) fun x10=>BIf (decide ((IntKind.i64.wrap (2*x9))≤x10)) (LeI H (a1.add 1) fun x11=>(x11≠0∧IntKind.i64=IntKind.i64∧BIf (decide ((IntKind.i64.wrap ((IntKind.i64.wrap (2*x9))+1))≤(IntKind.i64.wrap (Int.tdiv (IntKind.i64.wrap (x8-x7)) x11)))) (R4 x7 x8 a1 (IntKind.i64.wrap (x9*2)) H) (K (.tuple #[.int .i64 x9,.bool true]) H))) (K (.tuple #[.int .i64 x9,.bool true]) H)
def aZZ (x1:Int)(x2:Int)(x3:Int)(x4:Int)(H:Hp)(K:Value→Hp→Prop):Prop:=
 Nw H (.obj (.cells #[.int .i64 x1,.int .i64 x2] 118)) fun b1 H1=>LdA H1 ⟨b1,0,none⟩ 2 fun l1=>HcB 168 #[.agg l1.toArray] H1 fun c1 H2=>BIf (!c1) (K (.tuple #[.int .i64 0,.bool false]) H2) (LeI H2 ((⟨b1,0,none⟩:Addr).add 1) fun x5=>BIf (decide (x5>1048576)) (K (.tuple #[.int .i64 0,.bool false]) H2) (BIf (decide (x3<4)) (K (.tuple #[.int .i64 0,.bool false]) H2) (BIf (decide (x3>512)) (K (.tuple #[.int .i64 0,.bool false]) H2) (BIf ((aZF .i64 x3 (IntKind.i64.wrap (x3-1))) !=0) (K (.tuple #[.int .i64 0,.bool false]) H2) (BIf (decide (x4<x3)) (K (.tuple #[.int .i64 0,.bool false]) H2) (LeI H2 ((⟨b1,0,none⟩:Addr).add 1) fun x6=>BIf (decide ((IntKind.i64.wrap (x4-x3))<(IntKind.i64.wrap (2*x6)))) (K (.tuple #[.int .i64 0,.bool false]) H2) ((∃ k,aZZ.l4 K k x3 x4 ⟨b1,0,none⟩ 1 H2))))))))
def aZZ.l4.L (K:Value→Hp→Prop)(k:Nat):Mid:=fun E D H=>
 eI E 1 .i64 fun x7=>eI E 2 .i64 fun x8=>eN E 3 fun a1=>eI E 6 .i64 fun x9=>Zo D (aZZ.l4 K k x7 x8 a1 x9 H)
def aZZ.Λ4 (_:Value→Hp→Prop)(_R4:Int→Int→Addr→Int→Hp→Prop):Zn:=Zn.none (fun _=>none)
def aZZ.Λ (K:Value→Hp→Prop):Zn:=⟨fun i=>none,fun i=>match Nat.beq i 4 with|true=>some (fun E D H=>∃ k,aZZ.l4.L K k E D H)|false=>none,(fun _=>none)⟩
theorem aZZ.ok (x1:Int)(x2:Int)(x3:Int)(x4:Int)(H:Hp)(K:Value→Hp→Prop)(h:aZZ x1 x2 x3 x4 H K):Zc prog 174 #[.agg #[.int .i64 x1,.int .i64 x2],.int .i64 x3,.int .i64 x4] H K:=
 Zr Tryz.func174 rfl (nbl rfl) (Zf (Λ:=(aZZ.Λ K)) dZR _ _ _ _ _ (Eq.mp (by kernel_rfl) h) (Zb Za rfl (Zb (Zb Za rfl (Zk (Zb Za rfl Zy) Zl)) rfl (Zb Za rfl (Zb (Zu (ZZ rfl (fun E D H h=>by
   refine Safe.loop' (aZZ.l4.L K) (fun E D H h=>?_) (fun k E D H h=>?_) E D H h
   ·obtain⟨w1,e1,g1⟩:=DG.out h;obtain⟨x7,rfl,g2⟩:=DI.out g1;obtain⟨w2,e2,g3⟩:=DG.out g2;obtain⟨x8,rfl,g4⟩:=DI.out g3;obtain⟨w3,e3,g5⟩:=DG.out g4;obtain⟨pw3,rfl,g6⟩:=DP.out g5;obtain⟨a1,rfl,g7⟩:=NN.out g6;obtain⟨w6,e6,g8⟩:=DG.out g7;obtain⟨x9,rfl,g9⟩:=DI.out g8;obtain⟨rfl,h'⟩:=Zo.out g9;exact h'
   ·obtain⟨x7,e1,g2⟩:=GI h;obtain⟨x8,e2,g4⟩:=GI g2;obtain⟨a1,e3,g7⟩:=GN g4;obtain⟨x9,e6,g9⟩:=GI g7;obtain⟨rfl,h'⟩:=Zo.out g9;exact(Zf (Λ:=(aZZ.Λ4 K (aZZ.l4 K k))) dZR _ _ [(1,.int .i64 x7),(2,.int .i64 x8),(3,.pointer (some a1)),(6,.int .i64 x9)] [] H (Eq.mp (by kernel_rfl) h') (Zb (Zb Za rfl (Zk Zl ZS)) rfl (Zu Za))).weaken (Ze.cons e1 (Ze.cons e2 (Ze.cons e3 (Ze.cons e6 (Ze.nil _))))) (Hp.le_refl _)))) rfl (Zb Za rfl Zy))))))
def aZy.l6 (K:Value→Hp→Prop):Nat→Option Addr→Option Addr→Option Addr→Nat→Nat→Int→Int→Int→Hp→Prop
 |0,_,_,_,_,_,_,_,_,_=>False
 |k+1,p4,p5,A2,n2,m2,x4,x5,x6,H=>
  let R6:=aZy.l6 K k
  BIf (decide (x6<(n2:Int))) (slB n2 m2 (some x6) (some (IntKind.i64.wrap (x6+x5))) fun n3 n4=>(x5≠0∧IntKind.i64=IntKind.i64∧Hz 212 #[.pointer p4,.slice (slA A2 m2 n3 1) (n4-n3) (m2-n3),.int .i64 (IntKind.i64.wrap (x4+(IntKind.i64.wrap (Int.tdiv x6 x5))))] H fun v3 H2=>R6 p4 p5 A2 n2 m2 x4 x5 (IntKind.i64.wrap (x6+x5)) H2)) (NN p4 fun a2=>Hz 124 #[.pointer (some (a2.add 0)),.slice A2 n2 m2] H fun v4 H3=>HcI 97 #[.pointer p5,.int .i64 (IntKind.i64.wrap (x4*x5)),.slice A2 n2 m2] H3 fun x7 H4=>K (.int .i64 x7) H4)
def aZy (p1:Option Addr)(p2:Option Addr)(p3:Option Addr)(A1:Option Addr)(n1:Nat)(m1:Nat)(x1:Int)(H:Hp)(K:Value→Hp→Prop):Prop:=
 NN p1 fun a1=>LeI H (((a1.add 2).add 0).add 1) fun x2=>HcI 81 #[.pointer p2,.int .i64 (IntKind.i64.wrap (x1*x2)),.slice A1 n1 m1] H fun x3 H1=>BIf (x3 !=0) (K (.int .i64 x3) H1) ((∃ k,aZy.l6 K k p1 p3 A1 n1 m1 x1 x2 0 H1))
def aZy.l6.L (K:Value→Hp→Prop)(k:Nat):Mid:=fun E D H=>
 eP E 0 fun p4=>eP E 2 fun p5=>DG (E.get? 3) fun w3=>DSl w3 fun A2 n2 m2=>eI E 4 .i64 fun x4=>eI E 11 .i64 fun x5=>eI E 13 .i64 fun x6=>Zo D (aZy.l6 K k p4 p5 A2 n2 m2 x4 x5 x6 H)
def aZy.Λ6 (_:Value→Hp→Prop)(_R6:Option Addr→Option Addr→Option Addr→Nat→Nat→Int→Int→Int→Hp→Prop):Zn:=Zn.none (fun i=>match Nat.beq i 8 with|true=>some ([],[0,1,2,3,4,5,6,7,8,9,10,11],12)|false=>none)
def aZy.Λ (K:Value→Hp→Prop):Zn:=⟨fun i=>none,fun i=>match Nat.beq i 6 with|true=>some (fun E D H=>∃ k,aZy.l6.L K k E D H)|false=>none,(fun i=>match Nat.beq i 8 with|true=>some ([],[0,1,2,3,4,5,6,7,8,9,10,11],12)|false=>none)⟩
theorem aZy.ok (p1:Option Addr)(p2:Option Addr)(p3:Option Addr)(A1:Option Addr)(n1:Nat)(m1:Nat)(x1:Int)(H:Hp)(K:Value→Hp→Prop)(h:aZy p1 p2 p3 A1 n1 m1 x1 H K):Zc prog 177 #[.pointer p1,.pointer p2,.pointer p3,.slice A1 n1 m1,.int .i64 x1] H K:=
 Zr Tryz.func177 rfl (nbl rfl) (Zf (Λ:=(aZy.Λ K)) dZR _ _ _ _ _ (Eq.mp (by kernel_rfl) h) (Zb Za rfl (Zb Za rfl (Zb (Zb Za rfl (Zb Za rfl (Zk (Zb Za rfl Zy) Zl))) rfl (Zb (Zb Za rfl (Zu (ZZ rfl (fun E D H h=>by
   refine Safe.loop' (aZy.l6.L K) (fun E D H h=>?_) (fun k E D H h=>?_) E D H h
   ·obtain⟨w0,e0,g1⟩:=DG.out h;obtain⟨p4,rfl,g2⟩:=DP.out g1;obtain⟨w2,e2,g3⟩:=DG.out g2;obtain⟨p5,rfl,g4⟩:=DP.out g3;obtain⟨w3,e3,g5⟩:=DG.out g4;obtain⟨A2,n2,m2,rfl,g6⟩:=DSl.out g5;obtain⟨w4,e4,g7⟩:=DG.out g6;obtain⟨x4,rfl,g8⟩:=DI.out g7;obtain⟨w11,e11,g9⟩:=DG.out g8;obtain⟨x5,rfl,g10⟩:=DI.out g9;obtain⟨w13,e13,g11⟩:=DG.out g10;obtain⟨x6,rfl,g12⟩:=DI.out g11;obtain⟨rfl,h'⟩:=Zo.out g12;exact h'
   ·obtain⟨p4,e0,g2⟩:=GP h;obtain⟨p5,e2,g4⟩:=GP g2;obtain⟨w3,e3,g5⟩:=DG.out g4;obtain⟨A2,n2,m2,rfl,g6⟩:=DSl.out g5;obtain⟨x4,e4,g8⟩:=GI g6;obtain⟨x5,e11,g10⟩:=GI g8;obtain⟨x6,e13,g12⟩:=GI g10;obtain⟨rfl,h'⟩:=Zo.out g12;exact(Zf (Λ:=(aZy.Λ6 K (aZy.l6 K k))) dZR _ _ [(0,.pointer p4),(2,.pointer p5),(3,.slice A2 n2 m2),(4,.int .i64 x4),(11,.int .i64 x5),(13,.int .i64 x6)] [] H (Eq.mp (by kernel_rfl) h') (Zb (Zb Za rfl (Zk Zl ZS)) rfl (Zb (Zu Za) rfl Za))).weaken (Ze.cons e0 (Ze.cons e2 (Ze.cons e3 (Ze.cons e4 (Ze.cons e11 (Ze.cons e13 (Ze.nil _))))))) (Hp.le_refl _))))) rfl (Zb Za rfl (Zb Za rfl Zy)))))))
def aZO.j4 (K:Value→Hp→Prop)(p3:Option Addr)(A4:Option Addr)(n4:Nat)(m4:Nat)(H:Hp):Prop:=
 NN p3 fun a6=>LeW H ((a6.add 2).add 4) fun x13=>HcS 236 #[.slice A4 n4 m4,.int .u64 x13] H fun A5 n5 m5 H6=>CpK prog 84 (.slice A4 n4 m4) (.slice A5 n5 m5) H6 fun v19 H7=>DI .i64 v19 fun x14=>K (.tuple #[]) H7
def aZO.q1 (A1:Option Addr)(n1:Nat)(m1:Nat)(x1:Int)(x5:Int)(x6:Int)(H1:Hp)(K:Value→Hp→Prop)(p1:Option Addr):Prop:=
 Hz 235 #[.slice A1 n1 m1,.agg #[.int .i64 1,.int .i64 (n1:Int),.int .i64 x1,.int .i64 0],.int .i64 x5,.int .i64 x6] H1 fun v7 H2=>eZa v7 fun A2 n2 m2 x7=>(CpK prog 84 (.slice A1 n1 m1) (.slice A2 n2 m2) H2 fun v15 H4=>DI .i64 v15 fun x11=>aZO.j4 K p1 A1 n1 m1 H4)
def aZO (p1:Option Addr)(A1:Option Addr)(n1:Nat)(m1:Nat)(x1:Int)(H:Hp)(K:Value→Hp→Prop):Prop:=
 NN p1 fun a1=>LeP H (a1.add 7) fun p2=>NN p1 fun a2=>LeI H ((a2.add 2).add 2) fun x2=>HcI 234 #[.pointer p2,.slice A1 n1 m1,.int .i64 x2] H fun x3 H1=>NN p1 fun a3=>LeI H1 ((a3.add 2).add 3) fun x4=>BIf (decide (x4≥0)) (NN p1 fun a4=>NN p1 fun a5=>(LeI H1 ((a4.add 2).add 3) fun x5=>LeI H1 ((a5.add 2).add 2) fun x6=>aZO.q1 A1 n1 m1 x1 x5 x6 H1 K p1)∧(LeI H1 ((a5.add 2).add 2) fun x8=>LeI H1 ((a4.add 2).add 3) fun x9=>aZO.q1 A1 n1 m1 x1 x9 x8 H1 K p1)) (aZO.j4 K p1 A1 n1 m1 H1)
def aZO.Λ (K:Value→Hp→Prop):Zn:=⟨fun i=>match Nat.beq i 4 with|true=>some (fun E D H=>eP E 0 fun p3=>DG (E.get? 1) fun w1=>DSl w1 fun A4 n4 m4=>Zo D (aZO.j4 K p3 A4 n4 m4 H))|false=>none,fun i=>none,(fun i=>match Nat.beq i 2 with|true=>some ([],[0,0,2,6,0,30,0,64,192,448,960,0,2048,6144,14336,30720,65535,131071,262143,262143,524287,2097151],0)|false=>match Nat.beq i 0 with|true=>some ([],[0,1,2,3,4,5,6,7,8,9],10)|false=>none)⟩
theorem aZO.ok (p1:Option Addr)(A1:Option Addr)(n1:Nat)(m1:Nat)(x1:Int)(H:Hp)(K:Value→Hp→Prop)(h:aZO p1 A1 n1 m1 x1 H K):Zc prog 212 #[.pointer p1,.slice A1 n1 m1,.int .i64 x1] H K:=
 Zr Tryz.func212 rfl (nbl rfl) (Zf (Λ:=(aZO.Λ K)) dZR _ _ _ _ _ (Eq.mp (by kernel_rfl) h) (Zb Za rfl (aZH (Zb Za rfl (Zk (Zb Za rfl Za) Zl)) rfl (fun E D H h=>by
   obtain⟨p3,e0,g2⟩:=GP h;obtain⟨w1,e1,g3⟩:=DG.out g2;obtain⟨A4,n4,m4,rfl,g4⟩:=DSl.out g3;obtain⟨rfl,h'⟩:=Zo.out g4;exact(Zf (Λ:=(aZO.Λ K)) dZR _ _ [(0,.pointer p3),(1,.slice A4 n4 m4)] [] H (Eq.mp (by kernel_rfl) h') Za).weaken (Ze.cons e0 (Ze.cons e1 (Ze.nil _))) (Hp.le_refl _)))))
end W
namespace Pas
open Go Go.Hw W Shp Gol Fft Ker
structure J where
 ea:Nat
 eb:Nat
 d:Bool
 tw:Int
 sh:UInt64
def J.a (j:J):Array Value:=#[.int .i64 ((2^j.ea:Nat):Int),.int .i64 ((2^j.eb:Nat):Int),.int .i64 (if j.d=true then 1 else 0),.int .i64 j.tw,.int .u64 (j.sh.toNat:Int)]
def tZP (j:J)(kp:Nat):List Value:=[.int .i64 ((2^j.ea:Nat):Int),.int .i64 ((2^j.eb:Nat):Int),.int .i64 (if j.d=true then 1 else 0),.int .i64 j.tw,.int .u64 (j.sh.toNat:Int),.pointer (some ⟨kp,0,none⟩)]
def cZh (s:Crc.W32)(k:Nat)(j:J)(kp:Nat):AO:=.obj (.cells (CrcP.iZN s k (tZP j kp)) 271)
def twL (j:J)(r:Nat)(l:List UInt64):List UInt64:=if 0≤j.tw then jZ6 (pw (rtd j.d j.tw.toNat) r) l else l
def eZf (j:J)(r:Nat)(l:List UInt64):List UInt64:=cZs (zw j.sh) (twL j r (cZP j.d j.eb l))
theorem vZH (j:J)(r:Nat)(l:List UInt64):(twL j r l).length=l.length:=by
 unfold twL;split
 ·exact jZH _ _
 ·rfl
theorem hZO (j:J)(r:Nat)(l:List UInt64):(eZf j r l).length=2^j.eb:=by unfold eZf;rw[gZA,vZH,eZR]
theorem qZT {xs us bs:List Value}{off:Nat}(h:off+us.length≤xs.length)(hl:bs.length=us.length):setAt (setAt xs off us) off bs=setAt xs off bs:=by
 apply List.ext_getElem?;intro i;rw[bZW (by rw[cZS h];omega),bZW h,bZW (by omega)];by_cases h1:i<off
 ·rw[if_pos h1,if_pos h1,if_pos h1]
 ·rw[if_neg h1,if_neg h1,if_neg h1];by_cases h2:i<off+bs.length
  ·rw[if_pos h2,if_pos h2]
  ·rw[if_neg h2,if_neg h2,if_neg (by omega)]
theorem tZG (ws:List UInt64):∀ y∈Zd ws,y.oneCell'=true:=fun y hy=>by
 unfold Zd at hy;obtain⟨w,_,rfl⟩:=List.mem_map.1 hy;rfl
theorem sZd {e:TypeId}{A:Option Addr}{n m:Nat}{ws:List UInt64}{H:Hp}(h:Own e 1 A n m (Zd ws) H):Cells H A (Zd ws):=by
 obtain⟨h1,h2⟩:=h;rcases h2 with⟨rfl,rfl,rfl⟩|⟨b,mm,rfl,h4,_⟩
 ·rw[Nat.zero_mul]at h1;rw[List.length_eq_zero_iff.1 h1];exact Cells.nil _ _
 ·have:=Cells.row h4 0 (Zd ws).length;rw[List.drop_zero,List.take_of_length_le (Nat.le_refl _)]at this;exact this
section
variable {TT : As} {kp b off mm n m rn r : Nat} {s : Crc.W32} {sk : Nat} {j : J} {l : List UInt64} {xs : List Value} {e : TypeId}
theorem oZx {H:Hp}{L:List As}{i:Nat}(hs:Sep L H){ws us:List UInt64}(hi:L[i]? =some (pts b (.row (setAt xs off (Zd ws)) e mm)))(hw:ws.length=n)(hu:us.length=n)(hx:off+n≤xs.length){A:Option Addr}{m':Nat}(hc:Cells H A (Zd us)){K:Value→Hp→Prop}
  (kk:∀ H',Sep (L.set i (pts b (.row (setAt xs off (Zd us)) e mm))) H'→K (.int .i64 (n:Int)) H'):CpK prog 84 (.slice (some ⟨b,off,none⟩) n m) (.slice A n m') H K:=by
 refine hs.cp i (k:=n) (n:=n) (c:=m) (x:=.slice A n m') (ys:=Zd us) hi bZR rfl (by rw[show Nat.min n n=n from Nat.min_self n];exact iZz hc (by rw[ZA,hu])) (by rw[iZy (by omega),ZA,hu];exact hx) (tZG us) fun H' hs'=>?_
 rw[qZT (by rw[ZA];omega) (by rw[ZA,ZA,hu,hw])]at hs';rw[show Nat.min n n=n from Nat.min_self n];exact kk H' hs'
theorem vZP (hn:n=2^j.eb)(hb:j.eb≤20)(hx:off+n≤xs.length){ws:List UInt64}(hw:ws.length=n){L:List As}(K:Value→Hp→Prop)
  (hK:∀ H,Sep (pts rn (cZh s sk j kp)::pts b (.row (setAt xs off (Zd (cZs (zw j.sh) ws))) e mm)::L) H→K (.tuple #[]) H) {H:Hp} (hs:Sep (pts rn (cZh s sk j kp)::pts b (.row (setAt xs off (Zd ws)) e mm)::L) H):
  aZO.j4 K (some ⟨rn,0,none⟩) (some ⟨b,off,none⟩) n m H:=by
 have h20:=aZW hb;unfold aZO.j4;simp only[aZ5];refine hs.ldg 0 rfl rfl ?_;simp only[HV];refine(tZc (n:=n) (m:=m) (R:=pts b (.row (setAt xs off (Zd ws)) e mm)) j.sh (fun H h=>jZz h (by omega)) hw (by omega)).use hs [1] rfl rfl ?_;rintro _ _ H ⟨r1,rfl,rfl⟩ hs;have hs:Sep (pts r1 (.row (Zd (cZs (zw j.sh) ws)) 84 (n*1))::pts b (.row (setAt xs off (Zd ws)) e mm)::pts rn (cZh s sk j kp)::L) H:=by
  have:rest (pts rn (cZh s sk j kp)::pts b (.row (setAt xs off (Zd ws)) e mm)::L) [1]=pts rn (cZh s sk j kp)::L:=by
   have key:∀(L:List As) k,2≤k→rest.go [1] k L=L:=by
    intro L
    induction L with
    |nil=>intro k _;rfl
    |cons A L ih=>
     intro k hk;unfold rest.go;have:([1]:List Nat).contains k=false:=by simp;omega
     rw[this,ih (k+1) (by omega)]
   show pts rn (cZh s sk j kp)::rest.go [1] 2 L=_
   rw[key L 2 (Nat.le_refl _)]
  rw[this]at hs;exact hs
 simp only[HV];have hc:Cells H (some ⟨r1,0,none⟩) (Zd (cZs (zw j.sh) ws)):=by
  have:=Cells.row (hs.get 0 rfl) 0 n;rw[List.drop_zero,List.take_of_length_le (by rw[ZA,gZA];omega)]at this;exact this
 refine oZx (m':=n) hs (i:=1) rfl hw (by rw[gZA];exact hw) hx hc fun H hs=>?_;simp only[HV];refine hK H ?_;have hs:=hs.tail;exact hs.swap
theorem vZQ (hT:∀ H,TT H→T64 H)(hn:n=2^j.eb)(hb:j.eb≤20)(htw:j.tw≤32)(hr:r≤4294967295)(hl:l.length=n)(hm:n≤m)(hx:off+n≤xs.length)(hseg:setAt xs off (Zd l)=xs):
  Tr prog 212 #[.pointer (some ⟨rn,0,none⟩),.slice (some ⟨b,off,none⟩) n m,.int .i64 (r:Int)] [pts rn (cZh s sk j kp),pts b (.row xs e mm),Kn kp j.eb,TT] fun v M=>
   v= .tuple #[]∧M=[pts rn (cZh s sk j kp),pts b (.row (setAt xs off (Zd (eZf j r l))) e mm),Kn kp j.eb,TT]:=fun H hs=>by
 have h20:=aZW hb;apply aZO.ok;unfold aZO aZO.q1;simp only[aZ5];refine hs.ldf 0 rfl rfl ?_;simp only[HV];refine hs.ldg 0 rfl rfl ?_;simp only[HV];refine(tZa (kp:=kp) (m:=m) (mm:=mm) (e:=e) hT hb hn hl hx hseg j.d).use hs [1,2,3] rfl rfl ?_;rintro _ _ H ⟨rfl,rfl⟩ hs;simp only[HV];have hs:Sep [pts b (.row (setAt xs off (Zd (cZP j.d j.eb l))) e mm),Kn kp j.eb,TT,pts rn (cZh s sk j kp)] H:=hs;refine hs.ldg 3 rfl rfl ?_;simp only[HV];have hdl:(cZP j.d j.eb l).length=n:=by rw[eZR,hn]
 have fin:∀{ws:List UInt64} {H:Hp},ws.length=n→twL j r (cZP j.d j.eb l)=ws→Sep [pts b (.row (setAt xs off (Zd ws)) e mm),Kn kp j.eb,TT,pts rn (cZh s sk j kp)] H→
   aZO.j4 (fun v H'=>∃ M,(v= .tuple #[]∧M=[pts rn (cZh s sk j kp),pts b (.row (setAt xs off (Zd (eZf j r l))) e mm),Kn kp j.eb,TT])∧Sep M H') (some ⟨rn,0,none⟩) (some ⟨b,off,none⟩) n m H:=fun{ws} {H} hw he hs=>by
  refine vZP (s:=s) (sk:=sk) (kp:=kp) (mm:=mm) (e:=e) (L:=[Kn kp j.eb,TT]) hn hb hx hw _ (fun H hs=>⟨_,⟨rfl,rfl⟩,?_⟩) (hs.re [3,0,1,2] rfl);unfold eZf;rw[he];exact hs
 by_cases ht:0≤j.tw
 ·refine Zw ht ?_;obtain⟨t,ht'⟩:=Int.eq_ofNat_of_zero_le ht;have hz:pw (rtd j.d j.tw.toNat) r=pw (rtd j.d t) r:=by rw[ht',Int.toNat_natCast]
  refine⟨?_,?_⟩
  all_goals
   refine hs.ldg 3 rfl rfl ?_;simp only[HV];refine hs.ldg 3 rfl rfl ?_;simp only[HV];rw[ht'];refine(uZR (n:=n) (m:=m) (k:=t) (r:=r) (l:=cZP j.d j.eb l) (R:=pts b (.row (setAt xs off (Zd (cZP j.d j.eb l))) e mm)) hT (fun H h=>jZz h (by omega)) hn hb hdl hm (by omega) hr j.d).use hs [0,2] rfl rfl ?_;rintro _ _ H ⟨A',m',rfl,rfl⟩ hs;simp only[HV];refine oZx (m':=m') hs (i:=1) rfl hdl (by rw[jZH];exact hdl) hx (sZd (hs.own 0 rfl)) fun H hs=>?_;simp only[HV];exact fin (by rw[jZH];exact hdl) (by unfold twL;rw[if_pos ht,hz]) (hs.re [1,3,2,4] rfl)
 ·exact Zm ht (fin hdl (by unfold twL;rw[if_neg ht]) hs)
end
end Pas
namespace Pas
open Go Go.Hw Go.Crc Go.Form W Shp Gol Fft Ker Str Dsk Are Trn
def fZh (j:J)(r:Nat)(ws:List UInt64)(i:Nat):List UInt64:=(List.range i).flatMap fun q=>eZf j (r+q) ((ws.drop (q*2^j.eb)).take (2^j.eb))
def fZi (j:J)(r:Nat)(ws:List UInt64)(i:Nat):List UInt64:=fZh j r ws i++ws.drop (i*2^j.eb)
theorem hZE (j:J)(r:Nat)(ws:List UInt64):∀ i,(fZh j r ws i).length=i*2^j.eb
 |0=>by simp[fZh]
 |i+1=>by
  unfold fZh;rw[List.range_succ,List.flatMap_append,List.length_append];have:=hZE j r ws i;unfold fZh at this;rw[this,Nat.succ_mul];simp[hZO]
theorem rZy (j:J)(r:Nat)(ws:List UInt64)(i:Nat):fZh j r ws (i+1)=fZh j r ws i++eZf j (r+i) ((ws.drop (i*2^j.eb)).take (2^j.eb)):=by
 unfold fZh;rw[List.range_succ,List.flatMap_append];simp
theorem tZk {j:J}{r:Nat}{ws:List UInt64}{i nb:Nat}(hw:ws.length=nb*2^j.eb)(hi:i≤nb):(fZi j r ws i).length=nb*2^j.eb:=by
 unfold fZi;have:i*2^j.eb≤nb*2^j.eb:=Nat.mul_le_mul_right _ hi;rw[List.length_append,hZE,List.length_drop];omega
theorem rZz (j:J)(r:Nat)(ws:List UInt64):fZi j r ws 0=ws:=by simp[fZi,fZh]
theorem pZU (a b c:List UInt64):eZg (a++b) a.length c=a++c++b.drop c.length:=by
 unfold eZg;rw[List.take_left,←List.drop_drop,List.drop_left]
section
variable {TT : As} {kp rn p q dp ap bb mb : Nat} {s : W32} {sk : Nat} {j : J} {x y : X} {cap peak : Int} {bufs : List (Nat × Nat × Option Addr)}
theorem lZd (K:Value→Hp→Prop)(hT:∀ H,TT H→T64 H)(hb:j.eb≤20)(htw:j.tw≤32){nb r:Nat}(hr:r+nb≤4294967296)(hsz:nb*2^j.eb≤4294967296){ws:List UInt64}(hw:ws.length=nb*2^j.eb){L:List As}{n:Nat}(hn:n=nb*2^j.eb)
  (hK:∀ H,Sep (pts rn (cZh s sk j kp)::pts bb (.row (Zd (fZh j r ws nb)) 84 mb)::Kn kp j.eb::TT::L) H→aZy.l6 K 1 (some ⟨rn,0,none⟩) (some ⟨q,0,none⟩) (some ⟨bb,0,none⟩) n n (r:Int) ((2^j.eb:Nat):Int) (n:Int) H):
  ∀(t i:Nat) (z:Int) (H:Hp),z=((i*2^j.eb:Nat):Int)→i+t=nb→Sep (pts rn (cZh s sk j kp)::pts bb (.row (Zd (fZi j r ws i)) 84 mb)::Kn kp j.eb::TT::L) H→
   aZy.l6 K (t+1) (some ⟨rn,0,none⟩) (some ⟨q,0,none⟩) (some ⟨bb,0,none⟩) n n (r:Int) ((2^j.eb:Nat):Int) z H
 |0,i,_,H,rfl,hi,hs=>by
  obtain rfl:i=nb:=by omega
  rw[← hn];refine hK H ?_;unfold fZi at hs;rw[List.drop_eq_nil_of_le (by omega),List.append_nil]at hs;exact hs
 |t+1,i,_,H,rfl,hi,hs=>by
  have hc1:=pow_pos j.eb;have hse:(i+1)*2^j.eb=i*2^j.eb+2^j.eb:=Nat.succ_mul _ _;have h20:=aZW hb;have hi1:(i+1)*2^j.eb≤nb*2^j.eb:=Nat.mul_le_mul_right _ (by omega);have hi1':=hi1;rw[Nat.succ_mul]at hi1;unfold aZy.l6;refine Zw (by omega) ?_;rw[show IntKind.i64.wrap (((i*2^j.eb:Nat):Int)+((2^j.eb:Nat):Int))=(((i+1)*2^j.eb:Nat):Int) by rw[Nat.succ_mul,←Int.natCast_add,bZi (by omega)]];refine⟨by omega,by omega,by omega,by omega,?_⟩;rw[Int.toNat_natCast,Int.toNat_natCast];refine⟨by omega,by simp,?_⟩;rw[show Int.tdiv ((i*2^j.eb:Nat):Int) ((2^j.eb:Nat):Int)=((i*2^j.eb/2^j.eb:Nat):Int)from rfl,Nat.mul_div_cancel _ (by omega),bZi (n:=i) (by omega),←Int.natCast_add,bZi (n:=r+i) (by omega),
   lZO (by omega),show(i+1)*2^j.eb-i*2^j.eb=2^j.eb by rw[Nat.succ_mul];omega,Nat.zero_add]
  have hA:=hZE j r ws i;have hlen:=tZk (j:=j) (r:=r) hw (show i≤nb by omega);have hseg:setAt (Zd (fZi j r ws i)) (i*2^j.eb) (Zd ((ws.drop (i*2^j.eb)).take (2^j.eb)))=Zd (fZi j r ws i):=by
   rw[jZB];unfold fZi;rw[← hA,pZU,hA,List.append_assoc];congr 2;rw[List.length_take,List.length_drop,Nat.min_eq_left (by omega)];exact List.take_append_drop _ _
  have hsl:((ws.drop (i*2^j.eb)).take (2^j.eb)).length=2^j.eb:=by rw[List.length_take,List.length_drop];omega
  have ht:=vZQ (rn:=rn) (kp:=kp) (b:=bb) (off:=i*2^j.eb) (mm:=mb) (n:=2^j.eb) (m:=n-i*2^j.eb) (r:=r+i) (s:=s) (sk:=sk) (j:=j) (l:=(ws.drop (i*2^j.eb)).take (2^j.eb)) (xs:=Zd (fZi j r ws i)) (e:=84) hT rfl hb htw (by omega) hsl (by omega) (by rw[ZA,hlen];omega) hseg;have e0:sel (pts rn (cZh s sk j kp)::pts bb (.row (Zd (fZi j r ws i)) 84 mb)::Kn kp j.eb::TT::L) [0,1,2,3]=[pts rn (cZh s sk j kp),pts bb (.row (Zd (fZi j r ws i)) 84 mb),Kn kp j.eb,TT]:=rfl;refine ht.use hs [0,1,2,3] e0 rfl ?_;rintro _ _ H ⟨rfl,rfl⟩ hs;have erest:rest (pts rn (cZh s sk j kp)::pts bb (.row (Zd (fZi j r ws i)) 84 mb)::Kn kp j.eb::TT::L) [0,1,2,3]=L:=by
   have key:∀(L:List As) k,4≤k→rest.go [0,1,2,3] k L=L:=by
    intro L
    induction L with
    |nil=>intro k _;rfl
    |cons A L ih=>
     intro k hk;unfold rest.go;have:([0,1,2,3]:List Nat).contains k=false:=by simp;omega
     rw[this,ih (k+1) (by omega)]
   exact key L 4 (Nat.le_refl _)
  rw[erest]at hs;have hstep:setAt (Zd (fZi j r ws i)) (i*2^j.eb) (Zd (eZf j (r+i) ((ws.drop (i*2^j.eb)).take (2^j.eb))))=Zd (fZi j r ws (i+1)):=by
   rw[jZB];unfold fZi;rw[← hA,pZU,hA,rZy,hZO,List.drop_drop,Nat.succ_mul]
  rw[hstep]at hs;exact lZd K hT hb htw hr hsz hw hn hK t (i+1) _ H rfl (by omega) hs
def wZd (rn p q dp ap kp bb:Nat)(s:W32)(sk:Nat)(j:J)(d:D)(x y:X)(r nb:Nat)(cap peak:Int)(bufs:List (Nat×Nat×Option Addr))(mb:Nat)(TT:As)(v:Value)(M:List As):Prop:=
 let n:=nb*2^j.eb
 let f:=r*2^j.eb
 let us:=fZh j r (pws d x f n) nb
 let t:=(pcs (D.per d) x.f n f n).length
 (Prog (inX y) d (eZh (D.rdG d t) y n f us) (t+dZx (D.per d) y.f n f n) (pcs (D.per d) y.f n f n).length∧v= .int .i64 0∧
  M=[pts rn (cZh (more s (form us)) (sk+8*n) j kp),pts bb (.row (Zd us) 84 mb),pts p (ZP dp ap x),pts q (ZP dp ap y),Dk dp (eZh (D.rdG d t) y n f us),Ar ap cap (mx peak (ZN bufs+D.per d)) bufs,Kn kp j.eb,TT])∨
 (∃ d',cZz (inX y) d d'∧d.fuse≤t+dZx (D.per d) y.f n f n+(pcs (D.per d) y.f n f n).length∧v= .int .i64 8∧
  M=[pts p (ZP dp ap x),pts q (ZP dp ap y),Dk dp d',Ar ap cap (mx peak (ZN bufs+D.per d)) bufs,TT])
set_option maxHeartbeats 1000000 in
theorem tZm {d:D}(hT:∀ H,TT H→T64 H)(hok:Ok d)(hl:d.down=false)(hx:On d x)(hy:On d y)(ho:d.rd≤4000000000000000000∧d.wr≤4000000000000000000)(hb:j.eb≤20)(htw:j.tw≤32){r nb:Nat}(hnb:1≤nb)(hr:r+nb≤4294967296)(hsz:nb*2^j.eb≤4294967296)
  (hfx:r*2^j.eb+nb*2^j.eb≤x.w) (hfy:r*2^j.eb+nb*2^j.eb≤y.w) (hxw:x.w≤4294967296) (hsk:sk≤1000000000000) (hcap:(D.per d:Int)≤cap-ZN bufs) (ws:List UInt64) (hws:ws.length=nb*2^j.eb):
  Tr prog 177 #[.pointer (some ⟨rn,0,none⟩),.pointer (some ⟨p,0,none⟩),.pointer (some ⟨q,0,none⟩),.slice (some ⟨bb,0,none⟩) (nb*2^j.eb) (nb*2^j.eb),.int .i64 (r:Int)]
   [pts rn (cZh s sk j kp),pts bb (.row (Zd ws) 84 mb),pts p (ZP dp ap x),pts q (ZP dp ap y),Dk dp d,Ar ap cap peak bufs,Kn kp j.eb,TT] (wZd rn p q dp ap kp bb s sk j d x y r nb cap peak bufs mb TT):=fun H hs=>by
 have hp:=Ok.per_le hok;have hc1:=pow_pos j.eb;have hn1:1*1≤nb*2^j.eb:=Nat.mul_le_mul hnb hc1;have hpl:=dZo (D.per d) x.f (nb*2^j.eb) (r*2^j.eb) (nb*2^j.eb);apply aZy.ok;unfold aZy;simp only[aZ5];rw[show(((⟨rn,0,none⟩:Addr).add 2).add 0).add 1=⟨rn,3,none⟩ by rw[Addr.add_zero,Addr.add_lit',Addr.add_lit']];refine hs.ld 0 rfl rfl ?_;simp only[HV];rw[← Int.natCast_mul,bZi (by omega)];refine(kZA (p:=p) (dp:=dp) (ap:=ap) (d:=d) (x:=x) (cap:=cap) (peak:=peak) (bufs:=bufs) (rl:=bb) (off:=0) (mm:=mb) (el:=84) (xs:=Zd ws) hok hl hx (by omega) (r*2^j.eb) (nb*2^j.eb) (nb*2^j.eb) (by omega) hfx (Nat.le_refl _) (by rw[ZA];omega) hcap).use hs [2,4,5,1] rfl rfl ?_;rintro v M H (⟨hgo,rfl,rfl⟩|⟨i,xs',hi,hfi,_,rfl,rfl⟩) hs
 case inr=>
  simp only[HV];refine ZK (by decide) ⟨_,.inr ⟨_,(cZz.rdG (fun _=>False) hok hl hfi).mono fun _ h=>h.elim,by omega,rfl,rfl⟩,hs.re [0,5,1,2,7] rfl⟩
 simp only[HV];refine ZB rfl ?_;rw[gZ4 (by rw[ZA,ZA,eZe,hws])]at hs;have hpg:=Prog.rdG (inX y) hok hl hgo;generalize ht:(pcs (D.per d) x.f (nb*2^j.eb) (r*2^j.eb) (nb*2^j.eb)).length=t at*;have hper:D.per (D.rdG d t)=D.per d:=rfl;refine⟨nb+1,?_⟩;refine lZd (q:=q) (s:=s) (sk:=sk) (kp:=kp) (mb:=mb) (L:=[pts p (ZP dp ap x),Dk dp (D.rdG d t),Ar ap cap (mx peak (ZN bufs+D.per d)) bufs,pts q (ZP dp ap y)]) _ hT hb htw hr hsz (ws:=pws d x (r*2^j.eb) (nb*2^j.eb)) (eZe _ _ _ _) rfl (fun H hs=>?_) nb 0 0 H (by rw[Nat.zero_mul];rfl) (by omega) ?_
 ·generalize hus:fZh j r (pws d x (r*2^j.eb) (nb*2^j.eb)) nb=us at*;have hul:us.length=nb*2^j.eb:=by rw[← hus];exact hZE _ _ _ _
  have hcell:∀ H,pts bb (.row (Zd us) 84 mb) H→Cells H (some ⟨bb,0,none⟩) (Zd us):=fun H h=>by
   have:=Cells.row h 0 us.length
   rwa [List.drop_zero,List.take_of_length_le (by rw[ZA];exact Nat.le_refl _)]at this
  unfold aZy.l6;refine Zm (Int.lt_irrefl _) ?_;simp only[aZ5,Addr.add_zero];refine CrcP.kZa hs 0 rfl (some ⟨bb,0,none⟩) (nb*2^j.eb) (nb*2^j.eb) us hul.symm ?_ (by omega) (by omega) fun H hs=>?_
  ·obtain⟨H1,h1,hle⟩:=hs.see 1 rfl;exact(hcell H1 h1).le hle
  have hs:Sep [pts rn (cZh (more s (form us)) (sk+8*(nb*2^j.eb)) j kp),pts bb (.row (Zd us) 84 mb),Kn kp j.eb,TT,pts p (ZP dp ap x),Dk dp (D.rdG d t),Ar ap cap (mx peak (ZN bufs+D.per d)) bufs,pts q (ZP dp ap y)] H:=hs;rw[← Int.natCast_mul,bZi (by omega)];refine(jZc (p:=q) (dp:=dp) (ap:=ap) (d:=D.rdG d t) (x:=y) (cap:=cap) (peak:=mx peak (ZN bufs+D.per d)) (bufs:=bufs) (R:=pts bb (.row (Zd us) 84 mb)) (A:=some ⟨bb,0,none⟩) (n:=nb*2^j.eb) (m:=nb*2^j.eb) (src:=us) hpg.ok hpg.down (hy.prog hpg) ⟨by show d.rd+t≤_;omega,by show d.wr≤_;omega⟩ (r*2^j.eb) hul.symm (by omega) hfy (Nat.le_refl _) hcap hcell).use hs [7,5,6,1] rfl rfl ?_;rintro v M H (⟨hpg2,rfl,rfl⟩|⟨d',hd,hfu,rfl,rfl⟩) hs
  ·simp only[HV];rw[hul,hper,lZz]at hs;rw[hul,hper]at hpg2;have hpg3:=hpg.trans hpg2;rw[Nat.zero_add]at hpg3;subst hus;subst ht;exact⟨_,.inl ⟨hpg3,rfl,rfl⟩,hs.re [4,3,7,0,1,2,5,6] rfl⟩
  ·simp only[HV];rw[hper,lZz]at hs;rw[hul,hper]at hfu;subst hus;subst ht;refine⟨_,.inr ⟨d',hpg.dead hd,?_,rfl,rfl⟩,hs.re [7,0,1,2,6] rfl⟩;have h1:=hpg.fuse;have h2:=hpg.go;omega
 ·rw[rZz];exact hs.re [4,3,6,7,0,1,2,5] rfl
end
end Pas
namespace Trn
open Go Go.Hw Go.Crc Go.Form W Shp Str Dsk Are
theorem cZC.unique {r c per free:Int}{j j':Nat}(hr:1≤r)(h:cZC r c per free j)(h':cZC r c per free j'):j=j':=by
 have key:∀{a b:Nat},cZC r c per free a→cZC r c per free b→¬a<b:=fun{a b} ha hb hlt=>by
  have hp:2^(a+1)≤2^b:=aZW hlt;rw[Nat.pow_succ]at hp;have hz:=pow_pos a;have h1:=hb.le;have h2:=hb.fit;rcases ha.most with e|e
  ·omega
  ·have h3:2*((2^a:Nat):Int)≤((2^b:Nat):Int):=by omega
   have:=Int.mul_le_mul_of_nonneg_right h3 (show 0≤r by omega);omega
 have h1:=key h h';have h2:=key h' h;omega
theorem uZH (r c per free:Int)(hper: -9223372036854775808≤per∧per≤9223372036854775807)(hf:free≤9223372036854775807)(H:Hp)(hT:T64 H)(hg:dZN r c=true)(hp:cZR per=true)(h1:per≤free)(h2:r≤free-per){j:Nat}(hj:cZC r c per free j):
  Zc prog 170 #[.agg #[.int .i64 r,.int .i64 c],.int .i64 per,.int .i64 free] H (RetE (.tuple #[.int .i64 ((2^j:Nat):Int),.bool true]) H):=
 (uZI r c per free hper hf H hT).mono fun v H' ⟨hq,e⟩=>by
  rcases hq with⟨h,_⟩|⟨_,j',hj',rfl⟩
  ·exact absurd ⟨hg,hp,h1,h2⟩ h
  ·obtain⟨ea,_,rfl,_⟩:=hZn hg;have:=pow_pos ea;rw[hj.unique (by omega) hj'];exact⟨rfl,e⟩
theorem cZC.ex {ea eb:Nat}{per free:Int}(hab:ea+eb≤32)(h:((2^ea:Nat):Int)≤free-per):∃ j,j≤eb∧cZC ((2^ea:Nat):Int) ((2^eb:Nat):Int) per free j:=by
 have key:∀ t j,j+t=eb→((2^j:Nat):Int)*((2^ea:Nat):Int)≤free-per→∃ j,j≤eb∧cZC ((2^ea:Nat):Int) ((2^eb:Nat):Int) per free j:=fun t=>by
  induction t with
  |zero=>intro j hj hf;exact⟨j,by omega,⟨by rw[show j=eb by omega];exact Int.le_refl _,hf,.inl (by rw[show j=eb by omega])⟩⟩
  |succ t ih=>
   intro j hj hf;by_cases hc:((2^(j+1):Nat):Int)*((2^ea:Nat):Int)≤free-per
   ·exact ih (j+1) (by omega) hc
   ·refine⟨j,by omega,⟨Int.ofNat_le.2 (aZW (by omega)),hf,.inr ?_⟩⟩;rw[show(2:Int)*((2^j:Nat):Int)=((2^(j+1):Nat):Int) by rw[Nat.pow_succ];omega];omega
 exact key eb 0 (by omega) (by rw[Nat.pow_zero];omega)
theorem cZC.ge {r:Int}{eb:Nat}{per free:Int}{j:Nat}(h:cZC r ((2^eb:Nat):Int) per free j):j≤eb:=by
 apply Nat.le_of_not_lt;intro hlt;have h1:=aZW (show eb+1≤j from hlt);rw[Nat.pow_succ]at h1;have:=h.le;have:=pow_pos eb;omega
section
variable {p q dp ap : Nat} {x y : X} {cap peak : Int} {bufs : List (Nat × Nat × Option Addr)} {TT : As}
theorem gZY {L:List As}{H:Hp}(hT:∀ H,TT H→T64 H)(hs:Sep L H)(i:Nat)(hi:L[i]? =some TT):T64 H:=by
 obtain⟨H1,h1,hle⟩:=hs.see i hi;exact(hT H1 h1).le hle
theorem div_pow {a b:Nat}(h:a≤b):2^b=2^b/2^a*2^a:=(Nat.div_mul_cancel (Nat.pow_dvd_pow 2 h)).symm
theorem nZX {d:D}{ea eb j:Nat}(hT:∀ H,TT H→T64 H)(hok:Ok d)(hl:d.down=false)(hx:On d x)(hy:On d y)(ho:d.rd≤2000000000000000000∧d.wr≤2000000000000000000)(hab:ea+eb≤32)(hxw:x.w=2^ea*2^eb)(hyw:y.w=2^ea*2^eb)(hdis:x.f+x.s≤y.f∨y.f+y.s≤x.f)
  (hper:cZR (D.per d:Int)=true) (hcap:cap≤1000000000000) (hsum:0≤ZN bufs) (hj:cZC ((2^ea:Nat):Int) ((2^eb:Nat):Int) (D.per d) (cap-ZN bufs) j):
  Tr prog 131 #[.pointer (some ⟨p,0,none⟩),.pointer (some ⟨q,0,none⟩),.agg #[.int .i64 ((2^ea:Nat):Int),.int .i64 ((2^eb:Nat):Int)],.pointer (some ⟨ap,0,none⟩),.int .i64 (D.per d:Int)]
   [pts p (ZP dp ap x),pts q (ZP dp ap y),Dk dp d,Ar ap cap peak bufs,TT] fun v M=>∃ M0,qZR p q dp ap d x y (2^ea) (2^eb) (2^j) cap peak bufs v M0∧M=M0++[TT]:=fun H hs=>by
 have hp:=Ok.per_le hok;have hg:=hZ4 hab;have hsz:=size_le hab;have hr1:=pow_pos ea;have hc1:=pow_pos eb;have hb1:=pow_pos j;have hjb:=hj.ge;have hfit:=hj.fit;rw[← Int.natCast_mul]at hfit;have hbr:1*2^ea≤2^j*2^ea:=Nat.mul_le_mul_right _ hb1;have hbsz:2^j*2^ea≤2^ea*2^eb:=by
  rw[Nat.mul_comm];exact Nat.mul_le_mul_left _ (aZW hjb)
 have hS:iZb ((2^ea:Nat):Int) ((2^eb:Nat):Int)=((2^ea*2^eb:Nat):Int):=by
  unfold iZb;rw[if_pos hg,Int.natCast_mul]
 apply bZm.ok;unfold bZm;refine hs.nw fun sb H hs=>aZu rfl (aZu rfl (aZu rfl ?_))
 first|refine hs.ldw 5 rfl rfl ?_
 try simp only[HV]
 refine aZc.use (bZZ _ _ H (gZY hT hs 4 rfl)) ?_;rw[hg];simp only[HV];refine aZc.use (gZD hs 0 rfl) ?_;simp only[HV]
 first|refine hs.ldw 5 rfl rfl ?_
 try simp only[HV]
 refine aZc.use (jZQ _ _ H (gZY hT hs 4 rfl)) ?_;rw[hS];simp only[HV];refine ZB (by rw[hxw]) ?_;refine aZc.use (gZD hs 1 rfl) ?_;simp only[HV]
 first|refine hs.ldw 5 rfl rfl ?_
 try simp only[HV]
 refine aZc.use (jZQ _ _ H (gZY hT hs 4 rfl)) ?_;rw[hS];simp only[HV];refine ZB (by rw[hyw]) ?_
 first|refine hs.ldw 5 rfl rfl ?_
 try simp only[HV]
 simp only[aZ5,Addr.add_zero];refine aZc.use (rZM hs 3 rfl) ?_;simp only[HV];refine aZc.use (uZH _ _ _ _ ⟨by omega,by omega⟩ (by omega) H (gZY hT hs 4 rfl) hg hper (by omega) (by omega) hj) ?_;simp only[HV];refine hs.ld 5 (v:=.int .i64 ((2^ea:Nat):Int)) rfl rfl ?_;simp only[HV];rw[← Int.natCast_mul,bZi (by omega)];refine(eZZ (a:=ap) (cap:=cap) (peak:=peak) (bufs:=bufs) (n:=2^j*2^ea) (by omega) (by omega)).use hs [3] rfl rfl ?_;rintro _ _ H ⟨bn,bb,rfl,rfl⟩ hs;simp only[HV];refine ZB rfl ?_;have hbm:∀ z∈bufs,z.1≠bn:=fun z hz e=>by
  obtain⟨mp,cl,tk,hA⟩:=Sep.ar hs 0 rfl;have:=hA.bn;rw[List.map_append,List.nodup_append]at this;exact this.2.2 z.1 (List.mem_map_of_mem hz) bn (by simp) e
 refine hs.nw fun vb H hs=>?_
 refine hs.ldw 6 rfl rfl ?_;simp only[HV];refine hs.nw fun rn H hs=>?_
 refine⟨2^eb/2^j+1,?_⟩;have hz:bZr (2^j*2^ea)=Zd (List.replicate (2^j*2^ea) 0):=by
  unfold bZr;rw[bZD];unfold Zd;rw[List.map_replicate];rfl
 rw[hz]at hs;have hsb:ZN (bufs++[(bn,2^j*2^ea,some ⟨bb,0,none⟩)])=ZN bufs+((2^j*2^ea:Nat):Int):=by
  rw[fZo];simp[ZN]
 have hpk:mx (mx peak (ZN bufs+((2^j*2^ea:Nat):Int))) (ZN (bufs++[(bn,2^j*2^ea,some ⟨bb,0,none⟩)])+D.per d)=mx peak (ZN bufs+((2^j*2^ea:Nat):Int)+D.per d):=by
  rw[hsb];generalize((2^j*2^ea:Nat):Int)=n at*;unfold mx;by_cases h1:ZN bufs+n>peak
  ·rw[if_pos h1,if_pos (by omega),if_pos (by omega)]
  ·rw[if_neg h1]
 have out:∀{v:Value} {d':D} {H:Hp},(∀{M},M=[pts p (ZP dp ap x),pts q (ZP dp ap y),Dk dp d',Ar ap cap (mx peak (ZN bufs+((2^j*2^ea:Nat):Int)+D.per d)) bufs]→qZR p q dp ap d x y (2^ea) (2^eb) (2^j) cap peak bufs v M)→
   Sep [pts p (ZP dp ap x),pts q (ZP dp ap y),Dk dp d',Ar ap cap (mx (mx peak (ZN bufs+((2^j*2^ea:Nat):Int))) (ZN (bufs++[(bn,2^j*2^ea,some ⟨bb,0,none⟩)])+D.per d)) bufs,TT] H→∃ M,(∃ M0,qZR p q dp ap d x y (2^ea) (2^eb) (2^j) cap peak bufs v M0∧M=M0++[TT])∧Sep M H:=fun h hs=>by
  rw[hpk]at hs;exact⟨_,⟨_,h rfl,rfl⟩,hs⟩
 have hkk:=kZS (p:=p) (q:=q) (dp:=dp) (ap:=ap) (rn:=rn) (bn:=bn) (bb:=bb) (sb:=sb) (vb:=vb) (x:=x) (y:=y) (cap:=cap) (peak:=mx peak (ZN bufs+((2^j*2^ea:Nat):Int))) (bufs:=bufs) (mb:=2^j*2^ea) (TT:=TT) (fun v H'=>∃ M,(∃ M0,qZR p q dp ap d x y (2^ea) (2^eb) (2^j) cap peak bufs v M0∧M=M0++[TT])∧Sep M H') hok hx hy ho hxw hyw hdis hb1 (div_pow hjb) hsz hr1 hc1 (by rw[hsb];omega) hbm rfl
  (fun d' H hI hs=>out (fun e=>.inl ⟨d',hI,rfl,e⟩) hs) (fun d' H hd hfu hs=>out (fun e=>.inr ⟨d',hd,hfu,rfl,e⟩) hs) (2^eb/2^j) 0 d _ (List.replicate (2^j*2^ea) 0) H (by omega)
  ⟨by simpa [rT,wT]using Prog.refl (inX y) hok hl,fun _ _=>rfl,fun k hk=>by simp at hk⟩ (by simp) rfl (.inl rfl)
 have e0:((0*2^j:Nat):Int)=0:=by rw[Nat.zero_mul];rfl
 rw[e0]at hkk;refine hkk ?_;have hs:=hs.re [6,8,1,2,3,4,0,7,5] rfl;unfold eZx;simp only[Nat.zero_mul,Nat.mul_zero,List.take_zero];exact hs
end
end Trn
namespace Pas
open Go Go.Hw Go.Crc Go.Form W Shp Gol Fft Ker Str Dsk Are Trn
structure dZV (ea q j:Nat):Prop where
 le:j≤ea
 fit:2^j+1≤q
 most:j=ea∨q<2*2^j+1
theorem dZV.unique {ea q j j':Nat}(h:dZV ea q j)(h':dZV ea q j'):j=j':=by
 have key:∀{a b:Nat},dZV ea q a→dZV ea q b→¬a<b:=fun{a b} ha hb hlt=>by
  have hp:2^(a+1)≤2^b:=aZW hlt;rw[Nat.pow_succ]at hp;have h1:=hb.le;have h2:=hb.fit;rcases ha.most with e|e
  ·omega
  ·omega
 have h1:=key h h';have h2:=key h' h;omega
theorem dZV.ex {ea q:Nat}(h:2≤q):∃ j,dZV ea q j:=by
 have key:∀ t j,j+t=ea→2^j+1≤q→∃ j,dZV ea q j:=fun t=>by
  induction t with
  |zero=>intro j hj hf;exact⟨j,by omega,hf,.inl (by omega)⟩
  |succ t ih=>
   intro j hj hf;by_cases hc:2^(j+1)+1≤q
   ·exact ih (j+1) (by omega) hc
   ·rw[Nat.pow_succ]at hc;exact⟨j,by omega,hf,.inr (by omega)⟩
 exact key ea 0 (by omega) (by rw[Nat.pow_zero];omega)
theorem oZA {a b:Nat}(h:2^a=2^b):a=b:=by
 rcases Nat.lt_trichotomy a b with h1|h1|h1
 ·have:=Nat.pow_lt_pow_right (show 1<2 by omega) h1;omega
 ·exact h1
 ·have:=Nat.pow_lt_pow_right (show 1<2 by omega) h1;omega
abbrev tZj (r c per free:Int):Prop:=dZN r c=true∧c≤1048576∧cZR per=true∧per≤free∧2*c≤free-per
def qZp (r c per free:Int)(v:Value):Prop:=
 (¬tZj r c per free∧v= .tuple #[.int .i64 0,.bool false])∨
 (tZj r c per free∧∃ ea eb j:Nat,r=((2^ea:Nat):Int)∧c=((2^eb:Nat):Int)∧ea+eb≤32∧dZV ea ((free-per).toNat/2^eb) j∧v= .tuple #[.int .i64 ((2^j:Nat):Int),.bool true])
theorem tZl {r c per free:Int}{ea eb f:Nat}(hr:r=((2^ea:Nat):Int))(hc:c=((2^eb:Nat):Int))(hab:ea+eb≤32)(hf:free-per=(f:Int))(hf2:f≤9223372036854775807)(hfr:free-per≤9223372036854775807)(K:Value→Hp→Prop)(b1:Nat){L:List As}(i:Nat)
  (hi:L[i]? =some (pts b1 (.obj (.cells #[.int .i64 r,.int .i64 c] 118)))) {H:Hp} (hs:Sep L H) (hK:∀ j,dZV ea (f/2^eb) j→K (.tuple #[.int .i64 ((2^j:Nat):Int),.bool true]) H):
  ∀(t j:Nat),j+t=ea→2^j+1≤f/2^eb→aZZ.l4 K (t+1) per free ⟨b1,0,none⟩ ((2^j:Nat):Int) H:=by
 have hc1:=pow_pos eb;intro t
 induction t with
 |zero=>
  intro j hj hfit;have hp2:=aZW (show j≤32 by omega);have hp1:=pow_pos j;unfold aZZ.l4;rw[show(⟨b1,0,none⟩:Addr).add 0=⟨b1,0,none⟩from rfl];refine hs.ld i hi rfl ?_;simp only[HV];rw[ZV (x:=2*((2^j:Nat):Int)) (by omega) (by omega)];refine Zm ?_ (hK j ⟨by omega,hfit,.inl (by omega)⟩);rw[hr,show ea=j by omega];omega
 |succ t ih=>
  intro j hj hfit;have hp2:=aZW (show j+1≤32 by omega);have hp3:=aZW (show j+1≤ea by omega);have hp1:=pow_pos j;rw[Nat.pow_succ]at hp2 hp3;unfold aZZ.l4;rw[show(⟨b1,0,none⟩:Addr).add 0=⟨b1,0,none⟩from rfl];refine hs.ld i hi rfl ?_;simp only[HV];rw[ZV (x:=2*((2^j:Nat):Int)) (by omega) (by omega)];refine Zw (by rw[hr];omega) ?_;refine hs.ldf i hi rfl ?_;simp only[HV];refine⟨by rw[hc];omega,trivial,?_⟩;rw[ZV (x:=free-per) (by omega) hfr];rw[show Int.tdiv (free-per) c=((f/2^eb:Nat):Int) by rw[hf,hc];rfl];have hdl:f/2^eb≤f:=Nat.div_le_self _ _;rw[bZi (by omega),ZV (x:=2*((2^j:Nat):Int)+1) (by omega) (by omega)];by_cases hc2:2*2^j+1≤f/2^eb
  ·refine Zw (by omega) ?_;rw[ZV (by omega) (by omega),show((2^j:Nat):Int)*2=((2^(j+1):Nat):Int) by rw[Nat.pow_succ];omega];exact ih (j+1) (by omega) (by rw[Nat.pow_succ];omega)
  ·exact Zm (by omega) (hK j ⟨by omega,hfit,.inr (by omega)⟩)
theorem sZ1 (r c per free:Int)(hper: -9223372036854775808≤per∧per≤9223372036854775807)(hf:free≤9223372036854775807)(H:Hp)(hT:T64 H):
  Zc prog 174 #[.agg #[.int .i64 r,.int .i64 c],.int .i64 per,.int .i64 free] H fun v H'=>qZp r c per free v∧H'=H:=by
 refine Zc.forget ?_;apply aZZ.ok;unfold aZZ;refine(Sep.start H).nw fun b1 H1 hs=>?_
 have out:∀{v:Value},qZp r c per free v→∃ H'',H''.le H1∧qZp r c per free v∧H''=H:=fun h=>⟨H,hs.ow 0 rfl,h,rfl⟩
 first|refine hs.ldw 1 rfl rfl ?_
 try simp only[HV]
 refine Zc.use (bZZ r c H1 (hT.le (hs.ow 0 rfl))) ?_;simp only[HV];cases hg:dZN r c with
 |false=>exact aZN rfl (out (.inl ⟨fun h=>(by have h1:=h.1;rw[hg]at h1;cases h1),rfl⟩))
 |true=>
  refine aZu rfl ?_;obtain⟨ea,eb,hr,hc,hab,_,_⟩:=hZn hg;have he1:=pow_pos ea;have he2:=pow_pos eb;have he3:=aZW (show ea≤32 by omega);have he4:=aZW (show eb≤32 by omega)
  first|refine hs.ldf 1 rfl rfl ?_|refine hs.ldg 1 rfl rfl ?_
  try simp only[HV]
  by_cases h0:c>1048576
  ·exact Zw h0 (out (.inl ⟨fun h=>(by have:=h.2.1;omega),rfl⟩))
  refine Zm h0 ?_;by_cases h1:per<4
  ·exact Zw h1 (out (.inl ⟨fun h=>(by have:=eZ9 h.2.2.1;omega),rfl⟩))
  refine Zm h1 ?_;by_cases h2:per>512
  ·exact Zw h2 (out (.inl ⟨fun h=>(by have:=eZ9 h.2.2.1;omega),rfl⟩))
  refine Zm h2 ?_;have hpb:=mZe (p:=per) (by omega) (by omega);cases hp:cZR per with
  |false=>exact ZK (fun h=>by rw[hpb.1 h]at hp;cases hp) (out (.inl ⟨fun h=>(by have h1:=h.2.2.1;rw[hp]at h1;cases h1),rfl⟩))
  |true=>
   refine ZB (hpb.2 hp) ?_;by_cases h3:free<per
   ·exact Zw h3 (out (.inl ⟨fun h=>(by omega),rfl⟩))
   refine Zm h3 ?_
   first|refine hs.ldf 1 rfl rfl ?_|refine hs.ldg 1 rfl rfl ?_
   try simp only[HV]
   rw[ZV (x:=free-per) (by omega) (by omega),ZV (x:=2*c) (by omega) (by omega)];by_cases h4:free-per<2*c
   ·exact Zw h4 (out (.inl ⟨fun h=>(by omega),rfl⟩))
   refine Zm h4 ?_;obtain⟨f,hfe⟩:=Int.eq_ofNat_of_zero_le (show 0≤free-per by omega);refine⟨ea+1,?_⟩;have h2q:2≤f/2^eb:=by rw[Nat.le_div_iff_mul_le (by omega)];omega
   exact tZl hr hc hab hfe (by omega) (by omega) (fun v H'=>∃ H'',H''.le H'∧qZp r c per free v∧H''=H) b1 1 rfl hs (fun j hj=>out (.inr ⟨⟨hg,by omega,hp,by omega,by omega⟩,ea,eb,j,hr,hc,hab,by rw[hfe,Int.toNat_natCast];exact hj,rfl⟩)) ea 0 (by omega) (by rw[Nat.pow_zero];omega)
theorem sZ0 {ea eb:Nat}(per free:Int)(hper: -9223372036854775808≤per∧per≤9223372036854775807)(hf:free≤9223372036854775807)(H:Hp)(hT:T64 H)(hab:ea+eb≤32)(h:tZj ((2^ea:Nat):Int) ((2^eb:Nat):Int) per free){j:Nat}(hj:dZV ea ((free-per).toNat/2^eb) j):
  Zc prog 174 #[.agg #[.int .i64 ((2^ea:Nat):Int),.int .i64 ((2^eb:Nat):Int)],.int .i64 per,.int .i64 free] H (RetE (.tuple #[.int .i64 ((2^j:Nat):Int),.bool true]) H):=
 (sZ1 _ _ per free hper hf H hT).mono fun v H' ⟨hq,e⟩=>by
  rcases hq with⟨h',_⟩|⟨_,ea',eb',j',h1,h2,_,hj',rfl⟩
  ·exact absurd h h'
  ·have e1:ea=ea':=oZA (show 2^ea=2^ea' by omega);have e2:eb=eb':=oZA (show 2^eb=2^eb' by omega);subst e1 e2;rw[hj.unique hj'];exact⟨rfl,e⟩
def fZk (r c dir tw:Int)(xw yw:Int):Int:=
 if dZN r c=true∧xw=r*c∧yw=r*c then(if dir<0∨dir>1 then 18 else if tw< -1∨tw>32 then 2 else 0)else 19
section
variable {L : List As} {H : Hp} {p q dp ap ap' : Nat} {x y : X}
theorem jZS (hs:Sep L H)(i:Nat)(hi:L[i]? =some (pts p (ZP dp ap x)))(k:Nat)(hk:L[k]? =some (pts q (ZP dp ap y)))(hT:T64 H)(r c dir tw sh:Int):
  Zc prog 173 #[.pointer (some ⟨p,0,none⟩),.pointer (some ⟨q,0,none⟩),.agg #[.int .i64 r,.int .i64 c,.int .i64 dir,.int .i64 tw,.int .u64 sh],.pointer (some ⟨ap',0,none⟩)] H (RetE (.int .i64 (fZk r c dir tw x.w y.w)) H):=Zc.ret (by
 have hp1:=hs.get i hi;have hq1:=hs.get k hk;apply fZ0.ok;unfold fZ0;refine(Sep.start H).nw fun b1 H1 hs=>?_
 have hs:Sep [own H,pts b1 (.obj (.cells #[.int .i64 r,.int .i64 c,.int .i64 dir,.int .i64 tw,.int .u64 sh] 120))] H1:=hs;have hle:=hs.ow 0 rfl;have out:∀{v:Value},v= .int .i64 (fZk r c dir tw x.w y.w)→Ret (.int .i64 (fZk r c dir tw x.w y.w)) H v H1:=fun h=>⟨h,hle⟩
 have hw:∀{b:Nat} {z:X},H b=some (ZP dp ap z)→Zc prog 80 #[.pointer (some ⟨b,0,none⟩)] H1 (RetE (.int .i64 (z.w:Int)) H1):=fun{b z} hb=>by
  have hsP:Sep [pts b (ZP dp ap z)] H1:=⟨H1,fun _=>none,Hp.le_refl _,fun _ _ h=>(nomatch h),fun _=>.inr rfl,hle _ _ hb,trivial⟩;exact gZD hsP 0 rfl
 refine aZu rfl (aZu rfl (aZu rfl ?_));simp only[Addr.add_zero];refine hs.lda 1 rfl (show 0+2≤5 by omega) ?_;refine aZc.use (bZZ r c H1 (hT.le hle)) ?_;simp only[HV];cases hg:dZN r c with
 |false=>
  refine aZN rfl (out ?_);unfold fZk;rw[if_neg (fun h=>by rw[hg]at h;cases h.1)]
 |true=>
  refine aZu rfl ?_;refine aZc.use (hw hp1) ?_;simp only[HV];refine hs.lda 1 rfl (show 0+2≤5 by omega) ?_;refine aZc.use (jZQ r c H1 (hT.le hle)) ?_;rw[show iZb r c=r*c by unfold iZb;rw[if_pos hg]];simp only[HV];by_cases h1:(x.w:Int)=r*c
  case neg=>
   refine ZK h1 (out ?_);unfold fZk;rw[if_neg (fun h=>h1 h.2.1)]
  refine ZB h1 ?_;refine aZc.use (hw hq1) ?_;simp only[HV];refine hs.lda 1 rfl (show 0+2≤5 by omega) ?_;refine aZc.use (jZQ r c H1 (hT.le hle)) ?_;rw[show iZb r c=r*c by unfold iZb;rw[if_pos hg]];simp only[HV];by_cases h2:(y.w:Int)=r*c
  case neg=>
   refine ZK h2 (out ?_);unfold fZk;rw[if_neg (fun h=>h2 h.2.2)]
  refine ZB h2 ?_;have hc:fZk r c dir tw x.w y.w=if dir<0∨dir>1 then 18 else if tw< -1∨tw>32 then 2 else 0:=by
   unfold fZk;rw[if_pos ⟨hg,h1,h2⟩]
  refine hs.ldf 1 rfl rfl ?_;simp only[HV];by_cases h3:dir<0
  ·exact Zw h3 (out (by rw[hc,if_pos (.inl h3)]))
  refine Zm h3 ?_;refine hs.ldf 1 rfl rfl ?_;simp only[HV];by_cases h4:dir>1
  ·exact Zw h4 (out (by rw[hc,if_pos (.inr h4)]))
  refine Zm h4 ?_;refine hs.ldf 1 rfl rfl ?_;simp only[HV];by_cases h5:tw< -1
  ·exact Zw h5 (out (by rw[hc,if_neg (by omega),if_pos (.inl h5)]))
  refine Zm h5 ?_;refine hs.ldf 1 rfl rfl ?_;simp only[HV];by_cases h6:tw>32
  ·exact Zw h6 (out (by rw[hc,if_neg (by omega),if_pos (.inr h6)]))
  refine Zm h6 (out (by rw[hc,if_neg (by omega),if_neg (by omega)])))
end
theorem vZ9 (k:Nat)(hk:k<64)(H:Hp)(hT:T64 H):Zc prog 176 #[.int .u64 ((2^k:Nat):Int)] H (RetE (.int .i64 (k:Int)) H):=by
 apply cZk.ok;unfold cZk;refine Zc.use (uZq k hk H hT) ?_;simp only[HV];exact RetE.mk _ _
def cZO (j:J)(d:D)(x:X)(m:Nat):List UInt64:=(List.range m).flatMap fun q=>eZf j q (pws d x (q*2^j.eb) (2^j.eb))
theorem jZw (j:J)(d:D)(x:X):∀ m,(cZO j d x m).length=m*2^j.eb
 |0=>by simp[cZO]
 |m+1=>by
  unfold cZO;rw[List.range_succ,List.flatMap_append,List.length_append];have:=jZw j d x m;unfold cZO at this;rw[this,Nat.succ_mul];simp[hZO]
theorem oZE {d:D}{x:X}{fr n a c:Nat}(h:a+c≤n):((pws d x fr n).drop a).take c=pws d x (fr+a) c:=by
 apply List.ext_getElem?;intro i;rw[List.getElem?_take];by_cases hi:i<c
 ·rw[if_pos hi,List.getElem?_drop,jZ0 (by omega),jZ0 hi,Nat.add_assoc]
 ·rw[if_neg hi,List.getElem?_eq_none (by rw[eZe];omega)]
theorem wZy {d d':D}{x:X}{fr n:Nat}(h:∀ k,fr≤k→k<fr+n→pw d' x k=pw d x k):pws d' x fr n=pws d x fr n:=by
 unfold pws;apply List.map_congr_left;intro k hk;have:=List.mem_range.1 hk;exact h _ (by omega) (by omega)
theorem sZs {j:J}{d d':D}{x:X}(a b:Nat)(h:∀ k,k<x.w→pw d' x k=pw d x k)(hw:(a+b)*2^j.eb≤x.w):
  cZO j d x (a+b)=cZO j d x a++fZh j a (pws d' x (a*2^j.eb) (b*2^j.eb)) b:=by
 unfold cZO fZh;rw[List.range_add,List.flatMap_append,List.flatMap_map];congr 1;have:∀(l:List Nat),(∀ q,q∈l→q<b)→l.flatMap (fun q=>eZf j (a+q) (pws d x ((a+q)*2^j.eb) (2^j.eb)))=l.flatMap fun q=>eZf j (a+q) (((pws d' x (a*2^j.eb) (b*2^j.eb)).drop (q*2^j.eb)).take (2^j.eb)):=fun l=>by
  induction l with
  |nil=>intro _;rfl
  |cons q l ih=>
   intro hq;have hqb:=hq q (by simp);have h1:(q+1)*2^j.eb≤b*2^j.eb:=Nat.mul_le_mul_right _ (by omega);have h2:(a+q+1)*2^j.eb≤(a+b)*2^j.eb:=Nat.mul_le_mul_right _ (by omega);rw[Nat.succ_mul]at h1 h2;rw[List.flatMap_cons,List.flatMap_cons,ih fun q' h'=>hq q' (by simp[h']),oZE h1,←Nat.add_mul,wZy (d:=d) (d':=d') (fr:=(a+q)*2^j.eb) (n:=2^j.eb) fun k h3 h4=>h k (by omega)]
 exact this _ fun q hq=>List.mem_range.1 hq
def rP (per f f' n m:Nat):Nat:=((List.range m).map fun i=>(pcs per f n (i*n) n).length+dZx per f' n (i*n) n).sum
def wP (per f' n m:Nat):Nat:=((List.range m).map fun i=>(pcs per f' n (i*n) n).length).sum
theorem mZh (per f f' n m:Nat):rP per f f' n (m+1)=rP per f f' n m+((pcs per f n (m*n) n).length+dZx per f' n (m*n) n):=by
 unfold rP;rw[List.range_succ,List.map_append,List.sum_append];simp
theorem mZq (per f' n m:Nat):wP per f' n (m+1)=wP per f' n m+(pcs per f' n (m*n) n).length:=by
 unfold wP;rw[List.range_succ,List.map_append,List.sum_append];simp
theorem vZp (per f f' n:Nat){i j:Nat}(h:i≤j):rP per f f' n i≤rP per f f' n j:=by
 induction h with
 |refl=>exact Nat.le_refl _
 |step h ih=>rw[mZh];omega
theorem vZM (per f' n:Nat){i j:Nat}(h:i≤j):wP per f' n i≤wP per f' n j:=by
 induction h with
 |refl=>exact Nat.le_refl _
 |step h ih=>rw[mZq];omega
theorem qZL (per f f' n:Nat):∀ m,rP per f f' n m≤m*(2*n)
 |0=>by simp[rP]
 |m+1=>by
  rw[mZh,Nat.succ_mul];have h1:=qZL per f f' n m;have h2:=dZo per f n (m*n) n;have h3:=dZo per f' n (m*n) n;have h4:dZx per f' n (m*n) n≤(pcs per f' n (m*n) n).length:=List.length_filter_le _ _;omega
theorem qZ5 (per f' n:Nat):∀ m,wP per f' n m≤m*n
 |0=>by simp[wP]
 |m+1=>by
  rw[mZq,Nat.succ_mul];have h1:=qZ5 per f' n m;have h3:=dZo per f' n (m*n) n;omega
structure qZi (d d':D)(x y:X)(j:J)(b m:Nat):Prop where
 pg:Prog (inX y) d d' (rP (D.per d) x.f y.f (b*2^j.eb) m) (wP (D.per d) y.f (b*2^j.eb) m)
 src:∀ k,k<x.w→pw d' x k=pw d x k
 dst:∀ k,k<m*b*2^j.eb→pw d' y k=((cZO j d x (m*b))[k]?).getD 0
def nZI (p q dp ap:Nat)(d:D)(x y:X)(j:J)(b:Nat)(cap peak:Int)(bufs:List (Nat×Nat×Option Addr))(v:Value)(M:List As):Prop:=
 (∃ d',qZi d d' x y j b (2^j.ea/b)∧v= .tuple #[.int .u32 ((sum (form (cZO j d x (2^j.ea)))).toNat:Int),.int .i64 0]∧
  M=[pts p (ZP dp ap x),pts q (ZP dp ap y),Dk dp d',Ar ap cap (mx peak (ZN bufs+(b*2^j.eb:Nat)+(2^j.eb:Nat)+D.per d)) bufs])∨
 (∃ d',cZz (inX y) d d'∧d.fuse≤rP (D.per d) x.f y.f (b*2^j.eb) (2^j.ea/b)+wP (D.per d) y.f (b*2^j.eb) (2^j.ea/b)∧v= .tuple #[.int .u32 0,.int .i64 8]∧
  M=[pts p (ZP dp ap x),pts q (ZP dp ap y),Dk dp d',Ar ap cap (mx peak (ZN bufs+(b*2^j.eb:Nat)+(2^j.eb:Nat)+D.per d)) bufs])
section
variable {p q dp ap rn bn bb bn2 bb2 sb v2 v3 kp : Nat} {x y : X} {cap peak : Int} {bufs : List (Nat × Nat × Option Addr)} {TT : As} {j : J} {mb : Nat}
def bZ7 (bufs:List (Nat×Nat×Option Addr))(bn n:Nat)(bb:Nat):List (Nat×Nat×Option Addr):=bufs++[(bn,n,some ⟨bb,0,none⟩)]
def nZH (rn p q dp ap bn bb bn2 bb2 sb v2 v3 kp:Nat)(d0 d':D)(x y:X)(j:J)(b m:Nat)(cap pk:Int)(bufs:List (Nat×Nat×Option Addr))(ws:List UInt64)(mb:Nat)(TT:As):List As:=
 [pts sb (.obj (.cells j.a 120)),pts rn (cZh (sum (form (cZO j d0 x (m*b)))) (8*(m*b*2^j.eb)) j kp),pts bb (.row (Zd ws) 84 mb),
  pts p (ZP dp ap x),pts q (ZP dp ap y),Dk dp d',Ar ap cap pk (bZ7 (bZ7 bufs bn (b*2^j.eb) bb) bn2 (2^j.eb) bb2),pts v2 (.row [.pointer (some ⟨bn,0,none⟩)] 206 1),pts v3 (.row [.pointer (some ⟨bn2,0,none⟩)] 206 1),Kn kp j.eb,TT]
set_option maxHeartbeats 1000000 in
theorem kZS (K:Value→Hp→Prop){d:D}{b:Nat}(hT:∀ H,TT H→T64 H)(hok:Ok d)(hx:On d x)(hy:On d y)(ho:d.rd≤2000000000000000000∧d.wr≤2000000000000000000)(hab:j.ea+j.eb≤32)(hb20:j.eb≤20)(htw:j.tw≤32)(hxw:x.w=2^j.ea*2^j.eb)(hyw:y.w=2^j.ea*2^j.eb)(hdis:x.f+x.s≤y.f∨y.f+y.s≤x.f)(hb1:1≤b)(hbd:2^j.ea=2^j.ea/b*b)
  (hcap:(D.per d:Int)≤cap-ZN (bZ7 (bZ7 bufs bn (b*2^j.eb) bb) bn2 (2^j.eb) bb2)) (hbm:∀ z∈bufs,z.1≠bn) (hbm2:∀ z∈bZ7 bufs bn (b*2^j.eb) bb,z.1≠bn2)
  {P1:Int} (hP1:P1=mx peak (ZN (bZ7 (bZ7 bufs bn (b*2^j.eb) bb) bn2 (2^j.eb) bb2)+D.per d))
  (hK:∀ d' H,qZi d d' x y j b (2^j.ea/b)→Sep [pts p (ZP dp ap x),pts q (ZP dp ap y),Dk dp d',Ar ap cap P1 bufs,TT] H→K (.tuple #[.int .u32 ((sum (form (cZO j d x (2^j.ea)))).toNat:Int),.int .i64 0]) H)
  (hK8:∀ d' H,cZz (inX y) d d'→d.fuse≤rP (D.per d) x.f y.f (b*2^j.eb) (2^j.ea/b)+wP (D.per d) y.f (b*2^j.eb) (2^j.ea/b)→Sep [pts p (ZP dp ap x),pts q (ZP dp ap y),Dk dp d',Ar ap cap P1 bufs,TT] H→K (.tuple #[.int .u32 0,.int .i64 8]) H):
  ∀(t m:Nat) (z:Int) (d':D) (pk:Int) (ws:List UInt64) (H:Hp),z=((m*b:Nat):Int)→m+t=2^j.ea/b→qZi d d' x y j b m→ws.length=b*2^j.eb→mx pk (ZN (bZ7 (bZ7 bufs bn (b*2^j.eb) bb) bn2 (2^j.eb) bb2)+D.per d)=P1→(m=0∨pk=P1)→Sep (nZH rn p q dp ap bn bb bn2 bb2 sb v2 v3 kp d d' x y j b m cap pk bufs ws mb TT) H→
   aZz.l17 K (t+1) (some ⟨p,0,none⟩) (some ⟨q,0,none⟩) ⟨sb,0,none⟩ (b:Int) (some ⟨bn,0,none⟩) ⟨rn,0,none⟩ z (some ⟨ap,0,none⟩) (some ⟨v3,0,none⟩) 1 1 (some ⟨ap,0,none⟩) (some ⟨v2,0,none⟩) 1 1 H:=fun t=>by
 have hp:=Ok.per_le hok;have hsz:=size_le hab;have hr1:=pow_pos j.ea;have hc1:=pow_pos j.eb;have hnb:2^j.ea/b≤2^j.ea:=Nat.div_le_self _ _;have hn1:1≤2^j.ea/b:=by
  have:2^j.ea/b≠0:=fun h0=>by rw[h0,Nat.zero_mul]at hbd;omega
  exact Nat.pos_of_ne_zero this
 have hcc:2^j.ea/b*(b*2^j.eb)=2^j.ea*2^j.eb:=by rw[← Nat.mul_assoc,←hbd]
 have hbr:b*2^j.eb≤2^j.ea*2^j.eb:=by rw[← hcc];exact Nat.le_mul_of_pos_left _ hn1
 have hbb:b≤2^j.ea:=by
  have:1*b≤2^j.ea/b*b:=Nat.mul_le_mul_right b hn1;omega
 have hbc1:1*2^j.eb≤b*2^j.eb:=Nat.mul_le_mul_right _ hb1;have hr32:=aZW (show j.ea≤32 by omega);have cnt:∀ m,m≤2^j.ea/b→m*(2*(b*2^j.eb))≤2*(2^j.ea*2^j.eb)∧m*(b*2^j.eb)≤2^j.ea*2^j.eb:=fun m hm=>by
  have:m*(b*2^j.eb)≤2^j.ea*2^j.eb:=by rw[← hcc];exact Nat.mul_le_mul_right _ hm
  refine⟨?_,this⟩;rw[Nat.mul_left_comm];omega
 have gives:∀{d':D} {H:Hp} {K':Hp→Prop},Sep [Ar ap cap P1 (bZ7 (bZ7 bufs bn (b*2^j.eb) bb) bn2 (2^j.eb) bb2),pts v3 (.row [.pointer (some ⟨bn2,0,none⟩)] 206 1),pts v2 (.row [.pointer (some ⟨bn,0,none⟩)] 206 1),pts p (ZP dp ap x),pts q (ZP dp ap y),Dk dp d',TT] H→
   (∀ H,Sep [pts p (ZP dp ap x),pts q (ZP dp ap y),Dk dp d',Ar ap cap P1 bufs,TT] H→K' H)→
   aZ9 prog 130 #[.pointer (some ⟨ap,0,none⟩),.slice (some ⟨v3,0,none⟩) 1 1] H fun _ H=>aZ9 prog 130 #[.pointer (some ⟨ap,0,none⟩),.slice (some ⟨v2,0,none⟩) 1 1] H fun _ H=>K' H:=fun hs k=>by
  refine(cZw v3 bn2 (2^j.eb) (some ⟨bb2,0,none⟩) hbm2).use hs [0,1] rfl rfl ?_;rintro _ _ H ⟨rfl,rfl⟩ hs;refine(cZw v2 bn (b*2^j.eb) (some ⟨bb,0,none⟩) hbm).use hs [0,1] rfl rfl ?_;rintro _ _ H ⟨rfl,rfl⟩ hs;exact k H (hs.re [1,2,3,0,4] rfl)
 induction t with
 |zero=>
  rintro m _ d' pk ws H rfl hm hI hws hpk hip hs;have hme:m=2^j.ea/b:=by omega
  subst hme;unfold nZH at hs;unfold aZz.l17;rw[show((⟨sb,0,none⟩:Addr).add 0).add 0=⟨sb,0,none⟩from rfl];refine hs.ld 0 rfl rfl ?_;simp only[HV];rw[← hbd];refine Zm (Int.lt_irrefl _) ?_;rw[Addr.add_zero];refine Zc.use (CrcP.pZg hs 1 rfl) ?_
  try simp only[HV]
  rw[← hbd];rw[hip.resolve_left (by omega)]at hs;exact gives (hs.re [6,8,7,3,4,5,10] rfl) fun H hs=>hK d' H hI hs
 |succ t ih=>
  rintro m _ d' pk ws H rfl hm hI hws hpk hip hs;have hmlt:m<2^j.ea/b:=by omega
  have hmb:(m+1)*b≤2^j.ea:=by
   have h1:(m+1)*b≤2^j.ea/b*b:=Nat.mul_le_mul_right b hmlt;omega
  have hmb':=hmb;rw[Nat.succ_mul]at hmb';have hper:D.per d'=D.per d:=hI.pg.per;have hxd:=hx.prog hI.pg;have hyd:=hy.prog hI.pg;have hrt:=qZL (D.per d) x.f y.f (b*2^j.eb) m;have hwt:=qZ5 (D.per d) y.f (b*2^j.eb) m;have hcnt:=cnt m (by omega);have hrd:=hI.pg.rd;have hwr:=hI.pg.wr;have hmr:(m*b+b)*2^j.eb≤2^j.ea*2^j.eb:=Nat.mul_le_mul_right _ hmb';have hmr':=hmr;rw[Nat.add_mul]at hmr;unfold nZH at hs;unfold aZz.l17;rw[show((⟨sb,0,none⟩:Addr).add 0).add 0=⟨sb,0,none⟩from rfl];refine hs.ld 0 rfl rfl ?_;simp only[HV];refine Zw (by omega) ?_;refine Zc.use (eZD hs 6 rfl (b:=bn) (n:=b*2^j.eb) (A:=some ⟨bb,0,none⟩) (by simp[bZ7])) ?_
  try simp only[HV]
  refine(tZm (rn:=rn) (p:=p) (q:=q) (dp:=dp) (ap:=ap) (kp:=kp) (bb:=bb) (mb:=mb) (s:=sum (form (cZO j d x (m*b)))) (sk:=8*(m*b*2^j.eb)) (j:=j) (x:=x) (y:=y) (cap:=cap) (peak:=pk) (bufs:=bZ7 (bZ7 bufs bn (b*2^j.eb) bb) bn2 (2^j.eb) bb2) (d:=d') (r:=m*b) (nb:=b) hT hI.pg.ok hI.pg.down hxd hyd (by omega) hb20 htw hb1 (by omega) (by omega) (by rw[hxw];exact hmr) (by rw[hyw];exact hmr) (by omega) (by omega) (by rw[hper];exact hcap) ws hws).use hs [1,2,3,4,5,6,9,10] rfl rfl ?_;rintro v M H hQ hs;unfold wZd at hQ;rw[hper]at hQ;simp only at hQ;have hPP:mx P1 (ZN (bZ7 (bZ7 bufs bn (b*2^j.eb) bb) bn2 (2^j.eb) bb2)+D.per d)=P1:=by rw[hP1,lZz]
  have hma:m*(b*2^j.eb)=m*b*2^j.eb:=(Nat.mul_assoc _ _ _).symm;have hrs:=mZh (D.per d) x.f y.f (b*2^j.eb) m;have hws':=mZq (D.per d) y.f (b*2^j.eb) m;rw[hma]at hrs hws';rcases hQ with⟨hpg2,rfl,rfl⟩|⟨d2,hdd,hfu,rfl,rfl⟩
  case inr=>
   simp only[HV];refine ZK (by decide) ?_;rw[hpk]at hs;refine gives (hs.re [3,7,6,0,1,2,4] rfl) fun H hs=>hK8 d2 H (hI.pg.dead hdd) ?_ hs
   have z1:=hI.pg.fuse;have z2:=hI.pg.go;have z3:=vZp (D.per d) x.f y.f (b*2^j.eb) (show m+1≤2^j.ea/b by omega);have z4:=vZM (D.per d) y.f (b*2^j.eb) (show m+1≤2^j.ea/b by omega);omega
  simp only[HV];refine ZB rfl ?_;generalize ht0:(pcs (D.per d) x.f (b*2^j.eb) (m*b*2^j.eb) (b*2^j.eb)).length=t0 at*;have hok1:Ok (D.rdG d' t0):=Ok.rdG hI.pg.ok t0;have hU:=sZs (j:=j) (d:=d) (d':=d') (x:=x) (m*b) b hI.src (by rw[hxw];exact hmr');have hul:(fZh j (m*b) (pws d' x (m*b*2^j.eb) (b*2^j.eb)) b).length=b*2^j.eb:=hZE _ _ _ _;generalize hus:fZh j (m*b) (pws d' x (m*b*2^j.eb) (b*2^j.eb)) b=us at*;have hpw:=fun k=>mZr y hok1 (m*b*2^j.eb) us k
  rw[hul]at hpw;have hpg3:=hI.pg.trans hpg2;rw[← hrs,←hws']at hpg3;have htk:m*b+b=(m+1)*b:=(Nat.succ_mul m b).symm;rw[htk]at hU;have hUl:=jZw j d x (m*b);have hI2:qZi d (eZh (D.rdG d' t0) y (b*2^j.eb) (m*b*2^j.eb) us) x y j b (m+1):=by
   refine⟨hpg3,fun k hk=>hpg3.pw hok hx (fun i hi=>?_) hk,fun k hk=>?_⟩
   ·unfold inX at hi;omega
   ·rw[hpw k];have hk2:k<m*b*2^j.eb+b*2^j.eb:=by
     rw[← htk,Nat.add_mul]at hk;exact hk
    rw[hU];by_cases h1:m*b*2^j.eb≤k
    ·rw[if_pos ⟨h1,hk2⟩,List.getElem?_append_right (by omega),hUl]
    ·rw[if_neg (by omega),List.getElem?_append_left (by omega)];exact hI.dst k (by omega)
  have hcs:more (sum (form (cZO j d x (m*b)))) (form us)=sum (form (cZO j d x ((m+1)*b))):=by
   rw[hU,iZi];unfold sum;rw[more_append]
  have hsk:8*(m*b*2^j.eb)+8*(b*2^j.eb)=8*((m+1)*b*2^j.eb):=by rw[← htk,Nat.add_mul];omega
  rw[hcs,hsk,hpk]at hs;refine ih (m+1) _ _ P1 us H ?_ (by omega) hI2 hul hPP (.inr rfl) ?_
  ·rw[← Int.natCast_add,htk,bZi (by omega)]
  ·exact hs.re [8,0,1,2,3,4,5,9,10,6,7] rfl
end
theorem mx3 (p a b c:Int)(h1:a≤b)(h2:b≤c):mx (mx (mx p a) b) c=mx p c:=by
 have key:∀ p a b:Int,a≤b→mx (mx p a) b=mx p b:=fun p a b h=>by
  unfold mx;by_cases h1:a>p
  ·rw[if_pos h1];by_cases h2:b>a
   ·rw[if_pos h2,if_pos (by omega)]
   ·rw[if_neg h2,if_pos (by omega)];omega
  ·rw[if_neg h1]
 rw[key p a b h1,key p b c h2]
section
variable {p q dp ap : Nat} {x y : X} {cap peak : Int} {bufs : List (Nat × Nat × Option Addr)} {L : List As} {H : Hp} {TT : As} {j : J}
theorem qZr (hab:j.ea+j.eb≤32)(htw: -1≤j.tw∧j.tw≤32)(hxw:x.w=2^j.ea*2^j.eb)(hyw:y.w=2^j.ea*2^j.eb):fZk ((2^j.ea:Nat):Int) ((2^j.eb:Nat):Int) (if j.d=true then 1 else 0) j.tw x.w y.w=0:=by
 unfold fZk;rw[if_pos ⟨hZ4 hab,by rw[hxw,Int.natCast_mul],by rw[hyw,Int.natCast_mul]⟩,if_neg (by cases j.d<;>decide),if_neg (by omega)]
set_option maxHeartbeats 1000000 in
theorem nZX {d:D}{jb:Nat}(hT:∀ H,TT H→T64 H)(hok:Ok d)(hl:d.down=false)(hx:On d x)(hy:On d y)(ho:d.rd≤2000000000000000000∧d.wr≤2000000000000000000)(hab:j.ea+j.eb≤32)(hb20:j.eb≤20)(htw: -1≤j.tw∧j.tw≤32)(hxw:x.w=2^j.ea*2^j.eb)(hyw:y.w=2^j.ea*2^j.eb)(hdis:x.f+x.s≤y.f∨y.f+y.s≤x.f)
  (hper:cZR (D.per d:Int)=true) (hcap:cap≤1000000000000) (hsum:0≤ZN bufs) (hfr:(D.per d:Int)+2*(2^j.eb:Nat)≤cap-ZN bufs) (hj:dZV j.ea ((cap-ZN bufs-D.per d).toNat/2^j.eb) jb):
  Tr prog 132 #[.pointer (some ⟨p,0,none⟩),.pointer (some ⟨q,0,none⟩),.agg j.a,.pointer (some ⟨ap,0,none⟩),.int .i64 (D.per d:Int)]
   [pts p (ZP dp ap x),pts q (ZP dp ap y),Dk dp d,Ar ap cap peak bufs,TT] fun v M=>∃ M0,nZI p q dp ap d x y j (2^jb) cap peak bufs v M0∧M=M0++[TT]:=fun H hs=>by
 have hp:=Ok.per_le hok;have hsz:=size_le hab;have hr1:=pow_pos j.ea;have hc1:=pow_pos j.eb;have hc20:=aZW hb20;have hb1:=pow_pos jb;have hjb:=hj.le;have hfit:=hj.fit;have hbsz:2^jb*2^j.eb≤2^j.ea*2^j.eb:=Nat.mul_le_mul_right _ (aZW hjb);have hbc:1*2^j.eb≤2^jb*2^j.eb:=Nat.mul_le_mul_right _ hb1;have hroom:2^jb*2^j.eb+2^j.eb≤(cap-ZN bufs-D.per d).toNat:=by
  rw[Nat.le_div_iff_mul_le (by omega),Nat.add_mul,Nat.one_mul]at hfit;exact hfit
 have hroom':((2^jb*2^j.eb:Nat):Int)+((2^j.eb:Nat):Int)≤cap-ZN bufs-D.per d:=by omega
 apply aZz.ok;unfold aZz aZz.q1;refine hs.nw fun sb H hs=>?_
 have hs:Sep [pts p (ZP dp ap x),pts q (ZP dp ap y),Dk dp d,Ar ap cap peak bufs,TT,pts sb (.obj (.cells j.a 120))] H:=hs;refine hs.ldw 5 rfl rfl ?_;refine Zc.use (jZS (ap':=ap) hs 0 rfl 1 rfl (gZY hT hs 4 rfl) _ _ _ _ _) ?_;rw[qZr hab htw hxw hyw];simp only[HV];refine ZB rfl ?_;simp only[Addr.add_zero];refine hs.lda 5 rfl (show 0+2≤5 by omega) ?_;refine aZc.use (rZM hs 3 rfl) ?_;simp only[HV];refine aZc.use (sZ0 (ea:=j.ea) (eb:=j.eb) (D.per d) (cap-ZN bufs) ⟨by omega,by omega⟩ (by omega) H (gZY hT hs 4 rfl) hab ⟨hZ4 hab,by omega,hper,by omega,by omega⟩ hj) ?_;simp only[HV];refine hs.ldf 5 rfl rfl ?_;simp only[HV];rw[← Int.natCast_mul,bZi (by omega)];refine(eZZ (a:=ap) (cap:=cap) (peak:=peak) (bufs:=bufs) (n:=2^jb*2^j.eb) (by omega) (by omega)).use hs [3] rfl rfl ?_;rintro _ _ H ⟨bn,bb,rfl,rfl⟩ hs;simp only[HV];refine ZB rfl ?_;have fresh:∀{L:List As} {H:Hp} {bufs:List (Nat×Nat×Option Addr)} {pk:Int} (b n rb:Nat),Sep L H→L[0]? =some (Ar ap cap pk (bufs++[(b,n,some ⟨rb,0,none⟩)]))→∀ z∈bufs,z.1≠b:=fun{L H bufs pk} b n rb hs h0 z hz e=>by
  obtain⟨mp,cl,tk,hA⟩:=Sep.ar hs 0 h0;have:=hA.bn;rw[List.map_append,List.nodup_append]at this;exact this.2.2 z.1 (List.mem_map_of_mem hz) b (by simp) e
 have hbm:∀ z∈bufs,z.1≠bn:=fresh bn _ bb hs rfl;refine hs.nw fun v2 H hs=>?_
 refine hs.ldf 6 rfl rfl ?_;simp only[HV];have hsb1:ZN (bufs++[(bn,2^jb*2^j.eb,some ⟨bb,0,none⟩)])=ZN bufs+((2^jb*2^j.eb:Nat):Int):=by
  rw[fZo];simp[ZN]
 refine(eZZ (a:=ap) (cap:=cap) (bufs:=bufs++[(bn,2^jb*2^j.eb,some ⟨bb,0,none⟩)]) (n:=2^j.eb) (by omega) (by omega)).use hs [0] rfl rfl ?_;rintro _ _ H ⟨bn2,bb2,rfl,rfl⟩ hs;simp only[HV];refine ZB rfl ?_;have hbm2:∀ z∈bZ7 bufs bn (2^jb*2^j.eb) bb,z.1≠bn2:=fresh bn2 _ bb2 hs rfl;refine hs.nw fun v3 H hs=>?_
 have hsb2:ZN (bZ7 (bZ7 bufs bn (2^jb*2^j.eb) bb) bn2 (2^j.eb) bb2)=ZN bufs+((2^jb*2^j.eb:Nat):Int)+((2^j.eb:Nat):Int):=by
  unfold bZ7;rw[fZo,hsb1];simp[ZN]
  -- what is known from here on
 have hpk:mx (mx (mx peak (ZN bufs+((2^jb*2^j.eb:Nat):Int))) (ZN bufs+((2^jb*2^j.eb:Nat):Int)+((2^j.eb:Nat):Int))) (ZN (bZ7 (bZ7 bufs bn (2^jb*2^j.eb) bb) bn2 (2^j.eb) bb2)+D.per d)=mx peak (ZN bufs+((2^jb*2^j.eb:Nat):Int)+((2^j.eb:Nat):Int)+D.per d):=by
  rw[hsb2];exact mx3 _ _ _ _ (by omega) (by omega)
 rw[hsb1]at hs;have hs:Sep [Ar ap cap (mx (mx peak (ZN bufs+((2^jb*2^j.eb:Nat):Int))) (ZN bufs+((2^jb*2^j.eb:Nat):Int)+((2^j.eb:Nat):Int))) (bZ7 (bZ7 bufs bn (2^jb*2^j.eb) bb) bn2 (2^j.eb) bb2),pts bb2 (.row (bZr (2^j.eb)) 84 (2^j.eb)),pts bb (.row (bZr (2^jb*2^j.eb)) 84 (2^jb*2^j.eb)),
  pts p (ZP dp ap x),pts q (ZP dp ap y),Dk dp d,TT,pts sb (.obj (.cells j.a 120)),pts v2 (.row [.pointer (some ⟨bn,0,none⟩)] 206 1),pts v3 (.row [.pointer (some ⟨bn2,0,none⟩)] 206 1)] H:=hs
 have hz:bZr (2^jb*2^j.eb)=Zd (List.replicate (2^jb*2^j.eb) 0):=by
  unfold bZr;rw[bZD];unfold Zd;rw[List.map_replicate];rfl
 rw[hz]at hs;have fin:∀(kp:Nat) (H:Hp),Sep [Kn kp j.eb,Ar ap cap (mx (mx peak (ZN bufs+((2^jb*2^j.eb:Nat):Int))) (ZN bufs+((2^jb*2^j.eb:Nat):Int)+((2^j.eb:Nat):Int))) (bZ7 (bZ7 bufs bn (2^jb*2^j.eb) bb) bn2 (2^j.eb) bb2),pts bb2 (.row (bZr (2^j.eb)) 84 (2^j.eb)),pts bb (.row (Zd (List.replicate (2^jb*2^j.eb) 0)) 84 (2^jb*2^j.eb)),
   pts p (ZP dp ap x),pts q (ZP dp ap y),Dk dp d,TT,pts sb (.obj (.cells j.a 120)),pts v2 (.row [.pointer (some ⟨bn,0,none⟩)] 206 1),pts v3 (.row [.pointer (some ⟨bn2,0,none⟩)] 206 1)] H→
   Nw H (.obj (.cells #[.int .u32 0,.int .i64 0,.int .i64 ((2^j.ea:Nat):Int),.int .i64 ((2^j.eb:Nat):Int),.int .i64 (if j.d=true then 1 else 0),.int .i64 j.tw,.int .u64 (j.sh.toNat:Int),.pointer (some ⟨kp,0,none⟩)] 271)) fun b4 H9=>
    aZz.j16 (fun v H'=>∃ M,(∃ M0,nZI p q dp ap d x y j (2^jb) cap peak bufs v M0∧M=M0++[TT])∧Sep M H') (some ⟨p,0,none⟩) (some ⟨q,0,none⟩) ⟨sb,0,none⟩ ((2^jb:Nat):Int) (some ⟨bn,0,none⟩) ⟨b4,0,none⟩ (some ⟨ap,0,none⟩) (some ⟨v3,0,none⟩) 1 1 (some ⟨ap,0,none⟩) (some ⟨v2,0,none⟩) 1 1 H9:=fun kp H hs=>by
  refine hs.nw fun rn H hs=>?_
  unfold aZz.j16;refine⟨2^j.ea/2^jb+1,?_⟩;have out:∀{v:Value} {d':D} {H:Hp},(∀{M},M=[pts p (ZP dp ap x),pts q (ZP dp ap y),Dk dp d',Ar ap cap (mx peak (ZN bufs+((2^jb*2^j.eb:Nat):Int)+((2^j.eb:Nat):Int)+D.per d)) bufs]→nZI p q dp ap d x y j (2^jb) cap peak bufs v M)→
    Sep [pts p (ZP dp ap x),pts q (ZP dp ap y),Dk dp d',Ar ap cap (mx peak (ZN bufs+((2^jb*2^j.eb:Nat):Int)+((2^j.eb:Nat):Int)+D.per d)) bufs,TT] H→∃ M,(∃ M0,nZI p q dp ap d x y j (2^jb) cap peak bufs v M0∧M=M0++[TT])∧Sep M H:=fun h hs=>⟨_,⟨_,h rfl,rfl⟩,hs⟩
  refine kZS (p:=p) (q:=q) (dp:=dp) (ap:=ap) (rn:=rn) (bn:=bn) (bb:=bb) (bn2:=bn2) (bb2:=bb2) (sb:=sb) (v2:=v2) (v3:=v3) (kp:=kp) (x:=x) (y:=y) (cap:=cap) (bufs:=bufs) (TT:=TT) (j:=j) (mb:=2^jb*2^j.eb) (peak:=mx (mx peak (ZN bufs+((2^jb*2^j.eb:Nat):Int))) (ZN bufs+((2^jb*2^j.eb:Nat):Int)+((2^j.eb:Nat):Int))) _ hT hok hx hy ho hab hb20 htw.2 hxw hyw hdis hb1 (div_pow hjb) (by rw[hsb2];omega) hbm hbm2 hpk.symm
   (fun d' H hI hs=>out (fun e=>.inl ⟨d',hI,rfl,e⟩) hs) (fun d' H hd hfu hs=>out (fun e=>.inr ⟨d',hd,hfu,rfl,e⟩) hs) (2^j.ea/2^jb) 0 0 d _ (List.replicate (2^jb*2^j.eb) 0) H (by rw[Nat.zero_mul];rfl) (by omega)
   ⟨by simpa [rP,wP]using Prog.refl (inX y) hok hl,fun _ _=>rfl,fun k hk=>by simp at hk⟩ (by simp) hpk (.inl rfl) ?_
  have hs:=hs.re [8,11,3,4,5,6,1,9,10,0,7] rfl;unfold nZH;simp only[Nat.zero_mul,Nat.mul_zero];have e0:sum (form (cZO j d x 0))=0#32:=by
   show sum (form [])=0#32
   decide
  rw[e0];exact hs
 have tz:∀ H,T64 H→Zc prog 176 #[.int .u64 (IntKind.u64.wrap ((2^j.eb:Nat):Int))] H (RetE (.int .i64 (j.eb:Int)) H):=fun H hT=>by
  rw[bZ1 (by omega)];exact vZ9 j.eb (by omega) H hT
 refine⟨?_,?_⟩
 ·refine hs.ldw 7 rfl rfl ?_;refine hs.ldf 7 rfl rfl ?_;simp only[HV];refine Zc.use (tz H (gZY hT hs 6 rfl)) ?_;simp only[HV];refine(dZA j.eb hb20).use hs [] rfl rfl ?_;rintro _ _ H ⟨kp,rfl,rfl⟩ hs;simp only[HV];exact fin kp H hs
 refine hs.ldf 7 rfl rfl ?_;simp only[HV];refine⟨?_,?_,?_⟩
 ·refine hs.ldw 7 rfl rfl ?_;refine Zc.use (tz H (gZY hT hs 6 rfl)) ?_;simp only[HV];refine(dZA j.eb hb20).use hs [] rfl rfl ?_;rintro _ _ H ⟨kp,rfl,rfl⟩ hs;simp only[HV];exact fin kp H hs
 ·refine hs.ldw 7 rfl rfl ?_;refine Zc.use (tz H (gZY hT hs 6 rfl)) ?_;simp only[HV];refine(dZA j.eb hb20).use hs [] rfl rfl ?_;rintro _ _ H ⟨kp,rfl,rfl⟩ hs;simp only[HV];exact fin kp H hs
 refine Zc.use (tz H (gZY hT hs 6 rfl)) ?_;simp only[HV];refine⟨?_,?_⟩
 ·refine hs.ldw 7 rfl rfl ?_;refine(dZA j.eb hb20).use hs [] rfl rfl ?_;rintro _ _ H ⟨kp,rfl,rfl⟩ hs;simp only[HV];exact fin kp H hs
 ·refine(dZA j.eb hb20).use hs [] rfl rfl ?_;rintro _ _ H ⟨kp,rfl,rfl⟩ hs;simp only[HV];refine hs.ldw 8 rfl rfl ?_;exact fin kp H hs
end
end Pas
namespace Str
open Go Go.Hw Go.Form W Dsk Are
end Str
namespace Trn
open Go Go.Hw Go.Crc Go.Form W Shp Str Dsk Are
structure kZ5 (d:D)(k n:Nat):Prop where
 ok:Ok d
 down:d.down=false
 fuse:d.fuse=0
 cnt:d.rd≤100000000∧d.wr≤100000000
 sec:d.sec=2*k+1
 size:d.size=32
theorem kZ5.per {d:D}{k n:Nat}(h:kZ5 d k n):D.per d=4:=by unfold D.per;rw[h.size]
theorem kZ5.prog {S:Int→Prop}{d d':D}{k n r w:Nat}(h:kZ5 d k n)(hp:Prog S d d' r w)(hc:d'.rd≤100000000∧d'.wr≤100000000):kZ5 d' k n:=
 ⟨hp.ok,hp.down,by rw[hp.fuse,h.fuse];omega,hc,by rw[hp.sec,h.sec],by rw[hp.size,h.size]⟩
section
variable {A : Option Addr} {n m : Nat} {R : As}
end
theorem pZL {d:D}{x:X}{n:Nat}{f:Nat→UInt64}(h:∀ j,j<n→pw d x j=f j):pws d x 0 n=(List.range n).map f:=by
 unfold pws;apply List.map_congr_left;intro j hj;rw[Nat.zero_add];exact h j (List.mem_range.1 hj)
theorem sZo (l:List UInt64):(List.range l.length).map (fun j=>(l[j]?).getD 0)=l:=by
 apply List.ext_getElem?;intro j;rw[List.getElem?_map];by_cases hj:j<l.length
 ·rw[List.getElem?_range hj,Option.map_some,List.getElem?_eq_getElem hj];rfl
 ·rw[List.getElem?_eq_none (by simp;omega),List.getElem?_eq_none (by omega)];rfl
section
variable {p q dp ap : Nat} {x y : X} {cap peak : Int} {TT : As}
end
section
variable {p q dp ap : Nat} {x y : X} {cap peak : Int} {bufs : List (Nat × Nat × Option Addr)} {L : List As} {H : Hp}
end
def trL (l:List UInt64)(rows cols:Nat):List UInt64:=(List.range (rows*cols)).map fun k=>(l[k%rows*cols+k/rows]?).getD 0
theorem mZm (l:List UInt64)(rows cols:Nat):(trL l rows cols).length=rows*cols:=by simp[trL]
def m1 (q:Nat):Nat:=if 1<q then q else 1
end Trn
namespace Pas
open Go Go.Hw Go.Crc Go.Form W Shp Gol Fft Ker Str Dsk Are Trn
section
variable {p q dp ap : Nat} {x y : X} {cap peak : Int} {TT : As} {j : J}
end
end Pas
namespace W
open Go Go.Hw
theorem bZH :prog.follows .mixedOrders=true:=by kernel_rfl
def cZm (A1:Option Addr)(n1:Nat)(m1:Nat)(x1:Int)(x2:Int)(H:Hp)(K:Value→Hp→Prop):Prop:=
 HcS 46 #[.slice A1 n1 m1,.int .i64 x1,.int .i64 x2] H fun A2 n2 m2 H1=>BIf (x2==1) (HcW 48 #[.int .i64 x1] H1 fun x3 H2=>HcS 47 #[.slice A2 n2 m2,.int .u64 x3] H2 fun A3 n3 m3 H3=>K (.slice A3 n3 m3) H3) (K (.slice A2 n2 m2) H1)
theorem cZm.ok (A1:Option Addr)(n1:Nat)(m1:Nat)(x1:Int)(x2:Int)(H:Hp)(K:Value→Hp→Prop)(h:cZm A1 n1 m1 x1 x2 H K):Zc prog 21 #[.slice A1 n1 m1,.int .i64 x1,.int .i64 x2] H K:=
 Zr Tryz.func21 rfl (nbl rfl) (Zf (Λ:=Zn.none (fun _=>none)) bZH _ _ _ _ _ (Eq.mp (by kernel_rfl) h) (Zt _ _ _ _ _))
def ZF.l10 (K:Value→Hp→Prop)(R5:Option Addr→Nat→Nat→Int→Option Addr→Nat→Nat→Int→Int→Hp→Prop):Nat→Option Addr→Nat→Nat→Int→Option Addr→Nat→Nat→Int→Int→Int→Int→Int→Hp→Prop
 |0,_,_,_,_,_,_,_,_,_,_,_,_,_=>False
 |k+1,A4,n4,m4,x7,A5,n5,m5,x8,x9,x10,x11,x12,H=>
  let R10:=ZF.l10 K R5 k
  BIf (decide (x12<(n4:Int))) (ixI x12 n4 (NN A4 fun a1=>LeW H (a1.add (x12.toNat*1)) fun x13=>HcW 87 #[.int .u64 x13,.int .u64 x11] H fun x14 H2=>HcW 86 #[.int .u64 x10,.int .u64 x14] H2 fun x15 H3=>HcW 87 #[.int .u64 x11,.int .u64 x8] H3 fun x16 H4=>R10 A4 n4 m4 x7 A5 n5 m5 x8 x9 x15 x16 (IntKind.i64.wrap (x12+1)) H4)) (Nw H (.row [.int .u64 x10] 84 1) fun b1 H5=>cZ7 prog 84 (.slice A5 n5 m5) (.slice (some ⟨b1,0,none⟩) 1 1) H5 fun v6 H6=>DSl v6 fun A6 n6 m6=>HcW 87 #[.int .u64 x8,.int .u64 x7] H6 fun x17 H7=>R5 A4 n4 m4 x7 A6 n6 m6 x17 (IntKind.i64.wrap (x9+1)) H7)
def ZF.l5 (K:Value→Hp→Prop):Nat→Option Addr→Nat→Nat→Int→Option Addr→Nat→Nat→Int→Int→Hp→Prop
 |0,_,_,_,_,_,_,_,_,_,_=>False
 |k+1,A2,n2,m2,x4,A3,n3,m3,x5,x6,H=>
  let R5:=ZF.l5 K k
  BIf (decide (x6<(n2:Int))) ((∃ k,ZF.l10 K R5 k A2 n2 m2 x4 A3 n3 m3 x5 x6 0 1 0 H)) (K (.slice A3 n3 m3) H)
def ZF (A1:Option Addr)(n1:Nat)(m1:Nat)(x1:Int)(x2:Int)(H:Hp)(K:Value→Hp→Prop):Prop:=
 HcW 85 #[.int .i64 x1,.int .i64 x2] H fun x3 H1=>(∃ k,ZF.l5 K k A1 n1 m1 x3 none 0 0 1 0 H1)
def ZF.l5.L (K:Value→Hp→Prop)(k:Nat):Mid:=fun E D H=>
 DG (E.get? 0) fun w0=>DSl w0 fun A2 n2 m2=>eI E 7 .u64 fun x4=>DG (E.get? 8) fun w8=>DSl w8 fun A3 n3 m3=>eI E 9 .u64 fun x5=>eI E 10 .i64 fun x6=>Zo D (ZF.l5 K k A2 n2 m2 x4 A3 n3 m3 x5 x6 H)
def ZF.l10.L (K:Value→Hp→Prop)(R5:Option Addr→Nat→Nat→Int→Option Addr→Nat→Nat→Int→Int→Hp→Prop)(k:Nat):Mid:=fun E D H=>
 DG (E.get? 0) fun w0=>DSl w0 fun A4 n4 m4=>eI E 7 .u64 fun x7=>DG (E.get? 8) fun w8=>DSl w8 fun A5 n5 m5=>eI E 9 .u64 fun x8=>eI E 10 .i64 fun x9=>eI E 11 .u64 fun x10=>eI E 12 .u64 fun x11=>eI E 13 .i64 fun x12=>Zo D (ZF.l10 K R5 k A4 n4 m4 x7 A5 n5 m5 x8 x9 x10 x11 x12 H)
def ZF.Λ10 (_:Value→Hp→Prop)(_R5:Option Addr→Nat→Nat→Int→Option Addr→Nat→Nat→Int→Int→Hp→Prop)(_R10:Option Addr→Nat→Nat→Int→Option Addr→Nat→Nat→Int→Int→Int→Int→Int→Hp→Prop):Zn:=Zn.none (fun _=>none)
def ZF.Λ5 (K:Value→Hp→Prop)(R5:Option Addr→Nat→Nat→Int→Option Addr→Nat→Nat→Int→Int→Hp→Prop):Zn:=⟨fun i=>none,fun i=>match Nat.beq i 10 with|true=>some (fun E D H=>∃ k,ZF.l10.L K R5 k E D H)|false=>none,(fun _=>none)⟩
def ZF.Λ (K:Value→Hp→Prop):Zn:=⟨fun i=>none,fun i=>match Nat.beq i 5 with|true=>some (fun E D H=>∃ k,ZF.l5.L K k E D H)|false=>none,(fun _=>none)⟩
theorem ZF.ok (A1:Option Addr)(n1:Nat)(m1:Nat)(x1:Int)(x2:Int)(H:Hp)(K:Value→Hp→Prop)(h:ZF A1 n1 m1 x1 x2 H K):Zc prog 46 #[.slice A1 n1 m1,.int .i64 x1,.int .i64 x2] H K:=
 Zr Tryz.func46 rfl (nbl rfl) (Zf (Λ:=(ZF.Λ K)) bZH _ _ _ _ _ (Eq.mp (by kernel_rfl) h) (Zb Za rfl (Zb Za rfl (Zb Za rfl (Zb Za rfl (Zb (Zb Za rfl (Zu (ZZ rfl (fun E D H h=>by
   refine Safe.loop' (ZF.l5.L K) (fun E D H h=>?_) (fun k E D H h=>?_) E D H h
   ·obtain⟨w0,e0,g1⟩:=DG.out h;obtain⟨A2,n2,m2,rfl,g2⟩:=DSl.out g1;obtain⟨w7,e7,g3⟩:=DG.out g2;obtain⟨x4,rfl,g4⟩:=DI.out g3;obtain⟨w8,e8,g5⟩:=DG.out g4;obtain⟨A3,n3,m3,rfl,g6⟩:=DSl.out g5;obtain⟨w9,e9,g7⟩:=DG.out g6;obtain⟨x5,rfl,g8⟩:=DI.out g7;obtain⟨w10,e10,g9⟩:=DG.out g8;obtain⟨x6,rfl,g10⟩:=DI.out g9;obtain⟨rfl,h'⟩:=Zo.out g10;exact h'
   ·obtain⟨w0,e0,g1⟩:=DG.out h;obtain⟨A2,n2,m2,rfl,g2⟩:=DSl.out g1;obtain⟨x4,e7,g4⟩:=GI g2;obtain⟨w8,e8,g5⟩:=DG.out g4;obtain⟨A3,n3,m3,rfl,g6⟩:=DSl.out g5;obtain⟨x5,e9,g8⟩:=GI g6;obtain⟨x6,e10,g10⟩:=GI g8;obtain⟨rfl,h'⟩:=Zo.out g10;exact(Zf (Λ:=(ZF.Λ5 K (ZF.l5 K k))) bZH _ _ [(0,.slice A2 n2 m2),(7,.int .u64 x4),(8,.slice A3 n3 m3),(9,.int .u64 x5),(10,.int .i64 x6)] [] H (Eq.mp (by kernel_rfl) h') (Zb (Zb Za rfl (Zk Zl ZS)) rfl (Zb (Zu (Zb Za rfl (Zb Za rfl (Zb (Zb Za rfl (Zu (ZZ rfl (fun E D H h=>by
      refine Safe.loop' (ZF.l10.L K (ZF.l5 K k)) (fun E D H h=>?_) (fun k E D H h=>?_) E D H h
      ·obtain⟨w0,e0,g1⟩:=DG.out h;obtain⟨A4,n4,m4,rfl,g2⟩:=DSl.out g1;obtain⟨w7,e7,g3⟩:=DG.out g2;obtain⟨x7,rfl,g4⟩:=DI.out g3;obtain⟨w8,e8,g5⟩:=DG.out g4;obtain⟨A5,n5,m5,rfl,g6⟩:=DSl.out g5;obtain⟨w9,e9,g7⟩:=DG.out g6;obtain⟨x8,rfl,g8⟩:=DI.out g7;obtain⟨w10,e10,g9⟩:=DG.out g8;obtain⟨x9,rfl,g10⟩:=DI.out g9;obtain⟨w11,e11,g11⟩:=DG.out g10;obtain⟨x10,rfl,g12⟩:=DI.out g11;obtain⟨w12,e12,g13⟩:=DG.out g12;obtain⟨x11,rfl,g14⟩:=DI.out g13;obtain⟨w13,e13,g15⟩:=DG.out g14;obtain⟨x12,rfl,g16⟩:=DI.out g15;obtain⟨rfl,h'⟩:=Zo.out g16;exact h'
      ·obtain⟨w0,e0,g1⟩:=DG.out h;obtain⟨A4,n4,m4,rfl,g2⟩:=DSl.out g1;obtain⟨x7,e7,g4⟩:=GI g2;obtain⟨w8,e8,g5⟩:=DG.out g4;obtain⟨A5,n5,m5,rfl,g6⟩:=DSl.out g5;obtain⟨x8,e9,g8⟩:=GI g6;obtain⟨x9,e10,g10⟩:=GI g8;obtain⟨x10,e11,g12⟩:=GI g10;obtain⟨x11,e12,g14⟩:=GI g12;obtain⟨x12,e13,g16⟩:=GI g14;obtain⟨rfl,h'⟩:=Zo.out g16;exact(Zf (Λ:=(ZF.Λ10 K (ZF.l5 K k) (ZF.l10 K (ZF.l5 K k) k))) bZH _ _ [(0,.slice A4 n4 m4),(7,.int .u64 x7),(8,.slice A5 n5 m5),(9,.int .u64 x8),(10,.int .i64 x9),(11,.int .u64 x10),(12,.int .u64 x11),(13,.int .i64 x12)] [] H (Eq.mp (by kernel_rfl) h') (Zb (Zb Za rfl (Zk Zl ZS)) rfl (Zb (Zu (Zb Za rfl Za)) rfl Za))).weaken (Ze.cons e0 (Ze.cons e7 (Ze.cons e8 (Ze.cons e9 (Ze.cons e10 (Ze.cons e11 (Ze.cons e12 (Ze.cons e13 (Ze.nil _))))))))) (Hp.le_refl _))))) rfl (Zb Za rfl Za))))) rfl Za))).weaken (Ze.cons e0 (Ze.cons e7 (Ze.cons e8 (Ze.cons e9 (Ze.cons e10 (Ze.nil _)))))) (Hp.le_refl _))))) rfl (Zb Za rfl Zy)))))))
def aZf.l3 (K:Value→Hp→Prop):Nat→Option Addr→Nat→Nat→Int→Option Addr→Nat→Nat→Int→Hp→Prop
 |0,_,_,_,_,_,_,_,_,_=>False
 |k+1,A2,n2,m2,x2,A3,n3,m3,x3,H=>
  let R3:=aZf.l3 K k
  BIf (decide (x3<(n2:Int))) (ixI x3 n2 (NN A2 fun a1=>LeW H (a1.add (x3.toNat*1)) fun x4=>HcW 87 #[.int .u64 x4,.int .u64 x2] H fun x5 H1=>Nw H1 (.row [.int .u64 x5] 84 1) fun b1 H2=>cZ7 prog 84 (.slice A3 n3 m3) (.slice (some ⟨b1,0,none⟩) 1 1) H2 fun v3 H3=>DSl v3 fun A4 n4 m4=>R3 A2 n2 m2 x2 A4 n4 m4 (IntKind.i64.wrap (x3+1)) H3)) (K (.slice A3 n3 m3) H)
def aZf (A1:Option Addr)(n1:Nat)(m1:Nat)(x1:Int)(H:Hp)(K:Value→Hp→Prop):Prop:=
 (∃ k,aZf.l3 K k A1 n1 m1 x1 none 0 0 0 H)
def aZf.l3.L (K:Value→Hp→Prop)(k:Nat):Mid:=fun E D H=>
 DG (E.get? 0) fun w0=>DSl w0 fun A2 n2 m2=>eI E 1 .u64 fun x2=>DG (E.get? 5) fun w5=>DSl w5 fun A3 n3 m3=>eI E 6 .i64 fun x3=>Zo D (aZf.l3 K k A2 n2 m2 x2 A3 n3 m3 x3 H)
def aZf.Λ3 (_:Value→Hp→Prop)(_R3:Option Addr→Nat→Nat→Int→Option Addr→Nat→Nat→Int→Hp→Prop):Zn:=Zn.none (fun _=>none)
def aZf.Λ (K:Value→Hp→Prop):Zn:=⟨fun i=>none,fun i=>match Nat.beq i 3 with|true=>some (fun E D H=>∃ k,aZf.l3.L K k E D H)|false=>none,(fun _=>none)⟩
theorem aZf.ok (A1:Option Addr)(n1:Nat)(m1:Nat)(x1:Int)(H:Hp)(K:Value→Hp→Prop)(h:aZf A1 n1 m1 x1 H K):Zc prog 47 #[.slice A1 n1 m1,.int .u64 x1] H K:=
 Zr Tryz.func47 rfl (nbl rfl) (Zf (Λ:=(aZf.Λ K)) bZH _ _ _ _ _ (Eq.mp (by kernel_rfl) h) (Zb Za rfl (Zb Za rfl (Zb (Zb Za rfl (Zu (ZZ rfl (fun E D H h=>by
   refine Safe.loop' (aZf.l3.L K) (fun E D H h=>?_) (fun k E D H h=>?_) E D H h
   ·obtain⟨w0,e0,g1⟩:=DG.out h;obtain⟨A2,n2,m2,rfl,g2⟩:=DSl.out g1;obtain⟨w1,e1,g3⟩:=DG.out g2;obtain⟨x2,rfl,g4⟩:=DI.out g3;obtain⟨w5,e5,g5⟩:=DG.out g4;obtain⟨A3,n3,m3,rfl,g6⟩:=DSl.out g5;obtain⟨w6,e6,g7⟩:=DG.out g6;obtain⟨x3,rfl,g8⟩:=DI.out g7;obtain⟨rfl,h'⟩:=Zo.out g8;exact h'
   ·obtain⟨w0,e0,g1⟩:=DG.out h;obtain⟨A2,n2,m2,rfl,g2⟩:=DSl.out g1;obtain⟨x2,e1,g4⟩:=GI g2;obtain⟨w5,e5,g5⟩:=DG.out g4;obtain⟨A3,n3,m3,rfl,g6⟩:=DSl.out g5;obtain⟨x3,e6,g8⟩:=GI g6;obtain⟨rfl,h'⟩:=Zo.out g8;exact(Zf (Λ:=(aZf.Λ3 K (aZf.l3 K k))) bZH _ _ [(0,.slice A2 n2 m2),(1,.int .u64 x2),(5,.slice A3 n3 m3),(6,.int .i64 x3)] [] H (Eq.mp (by kernel_rfl) h') (Zb (Zb Za rfl (Zk Zl ZS)) rfl (Zb (Zu Za) rfl Za))).weaken (Ze.cons e0 (Ze.cons e1 (Ze.cons e5 (Ze.cons e6 (Ze.nil _))))) (Hp.le_refl _))))) rfl (Zb Za rfl Zy)))))
def dZa (x1:Int)(H:Hp)(K:Value→Hp→Prop):Prop:=
 HcW 88 #[.int .u64 9223372034707292161,.int .u64 (IntKind.u64.wrap x1)] H fun x2 H1=>K (.int .u64 x2) H1
theorem dZa.ok (x1:Int)(H:Hp)(K:Value→Hp→Prop)(h:dZa x1 H K):Zc prog 48 #[.int .i64 x1] H K:=
 Zr Tryz.func48 rfl (nbl rfl) (Zf (Λ:=Zn.none (fun _=>none)) bZH _ _ _ _ _ (Eq.mp (by kernel_rfl) h) (Zt _ _ _ _ _))
def aZq.l6 (K:Value→Hp→Prop):Nat→Int→Int→Int→Int→Hp→Prop
 |0,_,_,_,_,_=>False
 |k+1,x4,x5,x6,x7,H=>
  let R6:=aZq.l6 K k
  BIf (decide (x7<x4)) (R6 x4 x5 (IntKind.u64.wrap (2*x6)) (IntKind.i64.wrap (x7+1)) H) (HcW 88 #[.int .u64 x5,.int .u64 (IntKind.u64.wrap (x6-1))] H fun x8 H2=>K (.int .u64 x8) H2)
def aZq (x1:Int)(x2:Int)(H:Hp)(K:Value→Hp→Prop):Prop:=
 HcW 135 #[.int .i64 x1] H fun x3 H1=>BIf (x2==0) (K (.int .u64 x3) H1) ((∃ k,aZq.l6 K k x1 x3 1 0 H1))
def aZq.l6.L (K:Value→Hp→Prop)(k:Nat):Mid:=fun E D H=>
 eI E 0 .i64 fun x4=>eI E 5 .u64 fun x5=>eI E 6 .u64 fun x6=>eI E 7 .i64 fun x7=>Zo D (aZq.l6 K k x4 x5 x6 x7 H)
def aZq.Λ6 (_:Value→Hp→Prop)(_R6:Int→Int→Int→Int→Hp→Prop):Zn:=Zn.none (fun _=>none)
def aZq.Λ (K:Value→Hp→Prop):Zn:=⟨fun i=>none,fun i=>match Nat.beq i 6 with|true=>some (fun E D H=>∃ k,aZq.l6.L K k E D H)|false=>none,(fun _=>none)⟩
theorem aZq.ok (x1:Int)(x2:Int)(H:Hp)(K:Value→Hp→Prop)(h:aZq x1 x2 H K):Zc prog 85 #[.int .i64 x1,.int .i64 x2] H K:=
 Zr Tryz.func85 rfl (nbl rfl) (Zf (Λ:=(aZq.Λ K)) bZH _ _ _ _ _ (Eq.mp (by kernel_rfl) h) (Zb Za rfl (Zb Za rfl (Zb (Zb Za rfl (Zk (Zb Za rfl Zy) Zl)) rfl (Zb Za rfl (Zb (Zb Za rfl (Zu (ZZ rfl (fun E D H h=>by
   refine Safe.loop' (aZq.l6.L K) (fun E D H h=>?_) (fun k E D H h=>?_) E D H h
   ·obtain⟨w0,e0,g1⟩:=DG.out h;obtain⟨x4,rfl,g2⟩:=DI.out g1;obtain⟨w5,e5,g3⟩:=DG.out g2;obtain⟨x5,rfl,g4⟩:=DI.out g3;obtain⟨w6,e6,g5⟩:=DG.out g4;obtain⟨x6,rfl,g6⟩:=DI.out g5;obtain⟨w7,e7,g7⟩:=DG.out g6;obtain⟨x7,rfl,g8⟩:=DI.out g7;obtain⟨rfl,h'⟩:=Zo.out g8;exact h'
   ·obtain⟨x4,e0,g2⟩:=GI h;obtain⟨x5,e5,g4⟩:=GI g2;obtain⟨x6,e6,g6⟩:=GI g4;obtain⟨x7,e7,g8⟩:=GI g6;obtain⟨rfl,h'⟩:=Zo.out g8;exact(Zf (Λ:=(aZq.Λ6 K (aZq.l6 K k))) bZH _ _ [(0,.int .i64 x4),(5,.int .u64 x5),(6,.int .u64 x6),(7,.int .i64 x7)] [] H (Eq.mp (by kernel_rfl) h') (Zb (Zb Za rfl (Zk Zl ZS)) rfl (Zb (Zu Za) rfl Za))).weaken (Ze.cons e0 (Ze.cons e5 (Ze.cons e6 (Ze.cons e7 (Ze.nil _))))) (Hp.le_refl _))))) rfl (Zb Za rfl Zy)))))))
end W
namespace Pas
open Go Go.Hw Go.Crc Go.Form W Shp Gol Fft Ker Str Dsk Are Trn
theorem mZ5 (k:Nat)(hk:k≤32)(H:Hp):Zc prog 48 #[.int .i64 (k:Int)] H (RetE (.int .u64 ((Fft.pw half k).val:Int)) H):=by
 apply dZa.ok;unfold dZa;rw[bZ1 (by omega)];refine Zc.use (mZi (a:=9223372034707292161) (n:=k) (by omega) H) ?_;rw[fZQ];simp only[HV];exact RetE.mk _ _
theorem tZD (x:UInt64)(y:Nat):x.toNat*y%18446744069414584321=(zw x*zp y).val:=by
 rw[← fZN];show _=x.toNat%18446744069414584321*(y%18446744069414584321)%18446744069414584321
 rw[← Nat.mul_mod]
theorem sZy {l:List UInt64}(z:Zp){i:Nat}(hil:i<l.length):Zd (cZs z (l.take (i+1)))=Zd (cZs z (l.take i))++[.int .u64 ((zw l[i]*z).val:Int)]:=by
 have e:cZs z (l.take (i+1))=cZs z (l.take i)++[uw (zw l[i]*z)]:=by
  unfold cZs;rw[List.take_add_one,List.getElem?_eq_getElem hil,List.map_append];rfl
 rw[e,←hZV];unfold Zd;rw[List.map_append];rfl
theorem hZH (d:Bool)(k:Nat)(l:List UInt64){i:Nat}(h:i<2^k):(cZP d k l)[i]? =some (uw (dft (rtd d k) (2^k) (at' l) i)):=by
 unfold cZP;rw[List.getElem?_map,List.getElem?_range h];rfl
theorem kZU (z:Zp){l:List UInt64}{i:Nat}{w:UInt64}(h:l[i]? =some w):(cZs z l)[i]? =some (uw (zw w*z)):=by
 unfold cZs;rw[List.getElem?_map,h];rfl
theorem pZq {l:List UInt64}{i:Nat}{w:UInt64}(h:l[i]? =some w):at' l i=zw w:=by
 unfold at';rw[List.getD_eq_getElem?_getD,h];rfl
section
variable {R : As} {A : Option Addr} {n m : Nat} {l : List UInt64}
theorem kZq (K:Value→Hp→Prop)(y:Nat)(hy:y<2^64){L:List As}(hR:∀ H,R H→Cells H A (Zd l))(hl:l.length=n)(hn:n≤4294967296)
  (hK:∀ A' m' H,Sep (Own 84 1 A' n m' (Zd (cZs (zp y) l))::R::L) H→K (.slice A' n m') H):
  ∀(t i:Nat) (A':Option Addr) (m':Nat) (H:Hp),i+t=n→Sep (Own 84 1 A' i m' (Zd (cZs (zp y) (l.take i)))::R::L) H→
   aZf.l3 K (t+1) A n m (y:Int) A' i m' (i:Int) H
 |0,i,A',m',H,hi,hs=>by
  unfold aZf.l3;obtain rfl:i=n:=by omega
  refine Zm (by omega) (hK A' m' H ?_);rw[List.take_of_length_le (by omega)]at hs;exact hs
 |t+1,i,A',m',H,hi,hs=>by
  have hc:Cells H A (Zd l):=by
   obtain⟨H1,h1,hle⟩:=hs.see 1 rfl;exact(hR H1 h1).le hle
  unfold aZf.l3;refine Zw (by omega) ?_;have hil:i<l.length:=by omega
  have hg:(Zd l)[i]? =some (.int .u64 ((l[i]).toNat:Int)):=by
   rw[aZ8,List.getElem?_eq_getElem hil];rfl
  refine hc.read hg rfl (by rw[ZA];omega) ?_;simp only[HV];refine Zc.use (gZz (a:=(l[i]).toNat) hy H) ?_;rw[tZD];simp only[HV];refine hs.app1 0 rfl Ker.bZR (by omega) rfl (by omega) (by omega) fun A2 m2 H hs=>?_
  simp only[HV];rw[ZV (x:=(i:Int)+1) (by omega) (by omega),show(i:Int)+1=((i+1:Nat):Int) by omega];refine kZq K y hy hR hl hn hK t (i+1) A2 m2 H (by omega) ?_;rw[sZy _ hil];exact hs
theorem sZn (y:Nat)(hy:y<2^64)(hR:∀ H,R H→Cells H A (Zd l))(hl:l.length=n)(hn:n≤4294967296):
  Tr prog 47 #[.slice A n m,.int .u64 (y:Int)] [R] fun v M=>∃ A' m',v= .slice A' n m'∧M=[Own 84 1 A' n m' (Zd (cZs (zp y) l)),R]:=fun H hs=>by
 apply aZf.ok;unfold aZf;have e0:Sep [Own 84 1 none 0 0 (Zd (cZs (zp y) (l.take 0))),R] H:=
  ⟨fun _=>none,H,fun _ _ h=>(nomatch h),Hp.le_refl _,fun _=>.inl rfl,Own.none _ _ _,hs⟩
 refine⟨n+1,?_⟩;exact kZq (L:=[]) _ y hy hR hl hn (fun A' m' H hs=>⟨_,⟨A',m',rfl,rfl⟩,hs⟩) n 0 none 0 H (by omega) e0
end
theorem sZt {j:J}{d:D}{x:X}{m:Nat}{l:List UInt64}(h:pws d x 0 (m*2^j.eb)=l):
  cZO j d x m=(List.range m).flatMap fun q=>eZf j q ((l.drop (q*2^j.eb)).take (2^j.eb)):=by
 unfold cZO;have:∀(r:List Nat),(∀ q,q∈r→q<m)→r.flatMap (fun q=>eZf j q (pws d x (q*2^j.eb) (2^j.eb)))=r.flatMap fun q=>eZf j q ((l.drop (q*2^j.eb)).take (2^j.eb)):=fun r=>by
  induction r with
  |nil=>intro _;rfl
  |cons q r ih=>
   intro hq;have hqb:=hq q (by simp);have h1:(q+1)*2^j.eb≤m*2^j.eb:=Nat.mul_le_mul_right _ (by omega);rw[Nat.succ_mul]at h1;rw[List.flatMap_cons,List.flatMap_cons,ih fun q' h'=>hq q' (by simp[h']),←h,oZE h1,Nat.zero_add]
 exact this _ fun q hq=>List.mem_range.1 hq
theorem mZG {f:Nat→List UInt64}{c:Nat}(hf:∀ q,(f q).length=c):∀(m q:Nat),q<m→(((List.range m).flatMap f).drop (q*c)).take c=f q
 |0,q,h=>by omega
 |m+1,q,h=>by
  have hl:∀ m,((List.range m).flatMap f).length=m*c:=fun m=>by
   induction m with
   |zero=>simp
   |succ m ih=>rw[List.range_succ,List.flatMap_append,List.length_append,ih,Nat.succ_mul];simp[hf]
  rw[List.range_succ,List.flatMap_append];have hs:List.flatMap f [m]=f m:=by simp
  rw[hs];by_cases e:q=m
  ·subst e;rw[List.drop_append,List.drop_eq_nil_of_le (by rw[hl];exact Nat.le_refl _),hl,Nat.sub_self,List.drop_zero,List.nil_append,List.take_of_length_le (by rw[hf];exact Nat.le_refl _)]
  ·have h1:(q+1)*c≤m*c:=Nat.mul_le_mul_right _ (by omega);rw[Nat.succ_mul]at h1;rw[List.drop_append_of_le_length (by rw[hl];omega),List.take_append_of_le_length (by rw[List.length_drop,hl];omega)];exact mZG hf m q (by omega)
theorem kZo {k:Nat}(hk:k≤32)(H:Hp):∀(t i:Nat),i+t=k→aZo.l3 (RetE (.int .u64 ((rt k).val:Int)) H) (t+1) (k:Int) ((18446744069414584320/2^i:Nat):Int) (i:Int) H
 |0,i,hi=>by
  obtain rfl:i=k:=by omega
  unfold aZo.l3;refine Zm (by omega) ?_;have hlt:18446744069414584320/2^i<2^64:=Nat.lt_of_le_of_lt (Nat.div_le_self _ _) (by decide);refine Zc.use (mZi (a:=7) hlt H) ?_;rw[fZQ];simp only[HV];exact RetE.mk _ _
 |t+1,i,hi=>by
  unfold aZo.l3;refine Zw (by omega) ⟨by decide,by simp,?_⟩;have hlt:18446744069414584320/2^i≤18446744069414584320:=Nat.div_le_self _ _;have e:IntKind.u64.wrap (Int.tdiv ((18446744069414584320/2^i:Nat):Int) 2)=((18446744069414584320/2^(i+1):Nat):Int):=by
   rw[show Int.tdiv ((18446744069414584320/2^i:Nat):Int) 2=((18446744069414584320/2^i/2:Nat):Int)from rfl,bZ1 (by omega),Nat.div_div_eq_div_mul,Nat.pow_succ]
  rw[e,ZV (x:=(i:Int)+1) (by omega) (by omega),show(i:Int)+1=((i+1:Nat):Int) by omega];exact kZo hk H t (i+1) (by omega)
theorem sZl {k:Nat}(hk:k≤32)(H:Hp):Zc prog 135 #[.int .i64 (k:Int)] H (RetE (.int .u64 ((rt k).val:Int)) H):=by
 apply aZo.ok;unfold aZo;exact⟨k+1,kZo hk H k 0 (by omega)⟩
theorem kZp {k:Nat}(hk:k≤32)(H:Hp):∀(t i:Nat),i+t=k→aZq.l6 (RetE (.int .u64 ((rtd true k).val:Int)) H) (t+1) (k:Int) ((rt k).val:Int) ((2^i:Nat):Int) (i:Int) H
 |0,i,hi=>by
  obtain rfl:i=k:=by omega
  have h32:=aZW hk;have h1:=pow_pos i;unfold aZq.l6;refine Zm (by omega) ?_;rw[dZj (by omega) (by omega),show((2^i:Nat):Int)-1=((2^i-1:Nat):Int) by omega];refine Zc.use (mZi (a:=(rt i).val) (n:=2^i-1) (by omega) H) ?_;rw[fZQ,fZT];simp only[HV];exact RetE.mk _ _
 |t+1,i,hi=>by
  have h32:=aZW (show i≤32 by omega);have h1:=pow_pos i;unfold aZq.l6;refine Zw (by omega) ?_;rw[dZj (by omega) (by omega),show(2:Int)*((2^i:Nat):Int)=((2^(i+1):Nat):Int) by rw[Nat.pow_succ];omega,ZV (x:=(i:Int)+1) (by omega) (by omega),show(i:Int)+1=((i+1:Nat):Int) by omega];exact kZp hk H t (i+1) (by omega)
theorem sZm {k:Nat}(hk:k≤32)(d:Bool)(H:Hp):Zc prog 85 #[.int .i64 (k:Int),.int .i64 (if d=true then 1 else 0)] H (RetE (.int .u64 ((rtd d k).val:Int)) H):=by
 apply aZq.ok;unfold aZq;refine Zc.use (sZl hk H) ?_;simp only[HV];cases d with
 |false=>exact aZb rfl (RetE.mk _ _)
 |true=>
  refine aZm (by decide) ⟨k+1,?_⟩;exact kZp hk H k 0 (by omega)
section
variable {R : As} {A : Option Addr} {n m k : Nat} {l : List UInt64} {L : List As}
theorem pZM (K:Value→Hp→Prop)(R5:Option Addr→Nat→Nat→Int→Option Addr→Nat→Nat→Int→Int→Hp→Prop)(w z:Zp){xj:Int}{A':Option Addr}{n' m':Nat}{vs:List Value}(hR:∀ H,R H→Cells H A (Zd l))(hl:l.length=n)(hn:n≤1048576)(hn':n'≤1048576)
  (hK:∀ A2 m2 H,Sep (Own 84 1 A2 (n'+1) m2 (vs++[.int .u64 ((sm (fun i=>at' l i*Fft.pw z i) n).val:Int)])::R::L) H→R5 A n m (w.val:Int) A2 (n'+1) m2 ((z*w).val:Int) (IntKind.i64.wrap (xj+1)) H):
  ∀(t i:Nat) (H:Hp),i+t=n→Sep (Own 84 1 A' n' m' vs::R::L) H→
   ZF.l10 K R5 (t+1) A n m (w.val:Int) A' n' m' (z.val:Int) xj ((sm (fun i=>at' l i*Fft.pw z i) i).val:Int) ((Fft.pw z i).val:Int) (i:Int) H
 |0,i,H,hi,hs=>by
  obtain rfl:i=n:=by omega
  unfold ZF.l10;refine Zm (by omega) ?_;refine hs.app1 0 rfl Ker.bZR (by omega) rfl (by omega) (by omega) fun A2 m2 H hs=>?_
  simp only[HV];refine Zc.use (gZz (a:=z.val) (cZU w) H) ?_;rw[fZN];simp only[HV];exact hK A2 m2 H hs
 |t+1,i,H,hi,hs=>by
  have hc:Cells H A (Zd l):=by
   obtain⟨H1,h1,hle⟩:=hs.see 1 rfl;exact(hR H1 h1).le hle
  unfold ZF.l10;refine Zw (by omega) ?_;have hil:i<l.length:=by omega
  have hg:(Zd l)[i]? =some (.int .u64 ((l[i]).toNat:Int)):=by
   rw[aZ8,List.getElem?_eq_getElem hil];rfl
  refine hc.read hg rfl (by rw[ZA];omega) ?_;simp only[HV];refine Zc.use (gZz (a:=(l[i]).toNat) (cZU _) H) ?_;rw[oZs,←rZw hil];simp only[HV];refine Zc.use (jZ1 H) ?_;rw[show((sm (fun i=>at' l i*Fft.pw z i) i).val+(at' l i*Fft.pw z i).val)%18446744069414584321=(sm (fun i=>at' l i*Fft.pw z i) (i+1)).val from(Fin.val_add _ _).symm];simp only[HV];refine Zc.use (gZz (a:=(Fft.pw z i).val) (cZU z) H) ?_;rw[fZN];simp only[HV];rw[ZV (x:=(i:Int)+1) (by omega) (by omega),show(i:Int)+1=((i+1:Nat):Int) by omega];exact pZM K R5 w z hR hl hn hn' hK t (i+1) H (by omega) hs
def lZ7 (w:Zp)(n:Nat)(l:List UInt64)(i:Nat):List UInt64:=(List.range i).map fun j=>uw (dft w n (at' l) j)
theorem rZD (w:Zp)(n:Nat)(l:List UInt64)(i:Nat):Zd (lZ7 w n l (i+1))=Zd (lZ7 w n l i)++[.int .u64 ((sm (fun a=>at' l a*Fft.pw (Fft.pw w i) a) n).val:Int)]:=by
 unfold lZ7 Zd;rw[List.range_succ,List.map_append,List.map_append];congr 1;show [Value.int .u64 ((uw (dft w n (at' l) i)).toNat:Int)]=_
 rw[hZV];have:dft w n (at' l) i=sm (fun a=>at' l a*Fft.pw (Fft.pw w i) a) n:=fZJ n fun a _=>by rw[← bZM,Nat.mul_comm a i]
 rw[this]
theorem mZ4 (K:Value→Hp→Prop)(w:Zp)(hR:∀ H,R H→Cells H A (Zd l))(hl:l.length=n)(hn:n≤1048576)
  (hK:∀ A2 m2 H,Sep (Own 84 1 A2 n m2 (Zd (lZ7 w n l n))::R::L) H→K (.slice A2 n m2) H):
  ∀(t j:Nat) (A':Option Addr) (m':Nat) (H:Hp),j+t=n→Sep (Own 84 1 A' j m' (Zd (lZ7 w n l j))::R::L) H→
   ZF.l5 K (t+1) A n m (w.val:Int) A' j m' ((Fft.pw w j).val:Int) (j:Int) H
 |0,j,A',m',H,hj,hs=>by
  obtain rfl:j=n:=by omega
  unfold ZF.l5;exact Zm (by omega) (hK A' m' H hs)
 |t+1,j,A',m',H,hj,hs=>by
  unfold ZF.l5;refine Zw (by omega) ⟨n+1,?_⟩;refine pZM K _ w (Fft.pw w j) hR hl hn (by omega) (fun A2 m2 H hs=>?_) n 0 H (by omega) hs;rw[ZV (x:=(j:Int)+1) (by omega) (by omega),show(j:Int)+1=((j+1:Nat):Int) by omega];refine mZ4 K w hR hl hn hK t (j+1) A2 m2 H (by omega) ?_;rw[rZD];exact hs
theorem vZo (hR:∀ H,R H→Cells H A (Zd l))(hl:l.length=n)(hn:n=2^k)(hk:k≤20)(d:Bool):
  Tr prog 46 #[.slice A n m,.int .i64 (k:Int),.int .i64 (if d=true then 1 else 0)] [R] fun v M=>∃ A2 m2,v= .slice A2 n m2∧M=[Own 84 1 A2 n m2 (Zd (cZP d k l)),R]:=fun H hs=>by
 have h20:=aZW hk;apply ZF.ok;unfold ZF;refine Zc.use (sZm (by omega) d H) ?_;simp only[HV];have e0:Sep [Own 84 1 none 0 0 (Zd (lZ7 (rtd d k) n l 0)),R] H:=
  ⟨fun _=>none,H,fun _ _ h=>(nomatch h),Hp.le_refl _,fun _=>.inl rfl,Own.none _ _ _,hs⟩
 refine⟨n+1,?_⟩;refine mZ4 (L:=[]) _ (rtd d k) hR hl (by omega) (fun A2 m2 H hs=>⟨_,⟨A2,m2,rfl,rfl⟩,?_⟩) n 0 none 0 H (by omega) e0;unfold cZP;rw[← hn];exact hs
end
def lZS (j:J)(q:Nat)(l:List UInt64)(c:Nat):Zp:=dft (rtd j.d j.eb) (2^j.eb) (at' l) c*zw j.sh*(if 0≤j.tw then Fft.pw (rtd j.d j.tw.toNat) (q*c)else 1)
theorem sZr (j:J)(q:Nat)(l:List UInt64):eZf j q l=(List.range (2^j.eb)).map fun c=>uw (lZS j q l c):=by
 apply List.ext_getElem?;intro c;rw[List.getElem?_map];by_cases hc:c<2^j.eb
 ·rw[List.getElem?_range hc];have h1:=hZH j.d j.eb l hc;have h2:(twL j q (cZP j.d j.eb l))[c]? =some (uw (dft (rtd j.d j.eb) (2^j.eb) (at' l) c*(if 0≤j.tw then Fft.pw (rtd j.d j.tw.toNat) (q*c)else 1))):=by
   unfold twL;by_cases ht:0≤j.tw
   ·rw[if_pos ht,if_pos ht];unfold jZ6 fZE;rw[List.getElem?_map,eZR,List.getElem?_range hc];show some (uw (at' (cZP j.d j.eb l) c*Fft.pw (Fft.pw (rtd j.d j.tw.toNat) q) c))=some _
    rw[pZq h1,jZ8,←bZM]
   ·rw[if_neg ht,if_neg ht,h1];congr 2;grind
  unfold eZf;rw[kZU _ h2,jZ8];show some _=some _
  congr 2;unfold lZS;grind
 ·rw[List.getElem?_eq_none (by rw[hZO];omega),List.getElem?_eq_none (by simp;omega)];rfl
section
variable {R : As} {A : Option Addr} {n m b1 : Nat} {l : List UInt64} {j : J}
def dZw (j:J)(l:List UInt64)(m:Nat):List UInt64:=(List.range m).flatMap fun q=>eZf j q ((l.drop (q*2^j.eb)).take (2^j.eb))
end
end Pas
namespace Pln
open Go Go.Hw Shp Fft Ker Pas Str Dsk Trn
def trL (r c:Nat)(l:List UInt64):List UInt64:=(List.range (r*c)).map fun k=>l.getD (k%r*c+k/r) 0
theorem mZm (r c:Nat)(l:List UInt64):(trL r c l).length=r*c:=by simp[trL]
theorem pZ6 {r c:Nat}(l:List UInt64){i j:Nat}(hi:i<r)(hj:j<c):(trL r c l).getD (j*r+i) 0=l.getD (i*c+j) 0:=by
 have h1:j*r+i<r*c:=by
  have:(j+1)*r≤c*r:=Nat.mul_le_mul_right _ hj;rw[Nat.succ_mul]at this;rw[Nat.mul_comm r c];omega
 have h2:(j*r+i)%r=i:=by rw[Nat.add_comm,Nat.add_mul_mod_self_right,Nat.mod_eq_of_lt hi]
 have h3:(j*r+i)/r=j:=by rw[Nat.add_comm,Nat.add_mul_div_right _ _ (by omega),Nat.div_eq_of_lt hi,Nat.zero_add]
 unfold trL;rw[List.getD_eq_getElem?_getD,List.getElem?_map,List.getElem?_range h1];show l.getD _ 0=_
 rw[h2,h3]
theorem sZI {r c:Nat}(l:List UInt64){i j:Nat}(hi:i<r)(hj:j<c):at' (trL r c l) (j*r+i)=at' l (i*c+j):=by
 unfold at';rw[pZ6 l hi hj]
theorem vZG (d:D)(x:X)(r c:Nat):trW d x r c=trL r c (pws d x 0 (r*c)):=by
 unfold trW trL;apply List.map_congr_left;intro k hk;have hk:=List.mem_range.1 hk;have hr:0<r:=by
  rcases Nat.eq_zero_or_pos r with h|h
  ·rw[h,Nat.zero_mul]at hk;omega
  ·exact h
 have h1:k%r<r:=Nat.mod_lt _ hr;have h2:k/r<c:=Nat.div_lt_of_lt_mul hk;have h3:k%r*c+k/r<r*c:=by
  have:(k%r+1)*c≤r*c:=Nat.mul_le_mul_right _ h1;rw[Nat.succ_mul]at this;omega
 unfold trK;rw[List.getD_eq_getElem?_getD,jZ0 h3,Nat.zero_add];rfl
theorem qZ7 (j:J)(d:D)(x:X)(m:Nat):cZO j d x m=dZw j (pws d x 0 (m*2^j.eb)) m:=sZt rfl
theorem nZf (j:J)(l:List UInt64){m q c:Nat}(hq:q<m)(hc:c<2^j.eb):(dZw j l m)[q*2^j.eb+c]? =some (uw (lZS j q ((l.drop (q*2^j.eb)).take (2^j.eb)) c)):=by
 have h:=mZG (f:=fun q=>eZf j q ((l.drop (q*2^j.eb)).take (2^j.eb))) (c:=2^j.eb) (fun q=>hZO j q _) m q hq;have e:(dZw j l m)[q*2^j.eb+c]? =(((dZw j l m).drop (q*2^j.eb)).take (2^j.eb))[c]? :=by
  rw[List.getElem?_take_of_lt hc,List.getElem?_drop]
 rw[e];show((((List.range m).flatMap fun q=>eZf j q ((l.drop (q*2^j.eb)).take (2^j.eb))).drop (q*2^j.eb)).take (2^j.eb))[c]? =_
 rw[h,sZr,List.getElem?_map,List.getElem?_range hc];rfl
def wz (j:J)(q:Nat)(f:Nat→Zp)(c:Nat):Zp:=dft (rtd j.d j.eb) (2^j.eb) (fun i=>f (q*2^j.eb+i)) c*zw j.sh*(if 0≤j.tw then Fft.pw (rtd j.d j.tw.toNat) (q*c)else 1)
theorem oZU (j:J)(l:List UInt64)(q c:Nat):lZS j q ((l.drop (q*2^j.eb)).take (2^j.eb)) c=wz j q (at' l) c:=by
 unfold lZS wz;congr 2;refine hZ2 (fun i hi=>?_) c;unfold at';rw[List.getD_eq_getElem?_getD,List.getElem?_take_of_lt hi,List.getElem?_drop,←List.getD_eq_getElem?_getD]
theorem uZd (j:J)(l:List UInt64){m q c:Nat}(hq:q<m)(hc:c<2^j.eb):at' (dZw j l m) (q*2^j.eb+c)=wz j q (at' l) c:=by
 rw[pZq (nZf j l hq hc),jZ8,oZU]
theorem uZe (j:J)(l:List UInt64){m q c:Nat}(hq:q<m)(hc:c<2^j.eb):(dZw j l m).getD (q*2^j.eb+c) 0=uw (wz j q (at' l) c):=by
 rw[List.getD_eq_getElem?_getD,nZf j l hq hc,oZU];rfl
structure Pz where
 t:Bool
 j:J
 f:Nat
 o:Nat
def Pz.c (p:Pz):Array Value:=p.j.a++ #[.int .i64 (if p.t=true then 1 else 2),.int .i64 (p.f:Int),.int .i64 (p.o:Int)]
def Pz.ap (p:Pz)(l:List UInt64):List UInt64:=if p.t=true then trL (2^p.j.ea) (2^p.j.eb) l else dZw p.j l (2^p.j.ea)
def eZW (d:Bool)(k:Nat):UInt64:=if d=true then uw (Fft.pw half k)else 1
def jZD (d:Bool)(k:Nat):Pz:=⟨false,⟨0,k,d,-1,eZW d k⟩,0,3⟩
def hZp (d:Bool)(k:Nat):List Pz:=
 [⟨true,⟨k/2,k-k/2,false,-1,1⟩,0,1⟩,⟨false,⟨k-k/2,k/2,d,(k:Int),1⟩,1,2⟩,⟨true,⟨k-k/2,k/2,false,-1,1⟩,2,1⟩,
  ⟨false,⟨k/2,k-k/2,d,-1,eZW d k⟩,1,2⟩,⟨true,⟨k/2,k-k/2,false,-1,1⟩,2,3⟩]
def jZC (k per words:Nat):Bool:=decide (k≤20∧2*2^k+per≤words)
def aZM (d:Bool)(k per words:Nat):List Pz:=if jZC k per words=true then [jZD d k]else hZp d k
def bZ2 (k per:Nat):Nat:=2*2^((k+1)/2)+per
def apL (ps:List Pz)(l:List UInt64):List UInt64:=ps.foldl (fun l p=>p.ap l) l
theorem uZU (a b:List Pz)(l:List UInt64):apL (a++b) l=apL b (apL a l):=List.foldl_append
def tfL (d:Bool)(k:Nat)(l:List UInt64):List UInt64:=cZs (zw (eZW d k)) (cZP d k l)
theorem pZ5 (d:Bool)(k:Nat)(l:List UInt64):(tfL d k l).length=2^k:=by unfold tfL;rw[gZA,eZR]
theorem tZV (d:Bool)(k:Nat)(l:List UInt64)(hl:l.length=2^k):(jZD d k).ap l=tfL d k l:=by
 show dZw ⟨0,k,d,-1,eZW d k⟩ l 1=_
 unfold dZw;rw[show List.range 1=[0]from rfl,List.flatMap_cons,List.flatMap_nil,List.append_nil,Nat.zero_mul,List.drop_zero];show eZf _ 0 (l.take (2^k))=_
 rw[List.take_of_length_le (by omega)];rfl
theorem vZd (d:Bool)(k:Nat)(hk:k≤32)(l:List UInt64):apL (hZp d k) l=tfL d k l:=by
 obtain⟨a,ha⟩:∃ a,k/2=a:=⟨_,rfl⟩;obtain⟨b,hb⟩:∃ b,k-a=b:=⟨_,rfl⟩;have hab:a+b=k:=by omega
 have hka:k-b=a:=by omega
 have hkb:k-a=b:=by omega
 have hRC:2^a*2^b=2^k:=by rw[← Nat.pow_add,hab]
 have hpos:0<2^a:=Nat.two_pow_pos a;unfold hZp apL;simp only[List.foldl_cons,List.foldl_nil,ha,hb];show trL (2^a) (2^b) (dZw ⟨a,b,d,-1,eZW d k⟩ (trL (2^b) (2^a) (dZw ⟨b,a,d,(k:Int),1⟩ (trL (2^a) (2^b) l) (2^b))) (2^a))=_
 apply List.ext_getElem?;intro i;by_cases hi:i<2^k
 ·have hj:i%2^a<2^a:=Nat.mod_lt _ hpos;have hm:i/2^a<2^b:=Nat.div_lt_of_lt_mul (by rw[hRC];exact hi);have hij:i/2^a*2^a+i%2^a=i:=by rw[Nat.mul_comm];exact Nat.div_add_mod i (2^a)
  generalize hjj:i%2^a=j at hj hij;generalize hmm:i/2^a=m at hm hij;subst hij;have e1:=pZ6 (r:=2^a) (c:=2^b) (dZw ⟨a,b,d,-1,eZW d k⟩ (trL (2^b) (2^a) (dZw ⟨b,a,d,(k:Int),1⟩ (trL (2^a) (2^b) l) (2^b))) (2^a)) hj hm;have e2:=uZe ⟨a,b,d,-1,eZW d k⟩ (trL (2^b) (2^a) (dZw ⟨b,a,d,(k:Int),1⟩ (trL (2^a) (2^b) l) (2^b))) (m:=2^a) hj (c:=m) hm;have hlen:m*2^a+j<(trL (2^a) (2^b) (dZw ⟨a,b,d,-1,eZW d k⟩ (trL (2^b) (2^a) (dZw ⟨b,a,d,(k:Int),1⟩ (trL (2^a) (2^b) l) (2^b))) (2^a))).length:=by rw[mZm,hRC];exact hi
  rw[List.getElem?_eq_getElem hlen];rw[List.getD_eq_getElem?_getD,List.getElem?_eq_getElem hlen]at e1;simp only[Option.getD_some]at e1;rw[e1,e2];have e3:tfL d k l=cZs (zw (eZW d k)) (cZP d k l):=rfl;rw[e3,kZU _ (hZH d k l hi),jZ8];congr 2;have hw:Fft.pw (rtd d k) (2^a*2^b)=1:=by rw[hRC];exact vZu d hk
  have hrows:=tZs hw (at' l) m j;rw[hRC]at hrows;rw[hrows];have hwa:Fft.pw (rtd d k) (2^a)=rtd d b:=by have:=pZR d hk (show b≤k by omega);rwa [hka]at this
  have hwb:Fft.pw (rtd d k) (2^b)=rtd d a:=by have:=pZR d hk (show a≤k by omega);rwa [hkb]at this
  rw[hwa,hwb];unfold wz;rw[if_neg (show ¬((0:Int)≤-1) by omega)];have key:dft (rtd d b) (2^b) (fun i=>at' (trL (2^b) (2^a) (dZw ⟨b,a,d,(k:Int),1⟩ (trL (2^a) (2^b) l) (2^b))) (j*2^b+i)) m=dft (rtd d b) (2^b) (fun c=>dft (rtd d a) (2^a) (fun r=>at' l (r*2^b+c)) j*Fft.pw (rtd d k) (c*j)) m:=by
   refine hZ2 (fun c hc=>?_) m;rw[sZI _ hc hj];have h2:=uZd ⟨b,a,d,(k:Int),1⟩ (trL (2^a) (2^b) l) (m:=2^b) hc (c:=j) hj;refine h2.trans ?_;unfold wz;rw[if_pos (Int.natCast_nonneg k)];have e1:zw 1=1:=by decide
   have h3:dft (rtd d a) (2^a) (fun i=>at' (trL (2^a) (2^b) l) (c*2^a+i)) j=dft (rtd d a) (2^a) (fun r=>at' l (r*2^b+c)) j:=
    hZ2 (fun r hr=>sZI l hr hc) j
   show dft (rtd d a) (2^a) (fun i=>at' (trL (2^a) (2^b) l) (c*2^a+i)) j*zw 1*Fft.pw (rtd d ((k:Int).toNat)) (c*j)=_
   rw[h3,e1,Int.toNat_natCast];grind
  show dft (rtd d b) (2^b) (fun i=>at' (trL (2^b) (2^a) (dZw ⟨b,a,d,(k:Int),1⟩ (trL (2^a) (2^b) l) (2^b))) (j*2^b+i)) m*zw (eZW d k)*1=_
  rw[key];grind
 ·rw[List.getElem?_eq_none (by rw[mZm,hRC];omega),List.getElem?_eq_none (by rw[pZ5];omega)]
theorem pZH (d:Bool)(k per words:Nat)(hk:k≤32)(l:List UInt64)(hl:l.length=2^k):apL (aZM d k per words) l=tfL d k l:=by
 unfold aZM;split
 ·exact tZV d k l hl
 ·exact vZd d k hk l
end Pln
namespace Sup
open Go Go.Hw Go.Form W Lay
theorem nZR (s:Int)(hs:0<aZL s)(H:Hp):Zc prog 148 #[.int .u64 s] H (RetE (.int .i64 (cZG s+1)) H):=by
 apply cZZ.ok;unfold cZZ;refine Zc.use (v:=.int .i64 (cZG s+1)) ?_ (RetE.mk _ _);apply aZB.ok;have:s=32∨s=64∨s=128∨s=256∨s=512∨s=1024∨s=2048∨s=4096:=by
  unfold aZL at hs
  repeat' split at hs
  all_goals omega
 unfold aZB;rcases this with rfl|rfl|rfl|rfl|rfl|rfl|rfl|rfl
 all_goals
  refine aZu rfl ?_;unfold aZB.j4;refine aZu rfl ?_;unfold aZB.j7
  first
   |(refine aZN rfl ⟨by decide,by decide,?_⟩;refine rZW (by decide) ?_;exact RetE.of rfl)
   |(refine aZu rfl ⟨by decide,?_⟩;refine rZW (by decide) ?_;exact RetE.of rfl)
def bZF (k:Nat)(s:Int):Nat:=4702392716946833408+k*65536+(cZG s).toNat
def gZo (k sec s ar:Int):List UInt64:=[UInt64.ofNat (bZF k.toNat s),UInt64.ofNat sec.toNat,UInt64.ofNat ar.toNat]
def hZa (k sec s ar:Int):List UInt64:=gZo k sec s ar++[UInt64.ofNat (Go.Crc.sum (form (gZo k sec s ar))).toNat]
def bZ5 (k sec s ar:Int):List UInt8:=form (hZa k sec s ar)++List.replicate (s.toNat-32) 0
theorem rZ6 (s:Int):cZG s≤12:=by
 rcases iZt s with h|h<;>omega
theorem nZ9 (k:Nat)(sec s ar:Int)(hk:k≤65535)(hs:0<aZL s)(H:Hp):Zc prog 107 #[.agg (bZX k sec s ar)] H (RetE (.int .u64 ((UInt64.ofNat (bZF k s)).toNat:Int)) H):=by
 apply Zc.ret;apply fZC.ok;unfold fZC;simp only[HS];refine(Sep.start H).nw fun b1 H hs'=>?_
 have hs0:=hs;have hs:=hs';have h1:=iZt s;have h2:=jZY s
 first|refine hs.ld 1 rfl rfl ?_|refine hs.ld 2 rfl rfl ?_|refine hs.ld 3 rfl rfl ?_|refine hs.ld 4 rfl rfl ?_|refine hs.ld 5 rfl rfl ?_|refine hs.ld 6 rfl rfl ?_|refine hs.ld 7 rfl rfl ?_|refine hs.ld 8 rfl rfl ?_
 try simp only[HV]
 refine⟨by omega,?_⟩
 first|refine hs.ld 1 rfl rfl ?_|refine hs.ld 2 rfl rfl ?_|refine hs.ld 3 rfl rfl ?_|refine hs.ld 4 rfl rfl ?_|refine hs.ld 5 rfl rfl ?_|refine hs.ld 6 rfl rfl ?_|refine hs.ld 7 rfl rfl ?_|refine hs.ld 8 rfl rfl ?_
 try simp only[HV]
 rw[dZj (x:=s) (by omega) (by omega)];refine aZc.use (nZR s hs0 H) ?_
 try simp only[HV]
 have h3:bZF k s<2^64:=by unfold bZF;omega
 rw[show cZG s+1-1=cZG s by omega,ZV (x:=cZG s) (by omega) (by omega),dZj (x:=cZG s) (by omega) (by omega),bZ1 (n:=k) (by omega)];rw[qZV (i:=(16:Int)) (n:=16) rfl (by omega),Nat.mod_eq_of_lt (by omega)];obtain⟨g,hg⟩:=Int.eq_ofNat_of_zero_le (show 0≤cZG s by omega);have h4:k*2^16<2^64:=by omega
 rw[show(4702392716946833408:Int)=((4702392716946833408:Nat):Int)from rfl,orN (by omega) h4,hg,orN (nZG (by omega) h4) (by omega)];have e1:∀ q,q=4702392716946833408→q|||k*2^16=q+k*2^16:=fun q hq=>by
  have h5:∀ p,p=1094861123→p*2^32=q:=fun p hp=>by omega
  have:=Nat.shiftLeft_add_eq_or_of_lt (show k*2^16<2^32 by omega) 1094861123;rw[Nat.shiftLeft_eq,h5 _ rfl]at this;exact this.symm
 have e2:∀ q,q=4702392716946833408+k*2^16→q|||g=q+g:=fun q hq=>by
  have h5:∀ p,p=1094861123*2^16+k→p*2^16=q:=fun p hp=>by omega
  have:=Nat.shiftLeft_add_eq_or_of_lt (show g<2^16 by omega) (1094861123*2^16+k);rw[Nat.shiftLeft_eq,h5 _ rfl]at this;exact this.symm
 have e3:4702392716946833408+k*2^16+g=bZF k s:=by unfold bZF;rw[hg];rfl
 rw[e1 _ rfl,e2 _ rfl,e3];rw[show(UInt64.ofNat (bZF k s)).toNat=bZF k s from UInt64.toNat_ofNat_of_lt' h3];exact hs.fin 0 rfl _
theorem iZ0 (k sec s ar:Int):(hZa k sec s ar).length=4:=rfl
theorem iZZ (k sec s ar:Int)(hs:0<aZL s):((bZ5 k sec s ar).length:Int)=s:=by
 have h1:=iZt s;unfold bZ5;rw[List.length_append,bZh,iZ0,List.length_replicate];have:4≤aZL s:=by
  rcases h1 with h|h
  ·rw[h.2.2.2.2];have:2^2≤2^(cZG s-3).toNat:=Nat.pow_le_pow_right (by omega) (by omega);omega
  ·omega
 omega
theorem bZR :bZv prog 84=some (1,8,some #[.int .u64 0]):=by kernel_rfl
theorem nZ6 :bZv prog 5=some (1,1,some #[.int .u8 0]):=by kernel_rfl
theorem nZU (k sec s ar:Int)(h:bZz k sec s ar=false)(H:Hp):Zc prog 94 #[.agg (bZX k sec s ar)] H (RetE (.tuple #[.slice none 0 0,.int .i64 1]) H):=by
 apply Zc.ret;apply eZC.ok;unfold eZC;refine(Sep.start H).nw fun b1 H hs=>?_
 first|refine hs.ldw 1 rfl rfl ?_|refine hs.ldw 2 rfl rfl ?_|refine hs.ldw 3 rfl rfl ?_|refine hs.ldw 4 rfl rfl ?_|refine hs.ldw 5 rfl rfl ?_|refine hs.ldw 6 rfl rfl ?_|refine hs.ldw 7 rfl rfl ?_|refine hs.ldw 8 rfl rfl ?_
 try simp only[HV]
 refine Zc.use (bZZ k sec s ar H) ?_
 try simp only[HV]
 rw[h];exact hs.fin 0 rfl _
theorem eZY {x:Nat}(h:x<2^64):(UInt64.ofNat x).toNat=x:=UInt64.toNat_ofNat_of_lt' h
theorem Put_ok (k sec s ar:Int)(h:bZz k sec s ar=true)(hsec:sec≤9223372036854775807):Tr prog 94 #[.agg (bZX k sec s ar)] [] fun v M=>∃ b,v= .tuple #[.slice (some ⟨b,0,none⟩) s.toNat s.toNat,.int .i64 0]∧M=[pts b (.row (Zx (bZ5 k sec s ar)) 5 s.toNat)]:=fun H _=>by
 have hg:=h;unfold bZz at hg;simp only[decide_eq_true_eq]at hg;obtain⟨h1,h2,h3,h4,h5,h6⟩:=hg;obtain⟨kn,rfl⟩:=Int.eq_ofNat_of_zero_le h1;have hp:=jZY s;have hlog:=iZt s;have hlen:=iZZ kn sec s ar h3;apply eZC.ok;unfold eZC;simp only[HS];refine(Sep.start H).nw fun b1 H hs=>?_
 first|refine hs.ldw 1 rfl rfl ?_|refine hs.ldw 2 rfl rfl ?_|refine hs.ldw 3 rfl rfl ?_|refine hs.ldw 4 rfl rfl ?_|refine hs.ldw 5 rfl rfl ?_|refine hs.ldw 6 rfl rfl ?_|refine hs.ldw 7 rfl rfl ?_|refine hs.ldw 8 rfl rfl ?_
 try simp only[HV]
 refine Zc.use (bZZ kn sec s ar H) ?_
 try simp only[HV]
 rw[h];simp only[HV]
 first|refine hs.ldw 1 rfl rfl ?_|refine hs.ldw 2 rfl rfl ?_|refine hs.ldw 3 rfl rfl ?_|refine hs.ldw 4 rfl rfl ?_|refine hs.ldw 5 rfl rfl ?_|refine hs.ldw 6 rfl rfl ?_|refine hs.ldw 7 rfl rfl ?_|refine hs.ldw 8 rfl rfl ?_
 try simp only[HV]
 refine aZc.use (nZ9 kn sec s ar (by omega) h3 H) ?_
 try simp only[HV]
 first|refine hs.ld 1 rfl rfl ?_|refine hs.ld 2 rfl rfl ?_|refine hs.ld 3 rfl rfl ?_|refine hs.ld 4 rfl rfl ?_|refine hs.ld 5 rfl rfl ?_|refine hs.ld 6 rfl rfl ?_|refine hs.ld 7 rfl rfl ?_|refine hs.ld 8 rfl rfl ?_
 try simp only[HV]
 first|refine hs.ld 1 rfl rfl ?_|refine hs.ld 2 rfl rfl ?_|refine hs.ld 3 rfl rfl ?_|refine hs.ld 4 rfl rfl ?_|refine hs.ld 5 rfl rfl ?_|refine hs.ld 6 rfl rfl ?_|refine hs.ld 7 rfl rfl ?_|refine hs.ld 8 rfl rfl ?_
 try simp only[HV]
 rw[dZj (x:=sec) (by omega) (by omega),dZj (x:=ar) (by omega) (by omega)];have hw:([.int .u64 ((UInt64.ofNat (bZF kn s)).toNat:Int),.int .u64 sec,.int .u64 ar]:List Value)=Zd (gZo kn sec s ar):=by
  unfold gZo Zd;simp only[List.map_cons,List.map_nil,Int.toNat_natCast];rw[eZY (x:=sec.toNat) (by omega),eZY (x:=ar.toNat) (by omega)];rw[show((sec.toNat:Nat):Int)=sec by omega,show((ar.toNat:Nat):Int)=ar by omega]
 rw[hw];refine hs.nw fun b2 H hs=>?_
 first|refine hs.ld 1 rfl rfl ?_|refine hs.ld 2 rfl rfl ?_|refine hs.ld 3 rfl rfl ?_|refine hs.ld 4 rfl rfl ?_|refine hs.ld 5 rfl rfl ?_|refine hs.ld 6 rfl rfl ?_|refine hs.ld 7 rfl rfl ?_|refine hs.ld 8 rfl rfl ?_
 try simp only[HV]
 refine hs.mks nZ6 rfl (n:=s.toNat) (m:=s.toNat) (by omega) (by omega) (Nat.le_refl _) (by omega) (by omega) fun bo H hs=>?_
 simp only[HV];have hc2:∀ H,H b2=some (.row (Zd (gZo kn sec s ar)) 84 3)→Cells H (some ⟨b2,0,none⟩) (Zd (gZo kn sec s ar)):=fun H hb=>Cells.row hb 0 3
 refine Zc.use (CrcP.iZI (some ⟨b2,0,none⟩) 3 3 (gZo kn sec s ar) rfl (by omega) H (hc2 H (hs.get 2 rfl))) ?_
 try simp only[HV]
 have hsum:=(Go.Crc.sum (form (gZo kn sec s ar))).isLt;rw[bZ1 (n:=(Go.Crc.sum (form (gZo kn sec s ar))).toNat) (by omega)];have hs:Sep [own _,pts b1 _,Own 84 1 (some ⟨b2,0,none⟩) 3 3 (Zd (gZo kn sec s ar)),pts bo (.row (aZK [.int .u8 0] s.toNat) 5 (s.toNat*1))] H:=hs.turn 2 rfl fun H1 hH=>⟨rfl,.inr ⟨b2,3,rfl,hH,by omega⟩⟩
 refine hs.app1 2 (by rfl) bZR (by omega) (by rfl) (by omega) (by omega) fun A' m' H hs=>?_
 simp only[HV];have hw4:Zd (gZo kn sec s ar)++[.int .u64 ((Go.Crc.sum (form (gZo kn sec s ar))).toNat:Int)]=Zd (hZa kn sec s ar):=by
  unfold hZa Zd;rw[List.map_append];congr 1;simp only[List.map_cons,List.map_nil];rw[eZY (by omega)]
 rw[hw4]at hs;have hc4:Cells H A' (Zd (hZa kn sec s ar)):=by
  obtain⟨_,h7⟩:=hs.own 2 rfl;rcases h7 with⟨_,h8,_⟩|⟨b,mm,rfl,h8,_⟩
  ·omega
  ·exact Cells.row h8 0 4
 refine(FormP.Put_ok A' 4 m' (hZa kn sec s ar) rfl (by omega) H hc4).mono ?_;rintro v H' ⟨b4,hb4,rfl,rfl⟩;have hs:=hs.new hb4 (.row (Zx (form (hZa kn sec s ar))) 5 (8*4));simp only[HV];have hf:(form (hZa kn sec s ar)).length=32:=by rw[bZh];rfl
 have hmin:Nat.min 32 s.toNat=32:=by
  have:4≤aZL s:=by
   rcases hlog with h|h
   ·rw[h.2.2.2.2];have:2^2≤2^(cZG s-3).toNat:=Nat.pow_le_pow_right (by omega) (by omega);omega
   ·omega
  exact Nat.min_eq_left (by omega)
 refine hs.cp 3 (k:=32) (n:=s.toNat) (ys:=Zx (form (hZa kn sec s ar))) (by rfl) nZ6 rfl ?_ ?_ (fun y hy=>?_) fun H hs=>?_
 ·rw[hmin];refine iZz ?_ (by rw[ZT,hf]);have:=Cells.row (hs.get 4 (b:=b4) (o:=.row (Zx (form (hZa kn sec s ar))) 5 (8*4)) rfl) 0 32;rw[List.drop_zero,List.take_of_length_le (by rw[ZT,hf];exact Nat.le_refl _)]at this;exact this
 ·rw[ZT,hf,bZP];rw[← hmin];simp;exact Nat.min_le_right _ _
 ·obtain⟨x,_,rfl⟩:=List.mem_map.1 hy;rfl
 simp only[HV];refine⟨_,⟨bo,rfl,rfl⟩,?_⟩;have hs:=hs.re [3] rfl;have e:setAt (aZK [.int .u8 0] s.toNat) 0 (Zx (form (hZa kn sec s ar)))=Zx (bZ5 kn sec s ar):=by
  unfold bZ5;rw[hZ1,bZD];unfold setAt;rw[ZT,hf];simp[Zx]
 rw[e,Nat.mul_one]at hs;exact hs
end Sup
end Go.Proofs.YtahjgjaenegpgaaGreatDoor
