import Derived.Test.YtgfildcgihbdaaaGreatDoorProg
import Derived.Test.YtgfildcgihbdaaaGreatDoorPkWholeCost4
set_option maxRecDepth 100000
set_option linter.unusedSimpArgs false
set_option linter.unusedVariables false
set_option linter.unnecessarySimpa false
set_option linter.unusedSectionVars false
open Go.IntKind (i64 u32 u64)
namespace Go.Proofs.YtgfildcgihbdaaaGreatDoor
open Tryz (prog)
namespace CrcP
open Go Go.Hw Go.Crc W
theorem tZI (v:W32):eZH .u32 (aZq .u32 (v.toNat:Int) 1) (u32.wrap ((2197175160:Int)*aZr .u32 (v.toNat:Int) 1))=((eZe v).toNat:Int):=by
 rw[gZZ v (i:=1) (n:=1) rfl (by omega),show(1:Int)=((1#32:W32).toNat:Int)from rfl,uZP];have:u32.wrap ((2197175160:Int)*((v&&&1#32).toNat:Int))=((if v.getLsbD 0 then tZ5 else 0#32).toNat:Int):=by
  have h1:v&&&1#32=if v.getLsbD 0 then 1#32 else 0#32:=by
   apply BitVec.eq_of_getLsbD_eq;intro i hi;rw[BitVec.getLsbD_and];cases i with
   |zero=>cases h:v.getLsbD 0<;>simp
   |succ i=>cases h:v.getLsbD 0<;>simp
  rw[h1];cases v.getLsbD 0<;>decide
 rw[this,jZe];rfl
def tbl (i:Nat):Value:=.int .u32 ((it eZe 4 (BitVec.ofNat 32 i)).toNat:Int)
theorem mZ6 (K:VK)(R2:Addr→Int→Hp→Prop)(b:Nat)(c:Array Value)(e:TypeId)(hc:c.size=16)(H:Hp)(hb:H b=some (.obj (.cells c e)))(x2:Nat)(hx:x2<16)(x4:Int)(w:W32)
  (k:R2 ⟨b,0,none⟩ (i64.wrap (x4+1)) (H.set b (.obj (.cells (c.setIfInBounds x2 (.int .u32 (w.toNat:Int))) e)))):
  ∀(d j:Nat) (v:W32),j+d=4→it eZe d v=w→ZP.l6 K R2 (d+1) ⟨b,0,none⟩ x2 (v.toNat:Int) x4 j H
 |0,j,v,hj,hv=>by
  unfold ZP.l6;refine Zh (by omega) ?_;refine⟨by omega,by omega,?_⟩;simp only[Addr.add_lit',Int.toNat_natCast,Nat.mul_one,Nat.zero_add,Nat.add_zero];refine hZI hb (by omega) rfl ?_;obtain rfl:v=w:=hv;exact k
 |d+1,j,v,hj,hv=>by
  unfold ZP.l6;refine Zn (by omega) ?_;refine⟨by omega,?_⟩;rw[tZI,ZG (by omega) (by omega)];exact mZ6 K R2 b c e hc H hb x2 hx x4 w k d (j+1) (eZe v) (by omega) hv
theorem mZ7 (K:VK)(b:Nat)(e:TypeId)(H0:Hp)(hn:H0 b=none)
  (k:∀ H,H0.le H→K (.agg ((List.range 16).map tbl).toArray) H):∀(d i:Nat) (H:Hp),i+d=16→H=H0.set b (.obj (.cells (filled tbl (.int .u32 0) 16 i) e))→ZP.l2 K (d+1) ⟨b,0,none⟩ (i:Int) H
 |0,i,H,hi,hH=>by
  obtain rfl:i=16:=by omega
  unfold ZP.l2;refine Zh (by omega) ?_;have hb:H b=some (.obj (.cells (filled tbl (.int .u32 0) 16 16) e)):=by rw[hH];exact Hp.set_same _ _ _
  refine fZI hb (fZf _ _ _ _) ?_;refine mZa hb (fZf _ _ _ _) (by simp[fZf]) ?_ ?_
  ·rw[lZt];intro v hv;simp at hv;obtain⟨a,_,rfl⟩:=hv;rfl
  refine fZI (Hp.set_same _ _ _) (by simp[fZf]) ?_;rw[Array.toArray_toList,lZt];refine k _ ?_;rw[hH,Hp.set_set];exact Hp.le_set hn
 |d+1,i,H,hi,hH=>by
  unfold ZP.l2;refine Zn (by omega) ?_;refine⟨5,?_⟩;have hb:H b=some (.obj (.cells (filled tbl (.int .u32 0) 16 i) e)):=by rw[hH];exact Hp.set_same _ _ _
  rw[show u32.wrap (i:Int)=((BitVec.ofNat 32 i).toNat:Int) by rw[BitVec.toNat_ofNat,Nat.mod_eq_of_lt (by omega)];exact oZ6 (by omega)];refine mZ6 K _ b _ e (fZf _ _ _ _) H hb i (by omega) i _ ?_ 4 0 _ rfl rfl;rw[ZG (by omega) (by omega)];refine mZ7 K b e H0 hn k d (i+1) _ (by omega) ?_;rw[hH,Hp.set_set];congr 3;exact qZM tbl (.int .u32 0) (by omega)
theorem qZV (H:Hp):Za prog 212 #[] H (RetE (.agg ((List.range 16).map tbl).toArray) H):=by
 apply Za.ret;apply ZP.ok;unfold ZP;intro b hb;refine⟨17,?_⟩;exact mZ7 _ b _ H hb (fun H' hl=>⟨rfl,hl⟩) 16 0 _ rfl rfl
theorem oZF (v:W32):(v>>>4)^^^it eZe 4 (v&&&15#32)=it eZe 4 v:=(wZY v).symm
theorem uZO (v:W32):aZr .u32 (v.toNat:Int) 15=((v&&&15#32).toNat:Int):=uZP v 15#32
theorem kZG (v:W32):(v&&&15#32).toNat<16:=by
 rw[BitVec.toNat_and];exact Nat.lt_of_le_of_lt Nat.and_le_right (by decide)
theorem qZk (v:W32):(((List.range 16).map tbl).toArray)[(v&&&15#32).toNat]? =some (.int .u32 ((it eZe 4 (v&&&15#32)).toNat:Int)):=by
 have h:=kZG v;simp only[List.getElem?_toArray,List.getElem?_map,List.getElem?_range h,Option.map_some];unfold tbl;rw[BitVec.ofNat_toNat,BitVec.setWidth_eq]
theorem mZA (K:VK)(t:Nat)(e:TypeId)(A:OA)(n m:Nat)(bs:List UInt8)(hn:n=bs.length)(hm:n≤9223372036854775807)(H:Hp)(ht:H t=some (.obj (.cells ((List.range 16).map tbl).toArray e)))(hb:Cells H A (Zm bs))(w:W32)
  (k:K (.int .u32 ((~~~ w).toNat:Int)) H):∀(d j:Nat) (v:W32),j+d=n→run v (bs.drop j)=w→bZa.l4 K (d+1) ⟨t,0,none⟩ (v.toNat:Int) A n m n (j:Int) H
 |0,j,v,hj,hv=>by
  unfold bZa.l4;refine Zh (by omega) ?_;rw[List.drop_eq_nil_of_le (by omega)]at hv;obtain rfl:v=w:=hv;rw[show u32.max=((BitVec.allOnes 32).toNat:Int)from rfl,jZe,BitVec.allOnes_xor];exact k
 |d+1,j,v,hj,hv=>by
  unfold bZa.l4;refine Zn (by omega) ?_;have hlt:j<bs.length:=by omega
  refine hb.read (i:=j) (v:=.int .u8 (bs[j].toNat:Int)) (by rw[hZK,List.getElem?_eq_getElem hlt];rfl) rfl (by rw[ZL];omega) ?_;simp only[HV];refine⟨by omega,?_⟩;rw[show(bs[j].toNat:Int)=((bs[j].toBitVec).toNat:Int)from rfl,xZK,jZe,uZO];refine⟨by omega,by have:=kZG (v^^^BitVec.setWidth 32 bs[j].toBitVec);omega,?_⟩;simp only[Addr.add_lit',Int.toNat_natCast,Nat.mul_one,Nat.zero_add];refine bZn ht (qZk _) ?_;simp only[HV];refine⟨by omega,?_⟩;rw[gZZ _ (i:=4) (n:=4) rfl (by omega),jZe,oZF,uZO];refine⟨by omega,by have:=kZG (it eZe 4 (v^^^BitVec.setWidth 32 bs[j].toBitVec));omega,?_⟩;simp only[Addr.add_lit',Int.toNat_natCast,Nat.mul_one,Nat.zero_add];refine bZn ht (qZk _) ?_;simp only[HV];rw[gZZ _ (i:=4) (n:=4) rfl (by omega),jZe,oZF,ZG (by omega) (by omega)];refine mZA K t e A n m bs hn hm H ht hb w k d (j+1) _ (by omega) ?_;rw[List.drop_eq_getElem_cons hlt]at hv;exact hv
theorem lZ8 (s:W32)(A:OA)(n m:Nat)(bs:List UInt8)(hn:n=bs.length)(hm:n≤9223372036854775807)(H:Hp)(hb:Cells H A (Zm bs)):
  Za prog 185 #[.int .u32 (s.toNat:Int),.slice A n m] H (RetE (.int .u32 ((more s bs).toNat:Int)) H):=by
 apply Za.ret;apply bZa.ok;unfold bZa;refine Za.use (qZV H) ?_
 try simp only[HV]
 intro b hbn;refine mZa (Hp.set_same _ _ _) rfl (by simp) ?_ ?_
 ·intro v hv;simp at hv;obtain⟨a,_,rfl⟩:=hv;rfl
 rw[Hp.set_set];refine⟨n+1,?_⟩;rw[show u32.max=((BitVec.allOnes 32).toNat:Int)from rfl,jZe,BitVec.allOnes_xor];refine mZA _ b _ A n m bs hn hm _ (Hp.set_same _ _ _) (hb.le (Hp.le_set hbn)) (run (~~~ s) bs) ?_ n 0 _ (by omega) rfl;exact⟨rfl,Hp.le_set hbn⟩
theorem eZB (A:OA)(n m:Nat)(bs:List UInt8)(hn:n=bs.length)(hm:n≤9223372036854775807)(H:Hp)(hb:Cells H A (Zm bs)):
  Za prog 150 #[.slice A n m] H (RetE (.int .u32 ((sum bs).toNat:Int)) H):=by
 apply iZS.ok;unfold iZS;refine Za.use (lZ8 0#32 A n m bs hn hm H hb) ?_
 try simp only[HV]
 exact RetE.mk _ _
end CrcP
namespace CrcP
open Go Go.Hw Go.Crc Go.Form W
theorem iZP (A:OA)(n m:Nat)(l:List UInt64)(hn:n=l.length)(hm:n≤10000000000)(H:Hp)(hl:Cells H A (Zc l)):
  Za prog 104 #[.slice A n m] H (RetE (.int .u32 ((sum (form l)).toNat:Int)) H):=by
 apply Za.ret;apply fZm.ok;unfold fZm;refine(FormP.Put_ok A n m l hn (by omega) H hl).mono ?_;rintro v H' ⟨b,hb,rfl,rfl⟩;simp only[HV];have hf:(form l).length=8*n:=by rw[aZ8,hn]
 refine Za.use (eZB (some ⟨b,0,none⟩) (8*n) (8*n) (form l) hf.symm (by omega) _ (by have:=Cells.row (Hp.set_same H b (.row (Zm (form l)) 5 (8*n))) 0 (8*n);rwa [List.drop_zero,List.take_of_length_le (by rw[ZL,hf];omega)]at this)) ?_
 try simp only[HV]
 exact⟨rfl,Hp.le_set hb⟩
def wZK (i:Nat):W32:=if i=0 then tZ5 else 1#32<<<(i-1)
def Rep (m:Nat→W32)(f:W32→W32):Prop:=Lin f∧∀ i,i<32→m i=f (1#32<<<i)
theorem Rep.bit :Rep wZK eZe:=⟨oZx,by
 have:(List.range 32).all (fun i=>wZK i==eZe (1#32<<<i))=true:=by decide +kernel
 intro i hi;have:=List.all_eq_true.1 this i (by simpa using hi);simpa using this⟩
def counter (s:W32)(n:Nat):AO:=.obj (.cells #[.int .u32 (s.toNat:Int),.int .i64 (n:Int)] 208)
theorem kZ5 (c:Nat)(s:W32)(k:Nat)(A:OA)(n m:Nat)(bs:List UInt8)(hn:n=bs.length)(H:Hp)(hc:H c=some (counter s k))(hb:Cells H A (Zm bs))(hk:k+n≤9223372036854775807):
  Za prog 160 #[.pointer (some ⟨c,0,none⟩),.slice A n m] H (RetE (.tuple #[]) (H.set c (counter (more s bs) (k+n)))):=by
 apply cZm.ok;unfold cZm;simp only[aZY,Addr.add_lit',Nat.add_zero,Nat.zero_add];refine bZn hc (v:=.int .u32 (s.toNat:Int)) rfl ?_;simp only[HV];refine Za.use (lZ8 s A n m bs hn (by omega) H hb) ?_
 try simp only[HV]
 refine hZI hc (by simp) rfl ?_;refine bZn (Hp.set_same _ _ _) (v:=.int .i64 (k:Int)) rfl ?_;simp only[HV];refine hZI (Hp.set_same _ _ _) (by simp) rfl ?_;rw[Hp.set_set,show((k:Int)+(n:Int))=((k+n:Nat):Int) by omega,aZJ hk];exact RetE.mk _ _
theorem pZf (c:Nat)(s:W32)(k:Nat)(A:OA)(n m:Nat)(l:List UInt64)(hn:n=l.length)(H:Hp)(hc:H c=some (counter s k))(hl:Cells H A (Zc l))(hn2:n≤10000000000)(hk:k≤1000000000000):
  Za prog 123 #[.pointer (some ⟨c,0,none⟩),.slice A n m] H (RetE (.tuple #[]) (H.set c (counter (more s (form l)) (k+8*n)))):=by
 apply Za.ret;apply bZH.ok;unfold bZH;refine(FormP.Put_ok A n m l hn (by omega) H hl).mono ?_;rintro v H' ⟨b,hb,rfl,rfl⟩;simp only[HV];have hf:(form l).length=8*n:=by rw[aZ8,hn]
 have hle:=Hp.le_set (o:=.row (Zm (form l)) 5 (8*n)) hb;refine Za.use (kZ5 c s k (some ⟨b,0,none⟩) (8*n) (8*n) (form l) hf.symm _ (hle _ _ hc) (by have:=Cells.row (Hp.set_same H b (.row (Zm (form l)) 5 (8*n))) 0 (8*n);rwa [List.drop_zero,List.take_of_length_le (by rw[ZL,hf];omega)]at this) (by omega)) ?_
 try simp only[HV]
 exact⟨rfl,Hp.set_le hle _ _⟩
theorem uZ9 (c:Nat)(s:W32)(k:Nat)(H:Hp)(hc:H c=some (counter s k)):Za prog 124 #[.pointer (some ⟨c,0,none⟩)] H (RetE (.int .u32 (s.toNat:Int)) H):=by
 apply cZn.ok;unfold cZn;simp only[aZY,Addr.add_lit',Nat.add_zero,Nat.zero_add];refine bZn hc (v:=.int .u32 (s.toNat:Int)) rfl ?_;simp only[HV];exact RetE.mk _ _
section
variable (A1 A2 : Option Addr) (n1 m1 n2 m2 : Nat) (ps : List (OA × Nat × Nat × List UInt8)) (ws : List (OA × Nat × Nat × List UInt64)) (H0 : Hp) (c : Nat)
end
def iZV (s:W32)(k:Nat)(r:List Value):Array Value:=(Value.int .u32 (s.toNat:Int)::Value.int .i64 (k:Int)::r).toArray
section
variable {L : List As} {H : Hp}
theorem wZo (h:Sep L H)(i:Nat){c:Nat}{s:W32}{k:Nat}{r:List Value}{t:TypeId}(hi:L[i]? =some (pts c (.obj (.cells (iZV s k r) t))))(A:OA)(n m:Nat)(bs:List UInt8)(hn:n=bs.length)(hb:∀ H',H.le H'→Cells H' A (Zm bs))(hk:k+n≤9223372036854775807){K:VK}
  (kk:∀ H',Sep (L.set i (pts c (.obj (.cells (iZV (more s bs) (k+n) r) t)))) H'→K (.tuple #[]) H'):Za prog 160 #[.pointer (some ⟨c,0,none⟩),.slice A n m] H K:=by
 apply cZm.ok;unfold cZm;simp only[aZY];refine h.ldf i hi rfl ?_;simp only[HV];refine Za.use (lZ8 s A n m bs hn (by omega) H (hb H (Hp.le_refl _))) ?_
 try simp only[HV]
 refine h.stf i hi (by show 0<(_::_::r:List Value).toArray.size;simp) rfl fun H1 hs1=>?_
 have hi1:(L.set i (pts c (.obj (.cells ((iZV s k r).setIfInBounds 0 (.int .u32 ((more s bs).toNat:Int))) t))))[i]? =some (pts c (.obj (.cells (iZV (more s bs) k r) t))):=by
  rw[List.getElem?_set];simp only[(List.getElem?_eq_some_iff.1 hi).1,if_true];rfl
 refine hs1.ldf i hi1 rfl ?_;simp only[HV];refine hs1.stf i hi1 (by show 1<(_::_::r:List Value).toArray.size;simp) rfl fun H2 hs2=>?_
 rw[show((k:Int)+(n:Int))=((k+n:Nat):Int) by omega,aZJ hk,List.set_set]at hs2;exact kk H2 hs2
theorem kZk (h:Sep L H)(i:Nat){c:Nat}{s:W32}{k:Nat}{r:List Value}{t:TypeId}(hi:L[i]? =some (pts c (.obj (.cells (iZV s k r) t))))(A:OA)(n m:Nat)(l:List UInt64)(hn:n=l.length)(hl:Cells H A (Zc l))(hn2:n≤10000000000)(hk:k≤1000000000000){K:VK}
  (kk:∀ H',Sep (L.set i (pts c (.obj (.cells (iZV (more s (form l)) (k+8*n) r) t)))) H'→K (.tuple #[]) H'):Za prog 123 #[.pointer (some ⟨c,0,none⟩),.slice A n m] H K:=by
 apply bZH.ok;unfold bZH;refine(FormP.Put_ok A n m l hn (by omega) H hl).mono ?_;rintro v H' ⟨b,hb,rfl,rfl⟩;simp only[HV];have hf:(form l).length=8*n:=by rw[aZ8,hn]
 have hs:=h.new hb (.row (Zm (form l)) 5 (8*n));have hlt:=(List.getElem?_eq_some_iff.1 hi).1;refine wZo hs i (by rw[List.getElem?_append_left hlt];exact hi) (some ⟨b,0,none⟩) (8*n) (8*n) (form l) hf.symm (fun H' hle=>?_) (by omega) fun H' hs'=>?_
 ·have:=Cells.row (hle _ _ (Hp.set_same H b (.row (Zm (form l)) 5 (8*n)))) 0 (8*n)
  rwa [List.drop_zero,List.take_of_length_le (by rw[ZL,hf];omega)]at this
 ·rw[List.set_append_left _ _ hlt]at hs';exact kk H' (Sep.take hs')
theorem pZy (h:Sep L H)(i:Nat){c:Nat}{s:W32}{k:Nat}{r:List Value}{t:TypeId}(hi:L[i]? =some (pts c (.obj (.cells (iZV s k r) t)))):Za prog 124 #[.pointer (some ⟨c,0,none⟩)] H (RetE (.int .u32 (s.toNat:Int)) H):=by
 apply cZn.ok;unfold cZn;simp only[aZY];refine h.ldf i hi rfl ?_;simp only[HV];exact RetE.mk _ _
end
end CrcP
namespace Trn
open Go Go.Hw Go.Crc Go.Form W Shp Str Dsk Are
theorem vZz {r a i a' i':Nat}(hi:i<r)(hi':i'<r)(h:a*r+i=a'*r+i'):a=a'∧i=i':=by
 have h1:(a*r+i)/r=a:=by rw[Nat.add_comm,Nat.add_mul_div_right _ _ (by omega),Nat.div_eq_of_lt hi,Nat.zero_add]
 have h2:(a'*r+i')/r=a':=by rw[Nat.add_comm,Nat.add_mul_div_right _ _ (by omega),Nat.div_eq_of_lt hi',Nat.zero_add]
 have:a=a':=by rw[← h1,←h2,h]
 subst this;exact⟨rfl,by omega⟩
def uZc (p q r c bn:Nat):List Value:=[.pointer (some ⟨p,0,none⟩),.pointer (some ⟨q,0,none⟩),.int .i64 (r:Int),.int .i64 (c:Int),.pointer (some ⟨bn,0,none⟩)]
def cZa (s:W32)(k p q r c bn:Nat):AO:=.obj (.cells (CrcP.iZV s k (uZc p q r c bn)) 260)
structure Fil (F:Nat→Nat→UInt64)(rows b i k:Nat)(ws:List UInt64):Prop where
 len:ws.length=b*rows
 got:∀ k' i',k'<b→i'<rows→(i'<i∨(i'=i∧k'<k))→ws[k'*rows+i']? =some (F i' k')
theorem sZs {k b rows i:Nat}(hk:k<b)(hi:i<rows):k*rows+i<b*rows:=by
 have:(k+1)*rows≤b*rows:=Nat.mul_le_mul_right rows hk;rw[Nat.succ_mul]at this;omega
theorem Fil.step {F:Nat→Nat→UInt64}{rows b i k:Nat}{ws:List UInt64}(h:Fil F rows b i k ws)(hk:k<b)(hi:i<rows):Fil F rows b i (k+1) (ws.set (k*rows+i) (F i k)):=by
 have hlt:=sZs hk hi;refine⟨by rw[List.length_set];exact h.len,fun k' i' hk' hi' hc=>?_⟩;rw[List.getElem?_set];by_cases e:k*rows+i=k'*rows+i'
 ·obtain⟨rfl,rfl⟩:=vZz hi hi' e;rw[if_pos rfl,if_pos (by rw[h.len];exact hlt)]
 ·rw[if_neg e];refine h.got k' i' hk' hi' ?_;rcases hc with hc|⟨rfl,hc⟩
  ·exact .inl hc
  ·refine .inr ⟨rfl,?_⟩;by_cases e2:k'=k
   ·subst e2;exact absurd rfl e
   ·omega
theorem Fil.next {F:Nat→Nat→UInt64}{rows b i:Nat}{ws:List UInt64}(h:Fil F rows b i b ws):Fil F rows b (i+1) 0 ws:=⟨h.len,fun k' i' hk' hi' hc=>h.got k' i' hk' hi' (by omega)⟩
theorem Fil.all {F:Nat→Nat→UInt64}{rows b:Nat}{ws:List UInt64}(hr:0<rows)(h:Fil F rows b rows 0 ws):ws=(List.range (b*rows)).map fun j=>F (j%rows) (j/rows):=by
 apply List.ext_getElem?;intro j;by_cases hj:j<b*rows
 ·have hd:j/rows<b:=by rw[Nat.div_lt_iff_lt_mul hr];exact hj
  have hm:=Nat.mod_lt j hr;have:=h.got (j/rows) (j%rows) hd hm (.inl hm);rw[Nat.mul_comm,Nat.div_add_mod]at this;rw[this,List.getElem?_map,List.getElem?_range hj];rfl
 ·rw[List.getElem?_eq_none (by rw[h.len];omega),List.getElem?_eq_none (by simp;omega)]
theorem pZa (ws:List UInt64)(i:Nat)(w:UInt64):(Zc ws).set i (.int .u64 (w.toNat:Int))=Zc (ws.set i w):=by
 unfold Zc;rw[List.map_set]
section
variable {rn p q dp ap bn bb rl : Nat} {s : W32} {sk : Nat} {x : X} {ea eb j : Nat} {cap peak : Int} {bufs : List (Nat × Nat × Option Addr)} {mb mr : Nat}
theorem rZ4 (K:VK)(R4:OA→Int→OA→Nat→Nat→OA→Nat→Nat→Int→Int→Hp→Prop)(F:Nat→Nat→UInt64){rows cols b i:Nat}(hr:rows*b≤4294967296)(hb1:1≤b)(hi:i<rows)(c:Int)(row:List UInt64)(hrow:row.length=b)(hF:∀ k,k<b→row[k]? =some (F i k)){L:List As}
  (hK:∀ ws H,Fil F rows b (i+1) 0 ws→Sep (pts rn (cZa s sk p q rows cols bn)::pts bb (.row (Zc ws) 82 mb)::pts rl (.row (Zc row) 82 mr)::L) H→R4 (some ⟨rn,0,none⟩) c (some ⟨bb,0,none⟩) (b*rows) (b*rows) (some ⟨rl,0,none⟩) b b (rows:Int) ((i+1:Nat):Int) H):
  ∀(t k:Nat) (ws:List UInt64) (H:Hp),k+t=b→Fil F rows b i k ws→Sep (pts rn (cZa s sk p q rows cols bn)::pts bb (.row (Zc ws) 82 mb)::pts rl (.row (Zc row) 82 mr)::L) H→
   Zz.l10 K R4 (t+1) (some ⟨rn,0,none⟩) c (some ⟨bb,0,none⟩) (b*rows) (b*rows) (some ⟨rl,0,none⟩) b b (i:Int) (rows:Int) (i:Int) (some ⟨rl,0,none⟩) b b (b:Int) (k:Int) H:=fun t=>by
 induction t with
 |zero=>
  intro k ws H hk hf hs;have hkb:k=b:=by omega
  subst hkb;unfold Zz.l10;refine Zh (by omega) ?_;have hr1:rows*1≤rows*k:=Nat.mul_le_mul_left rows (by omega);rw[show((i:Int)+1)=((i+1:Nat):Int) by omega,aZJ (by omega)];exact hK ws H hf.next hs
 |succ t ih=>
  intro k ws H hk hf hs;have hkb:k<b:=by omega
  have hlt:=sZs hkb hi;have hcm:=Nat.mul_comm b rows;unfold Zz.l10;refine Zn (by omega) ?_;have hg:(Zc row)[k]? =some (.int .u64 ((F i k).toNat:Int)):=by rw[aZ9,hF k hkb];rfl
  refine⟨by omega,by omega,?_⟩;show Ld H _ _
  rw[Int.toNat_natCast,Nat.mul_one,Addr.add_lit',Nat.zero_add];refine hs.ldr 2 rfl hg ?_;simp only[HV];refine hs.ldg 0 rfl rfl ?_;simp only[HV];have e:i64.wrap (i64.wrap ((k:Int)*(rows:Int))+(i:Int))=((k*rows+i:Nat):Int):=by
   rw[← Int.natCast_mul,aZJ (by omega),show(((k*rows:Nat):Int)+(i:Int))=((k*rows+i:Nat):Int) by omega,aZJ (by omega)]
  rw[e];refine⟨by omega,by omega,?_⟩;show St H _ _ _
  rw[Int.toNat_natCast,Nat.mul_one,Addr.add_lit',Addr.add_lit',Nat.zero_add,Nat.add_zero];refine hs.str 1 (b:=bb) (xs:=Zc ws) (e:=82) (m:=mb) rfl (by rw[Zr,hf.len];exact hlt) rfl fun H hs=>?_;rw[pZa]at hs;rw[ZG (x:=(k:Int)+1) (by omega) (by have:b*1≤b*rows:=Nat.mul_le_mul_left b (by omega);omega)];exact ih (k+1) _ H (by omega) (hf.step hkb hi) hs
def gR (per f cols c b i:Nat):Nat:=((List.range i).map fun i'=>(pcs per f b (i'*cols+c) b).length).sum
theorem hZA (per f cols c b i:Nat):gR per f cols c b (i+1)=gR per f cols c b i+(pcs per f b (i*cols+c) b).length:=by
 unfold gR;rw[List.range_succ,List.map_append,List.sum_append];simp
theorem vZw (per f cols c b:Nat):∀{i j:Nat},i≤j→gR per f cols c b i≤gR per f cols c b j:=fun{i j} h=>by
 induction h with
 |refl=>exact Nat.le_refl _
 |step h ih=>rw[hZA];omega
theorem nZG (per f cols c b:Nat):∀ i,gR per f cols c b i≤i*b
 |0=>by simp[gR]
 |i+1=>by
  rw[hZA,Nat.succ_mul];have:=nZG per f cols c b i;have:=dZo per f b (i*cols+c) b;omega
theorem vZT (d:D)(a b:Nat):D.rdG (D.rdG d a) b=D.rdG d (a+b):=by
 unfold D.rdG;simp only[D.mk.injEq,true_and,and_true];omega
theorem lZG (a b:Int):mx (mx a b) b=mx a b:=by
 unfold mx;by_cases h:b>a
 ·rw[if_pos h,if_neg (by omega)]
 ·rw[if_neg h,if_neg h]
theorem kZb {d:D}{x:X}{fr n k:Nat}(h:k<n):(pws d x fr n)[k]? =some (pw d x (fr+k)):=by
 unfold pws;rw[List.getElem?_map,List.getElem?_range h];rfl
def pZR (rn p q dp ap bn bb:Nat)(s:W32)(sk:Nat)(d:D)(x:X)(rows cols b c:Nat)(cap peak:Int)(bufs:List (Nat×Nat×OA))(mb:Nat)(v:Value)(M:List As):Prop:=
 ((d.fuse=0∨gR (D.per d) x.f cols c b rows<d.fuse)∧v= .int .i64 0∧
  M=[pts rn (cZa s sk p q rows cols bn),pts bb (.row (Zc ((List.range (b*rows)).map fun j=>pw d x (j%rows*cols+c+j/rows))) 82 mb),pts p (ZI dp ap x),Dk dp (D.rdG d (gR (D.per d) x.f cols c b rows)),Ar ap cap (mx peak (ZE bufs+D.per d)) bufs])∨
 (∃ d',cZr (fun _=>False) d d'∧d.fuse≤gR (D.per d) x.f cols c b rows∧v= .int .i64 8∧M=[pts rn (cZa s sk p q rows cols bn),pts p (ZI dp ap x),Dk dp d',Ar ap cap (mx peak (ZE bufs+D.per d)) bufs])
theorem pZn (K:VK){d:D}{rows cols b c:Nat}(hok:Ok d)(hl:d.down=false)(hx:On d x)(ho:d.rd≤4000000000000000000)(hw:x.w=rows*cols)(hb1:1≤b)(hcb:c+b≤cols)(hsz:rows*cols≤4294967296)(hr1:1≤rows)(hcap:(D.per d:Int)≤cap-ZE bufs)
  (hK:∀ v M H,pZR rn p q dp ap bn bb s sk d x rows cols b c cap peak bufs mb v M→Sep M H→K v H):
  ∀(t i:Nat) (ws row:List UInt64) (pk:Int) (H:Hp),i+t=rows→(d.fuse=0∨gR (D.per d) x.f cols c b i<d.fuse)→Fil (fun i k=>pw d x (i*cols+c+k)) rows b i 0 ws→row.length=b→mx pk (ZE bufs+D.per d)=mx peak (ZE bufs+D.per d)→(i=0∨pk=mx peak (ZE bufs+D.per d))→
   Sep [pts rn (cZa s sk p q rows cols bn),pts bb (.row (Zc ws) 82 mb),pts rl (.row (Zc row) 82 mr),pts p (ZI dp ap x),Dk dp (D.rdG d (gR (D.per d) x.f cols c b i)),Ar ap cap pk bufs] H→
   Zz.l4 K (t+1) (some ⟨rn,0,none⟩) (c:Int) (some ⟨bb,0,none⟩) (b*rows) (b*rows) (some ⟨rl,0,none⟩) b b (rows:Int) (i:Int) H:=fun t=>by
 have hrb:rows*b≤4294967296:=Nat.le_trans (Nat.mul_le_mul_left rows (show b≤cols by omega)) hsz;have hr32:rows*1≤rows*cols:=Nat.mul_le_mul_left rows (by omega)
 induction t with
 |zero=>
  intro i ws row pk H hi hgo hf hrow hpk hip hs;have hir:i=rows:=by omega
  subst hir;unfold Zz.l4;refine Zh (by omega) (hK _ _ H (.inl ⟨hgo,rfl,?_⟩) (hs.re [0,1,3,4,5] rfl));rw[← hf.all (by omega),hip.resolve_left (by omega)];rfl
 |succ t ih=>
  intro i ws row pk H hi hgo hf hrow hpk hip hs;have hir:i<rows:=by omega
  have hfr:i*cols+c+b≤rows*cols:=by
   have:(i+1)*cols≤rows*cols:=Nat.mul_le_mul_right cols hir;rw[Nat.succ_mul]at this;omega
  unfold Zz.l4;refine Zn (by omega) ?_;simp only[aZY];refine hs.ldf 0 rfl rfl ?_;simp only[HV];refine hs.ldg 0 rfl rfl ?_;simp only[HV];have e:i64.wrap (i64.wrap ((i:Int)*(cols:Int))+(c:Int))=((i*cols+c:Nat):Int):=by
   rw[← Int.natCast_mul,aZJ (by omega),show(((i*cols:Nat):Int)+(c:Int))=((i*cols+c:Nat):Int) by omega,aZJ (by omega)]
  rw[e];have hgl:=nZG (D.per d) x.f cols c b i;have hib:i*b≤rows*b:=Nat.mul_le_mul_right b (by omega);have hper:D.per (D.rdG d (gR (D.per d) x.f cols c b i))=D.per d:=rfl;have hpg:=Prog.rdG (fun _=>False) hok hl hgo;refine(kZF (p:=p) (dp:=dp) (ap:=ap) (d:=D.rdG d (gR (D.per d) x.f cols c b i)) (x:=x) (cap:=cap) (peak:=pk) (bufs:=bufs) (rl:=rl) (off:=0) (mm:=mr) (el:=82) (xs:=Zc row) (Ok.rdG hok _) hl ⟨hx.w1,hx.s1,hx.fit,hx.room⟩ (by show d.rd+_≤_;omega) (i*cols+c) b b hb1 (by omega) (Nat.le_refl _) (by rw[Zr,hrow];omega) hcap).use hs [3,4,5,2] rfl rfl ?_;rintro v M H (⟨hgo2,rfl,rfl⟩|⟨j,xs',hj,hfj,hx',rfl,rfl⟩) hs
  ·simp only[HV];refine Zq rfl ⟨b+1,?_⟩;rw[vZT,hper,←hZA]at hs;have hset:setAt (Zc row) 0 (Zc (pws (D.rdG d (gR (D.per d) x.f cols c b i)) x (i*cols+c) b))=Zc (pws d x (i*cols+c) b):=by
    rw[gZ4 (by rw[Zr,Zr,dZZ,hrow])];rfl
   rw[hset,hpk]at hs;have hgo3:d.fuse=0∨gR (D.per d) x.f cols c b (i+1)<d.fuse:=by
    rw[hZA];have h1:(D.rdG d (gR (D.per d) x.f cols c b i)).fuse=d.fuse-gR (D.per d) x.f cols c b i:=rfl;rw[h1,hper]at hgo2;omega
   have hs:=hs.re [4,5,3,0,1,2] rfl;refine rZ4 K _ (fun i k=>pw d x (i*cols+c+k)) hrb hb1 hir (c:Int) (pws d x (i*cols+c) b) (dZZ _ _ _ _) (fun k hk=>kZb hk) (fun ws' H hf' hs=>?_) b 0 ws H (by omega) hf hs;exact ih (i+1) ws' _ (mx peak (ZE bufs+D.per d)) H (by omega) hgo3 hf' (dZZ _ _ _ _) (lZG _ _) (.inr rfl) hs
  ·simp only[HV];refine ZA (by decide) (hK _ _ H (.inr ⟨_,hpg.dead (cZr.rdG _ hpg.ok hpg.down hfj),?_,rfl,?_⟩) (hs.re [4,0,1,2] rfl))
   ·have h1:(D.rdG d (gR (D.per d) x.f cols c b i)).fuse=d.fuse-gR (D.per d) x.f cols c b i:=rfl;rw[h1]at hfj;have h2:=vZw (D.per d) x.f cols c b (show i+1≤rows by omega);rw[hZA]at h2;rw[hper]at hj;omega
   ·rw[hper,hpk];rfl
theorem rZ5 {d:D}{rows cols b c:Nat}(hok:Ok d)(hl:d.down=false)(hx:On d x)(ho:d.rd≤4000000000000000000)(hw:x.w=rows*cols)(hb1:1≤b)(hcb:c+b≤cols)(hsz:rows*cols≤4294967296)(hr1:1≤rows)(hcap:(D.per d:Int)≤cap-ZE bufs)(hbn:(bn,b*rows,some ⟨bb,0,none⟩)∈bufs)(ws:List UInt64)(hws:ws.length=b*rows):
  Tr prog 169 #[.pointer (some ⟨rn,0,none⟩),.int .i64 (c:Int),.int .i64 (b:Int)] [pts rn (cZa s sk p q rows cols bn),pts bb (.row (Zc ws) 82 mb),pts p (ZI dp ap x),Dk dp d,Ar ap cap peak bufs] (pZR rn p q dp ap bn bb s sk d x rows cols b c cap peak bufs mb):=fun H hs=>by
 have hrb:rows*b≤4294967296:=Nat.le_trans (Nat.mul_le_mul_left rows (show b≤cols by omega)) hsz;have hb32:1*b≤rows*b:=Nat.mul_le_mul_right b hr1;apply Zz.ok;unfold Zz;simp only[aZY];refine hs.ldf 0 rfl rfl ?_;simp only[HV];refine Za.use (eZu hs 4 rfl hbn) ?_
 try simp only[HV]
 refine hs.mks bZ7 rfl (n:=b) (m:=b) rfl rfl (Nat.le_refl _) (by omega) (by omega) fun rl H hs=>?_
 simp only[HV];refine hs.ldg 0 rfl rfl ?_;simp only[HV];refine⟨rows+1,?_⟩;have hz:aZv (#[Value.int .u64 0]:Array Value).toList b=Zc (List.replicate b 0):=by
  show aZv [Value.int .u64 0] b=_
  rw[bZw];unfold Zc;rw[List.map_replicate];rfl
 rw[hz]at hs;refine pZn (rl:=rl) (mr:=b*1) (peak:=peak) _ hok hl hx ho hw hb1 hcb hsz hr1 hcap (fun v M H h hs=>⟨M,h,hs⟩) rows 0 ws (List.replicate b 0) peak H (by omega) (by simp[gR];omega) ⟨hws,fun k' i' _ _ h=>by omega⟩ (by simp) rfl (.inl rfl) ?_;exact hs.re [0,1,5,2,3,4] rfl
end
end Trn
namespace Str
open Go Go.Hw Go.Form W Dsk Are
theorem uZe {ws src:List UInt64}{a:Nat}(ha:a≤ws.length)(i:Nat):(dZ2 ws a src)[i]? =if i<a then ws[i]? else if i<a+src.length then src[i-a]? else ws[i]? :=by
 unfold dZ2;have hl:(ws.take a).length=a:=by rw[List.length_take];omega
 rw[List.append_assoc];by_cases h1:i<a
 ·rw[if_pos h1,List.getElem?_append_left (by omega),List.getElem?_take_of_lt h1]
 ·rw[if_neg h1,List.getElem?_append_right (by omega),hl];by_cases h2:i<a+src.length
  ·rw[if_pos h2,List.getElem?_append_left (by omega)]
  ·rw[if_neg h2,List.getElem?_append_right (by omega),List.getElem?_drop];congr 1;omega
theorem xZk {d:D}(hok:Ok d)(x:X)(fr:Nat)(src:List UInt64)(hl:fr%D.per d+src.length≤D.per d)(j:Nat):
  pw (wpc d (x.f+fr/D.per d) (fr%D.per d) src) x j=if fr≤j∧j<fr+src.length then(src[j-fr]?).getD 0 else pw d x j:=by
 have hp:=Ok.per_le hok;have hwl:(aZG (d.now ((x.f+fr/D.per d:Nat):Int))).length=D.per d:=by rw[cZ3,hok.now];rfl
 unfold pw;rw[qZt,qZs];have ej:=Nat.div_add_mod j (D.per d);have ef:=Nat.div_add_mod fr (D.per d);have mj:=Nat.mod_lt j (show 0<D.per d by omega);have mf:=Nat.mod_lt fr (show 0<D.per d by omega);by_cases hs:j/D.per d=fr/D.per d
 ·rw[hs]at ej⊢;rw[if_pos rfl,pZv,uZe (by omega)];generalize D.per d*(fr/D.per d)=q at*;by_cases h1:j%D.per d<fr%D.per d
  ·rw[if_pos h1,if_neg (by omega)]
  ·rw[if_neg h1];by_cases h2:j%D.per d<fr%D.per d+src.length
   ·rw[if_pos h2,if_pos (by omega),show j%D.per d-fr%D.per d=j-fr by omega]
   ·rw[if_neg h2,if_neg (by omega)]
 ·rw[if_neg (by omega),if_neg];intro hc;apply hs;apply Nat.div_eq_of_lt_le
  ·rw[Nat.mul_comm];omega
  ·rw[Nat.succ_mul,Nat.mul_comm];omega
structure xZn (d d':D)(x:X)(fr:Nat)(src:List UInt64)(ps:List (Nat×Nat×Nat)):Prop where
 ok:Ok d'
 calm:Calm d→Calm d'
 size:d'.size=d.size
 sec:d'.sec=d.sec
 wr:d'.wr=d.wr+ps.length
 rd:d'.rd=d.rd+(ps.filter fun p=>decide (p.2.2<D.per d)).length
 sy:d'.sy=d.sy
 safe:d'.safe=d.safe
 tch:∀ i,d'.tch i=true→d.tch i=true∨∃ j,j<src.length∧i=((x.f+(fr+j)/D.per d:Nat):Int)
 now:∀ i,(∀ j,j<src.length→i≠((x.f+(fr+j)/D.per d:Nat):Int))→d'.now i=d.now i
 pw:∀ j,pw d' x j=if fr≤j∧j<fr+src.length then(src[j-fr]?).getD 0 else pw d x j
theorem uZG (d:D)(s at':Nat)(src:List UInt64):(wpc d s at' src).safe=d.safe∧(wpc d s at' src).tch=hZ0 d.tch s:=by
 unfold wpc;split<;>exact⟨rfl,rfl⟩
theorem nZq (x:X):∀(k fr:Nat) (d:D) (src:List UInt64),Ok d→src.length≤k→xZn d (wrs d x k fr src) x fr src (pcs (D.per d) x.f k fr src.length)
 |k,fr,d,[],hok,hk=>by
  have e1:wrs d x k fr []=d:=by cases k<;>simp[wrs]
  have e2:pcs (D.per d) x.f k fr ([]:List UInt64).length=[]:=by cases k<;>simp[pcs]
  rw[e1,e2];exact⟨hok,id,rfl,rfl,rfl,rfl,rfl,rfl,fun i h=>.inl h,fun _ _=>rfl,fun j=>by rw[if_neg (by simp only[List.length_nil];omega)]⟩
 |0,fr,d,w0::s0,hok,hk=>by simp at hk
 |k+1,fr,d,w0::s0,hok,hk=>by
  generalize hsrc:w0::s0=src at*;have hne:src≠ []:=by rw[← hsrc];simp
  have hpos:0<src.length:=by rw[← hsrc];simp
  have hp:=Ok.per_le hok;have hcle:=lZl (D.per d) fr src.length;have hcpos:=jZp (per:=D.per d) (fr:=fr) (n:=src.length) (by omega) hpos;have hcper:=oZd (per:=D.per d) (fr:=fr) (n:=src.length) (by omega);have e:pcs (D.per d) x.f (k+1) fr src.length=(x.f+fr/D.per d,fr%D.per d,cN (D.per d) fr src.length)::pcs (D.per d) x.f k (fr+cN (D.per d) fr src.length) (src.length-cN (D.per d) fr src.length):=by
   show(if src.length=0 then []else _)=_
   rw[if_neg (by omega)]
  have ew:wrs d x (k+1) fr src=wrs (wpc d (x.f+fr/D.per d) (fr%D.per d) (src.take (cN (D.per d) fr src.length))) x k (fr+cN (D.per d) fr src.length) (src.drop (cN (D.per d) fr src.length)):=by
   show(if src=[]then d else _)=_
   rw[if_neg hne]
  rw[e,ew];generalize hcv:cN (D.per d) fr src.length=c at*;have htk:(src.take c).length=c:=by rw[List.length_take];omega
  have hdl:(src.drop c).length=src.length-c:=by simp
  have hok1:Ok (wpc d (x.f+fr/D.per d) (fr%D.per d) (src.take c)):=xZj hok _ _ (by omega);have hsz:=pZb d (x.f+fr/D.per d) (fr%D.per d) (src.take c);have hper:=qZt d (x.f+fr/D.per d) (fr%D.per d) (src.take c);have hcnt:=wZm d (x.f+fr/D.per d) (fr%D.per d) (src.take c);have hsf:=uZG d (x.f+fr/D.per d) (fr%D.per d) (src.take c);have hnow:=qZs d (x.f+fr/D.per d) (fr%D.per d) (src.take c);have hpw:=xZk hok x fr (src.take c) (by omega);have ih:=nZq x k (fr+c) _ (src.drop c) hok1 (by omega);rw[hper,hdl]at ih;generalize wrs (wpc d (x.f+fr/D.per d) (fr%D.per d) (src.take c)) x k (fr+c) (src.drop c)=d2 at*;generalize pcs (D.per d) x.f k (fr+c) (src.length-c)=ps at*;refine⟨ih.ok,fun hc=>ih.calm (uZD hc _ _ _),ih.size.trans hsz.1,ih.sec.trans hsz.2,?_,?_,ih.sy.trans hcnt.2.2,ih.safe.trans hsf.1,fun i hi=>?_,fun i hi=>?_,fun j=>?_⟩
  ·rw[ih.wr,hcnt.1,List.length_cons];omega
  ·rw[ih.rd,hcnt.2.1,htk,hper];by_cases hlt:c<D.per d
   ·rw[if_pos hlt,List.filter_cons_of_pos (by simpa using hlt),List.length_cons];omega
   ·rw[if_neg hlt,List.filter_cons_of_neg (by simpa using hlt)];omega
  ·rcases ih.tch i hi with h|⟨j,hj,h⟩
   ·rw[hsf.2]at h;unfold hZ0 at h;by_cases he:i=((x.f+fr/D.per d:Nat):Int)
    ·exact .inr ⟨0,hpos,by rw[Nat.add_zero];exact he⟩
    ·rw[if_neg he]at h;exact .inl h
   ·refine .inr ⟨c+j,by omega,?_⟩;rw[h,hper,Nat.add_assoc]
  ·rw[ih.now i (fun j hj=>?_),hnow,if_neg]
   ·have:=hi 0 hpos;rw[Nat.add_zero]at this;exact this
   ·have:=hi (c+j) (by omega);rw[hper,Nat.add_assoc];exact this
  ·rw[ih.pw j,hpw j,htk,hdl];by_cases h1:fr+c≤j∧j<fr+c+(src.length-c)
   ·rw[if_pos h1,if_pos (by omega),List.getElem?_drop,show c+(j-(fr+c))=j-fr by omega]
   ·rw[if_neg h1];by_cases h2:fr≤j∧j<fr+c
    ·rw[if_pos h2,if_pos (by omega),List.getElem?_take_of_lt (by omega)]
    ·rw[if_neg h2,if_neg (by omega)]
def D.fz (d:D)(q:Nat):D:={ d with fuse:=q}
theorem xZi (d:D)(q s at':Nat)(src:List UInt64):D.fz (gZp d s at' src) q=wpc (D.fz d q) s at' src:=by
 unfold gZp wpc;have e:D.per (D.fz d q)=D.per d:=rfl;rw[e];split<;>rfl
theorem tZe (x:X):∀(k fr:Nat) (d:D) (src:List UInt64) (q:Nat),D.fz (dZ3 d x k fr src) q=wrs (D.fz d q) x k fr src
 |0,_,_,_,_=>rfl
 |k+1,fr,d,src,q=>by
  unfold dZ3 wrs;have e:D.per (D.fz d q)=D.per d:=rfl;rw[e];split
  ·rfl
  ·rw[tZe x k,xZi]
theorem Prog.now {S:Int→Prop}{d d':D}{r w:Nat}(h:Prog S d d' r w){i:Int}(hi:¬S i):d'.now i=d.now i:=by
 unfold D.now D.sat;rw[h.cache i hi,h.safe,h.size]
theorem Prog.pw {S:Int→Prop}{d d':D}{r w:Nat}(h:Prog S d d' r w){x:X}(hok:Ok d)(hx:On d x)(hS:∀ i,S i→i<(x.f:Int)∨((x.f+x.s:Nat):Int)≤i){j:Nat}(hj:j<x.w):pw d' x j=pw d x j:=by
 have hp:=Ok.per_le hok;have h4:=hx.room;unfold Str.pw;rw[h.per,h.now];intro hs;have hdiv:j/D.per d<x.s:=by rw[Nat.div_lt_iff_lt_mul (by omega)];omega
 have:=hS _ hs;generalize j/D.per d=u at*;omega
theorem mZw (x:X){d:D}(hok:Ok d)(fr:Nat)(src:List UInt64)(j:Nat):pw (dZ3 d x src.length fr src) x j=if fr≤j∧j<fr+src.length then(src[j-fr]?).getD 0 else pw d x j:=by
 have hW:=(nZq x src.length fr (D.fz d 0) src ⟨hok.sec,hok.size,hok.big,hok.per,hok.safe,hok.cache,Nat.zero_le _⟩ (Nat.le_refl _)).pw j;rw[← tZe]at hW;exact hW
theorem On.prog {S:Int→Prop}{d d':D}{r w:Nat}{x:X}(hx:On d x)(h:Prog S d d' r w):On d' x:=⟨hx.w1,hx.s1,by rw[h.sec];exact hx.fit,by rw[h.per];exact hx.room⟩
end Str
namespace Trn
open Go Go.Hw Go.Crc Go.Form W Shp Str Dsk Are
def inX (x:X)(i:Int):Prop:=(x.f:Int)≤i∧i<((x.f+x.s:Nat):Int)
section
variable {rn p q dp ap bn bb rl : Nat} {s : W32} {sk : Nat} {x y : X} {ea eb j : Nat} {cap peak : Int} {bufs : List (Nat × Nat × Option Addr)} {mb mr : Nat}
def wZR (rn p q dp ap bn bb:Nat)(s:W32)(sk:Nat)(d:D)(y:X)(rows cols c:Nat)(ws:List UInt64)(cap peak:Int)(bufs:List (Nat×Nat×OA))(mb:Nat)(v:Value)(M:List As):Prop:=
 (Prog (inX y) d (dZ3 d y ws.length (c*rows) ws) (cZS (D.per d) y.f ws.length (c*rows) ws.length) (pcs (D.per d) y.f ws.length (c*rows) ws.length).length∧v= .int .i64 0∧
  M=[pts rn (cZa (more s (form ws)) (sk+8*ws.length) p q rows cols bn),pts bb (.row (Zc ws) 82 mb),pts q (ZI dp ap y),Dk dp (dZ3 d y ws.length (c*rows) ws),Ar ap cap (mx peak (ZE bufs+D.per d)) bufs])∨
 (∃ d',cZr (inX y) d d'∧d.fuse≤cZS (D.per d) y.f ws.length (c*rows) ws.length+(pcs (D.per d) y.f ws.length (c*rows) ws.length).length∧v= .int .i64 8∧
  M=[pts q (ZI dp ap y),Dk dp d',Ar ap cap (mx peak (ZE bufs+D.per d)) bufs])
theorem wZS {d:D}{rows cols c:Nat}{ws:List UInt64}(hok:Ok d)(hl:d.down=false)(hy:On d y)(ho:d.rd≤4000000000000000000∧d.wr≤4000000000000000000)(hw1:1≤ws.length)(hf:c*rows+ws.length≤y.w)(hyw:y.w≤4294967296)(hsk:sk≤1000000000000)(hcap:(D.per d:Int)≤cap-ZE bufs)(hbn:(bn,ws.length,some ⟨bb,0,none⟩)∈bufs):
  Tr prog 170 #[.pointer (some ⟨rn,0,none⟩),.int .i64 (c:Int)] [pts rn (cZa s sk p q rows cols bn),pts bb (.row (Zc ws) 82 mb),pts q (ZI dp ap y),Dk dp d,Ar ap cap peak bufs] (wZR rn p q dp ap bn bb s sk d y rows cols c ws cap peak bufs mb):=fun H hs=>by
 have hcell:∀ H,pts bb (.row (Zc ws) 82 mb) H→Cells H (some ⟨bb,0,none⟩) (Zc ws):=fun H h=>by
  have:=Cells.row h 0 ws.length
  rwa [List.drop_zero,List.take_of_length_le (by rw[Zr];exact Nat.le_refl _)]at this
 apply eZX.ok;unfold eZX;simp only[aZY];refine hs.ldf 0 rfl rfl ?_;simp only[HV];refine ZQ.use (eZu hs 4 rfl hbn) ?_
 try simp only[HV]
 rw[Addr.add_zero];refine CrcP.kZk hs 0 rfl (some ⟨bb,0,none⟩) ws.length ws.length ws rfl ?_ (by omega) (by omega) fun H hs=>?_
 ·obtain⟨H1,h1,hle⟩:=hs.see 1 rfl;exact(hcell H1 h1).le hle
 have hs:Sep [pts rn (cZa (more s (form ws)) (sk+8*ws.length) p q rows cols bn),pts bb (.row (Zc ws) 82 mb),pts q (ZI dp ap y),Dk dp d,Ar ap cap peak bufs] H:=hs;refine hs.ldf 0 rfl rfl ?_;simp only[HV];refine hs.ldg 0 rfl rfl ?_;simp only[HV];refine hs.ldf 0 rfl rfl ?_;simp only[HV];refine ZQ.use (eZu hs 4 rfl hbn) ?_
 try simp only[HV]
 rw[← Int.natCast_mul,aZJ (by omega)];refine(jZn (p:=q) (dp:=dp) (ap:=ap) (d:=d) (x:=y) (cap:=cap) (peak:=peak) (bufs:=bufs) (R:=pts bb (.row (Zc ws) 82 mb)) (A:=some ⟨bb,0,none⟩) (n:=ws.length) (m:=ws.length) (src:=ws) hok hl hy (by omega) (c*rows) rfl hw1 hf (Nat.le_refl _) hcap hcell).use hs [2,3,4,1] rfl rfl ?_;rintro v M H (⟨hpg,rfl,rfl⟩|⟨d',hd,hfu,rfl,rfl⟩) hs
 ·simp only[HV];exact⟨_,.inl ⟨hpg,rfl,rfl⟩,hs.re [4,3,0,1,2] rfl⟩
 ·simp only[HV];exact⟨_,.inr ⟨d',hd,hfu,rfl,rfl⟩,hs.re [0,1,2] rfl⟩
def trK (d:D)(x:X)(rows cols k:Nat):UInt64:=pw d x (k%rows*cols+k/rows)
def trW (d:D)(x:X)(rows cols:Nat):List UInt64:=(List.range (rows*cols)).map (trK d x rows cols)
theorem mZu (d:D)(x:X)(rows cols:Nat):(trW d x rows cols).length=rows*cols:=by simp[trW]
theorem qZD (d d1:D)(x:X){rows cols b c:Nat}(hr:0<rows)(hcb:c+b≤cols)(hsame:∀ k,k<rows*cols→pw d1 x k=pw d x k):
  ((List.range (b*rows)).map fun j=>pw d1 x (j%rows*cols+c+j/rows))=((trW d x rows cols).drop (c*rows)).take (b*rows):=by
 apply List.ext_getElem?;intro j;have hle:(c+b)*rows≤cols*rows:=Nat.mul_le_mul_right rows hcb;rw[Nat.add_mul,Nat.mul_comm cols rows]at hle;rw[List.getElem?_map,List.getElem?_take];by_cases hj:j<b*rows
 ·rw[List.getElem?_range hj,if_pos hj,List.getElem?_drop];unfold trW;rw[List.getElem?_map,List.getElem?_range (by omega)];simp only[Option.map_some,Option.some.injEq];unfold trK;have hm:=Nat.mod_lt j hr;have hd:j/rows<b:=by rw[Nat.div_lt_iff_lt_mul hr];exact hj
  rw[show c*rows+j=j+c*rows by omega,Nat.add_mul_mod_self_right,Nat.add_mul_div_right _ _ hr,hsame]
  ·congr 1;omega
  ·have:(j%rows+1)*cols≤rows*cols:=Nat.mul_le_mul_right cols hm;rw[Nat.succ_mul]at this;omega
 ·rw[if_neg hj,List.getElem?_eq_none (by simp;omega)];rfl
def rT (per f f' rows cols b m:Nat):Nat:=((List.range m).map fun m'=>gR per f cols (m'*b) b rows+cZS per f' (b*rows) (m'*b*rows) (b*rows)).sum
def wT (per f' rows b m:Nat):Nat:=((List.range m).map fun m'=>(pcs per f' (b*rows) (m'*b*rows) (b*rows)).length).sum
theorem hZC (per f f' rows cols b m:Nat):rT per f f' rows cols b (m+1)=rT per f f' rows cols b m+(gR per f cols (m*b) b rows+cZS per f' (b*rows) (m*b*rows) (b*rows)):=by
 unfold rT;rw[List.range_succ,List.map_append,List.sum_append];simp
theorem hZF (per f' rows b m:Nat):wT per f' rows b (m+1)=wT per f' rows b m+(pcs per f' (b*rows) (m*b*rows) (b*rows)).length:=by
 unfold wT;rw[List.range_succ,List.map_append,List.sum_append];simp
theorem pZ6 (per f f' rows cols b:Nat){i j:Nat}(h:i≤j):rT per f f' rows cols b i≤rT per f f' rows cols b j:=by
 induction h with
 |refl=>exact Nat.le_refl _
 |step h ih=>rw[hZC];omega
theorem qZp (per f' rows b:Nat){i j:Nat}(h:i≤j):wT per f' rows b i≤wT per f' rows b j:=by
 induction h with
 |refl=>exact Nat.le_refl _
 |step h ih=>rw[hZF];omega
theorem qZ3 (per f f' rows cols b:Nat):∀ m,rT per f f' rows cols b m≤m*(2*(b*rows))
 |0=>by simp[rT]
 |m+1=>by
  rw[hZC,Nat.succ_mul];have h1:=qZ3 per f f' rows cols b m;have h2:=nZG per f cols (m*b) b rows;have h3:=dZo per f' (b*rows) (m*b*rows) (b*rows);have h4:cZS per f' (b*rows) (m*b*rows) (b*rows)≤(pcs per f' (b*rows) (m*b*rows) (b*rows)).length:=List.length_filter_le _ _;have h5:=Nat.mul_comm rows b;omega
theorem rZm (per f' rows b:Nat):∀ m,wT per f' rows b m≤m*(b*rows)
 |0=>by simp[wT]
 |m+1=>by
  rw[hZF,Nat.succ_mul];have h1:=rZm per f' rows b m;have h3:=dZo per f' (b*rows) (m*b*rows) (b*rows);omega
structure nZA (d d':D)(x y:X)(rows cols b m:Nat):Prop where
 pg:Prog (inX y) d d' (rT (D.per d) x.f y.f rows cols b m) (wT (D.per d) y.f rows b m)
 src:∀ k,k<x.w→pw d' x k=pw d x k
 dst:∀ k,k<m*b*rows→pw d' y k=trK d x rows cols k
def qZ7 (p q dp ap:Nat)(d:D)(x y:X)(rows cols b:Nat)(cap peak:Int)(bufs:List (Nat×Nat×OA))(v:Value)(M:List As):Prop:=
 (∃ d',nZA d d' x y rows cols b (cols/b)∧v= .tuple #[.int .u32 ((sum (form (trW d x rows cols))).toNat:Int),.int .i64 0]∧
  M=[pts p (ZI dp ap x),pts q (ZI dp ap y),Dk dp d',Ar ap cap (mx peak (ZE bufs+(b*rows:Nat)+D.per d)) bufs])∨
 (∃ d',cZr (inX y) d d'∧d.fuse≤rT (D.per d) x.f y.f rows cols b (cols/b)+wT (D.per d) y.f rows b (cols/b)∧v= .tuple #[.int .u32 0,.int .i64 8]∧
  M=[pts p (ZI dp ap x),pts q (ZI dp ap y),Dk dp d',Ar ap cap (mx peak (ZE bufs+(b*rows:Nat)+D.per d)) bufs])
theorem vZp (T:List UInt64)(a n:Nat):more (sum (form (T.take a))) (form ((T.drop a).take n))=sum (form (T.take (a+n))):=by
 unfold sum;rw[← more_append,←iZo];congr 2;rw[List.take_add]
def eZo (rn p q dp ap bn bb sb vb:Nat)(d0 d':D)(x y:X)(rows cols b m:Nat)(cap pk:Int)(bufs:List (Nat×Nat×OA))(ws:List UInt64)(mb:Nat)(TT:As):List As:=
 [pts sb (.obj (.cells #[.int .i64 (rows:Int),.int .i64 (cols:Int)] 122)),pts rn (cZa (sum (form ((trW d0 x rows cols).take (m*b*rows)))) (8*(m*b*rows)) p q rows cols bn),pts bb (.row (Zc ws) 82 mb),
  pts p (ZI dp ap x),pts q (ZI dp ap y),Dk dp d',Ar ap cap pk (bufs++[(bn,b*rows,some ⟨bb,0,none⟩)]),pts vb (.row [.pointer (some ⟨bn,0,none⟩)] 195 1),TT]
theorem kZZ (K:VK){TT:As}{sb vb:Nat}{d:D}{rows cols b:Nat}(hok:Ok d)(hx:On d x)(hy:On d y)(ho:d.rd≤2000000000000000000∧d.wr≤2000000000000000000)(hxw:x.w=rows*cols)(hyw:y.w=rows*cols)(hdis:x.f+x.s≤y.f∨y.f+y.s≤x.f)(hb1:1≤b)(hbd:cols=cols/b*b)(hsz:rows*cols≤4294967296)(hr1:1≤rows)(hc1:1≤cols)
  (hcap:(D.per d:Int)≤cap-ZE (bufs++[(bn,b*rows,some ⟨bb,0,none⟩)])) (hbm:∀ z∈bufs,z.1≠bn)
  {P1:Int} (hP1:P1=mx peak (ZE (bufs++[(bn,b*rows,some ⟨bb,0,none⟩)])+D.per d))
  (hK:∀ d' H,nZA d d' x y rows cols b (cols/b)→Sep [pts p (ZI dp ap x),pts q (ZI dp ap y),Dk dp d',Ar ap cap P1 bufs,TT] H→K (.tuple #[.int .u32 ((sum (form (trW d x rows cols))).toNat:Int),.int .i64 0]) H)
  (hK8:∀ d' H,cZr (inX y) d d'→d.fuse≤rT (D.per d) x.f y.f rows cols b (cols/b)+wT (D.per d) y.f rows b (cols/b)→Sep [pts p (ZI dp ap x),pts q (ZI dp ap y),Dk dp d',Ar ap cap P1 bufs,TT] H→K (.tuple #[.int .u32 0,.int .i64 8]) H):
  ∀(t m:Nat) (d':D) (pk:Int) (ws:List UInt64) (H:Hp),m+t=cols/b→nZA d d' x y rows cols b m→ws.length=b*rows→mx pk (ZE (bufs++[(bn,b*rows,some ⟨bb,0,none⟩)])+D.per d)=P1→(m=0∨pk=P1)→Sep (eZo rn p q dp ap bn bb sb vb d d' x y rows cols b m cap pk bufs ws mb TT) H→
   bZd.l14 K (t+1) ⟨sb,0,none⟩ (b:Int) ⟨rn,0,none⟩ ((m*b:Nat):Int) (some ⟨ap,0,none⟩) (some ⟨vb,0,none⟩) 1 1 H:=fun t=>by
 have hp:=Ok.per_le hok;have hcc:cols/b*b*rows=rows*cols:=by rw[← hbd,Nat.mul_comm]
 have hnb:cols/b≤cols:=Nat.div_le_self _ _;have hn1:1≤cols/b:=by
  have:cols/b≠0:=fun h0=>by rw[h0,Nat.zero_mul]at hbd;omega
  exact Nat.pos_of_ne_zero this
 have hbr:b*rows≤rows*cols:=by
  rw[← hcc,Nat.mul_assoc];exact Nat.le_mul_of_pos_left _ hn1
 have hcr:cols*1≤cols*rows:=Nat.mul_le_mul_left cols hr1;rw[Nat.mul_comm cols rows]at hcr;have hbr1:1*rows≤b*rows:=Nat.mul_le_mul_right rows hb1;have hbr2:b*1≤b*rows:=Nat.mul_le_mul_left b hr1;have cnt:∀ m,m≤cols/b→m*(2*(b*rows))≤2*(rows*cols)∧m*(b*rows)≤rows*cols:=fun m hm=>by
  have:m*(b*rows)≤rows*cols:=by
   rw[← hcc,Nat.mul_assoc];exact Nat.mul_le_mul_right _ hm
  refine⟨?_,this⟩;rw[Nat.mul_left_comm];omega
 induction t with
 |zero=>
  intro m d' pk ws H hm hI hws hpk hip hs;have hme:m=cols/b:=by omega
  subst hme;unfold eZo at hs;unfold bZd.l14;refine hs.ldf 0 rfl rfl ?_;simp only[HV];rw[← hbd];refine Zh (Int.lt_irrefl _) ?_;rw[Addr.add_zero];refine Za.use (CrcP.pZy hs 1 rfl) ?_
  try simp only[HV]
  refine(cZo vb bn (b*rows) (some ⟨bb,0,none⟩) hbm).use hs [6,7] rfl rfl ?_;rintro _ _ H ⟨rfl,rfl⟩ hs;rw[hcc,List.take_of_length_le (by rw[mZu];exact Nat.le_refl _)];rw[hip.resolve_left (by omega)]at hs;exact hK d' H hI (hs.re [4,5,6,0,7] rfl)
 |succ t ih=>
  intro m d' pk ws H hm hI hws hpk hip hs;have hmlt:m<cols/b:=by omega
  have hmb:(m+1)*b≤cols:=by
   have h1:(m+1)*b≤cols/b*b:=Nat.mul_le_mul_right b hmlt;omega
  have hmb':=hmb;rw[Nat.succ_mul]at hmb';have hper:D.per d'=D.per d:=hI.pg.per;have hxd:=hx.prog hI.pg;have hyd:=hy.prog hI.pg;have hrt:=qZ3 (D.per d) x.f y.f rows cols b m;have hwt:=rZm (D.per d) y.f rows b m;have hcnt:=cnt m (by omega);have hrd:=hI.pg.rd;have hwr:=hI.pg.wr;unfold eZo at hs;unfold bZd.l14;refine hs.ldf 0 rfl rfl ?_;simp only[HV];refine Zn (by omega) ?_;refine(rZ5 (rn:=rn) (p:=p) (q:=q) (dp:=dp) (ap:=ap) (bn:=bn) (bb:=bb) (s:=sum (form ((trW d x rows cols).take (m*b*rows)))) (sk:=8*(m*b*rows)) (x:=x) (cap:=cap) (peak:=pk) (bufs:=bufs++[(bn,b*rows,some ⟨bb,0,none⟩)]) (mb:=mb) (c:=m*b) hI.pg.ok hI.pg.down hxd (by omega) hxw hb1 hmb' hsz hr1 (by rw[hper];exact hcap) (List.mem_append_right _ (List.mem_singleton.2 rfl)) ws hws).use hs [1,2,3,5,6] rfl rfl ?_;rintro v M H (⟨hgo,rfl,rfl⟩|⟨d2,hdd,hfu,rfl,rfl⟩) hs
  case inr=>
   simp only[HV];refine ZA (by decide) ?_;refine(cZo vb bn (b*rows) (some ⟨bb,0,none⟩) hbm).use hs [3,6] rfl rfl ?_;rintro _ _ H ⟨rfl,rfl⟩ hs;rw[hper,hpk]at hs;refine hK8 d2 H (hI.pg.dead (hdd.mono fun _ h=>h.elim)) ?_ (hs.re [2,5,3,0,6] rfl);have z1:=hI.pg.fuse;have z2:=hI.pg.go;have z3:=pZ6 (D.per d) x.f y.f rows cols b (show m+1≤cols/b by omega);have z4:=qZp (D.per d) y.f rows b (show m+1≤cols/b by omega);rw[hZC]at z3;rw[hZF]at z4;rw[hper]at hfu;omega
  simp only[HV];refine Zq rfl ?_;rw[hper,hpk,qZD d d' x (by omega) hmb' (fun k hk=>hI.src k (by rw[hxw];exact hk))]at hs;have hg:=Prog.rdG (inX y) hI.pg.ok hI.pg.down hgo;rw[hper]at hg hgo;have hpg1:=hI.pg.trans hg;have hper1:D.per (D.rdG d' (gR (D.per d) x.f cols (m*b) b rows))=D.per d:=hper;generalize hbw:((trW d x rows cols).drop (m*b*rows)).take (b*rows)=bw at*;have hmr:m*b*rows+b*rows≤rows*cols:=by
   have h1:(m*b+b)*rows≤cols*rows:=Nat.mul_le_mul_right rows hmb';rw[Nat.add_mul,Nat.mul_comm cols rows]at h1;exact h1
  have hbl:bw.length=b*rows:=by
   rw[← hbw,List.length_take,List.length_drop,mZu];omega
  have hgl:=nZG (D.per d) x.f cols (m*b) b rows;have hcomm:=Nat.mul_comm rows b;refine(wZS (rn:=rn) (p:=p) (q:=q) (dp:=dp) (ap:=ap) (bn:=bn) (bb:=bb) (s:=sum (form ((trW d x rows cols).take (m*b*rows)))) (sk:=8*(m*b*rows)) (y:=y) (rows:=rows) (cols:=cols) (c:=m*b) (cap:=cap) (peak:=P1) (bufs:=bufs++[(bn,b*rows,some ⟨bb,0,none⟩)]) (mb:=mb) (ws:=bw) (d:=D.rdG d' (gR (D.per d) x.f cols (m*b) b rows)) hpg1.ok hpg1.down (hy.prog hpg1) ⟨by show d'.rd+_≤_;omega,by show d'.wr≤_;omega⟩ (by omega) (by rw[hbl,hyw];exact hmr) (by omega) (by omega) (by rw[hper1];exact hcap) (by rw[hbl];exact List.mem_append_right _ (List.mem_singleton.2 rfl))).use hs [0,1,6,3,4] rfl rfl ?_;have hPP:mx P1 (ZE (bufs++[(bn,b*rows,some ⟨bb,0,none⟩)])+D.per d)=P1:=by rw[hP1,lZG]
  rintro v M H hQ hs;unfold wZR at hQ;rw[hper1,hbl]at hQ;rcases hQ with(⟨hpg2,rfl,rfl⟩|⟨d2,hdd,hfu,rfl,rfl⟩)
  case inr=>
   simp only[HV];refine ZA (by decide) ?_;refine(cZo vb bn (b*rows) (some ⟨bb,0,none⟩) hbm).use hs [2,5] rfl rfl ?_;rintro _ _ H ⟨rfl,rfl⟩ hs;rw[hPP]at hs;refine hK8 d2 H (hpg1.dead hdd) ?_ (hs.re [3,1,2,0,5] rfl);have z1:=hpg1.fuse;have z2:=hpg1.go;have z3:=pZ6 (D.per d) x.f y.f rows cols b (show m+1≤cols/b by omega);have z4:=qZp (D.per d) y.f rows b (show m+1≤cols/b by omega);rw[hZC]at z3;rw[hZF]at z4;omega
  simp only[HV];refine Zq rfl ?_;have hpg3:=hpg1.trans hpg2;have hrT:rT (D.per d) x.f y.f rows cols b m+gR (D.per d) x.f cols (m*b) b rows+cZS (D.per d) y.f (b*rows) (m*b*rows) (b*rows)=rT (D.per d) x.f y.f rows cols b (m+1):=by rw[hZC];omega
  have hwT:wT (D.per d) y.f rows b m+0+(pcs (D.per d) y.f (b*rows) (m*b*rows) (b*rows)).length=wT (D.per d) y.f rows b (m+1):=by rw[hZF];omega
  rw[hrT,hwT]at hpg3;have hok1:Ok (D.rdG d' (gR (D.per d) x.f cols (m*b) b rows)):=hpg1.ok;have hpw:=fun k=>mZw y hok1 (m*b*rows) bw k
  rw[hbl]at hpw;have hI2:nZA d (dZ3 (D.rdG d' (gR (D.per d) x.f cols (m*b) b rows)) y (b*rows) (m*b*rows) bw) x y rows cols b (m+1):=by
   refine⟨hpg3,fun k hk=>hpg3.pw hok hx (fun i hi=>?_) hk,fun k hk=>?_⟩
   ·unfold inX at hi;omega
   ·rw[hpw k];have hk2:k<m*b*rows+b*rows:=by
     rw[Nat.succ_mul,Nat.add_mul]at hk;exact hk
    by_cases h1:m*b*rows≤k
    ·rw[if_pos ⟨h1,hk2⟩,←hbw,List.getElem?_take_of_lt (by omega),List.getElem?_drop,show m*b*rows+(k-m*b*rows)=k by omega];unfold trW;rw[List.getElem?_map,List.getElem?_range (by omega)];rfl
    ·rw[if_neg (by omega)];have:=hI.dst k (by omega);exact this
  have hcs:=vZp (trW d x rows cols) (m*b*rows) (b*rows);rw[hbw]at hcs;have htk:m*b*rows+b*rows=(m+1)*b*rows:=by rw[Nat.succ_mul,Nat.add_mul]
  have hsk:8*(m*b*rows)+8*(b*rows)=8*((m+1)*b*rows):=by rw[← htk];omega
  rw[hcs,hsk,htk,hPP]at hs;rw[show i64.wrap (((m*b:Nat):Int)+(b:Int))=(((m+1)*b:Nat):Int) by rw[show(((m*b:Nat):Int)+(b:Int))=(((m+1)*b:Nat):Int) by rw[Nat.succ_mul];omega,aZJ (by omega)]];refine ih (m+1) _ P1 bw H (by omega) hI2 hbl hPP (.inr rfl) ?_;exact hs.re [6,0,1,5,2,3,4,7,8] rfl
end
end Trn
namespace W
open Go Go.Hw
theorem dZc :prog.follows .mixedOrders=true:=by kernel_rfl
def gZK (x1 x2 x3 x4:Int)(H:Hp)(K:VK):Prop:=
 Nw H (.obj (.cells #[.int .i64 x1,.int .i64 x2] 122)) fun b1 H1=>Nw H1 (.obj (.cells #[.int .i64 0,.int .i64 0,.int .i64 0] 39)) fun b2 H2=>LdA H2 ⟨b1,0,none⟩ 2 fun l1=>Hz 166 #[.agg l1.toArray,.int .i64 x3,.int .i64 x4] H2 fun v1 H3=>gZ6 v1 fun x5 c1=>(BIf (!c1) (StA H3 ⟨b2,0,none⟩ #[.int .i64 0,.int .i64 0,.int .i64 0] 3 fun H4=>LdA H4 ⟨b2,0,none⟩ 3 fun l7=>K (.tuple #[.agg l7.toArray,.int .i64 6]) H4) (LeI H3 ((⟨b1,0,none⟩:Addr).add 0) fun x6=>(x5≠0∧i64=i64∧LeI H3 ((⟨b1,0,none⟩:Addr).add 1) fun x7=>(x3≠0∧i64=i64∧Nw H3 (.obj (.cells #[.int .i64 0,.int .i64 0,.int .i64 0] 39)) fun b3 H5=>StA H5 ⟨b3,0,none⟩ #[.int .i64 (i64.wrap ((i64.wrap (Int.tdiv x6 x5))*(if(i64.wrap (Int.tdiv (i64.wrap (x5*x7)) x3))>1 then(i64.wrap (Int.tdiv (i64.wrap (x5*x7)) x3))else 1))),.int .i64 (i64.wrap ((i64.wrap (Int.tdiv x6 x5))*(if(i64.wrap (Int.tdiv (i64.wrap (x5*x7)) x3))>1 then(i64.wrap (Int.tdiv (i64.wrap (x5*x7)) x3))else 1))),.int .i64 0] 3 fun H6=>LeI H6 ((⟨b1,0,none⟩:Addr).add 1) fun x8=>BIf (decide ((i64.wrap (x5*x8))<x3)) (LeI H6 ((⟨b3,0,none⟩:Addr).add 0) fun x9=>St H6 (((⟨b3,0,none⟩:Addr).add 0).add 0) (.int .i64 (i64.wrap (x9+(i64.wrap (Int.tdiv x6 x5))))) fun H7=>LdA H7 ⟨b3,0,none⟩ 3 fun l5=>StA H7 ⟨b2,0,none⟩ l5.toArray 3 fun H8=>LdA H8 ⟨b2,0,none⟩ 3 fun l8=>K (.tuple #[.agg l8.toArray,.int .i64 0]) H8) (LdA H6 ⟨b3,0,none⟩ 3 fun l6=>StA H6 ⟨b2,0,none⟩ l6.toArray 3 fun H9=>LdA H9 ⟨b2,0,none⟩ 3 fun l9=>K (.tuple #[.agg l9.toArray,.int .i64 0]) H9)))))
theorem gZK.ok x1 x2 x3 x4 H K (h:gZK x1 x2 x3 x4 H K):Za prog 130 #[.agg #[.int .i64 x1,.int .i64 x2],.int .i64 x3,.int .i64 x4] H K:=
 okN dZc Tryz.func130 rfl rfl h
def aZl.l17 (K:VK):Nat→OA→OA→Addr→Int→OA→Addr→Int→OA→OA→Nat→Nat→OA→OA→Nat→Nat→Hp→Prop
 |0,_,_,_,_,_,_,_,_,_,_,_,_,_,_,_,_=>False
 |k+1,p16,p17,a4,x46,p18,a5,x47,p19,A3,n3,m3,p20,A4,n4,m4,H=>
  let R17:=aZl.l17 K k
  LeI H ((a4.add 0).add 0) fun x48=>BIf (decide (x47<x48)) (HcS 119 #[.pointer p18] H fun A5 n5 m5 H21=>HcI 174 #[.pointer (some a5),.pointer p16,.pointer p17,.slice A5 n5 m5,.int .i64 x47] H21 fun x49 H22=>BIf (x49 !=0) (aZU prog 117 #[.pointer p19,.slice A3 n3 m3] H22 fun _ H25=>aZU prog 117 #[.pointer p20,.slice A4 n4 m4] H25 fun _ H26=>K (.tuple #[.int .u32 0,.int .i64 x49]) H26) (R17 p16 p17 a4 x46 p18 a5 (i64.wrap (x47+x46)) p19 A3 n3 m3 p20 A4 n4 m4 H22)) (HcU 124 #[.pointer (some (a5.add 0))] H fun x50 H23=>aZU prog 117 #[.pointer p19,.slice A3 n3 m3] H23 fun _ H27=>aZU prog 117 #[.pointer p20,.slice A4 n4 m4] H27 fun _ H28=>K (.tuple #[.int .u32 x50,.int .i64 0]) H28)
def aZl.j16 (K:VK)(p11 p12:OA)(a2:Addr)(x45:Int)(p13:OA)(a3:Addr)(p14 A1:OA)(n1 m1:Nat)(p15 A2:OA)(n2 m2:Nat)(H:Hp):=
 (∃ k,aZl.l17 K k p11 p12 a2 x45 p13 a3 0 p14 A1 n1 m1 p15 A2 n2 m2 H)
def aZl.q1 (l12:List Value)(H8:Hp)(p6:OA)(K:VK)(p1 p2:OA)(b1:Nat)(x9:Int)(p4 p3:OA)(b3 b2:Nat):=
 pZD l12.toArray.toList fun x16 x17 x18 x19 x20=>(Nw H8 (.obj (.cells #[.int .u32 0,.int .i64 0,.int .i64 x16,.int .i64 x17,.int .i64 x18,.int .i64 x19,.int .u64 x20,.pointer p6] 266)) fun b4 H9=>aZl.j16 K p1 p2 ⟨b1,0,none⟩ x9 p4 ⟨b4,0,none⟩ p3 (some ⟨b3,0,none⟩) 1 1 p3 (some ⟨b2,0,none⟩) 1 1 H9)
def aZl (p1 p2:OA)(x1 x2 x3 x4 x5:Int)(p3:OA)(x6:Int)(H:Hp)(K:VK):Prop:=
 Nw H (.obj (.cells #[.int .i64 x1,.int .i64 x2,.int .i64 x3,.int .i64 x4,.int .u64 x5] 124)) fun b1 H1=>LdA H1 ⟨b1,0,none⟩ 5 fun l1=>HcI 171 #[.pointer p1,.pointer p2,.agg l1.toArray,.pointer p3] H1 fun x7 H2=>BIf (x7 !=0) (K (.tuple #[.int .u32 0,.int .i64 x7]) H2) (LdA H2 ((⟨b1,0,none⟩:Addr).add 0) 2 fun l2=>NN p3 fun a1=>QcI 158 #[.pointer (some (a1.add 0))] H2 fun x8=>Qz 166 #[.agg l2.toArray,.int .i64 x6,.int .i64 x8] H2 fun v3=>gZ6 v3 fun x9 c1=>(BIf (!c1) (K (.tuple #[.int .u32 0,.int .i64 6]) H2) (LeI H2 (((⟨b1,0,none⟩:Addr).add 0).add 1) fun x10=>Hz 115 #[.pointer p3,.int .i64 (i64.wrap (x9*x10))] H2 fun v7 H3=>dZV v7 fun p4 x11=>(BIf (x11 !=0) (K (.tuple #[.int .u32 0,.int .i64 x11]) H3) (Nw H3 (.row [.pointer p4] 195 1) fun b2 H4=>LeI H4 (((⟨b1,0,none⟩:Addr).add 0).add 1) fun x12=>Hz 115 #[.pointer p3,.int .i64 x12] H4 fun v11 H5=>dZV v11 fun p5 x13=>(BIf (x13 !=0) (aZU prog 117 #[.pointer p3,.slice (some ⟨b2,0,none⟩) 1 1] H5 fun _ H24=>K (.tuple #[.int .u32 0,.int .i64 x13]) H24) (Nw H5 (.row [.pointer p5] 195 1) fun b3 H6=>(LdA H6 ⟨b1,0,none⟩ 5 fun l12=>LeI H6 (((⟨b1,0,none⟩:Addr).add 0).add 1) fun x14=>HcI 173 #[.int .u64 (u64.wrap x14)] H6 fun x15 H7=>HcP 172 #[.int .i64 x15] H7 fun p6 H8=>aZl.q1 l12 H8 p6 K p1 p2 b1 x9 p4 p3 b3 b2)∧(LeI H6 (((⟨b1,0,none⟩:Addr).add 0).add 1) fun x21=>(LdA H6 ⟨b1,0,none⟩ 5 fun l18=>HcI 173 #[.int .u64 (u64.wrap x21)] H6 fun x22 H10=>HcP 172 #[.int .i64 x22] H10 fun p7 H11=>aZl.q1 l18 H11 p7 K p1 p2 b1 x9 p4 p3 b3 b2)∧((LdA H6 ⟨b1,0,none⟩ 5 fun l24=>HcI 173 #[.int .u64 (u64.wrap x21)] H6 fun x28 H13=>HcP 172 #[.int .i64 x28] H13 fun p8 H14=>aZl.q1 l24 H14 p8 K p1 p2 b1 x9 p4 p3 b3 b2)∧(HcI 173 #[.int .u64 (u64.wrap x21)] H6 fun x34 H16=>(LdA H16 ⟨b1,0,none⟩ 5 fun l30=>HcP 172 #[.int .i64 x34] H16 fun p9 H17=>aZl.q1 l30 H17 p9 K p1 p2 b1 x9 p4 p3 b3 b2)∧(HcP 172 #[.int .i64 x34] H16 fun p10 H19=>LdA H19 ⟨b1,0,none⟩ 5 fun l36=>aZl.q1 l36 H19 p10 K p1 p2 b1 x9 p4 p3 b3 b2)))))))))))
def aZl.l17.L (K:VK)(k:Nat):Mid:=fun E D H=>
 eP E 0 fun p16=>eP E 1 fun p17=>eN E 7 fun a4=>eI E 13 .i64 fun x46=>eP E 15 fun p18=>eN E 17 fun a5=>eI E 18 .i64 fun x47=>cZv 117 D fun dc0 da0 D1=>ZR dc0 (Zl da0 fun u0da0 r0da0=>DP u0da0 fun p19=>Zl r0da0 fun u1da0 r1da0=>DSl u1da0 fun A3 n3 m3=>ZR r1da0 (cZv 117 D1 fun dc1 da1 D2=>ZR dc1 (Zl da1 fun u0da1 r0da1=>DP u0da1 fun p20=>Zl r0da1 fun u1da1 r1da1=>DSl u1da1 fun A4 n4 m4=>ZR r1da1 (Zk D2 (aZl.l17 K k p16 p17 a4 x46 p18 a5 x47 p19 A3 n3 m3 p20 A4 n4 m4 H)))))
def aZl.Λ17 (_:VK)(_R17:OA→OA→Addr→Int→OA→Addr→Int→OA→OA→Nat→Nat→OA→OA→Nat→Nat→Hp→Prop):Zt:=Zt.none (fun i=>match Nat.beq i 15 with|true=>some ([],[0,0,2,6,14,30,62,127,255,511],0)|false=>none)
def aZl.Λ (K:VK):Zt:=⟨fun i=>match Nat.beq i 16 with|true=>some (fun E D H=>eP E 0 fun p11=>eP E 1 fun p12=>eN E 7 fun a2=>eI E 13 .i64 fun x45=>eP E 15 fun p13=>eN E 17 fun a3=>cZv 117 D fun dc0 da0 D1=>ZR dc0 (Zl da0 fun u0da0 r0da0=>DP u0da0 fun p14=>Zl r0da0 fun u1da0 r1da0=>DSl u1da0 fun A1 n1 m1=>ZR r1da0 (cZv 117 D1 fun dc1 da1 D2=>ZR dc1 (Zl da1 fun u0da1 r0da1=>DP u0da1 fun p15=>Zl r0da1 fun u1da1 r1da1=>DSl u1da1 fun A2 n2 m2=>ZR r1da1 (Zk D2 (aZl.j16 K p11 p12 a2 x45 p13 a3 p14 A1 n1 m1 p15 A2 n2 m2 H))))))|false=>none,fun i=>match Nat.beq i 17 with|true=>some (fun E D H=>∃ k,aZl.l17.L K k E D H)|false=>none,(fun i=>match Nat.beq i 15 with|true=>some ([],[0,0,2,6,14,30,62,127,255,511],0)|false=>none)⟩
theorem aZl.ok p1 p2 x1 x2 x3 x4 x5 p3 x6 H K (h:aZl p1 p2 x1 x2 x3 x4 x5 p3 x6 H K):Za prog 133 #[.pointer p1,.pointer p2,.agg #[.int .i64 x1,.int .i64 x2,.int .i64 x3,.int .i64 x4,.int .u64 x5],.pointer p3,.int .i64 x6] H K:=
 okL (Λ:=(aZl.Λ K)) dZc Tryz.func133 rfl rfl h (oC (fun E D H h=>by
   obtain⟨p11,e0,g2⟩:=GP h;obtain⟨p12,e1,g4⟩:=GP g2;obtain⟨a2,e7,g7⟩:=GN g4;obtain⟨x45,e13,g9⟩:=GI g7;obtain⟨p13,e15,g11⟩:=GP g9;obtain⟨a3,e17,g14⟩:=GN g11;obtain⟨dc0,da0,D1,rfl,g15⟩:=cZv.out g14;obtain⟨rfl,g16⟩:=ZR.out g15;obtain⟨u0da0,r0da0,rfl,g17⟩:=Zl.out g16;obtain⟨p14,rfl,g18⟩:=DP.out g17;obtain⟨u1da0,r1da0,rfl,g19⟩:=Zl.out g18;obtain⟨A1,n1,m1,rfl,g20⟩:=DSl.out g19;obtain⟨rfl,g21⟩:=ZR.out g20;obtain⟨dc1,da1,D2,rfl,g22⟩:=cZv.out g21;obtain⟨rfl,g23⟩:=ZR.out g22;obtain⟨u0da1,r0da1,rfl,g24⟩:=Zl.out g23;obtain⟨p15,rfl,g25⟩:=DP.out g24;obtain⟨u1da1,r1da1,rfl,g26⟩:=Zl.out g25;obtain⟨A2,n2,m2,rfl,g27⟩:=DSl.out g26;obtain⟨rfl,g28⟩:=ZR.out g27;obtain⟨rfl,h'⟩:=Zk.out g28;exact okJ (Λ:=(aZl.Λ K)) dZc [{ target:=.fn (.func 117) #[],args:=#[.pointer p14,.slice A1 n1 m1]},{ target:=.fn (.func 117) #[],args:=#[.pointer p15,.slice A2 n2 m2]}] (Zb.cons e0 (Zb.cons e1 (Zb.cons e7 (Zb.cons e13 (Zb.cons e15 (Zb.cons e17 (Zb.nil _))))))) h' (oC (fun E D H h=>by
     refine Safe.loop' (aZl.l17.L K) (fun E D H h=>?_) (fun k E D H h=>?_) E D H h
     ·obtain⟨w0,e0,g1⟩:=DG.out h;obtain⟨p16,rfl,g2⟩:=DP.out g1;obtain⟨w1,e1,g3⟩:=DG.out g2;obtain⟨p17,rfl,g4⟩:=DP.out g3;obtain⟨w7,e7,g5⟩:=DG.out g4;obtain⟨pw7,rfl,g6⟩:=DP.out g5;obtain⟨a4,rfl,g7⟩:=NN.out g6;obtain⟨w13,e13,g8⟩:=DG.out g7;obtain⟨x46,rfl,g9⟩:=DI.out g8;obtain⟨w15,e15,g10⟩:=DG.out g9;obtain⟨p18,rfl,g11⟩:=DP.out g10;obtain⟨w17,e17,g12⟩:=DG.out g11;obtain⟨pw17,rfl,g13⟩:=DP.out g12;obtain⟨a5,rfl,g14⟩:=NN.out g13;obtain⟨w18,e18,g15⟩:=DG.out g14;obtain⟨x47,rfl,g16⟩:=DI.out g15;obtain⟨dc0,da0,D1,rfl,g17⟩:=cZv.out g16;obtain⟨rfl,g18⟩:=ZR.out g17;obtain⟨u0da0,r0da0,rfl,g19⟩:=Zl.out g18;obtain⟨p19,rfl,g20⟩:=DP.out g19;obtain⟨u1da0,r1da0,rfl,g21⟩:=Zl.out g20;obtain⟨A3,n3,m3,rfl,g22⟩:=DSl.out g21;obtain⟨rfl,g23⟩:=ZR.out g22;obtain⟨dc1,da1,D2,rfl,g24⟩:=cZv.out g23;obtain⟨rfl,g25⟩:=ZR.out g24;obtain⟨u0da1,r0da1,rfl,g26⟩:=Zl.out g25;obtain⟨p20,rfl,g27⟩:=DP.out g26;obtain⟨u1da1,r1da1,rfl,g28⟩:=Zl.out g27;obtain⟨A4,n4,m4,rfl,g29⟩:=DSl.out g28;obtain⟨rfl,g30⟩:=ZR.out g29;obtain⟨rfl,h'⟩:=Zk.out g30;exact h'
     ·obtain⟨p16,e0,g2⟩:=GP h;obtain⟨p17,e1,g4⟩:=GP g2;obtain⟨a4,e7,g7⟩:=GN g4;obtain⟨x46,e13,g9⟩:=GI g7;obtain⟨p18,e15,g11⟩:=GP g9;obtain⟨a5,e17,g14⟩:=GN g11;obtain⟨x47,e18,g16⟩:=GI g14;obtain⟨dc0,da0,D1,rfl,g17⟩:=cZv.out g16;obtain⟨rfl,g18⟩:=ZR.out g17;obtain⟨u0da0,r0da0,rfl,g19⟩:=Zl.out g18;obtain⟨p19,rfl,g20⟩:=DP.out g19;obtain⟨u1da0,r1da0,rfl,g21⟩:=Zl.out g20;obtain⟨A3,n3,m3,rfl,g22⟩:=DSl.out g21;obtain⟨rfl,g23⟩:=ZR.out g22;obtain⟨dc1,da1,D2,rfl,g24⟩:=cZv.out g23;obtain⟨rfl,g25⟩:=ZR.out g24;obtain⟨u0da1,r0da1,rfl,g26⟩:=Zl.out g25;obtain⟨p20,rfl,g27⟩:=DP.out g26;obtain⟨u1da1,r1da1,rfl,g28⟩:=Zl.out g27;obtain⟨A4,n4,m4,rfl,g29⟩:=DSl.out g28;obtain⟨rfl,g30⟩:=ZR.out g29;obtain⟨rfl,h'⟩:=Zk.out g30;exact okJ (Λ:=(aZl.Λ17 K (aZl.l17 K k))) dZc [{ target:=.fn (.func 117) #[],args:=#[.pointer p19,.slice A3 n3 m3]},{ target:=.fn (.func 117) #[],args:=#[.pointer p20,.slice A4 n4 m4]}] (Zb.cons e0 (Zb.cons e1 (Zb.cons e7 (Zb.cons e13 (Zb.cons e15 (Zb.cons e17 (Zb.cons e18 (Zb.nil _)))))))) h' oN) oN)) oN)
def aZO.l4 (K:VK):Nat→Int→Int→Addr→Int→Hp→Prop
 |0,_,_,_,_,_=>False
 |k+1,x7,x8,a1,x9,H=>
  let R4:=aZO.l4 K k
  LeI H (a1.add 0) fun x10=>BIf (decide ((i64.wrap (2*x9))≤x10)) (LeI H (a1.add 1) fun x11=>(x11≠0∧i64=i64∧BIf (decide ((i64.wrap ((i64.wrap (2*x9))+1))≤(i64.wrap (Int.tdiv (i64.wrap (x8-x7)) x11)))) (R4 x7 x8 a1 (i64.wrap (x9*2)) H) (K (.tuple #[.int .i64 x9,.bool true]) H))) (K (.tuple #[.int .i64 x9,.bool true]) H)
def aZO (x1 x2 x3 x4:Int)(H:Hp)(K:VK):Prop:=
 Nw H (.obj (.cells #[.int .i64 x1,.int .i64 x2] 122)) fun b1 H1=>LdA H1 ⟨b1,0,none⟩ 2 fun l1=>HcB 167 #[.agg l1.toArray] H1 fun c1 H2=>BIf (!c1) (K (.tuple #[.int .i64 0,.bool false]) H2) (LeI H2 ((⟨b1,0,none⟩:Addr).add 1) fun x5=>BIf (decide (x5>1048576)) (K (.tuple #[.int .i64 0,.bool false]) H2) (BIf (decide (x3<4)) (K (.tuple #[.int .i64 0,.bool false]) H2) (BIf (decide (x3>512)) (K (.tuple #[.int .i64 0,.bool false]) H2) (BIf ((aZr .i64 x3 (i64.wrap (x3-1))) !=0) (K (.tuple #[.int .i64 0,.bool false]) H2) (BIf (decide (x4<x3)) (K (.tuple #[.int .i64 0,.bool false]) H2) (LeI H2 ((⟨b1,0,none⟩:Addr).add 1) fun x6=>BIf (decide ((i64.wrap (x4-x3))<(i64.wrap (2*x6)))) (K (.tuple #[.int .i64 0,.bool false]) H2) ((∃ k,aZO.l4 K k x3 x4 ⟨b1,0,none⟩ 1 H2))))))))
def aZO.l4.L (K:VK)(k:Nat):Mid:=fun E D H=>
 eI E 1 .i64 fun x7=>eI E 2 .i64 fun x8=>eN E 3 fun a1=>eI E 6 .i64 fun x9=>Zk D (aZO.l4 K k x7 x8 a1 x9 H)
def aZO.Λ4 (_:VK)(_R4:Int→Int→Addr→Int→Hp→Prop):Zt:=Zt.none (fun _=>none)
def aZO.Λ (K:VK):Zt:=⟨fun i=>none,fun i=>match Nat.beq i 4 with|true=>some (fun E D H=>∃ k,aZO.l4.L K k E D H)|false=>none,(fun _=>none)⟩
theorem aZO.ok x1 x2 x3 x4 H K (h:aZO x1 x2 x3 x4 H K):Za prog 166 #[.agg #[.int .i64 x1,.int .i64 x2],.int .i64 x3,.int .i64 x4] H K:=
 okL (Λ:=(aZO.Λ K)) dZc Tryz.func166 rfl rfl h (oC (fun E D H h=>by
   refine Safe.loop' (aZO.l4.L K) (fun E D H h=>?_) (fun k E D H h=>?_) E D H h
   ·obtain⟨w1,e1,g1⟩:=DG.out h;obtain⟨x7,rfl,g2⟩:=DI.out g1;obtain⟨w2,e2,g3⟩:=DG.out g2;obtain⟨x8,rfl,g4⟩:=DI.out g3;obtain⟨w3,e3,g5⟩:=DG.out g4;obtain⟨pw3,rfl,g6⟩:=DP.out g5;obtain⟨a1,rfl,g7⟩:=NN.out g6;obtain⟨w6,e6,g8⟩:=DG.out g7;obtain⟨x9,rfl,g9⟩:=DI.out g8;obtain⟨rfl,h'⟩:=Zk.out g9;exact h'
   ·obtain⟨x7,e1,g2⟩:=GI h;obtain⟨x8,e2,g4⟩:=GI g2;obtain⟨a1,e3,g7⟩:=GN g4;obtain⟨x9,e6,g9⟩:=GI g7;obtain⟨rfl,h'⟩:=Zk.out g9;exact okJ (Λ:=(aZO.Λ4 K (aZO.l4 K k))) dZc [] (Zb.cons e1 (Zb.cons e2 (Zb.cons e3 (Zb.cons e6 (Zb.nil _))))) h' oN) oN)
def fZU (p1 p2:OA)(x1 x2 x3 x4 x5:Int)(p3:OA)(H:Hp)(K:VK):Prop:=
 Nw H (.obj (.cells #[.int .i64 x1,.int .i64 x2,.int .i64 x3,.int .i64 x4,.int .u64 x5] 124)) fun b1 H1=>BIf p1.isNone (K (.int .i64 1) H1) (BIf p2.isNone (K (.int .i64 1) H1) (BIf p3.isNone (K (.int .i64 1) H1) (LdA H1 ((⟨b1,0,none⟩:Addr).add 0) 2 fun l1=>QcB 167 #[.agg l1.toArray] H1 fun c1=>BIf (!c1) (K (.int .i64 19) H1) (QcI 89 #[.pointer p1] H1 fun x6=>LdA H1 ((⟨b1,0,none⟩:Addr).add 0) 2 fun l2=>QcI 168 #[.agg l2.toArray] H1 fun x7=>BIf (x6 !=x7) (K (.int .i64 19) H1) (QcI 89 #[.pointer p2] H1 fun x8=>LdA H1 ((⟨b1,0,none⟩:Addr).add 0) 2 fun l3=>QcI 168 #[.agg l3.toArray] H1 fun x9=>BIf (x8 !=x9) (K (.int .i64 19) H1) (LeI H1 ((⟨b1,0,none⟩:Addr).add 2) fun x10=>BIf (decide (x10<0)) (K (.int .i64 18) H1) (LeI H1 ((⟨b1,0,none⟩:Addr).add 2) fun x11=>BIf (decide (x11>1)) (K (.int .i64 18) H1) (LeI H1 ((⟨b1,0,none⟩:Addr).add 3) fun x12=>BIf (decide (x12<(-1))) (K (.int .i64 2) H1) (LeI H1 ((⟨b1,0,none⟩:Addr).add 3) fun x13=>BIf (decide (x13>32)) (K (.int .i64 2) H1) (K (.int .i64 0) H1))))))))))
theorem fZU.ok p1 p2 x1 x2 x3 x4 x5 p3 H K (h:fZU p1 p2 x1 x2 x3 x4 x5 p3 H K):Za prog 171 #[.pointer p1,.pointer p2,.agg #[.int .i64 x1,.int .i64 x2,.int .i64 x3,.int .i64 x4,.int .u64 x5],.pointer p3] H K:=
 okN dZc Tryz.func171 rfl rfl h
def aZj.l6 (K:VK):Nat→OA→OA→OA→Nat→Nat→Int→Int→Int→Hp→Prop
 |0,_,_,_,_,_,_,_,_,_=>False
 |k+1,p4,p5,A2,n2,m2,x4,x5,x6,H=>
  let R6:=aZj.l6 K k
  BIf (decide (x6<(n2:Int))) (slB n2 m2 (some x6) (some (i64.wrap (x6+x5))) fun n3 n4=>(x5≠0∧i64=i64∧Hz 193 #[.pointer p4,.slice (slA A2 m2 n3 1) (n4-n3) (m2-n3),.int .i64 (i64.wrap (x4+(i64.wrap (Int.tdiv x6 x5))))] H fun v3 H2=>R6 p4 p5 A2 n2 m2 x4 x5 (i64.wrap (x6+x5)) H2)) (NN p4 fun a2=>Hz 123 #[.pointer (some (a2.add 0)),.slice A2 n2 m2] H fun v4 H3=>HcI 83 #[.pointer p5,.int .i64 (i64.wrap (x4*x5)),.slice A2 n2 m2] H3 fun x7 H4=>K (.int .i64 x7) H4)
def aZj (p1 p2 p3 A1:OA)(n1 m1:Nat)(x1:Int)(H:Hp)(K:VK):Prop:=
 NN p1 fun a1=>LeI H (((a1.add 2).add 0).add 1) fun x2=>HcI 90 #[.pointer p2,.int .i64 (i64.wrap (x1*x2)),.slice A1 n1 m1] H fun x3 H1=>BIf (x3 !=0) (K (.int .i64 x3) H1) ((∃ k,aZj.l6 K k p1 p3 A1 n1 m1 x1 x2 0 H1))
def aZj.l6.L (K:VK)(k:Nat):Mid:=fun E D H=>
 eP E 0 fun p4=>eP E 2 fun p5=>DG (E.get? 3) fun w3=>DSl w3 fun A2 n2 m2=>eI E 4 .i64 fun x4=>eI E 11 .i64 fun x5=>eI E 13 .i64 fun x6=>Zk D (aZj.l6 K k p4 p5 A2 n2 m2 x4 x5 x6 H)
def aZj.Λ6 (_:VK)(_R6:OA→OA→OA→Nat→Nat→Int→Int→Int→Hp→Prop):Zt:=Zt.none (fun i=>match Nat.beq i 8 with|true=>some ([],[0,1,2,3,4,5,6,7,8,9,10,11],12)|false=>none)
def aZj.Λ (K:VK):Zt:=⟨fun i=>none,fun i=>match Nat.beq i 6 with|true=>some (fun E D H=>∃ k,aZj.l6.L K k E D H)|false=>none,(fun i=>match Nat.beq i 8 with|true=>some ([],[0,1,2,3,4,5,6,7,8,9,10,11],12)|false=>none)⟩
theorem aZj.ok p1 p2 p3 A1 n1 m1 x1 H K (h:aZj p1 p2 p3 A1 n1 m1 x1 H K):Za prog 174 #[.pointer p1,.pointer p2,.pointer p3,.slice A1 n1 m1,.int .i64 x1] H K:=
 okL (Λ:=(aZj.Λ K)) dZc Tryz.func174 rfl rfl h (oC (fun E D H h=>by
   refine Safe.loop' (aZj.l6.L K) (fun E D H h=>?_) (fun k E D H h=>?_) E D H h
   ·obtain⟨w0,e0,g1⟩:=DG.out h;obtain⟨p4,rfl,g2⟩:=DP.out g1;obtain⟨w2,e2,g3⟩:=DG.out g2;obtain⟨p5,rfl,g4⟩:=DP.out g3;obtain⟨w3,e3,g5⟩:=DG.out g4;obtain⟨A2,n2,m2,rfl,g6⟩:=DSl.out g5;obtain⟨w4,e4,g7⟩:=DG.out g6;obtain⟨x4,rfl,g8⟩:=DI.out g7;obtain⟨w11,e11,g9⟩:=DG.out g8;obtain⟨x5,rfl,g10⟩:=DI.out g9;obtain⟨w13,e13,g11⟩:=DG.out g10;obtain⟨x6,rfl,g12⟩:=DI.out g11;obtain⟨rfl,h'⟩:=Zk.out g12;exact h'
   ·obtain⟨p4,e0,g2⟩:=GP h;obtain⟨p5,e2,g4⟩:=GP g2;obtain⟨w3,e3,g5⟩:=DG.out g4;obtain⟨A2,n2,m2,rfl,g6⟩:=DSl.out g5;obtain⟨x4,e4,g8⟩:=GI g6;obtain⟨x5,e11,g10⟩:=GI g8;obtain⟨x6,e13,g12⟩:=GI g10;obtain⟨rfl,h'⟩:=Zk.out g12;exact okJ (Λ:=(aZj.Λ6 K (aZj.l6 K k))) dZc [] (Zb.cons e0 (Zb.cons e2 (Zb.cons e3 (Zb.cons e4 (Zb.cons e11 (Zb.cons e13 (Zb.nil _))))))) h' oN) oN)
def aZw.j4 (K:VK)(p3 A4:OA)(n4 m4:Nat)(H:Hp):=
 NN p3 fun a6=>LeW H ((a6.add 2).add 4) fun x13=>HcS 219 #[.slice A4 n4 m4,.int .u64 x13] H fun A5 n5 m5 H6=>CpK prog 82 (.slice A4 n4 m4) (.slice A5 n5 m5) H6 fun v19 H7=>DI .i64 v19 fun x14=>K (.tuple #[]) H7
def aZw.q1 (A1:OA)(n1 m1:Nat)(x1 x5 x6:Int)(H1:Hp)(K:VK)(p1:OA):=
 Hz 218 #[.slice A1 n1 m1,.agg #[.int .i64 1,.int .i64 (n1:Int),.int .i64 x1,.int .i64 0],.int .i64 x5,.int .i64 x6] H1 fun v7 H2=>dZ7 v7 fun A2 n2 m2 x7=>(CpK prog 82 (.slice A1 n1 m1) (.slice A2 n2 m2) H2 fun v15 H4=>DI .i64 v15 fun x11=>aZw.j4 K p1 A1 n1 m1 H4)
def aZw (p1 A1:OA)(n1 m1:Nat)(x1:Int)(H:Hp)(K:VK):Prop:=
 NN p1 fun a1=>LeP H (a1.add 7) fun p2=>NN p1 fun a2=>LeI H ((a2.add 2).add 2) fun x2=>HcI 217 #[.pointer p2,.slice A1 n1 m1,.int .i64 x2] H fun x3 H1=>NN p1 fun a3=>LeI H1 ((a3.add 2).add 3) fun x4=>BIf (decide (x4≥0)) (NN p1 fun a4=>NN p1 fun a5=>(LeI H1 ((a4.add 2).add 3) fun x5=>LeI H1 ((a5.add 2).add 2) fun x6=>aZw.q1 A1 n1 m1 x1 x5 x6 H1 K p1)∧(LeI H1 ((a5.add 2).add 2) fun x8=>LeI H1 ((a4.add 2).add 3) fun x9=>aZw.q1 A1 n1 m1 x1 x9 x8 H1 K p1)) (aZw.j4 K p1 A1 n1 m1 H1)
def aZw.Λ (K:VK):Zt:=⟨fun i=>match Nat.beq i 4 with|true=>some (fun E D H=>eP E 0 fun p3=>DG (E.get? 1) fun w1=>DSl w1 fun A4 n4 m4=>Zk D (aZw.j4 K p3 A4 n4 m4 H))|false=>none,fun i=>none,(fun i=>match Nat.beq i 2 with|true=>some ([],[0,0,2,6,0,30,0,64,192,448,960,0,2048,6144,14336,30720,65535,131071,262143,262143,524287,2097151],0)|false=>match Nat.beq i 0 with|true=>some ([],[0,1,2,3,4,5,6,7,8,9],10)|false=>none)⟩
theorem aZw.ok p1 A1 n1 m1 x1 H K (h:aZw p1 A1 n1 m1 x1 H K):Za prog 193 #[.pointer p1,.slice A1 n1 m1,.int .i64 x1] H K:=
 okL (Λ:=(aZw.Λ K)) dZc Tryz.func193 rfl rfl h (oC (fun E D H h=>by
   obtain⟨p3,e0,g2⟩:=GP h;obtain⟨w1,e1,g3⟩:=DG.out g2;obtain⟨A4,n4,m4,rfl,g4⟩:=DSl.out g3;obtain⟨rfl,h'⟩:=Zk.out g4;exact okJ (Λ:=(aZw.Λ K)) dZc [] (Zb.cons e0 (Zb.cons e1 (Zb.nil _))) h' oN) oN)
end W
namespace Pas
open Go Go.Hw W Shp Gol Fft Ker
structure J where
 ea:Nat
 eb:Nat
 d:Bool
 tw:Int
 sh:UInt64
def J.a (j:J):Array Value:=#[.int .i64 ((2^j.ea:Nat):Int),.int .i64 ((2^j.eb:Nat):Int),.int .i64 (if j.d=true then 1 else 0),.int .i64 j.tw,.int .u64 (j.sh.toNat:Int)]
def uZc (j:J)(kp:Nat):List Value:=[.int .i64 ((2^j.ea:Nat):Int),.int .i64 ((2^j.eb:Nat):Int),.int .i64 (if j.d=true then 1 else 0),.int .i64 j.tw,.int .u64 (j.sh.toNat:Int),.pointer (some ⟨kp,0,none⟩)]
def cZa (s:Crc.W32)(k:Nat)(j:J)(kp:Nat):AO:=.obj (.cells (CrcP.iZV s k (uZc j kp)) 266)
def twL (j:J)(r:Nat)(l:List UInt64):List UInt64:=if 0≤j.tw then kZg (pw (rtd j.d j.tw.toNat) r) l else l
def dZ1 (j:J)(r:Nat)(l:List UInt64):List UInt64:=eZO (zw j.sh) (twL j r (eZx j.d j.eb l))
theorem wZa (j:J)(r:Nat)(l:List UInt64):(twL j r l).length=l.length:=by
 unfold twL;split
 ·exact jZU _ _
 ·rfl
theorem hZS (j:J)(r:Nat)(l:List UInt64):(dZ1 j r l).length=2^j.eb:=by unfold dZ1;rw[hZT,wZa,iZX]
theorem qZ9 {xs us bs:List Value}{off:Nat}(h:off+us.length≤xs.length)(hl:bs.length=us.length):setAt (setAt xs off us) off bs=setAt xs off bs:=by
 apply List.ext_getElem?;intro i;rw[bZP (by rw[cZH h];omega),bZP h,bZP (by omega)];by_cases h1:i<off
 ·rw[if_pos h1,if_pos h1,if_pos h1]
 ·rw[if_neg h1,if_neg h1,if_neg h1];by_cases h2:i<off+bs.length
  ·rw[if_pos h2,if_pos h2]
  ·rw[if_neg h2,if_neg h2,if_neg (by omega)]
theorem tZ3 (ws:List UInt64):∀ y∈Zc ws,y.oneCell'=true:=fun y hy=>by
 unfold Zc at hy;obtain⟨w,_,rfl⟩:=List.mem_map.1 hy;rfl
theorem sZy {e:TypeId}{A:OA}{n m:Nat}{ws:List UInt64}{H:Hp}(h:Own e 1 A n m (Zc ws) H):Cells H A (Zc ws):=by
 obtain⟨h1,h2⟩:=h;rcases h2 with⟨rfl,rfl,rfl⟩|⟨b,mm,rfl,h4,_⟩
 ·rw[Nat.zero_mul]at h1;rw[List.length_eq_zero_iff.1 h1];exact Cells.nil _ _
 ·have:=Cells.row h4 0 (Zc ws).length;rw[List.drop_zero,List.take_of_length_le (Nat.le_refl _)]at this;exact this
section
variable {TT : As} {kp b off mm n m rn r : Nat} {s : Crc.W32} {sk : Nat} {j : J} {l : List UInt64} {xs : List Value} {e : TypeId}
theorem oZI {H:Hp}{L:List As}{i:Nat}(hs:Sep L H){ws us:List UInt64}(hi:L[i]? =some (pts b (.row (setAt xs off (Zc ws)) e mm)))(hw:ws.length=n)(hu:us.length=n)(hx:off+n≤xs.length){A:OA}{m':Nat}(hc:Cells H A (Zc us)){K:VK}
  (kk:∀ H',Sep (L.set i (pts b (.row (setAt xs off (Zc us)) e mm))) H'→K (.int .i64 (n:Int)) H'):CpK prog 82 (.slice (some ⟨b,off,none⟩) n m) (.slice A n m') H K:=by
 refine hs.cp i (k:=n) (n:=n) (c:=m) (x:=.slice A n m') (ys:=Zc us) hi bZ7 rfl (by rw[show Nat.min n n=n from Nat.min_self n];exact jZP hc (by rw[Zr,hu])) (by rw[iZH (by omega),Zr,hu];exact hx) (tZ3 us) fun H' hs'=>?_
 rw[qZ9 (by rw[Zr];omega) (by rw[Zr,Zr,hu,hw])]at hs';rw[show Nat.min n n=n from Nat.min_self n];exact kk H' hs'
theorem wZk (hn:n=2^j.eb)(hb:j.eb≤20)(hx:off+n≤xs.length){ws:List UInt64}(hw:ws.length=n){L:List As}(K:VK)
  (hK:∀ H,Sep (pts rn (cZa s sk j kp)::pts b (.row (setAt xs off (Zc (eZO (zw j.sh) ws))) e mm)::L) H→K (.tuple #[]) H) {H:Hp} (hs:Sep (pts rn (cZa s sk j kp)::pts b (.row (setAt xs off (Zc ws)) e mm)::L) H):
  aZw.j4 K (some ⟨rn,0,none⟩) (some ⟨b,off,none⟩) n m H:=by
 have h20:=aZF hb;unfold aZw.j4;simp only[aZY];refine hs.ldg 0 rfl rfl ?_;simp only[HV];refine(tZy (n:=n) (m:=m) (R:=pts b (.row (setAt xs off (Zc ws)) e mm)) j.sh (fun H h=>jZL h (by omega)) hw (by omega)).use hs [1] rfl rfl ?_;rintro _ _ H ⟨r1,rfl,rfl⟩ hs;have hs:Sep (pts r1 (.row (Zc (eZO (zw j.sh) ws)) 82 (n*1))::pts b (.row (setAt xs off (Zc ws)) e mm)::pts rn (cZa s sk j kp)::L) H:=by
  have:rest (pts rn (cZa s sk j kp)::pts b (.row (setAt xs off (Zc ws)) e mm)::L) [1]=pts rn (cZa s sk j kp)::L:=by
   have key:∀(L:List As) k,2≤k→rest.go [1] k L=L:=by
    intro L
    induction L with
    |nil=>intro k _;rfl
    |cons A L ih=>
     intro k hk;unfold rest.go;have:([1]:List Nat).contains k=false:=by simp;omega
     rw[this,ih (k+1) (by omega)]
   show pts rn (cZa s sk j kp)::rest.go [1] 2 L=_
   rw[key L 2 (Nat.le_refl _)]
  rw[this]at hs;exact hs
 simp only[HV];have hc:Cells H (some ⟨r1,0,none⟩) (Zc (eZO (zw j.sh) ws)):=by
  have:=Cells.row (hs.get 0 rfl) 0 n;rw[List.drop_zero,List.take_of_length_le (by rw[Zr,hZT];omega)]at this;exact this
 refine oZI (m':=n) hs (i:=1) rfl hw (by rw[hZT];exact hw) hx hc fun H hs=>?_;simp only[HV];refine hK H ?_;have hs:=hs.tail;exact hs.swap
theorem wZl (hT:∀ H,TT H→T64 H)(hn:n=2^j.eb)(hb:j.eb≤20)(htw:j.tw≤32)(hr:r≤4294967295)(hl:l.length=n)(hm:n≤m)(hx:off+n≤xs.length)(hseg:setAt xs off (Zc l)=xs):
  Tr prog 193 #[.pointer (some ⟨rn,0,none⟩),.slice (some ⟨b,off,none⟩) n m,.int .i64 (r:Int)] [pts rn (cZa s sk j kp),pts b (.row xs e mm),Kn kp j.eb,TT] fun v M=>
   v= .tuple #[]∧M=[pts rn (cZa s sk j kp),pts b (.row (setAt xs off (Zc (dZ1 j r l))) e mm),Kn kp j.eb,TT]:=fun H hs=>by
 have h20:=aZF hb;apply aZw.ok;unfold aZw aZw.q1;simp only[aZY];refine hs.ldf 0 rfl rfl ?_;simp only[HV];refine hs.ldg 0 rfl rfl ?_;simp only[HV];refine(tZw (kp:=kp) (m:=m) (mm:=mm) (e:=e) hT hb hn hl hx hseg j.d).use hs [1,2,3] rfl rfl ?_;rintro _ _ H ⟨rfl,rfl⟩ hs;simp only[HV];have hs:Sep [pts b (.row (setAt xs off (Zc (eZx j.d j.eb l))) e mm),Kn kp j.eb,TT,pts rn (cZa s sk j kp)] H:=hs;refine hs.ldg 3 rfl rfl ?_;simp only[HV];have hdl:(eZx j.d j.eb l).length=n:=by rw[iZX,hn]
 have fin:∀{ws:List UInt64} {H:Hp},ws.length=n→twL j r (eZx j.d j.eb l)=ws→Sep [pts b (.row (setAt xs off (Zc ws)) e mm),Kn kp j.eb,TT,pts rn (cZa s sk j kp)] H→
   aZw.j4 (fun v H'=>∃ M,(v= .tuple #[]∧M=[pts rn (cZa s sk j kp),pts b (.row (setAt xs off (Zc (dZ1 j r l))) e mm),Kn kp j.eb,TT])∧Sep M H') (some ⟨rn,0,none⟩) (some ⟨b,off,none⟩) n m H:=fun{ws} {H} hw he hs=>by
  refine wZk (s:=s) (sk:=sk) (kp:=kp) (mm:=mm) (e:=e) (L:=[Kn kp j.eb,TT]) hn hb hx hw _ (fun H hs=>⟨_,⟨rfl,rfl⟩,?_⟩) (hs.re [3,0,1,2] rfl);unfold dZ1;rw[he];exact hs
 by_cases ht:0≤j.tw
 ·refine Zn ht ?_;obtain⟨t,ht'⟩:=Int.eq_ofNat_of_zero_le ht;have hz:pw (rtd j.d j.tw.toNat) r=pw (rtd j.d t) r:=by rw[ht',Int.toNat_natCast]
  refine⟨?_,?_⟩
  all_goals
   refine hs.ldg 3 rfl rfl ?_;simp only[HV];refine hs.ldg 3 rfl rfl ?_;simp only[HV];rw[ht'];refine(vZh (n:=n) (m:=m) (k:=t) (r:=r) (l:=eZx j.d j.eb l) (R:=pts b (.row (setAt xs off (Zc (eZx j.d j.eb l))) e mm)) hT (fun H h=>jZL h (by omega)) hn hb hdl hm (by omega) hr j.d).use hs [0,2] rfl rfl ?_;rintro _ _ H ⟨A',m',rfl,rfl⟩ hs;simp only[HV];refine oZI (m':=m') hs (i:=1) rfl hdl (by rw[jZU];exact hdl) hx (sZy (hs.own 0 rfl)) fun H hs=>?_;simp only[HV];exact fin (by rw[jZU];exact hdl) (by unfold twL;rw[if_pos ht,hz]) (hs.re [1,3,2,4] rfl)
 ·exact Zh ht (fin hdl (by unfold twL;rw[if_neg ht]) hs)
end
end Pas
namespace Pas
open Go Go.Hw Go.Crc Go.Form W Shp Gol Fft Ker Str Dsk Are Trn
def fZa (j:J)(r:Nat)(ws:List UInt64)(i:Nat):List UInt64:=(List.range i).flatMap fun q=>dZ1 j (r+q) ((ws.drop (q*2^j.eb)).take (2^j.eb))
def fZb (j:J)(r:Nat)(ws:List UInt64)(i:Nat):List UInt64:=fZa j r ws i++ws.drop (i*2^j.eb)
theorem hZJ (j:J)(r:Nat)(ws:List UInt64):∀ i,(fZa j r ws i).length=i*2^j.eb
 |0=>by simp[fZa]
 |i+1=>by
  unfold fZa;rw[List.range_succ,List.flatMap_append,List.length_append];have:=hZJ j r ws i;unfold fZa at this;rw[this,Nat.succ_mul];simp[hZS]
theorem rZN (j:J)(r:Nat)(ws:List UInt64)(i:Nat):fZa j r ws (i+1)=fZa j r ws i++dZ1 j (r+i) ((ws.drop (i*2^j.eb)).take (2^j.eb)):=by
 unfold fZa;rw[List.range_succ,List.flatMap_append];simp
theorem tZF {j:J}{r:Nat}{ws:List UInt64}{i nb:Nat}(hw:ws.length=nb*2^j.eb)(hi:i≤nb):(fZb j r ws i).length=nb*2^j.eb:=by
 unfold fZb;have:i*2^j.eb≤nb*2^j.eb:=Nat.mul_le_mul_right _ hi;rw[List.length_append,hZJ,List.length_drop];omega
theorem rZO (j:J)(r:Nat)(ws:List UInt64):fZb j r ws 0=ws:=by simp[fZb,fZa]
theorem qZc (a b c:List UInt64):dZ2 (a++b) a.length c=a++c++b.drop c.length:=by
 unfold dZ2;rw[List.take_left,←List.drop_drop,List.drop_left]
section
variable {TT : As} {kp rn p q dp ap bb mb : Nat} {s : W32} {sk : Nat} {j : J} {x y : X} {cap peak : Int} {bufs : List (Nat × Nat × Option Addr)}
theorem lZk (K:VK)(hT:∀ H,TT H→T64 H)(hb:j.eb≤20)(htw:j.tw≤32){nb r:Nat}(hr:r+nb≤4294967296)(hsz:nb*2^j.eb≤4294967296){ws:List UInt64}(hw:ws.length=nb*2^j.eb){L:List As}{n:Nat}(hn:n=nb*2^j.eb)
  (hK:∀ H,Sep (pts rn (cZa s sk j kp)::pts bb (.row (Zc (fZa j r ws nb)) 82 mb)::Kn kp j.eb::TT::L) H→aZj.l6 K 1 (some ⟨rn,0,none⟩) (some ⟨q,0,none⟩) (some ⟨bb,0,none⟩) n n (r:Int) ((2^j.eb:Nat):Int) (n:Int) H):
  ∀(t i:Nat) (z:Int) (H:Hp),z=((i*2^j.eb:Nat):Int)→i+t=nb→Sep (pts rn (cZa s sk j kp)::pts bb (.row (Zc (fZb j r ws i)) 82 mb)::Kn kp j.eb::TT::L) H→
   aZj.l6 K (t+1) (some ⟨rn,0,none⟩) (some ⟨q,0,none⟩) (some ⟨bb,0,none⟩) n n (r:Int) ((2^j.eb:Nat):Int) z H
 |0,i,_,H,rfl,hi,hs=>by
  obtain rfl:i=nb:=by omega
  rw[← hn];refine hK H ?_;unfold fZb at hs;rw[List.drop_eq_nil_of_le (by omega),List.append_nil]at hs;exact hs
 |t+1,i,_,H,rfl,hi,hs=>by
  have hc1:=pow_pos j.eb;have hse:(i+1)*2^j.eb=i*2^j.eb+2^j.eb:=Nat.succ_mul _ _;have h20:=aZF hb;have hi1:(i+1)*2^j.eb≤nb*2^j.eb:=Nat.mul_le_mul_right _ (by omega);have hi1':=hi1;rw[Nat.succ_mul]at hi1;unfold aZj.l6;refine Zn (by omega) ?_;rw[show i64.wrap (((i*2^j.eb:Nat):Int)+((2^j.eb:Nat):Int))=(((i+1)*2^j.eb:Nat):Int) by rw[Nat.succ_mul,←Int.natCast_add,aZJ (by omega)]];refine⟨by omega,by omega,by omega,by omega,?_⟩;rw[Int.toNat_natCast,Int.toNat_natCast];refine⟨by omega,by simp,?_⟩;rw[show Int.tdiv ((i*2^j.eb:Nat):Int) ((2^j.eb:Nat):Int)=((i*2^j.eb/2^j.eb:Nat):Int)from rfl,Nat.mul_div_cancel _ (by omega),aZJ (n:=i) (by omega),←Int.natCast_add,aZJ (n:=r+i) (by omega),
   lZW (by omega),show(i+1)*2^j.eb-i*2^j.eb=2^j.eb by rw[Nat.succ_mul];omega,Nat.zero_add]
  have hA:=hZJ j r ws i;have hlen:=tZF (j:=j) (r:=r) hw (show i≤nb by omega);have hseg:setAt (Zc (fZb j r ws i)) (i*2^j.eb) (Zc ((ws.drop (i*2^j.eb)).take (2^j.eb)))=Zc (fZb j r ws i):=by
   rw[jZN];unfold fZb;rw[← hA,qZc,hA,List.append_assoc];congr 2;rw[List.length_take,List.length_drop,Nat.min_eq_left (by omega)];exact List.take_append_drop _ _
  have hsl:((ws.drop (i*2^j.eb)).take (2^j.eb)).length=2^j.eb:=by rw[List.length_take,List.length_drop];omega
  have ht:=wZl (rn:=rn) (kp:=kp) (b:=bb) (off:=i*2^j.eb) (mm:=mb) (n:=2^j.eb) (m:=n-i*2^j.eb) (r:=r+i) (s:=s) (sk:=sk) (j:=j) (l:=(ws.drop (i*2^j.eb)).take (2^j.eb)) (xs:=Zc (fZb j r ws i)) (e:=82) hT rfl hb htw (by omega) hsl (by omega) (by rw[Zr,hlen];omega) hseg;have e0:sel (pts rn (cZa s sk j kp)::pts bb (.row (Zc (fZb j r ws i)) 82 mb)::Kn kp j.eb::TT::L) [0,1,2,3]=[pts rn (cZa s sk j kp),pts bb (.row (Zc (fZb j r ws i)) 82 mb),Kn kp j.eb,TT]:=rfl;refine ht.use hs [0,1,2,3] e0 rfl ?_;rintro _ _ H ⟨rfl,rfl⟩ hs;have erest:rest (pts rn (cZa s sk j kp)::pts bb (.row (Zc (fZb j r ws i)) 82 mb)::Kn kp j.eb::TT::L) [0,1,2,3]=L:=by
   have key:∀(L:List As) k,4≤k→rest.go [0,1,2,3] k L=L:=by
    intro L
    induction L with
    |nil=>intro k _;rfl
    |cons A L ih=>
     intro k hk;unfold rest.go;have:([0,1,2,3]:List Nat).contains k=false:=by simp;omega
     rw[this,ih (k+1) (by omega)]
   exact key L 4 (Nat.le_refl _)
  rw[erest]at hs;have hstep:setAt (Zc (fZb j r ws i)) (i*2^j.eb) (Zc (dZ1 j (r+i) ((ws.drop (i*2^j.eb)).take (2^j.eb))))=Zc (fZb j r ws (i+1)):=by
   rw[jZN];unfold fZb;rw[← hA,qZc,hA,rZN,hZS,List.drop_drop,Nat.succ_mul]
  rw[hstep]at hs;exact lZk K hT hb htw hr hsz hw hn hK t (i+1) _ H rfl (by omega) hs
def wZJ (rn p q dp ap kp bb:Nat)(s:W32)(sk:Nat)(j:J)(d:D)(x y:X)(r nb:Nat)(cap peak:Int)(bufs:List (Nat×Nat×OA))(mb:Nat)(TT:As)(v:Value)(M:List As):Prop:=
 let n:=nb*2^j.eb
 let f:=r*2^j.eb
 let us:=fZa j r (pws d x f n) nb
 let t:=(pcs (D.per d) x.f n f n).length
 (Prog (inX y) d (dZ3 (D.rdG d t) y n f us) (t+cZS (D.per d) y.f n f n) (pcs (D.per d) y.f n f n).length∧v= .int .i64 0∧
  M=[pts rn (cZa (more s (form us)) (sk+8*n) j kp),pts bb (.row (Zc us) 82 mb),pts p (ZI dp ap x),pts q (ZI dp ap y),Dk dp (dZ3 (D.rdG d t) y n f us),Ar ap cap (mx peak (ZE bufs+D.per d)) bufs,Kn kp j.eb,TT])∨
 (∃ d',cZr (inX y) d d'∧d.fuse≤t+cZS (D.per d) y.f n f n+(pcs (D.per d) y.f n f n).length∧v= .int .i64 8∧
  M=[pts p (ZI dp ap x),pts q (ZI dp ap y),Dk dp d',Ar ap cap (mx peak (ZE bufs+D.per d)) bufs,TT])
set_option maxHeartbeats 1000000 in
theorem tZH {d:D}(hT:∀ H,TT H→T64 H)(hok:Ok d)(hl:d.down=false)(hx:On d x)(hy:On d y)(ho:d.rd≤4000000000000000000∧d.wr≤4000000000000000000)(hb:j.eb≤20)(htw:j.tw≤32){r nb:Nat}(hnb:1≤nb)(hr:r+nb≤4294967296)(hsz:nb*2^j.eb≤4294967296)
  (hfx:r*2^j.eb+nb*2^j.eb≤x.w) (hfy:r*2^j.eb+nb*2^j.eb≤y.w) (hxw:x.w≤4294967296) (hsk:sk≤1000000000000) (hcap:(D.per d:Int)≤cap-ZE bufs) (ws:List UInt64) (hws:ws.length=nb*2^j.eb):
  Tr prog 174 #[.pointer (some ⟨rn,0,none⟩),.pointer (some ⟨p,0,none⟩),.pointer (some ⟨q,0,none⟩),.slice (some ⟨bb,0,none⟩) (nb*2^j.eb) (nb*2^j.eb),.int .i64 (r:Int)]
   [pts rn (cZa s sk j kp),pts bb (.row (Zc ws) 82 mb),pts p (ZI dp ap x),pts q (ZI dp ap y),Dk dp d,Ar ap cap peak bufs,Kn kp j.eb,TT] (wZJ rn p q dp ap kp bb s sk j d x y r nb cap peak bufs mb TT):=fun H hs=>by
 have hp:=Ok.per_le hok;have hc1:=pow_pos j.eb;have hn1:1*1≤nb*2^j.eb:=Nat.mul_le_mul hnb hc1;have hpl:=dZo (D.per d) x.f (nb*2^j.eb) (r*2^j.eb) (nb*2^j.eb);apply aZj.ok;unfold aZj;simp only[aZY];rw[show(((⟨rn,0,none⟩:Addr).add 2).add 0).add 1=⟨rn,3,none⟩ by rw[Addr.add_zero,Addr.add_lit',Addr.add_lit']];refine hs.ld 0 rfl rfl ?_;simp only[HV];rw[← Int.natCast_mul,aZJ (by omega)];refine(kZF (p:=p) (dp:=dp) (ap:=ap) (d:=d) (x:=x) (cap:=cap) (peak:=peak) (bufs:=bufs) (rl:=bb) (off:=0) (mm:=mb) (el:=82) (xs:=Zc ws) hok hl hx (by omega) (r*2^j.eb) (nb*2^j.eb) (nb*2^j.eb) (by omega) hfx (Nat.le_refl _) (by rw[Zr];omega) hcap).use hs [2,4,5,1] rfl rfl ?_;rintro v M H (⟨hgo,rfl,rfl⟩|⟨i,xs',hi,hfi,_,rfl,rfl⟩) hs
 case inr=>
  simp only[HV];refine ZA (by decide) ⟨_,.inr ⟨_,(cZr.rdG (fun _=>False) hok hl hfi).mono fun _ h=>h.elim,by omega,rfl,rfl⟩,hs.re [0,5,1,2,7] rfl⟩
 simp only[HV];refine Zq rfl ?_;rw[gZ4 (by rw[Zr,Zr,dZZ,hws])]at hs;have hpg:=Prog.rdG (inX y) hok hl hgo;generalize ht:(pcs (D.per d) x.f (nb*2^j.eb) (r*2^j.eb) (nb*2^j.eb)).length=t at*;have hper:D.per (D.rdG d t)=D.per d:=rfl;refine⟨nb+1,?_⟩;refine lZk (q:=q) (s:=s) (sk:=sk) (kp:=kp) (mb:=mb) (L:=[pts p (ZI dp ap x),Dk dp (D.rdG d t),Ar ap cap (mx peak (ZE bufs+D.per d)) bufs,pts q (ZI dp ap y)]) _ hT hb htw hr hsz (ws:=pws d x (r*2^j.eb) (nb*2^j.eb)) (dZZ _ _ _ _) rfl (fun H hs=>?_) nb 0 0 H (by rw[Nat.zero_mul];rfl) (by omega) ?_
 ·generalize hus:fZa j r (pws d x (r*2^j.eb) (nb*2^j.eb)) nb=us at*;have hul:us.length=nb*2^j.eb:=by rw[← hus];exact hZJ _ _ _ _
  have hcell:∀ H,pts bb (.row (Zc us) 82 mb) H→Cells H (some ⟨bb,0,none⟩) (Zc us):=fun H h=>by
   have:=Cells.row h 0 us.length
   rwa [List.drop_zero,List.take_of_length_le (by rw[Zr];exact Nat.le_refl _)]at this
  unfold aZj.l6;refine Zh (Int.lt_irrefl _) ?_;simp only[aZY,Addr.add_zero];refine CrcP.kZk hs 0 rfl (some ⟨bb,0,none⟩) (nb*2^j.eb) (nb*2^j.eb) us hul.symm ?_ (by omega) (by omega) fun H hs=>?_
  ·obtain⟨H1,h1,hle⟩:=hs.see 1 rfl;exact(hcell H1 h1).le hle
  have hs:Sep [pts rn (cZa (more s (form us)) (sk+8*(nb*2^j.eb)) j kp),pts bb (.row (Zc us) 82 mb),Kn kp j.eb,TT,pts p (ZI dp ap x),Dk dp (D.rdG d t),Ar ap cap (mx peak (ZE bufs+D.per d)) bufs,pts q (ZI dp ap y)] H:=hs;rw[← Int.natCast_mul,aZJ (by omega)];refine(jZn (p:=q) (dp:=dp) (ap:=ap) (d:=D.rdG d t) (x:=y) (cap:=cap) (peak:=mx peak (ZE bufs+D.per d)) (bufs:=bufs) (R:=pts bb (.row (Zc us) 82 mb)) (A:=some ⟨bb,0,none⟩) (n:=nb*2^j.eb) (m:=nb*2^j.eb) (src:=us) hpg.ok hpg.down (hy.prog hpg) ⟨by show d.rd+t≤_;omega,by show d.wr≤_;omega⟩ (r*2^j.eb) hul.symm (by omega) hfy (Nat.le_refl _) hcap hcell).use hs [7,5,6,1] rfl rfl ?_;rintro v M H (⟨hpg2,rfl,rfl⟩|⟨d',hd,hfu,rfl,rfl⟩) hs
  ·simp only[HV];rw[hul,hper,lZG]at hs;rw[hul,hper]at hpg2;have hpg3:=hpg.trans hpg2;rw[Nat.zero_add]at hpg3;subst hus;subst ht;exact⟨_,.inl ⟨hpg3,rfl,rfl⟩,hs.re [4,3,7,0,1,2,5,6] rfl⟩
  ·simp only[HV];rw[hper,lZG]at hs;rw[hul,hper]at hfu;subst hus;subst ht;refine⟨_,.inr ⟨d',hpg.dead hd,?_,rfl,rfl⟩,hs.re [7,0,1,2,6] rfl⟩;have h1:=hpg.fuse;have h2:=hpg.go;omega
 ·rw[rZO];exact hs.re [4,3,6,7,0,1,2,5] rfl
end
end Pas
namespace Trn
open Go Go.Hw Go.Crc Go.Form W Shp Str Dsk Are
theorem cZb.unique {r c per free:Int}{j j':Nat}(hr:1≤r)(h:cZb r c per free j)(h':cZb r c per free j'):j=j':=by
 have key:∀{a b:Nat},cZb r c per free a→cZb r c per free b→¬a<b:=fun{a b} ha hb hlt=>by
  have hp:2^(a+1)≤2^b:=aZF hlt;rw[Nat.pow_succ]at hp;have hz:=pow_pos a;have h1:=hb.le;have h2:=hb.fit;rcases ha.most with e|e
  ·omega
  ·have h3:2*((2^a:Nat):Int)≤((2^b:Nat):Int):=by omega
   have:=Int.mul_le_mul_of_nonneg_right h3 (show 0≤r by omega);omega
 have h1:=key h h';have h2:=key h' h;omega
theorem pZw (r c per free:Int)(hper: -9223372036854775808≤per∧per≤9223372036854775807)(hf:free≤9223372036854775807)(H:Hp)(hT:T64 H)(hg:dZA r c=true)(hp:bZ8 per=true)(h1:per≤free)(h2:r≤free-per){j:Nat}(hj:cZb r c per free j):
  Za prog 165 #[.agg #[.int .i64 r,.int .i64 c],.int .i64 per,.int .i64 free] H (RetE (.tuple #[.int .i64 ((2^j:Nat):Int),.bool true]) H):=
 (uZ8 r c per free hper hf H hT).mono fun v H' ⟨hq,e⟩=>by
  rcases hq with⟨h,_⟩|⟨_,j',hj',rfl⟩
  ·exact absurd ⟨hg,hp,h1,h2⟩ h
  ·obtain⟨ea,_,rfl,_⟩:=hZp hg;have:=pow_pos ea;rw[hj.unique (by omega) hj'];exact⟨rfl,e⟩
theorem cZb.ex {ea eb:Nat}{per free:Int}(hab:ea+eb≤32)(h:((2^ea:Nat):Int)≤free-per):∃ j,j≤eb∧cZb ((2^ea:Nat):Int) ((2^eb:Nat):Int) per free j:=by
 have key:∀ t j,j+t=eb→((2^j:Nat):Int)*((2^ea:Nat):Int)≤free-per→∃ j,j≤eb∧cZb ((2^ea:Nat):Int) ((2^eb:Nat):Int) per free j:=fun t=>by
  induction t with
  |zero=>intro j hj hf;exact⟨j,by omega,⟨by rw[show j=eb by omega];exact Int.le_refl _,hf,.inl (by rw[show j=eb by omega])⟩⟩
  |succ t ih=>
   intro j hj hf;by_cases hc:((2^(j+1):Nat):Int)*((2^ea:Nat):Int)≤free-per
   ·exact ih (j+1) (by omega) hc
   ·refine⟨j,by omega,⟨Int.ofNat_le.2 (aZF (by omega)),hf,.inr ?_⟩⟩;rw[show(2:Int)*((2^j:Nat):Int)=((2^(j+1):Nat):Int) by rw[Nat.pow_succ];omega];omega
 exact key eb 0 (by omega) (by rw[Nat.pow_zero];omega)
theorem cZb.ge {r:Int}{eb:Nat}{per free:Int}{j:Nat}(h:cZb r ((2^eb:Nat):Int) per free j):j≤eb:=by
 apply Nat.le_of_not_lt;intro hlt;have h1:=aZF (show eb+1≤j from hlt);rw[Nat.pow_succ]at h1;have:=h.le;have:=pow_pos eb;omega
section
variable {p q dp ap : Nat} {x y : X} {cap peak : Int} {bufs : List (Nat × Nat × Option Addr)} {TT : As}
theorem gZY {L:List As}{H:Hp}(hT:∀ H,TT H→T64 H)(hs:Sep L H)(i:Nat)(hi:L[i]? =some TT):T64 H:=by
 obtain⟨H1,h1,hle⟩:=hs.see i hi;exact(hT H1 h1).le hle
theorem div_pow {a b:Nat}(h:a≤b):2^b=2^b/2^a*2^a:=(Nat.div_mul_cancel (Nat.pow_dvd_pow 2 h)).symm
theorem nZ5 {d:D}{ea eb j:Nat}(hT:∀ H,TT H→T64 H)(hok:Ok d)(hl:d.down=false)(hx:On d x)(hy:On d y)(ho:d.rd≤2000000000000000000∧d.wr≤2000000000000000000)(hab:ea+eb≤32)(hxw:x.w=2^ea*2^eb)(hyw:y.w=2^ea*2^eb)(hdis:x.f+x.s≤y.f∨y.f+y.s≤x.f)
  (hper:bZ8 (D.per d:Int)=true) (hcap:cap≤1000000000000) (hsum:0≤ZE bufs) (hj:cZb ((2^ea:Nat):Int) ((2^eb:Nat):Int) (D.per d) (cap-ZE bufs) j):
  Tr prog 132 #[.pointer (some ⟨p,0,none⟩),.pointer (some ⟨q,0,none⟩),.agg #[.int .i64 ((2^ea:Nat):Int),.int .i64 ((2^eb:Nat):Int)],.pointer (some ⟨ap,0,none⟩),.int .i64 (D.per d:Int)]
   [pts p (ZI dp ap x),pts q (ZI dp ap y),Dk dp d,Ar ap cap peak bufs,TT] fun v M=>∃ M0,qZ7 p q dp ap d x y (2^ea) (2^eb) (2^j) cap peak bufs v M0∧M=M0++[TT]:=fun H hs=>by
 have hp:=Ok.per_le hok;have hg:=fZK hab;have hsz:=size_le hab;have hr1:=pow_pos ea;have hc1:=pow_pos eb;have hb1:=pow_pos j;have hjb:=hj.ge;have hfit:=hj.fit;rw[← Int.natCast_mul]at hfit;have hbr:1*2^ea≤2^j*2^ea:=Nat.mul_le_mul_right _ hb1;have hbsz:2^j*2^ea≤2^ea*2^eb:=by
  rw[Nat.mul_comm];exact Nat.mul_le_mul_left _ (aZF hjb)
 have hS:iZh ((2^ea:Nat):Int) ((2^eb:Nat):Int)=((2^ea*2^eb:Nat):Int):=by
  unfold iZh;rw[if_pos hg,Int.natCast_mul]
 apply bZd.ok;unfold bZd;refine hs.nw fun sb H hs=>aZc rfl (aZc rfl (aZc rfl ?_))
 first|refine hs.ldw 5 rfl rfl ?_
 try simp only[HV]
 refine ZQ.use (bZR _ _ H (gZY hT hs 4 rfl)) ?_;rw[hg];simp only[HV];refine ZQ.use (gZB hs 0 rfl) ?_;simp only[HV]
 first|refine hs.ldw 5 rfl rfl ?_
 try simp only[HV]
 refine ZQ.use (jZ3 _ _ H (gZY hT hs 4 rfl)) ?_;rw[hS];simp only[HV];refine Zq (by rw[hxw]) ?_;refine ZQ.use (gZB hs 1 rfl) ?_;simp only[HV]
 first|refine hs.ldw 5 rfl rfl ?_
 try simp only[HV]
 refine ZQ.use (jZ3 _ _ H (gZY hT hs 4 rfl)) ?_;rw[hS];simp only[HV];refine Zq (by rw[hyw]) ?_
 first|refine hs.ldw 5 rfl rfl ?_
 try simp only[HV]
 simp only[aZY,Addr.add_zero];refine ZQ.use (rZ2 hs 3 rfl) ?_;simp only[HV];refine ZQ.use (pZw _ _ _ _ ⟨by omega,by omega⟩ (by omega) H (gZY hT hs 4 rfl) hg hper (by omega) (by omega) hj) ?_;simp only[HV];refine hs.ld 5 (v:=.int .i64 ((2^ea:Nat):Int)) rfl rfl ?_;simp only[HV];rw[← Int.natCast_mul,aZJ (by omega)];refine(eZR (a:=ap) (cap:=cap) (peak:=peak) (bufs:=bufs) (n:=2^j*2^ea) (by omega) (by omega)).use hs [3] rfl rfl ?_;rintro _ _ H ⟨bn,bb,rfl,rfl⟩ hs;simp only[HV];refine Zq rfl ?_;have hbm:∀ z∈bufs,z.1≠bn:=fun z hz e=>by
  obtain⟨mp,cl,tk,hA⟩:=Sep.ar hs 0 rfl;have:=hA.bn;rw[List.map_append,List.nodup_append]at this;exact this.2.2 z.1 (List.mem_map_of_mem hz) bn (by simp) e
 refine hs.nw fun vb H hs=>?_
 refine hs.ldw 6 rfl rfl ?_;simp only[HV];refine hs.nw fun rn H hs=>?_
 refine⟨2^eb/2^j+1,?_⟩;have hz:bZj (2^j*2^ea)=Zc (List.replicate (2^j*2^ea) 0):=by
  unfold bZj;rw[bZw];unfold Zc;rw[List.map_replicate];rfl
 rw[hz]at hs;have hsb:ZE (bufs++[(bn,2^j*2^ea,some ⟨bb,0,none⟩)])=ZE bufs+((2^j*2^ea:Nat):Int):=by
  rw[fZj];simp[ZE]
 have hpk:mx (mx peak (ZE bufs+((2^j*2^ea:Nat):Int))) (ZE (bufs++[(bn,2^j*2^ea,some ⟨bb,0,none⟩)])+D.per d)=mx peak (ZE bufs+((2^j*2^ea:Nat):Int)+D.per d):=by
  rw[hsb];generalize((2^j*2^ea:Nat):Int)=n at*;unfold mx;by_cases h1:ZE bufs+n>peak
  ·rw[if_pos h1,if_pos (by omega),if_pos (by omega)]
  ·rw[if_neg h1]
 have out:∀{v:Value} {d':D} {H:Hp},(∀{M},M=[pts p (ZI dp ap x),pts q (ZI dp ap y),Dk dp d',Ar ap cap (mx peak (ZE bufs+((2^j*2^ea:Nat):Int)+D.per d)) bufs]→qZ7 p q dp ap d x y (2^ea) (2^eb) (2^j) cap peak bufs v M)→
   Sep [pts p (ZI dp ap x),pts q (ZI dp ap y),Dk dp d',Ar ap cap (mx (mx peak (ZE bufs+((2^j*2^ea:Nat):Int))) (ZE (bufs++[(bn,2^j*2^ea,some ⟨bb,0,none⟩)])+D.per d)) bufs,TT] H→∃ M,(∃ M0,qZ7 p q dp ap d x y (2^ea) (2^eb) (2^j) cap peak bufs v M0∧M=M0++[TT])∧Sep M H:=fun h hs=>by
  rw[hpk]at hs;exact⟨_,⟨_,h rfl,rfl⟩,hs⟩
 have hkk:=kZZ (p:=p) (q:=q) (dp:=dp) (ap:=ap) (rn:=rn) (bn:=bn) (bb:=bb) (sb:=sb) (vb:=vb) (x:=x) (y:=y) (cap:=cap) (peak:=mx peak (ZE bufs+((2^j*2^ea:Nat):Int))) (bufs:=bufs) (mb:=2^j*2^ea) (TT:=TT) (fun v H'=>∃ M,(∃ M0,qZ7 p q dp ap d x y (2^ea) (2^eb) (2^j) cap peak bufs v M0∧M=M0++[TT])∧Sep M H') hok hx hy ho hxw hyw hdis hb1 (div_pow hjb) hsz hr1 hc1 (by rw[hsb];omega) hbm rfl
  (fun d' H hI hs=>out (fun e=>.inl ⟨d',hI,rfl,e⟩) hs) (fun d' H hd hfu hs=>out (fun e=>.inr ⟨d',hd,hfu,rfl,e⟩) hs) (2^eb/2^j) 0 d _ (List.replicate (2^j*2^ea) 0) H (by omega)
  ⟨by simpa [rT,wT]using Prog.refl (inX y) hok hl,fun _ _=>rfl,fun k hk=>by simp at hk⟩ (by simp) rfl (.inl rfl)
 have e0:((0*2^j:Nat):Int)=0:=by rw[Nat.zero_mul];rfl
 rw[e0]at hkk;refine hkk ?_;have hs:=hs.re [6,8,1,2,3,4,0,7,5] rfl;unfold eZo;simp only[Nat.zero_mul,Nat.mul_zero,List.take_zero];exact hs
end
end Trn
namespace Pas
open Go Go.Hw Go.Crc Go.Form W Shp Gol Fft Ker Str Dsk Are Trn
structure dZg (ea q j:Nat):Prop where
 le:j≤ea
 fit:2^j+1≤q
 most:j=ea∨q<2*2^j+1
theorem dZg.unique {ea q j j':Nat}(h:dZg ea q j)(h':dZg ea q j'):j=j':=by
 have key:∀{a b:Nat},dZg ea q a→dZg ea q b→¬a<b:=fun{a b} ha hb hlt=>by
  have hp:2^(a+1)≤2^b:=aZF hlt;rw[Nat.pow_succ]at hp;have h1:=hb.le;have h2:=hb.fit;rcases ha.most with e|e
  ·omega
  ·omega
 have h1:=key h h';have h2:=key h' h;omega
theorem dZg.ex {ea q:Nat}(h:2≤q):∃ j,dZg ea q j:=by
 have key:∀ t j,j+t=ea→2^j+1≤q→∃ j,dZg ea q j:=fun t=>by
  induction t with
  |zero=>intro j hj hf;exact⟨j,by omega,hf,.inl (by omega)⟩
  |succ t ih=>
   intro j hj hf;by_cases hc:2^(j+1)+1≤q
   ·exact ih (j+1) (by omega) hc
   ·rw[Nat.pow_succ]at hc;exact⟨j,by omega,hf,.inr (by omega)⟩
 exact key ea 0 (by omega) (by rw[Nat.pow_zero];omega)
theorem oZL {a b:Nat}(h:2^a=2^b):a=b:=by
 rcases Nat.lt_trichotomy a b with h1|h1|h1
 ·have:=Nat.pow_lt_pow_right (show 1<2 by omega) h1;omega
 ·exact h1
 ·have:=Nat.pow_lt_pow_right (show 1<2 by omega) h1;omega
abbrev qZE (r c per free:Int):Prop:=dZA r c=true∧c≤1048576∧bZ8 per=true∧per≤free∧2*c≤free-per
def qZF (r c per free:Int)(v:Value):Prop:=
 (¬qZE r c per free∧v= .tuple #[.int .i64 0,.bool false])∨
 (qZE r c per free∧∃ ea eb j:Nat,r=((2^ea:Nat):Int)∧c=((2^eb:Nat):Int)∧ea+eb≤32∧dZg ea ((free-per).toNat/2^eb) j∧v= .tuple #[.int .i64 ((2^j:Nat):Int),.bool true])
theorem tZG {r c per free:Int}{ea eb f:Nat}(hr:r=((2^ea:Nat):Int))(hc:c=((2^eb:Nat):Int))(hab:ea+eb≤32)(hf:free-per=(f:Int))(hf2:f≤9223372036854775807)(hfr:free-per≤9223372036854775807)(K:VK)(b1:Nat){L:List As}(i:Nat)
  (hi:L[i]? =some (pts b1 (.obj (.cells #[.int .i64 r,.int .i64 c] 122)))) {H:Hp} (hs:Sep L H) (hK:∀ j,dZg ea (f/2^eb) j→K (.tuple #[.int .i64 ((2^j:Nat):Int),.bool true]) H):
  ∀(t j:Nat),j+t=ea→2^j+1≤f/2^eb→aZO.l4 K (t+1) per free ⟨b1,0,none⟩ ((2^j:Nat):Int) H:=by
 have hc1:=pow_pos eb;intro t
 induction t with
 |zero=>
  intro j hj hfit;have hp2:=aZF (show j≤32 by omega);have hp1:=pow_pos j;unfold aZO.l4;rw[show(⟨b1,0,none⟩:Addr).add 0=⟨b1,0,none⟩from rfl];refine hs.ld i hi rfl ?_;simp only[HV];rw[ZG (x:=2*((2^j:Nat):Int)) (by omega) (by omega)];refine Zh ?_ (hK j ⟨by omega,hfit,.inl (by omega)⟩);rw[hr,show ea=j by omega];omega
 |succ t ih=>
  intro j hj hfit;have hp2:=aZF (show j+1≤32 by omega);have hp3:=aZF (show j+1≤ea by omega);have hp1:=pow_pos j;rw[Nat.pow_succ]at hp2 hp3;unfold aZO.l4;rw[show(⟨b1,0,none⟩:Addr).add 0=⟨b1,0,none⟩from rfl];refine hs.ld i hi rfl ?_;simp only[HV];rw[ZG (x:=2*((2^j:Nat):Int)) (by omega) (by omega)];refine Zn (by rw[hr];omega) ?_;refine hs.ldf i hi rfl ?_;simp only[HV];refine⟨by rw[hc];omega,trivial,?_⟩;rw[ZG (x:=free-per) (by omega) hfr];rw[show Int.tdiv (free-per) c=((f/2^eb:Nat):Int) by rw[hf,hc];rfl];have hdl:f/2^eb≤f:=Nat.div_le_self _ _;rw[aZJ (by omega),ZG (x:=2*((2^j:Nat):Int)+1) (by omega) (by omega)];by_cases hc2:2*2^j+1≤f/2^eb
  ·refine Zn (by omega) ?_;rw[ZG (by omega) (by omega),show((2^j:Nat):Int)*2=((2^(j+1):Nat):Int) by rw[Nat.pow_succ];omega];exact ih (j+1) (by omega) (by rw[Nat.pow_succ];omega)
  ·exact Zh (by omega) (hK j ⟨by omega,hfit,.inr (by omega)⟩)
theorem tZl (r c per free:Int)(hper: -9223372036854775808≤per∧per≤9223372036854775807)(hf:free≤9223372036854775807)(H:Hp)(hT:T64 H):
  Za prog 166 #[.agg #[.int .i64 r,.int .i64 c],.int .i64 per,.int .i64 free] H fun v H'=>qZF r c per free v∧H'=H:=by
 refine Za.forget ?_;apply aZO.ok;unfold aZO;refine(Sep.start H).nw fun b1 H1 hs=>?_
 have out:∀{v:Value},qZF r c per free v→∃ H'',H''.le H1∧qZF r c per free v∧H''=H:=fun h=>⟨H,hs.ow 0 rfl,h,rfl⟩
 first|refine hs.ldw 1 rfl rfl ?_
 try simp only[HV]
 refine Za.use (bZR r c H1 (hT.le (hs.ow 0 rfl))) ?_;simp only[HV];cases hg:dZA r c with
 |false=>exact aZx rfl (out (.inl ⟨fun h=>(by have h1:=h.1;rw[hg]at h1;cases h1),rfl⟩))
 |true=>
  refine aZc rfl ?_;obtain⟨ea,eb,hr,hc,hab,_,_⟩:=hZp hg;have he1:=pow_pos ea;have he2:=pow_pos eb;have he3:=aZF (show ea≤32 by omega);have he4:=aZF (show eb≤32 by omega)
  first|refine hs.ldf 1 rfl rfl ?_|refine hs.ldg 1 rfl rfl ?_
  try simp only[HV]
  by_cases h0:c>1048576
  ·exact Zn h0 (out (.inl ⟨fun h=>(by have:=h.2.1;omega),rfl⟩))
  refine Zh h0 ?_;by_cases h1:per<4
  ·exact Zn h1 (out (.inl ⟨fun h=>(by have:=eZl h.2.2.1;omega),rfl⟩))
  refine Zh h1 ?_;by_cases h2:per>512
  ·exact Zn h2 (out (.inl ⟨fun h=>(by have:=eZl h.2.2.1;omega),rfl⟩))
  refine Zh h2 ?_;have hpb:=mZm (p:=per) (by omega) (by omega);cases hp:bZ8 per with
  |false=>exact ZA (fun h=>by rw[hpb.1 h]at hp;cases hp) (out (.inl ⟨fun h=>(by have h1:=h.2.2.1;rw[hp]at h1;cases h1),rfl⟩))
  |true=>
   refine Zq (hpb.2 hp) ?_;by_cases h3:free<per
   ·exact Zn h3 (out (.inl ⟨fun h=>(by omega),rfl⟩))
   refine Zh h3 ?_
   first|refine hs.ldf 1 rfl rfl ?_|refine hs.ldg 1 rfl rfl ?_
   try simp only[HV]
   rw[ZG (x:=free-per) (by omega) (by omega),ZG (x:=2*c) (by omega) (by omega)];by_cases h4:free-per<2*c
   ·exact Zn h4 (out (.inl ⟨fun h=>(by omega),rfl⟩))
   refine Zh h4 ?_;obtain⟨f,hfe⟩:=Int.eq_ofNat_of_zero_le (show 0≤free-per by omega);refine⟨ea+1,?_⟩;have h2q:2≤f/2^eb:=by rw[Nat.le_div_iff_mul_le (by omega)];omega
   exact tZG hr hc hab hfe (by omega) (by omega) (fun v H'=>∃ H'',H''.le H'∧qZF r c per free v∧H''=H) b1 1 rfl hs (fun j hj=>out (.inr ⟨⟨hg,by omega,hp,by omega,by omega⟩,ea,eb,j,hr,hc,hab,by rw[hfe,Int.toNat_natCast];exact hj,rfl⟩)) ea 0 (by omega) (by rw[Nat.pow_zero];omega)
theorem nZX {ea eb:Nat}(per free:Int)(hper: -9223372036854775808≤per∧per≤9223372036854775807)(hf:free≤9223372036854775807)(H:Hp)(hT:T64 H)(hab:ea+eb≤32)(h:qZE ((2^ea:Nat):Int) ((2^eb:Nat):Int) per free){j:Nat}(hj:dZg ea ((free-per).toNat/2^eb) j):
  Za prog 166 #[.agg #[.int .i64 ((2^ea:Nat):Int),.int .i64 ((2^eb:Nat):Int)],.int .i64 per,.int .i64 free] H (RetE (.tuple #[.int .i64 ((2^j:Nat):Int),.bool true]) H):=
 (tZl _ _ per free hper hf H hT).mono fun v H' ⟨hq,e⟩=>by
  rcases hq with⟨h',_⟩|⟨_,ea',eb',j',h1,h2,_,hj',rfl⟩
  ·exact absurd h h'
  ·have e1:ea=ea':=oZL (show 2^ea=2^ea' by omega);have e2:eb=eb':=oZL (show 2^eb=2^eb' by omega);subst e1 e2;rw[hj.unique hj'];exact⟨rfl,e⟩
def fZd (r c dir tw xw yw:Int):Int:=
 if dZA r c=true∧xw=r*c∧yw=r*c then(if dir<0∨dir>1 then 18 else if tw< -1∨tw>32 then 2 else 0)else 19
section
variable {L : List As} {H : Hp} {p q dp ap ap' : Nat} {x y : X}
theorem jZ4 (hs:Sep L H)(i:Nat)(hi:L[i]? =some (pts p (ZI dp ap x)))(k:Nat)(hk:L[k]? =some (pts q (ZI dp ap y)))(hT:T64 H)(r c dir tw sh:Int):
  Za prog 171 #[.pointer (some ⟨p,0,none⟩),.pointer (some ⟨q,0,none⟩),.agg #[.int .i64 r,.int .i64 c,.int .i64 dir,.int .i64 tw,.int .u64 sh],.pointer (some ⟨ap',0,none⟩)] H (RetE (.int .i64 (fZd r c dir tw x.w y.w)) H):=Za.ret (by
 have hp1:=hs.get i hi;have hq1:=hs.get k hk;apply fZU.ok;unfold fZU;refine(Sep.start H).nw fun b1 H1 hs=>?_
 have hs:Sep [own H,pts b1 (.obj (.cells #[.int .i64 r,.int .i64 c,.int .i64 dir,.int .i64 tw,.int .u64 sh] 124))] H1:=hs;have hle:=hs.ow 0 rfl;have out:∀{v:Value},v= .int .i64 (fZd r c dir tw x.w y.w)→Ret (.int .i64 (fZd r c dir tw x.w y.w)) H v H1:=fun h=>⟨h,hle⟩
 have hw:∀{b:Nat} {z:X},H b=some (ZI dp ap z)→Za prog 89 #[.pointer (some ⟨b,0,none⟩)] H1 (RetE (.int .i64 (z.w:Int)) H1):=fun{b z} hb=>by
  have hsP:Sep [pts b (ZI dp ap z)] H1:=⟨H1,fun _=>none,Hp.le_refl _,fun _ _ h=>(nomatch h),fun _=>.inr rfl,hle _ _ hb,trivial⟩;exact gZB hsP 0 rfl
 refine aZc rfl (aZc rfl (aZc rfl ?_));simp only[Addr.add_zero];refine hs.lda 1 rfl (show 0+2≤5 by omega) ?_;refine ZQ.use (bZR r c H1 (hT.le hle)) ?_;simp only[HV];cases hg:dZA r c with
 |false=>
  refine aZx rfl (out ?_);unfold fZd;rw[if_neg (fun h=>by rw[hg]at h;cases h.1)]
 |true=>
  refine aZc rfl ?_;refine ZQ.use (hw hp1) ?_;simp only[HV];refine hs.lda 1 rfl (show 0+2≤5 by omega) ?_;refine ZQ.use (jZ3 r c H1 (hT.le hle)) ?_;rw[show iZh r c=r*c by unfold iZh;rw[if_pos hg]];simp only[HV];by_cases h1:(x.w:Int)=r*c
  case neg=>
   refine ZA h1 (out ?_);unfold fZd;rw[if_neg (fun h=>h1 h.2.1)]
  refine Zq h1 ?_;refine ZQ.use (hw hq1) ?_;simp only[HV];refine hs.lda 1 rfl (show 0+2≤5 by omega) ?_;refine ZQ.use (jZ3 r c H1 (hT.le hle)) ?_;rw[show iZh r c=r*c by unfold iZh;rw[if_pos hg]];simp only[HV];by_cases h2:(y.w:Int)=r*c
  case neg=>
   refine ZA h2 (out ?_);unfold fZd;rw[if_neg (fun h=>h2 h.2.2)]
  refine Zq h2 ?_;have hc:fZd r c dir tw x.w y.w=if dir<0∨dir>1 then 18 else if tw< -1∨tw>32 then 2 else 0:=by
   unfold fZd;rw[if_pos ⟨hg,h1,h2⟩]
  refine hs.ldf 1 rfl rfl ?_;simp only[HV];by_cases h3:dir<0
  ·exact Zn h3 (out (by rw[hc,if_pos (.inl h3)]))
  refine Zh h3 ?_;refine hs.ldf 1 rfl rfl ?_;simp only[HV];by_cases h4:dir>1
  ·exact Zn h4 (out (by rw[hc,if_pos (.inr h4)]))
  refine Zh h4 ?_;refine hs.ldf 1 rfl rfl ?_;simp only[HV];by_cases h5:tw< -1
  ·exact Zn h5 (out (by rw[hc,if_neg (by omega),if_pos (.inl h5)]))
  refine Zh h5 ?_;refine hs.ldf 1 rfl rfl ?_;simp only[HV];by_cases h6:tw>32
  ·exact Zn h6 (out (by rw[hc,if_neg (by omega),if_pos (.inr h6)]))
  refine Zh h6 (out (by rw[hc,if_neg (by omega),if_neg (by omega)])))
end
theorem wZD (k:Nat)(hk:k<64)(H:Hp)(hT:T64 H):Za prog 173 #[.int .u64 ((2^k:Nat):Int)] H (RetE (.int .i64 (k:Int)) H):=by
 apply cZd.ok;unfold cZd;refine Za.use (uZM k hk H hT) ?_;simp only[HV];exact RetE.mk _ _
def cZE (j:J)(d:D)(x:X)(m:Nat):List UInt64:=(List.range m).flatMap fun q=>dZ1 j q (pws d x (q*2^j.eb) (2^j.eb))
theorem jZI (j:J)(d:D)(x:X):∀ m,(cZE j d x m).length=m*2^j.eb
 |0=>by simp[cZE]
 |m+1=>by
  unfold cZE;rw[List.range_succ,List.flatMap_append,List.length_append];have:=jZI j d x m;unfold cZE at this;rw[this,Nat.succ_mul];simp[hZS]
theorem oZP {d:D}{x:X}{fr n a c:Nat}(h:a+c≤n):((pws d x fr n).drop a).take c=pws d x (fr+a) c:=by
 apply List.ext_getElem?;intro i;rw[List.getElem?_take];by_cases hi:i<c
 ·rw[if_pos hi,List.getElem?_drop,kZb (by omega),kZb hi,Nat.add_assoc]
 ·rw[if_neg hi,List.getElem?_eq_none (by rw[dZZ];omega)]
theorem wZ5 {d d':D}{x:X}{fr n:Nat}(h:∀ k,fr≤k→k<fr+n→pw d' x k=pw d x k):pws d' x fr n=pws d x fr n:=by
 unfold pws;apply List.map_congr_left;intro k hk;have:=List.mem_range.1 hk;exact h _ (by omega) (by omega)
theorem sZL {j:J}{d d':D}{x:X}(a b:Nat)(h:∀ k,k<x.w→pw d' x k=pw d x k)(hw:(a+b)*2^j.eb≤x.w):
  cZE j d x (a+b)=cZE j d x a++fZa j a (pws d' x (a*2^j.eb) (b*2^j.eb)) b:=by
 unfold cZE fZa;rw[List.range_add,List.flatMap_append,List.flatMap_map];congr 1;have:∀(l:List Nat),(∀ q,q∈l→q<b)→l.flatMap (fun q=>dZ1 j (a+q) (pws d x ((a+q)*2^j.eb) (2^j.eb)))=l.flatMap fun q=>dZ1 j (a+q) (((pws d' x (a*2^j.eb) (b*2^j.eb)).drop (q*2^j.eb)).take (2^j.eb)):=fun l=>by
  induction l with
  |nil=>intro _;rfl
  |cons q l ih=>
   intro hq;have hqb:=hq q (by simp);have h1:(q+1)*2^j.eb≤b*2^j.eb:=Nat.mul_le_mul_right _ (by omega);have h2:(a+q+1)*2^j.eb≤(a+b)*2^j.eb:=Nat.mul_le_mul_right _ (by omega);rw[Nat.succ_mul]at h1 h2;rw[List.flatMap_cons,List.flatMap_cons,ih fun q' h'=>hq q' (by simp[h']),oZP h1,←Nat.add_mul,wZ5 (d:=d) (d':=d') (fr:=(a+q)*2^j.eb) (n:=2^j.eb) fun k h3 h4=>h k (by omega)]
 exact this _ fun q hq=>List.mem_range.1 hq
def rP (per f f' n m:Nat):Nat:=((List.range m).map fun i=>(pcs per f n (i*n) n).length+cZS per f' n (i*n) n).sum
def wP (per f' n m:Nat):Nat:=((List.range m).map fun i=>(pcs per f' n (i*n) n).length).sum
theorem kZc (per f f' n m:Nat):rP per f f' n (m+1)=rP per f f' n m+((pcs per f n (m*n) n).length+cZS per f' n (m*n) n):=by
 unfold rP;rw[List.range_succ,List.map_append,List.sum_append];simp
theorem kZi (per f' n m:Nat):wP per f' n (m+1)=wP per f' n m+(pcs per f' n (m*n) n).length:=by
 unfold wP;rw[List.range_succ,List.map_append,List.sum_append];simp
theorem vZR (per f f' n:Nat){i j:Nat}(h:i≤j):rP per f f' n i≤rP per f f' n j:=by
 induction h with
 |refl=>exact Nat.le_refl _
 |step h ih=>rw[kZc];omega
theorem wZf (per f' n:Nat){i j:Nat}(h:i≤j):wP per f' n i≤wP per f' n j:=by
 induction h with
 |refl=>exact Nat.le_refl _
 |step h ih=>rw[kZi];omega
theorem qZ2 (per f f' n:Nat):∀ m,rP per f f' n m≤m*(2*n)
 |0=>by simp[rP]
 |m+1=>by
  rw[kZc,Nat.succ_mul];have h1:=qZ2 per f f' n m;have h2:=dZo per f n (m*n) n;have h3:=dZo per f' n (m*n) n;have h4:cZS per f' n (m*n) n≤(pcs per f' n (m*n) n).length:=List.length_filter_le _ _;omega
theorem rZl (per f' n:Nat):∀ m,wP per f' n m≤m*n
 |0=>by simp[wP]
 |m+1=>by
  rw[kZi,Nat.succ_mul];have h1:=rZl per f' n m;have h3:=dZo per f' n (m*n) n;omega
structure qZA (d d':D)(x y:X)(j:J)(b m:Nat):Prop where
 pg:Prog (inX y) d d' (rP (D.per d) x.f y.f (b*2^j.eb) m) (wP (D.per d) y.f (b*2^j.eb) m)
 src:∀ k,k<x.w→pw d' x k=pw d x k
 dst:∀ k,k<m*b*2^j.eb→pw d' y k=((cZE j d x (m*b))[k]?).getD 0
def nZP (p q dp ap:Nat)(d:D)(x y:X)(j:J)(b:Nat)(cap peak:Int)(bufs:List (Nat×Nat×OA))(v:Value)(M:List As):Prop:=
 (∃ d',qZA d d' x y j b (2^j.ea/b)∧v= .tuple #[.int .u32 ((sum (form (cZE j d x (2^j.ea)))).toNat:Int),.int .i64 0]∧
  M=[pts p (ZI dp ap x),pts q (ZI dp ap y),Dk dp d',Ar ap cap (mx peak (ZE bufs+(b*2^j.eb:Nat)+(2^j.eb:Nat)+D.per d)) bufs])∨
 (∃ d',cZr (inX y) d d'∧d.fuse≤rP (D.per d) x.f y.f (b*2^j.eb) (2^j.ea/b)+wP (D.per d) y.f (b*2^j.eb) (2^j.ea/b)∧v= .tuple #[.int .u32 0,.int .i64 8]∧
  M=[pts p (ZI dp ap x),pts q (ZI dp ap y),Dk dp d',Ar ap cap (mx peak (ZE bufs+(b*2^j.eb:Nat)+(2^j.eb:Nat)+D.per d)) bufs])
section
variable {p q dp ap rn bn bb bn2 bb2 sb v2 v3 kp : Nat} {x y : X} {cap peak : Int} {bufs : List (Nat × Nat × Option Addr)} {TT : As} {j : J} {mb : Nat}
def bZ0 (bufs:List (Nat×Nat×OA))(bn n bb:Nat):List (Nat×Nat×OA):=bufs++[(bn,n,some ⟨bb,0,none⟩)]
def nZO (rn p q dp ap bn bb bn2 bb2 sb v2 v3 kp:Nat)(d0 d':D)(x y:X)(j:J)(b m:Nat)(cap pk:Int)(bufs:List (Nat×Nat×OA))(ws:List UInt64)(mb:Nat)(TT:As):List As:=
 [pts sb (.obj (.cells j.a 124)),pts rn (cZa (sum (form (cZE j d0 x (m*b)))) (8*(m*b*2^j.eb)) j kp),pts bb (.row (Zc ws) 82 mb),
  pts p (ZI dp ap x),pts q (ZI dp ap y),Dk dp d',Ar ap cap pk (bZ0 (bZ0 bufs bn (b*2^j.eb) bb) bn2 (2^j.eb) bb2),pts v2 (.row [.pointer (some ⟨bn,0,none⟩)] 195 1),pts v3 (.row [.pointer (some ⟨bn2,0,none⟩)] 195 1),Kn kp j.eb,TT]
set_option maxHeartbeats 1000000 in
theorem kZZ (K:VK){d:D}{b:Nat}(hT:∀ H,TT H→T64 H)(hok:Ok d)(hx:On d x)(hy:On d y)(ho:d.rd≤2000000000000000000∧d.wr≤2000000000000000000)(hab:j.ea+j.eb≤32)(hb20:j.eb≤20)(htw:j.tw≤32)(hxw:x.w=2^j.ea*2^j.eb)(hyw:y.w=2^j.ea*2^j.eb)(hdis:x.f+x.s≤y.f∨y.f+y.s≤x.f)(hb1:1≤b)(hbd:2^j.ea=2^j.ea/b*b)
  (hcap:(D.per d:Int)≤cap-ZE (bZ0 (bZ0 bufs bn (b*2^j.eb) bb) bn2 (2^j.eb) bb2)) (hbm:∀ z∈bufs,z.1≠bn) (hbm2:∀ z∈bZ0 bufs bn (b*2^j.eb) bb,z.1≠bn2)
  {P1:Int} (hP1:P1=mx peak (ZE (bZ0 (bZ0 bufs bn (b*2^j.eb) bb) bn2 (2^j.eb) bb2)+D.per d))
  (hK:∀ d' H,qZA d d' x y j b (2^j.ea/b)→Sep [pts p (ZI dp ap x),pts q (ZI dp ap y),Dk dp d',Ar ap cap P1 bufs,TT] H→K (.tuple #[.int .u32 ((sum (form (cZE j d x (2^j.ea)))).toNat:Int),.int .i64 0]) H)
  (hK8:∀ d' H,cZr (inX y) d d'→d.fuse≤rP (D.per d) x.f y.f (b*2^j.eb) (2^j.ea/b)+wP (D.per d) y.f (b*2^j.eb) (2^j.ea/b)→Sep [pts p (ZI dp ap x),pts q (ZI dp ap y),Dk dp d',Ar ap cap P1 bufs,TT] H→K (.tuple #[.int .u32 0,.int .i64 8]) H):
  ∀(t m:Nat) (z:Int) (d':D) (pk:Int) (ws:List UInt64) (H:Hp),z=((m*b:Nat):Int)→m+t=2^j.ea/b→qZA d d' x y j b m→ws.length=b*2^j.eb→mx pk (ZE (bZ0 (bZ0 bufs bn (b*2^j.eb) bb) bn2 (2^j.eb) bb2)+D.per d)=P1→(m=0∨pk=P1)→Sep (nZO rn p q dp ap bn bb bn2 bb2 sb v2 v3 kp d d' x y j b m cap pk bufs ws mb TT) H→
   aZl.l17 K (t+1) (some ⟨p,0,none⟩) (some ⟨q,0,none⟩) ⟨sb,0,none⟩ (b:Int) (some ⟨bn,0,none⟩) ⟨rn,0,none⟩ z (some ⟨ap,0,none⟩) (some ⟨v3,0,none⟩) 1 1 (some ⟨ap,0,none⟩) (some ⟨v2,0,none⟩) 1 1 H:=fun t=>by
 have hp:=Ok.per_le hok;have hsz:=size_le hab;have hr1:=pow_pos j.ea;have hc1:=pow_pos j.eb;have hnb:2^j.ea/b≤2^j.ea:=Nat.div_le_self _ _;have hn1:1≤2^j.ea/b:=by
  have:2^j.ea/b≠0:=fun h0=>by rw[h0,Nat.zero_mul]at hbd;omega
  exact Nat.pos_of_ne_zero this
 have hcc:2^j.ea/b*(b*2^j.eb)=2^j.ea*2^j.eb:=by rw[← Nat.mul_assoc,←hbd]
 have hbr:b*2^j.eb≤2^j.ea*2^j.eb:=by rw[← hcc];exact Nat.le_mul_of_pos_left _ hn1
 have hbb:b≤2^j.ea:=by
  have:1*b≤2^j.ea/b*b:=Nat.mul_le_mul_right b hn1;omega
 have hbc1:1*2^j.eb≤b*2^j.eb:=Nat.mul_le_mul_right _ hb1;have hr32:=aZF (show j.ea≤32 by omega);have cnt:∀ m,m≤2^j.ea/b→m*(2*(b*2^j.eb))≤2*(2^j.ea*2^j.eb)∧m*(b*2^j.eb)≤2^j.ea*2^j.eb:=fun m hm=>by
  have:m*(b*2^j.eb)≤2^j.ea*2^j.eb:=by rw[← hcc];exact Nat.mul_le_mul_right _ hm
  refine⟨?_,this⟩;rw[Nat.mul_left_comm];omega
 have gives:∀{d':D} {H:Hp} {K':Hp→Prop},Sep [Ar ap cap P1 (bZ0 (bZ0 bufs bn (b*2^j.eb) bb) bn2 (2^j.eb) bb2),pts v3 (.row [.pointer (some ⟨bn2,0,none⟩)] 195 1),pts v2 (.row [.pointer (some ⟨bn,0,none⟩)] 195 1),pts p (ZI dp ap x),pts q (ZI dp ap y),Dk dp d',TT] H→
   (∀ H,Sep [pts p (ZI dp ap x),pts q (ZI dp ap y),Dk dp d',Ar ap cap P1 bufs,TT] H→K' H)→
   aZU prog 117 #[.pointer (some ⟨ap,0,none⟩),.slice (some ⟨v3,0,none⟩) 1 1] H fun _ H=>aZU prog 117 #[.pointer (some ⟨ap,0,none⟩),.slice (some ⟨v2,0,none⟩) 1 1] H fun _ H=>K' H:=fun hs k=>by
  refine(cZo v3 bn2 (2^j.eb) (some ⟨bb2,0,none⟩) hbm2).use hs [0,1] rfl rfl ?_;rintro _ _ H ⟨rfl,rfl⟩ hs;refine(cZo v2 bn (b*2^j.eb) (some ⟨bb,0,none⟩) hbm).use hs [0,1] rfl rfl ?_;rintro _ _ H ⟨rfl,rfl⟩ hs;exact k H (hs.re [1,2,3,0,4] rfl)
 induction t with
 |zero=>
  rintro m _ d' pk ws H rfl hm hI hws hpk hip hs;have hme:m=2^j.ea/b:=by omega
  subst hme;unfold nZO at hs;unfold aZl.l17;rw[show((⟨sb,0,none⟩:Addr).add 0).add 0=⟨sb,0,none⟩from rfl];refine hs.ld 0 rfl rfl ?_;simp only[HV];rw[← hbd];refine Zh (Int.lt_irrefl _) ?_;rw[Addr.add_zero];refine Za.use (CrcP.pZy hs 1 rfl) ?_
  try simp only[HV]
  rw[← hbd];rw[hip.resolve_left (by omega)]at hs;exact gives (hs.re [6,8,7,3,4,5,10] rfl) fun H hs=>hK d' H hI hs
 |succ t ih=>
  rintro m _ d' pk ws H rfl hm hI hws hpk hip hs;have hmlt:m<2^j.ea/b:=by omega
  have hmb:(m+1)*b≤2^j.ea:=by
   have h1:(m+1)*b≤2^j.ea/b*b:=Nat.mul_le_mul_right b hmlt;omega
  have hmb':=hmb;rw[Nat.succ_mul]at hmb';have hper:D.per d'=D.per d:=hI.pg.per;have hxd:=hx.prog hI.pg;have hyd:=hy.prog hI.pg;have hrt:=qZ2 (D.per d) x.f y.f (b*2^j.eb) m;have hwt:=rZl (D.per d) y.f (b*2^j.eb) m;have hcnt:=cnt m (by omega);have hrd:=hI.pg.rd;have hwr:=hI.pg.wr;have hmr:(m*b+b)*2^j.eb≤2^j.ea*2^j.eb:=Nat.mul_le_mul_right _ hmb';have hmr':=hmr;rw[Nat.add_mul]at hmr;unfold nZO at hs;unfold aZl.l17;rw[show((⟨sb,0,none⟩:Addr).add 0).add 0=⟨sb,0,none⟩from rfl];refine hs.ld 0 rfl rfl ?_;simp only[HV];refine Zn (by omega) ?_;refine Za.use (eZu hs 6 rfl (b:=bn) (n:=b*2^j.eb) (A:=some ⟨bb,0,none⟩) (by simp[bZ0])) ?_
  try simp only[HV]
  refine(tZH (rn:=rn) (p:=p) (q:=q) (dp:=dp) (ap:=ap) (kp:=kp) (bb:=bb) (mb:=mb) (s:=sum (form (cZE j d x (m*b)))) (sk:=8*(m*b*2^j.eb)) (j:=j) (x:=x) (y:=y) (cap:=cap) (peak:=pk) (bufs:=bZ0 (bZ0 bufs bn (b*2^j.eb) bb) bn2 (2^j.eb) bb2) (d:=d') (r:=m*b) (nb:=b) hT hI.pg.ok hI.pg.down hxd hyd (by omega) hb20 htw hb1 (by omega) (by omega) (by rw[hxw];exact hmr) (by rw[hyw];exact hmr) (by omega) (by omega) (by rw[hper];exact hcap) ws hws).use hs [1,2,3,4,5,6,9,10] rfl rfl ?_;rintro v M H hQ hs;unfold wZJ at hQ;rw[hper]at hQ;simp only at hQ;have hPP:mx P1 (ZE (bZ0 (bZ0 bufs bn (b*2^j.eb) bb) bn2 (2^j.eb) bb2)+D.per d)=P1:=by rw[hP1,lZG]
  have hma:m*(b*2^j.eb)=m*b*2^j.eb:=(Nat.mul_assoc _ _ _).symm;have hrs:=kZc (D.per d) x.f y.f (b*2^j.eb) m;have hws':=kZi (D.per d) y.f (b*2^j.eb) m;rw[hma]at hrs hws';rcases hQ with⟨hpg2,rfl,rfl⟩|⟨d2,hdd,hfu,rfl,rfl⟩
  case inr=>
   simp only[HV];refine ZA (by decide) ?_;rw[hpk]at hs;refine gives (hs.re [3,7,6,0,1,2,4] rfl) fun H hs=>hK8 d2 H (hI.pg.dead hdd) ?_ hs
   have z1:=hI.pg.fuse;have z2:=hI.pg.go;have z3:=vZR (D.per d) x.f y.f (b*2^j.eb) (show m+1≤2^j.ea/b by omega);have z4:=wZf (D.per d) y.f (b*2^j.eb) (show m+1≤2^j.ea/b by omega);omega
  simp only[HV];refine Zq rfl ?_;generalize ht0:(pcs (D.per d) x.f (b*2^j.eb) (m*b*2^j.eb) (b*2^j.eb)).length=t0 at*;have hok1:Ok (D.rdG d' t0):=Ok.rdG hI.pg.ok t0;have hU:=sZL (j:=j) (d:=d) (d':=d') (x:=x) (m*b) b hI.src (by rw[hxw];exact hmr');have hul:(fZa j (m*b) (pws d' x (m*b*2^j.eb) (b*2^j.eb)) b).length=b*2^j.eb:=hZJ _ _ _ _;generalize hus:fZa j (m*b) (pws d' x (m*b*2^j.eb) (b*2^j.eb)) b=us at*;have hpw:=fun k=>mZw y hok1 (m*b*2^j.eb) us k
  rw[hul]at hpw;have hpg3:=hI.pg.trans hpg2;rw[← hrs,←hws']at hpg3;have htk:m*b+b=(m+1)*b:=(Nat.succ_mul m b).symm;rw[htk]at hU;have hUl:=jZI j d x (m*b);have hI2:qZA d (dZ3 (D.rdG d' t0) y (b*2^j.eb) (m*b*2^j.eb) us) x y j b (m+1):=by
   refine⟨hpg3,fun k hk=>hpg3.pw hok hx (fun i hi=>?_) hk,fun k hk=>?_⟩
   ·unfold inX at hi;omega
   ·rw[hpw k];have hk2:k<m*b*2^j.eb+b*2^j.eb:=by
     rw[← htk,Nat.add_mul]at hk;exact hk
    rw[hU];by_cases h1:m*b*2^j.eb≤k
    ·rw[if_pos ⟨h1,hk2⟩,List.getElem?_append_right (by omega),hUl]
    ·rw[if_neg (by omega),List.getElem?_append_left (by omega)];exact hI.dst k (by omega)
  have hcs:more (sum (form (cZE j d x (m*b)))) (form us)=sum (form (cZE j d x ((m+1)*b))):=by
   rw[hU,iZo];unfold sum;rw[more_append]
  have hsk:8*(m*b*2^j.eb)+8*(b*2^j.eb)=8*((m+1)*b*2^j.eb):=by rw[← htk,Nat.add_mul];omega
  rw[hcs,hsk,hpk]at hs;refine ih (m+1) _ _ P1 us H ?_ (by omega) hI2 hul hPP (.inr rfl) ?_
  ·rw[← Int.natCast_add,htk,aZJ (by omega)]
  ·exact hs.re [8,0,1,2,3,4,5,9,10,6,7] rfl
end
theorem mx3 (p a b c:Int)(h1:a≤b)(h2:b≤c):mx (mx (mx p a) b) c=mx p c:=by
 have key:∀ p a b:Int,a≤b→mx (mx p a) b=mx p b:=fun p a b h=>by
  unfold mx;by_cases h1:a>p
  ·rw[if_pos h1];by_cases h2:b>a
   ·rw[if_pos h2,if_pos (by omega)]
   ·rw[if_neg h2,if_pos (by omega)];omega
  ·rw[if_neg h1]
 rw[key p a b h1,key p b c h2]
section
variable {p q dp ap : Nat} {x y : X} {cap peak : Int} {bufs : List (Nat × Nat × Option Addr)} {L : List As} {H : Hp} {TT : As} {j : J}
theorem qZH (hab:j.ea+j.eb≤32)(htw: -1≤j.tw∧j.tw≤32)(hxw:x.w=2^j.ea*2^j.eb)(hyw:y.w=2^j.ea*2^j.eb):fZd ((2^j.ea:Nat):Int) ((2^j.eb:Nat):Int) (if j.d=true then 1 else 0) j.tw x.w y.w=0:=by
 unfold fZd;rw[if_pos ⟨fZK hab,by rw[hxw,Int.natCast_mul],by rw[hyw,Int.natCast_mul]⟩,if_neg (by cases j.d<;>decide),if_neg (by omega)]
set_option maxHeartbeats 1000000 in
theorem nZ5 {d:D}{jb:Nat}(hT:∀ H,TT H→T64 H)(hok:Ok d)(hl:d.down=false)(hx:On d x)(hy:On d y)(ho:d.rd≤2000000000000000000∧d.wr≤2000000000000000000)(hab:j.ea+j.eb≤32)(hb20:j.eb≤20)(htw: -1≤j.tw∧j.tw≤32)(hxw:x.w=2^j.ea*2^j.eb)(hyw:y.w=2^j.ea*2^j.eb)(hdis:x.f+x.s≤y.f∨y.f+y.s≤x.f)
  (hper:bZ8 (D.per d:Int)=true) (hcap:cap≤1000000000000) (hsum:0≤ZE bufs) (hfr:(D.per d:Int)+2*(2^j.eb:Nat)≤cap-ZE bufs) (hj:dZg j.ea ((cap-ZE bufs-D.per d).toNat/2^j.eb) jb):
  Tr prog 133 #[.pointer (some ⟨p,0,none⟩),.pointer (some ⟨q,0,none⟩),.agg j.a,.pointer (some ⟨ap,0,none⟩),.int .i64 (D.per d:Int)]
   [pts p (ZI dp ap x),pts q (ZI dp ap y),Dk dp d,Ar ap cap peak bufs,TT] fun v M=>∃ M0,nZP p q dp ap d x y j (2^jb) cap peak bufs v M0∧M=M0++[TT]:=fun H hs=>by
 have hp:=Ok.per_le hok;have hsz:=size_le hab;have hr1:=pow_pos j.ea;have hc1:=pow_pos j.eb;have hc20:=aZF hb20;have hb1:=pow_pos jb;have hjb:=hj.le;have hfit:=hj.fit;have hbsz:2^jb*2^j.eb≤2^j.ea*2^j.eb:=Nat.mul_le_mul_right _ (aZF hjb);have hbc:1*2^j.eb≤2^jb*2^j.eb:=Nat.mul_le_mul_right _ hb1;have hroom:2^jb*2^j.eb+2^j.eb≤(cap-ZE bufs-D.per d).toNat:=by
  rw[Nat.le_div_iff_mul_le (by omega),Nat.add_mul,Nat.one_mul]at hfit;exact hfit
 have hroom':((2^jb*2^j.eb:Nat):Int)+((2^j.eb:Nat):Int)≤cap-ZE bufs-D.per d:=by omega
 apply aZl.ok;unfold aZl aZl.q1;refine hs.nw fun sb H hs=>?_
 have hs:Sep [pts p (ZI dp ap x),pts q (ZI dp ap y),Dk dp d,Ar ap cap peak bufs,TT,pts sb (.obj (.cells j.a 124))] H:=hs;refine hs.ldw 5 rfl rfl ?_;refine Za.use (jZ4 (ap':=ap) hs 0 rfl 1 rfl (gZY hT hs 4 rfl) _ _ _ _ _) ?_;rw[qZH hab htw hxw hyw];simp only[HV];refine Zq rfl ?_;simp only[Addr.add_zero];refine hs.lda 5 rfl (show 0+2≤5 by omega) ?_;refine ZQ.use (rZ2 hs 3 rfl) ?_;simp only[HV];refine ZQ.use (nZX (ea:=j.ea) (eb:=j.eb) (D.per d) (cap-ZE bufs) ⟨by omega,by omega⟩ (by omega) H (gZY hT hs 4 rfl) hab ⟨fZK hab,by omega,hper,by omega,by omega⟩ hj) ?_;simp only[HV];refine hs.ldf 5 rfl rfl ?_;simp only[HV];rw[← Int.natCast_mul,aZJ (by omega)];refine(eZR (a:=ap) (cap:=cap) (peak:=peak) (bufs:=bufs) (n:=2^jb*2^j.eb) (by omega) (by omega)).use hs [3] rfl rfl ?_;rintro _ _ H ⟨bn,bb,rfl,rfl⟩ hs;simp only[HV];refine Zq rfl ?_;have fresh:∀{L:List As} {H:Hp} {bufs:List (Nat×Nat×OA)} {pk:Int} (b n rb:Nat),Sep L H→L[0]? =some (Ar ap cap pk (bufs++[(b,n,some ⟨rb,0,none⟩)]))→∀ z∈bufs,z.1≠b:=fun{L H bufs pk} b n rb hs h0 z hz e=>by
  obtain⟨mp,cl,tk,hA⟩:=Sep.ar hs 0 h0;have:=hA.bn;rw[List.map_append,List.nodup_append]at this;exact this.2.2 z.1 (List.mem_map_of_mem hz) b (by simp) e
 have hbm:∀ z∈bufs,z.1≠bn:=fresh bn _ bb hs rfl;refine hs.nw fun v2 H hs=>?_
 refine hs.ldf 6 rfl rfl ?_;simp only[HV];have hsb1:ZE (bufs++[(bn,2^jb*2^j.eb,some ⟨bb,0,none⟩)])=ZE bufs+((2^jb*2^j.eb:Nat):Int):=by
  rw[fZj];simp[ZE]
 refine(eZR (a:=ap) (cap:=cap) (bufs:=bufs++[(bn,2^jb*2^j.eb,some ⟨bb,0,none⟩)]) (n:=2^j.eb) (by omega) (by omega)).use hs [0] rfl rfl ?_;rintro _ _ H ⟨bn2,bb2,rfl,rfl⟩ hs;simp only[HV];refine Zq rfl ?_;have hbm2:∀ z∈bZ0 bufs bn (2^jb*2^j.eb) bb,z.1≠bn2:=fresh bn2 _ bb2 hs rfl;refine hs.nw fun v3 H hs=>?_
 have hsb2:ZE (bZ0 (bZ0 bufs bn (2^jb*2^j.eb) bb) bn2 (2^j.eb) bb2)=ZE bufs+((2^jb*2^j.eb:Nat):Int)+((2^j.eb:Nat):Int):=by
  unfold bZ0;rw[fZj,hsb1];simp[ZE]
  -- what is known from here on
 have hpk:mx (mx (mx peak (ZE bufs+((2^jb*2^j.eb:Nat):Int))) (ZE bufs+((2^jb*2^j.eb:Nat):Int)+((2^j.eb:Nat):Int))) (ZE (bZ0 (bZ0 bufs bn (2^jb*2^j.eb) bb) bn2 (2^j.eb) bb2)+D.per d)=mx peak (ZE bufs+((2^jb*2^j.eb:Nat):Int)+((2^j.eb:Nat):Int)+D.per d):=by
  rw[hsb2];exact mx3 _ _ _ _ (by omega) (by omega)
 rw[hsb1]at hs;have hs:Sep [Ar ap cap (mx (mx peak (ZE bufs+((2^jb*2^j.eb:Nat):Int))) (ZE bufs+((2^jb*2^j.eb:Nat):Int)+((2^j.eb:Nat):Int))) (bZ0 (bZ0 bufs bn (2^jb*2^j.eb) bb) bn2 (2^j.eb) bb2),pts bb2 (.row (bZj (2^j.eb)) 82 (2^j.eb)),pts bb (.row (bZj (2^jb*2^j.eb)) 82 (2^jb*2^j.eb)),
  pts p (ZI dp ap x),pts q (ZI dp ap y),Dk dp d,TT,pts sb (.obj (.cells j.a 124)),pts v2 (.row [.pointer (some ⟨bn,0,none⟩)] 195 1),pts v3 (.row [.pointer (some ⟨bn2,0,none⟩)] 195 1)] H:=hs
 have hz:bZj (2^jb*2^j.eb)=Zc (List.replicate (2^jb*2^j.eb) 0):=by
  unfold bZj;rw[bZw];unfold Zc;rw[List.map_replicate];rfl
 rw[hz]at hs;have fin:∀(kp:Nat) (H:Hp),Sep [Kn kp j.eb,Ar ap cap (mx (mx peak (ZE bufs+((2^jb*2^j.eb:Nat):Int))) (ZE bufs+((2^jb*2^j.eb:Nat):Int)+((2^j.eb:Nat):Int))) (bZ0 (bZ0 bufs bn (2^jb*2^j.eb) bb) bn2 (2^j.eb) bb2),pts bb2 (.row (bZj (2^j.eb)) 82 (2^j.eb)),pts bb (.row (Zc (List.replicate (2^jb*2^j.eb) 0)) 82 (2^jb*2^j.eb)),
   pts p (ZI dp ap x),pts q (ZI dp ap y),Dk dp d,TT,pts sb (.obj (.cells j.a 124)),pts v2 (.row [.pointer (some ⟨bn,0,none⟩)] 195 1),pts v3 (.row [.pointer (some ⟨bn2,0,none⟩)] 195 1)] H→
   Nw H (.obj (.cells #[.int .u32 0,.int .i64 0,.int .i64 ((2^j.ea:Nat):Int),.int .i64 ((2^j.eb:Nat):Int),.int .i64 (if j.d=true then 1 else 0),.int .i64 j.tw,.int .u64 (j.sh.toNat:Int),.pointer (some ⟨kp,0,none⟩)] 266)) fun b4 H9=>
    aZl.j16 (fun v H'=>∃ M,(∃ M0,nZP p q dp ap d x y j (2^jb) cap peak bufs v M0∧M=M0++[TT])∧Sep M H') (some ⟨p,0,none⟩) (some ⟨q,0,none⟩) ⟨sb,0,none⟩ ((2^jb:Nat):Int) (some ⟨bn,0,none⟩) ⟨b4,0,none⟩ (some ⟨ap,0,none⟩) (some ⟨v3,0,none⟩) 1 1 (some ⟨ap,0,none⟩) (some ⟨v2,0,none⟩) 1 1 H9:=fun kp H hs=>by
  refine hs.nw fun rn H hs=>?_
  unfold aZl.j16;refine⟨2^j.ea/2^jb+1,?_⟩;have out:∀{v:Value} {d':D} {H:Hp},(∀{M},M=[pts p (ZI dp ap x),pts q (ZI dp ap y),Dk dp d',Ar ap cap (mx peak (ZE bufs+((2^jb*2^j.eb:Nat):Int)+((2^j.eb:Nat):Int)+D.per d)) bufs]→nZP p q dp ap d x y j (2^jb) cap peak bufs v M)→
    Sep [pts p (ZI dp ap x),pts q (ZI dp ap y),Dk dp d',Ar ap cap (mx peak (ZE bufs+((2^jb*2^j.eb:Nat):Int)+((2^j.eb:Nat):Int)+D.per d)) bufs,TT] H→∃ M,(∃ M0,nZP p q dp ap d x y j (2^jb) cap peak bufs v M0∧M=M0++[TT])∧Sep M H:=fun h hs=>⟨_,⟨_,h rfl,rfl⟩,hs⟩
  refine kZZ (p:=p) (q:=q) (dp:=dp) (ap:=ap) (rn:=rn) (bn:=bn) (bb:=bb) (bn2:=bn2) (bb2:=bb2) (sb:=sb) (v2:=v2) (v3:=v3) (kp:=kp) (x:=x) (y:=y) (cap:=cap) (bufs:=bufs) (TT:=TT) (j:=j) (mb:=2^jb*2^j.eb) (peak:=mx (mx peak (ZE bufs+((2^jb*2^j.eb:Nat):Int))) (ZE bufs+((2^jb*2^j.eb:Nat):Int)+((2^j.eb:Nat):Int))) _ hT hok hx hy ho hab hb20 htw.2 hxw hyw hdis hb1 (div_pow hjb) (by rw[hsb2];omega) hbm hbm2 hpk.symm
   (fun d' H hI hs=>out (fun e=>.inl ⟨d',hI,rfl,e⟩) hs) (fun d' H hd hfu hs=>out (fun e=>.inr ⟨d',hd,hfu,rfl,e⟩) hs) (2^j.ea/2^jb) 0 0 d _ (List.replicate (2^jb*2^j.eb) 0) H (by rw[Nat.zero_mul];rfl) (by omega)
   ⟨by simpa [rP,wP]using Prog.refl (inX y) hok hl,fun _ _=>rfl,fun k hk=>by simp at hk⟩ (by simp) hpk (.inl rfl) ?_
  have hs:=hs.re [8,11,3,4,5,6,1,9,10,0,7] rfl;unfold nZO;simp only[Nat.zero_mul,Nat.mul_zero];have e0:sum (form (cZE j d x 0))=0#32:=by
   show sum (form [])=0#32
   decide
  rw[e0];exact hs
 have tz:∀ H,T64 H→Za prog 173 #[.int .u64 (u64.wrap ((2^j.eb:Nat):Int))] H (RetE (.int .i64 (j.eb:Int)) H):=fun H hT=>by
  rw[cZg (by omega)];exact wZD j.eb (by omega) H hT
 refine⟨?_,?_⟩
 ·refine hs.ldw 7 rfl rfl ?_;refine hs.ldf 7 rfl rfl ?_;simp only[HV];refine Za.use (tz H (gZY hT hs 6 rfl)) ?_;simp only[HV];refine(dZp j.eb hb20).use hs [] rfl rfl ?_;rintro _ _ H ⟨kp,rfl,rfl⟩ hs;simp only[HV];exact fin kp H hs
 refine hs.ldf 7 rfl rfl ?_;simp only[HV];refine⟨?_,?_,?_⟩
 ·refine hs.ldw 7 rfl rfl ?_;refine Za.use (tz H (gZY hT hs 6 rfl)) ?_;simp only[HV];refine(dZp j.eb hb20).use hs [] rfl rfl ?_;rintro _ _ H ⟨kp,rfl,rfl⟩ hs;simp only[HV];exact fin kp H hs
 ·refine hs.ldw 7 rfl rfl ?_;refine Za.use (tz H (gZY hT hs 6 rfl)) ?_;simp only[HV];refine(dZp j.eb hb20).use hs [] rfl rfl ?_;rintro _ _ H ⟨kp,rfl,rfl⟩ hs;simp only[HV];exact fin kp H hs
 refine Za.use (tz H (gZY hT hs 6 rfl)) ?_;simp only[HV];refine⟨?_,?_⟩
 ·refine hs.ldw 7 rfl rfl ?_;refine(dZp j.eb hb20).use hs [] rfl rfl ?_;rintro _ _ H ⟨kp,rfl,rfl⟩ hs;simp only[HV];exact fin kp H hs
 ·refine(dZp j.eb hb20).use hs [] rfl rfl ?_;rintro _ _ H ⟨kp,rfl,rfl⟩ hs;simp only[HV];refine hs.ldw 8 rfl rfl ?_;exact fin kp H hs
end
end Pas
namespace Str
open Go Go.Hw Go.Form W Dsk Are
end Str
namespace Trn
open Go Go.Hw Go.Crc Go.Form W Shp Str Dsk Are
structure lZb (d:D)(k n:Nat):Prop where
 ok:Ok d
 down:d.down=false
 fuse:d.fuse=0
 cnt:d.rd≤100000000∧d.wr≤100000000
 sec:d.sec=2*k+1
 size:d.size=32
theorem lZb.per {d:D}{k n:Nat}(h:lZb d k n):D.per d=4:=by unfold D.per;rw[h.size]
theorem lZb.prog {S:Int→Prop}{d d':D}{k n r w:Nat}(h:lZb d k n)(hp:Prog S d d' r w)(hc:d'.rd≤100000000∧d'.wr≤100000000):lZb d' k n:=
 ⟨hp.ok,hp.down,by rw[hp.fuse,h.fuse];omega,hc,by rw[hp.sec,h.sec],by rw[hp.size,h.size]⟩
section
variable {A : Option Addr} {n m : Nat} {R : As}
end
theorem pZ5 {d:D}{x:X}{n:Nat}{f:Nat→UInt64}(h:∀ j,j<n→pw d x j=f j):pws d x 0 n=(List.range n).map f:=by
 unfold pws;apply List.map_congr_left;intro j hj;rw[Nat.zero_add];exact h j (List.mem_range.1 hj)
theorem sZH (l:List UInt64):(List.range l.length).map (fun j=>(l[j]?).getD 0)=l:=by
 apply List.ext_getElem?;intro j;rw[List.getElem?_map];by_cases hj:j<l.length
 ·rw[List.getElem?_range hj,Option.map_some,List.getElem?_eq_getElem hj];rfl
 ·rw[List.getElem?_eq_none (by simp;omega),List.getElem?_eq_none (by omega)];rfl
section
variable {p q dp ap : Nat} {x y : X} {cap peak : Int} {TT : As}
end
section
variable {p q dp ap : Nat} {x y : X} {cap peak : Int} {bufs : List (Nat × Nat × Option Addr)} {L : List As} {H : Hp}
end
def trL (l:List UInt64)(rows cols:Nat):List UInt64:=(List.range (rows*cols)).map fun k=>(l[k%rows*cols+k/rows]?).getD 0
theorem mZt (l:List UInt64)(rows cols:Nat):(trL l rows cols).length=rows*cols:=by simp[trL]
theorem vZO {per f k fr n:Nat}(hn:1≤n)(hk:1≤k)(h:fr%per+n≤per):pcs per f k fr n=[(f+fr/per,fr%per,n)]:=by
 obtain⟨k,rfl⟩:∃ k',k=k'+1:=⟨k-1,by omega⟩;have hc:cN per fr n=n:=by unfold cN;split<;>omega
 show(if n=0 then []else(f+fr/per,fr%per,cN per fr n)::pcs per f k (fr+cN per fr n) (n-cN per fr n))=_
 rw[if_neg (by omega),hc,Nat.sub_self];have e:pcs per f k (fr+n) 0=[]:=by cases k<;>simp[pcs]
 rw[e]
theorem sZA {per f:Nat}(hp:0<per):∀(q k fr:Nat),q*per≤k→fr%per=0→(pcs per f k fr (q*per)).length=q∧∀ p∈pcs per f k fr (q*per),p.2.2=per
 |0,k,fr,_,_=>by
  have e:pcs per f k fr (0*per)=[]:=by rw[Nat.zero_mul];cases k<;>simp[pcs]
  rw[e];simp
 |q+1,k,fr,hk,hf=>by
  rw[Nat.succ_mul]at hk;obtain⟨k,rfl⟩:∃ k',k=k'+1:=⟨k-1,by omega⟩;have hc:cN per fr ((q+1)*per)=per:=by
   unfold cN;rw[hf,Nat.sub_zero,Nat.succ_mul];split
   ·rfl
   ·omega
  have e:pcs per f (k+1) fr ((q+1)*per)=(f+fr/per,fr%per,per)::pcs per f k (fr+per) (q*per):=by
   show(if(q+1)*per=0 then []else(f+fr/per,fr%per,cN per fr ((q+1)*per))::pcs per f k (fr+cN per fr ((q+1)*per)) ((q+1)*per-cN per fr ((q+1)*per)))=_
   rw[hc,if_neg (by rw[Nat.succ_mul];omega),Nat.succ_mul,Nat.add_sub_cancel]
  obtain⟨h1,h2⟩:=sZA (f:=f) hp q k (fr+per) (by omega) (by rw[Nat.add_mod_right];exact hf);rw[e];refine⟨by rw[List.length_cons,h1],fun p hp'=>?_⟩;rcases List.mem_cons.1 hp' with rfl|h
  ·rfl
  ·exact h2 p h
def m1 (q:Nat):Nat:=if 1<q then q else 1
theorem jZ7 (q:Nat):(if((q:Nat):Int)>1 then((q:Nat):Int)else 1)=((m1 q:Nat):Int):=by
 unfold m1;split<;>split<;>omega
def opO (r w:Int):AO:=.obj (.cells #[.int .i64 r,.int .i64 w,.int .i64 0] 39)
end Trn
namespace Pas
open Go Go.Hw Go.Crc Go.Form W Shp Gol Fft Ker Str Dsk Are Trn
theorem gZx (e j f fr:Nat)(hd:2^j∣fr):(pcs (2^e) f (2^j) fr (2^j)).length=m1 (2^j/2^e)∧cZS (2^e) f (2^j) fr (2^j)=if 2^j<2^e then 1 else 0:=by
 have hj:=pow_pos j;have he:=pow_pos e;by_cases h:j<e
 ·have hlt:2^j<2^e:=Nat.pow_lt_pow_right (by omega) h;have hfit:fr%2^e+2^j≤2^e:=by
   obtain⟨t,rfl⟩:=hd;have e1:2^e=2^j*2^(e-j):=by rw[← Nat.pow_add];congr 1;omega
   rw[e1,Nat.mul_mod_mul_left];have h1:=Nat.mod_lt t (pow_pos (e-j));have h2:2^j*(t%2^(e-j)+1)≤2^j*2^(e-j):=Nat.mul_le_mul_left _ h1;rw[Nat.mul_add,Nat.mul_one]at h2;exact h2
  have e1:=vZO (per:=2^e) (f:=f) (k:=2^j) (fr:=fr) (n:=2^j) hj hj hfit;unfold cZS;rw[e1,if_pos hlt,Nat.div_eq_of_lt hlt];refine⟨rfl,?_⟩;simp[hlt]
 ·have e4:2^j=2^(j-e)*2^e:=by rw[← Nat.pow_add];congr 1;omega
  have hjm:=pow_pos (j-e);have hf:fr%2^e=0:=by
   obtain⟨t,rfl⟩:=hd;rw[e4,Nat.mul_right_comm];exact Nat.mul_mod_left _ _
  obtain⟨h1,h2⟩:=sZA (per:=2^e) (f:=f) (by omega) (2^(j-e)) (2^j) fr (by rw[← e4];exact Nat.le_refl _) hf;rw[← e4]at h1 h2;have hle:=aZF (show e≤j by omega);refine⟨?_,?_⟩
  ·rw[h1];have:2^j/2^e=2^(j-e):=by rw[e4,Nat.mul_div_cancel _ (by omega)]
   rw[this];unfold m1;split<;>omega
  ·unfold cZS;rw[if_neg (by omega),List.length_eq_zero_iff,List.filter_eq_nil_iff];intro p hp;rw[h2 p hp];simp
theorem uZW (e f f' n:Nat):∀ m,rP (2^e) f f' (2^n) m=m*m1 (2^n/2^e)+(if 2^n<2^e then m else 0)
 |0=>by simp[rP]
 |m+1=>by
  rw[kZc,uZW e f f' n m,(gZx e n f (m*2^n) (Nat.dvd_mul_left _ _)).1,(gZx e n f' (m*2^n) (Nat.dvd_mul_left _ _)).2,Nat.succ_mul];split<;>omega
theorem uZ7 (e f' n:Nat):∀ m,wP (2^e) f' (2^n) m=m*m1 (2^n/2^e)
 |0=>by simp[wP]
 |m+1=>by
  rw[kZi,uZ7 e f' n m,(gZx e n f' (m*2^n) (Nat.dvd_mul_left _ _)).1,Nat.succ_mul]
theorem oZA {q p:Nat}(h:1≤q)(hp:1≤p):m1 (q/p)≤q:=by
 have:=Nat.div_le_self q p;unfold m1;split<;>omega
theorem wZV (q:Nat):(if((q:Nat):Int)>1 then((q:Nat):Int)else 1)=((m1 q:Nat):Int):=by
 unfold m1;split<;>split<;>omega
def opsV (r w:Int):Array Value:=#[.int .i64 r,.int .i64 w,.int .i64 0]
def cR (per n m:Nat):Nat:=m*m1 (n/per)+(if n<per then m else 0)
def cW (per n m:Nat):Nat:=m*m1 (n/per)
theorem vZa {ea eb jb per:Nat}{free:Int}(hab:ea+eb≤32)(hp:4≤per∧per≤512)(hf:free≤9223372036854775807)(h:qZE ((2^ea:Nat):Int) ((2^eb:Nat):Int) (per:Int) free)(hj:dZg ea ((free-per).toNat/2^eb) jb)(H:Hp)(hT:T64 H):
  Za prog 130 #[.agg #[.int .i64 ((2^ea:Nat):Int),.int .i64 ((2^eb:Nat):Int)],.int .i64 (per:Int),.int .i64 free] H
   (RetE (.tuple #[.agg (opsV ((cR per (2^jb*2^eb) (2^ea/2^jb):Nat):Int) ((cW per (2^jb*2^eb) (2^ea/2^jb):Nat):Int)),.int .i64 0]) H):=Za.ret (by
 have q1:=pow_pos ea;have q2:=pow_pos eb;have q3:=pow_pos jb;have hjb:=hj.le;have hsz:=size_le hab;have hdiv:=div_pow hjb;have hN:2^ea/2^jb≤2^ea:=Nat.div_le_self _ _;have hN4:2^ea/2^jb*(2^jb*2^eb)≤4294967296:=by rw[← Nat.mul_assoc,←hdiv];exact hsz
 have q5:2^ea≤2^32:=aZF (by omega);have hbr:2^jb*2^eb≤2^ea*2^eb:=Nat.mul_le_mul_right _ (aZF hjb);have l2:2^ea/2^jb*m1 (2^jb*2^eb/per)≤4294967296:=Nat.le_trans (Nat.mul_le_mul_left _ (oZA (Nat.mul_pos q3 q2) (by omega))) hN4;have hdl:=Nat.div_le_self (2^jb*2^eb) per;apply gZK.ok;unfold gZK;refine(Sep.start H).nw fun b1 H1 hs=>?_
 refine hs.nw fun b2 H1 hs=>?_
 refine hs.ldw 1 rfl rfl ?_;refine Za.use (nZX (per:Int) free ⟨by omega,by omega⟩ hf H1 (hT.le (hs.ow 0 rfl)) hab h hj) ?_;simp only[HV];rw[show(⟨b1,0,none⟩:Addr).add 0=⟨b1,0,none⟩from rfl];refine hs.ld 1 rfl rfl ?_;simp only[HV];refine⟨by omega,by simp,?_⟩;refine hs.ldf 1 rfl rfl ?_;simp only[HV];refine⟨by omega,by simp,hs.nw fun b3 H1 hs=>?_⟩;have eA:i64.wrap (Int.tdiv ((2^ea:Nat):Int) ((2^jb:Nat):Int))=((2^ea/2^jb:Nat):Int):=by
  rw[show Int.tdiv ((2^ea:Nat):Int) ((2^jb:Nat):Int)=((2^ea/2^jb:Nat):Int)from rfl,aZJ (by omega)]
 have eB:i64.wrap (((2^jb:Nat):Int)*((2^eb:Nat):Int))=((2^jb*2^eb:Nat):Int):=by rw[← Int.natCast_mul,aZJ (by omega)]
 have eC:i64.wrap (Int.tdiv ((2^jb*2^eb:Nat):Int) (per:Int))=((2^jb*2^eb/per:Nat):Int):=by
  rw[show Int.tdiv ((2^jb*2^eb:Nat):Int) (per:Int)=((2^jb*2^eb/per:Nat):Int)from rfl,aZJ (by omega)]
 have eW:i64.wrap (((2^ea/2^jb:Nat):Int)*((m1 (2^jb*2^eb/per):Nat):Int))=((2^ea/2^jb*m1 (2^jb*2^eb/per):Nat):Int):=by
  rw[← Int.natCast_mul,aZJ (by omega)]
 simp only[eA,eB,eC,wZV,eW];refine hs.stw 3 rfl rfl rfl rfl fun H1 hs=>?_
 refine hs.ldf 1 rfl rfl ?_;simp only[HV];rw[eB];unfold cR cW;by_cases h4:2^jb*2^eb<per
 ·refine Zn (by omega) ?_;rw[if_pos h4];simp only[Addr.add_zero];refine hs.ld 3 rfl rfl ?_;simp only[HV];rw[← Int.natCast_add,aZJ (by omega)];refine hs.st 3 rfl (Nat.lt_of_sub_eq_succ rfl) rfl fun H hs=>?_;refine hs.ldw 3 rfl rfl ?_;refine hs.stw 2 rfl rfl rfl rfl fun H1 hs=>?_
  refine hs.ldw 2 rfl rfl ?_;exact hs.fin 0 rfl _
 ·refine Zh (by omega) ?_;rw[if_neg h4,Nat.add_zero];refine hs.ldw 3 rfl rfl ?_;refine hs.stw 2 rfl rfl rfl rfl fun H1 hs=>?_
  refine hs.ldw 2 rfl rfl ?_;exact hs.fin 0 rfl _)
section
variable {p q dp ap : Nat} {x y : X} {cap peak : Int} {TT : As} {j : J}
end
theorem oZh (d:Bool)(k:Nat)(l:List UInt64){i:Nat}(h:i<2^k):(eZx d k l)[i]? =some (uw (dft (rtd d k) (2^k) (at' l) i)):=by
 unfold eZx;rw[List.getElem?_map,List.getElem?_range h];rfl
theorem oZV (z:Zp){l:List UInt64}{i:Nat}{w:UInt64}(h:l[i]? =some w):(eZO z l)[i]? =some (uw (zw w*z)):=by
 unfold eZO;rw[List.getElem?_map,h];rfl
theorem pZJ {l:List UInt64}{i:Nat}{w:UInt64}(h:l[i]? =some w):at' l i=zw w:=by
 unfold at';rw[List.getD_eq_getElem?_getD,h];rfl
section
variable {R : As} {A : Option Addr} {n m : Nat} {l : List UInt64}
end
theorem sZM {j:J}{d:D}{x:X}{m:Nat}{l:List UInt64}(h:pws d x 0 (m*2^j.eb)=l):
  cZE j d x m=(List.range m).flatMap fun q=>dZ1 j q ((l.drop (q*2^j.eb)).take (2^j.eb)):=by
 unfold cZE;have:∀(r:List Nat),(∀ q,q∈r→q<m)→r.flatMap (fun q=>dZ1 j q (pws d x (q*2^j.eb) (2^j.eb)))=r.flatMap fun q=>dZ1 j q ((l.drop (q*2^j.eb)).take (2^j.eb)):=fun r=>by
  induction r with
  |nil=>intro _;rfl
  |cons q r ih=>
   intro hq;have hqb:=hq q (by simp);have h1:(q+1)*2^j.eb≤m*2^j.eb:=Nat.mul_le_mul_right _ (by omega);rw[Nat.succ_mul]at h1;rw[List.flatMap_cons,List.flatMap_cons,ih fun q' h'=>hq q' (by simp[h']),←h,oZP h1,Nat.zero_add]
 exact this _ fun q hq=>List.mem_range.1 hq
theorem mZS {f:Nat→List UInt64}{c:Nat}(hf:∀ q,(f q).length=c):∀(m q:Nat),q<m→(((List.range m).flatMap f).drop (q*c)).take c=f q
 |0,q,h=>by omega
 |m+1,q,h=>by
  have hl:∀ m,((List.range m).flatMap f).length=m*c:=fun m=>by
   induction m with
   |zero=>simp
   |succ m ih=>rw[List.range_succ,List.flatMap_append,List.length_append,ih,Nat.succ_mul];simp[hf]
  rw[List.range_succ,List.flatMap_append];have hs:List.flatMap f [m]=f m:=by simp
  rw[hs];by_cases e:q=m
  ·subst e;rw[List.drop_append,List.drop_eq_nil_of_le (by rw[hl];exact Nat.le_refl _),hl,Nat.sub_self,List.drop_zero,List.nil_append,List.take_of_length_le (by rw[hf];exact Nat.le_refl _)]
  ·have h1:(q+1)*c≤m*c:=Nat.mul_le_mul_right _ (by omega);rw[Nat.succ_mul]at h1;rw[List.drop_append_of_le_length (by rw[hl];omega),List.take_append_of_le_length (by rw[List.length_drop,hl];omega)];exact mZS hf m q (by omega)
section
variable {R : As} {A : Option Addr} {n m k : Nat} {l : List UInt64} {L : List As}
end
def lZ3 (j:J)(q:Nat)(l:List UInt64)(c:Nat):Zp:=dft (rtd j.d j.eb) (2^j.eb) (at' l) c*zw j.sh*(if 0≤j.tw then Fft.pw (rtd j.d j.tw.toNat) (q*c)else 1)
theorem sZK (j:J)(q:Nat)(l:List UInt64):dZ1 j q l=(List.range (2^j.eb)).map fun c=>uw (lZ3 j q l c):=by
 apply List.ext_getElem?;intro c;rw[List.getElem?_map];by_cases hc:c<2^j.eb
 ·rw[List.getElem?_range hc];have h1:=oZh j.d j.eb l hc;have h2:(twL j q (eZx j.d j.eb l))[c]? =some (uw (dft (rtd j.d j.eb) (2^j.eb) (at' l) c*(if 0≤j.tw then Fft.pw (rtd j.d j.tw.toNat) (q*c)else 1))):=by
   unfold twL;by_cases ht:0≤j.tw
   ·rw[if_pos ht,if_pos ht];unfold kZg fZA;rw[List.getElem?_map,iZX,List.getElem?_range hc];show some (uw (at' (eZx j.d j.eb l) c*Fft.pw (Fft.pw (rtd j.d j.tw.toNat) q) c))=some _
    rw[pZJ h1,nZV,←bZL]
   ·rw[if_neg ht,if_neg ht,h1];congr 2;grind
  unfold dZ1;rw[oZV _ h2,nZV];show some _=some _
  congr 2;unfold lZ3;grind
 ·rw[List.getElem?_eq_none (by rw[hZS];omega),List.getElem?_eq_none (by simp;omega)];rfl
section
variable {R : As} {A : Option Addr} {n m b1 : Nat} {l : List UInt64} {j : J}
def dZl (j:J)(l:List UInt64)(m:Nat):List UInt64:=(List.range m).flatMap fun q=>dZ1 j q ((l.drop (q*2^j.eb)).take (2^j.eb))
end
end Pas
namespace Pln
open Go Go.Hw Shp Fft Ker Pas Str Dsk Trn
def trL (r c:Nat)(l:List UInt64):List UInt64:=(List.range (r*c)).map fun k=>l.getD (k%r*c+k/r) 0
theorem mZt (r c:Nat)(l:List UInt64):(trL r c l).length=r*c:=by simp[trL]
theorem qZm {r c:Nat}(l:List UInt64){i j:Nat}(hi:i<r)(hj:j<c):(trL r c l).getD (j*r+i) 0=l.getD (i*c+j) 0:=by
 have h1:j*r+i<r*c:=by
  have:(j+1)*r≤c*r:=Nat.mul_le_mul_right _ hj;rw[Nat.succ_mul]at this;rw[Nat.mul_comm r c];omega
 have h2:(j*r+i)%r=i:=by rw[Nat.add_comm,Nat.add_mul_mod_self_right,Nat.mod_eq_of_lt hi]
 have h3:(j*r+i)/r=j:=by rw[Nat.add_comm,Nat.add_mul_div_right _ _ (by omega),Nat.div_eq_of_lt hi,Nat.zero_add]
 unfold trL;rw[List.getD_eq_getElem?_getD,List.getElem?_map,List.getElem?_range h1];show l.getD _ 0=_
 rw[h2,h3]
theorem sZ0 {r c:Nat}(l:List UInt64){i j:Nat}(hi:i<r)(hj:j<c):at' (trL r c l) (j*r+i)=at' l (i*c+j):=by
 unfold at';rw[qZm l hi hj]
theorem vZ9 (d:D)(x:X)(r c:Nat):trW d x r c=trL r c (pws d x 0 (r*c)):=by
 unfold trW trL;apply List.map_congr_left;intro k hk;have hk:=List.mem_range.1 hk;have hr:0<r:=by
  rcases Nat.eq_zero_or_pos r with h|h
  ·rw[h,Nat.zero_mul]at hk;omega
  ·exact h
 have h1:k%r<r:=Nat.mod_lt _ hr;have h2:k/r<c:=Nat.div_lt_of_lt_mul hk;have h3:k%r*c+k/r<r*c:=by
  have:(k%r+1)*c≤r*c:=Nat.mul_le_mul_right _ h1;rw[Nat.succ_mul]at this;omega
 unfold trK;rw[List.getD_eq_getElem?_getD,kZb h3,Nat.zero_add];rfl
theorem rZn (j:J)(d:D)(x:X)(m:Nat):cZE j d x m=dZl j (pws d x 0 (m*2^j.eb)) m:=sZM rfl
theorem nZk (j:J)(l:List UInt64){m q c:Nat}(hq:q<m)(hc:c<2^j.eb):(dZl j l m)[q*2^j.eb+c]? =some (uw (lZ3 j q ((l.drop (q*2^j.eb)).take (2^j.eb)) c)):=by
 have h:=mZS (f:=fun q=>dZ1 j q ((l.drop (q*2^j.eb)).take (2^j.eb))) (c:=2^j.eb) (fun q=>hZS j q _) m q hq;have e:(dZl j l m)[q*2^j.eb+c]? =(((dZl j l m).drop (q*2^j.eb)).take (2^j.eb))[c]? :=by
  rw[List.getElem?_take_of_lt hc,List.getElem?_drop]
 rw[e];show((((List.range m).flatMap fun q=>dZ1 j q ((l.drop (q*2^j.eb)).take (2^j.eb))).drop (q*2^j.eb)).take (2^j.eb))[c]? =_
 rw[h,sZK,List.getElem?_map,List.getElem?_range hc];rfl
def wz (j:J)(q:Nat)(f:Nat→Zp)(c:Nat):Zp:=dft (rtd j.d j.eb) (2^j.eb) (fun i=>f (q*2^j.eb+i)) c*zw j.sh*(if 0≤j.tw then Fft.pw (rtd j.d j.tw.toNat) (q*c)else 1)
theorem oZ9 (j:J)(l:List UInt64)(q c:Nat):lZ3 j q ((l.drop (q*2^j.eb)).take (2^j.eb)) c=wz j q (at' l) c:=by
 unfold lZ3 wz;congr 2;refine hZ8 (fun i hi=>?_) c;unfold at';rw[List.getD_eq_getElem?_getD,List.getElem?_take_of_lt hi,List.getElem?_drop,←List.getD_eq_getElem?_getD]
theorem uZz (j:J)(l:List UInt64){m q c:Nat}(hq:q<m)(hc:c<2^j.eb):at' (dZl j l m) (q*2^j.eb+c)=wz j q (at' l) c:=by
 rw[pZJ (nZk j l hq hc),nZV,oZ9]
theorem uZA (j:J)(l:List UInt64){m q c:Nat}(hq:q<m)(hc:c<2^j.eb):(dZl j l m).getD (q*2^j.eb+c) 0=uw (wz j q (at' l) c):=by
 rw[List.getD_eq_getElem?_getD,nZk j l hq hc,oZ9];rfl
structure Pz where
 t:Bool
 j:J
 f:Nat
 o:Nat
def Pz.c (p:Pz):Array Value:=p.j.a++ #[.int .i64 (if p.t=true then 1 else 2),.int .i64 (p.f:Int),.int .i64 (p.o:Int)]
def Pz.ap (p:Pz)(l:List UInt64):List UInt64:=if p.t=true then trL (2^p.j.ea) (2^p.j.eb) l else dZl p.j l (2^p.j.ea)
def gZk (d:Bool)(k:Nat):UInt64:=if d=true then uw (Fft.pw half k)else 1
def oZ0 (d:Bool)(k:Nat):Pz:=⟨false,⟨0,k,d,-1,gZk d k⟩,0,3⟩
def gZf (d:Bool)(k:Nat):List Pz:=
 [⟨true,⟨k/2,k-k/2,false,-1,1⟩,0,1⟩,⟨false,⟨k-k/2,k/2,d,(k:Int),1⟩,1,2⟩,⟨true,⟨k-k/2,k/2,false,-1,1⟩,2,1⟩,
  ⟨false,⟨k/2,k-k/2,d,-1,gZk d k⟩,1,2⟩,⟨true,⟨k/2,k-k/2,false,-1,1⟩,2,3⟩]
def oZZ (k per words:Nat):Bool:=decide (k≤20∧2*2^k+per≤words)
def aZb (d:Bool)(k per words:Nat):List Pz:=if oZZ k per words=true then [oZ0 d k]else gZf d k
def aZR (k per:Nat):Nat:=2*2^((k+1)/2)+per
def apL (ps:List Pz)(l:List UInt64):List UInt64:=ps.foldl (fun l p=>p.ap l) l
theorem vZk (a b:List Pz)(l:List UInt64):apL (a++b) l=apL b (apL a l):=List.foldl_append
def tfL (d:Bool)(k:Nat)(l:List UInt64):List UInt64:=eZO (zw (gZk d k)) (eZx d k l)
theorem qZl (d:Bool)(k:Nat)(l:List UInt64):(tfL d k l).length=2^k:=by unfold tfL;rw[hZT,iZX]
theorem uZh (d:Bool)(k:Nat)(l:List UInt64)(hl:l.length=2^k):(oZ0 d k).ap l=tfL d k l:=by
 show dZl ⟨0,k,d,-1,gZk d k⟩ l 1=_
 unfold dZl;rw[show List.range 1=[0]from rfl,List.flatMap_cons,List.flatMap_nil,List.append_nil,Nat.zero_mul,List.drop_zero];show dZ1 _ 0 (l.take (2^k))=_
 rw[List.take_of_length_le (by omega)];rfl
theorem vZE (d:Bool)(k:Nat)(hk:k≤32)(l:List UInt64):apL (gZf d k) l=tfL d k l:=by
 obtain⟨a,ha⟩:∃ a,k/2=a:=⟨_,rfl⟩;obtain⟨b,hb⟩:∃ b,k-a=b:=⟨_,rfl⟩;have hab:a+b=k:=by omega
 have hka:k-b=a:=by omega
 have hkb:k-a=b:=by omega
 have hRC:2^a*2^b=2^k:=by rw[← Nat.pow_add,hab]
 have hpos:0<2^a:=Nat.two_pow_pos a;unfold gZf apL;simp only[List.foldl_cons,List.foldl_nil,ha,hb];show trL (2^a) (2^b) (dZl ⟨a,b,d,-1,gZk d k⟩ (trL (2^b) (2^a) (dZl ⟨b,a,d,(k:Int),1⟩ (trL (2^a) (2^b) l) (2^b))) (2^a))=_
 apply List.ext_getElem?;intro i;by_cases hi:i<2^k
 ·have hj:i%2^a<2^a:=Nat.mod_lt _ hpos;have hm:i/2^a<2^b:=Nat.div_lt_of_lt_mul (by rw[hRC];exact hi);have hij:i/2^a*2^a+i%2^a=i:=by rw[Nat.mul_comm];exact Nat.div_add_mod i (2^a)
  generalize hjj:i%2^a=j at hj hij;generalize hmm:i/2^a=m at hm hij;subst hij;have e1:=qZm (r:=2^a) (c:=2^b) (dZl ⟨a,b,d,-1,gZk d k⟩ (trL (2^b) (2^a) (dZl ⟨b,a,d,(k:Int),1⟩ (trL (2^a) (2^b) l) (2^b))) (2^a)) hj hm;have e2:=uZA ⟨a,b,d,-1,gZk d k⟩ (trL (2^b) (2^a) (dZl ⟨b,a,d,(k:Int),1⟩ (trL (2^a) (2^b) l) (2^b))) (m:=2^a) hj (c:=m) hm;have hlen:m*2^a+j<(trL (2^a) (2^b) (dZl ⟨a,b,d,-1,gZk d k⟩ (trL (2^b) (2^a) (dZl ⟨b,a,d,(k:Int),1⟩ (trL (2^a) (2^b) l) (2^b))) (2^a))).length:=by rw[mZt,hRC];exact hi
  rw[List.getElem?_eq_getElem hlen];rw[List.getD_eq_getElem?_getD,List.getElem?_eq_getElem hlen]at e1;simp only[Option.getD_some]at e1;rw[e1,e2];have e3:tfL d k l=eZO (zw (gZk d k)) (eZx d k l):=rfl;rw[e3,oZV _ (oZh d k l hi),nZV];congr 2;have hw:Fft.pw (rtd d k) (2^a*2^b)=1:=by rw[hRC];exact vZX d hk
  have hrows:=tZN hw (at' l) m j;rw[hRC]at hrows;rw[hrows];have hwa:Fft.pw (rtd d k) (2^a)=rtd d b:=by have:=pZ9 d hk (show b≤k by omega);rwa [hka]at this
  have hwb:Fft.pw (rtd d k) (2^b)=rtd d a:=by have:=pZ9 d hk (show a≤k by omega);rwa [hkb]at this
  rw[hwa,hwb];unfold wz;rw[if_neg (show ¬((0:Int)≤-1) by omega)];have key:dft (rtd d b) (2^b) (fun i=>at' (trL (2^b) (2^a) (dZl ⟨b,a,d,(k:Int),1⟩ (trL (2^a) (2^b) l) (2^b))) (j*2^b+i)) m=dft (rtd d b) (2^b) (fun c=>dft (rtd d a) (2^a) (fun r=>at' l (r*2^b+c)) j*Fft.pw (rtd d k) (c*j)) m:=by
   refine hZ8 (fun c hc=>?_) m;rw[sZ0 _ hc hj];have h2:=uZz ⟨b,a,d,(k:Int),1⟩ (trL (2^a) (2^b) l) (m:=2^b) hc (c:=j) hj;refine h2.trans ?_;unfold wz;rw[if_pos (Int.natCast_nonneg k)];have e1:zw 1=1:=by decide
   have h3:dft (rtd d a) (2^a) (fun i=>at' (trL (2^a) (2^b) l) (c*2^a+i)) j=dft (rtd d a) (2^a) (fun r=>at' l (r*2^b+c)) j:=
    hZ8 (fun r hr=>sZ0 l hr hc) j
   show dft (rtd d a) (2^a) (fun i=>at' (trL (2^a) (2^b) l) (c*2^a+i)) j*zw 1*Fft.pw (rtd d ((k:Int).toNat)) (c*j)=_
   rw[h3,e1,Int.toNat_natCast];grind
  show dft (rtd d b) (2^b) (fun i=>at' (trL (2^b) (2^a) (dZl ⟨b,a,d,(k:Int),1⟩ (trL (2^a) (2^b) l) (2^b))) (j*2^b+i)) m*zw (gZk d k)*1=_
  rw[key];grind
 ·rw[List.getElem?_eq_none (by rw[mZt,hRC];omega),List.getElem?_eq_none (by rw[qZl];omega)]
theorem vZP (d:Bool)(k per words:Nat)(hk:k≤32)(l:List UInt64)(hl:l.length=2^k):apL (aZb d k per words) l=tfL d k l:=by
 unfold aZb;split
 ·exact uZh d k l hl
 ·exact vZE d k hk l
end Pln
end Go.Proofs.YtgfildcgihbdaaaGreatDoor
