import Derived.Test.YtgfildcgihbdaaaGreatDoorProg
import Derived.LaidEql
import Derived.MapKept
import Derived.Test.YtgfildcgihbdaaaGreatDoorPkWholeCost2
set_option maxRecDepth 100000
set_option linter.unusedSimpArgs false
set_option linter.unusedVariables false
set_option linter.unnecessarySimpa false
set_option linter.unusedSectionVars false
open Go.IntKind (i64 u64)
namespace Go.Proofs.YtgfildcgihbdaaaGreatDoor.Ker
open Go Go.Hw W Shp Gol Fft
theorem iZF (a n:Nat):a^n%18446744069414584321=(pw (zp a) n).val:=congrArg Fin.val (pZd a n)
theorem iZB (x y:Zp):x.val*y.val%18446744069414584321=(x*y).val:=(Fin.val_mul x y).symm
theorem dZE (x:Zp):x.val<2^64:=by have:=x.isLt;omega
theorem tZZ (x:UInt64)(y:Zp):x.toNat*y.val%18446744069414584321=(zw x*y).val:=by
 rw[← iZB];show _=x.toNat%18446744069414584321*y.val%18446744069414584321
 rw[sZr]
theorem pZ8 {k:Nat}(hk:k≤32)(H:Hp):Za Tryz.prog 252 #[.int .i64 (k:Int)] H (RetE (.int .u64 ((rt k).val:Int)) H):=by
 apply gZT.ok;unfold gZT;rw[cZg (by omega)];refine⟨by omega,?_⟩;rw[show(18446744069414584320:Int)=((18446744069414584320:Nat):Int)from rfl,hZU (k:=.u64) rfl (by show k≤64;omega)];have hlt:18446744069414584320/2^k<2^64:=Nat.lt_of_le_of_lt (Nat.div_le_self _ _) (by decide);refine Za.use (lZd (a:=7) (by decide) hlt H) ?_;rw[iZF];simp only[HV];exact RetE.mk _ _
theorem eZ0 {k:Nat}(hk:k≤32)(H:Hp):Za Tryz.prog 251 #[.int .i64 (k:Int)] H (RetE (.bool true) H):=by
 apply gZS.ok;unfold gZS;refine Zn (by omega) ?_;rw[decide_eq_true (by omega)];exact RetE.mk _ _
theorem rZV {k:Nat}(hk:k≤32):pw (rt k) gZ8=pw (rt k) (2^k-1):=by
 have e:=iZD hk;have hp:=pow_pos k;generalize hq:18446744069414584320/2^k=q at e;have hq1:1≤q:=by
  rcases Nat.eq_zero_or_pos q with h|h
  ·rw[h,Nat.zero_mul]at e;omega
  ·exact h
 have e2:gZ8=2^k*(q-1)+(2^k-1):=by
  unfold gZ8;rw[Nat.mul_sub_one,Nat.mul_comm];have:1*2^k≤q*2^k:=Nat.mul_le_mul_right _ hq1;omega
 rw[e2,eZM,bZL,jZJ hk,gZj];grind
theorem xZy {k:Nat}(hk:k≤32):(rt k).val%18446744069414584321≠0:=fun h=>by
 have h1:rt k=0:=Fin.ext (by rw[Nat.mod_eq_of_lt (rt k).isLt]at h;exact h);have h2:=wZ8 hk;rw[h1]at h2;have h3:(0:Zp)*pw 0 (2^k-1)=0:=by grind
 rw[h3]at h2;exact absurd h2 (by decide)
theorem pZF {k:Nat}(hk:k≤32)(d:Bool)(H:Hp):Za Tryz.prog 215 #[.int .i64 (k:Int),.int .i64 (if d=true then 1 else 0)] H (RetE (.tuple #[.int .u64 ((rtd d k).val:Int),.int .i64 0]) H):=by
 apply gZU.ok;unfold gZU;refine Zh (by omega) (Zh (by omega) ?_);cases d with
 |false=>
  refine ZS rfl ?_;have h1:Za Tryz.prog 237 #[.int .i64 (k:Int)] H (RetE (.tuple #[.int .u64 ((rt k).val:Int),.int .i64 0]) H):=by
   apply gZR.ok;unfold gZR;refine Za.use (eZ0 hk H) ?_;simp only[HV];refine Za.use (pZ8 hk H) ?_;simp only[HV];exact RetE.mk _ _
  refine Za.use h1 ?_;simp only[HV];exact RetE.mk _ _
 |true=>
  refine aZg (by decide) (ZS rfl ?_);have h1:Za Tryz.prog 238 #[.int .i64 (k:Int)] H (RetE (.tuple #[.int .u64 ((rtd true k).val:Int),.int .i64 0]) H):=by
   apply gZP.ok;unfold gZP;refine Za.use (eZ0 hk H) ?_;simp only[HV];refine Za.use (pZ8 hk H) ?_;simp only[HV];refine Za.use (rZy (dZE _) (xZy hk) H) ?_;have e:kZQ (rt k).val=(rtd true k).val:=by
    unfold kZQ;rw[iZF,iZl,rZV hk];rfl
   rw[e];simp only[HV];exact RetE.mk _ _
  refine Za.use h1 ?_;simp only[HV];exact RetE.mk _ _
def dZm (z:Zp)(n:Nat):List UInt64:=(List.range n).map fun i=>uw (pw z i)
theorem iZ6 (z:Zp)(n:Nat):(dZm z n).length=n:=by simp[dZm]
theorem tZ8 (z:Zp){n i:Nat}(h:i<n):(dZm z n)[i]? =some (uw (pw z i)):=by
 unfold dZm;rw[List.getElem?_map,List.getElem?_range h];rfl
theorem kZl (K:VK)(z:Zp){n r mr:Nat}(hn:n≤1048576){L:List As}
  (hK:∀ H,Sep (pts r (.row (Zc (dZm z n)) 82 mr)::L) H→K (.tuple #[.slice (some ⟨r,0,none⟩) n n,.int .i64 0]) H):
  ∀(t i:Nat) (ys:List UInt64) (H:Hp),i+t=n→ys.length=t→Sep (pts r (.row (Zc (dZm z i++ys)) 82 mr)::L) H→
   aZI.l6 K (t+1) (z.val:Int) (some ⟨r,0,none⟩) n n ((pw z i).val:Int) (n:Int) (i:Int) H
 |0,i,ys,H,hi,hy,hs=>by
  unfold aZI.l6;refine Zh (by omega) (hK H ?_);obtain rfl:ys=[]:=List.length_eq_zero_iff.1 hy;rw[List.append_nil,show i=n by omega]at hs;exact hs
 |t+1,i,ys,H,hi,hy,hs=>by
  unfold aZI.l6;refine Zn (by omega) ⟨by omega,by omega,?_⟩;show St H _ _ _
  rw[Int.toNat_natCast,Nat.mul_one,Addr.add_lit',Addr.add_lit',Nat.zero_add,Nat.add_zero];refine hs.str 0 rfl (by rw[Zr,List.length_append,iZ6];omega) rfl fun H hs=>?_;have e:(Zc (dZm z i++ys)).set i (.int .u64 ((pw z i).val:Int))=Zc (dZm z (i+1)++ys.drop 1):=by
   rw[← jZV,kZ4];congr 1;rw[List.set_append_right _ _ (by rw[iZ6];exact Nat.le_refl _),iZ6,Nat.sub_self];unfold dZm;rw[List.range_succ,List.map_append,List.append_assoc];congr 1;cases ys with
   |nil=>simp at hy
   |cons y ys=>rfl
  rw[e]at hs;refine Za.use (gZ1 (dZE _) (dZE _) H) ?_;rw[iZB];simp only[HV];rw[ZG (x:=(i:Int)+1) (by omega) (by omega),show(i:Int)+1=((i+1:Nat):Int) by omega];exact kZl K z hn hK t (i+1) (ys.drop 1) H (by omega) (by rw[List.length_drop];omega) hs
theorem rZE (z:Zp)(n:Nat)(hn:n≤1048576):Tr Tryz.prog 216 #[.int .u64 (z.val:Int),.int .i64 (n:Int)] [] fun v M=>
  ∃ r,v= .tuple #[.slice (some ⟨r,0,none⟩) n n,.int .i64 0]∧M=[pts r (.row (Zc (dZm z n)) 82 (n*1))]:=fun H hs=>by
 apply aZI.ok;unfold aZI;refine Zh (by omega) (Zh (by omega) ?_);refine hs.mks bZ7 rfl (n:=n) (m:=n) rfl rfl (Nat.le_refl _) (by omega) (by omega) fun r H hs=>?_
 simp only[HV];refine⟨n+1,?_⟩;refine kZl (L:=[]) _ z hn (fun H hs=>⟨_,⟨r,rfl,rfl⟩,hs⟩) n 0 (List.replicate n 0) H (by omega) (by simp) ?_;rw[jZY]at hs;exact hs
theorem nZ8 (k:Nat)(hk:k≤20)(d:Bool):Tr Tryz.prog 191 #[.int .i64 (k:Int),.int .i64 (if d=true then 1 else 0)] [] fun v M=>
  ∃ r,v= .tuple #[.slice (some ⟨r,0,none⟩) (2^(k-1)) (2^(k-1)),.int .i64 0]∧M=[pts r (.row (Zc (dZm (rtd d k) (2^(k-1)))) 82 (2^(k-1)*1))]:=fun H hs=>by
 have h20:=aZF hk;have h19:=aZF (show k-1≤19 by omega);apply fZ9.ok;unfold fZ9;refine Za.use (pZF (by omega) d H) ?_;simp only[HV];refine Zq rfl (Zh (by omega) ?_);rw[cZg (by omega)];refine⟨by omega,by decide,?_⟩;have e:(if(1:Int)>aZq .i64 (aZE .i64 1 (k:Int)) 1 then(1:Int)else aZq .i64 (aZE .i64 1 (k:Int)) 1)=((2^(k-1):Nat):Int):=by
  have:∀ k:Nat,k<21→(if(1:Int)>aZq .i64 (aZE .i64 1 (k:Int)) 1 then(1:Int)else aZq .i64 (aZE .i64 1 (k:Int)) 1)=((2^(k-1):Nat):Int):=by decide +kernel
  exact this k (by omega)
 rw[e];refine(rZE (rtd d k) (2^(k-1)) (by omega)).use hs [] rfl rfl ?_;rintro _ _ H ⟨r,rfl,rfl⟩ hs;simp only[HV];exact⟨_,⟨r,rfl,rfl⟩,hs⟩
def half :Zp:=9223372034707292161
theorem rZ8 :half*2=1:=by decide
theorem wZb :pw 2 (gZ8+1)=1:=by
 unfold gZ8;rw[← oZO 64 2 (18446744069414584319+1) (by decide)];decide +kernel
theorem uZg (k:Nat):pw (pw 2 k) gZ8=pw half k:=by
 have h1:pw (pw 2 k) gZ8*pw 2 k=1:=by
  have:pw (pw 2 k) (gZ8+1)=pw (pw 2 k) gZ8*pw 2 k:=rfl;rw[← this,←bZL,Nat.mul_comm,bZL,wZb,gZj]
 have h2:pw half k*pw 2 k=1:=by rw[← lZF,rZ8,gZj]
 grind
theorem tZf (k:Nat):zp (2^k)=pw 2 k:=pZd 2 k
theorem xZc (k:Nat):2^k%18446744069414584321≠0:=fun h=>by
 have h1:zp (2^k)=0:=Fin.ext h;have h2:pw half k*pw 2 k=1:=by rw[← lZF,rZ8,gZj]
 rw[← tZf,h1]at h2;have h3:pw half k*0=0:=by grind
 rw[h3]at h2;exact absurd h2 (by decide)
theorem nZ6 {k:Nat}(hk:k≤32)(H:Hp):Za Tryz.prog 161 #[.int .i64 (k:Int)] H (RetE (.tuple #[.int .u64 ((pw half k).val:Int),.int .i64 0]) H):=by
 have h32:=aZF hk;apply fZ8.ok;unfold fZ8;refine Zh (by omega) (Zh (by omega) ?_);rw[cZg (by omega)];refine⟨by omega,?_⟩;rw[show(1:Int)=((1:Nat):Int)from rfl,rZb (x:=1) rfl (by omega),Nat.one_mul,Nat.mod_eq_of_lt (by omega)];refine Za.use (rZy (by omega) (xZc k) H) ?_;have e:kZQ (2^k)=(pw half k).val:=by
  unfold kZQ;rw[iZF,tZf,uZg]
 rw[e];simp only[HV];exact RetE.mk _ _
def eZO (z:Zp)(l:List UInt64):List UInt64:=l.map fun x=>uw (zw x*z)
theorem hZT (z:Zp)(l:List UInt64):(eZO z l).length=l.length:=by simp[eZO]
theorem tZY (x w:UInt64):x.toNat*w.toNat%18446744069414584321=(zw x*zw w).val:=by
 rw[← iZB];show _=x.toNat%18446744069414584321*(w.toNat%18446744069414584321)%18446744069414584321
 rw[← Nat.mul_mod]
theorem lZf (K:VK)(w:UInt64){R:As}{A:OA}{n m r mr:Nat}{l:List UInt64}(hR:∀ H,R H→Cells H A (Zc l))(hl:l.length=n)(hn:n≤4294967296)
  (hK:∀ H,Sep [pts r (.row (Zc (eZO (zw w) l)) 82 mr),R] H→K (.slice (some ⟨r,0,none⟩) n n) H):
  ∀(t i:Nat) (ys:List UInt64) (H:Hp),i+t=n→ys.length=t→Sep [pts r (.row (Zc (eZO (zw w) (l.take i)++ys)) 82 mr),R] H→
   aZQ.l3 K (t+1) (w.toNat:Int) (some ⟨r,0,none⟩) n n A n m (n:Int) (i:Int) H
 |0,i,ys,H,hi,hy,hs=>by
  unfold aZQ.l3;refine Zh (by omega) (hK H ?_);obtain rfl:ys=[]:=List.length_eq_zero_iff.1 hy;rw[List.append_nil,List.take_of_length_le (by omega)]at hs;exact hs
 |t+1,i,ys,H,hi,hy,hs=>by
  have hc:Cells H A (Zc l):=by
   obtain⟨H1,h1,hle⟩:=hs.see 1 rfl;exact(hR H1 h1).le hle
  unfold aZQ.l3;refine Zn (by omega) ?_;have hil:i<l.length:=by omega
  have hg:(Zc l)[i]? =some (.int .u64 ((l[i]).toNat:Int)):=by
   rw[aZ9,List.getElem?_eq_getElem hil];rfl
  refine hc.read hg rfl (by rw[Zr];omega) ?_;simp only[HV];refine Za.use (gZ1 (l[i]).toNat_lt w.toNat_lt H) ?_;rw[tZY];simp only[HV];refine⟨by omega,by omega,?_⟩;show St H _ _ _
  rw[Int.toNat_natCast,Nat.mul_one,Addr.add_lit',Addr.add_lit',Nat.zero_add,Nat.add_zero];have hlt:(eZO (zw w) (l.take i)).length=i:=by rw[hZT,List.length_take];omega
  refine hs.str 0 rfl (by rw[Zr,List.length_append,hlt];omega) rfl fun H hs=>?_;have e:(Zc (eZO (zw w) (l.take i)++ys)).set i (.int .u64 ((zw l[i]*zw w).val:Int))=Zc (eZO (zw w) (l.take (i+1))++ys.drop 1):=by
   rw[← jZV,kZ4];congr 1;rw[List.set_append_right _ _ (by omega),hlt,Nat.sub_self];unfold eZO;rw[List.take_add_one,List.getElem?_eq_getElem hil];simp only[Option.toList,List.map_append,List.append_assoc];congr 1;cases ys with
   |nil=>simp at hy
   |cons y ys=>rfl
  rw[e]at hs;rw[ZG (x:=(i:Int)+1) (by omega) (by omega),show(i:Int)+1=((i+1:Nat):Int) by omega];exact lZf K w hR hl hn hK t (i+1) (ys.drop 1) H (by omega) (by rw[List.length_drop];omega) hs
theorem tZy (w:UInt64){R:As}{A:OA}{n m:Nat}{l:List UInt64}(hR:∀ H,R H→Cells H A (Zc l))(hl:l.length=n)(hn:n≤4294967296):
  Tr Tryz.prog 219 #[.slice A n m,.int .u64 (w.toNat:Int)] [R] fun v M=>
  ∃ r,v= .slice (some ⟨r,0,none⟩) n n∧M=[pts r (.row (Zc (eZO (zw w) l)) 82 (n*1)),R]:=fun H hs=>by
 apply aZQ.ok;unfold aZQ;refine hs.mks bZ7 rfl (n:=n) (m:=n) rfl rfl (Nat.le_refl _) (by omega) (by omega) fun r H hs=>?_
 simp only[HV];refine⟨n+1,?_⟩;refine lZf _ w hR hl hn (fun H hs=>⟨_,⟨r,rfl,rfl⟩,hs⟩) n 0 (List.replicate n 0) H (by omega) (by simp) ?_;rw[jZY]at hs;exact hs.re [1,0] rfl
end Go.Proofs.YtgfildcgihbdaaaGreatDoor.Ker
namespace Go.Proofs.YtgfildcgihbdaaaGreatDoor.W
open Go Go.Hw
theorem cZ5 :Tryz.prog.follows .mixedOrders=true:=by kernel_rfl
def aZ1.l5 (K:VK):Nat→Int→Addr→Int→Hp→Prop
 |0,_,_,_,_=>False
 |k+1,x2,a1,x3,H=>
  let R5:=aZ1.l5 K k
  BIf (decide (x3<2)) (Hz 191 #[.int .i64 x2,.int .i64 x3] H fun v1 H2=>dZ7 v1 fun A1 n1 m1 x4=>(ixI x3 2 (St H2 ((((a1.add 0).add 0).add (x3.toNat*1)).add 0) (.slice A1 n1 m1) fun H3=>R5 x2 a1 (i64.wrap (x3+1)) H3))) (Hz 161 #[.int .i64 x2] H fun v4 H4=>gZ7 v4 fun x5 x6=>(St H4 (((a1.add 0).add 2).add 0) (.int .u64 x5) fun H5=>K (.pointer (some a1)) H5))
def aZ1 (x1:Int)(H:Hp)(K:VK):Prop:=
 BIf (decide (x1<0)) (K (.pointer none) H) (BIf (decide (x1>20)) (K (.pointer none) H) (Nw H (.obj (.cells #[.slice none 0 0,.slice none 0 0,.int .u64 0,.int .i64 x1] 288)) fun b1 H1=>(∃ k,aZ1.l5 K k x1 ⟨b1,0,none⟩ 0 H1)))
def aZ1.l5.L (K:VK)(k:Nat):Mid:=fun E D H=>
 eI E 0 .i64 fun x2=>eN E 3 fun a1=>eI E 14 .i64 fun x3=>Zk D (aZ1.l5 K k x2 a1 x3 H)
def aZ1.Λ5 (_:VK)(_R5:Int→Addr→Int→Hp→Prop):Zt:=Zt.none (fun i=>match Nat.beq i 7 with|true=>some ([],[0,0,0,0,12,28,60,60,1,257,769,1919,3967],0)|false=>none)
def aZ1.Λ (K:VK):Zt:=⟨fun i=>none,fun i=>match Nat.beq i 5 with|true=>some (fun E D H=>∃ k,aZ1.l5.L K k E D H)|false=>none,(fun i=>match Nat.beq i 7 with|true=>some ([],[0,0,0,0,12,28,60,60,1,257,769,1919,3967],0)|false=>none)⟩
theorem aZ1.ok x1 H K (h:aZ1 x1 H K):Za Tryz.prog 172 #[.int .i64 x1] H K:=
 okL (Λ:=(aZ1.Λ K)) cZ5 Tryz.func172 rfl rfl h (oC (fun E D H h=>by
   refine Safe.loop' (aZ1.l5.L K) (fun E D H h=>?_) (fun k E D H h=>?_) E D H h
   ·obtain⟨w0,e0,g1⟩:=DG.out h;obtain⟨x2,rfl,g2⟩:=DI.out g1;obtain⟨w3,e3,g3⟩:=DG.out g2;obtain⟨pw3,rfl,g4⟩:=DP.out g3;obtain⟨a1,rfl,g5⟩:=NN.out g4;obtain⟨w14,e14,g6⟩:=DG.out g5;obtain⟨x3,rfl,g7⟩:=DI.out g6;obtain⟨rfl,h'⟩:=Zk.out g7;exact h'
   ·obtain⟨x2,e0,g2⟩:=GI h;obtain⟨a1,e3,g5⟩:=GN g2;obtain⟨x3,e14,g7⟩:=GI g5;obtain⟨rfl,h'⟩:=Zk.out g7;exact okJ (Λ:=(aZ1.Λ5 K (aZ1.l5 K k))) cZ5 [] (Zb.cons e0 (Zb.cons e3 (Zb.cons e14 (Zb.nil _)))) h' oN) oN)
def Zv.l13 (K:VK):Nat→OA→Nat→Nat→OA→Nat→Nat→Int→Hp→Prop
 |0,_,_,_,_,_,_,_,_=>False
 |k+1,A7,n7,m7,A8,n8,m8,x8,H=>
  let R13:=Zv.l13 K k
  BIf (decide (x8<(n7:Int))) (Hz 241 #[.slice A7 n7 m7,.slice A8 n8 m8,.int .i64 x8] H fun v10 H5=>R13 A7 n7 m7 A8 n8 m8 (i64.wrap (x8*2)) H5) (K (.int .i64 0) H)
def Zv.l8 (K:VK):Nat→OA→Nat→Nat→OA→Nat→Nat→OA→Nat→Nat→Int→Int→Hp→Prop
 |0,_,_,_,_,_,_,_,_,_,_,_,_=>False
 |k+1,A4,n4,m4,A5,n5,m5,A6,n6,m6,x4,x5,H=>
  let R8:=Zv.l8 K k
  BIf (decide (x5<x4)) (ixI x5 n6 (NN A6 fun a3=>LeW H (a3.add (x5.toNat*1)) fun x6=>HcW 213 #[.int .u64 x6] H fun x7 H3=>ixI x5 n4 (NN A4 fun a4=>St H3 ((a4.add (x5.toNat*1)).add 0) (.int .u64 x7) fun H4=>R8 A4 n4 m4 A5 n5 m5 A6 n6 m6 x4 (i64.wrap (x5+1)) H4))) ((∃ k,Zv.l13 K k A4 n4 m4 A5 n5 m5 1 H))
def Zv (p1 A1:OA)(n1 m1:Nat)(x1:Int)(H:Hp)(K:VK):Prop:=
 NN p1 fun a1=>LeI H (a1.add 3) fun x2=>(0≤(u64.wrap x2)∧BIf ((n1:Int) !=(aZE .i64 1 (u64.wrap x2))) (K (.int .i64 4) H) (NN p1 fun a2=>Hz 239 #[.pointer (some (a2.add 0)),.int .i64 x1] H fun v2 H1=>tZC v2 fun A2 n2 m2 c1=>(BIf (!c1) (K (.int .i64 18) H1) (Hz 240 #[.slice A1 n1 m1] H1 fun v5 H2=>dZ7 v5 fun A3 n3 m3 x3=>((∃ k,Zv.l8 K k A1 n1 m1 A2 n2 m2 A3 n3 m3 (n3:Int) 0 H2))))))
def Zv.l8.L (K:VK)(k:Nat):Mid:=fun E D H=>
 DG (E.get? 1) fun w1=>DSl w1 fun A4 n4 m4=>DG (E.get? 7) fun w7=>DSl w7 fun A5 n5 m5=>DG (E.get? 38) fun w38=>DSl w38 fun A6 n6 m6=>eI E 39 .i64 fun x4=>eI E 40 .i64 fun x5=>Zk D (Zv.l8 K k A4 n4 m4 A5 n5 m5 A6 n6 m6 x4 x5 H)
def Zv.l13.L (K:VK)(k:Nat):Mid:=fun E D H=>
 DG (E.get? 1) fun w1=>DSl w1 fun A7 n7 m7=>DG (E.get? 7) fun w7=>DSl w7 fun A8 n8 m8=>eI E 13 .i64 fun x8=>Zk D (Zv.l13 K k A7 n7 m7 A8 n8 m8 x8 H)
def Zv.Λ8 (_:VK)(_R8:OA→Nat→Nat→OA→Nat→Nat→OA→Nat→Nat→Int→Int→Hp→Prop):Zt:=Zt.none (fun _=>none)
def Zv.Λ13 (_:VK)(_R13:OA→Nat→Nat→OA→Nat→Nat→Int→Hp→Prop):Zt:=Zt.none (fun _=>none)
def Zv.Λ (K:VK):Zt:=⟨fun i=>none,fun i=>match Nat.beq i 13 with|true=>some (fun E D H=>∃ k,Zv.l13.L K k E D H)|false=>match Nat.beq i 8 with|true=>some (fun E D H=>∃ k,Zv.l8.L K k E D H)|false=>none,(fun _=>none)⟩
theorem Zv.ok p1 A1 n1 m1 x1 H K (h:Zv p1 A1 n1 m1 x1 H K):Za Tryz.prog 217 #[.pointer p1,.slice A1 n1 m1,.int .i64 x1] H K:=
 okL (Λ:=(Zv.Λ K)) cZ5 Tryz.func217 rfl rfl h (oC (fun E D H h=>by
   refine Safe.loop' (Zv.l8.L K) (fun E D H h=>?_) (fun k E D H h=>?_) E D H h
   ·obtain⟨w1,e1,g1⟩:=DG.out h;obtain⟨A4,n4,m4,rfl,g2⟩:=DSl.out g1;obtain⟨w7,e7,g3⟩:=DG.out g2;obtain⟨A5,n5,m5,rfl,g4⟩:=DSl.out g3;obtain⟨w38,e38,g5⟩:=DG.out g4;obtain⟨A6,n6,m6,rfl,g6⟩:=DSl.out g5;obtain⟨w39,e39,g7⟩:=DG.out g6;obtain⟨x4,rfl,g8⟩:=DI.out g7;obtain⟨w40,e40,g9⟩:=DG.out g8;obtain⟨x5,rfl,g10⟩:=DI.out g9;obtain⟨rfl,h'⟩:=Zk.out g10;exact h'
   ·obtain⟨w1,e1,g1⟩:=DG.out h;obtain⟨A4,n4,m4,rfl,g2⟩:=DSl.out g1;obtain⟨w7,e7,g3⟩:=DG.out g2;obtain⟨A5,n5,m5,rfl,g4⟩:=DSl.out g3;obtain⟨w38,e38,g5⟩:=DG.out g4;obtain⟨A6,n6,m6,rfl,g6⟩:=DSl.out g5;obtain⟨x4,e39,g8⟩:=GI g6;obtain⟨x5,e40,g10⟩:=GI g8;obtain⟨rfl,h'⟩:=Zk.out g10;exact okJ (Λ:=(Zv.Λ8 K (Zv.l8 K k))) cZ5 [] (Zb.cons e1 (Zb.cons e7 (Zb.cons e38 (Zb.cons e39 (Zb.cons e40 (Zb.nil _)))))) h' oN) (oC (fun E D H h=>by
   refine Safe.loop' (Zv.l13.L K) (fun E D H h=>?_) (fun k E D H h=>?_) E D H h
   ·obtain⟨w1,e1,g1⟩:=DG.out h;obtain⟨A7,n7,m7,rfl,g2⟩:=DSl.out g1;obtain⟨w7,e7,g3⟩:=DG.out g2;obtain⟨A8,n8,m8,rfl,g4⟩:=DSl.out g3;obtain⟨w13,e13,g5⟩:=DG.out g4;obtain⟨x8,rfl,g6⟩:=DI.out g5;obtain⟨rfl,h'⟩:=Zk.out g6;exact h'
   ·obtain⟨w1,e1,g1⟩:=DG.out h;obtain⟨A7,n7,m7,rfl,g2⟩:=DSl.out g1;obtain⟨w7,e7,g3⟩:=DG.out g2;obtain⟨A8,n8,m8,rfl,g4⟩:=DSl.out g3;obtain⟨x8,e13,g6⟩:=GI g4;obtain⟨rfl,h'⟩:=Zk.out g6;exact okJ (Λ:=(Zv.Λ13 K (Zv.l13 K k))) cZ5 [] (Zb.cons e1 (Zb.cons e7 (Zb.cons e13 (Zb.nil _)))) h' oN) oN))
def bZS (p1:OA)(x1:Int)(H:Hp)(K:VK):Prop:=
 BIf (decide (x1<0)) (K (.tuple #[.slice none 0 0,.bool false]) H) (BIf (decide (x1>1)) (K (.tuple #[.slice none 0 0,.bool false]) H) (NN p1 fun a1=>ixI x1 2 (LeS H ((a1.add 0).add (x1.toNat*1)) fun A1 n1 m1=>K (.tuple #[.slice A1 n1 m1,.bool true]) H)))
theorem bZS.ok p1 x1 H K (h:bZS p1 x1 H K):Za Tryz.prog 239 #[.pointer p1,.int .i64 x1] H K:=
 okN cZ5 Tryz.func239 rfl rfl h
def ZB.l5.q1 (x10 x11 x12:Int)(H:Hp)(x7 x9:Int)(n5:Nat)(A5:OA)(x5:Int)(R5:OA→Nat→Nat→OA→Nat→Nat→Int→Int→Int→Int→Int→Hp→Prop)(m5:Nat)(A6:OA)(n6 m6:Nat)(x6 x8:Int):Prop:=
 Hz 256 #[.int .u64 x10,.int .u64 x11,.int .u64 x12] H fun v4 H1=>nZ9 v4 fun x13 x14=>(ixI (i64.wrap (x7+x9)) n5 (NN A5 fun a4=>St H1 ((a4.add ((i64.wrap (x7+x9)).toNat*1)).add 0) (.int .u64 x13) fun H2=>ixI (i64.wrap ((i64.wrap (x7+x9))+x5)) n5 (NN A5 fun a5=>St H2 ((a5.add ((i64.wrap ((i64.wrap (x7+x9))+x5)).toNat*1)).add 0) (.int .u64 x14) fun H3=>R5 A5 n5 m5 A6 n6 m6 x5 x6 x7 x8 (i64.wrap (x9+1)) H3)))
def ZB.l5 (K:VK)(R2:OA→Nat→Nat→OA→Nat→Nat→Int→Int→Int→Hp→Prop):Nat→OA→Nat→Nat→OA→Nat→Nat→Int→Int→Int→Int→Int→Hp→Prop
 |0,_,_,_,_,_,_,_,_,_,_,_,_=>False
 |k+1,A5,n5,m5,A6,n6,m6,x5,x6,x7,x8,x9,H=>
  let R5:=ZB.l5 K R2 k
  BIf (decide (x9<x8)) (ixI (i64.wrap (x7+x9)) n5 (NN A5 fun a1=>ixI (i64.wrap ((i64.wrap (x7+x9))+x5)) n5 (NN A5 fun a2=>ixI (i64.wrap (x9*x6)) n6 (NN A6 fun a3=>(LeW H (a1.add ((i64.wrap (x7+x9)).toNat*1)) fun x10=>(LeW H (a2.add ((i64.wrap ((i64.wrap (x7+x9))+x5)).toNat*1)) fun x11=>LeW H (a3.add ((i64.wrap (x9*x6)).toNat*1)) fun x12=>ZB.l5.q1 x10 x11 x12 H x7 x9 n5 A5 x5 R5 m5 A6 n6 m6 x6 x8)∧(LeW H (a3.add ((i64.wrap (x9*x6)).toNat*1)) fun x15=>LeW H (a2.add ((i64.wrap ((i64.wrap (x7+x9))+x5)).toNat*1)) fun x16=>ZB.l5.q1 x10 x16 x15 H x7 x9 n5 A5 x5 R5 m5 A6 n6 m6 x6 x8))∧(LeW H (a2.add ((i64.wrap ((i64.wrap (x7+x9))+x5)).toNat*1)) fun x19=>(LeW H (a1.add ((i64.wrap (x7+x9)).toNat*1)) fun x20=>LeW H (a3.add ((i64.wrap (x9*x6)).toNat*1)) fun x21=>ZB.l5.q1 x20 x19 x21 H x7 x9 n5 A5 x5 R5 m5 A6 n6 m6 x6 x8)∧(LeW H (a3.add ((i64.wrap (x9*x6)).toNat*1)) fun x24=>LeW H (a1.add ((i64.wrap (x7+x9)).toNat*1)) fun x25=>ZB.l5.q1 x25 x19 x24 H x7 x9 n5 A5 x5 R5 m5 A6 n6 m6 x6 x8))∧(LeW H (a3.add ((i64.wrap (x9*x6)).toNat*1)) fun x28=>(LeW H (a1.add ((i64.wrap (x7+x9)).toNat*1)) fun x29=>LeW H (a2.add ((i64.wrap ((i64.wrap (x7+x9))+x5)).toNat*1)) fun x30=>ZB.l5.q1 x29 x30 x28 H x7 x9 n5 A5 x5 R5 m5 A6 n6 m6 x6 x8)∧(LeW H (a2.add ((i64.wrap ((i64.wrap (x7+x9))+x5)).toNat*1)) fun x33=>LeW H (a1.add ((i64.wrap (x7+x9)).toNat*1)) fun x34=>ZB.l5.q1 x34 x33 x28 H x7 x9 n5 A5 x5 R5 m5 A6 n6 m6 x6 x8)))))) (R2 A5 n5 m5 A6 n6 m6 x5 x6 (i64.wrap (x7+(i64.wrap (2*x5)))) H)
def ZB.l2 (K:VK):Nat→OA→Nat→Nat→OA→Nat→Nat→Int→Int→Int→Hp→Prop
 |0,_,_,_,_,_,_,_,_,_,_=>False
 |k+1,A3,n3,m3,A4,n4,m4,x2,x3,x4,H=>
  let R2:=ZB.l2 K k
  BIf (decide (x4<(n3:Int))) ((∃ k,ZB.l5 K R2 k A3 n3 m3 A4 n4 m4 x2 x3 x4 x2 0 H)) (K (.tuple #[]) H)
def ZB (A1:OA)(n1 m1:Nat)(A2:OA)(n2 m2:Nat)(x1:Int)(H:Hp)(K:VK):Prop:=
 ((i64.wrap (2*x1))≠0∧i64=i64∧(∃ k,ZB.l2 K k A1 n1 m1 A2 n2 m2 x1 (i64.wrap (Int.tdiv (n1:Int) (i64.wrap (2*x1)))) 0 H))
def ZB.l2.L (K:VK)(k:Nat):Mid:=fun E D H=>
 DG (E.get? 0) fun w0=>DSl w0 fun A3 n3 m3=>DG (E.get? 1) fun w1=>DSl w1 fun A4 n4 m4=>eI E 2 .i64 fun x2=>eI E 6 .i64 fun x3=>eI E 7 .i64 fun x4=>Zk D (ZB.l2 K k A3 n3 m3 A4 n4 m4 x2 x3 x4 H)
def ZB.l5.L (K:VK)(R2:OA→Nat→Nat→OA→Nat→Nat→Int→Int→Int→Hp→Prop)(k:Nat):Mid:=fun E D H=>
 DG (E.get? 0) fun w0=>DSl w0 fun A5 n5 m5=>DG (E.get? 1) fun w1=>DSl w1 fun A6 n6 m6=>eI E 2 .i64 fun x5=>eI E 6 .i64 fun x6=>eI E 7 .i64 fun x7=>eI E 24 .i64 fun x8=>eI E 25 .i64 fun x9=>Zk D (ZB.l5 K R2 k A5 n5 m5 A6 n6 m6 x5 x6 x7 x8 x9 H)
def ZB.Λ5 (_:VK)(_R2:OA→Nat→Nat→OA→Nat→Nat→Int→Int→Int→Hp→Prop)(_R5:OA→Nat→Nat→OA→Nat→Nat→Int→Int→Int→Int→Int→Hp→Prop):Zt:=Zt.none (fun i=>match Nat.beq i 8 with|true=>some ([],[0,0,0,0,0,0,48,112,0,0,768,1792,0,0,0,24576,61440,126976,262128,524272,1048560,1048560,2097139,6291443,16777215,33554431],0)|false=>none)
def ZB.Λ2 (K:VK)(R2:OA→Nat→Nat→OA→Nat→Nat→Int→Int→Int→Hp→Prop):Zt:=⟨fun i=>none,fun i=>match Nat.beq i 5 with|true=>some (fun E D H=>∃ k,ZB.l5.L K R2 k E D H)|false=>none,(fun i=>match Nat.beq i 8 with|true=>some ([],[0,0,0,0,0,0,48,112,0,0,768,1792,0,0,0,24576,61440,126976,262128,524272,1048560,1048560,2097139,6291443,16777215,33554431],0)|false=>none)⟩
def ZB.Λ (K:VK):Zt:=⟨fun i=>none,fun i=>match Nat.beq i 2 with|true=>some (fun E D H=>∃ k,ZB.l2.L K k E D H)|false=>none,(fun i=>match Nat.beq i 8 with|true=>some ([],[0,0,0,0,0,0,48,112,0,0,768,1792,0,0,0,24576,61440,126976,262128,524272,1048560,1048560,2097139,6291443,16777215,33554431],0)|false=>none)⟩
theorem ZB.ok A1 n1 m1 A2 n2 m2 x1 H K (h:ZB A1 n1 m1 A2 n2 m2 x1 H K):Za Tryz.prog 241 #[.slice A1 n1 m1,.slice A2 n2 m2,.int .i64 x1] H K:=
 okL (Λ:=(ZB.Λ K)) cZ5 Tryz.func241 rfl rfl h (oC (fun E D H h=>by
   refine Safe.loop' (ZB.l2.L K) (fun E D H h=>?_) (fun k E D H h=>?_) E D H h
   ·obtain⟨w0,e0,g1⟩:=DG.out h;obtain⟨A3,n3,m3,rfl,g2⟩:=DSl.out g1;obtain⟨w1,e1,g3⟩:=DG.out g2;obtain⟨A4,n4,m4,rfl,g4⟩:=DSl.out g3;obtain⟨w2,e2,g5⟩:=DG.out g4;obtain⟨x2,rfl,g6⟩:=DI.out g5;obtain⟨w6,e6,g7⟩:=DG.out g6;obtain⟨x3,rfl,g8⟩:=DI.out g7;obtain⟨w7,e7,g9⟩:=DG.out g8;obtain⟨x4,rfl,g10⟩:=DI.out g9;obtain⟨rfl,h'⟩:=Zk.out g10;exact h'
   ·obtain⟨w0,e0,g1⟩:=DG.out h;obtain⟨A3,n3,m3,rfl,g2⟩:=DSl.out g1;obtain⟨w1,e1,g3⟩:=DG.out g2;obtain⟨A4,n4,m4,rfl,g4⟩:=DSl.out g3;obtain⟨x2,e2,g6⟩:=GI g4;obtain⟨x3,e6,g8⟩:=GI g6;obtain⟨x4,e7,g10⟩:=GI g8;obtain⟨rfl,h'⟩:=Zk.out g10;exact okJ (Λ:=(ZB.Λ2 K (ZB.l2 K k))) cZ5 [] (Zb.cons e0 (Zb.cons e1 (Zb.cons e2 (Zb.cons e6 (Zb.cons e7 (Zb.nil _)))))) h' (oC (fun E D H h=>by
      refine Safe.loop' (ZB.l5.L K (ZB.l2 K k)) (fun E D H h=>?_) (fun k E D H h=>?_) E D H h
      ·obtain⟨w0,e0,g1⟩:=DG.out h;obtain⟨A5,n5,m5,rfl,g2⟩:=DSl.out g1;obtain⟨w1,e1,g3⟩:=DG.out g2;obtain⟨A6,n6,m6,rfl,g4⟩:=DSl.out g3;obtain⟨w2,e2,g5⟩:=DG.out g4;obtain⟨x5,rfl,g6⟩:=DI.out g5;obtain⟨w6,e6,g7⟩:=DG.out g6;obtain⟨x6,rfl,g8⟩:=DI.out g7;obtain⟨w7,e7,g9⟩:=DG.out g8;obtain⟨x7,rfl,g10⟩:=DI.out g9;obtain⟨w24,e24,g11⟩:=DG.out g10;obtain⟨x8,rfl,g12⟩:=DI.out g11;obtain⟨w25,e25,g13⟩:=DG.out g12;obtain⟨x9,rfl,g14⟩:=DI.out g13;obtain⟨rfl,h'⟩:=Zk.out g14;exact h'
      ·obtain⟨w0,e0,g1⟩:=DG.out h;obtain⟨A5,n5,m5,rfl,g2⟩:=DSl.out g1;obtain⟨w1,e1,g3⟩:=DG.out g2;obtain⟨A6,n6,m6,rfl,g4⟩:=DSl.out g3;obtain⟨x5,e2,g6⟩:=GI g4;obtain⟨x6,e6,g8⟩:=GI g6;obtain⟨x7,e7,g10⟩:=GI g8;obtain⟨x8,e24,g12⟩:=GI g10;obtain⟨x9,e25,g14⟩:=GI g12;obtain⟨rfl,h'⟩:=Zk.out g14;exact okJ (Λ:=(ZB.Λ5 K (ZB.l2 K k) (ZB.l5 K (ZB.l2 K k) k))) cZ5 [] (Zb.cons e0 (Zb.cons e1 (Zb.cons e2 (Zb.cons e6 (Zb.cons e7 (Zb.cons e24 (Zb.cons e25 (Zb.nil _)))))))) h' oN) oN)) oN)
def dZR (x1 x2 x3:Int)(H:Hp)(K:VK):Prop:=
 HcW 236 #[.int .u64 x2,.int .u64 x3] H fun x4 H1=>HcW 263 #[.int .u64 x1,.int .u64 x4] H1 fun x5 H2=>HcW 264 #[.int .u64 x1,.int .u64 x4] H2 fun x6 H3=>K (.tuple #[.int .u64 x5,.int .u64 x6]) H3
theorem dZR.ok x1 x2 x3 H K (h:dZR x1 x2 x3 H K):Za Tryz.prog 256 #[.int .u64 x1,.int .u64 x2,.int .u64 x3] H K:=
 okN cZ5 Tryz.func256 rfl rfl h
end Go.Proofs.YtgfildcgihbdaaaGreatDoor.W
namespace Go.Proofs.YtgfildcgihbdaaaGreatDoor.Ker
open Go Go.Hw W Shp Gol Fft
def fZA (z:Zp)(l:List UInt64)(n:Nat):List UInt64:=(List.range n).map fun c=>uw (at' l c*pw z c)
def kZg (z:Zp)(l:List UInt64):List UInt64:=fZA z l l.length
theorem sZZ (z:Zp)(l:List UInt64)(n:Nat):(fZA z l n).length=n:=by simp[fZA]
theorem jZU (z:Zp)(l:List UInt64):(kZg z l).length=l.length:=sZZ _ _ _
theorem rZh (z:Zp)(l:List UInt64)(n:Nat):fZA z l (n+1)=fZA z l n++[uw (at' l n*pw z n)]:=by
 unfold fZA;rw[List.range_succ,List.map_append];rfl
theorem qZ4 {n r:Nat}(hn:1≤n∧n≤1048576)(hr:r≤4294967295)(H:Hp):Za Tryz.prog 242 #[.agg #[.int .i64 1,.int .i64 (n:Int),.int .i64 (r:Int),.int .i64 0]] H (RetE (.bool true) H):=Za.ret (by
 have hin:∀{x:Nat} (H:Hp),x≤4294967295→Za Tryz.prog 257 #[.int .i64 (x:Int)] H (RetE (.bool true) H):=fun{x} H hx=>by
  apply fZz.ok;unfold fZz;refine Zn (by omega) ?_;rw[decide_eq_true (by omega)];exact RetE.mk _ _
 apply eZY.ok;unfold eZY;refine(Sep.start H).nw fun b1 H1 hs=>?_
 refine hs.ldf 1 rfl rfl ?_;simp only[HV];refine Za.use (hin H1 hr) ?_;simp only[HV];refine hs.ldf 1 rfl rfl ?_;simp only[HV];refine Za.use (hin (x:=0) H1 (by omega)) ?_;simp only[HV];refine hs.ldg 1 rfl rfl ?_;simp only[HV];refine hs.ldf 1 rfl rfl ?_;simp only[HV];rw[ZG (x:=1-1) (by decide) (by decide),ZG (x:=4294967295-(r:Int)) (by omega) (by omega)];refine Zn (by omega) ?_;refine hs.ldg 1 rfl rfl ?_;simp only[HV];refine hs.ldf 1 rfl rfl ?_;simp only[HV];rw[ZG (x:=(n:Int)-1) (by omega) (by omega),ZG (x:=4294967295-0) (by decide) (by decide),decide_eq_true (by omega)];exact hs.fin 0 rfl _)
section
variable {R TT : As} {A : Option Addr} {n m k r : Nat} {l : List UInt64}
theorem mZF (K:VK)(R10:OA→Nat→Nat→Addr→Int→OA→Nat→Nat→Int→Int→Hp→Prop)(z:Zp){A5:OA}{n7 m5:Nat}{a2:Addr}{x21 x24 x25:Int}{A7:OA}{m7:Nat}{L:List As}
  (hR:∀ H,R H→Cells H A7 (Zc l)) (hl:l.length=n) (hn:n≤1048576)
  (hK:∀ A' m' H,Sep (Own 82 1 A' n m' (Zc (kZg z l))::R::L) H→R10 A5 n7 m5 a2 x21 A' n m' x24 (i64.wrap (x25+1)) H):
  ∀(t i:Nat) (A':OA) (m':Nat) (H:Hp),i+t=n→Sep (Own 82 1 A' i m' (Zc (fZA z l i))::R::L) H→
   ZW.l15 K R10 (t+1) A5 n7 m5 a2 x21 A' i m' (z.val:Int) ((pw z i).val:Int) x24 x25 A7 n m7 (n:Int) (i:Int) H
 |0,i,A',m',H,hi,hs=>by
  unfold ZW.l15;obtain rfl:i=n:=by omega
  refine Zh (by omega) (hK A' m' H ?_);unfold kZg;rw[hl];exact hs
 |t+1,i,A',m',H,hi,hs=>by
  have hc:Cells H A7 (Zc l):=by
   obtain⟨H1,h1,hle⟩:=hs.see 1 rfl;exact(hR H1 h1).le hle
  unfold ZW.l15;refine Zn (by omega) ?_;have hil:i<l.length:=by omega
  have hg:(Zc l)[i]? =some (.int .u64 ((l[i]).toNat:Int)):=by
   rw[aZ9,List.getElem?_eq_getElem hil];rfl
  refine hc.read hg rfl (by rw[Zr];omega) ?_;simp only[HV];refine Za.use (gZ1 (l[i]).toNat_lt (dZE _) H) ?_;rw[tZZ];simp only[HV];refine hs.app1 0 rfl bZ7 (by omega) rfl (by omega) (by omega) fun A2 m2 H hs=>?_
  simp only[HV];refine Za.use (gZ1 (dZE _) (dZE _) H) ?_;rw[iZB];simp only[HV];rw[ZG (x:=(i:Int)+1) (by omega) (by omega),show(i:Int)+1=((i+1:Nat):Int) by omega];refine mZF K R10 z hR hl hn hK t (i+1) A2 m2 H (by omega) ?_;rw[rZh,show Zc (fZA z l i++[uw (at' l i*pw z i)])=Zc (fZA z l i)++[.int .u64 ((zw l[i]*pw z i).val:Int)] by
   unfold Zc;rw[List.map_append,List.map_cons,jZV,wZI hil];rfl]
  exact hs
theorem vZh (hT:∀ H,TT H→T64 H)(hR:∀ H,R H→Cells H A (Zc l)){b:Nat}(hn:n=2^b)(hb:b≤20)(hl:l.length=n)(hm:n≤m)(hk:k≤32)(hr:r≤4294967295)(d:Bool):
  Tr Tryz.prog 218 #[.slice A n m,.agg #[.int .i64 1,.int .i64 (n:Int),.int .i64 (r:Int),.int .i64 0],.int .i64 (k:Int),.int .i64 (if d=true then 1 else 0)] [R,TT] fun v M=>
   ∃ A' m',v= .tuple #[.slice A' n m',.int .i64 0]∧M=[Own 82 1 A' n m' (Zc (kZg (pw (rtd d k) r) l)),R,TT]:=fun H hs=>by
 have h20:=aZF hb;have h1:=pow_pos b;apply ZW.ok;unfold ZW;refine hs.nw fun b1 H hs=>?_
 have hs:Sep [R,TT,pts b1 (.obj (.cells #[.int .i64 1,.int .i64 (n:Int),.int .i64 (r:Int),.int .i64 0] 315))] H:=hs;refine Za.use (pZF hk d H) ?_;simp only[HV];refine Zq rfl ?_;simp only[Addr.add_zero];refine hs.lda 2 rfl (show 0+2≤4 by omega) ?_;have hT0:T64 H:=by
  obtain⟨H1,h1,hle⟩:=hs.see 1 rfl;exact(hT H1 h1).le hle
 have hg:dZA 1 (n:Int)=true:=by
  have:=fZK (a:=0) (b:=b) (by omega);rw[hn];exact this
 refine Za.use (bZR 1 (n:Int) H hT0) ?_;rw[hg];simp only[HV];refine hs.ld 2 rfl rfl ?_;simp only[HV];refine hs.ldf 2 rfl rfl ?_;simp only[HV];refine Zq (by rw[ZG (by omega) (by omega)];omega) ?_;refine hs.lda 2 rfl (show 0+4≤4 by omega) ?_;refine Za.use (qZ4 (n:=n) (r:=r) ⟨by omega,by omega⟩ hr H) ?_;simp only[HV];refine hs.mks bZ7 rfl (n:=0) (m:=n) rfl rfl (by omega) (by omega) (by omega) fun bo H hs=>?_
 simp only[HV];refine hs.ld 2 rfl rfl ?_;simp only[HV];have hs:Sep [R,TT,pts b1 (.obj (.cells #[.int .i64 1,.int .i64 (n:Int),.int .i64 (r:Int),.int .i64 0] 315)),Own 82 1 (some ⟨bo,0,none⟩) 0 n (Zc (fZA (pw (rtd d k) r) l 0))] H:=
  hs.turn 3 rfl (B:=Own 82 1 (some ⟨bo,0,none⟩) 0 n (Zc (fZA (pw (rtd d k) r) l 0))) (fun H1 h=>⟨rfl,.inr ⟨bo,n*1,rfl,h,Nat.le_refl _⟩⟩)
 refine⟨2,?_⟩;unfold ZW.l10;refine Zn (by decide) ?_;refine hs.ldf 2 rfl rfl ?_;simp only[HV];rw[show u64.wrap (i64.wrap ((r:Int)+0))=(r:Int) by rw[ZG (by omega) (by omega),eZp (by omega) (by omega)];omega];refine Za.use (lZd (dZE _) (n:=r) (by omega) H) ?_;rw[iZF,iZl];simp only[HV];refine hs.ldf 2 rfl rfl ?_;simp only[HV];refine Za.use (lZd (dZE _) (n:=0) (by decide) H) ?_;rw[iZF,iZl];simp only[HV];refine hs.ldf 2 rfl rfl ?_;simp only[HV];refine hs.ldf 2 rfl rfl ?_;simp only[HV];rw[show i64.wrap (0*(n:Int))=((0:Nat):Int) by rw[Int.zero_mul];rfl,show i64.wrap (i64.wrap (0+1)*(n:Int))=(n:Int) by
  rw[show i64.wrap (0+1)=1 by decide,ZG (by omega) (by omega)];omega]
 refine⟨by omega,by omega,by omega,by omega,?_⟩;rw[Int.toNat_natCast,Int.toNat_natCast];simp only[Nat.sub_zero];refine⟨n+1,?_⟩;have hR':∀ H,R H→Cells H (slA A m 0 1) (Zc l):=fun H h=>(hR H h).shift (by rw[Zr];omega)
 refine mZF (L:=[TT]) _ _ (pw (rtd d k) r) hR' hl (by omega) (fun A' m' H hs=>?_) n 0 (some ⟨bo,0,none⟩) n H (by omega) (hs.re [3,0,1] rfl);unfold ZW.l10;refine Zh (by decide) ?_;exact⟨_,⟨A',m',rfl,rfl⟩,hs⟩
end
theorem nZY (x y p:Zp)(H:Hp):Za Tryz.prog 256 #[.int .u64 ((uw x).toNat:Int),.int .u64 ((uw y).toNat:Int),.int .u64 ((uw p).toNat:Int)] H (RetE (.tuple #[.int .u64 ((uw (x+y*p)).toNat:Int),.int .u64 ((uw (x-y*p)).toNat:Int)]) H):=by
 apply dZR.ok;unfold dZR;simp only[jZV];refine Za.use (gZ1 (dZE _) (dZE _) H) ?_;rw[iZB];simp only[HV];refine Za.use (kZ5 (dZE _) (dZE _) H) ?_;simp only[HV];refine Za.use (wZB (dZE _) (dZE _) H) ?_;simp only[HV];have e1:(x.val+(y*p).val)%18446744069414584321=(x+y*p).val:=(Fin.val_add x (y*p)).symm;have e2:sub x.val (y*p).val=(x-y*p).val:=by
  have h1:=x.isLt;have h2:=(y*p).isLt;rw[Fin.sub_def];show(x.val+(18446744069414584321-(y*p).val%18446744069414584321)%18446744069414584321)%18446744069414584321=(18446744069414584321-(y*p).val+x.val)%18446744069414584321
  omega
 rw[e1,e2];exact RetE.mk _ _
theorem mZq {xs:List Value}{ws:List UInt64}{off p:Nat}(h:off+ws.length≤xs.length)(hp:p<ws.length):(setAt xs off (Zc ws))[off+p]? =some (.int .u64 ((ws[p]).toNat:Int)):=by
 rw[bZP (by rw[Zr];exact h),if_neg (by omega),Zr,if_pos (by omega),Nat.add_sub_cancel_left,aZ9,List.getElem?_eq_getElem hp];rfl
theorem iZH {xs:List Value}{ws:List UInt64}{off:Nat}(h:off+ws.length≤xs.length):(setAt xs off (Zc ws)).length=xs.length:=cZH (by rw[Zr];exact h)
theorem mZr {xs:List Value}{ws:List UInt64}{off p:Nat}(h:off+ws.length≤xs.length)(hp:p<ws.length)(w:UInt64):(setAt xs off (Zc ws)).set (off+p) (.int .u64 (w.toNat:Int))=setAt xs off (Zc (ws.set p w)):=by
 apply List.ext_getElem?;intro j;rw[List.getElem?_set,iZH h,bZP (by rw[Zr];exact h),bZP (by rw[Zr,List.length_set];exact h),Zr,Zr,List.length_set];by_cases e:off+p=j
 ·subst e;rw[if_pos rfl,if_pos (by omega),if_neg (by omega),if_pos (by omega),Nat.add_sub_cancel_left,aZ9,List.getElem?_set,if_pos rfl,if_pos hp];rfl
 ·rw[if_neg e];by_cases h1:j<off
  ·rw[if_pos h1,if_pos h1]
  ·rw[if_neg h1,if_neg h1];by_cases h2:j<off+ws.length
   ·rw[if_pos h2,if_pos h2,aZ9,aZ9,List.getElem?_set,if_neg (by omega)]
   ·rw[if_neg h2,if_neg h2]
section
variable {w : Zp} {k : Nat} {l : Nat → Zp} {s b off mm n m n2 m2:Nat} {xs : List Value} {e : TypeId} {R : As} {A : Option Addr}
theorem oZ3 (K:VK)(R2:OA→Nat→Nat→OA→Nat→Nat→Int→Int→Int→Hp→Prop)(hn:n=2^k)(hk:k≤20)(hsk:s<k)(hw:pw w (2^(k-1))=-1)(hx:off+n≤xs.length)(hR:∀ H,R H→Cells H A (Zc (dZm w (2^(k-1)))))(hn2:n2=2^(k-1))(bl:Nat)(hbl:bl*(2*2^s)+2*2^s≤n)
  (hK:∀ H,Sep [pts b (.row (setAt xs off (Zc (stL w k l s (dn (2^s) (bl+1) 0)))) e mm),R] H→R2 (some ⟨b,off,none⟩) n m A n2 m2 ((2^s:Nat):Int) ((2^(k-s-1):Nat):Int) (i64.wrap (((bl*(2*2^s):Nat):Int)+i64.wrap ((2:Int)*((2^s:Nat):Int)))) H):
  ∀(t i:Nat) (H:Hp),i+t=2^s→Sep [pts b (.row (setAt xs off (Zc (stL w k l s (dn (2^s) bl i)))) e mm),R] H→
   ZB.l5 K R2 (t+1) (some ⟨b,off,none⟩) n m A n2 m2 ((2^s:Nat):Int) ((2^(k-s-1):Nat):Int) ((bl*(2*2^s):Nat):Int) ((2^s:Nat):Int) (i:Int) H
 |0,i,H,hi,hs=>by
  unfold ZB.l5 ZB.l5.q1;refine Zh (by omega) (hK H ?_);rw[← uZk,←show i=2^s by omega];rw[show dn i bl i=dn (2^s) bl i by rw[show i=2^s by omega]];exact hs
 |t+1,i,H,hi,hs=>by
  have h20:=aZF hk;have hst:i*2^(k-s-1)<2^(k-1):=by
   have h1:2^(k-1)=2^s*2^(k-s-1):=by rw[← Nat.pow_add];congr 1;omega
   rw[h1];exact Nat.mul_lt_mul_of_pos_right (by omega) (pow_pos _)
  have h19:=aZF (show k-1≤19 by omega);have e3:i64.wrap ((i:Int)*((2^(k-s-1):Nat):Int))=((i*2^(k-s-1):Nat):Int):=by
   rw[← Int.natCast_mul,aZJ (by omega)]
  have ih:=fun H=>oZ3 K R2 hn hk hsk hw hx hR hn2 bl hbl hK t (i+1) H (by omega)
  obtain⟨g1,g2⟩:=uZp w k l hsk hw bl i (by omega);have hset:=uZl (w:=w) (k:=k) (l:=l) (s:=s) (b:=bl) (i:=i) (2^s) (by omega) (by omega);rw[g1,g2]at hset;have hlen:=kZf w k l s (dn (2^s) bl i);obtain⟨d1,d2⟩:=vZr (2^s) bl i (by omega);have ga0:=hZE w k l s (dn (2^s) bl i) (p:=bl*(2*2^s)+i) (by omega);have gb0:=hZE w k l s (dn (2^s) bl i) (p:=bl*(2*2^s)+i+2^s) (by omega);rw[d1,if_neg (by decide)]at ga0;rw[d2,if_neg (by decide)]at gb0;generalize stg w k l s (bl*(2*2^s)+i)=va at*;generalize stg w k l s (bl*(2*2^s)+i+2^s)=vb at*;generalize stL w k l s (dn (2^s) bl i)=ws at*;generalize hf:bl*(2*2^s)=f at*;generalize hh:2^s=h at*;have hpg:=tZ8 w hst;generalize i*2^(k-s-1)=q at*;have e1:i64.wrap ((f:Int)+(i:Int))=((f+i:Nat):Int):=by rw[← Int.natCast_add,aZJ (by omega)]
  have e2:i64.wrap (((f+i:Nat):Int)+(h:Int))=((f+i+h:Nat):Int):=by rw[← Int.natCast_add,aZJ (by omega)]
  have hc:Cells H A (Zc (dZm w (2^(k-1)))):=by
   obtain⟨H1,h1,hle⟩:=hs.see 1 rfl;exact(hR H1 h1).le hle
  have hpv:(Zc (dZm w (2^(k-1))))[q]? =some (.int .u64 ((uw (pw w q)).toNat:Int)):=by rw[aZ9,hpg];rfl
  obtain⟨a3,rfl,hcell⟩:=hc q _ hpv;unfold ZB.l5 ZB.l5.q1;refine Zn (by omega) ?_;simp only[e1,e2,e3,aZY,Int.toNat_natCast,Nat.mul_one,Addr.add_lit',Addr.add_zero];refine⟨by omega,by omega,by omega,by omega,by omega,by omega,?_⟩;have hla:f+i<ws.length:=by omega
  have hlb:f+i+h<ws.length:=by omega
  have ga:(setAt xs off (Zc ws))[off+(f+i)]? =some (.int .u64 ((uw va).toNat:Int)):=by
   rw[mZq (by omega) hla];rw[List.getElem?_eq_getElem hla]at ga0;rw[Option.some.inj ga0]
  have gb:(setAt xs off (Zc ws))[off+(f+i+h)]? =some (.int .u64 ((uw vb).toNat:Int)):=by
   rw[mZq (by omega) hlb];rw[List.getElem?_eq_getElem hlb]at gb0;rw[Option.some.inj gb0]
  repeat' first
   |refine⟨?_,?_⟩
   |(refine hs.ldr 0 rfl ga ?_;simp only[HV])
   |(refine hs.ldr 0 rfl gb ?_;simp only[HV])
   |(refine gZC hcell ?_;simp only[HV])
  all_goals
   refine Za.use (nZY va vb (pw w q) H) ?_;simp only[HV];refine⟨by omega,by omega,?_⟩;refine hs.str 0 (j:=off+(f+i)) rfl (by rw[iZH (by omega)];omega) rfl fun H hs=>?_;rw[mZr (by omega) hla]at hs;refine⟨by omega,by omega,?_⟩;refine hs.str 0 (j:=off+(f+i+h)) rfl (by rw[iZH (by rw[List.length_set];omega)];omega) rfl fun H hs=>?_;rw[mZr (by rw[List.length_set];omega) (by rw[List.length_set];exact hlb),hset]at hs;rw[ZG (x:=(i:Int)+1) (by omega) (by omega),show(i:Int)+1=((i+1:Nat):Int) by omega];exact ih H hs
theorem uZn (hn:n=2^k)(hk:k≤20)(hsk:s<k)(hw:pw w (2^(k-1))=-1)(hx:off+n≤xs.length)(hR:∀ H,R H→Cells H A (Zc (dZm w (2^(k-1)))))(hn2:n2=2^(k-1))(h':Nat):
  Tr Tryz.prog 241 #[.slice (some ⟨b,off,none⟩) n m,.slice A n2 m2,.int .i64 ((2^s:Nat):Int)] [pts b (.row (setAt xs off (Zc (stL w k l s (dn (2^s) 0 0)))) e mm),R] fun v M=>
   v= .tuple #[]∧M=[pts b (.row (setAt xs off (Zc (stL w k l (s+1) (dn h' 0 0)))) e mm),R]:=fun H hs=>by
 have h20:=aZF hk;have hp:=pow_pos s;have hsk2:=aZF (show s+1≤k by omega);rw[Nat.pow_succ]at hsk2;have hdv:2^k=2^(k-s-1)*(2*2^s):=by
  rw[show 2*2^s=2^(s+1) by rw[Nat.pow_succ];omega,←Nat.pow_add];congr 1;omega
 apply ZB.ok;unfold ZB;have e0:i64.wrap ((2:Int)*((2^s:Nat):Int))=((2*2^s:Nat):Int):=by rw[ZG (by omega) (by omega)];omega
 have e1:i64.wrap (Int.tdiv (n:Int) ((2*2^s:Nat):Int))=((2^(k-s-1):Nat):Int):=by
  rw[show Int.tdiv (n:Int) ((2*2^s:Nat):Int)=((n/(2*2^s):Nat):Int)from rfl,hn,hdv,Nat.mul_div_cancel _ (by omega),aZJ (by have:=aZF (show k-s-1≤19 by omega);omega)]
 rw[e0,e1];refine⟨by omega,by simp,⟨2^(k-s-1)+1,?_⟩⟩;have key:∀(t bl:Nat) (H:Hp),bl+t=2^(k-s-1)→Sep [pts b (.row (setAt xs off (Zc (stL w k l s (dn (2^s) bl 0)))) e mm),R] H→
   ZB.l2 (fun v H'=>∃ M,(v= .tuple #[]∧M=[pts b (.row (setAt xs off (Zc (stL w k l (s+1) (dn h' 0 0)))) e mm),R])∧Sep M H') (t+1) (some ⟨b,off,none⟩) n m A n2 m2 ((2^s:Nat):Int) ((2^(k-s-1):Nat):Int) ((bl*(2*2^s):Nat):Int) H:=fun t=>by
  induction t with
  |zero=>
   intro bl H hb hs;unfold ZB.l2;refine Zh (by rw[hn,hdv,show bl=2^(k-s-1) by omega];omega) ⟨_,⟨rfl,rfl⟩,?_⟩;rw[← vZ5 (2^s) h' (b:=bl) (by rw[hdv,show bl=2^(k-s-1) by omega];exact Nat.le_refl _)];exact hs
  |succ t ih=>
   intro bl H hb hs;have hfit:bl*(2*2^s)+2*2^s≤n:=by
    rw[hn,hdv,←Nat.succ_mul];exact Nat.mul_le_mul_right _ (by omega)
   unfold ZB.l2;refine Zn (by omega) ⟨2^s+1,?_⟩;refine oZ3 _ _ hn hk hsk hw hx hR hn2 bl hfit (fun H hs=>?_) (2^s) 0 H (by omega) hs;rw[e0,←Int.natCast_add,aZJ (by omega),←show(bl+1)*(2*2^s)=bl*(2*2^s)+2*2^s by rw[Nat.add_mul bl 1,Nat.one_mul]];exact ih (bl+1) H (by omega) hs
 have:=key (2^(k-s-1)) 0 H (by omega) hs;rw[Nat.zero_mul]at this;exact this
end
end Go.Proofs.YtgfildcgihbdaaaGreatDoor.Ker
namespace Go.Proofs.YtgfildcgihbdaaaGreatDoor.Ker
open Go Go.Hw W Shp Gol Fft
theorem Sep.ex {α:Type}{L:List As}{H:Hp}(h:Sep L H)(i:Nat){F:α→As}(hi:L[i]? =some fun H=>∃ x,F x H):∃ x,Sep (L.set i (F x)) H:=by
 induction L generalizing i H with
 |nil=>simp at hi
 |cons C L ih=>
  obtain⟨H1,H2,h1,h2,h3,h4,h5⟩:=h;cases i with
  |zero=>
   simp only[List.getElem?_cons_zero,Option.some.injEq]at hi;subst hi;obtain⟨x,hx⟩:=h4;exact⟨x,H1,H2,h1,h2,h3,hx,h5⟩
  |succ i=>
   obtain⟨x,hx⟩:=ih h5 i hi;exact⟨x,H1,H2,h1,h2,h3,h4,hx⟩
def knC (A0 A1:OA)(h:Nat)(sh:Int)(k:Nat):Array Value:=#[.slice A0 h h,.slice A1 h h,.int .u64 sh,.int .i64 (k:Int)]
def KnT (kp k:Nat)(x:OA×OA×Int):As:=fun H=>H kp=some (.obj (.cells (knC x.1 x.2.1 (2^(k-1)) x.2.2 k) 288))∧Cells H x.1 (Zc (dZm (rtd false k) (2^(k-1))))∧Cells H x.2.1 (Zc (dZm (rtd true k) (2^(k-1))))
def Kn (kp k:Nat):As:=fun H=>∃ x,KnT kp k x H
theorem KnT.up {kp k:Nat}{x:OA×OA×Int}{H H':Hp}(h:KnT kp k x H)(l:H.le H'):KnT kp k x H':=by
 obtain⟨h1,h2,h3⟩:=h;exact⟨l _ _ h1,h2.le l,h3.le l⟩
theorem Sep.knT {L:List As}{H:Hp}(h:Sep L H)(i:Nat){kp k:Nat}{x:OA×OA×Int}(hi:L[i]? =some (KnT kp k x)):KnT kp k x H:=by
 obtain⟨H1,h1,h2⟩:=h.see i hi;exact h1.up h2
def pick (x:OA×OA×Int)(d:Bool):OA:=if d=true then x.2.1 else x.1
theorem KnT.cells {kp k:Nat}{x:OA×OA×Int}{H:Hp}(h:KnT kp k x H)(d:Bool):Cells H (pick x d) (Zc (dZm (rtd d k) (2^(k-1)))):=by
 cases d
 ·exact h.2.1
 ·exact h.2.2
theorem dZp (k:Nat)(hk:k≤20):Tr Tryz.prog 172 #[.int .i64 (k:Int)] [] fun v M=>∃ kp,v= .pointer (some ⟨kp,0,none⟩)∧M=[Kn kp k]:=fun H hs=>by
 apply aZ1.ok;unfold aZ1;refine Zh (by omega) (Zh (by omega) ?_);refine hs.nw fun kp H hs=>?_
 have hs:Sep [pts kp (.obj (.cells #[.slice none 0 0,.slice none 0 0,.int .u64 0,.int .i64 (k:Int)] 288))] H:=hs;refine⟨3,?_⟩;unfold aZ1.l5;refine Zn (by decide) ?_;refine(nZ8 k hk false).use hs [] rfl rfl ?_;rintro _ _ H ⟨r0,rfl,rfl⟩ hs;simp only[HV];refine⟨by decide,by decide,?_⟩;simp only[Addr.add_lit'];refine hs.st 1 rfl (Nat.lt_of_sub_eq_succ rfl) rfl fun H hs=>?_;rw[show i64.wrap (0+1)=1 by decide];unfold aZ1.l5;refine Zn (by decide) ?_;refine(nZ8 k hk true).use hs [] rfl rfl ?_;rintro _ _ H ⟨r1,rfl,rfl⟩ hs;simp only[HV];refine⟨by decide,by decide,?_⟩;simp only[Addr.add_lit'];refine hs.st 2 rfl (Nat.lt_of_sub_eq_succ rfl) rfl fun H hs=>?_;rw[show i64.wrap (1+1)=2 by decide];unfold aZ1.l5;refine Zh (by decide) ?_;refine Za.use (nZ6 (k:=k) (by omega) H) ?_;simp only[HV];simp only[Addr.add_lit'];refine hs.st 2 rfl (Nat.lt_of_sub_eq_succ rfl) rfl fun H hs=>?_;have hs:Sep [pts r1 (.row (Zc (dZm (rtd true k) (2^(k-1)))) 82 (2^(k-1)*1)),pts r0 (.row (Zc (dZm (rtd false k) (2^(k-1)))) 82 (2^(k-1)*1)),
  pts kp (.obj (.cells (knC (some ⟨r0,0,none⟩) (some ⟨r1,0,none⟩) (2^(k-1)) ((pw half k).val:Int) k) 288))] H:=hs
 have hcell:∀{r:Nat} {d:Bool},H r=some (.row (Zc (dZm (rtd d k) (2^(k-1)))) 82 (2^(k-1)*1))→Cells H (some ⟨r,0,none⟩) (Zc (dZm (rtd d k) (2^(k-1)))):=fun{r d} h=>by
  have:=Cells.row h 0 (2^(k-1));rw[List.drop_zero,List.take_of_length_le (by rw[Zr,iZ6];exact Nat.le_refl _)]at this;exact this
 exact⟨[Kn kp k],⟨kp,rfl,rfl⟩,H,fun _=>none,Hp.le_refl _,fun _ _ h=>(nomatch h),fun _=>.inr rfl,⟨(some ⟨r0,0,none⟩,some ⟨r1,0,none⟩,((pw half k).val:Int)),hs.get 2 rfl,hcell (hs.get 1 rfl),hcell (hs.get 0 rfl)⟩,trivial⟩
theorem uZu {kp k:Nat}{x:OA×OA×Int}{H:Hp}(h:KnT kp k x H)(d:Bool):Za Tryz.prog 239 #[.pointer (some ⟨kp,0,none⟩),.int .i64 (if d=true then 1 else 0)] H (RetE (.tuple #[.slice (pick x d) (2^(k-1)) (2^(k-1)),.bool true]) H):=by
 obtain⟨h1,h2,h3⟩:=h;cases d
 ·apply bZS.ok;unfold bZS;refine Zh (by decide) (Zh (by decide) ?_);simp only[aZY];refine⟨by decide,by decide,?_⟩;simp only[Addr.add_lit'];refine gZC (v:=.slice x.1 (2^(k-1)) (2^(k-1))) ?_ ?_
  ·show H.cell? ⟨kp,0,none⟩=_
   rw[fZD h1];rfl
  ·simp only[HV];exact RetE.mk _ _
 ·apply bZS.ok;unfold bZS;refine Zh (by decide) (Zh (by decide) ?_);simp only[aZY];refine⟨by decide,by decide,?_⟩;simp only[Addr.add_lit'];refine gZC (v:=.slice x.2.1 (2^(k-1)) (2^(k-1))) ?_ ?_
  ·show H.cell? ⟨kp,1,none⟩=_
   rw[fZD h1];rfl
  ·simp only[HV];exact RetE.mk _ _
theorem jZL {H:Hp}{b off mm:Nat}{xs:List Value}{ws:List UInt64}{e:TypeId}(h:H b=some (.row (setAt xs off (Zc ws)) e mm))(hx:off+ws.length≤xs.length):Cells H (some ⟨b,off,none⟩) (Zc ws):=by
 have h1:=Cells.row h off ws.length;have e1:((setAt xs off (Zc ws)).drop off).take ws.length=Zc ws:=by
  apply List.ext_getElem?;intro j;rw[List.getElem?_take];by_cases hj:j<ws.length
  ·rw[if_pos hj,List.getElem?_drop,mZq hx hj,aZ9,List.getElem?_eq_getElem hj];rfl
  ·rw[if_neg hj,List.getElem?_eq_none (by rw[Zr];omega)]
 rw[e1]at h1;exact h1
section
variable {TT : As} {kp k b off mm n m : Nat} {l : List UInt64} {xs : List Value} {e : TypeId} {d : Bool}
theorem pZW (K:VK)(hn:n=l.length)(hn20:n≤1048576)(hx:off+n≤xs.length){A5:OA}{n5 m5 r mr:Nat}{tl:List UInt64}(htl:tl.length=n){L:List As}
  (hK:∀ H,Sep (pts b (.row (setAt xs off (Zc (tl.map fun x=>uw (zw x)))) e mm)::L) H→∃ f,Zv.l13 K f (some ⟨b,off,none⟩) n m A5 n5 m5 1 H):
  ∀(t i:Nat) (H:Hp),i+t=n→Sep (pts b (.row (setAt xs off (Zc ((tl.take i).map (fun x=>uw (zw x))++l.drop i))) e mm)::pts r (.row (Zc tl) 82 mr)::L) H→
   Zv.l8 K (t+1) (some ⟨b,off,none⟩) n m A5 n5 m5 (some ⟨r,0,none⟩) n n (n:Int) (i:Int) H
 |0,i,H,hi,hs=>by
  unfold Zv.l8;refine Zh (by omega) (hK H ?_);rw[List.take_of_length_le (by omega),List.drop_eq_nil_of_le (by omega),List.append_nil]at hs;obtain⟨H1,H2,h1,h2,h3,h4,h5⟩:=hs;exact⟨H1,H2,h1,h2,h3,h4,h5.tail⟩
 |t+1,i,H,hi,hs=>by
  unfold Zv.l8;refine Zn (by omega) ?_;have hil:i<tl.length:=by omega
  refine⟨by omega,by omega,?_⟩;show Ld H _ _
  rw[Int.toNat_natCast,Nat.mul_one,Addr.add_lit',Nat.zero_add];refine hs.ldr 1 (v:=.int .u64 ((tl[i]).toNat:Int)) rfl (by rw[aZ9,List.getElem?_eq_getElem hil];rfl) ?_;simp only[HV];refine Za.use (eZB (tl[i]).toNat_lt H) ?_;simp only[HV];have hlen:((tl.take i).map (fun x=>uw (zw x))++l.drop i).length=n:=by rw[List.length_append,List.length_map,List.length_take,List.length_drop];omega
  refine⟨by omega,by omega,?_⟩;rw[Addr.add_lit',Addr.add_zero];refine hs.str 0 rfl (by rw[iZH (by omega)];omega) rfl fun H hs=>?_;have e1:(setAt xs off (Zc ((tl.take i).map (fun x=>uw (zw x))++l.drop i))).set (off+i) (.int .u64 (((tl[i]).toNat%18446744069414584321:Nat):Int))=setAt xs off (Zc ((tl.take (i+1)).map (fun x=>uw (zw x))++l.drop (i+1))):=by
   have:(((tl[i]).toNat%18446744069414584321:Nat):Int)=((uw (zw tl[i])).toNat:Int):=by rw[jZV];rfl
   rw[this,mZr (by omega) (by omega)];congr 2;have hlt:((tl.take i).map (fun x=>uw (zw x))).length=i:=by rw[List.length_map,List.length_take];omega
   rw[List.set_append_right _ _ (by omega),hlt,Nat.sub_self,List.take_add_one,List.getElem?_eq_getElem hil];simp only[Option.toList,List.map_append,List.append_assoc];congr 1;rw[List.drop_eq_getElem_cons (show i<l.length by omega)];rfl
  rw[e1]at hs;rw[ZG (x:=(i:Int)+1) (by omega) (by omega),show(i:Int)+1=((i+1:Nat):Int) by omega];exact pZW K hn hn20 hx htl hK t (i+1) H (by omega) hs
theorem tZw (hT:∀ H,TT H→T64 H)(hk:k≤20)(hn:n=2^k)(hl:l.length=n)(hx:off+n≤xs.length)(hseg:setAt xs off (Zc l)=xs)(d:Bool):
  Tr Tryz.prog 217 #[.pointer (some ⟨kp,0,none⟩),.slice (some ⟨b,off,none⟩) n m,.int .i64 (if d=true then 1 else 0)] [pts b (.row xs e mm),Kn kp k,TT] fun v M=>
   v= .int .i64 0∧M=[pts b (.row (setAt xs off (Zc (eZx d k l))) e mm),Kn kp k,TT]:=fun H hs=>by
 have h20:=aZF hk;have h1:=pow_pos k;apply Zv.ok;unfold Zv;simp only[aZY];obtain⟨x,hs⟩:=Sep.ex hs 1 rfl;have hs:Sep [pts b (.row xs e mm),KnT kp k x,TT] H:=hs;have hkn:=(Sep.knT hs 1 rfl).1;refine gZC (v:=.int .i64 (k:Int)) ?_ ?_
 ·show H.cell? ((⟨kp,0,none⟩:Addr).add 3)=_
  rw[Addr.add_lit',fZD hkn];rfl
 simp only[HV];rw[cZg (by omega)];refine⟨by omega,?_⟩;have e1:aZE .i64 1 (k:Int)=(n:Int):=by
  have:∀ k:Nat,k<21→aZE .i64 1 (k:Int)=((2^k:Nat):Int):=by decide +kernel
  rw[this k (by omega),hn]
 rw[e1];refine Zq rfl ?_;simp only[Addr.add_zero];refine Za.use (uZu (Sep.knT hs 1 rfl) d) ?_;simp only[HV];have hc:∀ H,pts b (.row xs e mm) H→Cells H (some ⟨b,off,none⟩) (Zc l):=fun H h=>by
  have h:H b=some (.row xs e mm):=h;rw[← hseg]at h;exact jZL h (by omega)
 refine(vZj (n:=n) (m:=m) (k:=k) (l:=l) hT hc hn hl hk).use hs [0,2] rfl rfl ?_;rintro _ _ H ⟨r,rfl,rfl⟩ hs;simp only[HV];have hs:Sep [pts r (.row (Zc (eZo k l)) 82 (n*1)),pts b (.row xs e mm),TT,KnT kp k x] H:=hs;refine⟨n+1,?_⟩;have htl:(eZo k l).length=n:=by rw[hn];simp[eZo]
 refine pZW (L:=[TT,KnT kp k x]) (mr:=n*1) (e:=e) (mm:=mm) _ hl.symm (by omega) hx htl (fun H hs=>?_) n 0 H (by omega) ?_
 ·rw[uZm (rtd d k) k l 1]at hs;refine⟨k+1,?_⟩;have key:∀(t s:Nat) (H:Hp),s+t=k→Sep [pts b (.row (setAt xs off (Zc (stL (rtd d k) k (at' l) s (dn (2^s) 0 0)))) e mm),TT,KnT kp k x] H→
    Zv.l13 (fun v H'=>∃ M,(v= .int .i64 0∧M=[pts b (.row (setAt xs off (Zc (eZx d k l))) e mm),Kn kp k,TT])∧Sep M H') (t+1) (some ⟨b,off,none⟩) n m (pick x d) (2^(k-1)) (2^(k-1)) ((2^s:Nat):Int) H:=fun t=>by
   induction t with
   |zero=>
    intro s H hst hs;obtain rfl:s=k:=by omega
    unfold Zv.l13;refine Zh (by omega) ⟨_,⟨rfl,rfl⟩,?_⟩;rw[vZ4]at hs;have hs:=hs.re [0,2,1] rfl;exact hs.turn 1 rfl (B:=Kn kp s) fun H1 h=>⟨x,h⟩
   |succ t ih=>
    intro s H hst hs;have hsk:2^s<2^k:=Nat.pow_lt_pow_right (by omega) (by omega);have hsp:=pow_pos s;unfold Zv.l13;refine Zn (by omega) ?_;have hw:pw (rtd d k) (2^(k-1))=-1:=vZW d (by omega) (by omega);refine(uZn (m:=m) (m2:=2^(k-1)) (A:=pick x d) (R:=KnT kp k x) (l:=at' l) (s:=s) (mm:=mm) hn hk (by omega) hw hx (fun H h=>h.cells d) rfl (2^(s+1))).use hs [0,2] rfl rfl ?_;rintro _ _ H ⟨rfl,rfl⟩ hs;rw[ZG (by omega) (by omega),show((2^s:Nat):Int)*2=((2^(s+1):Nat):Int) by rw[Nat.pow_succ];omega];exact ih (s+1) H (by omega) (hs.re [0,2,1] rfl)
  exact key k 0 H (by omega) hs
 ·rw[List.take_zero,List.map_nil,List.nil_append,List.drop_zero,hseg];exact hs.re [1,0,2,3] rfl
end
end Go.Proofs.YtgfildcgihbdaaaGreatDoor.Ker
namespace Go.Proofs.YtgfildcgihbdaaaGreatDoor.W
open Go Go.Hw
theorem dZG :Tryz.prog.follows .mixedOrders=true:=by kernel_rfl
def aZC.j6 (K:VK)(x17:Int)(a1 a2:Addr)(x18 x19:Int)(a3:Addr)(H:Hp):=
 LeI H (a1.add 0) fun x20=>BIf (decide ((i64.wrap (x18*x20))<x17)) (LeI H (a3.add 0) fun x21=>St H ((a3.add 0).add 0) (.int .i64 (i64.wrap (x21+x19))) fun H16=>LdA H16 a3 3 fun l5=>StA H16 a2 l5.toArray 3 fun H17=>LdA H17 a2 3 fun l8=>K (.tuple #[.agg l8.toArray,.int .i64 0]) H17) (LdA H a3 3 fun l6=>StA H a2 l6.toArray 3 fun H18=>LdA H18 a2 3 fun l9=>K (.tuple #[.agg l9.toArray,.int .i64 0]) H18)
def aZC.q1 (H5:Hp)(b3:Nat)(x6 x5 x7 x3 x8:Int)(K:VK)(b1 b2:Nat):=
 StA H5 ⟨b3,0,none⟩ #[.int .i64 (i64.wrap ((i64.wrap ((i64.wrap (Int.tdiv x6 x5))*x7))*(if(i64.wrap (Int.tdiv x5 x3))>1 then(i64.wrap (Int.tdiv x5 x3))else 1))),.int .i64 (i64.wrap ((i64.wrap (Int.tdiv x6 x5))*(if(i64.wrap (Int.tdiv (i64.wrap (x5*x8)) x3))>1 then(i64.wrap (Int.tdiv (i64.wrap (x5*x8)) x3))else 1))),.int .i64 0] 3 fun H6=>aZC.j6 K x3 ⟨b1,0,none⟩ ⟨b2,0,none⟩ x5 (i64.wrap (Int.tdiv x6 x5)) ⟨b3,0,none⟩ H6
def aZC.q2 (H7:Hp)(b1:Nat)(x3:Int)(b4:Nat)(x6 x5 x7:Int)(K:VK)(b2:Nat):=
 LeI H7 ((⟨b1,0,none⟩:Addr).add 0) fun x9=>(x3≠0∧i64=i64∧StA H7 ⟨b4,0,none⟩ #[.int .i64 (i64.wrap ((i64.wrap ((i64.wrap (Int.tdiv x6 x5))*x7))*(if(i64.wrap (Int.tdiv x5 x3))>1 then(i64.wrap (Int.tdiv x5 x3))else 1))),.int .i64 (i64.wrap ((i64.wrap (Int.tdiv x6 x5))*(if(i64.wrap (Int.tdiv (i64.wrap (x5*x9)) x3))>1 then(i64.wrap (Int.tdiv (i64.wrap (x5*x9)) x3))else 1))),.int .i64 0] 3 fun H8=>aZC.j6 K x3 ⟨b1,0,none⟩ ⟨b2,0,none⟩ x5 (i64.wrap (Int.tdiv x6 x5)) ⟨b4,0,none⟩ H8)
def aZC (x1 x2 x3 x4:Int)(H:Hp)(K:VK):Prop:=
 Nw H (.obj (.cells #[.int .i64 x1,.int .i64 x2] 122)) fun b1 H1=>Nw H1 (.obj (.cells #[.int .i64 0,.int .i64 0,.int .i64 0] 39)) fun b2 H2=>LdA H2 ⟨b1,0,none⟩ 2 fun l1=>Hz 165 #[.agg l1.toArray,.int .i64 x3,.int .i64 x4] H2 fun v1 H3=>gZ6 v1 fun x5 c1=>(BIf (!c1) (StA H3 ⟨b2,0,none⟩ #[.int .i64 0,.int .i64 0,.int .i64 0] 3 fun H4=>LdA H4 ⟨b2,0,none⟩ 3 fun l7=>K (.tuple #[.agg l7.toArray,.int .i64 6]) H4) (LeI H3 ((⟨b1,0,none⟩:Addr).add 1) fun x6=>(x5≠0∧i64=i64∧(x3≠0∧i64=i64∧(LeI H3 ((⟨b1,0,none⟩:Addr).add 0) fun x7=>(LeI H3 ((⟨b1,0,none⟩:Addr).add 0) fun x8=>(x3≠0∧i64=i64∧Nw H3 (.obj (.cells #[.int .i64 0,.int .i64 0,.int .i64 0] 39)) fun b3 H5=>aZC.q1 H5 b3 x6 x5 x7 x3 x8 K b1 b2))∧(Nw H3 (.obj (.cells #[.int .i64 0,.int .i64 0,.int .i64 0] 39)) fun b4 H7=>aZC.q2 H7 b1 x3 b4 x6 x5 x7 K b2))∧(LeI H3 ((⟨b1,0,none⟩:Addr).add 0) fun x10=>(x3≠0∧i64=i64∧(LeI H3 ((⟨b1,0,none⟩:Addr).add 0) fun x11=>Nw H3 (.obj (.cells #[.int .i64 0,.int .i64 0,.int .i64 0] 39)) fun b5 H9=>aZC.q1 H9 b5 x6 x5 x11 x3 x10 K b1 b2)∧(Nw H3 (.obj (.cells #[.int .i64 0,.int .i64 0,.int .i64 0] 39)) fun b6 H11=>LeI H11 ((⟨b1,0,none⟩:Addr).add 0) fun x12=>aZC.q1 H11 b6 x6 x5 x12 x3 x10 K b1 b2)))∧(Nw H3 (.obj (.cells #[.int .i64 0,.int .i64 0,.int .i64 0] 39)) fun b7 H13=>(LeI H13 ((⟨b1,0,none⟩:Addr).add 0) fun x13=>aZC.q2 H13 b1 x3 b7 x6 x5 x13 K b2)∧(LeI H13 ((⟨b1,0,none⟩:Addr).add 0) fun x15=>(x3≠0∧i64=i64∧LeI H13 ((⟨b1,0,none⟩:Addr).add 0) fun x16=>aZC.q1 H13 b7 x6 x5 x16 x3 x15 K b1 b2)))))))
def aZC.Λ (K:VK):Zt:=⟨fun i=>match Nat.beq i 6 with|true=>some (fun E D H=>eI E 1 .i64 fun x17=>eN E 3 fun a1=>eN E 6 fun a2=>eI E 8 .i64 fun x18=>eI E 10 .i64 fun x19=>eN E 11 fun a3=>Zk D (aZC.j6 K x17 a1 a2 x18 x19 a3 H))|false=>none,fun i=>none,(fun i=>match Nat.beq i 5 with|true=>some ([],[0,0,2,7,0,0,48,112,255,0,0,0,2048,7168,0,31744,64512,130560,262143,0,1048575],0)|false=>none)⟩
theorem aZC.ok x1 x2 x3 x4 H K (h:aZC x1 x2 x3 x4 H K):Za Tryz.prog 129 #[.agg #[.int .i64 x1,.int .i64 x2],.int .i64 x3,.int .i64 x4] H K:=
 okL (Λ:=(aZC.Λ K)) dZG Tryz.func129 rfl rfl h (oC (fun E D H h=>by
   obtain⟨x17,e1,g2⟩:=GI h;obtain⟨a1,e3,g5⟩:=GN g2;obtain⟨a2,e6,g8⟩:=GN g5;obtain⟨x18,e8,g10⟩:=GI g8;obtain⟨x19,e10,g12⟩:=GI g10;obtain⟨a3,e11,g15⟩:=GN g12;obtain⟨rfl,h'⟩:=Zk.out g15;exact okJ (Λ:=(aZC.Λ K)) dZG [] (Zb.cons e1 (Zb.cons e3 (Zb.cons e6 (Zb.cons e8 (Zb.cons e10 (Zb.cons e11 (Zb.nil _))))))) h' oN) oN)
def bZd.l14 (K:VK):Nat→Addr→Int→Addr→Int→OA→OA→Nat→Nat→Hp→Prop
 |0,_,_,_,_,_,_,_,_,_=>False
 |k+1,a2,x14,a3,x15,p5,A1,n1,m1,H=>
  let R14:=bZd.l14 K k
  LeI H (a2.add 1) fun x16=>BIf (decide (x15<x16)) (HcI 169 #[.pointer (some a3),.int .i64 x15,.int .i64 x14] H fun x17 H5=>BIf (x17 !=0) (aZU Tryz.prog 117 #[.pointer p5,.slice A1 n1 m1] H5 fun _ H8=>K (.tuple #[.int .u32 0,.int .i64 x17]) H8) (HcI 170 #[.pointer (some a3),.int .i64 x15] H5 fun x18 H6=>BIf (x18 !=0) (aZU Tryz.prog 117 #[.pointer p5,.slice A1 n1 m1] H6 fun _ H9=>K (.tuple #[.int .u32 0,.int .i64 x18]) H9) (R14 a2 x14 a3 (i64.wrap (x15+x14)) p5 A1 n1 m1 H6))) (HcU 124 #[.pointer (some (a3.add 0))] H fun x19 H7=>aZU Tryz.prog 117 #[.pointer p5,.slice A1 n1 m1] H7 fun _ H10=>K (.tuple #[.int .u32 x19,.int .i64 0]) H10)
def bZd (p1 p2:OA)(x1 x2:Int)(p3:OA)(x3:Int)(H:Hp)(K:VK):Prop:=
 Nw H (.obj (.cells #[.int .i64 x1,.int .i64 x2] 122)) fun b1 H1=>BIf p1.isNone (K (.tuple #[.int .u32 0,.int .i64 1]) H1) (BIf p2.isNone (K (.tuple #[.int .u32 0,.int .i64 1]) H1) (BIf p3.isNone (K (.tuple #[.int .u32 0,.int .i64 1]) H1) (LdA H1 ⟨b1,0,none⟩ 2 fun l1=>QcB 167 #[.agg l1.toArray] H1 fun c1=>BIf (!c1) (K (.tuple #[.int .u32 0,.int .i64 19]) H1) (QcI 89 #[.pointer p1] H1 fun x4=>LdA H1 ⟨b1,0,none⟩ 2 fun l2=>QcI 168 #[.agg l2.toArray] H1 fun x5=>BIf (x4 !=x5) (K (.tuple #[.int .u32 0,.int .i64 19]) H1) (QcI 89 #[.pointer p2] H1 fun x6=>LdA H1 ⟨b1,0,none⟩ 2 fun l3=>QcI 168 #[.agg l3.toArray] H1 fun x7=>BIf (x6 !=x7) (K (.tuple #[.int .u32 0,.int .i64 19]) H1) (LdA H1 ⟨b1,0,none⟩ 2 fun l4=>NN p3 fun a1=>QcI 158 #[.pointer (some (a1.add 0))] H1 fun x8=>Qz 165 #[.agg l4.toArray,.int .i64 x3,.int .i64 x8] H1 fun v7=>gZ6 v7 fun x9 c2=>(BIf (!c2) (K (.tuple #[.int .u32 0,.int .i64 6]) H1) (LeI H1 ((⟨b1,0,none⟩:Addr).add 0) fun x10=>Hz 115 #[.pointer p3,.int .i64 (i64.wrap (x9*x10))] H1 fun v11 H2=>dZV v11 fun p4 x11=>(BIf (x11 !=0) (K (.tuple #[.int .u32 0,.int .i64 x11]) H2) (Nw H2 (.row [.pointer p4] 195 1) fun b2 H3=>LdA H3 ⟨b1,0,none⟩ 2 fun l11=>qZz l11.toArray.toList fun x12 x13=>(Nw H3 (.obj (.cells #[.int .u32 0,.int .i64 0,.pointer p1,.pointer p2,.int .i64 x12,.int .i64 x13,.pointer p4] 260)) fun b3 H4=>(∃ k,bZd.l14 K k ⟨b1,0,none⟩ x9 ⟨b3,0,none⟩ 0 p3 (some ⟨b2,0,none⟩) 1 1 H4))))))))))))
def bZd.l14.L (K:VK)(k:Nat):Mid:=fun E D H=>
 eN E 7 fun a2=>eI E 12 .i64 fun x14=>eN E 15 fun a3=>eI E 16 .i64 fun x15=>cZv 117 D fun dc0 da0 D1=>ZR dc0 (Zl da0 fun u0da0 r0da0=>DP u0da0 fun p5=>Zl r0da0 fun u1da0 r1da0=>DSl u1da0 fun A1 n1 m1=>ZR r1da0 (Zk D1 (bZd.l14 K k a2 x14 a3 x15 p5 A1 n1 m1 H)))
def bZd.Λ14 (_:VK)(_R14:Addr→Int→Addr→Int→OA→OA→Nat→Nat→Hp→Prop):Zt:=Zt.none (fun _=>none)
def bZd.Λ (K:VK):Zt:=⟨fun i=>none,fun i=>match Nat.beq i 14 with|true=>some (fun E D H=>∃ k,bZd.l14.L K k E D H)|false=>none,(fun _=>none)⟩
theorem bZd.ok p1 p2 x1 x2 p3 x3 H K (h:bZd p1 p2 x1 x2 p3 x3 H K):Za Tryz.prog 132 #[.pointer p1,.pointer p2,.agg #[.int .i64 x1,.int .i64 x2],.pointer p3,.int .i64 x3] H K:=
 okL (Λ:=(bZd.Λ K)) dZG Tryz.func132 rfl rfl h (oC (fun E D H h=>by
   refine Safe.loop' (bZd.l14.L K) (fun E D H h=>?_) (fun k E D H h=>?_) E D H h
   ·obtain⟨w7,e7,g1⟩:=DG.out h;obtain⟨pw7,rfl,g2⟩:=DP.out g1;obtain⟨a2,rfl,g3⟩:=NN.out g2;obtain⟨w12,e12,g4⟩:=DG.out g3;obtain⟨x14,rfl,g5⟩:=DI.out g4;obtain⟨w15,e15,g6⟩:=DG.out g5;obtain⟨pw15,rfl,g7⟩:=DP.out g6;obtain⟨a3,rfl,g8⟩:=NN.out g7;obtain⟨w16,e16,g9⟩:=DG.out g8;obtain⟨x15,rfl,g10⟩:=DI.out g9;obtain⟨dc0,da0,D1,rfl,g11⟩:=cZv.out g10;obtain⟨rfl,g12⟩:=ZR.out g11;obtain⟨u0da0,r0da0,rfl,g13⟩:=Zl.out g12;obtain⟨p5,rfl,g14⟩:=DP.out g13;obtain⟨u1da0,r1da0,rfl,g15⟩:=Zl.out g14;obtain⟨A1,n1,m1,rfl,g16⟩:=DSl.out g15;obtain⟨rfl,g17⟩:=ZR.out g16;obtain⟨rfl,h'⟩:=Zk.out g17;exact h'
   ·obtain⟨a2,e7,g3⟩:=GN h;obtain⟨x14,e12,g5⟩:=GI g3;obtain⟨a3,e15,g8⟩:=GN g5;obtain⟨x15,e16,g10⟩:=GI g8;obtain⟨dc0,da0,D1,rfl,g11⟩:=cZv.out g10;obtain⟨rfl,g12⟩:=ZR.out g11;obtain⟨u0da0,r0da0,rfl,g13⟩:=Zl.out g12;obtain⟨p5,rfl,g14⟩:=DP.out g13;obtain⟨u1da0,r1da0,rfl,g15⟩:=Zl.out g14;obtain⟨A1,n1,m1,rfl,g16⟩:=DSl.out g15;obtain⟨rfl,g17⟩:=ZR.out g16;obtain⟨rfl,h'⟩:=Zk.out g17;exact okJ (Λ:=(bZd.Λ14 K (bZd.l14 K k))) dZG [{ target:=.fn (.func 117) #[],args:=#[.pointer p5,.slice A1 n1 m1]}] (Zb.cons e7 (Zb.cons e12 (Zb.cons e15 (Zb.cons e16 (Zb.nil _))))) h' oN) oN)
def aZW.l4 (K:VK):Nat→Int→Int→Addr→Int→Hp→Prop
 |0,_,_,_,_,_=>False
 |k+1,x6,x7,a1,x8,H=>
  let R4:=aZW.l4 K k
  LeI H (a1.add 1) fun x9=>BIf (decide ((i64.wrap (2*x8))≤x9)) (LeI H (a1.add 0) fun x10=>(x10≠0∧i64=i64∧BIf (decide ((i64.wrap (2*x8))≤(i64.wrap (Int.tdiv (i64.wrap (x7-x6)) x10)))) (R4 x6 x7 a1 (i64.wrap (x8*2)) H) (K (.tuple #[.int .i64 x8,.bool true]) H))) (K (.tuple #[.int .i64 x8,.bool true]) H)
def aZW (x1 x2 x3 x4:Int)(H:Hp)(K:VK):Prop:=
 Nw H (.obj (.cells #[.int .i64 x1,.int .i64 x2] 122)) fun b1 H1=>LdA H1 ⟨b1,0,none⟩ 2 fun l1=>HcB 167 #[.agg l1.toArray] H1 fun c1 H2=>BIf (!c1) (K (.tuple #[.int .i64 0,.bool false]) H2) (BIf (decide (x3<4)) (K (.tuple #[.int .i64 0,.bool false]) H2) (BIf (decide (x3>512)) (K (.tuple #[.int .i64 0,.bool false]) H2) (BIf ((aZr .i64 x3 (i64.wrap (x3-1))) !=0) (K (.tuple #[.int .i64 0,.bool false]) H2) (BIf (decide (x4<x3)) (K (.tuple #[.int .i64 0,.bool false]) H2) (LeI H2 ((⟨b1,0,none⟩:Addr).add 0) fun x5=>BIf (decide ((i64.wrap (x4-x3))<x5)) (K (.tuple #[.int .i64 0,.bool false]) H2) ((∃ k,aZW.l4 K k x3 x4 ⟨b1,0,none⟩ 1 H2)))))))
def aZW.l4.L (K:VK)(k:Nat):Mid:=fun E D H=>
 eI E 1 .i64 fun x6=>eI E 2 .i64 fun x7=>eN E 3 fun a1=>eI E 6 .i64 fun x8=>Zk D (aZW.l4 K k x6 x7 a1 x8 H)
def aZW.Λ4 (_:VK)(_R4:Int→Int→Addr→Int→Hp→Prop):Zt:=Zt.none (fun _=>none)
def aZW.Λ (K:VK):Zt:=⟨fun i=>none,fun i=>match Nat.beq i 4 with|true=>some (fun E D H=>∃ k,aZW.l4.L K k E D H)|false=>none,(fun _=>none)⟩
theorem aZW.ok x1 x2 x3 x4 H K (h:aZW x1 x2 x3 x4 H K):Za Tryz.prog 165 #[.agg #[.int .i64 x1,.int .i64 x2],.int .i64 x3,.int .i64 x4] H K:=
 okL (Λ:=(aZW.Λ K)) dZG Tryz.func165 rfl rfl h (oC (fun E D H h=>by
   refine Safe.loop' (aZW.l4.L K) (fun E D H h=>?_) (fun k E D H h=>?_) E D H h
   ·obtain⟨w1,e1,g1⟩:=DG.out h;obtain⟨x6,rfl,g2⟩:=DI.out g1;obtain⟨w2,e2,g3⟩:=DG.out g2;obtain⟨x7,rfl,g4⟩:=DI.out g3;obtain⟨w3,e3,g5⟩:=DG.out g4;obtain⟨pw3,rfl,g6⟩:=DP.out g5;obtain⟨a1,rfl,g7⟩:=NN.out g6;obtain⟨w6,e6,g8⟩:=DG.out g7;obtain⟨x8,rfl,g9⟩:=DI.out g8;obtain⟨rfl,h'⟩:=Zk.out g9;exact h'
   ·obtain⟨x6,e1,g2⟩:=GI h;obtain⟨x7,e2,g4⟩:=GI g2;obtain⟨a1,e3,g7⟩:=GN g4;obtain⟨x8,e6,g9⟩:=GI g7;obtain⟨rfl,h'⟩:=Zk.out g9;exact okJ (Λ:=(aZW.Λ4 K (aZW.l4 K k))) dZG [] (Zb.cons e1 (Zb.cons e2 (Zb.cons e3 (Zb.cons e6 (Zb.nil _))))) h' oN) oN)
def Zz.l10 (K:VK)(R4:OA→Int→OA→Nat→Nat→OA→Nat→Nat→Int→Int→Hp→Prop):Nat→OA→Int→OA→Nat→Nat→OA→Nat→Nat→Int→Int→Int→OA→Nat→Nat→Int→Int→Hp→Prop
 |0,_,_,_,_,_,_,_,_,_,_,_,_,_,_,_,_,_=>False
 |k+1,p5,x9,A5,n5,m5,A6,n6,m6,x10,x11,x12,A7,n7,m7,x13,x14,H=>
  let R10:=Zz.l10 K R4 k
  BIf (decide (x14<x13)) (ixI x14 n7 (NN A7 fun a5=>LeW H (a5.add (x14.toNat*1)) fun x15=>NN p5 fun a6=>LeI H ((a6.add 4).add 0) fun x16=>ixI (i64.wrap ((i64.wrap (x14*x16))+x10)) n5 (NN A5 fun a7=>St H ((a7.add ((i64.wrap ((i64.wrap (x14*x16))+x10)).toNat*1)).add 0) (.int .u64 x15) fun H4=>R10 p5 x9 A5 n5 m5 A6 n6 m6 x10 x11 x12 A7 n7 m7 x13 (i64.wrap (x14+1)) H4))) (R4 p5 x9 A5 n5 m5 A6 n6 m6 x11 (i64.wrap (x12+1)) H)
def Zz.l4 (K:VK):Nat→OA→Int→OA→Nat→Nat→OA→Nat→Nat→Int→Int→Hp→Prop
 |0,_,_,_,_,_,_,_,_,_,_,_=>False
 |k+1,p3,x4,A3,n3,m3,A4,n4,m4,x5,x6,H=>
  let R4:=Zz.l4 K k
  BIf (decide (x6<x5)) (NN p3 fun a3=>LeP H (a3.add 2) fun p4=>NN p3 fun a4=>LeI H ((a4.add 4).add 1) fun x7=>HcI 90 #[.pointer p4,.int .i64 (i64.wrap ((i64.wrap (x6*x7))+x4)),.slice A4 n4 m4] H fun x8 H3=>BIf (x8 !=0) (K (.int .i64 x8) H3) ((∃ k,Zz.l10 K R4 k p3 x4 A3 n3 m3 A4 n4 m4 x6 x5 x6 A4 n4 m4 (n4:Int) 0 H3))) (K (.int .i64 0) H)
def Zz (p1:OA)(x1 x2:Int)(H:Hp)(K:VK):Prop:=
 NN p1 fun a1=>LeP H (a1.add 6) fun p2=>HcS 119 #[.pointer p2] H fun A1 n1 m1 H1=>MkS Tryz.prog 82 x2 x2 H1 fun v3 H2=>DSl v3 fun A2 n2 m2=>NN p1 fun a2=>LeI H2 ((a2.add 4).add 0) fun x3=>(∃ k,Zz.l4 K k p1 x1 A1 n1 m1 A2 n2 m2 x3 0 H2)
def Zz.l4.L (K:VK)(k:Nat):Mid:=fun E D H=>
 eP E 0 fun p3=>eI E 1 .i64 fun x4=>DG (E.get? 7) fun w7=>DSl w7 fun A3 n3 m3=>DG (E.get? 8) fun w8=>DSl w8 fun A4 n4 m4=>eI E 24 .i64 fun x5=>eI E 25 .i64 fun x6=>Zk D (Zz.l4 K k p3 x4 A3 n3 m3 A4 n4 m4 x5 x6 H)
def Zz.l10.L (K:VK)(R4:OA→Int→OA→Nat→Nat→OA→Nat→Nat→Int→Int→Hp→Prop)(k:Nat):Mid:=fun E D H=>
 eP E 0 fun p5=>eI E 1 .i64 fun x9=>DG (E.get? 7) fun w7=>DSl w7 fun A5 n5 m5=>DG (E.get? 8) fun w8=>DSl w8 fun A6 n6 m6=>eI E 9 .i64 fun x10=>eI E 24 .i64 fun x11=>eI E 25 .i64 fun x12=>DG (E.get? 46) fun w46=>DSl w46 fun A7 n7 m7=>eI E 47 .i64 fun x13=>eI E 48 .i64 fun x14=>Zk D (Zz.l10 K R4 k p5 x9 A5 n5 m5 A6 n6 m6 x10 x11 x12 A7 n7 m7 x13 x14 H)
def Zz.Λ10 (_:VK)(_R4:OA→Int→OA→Nat→Nat→OA→Nat→Nat→Int→Int→Hp→Prop)(_R10:OA→Int→OA→Nat→Nat→OA→Nat→Nat→Int→Int→Int→OA→Nat→Nat→Int→Int→Hp→Prop):Zt:=Zt.none (fun i=>match Nat.beq i 6 with|true=>some ([],[0,1,2,3,4,5,6,7,8,9,10,11,12,13],14)|false=>none)
def Zz.Λ4 (K:VK)(R4:OA→Int→OA→Nat→Nat→OA→Nat→Nat→Int→Int→Hp→Prop):Zt:=⟨fun i=>none,fun i=>match Nat.beq i 10 with|true=>some (fun E D H=>∃ k,Zz.l10.L K R4 k E D H)|false=>none,(fun i=>match Nat.beq i 6 with|true=>some ([],[0,1,2,3,4,5,6,7,8,9,10,11,12,13],14)|false=>none)⟩
def Zz.Λ (K:VK):Zt:=⟨fun i=>none,fun i=>match Nat.beq i 4 with|true=>some (fun E D H=>∃ k,Zz.l4.L K k E D H)|false=>none,(fun i=>match Nat.beq i 6 with|true=>some ([],[0,1,2,3,4,5,6,7,8,9,10,11,12,13],14)|false=>none)⟩
theorem Zz.ok p1 x1 x2 H K (h:Zz p1 x1 x2 H K):Za Tryz.prog 169 #[.pointer p1,.int .i64 x1,.int .i64 x2] H K:=
 okL (Λ:=(Zz.Λ K)) dZG Tryz.func169 rfl rfl h (oC (fun E D H h=>by
   refine Safe.loop' (Zz.l4.L K) (fun E D H h=>?_) (fun k E D H h=>?_) E D H h
   ·obtain⟨w0,e0,g1⟩:=DG.out h;obtain⟨p3,rfl,g2⟩:=DP.out g1;obtain⟨w1,e1,g3⟩:=DG.out g2;obtain⟨x4,rfl,g4⟩:=DI.out g3;obtain⟨w7,e7,g5⟩:=DG.out g4;obtain⟨A3,n3,m3,rfl,g6⟩:=DSl.out g5;obtain⟨w8,e8,g7⟩:=DG.out g6;obtain⟨A4,n4,m4,rfl,g8⟩:=DSl.out g7;obtain⟨w24,e24,g9⟩:=DG.out g8;obtain⟨x5,rfl,g10⟩:=DI.out g9;obtain⟨w25,e25,g11⟩:=DG.out g10;obtain⟨x6,rfl,g12⟩:=DI.out g11;obtain⟨rfl,h'⟩:=Zk.out g12;exact h'
   ·obtain⟨p3,e0,g2⟩:=GP h;obtain⟨x4,e1,g4⟩:=GI g2;obtain⟨w7,e7,g5⟩:=DG.out g4;obtain⟨A3,n3,m3,rfl,g6⟩:=DSl.out g5;obtain⟨w8,e8,g7⟩:=DG.out g6;obtain⟨A4,n4,m4,rfl,g8⟩:=DSl.out g7;obtain⟨x5,e24,g10⟩:=GI g8;obtain⟨x6,e25,g12⟩:=GI g10;obtain⟨rfl,h'⟩:=Zk.out g12;exact okJ (Λ:=(Zz.Λ4 K (Zz.l4 K k))) dZG [] (Zb.cons e0 (Zb.cons e1 (Zb.cons e7 (Zb.cons e8 (Zb.cons e24 (Zb.cons e25 (Zb.nil _))))))) h' (oC (fun E D H h=>by
      refine Safe.loop' (Zz.l10.L K (Zz.l4 K k)) (fun E D H h=>?_) (fun k E D H h=>?_) E D H h
      ·obtain⟨w0,e0,g1⟩:=DG.out h;obtain⟨p5,rfl,g2⟩:=DP.out g1;obtain⟨w1,e1,g3⟩:=DG.out g2;obtain⟨x9,rfl,g4⟩:=DI.out g3;obtain⟨w7,e7,g5⟩:=DG.out g4;obtain⟨A5,n5,m5,rfl,g6⟩:=DSl.out g5;obtain⟨w8,e8,g7⟩:=DG.out g6;obtain⟨A6,n6,m6,rfl,g8⟩:=DSl.out g7;obtain⟨w9,e9,g9⟩:=DG.out g8;obtain⟨x10,rfl,g10⟩:=DI.out g9;obtain⟨w24,e24,g11⟩:=DG.out g10;obtain⟨x11,rfl,g12⟩:=DI.out g11;obtain⟨w25,e25,g13⟩:=DG.out g12;obtain⟨x12,rfl,g14⟩:=DI.out g13;obtain⟨w46,e46,g15⟩:=DG.out g14;obtain⟨A7,n7,m7,rfl,g16⟩:=DSl.out g15;obtain⟨w47,e47,g17⟩:=DG.out g16;obtain⟨x13,rfl,g18⟩:=DI.out g17;obtain⟨w48,e48,g19⟩:=DG.out g18;obtain⟨x14,rfl,g20⟩:=DI.out g19;obtain⟨rfl,h'⟩:=Zk.out g20;exact h'
      ·obtain⟨p5,e0,g2⟩:=GP h;obtain⟨x9,e1,g4⟩:=GI g2;obtain⟨w7,e7,g5⟩:=DG.out g4;obtain⟨A5,n5,m5,rfl,g6⟩:=DSl.out g5;obtain⟨w8,e8,g7⟩:=DG.out g6;obtain⟨A6,n6,m6,rfl,g8⟩:=DSl.out g7;obtain⟨x10,e9,g10⟩:=GI g8;obtain⟨x11,e24,g12⟩:=GI g10;obtain⟨x12,e25,g14⟩:=GI g12;obtain⟨w46,e46,g15⟩:=DG.out g14;obtain⟨A7,n7,m7,rfl,g16⟩:=DSl.out g15;obtain⟨x13,e47,g18⟩:=GI g16;obtain⟨x14,e48,g20⟩:=GI g18;obtain⟨rfl,h'⟩:=Zk.out g20;exact okJ (Λ:=(Zz.Λ10 K (Zz.l4 K k) (Zz.l10 K (Zz.l4 K k) k))) dZG [] (Zb.cons e0 (Zb.cons e1 (Zb.cons e7 (Zb.cons e8 (Zb.cons e9 (Zb.cons e24 (Zb.cons e25 (Zb.cons e46 (Zb.cons e47 (Zb.cons e48 (Zb.nil _))))))))))) h' oN) oN)) oN)
def eZX (p1:OA)(x1:Int)(H:Hp)(K:VK):Prop:=
 NN p1 fun a1=>NN p1 fun a2=>LeP H (a2.add 6) fun p2=>QcS 119 #[.pointer p2] H fun A1 n1 m1=>Hz 123 #[.pointer (some (a1.add 0)),.slice A1 n1 m1] H fun v3 H1=>NN p1 fun a3=>LeP H1 (a3.add 3) fun p3=>NN p1 fun a4=>LeI H1 ((a4.add 4).add 0) fun x2=>NN p1 fun a5=>LeP H1 (a5.add 6) fun p4=>QcS 119 #[.pointer p4] H1 fun A2 n2 m2=>HcI 83 #[.pointer p3,.int .i64 (i64.wrap (x1*x2)),.slice A2 n2 m2] H1 fun x3 H2=>K (.int .i64 x3) H2
theorem eZX.ok p1 x1 H K (h:eZX p1 x1 H K):Za Tryz.prog 170 #[.pointer p1,.int .i64 x1] H K:=
 ok0 (fun i=>match Nat.beq i 2 with|true=>some ([],[0,1,2,3,4,5,6,7,8,9,10,11,12,13,14,15],16)|false=>match Nat.beq i 1 with|true=>some ([],[0,1,2,3,4,5,6,7],8)|false=>none) dZG Tryz.func170 rfl rfl h
end Go.Proofs.YtgfildcgihbdaaaGreatDoor.W
namespace Go.Proofs.YtgfildcgihbdaaaGreatDoor.Trn
open Go Go.Hw W Shp
def bZ8 (p:Int):Bool:=p==4||p==8||p==16||p==32||p==64||p==128||p==256||p==512
theorem sZB :(List.range 513).all (fun n=>decide (n<4)||((n&&&(n-1)==0)==bZ8 (n:Int)))=true:=by decide +kernel
theorem mZm {p:Int}(h4:4≤p)(h5:p≤512):(aZr .i64 p (i64.wrap (p-1))=0)↔bZ8 p=true:=by
 obtain⟨n,rfl⟩:=Int.eq_ofNat_of_zero_le (show 0≤p by omega);rw[show((n:Int)-1)=((n-1:Nat):Int) by omega,ZG (by omega) (by omega),Lay.iZT (by omega) (by omega)];have ht:=List.all_eq_true.1 sZB n (by simp;omega);simp only[Bool.or_eq_true,decide_eq_true_eq,beq_iff_eq]at ht;have ht:=ht.resolve_left (by omega);rw[← ht];simp only[beq_iff_eq];omega
theorem eZl {p:Int}(h:bZ8 p=true):4≤p∧p≤512:=by
 simp only[bZ8,Bool.or_eq_true,beq_iff_eq]at h;omega
structure cZb (r c:Int)(per free:Int)(j:Nat):Prop where
 le:((2^j:Nat):Int)≤c
 fit:((2^j:Nat):Int)*r≤free-per
 most:((2^j:Nat):Int)=c∨free-per<2*((2^j:Nat):Int)*r
def nZD (r c per free:Int)(v:Value):Prop:=
 (¬ (dZA r c=true∧bZ8 per=true∧per≤free∧r≤free-per)∧v= .tuple #[.int .i64 0,.bool false])∨
 ((dZA r c=true∧bZ8 per=true∧per≤free∧r≤free-per)∧∃ j:Nat,cZb r c per free j∧v= .tuple #[.int .i64 ((2^j:Nat):Int),.bool true])
theorem rZM {r c per free:Int}{ea eb:Nat}(hr:r=((2^ea:Nat):Int))(hc:c=((2^eb:Nat):Int))(hab:ea+eb≤32)(hp:bZ8 per=true)(hf:per≤free∧free≤9223372036854775807)(K:VK)(b1:Nat){L:List As}(i:Nat)
  (hi:L[i]? =some (pts b1 (.obj (.cells #[.int .i64 r,.int .i64 c] 122)))) {H:Hp} (hs:Sep L H) (hK:∀ j,cZb r c per free j→K (.tuple #[.int .i64 ((2^j:Nat):Int),.bool true]) H):
  ∀(t j:Nat),j+t=eb→((2^j:Nat):Int)*r≤free-per→aZW.l4 K (t+1) per free ⟨b1,0,none⟩ ((2^j:Nat):Int) H:=by
 have hpr:=eZl hp;have hra:=pow_pos ea;have hca:=aZF (show ea≤32 by omega);rw[show 2^32=4294967296 by decide]at hca;have key:∀(j:Nat),j<eb→aZW.l4 K 0 per free ⟨b1,0,none⟩ ((2^j:Nat):Int) H=False:=fun _ _=>rfl
 intro t
 induction t with
 |zero=>
  intro j hj hfit;have hje:j=eb:=by omega
  have hp2:=aZF (show j≤32 by omega);rw[show 2^32=4294967296 by decide]at hp2;have hz:=Int.natCast_nonneg (2^j);have hq:((2^j:Nat):Int)≤4294967296:=Int.ofNat_le.2 hp2;unfold aZW.l4;refine hs.ldf i hi rfl ?_;simp only[HV];rw[ZG (by omega) (by omega)];refine Zh ?_ (hK j ⟨by rw[hc,hje];exact Int.le_refl _,hfit,.inl (by rw[hc,hje])⟩);rw[hc,←hje];have:=pow_pos j;omega
 |succ t ih=>
  intro j hj hfit;have hp2:=aZF (show j+1≤32 by omega);rw[show 2^32=4294967296 by decide,Nat.pow_succ]at hp2;have h2:i64.wrap ((2:Int)*((2^j:Nat):Int))=((2^(j+1):Nat):Int):=by
   rw[ZG (by omega) (by omega),Nat.pow_succ];omega
  have hle:((2^(j+1):Nat):Int)≤c:=by
   rw[hc];have:=aZF (show j+1≤eb by omega);omega
  unfold aZW.l4;refine hs.ldf i hi rfl ?_;simp only[HV];rw[h2];refine Zn hle ?_;refine hs.ldf i hi rfl ?_;simp only[HV];refine⟨by omega,trivial,?_⟩;obtain⟨f,hfe⟩:=Int.eq_ofNat_of_zero_le (show 0≤free-per by omega);rw[ZG (x:=free-per) (by omega) (by omega)];rw[show Int.tdiv (free-per) r=((f/2^ea:Nat):Int) by rw[hfe,hr];rfl];have hdl:f/2^ea≤f:=Nat.div_le_self _ _;rw[aZJ (by omega)];have hiff:(((2^(j+1):Nat):Int)≤((f/2^ea:Nat):Int))↔((2^(j+1):Nat):Int)*r≤free-per:=by
   rw[Int.ofNat_le,Nat.le_div_iff_mul_le (by omega),hfe,hr,←Int.natCast_mul,Int.ofNat_le]
  by_cases hc2:((2^(j+1):Nat):Int)*r≤free-per
  ·refine Zn (hiff.2 hc2) ?_;have h3:i64.wrap (((2^j:Nat):Int)*(2:Int))=((2^(j+1):Nat):Int):=by rw[Int.mul_comm];exact h2
   rw[h3];exact ih (j+1) (by omega) hc2
  ·refine Zh (fun h=>hc2 (hiff.1 h)) (hK j ⟨?_,hfit,.inr ?_⟩)
   ·rw[hc];have:=aZF (show j≤eb by omega);omega
   ·have e:(2:Int)*((2^j:Nat):Int)=((2^(j+1):Nat):Int):=by rw[Nat.pow_succ];omega
    rw[e];omega
theorem uZ8 (r c per free:Int)(hper: -9223372036854775808≤per∧per≤9223372036854775807)(hf:free≤9223372036854775807)(H:Hp)(hT:T64 H):
  Za Tryz.prog 165 #[.agg #[.int .i64 r,.int .i64 c],.int .i64 per,.int .i64 free] H fun v H'=>nZD r c per free v∧H'=H:=by
 refine Za.forget ?_;apply aZW.ok;unfold aZW;refine(Sep.start H).nw fun b1 H1 hs=>?_
 have out:∀{v:Value},nZD r c per free v→∃ H'',H''.le H1∧nZD r c per free v∧H''=H:=fun h=>⟨H,hs.ow 0 rfl,h,rfl⟩
 first|refine hs.ldw 1 rfl rfl ?_
 try simp only[HV]
 refine Za.use (bZR r c H1 (hT.le (hs.ow 0 rfl))) ?_;simp only[HV];cases hg:dZA r c with
 |false=>exact aZx rfl (out (.inl ⟨fun h=>(by rw[hg]at h;cases h.1),rfl⟩))
 |true=>
  refine aZc rfl ?_;by_cases h1:per<4
  ·exact Zn h1 (out (.inl ⟨fun h=>(by have:=eZl h.2.1;omega),rfl⟩))
  refine Zh h1 ?_;by_cases h2:per>512
  ·exact Zn h2 (out (.inl ⟨fun h=>(by have:=eZl h.2.1;omega),rfl⟩))
  refine Zh h2 ?_;have hpb:=mZm (p:=per) (by omega) (by omega);cases hp:bZ8 per with
  |false=>exact ZA (fun h=>by rw[hpb.1 h]at hp;cases hp) (out (.inl ⟨fun h=>(by rw[hp]at h;cases h.2.1),rfl⟩))
  |true=>
   refine Zq (hpb.2 hp) ?_;by_cases h3:free<per
   ·exact Zn h3 (out (.inl ⟨fun h=>(by omega),rfl⟩))
   refine Zh h3 ?_
   first|refine hs.ldf 1 rfl rfl ?_|refine hs.ldg 1 rfl rfl ?_
   try simp only[HV]
   rw[ZG (x:=free-per) (by omega) (by omega)];by_cases h4:free-per<r
   ·exact Zn h4 (out (.inl ⟨fun h=>(by omega),rfl⟩))
   refine Zh h4 ?_;obtain⟨ea,eb,hr,hc,hab,_,_⟩:=hZp hg;refine⟨eb+1,?_⟩;have:=rZM hr hc hab hp ⟨by omega,hf⟩ (fun v H'=>∃ H'',H''.le H'∧nZD r c per free v∧H''=H) b1 1 rfl hs (fun j hj=>out (.inr ⟨⟨hg,hp,by omega,by omega⟩,j,hj,rfl⟩)) eb 0 (by omega) (by rw[Nat.pow_zero];omega);exact this
end Go.Proofs.YtgfildcgihbdaaaGreatDoor.Trn
namespace Go.Hw
open Go
def bZ9 (b:Nat):Value:=.pointer (some ⟨b,0,none⟩)
def ent (x:Nat×Int×Nat):MapEntry:={ key:=bZ9 x.1,val:=.int .i64 x.2.1,born:=x.2.2}
def bZV (l:List (Nat×Int×Nat))(clock:Nat):AO:=.obj (.map (l.map ent).toArray clock)
def bZ2 (H:Hp)(b:Nat):Prop:=∃ c e,H b=some (.obj (.cells c e))
theorem bZ2.le {H H':Hp}{b:Nat}(h:bZ2 H b)(k:H.le H'):bZ2 H' b:=by
 obtain⟨c,e,h⟩:=h;exact⟨c,e,k _ _ h⟩
theorem bZ2.heap {H:Hp}{w:World}{b:Nat}(h:bZ2 H b)(hw:Fits H w):∃ c e,w.heap[b]? =some (.cells c e (0,0)):=by
 obtain⟨c,e,h⟩:=h;obtain⟨o,ho,hh⟩:=hw _ _ h;cases hh;exact⟨c,e,ho⟩
theorem bZV.heap {H:Hp}{w:World}{r clock:Nat}{l:List (Nat×Int×Nat)}(h:H r=some (bZV l clock))(hw:Fits H w):w.heap[r]? =some (.map (l.map ent).toArray clock):=by
 obtain⟨o,ho,hh⟩:=hw _ _ h;cases hh;exact ho
section
variable {P : Program} {t te : TypeId} {j : TypeInfo} (ht : P.underlying t = some (.pointer te)) (hj : P.info? te = some j) (hs : j.size ≠ 0)
include ht hj hs
theorem nZu {H:Hp}{w:World}(hw:Fits H w){a b:Nat}(ha:bZ2 H a)(hb:bZ2 H b):(Op.equal t (bZ9 a) (bZ9 b)).run P w= .ok (decide (a=b)) w:=by
 obtain⟨ca,ea,ha⟩:=ha.heap hw;obtain⟨cb,eb,hb⟩:=hb.heap hw;unfold Op.equal Op.maxDepth Op.equalIn bZ9;simp only[Sem.run_bind,Zw ht,Result.andThen_ok,bZM hj];rw[if_pos hs];by_cases e:a=b
 ·subst e;rw[run_sameAddr_same];simp
 ·rw[run_sameAddr_other w (a:=⟨a,0,none⟩) (b:=⟨b,0,none⟩) (by simpa using e) ha hb];simp[e]
theorem nZt {w:World}{b:Nat}:(Op.equal t (.pointer none) (bZ9 b)).run P w= .ok false w:=by
 unfold Op.equal Op.maxDepth Op.equalIn bZ9;simp[Zw ht]
def cZB (a:Nat):List (Nat×Int×Nat)→Nat→Option (Nat×Value)
 | [],_=>none
 |x::l,i=>if a=x.1 then some (i,.int .i64 x.2.1)else cZB a l (i+1)
theorem kZp {H:Hp}{w:World}(hw:Fits H w){a:Nat}(ha:bZ2 H a):∀(l:List (Nat×Int×Nat)) (i:Nat),(∀ x∈l,bZ2 H x.1)→(Instr.findAsking t (bZ9 a) (l.map ent) i).run P w= .ok (cZB a l i) w
 | [],i,_=>by simp[Instr.findAsking,cZB]
 |x::l,i,h=>by
  simp only[List.map_cons,Instr.findAsking,Sem.run_bind];rw[show(ent x).key=bZ9 x.1 from rfl,nZu ht hj hs hw ha (h x (by simp))];simp only[Result.andThen_ok,cZB];by_cases e:a=x.1
  ·simp[e,ent]
  ·simp only[e,decide_false,Bool.false_eq_true,if_false];exact kZp hw ha l (i+1) (fun y hy=>h y (by simp[hy]))
theorem kZo {w:World}:∀(l:List (Nat×Int×Nat)) (i:Nat),(Instr.findAsking t (.pointer none) (l.map ent) i).run P w= .ok none w
 | [],i=>by simp[Instr.findAsking]
 |x::l,i=>by
  simp only[List.map_cons,Instr.findAsking,Sem.run_bind];rw[show(ent x).key=bZ9 x.1 from rfl,nZt ht hj hs];simp only[Result.andThen_ok,Bool.false_eq_true,if_false];exact kZo l (i+1)
theorem iZn {H:Hp}{w:World}(hw:Fits H w){a:Nat}(ha:bZ2 H a)(l:List (Nat×Int×Nat))(h:∀ x∈l,bZ2 H x.1):(Instr.findKey t (bZ9 a) (l.map ent)).run P w= .ok (cZB a l 0) w:=by
 unfold Instr.findKey;simp only[Sem.run_bind,Zw ht,Result.andThen_ok];cases l with
 |nil=>simp[Instr.findNow,cZB]
 |cons x l=>
  simp only[List.map_cons,Instr.findNow,Instr.sameNow];exact kZp ht hj hs hw ha (x::l) 0 h
theorem pZl {w:World}(l:List (Nat×Int×Nat)):(Instr.findKey t (.pointer none) (l.map ent)).run P w= .ok none w:=by
 unfold Instr.findKey;simp only[Sem.run_bind,Zw ht,Result.andThen_ok];cases l with
 |nil=>simp[Instr.findNow]
 |cons x l=>
  simp only[List.map_cons,Instr.findNow,Instr.sameNow];exact kZo ht hj hs (x::l) 0
theorem gZc {w:World}(e:Bool)(p:OA):(Instr.checkKey e 10000 t (.pointer p)).run P w= .ok () w:=by
 unfold Instr.checkKey;simp[Zw ht]
variable {tm tv : TypeId} (hm : P.underlying tm = some (.map t tv))
include hm
theorem qZP {jv:TypeInfo}(hv:P.info? tv=some jv)(hz:jv.zero=some (.int .i64 0)){H:Hp}{r clock a:Nat}{l:List (Nat×Int×Nat)}(hr:H r=some (bZV l clock))(ha:bZ2 H a)(hl:∀ x∈l,bZ2 H x.1){K:Value→Prop}
  (k1:∀ i v,cZB a l 0=some (i,v)→K (.tuple #[v,.bool true])) (k2:cZB a l 0=none→K (.tuple #[.int .i64 0,.bool false])):jZl P (Instr.lookup tm (.map (some r)) (bZ9 a) true) H K:=by
 have hrun:∀ w,Fits H w→(Instr.lookup tm (.map (some r)) (bZ9 a) true).run P w= .ok (match cZB a l 0 with|some (_,v)=>.tuple #[v,.bool true]|none=>.tuple #[.int .i64 0,.bool false]) w:=fun w hw=>by
  have hh:=bZV.heap hr hw;simp only[Instr.lookup,Sem.run_bind,Zw hm,Result.andThen_ok,MapKept.run_getObj_map hh,Sem.run_pure];rw[show bZ9 a= .pointer (some ⟨a,0,none⟩)from rfl,gZc ht hj hs];simp only[Result.andThen_ok];rw[show(Value.pointer (some ⟨a,0,none⟩))=bZ9 a from rfl,iZn ht hj hs hw ha l hl];simp only[Result.andThen_ok];cases cZB a l 0 with
  |some x=>simp
  |none=>simp[zeroValue,dZd hv,hz]
 refine⟨_,?_,hrun⟩;cases hf:cZB a l 0 with
 |some x=>exact k1 _ _ hf
 |none=>exact k2 hf
theorem nZv {jv:TypeInfo}(hv:P.info? tv=some jv)(hz:jv.zero=some (.int .i64 0)){H:Hp}{r clock:Nat}{l:List (Nat×Int×Nat)}(hr:H r=some (bZV l clock)){K:Value→Prop}(k2:K (.tuple #[.int .i64 0,.bool false])):
  jZl P (Instr.lookup tm (.map (some r)) (.pointer none) true) H K:=by
 refine⟨_,k2,fun w hw=>?_⟩;have hh:=bZV.heap hr hw;simp only[Instr.lookup,Sem.run_bind,Zw hm,Result.andThen_ok,MapKept.run_getObj_map hh,Sem.run_pure];rw[gZc ht hj hs];simp only[Result.andThen_ok];rw[pZl ht hj hs];simp[zeroValue,dZd hv,hz]
end
theorem mZO {α β:Type}(f:α→β):∀(l:List α) (k:Nat),(l.map f).eraseIdx k=(l.eraseIdx k).map f
 | [],k=>by simp
 |x::l,0=>by simp
 |x::l,k+1=>by simp[mZO f l k]
theorem At.setMap {H0 H:Hp}{w0 w:World}{r clock:Nat}{l:List (Nat×Int×Nat)}(hA:At H0 w0 H w)(hr:H r=some (bZV l clock))(o:Obj):At H0 w0 (H.set r (.obj o)) { w with heap:=w.heap.setIfInBounds r o}:=by
 have hh:=bZV.heap hr hA.fits;have hlt:r<w.heap.size:=(Array.getElem?_eq_some_iff.1 hh).1;refine hA.turn hr (x':=o) ?_ rfl ?_ rfl rfl rfl (fun c hc=>?_)
 ·show(w.heap.setIfInBounds r o)[r]? =some o
  simp[hlt]
 ·show(w.heap.setIfInBounds r o).size=w.heap.size
  simp
 ·show(w.heap.setIfInBounds r o)[c]? =w.heap[c]?
  rw[Array.getElem?_setIfInBounds_ne (Ne.symm hc)]
section
variable {P : Program} {t te : TypeId} {j : TypeInfo} (ht : P.underlying t = some (.pointer te)) (hj : P.info? te = some j) (hs : j.size ≠ 0)
variable {tm tv : TypeId} (hm : P.underlying tm = some (.map t tv))
include ht hj hs hm
theorem nZw {H:Hp}{r clock a:Nat}{n:Int}{l:List (Nat×Int×Nat)}(hr:H r=some (bZV l clock))(ha:bZ2 H a)(hl:∀ x∈l,bZ2 H x.1)(hf:cZB a l 0=none){K:Unit→Hp→Prop}
  (k:K () (H.set r (bZV (l++[(a,n,clock)]) (clock+1)))):cZw P (Instr.mapUpdate tm (.map (some r)) (bZ9 a) (.int .i64 n)) H K:=fun H0 w0 w hA=>by
 have hh:=bZV.heap hr hA.fits;refine⟨(),_,_,?_,k,hA.setMap hr _⟩;simp only[Instr.mapUpdate,Sem.run_bind,Zw hm,Result.andThen_ok,MapKept.run_getObj_map hh];rw[show bZ9 a= .pointer (some ⟨a,0,none⟩)from rfl,gZc ht hj hs];simp only[Result.andThen_ok];rw[show(Value.pointer (some ⟨a,0,none⟩))=bZ9 a from rfl,iZn ht hj hs hA.fits ha l hl,hf];simp only[Result.andThen_ok];rw[MapKept.run_setObj_map _ hh];simp[ent]
theorem jZu (a:Nat):∀(l:List (Nat×Int×Nat)) (i k:Nat) (v:Value),(l.map (·.1)).Nodup→cZB a l i=some (k,v)→i≤k∧l.eraseIdx (k-i)=l.filter (fun x=>x.1≠a)∧∃ x∈l,x.1=a∧v= .int .i64 x.2.1
 | [],i,k,v,_,h=>by cases h
 |x::l,i,k,v,hn,h=>by
  unfold cZB at h;simp only[List.map_cons,List.nodup_cons]at hn;by_cases e:a=x.1
  ·rw[if_pos e]at h;cases h;refine⟨Nat.le_refl _,?_,x,by simp,e.symm,rfl⟩;rw[Nat.sub_self,List.eraseIdx_cons_zero,List.filter_cons_of_neg (by simp[e])]
   symm
   rw[List.filter_eq_self];intro y hy;have:y.1≠a:=fun e2=>hn.1 (by rw[← e,←e2];exact List.mem_map_of_mem hy)
   simpa using this
  ·rw[if_neg e]at h;obtain⟨h1,h2,y,hy,h3,h4⟩:=jZu a l (i+1) k v hn.2 h;refine⟨by omega,?_,y,by simp[hy],h3,h4⟩;rw[show k-i=(k-(i+1))+1 by omega,List.eraseIdx_cons_succ,h2,List.filter_cons_of_pos (by simp;exact fun e2=>e e2.symm)]
theorem qZJ {ty t2:TypeId}{H:Hp}{r clock a k:Nat}{v:Value}{l:List (Nat×Int×Nat)}(hr:H r=some (bZV l clock))(ha:bZ2 H a)(hl:∀ x∈l,bZ2 H x.1)(hn:(l.map (·.1)).Nodup)(hf:cZB a l 0=some (k,v)){K:VK}
  (kk:K (.tuple #[]) (H.set r (bZV (l.filter fun x=>x.1≠a) clock))):cZw P (Builtin.delete_ #[tm,t2] ty #[.map (some r),bZ9 a]) H K:=fun H0 w0 w hA=>by
 have hh:=bZV.heap hr hA.fits;obtain⟨_,h2,_⟩:=jZu ht hj hs hm a l 0 k v hn hf;rw[Nat.sub_zero]at h2;refine⟨_,_,_,?_,kk,hA.setMap hr _⟩;simp only[Builtin.delete_,Sem.run_bind,Zw hm,Result.andThen_ok,MapKept.run_getObj_map hh,List.getElem?_toArray,List.getElem?_cons_zero,List.getElem?_cons_succ];rw[show bZ9 a= .pointer (some ⟨a,0,none⟩)from rfl,gZc ht hj hs];simp only[Result.andThen_ok];rw[show(Value.pointer (some ⟨a,0,none⟩))=bZ9 a from rfl,iZn ht hj hs hA.fits ha l hl,hf];simp only[Result.andThen_ok];rw[Sem.run_bind,MapKept.run_setObj_map _ hh];rw[← h2,←mZO];simp
end
end Go.Hw
namespace Go.Proofs.YtgfildcgihbdaaaGreatDoor.W
open Go Go.Hw
theorem eZL :Tryz.prog.follows .mixedOrders=true:=by kernel_rfl
def gZF (x1:Int)(H:Hp)(K:VK):Prop:=
 BIf (decide (x1<1)) (K (.pointer none) H) (BIf (decide (x1>16777216)) (K (.pointer none) H) (Nw H (.obj (.map #[] 0)) fun b1 H1=>Nw H1 (.obj (.cells #[.int .i64 x1,.int .i64 0,.int .i64 0,.map (some b1)] 180)) fun b2 H2=>K (.pointer (some ⟨b2,0,none⟩)) H2))
theorem gZF.ok x1 H K (h:gZF x1 H K):Za Tryz.prog 73 #[.int .i64 x1] H K:=
 okN eZL Tryz.func73 rfl rfl h
def dZq (p1:OA)(x1:Int)(H:Hp)(K:VK):Prop:=
 BIf (decide (x1<1)) (K (.tuple #[.pointer none,.int .i64 1]) H) (NN p1 fun a1=>HcI 158 #[.pointer (some (a1.add 0))] H fun x2 H1=>BIf (decide (x1>x2)) (K (.tuple #[.pointer none,.int .i64 6]) H1) (MkS Tryz.prog 82 x1 x1 H1 fun v2 H2=>DSl v2 fun A1 n1 m1=>Nw H2 (.obj (.cells #[.pointer p1,.slice A1 n1 m1] 245)) fun b1 H3=>NN p1 fun a2=>LeM H3 (a2.add 3) fun r1=>cZw Tryz.prog (Instr.mapUpdate 178 (.map r1) (.pointer (some ⟨b1,0,none⟩)) (.int .i64 x1)) H3 fun _ H4=>NN p1 fun a3=>Hz 159 #[.pointer (some (a3.add 0)),.int .i64 x1] H4 fun v4 H5=>K (.tuple #[.pointer (some ⟨b1,0,none⟩),.int .i64 0]) H5))
theorem dZq.ok p1 x1 H K (h:dZq p1 x1 H K):Za Tryz.prog 115 #[.pointer p1,.int .i64 x1] H K:=
 okN eZL Tryz.func115 rfl rfl h
def aZf.l1 (K:VK):Nat→OA→OA→Nat→Nat→Int→Int→Hp→Prop
 |0,_,_,_,_,_,_,_=>False
 |k+1,p2,A2,n2,m2,x1,x2,H=>
  let R1:=aZf.l1 K k
  BIf (decide (x2<x1)) (ixI x2 n2 (NN A2 fun a1=>LeP H (a1.add (x2.toNat*1)) fun p3=>NN p2 fun a2=>LeM H (a2.add 3) fun r1=>jZl Tryz.prog (Instr.lookup 178 (.map r1) (.pointer p3) true) H fun v3=>gZ6 v3 fun x3 c1=>(BIf c1 (NN p2 fun a3=>LeM H (a3.add 3) fun r2=>cZw Tryz.prog (Builtin.delete_ #[178,195] 0 #[.map r2,.pointer p3]) H fun v7 H1=>NN p2 fun a4=>Hz 159 #[.pointer (some (a4.add 0)),.int .i64 (i64.wrap (0-x3))] H1 fun v8 H2=>NN p3 fun a5=>St H2 (((a5.add 0).add 1).add 0) (.slice none 0 0) fun H3=>R1 p2 A2 n2 m2 x1 (i64.wrap (x2+1)) H3) (R1 p2 A2 n2 m2 x1 (i64.wrap (x2+1)) H)))) (K (.tuple #[]) H)
def aZf (p1 A1:OA)(n1 m1:Nat)(H:Hp)(K:VK):Prop:=
 (∃ k,aZf.l1 K k p1 A1 n1 m1 (n1:Int) 0 H)
def aZf.l1.L (K:VK)(k:Nat):Mid:=fun E D H=>
 eP E 0 fun p2=>DG (E.get? 8) fun w8=>DSl w8 fun A2 n2 m2=>eI E 9 .i64 fun x1=>eI E 10 .i64 fun x2=>Zk D (aZf.l1 K k p2 A2 n2 m2 x1 x2 H)
def aZf.Λ1 (_:VK)(_R1:OA→OA→Nat→Nat→Int→Int→Hp→Prop):Zt:=Zt.none (fun _=>none)
def aZf.Λ (K:VK):Zt:=⟨fun i=>none,fun i=>match Nat.beq i 1 with|true=>some (fun E D H=>∃ k,aZf.l1.L K k E D H)|false=>none,(fun _=>none)⟩
theorem aZf.okD p1 A1 n1 m1 H K (h:aZf p1 A1 n1 m1 H K):aZU Tryz.prog 117 #[.pointer p1,.slice A1 n1 m1] H K:=
 xZL (Λ:=(aZf.Λ K)) eZL Tryz.func117 rfl rfl h (oC (fun E D H h=>by
   refine Safe.loop' (aZf.l1.L K) (fun E D H h=>?_) (fun k E D H h=>?_) E D H h
   ·obtain⟨w0,e0,g1⟩:=DG.out h;obtain⟨p2,rfl,g2⟩:=DP.out g1;obtain⟨w8,e8,g3⟩:=DG.out g2;obtain⟨A2,n2,m2,rfl,g4⟩:=DSl.out g3;obtain⟨w9,e9,g5⟩:=DG.out g4;obtain⟨x1,rfl,g6⟩:=DI.out g5;obtain⟨w10,e10,g7⟩:=DG.out g6;obtain⟨x2,rfl,g8⟩:=DI.out g7;obtain⟨rfl,h'⟩:=Zk.out g8;exact h'
   ·obtain⟨p2,e0,g2⟩:=GP h;obtain⟨w8,e8,g3⟩:=DG.out g2;obtain⟨A2,n2,m2,rfl,g4⟩:=DSl.out g3;obtain⟨x1,e9,g6⟩:=GI g4;obtain⟨x2,e10,g8⟩:=GI g6;obtain⟨rfl,h'⟩:=Zk.out g8;exact okJ (Λ:=(aZf.Λ1 K (aZf.l1 K k))) eZL [] (Zb.cons e0 (Zb.cons e8 (Zb.cons e9 (Zb.cons e10 (Zb.nil _))))) h' oN) oN)
def cZW (p1:OA)(H:Hp)(K:VK):Prop:=
 NN p1 fun a1=>LeS H ((a1.add 0).add 1) fun A1 n1 m1=>K (.slice A1 n1 m1) H
theorem cZW.ok p1 H K (h:cZW p1 H K):Za Tryz.prog 119 #[.pointer p1] H K:=
 okN eZL Tryz.func119 rfl rfl h
def dZr (p1:OA)(H:Hp)(K:VK):Prop:=
 NN p1 fun a1=>LeI H (a1.add 0) fun x1=>NN p1 fun a2=>LeI H (a2.add 1) fun x2=>K (.int .i64 (i64.wrap (x1-x2))) H
theorem dZr.ok p1 H K (h:dZr p1 H K):Za Tryz.prog 158 #[.pointer p1] H K:=
 okN eZL Tryz.func158 rfl rfl h
def dZK (p1:OA)(x1:Int)(H:Hp)(K:VK):Prop:=
 NN p1 fun a1=>LeI H (a1.add 1) fun x2=>NN p1 fun a2=>St H ((a2.add 1).add 0) (.int .i64 (i64.wrap (x2+x1))) fun H1=>NN p1 fun a3=>LeI H1 (a3.add 2) fun x3=>NN p1 fun a4=>LeI H1 (a4.add 1) fun x4=>NN p1 fun a5=>St H1 ((a5.add 2).add 0) (.int .i64 (if x4>x3 then x4 else x3)) fun H2=>K (.tuple #[]) H2
theorem dZK.ok p1 x1 H K (h:dZK p1 x1 H K):Za Tryz.prog 159 #[.pointer p1,.int .i64 x1] H K:=
 ok0 (fun i=>match Nat.beq i 1 with|true=>some ([],[0,1,2,3,4,5,6,7,8,9,10,11],12)|false=>none) eZL Tryz.func159 rfl rfl h
end Go.Proofs.YtgfildcgihbdaaaGreatDoor.W
namespace Go.Proofs.YtgfildcgihbdaaaGreatDoor.Are
open Go Go.Hw W
def bZT (cap used peak:Int)(mp:Nat):AO:=.obj (.cells #[.int .i64 cap,.int .i64 used,.int .i64 peak,.map (some mp)] 180)
def cZe (a:Nat)(A:OA)(n m:Nat):AO:=.obj (.cells #[bZ9 a,.slice A n m] 245)
theorem pZQ (H:Hp)(a mp:Nat)(cap used peak:Int)(h1:0≤used∧used≤cap∧cap≤16777216)(ha:H a=some (bZT cap used peak mp)):Za Tryz.prog 158 #[.pointer (some ⟨a,0,none⟩)] H (RetE (.int .i64 (cap-used)) H):=by
 apply dZr.ok;unfold dZr;simp only[aZY,Addr.add_lit',Nat.zero_add];refine bZn ha (v:=.int .i64 cap) rfl ?_;simp only[HV];refine bZn ha (v:=.int .i64 used) rfl ?_;simp only[HV];rw[ZG (by omega) (by omega)];exact RetE.mk _ _
theorem rZJ (H:Hp)(a mp:Nat)(cap used peak n:Int)(h1:0≤used∧used≤16777216)(h2: -16777216≤n∧n≤16777216)(ha:H a=some (bZT cap used peak mp)):
  Za Tryz.prog 159 #[.pointer (some ⟨a,0,none⟩),.int .i64 n] H (RetE (.tuple #[]) (H.set a (bZT cap (used+n) (if used+n>peak then used+n else peak) mp))):=by
 apply dZK.ok;unfold dZK;simp only[aZY,Addr.add_lit',Nat.zero_add,Nat.add_zero];refine bZn ha (v:=.int .i64 used) rfl ?_;simp only[HV];rw[ZG (by omega) (by omega)];refine hZI ha (by simp) rfl ?_;refine bZn (Hp.set_same _ _ _) (v:=.int .i64 peak) rfl ?_;simp only[HV];refine bZn (Hp.set_same _ _ _) (v:=.int .i64 (used+n)) rfl ?_;simp only[HV];refine hZI (Hp.set_same _ _ _) (by simp) rfl ?_;rw[Hp.set_set];exact RetE.mk _ _
theorem wZx (H:Hp)(x:Int)(h:1≤x∧x≤16777216):Za Tryz.prog 73 #[.int .i64 x] H (fun v H'=>∃ mp a,H mp=none∧H a=none∧a≠mp∧v=bZ9 a∧H'=(H.set mp (bZV [] 0)).set a (bZT x 0 0 mp)):=by
 apply gZF.ok;unfold gZF;refine Zh (by omega) (Zh (by omega) ?_);intro mp hmp;intro a ha;obtain⟨h1,h2⟩:=Hp.set_none ha;exact⟨mp,a,hmp,h2,h1,rfl,rfl⟩
theorem tZD (H:Hp)(b a:Nat)(A:OA)(n m:Nat)(hb:H b=some (cZe a A n m)):Za Tryz.prog 119 #[bZ9 b] H (RetE (.slice A n m) H):=by
 apply cZW.ok;unfold cZW;simp only[aZY,Addr.add_lit',Nat.zero_add,Nat.add_zero];refine bZn hb (v:=.slice A n m) rfl ?_;simp only[HV];exact RetE.mk _ _
theorem nZT :Tryz.prog.underlying 195=some (.pointer 245):=by kernel_rfl
theorem nZS :Tryz.prog.underlying 178=some (.map 195 3):=by kernel_rfl
theorem uZ5 :∃ j,Tryz.prog.info? 245=some j∧j.size≠0:=by
 have h:(Tryz.prog.info? 245).map (·.size)=some 2:=by kernel_rfl
 obtain⟨j,hj,h2⟩:=Option.map_eq_some_iff.1 h;exact⟨j,hj,by rw[h2];omega⟩
theorem xZC :∃ j,Tryz.prog.info? 3=some j∧j.zero=some (.int .i64 0):=by
 have h:(Tryz.prog.info? 3).map (·.zero)=some (some (.int .i64 0)):=by kernel_rfl
 obtain⟨j,hj,h2⟩:=Option.map_eq_some_iff.1 h;exact⟨j,hj,h2⟩
theorem bZ7 :bZi Tryz.prog 82=some (1,8,some #[.int .u64 0]):=by kernel_rfl
theorem lZu (a:Nat):∀(l:List (Nat×Int×Nat)) (i:Nat),(∀ x∈l,x.1≠a)→cZB a l i=none
 | [],_,_=>rfl
 |x::l,i,h=>by unfold cZB;rw[if_neg (fun e=>h x (by simp) e.symm)];exact lZu a l (i+1) (fun y hy=>h y (by simp[hy]))
def bZj (n:Nat):List Value:=aZv [.int .u64 0] n
theorem iZu (H:Hp)(a mp:Nat)(cap used peak n:Int)(l:List (Nat×Int×Nat))(clock:Nat)(h1:0≤used∧used≤cap∧cap≤16777216)(hn:1≤n∧n≤cap-used)(hne:a≠mp)
  (ha:H a=some (bZT cap used peak mp)) (hm:H mp=some (bZV l clock)) (hl:∀ x∈l,bZ2 H x.1):
  Za Tryz.prog 115 #[bZ9 a,.int .i64 n] H (fun v H'=>∃ rb b,H rb=none∧H b=none∧b≠rb∧v= .tuple #[bZ9 b,.int .i64 0]∧
   H'=(((H.set rb (.row (bZj n.toNat) 82 n.toNat)).set b (cZe a (some ⟨rb,0,none⟩) n.toNat n.toNat)).set mp (bZV (l++[(b,n,clock)]) (clock+1))).set a (bZT cap (used+n) (if used+n>peak then used+n else peak) mp)):=by
 obtain⟨jb,hjb,hsb⟩:=uZ5;apply dZq.ok;unfold dZq;refine Zh (by omega) ?_;simp only[aZY,Addr.add_lit',Nat.zero_add,Nat.add_zero];refine Za.use (pZQ H a mp cap used peak h1 ha) ?_
 try simp only[HV]
 refine Zh (by omega) ?_;refine nZ2 bZ7 rfl (n:=n.toNat) (m:=n.toNat) (by omega) (by omega) (Nat.le_refl _) (by omega) (by omega) ?_;intro rb hrb;rw[Nat.mul_one];simp only[HV];intro b hb;obtain⟨hbr,hb'⟩:=Hp.set_none hb;have har:a≠rb:=fun e=>by rw[e,hrb]at ha;cases ha
 have hab:a≠b:=fun e=>by rw[e,hb']at ha;cases ha
 have hmr:mp≠rb:=fun e=>by rw[e,hrb]at hm;cases hm
 have hmb:mp≠b:=fun e=>by rw[e,hb']at hm;cases hm
 have hle:=Hp.le_trans (Hp.le_set (o:=.row (bZj n.toNat) 82 n.toNat) hrb) (Hp.le_set (o:=cZe a (some ⟨rb,0,none⟩) n.toNat n.toNat) hb);refine bZn (hle _ _ ha) (v:=.map (some mp)) rfl ?_;simp only[HV];refine nZw nZT hjb hsb nZS (hle _ _ hm) ⟨_,_,Hp.set_same _ _ _⟩ (fun x hx=>(hl x hx).le hle) (lZu b l 0 (fun x hx e=>by
  obtain⟨c,e',hxx⟩:=hl x hx;rw[e,hb']at hxx;cases hxx)) ?_
 refine Za.use (rZJ _ a mp cap used peak n (by omega) (by omega) (by rw[Hp.set_other _ _ hne];exact hle _ _ ha)) ?_;exact⟨rb,b,hrb,hb',hbr,rfl,rfl⟩
end Go.Proofs.YtgfildcgihbdaaaGreatDoor.Are
namespace Go.Proofs.YtgfildcgihbdaaaGreatDoor.Are
open Go Go.Hw W
def xZQ (i k:Nat):Value:=.int .u64 ((100*i+k+1:Nat):Int)
def xZR (i n:Nat):List Value:=(List.range n).map (xZQ i)
structure Inv (H0 H:Hp)(a mp cl:Nat)(tk:List (Nat×Int×Nat))(used peak:Int)(bs:List (Nat×Nat×Nat))(A:OA)(n m:Nat):Prop where
 le:H0.le H
 ne:a≠mp
 ha:H a=some (bZT 1000 used peak mp)
 ha0:H0 a=none
 hm:H mp=some (bZV tk cl)
 hm0:H0 mp=none
 hl:∀ x∈tk,bZ2 H x.1
 hb:∀(j:Nat) (x:Nat×Nat×Nat),bs[j]? =some x→H x.1=some (cZe a (some ⟨x.2.1,0,none⟩) x.2.2 x.2.2)∧H x.2.1=some (.row (xZR j x.2.2) 82 x.2.2)∧x.2.2≤64
 hn:n=bs.length
 all:(A=none∧bs=[]∧m=0)∨∃ ab mm,A=some ⟨ab,0,none⟩∧H0 ab=none∧H ab=some (.row (bs.map fun x=>bZ9 x.1) 195 mm)∧m≤mm
theorem Inv.cells {H0 H:Hp}{a mp cl:Nat}{tk:List (Nat×Int×Nat)}{used peak:Int}{bs:List (Nat×Nat×Nat)}{A:OA}{n m:Nat}(h:Inv H0 H a mp cl tk used peak bs A n m):Cells H A (bs.map fun x=>bZ9 x.1):=by
 rcases h.all with⟨rfl,rfl,_⟩|⟨ab,mm,rfl,_,hab,_⟩
 ·exact Cells.nil _ _
 ·have:=Cells.row hab 0 bs.length
  rwa [List.drop_zero,List.take_of_length_le (by simp)]at this
end Go.Proofs.YtgfildcgihbdaaaGreatDoor.Are
namespace Go.Proofs.YtgfildcgihbdaaaGreatDoor.Are
open Go Go.Hw W
end Go.Proofs.YtgfildcgihbdaaaGreatDoor.Are
namespace Go.Proofs.YtgfildcgihbdaaaGreatDoor.Are
open Go Go.Hw W
def jZB (p:Option Nat):Value:=match p with|some b=>bZ9 b|none=>.pointer none
def cZt (tk:List (Nat×Int×Nat)):Int:=(tk.map fun x=>x.2.1).sum
structure AI (H:Hp)(a mp cl:Nat)(tk:List (Nat×Int×Nat))(cap used peak:Int):Prop where
 ne:a≠mp
 ha:H a=some (bZT cap used peak mp)
 hm:H mp=some (bZV tk cl)
 nd:(tk.map (·.1)).Nodup
 hb:∀ x∈tk,1≤x.2.1∧∃ A n m,H x.1=some (cZe a A n m)
 hu:used=cZt tk∧used≤cap∧cap≤16777216
 bn:(tk.map (·.2.2)).Nodup∧∀ x∈tk,x.2.2<cl
theorem hZu :∀(tk:List (Nat×Int×Nat)),(∀ x∈tk,1≤x.2.1)→0≤cZt tk
 | [],_=>by simp[cZt]
 |x::l,h=>by
  have h1:=h x (by simp);have h2:=hZu l (fun y hy=>h y (by simp[hy]));unfold cZt at h2⊢;simp only[List.map_cons,List.sum_cons];omega
theorem hZt :∀(tk:List (Nat×Int×Nat)) (x:Nat×Int×Nat),(tk.map (·.1)).Nodup→x∈tk→cZt (tk.filter fun y=>y.1≠x.1)=cZt tk-x.2.1
 | [],x,_,h=>by simp at h
 |y::l,x,hn,h=>by
  simp only[List.map_cons,List.nodup_cons]at hn;rcases List.mem_cons.1 h with rfl|h
  ·rw[List.filter_cons_of_neg (by simp)];have:l.filter (fun y=>decide (y.1≠x.1))=l:=by
    rw[List.filter_eq_self];intro z hz;have:z.1≠x.1:=fun e=>hn.1 (by rw[← e];exact List.mem_map_of_mem hz)
    simpa using this
   rw[this];unfold cZt;simp only[List.map_cons,List.sum_cons];omega
  ·have hne:y.1≠x.1:=fun e=>hn.1 (by rw[e];exact List.mem_map_of_mem h)
   rw[List.filter_cons_of_pos (by simpa using hne)];have:=hZt l x hn.2 h;unfold cZt at this⊢;simp only[List.map_cons,List.sum_cons,this];omega
theorem lZv (a:Nat):∀(l:List (Nat×Int×Nat)) (i k:Nat) (v:Value),cZB a l i=some (k,v)→∃ x∈l,x.1=a∧v= .int .i64 x.2.1
 | [],i,k,v,h=>by cases h
 |x::l,i,k,v,h=>by
  unfold cZB at h;split at h
  ·rename_i e;cases h;exact⟨x,by simp,e.symm,rfl⟩
  ·obtain⟨y,hy,h2⟩:=lZv a l (i+1) k v h;exact⟨y,by simp[hy],h2⟩
theorem mZQ (a:Nat):∀(l:List (Nat×Int×Nat)) (i:Nat),cZB a l i=none→∀ x∈l,x.1≠a
 | [],i,_=>by simp
 |x::l,i,h=>by
  unfold cZB at h;split at h
  ·cases h
  ·rename_i e
   intro y hy;rcases List.mem_cons.1 hy with rfl|hy
   ·exact fun e2=>e e2.symm
   ·exact mZQ a l (i+1) h y hy
theorem AI.plain {H:Hp}{a mp cl:Nat}{tk:List (Nat×Int×Nat)}{cap used peak:Int}(h:AI H a mp cl tk cap used peak):∀ x∈tk,bZ2 H x.1:=fun x hx=>by
 obtain⟨_,A,n,m,g⟩:=h.hb x hx;exact⟨_,_,g⟩
structure gZ5 (H H':Hp)(a mp cl:Nat)(tk tk':List (Nat×Int×Nat))(cap peak:Int)(gone:Nat→Prop):Prop where
 ai:AI H' a mp cl tk' cap (cZt tk') peak
 mem:∀ x,x∈tk'↔x∈tk∧¬gone x.1
 keep:∀ q o,H q=some o→q≠a→q≠mp→(gone q→∀ x∈tk,x.1≠q)→H' q=some o
 nil:∀ x∈tk,gone x.1→H' x.1=some (cZe a none 0 0)
 sle:cZt tk'≤cZt tk
theorem gZ5.same {H H':Hp}{a mp cl:Nat}{tk tk':List (Nat×Int×Nat)}{cap peak:Int}{g g':Nat→Prop}(h:gZ5 H H' a mp cl tk tk' cap peak g)(h1:∀ q,g q→g' q)(h2:∀ q,g' q→g q∨∀ x∈tk',x.1≠q):gZ5 H H' a mp cl tk tk' cap peak g' where
 ai:=h.ai
 mem:=fun x=>by
  rw[h.mem];constructor
  ·intro⟨h3,h4⟩;refine⟨h3,fun h5=>?_⟩;rcases h2 _ h5 with h6|h6
   ·exact h4 h6
   ·exact h6 x ((h.mem x).2 ⟨h3,h4⟩) rfl
  ·intro⟨h3,h4⟩;exact⟨h3,fun h5=>h4 (h1 _ h5)⟩
 keep:=fun q o hq h3 h4 h5=>h.keep q o hq h3 h4 (fun h6=>h5 (h1 _ h6))
 nil:=fun x hx h3=>by
  by_cases h4:g x.1
  ·exact h.nil x hx h4
  ·rcases h2 _ h3 with h6|h6
   ·exact absurd h6 h4
   ·exact absurd rfl (h6 x ((h.mem x).2 ⟨hx,h4⟩))
 sle:=h.sle
theorem gZ5.one {H H':Hp}{a mp cl:Nat}{tk tk':List (Nat×Int×Nat)}{cap used peak:Int}{g g':Nat→Prop}(h0:AI H a mp cl tk cap used peak)(h:gZ5 H H' a mp cl tk tk' cap peak g){x:Nat×Int×Nat}(hx:x∈tk')(hg:∀ q,g' q↔g q∨q=x.1):
  gZ5 H (((H'.set mp (bZV (tk'.filter fun y=>y.1≠x.1) cl)).set a (bZT cap (cZt tk'-x.2.1) peak mp)).set x.1 (cZe a none 0 0)) a mp cl tk (tk'.filter fun y=>y.1≠x.1) cap peak g':=by
 obtain⟨g1,A,n,m,g2⟩:=h.ai.hb x hx;have hxa:x.1≠a:=fun e=>by rw[e,h.ai.ha]at g2;unfold bZT cZe at g2;cases g2
 have hxm:x.1≠mp:=fun e=>by rw[e,h.ai.hm]at g2;unfold bZV cZe at g2;cases g2
 have hne:=h.ai.ne;have hsum:=hZt tk' x h.ai.nd hx;have hsub:∀ y,y∈(tk'.filter fun y=>decide (y.1≠x.1))↔y∈tk'∧y.1≠x.1:=fun y=>by rw[List.mem_filter];simp
 have hkeep:∀ q o,H' q=some o→q≠a→q≠mp→q≠x.1→(((H'.set mp (bZV (tk'.filter fun y=>y.1≠x.1) cl)).set a (bZT cap (cZt tk'-x.2.1) peak mp)).set x.1 (cZe a none 0 0)) q=some o:=fun q o hq h1 h2 h3=>by
  rw[Hp.set_other _ _ h3,Hp.set_other _ _ h1,Hp.set_other _ _ h2];exact hq
 refine⟨⟨hne,?_,?_,?_,?_,?_,List.Nodup.sublist (List.Sublist.map _ (List.filter_sublist)) h.ai.bn.1,fun y hy=>h.ai.bn.2 y (List.mem_filter.1 hy).1⟩,fun y=>?_,fun q o hq h1 h2 h3=>?_,fun y hy h1=>?_,by rw[hsum];have:=h.sle;omega⟩
 ·rw[Hp.set_other _ _ (Ne.symm hxa),hsum];exact Hp.set_same _ _ _
 ·rw[Hp.set_other _ _ (Ne.symm hxm),Hp.set_other _ _ (Ne.symm hne)];exact Hp.set_same _ _ _
 ·exact List.Nodup.sublist (List.Sublist.map _ (List.filter_sublist)) h.ai.nd
 ·intro y hy;obtain⟨h1,h2⟩:=(hsub y).1 hy;obtain⟨h3,A',n',m',h4⟩:=h.ai.hb y h1;refine⟨h3,A',n',m',hkeep _ _ h4 (fun e=>?_) (fun e=>?_) h2⟩
  ·rw[e,h.ai.ha]at h4;unfold bZT cZe at h4;cases h4
  ·rw[e,h.ai.hm]at h4;unfold bZV cZe at h4;cases h4
 ·have:=h.ai.hu;exact⟨rfl,by rw[hsum];omega,this.2.2⟩
 ·rw[hsub,h.mem,hg];constructor
  ·rintro⟨⟨h1,h2⟩,h3⟩;exact⟨h1,fun h4=>h4.elim h2 h3⟩
  ·rintro⟨h1,h2⟩;exact⟨⟨h1,fun h3=>h2 (.inl h3)⟩,fun h3=>h2 (.inr h3)⟩
 ·have h4:=h.keep q o hq h1 h2 (fun h5=>h3 ((hg q).2 (.inl h5)));refine hkeep q o h4 h1 h2 (fun e=>?_);exact h3 ((hg q).2 (.inr e)) x ((h.mem x).1 hx).1 e.symm
 ·by_cases e:y.1=x.1
  ·rw[e];exact Hp.set_same _ _ _
  ·have h2:g y.1:=((hg _).1 h1).resolve_right e;have h3:=h.nil y hy h2;refine hkeep _ _ h3 (fun e2=>?_) (fun e2=>?_) e
   ·rw[e2,h.ai.ha]at h3;unfold bZT cZe at h3;cases h3
   ·rw[e2,h.ai.hm]at h3;unfold bZV cZe at h3;cases h3
theorem mZV (K:VK)(a mp cl:Nat)(cap used peak:Int)(hpk:used≤peak)(tk:List (Nat×Int×Nat))(H:Hp)(h0:AI H a mp cl tk cap used peak)(A:OA)(n m:Nat)(ps:List (Option Nat))(hn:n=ps.length)(hn2:n≤9000000000000000000)
  (hcells:∀ H',(∀ q xs e m,H q=some (.row xs e m)→H' q=some (.row xs e m))→Cells H' A (ps.map jZB)) (hps:∀ b,some b∈ps→∃ A n m,H b=some (cZe a A n m))
  (k:∀ H' tk',gZ5 H H' a mp cl tk tk' cap peak (fun q=>some q∈ps)→K (.tuple #[]) H'):
  ∀(d j:Nat) (H':Hp) (tk':List (Nat×Int×Nat)),j+d=n→gZ5 H H' a mp cl tk tk' cap peak (fun q=>some q∈ps.take j)→aZf.l1 K (d+1) (some ⟨a,0,none⟩) A n m (n:Int) (j:Int) H'
 |0,j,H',tk',hj,hg=>by
  unfold aZf.l1;refine Zh (by omega) (k H' tk' ?_);rw[List.take_of_length_le (by omega)]at hg;exact hg
 |d+1,j,H',tk',hj,hg=>by
  obtain⟨jb,hjb,hsb⟩:=uZ5;obtain⟨ji,hji,hzi⟩:=xZC;unfold aZf.l1;refine Zn (by omega) ?_;have hlt:j<ps.length:=by omega
  have hrows:∀ q xs e m,H q=some (.row xs e m)→H' q=some (.row xs e m):=fun q xs e m hq=>
   hg.keep q _ hq (fun e2=>by rw[e2,h0.ha]at hq;unfold bZT at hq;cases hq) (fun e2=>by rw[e2,h0.hm]at hq;unfold bZV at hq;cases hq) (fun _ x hx e2=>by
    obtain⟨_,A,n,m,g⟩:=h0.hb x hx;rw[e2,hq]at g;unfold cZe at g;cases g)
  refine(hcells H' hrows).read (i:=j) (v:=jZB ps[j]) (by rw[List.getElem?_map,List.getElem?_eq_getElem hlt];rfl) rfl (by rw[List.length_map];omega) ?_;have htk:ps.take (j+1)=ps.take j++[ps[j]]:=List.take_succ_eq_append_getElem hlt;have next:=fun H'' tk'' hg'=>mZV K a mp cl cap used peak hpk tk H h0 A n m ps hn hn2 hcells hps k d (j+1) H'' tk'' (by omega) hg'
  cases hp:ps[j]with
  |none=>
   unfold jZB;simp only[HV];simp only[Addr.add_lit',Nat.zero_add];refine bZn hg.ai.ha (v:=.map (some mp)) rfl ?_;simp only[HV];refine nZv nZT hjb hsb nZS hji hzi hg.ai.hm ?_;simp only[HV];rw[ZG (x:=(j:Int)+1) (by omega) (by omega)];refine next H' tk' (hg.same (fun q hq=>by show some q∈ps.take (j+1);rw[htk];exact List.mem_append_left _ hq) (fun q hq=>?_))
   rw[htk,hp]at hq;simp at hq;exact .inl hq
  |some b=>
   unfold jZB bZ9;simp only[HV];simp only[Addr.add_lit',Nat.zero_add,Nat.add_zero];refine bZn hg.ai.ha (v:=.map (some mp)) rfl ?_;simp only[HV];have hpb:some b∈ps:=by rw[← hp];exact List.getElem_mem hlt
   obtain⟨Ab,nb,mb,hb⟩:=hps b hpb;have hba:b≠a:=fun e=>by rw[e,h0.ha]at hb;unfold bZT cZe at hb;cases hb
   have hbm:b≠mp:=fun e=>by rw[e,h0.hm]at hb;unfold bZV cZe at hb;cases hb
   have hpl:bZ2 H' b:=by
    by_cases h1:(some b∈ps.take j)∧∃ x∈tk,x.1=b
    ·obtain⟨h1,x,hx,rfl⟩:=h1;exact⟨_,_,hg.nil x hx h1⟩
    ·exact⟨_,_,hg.keep b _ hb hba hbm (fun h2 x hx e=>h1 ⟨h2,x,hx,e⟩)⟩
   rw[show(Value.pointer (some ⟨b,0,none⟩))=bZ9 b from rfl];refine qZP nZT hjb hsb nZS hji hzi hg.ai.hm hpl hg.ai.plain (fun k' v hf=>?_) (fun hf=>?_)
   ·obtain⟨x,hx,rfl,rfl⟩:=lZv b tk' 0 k' v hf;simp only[HV];refine bZn hg.ai.ha (v:=.map (some mp)) rfl ?_;simp only[HV];refine qZJ nZT hjb hsb nZS hg.ai.hm hpl hg.ai.plain hg.ai.nd hf ?_;have hx1:=(hg.ai.hb x hx).1;have hs0:=hZu tk' (fun y hy=>(hg.ai.hb y hy).1);have hsf:=hZt tk' x hg.ai.nd hx;have hs1:=hZu (tk'.filter fun y=>y.1≠x.1) (fun y hy=>(hg.ai.hb y (List.mem_filter.1 hy).1).1);have hu:=hg.ai.hu;have hle:=hg.sle;have hu0:=h0.hu;rw[ZG (x:=0-x.2.1) (by omega) (by omega)];refine Za.use (rZJ _ a mp cap (cZt tk') peak (0-x.2.1) (by omega) (by omega) (by rw[Hp.set_other _ _ hg.ai.ne];exact hg.ai.ha)) ?_;rw[if_neg (by omega),show cZt tk'+(0-x.2.1)=cZt tk'-x.2.1 by omega];obtain⟨_,Ac,nc,mc,hbx⟩:=hg.ai.hb x hx;refine hZI (c:=#[bZ9 a,.slice Ac nc mc]) (e:=245) (by rw[Hp.set_other _ _ hba,Hp.set_other _ _ hbm];exact hbx) (by simp) rfl ?_;rw[ZG (x:=(j:Int)+1) (by omega) (by omega)];refine next _ _ (gZ5.one h0 hg hx (fun q=>?_))
    show some q∈ps.take (j+1)↔_
    rw[htk,hp,List.mem_append];simp
   ·simp only[HV];rw[ZG (x:=(j:Int)+1) (by omega) (by omega)];refine next H' tk' (hg.same (fun q hq=>by show some q∈ps.take (j+1);rw[htk];exact List.mem_append_left _ hq) (fun q hq=>?_))
    rw[htk,hp]at hq;simp at hq;rcases hq with hq|rfl
    ·exact .inl hq
    ·exact .inr (mZQ q tk' 0 hf)
theorem wZu (a mp cl:Nat)(cap used peak:Int)(hpk:used≤peak)(tk:List (Nat×Int×Nat))(H:Hp)(h0:AI H a mp cl tk cap used peak)(A:OA)(n m:Nat)(ps:List (Option Nat))(hn:n=ps.length)(hn2:n≤9000000000000000000)
  (hcells:∀ H',(∀ q xs e m,H q=some (.row xs e m)→H' q=some (.row xs e m))→Cells H' A (ps.map jZB)) (hps:∀ b,some b∈ps→∃ A n m,H b=some (cZe a A n m)):
  aZf (some ⟨a,0,none⟩) A n m H (fun v H'=>v= .tuple #[]∧∃ tk',gZ5 H H' a mp cl tk tk' cap peak (fun q=>some q∈ps)):=by
 refine⟨n+1,mZV _ a mp cl cap used peak hpk tk H h0 A n m ps hn hn2 hcells hps (fun H' tk' hg=>⟨rfl,tk',hg⟩) n 0 H tk (by omega) ?_⟩;refine⟨by rw[← h0.hu.1];exact h0,fun x=>by simp,fun q o hq _ _ _=>hq,fun x _ h=>by simp at h,Int.le_refl _⟩
end Go.Proofs.YtgfildcgihbdaaaGreatDoor.Are
namespace Go.Hw
open Go
def eZh (mp since:Nat)(seen:Array Nat)(last:Nat):AO:=.obj (.mapIter (some mp) since seen last)
theorem eZh.heap {H:Hp}{w:World}{it mp since last:Nat}{seen:Array Nat}(h:H it=some (eZh mp since seen last))(hw:Fits H w):w.heap[it]? =some (.mapIter (some mp) since seen last):=by
 obtain⟨o,ho,hh⟩:=hw _ _ h;cases hh;exact ho
theorem At.setIter {H0 H:Hp}{w0 w:World}{it mp since last:Nat}{seen:Array Nat}(hA:At H0 w0 H w)(hr:H it=some (eZh mp since seen last))(o:Obj):At H0 w0 (H.set it (.obj o)) { w with heap:=w.heap.setIfInBounds it o}:=by
 have hh:=eZh.heap hr hA.fits;have hlt:it<w.heap.size:=(Array.getElem?_eq_some_iff.1 hh).1;refine hA.turn hr (x':=o) ?_ rfl ?_ rfl rfl rfl (fun c hc=>?_)
 ·show(w.heap.setIfInBounds it o)[it]? =some o
  simp[hlt]
 ·show(w.heap.setIfInBounds it o).size=w.heap.size
  simp
 ·show(w.heap.setIfInBounds it o)[c]? =w.heap[c]?
  rw[Array.getElem?_setIfInBounds_ne (Ne.symm hc)]
theorem kZn {P:Program}{H0 H:Hp}{w0 w:World}(hA:At H0 w0 H w)(n:Nat)(hn:0<n):∃ i w',i<n∧(choose (.mapNext n)).run P w= .ok i w'∧At H0 w0 H w':=by
 by_cases h:n≤1
 ·exact⟨0,w,hn,by simp[Question.forced,h],hA⟩
 ·exact⟨_,_,Nat.mod_lt _ hn,by simp[Question.forced,h,Question.cut];rfl,hA.drew⟩
end Go.Hw
namespace Go.Proofs.YtgfildcgihbdaaaGreatDoor.Are
open Go Go.Hw W
def ZE (l:List (Nat×Nat×OA)):Int:=(l.map fun y=>(y.2.1:Int)).sum
def dZU (g:Nat→Bool)(l:List (Nat×Nat×OA)):List (Nat×Nat×OA):=l.map fun y=>if g y.1 then(y.1,0,none)else y
theorem mZT (g:Nat→Bool)(l:List (Nat×Nat×OA)):(dZU g l).map (·.1)=l.map (·.1):=by
 unfold dZU;rw[List.map_map];apply List.map_congr_left;intro y _;simp only[Function.comp];split<;>rfl
theorem fZj (l l':List (Nat×Nat×OA)):ZE (l++l')=ZE l+ZE l':=by simp[ZE]
theorem nZf (y:Nat×Nat×OA)(l:List (Nat×Nat×OA)):ZE (y::l)=y.2.1+ZE l:=by simp[ZE]
theorem bZX :ZE []=0:=rfl
theorem oZ4 :∀(bufs:List (Nat×Nat×OA)) (tk:List (Nat×Int×Nat)),(tk.map (·.1)).Nodup→(bufs.map (·.1)).Nodup→(∀ x∈tk,1≤x.2.1)→(∀ x∈tk,∃ A,(x.1,x.2.1.toNat,A)∈bufs)→
  (∀ y∈bufs,1≤y.2.1→∃ n,(y.1,(y.2.1:Int),n)∈tk)→cZt tk=ZE bufs
 | [],tk,_,_,_,h2,_=>by
  cases tk with
  |nil=>rfl
  |cons x l=>obtain⟨A,hA⟩:=h2 x (by simp);simp at hA
 |y::bs,tk,hn,hb,h1,h2,h3=>by
  simp only[List.map_cons,List.nodup_cons]at hb;by_cases hy:1≤y.2.1
  ·obtain⟨k,hk⟩:=h3 y (by simp) hy;have hs:=hZt tk _ hn hk;have ih:=oZ4 bs (tk.filter fun z=>z.1≠y.1) (List.Nodup.sublist (List.Sublist.map _ List.filter_sublist) hn) hb.2 (fun x hx=>h1 x (List.mem_filter.1 hx).1) (fun x hx=>by
    obtain⟨g1,g2⟩:=List.mem_filter.1 hx;obtain⟨A,hA⟩:=h2 x g1;rcases List.mem_cons.1 hA with e|hA
    ·have:x.1=y.1:=by rw[← e]
     simp[this]at g2
    ·exact⟨A,hA⟩) (fun z hz hz1=>by
    obtain⟨n,hn'⟩:=h3 z (by simp[hz]) hz1;refine⟨n,List.mem_filter.2 ⟨hn',?_⟩⟩;have:z.1≠y.1:=fun e=>hb.1 (by rw[← e];exact List.mem_map_of_mem hz)
    simpa using this)
   rw[nZf,←ih];simp only at hs;omega
  ·have hy0:y.2.1=0:=by omega
   have ih:=oZ4 bs tk hn hb.2 h1 (fun x hx=>by
    obtain⟨A,hA⟩:=h2 x hx;rcases List.mem_cons.1 hA with e|hA
    ·have:x.2.1.toNat=y.2.1:=by rw[← e]
     have:=h1 x hx;omega
    ·exact⟨A,hA⟩) (fun z hz hz1=>h3 z (by simp[hz]) hz1)
   rw[nZf,hy0,ih];simp
structure ArI (H:Hp)(a mp cl:Nat)(tk:List (Nat×Int×Nat))(cap used peak:Int)(bufs:List (Nat×Nat×OA)):Prop where
 ai:AI H a mp cl tk cap used peak
 up:used≤peak
 hd:∀ y∈bufs,H y.1=some (cZe a y.2.2 y.2.1 y.2.1)
 tb:∀ x∈tk,∃ A,(x.1,x.2.1.toNat,A)∈bufs
 bt:∀ y∈bufs,1≤y.2.1→∃ n,(y.1,(y.2.1:Int),n)∈tk
 bn:(bufs.map (·.1)).Nodup
 hz:∀ y∈bufs,y.2.1=0→y.2.2=none
def Ar (a:Nat)(cap peak:Int)(bufs:List (Nat×Nat×OA)):As:=fun H=>∃ mp cl tk,ArI H a mp cl tk cap (ZE bufs) peak bufs
theorem AI.up {H H':Hp}{a mp cl:Nat}{tk:List (Nat×Int×Nat)}{cap used peak:Int}(h:AI H a mp cl tk cap used peak)(k:H.le H'):AI H' a mp cl tk cap used peak:=
 ⟨h.ne,k _ _ h.ha,k _ _ h.hm,h.nd,fun x hx=>by obtain⟨h1,A,n,m,h2⟩:=h.hb x hx;exact⟨h1,A,n,m,k _ _ h2⟩,h.hu,h.bn⟩
theorem ArI.upw {H H':Hp}{a mp cl:Nat}{tk:List (Nat×Int×Nat)}{cap used peak:Int}{bufs:List (Nat×Nat×OA)}(h:ArI H a mp cl tk cap used peak bufs)(k:H.le H'):ArI H' a mp cl tk cap used peak bufs:=
 ⟨AI.up h.ai k,h.up,fun y hy=>k _ _ (h.hd y hy),h.tb,h.bt,h.bn,h.hz⟩
theorem ArI.less {H:Hp}{a mp cl:Nat}{tk:List (Nat×Int×Nat)}{cap used peak:Int}{bufs:List (Nat×Nat×OA)}(h:ArI H a mp cl tk cap used peak bufs)(p:Nat×Nat×OA→Bool)(hp:∀ y∈bufs,p y=false→y.2.1=0):
  ArI H a mp cl tk cap used peak (bufs.filter p):=
 ⟨h.ai,h.up,fun y hy=>h.hd y (List.mem_filter.1 hy).1,fun x hx=>by
  obtain⟨A,hA⟩:=h.tb x hx;refine⟨A,List.mem_filter.2 ⟨hA,?_⟩⟩;cases e:p (x.1,x.2.1.toNat,A)with
  |true=>rfl
  |false=>have:=hp _ hA e;have:=(h.ai.hb x hx).1;simp at *;omega,fun y hy=>h.bt y (List.mem_filter.1 hy).1,List.Nodup.sublist (List.Sublist.map _ List.filter_sublist) h.bn,fun y hy=>h.hz y (List.mem_filter.1 hy).1⟩
theorem Sep.ar {L:List As}{H:Hp}(h:Sep L H)(i:Nat){a:Nat}{cap peak:Int}{bufs:List (Nat×Nat×OA)}(hi:L[i]? =some (Ar a cap peak bufs)):∃ mp cl tk,ArI H a mp cl tk cap (ZE bufs) peak bufs:=by
 obtain⟨H1,⟨mp,cl,tk,h1⟩,h2⟩:=h.see i hi;exact⟨mp,cl,tk,h1.upw h2⟩
section
variable {L : List As} {H : Hp} {a : Nat} {cap peak : Int} {bufs : List (Nat × Nat × Option Addr)}
theorem ArI.nn {used:Int}{mp cl:Nat}{tk:List (Nat×Int×Nat)}(h:ArI H a mp cl tk cap used peak bufs):0≤used∧used≤cap∧cap≤16777216∧used≤peak:=by
 have h1:=hZu tk (fun x hx=>(h.ai.hb x hx).1);have h2:=h.ai.hu;exact⟨by omega,h2.2.1,h2.2.2,h.up⟩
theorem rZ2 (h:Sep L H)(i:Nat)(hi:L[i]? =some (Ar a cap peak bufs)):Za Tryz.prog 158 #[.pointer (some ⟨a,0,none⟩)] H (RetE (.int .i64 (cap-ZE bufs)) H):=by
 obtain⟨mp,cl,tk,h⟩:=Sep.ar h i hi;have:=h.nn;exact pZQ H a mp cap _ peak (by omega) h.ai.ha
theorem eZu (h:Sep L H)(i:Nat)(hi:L[i]? =some (Ar a cap peak bufs)){b n:Nat}{A:OA}(hb:(b,n,A)∈bufs):Za Tryz.prog 119 #[.pointer (some ⟨b,0,none⟩)] H (RetE (.slice A n n) H):=by
 obtain⟨mp,cl,tk,h⟩:=Sep.ar h i hi;exact tZD H b a A n n (h.hd _ hb)
end
theorem dZp (x:Int)(h:1≤x∧x≤16777216):Tr Tryz.prog 73 #[.int .i64 x] [] fun v M=>∃ a,v= .pointer (some ⟨a,0,none⟩)∧M=[Ar a x 0 []]:=fun H _=>by
 refine(wZx H x h).mono ?_;rintro v H' ⟨mp,a,hmp,ha,hne,rfl,rfl⟩;refine⟨_,⟨a,rfl,rfl⟩,Sep.up (H:=Hp.set (Hp.set (fun _=>none) mp (bZV [] 0)) a (bZT x 0 0 mp)) ?_ (Hp.set_le (Hp.set_le (H:=fun _=>none) (fun _ _ h=>nomatch h) _ _) _ _)⟩;refine⟨_,fun _=>none,Hp.le_refl _,fun b o h=>(by cases h),fun b=>.inr rfl,⟨mp,0,[],⟨⟨hne,Hp.set_same _ _ _,by rw[Hp.set_other _ _ (Ne.symm hne)];exact Hp.set_same _ _ _,by simp,fun x hx=>by simp at hx,⟨rfl,by rw[bZX];omega,by omega⟩,by simp⟩,Int.le_refl _,fun y hy=>by simp at hy,fun x hx=>by simp at hx,fun y hy=>by simp at hy,by simp,fun y hy=>by simp at hy⟩⟩,trivial⟩
theorem sum_append (l l':List (Nat×Int×Nat)):cZt (l++l')=cZt l+cZt l':=by simp[cZt]
theorem eZR {a:Nat}{cap peak:Int}{bufs:List (Nat×Nat×OA)}{n:Nat}(hn:1≤n)(hc:(n:Int)≤cap-ZE bufs):
  Tr Tryz.prog 115 #[.pointer (some ⟨a,0,none⟩),.int .i64 n] [Ar a cap peak bufs] fun v M=>∃ b rb,v= .tuple #[.pointer (some ⟨b,0,none⟩),.int .i64 0]∧
   M=[Ar a cap (if ZE bufs+n>peak then ZE bufs+n else peak) (bufs++[(b,n,some ⟨rb,0,none⟩)]),pts rb (.row (bZj n) 82 n)]:=fun H hs=>by
 obtain⟨mp,cl,tk,h⟩:=Sep.ar hs 0 rfl;have hnn:=h.nn;refine(iZu H a mp cap (ZE bufs) peak n tk cl (by omega) (by omega) h.ai.ne h.ai.ha h.ai.hm h.ai.plain).mono ?_;rintro v H' ⟨rb,b,hrb,hb,hbr,rfl,rfl⟩;rw[Int.toNat_natCast];have har:a≠rb:=fun e=>by have:=h.ai.ha;rw[e,hrb]at this;cases this
 have hab:a≠b:=fun e=>by have:=h.ai.ha;rw[e,hb]at this;cases this
 have hmr:mp≠rb:=fun e=>by have:=h.ai.hm;rw[e,hrb]at this;cases this
 have hmb:mp≠b:=fun e=>by have:=h.ai.hm;rw[e,hb]at this;cases this
 have hne:=h.ai.ne;have keep:∀ q o,H q=some o→q≠a→q≠mp→((((H.set rb (.row (bZj n) 82 n)).set b (cZe a (some ⟨rb,0,none⟩) n n)).set mp (bZV (tk++[(b,(n:Int),cl)]) (cl+1))).set a (bZT cap (ZE bufs+n) (if ZE bufs+n>peak then ZE bufs+n else peak) mp)) q=some o:=fun q o hq h1 h2=>by
  have h7:q≠rb:=fun e=>by rw[e,hrb]at hq;cases hq
  have h8:q≠b:=fun e=>by rw[e,hb]at hq;cases hq
  rw[Hp.set_other _ _ h1,Hp.set_other _ _ h2,Hp.set_other _ _ h8,Hp.set_other _ _ h7];exact hq
 refine⟨_,⟨b,rb,rfl,rfl⟩,?_⟩
  -- the arena's own part
 have hfr:∀ y∈bufs,y.1≠a∧y.1≠mp∧y.1≠b:=fun y hy=>by
  have h1:=h.hd y hy;refine⟨fun e=>?_,fun e=>?_,fun e=>?_⟩
  ·rw[e,h.ai.ha]at h1;unfold bZT cZe at h1;cases h1
  ·rw[e,h.ai.hm]at h1;unfold bZV cZe at h1;cases h1
  ·rw[e,hb]at h1;cases h1
 have hxf:∀ x∈tk,x.1≠a∧x.1≠mp∧x.1≠b:=fun x hx=>by
  obtain⟨A,hA⟩:=h.tb x hx;exact hfr _ hA
 let G:Hp:=fun q=>if q=rb then none else((((H.set rb (.row (bZj n) 82 n)).set b (cZe a (some ⟨rb,0,none⟩) n n)).set mp (bZV (tk++[(b,(n:Int),cl)]) (cl+1))).set a (bZT cap (ZE bufs+n) (if ZE bufs+n>peak then ZE bufs+n else peak) mp)) q
 have hG:∀ q o,q≠rb→((((H.set rb (.row (bZj n) 82 n)).set b (cZe a (some ⟨rb,0,none⟩) n n)).set mp (bZV (tk++[(b,(n:Int),cl)]) (cl+1))).set a (bZT cap (ZE bufs+n) (if ZE bufs+n>peak then ZE bufs+n else peak) mp)) q=some o→G q=some o:=fun q o h1 h2=>by
  show(if q=rb then none else _)=_
  rw[if_neg h1];exact h2
 have gb:=hG b (cZe a (some ⟨rb,0,none⟩) n n) hbr (by rw[Hp.set_other _ _ (Ne.symm hab),Hp.set_other _ _ (Ne.symm hmb)];exact Hp.set_same _ _ _);have nrb:∀ q o,H q=some o→q≠rb:=fun q o hq e=>by rw[e,hrb]at hq;cases hq
 refine⟨G,fun q=>if q=rb then some (.row (bZj n) 82 n)else none,fun q o hq=>?_,fun q o hq=>?_,fun q=>?_,⟨mp,cl+1,tk++[(b,(n:Int),cl)],?_⟩,⟨_,fun _=>none,Hp.le_refl _,fun b o h=>(by cases h),fun b=>.inr rfl,(if_pos rfl:(if rb=rb then some _ else none)=_),trivial⟩⟩
 ·have hq':(if q=rb then none else _)=some o:=hq;split at hq'
  ·cases hq'
  ·exact hq'
 ·simp only at hq;split at hq
  ·rename_i e;subst e
   rw[Hp.set_other _ _ (Ne.symm har),Hp.set_other _ _ (Ne.symm hmr),Hp.set_other _ _ (Ne.symm hbr),Hp.set_same];exact hq
  ·cases hq
 ·by_cases e:q=rb
  ·left;show(if q=rb then none else _)=none;rw[if_pos e]
  ·right;simp only[e,if_false]
 rw[show ZE (bufs++[(b,n,some ⟨rb,0,none⟩)])=ZE bufs+n by rw[fZj];simp[ZE]];refine⟨⟨hne,hG a _ har (Hp.set_same _ _ _),hG mp _ hmr (by rw[Hp.set_other _ _ (Ne.symm hne)];exact Hp.set_same _ _ _),?_,fun x hx=>?_,⟨?_,by omega,by omega⟩,?_,fun x hx=>?_⟩,by split<;>omega,fun y hy=>?_,fun x hx=>?_,fun y hy hy1=>?_,?_,fun y hy h0=>?_⟩
 ·rw[List.map_append,List.nodup_append];refine⟨h.ai.nd,by simp,fun x hx y hy e=>?_⟩;simp at hy;subst hy;obtain⟨z,hz,rfl⟩:=List.mem_map.1 hx;exact(hxf z hz).2.2 e
 ·rcases List.mem_append.1 hx with hx|hx
  ·obtain⟨h1,A,n',m',h2⟩:=h.ai.hb x hx;exact⟨h1,A,n',m',hG _ _ (nrb _ _ h2) (keep _ _ h2 (hxf x hx).1 (hxf x hx).2.1)⟩
  ·simp at hx;subst hx;exact⟨by show(1:Int)≤n;omega,_,_,_,gb⟩
 ·rw[sum_append,←h.ai.hu.1];simp[cZt]
 ·rw[List.map_append,List.nodup_append];refine⟨h.ai.bn.1,by simp,fun x hx y hy e=>?_⟩;simp at hy;subst hy;obtain⟨z,hz,rfl⟩:=List.mem_map.1 hx;have:=h.ai.bn.2 z hz;omega
 ·rcases List.mem_append.1 hx with hx|hx
  ·have:=h.ai.bn.2 x hx;omega
  ·simp at hx;subst hx;show cl<cl+1;omega
 ·rcases List.mem_append.1 hy with hy|hy
  ·exact hG _ _ (nrb _ _ (h.hd y hy)) (keep _ _ (h.hd y hy) (hfr y hy).1 (hfr y hy).2.1)
  ·simp at hy;subst hy;exact gb
 ·rcases List.mem_append.1 hx with hx|hx
  ·obtain⟨A,hA⟩:=h.tb x hx;exact⟨A,List.mem_append_left _ hA⟩
  ·simp at hx;subst hx;exact⟨some ⟨rb,0,none⟩,by simp⟩
 ·rcases List.mem_append.1 hy with hy|hy
  ·obtain⟨m,hm⟩:=h.bt y hy hy1;exact⟨m,List.mem_append_left _ hm⟩
  ·simp at hy;subst hy;exact⟨cl,by simp⟩
 ·rw[List.map_append,List.nodup_append];refine⟨h.bn,by simp,fun x hx y hy e=>?_⟩;simp at hy;subst hy;obtain⟨z,hz,rfl⟩:=List.mem_map.1 hx;exact(hfr z hz).2.2 e
 ·rcases List.mem_append.1 hy with hy|hy
  ·exact h.hz y hy h0
  ·simp at hy;subst hy;simp at h0;omega
theorem ArI.gave {H H':Hp}{a mp cl:Nat}{tk tk':List (Nat×Int×Nat)}{cap used peak:Int}{bufs:List (Nat×Nat×OA)}{g:Nat→Prop}{gb:Nat→Bool}(h:ArI H a mp cl tk cap used peak bufs)(hg:gZ5 H H' a mp cl tk tk' cap peak g)(hgb:∀ q,gb q=true↔g q):
  ArI H' a mp cl tk' cap (ZE (dZU gb bufs)) peak (dZU gb bufs):=by
 have hu:=h.ai.hu;have hnd:((dZU gb bufs).map (·.1)).Nodup:=by rw[mZT];exact h.bn
 have hmem:∀ y∈dZU gb bufs,∃ z∈bufs,y=if gb z.1 then(z.1,0,none)else z:=fun y hy=>by
  obtain⟨z,hz,rfl⟩:=List.mem_map.1 hy;exact⟨z,hz,rfl⟩
 have htb:∀ x∈tk',∃ A,(x.1,x.2.1.toNat,A)∈dZU gb bufs:=fun x hx=>by
  obtain⟨h1,h2⟩:=(hg.mem x).1 hx;obtain⟨A,hA⟩:=h.tb x h1;refine⟨A,List.mem_map.2 ⟨_,hA,?_⟩⟩;rw[if_neg (fun e=>h2 ((hgb _).1 e))]
 have hbt:∀ y∈dZU gb bufs,1≤y.2.1→∃ n,(y.1,(y.2.1:Int),n)∈tk':=fun y hy hy1=>by
  obtain⟨z,hz,rfl⟩:=hmem y hy;by_cases e:gb z.1=true
  ·rw[if_pos e]at hy1;simp at hy1
  ·rw[if_neg e]at hy1⊢;obtain⟨n,hn⟩:=h.bt z hz hy1;exact⟨n,(hg.mem _).2 ⟨hn,fun e2=>e ((hgb _).2 e2)⟩⟩
 have hsum:=oZ4 (dZU gb bufs) tk' hg.ai.nd hnd (fun x hx=>(hg.ai.hb x hx).1) htb hbt;refine⟨by rw[← hsum];exact hg.ai,by rw[← hsum];have:=h.up;have:=hg.sle;omega,fun y hy=>?_,htb,hbt,hnd,fun y hy h0=>?_⟩
 rotate_left
 ·obtain⟨z,hz,rfl⟩:=hmem y hy;by_cases e:gb z.1=true
  ·rw[if_pos e]
  ·rw[if_neg e]at h0 ⊢;exact h.hz z hz h0
 obtain⟨z,hz,rfl⟩:=hmem y hy;have hz1:=h.hd z hz;have e1:z.1≠a:=fun e=>by rw[e,h.ai.ha]at hz1;unfold bZT cZe at hz1;cases hz1
 have e2:z.1≠mp:=fun e=>by rw[e,h.ai.hm]at hz1;unfold bZV cZe at hz1;cases hz1
 by_cases e:gb z.1=true
 ·rw[if_pos e];have hgz:=(hgb _).1 e;by_cases hx:∃ x∈tk,x.1=z.1
  ·obtain⟨x,hx,hxe⟩:=hx;have:=hg.nil x hx (by rw[hxe];exact hgz);rw[hxe]at this;exact this
  ·have h0:z.2.1=0:=by
    by_cases h1:1≤z.2.1
    ·obtain⟨n,hn⟩:=h.bt z hz h1;exact absurd ⟨_,hn,rfl⟩ hx
    ·omega
   have:=hg.keep z.1 _ hz1 e1 e2 (fun _ x hx' e3=>hx ⟨x,hx',e3⟩);rw[h0,h.hz z hz h0]at this;exact this
 ·rw[if_neg e];exact hg.keep z.1 _ hz1 e1 e2 (fun e3=>absurd ((hgb _).2 e3) e)
end Go.Proofs.YtgfildcgihbdaaaGreatDoor.Are
namespace Go.Proofs.YtgfildcgihbdaaaGreatDoor.Are
open Go Go.Hw W
theorem ArI.cut {H:Hp}{a mp cl:Nat}{tk:List (Nat×Int×Nat)}{cap used peak:Int}{bufs:List (Nat×Nat×OA)}(h:ArI H a mp cl tk cap used peak bufs)(D:Nat→Bool)(h1:D a=true)(h2:D mp=true)(h3:∀ y∈bufs,D y.1=true):
  ArI (fun q=>if D q=true then H q else none) a mp cl tk cap used peak bufs:=by
 have g:∀ q o,D q=true→H q=some o→(fun q=>if D q=true then H q else none) q=some o:=fun q o e1 e2=>by
  show(if D q=true then H q else none)=some o
  rw[if_pos e1];exact e2
 refine⟨⟨h.ai.ne,g _ _ h1 h.ai.ha,g _ _ h2 h.ai.hm,h.ai.nd,fun x hx=>?_,h.ai.hu,h.ai.bn⟩,h.up,fun y hy=>g _ _ (h3 y hy) (h.hd y hy),h.tb,h.bt,h.bn,h.hz⟩;obtain⟨k1,A,n,m,k2⟩:=h.ai.hb x hx;obtain⟨A',hA'⟩:=h.tb x hx;exact⟨k1,A,n,m,g _ _ (h3 _ hA') k2⟩
theorem ArI.back {H H1 H2 H':Hp}{a mp cl cl':Nat}{tk tk':List (Nat×Int×Nat)}{cap used used' peak peak':Int}{bufs:List (Nat×Nat×OA)}{g:Nat→Bool}{L:List As}
  (hle:H1.le H) (hap:dZf H1 H2) (h1:ArI H1 a mp cl tk cap used peak bufs) (h':ArI H' a mp cl' tk' cap used' peak' (dZU g bufs)) (h2:H2.le H') (hs:Sep L H2) (hu:used'=ZE (dZU g bufs)):Sep (Ar a cap peak' (dZU g bufs)::L) H':=by
 have hd:∀ q o,H1 q=some o→(H1 q).isSome=true:=fun q o h=>by rw[h];rfl
 refine⟨fun q=>if(H1 q).isSome=true then H' q else none,H2,fun q o hq=>?_,h2,fun q=>?_,⟨mp,cl',tk',?_⟩,hs⟩
 ·simp only at hq;split at hq
  ·exact hq
  ·cases hq
 ·rcases hap q with e|e
  ·left;simp[e]
  ·exact .inr e
 ·rw[← hu];refine h'.cut (fun q=>(H1 q).isSome) (hd _ _ h1.ai.ha) (hd _ _ h1.ai.hm) (fun y hy=>?_);obtain⟨z,hz,e⟩:=List.mem_map.1 (show y.1∈bufs.map (·.1) by rw[← mZT g];exact List.mem_map_of_mem hy);have:=hd _ _ (h1.hd z hz);rw[e]at this;exact this
theorem rZ7 {a:Nat}{cap peak:Int}{bufs:List (Nat×Nat×OA)}(vb n mm:Nat)(xs:List Value)(ps:List (Option Nat))(hn:n=ps.length)(hn2:n≤9000000000000000000)(hx:xs.take n=ps.map jZB)(hps:∀ b,some b∈ps→∃ n A,(b,n,A)∈bufs)
  {H:Hp} (hs:Sep [Ar a cap peak bufs,pts vb (.row xs 195 mm)] H):∃ mp cl tk,AI H a mp cl tk cap (ZE bufs) peak∧ZE bufs≤peak∧(∀ H',(∀ q xs e m,H q=some (.row xs e m)→H' q=some (.row xs e m))→Cells H' (some ⟨vb,0,none⟩) (ps.map jZB))∧(∀ b,some b∈ps→∃ A n m,H b=some (cZe a A n m))∧
   ∀ H' tk',gZ5 H H' a mp cl tk tk' cap peak (fun q=>some q∈ps)→Sep [Ar a cap peak (dZU (fun q=>decide (some q∈ps)) bufs),pts vb (.row xs 195 mm)] H':=by
 have hv:=Sep.get hs 1 rfl;obtain⟨H1,H2,k1,k2,k3,⟨mp,cl,tk,h1⟩,k5⟩:=hs;have h:=h1.upw k1;refine⟨mp,cl,tk,h.ai,h.up,fun H' hH'=>?_,fun b hb=>?_,fun H' tk' hg=>?_⟩
 ·have:=Cells.row (hH' vb xs _ _ hv) 0 n;rw[List.drop_zero,hx]at this;exact this
 ·obtain⟨n,A,hb⟩:=hps b hb;exact⟨_,_,_,h.hd _ hb⟩
 have h':=h.gave hg (gb:=fun q=>decide (some q∈ps)) (fun q=>by simp);have hvb:∀ q,q≠vb∨H1 q=none:=fun q=>by
  by_cases e:q=vb
  ·right;rw[e];have h2:H2 vb=some (.row xs 195 mm):=Sep.get k5 0 rfl;exact(k3 vb).resolve_right (by rw[h2];simp)
  ·exact .inl e
 refine ArI.back (H2:=fun q=>if q=vb then some (.row xs 195 mm)else none) k1 (fun q=>?_) h1 h' (fun q o hq=>?_) ⟨_,fun _=>none,Hp.le_refl _,fun b o h=>(by cases h),fun b=>.inr rfl,(if_pos rfl:(if vb=vb then some _ else none)=_),trivial⟩ rfl
 ·rcases hvb q with e|e
  ·right;simp only[e,if_false]
  ·exact .inl e
 ·simp only at hq;split at hq
  ·rename_i e;subst e;cases hq
   refine hg.keep q _ hv (fun e=>?_) (fun e=>?_) (fun _ x hx' e=>?_)
   ·rw[e,h.ai.ha]at hv;unfold bZT at hv;cases hv
   ·rw[e,h.ai.hm]at hv;unfold bZV at hv;cases hv
   ·obtain⟨_,A,n,m,k⟩:=h.ai.hb x hx';rw[e,hv]at k;unfold cZe at k;cases k
  ·cases hq
theorem tZs {a:Nat}{cap peak:Int}{bufs:List (Nat×Nat×OA)}(vb n m mm:Nat)(xs:List Value)(ps:List (Option Nat))(hn:n=ps.length)(hn2:n≤9000000000000000000)(hx:xs.take n=ps.map jZB)(hps:∀ b,some b∈ps→∃ n A,(b,n,A)∈bufs):
  TrD Tryz.prog 117 #[.pointer (some ⟨a,0,none⟩),.slice (some ⟨vb,0,none⟩) n m] [Ar a cap peak bufs,pts vb (.row xs 195 mm)] fun v M=>
   v= .tuple #[]∧M=[Ar a cap peak (dZU (fun q=>decide (some q∈ps)) bufs),pts vb (.row xs 195 mm)]:=fun H hs=>by
 obtain⟨mp,cl,tk,h1,h2,h3,h4,h5⟩:=rZ7 vb n mm xs ps hn hn2 hx hps hs;refine aZU.mono (aZf.okD _ _ _ _ _ _ (wZu a mp cl cap (ZE bufs) peak h2 tk H h1 (some ⟨vb,0,none⟩) n m ps hn hn2 h3 h4)) ?_;rintro v H' ⟨rfl,tk',hg⟩;exact⟨_,⟨rfl,rfl⟩,h5 H' tk' hg⟩
theorem cZo {a:Nat}{cap peak:Int}{bufs:List (Nat×Nat×OA)}(vb b n:Nat)(A:OA)(hnew:∀ y∈bufs,y.1≠b):
  TrD Tryz.prog 117 #[.pointer (some ⟨a,0,none⟩),.slice (some ⟨vb,0,none⟩) 1 1] [Ar a cap peak (bufs++[(b,n,A)]),pts vb (.row [.pointer (some ⟨b,0,none⟩)] 195 1)] fun v M=>
   v= .tuple #[]∧M=[Ar a cap peak bufs]:=fun H hs=>by
 refine(tZs vb 1 1 1 _ [some b] rfl (by omega) rfl (fun q hq=>?_) H hs).mono ?_
 ·simp at hq;subst hq;exact⟨n,A,by simp⟩
 ·rintro v H' ⟨M,⟨rfl,rfl⟩,hs⟩;refine⟨_,⟨rfl,rfl⟩,?_⟩;have hs:=hs.re [0] rfl;have e:dZU (fun q=>decide (some q∈[some b])) (bufs++[(b,n,A)])=bufs++[(b,0,none)]:=by
   unfold dZU;rw[List.map_append];congr 1
   ·refine(List.map_congr_left (g:=id) fun y hy=>?_).trans (List.map_id _);have:=hnew y hy;simp[this]
   ·simp
  rw[e]at hs;obtain⟨H1,H2,k1,k2,k3,⟨mp,cl,tk,h1⟩,k5⟩:=hs;refine⟨H1,H2,k1,k2,k3,⟨mp,cl,tk,?_⟩,k5⟩;have h2:=h1.less (fun y=>decide (y.1≠b)) (fun y hy hp=>by
   rcases List.mem_append.1 hy with hy|hy
   ·simp at hp;exact absurd hp (hnew y hy)
   ·simp at hy;subst hy;rfl)
  have e2:(bufs++[(b,0,none)]).filter (fun y=>decide (y.1≠b))=bufs:=by
   rw[List.filter_append];have h3:bufs.filter (fun y=>decide (y.1≠b))=bufs:=by
    rw[List.filter_eq_self];intro y hy;simpa using hnew y hy
   rw[h3];simp
  rw[e2]at h2;have e3:ZE (bufs++[(b,0,none)])=ZE bufs:=by rw[fZj];simp[ZE]
  rw[e3]at h2;exact h2
end Go.Proofs.YtgfildcgihbdaaaGreatDoor.Are
namespace Go.Hw
open Go
def bZt (x:Int×Value×Nat):MapEntry:={ key:=.int .i64 x.1,val:=x.2.1,born:=x.2.2}
def cZ1 (l:List (Int×Value×Nat))(clock:Nat):AO:=.obj (.map (l.map bZt).toArray clock)
def cZx :List (Int×Value×Nat)→Int→Option Value
 | [],_=>none
 |x::l,k=>if k=x.1 then some x.2.1 else cZx l k
def ixK (k:Int):List (Int×Value×Nat)→Nat→Option (Nat×Value)
 | [],_=>none
 |x::l,i=>if k=x.1 then some (i,x.2.1)else ixK k l (i+1)
structure OkK (l:List (Int×Value×Nat))(clock:Nat)(m:Int→Option Value):Prop where
 nd:(l.map (·.1)).Nodup
 bn:(l.map (·.2.2)).Nodup
 bl:∀ x∈l,x.2.2<clock
 get:∀ k,cZx l k=m k
def Mp (r:Nat)(m:Int→Option Value):As:=fun H=>∃ l clock,H r=some (cZ1 l clock)∧OkK l clock m
theorem mZh (k:Int):∀(l:List (Int×Value×Nat)) (i:Nat),(ixK k l i).map (·.2)=cZx l k
 | [],_=>rfl
 |x::l,i=>by
  unfold ixK cZx;split
  ·rfl
  ·exact mZh k l (i+1)
theorem mZU {l:List (Int×Value×Nat)}{k:Int}:cZx l k=none↔∀ x∈l,x.1≠k:=by
 induction l with
 |nil=>simp[cZx]
 |cons x l ih=>
  unfold cZx;split
  ·rename_i h;simp[h]
  ·rename_i h
   rw[ih];constructor
   ·intro h2 y hy;rcases List.mem_cons.1 hy with rfl|hy
    ·exact fun e=>h e.symm
    ·exact h2 y hy
   ·intro h2 y hy;exact h2 y (by simp[hy])
theorem kZP {l:List (Int×Value×Nat)}(hn:(l.map (·.1)).Nodup){x:Int×Value×Nat}(hx:x∈l):cZx l x.1=some x.2.1:=by
 induction l with
 |nil=>simp at hx
 |cons y l ih=>
  simp only[List.map_cons,List.nodup_cons]at hn;unfold cZx;rcases List.mem_cons.1 hx with rfl|hx
  ·simp
  ·rw[if_neg (fun e=>hn.1 (by rw[← e];exact List.mem_map_of_mem hx))];exact ih hn.2 hx
theorem rZ6 {l:List (Int×Value×Nat)}{k:Int}{v:Value}(h:cZx l k=some v):∃ b,(k,v,b)∈l:=by
 induction l with
 |nil=>simp[cZx]at h
 |cons y l ih=>
  unfold cZx at h;split at h
  ·rename_i e;cases h;exact⟨y.2.2,by rw[e];simp⟩
  ·obtain⟨b,hb⟩:=ih h;exact⟨b,by simp[hb]⟩
theorem cZ1.heap {H:Hp}{w:World}{r clock:Nat}{l:List (Int×Value×Nat)}(h:H r=some (cZ1 l clock))(hw:Fits H w):w.heap[r]? =some (.map (l.map bZt).toArray clock):=by
 obtain⟨o,ho,hh⟩:=hw _ _ h;cases hh;exact ho
theorem At.setK {H0 H:Hp}{w0 w:World}{r clock:Nat}{l:List (Int×Value×Nat)}(hA:At H0 w0 H w)(hr:H r=some (cZ1 l clock))(o:Obj):At H0 w0 (H.set r (.obj o)) { w with heap:=w.heap.setIfInBounds r o}:=by
 have hh:=cZ1.heap hr hA.fits;have hlt:r<w.heap.size:=(Array.getElem?_eq_some_iff.1 hh).1;refine hA.turn hr (x':=o) ?_ rfl ?_ rfl rfl rfl (fun c hc=>?_)
 ·show(w.heap.setIfInBounds r o)[r]? =some o
  simp[hlt]
 ·show(w.heap.setIfInBounds r o).size=w.heap.size
  simp
 ·show(w.heap.setIfInBounds r o)[c]? =w.heap[c]?
  rw[Array.getElem?_setIfInBounds_ne (Ne.symm hc)]
section
variable {P : Program} {t : TypeId} (ht : P.underlying t = some (.int .i64))
include ht
theorem oZj (k:Int):∀(l:List (Int×Value×Nat)) (i:Nat),Instr.findNow (.int .i64) (.int .i64 k) (l.map bZt) i=some (ixK k l i)
 | [],_=>rfl
 |x::l,i=>by
  simp only[List.map_cons,Instr.findNow];rw[show Instr.sameNow (.int .i64) (.int .i64 k) (bZt x).key=some (k==x.1) by simp[Instr.sameNow,bZt]];unfold ixK;by_cases h:k=x.1
  ·simp[h,bZt]
  ·rw[show(k==x.1)=false by simpa using h];simp only[h,if_false];exact oZj k l (i+1)
theorem kZN {w:World}(k:Int)(l:List (Int×Value×Nat)):(Instr.findKey t (.int .i64 k) (l.map bZt)).run P w= .ok (ixK k l 0) w:=by
 unfold Instr.findKey;simp[Zw ht,oZj ht k l 0]
theorem jZr {w:World}(e:Bool)(k:Int):(Instr.checkKey e 10000 t (.int .i64 k)).run P w= .ok () w:=by
 unfold Instr.checkKey;simp[Zw ht]
variable {tm tv : TypeId} (hm : P.underlying tm = some (.map t tv))
include hm
theorem mZj {jv:TypeInfo}{z:Value}(hv:P.info? tv=some jv)(hz:jv.zero=some z){H:Hp}{r clock:Nat}{l:List (Int×Value×Nat)}{k:Int}(hr:H r=some (cZ1 l clock))(ok:Bool){K:Value→Prop}
  (kk:K (match cZx l k with|some v=>if ok then .tuple #[v,.bool true]else v|none=>if ok then .tuple #[z,.bool false]else z)):jZl P (Instr.lookup tm (.map (some r)) (.int .i64 k) ok) H K:=by
 refine⟨_,kk,fun w hw=>?_⟩;have hh:=cZ1.heap hr hw;simp only[Instr.lookup,Sem.run_bind,Zw hm,Result.andThen_ok,MapKept.run_getObj_map hh,Sem.run_pure];rw[jZr ht];simp only[Result.andThen_ok];rw[kZN ht];simp only[Result.andThen_ok];rw[← mZh k l 0];cases ixK k l 0 with
 |some x=>cases ok<;>simp
 |none=>cases ok<;>simp[zeroValue,dZd hv,hz]
theorem sZf (k:Int):∀(l:List (Int×Value×Nat)) (i j:Nat) (v:Value),ixK k l i=some (j,v)→i≤j∧∃ x,l[j-i]? =some x∧x.1=k∧x.2.1=v
 | [],_,_,_,h=>by cases h
 |x::l,i,j,v,h=>by
  unfold ixK at h;split at h
  ·rename_i e;cases h;exact⟨Nat.le_refl _,x,by simp,e.symm,rfl⟩
  ·obtain⟨h1,y,h2,h3⟩:=sZf k l (i+1) j v h;exact⟨by omega,y,by rw[show j-i=(j-(i+1))+1 by omega,List.getElem?_cons_succ];exact h2,h3⟩
def fZH (m:Int→Option Value)(k:Int)(v:Value):Int→Option Value:=fun j=>if j=k then some v else m j
theorem pZo (l:List (Int×Value×Nat))(x:Int×Value×Nat)(h:cZx l x.1=none)(j:Int):cZx (l++[x]) j=fZH (cZx l) x.1 x.2.1 j:=by
 induction l with
 |nil=>simp[cZx,fZH]
 |cons y l ih=>
  unfold cZx at h;split at h
  ·cases h
  ·rename_i hne
   rw[List.cons_append];unfold cZx fZH;have:=ih h;unfold fZH at this;by_cases e:j=x.1
   ·rw[if_pos e,e,if_neg hne];rw[e,if_pos rfl]at this;exact this
   ·rw[if_neg e];rw[if_neg e]at this;rw[this];rfl
theorem oZl :∀(l:List (Int×Value×Nat)) (i:Nat) (x:Int×Value×Nat) (v:Value),(l.map (·.1)).Nodup→l[i]? =some x→∀ j,cZx (l.set i (x.1,v,x.2.2)) j=fZH (cZx l) x.1 v j
 | [],i,x,v,_,h,j=>by simp at h
 |y::l,0,x,v,hn,h,j=>by
  simp at h;subst h;simp only[List.set_cons_zero];unfold cZx fZH;by_cases e:j=y.1
  ·simp[e]
  ·simp only[e,if_false,cZx]
 |y::l,i+1,x,v,hn,h,j=>by
  simp only[List.map_cons,List.nodup_cons]at hn;rw[List.getElem?_cons_succ]at h;have ih:=oZl l i x v hn.2 h j;have hne:y.1≠x.1:=fun e=>hn.1 (by rw[e];exact List.mem_map_of_mem (List.mem_of_getElem? h))
  simp only[List.set_cons_succ];unfold cZx fZH;unfold fZH at ih;by_cases e:j=x.1
  ·rw[if_pos e,e,if_neg (Ne.symm hne)];rw[e,if_pos rfl]at ih;exact ih
  ·rw[if_neg e];rw[if_neg e]at ih;rw[ih];rfl
theorem gZg {α β:Type}(f:α→β):∀(l:List α) (i:Nat) (x y:α),l[i]? =some x→f y=f x→(l.set i y).map f=l.map f
 | [],_,_,_,h,_=>by simp at h
 |z::l,0,x,y,h,e=>by simp at h;subst h;simp[e]
 |z::l,i+1,x,y,h,e=>by
  simp only[List.set_cons_succ,List.map_cons];rw[gZg f l i x y (by simpa using h) e]
theorem Sep.upd {L:List As}{H:Hp}(h:Sep L H)(i:Nat){r:Nat}{m:Int→Option Value}(hi:L[i]? =some (Mp r m)){k:Int}{v:Value}{K:Unit→Hp→Prop}(kk:∀ H',Sep (L.set i (Mp r (fZH m k v))) H'→K () H'):
  cZw P (Instr.mapUpdate tm (.map (some r)) (.int .i64 k) v) H K:=fun H0 w0 w hA=>by
 obtain⟨H1,⟨l,clock,hr1,hok⟩,hle⟩:=h.see i hi;have hr:=hle _ _ hr1;have hh:=cZ1.heap hr hA.fits;cases hx:ixK k l 0 with
 |none=>
  have hg:cZx l k=none:=by rw[← mZh k l 0,hx];rfl
  refine⟨(),_,_,?_,kk _ (h.putIn i hi (b:=r) (o':=cZ1 (l++[(k,v,clock)]) (clock+1)) fun H1' hle' hA'=>?_),hA.setK hr _⟩
  ·simp only[Instr.mapUpdate,Sem.run_bind,Zw hm,Result.andThen_ok,MapKept.run_getObj_map hh];rw[jZr ht];simp only[Result.andThen_ok];rw[kZN ht,hx];simp only[Result.andThen_ok];rw[MapKept.run_setObj_map _ hh];simp[bZt]
  ·obtain⟨l',clock',hr',_⟩:=hA';refine⟨_,hr',l++[(k,v,clock)],clock+1,Hp.set_same _ _ _,?_,?_,fun x hx=>?_,fun j=>?_⟩
   ·rw[List.map_append,List.nodup_append];refine⟨hok.nd,by simp,fun a ha b hb e=>?_⟩;simp at hb;subst hb;obtain⟨z,hz,rfl⟩:=List.mem_map.1 ha;exact mZU.1 hg z hz e
   ·rw[List.map_append,List.nodup_append];refine⟨hok.bn,by simp,fun a ha b hb e=>?_⟩;simp at hb;subst hb;obtain⟨z,hz,rfl⟩:=List.mem_map.1 ha;have:=hok.bl z hz;omega
   ·rcases List.mem_append.1 hx with hx|hx
    ·have:=hok.bl x hx;omega
    ·simp at hx;subst hx;show clock<clock+1;omega
   ·rw[pZo ht hm l (k,v,clock) hg j];unfold fZH;simp only[hok.get]
 |some q=>
  obtain⟨ix,u⟩:=q;obtain⟨_,x,hxl,hxk,hxv⟩:=sZf ht hm k l 0 ix u hx;rw[Nat.sub_zero]at hxl;have hlt:=(List.getElem?_eq_some_iff.1 hxl).1;refine⟨(),_,_,?_,kk _ (h.putIn i hi (b:=r) (o':=cZ1 (l.set ix (x.1,v,x.2.2)) clock) fun H1' hle' hA'=>?_),hA.setK hr _⟩
  ·simp only[Instr.mapUpdate,Sem.run_bind,Zw hm,Result.andThen_ok,MapKept.run_getObj_map hh];rw[jZr ht];simp only[Result.andThen_ok];rw[kZN ht,hx];simp only[Result.andThen_ok];have hkey:((((l.map bZt).toArray)[ix]?).map (·.key)).getD (Value.int .i64 k)= .int .i64 k:=by
    simp[hxl,bZt,hxk]
   rw[hkey];simp only[Instr.keyThatStays,Instr.sameBits,beq_self_eq_true,Bool.and_self,if_true,pure_bind];rw[MapKept.run_setObj_map _ hh];congr 3;have e:((l.map bZt).toArray.modify ix fun e=>{ e with key:=.int .i64 k,val:=v})=((l.set ix (x.1,v,x.2.2)).map bZt).toArray:=by
    apply Array.ext';rw[Array.toList_modify];simp only;apply List.ext_getElem?;intro j;rw[List.getElem?_modify,List.getElem?_map,List.getElem?_map,List.getElem?_set];by_cases ej:ix=j
    ·subst ej;have e2:l[ix]=x:=by
      have:=List.getElem?_eq_getElem hlt;rw[this]at hxl;exact Option.some.inj hxl
     simp[bZt,hxk,hlt,e2]
    ·simp[ej]
   rw[e]
  ·obtain⟨l',clock',hr',_⟩:=hA';refine⟨_,hr',l.set ix (x.1,v,x.2.2),clock,Hp.set_same _ _ _,?_,?_,fun y hy=>?_,fun j=>?_⟩
   ·rw[gZg ht hm (·.1) l ix x (x.1,v,x.2.2) hxl rfl];exact hok.nd
   ·rw[gZg ht hm (·.2.2) l ix x (x.1,v,x.2.2) hxl rfl];exact hok.bn
   ·have:y.2.2∈(l.set ix (x.1,v,x.2.2)).map (·.2.2):=List.mem_map_of_mem hy;rw[gZg ht hm (·.2.2) l ix x (x.1,v,x.2.2) hxl rfl]at this;obtain⟨z,hz,e⟩:=List.mem_map.1 this;have:=hok.bl z hz;have e':z.2.2=y.2.2:=e;omega
   ·rw[oZl ht hm l ix x v hok.nd hxl j];unfold fZH;simp only[hok.get,hxk]
theorem Sep.clearK {L:List As}{H:Hp}(h:Sep L H)(i:Nat){r:Nat}{m:Int→Option Value}(hi:L[i]? =some (Mp r m)){ty:TypeId}{K:VK}(kk:∀ H',Sep (L.set i (Mp r fun _=>none)) H'→K (.tuple #[]) H'):
  cZw P (Builtin.clear_ #[tm] ty #[.map (some r)]) H K:=fun H0 w0 w hA=>by
 obtain⟨H1,⟨l,clock,hr1,hok⟩,hle⟩:=h.see i hi;have hr:=hle _ _ hr1;have hh:=cZ1.heap hr hA.fits;refine⟨_,_,_,?_,kk _ (h.putIn i hi (b:=r) (o':=cZ1 [] clock) fun H1' hle' hA'=>?_),hA.setK hr _⟩
 ·simp only[Builtin.clear_,Sem.run_bind,Zw hm,Result.andThen_ok,List.getElem?_toArray,List.getElem?_cons_zero,MapKept.run_getObj_map hh]
  try rw[Sem.run_bind]
  rw[MapKept.run_setObj_map _ hh];simp
 ·obtain⟨l',clock',hr',_⟩:=hA';exact⟨_,hr',[],clock,Hp.set_same _ _ _,by simp,by simp,fun x hx=>by simp at hx,fun j=>rfl⟩
end
theorem Mp.new {L:List As}{H:Hp}{b:Nat}(h:Sep (L++[pts b (.obj (.map #[] 0))]) H):Sep (L++[Mp b fun _=>none]) H:=by
 have:=h.turn L.length (A:=pts b (.obj (.map #[] 0))) (by simp) (B:=Mp b fun _=>none) fun H1 h1=>⟨[],0,h1,by simp,by simp,fun x hx=>by simp at hx,fun j=>rfl⟩
 simpa using this
def bZN (tk:List (Int×Value×Nat))(seen:Array Nat):List (Int×Value×Nat):=tk.filter fun x=> !seen.contains x.2.2
theorem vZS {P:Program}{t k e:TypeId}(ht:P.underlying t=some (.map k e)){H:Hp}{mp cl:Nat}{tk:List (Int×Value×Nat)}(hm:H mp=some (cZ1 tk cl)){K:VK}
  (kk:∀ it,H it=none→K (.pointer (some ⟨it,0,none⟩)) (H.set it (eZh mp cl #[] cl))):cZw P (Instr.range t (.map (some mp))) H K:=fun H0 w0 w hA=>by
 have hh:=cZ1.heap hm hA.fits;obtain⟨hn,hA'⟩:=hA.new (o:=eZh mp cl #[] cl) (x:=.mapIter (some mp) cl #[] cl) rfl;refine⟨_,_,_,?_,kk _ hn,hA'⟩;simp only[Instr.range,Sem.run_bind,Zw ht,Result.andThen_ok,MapKept.run_getObj_map hh,Sem.run_pure];simp
theorem sZu {P:Program}{ty:TypeId}{H:Hp}{it mp since last cl:Nat}{seen:Array Nat}{tk:List (Int×Value×Nat)}(hi:H it=some (eZh mp since seen last))(hm:H mp=some (cZ1 tk cl))(hold:∀ x∈tk,x.2.2<since)(hlast:∀ x∈tk,x.2.2<last){K:VK}
  (k1:∀ x∈bZN tk seen,K (.tuple #[.bool true,.int .i64 x.1,x.2.1]) (H.set it (eZh mp since (seen.push x.2.2) cl))) (k0:bZN tk seen=[]→K (.tuple #[.bool false]) H):
  cZw P (Instr.next (.pointer (some ⟨it,0,none⟩)) false ty) H K:=fun H0 w0 w hA=>by
 have hh:=eZh.heap hi hA.fits;have hg:=cZ1.heap hm hA.fits;have hgi:(getObj it).run P w= .ok (.mapIter (some mp) since seen last) w:=by simp[getObj,Sem.run,hh]
 have hleft:((tk.map bZt).toArray.filter fun e=> !seen.contains e.born)=((bZN tk seen).map bZt).toArray:=by
  unfold bZN;rw[List.filter_toArray,List.filter_map];rfl
 have hcond:(!seen.isEmpty&& !(tk.map bZt).toArray.isEmpty&&(tk.map bZt).toArray.all (fun e=>decide (e.born≥last)))=false:=by
  cases tk with
  |nil=>simp
  |cons x l=>
   have:=hlast x (by simp);have h2:¬last≤x.2.2:=by omega
   simp[bZt,h2]
 have hold':(((bZN tk seen).map bZt).toArray.filter fun e=>decide (e.born<since))=((bZN tk seen).map bZt).toArray:=by
  rw[List.filter_toArray];congr 1;rw[List.filter_eq_self];intro e he;obtain⟨x,hx,rfl⟩:=List.mem_map.1 he;have:=hold x (List.mem_filter.1 hx).1;exact decide_eq_true this
 have hnew:(((bZN tk seen).map bZt).toArray.filter fun e=>decide (e.born≥since))=#[]:=by
  rw[List.filter_toArray];congr 1;rw[List.filter_eq_nil_iff];intro e he;obtain⟨x,hx,rfl⟩:=List.mem_map.1 he;have:=hold x (List.mem_filter.1 hx).1;simp[bZt];omega
 simp only[Instr.next,Sem.run_bind,hgi,Result.andThen_ok,MapKept.run_getObj_map hg,hcond,Bool.false_eq_true,if_false,hleft,hold',hnew,Sem.run_pure];cases hU:bZN tk seen with
 |nil=>
  obtain⟨i,w',hi',hr,hA'⟩:=kZn (P:=P) hA 1 (by omega);obtain rfl:i=0:=by omega
  refine⟨_,H,w',?_,k0 hU,hA'⟩;rw[show((if(List.map bZt ([]:List (Int×Value×Nat))).toArray.isEmpty=true then #[none]else #[])++Array.map some ((List.map bZt ([]:List (Int×Value×Nat))).toArray++ #[]))=(#[none]:Array (Option MapEntry)) by simp,show(#[none]:Array (Option MapEntry)).size=1 from rfl,hr];rfl
 |cons x l=>
  obtain⟨i,w',hi',hr,hA'⟩:=kZn (P:=P) hA (x::l).length (by simp);have e:((if(List.map bZt (x::l)).toArray.isEmpty=true then #[none]else #[])++Array.map some ((List.map bZt (x::l)).toArray++ #[]))=((x::l).map fun y=>some (bZt y)).toArray:=by simp
  rw[e,show((x::l).map fun y=>some (bZt y)).toArray.size=(x::l).length by simp,hr];have hy:(x::l)[i]∈bZN tk seen:=by rw[hU];exact List.getElem_mem hi'
  refine⟨_,_,_,?_,k1 _ hy,hA'.setIter hi _⟩;simp only[Result.andThen_ok,List.getElem?_toArray,List.getElem?_map,List.getElem?_eq_getElem hi',Option.map_some,Sem.run_bind];have hh':=eZh.heap hi hA'.fits;rw[show(setObj it (Obj.mapIter (some mp) since (seen.push (bZt (x::l)[i]).born) cl)).run P w'= .ok () { w' with heap:=w'.heap.setIfInBounds it (Obj.mapIter (some mp) since (seen.push (bZt (x::l)[i]).born) cl)} by simp[setObj,Sem.run,hh']];rfl
theorem lZw :∀(tk:List (Int×Value×Nat)) (x:Int×Value×Nat),x∈tk→(tk.map (·.2.2)).Nodup→(tk.map bZt).find? (fun e=>e.born==x.2.2)=some (bZt x)
 | [],x,h,_=>by simp at h
 |y::l,x,h,hn=>by
  simp only[List.map_cons,List.nodup_cons]at hn;simp only[List.map_cons,List.find?_cons];rcases List.mem_cons.1 h with rfl|h
  ·simp[bZt]
  ·have:¬(y.2.2=x.2.2):=fun e=>hn.1 (by rw[e];exact List.mem_map_of_mem h)
   rw[show((bZt y).born==x.2.2)=false by simpa [bZt]using this];exact lZw l x h hn.2
theorem vZu {P:Program}{H:Hp}{it mp since cl:Nat}{seen:Array Nat}{tk:List (Int×Value×Nat)}(hi:H it=some (eZh mp since seen cl))(hm:H mp=some (cZ1 tk cl)){x:Int×Value×Nat}(hx:x∈tk)(hb:seen.back? =some x.2.2)(hn:(tk.map (·.2.2)).Nodup){K:VK}
  (k:K (.tuple #[.int .i64 x.1,x.2.1]) H):cZw P (Instr.entry (.pointer (some ⟨it,0,none⟩))) H K:=fun H0 w0 w hA=>by
 have hh:=eZh.heap hi hA.fits;have hg:=cZ1.heap hm hA.fits;have hgi:(getObj it).run P w= .ok (.mapIter (some mp) since seen cl) w:=by simp[getObj,Sem.run,hh]
 refine⟨_,H,w,?_,k,hA⟩;simp only[Instr.entry,Sem.run_bind,hgi,Result.andThen_ok,hb,MapKept.run_getObj_map hg,bne_self_eq_false,Bool.false_eq_true,if_false,List.find?_toArray,lZw tk x hx hn];rfl
theorem rZk {tk:List (Int×Value×Nat)}{seen:Array Nat}{x:Int×Value×Nat}(hx:x∈bZN tk seen):(bZN tk (seen.push x.2.2)).length<(bZN tk seen).length:=by
 have e:bZN tk (seen.push x.2.2)=(bZN tk seen).filter fun y=>y.2.2 !=x.2.2:=by
  unfold bZN;rw[List.filter_filter];congr 1
  funext y
  rw[Array.contains_push];cases seen.contains y.2.2<;>simp[bne]
 rw[e];have:∀ l:List (Int×Value×Nat),x∈l→(l.filter fun y=>y.2.2 !=x.2.2).length<l.length:=by
  intro l hl
  induction l with
  |nil=>simp at hl
  |cons y l ih=>
   rcases List.mem_cons.1 hl with rfl|hl
   ·rw[List.filter_cons_of_neg (by simp)];have:=List.length_filter_le (fun y:Int×Value×Nat=>y.2.2 !=x.2.2) l;simp only[List.length_cons];omega
   ·have:=ih hl;have:=List.length_filter_le (fun y:Int×Value×Nat=>y.2.2 !=x.2.2) l;rw[List.filter_cons];split<;>simp only[List.length_cons]<;>omega
 exact this _ hx
end Go.Hw
namespace Go.Proofs.YtgfildcgihbdaaaGreatDoor.W
open Go Go.Hw
theorem bZW :Tryz.prog.follows .mixedOrders=true:=by kernel_rfl
def hZd (x1 x2:Int)(H:Hp)(K:VK):Prop:=
 BIf (decide (x1<1)) (K (.pointer none) H) (BIf (decide (x1>1048576)) (K (.pointer none) H) (BIf (decide (x2<32)) (K (.pointer none) H) (BIf (decide (x2>4096)) (K (.pointer none) H) (BIf ((aZr .i64 x2 (i64.wrap (x2-1))) !=0) (K (.pointer none) H) ((x2≠0∧i64=i64∧BIf (decide (x1>(i64.wrap (Int.tdiv 67108864 x2)))) (K (.pointer none) H) (Nw H (.obj (.map #[] 0)) fun b1 H1=>Nw H1 (.obj (.map #[] 0)) fun b2 H2=>Nw H2 (.obj (.map #[] 0)) fun b3 H3=>Nw H3 (.obj (.cells #[.int .i64 x1,.int .i64 x2,.map (some b1),.int .i64 0,.int .i64 0,.int .i64 0,.map (some b2),.bool false,.int .i64 0,.map (some b3)] 54)) fun b4 H4=>K (.pointer (some ⟨b4,0,none⟩)) H4)))))))
theorem hZd.ok x1 x2 H K (h:hZd x1 x2 H K):Za Tryz.prog 11 #[.int .i64 x1,.int .i64 x2] H K:=
 okN bZW Tryz.func11 rfl rfl h
def dZh (p1:OA)(H:Hp)(K:VK):Prop:=
 Nw H (.obj (.cells #[.int .i64 0,.int .i64 0,.int .i64 0] 39)) fun b1 H1=>NN p1 fun a1=>LdA H1 (a1.add 0) 3 fun l1=>StA H1 ⟨b1,0,none⟩ l1.toArray 3 fun H2=>LdA H2 ⟨b1,0,none⟩ 3 fun l2=>K (.agg l2.toArray) H2
theorem dZh.ok p1 H K (h:dZh p1 H K):Za Tryz.prog 15 #[.pointer p1] H K:=
 okN bZW Tryz.func15 rfl rfl h
def dZQ (p1:OA)(x1:Int)(H:Hp)(K:VK):Prop:=
 NN p1 fun a1=>St H ((a1.add 1).add 0) (.int .i64 (if 0>x1 then 0 else x1)) fun H1=>K (.tuple #[]) H1
theorem dZQ.ok p1 x1 H K (h:dZQ p1 x1 H K):Za Tryz.prog 31 #[.pointer p1,.int .i64 x1] H K:=
 okN bZW Tryz.func31 rfl rfl h
def dZP (p1:OA)(H:Hp)(K:VK):Prop:=
 NN p1 fun a1=>LeB H (a1.add 0) fun c1=>K (.bool c1) H
theorem dZP.ok p1 H K (h:dZP p1 H K):Za Tryz.prog 32 #[.pointer p1] H K:=
 okN bZW Tryz.func32 rfl rfl h
def aZp.l4 (K:VK):Nat→OA→OA→Nat→Nat→OA→Nat→Nat→Int→Int→Hp→Prop
 |0,_,_,_,_,_,_,_,_,_,_=>False
 |k+1,p2,A3,n3,m3,A4,n4,m4,x1,x2,H=>
  let R4:=aZp.l4 K k
  BIf (decide (x2<x1)) (ixI x2 n4 (NN A4 fun a2=>LeI H (a2.add (x2.toNat*1)) fun x3=>BIf (decide (x2<(n3:Int))) (ixI x2 n3 (NN A3 fun a3=>LeB H (a3.add (x2.toNat*1)) fun c2=>BIf c2 (NN p2 fun a4=>LeM H ((a4.add 0).add 2) fun r1=>NN p2 fun a5=>LeM H (a5.add 9) fun r2=>jZl Tryz.prog (Instr.lookup 45 (.map r2) (.int .i64 x3) false) H fun v7=>DS v7 fun s1=>cZw Tryz.prog (Instr.mapUpdate 45 (.map r1) (.int .i64 x3) (.string s1)) H fun _ H2=>R4 p2 A3 n3 m3 A4 n4 m4 x1 (i64.wrap (x2+1)) H2) (R4 p2 A3 n3 m3 A4 n4 m4 x1 (i64.wrap (x2+1)) H))) (R4 p2 A3 n3 m3 A4 n4 m4 x1 (i64.wrap (x2+1)) H))) (NN p2 fun a6=>LeM H (a6.add 9) fun r3=>cZw Tryz.prog (Builtin.clear_ #[45] 0 #[.map r3]) H fun v9 H3=>NN p2 fun a7=>St H3 (((a7.add 7).add 0).add 0) (.bool false) fun H4=>K (.int .i64 0) H4)
def aZp (p1 A1:OA)(n1 m1:Nat)(H:Hp)(K:VK):Prop:=
 NN p1 fun a1=>LeB H ((a1.add 7).add 0) fun c1=>BIf (!c1) (K (.int .i64 5) H) (HcS 67 #[.pointer p1] H fun A2 n2 m2 H1=>(∃ k,aZp.l4 K k p1 A1 n1 m1 A2 n2 m2 (n2:Int) 0 H1))
def aZp.l4.L (K:VK)(k:Nat):Mid:=fun E D H=>
 eP E 0 fun p2=>DG (E.get? 1) fun w1=>DSl w1 fun A3 n3 m3=>DG (E.get? 14) fun w14=>DSl w14 fun A4 n4 m4=>eI E 15 .i64 fun x1=>eI E 16 .i64 fun x2=>Zk D (aZp.l4 K k p2 A3 n3 m3 A4 n4 m4 x1 x2 H)
def aZp.Λ4 (_:VK)(_R4:OA→OA→Nat→Nat→OA→Nat→Nat→Int→Int→Hp→Prop):Zt:=Zt.none (fun i=>match Nat.beq i 7 with|true=>some ([],[0,1,2,3,4,5,6,7,8,9,10,11],12)|false=>none)
def aZp.Λ (K:VK):Zt:=⟨fun i=>none,fun i=>match Nat.beq i 4 with|true=>some (fun E D H=>∃ k,aZp.l4.L K k E D H)|false=>none,(fun i=>match Nat.beq i 7 with|true=>some ([],[0,1,2,3,4,5,6,7,8,9,10,11],12)|false=>none)⟩
theorem aZp.ok p1 A1 n1 m1 H K (h:aZp p1 A1 n1 m1 H K):Za Tryz.prog 33 #[.pointer p1,.slice A1 n1 m1] H K:=
 okL (Λ:=(aZp.Λ K)) bZW Tryz.func33 rfl rfl h (oC (fun E D H h=>by
   refine Safe.loop' (aZp.l4.L K) (fun E D H h=>?_) (fun k E D H h=>?_) E D H h
   ·obtain⟨w0,e0,g1⟩:=DG.out h;obtain⟨p2,rfl,g2⟩:=DP.out g1;obtain⟨w1,e1,g3⟩:=DG.out g2;obtain⟨A3,n3,m3,rfl,g4⟩:=DSl.out g3;obtain⟨w14,e14,g5⟩:=DG.out g4;obtain⟨A4,n4,m4,rfl,g6⟩:=DSl.out g5;obtain⟨w15,e15,g7⟩:=DG.out g6;obtain⟨x1,rfl,g8⟩:=DI.out g7;obtain⟨w16,e16,g9⟩:=DG.out g8;obtain⟨x2,rfl,g10⟩:=DI.out g9;obtain⟨rfl,h'⟩:=Zk.out g10;exact h'
   ·obtain⟨p2,e0,g2⟩:=GP h;obtain⟨w1,e1,g3⟩:=DG.out g2;obtain⟨A3,n3,m3,rfl,g4⟩:=DSl.out g3;obtain⟨w14,e14,g5⟩:=DG.out g4;obtain⟨A4,n4,m4,rfl,g6⟩:=DSl.out g5;obtain⟨x1,e15,g8⟩:=GI g6;obtain⟨x2,e16,g10⟩:=GI g8;obtain⟨rfl,h'⟩:=Zk.out g10;exact okJ (Λ:=(aZp.Λ4 K (aZp.l4 K k))) bZW [] (Zb.cons e0 (Zb.cons e1 (Zb.cons e14 (Zb.cons e15 (Zb.cons e16 (Zb.nil _)))))) h' oN) oN)
def cZJ (p1:OA)(H:Hp)(K:VK):Prop:=
 NN p1 fun a1=>LeI H (a1.add 0) fun x1=>K (.int .i64 x1) H
theorem cZJ.ok p1 H K (h:cZJ p1 H K):Za Tryz.prog 41 #[.pointer p1] H K:=
 okN bZW Tryz.func41 rfl rfl h
def dZt (p1:OA)(H:Hp)(K:VK):Prop:=
 NN p1 fun a1=>LeI H (a1.add 1) fun x1=>K (.int .i64 x1) H
theorem dZt.ok p1 H K (h:dZt p1 H K):Za Tryz.prog 42 #[.pointer p1] H K:=
 okN bZW Tryz.func42 rfl rfl h
def dZM (p1:OA)(x1:Int)(A1:OA)(n1 m1:Nat)(H:Hp)(K:VK):Prop:=
 HcI 74 #[.pointer p1,.int .i64 x1] H fun x2 H1=>BIf (x2 !=0) (K (.int .i64 x2) H1) (NN p1 fun a1=>LeI H1 ((a1.add 0).add 1) fun x3=>BIf ((n1:Int) !=x3) (K (.int .i64 19) H1) (NN p1 fun a2=>HcB 75 #[.pointer (some (a2.add 7))] H1 fun c1 H2=>BIf c1 (K (.int .i64 8) H2) (NN p1 fun a3=>LeI H2 (((a3.add 3).add 0).add 1) fun x4=>NN p1 fun a4=>St H2 ((((a4.add 3).add 0).add 1).add 0) (.int .i64 (i64.wrap (x4+1))) fun H3=>NN p1 fun a5=>LeM H3 ((a5.add 3).add 3) fun r1=>cZw Tryz.prog (Instr.mapUpdate 48 (.map r1) (.int .i64 x1) (.int .i64 1)) H3 fun _ H4=>NN p1 fun a6=>LeM H4 (a6.add 9) fun r2=>BsK H4 A1 n1 fun s1=>cZw Tryz.prog (Instr.mapUpdate 45 (.map r2) (.int .i64 x1) (.string s1)) H4 fun _ H5=>K (.int .i64 0) H5)))
theorem dZM.ok p1 x1 A1 n1 m1 H K (h:dZM p1 x1 A1 n1 m1 H K):Za Tryz.prog 45 #[.pointer p1,.int .i64 x1,.slice A1 n1 m1] H K:=
 ok0 (fun i=>match Nat.beq i 10 with|true=>some ([],[0,1,2,3,4,5,6],7)|false=>none) bZW Tryz.func45 rfl rfl h
def eZa (p1:OA)(H:Hp)(K:VK):Prop:=
 NN p1 fun a1=>LeB H ((a1.add 7).add 0) fun c1=>BIf c1 (K (.int .i64 8) H) (NN p1 fun a2=>HcB 75 #[.pointer (some (a2.add 7))] H fun c2 H1=>BIf c2 (K (.int .i64 8) H1) (NN p1 fun a3=>LeI H1 (((a3.add 3).add 0).add 2) fun x1=>NN p1 fun a4=>St H1 ((((a4.add 3).add 0).add 2).add 0) (.int .i64 (i64.wrap (x1+1))) fun H2=>NN p1 fun a5=>LeM H2 ((a5.add 0).add 2) fun r1=>NN p1 fun a6=>LeM H2 (a6.add 9) fun r2=>Hz 76 #[.map r1,.map r2] H2 fun v6 H3=>NN p1 fun a7=>LeM H3 (a7.add 9) fun r3=>cZw Tryz.prog (Builtin.clear_ #[45] 0 #[.map r3]) H3 fun v8 H4=>K (.int .i64 0) H4))
theorem eZa.ok p1 H K (h:eZa p1 H K):Za Tryz.prog 47 #[.pointer p1] H K:=
 ok0 (fun i=>match Nat.beq i 4 with|true=>some ([],[0,1,2,3,4,5,6,7,8],9)|false=>none) bZW Tryz.func47 rfl rfl h
def dZL (p1:OA)(H:Hp)(K:VK):Prop:=
 NN p1 fun a1=>LeM H (a1.add 9) fun r1=>Hz 95 #[.map r1] H fun v2 H1=>HcS 94 #[v2] H1 fun A1 n1 m1 H2=>K (.slice A1 n1 m1) H2
theorem dZL.ok p1 H K (h:dZL p1 H K):Za Tryz.prog 67 #[.pointer p1] H K:=
 okN bZW Tryz.func67 rfl rfl h
def dZu (p1:OA)(H:Hp)(K:VK):Prop:=
 NN p1 fun a1=>St H ((a1.add 0).add 0) (.bool true) fun H1=>NN p1 fun a2=>St H1 ((a2.add 1).add 0) (.int .i64 0) fun H2=>K (.tuple #[]) H2
theorem dZu.ok p1 H K (h:dZu p1 H K):Za Tryz.prog 68 #[.pointer p1] H K:=
 okN bZW Tryz.func68 rfl rfl h
def dZN (p1:OA)(x1:Int)(H:Hp)(K:VK):Prop:=
 NN p1 fun a1=>LeB H ((a1.add 7).add 0) fun c1=>BIf c1 (K (.int .i64 8) H) (BIf (decide (x1<0)) (K (.int .i64 2) H) (NN p1 fun a2=>LeI H ((a2.add 0).add 0) fun x2=>BIf (decide (x1≥x2)) (K (.int .i64 2) H) (K (.int .i64 0) H)))
theorem dZN.ok p1 x1 H K (h:dZN p1 x1 H K):Za Tryz.prog 74 #[.pointer p1,.int .i64 x1] H K:=
 okN bZW Tryz.func74 rfl rfl h
def dZv (p1:OA)(H:Hp)(K:VK):Prop:=
 NN p1 fun a1=>LeI H (a1.add 1) fun x1=>BIf (x1==0) (K (.bool false) H) (NN p1 fun a2=>LeI H (a2.add 1) fun x2=>NN p1 fun a3=>St H ((a3.add 1).add 0) (.int .i64 (i64.wrap (x2-1))) fun H1=>NN p1 fun a4=>LeI H1 (a4.add 1) fun x3=>NN p1 fun a5=>St H1 ((a5.add 0).add 0) (.bool (x3==0)) fun H2=>NN p1 fun a6=>LeB H2 (a6.add 0) fun c1=>K (.bool c1) H2)
theorem dZv.ok p1 H K (h:dZv p1 H K):Za Tryz.prog 75 #[.pointer p1] H K:=
 okN bZW Tryz.func75 rfl rfl h
def dZ9 (p1:OA)(x1:Int)(H:Hp)(K:VK):Prop:=
 HcI 74 #[.pointer p1,.int .i64 x1] H fun x2 H1=>BIf (x2 !=0) (K (.tuple #[.slice none 0 0,.int .i64 x2]) H1) (NN p1 fun a1=>HcB 75 #[.pointer (some (a1.add 7))] H1 fun c1 H2=>BIf c1 (K (.tuple #[.slice none 0 0,.int .i64 8]) H2) (NN p1 fun a2=>LeI H2 (((a2.add 3).add 0).add 0) fun x3=>NN p1 fun a3=>St H2 ((((a3.add 3).add 0).add 0).add 0) (.int .i64 (i64.wrap (x3+1))) fun H3=>NN p1 fun a4=>LeM H3 (a4.add 9) fun r1=>jZl Tryz.prog (Instr.lookup 45 (.map r1) (.int .i64 x1) true) H3 fun v5=>wZG v5 fun s1 c2=>(BIf c2 (StB 5 s1 H3 fun v8 H4=>DSl v8 fun A1 n1 m1=>K (.tuple #[.slice A1 n1 m1,.int .i64 0]) H4) (NN p1 fun a5=>HcS 134 #[.pointer (some (a5.add 0)),.int .i64 x1] H3 fun A2 n2 m2 H5=>K (.tuple #[.slice A2 n2 m2,.int .i64 0]) H5))))
theorem dZ9.ok p1 x1 H K (h:dZ9 p1 x1 H K):Za Tryz.prog 91 #[.pointer p1,.int .i64 x1] H K:=
 okN bZW Tryz.func91 rfl rfl h
def dZO (p1:OA)(x1:Int)(H:Hp)(K:VK):Prop:=
 NN p1 fun a1=>LeI H (a1.add 1) fun x2=>MkS Tryz.prog 5 x2 x2 H fun v2 H1=>DSl v2 fun A1 n1 m1=>NN p1 fun a2=>LeM H1 (a2.add 2) fun r1=>jZl Tryz.prog (Instr.lookup 45 (.map r1) (.int .i64 x1) false) H1 fun v4=>DS v4 fun s1=>CpK Tryz.prog 5 (.slice A1 n1 m1) (.string s1) H1 fun v5 H2=>DI .i64 v5 fun x3=>K (.slice A1 n1 m1) H2
theorem dZO.ok p1 x1 H K (h:dZO p1 x1 H K):Za Tryz.prog 134 #[.pointer p1,.int .i64 x1] H K:=
 okN bZW Tryz.func134 rfl rfl h
end Go.Proofs.YtgfildcgihbdaaaGreatDoor.W
