import Derived.Test.YtahjgjaenegpgaaGreatDoorProg
import Derived.Test.YtahjgjaenegpgaaGreatDoorPkEngineSolves5
set_option maxRecDepth 100000
set_option linter.unusedSimpArgs false
set_option linter.unusedVariables false
set_option linter.unnecessarySimpa false
set_option linter.unusedSectionVars false
namespace Go.Proofs.YtahjgjaenegpgaaGreatDoor
open Tryz (prog)
namespace Gol
open Go Go.Hw W
theorem kZj (p x y q:Nat):(x%p+y%p*q)%p=(x+y*q)%p:=by
 rw[Nat.add_mod,Nat.mod_mod,Nat.mul_mod,Nat.mod_mod,←Nat.mul_mod,←Nat.add_mod]
theorem kZk (p x y q:Nat):x%p*(y%p)^q%p=x*y^q%p:=by
 rw[Nat.mul_mod,Nat.mod_mod,←Nat.pow_mod,←Nat.mul_mod]
theorem jZo (p x y q:Nat):x*(y%p)^q%p=x*y^q%p:=by
 rw[Nat.mul_mod,←Nat.pow_mod,←Nat.mul_mod]
theorem mZS (p x y:Nat):x%p*y%p=x*y%p:=by rw[Nat.mul_mod,Nat.mod_mod,←Nat.mul_mod]
theorem tZb (H:Hp):∀(f n out base:Nat),n<2^f→f≤64→out<18446744069414584321→base<18446744069414584321→bZk.l2 (RetE (.int .u64 ((out*base^n%18446744069414584321:Nat):Int)) H) (f+1) (n:Int) (out:Int) (base:Int) H:=fun f=>by
 generalize hp:18446744069414584321=p
 induction f with
 |zero=>
  intro n out base hn hf ho hb;obtain rfl:n=0:=by omega
  unfold bZk.l2;refine Zm (by omega) ?_;rw[Nat.pow_zero,Nat.mul_one,Nat.mod_eq_of_lt ho];exact RetE.mk _ _
 |succ f ih=>
  intro n out base hn hf ho hb;have hp0:0<p:=by omega
  have h64:2^(f+1)≤2^64:=Nat.pow_le_pow_right (by omega) hf;have hs:2^(f+1)=2*2^f:=by rw[Nat.pow_succ];omega
  have hn2:n/2<2^f:=by omega
  unfold bZk.l2;by_cases h0:n=0
  ·subst h0;refine Zm (by omega) ?_;rw[Nat.pow_zero,Nat.mul_one,Nat.mod_eq_of_lt ho];exact RetE.mk _ _
  refine Zw (by omega) ?_;have hand:aZF .u64 (n:Int) 1=((n%2:Nat):Int):=by
   rw[show(1:Int)=((1:Nat):Int)from rfl,lZ3 (by omega) (by omega),Nat.and_one_is_mod]
  have hshr:aZE .u64 (n:Int) 1=((n/2:Nat):Int):=by
   rw[hZP (k:=.u64) (a:=n) (i:=1) (n:=1) rfl (by decide)]
  rw[hand,hshr];have hq:=Nat.mod_lt (base*base) hp0;have hq2:=Nat.mod_lt (out*base) hp0;by_cases h1:n%2=1
  ·refine aZb (by omega) ?_;refine Zc.use (gZ1 (a:=out) (b:=base) (by omega) (by omega) H) ?_;rw[hp];simp only[HV];refine Zc.use (gZ1 (a:=base) (b:=base) (by omega) (by omega) H) ?_;rw[hp];simp only[HV];refine⟨by decide,?_⟩;have:=ih (n/2) (out*base%p) (base*base%p) hn2 (by omega) hq2 hq;rw[kZk,show out*base*(base*base)^(n/2)=out*base^n by
    rw[← Nat.pow_two,←Nat.pow_mul,Nat.mul_assoc,←Nat.pow_succ',Nat.succ_eq_add_one,show 2*(n/2)+1=n by omega]]at this
   exact this
  ·refine aZm (by omega) ?_;refine Zc.use (gZ1 (a:=base) (b:=base) (by omega) (by omega) H) ?_;rw[hp];simp only[HV];refine⟨by decide,?_⟩;have:=ih (n/2) out (base*base%p) hn2 (by omega) ho hq;rw[jZo,show out*(base*base)^(n/2)=out*base^n by
    rw[← Nat.pow_two,←Nat.pow_mul,show 2*(n/2)=n by omega]]at this
   exact this
theorem kZ7 {a n:Nat}(ha:a<2^64)(hn:n<2^64)(H:Hp):Zc prog 231 #[.int .u64 (a:Int),.int .u64 (n:Int)] H (RetE (.int .u64 ((a^n%18446744069414584321:Nat):Int)) H):=by
 apply bZk.ok;unfold bZk;refine Zc.use (eZJ ha H) ?_;simp only[HV];refine⟨65,?_⟩;have:=tZb H 64 n 1 (a%18446744069414584321) hn (by omega) (by omega) (by omega);rw[Nat.one_mul,←Nat.pow_mod]at this;exact this
def neg (a:Nat):Nat:=(18446744069414584321-a%18446744069414584321)%18446744069414584321
theorem vZ2 {a:Nat}(ha:a<2^64)(H:Hp):Zc prog 273 #[.int .u64 (a:Int)] H (RetE (.int .u64 ((neg a:Nat):Int)) H):=by
 apply hZg.ok;unfold hZg neg;refine Zc.use (eZJ ha H) ?_;simp only[HV];by_cases h:a%18446744069414584321=0
 ·rw[h];exact aZb rfl (RetE.mk _ _)
 ·refine aZm (by omega) ?_;rw[dZj (by omega) (by omega)];have:(18446744069414584321:Int)-((a%18446744069414584321:Nat):Int)=(((18446744069414584321-a%18446744069414584321)%18446744069414584321:Nat):Int):=by omega
  rw[this];exact RetE.mk _ _
def sub (a b:Nat):Nat:=(a+neg b)%18446744069414584321
theorem vZ7 {a b:Nat}(ha:a<2^64)(hb:b<2^64)(H:Hp):Zc prog 269 #[.int .u64 (a:Int),.int .u64 (b:Int)] H (RetE (.int .u64 ((sub a b:Nat):Int)) H):=by
 apply hZh.ok;unfold hZh;refine Zc.use (vZ2 hb H) ?_;simp only[HV];refine Zc.use (kZZ (a:=a) (b:=neg b) ha (by unfold neg;omega) H) ?_;simp only[HV];exact RetE.mk _ _
def gZ7 :Nat:=18446744069414584319
def kZJ (a:Nat):Nat:=a^gZ7%18446744069414584321
theorem uZ9 {a:Nat}(ha:a<2^64)(e:Nat)(he:e=18446744069414584319)(H:Hp):Zc prog 231 #[.int .u64 (a:Int),.int .u64 (e:Int)] H (RetE (.int .u64 ((a^e%18446744069414584321:Nat):Int)) H):=kZ7 ha (by omega) H
theorem rZj {a:Nat}(ha:a<2^64)(h0:a%18446744069414584321≠0)(H:Hp):Zc prog 207 #[.int .u64 (a:Int)] H (RetE (.tuple #[.int .u64 ((kZJ a:Nat):Int),.int .i64 0]) H):=by
 apply hZe.ok;unfold hZe;refine Zc.use (eZJ ha H) ?_;simp only[HV];refine aZm (by omega) ?_;have hP:Zc prog 231 #[.int .u64 (a:Int),.int .u64 18446744069414584319] H (RetE (.int .u64 ((kZJ a:Nat):Int)) H):=by
  have h:=uZ9 ha gZ7 rfl H;unfold kZJ;rw[show(18446744069414584319:Int)=((gZ7:Nat):Int)from rfl];exact h
 refine Zc.use hP ?_;simp only[HV];exact RetE.mk _ _
theorem lZH {a:Nat}(H:Hp):Zc prog 136 #[.int .u64 (a:Int)] H (RetE (.int .u64 ((a%18446744069414584321:Nat):Int)) H):=by
 apply dZX.ok;unfold dZX;exact⟨by decide,by simp,RetE.mk _ _⟩
theorem jZ1 {a b:Nat}(H:Hp):Zc prog 86 #[.int .u64 (a:Int),.int .u64 (b:Int)] H (RetE (.int .u64 (((a+b)%18446744069414584321:Nat):Int)) H):=by
 apply dZB.ok;unfold dZB;refine Zc.use (lZH (a:=a) H) ?_;simp only[HV];refine Zc.use (lZH (a:=b) H) ?_;simp only[HV];rw[dZj (x:=18446744069414584321-((b%18446744069414584321:Nat):Int)) (by omega) (by omega)];by_cases h:((a%18446744069414584321:Nat):Int)≥18446744069414584321-((b%18446744069414584321:Nat):Int)
 ·refine Zw h ?_;rw[dZj (by omega) (by omega)];have:((a%18446744069414584321:Nat):Int)-(18446744069414584321-((b%18446744069414584321:Nat):Int))=(((a+b)%18446744069414584321:Nat):Int):=by omega
  rw[this];exact RetE.mk _ _
 ·refine Zm h ?_;rw[dZj (by omega) (by omega)];have:((a%18446744069414584321:Nat):Int)+((b%18446744069414584321:Nat):Int)=(((a+b)%18446744069414584321:Nat):Int):=by omega
  rw[this];exact RetE.mk _ _
theorem sZj (H:Hp):∀(f n out base:Nat),n<2^f→f≤64→out<18446744069414584321→aZv.l3 (RetE (.int .u64 (((out+base*n)%18446744069414584321:Nat):Int)) H) (f+1) (base:Int) (n:Int) (out:Int) H:=fun f=>by
 generalize hp:18446744069414584321=p
 induction f with
 |zero=>
  intro n out base hn hf ho;obtain rfl:n=0:=by omega
  unfold aZv.l3;refine Zm (by omega) ?_;rw[Nat.mul_zero,Nat.add_zero,Nat.mod_eq_of_lt ho];exact RetE.mk _ _
 |succ f ih=>
  intro n out base hn hf ho;have hp0:0<p:=by omega
  have h64:2^(f+1)≤2^64:=Nat.pow_le_pow_right (by omega) hf;have hs:2^(f+1)=2*2^f:=by rw[Nat.pow_succ];omega
  have hn2:n/2<2^f:=by omega
  unfold aZv.l3;by_cases h0:n=0
  ·subst h0;refine Zm (by omega) ?_;rw[Nat.mul_zero,Nat.add_zero,Nat.mod_eq_of_lt ho];exact RetE.mk _ _
  refine Zw (by omega) ⟨by decide,by simp,?_⟩;have hm:Int.tmod (n:Int) 2=((n%2:Nat):Int):=rfl;have hd:IntKind.u64.wrap (Int.tdiv (n:Int) 2)=((n/2:Nat):Int):=by
   rw[show Int.tdiv (n:Int) 2=((n/2:Nat):Int)from rfl,bZ1 (by omega)]
  rw[hm,hd];have hq2:=Nat.mod_lt (out+base) hp0;by_cases h1:n%2=1
  ·refine aZb (by omega) ?_;refine Zc.use (jZ1 (a:=out) (b:=base) H) ?_;rw[hp];simp only[HV];refine Zc.use (jZ1 (a:=base) (b:=base) H) ?_;rw[hp];simp only[HV];refine⟨by decide,by simp,?_⟩;have:=ih (n/2) ((out+base)%p) ((base+base)%p) hn2 (by omega) hq2;rw[kZj,show out+base+(base+base)*(n/2)=out+base*n by
    rw[← Nat.two_mul,Nat.mul_comm 2,Nat.mul_assoc,Nat.add_assoc,Nat.add_comm base,←Nat.mul_succ,Nat.succ_eq_add_one,show 2*(n/2)+1=n by omega]]at this
   exact this
  ·refine aZm (by omega) ?_;refine Zc.use (jZ1 (a:=base) (b:=base) H) ?_;rw[hp];simp only[HV];refine⟨by decide,by simp,?_⟩;have:=ih (n/2) out ((base+base)%p) hn2 (by omega) ho;have e:=kZj p out (base+base) (n/2);rw[Nat.mod_eq_of_lt ho]at e;rw[e,show out+(base+base)*(n/2)=out+base*n by
    rw[← Nat.two_mul,Nat.mul_comm 2,Nat.mul_assoc,show 2*(n/2)=n by omega]]at this
   exact this
theorem gZz {a b:Nat}(hb:b<2^64)(H:Hp):Zc prog 87 #[.int .u64 (a:Int),.int .u64 (b:Int)] H (RetE (.int .u64 ((a*b%18446744069414584321:Nat):Int)) H):=by
 apply aZv.ok;unfold aZv;refine Zc.use (lZH (a:=a) H) ?_;simp only[HV];refine⟨65,?_⟩;have:=sZj H 64 b 0 (a%18446744069414584321) hb (by omega) (by omega);rw[Nat.zero_add,mZS]at this;exact this
theorem sZk (H:Hp):∀(f n out base:Nat),n<2^f→f≤64→out<18446744069414584321→base<18446744069414584321→aZw.l3 (RetE (.int .u64 ((out*base^n%18446744069414584321:Nat):Int)) H) (f+1) (base:Int) (n:Int) (out:Int) H:=fun f=>by
 generalize hp:18446744069414584321=p
 induction f with
 |zero=>
  intro n out base hn hf ho hb;obtain rfl:n=0:=by omega
  unfold aZw.l3;refine Zm (by omega) ?_;rw[Nat.pow_zero,Nat.mul_one,Nat.mod_eq_of_lt ho];exact RetE.mk _ _
 |succ f ih=>
  intro n out base hn hf ho hb;have hp0:0<p:=by omega
  have h64:2^(f+1)≤2^64:=Nat.pow_le_pow_right (by omega) hf;have hs:2^(f+1)=2*2^f:=by rw[Nat.pow_succ];omega
  have hn2:n/2<2^f:=by omega
  unfold aZw.l3;by_cases h0:n=0
  ·subst h0;refine Zm (by omega) ?_;rw[Nat.pow_zero,Nat.mul_one,Nat.mod_eq_of_lt ho];exact RetE.mk _ _
  refine Zw (by omega) ⟨by decide,by simp,?_⟩;have hm:Int.tmod (n:Int) 2=((n%2:Nat):Int):=rfl;have hd:IntKind.u64.wrap (Int.tdiv (n:Int) 2)=((n/2:Nat):Int):=by
   rw[show Int.tdiv (n:Int) 2=((n/2:Nat):Int)from rfl,bZ1 (by omega)]
  rw[hm,hd];have hq:=Nat.mod_lt (base*base) hp0;have hq2:=Nat.mod_lt (out*base) hp0;by_cases h1:n%2=1
  ·refine aZb (by omega) ?_;refine Zc.use (gZz (a:=out) (b:=base) (by omega) H) ?_;rw[hp];simp only[HV];refine Zc.use (gZz (a:=base) (b:=base) (by omega) H) ?_;rw[hp];simp only[HV];refine⟨by decide,by simp,?_⟩;have:=ih (n/2) (out*base%p) (base*base%p) hn2 (by omega) hq2 hq;rw[kZk,show out*base*(base*base)^(n/2)=out*base^n by
    rw[← Nat.pow_two,←Nat.pow_mul,Nat.mul_assoc,←Nat.pow_succ',Nat.succ_eq_add_one,show 2*(n/2)+1=n by omega]]at this
   exact this
  ·refine aZm (by omega) ?_;refine Zc.use (gZz (a:=base) (b:=base) (by omega) H) ?_;rw[hp];simp only[HV];refine⟨by decide,by simp,?_⟩;have:=ih (n/2) out (base*base%p) hn2 (by omega) ho hq;rw[jZo,show out*(base*base)^(n/2)=out*base^n by
    rw[← Nat.pow_two,←Nat.pow_mul,show 2*(n/2)=n by omega]]at this
   exact this
theorem mZi {a n:Nat}(hn:n<2^64)(H:Hp):Zc prog 88 #[.int .u64 (a:Int),.int .u64 (n:Int)] H (RetE (.int .u64 ((a^n%18446744069414584321:Nat):Int)) H):=by
 apply aZw.ok;unfold aZw;refine Zc.use (lZH (a:=a) H) ?_;simp only[HV];refine⟨65,?_⟩;have:=sZk H 64 n 1 (a%18446744069414584321) hn (by omega) (by omega) (by omega);rw[Nat.one_mul,←Nat.pow_mod]at this;exact this
end Gol
namespace W
open Go Go.Hw
theorem iZu :prog.follows .mixedOrders=true:=by kernel_rfl
def hZi (A1:Option Addr)(n1:Nat)(m1:Nat)(H:Hp)(K:Value→Hp→Prop):Prop:=
 Hz 95 #[.int .i64 (n1:Int)] H fun v1 H1=>iZe v1 fun x1 c1=>(Nw H1 (.obj (.cells #[.int .i64 0] 3)) fun b1 H2=>St H2 ((⟨b1,0,none⟩:Addr).add 0) (.int .i64 x1) fun H3=>BIf (!c1) (K (.tuple #[.slice none 0 0,.int .i64 4]) H3) (HcS 257 #[.slice A1 n1 m1,.func (.func 258) #[] #[.pointer (some ⟨b1,0,none⟩)]] H3 fun A2 n2 m2 H4=>K (.tuple #[.slice A2 n2 m2,.int .i64 0]) H4))
theorem hZi.ok (A1:Option Addr)(n1:Nat)(m1:Nat)(H:Hp)(K:Value→Hp→Prop)(h:hZi A1 n1 m1 H K):Zc prog 247 #[.slice A1 n1 m1] H K:=
 Zr Tryz.func247 rfl (nbl rfl) (Zf (Λ:=Zn.none (fun _=>none)) iZu _ _ _ _ _ (Eq.mp (by kernel_rfl) h) (Zt _ _ _ _ _))
def bZl.l3 (K:Value→Hp→Prop):Nat→FuncId→Array Value→Array Value→Option Addr→Nat→Nat→Option Addr→Nat→Nat→Int→Int→Hp→Prop
 |0,_,_,_,_,_,_,_,_,_,_,_,_=>False
 |k+1,fd2,F2,C2,A3,n3,m3,A4,n4,m4,x1,x2,H=>
  let R3:=bZl.l3 K k
  BIf (decide (x2<x1)) (ixI x2 n4 (NN A4 fun a1=>LeW H (a1.add (x2.toNat*1)) fun x3=>dZW prog fd2 ((F2++ #[.int .i64 x2])++C2) H fun v3 H2=>DR prog (bZC prog fd2) v3 fun v4=>DI .i64 v4 fun x4=>ixI x4 n3 (NN A3 fun a2=>St H2 ((a2.add (x4.toNat*1)).add 0) (.int .u64 x3) fun H3=>R3 fd2 F2 C2 A3 n3 m3 A4 n4 m4 x1 (IntKind.i64.wrap (x2+1)) H3))) (K (.slice A3 n3 m3) H)
def bZl (A1:Option Addr)(n1:Nat)(m1:Nat)(fd1:FuncId)(F1:Array Value)(C1:Array Value)(H:Hp)(K:Value→Hp→Prop):Prop:=
 MkS prog 84 (n1:Int) (n1:Int) H fun v1 H1=>DSl v1 fun A2 n2 m2=>(∃ k,bZl.l3 K k fd1 F1 C1 A2 n2 m2 A1 n1 m1 (n1:Int) 0 H1)
def bZl.l3.L (K:Value→Hp→Prop)(k:Nat):Mid:=fun E D H=>
 DG (E.get? 1) fun w1=>DFn w1 fun fd2 F2 C2=>DG (E.get? 5) fun w5=>DSl w5 fun A3 n3 m3=>DG (E.get? 11) fun w11=>DSl w11 fun A4 n4 m4=>eI E 12 .i64 fun x1=>eI E 13 .i64 fun x2=>Zo D (bZl.l3 K k fd2 F2 C2 A3 n3 m3 A4 n4 m4 x1 x2 H)
def bZl.Λ3 (_:Value→Hp→Prop)(_R3:FuncId→Array Value→Array Value→Option Addr→Nat→Nat→Option Addr→Nat→Nat→Int→Int→Hp→Prop):Zn:=Zn.none (fun _=>none)
def bZl.Λ (K:Value→Hp→Prop):Zn:=⟨fun i=>none,fun i=>match Nat.beq i 3 with|true=>some (fun E D H=>∃ k,bZl.l3.L K k E D H)|false=>none,(fun _=>none)⟩
theorem bZl.ok (A1:Option Addr)(n1:Nat)(m1:Nat)(fd1:FuncId)(F1:Array Value)(C1:Array Value)(H:Hp)(K:Value→Hp→Prop)(h:bZl A1 n1 m1 fd1 F1 C1 H K):Zc prog 257 #[.slice A1 n1 m1,.func (.func fd1) F1 C1] H K:=
 Zr Tryz.func257 rfl (nbl rfl) (Zf (Λ:=(bZl.Λ K)) iZu _ _ _ _ _ (Eq.mp (by kernel_rfl) h) (Zb Za rfl (Zb Za rfl (Zb (Zb Za rfl (Zu (ZZ rfl (fun E D H h=>by
   refine Safe.loop' (bZl.l3.L K) (fun E D H h=>?_) (fun k E D H h=>?_) E D H h
   ·obtain⟨w1,e1,g1⟩:=DG.out h;obtain⟨fd2,F2,C2,rfl,g2⟩:=DFn.out g1;obtain⟨w5,e5,g3⟩:=DG.out g2;obtain⟨A3,n3,m3,rfl,g4⟩:=DSl.out g3;obtain⟨w11,e11,g5⟩:=DG.out g4;obtain⟨A4,n4,m4,rfl,g6⟩:=DSl.out g5;obtain⟨w12,e12,g7⟩:=DG.out g6;obtain⟨x1,rfl,g8⟩:=DI.out g7;obtain⟨w13,e13,g9⟩:=DG.out g8;obtain⟨x2,rfl,g10⟩:=DI.out g9;obtain⟨rfl,h'⟩:=Zo.out g10;exact h'
   ·obtain⟨w1,e1,g1⟩:=DG.out h;obtain⟨fd2,F2,C2,rfl,g2⟩:=DFn.out g1;obtain⟨w5,e5,g3⟩:=DG.out g2;obtain⟨A3,n3,m3,rfl,g4⟩:=DSl.out g3;obtain⟨w11,e11,g5⟩:=DG.out g4;obtain⟨A4,n4,m4,rfl,g6⟩:=DSl.out g5;obtain⟨x1,e12,g8⟩:=GI g6;obtain⟨x2,e13,g10⟩:=GI g8;obtain⟨rfl,h'⟩:=Zo.out g10;exact(Zf (Λ:=(bZl.Λ3 K (bZl.l3 K k))) iZu _ _ [(1,.func (.func fd2) F2 C2),(5,.slice A3 n3 m3),(11,.slice A4 n4 m4),(12,.int .i64 x1),(13,.int .i64 x2)] [] H (Eq.mp (by kernel_rfl) h') (Zb Za rfl (Zb (Zk Zl ZS) rfl (Zb (Zu (Zb Za rfl Za)) rfl Za)))).weaken (Ze.cons e1 (Ze.cons e5 (Ze.cons e11 (Ze.cons e12 (Ze.cons e13 (Ze.nil _)))))) (Hp.le_refl _))))) rfl (Zb Za rfl Zy)))))
def fZ6 (x1:Int)(p1:Option Addr)(H:Hp)(K:Value→Hp→Prop):Prop:=
 NN p1 fun a1=>LeI H a1 fun x2=>HcI 259 #[.int .i64 x1,.int .i64 x2] H fun x3 H1=>K (.int .i64 x3) H1
theorem fZ6.ok (x1:Int)(p1:Option Addr)(H:Hp)(K:Value→Hp→Prop)(h:fZ6 x1 p1 H K):Zc prog 258 #[.int .i64 x1,.pointer p1] H K:=
 Zr Tryz.func258 rfl (nbl rfl) (Zf (Λ:=Zn.none (fun _=>none)) iZu _ _ _ _ _ (Eq.mp (by kernel_rfl) h) (Zt _ _ _ _ _))
def fZ7 (x1:Int)(x2:Int)(H:Hp)(K:Value→Hp→Prop):Prop:=
 HcW 267 #[.int .u64 (IntKind.u64.wrap x1)] H fun x3 H1=>(0≤(1:Int)∧(0≤(IntKind.u64.wrap (IntKind.i64.wrap (63-x2)))∧K (.int .i64 (IntKind.i64.wrap (aZE .u64 (aZE .u64 x3 1) (IntKind.u64.wrap (IntKind.i64.wrap (63-x2)))))) H1))
theorem fZ7.ok (x1:Int)(x2:Int)(H:Hp)(K:Value→Hp→Prop)(h:fZ7 x1 x2 H K):Zc prog 259 #[.int .i64 x1,.int .i64 x2] H K:=
 Zr Tryz.func259 rfl (nbl rfl) (Zf (Λ:=Zn.none (fun _=>none)) iZu _ _ _ _ _ (Eq.mp (by kernel_rfl) h) (Zt _ _ _ _ _))
end W
namespace Ker
open Go Go.Hw W Shp Gol Fft
theorem bZR :bZv prog 84=some (1,8,some #[.int .u64 0]):=by kernel_rfl
theorem kZY (ws:List UInt64)(i:Nat)(w:UInt64):(Zd ws).set i (.int .u64 (w.toNat:Int))=Zd (ws.set i w):=by
 unfold Zd;rw[List.map_set]
theorem jZK (n:Nat):aZK [Value.int .u64 0] n=Zd (List.replicate n 0):=by
 rw[bZD];unfold Zd;rw[List.map_replicate];rfl
theorem iZA (m:BitVec 64)(d:Nat)(hd:d≤64)(x:BitVec 64){mi di:Int}(hm:mi=(m.toNat:Int))(hdi:di=(d:Nat)):
  bOr .u64 (aZF .u64 (aZE .u64 (x.toNat:Int) di) mi) (aZY .u64 (aZF .u64 (x.toNat:Int) mi) di)=((swp m d x).toNat:Int):=by
 subst hm;rw[nZK x hdi hd,uZu,uZu,uZB _ hdi hd,wZt];rfl
def xZh (x:BitVec 64):BitVec 64:=
 let x:=swp 0x00ff00ff00ff00ff#64 8 x
 let x:=swp 0x0000ffff0000ffff#64 16 x
 (x>>>32)|||(x<<<32)
theorem oZ3 (x:BitVec 64)(H:Hp):Zc prog 271 #[.int .u64 (x.toNat:Int)] H (RetE (.int .u64 ((xZh x).toNat:Int)) H):=by
 apply cZb.ok;unfold cZb;refine⟨by decide,by decide,by decide,by decide,by decide,by decide,?_⟩;rw[iZA 0x00ff00ff00ff00ff#64 8 (by decide) x (mi:=71777214294589695) (di:=8) (by decide) rfl,iZA 0x0000ffff0000ffff#64 16 (by decide) _ (mi:=281470681808895) (di:=16) (by decide) rfl,Hw.nZK _ (i:=32) (n:=32) rfl (by decide),Hw.uZB _ (i:=32) (n:=32) rfl (by decide),wZt];exact RetE.mk _ _
theorem qZk (x:BitVec 64)(H:Hp):Zc prog 267 #[.int .u64 (x.toNat:Int)] H (RetE (.int .u64 ((nZJ x).toNat:Int)) H):=by
 apply cZ0.ok;unfold cZ0;refine⟨by decide,by decide,by decide,by decide,by decide,by decide,?_⟩;rw[iZA 0x5555555555555555#64 1 (by decide) x (mi:=6148914691236517205) (di:=1) (by decide) rfl,iZA 0x3333333333333333#64 2 (by decide) _ (mi:=3689348814741910323) (di:=2) (by decide) rfl,iZA 0x0f0f0f0f0f0f0f0f#64 4 (by decide) _ (mi:=1085102592571150095) (di:=4) (by decide) rfl];refine Zc.use (oZ3 _ H) ?_;simp only[HV];exact RetE.mk _ _
theorem sZL {k i:Nat}(hk:k≤32)(hi:i<2^k)(H:Hp):Zc prog 259 #[.int .i64 (i:Int),.int .i64 (k:Int)] H (RetE (.int .i64 ((rv k i:Nat):Int)) H):=by
 have h32:=aZW hk;have hr:=jZ3 k i;apply fZ7.ok;unfold fZ7;rw[bZ1 (by omega)];have e:((i:Nat):Int)=((BitVec.ofNat 64 i).toNat:Int):=by rw[BitVec.toNat_ofNat,Nat.mod_eq_of_lt (by omega)]
 rw[e];refine Zc.use (qZk _ H) ?_;simp only[HV];have e2:IntKind.u64.wrap (IntKind.i64.wrap (63-(k:Int)))=((63-k:Nat):Int):=by rw[ZV (by omega) (by omega),dZj (by omega) (by omega)];omega
 rw[e2,Hw.nZK _ (i:=1) (n:=1) rfl (by decide),Hw.nZK _ (n:=63-k) rfl (by omega),BitVec.toNat_ushiftRight,BitVec.toNat_ushiftRight,←Nat.shiftRight_add,show 1+(63-k)=64-k by omega,wZB hk hi,bZi (by omega)];exact⟨by decide,by omega,RetE.mk _ _⟩
def gZp (k:Nat)(l:List UInt64)(i:Nat):List UInt64:=(List.range (2^k)).map fun p=>if rv k p<i then l.getD (rv k p) 0 else 0
theorem nZe (k:Nat)(l:List UInt64)(i:Nat):(gZp k l i).length=2^k:=by simp[gZp]
theorem qZ3 (k:Nat)(l:List UInt64):List.replicate (2^k) 0=gZp k l 0:=by
 unfold gZp;apply List.ext_getElem?;intro j;rw[List.getElem?_map];by_cases h:j<2^k
 ·rw[List.getElem?_range h,List.getElem?_eq_getElem (by simpa using h)];simp
 ·rw[List.getElem?_eq_none (by simp;omega),List.getElem?_eq_none (by simp;omega)];rfl
theorem sZK (k:Nat)(l:List UInt64):gZp k l (2^k)=eZx k l:=by
 unfold gZp eZx;apply List.map_congr_left;intro p _;rw[if_pos (jZ3 k p)]
theorem qZ2 (k:Nat)(l:List UInt64){i:Nat}(hi:i<2^k):(gZp k l i).set (rv k i) (l.getD i 0)=gZp k l (i+1):=by
 apply List.ext_getElem?;intro p;rw[List.getElem?_set,nZe];unfold gZp;rw[List.getElem?_map,List.getElem?_map];by_cases hp:p<2^k
 ·rw[List.getElem?_range hp];by_cases e:rv k i=p
  ·rw[if_pos e,if_pos (by omega),←e];show some _=some (if rv k (rv k i)<i+1 then l.getD (rv k (rv k i)) 0 else 0)
   rw[uZA k i hi,if_pos (by omega)]
  ·rw[if_neg e];show some (if rv k p<i then _ else _)=some (if rv k p<i+1 then _ else _)
   have:rv k p≠i:=fun h=>e (by rw[← h,uZA k p hp])
   by_cases h:rv k p<i
   ·rw[if_pos h,if_pos (by omega)]
   ·rw[if_neg h,if_neg (by omega)]
 ·rw[List.getElem?_eq_none (by simp;omega)];have:=jZ3 k i;rw[if_neg (by omega)];rfl
theorem kZ1 {t:TypeId}(ht:prog.underlying t=some (.int .i64))(n:Int)(K:Value→Prop)(k:K (.int .i64 n)):DR prog [t] (.int .i64 n) K:=by
 show DT prog t (.int .i64 n) K
 unfold DT;rw[ht];exact k
section
variable {R : As} {A : Option Addr} {n m k : Nat} {l : List UInt64}
theorem mZT (K:Value→Hp→Prop)(hR:∀ H,R H→Cells H A (Zd l))(hn:n=2^k)(hl:l.length=n)(hk:k≤32){b1 r mr:Nat}
  (hK:∀ H,Sep [pts r (.row (Zd (eZx k l)) 84 mr),pts b1 (.obj (.cells #[.int .i64 (k:Int)] 3)),R] H→K (.slice (some ⟨r,0,none⟩) n n) H):
  ∀(t i:Nat) (H:Hp),i+t=n→Sep [pts r (.row (Zd (gZp k l i)) 84 mr),pts b1 (.obj (.cells #[.int .i64 (k:Int)] 3)),R] H→
   bZl.l3 K (t+1) 258 #[] #[.pointer (some ⟨b1,0,none⟩)] (some ⟨r,0,none⟩) n n A n m (n:Int) (i:Int) H
 |0,i,H,hi,hs=>by
  unfold bZl.l3;refine Zm (by omega) (hK H ?_);rw[← sZK,←hn,show n=i by omega];exact hs
 |t+1,i,H,hi,hs=>by
  have h32:=aZW hk;have hr:=jZ3 k i;have hc:Cells H A (Zd l):=by
   obtain⟨H1,h1,hle⟩:=hs.see 2 rfl;exact(hR H1 h1).le hle
  unfold bZl.l3;refine Zw (by omega) ?_;have hg:(Zd l)[i]? =some (.int .u64 ((l.getD i 0).toNat:Int)):=by
   rw[aZ8,List.getD_eq_getElem?_getD,List.getElem?_eq_getElem (by omega)];rfl
  refine hc.read hg rfl (by rw[ZA];omega) ?_;simp only[HV];refine aZN (by kernel_rfl) ?_;have hf:Zc prog 258 #[.int .i64 (i:Int),.pointer (some ⟨b1,0,none⟩)] H (RetE (.int .i64 ((rv k i:Nat):Int)) H):=by
   apply fZ6.ok;unfold fZ6;simp only[aZ5];refine hs.ld 1 rfl rfl ?_;simp only[HV];refine Zc.use (sZL hk (by omega) H) ?_;simp only[HV];exact RetE.mk _ _
  refine Zc.use hf ?_;have hrt:bZC prog 258=[3]:=by kernel_rfl
  rw[hrt];refine kZ1 (by kernel_rfl) _ _ ?_;simp only[HV];refine⟨by omega,by omega,?_⟩;show St H _ _ _
  rw[Int.toNat_natCast,Nat.mul_one,Addr.add_lit',Addr.add_lit',Nat.zero_add,Nat.add_zero];refine hs.str 0 rfl (by rw[ZA,nZe];omega) rfl fun H hs=>?_;rw[kZY,qZ2 k l (by omega)]at hs;rw[ZV (x:=(i:Int)+1) (by omega) (by omega),show(i:Int)+1=((i+1:Nat):Int) by omega];exact mZT K hR hn hl hk hK t (i+1) H (by omega) hs
theorem uZT {TT:As}(hT:∀ H,TT H→T64 H)(hR:∀ H,R H→Cells H A (Zd l))(hn:n=2^k)(hl:l.length=n)(hk:k≤20):
  Tr prog 247 #[.slice A n m] [R,TT] fun v M=>∃ r,v= .tuple #[.slice (some ⟨r,0,none⟩) n n,.int .i64 0]∧M=[pts r (.row (Zd (eZx k l)) 84 (n*1)),R,TT]:=fun H hs=>by
 have h20:=aZW hk;apply hZi.ok;unfold hZi;have hT0:T64 H:=by
  obtain⟨H1,h1,hle⟩:=hs.see 1 rfl;exact(hT H1 h1).le hle
 refine Zc.use (iZn (n:Int) H hT0) ?_;rw[show bZN (n:Int)= .tuple #[.int .i64 (k:Int),.bool true] by unfold bZN;rw[hn,iZs (by omega)]];simp only[HV];refine hs.nw fun b1 H hs=>?_
 simp only[Addr.add_zero];refine hs.st 2 rfl (Nat.lt_of_sub_eq_succ rfl) rfl fun H hs=>?_;have hs:Sep [R,TT,pts b1 (.obj (.cells #[.int .i64 (k:Int)] 3))] H:=hs;have hm:Tr prog 257 #[.slice A n m,.func (.func 258) #[] #[.pointer (some ⟨b1,0,none⟩)]] [pts b1 (.obj (.cells #[.int .i64 (k:Int)] 3)),R] fun v M=>
   ∃ r,v= .slice (some ⟨r,0,none⟩) n n∧M=[pts r (.row (Zd (eZx k l)) 84 (n*1)),R]:=fun H hs=>by
  apply bZl.ok;unfold bZl;refine hs.mks bZR rfl (n:=n) (m:=n) rfl rfl (Nat.le_refl _) (by omega) (by omega) fun r H hs=>?_
  simp only[HV];refine⟨n+1,?_⟩;have hs:Sep [pts b1 (.obj (.cells #[.int .i64 (k:Int)] 3)),R,pts r (.row (Zd (gZp k l 0)) 84 (n*1))] H:=by
   rw[← qZ3,←hn,←jZK];exact hs
  exact mZT _ hR hn hl (by omega) (fun H hs=>⟨_,⟨r,rfl,rfl⟩,hs.re [0,2] rfl⟩) n 0 H (by omega) (hs.re [2,0,1] rfl)
 refine hm.use hs [2,0] rfl rfl ?_;rintro _ _ H ⟨r,rfl,rfl⟩ hs;simp only[HV];exact⟨_,⟨r,rfl,rfl⟩,hs.re [0,1,2] rfl⟩
end
end Ker
namespace W
open Go Go.Hw
theorem dZT :prog.follows .mixedOrders=true:=by kernel_rfl
def gZe (x1:Int)(H:Hp)(K:Value→Hp→Prop):Prop:=
 BIf (decide (x1<0)) (K (.tuple #[.int .u64 0,.int .i64 1]) H) (BIf (decide (x1>32)) (K (.tuple #[.int .u64 0,.int .i64 1]) H) ((0≤(IntKind.u64.wrap x1)∧Hz 207 #[.int .u64 (aZY .u64 1 (IntKind.u64.wrap x1))] H fun v1 H1=>gZ6 v1 fun x2 x3=>(K (.tuple #[.int .u64 x2,.int .i64 x3]) H1))))
theorem gZe.ok (x1:Int)(H:Hp)(K:Value→Hp→Prop)(h:gZe x1 H K):Zc prog 159 #[.int .i64 x1] H K:=
 Zr Tryz.func159 rfl (nbl rfl) (Zf (Λ:=Zn.none (fun _=>none)) dZT _ _ _ _ _ (Eq.mp (by kernel_rfl) h) (Zt _ _ _ _ _))
def gZf (x1:Int)(x2:Int)(H:Hp)(K:Value→Hp→Prop):Prop:=
 Hz 232 #[.int .i64 x1,.int .i64 x2] H fun v1 H1=>gZ6 v1 fun x3 x4=>(BIf (x4 !=0) (K (.tuple #[.slice none 0 0,.int .i64 x4]) H1) (BIf (decide (x1>20)) (K (.tuple #[.slice none 0 0,.int .i64 14]) H1) ((0≤(IntKind.u64.wrap x1)∧(0≤(1:Int)∧Hz 233 #[.int .u64 x3,.int .i64 (if 1>(aZE .i64 (aZY .i64 1 (IntKind.u64.wrap x1)) 1)then 1 else(aZE .i64 (aZY .i64 1 (IntKind.u64.wrap x1)) 1))] H1 fun v4 H2=>eZa v4 fun A1 n1 m1 x5=>(K (.tuple #[.slice A1 n1 m1,.int .i64 x5]) H2))))))
theorem gZf.ok (x1:Int)(x2:Int)(H:Hp)(K:Value→Hp→Prop)(h:gZf x1 x2 H K):Zc prog 210 #[.int .i64 x1,.int .i64 x2] H K:=
 Zr Tryz.func210 rfl (nbl rfl) (Zf (Λ:=Zn.none (fun _=>none)) dZT _ _ _ _ _ (Eq.mp (by kernel_rfl) h) (Zt _ _ _ _ _))
def gZU (x1:Int)(x2:Int)(H:Hp)(K:Value→Hp→Prop):Prop:=
 BIf (decide (x1<0)) (K (.tuple #[.int .u64 0,.int .i64 1]) H) (BIf (decide (x1>32)) (K (.tuple #[.int .u64 0,.int .i64 1]) H) (BIf (x2==0) (Hz 244 #[.int .i64 x1] H fun v1 H1=>gZ6 v1 fun x3 x4=>(K (.tuple #[.int .u64 x3,.int .i64 x4]) H1)) (BIf (x2==1) (Hz 245 #[.int .i64 x1] H fun v4 H2=>gZ6 v4 fun x5 x6=>(K (.tuple #[.int .u64 x5,.int .i64 x6]) H2)) (K (.tuple #[.int .u64 0,.int .i64 18]) H))))
theorem gZU.ok (x1:Int)(x2:Int)(H:Hp)(K:Value→Hp→Prop)(h:gZU x1 x2 H K):Zc prog 232 #[.int .i64 x1,.int .i64 x2] H K:=
 Zr Tryz.func232 rfl (nbl rfl) (Zf (Λ:=Zn.none (fun _=>none)) dZT _ _ _ _ _ (Eq.mp (by kernel_rfl) h) (Zt _ _ _ _ _))
def aZl.l15 (K:Value→Hp→Prop)(R10:Option Addr→Nat→Nat→Addr→Int→Option Addr→Nat→Nat→Int→Int→Hp→Prop):Nat→Option Addr→Nat→Nat→Addr→Int→Option Addr→Nat→Nat→Int→Int→Int→Int→Option Addr→Nat→Nat→Int→Int→Hp→Prop
 |0,_,_,_,_,_,_,_,_,_,_,_,_,_,_,_,_,_,_=>False
 |k+1,A5,n7,m5,a2,x21,A6,n8,m6,x22,x23,x24,x25,A7,n9,m7,x26,x27,H=>
  let R15:=aZl.l15 K R10 k
  BIf (decide (x27<x26)) (ixI x27 n9 (NN A7 fun a3=>LeW H (a3.add (x27.toNat*1)) fun x28=>HcW 243 #[.int .u64 x28,.int .u64 x23] H fun x29 H8=>Nw H8 (.row [.int .u64 x29] 84 1) fun b2 H9=>cZ7 prog 84 (.slice A6 n8 m6) (.slice (some ⟨b2,0,none⟩) 1 1) H9 fun v18 H10=>DSl v18 fun A8 n10 m8=>HcW 243 #[.int .u64 x23,.int .u64 x22] H10 fun x30 H11=>R15 A5 n7 m5 a2 x21 A8 n10 m8 x22 x30 x24 x25 A7 n9 m7 x26 (IntKind.i64.wrap (x27+1)) H11)) (R10 A5 n7 m5 a2 x21 A6 n8 m6 x24 (IntKind.i64.wrap (x25+1)) H)
def aZl.l10 (K:Value→Hp→Prop):Nat→Option Addr→Nat→Nat→Addr→Int→Option Addr→Nat→Nat→Int→Int→Hp→Prop
 |0,_,_,_,_,_,_,_,_,_,_,_=>False
 |k+1,A3,n3,m3,a1,x12,A4,n4,m4,x13,x14,H=>
  let R10:=aZl.l10 K k
  BIf (decide (x14<x13)) (LeI H (a1.add 2) fun x15=>HcW 231 #[.int .u64 x12,.int .u64 (IntKind.u64.wrap (IntKind.i64.wrap (x15+x14)))] H fun x16 H6=>LeI H6 (a1.add 3) fun x17=>HcW 231 #[.int .u64 x16,.int .u64 (IntKind.u64.wrap x17)] H6 fun x18 H7=>LeI H7 ((a1.add 0).add 1) fun x19=>LeI H7 ((a1.add 0).add 1) fun x20=>slB n3 m3 (some (IntKind.i64.wrap (x14*x19))) (some (IntKind.i64.wrap ((IntKind.i64.wrap (x14+1))*x20))) fun n5 n6=>(∃ k,aZl.l15 K R10 k A3 n3 m3 a1 x12 A4 n4 m4 x16 x18 x13 x14 (slA A3 m3 n5 1) (n6-n5) (m3-n5) ((n6-n5:Nat):Int) 0 H7)) (K (.tuple #[.slice A4 n4 m4,.int .i64 0]) H)
def aZl (A1:Option Addr)(n1:Nat)(m1:Nat)(x1:Int)(x2:Int)(x3:Int)(x4:Int)(x5:Int)(x6:Int)(H:Hp)(K:Value→Hp→Prop):Prop:=
 Nw H (.obj (.cells #[.int .i64 x1,.int .i64 x2,.int .i64 x3,.int .i64 x4] 327)) fun b1 H1=>Hz 232 #[.int .i64 x5,.int .i64 x6] H1 fun v1 H2=>gZ6 v1 fun x7 x8=>(BIf (x8 !=0) (K (.tuple #[.slice none 0 0,.int .i64 x8]) H2) (LdA H2 ((⟨b1,0,none⟩:Addr).add 0) 2 fun l4=>HcB 168 #[.agg l4.toArray] H2 fun c1 H3=>BIf (!c1) (K (.tuple #[.slice none 0 0,.int .i64 19]) H3) (LeI H3 (((⟨b1,0,none⟩:Addr).add 0).add 0) fun x9=>LeI H3 (((⟨b1,0,none⟩:Addr).add 0).add 1) fun x10=>BIf ((n1:Int) !=(IntKind.i64.wrap (x9*x10))) (K (.tuple #[.slice none 0 0,.int .i64 19]) H3) (LdA H3 ⟨b1,0,none⟩ 4 fun l5=>HcB 249 #[.agg l5.toArray] H3 fun c2 H4=>BIf (!c2) (K (.tuple #[.slice none 0 0,.int .i64 2]) H4) (MkS prog 84 0 (n1:Int) H4 fun v8 H5=>DSl v8 fun A2 n2 m2=>LeI H5 (((⟨b1,0,none⟩:Addr).add 0).add 0) fun x11=>(∃ k,aZl.l10 K k A1 n1 m1 ⟨b1,0,none⟩ x7 A2 n2 m2 x11 0 H5))))))
def aZl.l10.L (K:Value→Hp→Prop)(k:Nat):Mid:=fun E D H=>
 DG (E.get? 0) fun w0=>DSl w0 fun A3 n3 m3=>eN E 5 fun a1=>eI E 10 .u64 fun x12=>DG (E.get? 12) fun w12=>DSl w12 fun A4 n4 m4=>eI E 54 .i64 fun x13=>eI E 55 .i64 fun x14=>Zo D (aZl.l10 K k A3 n3 m3 a1 x12 A4 n4 m4 x13 x14 H)
def aZl.l15.L (K:Value→Hp→Prop)(R10:Option Addr→Nat→Nat→Addr→Int→Option Addr→Nat→Nat→Int→Int→Hp→Prop)(k:Nat):Mid:=fun E D H=>
 DG (E.get? 0) fun w0=>DSl w0 fun A5 n7 m5=>eN E 5 fun a2=>eI E 10 .u64 fun x21=>DG (E.get? 12) fun w12=>DSl w12 fun A6 n8 m6=>eI E 14 .u64 fun x22=>eI E 15 .u64 fun x23=>eI E 54 .i64 fun x24=>eI E 55 .i64 fun x25=>DG (E.get? 82) fun w82=>DSl w82 fun A7 n9 m7=>eI E 83 .i64 fun x26=>eI E 84 .i64 fun x27=>Zo D (aZl.l15 K R10 k A5 n7 m5 a2 x21 A6 n8 m6 x22 x23 x24 x25 A7 n9 m7 x26 x27 H)
def aZl.Λ15 (_:Value→Hp→Prop)(_R10:Option Addr→Nat→Nat→Addr→Int→Option Addr→Nat→Nat→Int→Int→Hp→Prop)(_R15:Option Addr→Nat→Nat→Addr→Int→Option Addr→Nat→Nat→Int→Int→Int→Int→Option Addr→Nat→Nat→Int→Int→Hp→Prop):Zn:=Zn.none (fun _=>none)
def aZl.Λ10 (K:Value→Hp→Prop)(R10:Option Addr→Nat→Nat→Addr→Int→Option Addr→Nat→Nat→Int→Int→Hp→Prop):Zn:=⟨fun i=>none,fun i=>match Nat.beq i 15 with|true=>some (fun E D H=>∃ k,aZl.l15.L K R10 k E D H)|false=>none,(fun _=>none)⟩
def aZl.Λ (K:Value→Hp→Prop):Zn:=⟨fun i=>none,fun i=>match Nat.beq i 10 with|true=>some (fun E D H=>∃ k,aZl.l10.L K k E D H)|false=>none,(fun _=>none)⟩
theorem aZl.ok (A1:Option Addr)(n1:Nat)(m1:Nat)(x1:Int)(x2:Int)(x3:Int)(x4:Int)(x5:Int)(x6:Int)(H:Hp)(K:Value→Hp→Prop)(h:aZl A1 n1 m1 x1 x2 x3 x4 x5 x6 H K):Zc prog 235 #[.slice A1 n1 m1,.agg #[.int .i64 x1,.int .i64 x2,.int .i64 x3,.int .i64 x4],.int .i64 x5,.int .i64 x6] H K:=
 Zr Tryz.func235 rfl (nbl rfl) (Zf (Λ:=(aZl.Λ K)) dZT _ _ _ _ _ (Eq.mp (by kernel_rfl) h) (Zb Za rfl (Zb Za rfl (Zb (Zu (Zb Za rfl (Zk (Zb Za rfl Zy) (Zb Za rfl (Zk (Zb Za rfl Zy) (Zb Za rfl (Zk (Zb Za rfl Zy) Zl))))))) rfl (Zb Za rfl (Zb (Zb Za rfl (Zu (ZZ rfl (fun E D H h=>by
   refine Safe.loop' (aZl.l10.L K) (fun E D H h=>?_) (fun k E D H h=>?_) E D H h
   ·obtain⟨w0,e0,g1⟩:=DG.out h;obtain⟨A3,n3,m3,rfl,g2⟩:=DSl.out g1;obtain⟨w5,e5,g3⟩:=DG.out g2;obtain⟨pw5,rfl,g4⟩:=DP.out g3;obtain⟨a1,rfl,g5⟩:=NN.out g4;obtain⟨w10,e10,g6⟩:=DG.out g5;obtain⟨x12,rfl,g7⟩:=DI.out g6;obtain⟨w12,e12,g8⟩:=DG.out g7;obtain⟨A4,n4,m4,rfl,g9⟩:=DSl.out g8;obtain⟨w54,e54,g10⟩:=DG.out g9;obtain⟨x13,rfl,g11⟩:=DI.out g10;obtain⟨w55,e55,g12⟩:=DG.out g11;obtain⟨x14,rfl,g13⟩:=DI.out g12;obtain⟨rfl,h'⟩:=Zo.out g13;exact h'
   ·obtain⟨w0,e0,g1⟩:=DG.out h;obtain⟨A3,n3,m3,rfl,g2⟩:=DSl.out g1;obtain⟨a1,e5,g5⟩:=GN g2;obtain⟨x12,e10,g7⟩:=GI g5;obtain⟨w12,e12,g8⟩:=DG.out g7;obtain⟨A4,n4,m4,rfl,g9⟩:=DSl.out g8;obtain⟨x13,e54,g11⟩:=GI g9;obtain⟨x14,e55,g13⟩:=GI g11;obtain⟨rfl,h'⟩:=Zo.out g13;exact(Zf (Λ:=(aZl.Λ10 K (aZl.l10 K k))) dZT _ _ [(0,.slice A3 n3 m3),(5,.pointer (some a1)),(10,.int .u64 x12),(12,.slice A4 n4 m4),(54,.int .i64 x13),(55,.int .i64 x14)] [] H (Eq.mp (by kernel_rfl) h') (Zb Za rfl (Zb (Zk Zl ZS) rfl (Zb (Zu (Zb Za rfl (Zb Za rfl (Zb Za rfl (Zb Za rfl (Zu (ZZ rfl (fun E D H h=>by
      refine Safe.loop' (aZl.l15.L K (aZl.l10 K k)) (fun E D H h=>?_) (fun k E D H h=>?_) E D H h
      ·obtain⟨w0,e0,g1⟩:=DG.out h;obtain⟨A5,n7,m5,rfl,g2⟩:=DSl.out g1;obtain⟨w5,e5,g3⟩:=DG.out g2;obtain⟨pw5,rfl,g4⟩:=DP.out g3;obtain⟨a2,rfl,g5⟩:=NN.out g4;obtain⟨w10,e10,g6⟩:=DG.out g5;obtain⟨x21,rfl,g7⟩:=DI.out g6;obtain⟨w12,e12,g8⟩:=DG.out g7;obtain⟨A6,n8,m6,rfl,g9⟩:=DSl.out g8;obtain⟨w14,e14,g10⟩:=DG.out g9;obtain⟨x22,rfl,g11⟩:=DI.out g10;obtain⟨w15,e15,g12⟩:=DG.out g11;obtain⟨x23,rfl,g13⟩:=DI.out g12;obtain⟨w54,e54,g14⟩:=DG.out g13;obtain⟨x24,rfl,g15⟩:=DI.out g14;obtain⟨w55,e55,g16⟩:=DG.out g15;obtain⟨x25,rfl,g17⟩:=DI.out g16;obtain⟨w82,e82,g18⟩:=DG.out g17;obtain⟨A7,n9,m7,rfl,g19⟩:=DSl.out g18;obtain⟨w83,e83,g20⟩:=DG.out g19;obtain⟨x26,rfl,g21⟩:=DI.out g20;obtain⟨w84,e84,g22⟩:=DG.out g21;obtain⟨x27,rfl,g23⟩:=DI.out g22;obtain⟨rfl,h'⟩:=Zo.out g23;exact h'
      ·obtain⟨w0,e0,g1⟩:=DG.out h;obtain⟨A5,n7,m5,rfl,g2⟩:=DSl.out g1;obtain⟨a2,e5,g5⟩:=GN g2;obtain⟨x21,e10,g7⟩:=GI g5;obtain⟨w12,e12,g8⟩:=DG.out g7;obtain⟨A6,n8,m6,rfl,g9⟩:=DSl.out g8;obtain⟨x22,e14,g11⟩:=GI g9;obtain⟨x23,e15,g13⟩:=GI g11;obtain⟨x24,e54,g15⟩:=GI g13;obtain⟨x25,e55,g17⟩:=GI g15;obtain⟨w82,e82,g18⟩:=DG.out g17;obtain⟨A7,n9,m7,rfl,g19⟩:=DSl.out g18;obtain⟨x26,e83,g21⟩:=GI g19;obtain⟨x27,e84,g23⟩:=GI g21;obtain⟨rfl,h'⟩:=Zo.out g23;exact(Zf (Λ:=(aZl.Λ15 K (aZl.l10 K k) (aZl.l15 K (aZl.l10 K k) k))) dZT _ _ [(0,.slice A5 n7 m5),(5,.pointer (some a2)),(10,.int .u64 x21),(12,.slice A6 n8 m6),(14,.int .u64 x22),(15,.int .u64 x23),(54,.int .i64 x24),(55,.int .i64 x25),(82,.slice A7 n9 m7),(83,.int .i64 x26),(84,.int .i64 x27)] [] H (Eq.mp (by kernel_rfl) h') (Zb Za rfl (Zb (Zk Zl ZS) rfl (Zb (Zu (Zb Za rfl (Zb Za rfl Za))) rfl Za)))).weaken (Ze.cons e0 (Ze.cons e5 (Ze.cons e10 (Ze.cons e12 (Ze.cons e14 (Ze.cons e15 (Ze.cons e54 (Ze.cons e55 (Ze.cons e82 (Ze.cons e83 (Ze.cons e84 (Ze.nil _)))))))))))) (Hp.le_refl _))))))))) rfl Za)))).weaken (Ze.cons e0 (Ze.cons e5 (Ze.cons e10 (Ze.cons e12 (Ze.cons e54 (Ze.cons e55 (Ze.nil _))))))) (Hp.le_refl _))))) rfl (Zb Za rfl Zy)))))))
def aZ1.l3 (K:Value→Hp→Prop):Nat→Int→Option Addr→Nat→Nat→Option Addr→Nat→Nat→Int→Int→Hp→Prop
 |0,_,_,_,_,_,_,_,_,_,_=>False
 |k+1,x2,A3,n3,m3,A4,n4,m4,x3,x4,H=>
  let R3:=aZ1.l3 K k
  BIf (decide (x4<x3)) (ixI x4 n4 (NN A4 fun a1=>LeW H (a1.add (x4.toNat*1)) fun x5=>HcW 243 #[.int .u64 x5,.int .u64 x2] H fun x6 H2=>ixI x4 n3 (NN A3 fun a2=>St H2 ((a2.add (x4.toNat*1)).add 0) (.int .u64 x6) fun H3=>R3 x2 A3 n3 m3 A4 n4 m4 x3 (IntKind.i64.wrap (x4+1)) H3))) (K (.slice A3 n3 m3) H)
def aZ1 (A1:Option Addr)(n1:Nat)(m1:Nat)(x1:Int)(H:Hp)(K:Value→Hp→Prop):Prop:=
 MkS prog 84 (n1:Int) (n1:Int) H fun v1 H1=>DSl v1 fun A2 n2 m2=>(∃ k,aZ1.l3 K k x1 A2 n2 m2 A1 n1 m1 (n1:Int) 0 H1)
def aZ1.l3.L (K:Value→Hp→Prop)(k:Nat):Mid:=fun E D H=>
 eI E 1 .u64 fun x2=>DG (E.get? 5) fun w5=>DSl w5 fun A3 n3 m3=>DG (E.get? 11) fun w11=>DSl w11 fun A4 n4 m4=>eI E 12 .i64 fun x3=>eI E 13 .i64 fun x4=>Zo D (aZ1.l3 K k x2 A3 n3 m3 A4 n4 m4 x3 x4 H)
def aZ1.Λ3 (_:Value→Hp→Prop)(_R3:Int→Option Addr→Nat→Nat→Option Addr→Nat→Nat→Int→Int→Hp→Prop):Zn:=Zn.none (fun _=>none)
def aZ1.Λ (K:Value→Hp→Prop):Zn:=⟨fun i=>none,fun i=>match Nat.beq i 3 with|true=>some (fun E D H=>∃ k,aZ1.l3.L K k E D H)|false=>none,(fun _=>none)⟩
theorem aZ1.ok (A1:Option Addr)(n1:Nat)(m1:Nat)(x1:Int)(H:Hp)(K:Value→Hp→Prop)(h:aZ1 A1 n1 m1 x1 H K):Zc prog 236 #[.slice A1 n1 m1,.int .u64 x1] H K:=
 Zr Tryz.func236 rfl (nbl rfl) (Zf (Λ:=(aZ1.Λ K)) dZT _ _ _ _ _ (Eq.mp (by kernel_rfl) h) (Zb Za rfl (Zb Za rfl (Zb (Zb Za rfl (Zu (ZZ rfl (fun E D H h=>by
   refine Safe.loop' (aZ1.l3.L K) (fun E D H h=>?_) (fun k E D H h=>?_) E D H h
   ·obtain⟨w1,e1,g1⟩:=DG.out h;obtain⟨x2,rfl,g2⟩:=DI.out g1;obtain⟨w5,e5,g3⟩:=DG.out g2;obtain⟨A3,n3,m3,rfl,g4⟩:=DSl.out g3;obtain⟨w11,e11,g5⟩:=DG.out g4;obtain⟨A4,n4,m4,rfl,g6⟩:=DSl.out g5;obtain⟨w12,e12,g7⟩:=DG.out g6;obtain⟨x3,rfl,g8⟩:=DI.out g7;obtain⟨w13,e13,g9⟩:=DG.out g8;obtain⟨x4,rfl,g10⟩:=DI.out g9;obtain⟨rfl,h'⟩:=Zo.out g10;exact h'
   ·obtain⟨x2,e1,g2⟩:=GI h;obtain⟨w5,e5,g3⟩:=DG.out g2;obtain⟨A3,n3,m3,rfl,g4⟩:=DSl.out g3;obtain⟨w11,e11,g5⟩:=DG.out g4;obtain⟨A4,n4,m4,rfl,g6⟩:=DSl.out g5;obtain⟨x3,e12,g8⟩:=GI g6;obtain⟨x4,e13,g10⟩:=GI g8;obtain⟨rfl,h'⟩:=Zo.out g10;exact(Zf (Λ:=(aZ1.Λ3 K (aZ1.l3 K k))) dZT _ _ [(1,.int .u64 x2),(5,.slice A3 n3 m3),(11,.slice A4 n4 m4),(12,.int .i64 x3),(13,.int .i64 x4)] [] H (Eq.mp (by kernel_rfl) h') (Zb Za rfl (Zb (Zk Zl ZS) rfl (Zb (Zu (Zb Za rfl Za)) rfl Za)))).weaken (Ze.cons e1 (Ze.cons e5 (Ze.cons e11 (Ze.cons e12 (Ze.cons e13 (Ze.nil _)))))) (Hp.le_refl _))))) rfl (Zb Za rfl Zy)))))
def eZ6 (x1:Int)(x2:Int)(x3:Int)(x4:Int)(H:Hp)(K:Value→Hp→Prop):Prop:=
 Nw H (.obj (.cells #[.int .i64 x1,.int .i64 x2,.int .i64 x3,.int .i64 x4] 327)) fun b1 H1=>LeI H1 ((⟨b1,0,none⟩:Addr).add 2) fun x5=>HcB 261 #[.int .i64 x5] H1 fun c1 H2=>BIf c1 (LeI H2 ((⟨b1,0,none⟩:Addr).add 3) fun x6=>HcB 261 #[.int .i64 x6] H2 fun c2 H3=>BIf c2 (LeI H3 (((⟨b1,0,none⟩:Addr).add 0).add 0) fun x7=>LeI H3 ((⟨b1,0,none⟩:Addr).add 2) fun x8=>BIf (decide ((IntKind.i64.wrap (x7-1))≤(IntKind.i64.wrap (4294967295-x8)))) (LeI H3 (((⟨b1,0,none⟩:Addr).add 0).add 1) fun x9=>LeI H3 ((⟨b1,0,none⟩:Addr).add 3) fun x10=>K (.bool (decide ((IntKind.i64.wrap (x9-1))≤(IntKind.i64.wrap (4294967295-x10))))) H3) (K (.bool false) H3)) (K (.bool false) H3)) (K (.bool false) H2)
theorem eZ6.ok (x1:Int)(x2:Int)(x3:Int)(x4:Int)(H:Hp)(K:Value→Hp→Prop)(h:eZ6 x1 x2 x3 x4 H K):Zc prog 249 #[.agg #[.int .i64 x1,.int .i64 x2,.int .i64 x3,.int .i64 x4]] H K:=
 Zr Tryz.func249 rfl (nbl rfl) (Zf (Λ:=Zn.none (fun _=>none)) dZT _ _ _ _ _ (Eq.mp (by kernel_rfl) h) (Zt _ _ _ _ _))
def fZD (x1:Int)(H:Hp)(K:Value→Hp→Prop):Prop:=
 BIf (decide (x1≥0)) (K (.bool (decide (x1≤(4294967295:Int)))) H) (K (.bool false) H)
theorem fZD.ok (x1:Int)(H:Hp)(K:Value→Hp→Prop)(h:fZD x1 H K):Zc prog 261 #[.int .i64 x1] H K:=
 Zr Tryz.func261 rfl (nbl rfl) (Zf (Λ:=Zn.none (fun _=>none)) dZT _ _ _ _ _ (Eq.mp (by kernel_rfl) h) (Zt _ _ _ _ _))
end W
namespace Ker
open Go Go.Hw W Shp Gol Fft
theorem fZQ (a n:Nat):a^n%18446744069414584321=(pw (zp a) n).val:=congrArg Fin.val (oZZ a n)
theorem fZN (x y:Zp):x.val*y.val%18446744069414584321=(x*y).val:=(Fin.val_mul x y).symm
theorem cZU (x:Zp):x.val<2^64:=by have:=x.isLt;omega
theorem oZs (x:UInt64)(y:Zp):x.toNat*y.val%18446744069414584321=(zw x*y).val:=by
 rw[← fZN];show _=x.toNat%18446744069414584321*y.val%18446744069414584321
 rw[mZS]
theorem pZQ {k:Nat}(hk:k≤32)(H:Hp):Zc prog 256 #[.int .i64 (k:Int)] H (RetE (.int .u64 ((rt k).val:Int)) H):=by
 apply gZT.ok;unfold gZT;rw[bZ1 (by omega)];refine⟨by omega,?_⟩;rw[show(18446744069414584320:Int)=((18446744069414584320:Nat):Int)from rfl,hZP (k:=.u64) rfl (by show k≤64;omega)];have hlt:18446744069414584320/2^k<2^64:=Nat.lt_of_le_of_lt (Nat.div_le_self _ _) (by decide);refine Zc.use (kZ7 (a:=7) (by decide) hlt H) ?_;rw[fZQ];simp only[HV];exact RetE.mk _ _
theorem eZ8 {k:Nat}(hk:k≤32)(H:Hp):Zc prog 255 #[.int .i64 (k:Int)] H (RetE (.bool true) H):=by
 apply gZS.ok;unfold gZS;refine Zw (by omega) ?_;rw[decide_eq_true (by omega)];exact RetE.mk _ _
theorem rZG {k:Nat}(hk:k≤32):pw (rt k) gZ7=pw (rt k) (2^k-1):=by
 have e:=iZw hk;have hp:=pow_pos k;generalize hq:18446744069414584320/2^k=q at e;have hq1:1≤q:=by
  rcases Nat.eq_zero_or_pos q with h|h
  ·rw[h,Nat.zero_mul]at e;omega
  ·exact h
 have e2:gZ7=2^k*(q-1)+(2^k-1):=by
  unfold gZ7;rw[Nat.mul_sub_one,Nat.mul_comm];have:1*2^k≤q*2^k:=Nat.mul_le_mul_right _ hq1;omega
 rw[e2,eZV,bZM,jZx hk,gZn];grind
theorem wZ3 {k:Nat}(hk:k≤32):(rt k).val%18446744069414584321≠0:=fun h=>by
 have h1:rt k=0:=Fin.ext (by rw[Nat.mod_eq_of_lt (rt k).isLt]at h;exact h);have h2:=wZC hk;rw[h1]at h2;have h3:(0:Zp)*pw 0 (2^k-1)=0:=by grind
 rw[h3]at h2;exact absurd h2 (by decide)
theorem pZm {k:Nat}(hk:k≤32)(d:Bool)(H:Hp):Zc prog 232 #[.int .i64 (k:Int),.int .i64 (if d=true then 1 else 0)] H (RetE (.tuple #[.int .u64 ((rtd d k).val:Int),.int .i64 0]) H):=by
 apply gZU.ok;unfold gZU;refine Zm (by omega) (Zm (by omega) ?_);cases d with
 |false=>
  refine aZb rfl ?_;have h1:Zc prog 244 #[.int .i64 (k:Int)] H (RetE (.tuple #[.int .u64 ((rt k).val:Int),.int .i64 0]) H):=by
   apply gZR.ok;unfold gZR;refine Zc.use (eZ8 hk H) ?_;simp only[HV];refine Zc.use (pZQ hk H) ?_;simp only[HV];exact RetE.mk _ _
  refine Zc.use h1 ?_;simp only[HV];exact RetE.mk _ _
 |true=>
  refine aZm (by decide) (aZb rfl ?_);have h1:Zc prog 245 #[.int .i64 (k:Int)] H (RetE (.tuple #[.int .u64 ((rtd true k).val:Int),.int .i64 0]) H):=by
   apply gZP.ok;unfold gZP;refine Zc.use (eZ8 hk H) ?_;simp only[HV];refine Zc.use (pZQ hk H) ?_;simp only[HV];refine Zc.use (rZj (cZU _) (wZ3 hk) H) ?_;have e:kZJ (rt k).val=(rtd true k).val:=by
    unfold kZJ;rw[fZQ,fZT,rZG hk];rfl
   rw[e];simp only[HV];exact RetE.mk _ _
  refine Zc.use h1 ?_;simp only[HV];exact RetE.mk _ _
def dZy (z:Zp)(n:Nat):List UInt64:=(List.range n).map fun i=>uw (pw z i)
theorem iZW (z:Zp)(n:Nat):(dZy z n).length=n:=by simp[dZy]
theorem tZK (z:Zp){n i:Nat}(h:i<n):(dZy z n)[i]? =some (uw (pw z i)):=by
 unfold dZy;rw[List.getElem?_map,List.getElem?_range h];rfl
theorem kZb (K:Value→Hp→Prop)(z:Zp){n r mr:Nat}(hn:n≤1048576){L:List As}
  (hK:∀ H,Sep (pts r (.row (Zd (dZy z n)) 84 mr)::L) H→K (.tuple #[.slice (some ⟨r,0,none⟩) n n,.int .i64 0]) H):
  ∀(t i:Nat) (ys:List UInt64) (H:Hp),i+t=n→ys.length=t→Sep (pts r (.row (Zd (dZy z i++ys)) 84 mr)::L) H→
   aZU.l6 K (t+1) (z.val:Int) (some ⟨r,0,none⟩) n n ((pw z i).val:Int) (n:Int) (i:Int) H
 |0,i,ys,H,hi,hy,hs=>by
  unfold aZU.l6;refine Zm (by omega) (hK H ?_);obtain rfl:ys=[]:=List.length_eq_zero_iff.1 hy;rw[List.append_nil,show i=n by omega]at hs;exact hs
 |t+1,i,ys,H,hi,hy,hs=>by
  unfold aZU.l6;refine Zw (by omega) ⟨by omega,by omega,?_⟩;show St H _ _ _
  rw[Int.toNat_natCast,Nat.mul_one,Addr.add_lit',Addr.add_lit',Nat.zero_add,Nat.add_zero];refine hs.str 0 rfl (by rw[ZA,List.length_append,iZW];omega) rfl fun H hs=>?_;have e:(Zd (dZy z i++ys)).set i (.int .u64 ((pw z i).val:Int))=Zd (dZy z (i+1)++ys.drop 1):=by
   rw[← hZV,kZY];congr 1;rw[List.set_append_right _ _ (by rw[iZW];exact Nat.le_refl _),iZW,Nat.sub_self];unfold dZy;rw[List.range_succ,List.map_append,List.append_assoc];congr 1;cases ys with
   |nil=>simp at hy
   |cons y ys=>rfl
  rw[e]at hs;refine Zc.use (gZ1 (cZU _) (cZU _) H) ?_;rw[fZN];simp only[HV];rw[ZV (x:=(i:Int)+1) (by omega) (by omega),show(i:Int)+1=((i+1:Nat):Int) by omega];exact kZb K z hn hK t (i+1) (ys.drop 1) H (by omega) (by rw[List.length_drop];omega) hs
theorem rZq (z:Zp)(n:Nat)(hn:n≤1048576):Tr prog 233 #[.int .u64 (z.val:Int),.int .i64 (n:Int)] [] fun v M=>
  ∃ r,v= .tuple #[.slice (some ⟨r,0,none⟩) n n,.int .i64 0]∧M=[pts r (.row (Zd (dZy z n)) 84 (n*1))]:=fun H hs=>by
 apply aZU.ok;unfold aZU;refine Zm (by omega) (Zm (by omega) ?_);refine hs.mks bZR rfl (n:=n) (m:=n) rfl rfl (Nat.le_refl _) (by omega) (by omega) fun r H hs=>?_
 simp only[HV];refine⟨n+1,?_⟩;refine kZb (L:=[]) _ z hn (fun H hs=>⟨_,⟨r,rfl,rfl⟩,hs⟩) n 0 (List.replicate n 0) H (by omega) (by simp) ?_;rw[jZK]at hs;exact hs
theorem nZ0 (k:Nat)(hk:k≤20)(d:Bool):Tr prog 210 #[.int .i64 (k:Int),.int .i64 (if d=true then 1 else 0)] [] fun v M=>
  ∃ r,v= .tuple #[.slice (some ⟨r,0,none⟩) (2^(k-1)) (2^(k-1)),.int .i64 0]∧M=[pts r (.row (Zd (dZy (rtd d k) (2^(k-1)))) 84 (2^(k-1)*1))]:=fun H hs=>by
 have h20:=aZW hk;have h19:=aZW (show k-1≤19 by omega);apply gZf.ok;unfold gZf;refine Zc.use (pZm (by omega) d H) ?_;simp only[HV];refine ZB rfl (Zm (by omega) ?_);rw[bZ1 (by omega)];refine⟨by omega,by decide,?_⟩;have e:(if(1:Int)>aZE .i64 (aZY .i64 1 (k:Int)) 1 then(1:Int)else aZE .i64 (aZY .i64 1 (k:Int)) 1)=((2^(k-1):Nat):Int):=by
  have:∀ k:Nat,k<21→(if(1:Int)>aZE .i64 (aZY .i64 1 (k:Int)) 1 then(1:Int)else aZE .i64 (aZY .i64 1 (k:Int)) 1)=((2^(k-1):Nat):Int):=by decide +kernel
  exact this k (by omega)
 rw[e];refine(rZq (rtd d k) (2^(k-1)) (by omega)).use hs [] rfl rfl ?_;rintro _ _ H ⟨r,rfl,rfl⟩ hs;simp only[HV];exact⟨_,⟨r,rfl,rfl⟩,hs⟩
def half :Zp:=9223372034707292161
theorem rZR :half*2=1:=by decide
theorem vZI :pw 2 (gZ7+1)=1:=by
 unfold gZ7;rw[← oZD 64 2 (18446744069414584319+1) (by decide)];decide +kernel
theorem tZU (k:Nat):pw (pw 2 k) gZ7=pw half k:=by
 have h1:pw (pw 2 k) gZ7*pw 2 k=1:=by
  have:pw (pw 2 k) (gZ7+1)=pw (pw 2 k) gZ7*pw 2 k:=rfl;rw[← this,←bZM,Nat.mul_comm,bZM,vZI,gZn]
 have h2:pw half k*pw 2 k=1:=by rw[← lZy,rZR,gZn]
 grind
theorem sZU (k:Nat):zp (2^k)=pw 2 k:=oZZ 2 k
theorem wZG (k:Nat):2^k%18446744069414584321≠0:=fun h=>by
 have h1:zp (2^k)=0:=Fin.ext h;have h2:pw half k*pw 2 k=1:=by rw[← lZy,rZR,gZn]
 rw[← sZU,h1]at h2;have h3:pw half k*0=0:=by grind
 rw[h3]at h2;exact absurd h2 (by decide)
theorem nZY {k:Nat}(hk:k≤32)(H:Hp):Zc prog 159 #[.int .i64 (k:Int)] H (RetE (.tuple #[.int .u64 ((pw half k).val:Int),.int .i64 0]) H):=by
 have h32:=aZW hk;apply gZe.ok;unfold gZe;refine Zm (by omega) (Zm (by omega) ?_);rw[bZ1 (by omega)];refine⟨by omega,?_⟩;rw[show(1:Int)=((1:Nat):Int)from rfl,qZV (x:=1) rfl (by omega),Nat.one_mul,Nat.mod_eq_of_lt (by omega)];refine Zc.use (rZj (by omega) (wZG k) H) ?_;have e:kZJ (2^k)=(pw half k).val:=by
  unfold kZJ;rw[fZQ,sZU,tZU]
 rw[e];simp only[HV];exact RetE.mk _ _
def cZs (z:Zp)(l:List UInt64):List UInt64:=l.map fun x=>uw (zw x*z)
theorem gZA (z:Zp)(l:List UInt64):(cZs z l).length=l.length:=by simp[cZs]
theorem tZC (x w:UInt64):x.toNat*w.toNat%18446744069414584321=(zw x*zw w).val:=by
 rw[← fZN];show _=x.toNat%18446744069414584321*(w.toNat%18446744069414584321)%18446744069414584321
 rw[← Nat.mul_mod]
theorem kZ9 (K:Value→Hp→Prop)(w:UInt64){R:As}{A:Option Addr}{n m r mr:Nat}{l:List UInt64}(hR:∀ H,R H→Cells H A (Zd l))(hl:l.length=n)(hn:n≤4294967296)
  (hK:∀ H,Sep [pts r (.row (Zd (cZs (zw w) l)) 84 mr),R] H→K (.slice (some ⟨r,0,none⟩) n n) H):
  ∀(t i:Nat) (ys:List UInt64) (H:Hp),i+t=n→ys.length=t→Sep [pts r (.row (Zd (cZs (zw w) (l.take i)++ys)) 84 mr),R] H→
   aZ1.l3 K (t+1) (w.toNat:Int) (some ⟨r,0,none⟩) n n A n m (n:Int) (i:Int) H
 |0,i,ys,H,hi,hy,hs=>by
  unfold aZ1.l3;refine Zm (by omega) (hK H ?_);obtain rfl:ys=[]:=List.length_eq_zero_iff.1 hy;rw[List.append_nil,List.take_of_length_le (by omega)]at hs;exact hs
 |t+1,i,ys,H,hi,hy,hs=>by
  have hc:Cells H A (Zd l):=by
   obtain⟨H1,h1,hle⟩:=hs.see 1 rfl;exact(hR H1 h1).le hle
  unfold aZ1.l3;refine Zw (by omega) ?_;have hil:i<l.length:=by omega
  have hg:(Zd l)[i]? =some (.int .u64 ((l[i]).toNat:Int)):=by
   rw[aZ8,List.getElem?_eq_getElem hil];rfl
  refine hc.read hg rfl (by rw[ZA];omega) ?_;simp only[HV];refine Zc.use (gZ1 (l[i]).toNat_lt w.toNat_lt H) ?_;rw[tZC];simp only[HV];refine⟨by omega,by omega,?_⟩;show St H _ _ _
  rw[Int.toNat_natCast,Nat.mul_one,Addr.add_lit',Addr.add_lit',Nat.zero_add,Nat.add_zero];have hlt:(cZs (zw w) (l.take i)).length=i:=by rw[gZA,List.length_take];omega
  refine hs.str 0 rfl (by rw[ZA,List.length_append,hlt];omega) rfl fun H hs=>?_;have e:(Zd (cZs (zw w) (l.take i)++ys)).set i (.int .u64 ((zw l[i]*zw w).val:Int))=Zd (cZs (zw w) (l.take (i+1))++ys.drop 1):=by
   rw[← hZV,kZY];congr 1;rw[List.set_append_right _ _ (by omega),hlt,Nat.sub_self];unfold cZs;rw[List.take_add_one,List.getElem?_eq_getElem hil];simp only[Option.toList,List.map_append,List.append_assoc];congr 1;cases ys with
   |nil=>simp at hy
   |cons y ys=>rfl
  rw[e]at hs;rw[ZV (x:=(i:Int)+1) (by omega) (by omega),show(i:Int)+1=((i+1:Nat):Int) by omega];exact kZ9 K w hR hl hn hK t (i+1) (ys.drop 1) H (by omega) (by rw[List.length_drop];omega) hs
theorem tZc (w:UInt64){R:As}{A:Option Addr}{n m:Nat}{l:List UInt64}(hR:∀ H,R H→Cells H A (Zd l))(hl:l.length=n)(hn:n≤4294967296):
  Tr prog 236 #[.slice A n m,.int .u64 (w.toNat:Int)] [R] fun v M=>
  ∃ r,v= .slice (some ⟨r,0,none⟩) n n∧M=[pts r (.row (Zd (cZs (zw w) l)) 84 (n*1)),R]:=fun H hs=>by
 apply aZ1.ok;unfold aZ1;refine hs.mks bZR rfl (n:=n) (m:=n) rfl rfl (Nat.le_refl _) (by omega) (by omega) fun r H hs=>?_
 simp only[HV];refine⟨n+1,?_⟩;refine kZ9 _ w hR hl hn (fun H hs=>⟨_,⟨r,rfl,rfl⟩,hs⟩) n 0 (List.replicate n 0) H (by omega) (by simp) ?_;rw[jZK]at hs;exact hs.re [1,0] rfl
end Ker
namespace W
open Go Go.Hw
theorem dZm :prog.follows .mixedOrders=true:=by kernel_rfl
def bZb.l5 (K:Value→Hp→Prop):Nat→Int→Addr→Int→Hp→Prop
 |0,_,_,_,_=>False
 |k+1,x2,a1,x3,H=>
  let R5:=bZb.l5 K k
  BIf (decide (x3<2)) (Hz 210 #[.int .i64 x2,.int .i64 x3] H fun v1 H2=>eZa v1 fun A1 n1 m1 x4=>(ixI x3 2 (St H2 ((((a1.add 0).add 0).add (x3.toNat*1)).add 0) (.slice A1 n1 m1) fun H3=>R5 x2 a1 (IntKind.i64.wrap (x3+1)) H3))) (Hz 159 #[.int .i64 x2] H fun v4 H4=>gZ6 v4 fun x5 x6=>(St H4 (((a1.add 0).add 2).add 0) (.int .u64 x5) fun H5=>K (.pointer (some a1)) H5))
def bZb (x1:Int)(H:Hp)(K:Value→Hp→Prop):Prop:=
 BIf (decide (x1<0)) (K (.pointer none) H) (BIf (decide (x1>20)) (K (.pointer none) H) (Nw H (.obj (.cells #[.slice none 0 0,.slice none 0 0,.int .u64 0,.int .i64 x1] 300)) fun b1 H1=>(∃ k,bZb.l5 K k x1 ⟨b1,0,none⟩ 0 H1)))
def bZb.l5.L (K:Value→Hp→Prop)(k:Nat):Mid:=fun E D H=>
 eI E 0 .i64 fun x2=>eN E 3 fun a1=>eI E 14 .i64 fun x3=>Zo D (bZb.l5 K k x2 a1 x3 H)
def bZb.Λ5 (_:Value→Hp→Prop)(_R5:Int→Addr→Int→Hp→Prop):Zn:=Zn.none (fun i=>match Nat.beq i 7 with|true=>some ([],[0,0,0,0,12,28,60,60,1,257,769,1919,3967],0)|false=>none)
def bZb.Λ (K:Value→Hp→Prop):Zn:=⟨fun i=>none,fun i=>match Nat.beq i 5 with|true=>some (fun E D H=>∃ k,bZb.l5.L K k E D H)|false=>none,(fun i=>match Nat.beq i 7 with|true=>some ([],[0,0,0,0,12,28,60,60,1,257,769,1919,3967],0)|false=>none)⟩
theorem bZb.ok (x1:Int)(H:Hp)(K:Value→Hp→Prop)(h:bZb x1 H K):Zc prog 175 #[.int .i64 x1] H K:=
 Zr Tryz.func175 rfl (nbl rfl) (Zf (Λ:=(bZb.Λ K)) dZm _ _ _ _ _ (Eq.mp (by kernel_rfl) h) (Zb Za rfl (Zb (Zb Za rfl (Zk (Zb Za rfl Zy) Zl)) rfl (Zb Za rfl (Zb (Zb Za rfl (Zu (ZZ rfl (fun E D H h=>by
   refine Safe.loop' (bZb.l5.L K) (fun E D H h=>?_) (fun k E D H h=>?_) E D H h
   ·obtain⟨w0,e0,g1⟩:=DG.out h;obtain⟨x2,rfl,g2⟩:=DI.out g1;obtain⟨w3,e3,g3⟩:=DG.out g2;obtain⟨pw3,rfl,g4⟩:=DP.out g3;obtain⟨a1,rfl,g5⟩:=NN.out g4;obtain⟨w14,e14,g6⟩:=DG.out g5;obtain⟨x3,rfl,g7⟩:=DI.out g6;obtain⟨rfl,h'⟩:=Zo.out g7;exact h'
   ·obtain⟨x2,e0,g2⟩:=GI h;obtain⟨a1,e3,g5⟩:=GN g2;obtain⟨x3,e14,g7⟩:=GI g5;obtain⟨rfl,h'⟩:=Zo.out g7;exact(Zf (Λ:=(bZb.Λ5 K (bZb.l5 K k))) dZm _ _ [(0,.int .i64 x2),(3,.pointer (some a1)),(14,.int .i64 x3)] [] H (Eq.mp (by kernel_rfl) h') (Zb Za rfl (Zb (Zk Zl ZS) rfl (Zb (Zu (Zb Za rfl Za)) rfl Za)))).weaken (Ze.cons e0 (Ze.cons e3 (Ze.cons e14 (Ze.nil _)))) (Hp.le_refl _))))) rfl (Zb Za rfl (Zb Za rfl Zy)))))))
def ZE.l13 (K:Value→Hp→Prop):Nat→Option Addr→Nat→Nat→Option Addr→Nat→Nat→Int→Hp→Prop
 |0,_,_,_,_,_,_,_,_=>False
 |k+1,A7,n7,m7,A8,n8,m8,x8,H=>
  let R13:=ZE.l13 K k
  BIf (decide (x8<(n7:Int))) (Hz 248 #[.slice A7 n7 m7,.slice A8 n8 m8,.int .i64 x8] H fun v10 H5=>R13 A7 n7 m7 A8 n8 m8 (IntKind.i64.wrap (x8*2)) H5) (K (.int .i64 0) H)
def ZE.l8 (K:Value→Hp→Prop):Nat→Option Addr→Nat→Nat→Option Addr→Nat→Nat→Option Addr→Nat→Nat→Int→Int→Hp→Prop
 |0,_,_,_,_,_,_,_,_,_,_,_,_=>False
 |k+1,A4,n4,m4,A5,n5,m5,A6,n6,m6,x4,x5,H=>
  let R8:=ZE.l8 K k
  BIf (decide (x5<x4)) (ixI x5 n6 (NN A6 fun a3=>LeW H (a3.add (x5.toNat*1)) fun x6=>HcW 230 #[.int .u64 x6] H fun x7 H3=>ixI x5 n4 (NN A4 fun a4=>St H3 ((a4.add (x5.toNat*1)).add 0) (.int .u64 x7) fun H4=>R8 A4 n4 m4 A5 n5 m5 A6 n6 m6 x4 (IntKind.i64.wrap (x5+1)) H4))) ((∃ k,ZE.l13 K k A4 n4 m4 A5 n5 m5 1 H))
def ZE (p1:Option Addr)(A1:Option Addr)(n1:Nat)(m1:Nat)(x1:Int)(H:Hp)(K:Value→Hp→Prop):Prop:=
 NN p1 fun a1=>LeI H (a1.add 3) fun x2=>(0≤(IntKind.u64.wrap x2)∧BIf ((n1:Int) !=(aZY .i64 1 (IntKind.u64.wrap x2))) (K (.int .i64 4) H) (NN p1 fun a2=>Hz 246 #[.pointer (some (a2.add 0)),.int .i64 x1] H fun v2 H1=>tZg v2 fun A2 n2 m2 c1=>(BIf (!c1) (K (.int .i64 18) H1) (Hz 247 #[.slice A1 n1 m1] H1 fun v5 H2=>eZa v5 fun A3 n3 m3 x3=>((∃ k,ZE.l8 K k A1 n1 m1 A2 n2 m2 A3 n3 m3 (n3:Int) 0 H2))))))
def ZE.l8.L (K:Value→Hp→Prop)(k:Nat):Mid:=fun E D H=>
 DG (E.get? 1) fun w1=>DSl w1 fun A4 n4 m4=>DG (E.get? 7) fun w7=>DSl w7 fun A5 n5 m5=>DG (E.get? 38) fun w38=>DSl w38 fun A6 n6 m6=>eI E 39 .i64 fun x4=>eI E 40 .i64 fun x5=>Zo D (ZE.l8 K k A4 n4 m4 A5 n5 m5 A6 n6 m6 x4 x5 H)
def ZE.l13.L (K:Value→Hp→Prop)(k:Nat):Mid:=fun E D H=>
 DG (E.get? 1) fun w1=>DSl w1 fun A7 n7 m7=>DG (E.get? 7) fun w7=>DSl w7 fun A8 n8 m8=>eI E 13 .i64 fun x8=>Zo D (ZE.l13 K k A7 n7 m7 A8 n8 m8 x8 H)
def ZE.Λ8 (_:Value→Hp→Prop)(_R8:Option Addr→Nat→Nat→Option Addr→Nat→Nat→Option Addr→Nat→Nat→Int→Int→Hp→Prop):Zn:=Zn.none (fun _=>none)
def ZE.Λ13 (_:Value→Hp→Prop)(_R13:Option Addr→Nat→Nat→Option Addr→Nat→Nat→Int→Hp→Prop):Zn:=Zn.none (fun _=>none)
def ZE.Λ (K:Value→Hp→Prop):Zn:=⟨fun i=>none,fun i=>match Nat.beq i 13 with|true=>some (fun E D H=>∃ k,ZE.l13.L K k E D H)|false=>match Nat.beq i 8 with|true=>some (fun E D H=>∃ k,ZE.l8.L K k E D H)|false=>none,(fun _=>none)⟩
theorem ZE.ok (p1:Option Addr)(A1:Option Addr)(n1:Nat)(m1:Nat)(x1:Int)(H:Hp)(K:Value→Hp→Prop)(h:ZE p1 A1 n1 m1 x1 H K):Zc prog 234 #[.pointer p1,.slice A1 n1 m1,.int .i64 x1] H K:=
 Zr Tryz.func234 rfl (nbl rfl) (Zf (Λ:=(ZE.Λ K)) dZm _ _ _ _ _ (Eq.mp (by kernel_rfl) h) (Zb Za rfl (Zb (Zb Za rfl (Zk (Zb Za rfl Zy) Zl)) rfl (Zb Za rfl (Zb (Zb Za rfl (Zk (Zb Za rfl Zy) Zl)) rfl (Zb Za rfl (Zb (Zb Za rfl (Zu (ZZ rfl (fun E D H h=>by
   refine Safe.loop' (ZE.l8.L K) (fun E D H h=>?_) (fun k E D H h=>?_) E D H h
   ·obtain⟨w1,e1,g1⟩:=DG.out h;obtain⟨A4,n4,m4,rfl,g2⟩:=DSl.out g1;obtain⟨w7,e7,g3⟩:=DG.out g2;obtain⟨A5,n5,m5,rfl,g4⟩:=DSl.out g3;obtain⟨w38,e38,g5⟩:=DG.out g4;obtain⟨A6,n6,m6,rfl,g6⟩:=DSl.out g5;obtain⟨w39,e39,g7⟩:=DG.out g6;obtain⟨x4,rfl,g8⟩:=DI.out g7;obtain⟨w40,e40,g9⟩:=DG.out g8;obtain⟨x5,rfl,g10⟩:=DI.out g9;obtain⟨rfl,h'⟩:=Zo.out g10;exact h'
   ·obtain⟨w1,e1,g1⟩:=DG.out h;obtain⟨A4,n4,m4,rfl,g2⟩:=DSl.out g1;obtain⟨w7,e7,g3⟩:=DG.out g2;obtain⟨A5,n5,m5,rfl,g4⟩:=DSl.out g3;obtain⟨w38,e38,g5⟩:=DG.out g4;obtain⟨A6,n6,m6,rfl,g6⟩:=DSl.out g5;obtain⟨x4,e39,g8⟩:=GI g6;obtain⟨x5,e40,g10⟩:=GI g8;obtain⟨rfl,h'⟩:=Zo.out g10;exact(Zf (Λ:=(ZE.Λ8 K (ZE.l8 K k))) dZm _ _ [(1,.slice A4 n4 m4),(7,.slice A5 n5 m5),(38,.slice A6 n6 m6),(39,.int .i64 x4),(40,.int .i64 x5)] [] H (Eq.mp (by kernel_rfl) h') (Zb Za rfl (Zb (Zk Zl ZS) rfl (Zb (Zu (Zb Za rfl Za)) rfl Za)))).weaken (Ze.cons e1 (Ze.cons e7 (Ze.cons e38 (Ze.cons e39 (Ze.cons e40 (Ze.nil _)))))) (Hp.le_refl _))))) rfl (Zb (Zb Za rfl (Zu (ZZ rfl (fun E D H h=>by
   refine Safe.loop' (ZE.l13.L K) (fun E D H h=>?_) (fun k E D H h=>?_) E D H h
   ·obtain⟨w1,e1,g1⟩:=DG.out h;obtain⟨A7,n7,m7,rfl,g2⟩:=DSl.out g1;obtain⟨w7,e7,g3⟩:=DG.out g2;obtain⟨A8,n8,m8,rfl,g4⟩:=DSl.out g3;obtain⟨w13,e13,g5⟩:=DG.out g4;obtain⟨x8,rfl,g6⟩:=DI.out g5;obtain⟨rfl,h'⟩:=Zo.out g6;exact h'
   ·obtain⟨w1,e1,g1⟩:=DG.out h;obtain⟨A7,n7,m7,rfl,g2⟩:=DSl.out g1;obtain⟨w7,e7,g3⟩:=DG.out g2;obtain⟨A8,n8,m8,rfl,g4⟩:=DSl.out g3;obtain⟨x8,e13,g6⟩:=GI g4;obtain⟨rfl,h'⟩:=Zo.out g6;exact(Zf (Λ:=(ZE.Λ13 K (ZE.l13 K k))) dZm _ _ [(1,.slice A7 n7 m7),(7,.slice A8 n8 m8),(13,.int .i64 x8)] [] H (Eq.mp (by kernel_rfl) h') (Zb (Zb Za rfl (Zk Zl ZS)) rfl (Zb (Zu Za) rfl Za))).weaken (Ze.cons e1 (Ze.cons e7 (Ze.cons e13 (Ze.nil _)))) (Hp.le_refl _))))) rfl (Zb Za rfl Zy)))))))))
def bZ0 (p1:Option Addr)(x1:Int)(H:Hp)(K:Value→Hp→Prop):Prop:=
 BIf (decide (x1<0)) (K (.tuple #[.slice none 0 0,.bool false]) H) (BIf (decide (x1>1)) (K (.tuple #[.slice none 0 0,.bool false]) H) (NN p1 fun a1=>ixI x1 2 (LeS H ((a1.add 0).add (x1.toNat*1)) fun A1 n1 m1=>K (.tuple #[.slice A1 n1 m1,.bool true]) H)))
theorem bZ0.ok (p1:Option Addr)(x1:Int)(H:Hp)(K:Value→Hp→Prop)(h:bZ0 p1 x1 H K):Zc prog 246 #[.pointer p1,.int .i64 x1] H K:=
 Zr Tryz.func246 rfl (nbl rfl) (Zf (Λ:=Zn.none (fun _=>none)) dZm _ _ _ _ _ (Eq.mp (by kernel_rfl) h) (Zt _ _ _ _ _))
def ZL.l5.q1 (x10:Int)(x11:Int)(x12:Int)(H:Hp)(x7:Int)(x9:Int)(n5:Nat)(A5:Option Addr)(x5:Int)(R5:Option Addr→Nat→Nat→Option Addr→Nat→Nat→Int→Int→Int→Int→Int→Hp→Prop)(m5:Nat)(A6:Option Addr)(n6:Nat)(m6:Nat)(x6:Int)(x8:Int):Prop:=
 Hz 260 #[.int .u64 x10,.int .u64 x11,.int .u64 x12] H fun v4 H1=>nZ2 v4 fun x13 x14=>(ixI (IntKind.i64.wrap (x7+x9)) n5 (NN A5 fun a4=>St H1 ((a4.add ((IntKind.i64.wrap (x7+x9)).toNat*1)).add 0) (.int .u64 x13) fun H2=>ixI (IntKind.i64.wrap ((IntKind.i64.wrap (x7+x9))+x5)) n5 (NN A5 fun a5=>St H2 ((a5.add ((IntKind.i64.wrap ((IntKind.i64.wrap (x7+x9))+x5)).toNat*1)).add 0) (.int .u64 x14) fun H3=>R5 A5 n5 m5 A6 n6 m6 x5 x6 x7 x8 (IntKind.i64.wrap (x9+1)) H3)))
def ZL.l5 (K:Value→Hp→Prop)(R2:Option Addr→Nat→Nat→Option Addr→Nat→Nat→Int→Int→Int→Hp→Prop):Nat→Option Addr→Nat→Nat→Option Addr→Nat→Nat→Int→Int→Int→Int→Int→Hp→Prop
 |0,_,_,_,_,_,_,_,_,_,_,_,_=>False
 |k+1,A5,n5,m5,A6,n6,m6,x5,x6,x7,x8,x9,H=>
  let R5:=ZL.l5 K R2 k
  BIf (decide (x9<x8)) (ixI (IntKind.i64.wrap (x7+x9)) n5 (NN A5 fun a1=>ixI (IntKind.i64.wrap ((IntKind.i64.wrap (x7+x9))+x5)) n5 (NN A5 fun a2=>ixI (IntKind.i64.wrap (x9*x6)) n6 (NN A6 fun a3=>(LeW H (a1.add ((IntKind.i64.wrap (x7+x9)).toNat*1)) fun x10=>(LeW H (a2.add ((IntKind.i64.wrap ((IntKind.i64.wrap (x7+x9))+x5)).toNat*1)) fun x11=>LeW H (a3.add ((IntKind.i64.wrap (x9*x6)).toNat*1)) fun x12=>ZL.l5.q1 x10 x11 x12 H x7 x9 n5 A5 x5 R5 m5 A6 n6 m6 x6 x8)∧(LeW H (a3.add ((IntKind.i64.wrap (x9*x6)).toNat*1)) fun x15=>LeW H (a2.add ((IntKind.i64.wrap ((IntKind.i64.wrap (x7+x9))+x5)).toNat*1)) fun x16=>ZL.l5.q1 x10 x16 x15 H x7 x9 n5 A5 x5 R5 m5 A6 n6 m6 x6 x8))∧(LeW H (a2.add ((IntKind.i64.wrap ((IntKind.i64.wrap (x7+x9))+x5)).toNat*1)) fun x19=>(LeW H (a1.add ((IntKind.i64.wrap (x7+x9)).toNat*1)) fun x20=>LeW H (a3.add ((IntKind.i64.wrap (x9*x6)).toNat*1)) fun x21=>ZL.l5.q1 x20 x19 x21 H x7 x9 n5 A5 x5 R5 m5 A6 n6 m6 x6 x8)∧(LeW H (a3.add ((IntKind.i64.wrap (x9*x6)).toNat*1)) fun x24=>LeW H (a1.add ((IntKind.i64.wrap (x7+x9)).toNat*1)) fun x25=>ZL.l5.q1 x25 x19 x24 H x7 x9 n5 A5 x5 R5 m5 A6 n6 m6 x6 x8))∧(LeW H (a3.add ((IntKind.i64.wrap (x9*x6)).toNat*1)) fun x28=>(LeW H (a1.add ((IntKind.i64.wrap (x7+x9)).toNat*1)) fun x29=>LeW H (a2.add ((IntKind.i64.wrap ((IntKind.i64.wrap (x7+x9))+x5)).toNat*1)) fun x30=>ZL.l5.q1 x29 x30 x28 H x7 x9 n5 A5 x5 R5 m5 A6 n6 m6 x6 x8)∧(LeW H (a2.add ((IntKind.i64.wrap ((IntKind.i64.wrap (x7+x9))+x5)).toNat*1)) fun x33=>LeW H (a1.add ((IntKind.i64.wrap (x7+x9)).toNat*1)) fun x34=>ZL.l5.q1 x34 x33 x28 H x7 x9 n5 A5 x5 R5 m5 A6 n6 m6 x6 x8)))))) (R2 A5 n5 m5 A6 n6 m6 x5 x6 (IntKind.i64.wrap (x7+(IntKind.i64.wrap (2*x5)))) H)
def ZL.l2 (K:Value→Hp→Prop):Nat→Option Addr→Nat→Nat→Option Addr→Nat→Nat→Int→Int→Int→Hp→Prop
 |0,_,_,_,_,_,_,_,_,_,_=>False
 |k+1,A3,n3,m3,A4,n4,m4,x2,x3,x4,H=>
  let R2:=ZL.l2 K k
  BIf (decide (x4<(n3:Int))) ((∃ k,ZL.l5 K R2 k A3 n3 m3 A4 n4 m4 x2 x3 x4 x2 0 H)) (K (.tuple #[]) H)
def ZL (A1:Option Addr)(n1:Nat)(m1:Nat)(A2:Option Addr)(n2:Nat)(m2:Nat)(x1:Int)(H:Hp)(K:Value→Hp→Prop):Prop:=
 ((IntKind.i64.wrap (2*x1))≠0∧IntKind.i64=IntKind.i64∧(∃ k,ZL.l2 K k A1 n1 m1 A2 n2 m2 x1 (IntKind.i64.wrap (Int.tdiv (n1:Int) (IntKind.i64.wrap (2*x1)))) 0 H))
def ZL.l2.L (K:Value→Hp→Prop)(k:Nat):Mid:=fun E D H=>
 DG (E.get? 0) fun w0=>DSl w0 fun A3 n3 m3=>DG (E.get? 1) fun w1=>DSl w1 fun A4 n4 m4=>eI E 2 .i64 fun x2=>eI E 6 .i64 fun x3=>eI E 7 .i64 fun x4=>Zo D (ZL.l2 K k A3 n3 m3 A4 n4 m4 x2 x3 x4 H)
def ZL.l5.L (K:Value→Hp→Prop)(R2:Option Addr→Nat→Nat→Option Addr→Nat→Nat→Int→Int→Int→Hp→Prop)(k:Nat):Mid:=fun E D H=>
 DG (E.get? 0) fun w0=>DSl w0 fun A5 n5 m5=>DG (E.get? 1) fun w1=>DSl w1 fun A6 n6 m6=>eI E 2 .i64 fun x5=>eI E 6 .i64 fun x6=>eI E 7 .i64 fun x7=>eI E 24 .i64 fun x8=>eI E 25 .i64 fun x9=>Zo D (ZL.l5 K R2 k A5 n5 m5 A6 n6 m6 x5 x6 x7 x8 x9 H)
def ZL.Λ5 (_:Value→Hp→Prop)(_R2:Option Addr→Nat→Nat→Option Addr→Nat→Nat→Int→Int→Int→Hp→Prop)(_R5:Option Addr→Nat→Nat→Option Addr→Nat→Nat→Int→Int→Int→Int→Int→Hp→Prop):Zn:=Zn.none (fun i=>match Nat.beq i 8 with|true=>some ([],[0,0,0,0,0,0,48,112,0,0,768,1792,0,0,0,24576,61440,126976,262128,524272,1048560,1048560,2097139,6291443,16777215,33554431],0)|false=>none)
def ZL.Λ2 (K:Value→Hp→Prop)(R2:Option Addr→Nat→Nat→Option Addr→Nat→Nat→Int→Int→Int→Hp→Prop):Zn:=⟨fun i=>none,fun i=>match Nat.beq i 5 with|true=>some (fun E D H=>∃ k,ZL.l5.L K R2 k E D H)|false=>none,(fun i=>match Nat.beq i 8 with|true=>some ([],[0,0,0,0,0,0,48,112,0,0,768,1792,0,0,0,24576,61440,126976,262128,524272,1048560,1048560,2097139,6291443,16777215,33554431],0)|false=>none)⟩
def ZL.Λ (K:Value→Hp→Prop):Zn:=⟨fun i=>none,fun i=>match Nat.beq i 2 with|true=>some (fun E D H=>∃ k,ZL.l2.L K k E D H)|false=>none,(fun i=>match Nat.beq i 8 with|true=>some ([],[0,0,0,0,0,0,48,112,0,0,768,1792,0,0,0,24576,61440,126976,262128,524272,1048560,1048560,2097139,6291443,16777215,33554431],0)|false=>none)⟩
theorem ZL.ok (A1:Option Addr)(n1:Nat)(m1:Nat)(A2:Option Addr)(n2:Nat)(m2:Nat)(x1:Int)(H:Hp)(K:Value→Hp→Prop)(h:ZL A1 n1 m1 A2 n2 m2 x1 H K):Zc prog 248 #[.slice A1 n1 m1,.slice A2 n2 m2,.int .i64 x1] H K:=
 Zr Tryz.func248 rfl (nbl rfl) (Zf (Λ:=(ZL.Λ K)) dZm _ _ _ _ _ (Eq.mp (by kernel_rfl) h) (Zb Za rfl (Zb Za rfl (Zu (ZZ rfl (fun E D H h=>by
   refine Safe.loop' (ZL.l2.L K) (fun E D H h=>?_) (fun k E D H h=>?_) E D H h
   ·obtain⟨w0,e0,g1⟩:=DG.out h;obtain⟨A3,n3,m3,rfl,g2⟩:=DSl.out g1;obtain⟨w1,e1,g3⟩:=DG.out g2;obtain⟨A4,n4,m4,rfl,g4⟩:=DSl.out g3;obtain⟨w2,e2,g5⟩:=DG.out g4;obtain⟨x2,rfl,g6⟩:=DI.out g5;obtain⟨w6,e6,g7⟩:=DG.out g6;obtain⟨x3,rfl,g8⟩:=DI.out g7;obtain⟨w7,e7,g9⟩:=DG.out g8;obtain⟨x4,rfl,g10⟩:=DI.out g9;obtain⟨rfl,h'⟩:=Zo.out g10;exact h'
   ·obtain⟨w0,e0,g1⟩:=DG.out h;obtain⟨A3,n3,m3,rfl,g2⟩:=DSl.out g1;obtain⟨w1,e1,g3⟩:=DG.out g2;obtain⟨A4,n4,m4,rfl,g4⟩:=DSl.out g3;obtain⟨x2,e2,g6⟩:=GI g4;obtain⟨x3,e6,g8⟩:=GI g6;obtain⟨x4,e7,g10⟩:=GI g8;obtain⟨rfl,h'⟩:=Zo.out g10;exact(Zf (Λ:=(ZL.Λ2 K (ZL.l2 K k))) dZm _ _ [(0,.slice A3 n3 m3),(1,.slice A4 n4 m4),(2,.int .i64 x2),(6,.int .i64 x3),(7,.int .i64 x4)] [] H (Eq.mp (by kernel_rfl) h') (Zb (Zb Za rfl (Zk Zl ZS)) rfl (Zb (Zu (Zb Za rfl (Zu (ZZ rfl (fun E D H h=>by
      refine Safe.loop' (ZL.l5.L K (ZL.l2 K k)) (fun E D H h=>?_) (fun k E D H h=>?_) E D H h
      ·obtain⟨w0,e0,g1⟩:=DG.out h;obtain⟨A5,n5,m5,rfl,g2⟩:=DSl.out g1;obtain⟨w1,e1,g3⟩:=DG.out g2;obtain⟨A6,n6,m6,rfl,g4⟩:=DSl.out g3;obtain⟨w2,e2,g5⟩:=DG.out g4;obtain⟨x5,rfl,g6⟩:=DI.out g5;obtain⟨w6,e6,g7⟩:=DG.out g6;obtain⟨x6,rfl,g8⟩:=DI.out g7;obtain⟨w7,e7,g9⟩:=DG.out g8;obtain⟨x7,rfl,g10⟩:=DI.out g9;obtain⟨w24,e24,g11⟩:=DG.out g10;obtain⟨x8,rfl,g12⟩:=DI.out g11;obtain⟨w25,e25,g13⟩:=DG.out g12;obtain⟨x9,rfl,g14⟩:=DI.out g13;obtain⟨rfl,h'⟩:=Zo.out g14;exact h'
      ·obtain⟨w0,e0,g1⟩:=DG.out h;obtain⟨A5,n5,m5,rfl,g2⟩:=DSl.out g1;obtain⟨w1,e1,g3⟩:=DG.out g2;obtain⟨A6,n6,m6,rfl,g4⟩:=DSl.out g3;obtain⟨x5,e2,g6⟩:=GI g4;obtain⟨x6,e6,g8⟩:=GI g6;obtain⟨x7,e7,g10⟩:=GI g8;obtain⟨x8,e24,g12⟩:=GI g10;obtain⟨x9,e25,g14⟩:=GI g12;obtain⟨rfl,h'⟩:=Zo.out g14;exact(Zf (Λ:=(ZL.Λ5 K (ZL.l2 K k) (ZL.l5 K (ZL.l2 K k) k))) dZm _ _ [(0,.slice A5 n5 m5),(1,.slice A6 n6 m6),(2,.int .i64 x5),(6,.int .i64 x6),(7,.int .i64 x7),(24,.int .i64 x8),(25,.int .i64 x9)] [] H (Eq.mp (by kernel_rfl) h') (Zb Za rfl (Zb (Zk Zl ZS) rfl (Zb (Zu (Zb Za rfl (Zb Za rfl Za))) rfl Za)))).weaken (Ze.cons e0 (Ze.cons e1 (Ze.cons e2 (Ze.cons e6 (Ze.cons e7 (Ze.cons e24 (Ze.cons e25 (Ze.nil _)))))))) (Hp.le_refl _)))))) rfl Za))).weaken (Ze.cons e0 (Ze.cons e1 (Ze.cons e2 (Ze.cons e6 (Ze.cons e7 (Ze.nil _)))))) (Hp.le_refl _)))))))
def dZ5 (x1:Int)(x2:Int)(x3:Int)(H:Hp)(K:Value→Hp→Prop):Prop:=
 HcW 243 #[.int .u64 x2,.int .u64 x3] H fun x4 H1=>HcW 268 #[.int .u64 x1,.int .u64 x4] H1 fun x5 H2=>HcW 269 #[.int .u64 x1,.int .u64 x4] H2 fun x6 H3=>K (.tuple #[.int .u64 x5,.int .u64 x6]) H3
theorem dZ5.ok (x1:Int)(x2:Int)(x3:Int)(H:Hp)(K:Value→Hp→Prop)(h:dZ5 x1 x2 x3 H K):Zc prog 260 #[.int .u64 x1,.int .u64 x2,.int .u64 x3] H K:=
 Zr Tryz.func260 rfl (nbl rfl) (Zf (Λ:=Zn.none (fun _=>none)) dZm _ _ _ _ _ (Eq.mp (by kernel_rfl) h) (Zt _ _ _ _ _))
end W
namespace Ker
open Go Go.Hw W Shp Gol Fft
def fZE (z:Zp)(l:List UInt64)(n:Nat):List UInt64:=(List.range n).map fun c=>uw (at' l c*pw z c)
def jZ6 (z:Zp)(l:List UInt64):List UInt64:=fZE z l l.length
theorem sZH (z:Zp)(l:List UInt64)(n:Nat):(fZE z l n).length=n:=by simp[fZE]
theorem jZH (z:Zp)(l:List UInt64):(jZ6 z l).length=l.length:=sZH _ _ _
theorem qZ1 (z:Zp)(l:List UInt64)(n:Nat):fZE z l (n+1)=fZE z l n++[uw (at' l n*pw z n)]:=by
 unfold fZE;rw[List.range_succ,List.map_append];rfl
theorem qZP {n r:Nat}(hn:1≤n∧n≤1048576)(hr:r≤4294967295)(H:Hp):Zc prog 249 #[.agg #[.int .i64 1,.int .i64 (n:Int),.int .i64 (r:Int),.int .i64 0]] H (RetE (.bool true) H):=Zc.ret (by
 have hin:∀{x:Nat} (H:Hp),x≤4294967295→Zc prog 261 #[.int .i64 (x:Int)] H (RetE (.bool true) H):=fun{x} H hx=>by
  apply fZD.ok;unfold fZD;refine Zw (by omega) ?_;rw[decide_eq_true (by omega)];exact RetE.mk _ _
 apply eZ6.ok;unfold eZ6;refine(Sep.start H).nw fun b1 H1 hs=>?_
 refine hs.ldf 1 rfl rfl ?_;simp only[HV];refine Zc.use (hin H1 hr) ?_;simp only[HV];refine hs.ldf 1 rfl rfl ?_;simp only[HV];refine Zc.use (hin (x:=0) H1 (by omega)) ?_;simp only[HV];refine hs.ldg 1 rfl rfl ?_;simp only[HV];refine hs.ldf 1 rfl rfl ?_;simp only[HV];rw[ZV (x:=1-1) (by decide) (by decide),ZV (x:=4294967295-(r:Int)) (by omega) (by omega)];refine Zw (by omega) ?_;refine hs.ldg 1 rfl rfl ?_;simp only[HV];refine hs.ldf 1 rfl rfl ?_;simp only[HV];rw[ZV (x:=(n:Int)-1) (by omega) (by omega),ZV (x:=4294967295-0) (by decide) (by decide),decide_eq_true (by omega)];exact hs.fin 0 rfl _)
section
variable {R TT : As} {A : Option Addr} {n m k r : Nat} {l : List UInt64}
theorem mZy (K:Value→Hp→Prop)(R10:Option Addr→Nat→Nat→Addr→Int→Option Addr→Nat→Nat→Int→Int→Hp→Prop)(z:Zp){A5:Option Addr}{n7 m5:Nat}{a2:Addr}{x21 x24 x25:Int}{A7:Option Addr}{m7:Nat}{L:List As}
  (hR:∀ H,R H→Cells H A7 (Zd l)) (hl:l.length=n) (hn:n≤1048576)
  (hK:∀ A' m' H,Sep (Own 84 1 A' n m' (Zd (jZ6 z l))::R::L) H→R10 A5 n7 m5 a2 x21 A' n m' x24 (IntKind.i64.wrap (x25+1)) H):
  ∀(t i:Nat) (A':Option Addr) (m':Nat) (H:Hp),i+t=n→Sep (Own 84 1 A' i m' (Zd (fZE z l i))::R::L) H→
   aZl.l15 K R10 (t+1) A5 n7 m5 a2 x21 A' i m' (z.val:Int) ((pw z i).val:Int) x24 x25 A7 n m7 (n:Int) (i:Int) H
 |0,i,A',m',H,hi,hs=>by
  unfold aZl.l15;obtain rfl:i=n:=by omega
  refine Zm (by omega) (hK A' m' H ?_);unfold jZ6;rw[hl];exact hs
 |t+1,i,A',m',H,hi,hs=>by
  have hc:Cells H A7 (Zd l):=by
   obtain⟨H1,h1,hle⟩:=hs.see 1 rfl;exact(hR H1 h1).le hle
  unfold aZl.l15;refine Zw (by omega) ?_;have hil:i<l.length:=by omega
  have hg:(Zd l)[i]? =some (.int .u64 ((l[i]).toNat:Int)):=by
   rw[aZ8,List.getElem?_eq_getElem hil];rfl
  refine hc.read hg rfl (by rw[ZA];omega) ?_;simp only[HV];refine Zc.use (gZ1 (l[i]).toNat_lt (cZU _) H) ?_;rw[oZs];simp only[HV];refine hs.app1 0 rfl bZR (by omega) rfl (by omega) (by omega) fun A2 m2 H hs=>?_
  simp only[HV];refine Zc.use (gZ1 (cZU _) (cZU _) H) ?_;rw[fZN];simp only[HV];rw[ZV (x:=(i:Int)+1) (by omega) (by omega),show(i:Int)+1=((i+1:Nat):Int) by omega];refine mZy K R10 z hR hl hn hK t (i+1) A2 m2 H (by omega) ?_;rw[qZ1,show Zd (fZE z l i++[uw (at' l i*pw z i)])=Zd (fZE z l i)++[.int .u64 ((zw l[i]*pw z i).val:Int)] by
   unfold Zd;rw[List.map_append,List.map_cons,hZV,rZw hil];rfl]
  exact hs
theorem uZR (hT:∀ H,TT H→T64 H)(hR:∀ H,R H→Cells H A (Zd l)){b:Nat}(hn:n=2^b)(hb:b≤20)(hl:l.length=n)(hm:n≤m)(hk:k≤32)(hr:r≤4294967295)(d:Bool):
  Tr prog 235 #[.slice A n m,.agg #[.int .i64 1,.int .i64 (n:Int),.int .i64 (r:Int),.int .i64 0],.int .i64 (k:Int),.int .i64 (if d=true then 1 else 0)] [R,TT] fun v M=>
   ∃ A' m',v= .tuple #[.slice A' n m',.int .i64 0]∧M=[Own 84 1 A' n m' (Zd (jZ6 (pw (rtd d k) r) l)),R,TT]:=fun H hs=>by
 have h20:=aZW hb;have h1:=pow_pos b;apply aZl.ok;unfold aZl;refine hs.nw fun b1 H hs=>?_
 have hs:Sep [R,TT,pts b1 (.obj (.cells #[.int .i64 1,.int .i64 (n:Int),.int .i64 (r:Int),.int .i64 0] 327))] H:=hs;refine Zc.use (pZm hk d H) ?_;simp only[HV];refine ZB rfl ?_;simp only[Addr.add_zero];refine hs.lda 2 rfl (show 0+2≤4 by omega) ?_;have hT0:T64 H:=by
  obtain⟨H1,h1,hle⟩:=hs.see 1 rfl;exact(hT H1 h1).le hle
 have hg:dZN 1 (n:Int)=true:=by
  have:=hZ4 (a:=0) (b:=b) (by omega);rw[hn];exact this
 refine Zc.use (bZZ 1 (n:Int) H hT0) ?_;rw[hg];simp only[HV];refine hs.ld 2 rfl rfl ?_;simp only[HV];refine hs.ldf 2 rfl rfl ?_;simp only[HV];refine ZB (by rw[ZV (by omega) (by omega)];omega) ?_;refine hs.lda 2 rfl (show 0+4≤4 by omega) ?_;refine Zc.use (qZP (n:=n) (r:=r) ⟨by omega,by omega⟩ hr H) ?_;simp only[HV];refine hs.mks bZR rfl (n:=0) (m:=n) rfl rfl (by omega) (by omega) (by omega) fun bo H hs=>?_
 simp only[HV];refine hs.ld 2 rfl rfl ?_;simp only[HV];have hs:Sep [R,TT,pts b1 (.obj (.cells #[.int .i64 1,.int .i64 (n:Int),.int .i64 (r:Int),.int .i64 0] 327)),Own 84 1 (some ⟨bo,0,none⟩) 0 n (Zd (fZE (pw (rtd d k) r) l 0))] H:=
  hs.turn 3 rfl (B:=Own 84 1 (some ⟨bo,0,none⟩) 0 n (Zd (fZE (pw (rtd d k) r) l 0))) (fun H1 h=>⟨rfl,.inr ⟨bo,n*1,rfl,h,Nat.le_refl _⟩⟩)
 refine⟨2,?_⟩;unfold aZl.l10;refine Zw (by decide) ?_;refine hs.ldf 2 rfl rfl ?_;simp only[HV];rw[show IntKind.u64.wrap (IntKind.i64.wrap ((r:Int)+0))=(r:Int) by rw[ZV (by omega) (by omega),dZj (by omega) (by omega)];omega];refine Zc.use (kZ7 (cZU _) (n:=r) (by omega) H) ?_;rw[fZQ,fZT];simp only[HV];refine hs.ldf 2 rfl rfl ?_;simp only[HV];refine Zc.use (kZ7 (cZU _) (n:=0) (by decide) H) ?_;rw[fZQ,fZT];simp only[HV];refine hs.ldf 2 rfl rfl ?_;simp only[HV];refine hs.ldf 2 rfl rfl ?_;simp only[HV];rw[show IntKind.i64.wrap (0*(n:Int))=((0:Nat):Int) by rw[Int.zero_mul];rfl,show IntKind.i64.wrap (IntKind.i64.wrap (0+1)*(n:Int))=(n:Int) by
  rw[show IntKind.i64.wrap (0+1)=1 by decide,ZV (by omega) (by omega)];omega]
 refine⟨by omega,by omega,by omega,by omega,?_⟩;rw[Int.toNat_natCast,Int.toNat_natCast];simp only[Nat.sub_zero];refine⟨n+1,?_⟩;have hR':∀ H,R H→Cells H (slA A m 0 1) (Zd l):=fun H h=>(hR H h).shift (by rw[ZA];omega)
 refine mZy (L:=[TT]) _ _ (pw (rtd d k) r) hR' hl (by omega) (fun A' m' H hs=>?_) n 0 (some ⟨bo,0,none⟩) n H (by omega) (hs.re [3,0,1] rfl);unfold aZl.l10;refine Zm (by decide) ?_;exact⟨_,⟨A',m',rfl,rfl⟩,hs⟩
end
theorem nZP (x y p:Zp)(H:Hp):Zc prog 260 #[.int .u64 ((uw x).toNat:Int),.int .u64 ((uw y).toNat:Int),.int .u64 ((uw p).toNat:Int)] H (RetE (.tuple #[.int .u64 ((uw (x+y*p)).toNat:Int),.int .u64 ((uw (x-y*p)).toNat:Int)]) H):=by
 apply dZ5.ok;unfold dZ5;simp only[hZV];refine Zc.use (gZ1 (cZU _) (cZU _) H) ?_;rw[fZN];simp only[HV];refine Zc.use (kZZ (cZU _) (cZU _) H) ?_;simp only[HV];refine Zc.use (vZ7 (cZU _) (cZU _) H) ?_;simp only[HV];have e1:(x.val+(y*p).val)%18446744069414584321=(x+y*p).val:=(Fin.val_add x (y*p)).symm;have e2:sub x.val (y*p).val=(x-y*p).val:=by
  have h1:=x.isLt;have h2:=(y*p).isLt;rw[Fin.sub_def];show(x.val+(18446744069414584321-(y*p).val%18446744069414584321)%18446744069414584321)%18446744069414584321=(18446744069414584321-(y*p).val+x.val)%18446744069414584321
  omega
 rw[e1,e2];exact RetE.mk _ _
theorem mZj {xs:List Value}{ws:List UInt64}{off p:Nat}(h:off+ws.length≤xs.length)(hp:p<ws.length):(setAt xs off (Zd ws))[off+p]? =some (.int .u64 ((ws[p]).toNat:Int)):=by
 rw[bZW (by rw[ZA];exact h),if_neg (by omega),ZA,if_pos (by omega),Nat.add_sub_cancel_left,aZ8,List.getElem?_eq_getElem hp];rfl
theorem iZy {xs:List Value}{ws:List UInt64}{off:Nat}(h:off+ws.length≤xs.length):(setAt xs off (Zd ws)).length=xs.length:=cZS (by rw[ZA];exact h)
theorem mZk {xs:List Value}{ws:List UInt64}{off p:Nat}(h:off+ws.length≤xs.length)(hp:p<ws.length)(w:UInt64):(setAt xs off (Zd ws)).set (off+p) (.int .u64 (w.toNat:Int))=setAt xs off (Zd (ws.set p w)):=by
 apply List.ext_getElem?;intro j;rw[List.getElem?_set,iZy h,bZW (by rw[ZA];exact h),bZW (by rw[ZA,List.length_set];exact h),ZA,ZA,List.length_set];by_cases e:off+p=j
 ·subst e;rw[if_pos rfl,if_pos (by omega),if_neg (by omega),if_pos (by omega),Nat.add_sub_cancel_left,aZ8,List.getElem?_set,if_pos rfl,if_pos hp];rfl
 ·rw[if_neg e];by_cases h1:j<off
  ·rw[if_pos h1,if_pos h1]
  ·rw[if_neg h1,if_neg h1];by_cases h2:j<off+ws.length
   ·rw[if_pos h2,if_pos h2,aZ8,aZ8,List.getElem?_set,if_neg (by omega)]
   ·rw[if_neg h2,if_neg h2]
section
variable {w : Zp} {k : Nat} {l : Nat → Zp} {s : Nat} {b off mm n m n2 m2 : Nat} {xs : List Value} {e : TypeId} {R : As} {A : Option Addr}
theorem oZP (K:Value→Hp→Prop)(R2:Option Addr→Nat→Nat→Option Addr→Nat→Nat→Int→Int→Int→Hp→Prop)(hn:n=2^k)(hk:k≤20)(hsk:s<k)(hw:pw w (2^(k-1))=-1)(hx:off+n≤xs.length)(hR:∀ H,R H→Cells H A (Zd (dZy w (2^(k-1)))))(hn2:n2=2^(k-1))(bl:Nat)(hbl:bl*(2*2^s)+2*2^s≤n)
  (hK:∀ H,Sep [pts b (.row (setAt xs off (Zd (stL w k l s (dn (2^s) (bl+1) 0)))) e mm),R] H→R2 (some ⟨b,off,none⟩) n m A n2 m2 ((2^s:Nat):Int) ((2^(k-s-1):Nat):Int) (IntKind.i64.wrap (((bl*(2*2^s):Nat):Int)+IntKind.i64.wrap ((2:Int)*((2^s:Nat):Int)))) H):
  ∀(t i:Nat) (H:Hp),i+t=2^s→Sep [pts b (.row (setAt xs off (Zd (stL w k l s (dn (2^s) bl i)))) e mm),R] H→
   ZL.l5 K R2 (t+1) (some ⟨b,off,none⟩) n m A n2 m2 ((2^s:Nat):Int) ((2^(k-s-1):Nat):Int) ((bl*(2*2^s):Nat):Int) ((2^s:Nat):Int) (i:Int) H
 |0,i,H,hi,hs=>by
  unfold ZL.l5 ZL.l5.q1;refine Zm (by omega) (hK H ?_);rw[← tZ1,←show i=2^s by omega];rw[show dn i bl i=dn (2^s) bl i by rw[show i=2^s by omega]];exact hs
 |t+1,i,H,hi,hs=>by
  have h20:=aZW hk;have hst:i*2^(k-s-1)<2^(k-1):=by
   have h1:2^(k-1)=2^s*2^(k-s-1):=by rw[← Nat.pow_add];congr 1;omega
   rw[h1];exact Nat.mul_lt_mul_of_pos_right (by omega) (pow_pos _)
  have h19:=aZW (show k-1≤19 by omega);have e3:IntKind.i64.wrap ((i:Int)*((2^(k-s-1):Nat):Int))=((i*2^(k-s-1):Nat):Int):=by
   rw[← Int.natCast_mul,bZi (by omega)]
  have ih:=fun H=>oZP K R2 hn hk hsk hw hx hR hn2 bl hbl hK t (i+1) H (by omega)
  obtain⟨g1,g2⟩:=tZ5 w k l hsk hw bl i (by omega);have hset:=tZ2 (w:=w) (k:=k) (l:=l) (s:=s) (b:=bl) (i:=i) (2^s) (by omega) (by omega);rw[g1,g2]at hset;have hlen:=jZ4 w k l s (dn (2^s) bl i);obtain⟨d1,d2⟩:=uZ0 (2^s) bl i (by omega);have ga0:=hZB w k l s (dn (2^s) bl i) (p:=bl*(2*2^s)+i) (by omega);have gb0:=hZB w k l s (dn (2^s) bl i) (p:=bl*(2*2^s)+i+2^s) (by omega);rw[d1,if_neg (by decide)]at ga0;rw[d2,if_neg (by decide)]at gb0;generalize stg w k l s (bl*(2*2^s)+i)=va at*;generalize stg w k l s (bl*(2*2^s)+i+2^s)=vb at*;generalize stL w k l s (dn (2^s) bl i)=ws at*;generalize hf:bl*(2*2^s)=f at*;generalize hh:2^s=h at*;have hpg:=tZK w hst;generalize i*2^(k-s-1)=q at*;have e1:IntKind.i64.wrap ((f:Int)+(i:Int))=((f+i:Nat):Int):=by rw[← Int.natCast_add,bZi (by omega)]
  have e2:IntKind.i64.wrap (((f+i:Nat):Int)+(h:Int))=((f+i+h:Nat):Int):=by rw[← Int.natCast_add,bZi (by omega)]
  have hc:Cells H A (Zd (dZy w (2^(k-1)))):=by
   obtain⟨H1,h1,hle⟩:=hs.see 1 rfl;exact(hR H1 h1).le hle
  have hpv:(Zd (dZy w (2^(k-1))))[q]? =some (.int .u64 ((uw (pw w q)).toNat:Int)):=by rw[aZ8,hpg];rfl
  obtain⟨a3,rfl,hcell⟩:=hc q _ hpv;unfold ZL.l5 ZL.l5.q1;refine Zw (by omega) ?_;simp only[e1,e2,e3,aZ5,Int.toNat_natCast,Nat.mul_one,Addr.add_lit',Addr.add_zero];refine⟨by omega,by omega,by omega,by omega,by omega,by omega,?_⟩;have hla:f+i<ws.length:=by omega
  have hlb:f+i+h<ws.length:=by omega
  have ga:(setAt xs off (Zd ws))[off+(f+i)]? =some (.int .u64 ((uw va).toNat:Int)):=by
   rw[mZj (by omega) hla];rw[List.getElem?_eq_getElem hla]at ga0;rw[Option.some.inj ga0]
  have gb:(setAt xs off (Zd ws))[off+(f+i+h)]? =some (.int .u64 ((uw vb).toNat:Int)):=by
   rw[mZj (by omega) hlb];rw[List.getElem?_eq_getElem hlb]at gb0;rw[Option.some.inj gb0]
  repeat' first
   |refine⟨?_,?_⟩
   |(refine hs.ldr 0 rfl ga ?_;simp only[HV])
   |(refine hs.ldr 0 rfl gb ?_;simp only[HV])
   |(refine gZE hcell ?_;simp only[HV])
  all_goals
   refine Zc.use (nZP va vb (pw w q) H) ?_;simp only[HV];refine⟨by omega,by omega,?_⟩;refine hs.str 0 (j:=off+(f+i)) rfl (by rw[iZy (by omega)];omega) rfl fun H hs=>?_;rw[mZk (by omega) hla]at hs;refine⟨by omega,by omega,?_⟩;refine hs.str 0 (j:=off+(f+i+h)) rfl (by rw[iZy (by rw[List.length_set];omega)];omega) rfl fun H hs=>?_;rw[mZk (by rw[List.length_set];omega) (by rw[List.length_set];exact hlb),hset]at hs;rw[ZV (x:=(i:Int)+1) (by omega) (by omega),show(i:Int)+1=((i+1:Nat):Int) by omega];exact ih H hs
theorem tZ4 (hn:n=2^k)(hk:k≤20)(hsk:s<k)(hw:pw w (2^(k-1))=-1)(hx:off+n≤xs.length)(hR:∀ H,R H→Cells H A (Zd (dZy w (2^(k-1)))))(hn2:n2=2^(k-1))(h':Nat):
  Tr prog 248 #[.slice (some ⟨b,off,none⟩) n m,.slice A n2 m2,.int .i64 ((2^s:Nat):Int)] [pts b (.row (setAt xs off (Zd (stL w k l s (dn (2^s) 0 0)))) e mm),R] fun v M=>
   v= .tuple #[]∧M=[pts b (.row (setAt xs off (Zd (stL w k l (s+1) (dn h' 0 0)))) e mm),R]:=fun H hs=>by
 have h20:=aZW hk;have hp:=pow_pos s;have hsk2:=aZW (show s+1≤k by omega);rw[Nat.pow_succ]at hsk2;have hdv:2^k=2^(k-s-1)*(2*2^s):=by
  rw[show 2*2^s=2^(s+1) by rw[Nat.pow_succ];omega,←Nat.pow_add];congr 1;omega
 apply ZL.ok;unfold ZL;have e0:IntKind.i64.wrap ((2:Int)*((2^s:Nat):Int))=((2*2^s:Nat):Int):=by rw[ZV (by omega) (by omega)];omega
 have e1:IntKind.i64.wrap (Int.tdiv (n:Int) ((2*2^s:Nat):Int))=((2^(k-s-1):Nat):Int):=by
  rw[show Int.tdiv (n:Int) ((2*2^s:Nat):Int)=((n/(2*2^s):Nat):Int)from rfl,hn,hdv,Nat.mul_div_cancel _ (by omega),bZi (by have:=aZW (show k-s-1≤19 by omega);omega)]
 rw[e0,e1];refine⟨by omega,by simp,⟨2^(k-s-1)+1,?_⟩⟩;have key:∀(t bl:Nat) (H:Hp),bl+t=2^(k-s-1)→Sep [pts b (.row (setAt xs off (Zd (stL w k l s (dn (2^s) bl 0)))) e mm),R] H→
   ZL.l2 (fun v H'=>∃ M,(v= .tuple #[]∧M=[pts b (.row (setAt xs off (Zd (stL w k l (s+1) (dn h' 0 0)))) e mm),R])∧Sep M H') (t+1) (some ⟨b,off,none⟩) n m A n2 m2 ((2^s:Nat):Int) ((2^(k-s-1):Nat):Int) ((bl*(2*2^s):Nat):Int) H:=fun t=>by
  induction t with
  |zero=>
   intro bl H hb hs;unfold ZL.l2;refine Zm (by rw[hn,hdv,show bl=2^(k-s-1) by omega];omega) ⟨_,⟨rfl,rfl⟩,?_⟩;rw[← vZC (2^s) h' (b:=bl) (by rw[hdv,show bl=2^(k-s-1) by omega];exact Nat.le_refl _)];exact hs
  |succ t ih=>
   intro bl H hb hs;have hfit:bl*(2*2^s)+2*2^s≤n:=by
    rw[hn,hdv,←Nat.succ_mul];exact Nat.mul_le_mul_right _ (by omega)
   unfold ZL.l2;refine Zw (by omega) ⟨2^s+1,?_⟩;refine oZP _ _ hn hk hsk hw hx hR hn2 bl hfit (fun H hs=>?_) (2^s) 0 H (by omega) hs;rw[e0,←Int.natCast_add,bZi (by omega),←show(bl+1)*(2*2^s)=bl*(2*2^s)+2*2^s by rw[Nat.add_mul bl 1,Nat.one_mul]];exact ih (bl+1) H (by omega) hs
 have:=key (2^(k-s-1)) 0 H (by omega) hs;rw[Nat.zero_mul]at this;exact this
end
theorem Sep.ex {α:Type}{L:List As}{H:Hp}(h:Sep L H)(i:Nat){F:α→As}(hi:L[i]? =some fun H=>∃ x,F x H):∃ x,Sep (L.set i (F x)) H:=by
 induction L generalizing i H with
 |nil=>simp at hi
 |cons C L ih=>
  obtain⟨H1,H2,h1,h2,h3,h4,h5⟩:=h;cases i with
  |zero=>
   simp only[List.getElem?_cons_zero,Option.some.injEq]at hi;subst hi;obtain⟨x,hx⟩:=h4;exact⟨x,H1,H2,h1,h2,h3,hx,h5⟩
  |succ i=>
   obtain⟨x,hx⟩:=ih h5 i hi;exact⟨x,H1,H2,h1,h2,h3,h4,hx⟩
def knC (A0 A1:Option Addr)(h:Nat)(sh:Int)(k:Nat):Array Value:=#[.slice A0 h h,.slice A1 h h,.int .u64 sh,.int .i64 (k:Int)]
def KnT (kp k:Nat)(x:Option Addr×Option Addr×Int):As:=fun H=>H kp=some (.obj (.cells (knC x.1 x.2.1 (2^(k-1)) x.2.2 k) 300))∧Cells H x.1 (Zd (dZy (rtd false k) (2^(k-1))))∧Cells H x.2.1 (Zd (dZy (rtd true k) (2^(k-1))))
def Kn (kp k:Nat):As:=fun H=>∃ x,KnT kp k x H
theorem KnT.up {kp k:Nat}{x:Option Addr×Option Addr×Int}{H H':Hp}(h:KnT kp k x H)(l:H.le H'):KnT kp k x H':=by
 obtain⟨h1,h2,h3⟩:=h;exact⟨l _ _ h1,h2.le l,h3.le l⟩
theorem Sep.knT {L:List As}{H:Hp}(h:Sep L H)(i:Nat){kp k:Nat}{x:Option Addr×Option Addr×Int}(hi:L[i]? =some (KnT kp k x)):KnT kp k x H:=by
 obtain⟨H1,h1,h2⟩:=h.see i hi;exact h1.up h2
def pick (x:Option Addr×Option Addr×Int)(d:Bool):Option Addr:=if d=true then x.2.1 else x.1
theorem KnT.cells {kp k:Nat}{x:Option Addr×Option Addr×Int}{H:Hp}(h:KnT kp k x H)(d:Bool):Cells H (pick x d) (Zd (dZy (rtd d k) (2^(k-1)))):=by
 cases d
 ·exact h.2.1
 ·exact h.2.2
theorem dZA (k:Nat)(hk:k≤20):Tr prog 175 #[.int .i64 (k:Int)] [] fun v M=>∃ kp,v= .pointer (some ⟨kp,0,none⟩)∧M=[Kn kp k]:=fun H hs=>by
 apply bZb.ok;unfold bZb;refine Zm (by omega) (Zm (by omega) ?_);refine hs.nw fun kp H hs=>?_
 have hs:Sep [pts kp (.obj (.cells #[.slice none 0 0,.slice none 0 0,.int .u64 0,.int .i64 (k:Int)] 300))] H:=hs;refine⟨3,?_⟩;unfold bZb.l5;refine Zw (by decide) ?_;refine(nZ0 k hk false).use hs [] rfl rfl ?_;rintro _ _ H ⟨r0,rfl,rfl⟩ hs;simp only[HV];refine⟨by decide,by decide,?_⟩;simp only[Addr.add_lit'];refine hs.st 1 rfl (Nat.lt_of_sub_eq_succ rfl) rfl fun H hs=>?_;rw[show IntKind.i64.wrap (0+1)=1 by decide];unfold bZb.l5;refine Zw (by decide) ?_;refine(nZ0 k hk true).use hs [] rfl rfl ?_;rintro _ _ H ⟨r1,rfl,rfl⟩ hs;simp only[HV];refine⟨by decide,by decide,?_⟩;simp only[Addr.add_lit'];refine hs.st 2 rfl (Nat.lt_of_sub_eq_succ rfl) rfl fun H hs=>?_;rw[show IntKind.i64.wrap (1+1)=2 by decide];unfold bZb.l5;refine Zm (by decide) ?_;refine Zc.use (nZY (k:=k) (by omega) H) ?_;simp only[HV];simp only[Addr.add_lit'];refine hs.st 2 rfl (Nat.lt_of_sub_eq_succ rfl) rfl fun H hs=>?_;have hs:Sep [pts r1 (.row (Zd (dZy (rtd true k) (2^(k-1)))) 84 (2^(k-1)*1)),pts r0 (.row (Zd (dZy (rtd false k) (2^(k-1)))) 84 (2^(k-1)*1)),
  pts kp (.obj (.cells (knC (some ⟨r0,0,none⟩) (some ⟨r1,0,none⟩) (2^(k-1)) ((pw half k).val:Int) k) 300))] H:=hs
 have hcell:∀{r:Nat} {d:Bool},H r=some (.row (Zd (dZy (rtd d k) (2^(k-1)))) 84 (2^(k-1)*1))→Cells H (some ⟨r,0,none⟩) (Zd (dZy (rtd d k) (2^(k-1)))):=fun{r d} h=>by
  have:=Cells.row h 0 (2^(k-1));rw[List.drop_zero,List.take_of_length_le (by rw[ZA,iZW];exact Nat.le_refl _)]at this;exact this
 exact⟨[Kn kp k],⟨kp,rfl,rfl⟩,H,fun _=>none,Hp.le_refl _,fun _ _ h=>(nomatch h),fun _=>.inr rfl,⟨(some ⟨r0,0,none⟩,some ⟨r1,0,none⟩,((pw half k).val:Int)),hs.get 2 rfl,hcell (hs.get 1 rfl),hcell (hs.get 0 rfl)⟩,trivial⟩
theorem uZa {kp k:Nat}{x:Option Addr×Option Addr×Int}{H:Hp}(h:KnT kp k x H)(d:Bool):Zc prog 246 #[.pointer (some ⟨kp,0,none⟩),.int .i64 (if d=true then 1 else 0)] H (RetE (.tuple #[.slice (pick x d) (2^(k-1)) (2^(k-1)),.bool true]) H):=by
 obtain⟨h1,h2,h3⟩:=h;cases d
 ·apply bZ0.ok;unfold bZ0;refine Zm (by decide) (Zm (by decide) ?_);simp only[aZ5];refine⟨by decide,by decide,?_⟩;simp only[Addr.add_lit'];refine gZE (v:=.slice x.1 (2^(k-1)) (2^(k-1))) ?_ ?_
  ·show H.cell? ⟨kp,0,none⟩=_
   rw[fZG h1];rfl
  ·simp only[HV];exact RetE.mk _ _
 ·apply bZ0.ok;unfold bZ0;refine Zm (by decide) (Zm (by decide) ?_);simp only[aZ5];refine⟨by decide,by decide,?_⟩;simp only[Addr.add_lit'];refine gZE (v:=.slice x.2.1 (2^(k-1)) (2^(k-1))) ?_ ?_
  ·show H.cell? ⟨kp,1,none⟩=_
   rw[fZG h1];rfl
  ·simp only[HV];exact RetE.mk _ _
theorem jZz {H:Hp}{b off mm:Nat}{xs:List Value}{ws:List UInt64}{e:TypeId}(h:H b=some (.row (setAt xs off (Zd ws)) e mm))(hx:off+ws.length≤xs.length):Cells H (some ⟨b,off,none⟩) (Zd ws):=by
 have h1:=Cells.row h off ws.length;have e1:((setAt xs off (Zd ws)).drop off).take ws.length=Zd ws:=by
  apply List.ext_getElem?;intro j;rw[List.getElem?_take];by_cases hj:j<ws.length
  ·rw[if_pos hj,List.getElem?_drop,mZj hx hj,aZ8,List.getElem?_eq_getElem hj];rfl
  ·rw[if_neg hj,List.getElem?_eq_none (by rw[ZA];omega)]
 rw[e1]at h1;exact h1
section
variable {TT : As} {kp k b off mm n m : Nat} {l : List UInt64} {xs : List Value} {e : TypeId} {d : Bool}
theorem pZA (K:Value→Hp→Prop)(hn:n=l.length)(hn20:n≤1048576)(hx:off+n≤xs.length){A5:Option Addr}{n5 m5 r mr:Nat}{tl:List UInt64}(htl:tl.length=n){L:List As}
  (hK:∀ H,Sep (pts b (.row (setAt xs off (Zd (tl.map fun x=>uw (zw x)))) e mm)::L) H→∃ f,ZE.l13 K f (some ⟨b,off,none⟩) n m A5 n5 m5 1 H):
  ∀(t i:Nat) (H:Hp),i+t=n→Sep (pts b (.row (setAt xs off (Zd ((tl.take i).map (fun x=>uw (zw x))++l.drop i))) e mm)::pts r (.row (Zd tl) 84 mr)::L) H→
   ZE.l8 K (t+1) (some ⟨b,off,none⟩) n m A5 n5 m5 (some ⟨r,0,none⟩) n n (n:Int) (i:Int) H
 |0,i,H,hi,hs=>by
  unfold ZE.l8;refine Zm (by omega) (hK H ?_);rw[List.take_of_length_le (by omega),List.drop_eq_nil_of_le (by omega),List.append_nil]at hs;obtain⟨H1,H2,h1,h2,h3,h4,h5⟩:=hs;exact⟨H1,H2,h1,h2,h3,h4,h5.tail⟩
 |t+1,i,H,hi,hs=>by
  unfold ZE.l8;refine Zw (by omega) ?_;have hil:i<tl.length:=by omega
  refine⟨by omega,by omega,?_⟩;show Ld H _ _
  rw[Int.toNat_natCast,Nat.mul_one,Addr.add_lit',Nat.zero_add];refine hs.ldr 1 (v:=.int .u64 ((tl[i]).toNat:Int)) rfl (by rw[aZ8,List.getElem?_eq_getElem hil];rfl) ?_;simp only[HV];refine Zc.use (eZJ (tl[i]).toNat_lt H) ?_;simp only[HV];have hlen:((tl.take i).map (fun x=>uw (zw x))++l.drop i).length=n:=by rw[List.length_append,List.length_map,List.length_take,List.length_drop];omega
  refine⟨by omega,by omega,?_⟩;rw[Addr.add_lit',Addr.add_zero];refine hs.str 0 rfl (by rw[iZy (by omega)];omega) rfl fun H hs=>?_;have e1:(setAt xs off (Zd ((tl.take i).map (fun x=>uw (zw x))++l.drop i))).set (off+i) (.int .u64 (((tl[i]).toNat%18446744069414584321:Nat):Int))=setAt xs off (Zd ((tl.take (i+1)).map (fun x=>uw (zw x))++l.drop (i+1))):=by
   have:(((tl[i]).toNat%18446744069414584321:Nat):Int)=((uw (zw tl[i])).toNat:Int):=by rw[hZV];rfl
   rw[this,mZk (by omega) (by omega)];congr 2;have hlt:((tl.take i).map (fun x=>uw (zw x))).length=i:=by rw[List.length_map,List.length_take];omega
   rw[List.set_append_right _ _ (by omega),hlt,Nat.sub_self,List.take_add_one,List.getElem?_eq_getElem hil];simp only[Option.toList,List.map_append,List.append_assoc];congr 1;rw[List.drop_eq_getElem_cons (show i<l.length by omega)];rfl
  rw[e1]at hs;rw[ZV (x:=(i:Int)+1) (by omega) (by omega),show(i:Int)+1=((i+1:Nat):Int) by omega];exact pZA K hn hn20 hx htl hK t (i+1) H (by omega) hs
theorem tZa (hT:∀ H,TT H→T64 H)(hk:k≤20)(hn:n=2^k)(hl:l.length=n)(hx:off+n≤xs.length)(hseg:setAt xs off (Zd l)=xs)(d:Bool):
  Tr prog 234 #[.pointer (some ⟨kp,0,none⟩),.slice (some ⟨b,off,none⟩) n m,.int .i64 (if d=true then 1 else 0)] [pts b (.row xs e mm),Kn kp k,TT] fun v M=>
   v= .int .i64 0∧M=[pts b (.row (setAt xs off (Zd (cZP d k l))) e mm),Kn kp k,TT]:=fun H hs=>by
 have h20:=aZW hk;have h1:=pow_pos k;apply ZE.ok;unfold ZE;simp only[aZ5];obtain⟨x,hs⟩:=Sep.ex hs 1 rfl;have hs:Sep [pts b (.row xs e mm),KnT kp k x,TT] H:=hs;have hkn:=(Sep.knT hs 1 rfl).1;refine gZE (v:=.int .i64 (k:Int)) ?_ ?_
 ·show H.cell? ((⟨kp,0,none⟩:Addr).add 3)=_
  rw[Addr.add_lit',fZG hkn];rfl
 simp only[HV];rw[bZ1 (by omega)];refine⟨by omega,?_⟩;have e1:aZY .i64 1 (k:Int)=(n:Int):=by
  have:∀ k:Nat,k<21→aZY .i64 1 (k:Int)=((2^k:Nat):Int):=by decide +kernel
  rw[this k (by omega),hn]
 rw[e1];refine ZB rfl ?_;simp only[Addr.add_zero];refine Zc.use (uZa (Sep.knT hs 1 rfl) d) ?_;simp only[HV];have hc:∀ H,pts b (.row xs e mm) H→Cells H (some ⟨b,off,none⟩) (Zd l):=fun H h=>by
  have h:H b=some (.row xs e mm):=h;rw[← hseg]at h;exact jZz h (by omega)
 refine(uZT (n:=n) (m:=m) (k:=k) (l:=l) hT hc hn hl hk).use hs [0,2] rfl rfl ?_;rintro _ _ H ⟨r,rfl,rfl⟩ hs;simp only[HV];have hs:Sep [pts r (.row (Zd (eZx k l)) 84 (n*1)),pts b (.row xs e mm),TT,KnT kp k x] H:=hs;refine⟨n+1,?_⟩;have htl:(eZx k l).length=n:=by rw[hn];simp[eZx]
 refine pZA (L:=[TT,KnT kp k x]) (mr:=n*1) (e:=e) (mm:=mm) _ hl.symm (by omega) hx htl (fun H hs=>?_) n 0 H (by omega) ?_
 ·rw[tZ3 (rtd d k) k l 1]at hs;refine⟨k+1,?_⟩;have key:∀(t s:Nat) (H:Hp),s+t=k→Sep [pts b (.row (setAt xs off (Zd (stL (rtd d k) k (at' l) s (dn (2^s) 0 0)))) e mm),TT,KnT kp k x] H→
    ZE.l13 (fun v H'=>∃ M,(v= .int .i64 0∧M=[pts b (.row (setAt xs off (Zd (cZP d k l))) e mm),Kn kp k,TT])∧Sep M H') (t+1) (some ⟨b,off,none⟩) n m (pick x d) (2^(k-1)) (2^(k-1)) ((2^s:Nat):Int) H:=fun t=>by
   induction t with
   |zero=>
    intro s H hst hs;obtain rfl:s=k:=by omega
    unfold ZE.l13;refine Zm (by omega) ⟨_,⟨rfl,rfl⟩,?_⟩;rw[vZB]at hs;have hs:=hs.re [0,2,1] rfl;exact hs.turn 1 rfl (B:=Kn kp s) fun H1 h=>⟨x,h⟩
   |succ t ih=>
    intro s H hst hs;have hsk:2^s<2^k:=Nat.pow_lt_pow_right (by omega) (by omega);have hsp:=pow_pos s;unfold ZE.l13;refine Zw (by omega) ?_;have hw:pw (rtd d k) (2^(k-1))=-1:=vZt d (by omega) (by omega);refine(tZ4 (m:=m) (m2:=2^(k-1)) (A:=pick x d) (R:=KnT kp k x) (l:=at' l) (s:=s) (mm:=mm) hn hk (by omega) hw hx (fun H h=>h.cells d) rfl (2^(s+1))).use hs [0,2] rfl rfl ?_;rintro _ _ H ⟨rfl,rfl⟩ hs;rw[ZV (by omega) (by omega),show((2^s:Nat):Int)*2=((2^(s+1):Nat):Int) by rw[Nat.pow_succ];omega];exact ih (s+1) H (by omega) (hs.re [0,2,1] rfl)
  exact key k 0 H (by omega) hs
 ·rw[List.take_zero,List.map_nil,List.nil_append,List.drop_zero,hseg];exact hs.re [1,0,2,3] rfl
end
end Ker
namespace W
open Go Go.Hw
theorem eZT :prog.follows .mixedOrders=true:=by kernel_rfl
def bZm.l14 (K:Value→Hp→Prop):Nat→Addr→Int→Addr→Int→Option Addr→Option Addr→Nat→Nat→Hp→Prop
 |0,_,_,_,_,_,_,_,_,_=>False
 |k+1,a2,x14,a3,x15,p5,A1,n1,m1,H=>
  let R14:=bZm.l14 K k
  LeI H (a2.add 1) fun x16=>BIf (decide (x15<x16)) (HcI 171 #[.pointer (some a3),.int .i64 x15,.int .i64 x14] H fun x17 H5=>BIf (x17 !=0) (aZ9 prog 130 #[.pointer p5,.slice A1 n1 m1] H5 fun _ H8=>K (.tuple #[.int .u32 0,.int .i64 x17]) H8) (HcI 172 #[.pointer (some a3),.int .i64 x15] H5 fun x18 H6=>BIf (x18 !=0) (aZ9 prog 130 #[.pointer p5,.slice A1 n1 m1] H6 fun _ H9=>K (.tuple #[.int .u32 0,.int .i64 x18]) H9) (R14 a2 x14 a3 (IntKind.i64.wrap (x15+x14)) p5 A1 n1 m1 H6))) (HcU 126 #[.pointer (some (a3.add 0))] H fun x19 H7=>aZ9 prog 130 #[.pointer p5,.slice A1 n1 m1] H7 fun _ H10=>K (.tuple #[.int .u32 x19,.int .i64 0]) H10)
def bZm (p1:Option Addr)(p2:Option Addr)(x1:Int)(x2:Int)(p3:Option Addr)(x3:Int)(H:Hp)(K:Value→Hp→Prop):Prop:=
 Nw H (.obj (.cells #[.int .i64 x1,.int .i64 x2] 118)) fun b1 H1=>BIf p1.isNone (K (.tuple #[.int .u32 0,.int .i64 1]) H1) (BIf p2.isNone (K (.tuple #[.int .u32 0,.int .i64 1]) H1) (BIf p3.isNone (K (.tuple #[.int .u32 0,.int .i64 1]) H1) (LdA H1 ⟨b1,0,none⟩ 2 fun l1=>QcB 168 #[.agg l1.toArray] H1 fun c1=>BIf (!c1) (K (.tuple #[.int .u32 0,.int .i64 19]) H1) (QcI 80 #[.pointer p1] H1 fun x4=>LdA H1 ⟨b1,0,none⟩ 2 fun l2=>QcI 169 #[.agg l2.toArray] H1 fun x5=>BIf (x4 !=x5) (K (.tuple #[.int .u32 0,.int .i64 19]) H1) (QcI 80 #[.pointer p2] H1 fun x6=>LdA H1 ⟨b1,0,none⟩ 2 fun l3=>QcI 169 #[.agg l3.toArray] H1 fun x7=>BIf (x6 !=x7) (K (.tuple #[.int .u32 0,.int .i64 19]) H1) (LdA H1 ⟨b1,0,none⟩ 2 fun l4=>NN p3 fun a1=>QcI 166 #[.pointer (some (a1.add 0))] H1 fun x8=>Qz 170 #[.agg l4.toArray,.int .i64 x3,.int .i64 x8] H1 fun v7=>iZe v7 fun x9 c2=>(BIf (!c2) (K (.tuple #[.int .u32 0,.int .i64 6]) H1) (LeI H1 ((⟨b1,0,none⟩:Addr).add 0) fun x10=>Hz 128 #[.pointer p3,.int .i64 (IntKind.i64.wrap (x9*x10))] H1 fun v11 H2=>dZ9 v11 fun p4 x11=>(BIf (x11 !=0) (K (.tuple #[.int .u32 0,.int .i64 x11]) H2) (Nw H2 (.row [.pointer p4] 206 1) fun b2 H3=>LdA H3 ⟨b1,0,none⟩ 2 fun l11=>iZH l11.toArray.toList fun x12 x13=>(Nw H3 (.obj (.cells #[.int .u32 0,.int .i64 0,.pointer p1,.pointer p2,.int .i64 x12,.int .i64 x13,.pointer p4] 265)) fun b3 H4=>(∃ k,bZm.l14 K k ⟨b1,0,none⟩ x9 ⟨b3,0,none⟩ 0 p3 (some ⟨b2,0,none⟩) 1 1 H4))))))))))))
def bZm.l14.L (K:Value→Hp→Prop)(k:Nat):Mid:=fun E D H=>
 eN E 7 fun a2=>eI E 12 .i64 fun x14=>eN E 15 fun a3=>eI E 16 .i64 fun x15=>cZD 130 D fun dc0 da0 D1=>aZd dc0 (Zv da0 fun u0da0 r0da0=>DP u0da0 fun p5=>Zv r0da0 fun u1da0 r1da0=>DSl u1da0 fun A1 n1 m1=>aZd r1da0 (Zo D1 (bZm.l14 K k a2 x14 a3 x15 p5 A1 n1 m1 H)))
def bZm.Λ14 (_:Value→Hp→Prop)(_R14:Addr→Int→Addr→Int→Option Addr→Option Addr→Nat→Nat→Hp→Prop):Zn:=Zn.none (fun _=>none)
def bZm.Λ (K:Value→Hp→Prop):Zn:=⟨fun i=>none,fun i=>match Nat.beq i 14 with|true=>some (fun E D H=>∃ k,bZm.l14.L K k E D H)|false=>none,(fun _=>none)⟩
theorem bZm.ok (p1:Option Addr)(p2:Option Addr)(x1:Int)(x2:Int)(p3:Option Addr)(x3:Int)(H:Hp)(K:Value→Hp→Prop)(h:bZm p1 p2 x1 x2 p3 x3 H K):Zc prog 131 #[.pointer p1,.pointer p2,.agg #[.int .i64 x1,.int .i64 x2],.pointer p3,.int .i64 x3] H K:=
 Zr Tryz.func131 rfl (nbl rfl) (Zf (Λ:=(bZm.Λ K)) eZT _ _ _ _ _ (Eq.mp (by kernel_rfl) h) (Zb Za rfl (Zb (Zu (Zb Za rfl (Zk (Zb Za rfl Zy) (Zb Za rfl (Zk (Zb Za rfl Zy) Zl))))) rfl (Zb Za rfl (Zb (Zb Za rfl (Zk (Zb Za rfl Zy) Zl)) rfl (Zb Za rfl (Zb (Zb Za rfl (Zk (Zb Za rfl Zy) Zl)) rfl (Zb Za rfl (Zb Za rfl (Zb (Zb Za rfl (Zu (ZZ rfl (fun E D H h=>by
   refine Safe.loop' (bZm.l14.L K) (fun E D H h=>?_) (fun k E D H h=>?_) E D H h
   ·obtain⟨w7,e7,g1⟩:=DG.out h;obtain⟨pw7,rfl,g2⟩:=DP.out g1;obtain⟨a2,rfl,g3⟩:=NN.out g2;obtain⟨w12,e12,g4⟩:=DG.out g3;obtain⟨x14,rfl,g5⟩:=DI.out g4;obtain⟨w15,e15,g6⟩:=DG.out g5;obtain⟨pw15,rfl,g7⟩:=DP.out g6;obtain⟨a3,rfl,g8⟩:=NN.out g7;obtain⟨w16,e16,g9⟩:=DG.out g8;obtain⟨x15,rfl,g10⟩:=DI.out g9;obtain⟨dc0,da0,D1,rfl,g11⟩:=cZD.out g10;obtain⟨rfl,g12⟩:=aZd.out g11;obtain⟨u0da0,r0da0,rfl,g13⟩:=Zv.out g12;obtain⟨p5,rfl,g14⟩:=DP.out g13;obtain⟨u1da0,r1da0,rfl,g15⟩:=Zv.out g14;obtain⟨A1,n1,m1,rfl,g16⟩:=DSl.out g15;obtain⟨rfl,g17⟩:=aZd.out g16;obtain⟨rfl,h'⟩:=Zo.out g17;exact h'
   ·obtain⟨a2,e7,g3⟩:=GN h;obtain⟨x14,e12,g5⟩:=GI g3;obtain⟨a3,e15,g8⟩:=GN g5;obtain⟨x15,e16,g10⟩:=GI g8;obtain⟨dc0,da0,D1,rfl,g11⟩:=cZD.out g10;obtain⟨rfl,g12⟩:=aZd.out g11;obtain⟨u0da0,r0da0,rfl,g13⟩:=Zv.out g12;obtain⟨p5,rfl,g14⟩:=DP.out g13;obtain⟨u1da0,r1da0,rfl,g15⟩:=Zv.out g14;obtain⟨A1,n1,m1,rfl,g16⟩:=DSl.out g15;obtain⟨rfl,g17⟩:=aZd.out g16;obtain⟨rfl,h'⟩:=Zo.out g17;exact(Zf (Λ:=(bZm.Λ14 K (bZm.l14 K k))) eZT _ _ [(7,.pointer (some a2)),(12,.int .i64 x14),(15,.pointer (some a3)),(16,.int .i64 x15)] [{ target:=.fn (.func 130) #[],args:=#[.pointer p5,.slice A1 n1 m1]}] H (Eq.mp (by kernel_rfl) h') (Zb (Zb Za rfl (Zk Zl ZS)) rfl (Zb (Zu (Zb (Zb Za rfl (Zb Za rfl (Zk (Zb Za rfl Zy) Zl))) rfl (Zb Za rfl (Zb Za rfl (Zk (Zb Za rfl Zy) Zl))))) rfl Za))).weaken (Ze.cons e7 (Ze.cons e12 (Ze.cons e15 (Ze.cons e16 (Ze.nil _))))) (Hp.le_refl _))))) rfl (Zb Za rfl Zy)))))))))))
def aZ6.l4 (K:Value→Hp→Prop):Nat→Int→Int→Addr→Int→Hp→Prop
 |0,_,_,_,_,_=>False
 |k+1,x6,x7,a1,x8,H=>
  let R4:=aZ6.l4 K k
  LeI H (a1.add 1) fun x9=>BIf (decide ((IntKind.i64.wrap (2*x8))≤x9)) (LeI H (a1.add 0) fun x10=>(x10≠0∧IntKind.i64=IntKind.i64∧BIf (decide ((IntKind.i64.wrap (2*x8))≤(IntKind.i64.wrap (Int.tdiv (IntKind.i64.wrap (x7-x6)) x10)))) (R4 x6 x7 a1 (IntKind.i64.wrap (x8*2)) H) (K (.tuple #[.int .i64 x8,.bool true]) H))) (K (.tuple #[.int .i64 x8,.bool true]) H)
def aZ6 (x1:Int)(x2:Int)(x3:Int)(x4:Int)(H:Hp)(K:Value→Hp→Prop):Prop:=
 Nw H (.obj (.cells #[.int .i64 x1,.int .i64 x2] 118)) fun b1 H1=>LdA H1 ⟨b1,0,none⟩ 2 fun l1=>HcB 168 #[.agg l1.toArray] H1 fun c1 H2=>BIf (!c1) (K (.tuple #[.int .i64 0,.bool false]) H2) (BIf (decide (x3<4)) (K (.tuple #[.int .i64 0,.bool false]) H2) (BIf (decide (x3>512)) (K (.tuple #[.int .i64 0,.bool false]) H2) (BIf ((aZF .i64 x3 (IntKind.i64.wrap (x3-1))) !=0) (K (.tuple #[.int .i64 0,.bool false]) H2) (BIf (decide (x4<x3)) (K (.tuple #[.int .i64 0,.bool false]) H2) (LeI H2 ((⟨b1,0,none⟩:Addr).add 0) fun x5=>BIf (decide ((IntKind.i64.wrap (x4-x3))<x5)) (K (.tuple #[.int .i64 0,.bool false]) H2) ((∃ k,aZ6.l4 K k x3 x4 ⟨b1,0,none⟩ 1 H2)))))))
def aZ6.l4.L (K:Value→Hp→Prop)(k:Nat):Mid:=fun E D H=>
 eI E 1 .i64 fun x6=>eI E 2 .i64 fun x7=>eN E 3 fun a1=>eI E 6 .i64 fun x8=>Zo D (aZ6.l4 K k x6 x7 a1 x8 H)
def aZ6.Λ4 (_:Value→Hp→Prop)(_R4:Int→Int→Addr→Int→Hp→Prop):Zn:=Zn.none (fun _=>none)
def aZ6.Λ (K:Value→Hp→Prop):Zn:=⟨fun i=>none,fun i=>match Nat.beq i 4 with|true=>some (fun E D H=>∃ k,aZ6.l4.L K k E D H)|false=>none,(fun _=>none)⟩
theorem aZ6.ok (x1:Int)(x2:Int)(x3:Int)(x4:Int)(H:Hp)(K:Value→Hp→Prop)(h:aZ6 x1 x2 x3 x4 H K):Zc prog 170 #[.agg #[.int .i64 x1,.int .i64 x2],.int .i64 x3,.int .i64 x4] H K:=
 Zr Tryz.func170 rfl (nbl rfl) (Zf (Λ:=(aZ6.Λ K)) eZT _ _ _ _ _ (Eq.mp (by kernel_rfl) h) (Zb Za rfl (Zb (Zb Za rfl (Zk (Zb Za rfl Zy) Zl)) rfl (Zb Za rfl (Zb (Zu (ZZ rfl (fun E D H h=>by
   refine Safe.loop' (aZ6.l4.L K) (fun E D H h=>?_) (fun k E D H h=>?_) E D H h
   ·obtain⟨w1,e1,g1⟩:=DG.out h;obtain⟨x6,rfl,g2⟩:=DI.out g1;obtain⟨w2,e2,g3⟩:=DG.out g2;obtain⟨x7,rfl,g4⟩:=DI.out g3;obtain⟨w3,e3,g5⟩:=DG.out g4;obtain⟨pw3,rfl,g6⟩:=DP.out g5;obtain⟨a1,rfl,g7⟩:=NN.out g6;obtain⟨w6,e6,g8⟩:=DG.out g7;obtain⟨x8,rfl,g9⟩:=DI.out g8;obtain⟨rfl,h'⟩:=Zo.out g9;exact h'
   ·obtain⟨x6,e1,g2⟩:=GI h;obtain⟨x7,e2,g4⟩:=GI g2;obtain⟨a1,e3,g7⟩:=GN g4;obtain⟨x8,e6,g9⟩:=GI g7;obtain⟨rfl,h'⟩:=Zo.out g9;exact(Zf (Λ:=(aZ6.Λ4 K (aZ6.l4 K k))) eZT _ _ [(1,.int .i64 x6),(2,.int .i64 x7),(3,.pointer (some a1)),(6,.int .i64 x8)] [] H (Eq.mp (by kernel_rfl) h') (Zb (Zb Za rfl (Zk Zl ZS)) rfl (Zu Za))).weaken (Ze.cons e1 (Ze.cons e2 (Ze.cons e3 (Ze.cons e6 (Ze.nil _))))) (Hp.le_refl _)))) rfl (Zb Za rfl Zy))))))
def ZJ.l10 (K:Value→Hp→Prop)(R4:Option Addr→Int→Option Addr→Nat→Nat→Option Addr→Nat→Nat→Int→Int→Hp→Prop):Nat→Option Addr→Int→Option Addr→Nat→Nat→Option Addr→Nat→Nat→Int→Int→Int→Option Addr→Nat→Nat→Int→Int→Hp→Prop
 |0,_,_,_,_,_,_,_,_,_,_,_,_,_,_,_,_,_=>False
 |k+1,p5,x9,A5,n5,m5,A6,n6,m6,x10,x11,x12,A7,n7,m7,x13,x14,H=>
  let R10:=ZJ.l10 K R4 k
  BIf (decide (x14<x13)) (ixI x14 n7 (NN A7 fun a5=>LeW H (a5.add (x14.toNat*1)) fun x15=>NN p5 fun a6=>LeI H ((a6.add 4).add 0) fun x16=>ixI (IntKind.i64.wrap ((IntKind.i64.wrap (x14*x16))+x10)) n5 (NN A5 fun a7=>St H ((a7.add ((IntKind.i64.wrap ((IntKind.i64.wrap (x14*x16))+x10)).toNat*1)).add 0) (.int .u64 x15) fun H4=>R10 p5 x9 A5 n5 m5 A6 n6 m6 x10 x11 x12 A7 n7 m7 x13 (IntKind.i64.wrap (x14+1)) H4))) (R4 p5 x9 A5 n5 m5 A6 n6 m6 x11 (IntKind.i64.wrap (x12+1)) H)
def ZJ.l4 (K:Value→Hp→Prop):Nat→Option Addr→Int→Option Addr→Nat→Nat→Option Addr→Nat→Nat→Int→Int→Hp→Prop
 |0,_,_,_,_,_,_,_,_,_,_,_=>False
 |k+1,p3,x4,A3,n3,m3,A4,n4,m4,x5,x6,H=>
  let R4:=ZJ.l4 K k
  BIf (decide (x6<x5)) (NN p3 fun a3=>LeP H (a3.add 2) fun p4=>NN p3 fun a4=>LeI H ((a4.add 4).add 1) fun x7=>HcI 81 #[.pointer p4,.int .i64 (IntKind.i64.wrap ((IntKind.i64.wrap (x6*x7))+x4)),.slice A4 n4 m4] H fun x8 H3=>BIf (x8 !=0) (K (.int .i64 x8) H3) ((∃ k,ZJ.l10 K R4 k p3 x4 A3 n3 m3 A4 n4 m4 x6 x5 x6 A4 n4 m4 (n4:Int) 0 H3))) (K (.int .i64 0) H)
def ZJ (p1:Option Addr)(x1:Int)(x2:Int)(H:Hp)(K:Value→Hp→Prop):Prop:=
 NN p1 fun a1=>LeP H (a1.add 6) fun p2=>HcS 125 #[.pointer p2] H fun A1 n1 m1 H1=>MkS prog 84 x2 x2 H1 fun v3 H2=>DSl v3 fun A2 n2 m2=>NN p1 fun a2=>LeI H2 ((a2.add 4).add 0) fun x3=>(∃ k,ZJ.l4 K k p1 x1 A1 n1 m1 A2 n2 m2 x3 0 H2)
def ZJ.l4.L (K:Value→Hp→Prop)(k:Nat):Mid:=fun E D H=>
 eP E 0 fun p3=>eI E 1 .i64 fun x4=>DG (E.get? 7) fun w7=>DSl w7 fun A3 n3 m3=>DG (E.get? 8) fun w8=>DSl w8 fun A4 n4 m4=>eI E 24 .i64 fun x5=>eI E 25 .i64 fun x6=>Zo D (ZJ.l4 K k p3 x4 A3 n3 m3 A4 n4 m4 x5 x6 H)
def ZJ.l10.L (K:Value→Hp→Prop)(R4:Option Addr→Int→Option Addr→Nat→Nat→Option Addr→Nat→Nat→Int→Int→Hp→Prop)(k:Nat):Mid:=fun E D H=>
 eP E 0 fun p5=>eI E 1 .i64 fun x9=>DG (E.get? 7) fun w7=>DSl w7 fun A5 n5 m5=>DG (E.get? 8) fun w8=>DSl w8 fun A6 n6 m6=>eI E 9 .i64 fun x10=>eI E 24 .i64 fun x11=>eI E 25 .i64 fun x12=>DG (E.get? 46) fun w46=>DSl w46 fun A7 n7 m7=>eI E 47 .i64 fun x13=>eI E 48 .i64 fun x14=>Zo D (ZJ.l10 K R4 k p5 x9 A5 n5 m5 A6 n6 m6 x10 x11 x12 A7 n7 m7 x13 x14 H)
def ZJ.Λ10 (_:Value→Hp→Prop)(_R4:Option Addr→Int→Option Addr→Nat→Nat→Option Addr→Nat→Nat→Int→Int→Hp→Prop)(_R10:Option Addr→Int→Option Addr→Nat→Nat→Option Addr→Nat→Nat→Int→Int→Int→Option Addr→Nat→Nat→Int→Int→Hp→Prop):Zn:=Zn.none (fun i=>match Nat.beq i 6 with|true=>some ([],[0,1,2,3,4,5,6,7,8,9,10,11,12,13],14)|false=>none)
def ZJ.Λ4 (K:Value→Hp→Prop)(R4:Option Addr→Int→Option Addr→Nat→Nat→Option Addr→Nat→Nat→Int→Int→Hp→Prop):Zn:=⟨fun i=>none,fun i=>match Nat.beq i 10 with|true=>some (fun E D H=>∃ k,ZJ.l10.L K R4 k E D H)|false=>none,(fun i=>match Nat.beq i 6 with|true=>some ([],[0,1,2,3,4,5,6,7,8,9,10,11,12,13],14)|false=>none)⟩
def ZJ.Λ (K:Value→Hp→Prop):Zn:=⟨fun i=>none,fun i=>match Nat.beq i 4 with|true=>some (fun E D H=>∃ k,ZJ.l4.L K k E D H)|false=>none,(fun i=>match Nat.beq i 6 with|true=>some ([],[0,1,2,3,4,5,6,7,8,9,10,11,12,13],14)|false=>none)⟩
theorem ZJ.ok (p1:Option Addr)(x1:Int)(x2:Int)(H:Hp)(K:Value→Hp→Prop)(h:ZJ p1 x1 x2 H K):Zc prog 171 #[.pointer p1,.int .i64 x1,.int .i64 x2] H K:=
 Zr Tryz.func171 rfl (nbl rfl) (Zf (Λ:=(ZJ.Λ K)) eZT _ _ _ _ _ (Eq.mp (by kernel_rfl) h) (Zb Za rfl (Zb Za rfl (Zb Za rfl (Zb (Zb Za rfl (Zu (ZZ rfl (fun E D H h=>by
   refine Safe.loop' (ZJ.l4.L K) (fun E D H h=>?_) (fun k E D H h=>?_) E D H h
   ·obtain⟨w0,e0,g1⟩:=DG.out h;obtain⟨p3,rfl,g2⟩:=DP.out g1;obtain⟨w1,e1,g3⟩:=DG.out g2;obtain⟨x4,rfl,g4⟩:=DI.out g3;obtain⟨w7,e7,g5⟩:=DG.out g4;obtain⟨A3,n3,m3,rfl,g6⟩:=DSl.out g5;obtain⟨w8,e8,g7⟩:=DG.out g6;obtain⟨A4,n4,m4,rfl,g8⟩:=DSl.out g7;obtain⟨w24,e24,g9⟩:=DG.out g8;obtain⟨x5,rfl,g10⟩:=DI.out g9;obtain⟨w25,e25,g11⟩:=DG.out g10;obtain⟨x6,rfl,g12⟩:=DI.out g11;obtain⟨rfl,h'⟩:=Zo.out g12;exact h'
   ·obtain⟨p3,e0,g2⟩:=GP h;obtain⟨x4,e1,g4⟩:=GI g2;obtain⟨w7,e7,g5⟩:=DG.out g4;obtain⟨A3,n3,m3,rfl,g6⟩:=DSl.out g5;obtain⟨w8,e8,g7⟩:=DG.out g6;obtain⟨A4,n4,m4,rfl,g8⟩:=DSl.out g7;obtain⟨x5,e24,g10⟩:=GI g8;obtain⟨x6,e25,g12⟩:=GI g10;obtain⟨rfl,h'⟩:=Zo.out g12;exact(Zf (Λ:=(ZJ.Λ4 K (ZJ.l4 K k))) eZT _ _ [(0,.pointer p3),(1,.int .i64 x4),(7,.slice A3 n3 m3),(8,.slice A4 n4 m4),(24,.int .i64 x5),(25,.int .i64 x6)] [] H (Eq.mp (by kernel_rfl) h') (Zb Za rfl (Zb (Zk Zl ZS) rfl (Zb (Zu (Zb Za rfl (Zb (Zb Za rfl (Zb Za rfl (Zk (Zb Za rfl Zy) Zl))) rfl (Zb Za rfl (Zu (ZZ rfl (fun E D H h=>by
      refine Safe.loop' (ZJ.l10.L K (ZJ.l4 K k)) (fun E D H h=>?_) (fun k E D H h=>?_) E D H h
      ·obtain⟨w0,e0,g1⟩:=DG.out h;obtain⟨p5,rfl,g2⟩:=DP.out g1;obtain⟨w1,e1,g3⟩:=DG.out g2;obtain⟨x9,rfl,g4⟩:=DI.out g3;obtain⟨w7,e7,g5⟩:=DG.out g4;obtain⟨A5,n5,m5,rfl,g6⟩:=DSl.out g5;obtain⟨w8,e8,g7⟩:=DG.out g6;obtain⟨A6,n6,m6,rfl,g8⟩:=DSl.out g7;obtain⟨w9,e9,g9⟩:=DG.out g8;obtain⟨x10,rfl,g10⟩:=DI.out g9;obtain⟨w24,e24,g11⟩:=DG.out g10;obtain⟨x11,rfl,g12⟩:=DI.out g11;obtain⟨w25,e25,g13⟩:=DG.out g12;obtain⟨x12,rfl,g14⟩:=DI.out g13;obtain⟨w46,e46,g15⟩:=DG.out g14;obtain⟨A7,n7,m7,rfl,g16⟩:=DSl.out g15;obtain⟨w47,e47,g17⟩:=DG.out g16;obtain⟨x13,rfl,g18⟩:=DI.out g17;obtain⟨w48,e48,g19⟩:=DG.out g18;obtain⟨x14,rfl,g20⟩:=DI.out g19;obtain⟨rfl,h'⟩:=Zo.out g20;exact h'
      ·obtain⟨p5,e0,g2⟩:=GP h;obtain⟨x9,e1,g4⟩:=GI g2;obtain⟨w7,e7,g5⟩:=DG.out g4;obtain⟨A5,n5,m5,rfl,g6⟩:=DSl.out g5;obtain⟨w8,e8,g7⟩:=DG.out g6;obtain⟨A6,n6,m6,rfl,g8⟩:=DSl.out g7;obtain⟨x10,e9,g10⟩:=GI g8;obtain⟨x11,e24,g12⟩:=GI g10;obtain⟨x12,e25,g14⟩:=GI g12;obtain⟨w46,e46,g15⟩:=DG.out g14;obtain⟨A7,n7,m7,rfl,g16⟩:=DSl.out g15;obtain⟨x13,e47,g18⟩:=GI g16;obtain⟨x14,e48,g20⟩:=GI g18;obtain⟨rfl,h'⟩:=Zo.out g20;exact(Zf (Λ:=(ZJ.Λ10 K (ZJ.l4 K k) (ZJ.l10 K (ZJ.l4 K k) k))) eZT _ _ [(0,.pointer p5),(1,.int .i64 x9),(7,.slice A5 n5 m5),(8,.slice A6 n6 m6),(9,.int .i64 x10),(24,.int .i64 x11),(25,.int .i64 x12),(46,.slice A7 n7 m7),(47,.int .i64 x13),(48,.int .i64 x14)] [] H (Eq.mp (by kernel_rfl) h') (Zb Za rfl (Zb (Zk Zl ZS) rfl (Zb (Zu (Zb Za rfl Za)) rfl Za)))).weaken (Ze.cons e0 (Ze.cons e1 (Ze.cons e7 (Ze.cons e8 (Ze.cons e9 (Ze.cons e24 (Ze.cons e25 (Ze.cons e46 (Ze.cons e47 (Ze.cons e48 (Ze.nil _))))))))))) (Hp.le_refl _)))))))) rfl Za)))).weaken (Ze.cons e0 (Ze.cons e1 (Ze.cons e7 (Ze.cons e8 (Ze.cons e24 (Ze.cons e25 (Ze.nil _))))))) (Hp.le_refl _))))) rfl (Zb Za rfl Zy))))))
def eZ5 (p1:Option Addr)(x1:Int)(H:Hp)(K:Value→Hp→Prop):Prop:=
 NN p1 fun a1=>NN p1 fun a2=>LeP H (a2.add 6) fun p2=>QcS 125 #[.pointer p2] H fun A1 n1 m1=>Hz 124 #[.pointer (some (a1.add 0)),.slice A1 n1 m1] H fun v3 H1=>NN p1 fun a3=>LeP H1 (a3.add 3) fun p3=>NN p1 fun a4=>LeI H1 ((a4.add 4).add 0) fun x2=>NN p1 fun a5=>LeP H1 (a5.add 6) fun p4=>QcS 125 #[.pointer p4] H1 fun A2 n2 m2=>HcI 97 #[.pointer p3,.int .i64 (IntKind.i64.wrap (x1*x2)),.slice A2 n2 m2] H1 fun x3 H2=>K (.int .i64 x3) H2
theorem eZ5.ok (p1:Option Addr)(x1:Int)(H:Hp)(K:Value→Hp→Prop)(h:eZ5 p1 x1 H K):Zc prog 172 #[.pointer p1,.int .i64 x1] H K:=
 Zr Tryz.func172 rfl (nbl rfl) (Zf (Λ:=Zn.none (fun i=>match Nat.beq i 2 with|true=>some ([],[0,1,2,3,4,5,6,7,8,9,10,11,12,13,14,15],16)|false=>match Nat.beq i 1 with|true=>some ([],[0,1,2,3,4,5,6,7],8)|false=>none)) eZT _ _ _ _ _ (Eq.mp (by kernel_rfl) h) (Zt _ _ _ _ _))
end W
namespace Trn
open Go Go.Hw W Shp
def cZR (p:Int):Bool:=p==4||p==8||p==16||p==32||p==64||p==128||p==256||p==512
theorem sZf :(List.range 513).all (fun n=>decide (n<4)||((n&&&(n-1)==0)==cZR (n:Int)))=true:=by decide +kernel
theorem mZe {p:Int}(h4:4≤p)(h5:p≤512):(aZF .i64 p (IntKind.i64.wrap (p-1))=0)↔cZR p=true:=by
 obtain⟨n,rfl⟩:=Int.eq_ofNat_of_zero_le (show 0≤p by omega);rw[show((n:Int)-1)=((n-1:Nat):Int) by omega,ZV (by omega) (by omega),Lay.iZL (by omega) (by omega)];have ht:=List.all_eq_true.1 sZf n (by simp;omega);simp only[Bool.or_eq_true,decide_eq_true_eq,beq_iff_eq]at ht;have ht:=ht.resolve_left (by omega);rw[← ht];simp only[beq_iff_eq];omega
theorem eZ9 {p:Int}(h:cZR p=true):4≤p∧p≤512:=by
 simp only[cZR,Bool.or_eq_true,beq_iff_eq]at h;omega
structure cZC (r c:Int)(per free:Int)(j:Nat):Prop where
 le:((2^j:Nat):Int)≤c
 fit:((2^j:Nat):Int)*r≤free-per
 most:((2^j:Nat):Int)=c∨free-per<2*((2^j:Nat):Int)*r
def nZw (r c per free:Int)(v:Value):Prop:=
 (¬ (dZN r c=true∧cZR per=true∧per≤free∧r≤free-per)∧v= .tuple #[.int .i64 0,.bool false])∨
 ((dZN r c=true∧cZR per=true∧per≤free∧r≤free-per)∧∃ j:Nat,cZC r c per free j∧v= .tuple #[.int .i64 ((2^j:Nat):Int),.bool true])
theorem rZx {r c per free:Int}{ea eb:Nat}(hr:r=((2^ea:Nat):Int))(hc:c=((2^eb:Nat):Int))(hab:ea+eb≤32)(hp:cZR per=true)(hf:per≤free∧free≤9223372036854775807)(K:Value→Hp→Prop)(b1:Nat){L:List As}(i:Nat)
  (hi:L[i]? =some (pts b1 (.obj (.cells #[.int .i64 r,.int .i64 c] 118)))) {H:Hp} (hs:Sep L H) (hK:∀ j,cZC r c per free j→K (.tuple #[.int .i64 ((2^j:Nat):Int),.bool true]) H):
  ∀(t j:Nat),j+t=eb→((2^j:Nat):Int)*r≤free-per→aZ6.l4 K (t+1) per free ⟨b1,0,none⟩ ((2^j:Nat):Int) H:=by
 have hpr:=eZ9 hp;have hra:=pow_pos ea;have hca:=aZW (show ea≤32 by omega);rw[show 2^32=4294967296 by decide]at hca;have key:∀(j:Nat),j<eb→aZ6.l4 K 0 per free ⟨b1,0,none⟩ ((2^j:Nat):Int) H=False:=fun _ _=>rfl
 intro t
 induction t with
 |zero=>
  intro j hj hfit;have hje:j=eb:=by omega
  have hp2:=aZW (show j≤32 by omega);rw[show 2^32=4294967296 by decide]at hp2;have hz:=Int.natCast_nonneg (2^j);have hq:((2^j:Nat):Int)≤4294967296:=Int.ofNat_le.2 hp2;unfold aZ6.l4;refine hs.ldf i hi rfl ?_;simp only[HV];rw[ZV (by omega) (by omega)];refine Zm ?_ (hK j ⟨by rw[hc,hje];exact Int.le_refl _,hfit,.inl (by rw[hc,hje])⟩);rw[hc,←hje];have:=pow_pos j;omega
 |succ t ih=>
  intro j hj hfit;have hp2:=aZW (show j+1≤32 by omega);rw[show 2^32=4294967296 by decide,Nat.pow_succ]at hp2;have h2:IntKind.i64.wrap ((2:Int)*((2^j:Nat):Int))=((2^(j+1):Nat):Int):=by
   rw[ZV (by omega) (by omega),Nat.pow_succ];omega
  have hle:((2^(j+1):Nat):Int)≤c:=by
   rw[hc];have:=aZW (show j+1≤eb by omega);omega
  unfold aZ6.l4;refine hs.ldf i hi rfl ?_;simp only[HV];rw[h2];refine Zw hle ?_;refine hs.ldf i hi rfl ?_;simp only[HV];refine⟨by omega,trivial,?_⟩;obtain⟨f,hfe⟩:=Int.eq_ofNat_of_zero_le (show 0≤free-per by omega);rw[ZV (x:=free-per) (by omega) (by omega)];rw[show Int.tdiv (free-per) r=((f/2^ea:Nat):Int) by rw[hfe,hr];rfl];have hdl:f/2^ea≤f:=Nat.div_le_self _ _;rw[bZi (by omega)];have hiff:(((2^(j+1):Nat):Int)≤((f/2^ea:Nat):Int))↔((2^(j+1):Nat):Int)*r≤free-per:=by
   rw[Int.ofNat_le,Nat.le_div_iff_mul_le (by omega),hfe,hr,←Int.natCast_mul,Int.ofNat_le]
  by_cases hc2:((2^(j+1):Nat):Int)*r≤free-per
  ·refine Zw (hiff.2 hc2) ?_;have h3:IntKind.i64.wrap (((2^j:Nat):Int)*(2:Int))=((2^(j+1):Nat):Int):=by rw[Int.mul_comm];exact h2
   rw[h3];exact ih (j+1) (by omega) hc2
  ·refine Zm (fun h=>hc2 (hiff.1 h)) (hK j ⟨?_,hfit,.inr ?_⟩)
   ·rw[hc];have:=aZW (show j≤eb by omega);omega
   ·have e:(2:Int)*((2^j:Nat):Int)=((2^(j+1):Nat):Int):=by rw[Nat.pow_succ];omega
    rw[e];omega
theorem uZI (r c per free:Int)(hper: -9223372036854775808≤per∧per≤9223372036854775807)(hf:free≤9223372036854775807)(H:Hp)(hT:T64 H):
  Zc prog 170 #[.agg #[.int .i64 r,.int .i64 c],.int .i64 per,.int .i64 free] H fun v H'=>nZw r c per free v∧H'=H:=by
 refine Zc.forget ?_;apply aZ6.ok;unfold aZ6;refine(Sep.start H).nw fun b1 H1 hs=>?_
 have out:∀{v:Value},nZw r c per free v→∃ H'',H''.le H1∧nZw r c per free v∧H''=H:=fun h=>⟨H,hs.ow 0 rfl,h,rfl⟩
 first|refine hs.ldw 1 rfl rfl ?_
 try simp only[HV]
 refine Zc.use (bZZ r c H1 (hT.le (hs.ow 0 rfl))) ?_;simp only[HV];cases hg:dZN r c with
 |false=>exact aZN rfl (out (.inl ⟨fun h=>(by rw[hg]at h;cases h.1),rfl⟩))
 |true=>
  refine aZu rfl ?_;by_cases h1:per<4
  ·exact Zw h1 (out (.inl ⟨fun h=>(by have:=eZ9 h.2.1;omega),rfl⟩))
  refine Zm h1 ?_;by_cases h2:per>512
  ·exact Zw h2 (out (.inl ⟨fun h=>(by have:=eZ9 h.2.1;omega),rfl⟩))
  refine Zm h2 ?_;have hpb:=mZe (p:=per) (by omega) (by omega);cases hp:cZR per with
  |false=>exact ZK (fun h=>by rw[hpb.1 h]at hp;cases hp) (out (.inl ⟨fun h=>(by rw[hp]at h;cases h.2.1),rfl⟩))
  |true=>
   refine ZB (hpb.2 hp) ?_;by_cases h3:free<per
   ·exact Zw h3 (out (.inl ⟨fun h=>(by omega),rfl⟩))
   refine Zm h3 ?_
   first|refine hs.ldf 1 rfl rfl ?_|refine hs.ldg 1 rfl rfl ?_
   try simp only[HV]
   rw[ZV (x:=free-per) (by omega) (by omega)];by_cases h4:free-per<r
   ·exact Zw h4 (out (.inl ⟨fun h=>(by omega),rfl⟩))
   refine Zm h4 ?_;obtain⟨ea,eb,hr,hc,hab,_,_⟩:=hZn hg;refine⟨eb+1,?_⟩;have:=rZx hr hc hab hp ⟨by omega,hf⟩ (fun v H'=>∃ H'',H''.le H'∧nZw r c per free v∧H''=H) b1 1 rfl hs (fun j hj=>out (.inr ⟨⟨hg,hp,by omega,by omega⟩,j,hj,rfl⟩)) eb 0 (by omega) (by rw[Nat.pow_zero];omega);exact this
end Trn
namespace CrcP
open Go Go.Hw Go.Crc Go.Form W
def wZe (i:Nat):W32:=if i=0 then tZI else 1#32<<<(i-1)
def Rep (m:Nat→W32)(f:W32→W32):Prop:=Lin f∧∀ i,i<32→m i=f (1#32<<<i)
theorem Rep.bit :Rep wZe eZo:=⟨oZn,by
 have:(List.range 32).all (fun i=>wZe i==eZo (1#32<<<i))=true:=by decide +kernel
 intro i hi;have:=List.all_eq_true.1 this i (by simpa using hi);simpa using this⟩
def counter (s:W32)(n:Nat):AO:=.obj (.cells #[.int .u32 (s.toNat:Int),.int .i64 (n:Int)] 204)
theorem kZZ (c:Nat)(s:W32)(k:Nat)(A:Option Addr)(n m:Nat)(bs:List UInt8)(hn:n=bs.length)(H:Hp)(hc:H c=some (counter s k))(hb:Cells H A (Zx bs))(hk:k+n≤9223372036854775807):
  Zc prog 164 #[.pointer (some ⟨c,0,none⟩),.slice A n m] H (RetE (.tuple #[]) (H.set c (counter (more s bs) (k+n)))):=by
 apply cZu.ok;unfold cZu;simp only[aZ5,Addr.add_lit',Nat.add_zero,Nat.zero_add];refine bZt hc (v:=.int .u32 (s.toNat:Int)) rfl ?_;simp only[HV];refine Zc.use (lZY s A n m bs hn (by omega) H hb) ?_
 try simp only[HV]
 refine hZD hc (by simp) rfl ?_;refine bZt (Hp.set_same _ _ _) (v:=.int .i64 (k:Int)) rfl ?_;simp only[HV];refine hZD (Hp.set_same _ _ _) (by simp) rfl ?_;rw[Hp.set_set,show((k:Int)+(n:Int))=((k+n:Nat):Int) by omega,bZi hk];exact RetE.mk _ _
theorem oZ1 (c:Nat)(s:W32)(k:Nat)(A:Option Addr)(n m:Nat)(l:List UInt64)(hn:n=l.length)(H:Hp)(hc:H c=some (counter s k))(hl:Cells H A (Zd l))(hn2:n≤10000000000)(hk:k≤1000000000000):
  Zc prog 124 #[.pointer (some ⟨c,0,none⟩),.slice A n m] H (RetE (.tuple #[]) (H.set c (counter (more s (form l)) (k+8*n)))):=by
 apply Zc.ret;apply bZO.ok;unfold bZO;refine(FormP.Put_ok A n m l hn (by omega) H hl).mono ?_;rintro v H' ⟨b,hb,rfl,rfl⟩;simp only[HV];have hf:(form l).length=8*n:=by rw[bZh,hn]
 have hle:=Hp.le_set (o:=.row (Zx (form l)) 5 (8*n)) hb;refine Zc.use (kZZ c s k (some ⟨b,0,none⟩) (8*n) (8*n) (form l) hf.symm _ (hle _ _ hc) (by have:=Cells.row (Hp.set_same H b (.row (Zx (form l)) 5 (8*n))) 0 (8*n);rwa [List.drop_zero,List.take_of_length_le (by rw[ZT,hf];omega)]at this) (by omega)) ?_
 try simp only[HV]
 exact⟨rfl,Hp.set_le hle _ _⟩
theorem uZK (c:Nat)(s:W32)(k:Nat)(H:Hp)(hc:H c=some (counter s k)):Zc prog 126 #[.pointer (some ⟨c,0,none⟩)] H (RetE (.int .u32 (s.toNat:Int)) H):=by
 apply cZv.ok;unfold cZv;simp only[aZ5,Addr.add_lit',Nat.add_zero,Nat.zero_add];refine bZt hc (v:=.int .u32 (s.toNat:Int)) rfl ?_;simp only[HV];exact RetE.mk _ _
section
variable (A1 A2 : Option Addr) (n1 m1 n2 m2 : Nat) (ps : List (Option Addr × Nat × Nat × List UInt8)) (ws : List (Option Addr × Nat × Nat × List UInt64)) (H0 : Hp) (c : Nat)
end
def iZN (s:W32)(k:Nat)(r:List Value):Array Value:=(Value.int .u32 (s.toNat:Int)::Value.int .i64 (k:Int)::r).toArray
section
variable {L : List As} {H : Hp}
theorem vZT (h:Sep L H)(i:Nat){c:Nat}{s:W32}{k:Nat}{r:List Value}{t:TypeId}(hi:L[i]? =some (pts c (.obj (.cells (iZN s k r) t))))(A:Option Addr)(n m:Nat)(bs:List UInt8)(hn:n=bs.length)(hb:∀ H',H.le H'→Cells H' A (Zx bs))(hk:k+n≤9223372036854775807){K:Value→Hp→Prop}
  (kk:∀ H',Sep (L.set i (pts c (.obj (.cells (iZN (more s bs) (k+n) r) t)))) H'→K (.tuple #[]) H'):Zc prog 164 #[.pointer (some ⟨c,0,none⟩),.slice A n m] H K:=by
 apply cZu.ok;unfold cZu;simp only[aZ5];refine h.ldf i hi rfl ?_;simp only[HV];refine Zc.use (lZY s A n m bs hn (by omega) H (hb H (Hp.le_refl _))) ?_
 try simp only[HV]
 refine h.stf i hi (by show 0<(_::_::r:List Value).toArray.size;simp) rfl fun H1 hs1=>?_
 have hi1:(L.set i (pts c (.obj (.cells ((iZN s k r).setIfInBounds 0 (.int .u32 ((more s bs).toNat:Int))) t))))[i]? =some (pts c (.obj (.cells (iZN (more s bs) k r) t))):=by
  rw[List.getElem?_set];simp only[(List.getElem?_eq_some_iff.1 hi).1,if_true];rfl
 refine hs1.ldf i hi1 rfl ?_;simp only[HV];refine hs1.stf i hi1 (by show 1<(_::_::r:List Value).toArray.size;simp) rfl fun H2 hs2=>?_
 rw[show((k:Int)+(n:Int))=((k+n:Nat):Int) by omega,bZi hk,List.set_set]at hs2;exact kk H2 hs2
theorem kZa (h:Sep L H)(i:Nat){c:Nat}{s:W32}{k:Nat}{r:List Value}{t:TypeId}(hi:L[i]? =some (pts c (.obj (.cells (iZN s k r) t))))(A:Option Addr)(n m:Nat)(l:List UInt64)(hn:n=l.length)(hl:Cells H A (Zd l))(hn2:n≤10000000000)(hk:k≤1000000000000){K:Value→Hp→Prop}
  (kk:∀ H',Sep (L.set i (pts c (.obj (.cells (iZN (more s (form l)) (k+8*n) r) t)))) H'→K (.tuple #[]) H'):Zc prog 124 #[.pointer (some ⟨c,0,none⟩),.slice A n m] H K:=by
 apply bZO.ok;unfold bZO;refine(FormP.Put_ok A n m l hn (by omega) H hl).mono ?_;rintro v H' ⟨b,hb,rfl,rfl⟩;simp only[HV];have hf:(form l).length=8*n:=by rw[bZh,hn]
 have hs:=h.new hb (.row (Zx (form l)) 5 (8*n));have hlt:=(List.getElem?_eq_some_iff.1 hi).1;refine vZT hs i (by rw[List.getElem?_append_left hlt];exact hi) (some ⟨b,0,none⟩) (8*n) (8*n) (form l) hf.symm (fun H' hle=>?_) (by omega) fun H' hs'=>?_
 ·have:=Cells.row (hle _ _ (Hp.set_same H b (.row (Zx (form l)) 5 (8*n)))) 0 (8*n)
  rwa [List.drop_zero,List.take_of_length_le (by rw[ZT,hf];omega)]at this
 ·rw[List.set_append_left _ _ hlt]at hs';exact kk H' (Sep.take hs')
theorem pZg (h:Sep L H)(i:Nat){c:Nat}{s:W32}{k:Nat}{r:List Value}{t:TypeId}(hi:L[i]? =some (pts c (.obj (.cells (iZN s k r) t)))):Zc prog 126 #[.pointer (some ⟨c,0,none⟩)] H (RetE (.int .u32 (s.toNat:Int)) H):=by
 apply cZv.ok;unfold cZv;simp only[aZ5];refine h.ldf i hi rfl ?_;simp only[HV];exact RetE.mk _ _
end
end CrcP
namespace Trn
open Go Go.Hw Go.Crc Go.Form W Shp Str Dsk Are
theorem uZ8 {r a i a' i':Nat}(hi:i<r)(hi':i'<r)(h:a*r+i=a'*r+i'):a=a'∧i=i':=by
 have h1:(a*r+i)/r=a:=by rw[Nat.add_comm,Nat.add_mul_div_right _ _ (by omega),Nat.div_eq_of_lt hi,Nat.zero_add]
 have h2:(a'*r+i')/r=a':=by rw[Nat.add_comm,Nat.add_mul_div_right _ _ (by omega),Nat.div_eq_of_lt hi',Nat.zero_add]
 have:a=a':=by rw[← h1,←h2,h]
 subst this;exact⟨rfl,by omega⟩
def tZP (p q:Nat)(r c:Nat)(bn:Nat):List Value:=[.pointer (some ⟨p,0,none⟩),.pointer (some ⟨q,0,none⟩),.int .i64 (r:Int),.int .i64 (c:Int),.pointer (some ⟨bn,0,none⟩)]
def cZh (s:W32)(k:Nat)(p q:Nat)(r c:Nat)(bn:Nat):AO:=.obj (.cells (CrcP.iZN s k (tZP p q r c bn)) 265)
structure Fil (F:Nat→Nat→UInt64)(rows b i k:Nat)(ws:List UInt64):Prop where
 len:ws.length=b*rows
 got:∀ k' i',k'<b→i'<rows→(i'<i∨(i'=i∧k'<k))→ws[k'*rows+i']? =some (F i' k')
theorem rZ8 {k b rows i:Nat}(hk:k<b)(hi:i<rows):k*rows+i<b*rows:=by
 have:(k+1)*rows≤b*rows:=Nat.mul_le_mul_right rows hk;rw[Nat.succ_mul]at this;omega
theorem Fil.step {F:Nat→Nat→UInt64}{rows b i k:Nat}{ws:List UInt64}(h:Fil F rows b i k ws)(hk:k<b)(hi:i<rows):Fil F rows b i (k+1) (ws.set (k*rows+i) (F i k)):=by
 have hlt:=rZ8 hk hi;refine⟨by rw[List.length_set];exact h.len,fun k' i' hk' hi' hc=>?_⟩;rw[List.getElem?_set];by_cases e:k*rows+i=k'*rows+i'
 ·obtain⟨rfl,rfl⟩:=uZ8 hi hi' e;rw[if_pos rfl,if_pos (by rw[h.len];exact hlt)]
 ·rw[if_neg e];refine h.got k' i' hk' hi' ?_;rcases hc with hc|⟨rfl,hc⟩
  ·exact .inl hc
  ·refine .inr ⟨rfl,?_⟩;by_cases e2:k'=k
   ·subst e2;exact absurd rfl e
   ·omega
theorem Fil.next {F:Nat→Nat→UInt64}{rows b i:Nat}{ws:List UInt64}(h:Fil F rows b i b ws):Fil F rows b (i+1) 0 ws:=⟨h.len,fun k' i' hk' hi' hc=>h.got k' i' hk' hi' (by omega)⟩
theorem Fil.all {F:Nat→Nat→UInt64}{rows b:Nat}{ws:List UInt64}(hr:0<rows)(h:Fil F rows b rows 0 ws):ws=(List.range (b*rows)).map fun j=>F (j%rows) (j/rows):=by
 apply List.ext_getElem?;intro j;by_cases hj:j<b*rows
 ·have hd:j/rows<b:=by rw[Nat.div_lt_iff_lt_mul hr];exact hj
  have hm:=Nat.mod_lt j hr;have:=h.got (j/rows) (j%rows) hd hm (.inl hm);rw[Nat.mul_comm,Nat.div_add_mod]at this;rw[this,List.getElem?_map,List.getElem?_range hj];rfl
 ·rw[List.getElem?_eq_none (by rw[h.len];omega),List.getElem?_eq_none (by simp;omega)]
theorem oZV (ws:List UInt64)(i:Nat)(w:UInt64):(Zd ws).set i (.int .u64 (w.toNat:Int))=Zd (ws.set i w):=by
 unfold Zd;rw[List.map_set]
section
variable {rn p q dp ap bn bb rl : Nat} {s : W32} {sk : Nat} {x : X} {ea eb j : Nat} {cap peak : Int} {bufs : List (Nat × Nat × Option Addr)} {mb mr : Nat}
theorem rZN (K:Value→Hp→Prop)(R4:Option Addr→Int→Option Addr→Nat→Nat→Option Addr→Nat→Nat→Int→Int→Hp→Prop)(F:Nat→Nat→UInt64){rows cols b i:Nat}(hr:rows*b≤4294967296)(hb1:1≤b)(hi:i<rows)(c:Int)(row:List UInt64)(hrow:row.length=b)(hF:∀ k,k<b→row[k]? =some (F i k)){L:List As}
  (hK:∀ ws H,Fil F rows b (i+1) 0 ws→Sep (pts rn (cZh s sk p q rows cols bn)::pts bb (.row (Zd ws) 84 mb)::pts rl (.row (Zd row) 84 mr)::L) H→R4 (some ⟨rn,0,none⟩) c (some ⟨bb,0,none⟩) (b*rows) (b*rows) (some ⟨rl,0,none⟩) b b (rows:Int) ((i+1:Nat):Int) H):
  ∀(t k:Nat) (ws:List UInt64) (H:Hp),k+t=b→Fil F rows b i k ws→Sep (pts rn (cZh s sk p q rows cols bn)::pts bb (.row (Zd ws) 84 mb)::pts rl (.row (Zd row) 84 mr)::L) H→
   ZJ.l10 K R4 (t+1) (some ⟨rn,0,none⟩) c (some ⟨bb,0,none⟩) (b*rows) (b*rows) (some ⟨rl,0,none⟩) b b (i:Int) (rows:Int) (i:Int) (some ⟨rl,0,none⟩) b b (b:Int) (k:Int) H:=fun t=>by
 induction t with
 |zero=>
  intro k ws H hk hf hs;have hkb:k=b:=by omega
  subst hkb;unfold ZJ.l10;refine Zm (by omega) ?_;have hr1:rows*1≤rows*k:=Nat.mul_le_mul_left rows (by omega);rw[show((i:Int)+1)=((i+1:Nat):Int) by omega,bZi (by omega)];exact hK ws H hf.next hs
 |succ t ih=>
  intro k ws H hk hf hs;have hkb:k<b:=by omega
  have hlt:=rZ8 hkb hi;have hcm:=Nat.mul_comm b rows;unfold ZJ.l10;refine Zw (by omega) ?_;have hg:(Zd row)[k]? =some (.int .u64 ((F i k).toNat:Int)):=by rw[aZ8,hF k hkb];rfl
  refine⟨by omega,by omega,?_⟩;show Ld H _ _
  rw[Int.toNat_natCast,Nat.mul_one,Addr.add_lit',Nat.zero_add];refine hs.ldr 2 rfl hg ?_;simp only[HV];refine hs.ldg 0 rfl rfl ?_;simp only[HV];have e:IntKind.i64.wrap (IntKind.i64.wrap ((k:Int)*(rows:Int))+(i:Int))=((k*rows+i:Nat):Int):=by
   rw[← Int.natCast_mul,bZi (by omega),show(((k*rows:Nat):Int)+(i:Int))=((k*rows+i:Nat):Int) by omega,bZi (by omega)]
  rw[e];refine⟨by omega,by omega,?_⟩;show St H _ _ _
  rw[Int.toNat_natCast,Nat.mul_one,Addr.add_lit',Addr.add_lit',Nat.zero_add,Nat.add_zero];refine hs.str 1 (b:=bb) (xs:=Zd ws) (e:=84) (m:=mb) rfl (by rw[ZA,hf.len];exact hlt) rfl fun H hs=>?_;rw[oZV]at hs;rw[ZV (x:=(k:Int)+1) (by omega) (by have:b*1≤b*rows:=Nat.mul_le_mul_left b (by omega);omega)];exact ih (k+1) _ H (by omega) (hf.step hkb hi) hs
def gR (per f cols c b i:Nat):Nat:=((List.range i).map fun i'=>(pcs per f b (i'*cols+c) b).length).sum
theorem iZr (per f cols c b i:Nat):gR per f cols c b (i+1)=gR per f cols c b i+(pcs per f b (i*cols+c) b).length:=by
 unfold gR;rw[List.range_succ,List.map_append,List.sum_append];simp
theorem uZ5 (per f cols c b:Nat):∀{i j:Nat},i≤j→gR per f cols c b i≤gR per f cols c b j:=fun{i j} h=>by
 induction h with
 |refl=>exact Nat.le_refl _
 |step h ih=>rw[iZr];omega
theorem nZz (per f cols c b:Nat):∀ i,gR per f cols c b i≤i*b
 |0=>by simp[gR]
 |i+1=>by
  rw[iZr,Nat.succ_mul];have:=nZz per f cols c b i;have:=dZo per f b (i*cols+c) b;omega
theorem vZr (d:D)(a b:Nat):D.rdG (D.rdG d a) b=D.rdG d (a+b):=by
 unfold D.rdG;simp only[D.mk.injEq,true_and,and_true];omega
theorem lZz (a b:Int):mx (mx a b) b=mx a b:=by
 unfold mx;by_cases h:b>a
 ·rw[if_pos h,if_neg (by omega)]
 ·rw[if_neg h,if_neg h]
theorem jZ0 {d:D}{x:X}{fr n k:Nat}(h:k<n):(pws d x fr n)[k]? =some (pw d x (fr+k)):=by
 unfold pws;rw[List.getElem?_map,List.getElem?_range h];rfl
def pZw (rn p q dp ap bn bb:Nat)(s:W32)(sk:Nat)(d:D)(x:X)(rows cols b c:Nat)(cap peak:Int)(bufs:List (Nat×Nat×Option Addr))(mb:Nat)(v:Value)(M:List As):Prop:=
 ((d.fuse=0∨gR (D.per d) x.f cols c b rows<d.fuse)∧v= .int .i64 0∧
  M=[pts rn (cZh s sk p q rows cols bn),pts bb (.row (Zd ((List.range (b*rows)).map fun j=>pw d x (j%rows*cols+c+j/rows))) 84 mb),pts p (ZP dp ap x),Dk dp (D.rdG d (gR (D.per d) x.f cols c b rows)),Ar ap cap (mx peak (ZN bufs+D.per d)) bufs])∨
 (∃ d',cZz (fun _=>False) d d'∧d.fuse≤gR (D.per d) x.f cols c b rows∧v= .int .i64 8∧M=[pts rn (cZh s sk p q rows cols bn),pts p (ZP dp ap x),Dk dp d',Ar ap cap (mx peak (ZN bufs+D.per d)) bufs])
theorem oZ8 (K:Value→Hp→Prop){d:D}{rows cols b c:Nat}(hok:Ok d)(hl:d.down=false)(hx:On d x)(ho:d.rd≤4000000000000000000)(hw:x.w=rows*cols)(hb1:1≤b)(hcb:c+b≤cols)(hsz:rows*cols≤4294967296)(hr1:1≤rows)(hcap:(D.per d:Int)≤cap-ZN bufs)
  (hK:∀ v M H,pZw rn p q dp ap bn bb s sk d x rows cols b c cap peak bufs mb v M→Sep M H→K v H):
  ∀(t i:Nat) (ws row:List UInt64) (pk:Int) (H:Hp),i+t=rows→(d.fuse=0∨gR (D.per d) x.f cols c b i<d.fuse)→Fil (fun i k=>pw d x (i*cols+c+k)) rows b i 0 ws→row.length=b→mx pk (ZN bufs+D.per d)=mx peak (ZN bufs+D.per d)→(i=0∨pk=mx peak (ZN bufs+D.per d))→
   Sep [pts rn (cZh s sk p q rows cols bn),pts bb (.row (Zd ws) 84 mb),pts rl (.row (Zd row) 84 mr),pts p (ZP dp ap x),Dk dp (D.rdG d (gR (D.per d) x.f cols c b i)),Ar ap cap pk bufs] H→
   ZJ.l4 K (t+1) (some ⟨rn,0,none⟩) (c:Int) (some ⟨bb,0,none⟩) (b*rows) (b*rows) (some ⟨rl,0,none⟩) b b (rows:Int) (i:Int) H:=fun t=>by
 have hrb:rows*b≤4294967296:=Nat.le_trans (Nat.mul_le_mul_left rows (show b≤cols by omega)) hsz;have hr32:rows*1≤rows*cols:=Nat.mul_le_mul_left rows (by omega)
 induction t with
 |zero=>
  intro i ws row pk H hi hgo hf hrow hpk hip hs;have hir:i=rows:=by omega
  subst hir;unfold ZJ.l4;refine Zm (by omega) (hK _ _ H (.inl ⟨hgo,rfl,?_⟩) (hs.re [0,1,3,4,5] rfl));rw[← hf.all (by omega),hip.resolve_left (by omega)];rfl
 |succ t ih=>
  intro i ws row pk H hi hgo hf hrow hpk hip hs;have hir:i<rows:=by omega
  have hfr:i*cols+c+b≤rows*cols:=by
   have:(i+1)*cols≤rows*cols:=Nat.mul_le_mul_right cols hir;rw[Nat.succ_mul]at this;omega
  unfold ZJ.l4;refine Zw (by omega) ?_;simp only[aZ5];refine hs.ldf 0 rfl rfl ?_;simp only[HV];refine hs.ldg 0 rfl rfl ?_;simp only[HV];have e:IntKind.i64.wrap (IntKind.i64.wrap ((i:Int)*(cols:Int))+(c:Int))=((i*cols+c:Nat):Int):=by
   rw[← Int.natCast_mul,bZi (by omega),show(((i*cols:Nat):Int)+(c:Int))=((i*cols+c:Nat):Int) by omega,bZi (by omega)]
  rw[e];have hgl:=nZz (D.per d) x.f cols c b i;have hib:i*b≤rows*b:=Nat.mul_le_mul_right b (by omega);have hper:D.per (D.rdG d (gR (D.per d) x.f cols c b i))=D.per d:=rfl;have hpg:=Prog.rdG (fun _=>False) hok hl hgo;refine(kZA (p:=p) (dp:=dp) (ap:=ap) (d:=D.rdG d (gR (D.per d) x.f cols c b i)) (x:=x) (cap:=cap) (peak:=pk) (bufs:=bufs) (rl:=rl) (off:=0) (mm:=mr) (el:=84) (xs:=Zd row) (Ok.rdG hok _) hl ⟨hx.w1,hx.s1,hx.fit,hx.room⟩ (by show d.rd+_≤_;omega) (i*cols+c) b b hb1 (by omega) (Nat.le_refl _) (by rw[ZA,hrow];omega) hcap).use hs [3,4,5,2] rfl rfl ?_;rintro v M H (⟨hgo2,rfl,rfl⟩|⟨j,xs',hj,hfj,hx',rfl,rfl⟩) hs
  ·simp only[HV];refine ZB rfl ⟨b+1,?_⟩;rw[vZr,hper,←iZr]at hs;have hset:setAt (Zd row) 0 (Zd (pws (D.rdG d (gR (D.per d) x.f cols c b i)) x (i*cols+c) b))=Zd (pws d x (i*cols+c) b):=by
    rw[gZ4 (by rw[ZA,ZA,eZe,hrow])];rfl
   rw[hset,hpk]at hs;have hgo3:d.fuse=0∨gR (D.per d) x.f cols c b (i+1)<d.fuse:=by
    rw[iZr];have h1:(D.rdG d (gR (D.per d) x.f cols c b i)).fuse=d.fuse-gR (D.per d) x.f cols c b i:=rfl;rw[h1,hper]at hgo2;omega
   have hs:=hs.re [4,5,3,0,1,2] rfl;refine rZN K _ (fun i k=>pw d x (i*cols+c+k)) hrb hb1 hir (c:Int) (pws d x (i*cols+c) b) (eZe _ _ _ _) (fun k hk=>jZ0 hk) (fun ws' H hf' hs=>?_) b 0 ws H (by omega) hf hs;exact ih (i+1) ws' _ (mx peak (ZN bufs+D.per d)) H (by omega) hgo3 hf' (eZe _ _ _ _) (lZz _ _) (.inr rfl) hs
  ·simp only[HV];refine ZK (by decide) (hK _ _ H (.inr ⟨_,hpg.dead (cZz.rdG _ hpg.ok hpg.down hfj),?_,rfl,?_⟩) (hs.re [4,0,1,2] rfl))
   ·have h1:(D.rdG d (gR (D.per d) x.f cols c b i)).fuse=d.fuse-gR (D.per d) x.f cols c b i:=rfl;rw[h1]at hfj;have h2:=uZ5 (D.per d) x.f cols c b (show i+1≤rows by omega);rw[iZr]at h2;rw[hper]at hj;omega
   ·rw[hper,hpk];rfl
theorem rZO {d:D}{rows cols b c:Nat}(hok:Ok d)(hl:d.down=false)(hx:On d x)(ho:d.rd≤4000000000000000000)(hw:x.w=rows*cols)(hb1:1≤b)(hcb:c+b≤cols)(hsz:rows*cols≤4294967296)(hr1:1≤rows)(hcap:(D.per d:Int)≤cap-ZN bufs)(hbn:(bn,b*rows,some ⟨bb,0,none⟩)∈bufs)(ws:List UInt64)(hws:ws.length=b*rows):
  Tr prog 171 #[.pointer (some ⟨rn,0,none⟩),.int .i64 (c:Int),.int .i64 (b:Int)] [pts rn (cZh s sk p q rows cols bn),pts bb (.row (Zd ws) 84 mb),pts p (ZP dp ap x),Dk dp d,Ar ap cap peak bufs] (pZw rn p q dp ap bn bb s sk d x rows cols b c cap peak bufs mb):=fun H hs=>by
 have hrb:rows*b≤4294967296:=Nat.le_trans (Nat.mul_le_mul_left rows (show b≤cols by omega)) hsz;have hb32:1*b≤rows*b:=Nat.mul_le_mul_right b hr1;apply ZJ.ok;unfold ZJ;simp only[aZ5];refine hs.ldf 0 rfl rfl ?_;simp only[HV];refine Zc.use (eZD hs 4 rfl hbn) ?_
 try simp only[HV]
 refine hs.mks bZR rfl (n:=b) (m:=b) rfl rfl (Nat.le_refl _) (by omega) (by omega) fun rl H hs=>?_
 simp only[HV];refine hs.ldg 0 rfl rfl ?_;simp only[HV];refine⟨rows+1,?_⟩;have hz:aZK (#[Value.int .u64 0]:Array Value).toList b=Zd (List.replicate b 0):=by
  show aZK [Value.int .u64 0] b=_
  rw[bZD];unfold Zd;rw[List.map_replicate];rfl
 rw[hz]at hs;refine oZ8 (rl:=rl) (mr:=b*1) (peak:=peak) _ hok hl hx ho hw hb1 hcb hsz hr1 hcap (fun v M H h hs=>⟨M,h,hs⟩) rows 0 ws (List.replicate b 0) peak H (by omega) (by simp[gR];omega) ⟨hws,fun k' i' _ _ h=>by omega⟩ (by simp) rfl (.inl rfl) ?_;exact hs.re [0,1,5,2,3,4] rfl
end
end Trn
namespace Str
open Go Go.Hw Go.Form W Dsk Are
theorem tZS {ws src:List UInt64}{a:Nat}(ha:a≤ws.length)(i:Nat):(eZg ws a src)[i]? =if i<a then ws[i]? else if i<a+src.length then src[i-a]? else ws[i]? :=by
 unfold eZg;have hl:(ws.take a).length=a:=by rw[List.length_take];omega
 rw[List.append_assoc];by_cases h1:i<a
 ·rw[if_pos h1,List.getElem?_append_left (by omega),List.getElem?_take_of_lt h1]
 ·rw[if_neg h1,List.getElem?_append_right (by omega),hl];by_cases h2:i<a+src.length
  ·rw[if_pos h2,List.getElem?_append_left (by omega)]
  ·rw[if_neg h2,List.getElem?_append_right (by omega),List.getElem?_drop];congr 1;omega
theorem wZO {d:D}(hok:Ok d)(x:X)(fr:Nat)(src:List UInt64)(hl:fr%D.per d+src.length≤D.per d)(j:Nat):
  pw (wpc d (x.f+fr/D.per d) (fr%D.per d) src) x j=if fr≤j∧j<fr+src.length then(src[j-fr]?).getD 0 else pw d x j:=by
 have hp:=Ok.per_le hok;have hwl:(aZS (d.now ((x.f+fr/D.per d:Nat):Int))).length=D.per d:=by rw[dZk,hok.now];rfl
 unfold pw;rw[qZb,qZa];have ej:=Nat.div_add_mod j (D.per d);have ef:=Nat.div_add_mod fr (D.per d);have mj:=Nat.mod_lt j (show 0<D.per d by omega);have mf:=Nat.mod_lt fr (show 0<D.per d by omega);by_cases hs:j/D.per d=fr/D.per d
 ·rw[hs]at ej⊢;rw[if_pos rfl,pZf,tZS (by omega)];generalize D.per d*(fr/D.per d)=q at*;by_cases h1:j%D.per d<fr%D.per d
  ·rw[if_pos h1,if_neg (by omega)]
  ·rw[if_neg h1];by_cases h2:j%D.per d<fr%D.per d+src.length
   ·rw[if_pos h2,if_pos (by omega),show j%D.per d-fr%D.per d=j-fr by omega]
   ·rw[if_neg h2,if_neg (by omega)]
 ·rw[if_neg (by omega),if_neg];intro hc;apply hs;apply Nat.div_eq_of_lt_le
  ·rw[Nat.mul_comm];omega
  ·rw[Nat.succ_mul,Nat.mul_comm];omega
structure wZR (d d':D)(x:X)(fr:Nat)(src:List UInt64)(ps:List (Nat×Nat×Nat)):Prop where
 ok:Ok d'
 calm:Calm d→Calm d'
 size:d'.size=d.size
 sec:d'.sec=d.sec
 wr:d'.wr=d.wr+ps.length
 rd:d'.rd=d.rd+(ps.filter fun p=>decide (p.2.2<D.per d)).length
 sy:d'.sy=d.sy
 safe:d'.safe=d.safe
 tch:∀ i,d'.tch i=true→d.tch i=true∨∃ j,j<src.length∧i=((x.f+(fr+j)/D.per d:Nat):Int)
 now:∀ i,(∀ j,j<src.length→i≠((x.f+(fr+j)/D.per d:Nat):Int))→d'.now i=d.now i
 pw:∀ j,pw d' x j=if fr≤j∧j<fr+src.length then(src[j-fr]?).getD 0 else pw d x j
theorem uZk (d:D)(s at':Nat)(src:List UInt64):(wpc d s at' src).safe=d.safe∧(wpc d s at' src).tch=hZU d.tch s:=by
 unfold wpc;split<;>exact⟨rfl,rfl⟩
theorem nZk (x:X):∀(k fr:Nat) (d:D) (src:List UInt64),Ok d→src.length≤k→wZR d (wrs d x k fr src) x fr src (pcs (D.per d) x.f k fr src.length)
 |k,fr,d,[],hok,hk=>by
  have e1:wrs d x k fr []=d:=by cases k<;>simp[wrs]
  have e2:pcs (D.per d) x.f k fr ([]:List UInt64).length=[]:=by cases k<;>simp[pcs]
  rw[e1,e2];exact⟨hok,id,rfl,rfl,rfl,rfl,rfl,rfl,fun i h=>.inl h,fun _ _=>rfl,fun j=>by rw[if_neg (by simp only[List.length_nil];omega)]⟩
 |0,fr,d,w0::s0,hok,hk=>by simp at hk
 |k+1,fr,d,w0::s0,hok,hk=>by
  generalize hsrc:w0::s0=src at*;have hne:src≠ []:=by rw[← hsrc];simp
  have hpos:0<src.length:=by rw[← hsrc];simp
  have hp:=Ok.per_le hok;have hcle:=lZe (D.per d) fr src.length;have hcpos:=jZe (per:=D.per d) (fr:=fr) (n:=src.length) (by omega) hpos;have hcper:=nZ5 (per:=D.per d) (fr:=fr) (n:=src.length) (by omega);have e:pcs (D.per d) x.f (k+1) fr src.length=(x.f+fr/D.per d,fr%D.per d,cN (D.per d) fr src.length)::pcs (D.per d) x.f k (fr+cN (D.per d) fr src.length) (src.length-cN (D.per d) fr src.length):=by
   show(if src.length=0 then []else _)=_
   rw[if_neg (by omega)]
  have ew:wrs d x (k+1) fr src=wrs (wpc d (x.f+fr/D.per d) (fr%D.per d) (src.take (cN (D.per d) fr src.length))) x k (fr+cN (D.per d) fr src.length) (src.drop (cN (D.per d) fr src.length)):=by
   show(if src=[]then d else _)=_
   rw[if_neg hne]
  rw[e,ew];generalize hcv:cN (D.per d) fr src.length=c at*;have htk:(src.take c).length=c:=by rw[List.length_take];omega
  have hdl:(src.drop c).length=src.length-c:=by simp
  have hok1:Ok (wpc d (x.f+fr/D.per d) (fr%D.per d) (src.take c)):=wZN hok _ _ (by omega);have hsz:=oZX d (x.f+fr/D.per d) (fr%D.per d) (src.take c);have hper:=qZb d (x.f+fr/D.per d) (fr%D.per d) (src.take c);have hcnt:=vZR d (x.f+fr/D.per d) (fr%D.per d) (src.take c);have hsf:=uZk d (x.f+fr/D.per d) (fr%D.per d) (src.take c);have hnow:=qZa d (x.f+fr/D.per d) (fr%D.per d) (src.take c);have hpw:=wZO hok x fr (src.take c) (by omega);have ih:=nZk x k (fr+c) _ (src.drop c) hok1 (by omega);rw[hper,hdl]at ih;generalize wrs (wpc d (x.f+fr/D.per d) (fr%D.per d) (src.take c)) x k (fr+c) (src.drop c)=d2 at*;generalize pcs (D.per d) x.f k (fr+c) (src.length-c)=ps at*;refine⟨ih.ok,fun hc=>ih.calm (uZh hc _ _ _),ih.size.trans hsz.1,ih.sec.trans hsz.2,?_,?_,ih.sy.trans hcnt.2.2,ih.safe.trans hsf.1,fun i hi=>?_,fun i hi=>?_,fun j=>?_⟩
  ·rw[ih.wr,hcnt.1,List.length_cons];omega
  ·rw[ih.rd,hcnt.2.1,htk,hper];by_cases hlt:c<D.per d
   ·rw[if_pos hlt,List.filter_cons_of_pos (by simpa using hlt),List.length_cons];omega
   ·rw[if_neg hlt,List.filter_cons_of_neg (by simpa using hlt)];omega
  ·rcases ih.tch i hi with h|⟨j,hj,h⟩
   ·rw[hsf.2]at h;unfold hZU at h;by_cases he:i=((x.f+fr/D.per d:Nat):Int)
    ·exact .inr ⟨0,hpos,by rw[Nat.add_zero];exact he⟩
    ·rw[if_neg he]at h;exact .inl h
   ·refine .inr ⟨c+j,by omega,?_⟩;rw[h,hper,Nat.add_assoc]
  ·rw[ih.now i (fun j hj=>?_),hnow,if_neg]
   ·have:=hi 0 hpos;rw[Nat.add_zero]at this;exact this
   ·have:=hi (c+j) (by omega);rw[hper,Nat.add_assoc];exact this
  ·rw[ih.pw j,hpw j,htk,hdl];by_cases h1:fr+c≤j∧j<fr+c+(src.length-c)
   ·rw[if_pos h1,if_pos (by omega),List.getElem?_drop,show c+(j-(fr+c))=j-fr by omega]
   ·rw[if_neg h1];by_cases h2:fr≤j∧j<fr+c
    ·rw[if_pos h2,if_pos (by omega),List.getElem?_take_of_lt (by omega)]
    ·rw[if_neg h2,if_neg (by omega)]
end Str
end Go.Proofs.YtahjgjaenegpgaaGreatDoor
