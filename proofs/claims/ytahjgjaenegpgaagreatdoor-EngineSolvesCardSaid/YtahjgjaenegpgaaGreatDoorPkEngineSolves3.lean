import Derived.Test.YtahjgjaenegpgaaGreatDoorProg
import Derived.DeepKeys
import Derived.Shelf.SlIterI.Nil
import Derived.Shelf.SortM.Plain
import Derived.Shelf.SortM.SortNone
import Derived.Ground.GgzProg
import Derived.Ground.SlgmProg
import Derived.Test.YtahjgjaenegpgaaGreatDoorPkEngineSolves2
set_option maxRecDepth 100000
set_option linter.unusedVariables false
set_option linter.unusedSimpArgs false
set_option linter.unnecessarySimpa false
set_option linter.unusedSectionVars false
namespace Go.Proofs.YtahjgjaenegpgaaGreatDoor.W
open Go Go.Hw
theorem dZl :Tryz.prog.follows .mixedOrders=true:=by kernel_rfl
def fZp (A1:Option Addr)(n1:Nat)(m1:Nat)(H:Hp)(K:Value→Hp→Prop):Prop:=
 HcI 142 #[.slice A1 n1 m1,.func (.func 143) #[] #[]] H fun x1 H1=>K (.tuple #[.int .i64 (if 0>x1 then 0 else x1),.bool (decide (x1<0))]) H1
theorem fZp.ok (A1:Option Addr)(n1:Nat)(m1:Nat)(H:Hp)(K:Value→Hp→Prop)(h:fZp A1 n1 m1 H K):Zc Tryz.prog 96 #[.slice A1 n1 m1] H K:=
 Zr Tryz.func96 rfl (nbl rfl) (Zf (Λ:=Zn.none (fun _=>none)) dZl _ _ _ _ _ (Eq.mp (by kernel_rfl) h) (Zt _ _ _ _ _))
def fZX (A1:Option Addr)(n1:Nat)(m1:Nat)(x1:Int)(H:Hp)(K:Value→Hp→Prop):Prop:=
 HcB 149 #[.slice A1 n1 m1,.int .i64 x1] H fun c1 H1=>BIf (!c1) (K (.tuple #[.int .u64 0,.int .i64 2]) H1) (slB n1 m1 (some (IntKind.i64.wrap (8*x1))) none fun n2 n3=>HcW 150 #[.slice (slA A1 m1 n2 1) (n3-n2) (m1-n2)] H1 fun x2 H2=>K (.tuple #[.int .u64 x2,.int .i64 0]) H2)
theorem fZX.ok (A1:Option Addr)(n1:Nat)(m1:Nat)(x1:Int)(H:Hp)(K:Value→Hp→Prop)(h:fZX A1 n1 m1 x1 H K):Zc Tryz.prog 103 #[.slice A1 n1 m1,.int .i64 x1] H K:=
 Zr Tryz.func103 rfl (nbl rfl) (Zf (Λ:=Zn.none (fun _=>none)) dZl _ _ _ _ _ (Eq.mp (by kernel_rfl) h) (Zt _ _ _ _ _))
def bZa.l3 (K:Value→Hp→Prop):Nat→Option Addr→Nat→Nat→Option Addr→Nat→Nat→Int→Int→Hp→Prop
 |0,_,_,_,_,_,_,_,_,_=>False
 |k+1,A3,n3,m3,A4,n4,m4,x1,x2,H=>
  let R3:=bZa.l3 K k
  BIf (decide (x2<x1)) (ixI x2 n4 (NN A4 fun a1=>LeW H (a1.add (x2.toNat*1)) fun x3=>slB n3 m3 (some (IntKind.i64.wrap (8*x2))) none fun n5 n6=>Hz 183 #[.slice (slA A3 m3 n5 1) (n6-n5) (m3-n5),.int .u64 x3] H fun v3 H2=>R3 A3 n3 m3 A4 n4 m4 x1 (IntKind.i64.wrap (x2+1)) H2)) (K (.slice A3 n3 m3) H)
def bZa (A1:Option Addr)(n1:Nat)(m1:Nat)(H:Hp)(K:Value→Hp→Prop):Prop:=
 MkS Tryz.prog 5 (IntKind.i64.wrap (8*(n1:Int))) (IntKind.i64.wrap (8*(n1:Int))) H fun v1 H1=>DSl v1 fun A2 n2 m2=>(∃ k,bZa.l3 K k A2 n2 m2 A1 n1 m1 (n1:Int) 0 H1)
def bZa.l3.L (K:Value→Hp→Prop)(k:Nat):Mid:=fun E D H=>
 DG (E.get? 3) fun w3=>DSl w3 fun A3 n3 m3=>DG (E.get? 10) fun w10=>DSl w10 fun A4 n4 m4=>eI E 11 .i64 fun x1=>eI E 12 .i64 fun x2=>Zo D (bZa.l3 K k A3 n3 m3 A4 n4 m4 x1 x2 H)
def bZa.Λ3 (_:Value→Hp→Prop)(_R3:Option Addr→Nat→Nat→Option Addr→Nat→Nat→Int→Int→Hp→Prop):Zn:=Zn.none (fun _=>none)
def bZa.Λ (K:Value→Hp→Prop):Zn:=⟨fun i=>none,fun i=>match Nat.beq i 3 with|true=>some (fun E D H=>∃ k,bZa.l3.L K k E D H)|false=>none,(fun _=>none)⟩
theorem bZa.ok (A1:Option Addr)(n1:Nat)(m1:Nat)(H:Hp)(K:Value→Hp→Prop)(h:bZa A1 n1 m1 H K):Zc Tryz.prog 140 #[.slice A1 n1 m1] H K:=
 Zr Tryz.func140 rfl (nbl rfl) (Zf (Λ:=(bZa.Λ K)) dZl _ _ _ _ _ (Eq.mp (by kernel_rfl) h) (Zb Za rfl (Zb Za rfl (Zb (Zb Za rfl (Zu (ZZ rfl (fun E D H h=>by
   refine Safe.loop' (bZa.l3.L K) (fun E D H h=>?_) (fun k E D H h=>?_) E D H h
   ·obtain⟨w3,e3,g1⟩:=DG.out h;obtain⟨A3,n3,m3,rfl,g2⟩:=DSl.out g1;obtain⟨w10,e10,g3⟩:=DG.out g2;obtain⟨A4,n4,m4,rfl,g4⟩:=DSl.out g3;obtain⟨w11,e11,g5⟩:=DG.out g4;obtain⟨x1,rfl,g6⟩:=DI.out g5;obtain⟨w12,e12,g7⟩:=DG.out g6;obtain⟨x2,rfl,g8⟩:=DI.out g7;obtain⟨rfl,h'⟩:=Zo.out g8;exact h'
   ·obtain⟨w3,e3,g1⟩:=DG.out h;obtain⟨A3,n3,m3,rfl,g2⟩:=DSl.out g1;obtain⟨w10,e10,g3⟩:=DG.out g2;obtain⟨A4,n4,m4,rfl,g4⟩:=DSl.out g3;obtain⟨x1,e11,g6⟩:=GI g4;obtain⟨x2,e12,g8⟩:=GI g6;obtain⟨rfl,h'⟩:=Zo.out g8;exact(Zf (Λ:=(bZa.Λ3 K (bZa.l3 K k))) dZl _ _ [(3,.slice A3 n3 m3),(10,.slice A4 n4 m4),(11,.int .i64 x1),(12,.int .i64 x2)] [] H (Eq.mp (by kernel_rfl) h') (Zb Za rfl (Zb (Zk Zl ZS) rfl (Zb (Zu (Zb Za rfl Za)) rfl Za)))).weaken (Ze.cons e3 (Ze.cons e10 (Ze.cons e11 (Ze.cons e12 (Ze.nil _))))) (Hp.le_refl _))))) rfl (Zb Za rfl Zy)))))
def eZK (x1:Int)(H:Hp)(K:Value→Hp→Prop):Prop:=
 HcB 144 #[.int .u64 x1] H fun c1 H1=>K (.bool (!c1)) H1
theorem eZK.ok (x1:Int)(H:Hp)(K:Value→Hp→Prop)(h:eZK x1 H K):Zc Tryz.prog 143 #[.int .u64 x1] H K:=
 Zr Tryz.func143 rfl (nbl rfl) (Zf (Λ:=Zn.none (fun _=>none)) dZl _ _ _ _ _ (Eq.mp (by kernel_rfl) h) (Zt _ _ _ _ _))
def eZ0 (A1:Option Addr)(n1:Nat)(m1:Nat)(x1:Int)(H:Hp)(K:Value→Hp→Prop):Prop:=
 BIf (decide (x1≥0)) (((8:Int)≠0∧IntKind.i64=IntKind.i64∧K (.bool (decide (x1<(IntKind.i64.wrap (Int.tdiv (n1:Int) 8))))) H)) (K (.bool false) H)
theorem eZ0.ok (A1:Option Addr)(n1:Nat)(m1:Nat)(x1:Int)(H:Hp)(K:Value→Hp→Prop)(h:eZ0 A1 n1 m1 x1 H K):Zc Tryz.prog 149 #[.slice A1 n1 m1,.int .i64 x1] H K:=
 Zr Tryz.func149 rfl (nbl rfl) (Zf (Λ:=Zn.none (fun _=>none)) dZl _ _ _ _ _ (Eq.mp (by kernel_rfl) h) (Zt _ _ _ _ _))
def aZ7.l3 (K:Value→Hp→Prop):Nat→Option Addr→Nat→Nat→Int→Int→Hp→Prop
 |0,_,_,_,_,_,_=>False
 |k+1,A2,n2,m2,x1,x2,H=>
  let R3:=aZ7.l3 K k
  BIf (decide (x2≥0)) ((0≤(8:Int)∧ixI x2 n2 (NN A2 fun a1=>LeV H (a1.add (x2.toNat*1)) fun x3=>R3 A2 n2 m2 (bOr .u64 (aZY .u64 x1 8) (IntKind.u64.wrap x3)) (IntKind.i64.wrap (x2-1)) H))) (K (.int .u64 x1) H)
def aZ7 (A1:Option Addr)(n1:Nat)(m1:Nat)(H:Hp)(K:Value→Hp→Prop):Prop:=
 (∃ k,aZ7.l3 K k A1 n1 m1 0 7 H)
def aZ7.l3.L (K:Value→Hp→Prop)(k:Nat):Mid:=fun E D H=>
 DG (E.get? 0) fun w0=>DSl w0 fun A2 n2 m2=>eI E 3 .u64 fun x1=>eI E 4 .i64 fun x2=>Zo D (aZ7.l3 K k A2 n2 m2 x1 x2 H)
def aZ7.Λ3 (_:Value→Hp→Prop)(_R3:Option Addr→Nat→Nat→Int→Int→Hp→Prop):Zn:=Zn.none (fun _=>none)
def aZ7.Λ (K:Value→Hp→Prop):Zn:=⟨fun i=>none,fun i=>match Nat.beq i 3 with|true=>some (fun E D H=>∃ k,aZ7.l3.L K k E D H)|false=>none,(fun _=>none)⟩
theorem aZ7.ok (A1:Option Addr)(n1:Nat)(m1:Nat)(H:Hp)(K:Value→Hp→Prop)(h:aZ7 A1 n1 m1 H K):Zc Tryz.prog 150 #[.slice A1 n1 m1] H K:=
 Zr Tryz.func150 rfl (nbl rfl) (Zf (Λ:=(aZ7.Λ K)) dZl _ _ _ _ _ (Eq.mp (by kernel_rfl) h) (Zb Za rfl (Zb Za rfl (Zb (Zb Za rfl (Zu (ZZ rfl (fun E D H h=>by
   refine Safe.loop' (aZ7.l3.L K) (fun E D H h=>?_) (fun k E D H h=>?_) E D H h
   ·obtain⟨w0,e0,g1⟩:=DG.out h;obtain⟨A2,n2,m2,rfl,g2⟩:=DSl.out g1;obtain⟨w3,e3,g3⟩:=DG.out g2;obtain⟨x1,rfl,g4⟩:=DI.out g3;obtain⟨w4,e4,g5⟩:=DG.out g4;obtain⟨x2,rfl,g6⟩:=DI.out g5;obtain⟨rfl,h'⟩:=Zo.out g6;exact h'
   ·obtain⟨w0,e0,g1⟩:=DG.out h;obtain⟨A2,n2,m2,rfl,g2⟩:=DSl.out g1;obtain⟨x1,e3,g4⟩:=GI g2;obtain⟨x2,e4,g6⟩:=GI g4;obtain⟨rfl,h'⟩:=Zo.out g6;exact(Zf (Λ:=(aZ7.Λ3 K (aZ7.l3 K k))) dZl _ _ [(0,.slice A2 n2 m2),(3,.int .u64 x1),(4,.int .i64 x2)] [] H (Eq.mp (by kernel_rfl) h') (Zb (Zb Za rfl (Zk Zl ZS)) rfl (Zb (Zu Za) rfl Za))).weaken (Ze.cons e0 (Ze.cons e3 (Ze.cons e4 (Ze.nil _)))) (Hp.le_refl _))))) rfl (Zb Za rfl Zy)))))
def bZg.l1 (K:Value→Hp→Prop):Nat→Option Addr→Nat→Nat→Int→Int→Hp→Prop
 |0,_,_,_,_,_,_=>False
 |k+1,A2,n2,m2,x2,x3,H=>
  let R1:=bZg.l1 K k
  BIf (decide (x3<8)) ((0≤(IntKind.u64.wrap (IntKind.i64.wrap (8*x3)))∧ixI x3 n2 (NN A2 fun a1=>St H ((a1.add (x3.toNat*1)).add 0) (.int .u8 (IntKind.u8.wrap (aZE .u64 x2 (IntKind.u64.wrap (IntKind.i64.wrap (8*x3)))))) fun H1=>R1 A2 n2 m2 x2 (IntKind.i64.wrap (x3+1)) H1))) (K (.tuple #[]) H)
def bZg (A1:Option Addr)(n1:Nat)(m1:Nat)(x1:Int)(H:Hp)(K:Value→Hp→Prop):Prop:=
 (∃ k,bZg.l1 K k A1 n1 m1 x1 0 H)
def bZg.l1.L (K:Value→Hp→Prop)(k:Nat):Mid:=fun E D H=>
 DG (E.get? 0) fun w0=>DSl w0 fun A2 n2 m2=>eI E 1 .u64 fun x2=>eI E 5 .i64 fun x3=>Zo D (bZg.l1 K k A2 n2 m2 x2 x3 H)
def bZg.Λ1 (_:Value→Hp→Prop)(_R1:Option Addr→Nat→Nat→Int→Int→Hp→Prop):Zn:=Zn.none (fun _=>none)
def bZg.Λ (K:Value→Hp→Prop):Zn:=⟨fun i=>none,fun i=>match Nat.beq i 1 with|true=>some (fun E D H=>∃ k,bZg.l1.L K k E D H)|false=>none,(fun _=>none)⟩
theorem bZg.ok (A1:Option Addr)(n1:Nat)(m1:Nat)(x1:Int)(H:Hp)(K:Value→Hp→Prop)(h:bZg A1 n1 m1 x1 H K):Zc Tryz.prog 183 #[.slice A1 n1 m1,.int .u64 x1] H K:=
 Zr Tryz.func183 rfl (nbl rfl) (Zf (Λ:=(bZg.Λ K)) dZl _ _ _ _ _ (Eq.mp (by kernel_rfl) h) (Zb Za rfl (Zu (ZZ rfl (fun E D H h=>by
   refine Safe.loop' (bZg.l1.L K) (fun E D H h=>?_) (fun k E D H h=>?_) E D H h
   ·obtain⟨w0,e0,g1⟩:=DG.out h;obtain⟨A2,n2,m2,rfl,g2⟩:=DSl.out g1;obtain⟨w1,e1,g3⟩:=DG.out g2;obtain⟨x2,rfl,g4⟩:=DI.out g3;obtain⟨w5,e5,g5⟩:=DG.out g4;obtain⟨x3,rfl,g6⟩:=DI.out g5;obtain⟨rfl,h'⟩:=Zo.out g6;exact h'
   ·obtain⟨w0,e0,g1⟩:=DG.out h;obtain⟨A2,n2,m2,rfl,g2⟩:=DSl.out g1;obtain⟨x2,e1,g4⟩:=GI g2;obtain⟨x3,e5,g6⟩:=GI g4;obtain⟨rfl,h'⟩:=Zo.out g6;exact(Zf (Λ:=(bZg.Λ1 K (bZg.l1 K k))) dZl _ _ [(0,.slice A2 n2 m2),(1,.int .u64 x2),(5,.int .i64 x3)] [] H (Eq.mp (by kernel_rfl) h') (Zb Za rfl (Zb (Zk Zl ZS) rfl (Zb (Zu (Zb Za rfl Za)) rfl Za)))).weaken (Ze.cons e0 (Ze.cons e1 (Ze.cons e5 (Ze.nil _)))) (Hp.le_refl _))))))
end Go.Proofs.YtahjgjaenegpgaaGreatDoor.W
namespace Go.Proofs.YtahjgjaenegpgaaGreatDoor.W
open Go Go.Hw
theorem hZK :Tryz.prog.follows .mixedOrders=true:=by kernel_rfl
def aZp.l4 (K:Value→Hp→Prop):Nat→Option Addr→Nat→Nat→Option Addr→Nat→Nat→Int→Hp→Prop
 |0,_,_,_,_,_,_,_,_=>False
 |k+1,A3,n3,m3,A4,n4,m4,x1,H=>
  let R4:=aZp.l4 K k
  BIf (decide (x1<(n3:Int))) (ixI x1 n3 (NN A3 fun a1=>LeW H (a1.add (x1.toNat*1)) fun x2=>ixI x1 n4 (NN A4 fun a2=>LeW H (a2.add (x1.toNat*1)) fun x3=>BIf (x2 !=x3) (K (.bool false) H) (R4 A3 n3 m3 A4 n4 m4 (IntKind.i64.wrap (x1+1)) H)))) (K (.bool true) H)
def aZp (A1:Option Addr)(n1:Nat)(m1:Nat)(A2:Option Addr)(n2:Nat)(m2:Nat)(H:Hp)(K:Value→Hp→Prop):Prop:=
 BIf ((n1:Int) !=(n2:Int)) (K (.bool false) H) ((∃ k,aZp.l4 K k A1 n1 m1 A2 n2 m2 0 H))
def aZp.l4.L (K:Value→Hp→Prop)(k:Nat):Mid:=fun E D H=>
 DG (E.get? 0) fun w0=>DSl w0 fun A3 n3 m3=>DG (E.get? 1) fun w1=>DSl w1 fun A4 n4 m4=>eI E 5 .i64 fun x1=>Zo D (aZp.l4 K k A3 n3 m3 A4 n4 m4 x1 H)
def aZp.Λ4 (_:Value→Hp→Prop)(_R4:Option Addr→Nat→Nat→Option Addr→Nat→Nat→Int→Hp→Prop):Zn:=Zn.none (fun _=>none)
def aZp.Λ (K:Value→Hp→Prop):Zn:=⟨fun i=>none,fun i=>match Nat.beq i 4 with|true=>some (fun E D H=>∃ k,aZp.l4.L K k E D H)|false=>none,(fun _=>none)⟩
theorem aZp.ok (A1:Option Addr)(n1:Nat)(m1:Nat)(A2:Option Addr)(n2:Nat)(m2:Nat)(H:Hp)(K:Value→Hp→Prop)(h:aZp A1 n1 m1 A2 n2 m2 H K):Zc Tryz.prog 18 #[.slice A1 n1 m1,.slice A2 n2 m2] H K:=
 Zr Tryz.func18 rfl (nbl rfl) (Zf (Λ:=(aZp.Λ K)) hZK _ _ _ _ _ (Eq.mp (by kernel_rfl) h) (Zb Za rfl (Zb (Zb Za rfl (Zk (Zb Za rfl Zy) Zl)) rfl (Zb (Zb Za rfl (Zu (ZZ rfl (fun E D H h=>by
   refine Safe.loop' (aZp.l4.L K) (fun E D H h=>?_) (fun k E D H h=>?_) E D H h
   ·obtain⟨w0,e0,g1⟩:=DG.out h;obtain⟨A3,n3,m3,rfl,g2⟩:=DSl.out g1;obtain⟨w1,e1,g3⟩:=DG.out g2;obtain⟨A4,n4,m4,rfl,g4⟩:=DSl.out g3;obtain⟨w5,e5,g5⟩:=DG.out g4;obtain⟨x1,rfl,g6⟩:=DI.out g5;obtain⟨rfl,h'⟩:=Zo.out g6;exact h'
   ·obtain⟨w0,e0,g1⟩:=DG.out h;obtain⟨A3,n3,m3,rfl,g2⟩:=DSl.out g1;obtain⟨w1,e1,g3⟩:=DG.out g2;obtain⟨A4,n4,m4,rfl,g4⟩:=DSl.out g3;obtain⟨x1,e5,g6⟩:=GI g4;obtain⟨rfl,h'⟩:=Zo.out g6;exact(Zf (Λ:=(aZp.Λ4 K (aZp.l4 K k))) hZK _ _ [(0,.slice A3 n3 m3),(1,.slice A4 n4 m4),(5,.int .i64 x1)] [] H (Eq.mp (by kernel_rfl) h') (Zb (Zb Za rfl (Zk Zl ZS)) rfl (Zb (Zu (Zb Za rfl (Zk (Zb Za rfl Zy) Zl))) rfl Za))).weaken (Ze.cons e0 (Ze.cons e1 (Ze.cons e5 (Ze.nil _)))) (Hp.le_refl _))))) rfl (Zb Za rfl Zy)))))
end Go.Proofs.YtahjgjaenegpgaaGreatDoor.W
namespace Go.Form
open Go Go.Hw
def dZv (w:UInt64):List UInt8:=(List.range 8).map fun k=>UInt8.ofNat (w.toNat/256^k)
def form (l:List UInt64):List UInt8:=l.flatMap dZv
theorem eZd (w:UInt64):(dZv w).length=8:=by simp[dZv]
theorem bZh (l:List UInt64):(form l).length=8*l.length:=by
 induction l with
 |nil=>rfl
 |cons w l ih=>simp only[form,List.flatMap_cons,List.length_append,eZd,List.length_cons];rw[show(List.flatMap dZv l).length=(form l).length from rfl,ih];omega
theorem iZi (a b:List UInt64):form (a++b)=form a++form b:=by simp[form]
theorem rZL (l:List UInt64){i:Nat}(h:i<l.length):form (l.take (i+1))=form (l.take i)++dZv l[i]:=by
 rw[List.take_succ_eq_append_getElem h,iZi];simp[form]
theorem tZW (w:UInt64)(k:Nat):IntKind.u8.wrap ((w.toNat>>>(8*k):Nat):Int)=((UInt8.ofNat (w.toNat/256^k)).toNat:Int):=by
 rw[wZ9,Nat.shiftRight_eq_div_pow,show(2:Nat)^(8*k)=256^k from by rw[Nat.pow_mul]];simp
end Go.Form
namespace Go.Proofs.YtahjgjaenegpgaaGreatDoor.FormP
open Go Go.Hw Go.Form W
theorem oZL (K:Value→Hp→Prop)(b off n m mm:Nat)(xs:List Value)(e:TypeId)(w:UInt64)(H0:Hp)(ho:off+8≤xs.length)(hn:8≤n)
  (k:K (.tuple #[]) (H0.set b (.row (setAt xs off (Zx (dZv w))) e mm))):∀(d j:Nat) (H:Hp),j+d=8→H=H0.set b (.row (setAt xs off ((Zx (dZv w)).take j)) e mm)→
   bZg.l1 K (d+1) (some ⟨b,off,none⟩) n m (w.toNat:Int) (j:Int) H
 |0,j,H,hj,hH=>by
  obtain rfl:j=8:=by omega
  unfold bZg.l1;refine Zm (by omega) ?_;rw[List.take_of_length_le (by rw[ZT,eZd];omega)]at hH;rw[hH];exact k
 |d+1,j,H,hj,hH=>by
  unfold bZg.l1;refine Zw (by omega) ?_;rw[ZV (x:=8*(j:Int)) (by omega) (by omega),dZj (by omega) (by omega)];refine⟨by omega,by omega,by omega,?_⟩;simp only[aZ5,Addr.add_lit',Int.toNat_natCast,Nat.mul_one,Nat.add_zero];rw[sZA w.toNat (i:=8*(j:Int)) (n:=8*j) (by omega) (by show 8*j≤64;omega),tZW,ZV (by omega) (by omega)];have hlen:(Zx (dZv w)).length=8:=by rw[ZT,eZd]
  have hb:H b=some (.row (setAt xs off ((Zx (dZv w)).take j)) e mm):=by rw[hH];exact Hp.set_same _ _ _
  refine nZZ hb (by rw[cZS (by rw[List.length_take,hlen];omega)];omega) rfl ?_;refine oZL K b off n m mm xs e w H0 ho hn k d (j+1) _ (by omega) ?_;rw[hH,Hp.set_set];congr 2;have:=qZU (xs:=xs) (vs:=Zx (dZv w)) (off:=off) (k:=j) (by rw[hlen];exact ho) (by rw[hlen];omega);rw[← this];congr 1;simp[Zx,dZv]
theorem wZE (b off n m mm:Nat)(xs:List Value)(e:TypeId)(w:UInt64)(H:Hp)(hb:H b=some (.row xs e mm))(ho:off+8≤xs.length)(hn:8≤n):
  Zc Tryz.prog 183 #[.slice (some ⟨b,off,none⟩) n m,.int .u64 (w.toNat:Int)] H (RetE (.tuple #[]) (H.set b (.row (setAt xs off (Zx (dZv w))) e mm))):=by
 apply bZg.ok;refine⟨9,oZL _ b off n m mm xs e w H ho hn (RetE.mk _ _) 8 0 H rfl ?_⟩;rw[List.take_zero,fZS,Hp.set_id hb]
theorem vZz (b m l:Nat):slA (some ⟨b,0,none⟩) m l 1=if m=l then some ⟨b,0,none⟩else some ⟨b,l,none⟩:=by
 unfold slA;split
 ·rfl
 ·simp
theorem nZT (K:Value→Hp→Prop)(b:Nat)(e:TypeId)(A:Option Addr)(n m:Nat)(l:List UInt64)(hn:n=l.length)(hm:n≤17592186044416)(H0:Hp)(hb0:H0 b=none)(hl:Cells H0 A (Zd l))(z:List Value)(hz:z.length=8*n)
  (k:∀ H,H=H0.set b (.row (Zx (form l)) e (8*n))→K (.slice (some ⟨b,0,none⟩) (8*n) (8*n)) H):∀(d j:Nat) (H:Hp),j+d=n→H=H0.set b (.row (setAt z 0 (Zx (form (l.take j)))) e (8*n))→
   bZa.l3 K (d+1) (some ⟨b,0,none⟩) (8*n) (8*n) A n m (n:Int) (j:Int) H
 |0,j,H,hj,hH=>by
  unfold bZa.l3;refine Zm (by omega) (k _ ?_);rw[hH,List.take_of_length_le (by omega),gZ4 (by rw[ZT,bZh,hz,hn])]
 |d+1,j,H,hj,hH=>by
  unfold bZa.l3;refine Zw (by omega) ?_;have hlt:j<l.length:=by omega
  have hle:H0.le H:=by rw[hH];exact Hp.le_set hb0
  refine(hl.le hle).read (i:=j) (v:=.int .u64 (l[j].toNat:Int)) (by rw[aZ8,List.getElem?_eq_getElem hlt];rfl) rfl (by rw[ZA];omega) ?_;simp only[HV];rw[ZV (x:=8*(j:Int)) (by omega) (by omega)];refine⟨by omega,by omega,?_⟩
  dsimp only
  rw[show(8*(j:Int)).toNat=8*j by omega,vZz,if_neg (by omega)];have hlen:(Zx (form (l.take j))).length=8*j:=by rw[ZT,bZh,List.length_take,Nat.min_eq_left (by omega)]
  have hb:H b=some (.row (setAt z 0 (Zx (form (l.take j)))) e (8*n)):=by rw[hH];exact Hp.set_same _ _ _
  have hsl:(setAt z 0 (Zx (form (l.take j)))).length=8*n:=by rw[cZS (by omega),hz]
  refine Zc.use (wZE b (8*j) _ _ _ _ e l[j] H hb (by omega) (by omega)) ?_;rw[ZV (by omega) (by omega)];refine nZT K b e A n m l hn hm H0 hb0 hl z hz k d (j+1) _ (by omega) ?_;rw[hH,Hp.set_set];congr 2;rw[rZL l hlt,hZ1];have h8:(Zx (dZv l[j])).length=8:=by rw[ZT,eZd]
  rw[← pZe (by rw[hlen,h8];omega),hlen]
theorem eZE :bZv Tryz.prog 5=some (1,1,some #[.int .u8 0]):=by kernel_rfl
theorem Put_ok (A:Option Addr)(n m:Nat)(l:List UInt64)(hn:n=l.length)(hm:n≤17592186044416)(H:Hp)(hl:Cells H A (Zd l)):
  Zc Tryz.prog 140 #[.slice A n m] H (fun v H'=>∃ b,H b=none∧v= .slice (some ⟨b,0,none⟩) (8*n) (8*n)∧H'=H.set b (.row (Zx (form l)) 5 (8*n))):=by
 apply bZa.ok;unfold bZa;rw[ZV (x:=8*(n:Int)) (by omega) (by omega)];refine nZS eZE rfl (n:=8*n) (m:=8*n) (by omega) (by omega) (Nat.le_refl _) (by omega) (by omega) ?_;intro b hb;rw[Nat.mul_one];simp only[HV];refine⟨n+1,?_⟩;refine nZT _ b 5 A n m l hn hm H hb hl (aZK [.int .u8 0] (8*n)) (by rw[bZP];simp) ?_ n 0 _ (by omega) ?_
 ·intro H' hH;exact⟨b,hb,rfl,hH⟩
 ·rw[List.take_zero];simp[form,Zx,fZS]
end Go.Proofs.YtahjgjaenegpgaaGreatDoor.FormP
namespace Go.Form
open Go Go.Hw
theorem oZ7 (w:UInt64):dZv w=hZG 8 w.toNat:=pZb 8 w.toNat
theorem rZ5 (w:UInt64):leN (dZv w)=w.toNat:=by
 rw[oZ7,lZv];exact Nat.mod_eq_of_lt w.toNat_lt
def ZC (bs:List UInt8)(o:Nat):Nat:=leN ((bs.drop o).take 8)
theorem cZ6 (bs:List UInt8)(o:Nat):ZC bs o<2^64:=pZy (by simp;omega)
theorem rZK (l:List UInt64)(i:Nat):(form l).drop (8*i)=form (l.drop i):=by
 induction i generalizing l with
 |zero=>simp
 |succ i ih=>
  cases l with
  |nil=>simp[form]
  |cons w l=>
   rw[List.drop_succ_cons,←ih];show List.drop (8*(i+1)) (dZv w++form l)=_
   rw[show 8*(i+1)=(dZv w).length+8*i by rw[eZd];omega,List.drop_append];simp
theorem fZe {l:List UInt64}{i:Nat}(h:i<l.length)(r:List UInt8):ZC (form l++r) (8*i)=l[i].toNat:=by
 unfold ZC;rw[List.drop_append_of_le_length (by rw[bZh];omega),rZK,List.drop_eq_getElem_cons h];show leN (((dZv l[i]++form (l.drop (i+1)))++r).take 8)=_
 rw[List.append_assoc,List.take_left' (eZd _),rZ5]
end Go.Form
namespace Go.Proofs.YtahjgjaenegpgaaGreatDoor.FormP
open Go Go.Hw Go.Form W
theorem nZg (K:Value→Hp→Prop)(A:Option Addr)(n m:Nat)(bs:List UInt8)(hl:bs.length=8)(hn:8≤n)(H:Hp)(hb:Cells H A (Zx bs))(k:K (.int .u64 (leN bs:Nat)) H):∀ j:Nat,j≤8→
  aZ7.l3 K (j+1) A n m ((leN (bs.drop j):Nat):Int) ((j:Int)-1) H
 |0,_=>by
  unfold aZ7.l3;refine Zm (by omega) ?_;exact k
 |j+1,hj=>by
  unfold aZ7.l3;refine Zw (by omega) ⟨by omega,?_⟩;rw[show(((j+1:Nat):Int)-1)=(j:Int) by omega];have hlt:j<bs.length:=by omega
  refine⟨by omega,by omega,?_⟩;obtain⟨a,rfl,hc⟩:=hb j (.int .u8 (bs[j].toNat:Int)) (by rw[hZF,List.getElem?_eq_getElem hlt];rfl);show Ld H _ _
  refine gZE (v:=.int .u8 (bs[j].toNat:Int)) (by rw[Int.toNat_natCast,Nat.mul_one];exact hc) ?_;simp only[HV];have h1:leN (bs.drop (j+1))<256^7:=by
   have h1:=oZk (bs.drop (j+1));have h2:256^(bs.drop (j+1)).length≤256^7:=Nat.pow_le_pow_right (by omega) (by simp;omega);omega
  have h2:bs[j].toNat<256:=bs[j].toNat_lt;have h3:leN (bs.drop (j+1))*2^8<2^64:=by
   rw[show(256:Nat)^7=2^56 by decide]at h1;omega
  rw[qZV (i:=(8:Int)) (n:=8) rfl (by omega),Nat.mod_eq_of_lt h3,bZ1 (by omega),orN h3 (by omega),ZV (by omega) (by omega)];rw[← Nat.shiftLeft_eq,←Nat.shiftLeft_add_eq_or_of_lt (by omega:bs[j].toNat<2^8),Nat.shiftLeft_eq];have e:=tZy hlt;rw[show leN (bs.drop (j+1))*2^8+bs[j].toNat=leN (bs.drop j) by rw[e];omega];exact nZg K _ n m bs hl hn H hb k j (by omega)
theorem vZO (A:Option Addr)(n m:Nat)(bs:List UInt8)(hl:bs.length=8)(hn:8≤n)(H:Hp)(hb:Cells H A (Zx bs)):Zc Tryz.prog 150 #[.slice A n m] H (RetE (.int .u64 (leN bs:Nat)) H):=by
 apply aZ7.ok;refine⟨9,?_⟩;have:=nZg (RetE (.int .u64 (leN bs:Nat)) H) A n m bs hl hn H hb (RetE.mk _ _) 8 (Nat.le_refl _);rw[List.drop_eq_nil_of_le (by omega)]at this;exact this
theorem rZS (A:Option Addr)(n m:Nat)(hn:n≤9000000000000000000)(i:Int)(H:Hp):Zc Tryz.prog 149 #[.slice A n m,.int .i64 i] H (RetE (.bool (decide (0≤i∧i<(n/8:Nat)))) H):=by
 apply eZ0.ok;unfold eZ0;rw[cZ8];split
 ·refine⟨by omega,rfl,RetE.of ?_⟩;rw[show Int.tdiv ((n:Nat):Int) 8=((n/8:Nat):Int)from rfl,bZi (by omega)];congr 1;simp only[decide_eq_decide];omega
 ·refine RetE.of ?_;congr 1;exact(decide_eq_false (by omega)).symm
theorem Word_ok (A:Option Addr)(n m:Nat)(hnm:n≤m)(hm:n≤9000000000000000000)(bs:List UInt8)(hl:n=bs.length)(i:Nat)(hi:8*i+8≤n)(H:Hp)(hb:Cells H A (Zx bs)):
  Zc Tryz.prog 103 #[.slice A n m,.int .i64 i] H (RetE (.tuple #[.int .u64 (ZC bs (8*i):Nat),.int .i64 0]) H):=by
 apply fZX.ok;unfold fZX;refine Zc.use (rZS A n m (by omega) i H) ?_
 try simp only[HV]
 refine aZu (by simp;omega) ?_;rw[ZV (x:=8*(i:Int)) (by omega) (by omega)];refine⟨by omega,by omega,?_⟩;rw[show(8*(i:Int)).toNat=8*i by omega];have h1:=(hb.shift (m:=m) (l:=8*i) (by rw[ZT];omega)).take 8;rw[show((Zx bs).drop (8*i)).take 8=Zx ((bs.drop (8*i)).take 8) by unfold Zx;rw[List.map_take,List.map_drop]]at h1;refine Zc.use (vZO _ (n-8*i) (m-8*i) ((bs.drop (8*i)).take 8) (by simp;omega) (by omega) H h1) ?_
 try simp only[HV]
 exact RetE.mk _ _
end Go.Proofs.YtahjgjaenegpgaaGreatDoor.FormP
namespace Go.Hw
open Go
def lZw :Lf→Lit→Bool
 | .int k,.int k' n=>decide (k'=k)&&(Lit.int k n).wf
 | .bool,.bool _=>true
 | .str,.string l=>decide (l.length≤maxLen)
 |_,_=>false
def cZA :List Lf→List Lit→Bool
 | [],[]=>true
 |f::fs,l::ls=>lZw f l&&cZA fs ls
 |_,_=>false
def lZq (P:Program)(g:TypeId→Option (List Lf)):List Field→Nat→Option (List Lf)
 | [],_=>some []
 | f :: r, off => match f.name != "_" && Nat.beq f.offset off with
  |true=>match g f.type with
   |some l=>match Nat.beq l.length (P.cellsOf f.type)with
    |true=>match lZq P g r (off+l.length)with
     |some k=>some (l++k)
     |none=>none
    |false=>none
   |none=>none
  |false=>none
def flat (P:Program):Nat→TypeId→Option (List Lf)
 |0,_=>none
 |d+1,t=>match P.underlying t with
  |some .bool=>some [.bool]
  |some (.int q)=>some [.int q]
  |some .string=>some [.str]
  |some (.array n e)=>match flat P d e with
   |some l=>match Nat.beq l.length (P.cellsOf e)&&Nat.beq (n*l.length) (P.cellsOf t)with
    |true=>some (List.replicate n l).flatten
    |false=>none
   |none=>none
  |some (.struct fs)=>match lZq P (flat P d) fs.toList 0 with
   |some l=>match Nat.beq l.length (P.cellsOf t)with
    |true=>some l
    |false=>none
   |none=>none
  |_=>none
theorem dZP :∀{fs:List Lf} {ls:List Lit},cZA fs ls=true→ls.length=fs.length
 | [],[],_=>rfl
 |_::fs,_::ls,h=>by
  simp only[cZA,Bool.and_eq_true]at h;simp[dZP h.2]
 | [],_::_,h=>by cases h
 |_::_,[],h=>by cases h
theorem iZj :∀{a b:List Lf} {ls:List Lit},cZA (a++b) ls=true→∃ x y,ls=x++y∧cZA a x=true∧cZA b y=true
 | [],b,ls,h=>⟨[],ls,rfl,rfl,h⟩
 |f::a,b,[],h=>by cases h
 |f::a,b,l::ls,h=>by
  simp only[List.cons_append,cZA,Bool.and_eq_true]at h;obtain⟨x,y,rfl,h1,h2⟩:=iZj h.2;exact⟨l::x,y,rfl,by simp[cZA,h.1,h1],h2⟩
theorem jZq {f:Lf}{ls:List Lit}(h:cZA [f] ls=true):∃ x,ls=[x]:=by
 have:=dZP h
 match ls,this with
 | [x],_=>exact⟨x,rfl⟩
theorem gZj {P:Program}:∀(d:Nat) (t:TypeId) (ks:List Lf) (ls:List Lit),flat P d t=some ks→cZA ks ls=true→P.keyLits d t (ls.map Lit.value)=some ls
 |0,_,_,_,h,_=>by cases h
 |d+1,t,ks,ls,h,ho=>by
  unfold flat at h;unfold Program.keyLits;split at h
  ·rename_i hu
   cases h;obtain⟨x,rfl⟩:=jZq ho;cases x<;>simp only[cZA,lZw,Bool.and_true,Bool.false_eq_true,Bool.false_and]at ho;simp[hu,Lit.value]
  ·rename_i q hu
   cases h;obtain⟨x,rfl⟩:=jZq ho;cases x<;>simp only[cZA,lZw,Bool.and_eq_true,decide_eq_true_eq,Bool.and_true,Bool.false_eq_true,Bool.false_and]at ho;obtain⟨rfl,hw⟩:=ho;simp[hu,Lit.value,hw]
  ·rename_i hu
   cases h;obtain⟨x,rfl⟩:=jZq ho;cases x<;>simp only[cZA,lZw,decide_eq_true_eq,Bool.and_true,Bool.false_eq_true,Bool.false_and]at ho;simp[hu,Lit.value,ByteArray.size,ho]
  ·rename_i n e hu
   split at h
   ·rename_i l hl
    split at h
    ·rename_i hb
     cases h;simp only[Bool.and_eq_true]at hb;have h1:=Nat.eq_of_beq_eq_true hb.1;have h2:=Nat.eq_of_beq_eq_true hb.2;simp only[hu];have hlen:=dZP ho;rw[if_pos (by rw[List.length_map,hlen,List.length_flatten];simp[h2,←h1])];have key:∀(m i:Nat) (pre ls:List Lit),pre.length=i*l.length→cZA (List.replicate m l).flatten ls=true→
       ∃ out,(List.range' i m).mapM (fun i=>P.keyLits d e ((((pre++ls).map Lit.value).drop (i*P.cellsOf e)).take (P.cellsOf e)))=some out∧out.flatten=ls:=by
      intro m
      induction m with
      |zero=>
       intro i pre ls _ ho;have:ls=[]:=by have:=dZP ho;simpa using this
       subst this;exact⟨[],by simp,rfl⟩
      |succ m ih=>
       intro i pre ls hp ho;rw[List.replicate_succ,List.flatten_cons]at ho;obtain⟨x,y,rfl,hx,hy⟩:=iZj ho;have lx:=dZP hx;obtain⟨out,ho1,ho2⟩:=ih (i+1) (pre++x) y (by rw[List.length_append,hp,lx,Nat.succ_mul]) hy;refine⟨x::out,?_,by rw[List.flatten_cons,ho2]⟩;rw[List.range'_succ,List.mapM_cons];have e1:((((pre++(x++y)).map Lit.value).drop (i*P.cellsOf e)).take (P.cellsOf e))=x.map Lit.value:=by
        rw[← h1,←hp,List.map_append,List.drop_left' (by simp),List.map_append,List.take_left' (by simp[lx])]
       rw[e1,gZj d e l x hl hx];rw[List.append_assoc]at ho1;rw[ho1];rfl
     obtain⟨out,h3,h4⟩:=key n 0 [] ls (by simp) ho;rw[List.range_eq_range'];simp only[List.nil_append]at h3;rw[h3];simp[h4]
    ·cases h
   ·cases h
  ·rename_i fs hu
   split at h
   ·rename_i l hl
    split at h
    ·rename_i hb
     cases h;have h1:=Nat.eq_of_beq_eq_true hb;have hlen:=dZP ho;have key:∀(fl:List Field) (off:Nat) (k:List Lf) (pre ls:List Lit),lZq P (flat P d) fl off=some k→pre.length=off→cZA k ls=true→
       (fl.all (·.name != "_") = true) ∧ ∃ out, fl.mapM (fun f => P.keyLits d f.type ((((pre ++ ls).map Lit.value).drop f.offset).take (P.cellsOf f.type))) = some out ∧ out.flatten = ls := by
      intro fl
      induction fl with
      |nil=>
       intro off k pre ls hk _ ho;cases hk;have:ls=[]:=by have:=dZP ho;simpa using this
       subst this;exact⟨rfl,[],by simp,rfl⟩
      |cons f fl ih=>
       intro off k pre ls hk hp ho;unfold lZq at hk;split at hk
       ·rename_i hn
        simp only[Bool.and_eq_true]at hn;have hoff:=Nat.eq_of_beq_eq_true hn.2;split at hk
        ·rename_i kl hkl
         split at hk
         ·rename_i hb2
          have h2:=Nat.eq_of_beq_eq_true hb2;split at hk
          ·rename_i kr hkr
           cases hk;obtain⟨x,y,rfl,hx,hy⟩:=iZj ho;have lx:=dZP hx;obtain⟨hn2,out,ho1,ho2⟩:=ih (off+kl.length) kr (pre++x) y hkr (by rw[List.length_append,hp,lx]) hy;refine⟨by rw[List.all_cons,hn.1,hn2];rfl,x::out,?_,by rw[List.flatten_cons,ho2]⟩;rw[List.mapM_cons];have e1:((((pre++(x++y)).map Lit.value).drop f.offset).take (P.cellsOf f.type))=x.map Lit.value:=by
            rw[hoff,←h2,←hp,List.map_append,List.drop_left' (by simp),List.map_append,List.take_left' (by simp[lx])]
           rw[e1,gZj d f.type kl x hkl hx];rw[List.append_assoc]at ho1;rw[ho1];rfl
          ·cases hk
         ·cases hk
        ·cases hk
       ·cases hk
     obtain⟨hn,out,h3,h4⟩:=key fs.toList 0 ks [] ls hl rfl ho;simp only[hu];rw[if_pos ⟨by rw[List.length_map,hlen,h1],by rw[← Array.all_toList];exact hn⟩];simp only[List.nil_append]at h3;rw[h3];simp[h4]
    ·cases h
   ·cases h
  ·cases h
theorem tZu {P:Program}{d:Nat}{t:TypeId}{ks:List Lf}(ha:iZP P t=true)(h:flat P d t=some ks):ks.length=P.cellsOf t:=by
 cases d with
 |zero=>cases h
 |succ d=>
  unfold flat at h;unfold iZP at ha;split at h
  ·rename_i hu;rw[hu]at ha;cases ha
  ·rename_i hu;rw[hu]at ha;cases ha
  ·rename_i hu;rw[hu]at ha;cases ha
  ·split at h
   ·rename_i l hl
    split at h
    ·rename_i hb
     cases h;simp only[Bool.and_eq_true]at hb;rw[← Nat.eq_of_beq_eq_true hb.2];simp[List.length_flatten]
    ·cases h
   ·cases h
  ·split at h
   ·split at h
    ·rename_i hb;cases h;exact Nat.eq_of_beq_eq_true hb
    ·cases h
   ·cases h
  ·cases h
theorem qZv {P:Program}{d m:Nat}{t:TypeId}{ks:List Lf}(ha:iZP P t=true)(hf:flat P d t=some ks)(hk:P.keyTypeAt m t=true)(hm:m≤10000){lx ly:List Lit}(ox:cZA ks lx=true)(oy:cZA ks ly=true){c:Bool}(hc:c=true↔lx=ly)(w:World):
  (Op.equal t (.agg (lx.map Lit.value).toArray) (.agg (ly.map Lit.value).toArray)).run P w= .ok c w:=by
 have hform:∀ l:List Lit,cZA ks l=true→(Value.agg (l.map Lit.value).toArray).formed P t=true:=fun l hl=>by
  have:=dZP hl;have h2:=tZu ha hf;unfold Value.formed;unfold iZP at ha;split at ha
  ·rename_i hu;rw[hu];simp[this,h2]
  ·rename_i hu;rw[hu];simp[this,h2]
  ·cases ha
 obtain⟨r,hr,hiff⟩:=run_equalIn_deep (P:=P) (10000-m) m t hk w d d _ _ lx ly (hform lx ox) (hform ly oy) (by simpa [Value.cells]using gZj d t ks lx hf ox) (by simpa [Value.cells]using gZj d t ks ly hf oy);rw[show 10000-m+m=10000 by omega]at hr;have:r=c:=by
  cases r<;>cases c<;>simp_all
 rw[← this];exact hr
theorem xZm {n:Int}(h0: -9223372036854775808≤n)(h1:n≤9223372036854775807):(Lit.int .i64 n).wf=true:=by
 simp only[Lit.wf,Bool.and_eq_true,decide_eq_true_eq];exact⟨h0,h1⟩
theorem wfI {n:Int}(h: -9223372036854775808≤n∧n≤9223372036854775807):(Lit.int .i64 n).wf=true:=xZm h.1 h.2
theorem tZE :∀(n:Nat) (l:List Int),l.length=n→(∀ x∈l,-9223372036854775808≤x∧x≤9223372036854775807)→cZA (List.replicate n (.int .i64)) (l.map (Lit.int .i64))=true
 |0,[],_,_=>rfl
 |n+1,x::l,h,hr=>by
  have h1:=wfI (hr x (by simp));have h2:=tZE n l (by simpa using h) (fun y hy=>hr y (by simp[hy]));rw[List.replicate_succ,List.map_cons];simp only[cZA,lZw,decide_true,Bool.true_and,Bool.and_eq_true];exact⟨h1,h2⟩
section
variable {P : Program} {d m : Nat} {t : TypeId} {ks : List Lf} (ha : iZP P t = true) (hf : flat P d t = some ks) (hk : P.keyTypeAt m t = true) (hm : m ≤ 10000) (hg : P.eqGuardType P.depth t = false)
include ha hf hk hm hg
theorem uZN {lx ly:List Lit}(ox:cZA ks lx=true)(oy:cZA ks ly=true){cx cy:Array Value}(ex:cx=(lx.map Lit.value).toArray)(ey:cy=(ly.map Lit.value).toArray){K:Bool→Prop}(c:Bool)(hc:c=true↔lx=ly)(k:K c):EqV P .eql t (.agg cx) (.agg cy) K:=by
 subst ex;subst ey;refine⟨_,k,fun xo yo w=>?_⟩;have h:=qZv ha hf hk hm ox oy hc w;simp[eqGuard,binOp,h,hg]
end
def pZG (P:Program)(t:TypeId)(n:Nat):Prop:=iZP P t=true∧flat P 9 t=some (List.replicate n (.int .i64))∧P.keyTypeAt 9 t=true∧P.eqGuardType P.depth t=false
theorem uZv (l:List Int):(l.map (Lit.int .i64)).map Lit.value=l.map (Value.int .i64):=by rw[List.map_map];rfl
theorem wZS {a b:List Int}:a.map (Lit.int .i64)=b.map (Lit.int .i64)↔a=b:=by
 constructor
 ·intro h;have:∀{a b:List Int},a.map (Lit.int .i64)=b.map (Lit.int .i64)→a=b:=by
   intro a
   induction a with
   |nil=>intro b h;cases b with
    |nil=>rfl
    |cons _ _=>simp at h
   |cons x a ih=>intro b h;cases b with
    |nil=>simp at h
    |cons y b=>simp at h;rw[h.1,ih (by simpa using h.2)]
  exact this h
 ·intro h;rw[h]
theorem uZM {P:Program}{t:TypeId}{n:Nat}(hp:pZG P t n){a b:List Int}(la:a.length=n)(lb:b.length=n)(ra:∀ x∈a,-9223372036854775808≤x∧x≤9223372036854775807)(rb:∀ x∈b,-9223372036854775808≤x∧x≤9223372036854775807)
  {cx cy:Array Value} (ex:cx=(a.map (Value.int .i64)).toArray) (ey:cy=(b.map (Value.int .i64)).toArray) {K:Bool→Prop} (k:K (decide (a=b))):EqV P .eql t (.agg cx) (.agg cy) K:=
 uZN hp.1 hp.2.1 hp.2.2.1 (by omega) hp.2.2.2 (tZE n a la ra) (tZE n b lb rb) (by rw[uZv];exact ex) (by rw[uZv];exact ey) _ (by rw[wZS];simp) k
end Go.Hw
namespace Go.Proofs.YtahjgjaenegpgaaGreatDoor.W
open Go Go.Hw
theorem bZf :Tryz.prog.follows .mixedOrders=true:=by kernel_rfl
def dZ7 (p1:Option Addr)(H:Hp)(K:Value→Hp→Prop):Prop:=
 Nw H (.obj (.cells #[.pointer p1] 157)) fun b1 H1=>Nw H1 (.obj (.cells #[.int .u32 0,.int .i64 0] 204)) fun b2 H2=>LeP H2 ⟨b1,0,none⟩ fun p2=>HcI 121 #[.pointer p2,.func (.func 122) #[] #[.pointer (some ⟨b1,0,none⟩),.pointer (some ⟨b2,0,none⟩)]] H2 fun x1 H3=>BIf (x1 !=0) (K (.tuple #[.int .u32 0,.int .i64 x1]) H3) (HcU 126 #[.pointer (some ⟨b2,0,none⟩)] H3 fun x2 H4=>K (.tuple #[.int .u32 x2,.int .i64 0]) H4)
theorem dZ7.ok (p1:Option Addr)(H:Hp)(K:Value→Hp→Prop)(h:dZ7 p1 H K):Zc Tryz.prog 79 #[.pointer p1] H K:=
 Zr Tryz.func79 rfl (nbl rfl) (Zf (Λ:=Zn.none (fun _=>none)) bZf _ _ _ _ _ (Eq.mp (by kernel_rfl) h) (Zt _ _ _ _ _))
def dZu (p1:Option Addr)(H:Hp)(K:Value→Hp→Prop):Prop:=
 NN p1 fun a1=>LeI H ((a1.add 2).add 2) fun x1=>K (.int .i64 x1) H
theorem dZu.ok (p1:Option Addr)(H:Hp)(K:Value→Hp→Prop)(h:dZu p1 H K):Zc Tryz.prog 80 #[.pointer p1] H K:=
 Zr Tryz.func80 rfl (nbl rfl) (Zf (Λ:=Zn.none (fun _=>none)) bZf _ _ _ _ _ (Eq.mp (by kernel_rfl) h) (Zt _ _ _ _ _))
def ZX.l9 (K:Value→Hp→Prop):Nat→Option Addr→Option Addr→Nat→Nat→Option Addr→Option Addr→Nat→Nat→Int→Int→Option Addr→Option Addr→Nat→Nat→Hp→Prop
 |0,_,_,_,_,_,_,_,_,_,_,_,_,_,_,_=>False
 |k+1,p9,A5,n5,m5,p10,A6,n6,m6,x8,x9,p11,A7,n7,m7,H=>
  let R9:=ZX.l9 K k
  BIf (decide (x9<x8)) (ixI x9 n6 (NN A6 fun a4=>LdA H (a4.add (x9.toNat*3)) 3 fun l10=>Nw H (.obj (.cells #[.int .i64 0,.int .i64 0,.int .i64 0] 223)) fun b2 H7=>StA H7 ⟨b2,0,none⟩ l10.toArray 3 fun H8=>NN p9 fun a5=>LeI H8 ((⟨b2,0,none⟩:Addr).add 0) fun x10=>HcI 123 #[.pointer (some (a5.add 0)),.int .i64 x10,.pointer p10] H8 fun x11 H9=>BIf (x11 !=0) (aZ9 Tryz.prog 130 #[.pointer p11,.slice A7 n7 m7] H9 fun _ H11=>K (.int .i64 x11) H11) (LeI H9 ((⟨b2,0,none⟩:Addr).add 2) fun x12=>slB n5 m5 none (some x12) fun n8 n9=>QcS 125 #[.pointer p10] H9 fun A8 n10 m8=>LeI H9 ((⟨b2,0,none⟩:Addr).add 1) fun x13=>slB n10 m8 (some x13) none fun n11 n12=>CpK Tryz.prog 84 (.slice (slA A5 m5 n8 1) (n9-n8) (m5-n8)) (.slice (slA A8 m8 n11 1) (n12-n11) (m8-n11)) H9 fun v20 H10=>DI .i64 v20 fun x14=>LeI H10 ((⟨b2,0,none⟩:Addr).add 2) fun x15=>slB n5 m5 (some x15) none fun n13 n14=>R9 p9 (slA A5 m5 n13 1) (n14-n13) (m5-n13) p10 A6 n6 m6 x8 (IntKind.i64.wrap (x9+1)) p11 A7 n7 m7 H10))) (aZ9 Tryz.prog 130 #[.pointer p11,.slice A7 n7 m7] H fun _ H12=>K (.int .i64 0) H12)
def ZX.j5 (K:Value→Hp→Prop)(p6:Option Addr)(A3:Option Addr)(n3:Nat)(m3:Nat)(A4:Option Addr)(n4:Nat)(m4:Nat)(x7:Int)(p7:Option Addr)(H:Hp):Prop:=
 BIf (x7 !=0) (K (.int .i64 x7) H) (NN p6 fun a3=>LeP H ((a3.add 0).add 1) fun p8=>Nw H (.row [.pointer p7] 206 1) fun b1 H6=>(∃ k,ZX.l9 K k p6 A3 n3 m3 p7 A4 n4 m4 (n4:Int) 0 p8 (some ⟨b1,0,none⟩) 1 1 H6))
def ZX (p1:Option Addr)(x1:Int)(A1:Option Addr)(n1:Nat)(m1:Nat)(H:Hp)(K:Value→Hp→Prop):Prop:=
 Hz 127 #[.pointer p1,.int .i64 x1,.int .i64 (n1:Int)] H fun v1 H1=>eZa v1 fun A2 n2 m2 x2=>(BIf (x2 !=0) (K (.int .i64 x2) H1) (BIf ((n1:Int)==0) (K (.int .i64 x2) H1) (NN p1 fun a1=>NN p1 fun a2=>(LeP H1 ((a1.add 0).add 1) fun p2=>HcI 129 #[.pointer (some (a2.add 0))] H1 fun x3 H2=>Hz 128 #[.pointer p2,.int .i64 x3] H2 fun v6 H3=>dZ9 v6 fun p3 x4=>(ZX.j5 K p1 A1 n1 m1 A2 n2 m2 x4 p3 H3))∧(HcI 129 #[.pointer (some (a2.add 0))] H1 fun x5 H4=>LeP H4 ((a1.add 0).add 1) fun p4=>Hz 128 #[.pointer p4,.int .i64 x5] H4 fun v11 H5=>dZ9 v11 fun p5 x6=>(ZX.j5 K p1 A1 n1 m1 A2 n2 m2 x6 p5 H5)))))
def ZX.l9.L (K:Value→Hp→Prop)(k:Nat):Mid:=fun E D H=>
 eP E 0 fun p9=>DG (E.get? 2) fun w2=>DSl w2 fun A5 n5 m5=>eP E 9 fun p10=>DG (E.get? 52) fun w52=>DSl w52 fun A6 n6 m6=>eI E 53 .i64 fun x8=>eI E 54 .i64 fun x9=>cZD 130 D fun dc0 da0 D1=>aZd dc0 (Zv da0 fun u0da0 r0da0=>DP u0da0 fun p11=>Zv r0da0 fun u1da0 r1da0=>DSl u1da0 fun A7 n7 m7=>aZd r1da0 (Zo D1 (ZX.l9 K k p9 A5 n5 m5 p10 A6 n6 m6 x8 x9 p11 A7 n7 m7 H)))
def ZX.Λ9 (_:Value→Hp→Prop)(_R9:Option Addr→Option Addr→Nat→Nat→Option Addr→Option Addr→Nat→Nat→Int→Int→Option Addr→Option Addr→Nat→Nat→Hp→Prop):Zn:=Zn.none (fun i=>match Nat.beq i 14 with|true=>some ([],[0,1,2,3,4,5,6,7,8],9)|false=>match Nat.beq i 11 with|true=>some ([],[0,1,2,3,4,5],6)|false=>match Nat.beq i 4 with|true=>some ([],[0,1,3,7,15,0,32,96,224,511,1023,2047,2047,4095,16383],0)|false=>none)
def ZX.Λ (K:Value→Hp→Prop):Zn:=⟨fun i=>match Nat.beq i 5 with|true=>some (fun E D H=>eP E 0 fun p6=>DG (E.get? 2) fun w2=>DSl w2 fun A3 n3 m3=>DG (E.get? 7) fun w7=>DSl w7 fun A4 n4 m4=>eI E 8 .i64 fun x7=>eP E 9 fun p7=>Zo D (ZX.j5 K p6 A3 n3 m3 A4 n4 m4 x7 p7 H))|false=>none,fun i=>match Nat.beq i 9 with|true=>some (fun E D H=>∃ k,ZX.l9.L K k E D H)|false=>none,(fun i=>match Nat.beq i 14 with|true=>some ([],[0,1,2,3,4,5,6,7,8],9)|false=>match Nat.beq i 11 with|true=>some ([],[0,1,2,3,4,5],6)|false=>match Nat.beq i 4 with|true=>some ([],[0,1,3,7,15,0,32,96,224,511,1023,2047,2047,4095,16383],0)|false=>none)⟩
theorem ZX.ok (p1:Option Addr)(x1:Int)(A1:Option Addr)(n1:Nat)(m1:Nat)(H:Hp)(K:Value→Hp→Prop)(h:ZX p1 x1 A1 n1 m1 H K):Zc Tryz.prog 81 #[.pointer p1,.int .i64 x1,.slice A1 n1 m1] H K:=
 Zr Tryz.func81 rfl (nbl rfl) (Zf (Λ:=(ZX.Λ K)) bZf _ _ _ _ _ (Eq.mp (by kernel_rfl) h) (Zb Za rfl (Zb Za rfl (Zb (Zb Za rfl (Zk (Zb Za rfl Zy) Zl)) rfl (aZH Za rfl (fun E D H h=>by
   obtain⟨p6,e0,g2⟩:=GP h;obtain⟨w2,e2,g3⟩:=DG.out g2;obtain⟨A3,n3,m3,rfl,g4⟩:=DSl.out g3;obtain⟨w7,e7,g5⟩:=DG.out g4;obtain⟨A4,n4,m4,rfl,g6⟩:=DSl.out g5;obtain⟨x7,e8,g8⟩:=GI g6;obtain⟨p7,e9,g10⟩:=GP g8;obtain⟨rfl,h'⟩:=Zo.out g10;exact(Zf (Λ:=(ZX.Λ K)) bZf _ _ [(0,.pointer p6),(2,.slice A3 n3 m3),(7,.slice A4 n4 m4),(8,.int .i64 x7),(9,.pointer p7)] [] H (Eq.mp (by kernel_rfl) h') (Zb (Zb Za rfl (Zk (Zb Za rfl Zy) Zl)) rfl (Zb Za rfl (Zb (Zb Za rfl (Zu (ZZ rfl (fun E D H h=>by
     refine Safe.loop' (ZX.l9.L K) (fun E D H h=>?_) (fun k E D H h=>?_) E D H h
     ·obtain⟨w0,e0,g1⟩:=DG.out h;obtain⟨p9,rfl,g2⟩:=DP.out g1;obtain⟨w2,e2,g3⟩:=DG.out g2;obtain⟨A5,n5,m5,rfl,g4⟩:=DSl.out g3;obtain⟨w9,e9,g5⟩:=DG.out g4;obtain⟨p10,rfl,g6⟩:=DP.out g5;obtain⟨w52,e52,g7⟩:=DG.out g6;obtain⟨A6,n6,m6,rfl,g8⟩:=DSl.out g7;obtain⟨w53,e53,g9⟩:=DG.out g8;obtain⟨x8,rfl,g10⟩:=DI.out g9;obtain⟨w54,e54,g11⟩:=DG.out g10;obtain⟨x9,rfl,g12⟩:=DI.out g11;obtain⟨dc0,da0,D1,rfl,g13⟩:=cZD.out g12;obtain⟨rfl,g14⟩:=aZd.out g13;obtain⟨u0da0,r0da0,rfl,g15⟩:=Zv.out g14;obtain⟨p11,rfl,g16⟩:=DP.out g15;obtain⟨u1da0,r1da0,rfl,g17⟩:=Zv.out g16;obtain⟨A7,n7,m7,rfl,g18⟩:=DSl.out g17;obtain⟨rfl,g19⟩:=aZd.out g18;obtain⟨rfl,h'⟩:=Zo.out g19;exact h'
     ·obtain⟨p9,e0,g2⟩:=GP h;obtain⟨w2,e2,g3⟩:=DG.out g2;obtain⟨A5,n5,m5,rfl,g4⟩:=DSl.out g3;obtain⟨p10,e9,g6⟩:=GP g4;obtain⟨w52,e52,g7⟩:=DG.out g6;obtain⟨A6,n6,m6,rfl,g8⟩:=DSl.out g7;obtain⟨x8,e53,g10⟩:=GI g8;obtain⟨x9,e54,g12⟩:=GI g10;obtain⟨dc0,da0,D1,rfl,g13⟩:=cZD.out g12;obtain⟨rfl,g14⟩:=aZd.out g13;obtain⟨u0da0,r0da0,rfl,g15⟩:=Zv.out g14;obtain⟨p11,rfl,g16⟩:=DP.out g15;obtain⟨u1da0,r1da0,rfl,g17⟩:=Zv.out g16;obtain⟨A7,n7,m7,rfl,g18⟩:=DSl.out g17;obtain⟨rfl,g19⟩:=aZd.out g18;obtain⟨rfl,h'⟩:=Zo.out g19;exact(Zf (Λ:=(ZX.Λ9 K (ZX.l9 K k))) bZf _ _ [(0,.pointer p9),(2,.slice A5 n5 m5),(9,.pointer p10),(52,.slice A6 n6 m6),(53,.int .i64 x8),(54,.int .i64 x9)] [{ target:=.fn (.func 130) #[],args:=#[.pointer p11,.slice A7 n7 m7]}] H (Eq.mp (by kernel_rfl) h') (Zb Za rfl (Zb (Zk Zl ZS) rfl (Zb (Zu (Zb Za rfl (Zb (Zb Za rfl (Zb Za rfl (Zk (Zb Za rfl Zy) Zl))) rfl (Zb Za rfl Za)))) rfl Za)))).weaken (Ze.cons e0 (Ze.cons e2 (Ze.cons e9 (Ze.cons e52 (Ze.cons e53 (Ze.cons e54 (Ze.nil _))))))) (Hp.le_refl _))))) rfl (Zb Za rfl Zy))))).weaken (Ze.cons e0 (Ze.cons e2 (Ze.cons e7 (Ze.cons e8 (Ze.cons e9 (Ze.nil _)))))) (Hp.le_refl _)))))))
def ZD.j15 (K:Value→Hp→Prop)(R9:Option Addr→Option Addr→Nat→Nat→Option Addr→Option Addr→Nat→Nat→Int→Int→Option Addr→Option Addr→Nat→Nat→Hp→Prop)(p12:Option Addr)(A8:Option Addr)(n8:Nat)(m8:Nat)(p13:Option Addr)(a7:Addr)(A9:Option Addr)(n9:Nat)(m9:Nat)(x14:Int)(x15:Int)(p14:Option Addr)(A10:Option Addr)(n10:Nat)(m10:Nat)(H:Hp):Prop:=
 QcS 125 #[.pointer p13] H fun A11 n11 m11=>LeI H (a7.add 1) fun x16=>slB n11 m11 (some x16) none fun n12 n13=>LeI H (a7.add 2) fun x17=>slB n8 m8 none (some x17) fun n14 n15=>CpK Tryz.prog 84 (.slice (slA A11 m11 n12 1) (n13-n12) (m11-n12)) (.slice (slA A8 m8 n14 1) (n15-n14) (m8-n14)) H fun v22 H10=>DI .i64 v22 fun x18=>NN p12 fun a8=>LeI H10 (a7.add 0) fun x19=>HcI 145 #[.pointer (some (a8.add 0)),.int .i64 x19,.pointer p13] H10 fun x20 H11=>BIf (x20 !=0) (aZ9 Tryz.prog 130 #[.pointer p14,.slice A10 n10 m10] H11 fun _ H13=>K (.int .i64 x20) H13) (LeI H11 (a7.add 2) fun x21=>slB n8 m8 (some x21) none fun n16 n17=>R9 p12 (slA A8 m8 n16 1) (n17-n16) (m8-n16) p13 A9 n9 m9 x14 (IntKind.i64.wrap (x15+1)) p14 A10 n10 m10 H11)
def ZD.l9 (K:Value→Hp→Prop):Nat→Option Addr→Option Addr→Nat→Nat→Option Addr→Option Addr→Nat→Nat→Int→Int→Option Addr→Option Addr→Nat→Nat→Hp→Prop
 |0,_,_,_,_,_,_,_,_,_,_,_,_,_,_,_=>False
 |k+1,p9,A5,n5,m5,p10,A6,n6,m6,x8,x9,p11,A7,n7,m7,H=>
  let R9:=ZD.l9 K k
  BIf (decide (x9<x8)) (ixI x9 n6 (NN A6 fun a4=>LdA H (a4.add (x9.toNat*3)) 3 fun l10=>Nw H (.obj (.cells #[.int .i64 0,.int .i64 0,.int .i64 0] 223)) fun b2 H7=>StA H7 ⟨b2,0,none⟩ l10.toArray 3 fun H8=>LeI H8 ((⟨b2,0,none⟩:Addr).add 2) fun x10=>NN p9 fun a5=>QcI 129 #[.pointer (some (a5.add 0))] H8 fun x11=>BIf (decide (x10<x11)) (NN p9 fun a6=>LeI H8 ((⟨b2,0,none⟩:Addr).add 0) fun x12=>HcI 123 #[.pointer (some (a6.add 0)),.int .i64 x12,.pointer p10] H8 fun x13 H9=>BIf (x13 !=0) (aZ9 Tryz.prog 130 #[.pointer p11,.slice A7 n7 m7] H9 fun _ H12=>K (.int .i64 x13) H12) (ZD.j15 K R9 p9 A5 n5 m5 p10 ⟨b2,0,none⟩ A6 n6 m6 x8 x9 p11 A7 n7 m7 H9)) (ZD.j15 K R9 p9 A5 n5 m5 p10 ⟨b2,0,none⟩ A6 n6 m6 x8 x9 p11 A7 n7 m7 H8))) (aZ9 Tryz.prog 130 #[.pointer p11,.slice A7 n7 m7] H fun _ H14=>K (.int .i64 0) H14)
def ZD.j5 (K:Value→Hp→Prop)(p6:Option Addr)(A3:Option Addr)(n3:Nat)(m3:Nat)(A4:Option Addr)(n4:Nat)(m4:Nat)(x7:Int)(p7:Option Addr)(H:Hp):Prop:=
 BIf (x7 !=0) (K (.int .i64 x7) H) (NN p6 fun a3=>LeP H ((a3.add 0).add 1) fun p8=>Nw H (.row [.pointer p7] 206 1) fun b1 H6=>(∃ k,ZD.l9 K k p6 A3 n3 m3 p7 A4 n4 m4 (n4:Int) 0 p8 (some ⟨b1,0,none⟩) 1 1 H6))
def ZD (p1:Option Addr)(x1:Int)(A1:Option Addr)(n1:Nat)(m1:Nat)(H:Hp)(K:Value→Hp→Prop):Prop:=
 Hz 127 #[.pointer p1,.int .i64 x1,.int .i64 (n1:Int)] H fun v1 H1=>eZa v1 fun A2 n2 m2 x2=>(BIf (x2 !=0) (K (.int .i64 x2) H1) (BIf ((n1:Int)==0) (K (.int .i64 x2) H1) (NN p1 fun a1=>NN p1 fun a2=>(LeP H1 ((a1.add 0).add 1) fun p2=>HcI 129 #[.pointer (some (a2.add 0))] H1 fun x3 H2=>Hz 128 #[.pointer p2,.int .i64 x3] H2 fun v6 H3=>dZ9 v6 fun p3 x4=>(ZD.j5 K p1 A1 n1 m1 A2 n2 m2 x4 p3 H3))∧(HcI 129 #[.pointer (some (a2.add 0))] H1 fun x5 H4=>LeP H4 ((a1.add 0).add 1) fun p4=>Hz 128 #[.pointer p4,.int .i64 x5] H4 fun v11 H5=>dZ9 v11 fun p5 x6=>(ZD.j5 K p1 A1 n1 m1 A2 n2 m2 x6 p5 H5)))))
def ZD.l9.L (K:Value→Hp→Prop)(k:Nat):Mid:=fun E D H=>
 eP E 0 fun p9=>DG (E.get? 2) fun w2=>DSl w2 fun A5 n5 m5=>eP E 9 fun p10=>DG (E.get? 53) fun w53=>DSl w53 fun A6 n6 m6=>eI E 54 .i64 fun x8=>eI E 55 .i64 fun x9=>cZD 130 D fun dc0 da0 D1=>aZd dc0 (Zv da0 fun u0da0 r0da0=>DP u0da0 fun p11=>Zv r0da0 fun u1da0 r1da0=>DSl u1da0 fun A7 n7 m7=>aZd r1da0 (Zo D1 (ZD.l9 K k p9 A5 n5 m5 p10 A6 n6 m6 x8 x9 p11 A7 n7 m7 H)))
def ZD.Λ9 (K:Value→Hp→Prop)(R9:Option Addr→Option Addr→Nat→Nat→Option Addr→Option Addr→Nat→Nat→Int→Int→Option Addr→Option Addr→Nat→Nat→Hp→Prop):Zn:=⟨fun i=>match Nat.beq i 15 with|true=>some (fun E D H=>eP E 0 fun p12=>DG (E.get? 2) fun w2=>DSl w2 fun A8 n8 m8=>eP E 9 fun p13=>eN E 11 fun a7=>DG (E.get? 53) fun w53=>DSl w53 fun A9 n9 m9=>eI E 54 .i64 fun x14=>eI E 55 .i64 fun x15=>cZD 130 D fun dc0 da0 D1=>aZd dc0 (Zv da0 fun u0da0 r0da0=>DP u0da0 fun p14=>Zv r0da0 fun u1da0 r1da0=>DSl u1da0 fun A10 n10 m10=>aZd r1da0 (Zo D1 (ZD.j15 K R9 p12 A8 n8 m8 p13 a7 A9 n9 m9 x14 x15 p14 A10 n10 m10 H))))|false=>none,fun i=>none,(fun i=>match Nat.beq i 16 with|true=>some ([],[0,1,2,3,4,5],6)|false=>match Nat.beq i 15 with|true=>some ([],[0,1,2,3,4,5,6,7,8],9)|false=>match Nat.beq i 12 with|true=>some ([],[0,1,2,3,4,5],6)|false=>match Nat.beq i 4 with|true=>some ([],[0,1,3,7,15,0,32,96,224,511,1023,2047,2047,4095,16383],0)|false=>none)⟩
def ZD.Λ (K:Value→Hp→Prop):Zn:=⟨fun i=>match Nat.beq i 5 with|true=>some (fun E D H=>eP E 0 fun p6=>DG (E.get? 2) fun w2=>DSl w2 fun A3 n3 m3=>DG (E.get? 7) fun w7=>DSl w7 fun A4 n4 m4=>eI E 8 .i64 fun x7=>eP E 9 fun p7=>Zo D (ZD.j5 K p6 A3 n3 m3 A4 n4 m4 x7 p7 H))|false=>none,fun i=>match Nat.beq i 9 with|true=>some (fun E D H=>∃ k,ZD.l9.L K k E D H)|false=>none,(fun i=>match Nat.beq i 16 with|true=>some ([],[0,1,2,3,4,5],6)|false=>match Nat.beq i 15 with|true=>some ([],[0,1,2,3,4,5,6,7,8],9)|false=>match Nat.beq i 12 with|true=>some ([],[0,1,2,3,4,5],6)|false=>match Nat.beq i 4 with|true=>some ([],[0,1,3,7,15,0,32,96,224,511,1023,2047,2047,4095,16383],0)|false=>none)⟩
theorem ZD.ok (p1:Option Addr)(x1:Int)(A1:Option Addr)(n1:Nat)(m1:Nat)(H:Hp)(K:Value→Hp→Prop)(h:ZD p1 x1 A1 n1 m1 H K):Zc Tryz.prog 97 #[.pointer p1,.int .i64 x1,.slice A1 n1 m1] H K:=
 Zr Tryz.func97 rfl (nbl rfl) (Zf (Λ:=(ZD.Λ K)) bZf _ _ _ _ _ (Eq.mp (by kernel_rfl) h) (Zb Za rfl (Zb Za rfl (Zb (Zb Za rfl (Zk (Zb Za rfl Zy) Zl)) rfl (aZH Za rfl (fun E D H h=>by
   obtain⟨p6,e0,g2⟩:=GP h;obtain⟨w2,e2,g3⟩:=DG.out g2;obtain⟨A3,n3,m3,rfl,g4⟩:=DSl.out g3;obtain⟨w7,e7,g5⟩:=DG.out g4;obtain⟨A4,n4,m4,rfl,g6⟩:=DSl.out g5;obtain⟨x7,e8,g8⟩:=GI g6;obtain⟨p7,e9,g10⟩:=GP g8;obtain⟨rfl,h'⟩:=Zo.out g10;exact(Zf (Λ:=(ZD.Λ K)) bZf _ _ [(0,.pointer p6),(2,.slice A3 n3 m3),(7,.slice A4 n4 m4),(8,.int .i64 x7),(9,.pointer p7)] [] H (Eq.mp (by kernel_rfl) h') (Zb (Zb Za rfl (Zk (Zb Za rfl Zy) Zl)) rfl (Zb Za rfl (Zb (Zb Za rfl (Zu (ZZ rfl (fun E D H h=>by
     refine Safe.loop' (ZD.l9.L K) (fun E D H h=>?_) (fun k E D H h=>?_) E D H h
     ·obtain⟨w0,e0,g1⟩:=DG.out h;obtain⟨p9,rfl,g2⟩:=DP.out g1;obtain⟨w2,e2,g3⟩:=DG.out g2;obtain⟨A5,n5,m5,rfl,g4⟩:=DSl.out g3;obtain⟨w9,e9,g5⟩:=DG.out g4;obtain⟨p10,rfl,g6⟩:=DP.out g5;obtain⟨w53,e53,g7⟩:=DG.out g6;obtain⟨A6,n6,m6,rfl,g8⟩:=DSl.out g7;obtain⟨w54,e54,g9⟩:=DG.out g8;obtain⟨x8,rfl,g10⟩:=DI.out g9;obtain⟨w55,e55,g11⟩:=DG.out g10;obtain⟨x9,rfl,g12⟩:=DI.out g11;obtain⟨dc0,da0,D1,rfl,g13⟩:=cZD.out g12;obtain⟨rfl,g14⟩:=aZd.out g13;obtain⟨u0da0,r0da0,rfl,g15⟩:=Zv.out g14;obtain⟨p11,rfl,g16⟩:=DP.out g15;obtain⟨u1da0,r1da0,rfl,g17⟩:=Zv.out g16;obtain⟨A7,n7,m7,rfl,g18⟩:=DSl.out g17;obtain⟨rfl,g19⟩:=aZd.out g18;obtain⟨rfl,h'⟩:=Zo.out g19;exact h'
     ·obtain⟨p9,e0,g2⟩:=GP h;obtain⟨w2,e2,g3⟩:=DG.out g2;obtain⟨A5,n5,m5,rfl,g4⟩:=DSl.out g3;obtain⟨p10,e9,g6⟩:=GP g4;obtain⟨w53,e53,g7⟩:=DG.out g6;obtain⟨A6,n6,m6,rfl,g8⟩:=DSl.out g7;obtain⟨x8,e54,g10⟩:=GI g8;obtain⟨x9,e55,g12⟩:=GI g10;obtain⟨dc0,da0,D1,rfl,g13⟩:=cZD.out g12;obtain⟨rfl,g14⟩:=aZd.out g13;obtain⟨u0da0,r0da0,rfl,g15⟩:=Zv.out g14;obtain⟨p11,rfl,g16⟩:=DP.out g15;obtain⟨u1da0,r1da0,rfl,g17⟩:=Zv.out g16;obtain⟨A7,n7,m7,rfl,g18⟩:=DSl.out g17;obtain⟨rfl,g19⟩:=aZd.out g18;obtain⟨rfl,h'⟩:=Zo.out g19;exact(Zf (Λ:=(ZD.Λ9 K (ZD.l9 K k))) bZf _ _ [(0,.pointer p9),(2,.slice A5 n5 m5),(9,.pointer p10),(53,.slice A6 n6 m6),(54,.int .i64 x8),(55,.int .i64 x9)] [{ target:=.fn (.func 130) #[],args:=#[.pointer p11,.slice A7 n7 m7]}] H (Eq.mp (by kernel_rfl) h') (Zb Za rfl (Zb (Zk Zl ZS) rfl (Zb (Zu (Zb Za rfl (aZH (Zb Za rfl (Zk (Zb Za rfl (Zb Za rfl (Zk (Zb Za rfl Zy) Zl))) Zl)) rfl (fun E D H h=>by
        obtain⟨p12,e0,g2⟩:=GP h;obtain⟨w2,e2,g3⟩:=DG.out g2;obtain⟨A8,n8,m8,rfl,g4⟩:=DSl.out g3;obtain⟨p13,e9,g6⟩:=GP g4;obtain⟨a7,e11,g9⟩:=GN g6;obtain⟨w53,e53,g10⟩:=DG.out g9;obtain⟨A9,n9,m9,rfl,g11⟩:=DSl.out g10;obtain⟨x14,e54,g13⟩:=GI g11;obtain⟨x15,e55,g15⟩:=GI g13;obtain⟨dc0,da0,D1,rfl,g16⟩:=cZD.out g15;obtain⟨rfl,g17⟩:=aZd.out g16;obtain⟨u0da0,r0da0,rfl,g18⟩:=Zv.out g17;obtain⟨p14,rfl,g19⟩:=DP.out g18;obtain⟨u1da0,r1da0,rfl,g20⟩:=Zv.out g19;obtain⟨A10,n10,m10,rfl,g21⟩:=DSl.out g20;obtain⟨rfl,g22⟩:=aZd.out g21;obtain⟨rfl,h'⟩:=Zo.out g22;exact(Zf (Λ:=(ZD.Λ9 K (ZD.l9 K k))) bZf _ _ [(0,.pointer p12),(2,.slice A8 n8 m8),(9,.pointer p13),(11,.pointer (some a7)),(53,.slice A9 n9 m9),(54,.int .i64 x14),(55,.int .i64 x15)] [{ target:=.fn (.func 130) #[],args:=#[.pointer p14,.slice A10 n10 m10]}] H (Eq.mp (by kernel_rfl) h') (Zb Za rfl (Zb (Zb Za rfl (Zb Za rfl (Zk (Zb Za rfl Zy) Zl))) rfl Za))).weaken (Ze.cons e0 (Ze.cons e2 (Ze.cons e9 (Ze.cons e11 (Ze.cons e53 (Ze.cons e54 (Ze.cons e55 (Ze.nil _)))))))) (Hp.le_refl _))))) rfl Za)))).weaken (Ze.cons e0 (Ze.cons e2 (Ze.cons e9 (Ze.cons e53 (Ze.cons e54 (Ze.cons e55 (Ze.nil _))))))) (Hp.le_refl _))))) rfl (Zb Za rfl Zy))))).weaken (Ze.cons e0 (Ze.cons e2 (Ze.cons e7 (Ze.cons e8 (Ze.cons e9 (Ze.nil _)))))) (Hp.le_refl _)))))))
def gZc (p1:Option Addr)(p2:Option Addr)(x1:Int)(x2:Int)(x3:Int)(H:Hp)(K:Value→Hp→Prop):Prop:=
 Nw H (.obj (.cells #[.int .i64 x1,.int .i64 x2,.int .i64 x3] 98)) fun b1 H1=>BIf p1.isNone (K (.tuple #[.pointer none,.int .i64 1]) H1) (BIf p2.isNone (K (.tuple #[.pointer none,.int .i64 1]) H1) (LdA H1 ⟨b1,0,none⟩ 3 fun l1=>qZh l1.toArray.toList fun x4 x5 x6=>(Nw H1 (.obj (.cells #[.pointer p1,.pointer p2,.int .i64 x4,.int .i64 x5,.int .i64 x6] 211)) fun b2 H2=>LeI H2 ((⟨b1,0,none⟩:Addr).add 2) fun x7=>BIf (decide (x7<1)) (K (.tuple #[.pointer none,.int .i64 2]) H2) (LeI H2 ((⟨b1,0,none⟩:Addr).add 0) fun x8=>BIf (decide (x8<0)) (K (.tuple #[.pointer none,.int .i64 2]) H2) (LeI H2 ((⟨b1,0,none⟩:Addr).add 1) fun x9=>BIf (decide (x9<1)) (K (.tuple #[.pointer none,.int .i64 2]) H2) (LeI H2 ((⟨b1,0,none⟩:Addr).add 0) fun x10=>NN p1 fun a1=>QcI 50 #[.pointer (some (a1.add 0))] H2 fun x11=>BIf (decide (x10≥x11)) (K (.tuple #[.pointer none,.int .i64 2]) H2) (LeI H2 ((⟨b1,0,none⟩:Addr).add 1) fun x12=>NN p1 fun a2=>QcI 50 #[.pointer (some (a2.add 0))] H2 fun x13=>LeI H2 ((⟨b1,0,none⟩:Addr).add 0) fun x14=>BIf (decide (x12>(IntKind.i64.wrap (x13-x14)))) (K (.tuple #[.pointer none,.int .i64 2]) H2) (LeI H2 ((⟨b1,0,none⟩:Addr).add 2) fun x15=>LeI H2 ((⟨b1,0,none⟩:Addr).add 1) fun x16=>QcI 129 #[.pointer (some ((⟨b2,0,none⟩:Addr).add 0))] H2 fun x17=>BIf (decide (x15>(IntKind.i64.wrap (x16*x17)))) (K (.tuple #[.pointer none,.int .i64 2]) H2) (K (.tuple #[.pointer (some ⟨b2,0,none⟩),.int .i64 0]) H2)))))))))
theorem gZc.ok (p1:Option Addr)(p2:Option Addr)(x1:Int)(x2:Int)(x3:Int)(H:Hp)(K:Value→Hp→Prop)(h:gZc p1 p2 x1 x2 x3 H K):Zc Tryz.prog 120 #[.pointer p1,.pointer p2,.agg #[.int .i64 x1,.int .i64 x2,.int .i64 x3]] H K:=
 Zr Tryz.func120 rfl (nbl rfl) (Zf (Λ:=Zn.none (fun _=>none)) bZf _ _ _ _ _ (Eq.mp (by kernel_rfl) h) (Zt _ _ _ _ _))
def ZR.l6 (K:Value→Hp→Prop):Nat→Option Addr→FuncId→Array Value→Array Value→Option Addr→Int→Int→Int→Option Addr→Option Addr→Nat→Nat→Hp→Prop
 |0,_,_,_,_,_,_,_,_,_,_,_,_,_=>False
 |k+1,p9,fd3,F3,C3,p10,x8,x9,x10,p11,A1,n1,m1,H=>
  let R6:=ZR.l6 K k
  BIf (decide (x9>0)) (BIf (x8==0) (NN p9 fun a5=>HcI 129 #[.pointer (some (a5.add 0))] H fun x11 H6=>dZW Tryz.prog fd3 ((F3++ #[.int .i64 x10,.int .i64 (if x11<x9 then x11 else x9),.pointer p10])++C3) H6 fun v15 H7=>DR Tryz.prog (bZC Tryz.prog fd3) v15 fun v16=>DI .i64 v16 fun x12=>NN p9 fun a6=>HcI 129 #[.pointer (some (a6.add 0))] H7 fun x13 H8=>R6 p9 fd3 F3 C3 p10 x12 (IntKind.i64.wrap (x9-x13)) (IntKind.i64.wrap (x10+1)) p11 A1 n1 m1 H8) (aZ9 Tryz.prog 130 #[.pointer p11,.slice A1 n1 m1] H fun _ H9=>K (.int .i64 x8) H9)) (aZ9 Tryz.prog 130 #[.pointer p11,.slice A1 n1 m1] H fun _ H10=>K (.int .i64 x8) H10)
def ZR.j2 (K:Value→Hp→Prop)(p6:Option Addr)(fd2:FuncId)(F2:Array Value)(C2:Array Value)(p7:Option Addr)(x5:Int)(H:Hp):Prop:=
 BIf (x5 !=0) (K (.int .i64 x5) H) (NN p6 fun a3=>LeP H ((a3.add 0).add 1) fun p8=>Nw H (.row [.pointer p7] 206 1) fun b1 H5=>QcI 80 #[.pointer p6] H5 fun x6=>NN p6 fun a4=>LeI H5 ((a4.add 2).add 0) fun x7=>(∃ k,ZR.l6 K k p6 fd2 F2 C2 p7 x5 x6 x7 p8 (some ⟨b1,0,none⟩) 1 1 H5))
def ZR (p1:Option Addr)(fd1:FuncId)(F1:Array Value)(C1:Array Value)(H:Hp)(K:Value→Hp→Prop):Prop:=
 NN p1 fun a1=>NN p1 fun a2=>(LeP H ((a1.add 0).add 1) fun p2=>HcI 129 #[.pointer (some (a2.add 0))] H fun x1 H1=>Hz 128 #[.pointer p2,.int .i64 x1] H1 fun v3 H2=>dZ9 v3 fun p3 x2=>(ZR.j2 K p1 fd1 F1 C1 p3 x2 H2))∧(HcI 129 #[.pointer (some (a2.add 0))] H fun x3 H3=>LeP H3 ((a1.add 0).add 1) fun p4=>Hz 128 #[.pointer p4,.int .i64 x3] H3 fun v8 H4=>dZ9 v8 fun p5 x4=>(ZR.j2 K p1 fd1 F1 C1 p5 x4 H4))
def ZR.l6.L (K:Value→Hp→Prop)(k:Nat):Mid:=fun E D H=>
 eP E 0 fun p9=>DG (E.get? 1) fun w1=>DFn w1 fun fd3 F3 C3=>eP E 5 fun p10=>eI E 6 .i64 fun x8=>eI E 7 .i64 fun x9=>eI E 8 .i64 fun x10=>cZD 130 D fun dc0 da0 D1=>aZd dc0 (Zv da0 fun u0da0 r0da0=>DP u0da0 fun p11=>Zv r0da0 fun u1da0 r1da0=>DSl u1da0 fun A1 n1 m1=>aZd r1da0 (Zo D1 (ZR.l6 K k p9 fd3 F3 C3 p10 x8 x9 x10 p11 A1 n1 m1 H)))
def ZR.Λ6 (_:Value→Hp→Prop)(_R6:Option Addr→FuncId→Array Value→Array Value→Option Addr→Int→Int→Int→Option Addr→Option Addr→Nat→Nat→Hp→Prop):Zn:=Zn.none (fun i=>match Nat.beq i 1 with|true=>some ([],[0,1,3,7,15,0,32,96,224,511,1023,2047,2047,4095,16383],0)|false=>none)
def ZR.Λ (K:Value→Hp→Prop):Zn:=⟨fun i=>match Nat.beq i 2 with|true=>some (fun E D H=>eP E 0 fun p6=>DG (E.get? 1) fun w1=>DFn w1 fun fd2 F2 C2=>eP E 5 fun p7=>eI E 6 .i64 fun x5=>Zo D (ZR.j2 K p6 fd2 F2 C2 p7 x5 H))|false=>none,fun i=>match Nat.beq i 6 with|true=>some (fun E D H=>∃ k,ZR.l6.L K k E D H)|false=>none,(fun i=>match Nat.beq i 1 with|true=>some ([],[0,1,3,7,15,0,32,96,224,511,1023,2047,2047,4095,16383],0)|false=>none)⟩
theorem ZR.ok (p1:Option Addr)(fd1:FuncId)(F1:Array Value)(C1:Array Value)(H:Hp)(K:Value→Hp→Prop)(h:ZR p1 fd1 F1 C1 H K):Zc Tryz.prog 121 #[.pointer p1,.func (.func fd1) F1 C1] H K:=
 Zr Tryz.func121 rfl (nbl rfl) (Zf (Λ:=(ZR.Λ K)) bZf _ _ _ _ _ (Eq.mp (by kernel_rfl) h) (Zb Za rfl (aZH Za rfl (fun E D H h=>by
   obtain⟨p6,e0,g2⟩:=GP h;obtain⟨w1,e1,g3⟩:=DG.out g2;obtain⟨fd2,F2,C2,rfl,g4⟩:=DFn.out g3;obtain⟨p7,e5,g6⟩:=GP g4;obtain⟨x5,e6,g8⟩:=GI g6;obtain⟨rfl,h'⟩:=Zo.out g8;exact(Zf (Λ:=(ZR.Λ K)) bZf _ _ [(0,.pointer p6),(1,.func (.func fd2) F2 C2),(5,.pointer p7),(6,.int .i64 x5)] [] H (Eq.mp (by kernel_rfl) h') (Zb (Zb Za rfl (Zk (Zb Za rfl Zy) Zl)) rfl (Zb Za rfl (Zb (Zb Za rfl (Zu (ZZ rfl (fun E D H h=>by
     refine Safe.loop' (ZR.l6.L K) (fun E D H h=>?_) (fun k E D H h=>?_) E D H h
     ·obtain⟨w0,e0,g1⟩:=DG.out h;obtain⟨p9,rfl,g2⟩:=DP.out g1;obtain⟨w1,e1,g3⟩:=DG.out g2;obtain⟨fd3,F3,C3,rfl,g4⟩:=DFn.out g3;obtain⟨w5,e5,g5⟩:=DG.out g4;obtain⟨p10,rfl,g6⟩:=DP.out g5;obtain⟨w6,e6,g7⟩:=DG.out g6;obtain⟨x8,rfl,g8⟩:=DI.out g7;obtain⟨w7,e7,g9⟩:=DG.out g8;obtain⟨x9,rfl,g10⟩:=DI.out g9;obtain⟨w8,e8,g11⟩:=DG.out g10;obtain⟨x10,rfl,g12⟩:=DI.out g11;obtain⟨dc0,da0,D1,rfl,g13⟩:=cZD.out g12;obtain⟨rfl,g14⟩:=aZd.out g13;obtain⟨u0da0,r0da0,rfl,g15⟩:=Zv.out g14;obtain⟨p11,rfl,g16⟩:=DP.out g15;obtain⟨u1da0,r1da0,rfl,g17⟩:=Zv.out g16;obtain⟨A1,n1,m1,rfl,g18⟩:=DSl.out g17;obtain⟨rfl,g19⟩:=aZd.out g18;obtain⟨rfl,h'⟩:=Zo.out g19;exact h'
     ·obtain⟨p9,e0,g2⟩:=GP h;obtain⟨w1,e1,g3⟩:=DG.out g2;obtain⟨fd3,F3,C3,rfl,g4⟩:=DFn.out g3;obtain⟨p10,e5,g6⟩:=GP g4;obtain⟨x8,e6,g8⟩:=GI g6;obtain⟨x9,e7,g10⟩:=GI g8;obtain⟨x10,e8,g12⟩:=GI g10;obtain⟨dc0,da0,D1,rfl,g13⟩:=cZD.out g12;obtain⟨rfl,g14⟩:=aZd.out g13;obtain⟨u0da0,r0da0,rfl,g15⟩:=Zv.out g14;obtain⟨p11,rfl,g16⟩:=DP.out g15;obtain⟨u1da0,r1da0,rfl,g17⟩:=Zv.out g16;obtain⟨A1,n1,m1,rfl,g18⟩:=DSl.out g17;obtain⟨rfl,g19⟩:=aZd.out g18;obtain⟨rfl,h'⟩:=Zo.out g19;exact(Zf (Λ:=(ZR.Λ6 K (ZR.l6 K k))) bZf _ _ [(0,.pointer p9),(1,.func (.func fd3) F3 C3),(5,.pointer p10),(6,.int .i64 x8),(7,.int .i64 x9),(8,.int .i64 x10)] [{ target:=.fn (.func 130) #[],args:=#[.pointer p11,.slice A1 n1 m1]}] H (Eq.mp (by kernel_rfl) h') (Zb (Zb Za rfl (Zk Zl ZS)) rfl (Zb (Zu Za) rfl Za))).weaken (Ze.cons e0 (Ze.cons e1 (Ze.cons e5 (Ze.cons e6 (Ze.cons e7 (Ze.cons e8 (Ze.nil _))))))) (Hp.le_refl _))))) rfl (Zb Za rfl Zy))))).weaken (Ze.cons e0 (Ze.cons e1 (Ze.cons e5 (Ze.cons e6 (Ze.nil _))))) (Hp.le_refl _)))))
def dZt (x1:Int)(x2:Int)(p1:Option Addr)(p2:Option Addr)(p3:Option Addr)(H:Hp)(K:Value→Hp→Prop):Prop:=
 NN p2 fun a1=>LeP H a1 fun p4=>NN p4 fun a2=>HcI 123 #[.pointer (some (a2.add 0)),.int .i64 x1,.pointer p1] H fun x3 H1=>BIf (x3==0) (HcS 125 #[.pointer p1] H1 fun A1 n1 m1 H2=>slB n1 m1 none (some x2) fun n2 n3=>Hz 124 #[.pointer p3,.slice (slA A1 m1 n2 1) (n3-n2) (m1-n2)] H2 fun v4 H3=>K (.int .i64 x3) H3) (K (.int .i64 x3) H1)
theorem dZt.ok (x1:Int)(x2:Int)(p1:Option Addr)(p2:Option Addr)(p3:Option Addr)(H:Hp)(K:Value→Hp→Prop)(h:dZt x1 x2 p1 p2 p3 H K):Zc Tryz.prog 122 #[.int .i64 x1,.int .i64 x2,.pointer p1,.pointer p2,.pointer p3] H K:=
 Zr Tryz.func122 rfl (nbl rfl) (Zf (Λ:=Zn.none (fun _=>none)) bZf _ _ _ _ _ (Eq.mp (by kernel_rfl) h) (Zt _ _ _ _ _))
def aZs.l6 (K:Value→Hp→Prop):Nat→Option Addr→Nat→Nat→Option Addr→Nat→Nat→Int→Int→Hp→Prop
 |0,_,_,_,_,_,_,_,_,_=>False
 |k+1,A3,n3,m3,A4,n4,m4,x3,x4,H=>
  let R6:=aZs.l6 K k
  BIf (decide (x4<x3)) (Hz 103 #[.slice A3 n3 m3,.int .i64 x4] H fun v6 H3=>gZ6 v6 fun x5 x6=>(ixI x4 n4 (NN A4 fun a2=>St H3 ((a2.add (x4.toNat*1)).add 0) (.int .u64 x5) fun H4=>R6 A3 n3 m3 A4 n4 m4 x3 (IntKind.i64.wrap (x4+1)) H4))) (K (.int .i64 0) H)
def aZs (p1:Option Addr)(x1:Int)(p2:Option Addr)(H:Hp)(K:Value→Hp→Prop):Prop:=
 NN p1 fun a1=>LeP H (a1.add 0) fun p3=>Hz 70 #[.pointer p3,.int .i64 x1] H fun v2 H1=>eZa v2 fun A1 n1 m1 x2=>(BIf (x2 !=0) (K (.int .i64 x2) H1) (HcS 125 #[.pointer p2] H1 fun A2 n2 m2 H2=>(∃ k,aZs.l6 K k A1 n1 m1 A2 n2 m2 (n2:Int) 0 H2)))
def aZs.l6.L (K:Value→Hp→Prop)(k:Nat):Mid:=fun E D H=>
 DG (E.get? 7) fun w7=>DSl w7 fun A3 n3 m3=>DG (E.get? 9) fun w9=>DSl w9 fun A4 n4 m4=>eI E 28 .i64 fun x3=>eI E 29 .i64 fun x4=>Zo D (aZs.l6 K k A3 n3 m3 A4 n4 m4 x3 x4 H)
def aZs.Λ6 (_:Value→Hp→Prop)(_R6:Option Addr→Nat→Nat→Option Addr→Nat→Nat→Int→Int→Hp→Prop):Zn:=Zn.none (fun _=>none)
def aZs.Λ (K:Value→Hp→Prop):Zn:=⟨fun i=>none,fun i=>match Nat.beq i 6 with|true=>some (fun E D H=>∃ k,aZs.l6.L K k E D H)|false=>none,(fun _=>none)⟩
theorem aZs.ok (p1:Option Addr)(x1:Int)(p2:Option Addr)(H:Hp)(K:Value→Hp→Prop)(h:aZs p1 x1 p2 H K):Zc Tryz.prog 123 #[.pointer p1,.int .i64 x1,.pointer p2] H K:=
 Zr Tryz.func123 rfl (nbl rfl) (Zf (Λ:=(aZs.Λ K)) bZf _ _ _ _ _ (Eq.mp (by kernel_rfl) h) (Zb Za rfl (Zb Za rfl (Zb (Zb Za rfl (Zk (Zb Za rfl Zy) Zl)) rfl (Zb Za rfl (Zb (Zb Za rfl (Zu (ZZ rfl (fun E D H h=>by
   refine Safe.loop' (aZs.l6.L K) (fun E D H h=>?_) (fun k E D H h=>?_) E D H h
   ·obtain⟨w7,e7,g1⟩:=DG.out h;obtain⟨A3,n3,m3,rfl,g2⟩:=DSl.out g1;obtain⟨w9,e9,g3⟩:=DG.out g2;obtain⟨A4,n4,m4,rfl,g4⟩:=DSl.out g3;obtain⟨w28,e28,g5⟩:=DG.out g4;obtain⟨x3,rfl,g6⟩:=DI.out g5;obtain⟨w29,e29,g7⟩:=DG.out g6;obtain⟨x4,rfl,g8⟩:=DI.out g7;obtain⟨rfl,h'⟩:=Zo.out g8;exact h'
   ·obtain⟨w7,e7,g1⟩:=DG.out h;obtain⟨A3,n3,m3,rfl,g2⟩:=DSl.out g1;obtain⟨w9,e9,g3⟩:=DG.out g2;obtain⟨A4,n4,m4,rfl,g4⟩:=DSl.out g3;obtain⟨x3,e28,g6⟩:=GI g4;obtain⟨x4,e29,g8⟩:=GI g6;obtain⟨rfl,h'⟩:=Zo.out g8;exact(Zf (Λ:=(aZs.Λ6 K (aZs.l6 K k))) bZf _ _ [(7,.slice A3 n3 m3),(9,.slice A4 n4 m4),(28,.int .i64 x3),(29,.int .i64 x4)] [] H (Eq.mp (by kernel_rfl) h') (Zb Za rfl (Zb (Zk Zl ZS) rfl (Zb (Zu (Zb Za rfl (Zb Za rfl Za))) rfl Za)))).weaken (Ze.cons e7 (Ze.cons e9 (Ze.cons e28 (Ze.cons e29 (Ze.nil _))))) (Hp.le_refl _))))) rfl (Zb Za rfl Zy)))))))
def aZh.l4 (K:Value→Hp→Prop):Nat→Option Addr→Int→Int→Option Addr→Nat→Nat→Hp→Prop
 |0,_,_,_,_,_,_,_=>False
 |k+1,p2,x5,x6,A1,n1,m1,H=>
  let R4:=aZh.l4 K k
  BIf (decide (x6>0)) (NN p2 fun a1=>LdA H (a1.add 2) 3 fun l1=>NN p2 fun a2=>QcI 129 #[.pointer (some (a2.add 0))] H fun x7=>Qz 165 #[.agg l1.toArray,.int .i64 x7,.int .i64 x5] H fun v4=>nZu v4 fun x8 x9 x10=>(BIf (x10 !=0) (K (.tuple #[.slice none 0 0,.int .i64 x10]) H) (NN p2 fun a3=>HcI 129 #[.pointer (some (a3.add 0))] H fun x11 H3=>Nw H3 (.row [.int .i64 x8,.int .i64 x9,.int .i64 (if(IntKind.i64.wrap (x11-x9))<x6 then(IntKind.i64.wrap (x11-x9))else x6)] 223 3) fun b1 H4=>cZ7 Tryz.prog 223 (.slice A1 n1 m1) (.slice (some ⟨b1,0,none⟩) 1 1) H4 fun v9 H5=>DSl v9 fun A2 n2 m2=>R4 p2 (IntKind.i64.wrap (x5+(if(IntKind.i64.wrap (x11-x9))<x6 then(IntKind.i64.wrap (x11-x9))else x6))) (IntKind.i64.wrap (x6-(if(IntKind.i64.wrap (x11-x9))<x6 then(IntKind.i64.wrap (x11-x9))else x6))) A2 n2 m2 H5))) (K (.tuple #[.slice A1 n1 m1,.int .i64 0]) H)
def aZh (p1:Option Addr)(x1:Int)(x2:Int)(H:Hp)(K:Value→Hp→Prop):Prop:=
 BIf (decide (x1<0)) (K (.tuple #[.slice none 0 0,.int .i64 2]) H) (HcI 80 #[.pointer p1] H fun x3 H1=>BIf (decide (x1>x3)) (K (.tuple #[.slice none 0 0,.int .i64 2]) H1) (HcI 80 #[.pointer p1] H1 fun x4 H2=>BIf (decide (x2>(IntKind.i64.wrap (x4-x1)))) (K (.tuple #[.slice none 0 0,.int .i64 2]) H2) ((∃ k,aZh.l4 K k p1 x1 x2 none 0 0 H2))))
def aZh.l4.L (K:Value→Hp→Prop)(k:Nat):Mid:=fun E D H=>
 eP E 0 fun p2=>eI E 1 .i64 fun x5=>eI E 2 .i64 fun x6=>DG (E.get? 8) fun w8=>DSl w8 fun A1 n1 m1=>Zo D (aZh.l4 K k p2 x5 x6 A1 n1 m1 H)
def aZh.Λ4 (_:Value→Hp→Prop)(_R4:Option Addr→Int→Int→Option Addr→Nat→Nat→Hp→Prop):Zn:=Zn.none (fun _=>none)
def aZh.Λ (K:Value→Hp→Prop):Zn:=⟨fun i=>none,fun i=>match Nat.beq i 4 with|true=>some (fun E D H=>∃ k,aZh.l4.L K k E D H)|false=>none,(fun _=>none)⟩
theorem aZh.ok (p1:Option Addr)(x1:Int)(x2:Int)(H:Hp)(K:Value→Hp→Prop)(h:aZh p1 x1 x2 H K):Zc Tryz.prog 127 #[.pointer p1,.int .i64 x1,.int .i64 x2] H K:=
 Zr Tryz.func127 rfl (nbl rfl) (Zf (Λ:=(aZh.Λ K)) bZf _ _ _ _ _ (Eq.mp (by kernel_rfl) h) (Zb Za rfl (Zb (Zb Za rfl (Zk (Zb Za rfl Zy) Zl)) rfl (Zb Za rfl (Zb (Zu (ZZ rfl (fun E D H h=>by
   refine Safe.loop' (aZh.l4.L K) (fun E D H h=>?_) (fun k E D H h=>?_) E D H h
   ·obtain⟨w0,e0,g1⟩:=DG.out h;obtain⟨p2,rfl,g2⟩:=DP.out g1;obtain⟨w1,e1,g3⟩:=DG.out g2;obtain⟨x5,rfl,g4⟩:=DI.out g3;obtain⟨w2,e2,g5⟩:=DG.out g4;obtain⟨x6,rfl,g6⟩:=DI.out g5;obtain⟨w8,e8,g7⟩:=DG.out g6;obtain⟨A1,n1,m1,rfl,g8⟩:=DSl.out g7;obtain⟨rfl,h'⟩:=Zo.out g8;exact h'
   ·obtain⟨p2,e0,g2⟩:=GP h;obtain⟨x5,e1,g4⟩:=GI g2;obtain⟨x6,e2,g6⟩:=GI g4;obtain⟨w8,e8,g7⟩:=DG.out g6;obtain⟨A1,n1,m1,rfl,g8⟩:=DSl.out g7;obtain⟨rfl,h'⟩:=Zo.out g8;exact(Zf (Λ:=(aZh.Λ4 K (aZh.l4 K k))) bZf _ _ [(0,.pointer p2),(1,.int .i64 x5),(2,.int .i64 x6),(8,.slice A1 n1 m1)] [] H (Eq.mp (by kernel_rfl) h') (Zb (Zb Za rfl (Zk Zl ZS)) rfl (Zu (Zb Za rfl (Zb (Zb Za rfl (Zk (Zb Za rfl Zy) Zl)) rfl (Zb Za rfl (Zb Za rfl Za))))))).weaken (Ze.cons e0 (Ze.cons e1 (Ze.cons e2 (Ze.cons e8 (Ze.nil _))))) (Hp.le_refl _)))) rfl (Zb Za rfl Zy))))))
def dZM (p1:Option Addr)(H:Hp)(K:Value→Hp→Prop):Prop:=
 NN p1 fun a1=>LeP H (a1.add 0) fun p2=>NN p2 fun a2=>HcI 51 #[.pointer (some (a2.add 0))] H fun x1 H1=>((8:Int)≠0∧IntKind.i64=IntKind.i64∧K (.int .i64 (IntKind.i64.wrap (Int.tdiv x1 8))) H1)
theorem dZM.ok (p1:Option Addr)(H:Hp)(K:Value→Hp→Prop)(h:dZM p1 H K):Zc Tryz.prog 129 #[.pointer p1] H K:=
 Zr Tryz.func129 rfl (nbl rfl) (Zf (Λ:=Zn.none (fun _=>none)) bZf _ _ _ _ _ (Eq.mp (by kernel_rfl) h) (Zt _ _ _ _ _))
def dZf (p1:Option Addr)(x1:Int)(p2:Option Addr)(H:Hp)(K:Value→Hp→Prop):Prop:=
 NN p1 fun a1=>(LeP H (a1.add 0) fun p3=>HcS 125 #[.pointer p2] H fun A1 n1 m1 H1=>HcS 140 #[.slice A1 n1 m1] H1 fun A2 n2 m2 H2=>HcI 53 #[.pointer p3,.int .i64 x1,.slice A2 n2 m2] H2 fun x2 H3=>K (.int .i64 x2) H3)∧(HcS 125 #[.pointer p2] H fun A3 n3 m3 H4=>(LeP H4 (a1.add 0) fun p4=>HcS 140 #[.slice A3 n3 m3] H4 fun A4 n4 m4 H5=>HcI 53 #[.pointer p4,.int .i64 x1,.slice A4 n4 m4] H5 fun x3 H6=>K (.int .i64 x3) H6)∧(HcS 140 #[.slice A3 n3 m3] H4 fun A5 n5 m5 H7=>LeP H7 (a1.add 0) fun p5=>HcI 53 #[.pointer p5,.int .i64 x1,.slice A5 n5 m5] H7 fun x4 H8=>K (.int .i64 x4) H8))
theorem dZf.ok (p1:Option Addr)(x1:Int)(p2:Option Addr)(H:Hp)(K:Value→Hp→Prop)(h:dZf p1 x1 p2 H K):Zc Tryz.prog 145 #[.pointer p1,.int .i64 x1,.pointer p2] H K:=
 Zr Tryz.func145 rfl (nbl rfl) (Zf (Λ:=Zn.none (fun i=>match Nat.beq i 1 with|true=>some ([],[0,1,3,7,0,0,32,96,255,511],0)|false=>none)) bZf _ _ _ _ _ (Eq.mp (by kernel_rfl) h) (Zt _ _ _ _ _))
end Go.Proofs.YtahjgjaenegpgaaGreatDoor.W
namespace Go.Proofs.YtahjgjaenegpgaaGreatDoor.Str
open Go Go.Hw Go.Form W Dsk Are
structure X where
 f:Nat
 s:Nat
 w:Nat
def ZP (dp ap:Nat)(x:X):AO:=.obj (.cells #[.pointer (some ⟨dp,0,none⟩),.pointer (some ⟨ap,0,none⟩),.int .i64 x.f,.int .i64 x.s,.int .i64 x.w] 211)
def D.per (d:D):Nat:=d.size/8
structure On (d:D)(x:X):Prop where
 w1:1≤x.w
 s1:1≤x.s
 fit:x.f+x.s≤d.sec
 room:x.w≤x.s*D.per d
theorem Ok.per_le {d:D}(h:Ok d):4≤D.per d∧D.per d≤512∧8*D.per d=d.size:=by
 have h1:=h.size;have h2:=h.per;unfold D.per;omega
section
variable {L : List As} {H : Hp} {p dp ap : Nat} {d : D} {x : X}
theorem fZa (h:Sep L H)(i j:Nat)(hi:L[i]? =some (pts p (ZP dp ap x)))(hj:L[j]? =some (Dk dp d))(hok:Ok d):Zc Tryz.prog 129 #[.pointer (some ⟨p,0,none⟩)] H (RetE (.int .i64 (D.per d:Int)) H):=by
 have hsz:=hok.size;apply dZM.ok;unfold dZM;simp only[HS];refine bZt (h.get i hi) (v:=.pointer (some ⟨dp,0,none⟩)) rfl ?_;simp only[HV]
 try simp only[HS]
 refine Zc.use (hZC h j hj) ?_
 try simp only[HV]
 refine⟨by decide,by simp,RetE.of ?_⟩;rw[show Int.tdiv (d.size:Int) 8=((d.size/8:Nat):Int)from rfl,bZi (by omega)];rfl
theorem gZD (h:Sep L H)(i:Nat)(hi:L[i]? =some (pts p (ZP dp ap x))):Zc Tryz.prog 80 #[.pointer (some ⟨p,0,none⟩)] H (RetE (.int .i64 (x.w:Int)) H):=by
 apply dZu.ok;unfold dZu;simp only[HS];refine bZt (h.get i hi) (v:=.int .i64 x.w) rfl ?_;simp only[HV];exact RetE.mk _ _
end
def aZS (bs:List UInt8):List UInt64:=(List.range (bs.length/8)).map fun i=>UInt64.ofNat (ZC bs (8*i))
theorem dZk (bs:List UInt8):(aZS bs).length=bs.length/8:=by simp[aZS]
theorem lZV (bs:List UInt8)(i:Nat)(h:i<bs.length/8):(aZS bs)[i]? =some (UInt64.ofNat (ZC bs (8*i))):=by
 unfold aZS;rw[List.getElem?_map,List.getElem?_range h];rfl
theorem pZf (l:List UInt64):aZS (form l)=l:=by
 apply List.ext_getElem?;intro i;by_cases h:i<l.length
 ·rw[lZV _ _ (by rw[bZh];omega)];have:=fZe h [];rw[List.append_nil]at this;rw[this,List.getElem?_eq_getElem h];simp
 ·rw[List.getElem?_eq_none (by rw[dZk,bZh];omega),List.getElem?_eq_none (by omega)]
structure Calm (d:D):Prop where
 down:d.down=false
 fuse:d.fuse=0
def D.more (d:D):D:={ d with rd:=d.rd+1}
theorem mZQ (K:Value→Hp→Prop)(A:Option Addr)(n c:Nat)(bs:List UInt8)(hn:n=bs.length)(hnc:n≤c)(hn2:n≤4096)(rb per m:Nat)(hper:8*per=n){L:List As}(i:Nat)
  (hK:∀ H,Sep (L.set i (pts rb (.row (Zd (aZS bs)) 84 m))) H→K (.int .i64 0) H) (hb:∀ xs H,Sep (L.set i (pts rb (.row xs 84 m))) H→Cells H A (Zx bs)) (hi:i<L.length):∀(d j:Nat) (xs:List Value) (H:Hp),j+d=per→xs.length=per→xs.take j=(Zd (aZS bs)).take j→
   Sep (L.set i (pts rb (.row xs 84 m))) H→aZs.l6 K (d+1) A n c (some ⟨rb,0,none⟩) per per (per:Int) (j:Int) H
 |0,j,xs,H,hj,hl,hx,hs=>by
  unfold aZs.l6;refine Zm (by omega) (hK H ?_);rw[List.take_of_length_le (by omega),List.take_of_length_le (by rw[ZA,dZk];omega)]at hx;rw[← hx];exact hs
 |d+1,j,xs,H,hj,hl,hx,hs=>by
  unfold aZs.l6;refine Zw (by omega) ?_;refine Zc.use (FormP.Word_ok A n c hnc (by omega) bs hn j (by omega) H (hb xs H hs)) ?_
  try simp only[HV]
  refine⟨by omega,by omega,?_⟩;rw[Int.toNat_natCast,Nat.mul_one];show St H _ _ _
  rw[Addr.add_lit',Nat.zero_add,Addr.add_zero];refine hs.str i (b:=rb) (xs:=xs) (e:=84) (m:=m) (by rw[List.getElem?_set];simp[hi]) (by omega) rfl fun H hs=>?_;rw[List.set_set]at hs;rw[ZV (x:=(j:Int)+1) (by omega) (by omega)];refine mZQ K A n c bs hn hnc hn2 rb per m hper i hK hb hi d (j+1) _ H (by omega) (by rw[List.length_set];exact hl) ?_ hs;have hw:(Zd (aZS bs))[j]? =some (.int .u64 (ZC bs (8*j):Nat)):=by
   rw[aZ8,lZV _ _ (by omega)];simp only[Option.map_some];rw[UInt64.toNat_ofNat_of_lt' (cZ6 bs (8*j))]
  obtain⟨hlt,hg⟩:=List.getElem?_eq_some_iff.1 hw;rw[List.take_succ_eq_append_getElem hlt,hg,←hx,List.take_succ_eq_append_getElem (by rw[List.length_set];omega),List.take_set_of_le (by omega),List.getElem_set_self]
end Go.Proofs.YtahjgjaenegpgaaGreatDoor.Str
namespace Go.Proofs.YtahjgjaenegpgaaGreatDoor.Str
open Go Go.Hw Go.Form W Dsk Are
def D.put (d:D)(i:Int)(ws:List UInt64):D:={ d with wr:=d.wr+1,tch:=hZU d.tch i,cache:=cZI d.cache i (form ws)}
def right (d:D)(f s w:Int):Prop:=1≤w∧0≤f∧1≤s∧f<d.sec∧s≤d.sec-f∧w≤s*D.per d
theorem dZA {dp ap:Nat}{d:D}(hok:Ok d)(x:X)(hx:On d x):Tr Tryz.prog 120 #[.pointer (some ⟨dp,0,none⟩),.pointer (some ⟨ap,0,none⟩),.agg #[.int .i64 x.f,.int .i64 x.s,.int .i64 x.w]] [Dk dp d] fun v M=>
  ∃ p,v= .tuple #[.pointer (some ⟨p,0,none⟩),.int .i64 0]∧M=[Dk dp d,pts p (ZP dp ap x)]:=fun H hs=>by
 have hp:=Ok.per_le hok;have hsec:=hok.sec;obtain⟨h1,h2,h3,h4⟩:=hx;have hroom:x.s*D.per d≤1048576*512:=Nat.mul_le_mul (by omega) (by omega);apply gZc.ok;unfold gZc;simp only[HS];refine hs.nw fun b1 H hs=>aZu rfl (aZu rfl ?_)
 refine hs.ldw 1 rfl rfl ?_;simp only[HV];refine hs.nw fun b2 H hs=>?_
 refine hs.ld 1 rfl rfl ?_;simp only[HV];refine Zm (by omega) ?_;refine hs.ld 1 rfl rfl ?_;simp only[HV];refine Zm (by omega) ?_;refine hs.ld 1 rfl rfl ?_;simp only[HV];refine Zm (by omega) ?_;refine hs.ld 1 rfl rfl ?_;simp only[HV];refine aZc.use (eZN hs 0 rfl) ?_
 try simp only[HV]
 refine Zm (by omega) ?_;refine hs.ld 1 rfl rfl ?_;simp only[HV];refine aZc.use (eZN hs 0 rfl) ?_
 try simp only[HV]
 refine hs.ld 1 rfl rfl ?_;simp only[HV];rw[ZV (x:=(d.sec:Int)-x.f) (by omega) (by omega)];refine Zm (by omega) ?_;refine hs.ld 1 rfl rfl ?_;simp only[HV];refine hs.ld 1 rfl rfl ?_;simp only[HV];refine aZc.use (fZa (p:=b2) (dp:=dp) (ap:=ap) (x:=x) hs 2 0 rfl rfl hok) ?_;simp only[HV];rw[← Int.natCast_mul,bZi (by omega)];refine Zm (by omega) ?_;exact⟨_,⟨b2,rfl,rfl⟩,hs.re [0,2] rfl⟩
end Go.Proofs.YtahjgjaenegpgaaGreatDoor.Str
namespace Go.Proofs.YtahjgjaenegpgaaGreatDoor.Str
open Go Go.Hw Go.Form W Dsk Are
def cN (per fr n:Nat):Nat:=if per-fr%per<n then per-fr%per else n
def pcs (per f:Nat):Nat→Nat→Nat→List (Nat×Nat×Nat)
 |0,_,_=>[]
 |k+1,fr,n=>if n=0 then []else(f+fr/per,fr%per,cN per fr n)::pcs per f k (fr+cN per fr n) (n-cN per fr n)
def pcV (y:Nat×Nat×Nat):List Value:=[.int .i64 (y.1:Int),.int .i64 (y.2.1:Int),.int .i64 (y.2.2:Int)]
theorem lZe (per fr n:Nat):cN per fr n≤n:=by unfold cN;split<;>omega
theorem jZe {per fr n:Nat}(hp:0<per)(hn:0<n):0<cN per fr n:=by
 have:=Nat.mod_lt fr hp;unfold cN;split<;>omega
theorem nZ5 {per fr n:Nat}(hp:0<per):fr%per+cN per fr n≤per:=by
 have:=Nat.mod_lt fr hp;unfold cN;split<;>omega
theorem uZW :bZv Tryz.prog 223=some (3,24,some #[.int .i64 0,.int .i64 0,.int .i64 0]):=by kernel_rfl
theorem kZn (K:Value→Hp→Prop){p dp ap:Nat}{d:D}{x:X}(hok:Ok d)(hx:On d x):
  ∀(k fr n:Nat) (A:Option Addr) (c m:Nat) (acc:List (Nat×Nat×Nat)) (H:Hp),n≤k→fr+n≤x.w→acc.length=c→c+n≤1000000000→
   (∀ A' m' H',Sep [pts p (ZP dp ap x),Dk dp d,Own 223 3 A' (acc++pcs (D.per d) x.f k fr n).length m' ((acc++pcs (D.per d) x.f k fr n).flatMap pcV)] H'→K (.tuple #[.slice A' (acc++pcs (D.per d) x.f k fr n).length m',.int .i64 0]) H')→
   Sep [pts p (ZP dp ap x),Dk dp d,Own 223 3 A c m (acc.flatMap pcV)] H→aZh.l4 K (k+1) (some ⟨p,0,none⟩) (fr:Int) (n:Int) A c m H
 |k,fr,0,A,c,m,acc,H,hn,hf,hc,hcn,hk,hs=>by
  unfold aZh.l4;refine Zm (by omega) ?_;have e:pcs (D.per d) x.f k fr 0=[]:=by cases k<;>simp[pcs]
  rw[e,List.append_nil,hc]at hk;exact hk A m H hs
 |0,fr,n+1,A,c,m,acc,H,hn,hf,hc,hcn,hk,hs=>by omega
 |k+1,fr,n+1,A,c,m,acc,H,hn,hf,hc,hcn,hk,hs=>by
  have hp:=Ok.per_le hok;have hsec:=hok.sec;have hroom:x.s*D.per d≤1048576*512:=Nat.mul_le_mul (by have:=hx.fit;omega) (by omega);have h4:=hx.room;have hfit:=hx.fit;unfold aZh.l4;refine Zw (by omega) ?_;simp only[HS];refine hs.lda 0 rfl (Nat.le_refl _) ?_;refine aZc.use (fZa hs 0 1 rfl rfl hok) ?_;simp only[HV];refine aZc.use (Lay.rZr x.f x.s x.w (D.per d) fr ⟨by omega,by omega⟩ (by omega) H) ?_;have hdiv:fr/D.per d<x.s:=by
   rw[Nat.div_lt_iff_lt_mul (by omega)];omega
  have hS:Lay.eZB x.f x.s x.w (D.per d) fr=(((x.f+fr/D.per d:Nat):Int),((fr%D.per d:Nat):Int),(0:Int)):=by
   unfold Lay.eZB;have e:Int.tdiv (fr:Int) (D.per d:Int)=((fr/D.per d:Nat):Int):=rfl;have e2:Int.tmod (fr:Int) (D.per d:Int)=((fr%D.per d:Nat):Int):=rfl;rw[e,e2,if_neg (by omega)];simp
  rw[hS];simp only[HV];refine ZB rfl ?_;refine Zc.use (fZa hs 0 1 rfl rfl hok) ?_
  try simp only[HV]
  have hmod:=Nat.mod_lt fr (show 0<D.per d by omega);rw[ZV (x:=(D.per d:Int)-((fr%D.per d:Nat):Int)) (by omega) (by omega)];have hcN:(if(D.per d:Int)-((fr%D.per d:Nat):Int)<((n+1:Nat):Int)then(D.per d:Int)-((fr%D.per d:Nat):Int)else((n+1:Nat):Int))=((cN (D.per d) fr (n+1):Nat):Int):=by
   unfold cN;by_cases h:D.per d-fr%D.per d<n+1
   ·rw[if_pos h,if_pos (by omega)];omega
   ·rw[if_neg h,if_neg (by omega)]
  rw[hcN];have hcle:=lZe (D.per d) fr (n+1);have hcpos:=jZe (per:=D.per d) (fr:=fr) (n:=n+1) (by omega) (by omega);refine hs.appS 2 (by rfl) uZW rfl (by omega) (by omega) rfl (by rfl) (by omega) (by omega) fun A' m' H hs=>?_
  simp only[HV];rw[ZV (x:=(fr:Int)+((cN (D.per d) fr (n+1):Nat):Int)) (by omega) (by omega),ZV (x:=((n+1:Nat):Int)-((cN (D.per d) fr (n+1):Nat):Int)) (by omega) (by omega)];rw[show(fr:Int)+((cN (D.per d) fr (n+1):Nat):Int)=((fr+cN (D.per d) fr (n+1):Nat):Int) by omega,show((n+1:Nat):Int)-((cN (D.per d) fr (n+1):Nat):Int)=((n+1-cN (D.per d) fr (n+1):Nat):Int) by omega];have e:pcs (D.per d) x.f (k+1) fr (n+1)=(x.f+fr/D.per d,fr%D.per d,cN (D.per d) fr (n+1))::pcs (D.per d) x.f k (fr+cN (D.per d) fr (n+1)) (n+1-cN (D.per d) fr (n+1)):=by
   show(if n+1=0 then []else _)=_
   rw[if_neg (by omega)]
  refine kZn K (dp:=dp) (ap:=ap) hok hx k _ _ A' (c+1) m' (acc++[(x.f+fr/D.per d,fr%D.per d,cN (D.per d) fr (n+1))]) H (by omega) (by omega) (by rw[List.length_append];simp;exact hc) (by omega) (fun A' m' H' hs=>?_) ?_
  ·rw[List.append_assoc]at hs⊢;rw[show [(x.f+fr/D.per d,fr%D.per d,cN (D.per d) fr (n+1))]++pcs (D.per d) x.f k (fr+cN (D.per d) fr (n+1)) (n+1-cN (D.per d) fr (n+1))=pcs (D.per d) x.f (k+1) fr (n+1) by rw[e];rfl]at hs⊢;exact hk A' m' H' hs
  ·rw[List.flatMap_append];exact hs
theorem mZ2 {p dp ap:Nat}{d:D}{x:X}(hok:Ok d)(hx:On d x)(fr n:Nat)(hf:fr+n≤x.w):Tr Tryz.prog 127 #[.pointer (some ⟨p,0,none⟩),.int .i64 fr,.int .i64 n] [pts p (ZP dp ap x),Dk dp d] fun v M=>
  ∃ A m,v= .tuple #[.slice A (pcs (D.per d) x.f n fr n).length m,.int .i64 0]∧M=[pts p (ZP dp ap x),Dk dp d,Own 223 3 A (pcs (D.per d) x.f n fr n).length m ((pcs (D.per d) x.f n fr n).flatMap pcV)]:=fun H hs=>by
 have hp:=Ok.per_le hok;have hsec:=hok.sec;have hroom:x.s*D.per d≤1048576*512:=Nat.mul_le_mul (by have:=hx.fit;omega) (by omega);have h4:=hx.room;apply aZh.ok;unfold aZh;refine Zm (by omega) ?_;refine Zc.use (gZD hs 0 rfl) ?_
 try simp only[HV]
 refine Zm (by omega) ?_;refine Zc.use (gZD hs 0 rfl) ?_
 try simp only[HV]
 rw[ZV (x:=(x.w:Int)-fr) (by omega) (by omega)];refine Zm (by omega) ⟨n+1,?_⟩;have e0:Sep [pts p (ZP dp ap x),Dk dp d,Own 223 3 none 0 0 (([]:List (Nat×Nat×Nat)).flatMap pcV)] H:=by
  have:Sep (Own 223 3 none 0 0 []::[pts p (ZP dp ap x),Dk dp d]) H:=⟨fun _=>none,H,fun _ _ h=>(nomatch h),Hp.le_refl _,fun _=>.inl rfl,Own.none _ _ _,hs⟩;exact this.re [1,2,0] rfl
 refine kZn _ (dp:=dp) (ap:=ap) hok hx n fr n none 0 0 [] H (Nat.le_refl _) hf rfl (by omega) (fun A' m' H' hs=>?_) e0;exact⟨_,⟨A',m',rfl,rfl⟩,hs⟩
def pw (d:D)(x:X)(i:Nat):UInt64:=((aZS (d.now ((x.f+i/D.per d:Nat):Int)))[i%D.per d]?).getD 0
def pws (d:D)(x:X)(fr n:Nat):List UInt64:=(List.range n).map fun i=>pw d x (fr+i)
theorem eZe (d:D)(x:X)(fr n:Nat):(pws d x fr n).length=n:=by simp[pws]
theorem pZK (d:D)(x:X)(fr a b:Nat):pws d x fr (a+b)=pws d x fr a++pws d x (fr+a) b:=by
 unfold pws;rw[List.range_add,List.map_append,List.map_map];congr 1;apply List.map_congr_left;intro i _;simp only[Function.comp];congr 1;omega
theorem kZm {d:D}(hok:Ok d)(x:X){fr k:Nat}(h:fr%D.per d+k≤D.per d):((aZS (d.now ((x.f+fr/D.per d:Nat):Int))).drop (fr%D.per d)).take k=pws d x fr k:=by
 have hp:=Ok.per_le hok;apply List.ext_getElem?;intro i;unfold pws;rw[List.getElem?_take,List.getElem?_map];by_cases hi:i<k
 ·rw[if_pos hi,List.getElem?_drop,List.getElem?_range hi];simp only[Option.map_some];have hlen:(aZS (d.now ((x.f+fr/D.per d:Nat):Int))).length=D.per d:=by
   rw[dZk,hok.now];rfl
  unfold pw;have e:=Nat.div_add_mod fr (D.per d);have h1:(fr+i)/D.per d=fr/D.per d:=by
   rw[Nat.div_eq_of_lt_le]
   ·rw[Nat.mul_comm];omega
   ·rw[Nat.succ_mul,Nat.mul_comm];omega
  have h2:(fr+i)%D.per d=fr%D.per d+i:=by
   have:=Nat.div_add_mod (fr+i) (D.per d);rw[h1]at this;omega
  rw[h1,h2,List.getElem?_eq_getElem (by rw[hlen];omega)];rfl
 ·rw[if_neg hi,List.getElem?_eq_none (by simp;omega)];rfl
def D.rdN (d:D)(t:Nat):D:={ d with rd:=d.rd+t}
theorem Ok.rdN {d:D}(h:Ok d)(t:Nat):Ok (D.rdN d t):=⟨h.sec,h.size,h.big,h.per,h.safe,h.cache,h.fz⟩
theorem pZE (per f:Nat)(hp:0<per):∀(k fr n:Nat),n≤k→((pcs per f k fr n).map (·.2.2)).sum=n
 |k,fr,0,_=>by cases k<;>simp[pcs]
 |0,fr,n+1,h=>by omega
 |k+1,fr,n+1,h=>by
  have hcle:=lZe per fr (n+1);have hcpos:=jZe (per:=per) (fr:=fr) (n:=n+1) hp (by omega);unfold pcs;rw[if_neg (by omega),List.map_cons,List.sum_cons,pZE per f hp k _ _ (by omega)];show cN per fr (n+1)+_=_
  omega
theorem dZo (per f:Nat):∀(k fr n:Nat),(pcs per f k fr n).length≤k
 |0,_,_=>by simp[pcs]
 |k+1,fr,n=>by
  unfold pcs;split
  ·simp
  ·have:=dZo per f k (fr+cN per fr n) (n-cN per fr n);simp only[List.length_cons];omega
def mx (a b:Int):Int:=if b>a then b else a
end Go.Proofs.YtahjgjaenegpgaaGreatDoor.Str
namespace Go.Proofs.YtahjgjaenegpgaaGreatDoor.Str
open Go Go.Hw Go.Form W Dsk Are
def eZg (ws:List UInt64)(at':Nat)(src:List UInt64):List UInt64:=ws.take at'++src++ws.drop (at'+src.length)
theorem kZX {ws src:List UInt64}{i:Nat}(h:i+src.length≤ws.length):(eZg ws i src).length=ws.length:=by
 unfold eZg;simp;omega
theorem jZB (ws src:List UInt64)(i:Nat):setAt (Zd ws) i (Zd src)=Zd (eZg ws i src):=by
 unfold setAt eZg Zd;simp
def wpc (d:D)(s:Nat)(at':Nat)(src:List UInt64):D:=D.put (if src.length<D.per d then D.more d else d) s (eZg (aZS (d.now s)) at' src)
def wrs (d:D)(x:X):Nat→Nat→List UInt64→D
 |0,_,_=>d
 |k+1,fr,src=>if src=[]then d else wrs (wpc d (x.f+fr/D.per d) (fr%D.per d) (src.take (cN (D.per d) fr src.length))) x k (fr+cN (D.per d) fr src.length) (src.drop (cN (D.per d) fr src.length))
theorem vZn (d:D)(s:Int)(ws:List UInt64)(i:Int):(D.put d s ws).now i=if i=s then form ws else d.now i:=by
 unfold D.put D.now cZI;by_cases h:i=s
 ·simp[h]
 ·simp only[h,if_false];rfl
theorem Ok.put {d:D}(h:Ok d)(i:Int){ws:List UInt64}(hw:ws.length=D.per d):Ok (D.put d i ws):=by
 have hp:=Ok.per_le h;refine⟨h.sec,h.size,h.big,h.per,h.safe,fun k b hb=>?_,h.fz⟩;have hb':(if k=i then some (form ws)else d.cache k)=some b:=hb;split at hb'
 ·cases hb';rw[bZh];show 8*ws.length=d.size;omega
 ·exact h.cache k b hb'
theorem Ok.more {d:D}(h:Ok d):Ok (D.more d):=Ok.rdN h 1
theorem Calm.put {d:D}(h:Calm d)(i:Int)(ws:List UInt64):Calm (D.put d i ws):=⟨h.down,h.fuse⟩
theorem Calm.more {d:D}(h:Calm d):Calm (D.more d):=⟨h.down,h.fuse⟩
theorem wZN {d:D}(h:Ok d)(s at':Nat){src:List UInt64}(hl:at'+src.length≤D.per d):Ok (wpc d s at' src):=by
 have hwl:(aZS (d.now (s:Int))).length=D.per d:=by rw[dZk,h.now];rfl
 unfold wpc;split
 ·exact Ok.put (Ok.more h) _ (by rw[kZX (by omega)];exact hwl)
 ·exact Ok.put h _ (by rw[kZX (by omega)];exact hwl)
theorem uZh {d:D}(h:Calm d)(s at':Nat)(src:List UInt64):Calm (wpc d s at' src):=by
 unfold wpc;split
 ·exact Calm.put (Calm.more h) _ _
 ·exact Calm.put h _ _
theorem oZX (d:D)(s at':Nat)(src:List UInt64):(wpc d s at' src).size=d.size∧(wpc d s at' src).sec=d.sec:=by
 unfold wpc;split<;>exact⟨rfl,rfl⟩
theorem qZb (d:D)(s at':Nat)(src:List UInt64):D.per (wpc d s at' src)=D.per d:=by unfold D.per;rw[(oZX d s at' src).1]
theorem vZR (d:D)(s at':Nat)(src:List UInt64):(wpc d s at' src).wr=d.wr+1∧(wpc d s at' src).rd=d.rd+(if src.length<D.per d then 1 else 0)∧(wpc d s at' src).sy=d.sy:=by
 unfold wpc;split
 ·exact⟨rfl,rfl,rfl⟩
 ·exact⟨rfl,rfl,rfl⟩
theorem qZa (d:D)(s at':Nat)(src:List UInt64)(i:Int):(wpc d s at' src).now i=if i=s then form (eZg (aZS (d.now s)) at' src)else d.now i:=by
 unfold wpc;rw[vZn];split
 ·rfl
 ·split<;>rfl
end Go.Proofs.YtahjgjaenegpgaaGreatDoor.Str
namespace Go.Proofs.YtahjgjaenegpgaaGreatDoor.Str
open Go Go.Hw Go.Form W Dsk Are
def D.mr (d:D):D:={ d with rd:=d.rd+1,fuse:=d.fuse-1}
def D.pt (d:D)(i:Int)(ws:List UInt64):D:={ d with wr:=d.wr+1,tch:=hZU d.tch i,cache:=cZI d.cache i (form ws),fuse:=d.fuse-1}
def D.dead (d:D):D:={ d with fuse:=0,down:=true}
theorem eZP {d:D}(h:d.fuse=1):d.burnt=D.dead d:=by
 unfold D.burnt D.dead;rw[if_neg (by omega),h];rfl
theorem eZp {d:D}(hl:d.down=false)(h:d.fuse≠1):d.burnt={ d with fuse:=d.fuse-1}:=by
 unfold D.burnt;by_cases h0:d.fuse=0
 ·rw[if_pos h0];cases d;simp_all
 ·rw[if_neg h0];have:decide (d.fuse=1)=d.down:=by rw[hl];exact decide_eq_false h
  rw[this]
theorem gZw {d:D}(hl:d.down=false){i:Int}(h0:0≤i)(h1:i<d.sec):d.chk i=0:=by
 unfold D.chk;rw[hl,if_neg (by simp),if_neg (by omega)]
theorem Ok.dead {d:D}(h:Ok d):Ok (D.dead d):=⟨h.sec,h.size,h.big,h.per,h.safe,h.cache,Nat.zero_le _⟩
theorem Ok.mr {d:D}(h:Ok d):Ok (D.mr d):=⟨h.sec,h.size,h.big,h.per,h.safe,h.cache,Nat.le_trans (Nat.sub_le _ _) h.fz⟩
theorem Ok.pt {d:D}(h:Ok d)(i:Int){ws:List UInt64}(hw:ws.length=D.per d):Ok (D.pt d i ws):=by
 have:=Ok.put h i hw;exact⟨this.sec,this.size,this.big,this.per,this.safe,this.cache,Nat.le_trans (Nat.sub_le _ _) h.fz⟩
structure Prog (S:Int→Prop)(d d':D)(r w:Nat):Prop where
 ok:Ok d'
 down:d'.down=false
 fuse:d'.fuse=d.fuse-(r+w)
 go:d.fuse=0∨r+w<d.fuse
 sec:d'.sec=d.sec
 size:d'.size=d.size
 safe:d'.safe=d.safe
 sy:d'.sy=d.sy
 cache:∀ k,¬S k→d'.cache k=d.cache k
 tch:∀ k,¬S k→d'.tch k=d.tch k
 rd:d'.rd=d.rd+r
 wr:d'.wr=d.wr+w
structure cZz (S:Int→Prop)(d d':D):Prop where
 ok:Ok d'
 down:d'.down=true
 fuse:d'.fuse=0
 sec:d'.sec=d.sec
 size:d'.size=d.size
 safe:d'.safe=d.safe
 sy:d'.sy=d.sy
 cache:∀ k,¬S k→d'.cache k=d.cache k
 tch:∀ k,¬S k→d'.tch k=d.tch k
 cnt:d'.rd+d'.wr+1=d.rd+d.wr+d.fuse
 rd:d.rd≤d'.rd
 wr:d.wr≤d'.wr
section
variable {S : Int → Prop} {d d1 d2 : D}
theorem Prog.refl (S:Int→Prop)(h:Ok d)(hl:d.down=false):Prog S d d 0 0:=⟨h,hl,by omega,by omega,rfl,rfl,rfl,rfl,fun _ _=>rfl,fun _ _=>rfl,rfl,rfl⟩
theorem Prog.per {r w:Nat}(h:Prog S d d1 r w):D.per d1=D.per d:=by unfold D.per;rw[h.size]
theorem Prog.trans {r w r' w':Nat}(h:Prog S d d1 r w)(k:Prog S d1 d2 r' w'):Prog S d d2 (r+r') (w+w'):=by
 have a1:=h.fuse;have a2:=h.go;have b1:=k.fuse;have b2:=k.go;have c1:=h.rd;have c2:=h.wr;have c3:=k.rd;have c4:=k.wr;exact⟨k.ok,k.down,by omega,by omega,k.sec.trans h.sec,k.size.trans h.size,k.safe.trans h.safe,k.sy.trans h.sy,fun i hi=>(k.cache i hi).trans (h.cache i hi),fun i hi=>(k.tch i hi).trans (h.tch i hi),by omega,by omega⟩
theorem cZz.mono {S':Int→Prop}(h:cZz S d d1)(k:∀ i,S i→S' i):cZz S' d d1:={ h with cache:=fun i hi=>h.cache i fun hs=>hi (k i hs),tch:=fun i hi=>h.tch i fun hs=>hi (k i hs)}
theorem Prog.dead {r w:Nat}(h:Prog S d d1 r w)(k:cZz S d1 d2):cZz S d d2:=by
 have a1:=h.fuse;have a2:=h.go;have c1:=h.rd;have c2:=h.wr;have c3:=k.rd;have c4:=k.wr;have c5:=k.cnt;exact⟨k.ok,k.down,k.fuse,k.sec.trans h.sec,k.size.trans h.size,k.safe.trans h.safe,k.sy.trans h.sy,fun i hi=>(k.cache i hi).trans (h.cache i hi),fun i hi=>(k.tch i hi).trans (h.tch i hi),by omega,by omega,by omega⟩
theorem Prog.mr (S:Int→Prop)(h:Ok d)(hl:d.down=false)(hf:d.fuse≠1):Prog S d (D.mr d) 1 0:=
 ⟨Ok.mr h,hl,rfl,by omega,rfl,rfl,rfl,rfl,fun _ _=>rfl,fun _ _=>rfl,rfl,rfl⟩
theorem Prog.pt (S:Int→Prop)(h:Ok d)(hl:d.down=false)(hf:d.fuse≠1){i:Int}(hi:S i){ws:List UInt64}(hw:ws.length=D.per d):Prog S d (D.pt d i ws) 0 1:=
 ⟨Ok.pt h i hw,hl,rfl,by omega,rfl,rfl,rfl,rfl,fun k hk=>by
  show cZI d.cache i (form ws) k=_
  unfold cZI;exact if_neg fun(e:k=i)=>hk (by rw[e];exact hi),fun k hk=>by
  show hZU d.tch i k=_
  unfold hZU;exact if_neg fun(e:k=i)=>hk (by rw[e];exact hi),rfl,rfl⟩
theorem cZz.one (S:Int→Prop)(h:Ok d)(hf:d.fuse=1):cZz S d (D.dead d):=
 ⟨Ok.dead h,rfl,rfl,rfl,rfl,rfl,rfl,fun _ _=>rfl,fun _ _=>rfl,by show d.rd+d.wr+1=_;rw[hf],Nat.le_refl _,Nat.le_refl _⟩
end
theorem tZN {p:Nat}{d:D}(hok:Ok d)(hl:d.down=false)(ho:d.rd≤4611686018427387904)(i:Int)(h0:0≤i)(h1:i<d.sec):Tr Tryz.prog 70 #[.pointer (some ⟨p,0,none⟩),.int .i64 i] [Dk p d] fun v M=>
  (d.fuse≠1∧∃ b c m,v= .tuple #[.slice (some ⟨b,0,none⟩) d.size c,.int .i64 0]∧d.size≤c∧M=[Dk p (D.mr d),pts b (.row (Zx (d.now i)) 5 m)])∨
  (d.fuse=1∧v= .tuple #[.slice none 0 0,.int .i64 8]∧M=[Dk p (D.dead d)]):=fun H hs=>
 (Dsk.jZP hok ho i H hs).mono fun v H' ⟨M,hq,hM⟩=>by
  rcases hq with⟨h,_⟩|⟨_,h,h2,h3⟩|⟨_,hb,b,c,m,h2,h3,h4⟩
  ·exact absurd (gZw hl h0 h1) h
  ·have hf:d.fuse=1:=by simpa [D.burns]using h
   rw[eZP hf]at h3;exact⟨M,.inr ⟨hf,h2,h3⟩,hM⟩
  ·have hf:d.fuse≠1:=by simpa [D.burns]using hb
   rw[eZp hl hf]at h4;exact⟨M,.inl ⟨hf,b,c,m,h2,h3,h4⟩,hM⟩
theorem oZo {p dp ap:Nat}{d:D}{x:X}{cap peak:Int}{bufs:List (Nat×Nat×Option Addr)}{b rb m:Nat}{xs:List Value}(hok:Ok d)(hl:d.down=false)(ho:d.rd≤4611686018427387904)(i:Int)(h0:0≤i)(h1:i<d.sec)
  (hbm:(b,D.per d,some ⟨rb,0,none⟩)∈bufs) (hxs:xs.length=D.per d):
  Tr Tryz.prog 123 #[.pointer (some ⟨p,0,none⟩),.int .i64 i,.pointer (some ⟨b,0,none⟩)] [pts p (ZP dp ap x),Dk dp d,Ar ap cap peak bufs,pts rb (.row xs 84 m)] fun v M=>
   (d.fuse≠1∧v= .int .i64 0∧M=[pts p (ZP dp ap x),Dk dp (D.mr d),Ar ap cap peak bufs,pts rb (.row (Zd (aZS (d.now i))) 84 m)])∨
   (d.fuse=1∧v= .int .i64 8∧M=[pts p (ZP dp ap x),Dk dp (D.dead d),Ar ap cap peak bufs,pts rb (.row xs 84 m)]):=fun H hs=>by
 have hp:=Ok.per_le hok;have hnow:=hok.now i;have hsz:=hok.size;apply aZs.ok;unfold aZs;simp only[HS];refine hs.ld 0 rfl rfl ?_;simp only[HV];refine(tZN hok hl ho i h0 h1).use hs [1] rfl rfl ?_;rintro _ _ H (⟨hf,br,c,mr,rfl,hcc,rfl⟩|⟨hf,rfl,rfl⟩) hs
 ·simp only[HV];refine ZB rfl ?_;refine Zc.use (eZD hs 3 rfl hbm) ?_
  try simp only[HV]
  refine⟨D.per d+1,?_⟩;refine mZQ _ (some ⟨br,0,none⟩) d.size c (d.now i) hnow.symm hcc (by omega) rb (D.per d) m (by omega) (L:=[Dk dp (D.mr d),pts br (.row (Zx (d.now i)) 5 mr),pts p (ZP dp ap x),Ar ap cap peak bufs,pts rb (.row xs 84 m)]) 4 (fun H hs=>?_) (fun ys H hs=>?_) (by simp) (D.per d) 0 xs H (by omega) hxs (by simp) hs
  ·exact⟨_,.inl ⟨hf,rfl,rfl⟩,hs.re [2,0,3,4] rfl⟩
  ·have:=Cells.row (hs.get 1 (b:=br) (o:=.row (Zx (d.now i)) 5 mr) rfl) 0 d.size;rw[List.drop_zero,List.take_of_length_le (by rw[ZT];omega)]at this;exact this
 ·simp only[HV];exact ZK (by decide) ⟨_,.inr ⟨hf,by trivial,rfl⟩,hs.re [1,0,2,3] rfl⟩
theorem sZQ {p:Nat}{d:D}(hok:Ok d)(hl:d.down=false)(ho:d.wr≤4611686018427387904)(i:Int)(h0:0≤i)(h1:i<d.sec)(ws:List UInt64)(hw:ws.length=D.per d)(b m:Nat):
  Tr Tryz.prog 53 #[.pointer (some ⟨p,0,none⟩),.int .i64 i,.slice (some ⟨b,0,none⟩) (8*ws.length) (8*ws.length)] [Dk p d,pts b (.row (Zx (form ws)) 5 m)] fun v M=>
   (d.fuse≠1∧v= .int .i64 0∧M=[Dk p (D.pt d i ws),pts b (.row (Zx (form ws)) 5 m)])∨
   (d.fuse=1∧v= .int .i64 8∧M=[Dk p (D.dead d),pts b (.row (Zx (form ws)) 5 m)]):=fun H hs=>by
 have hp:=Ok.per_le hok;refine(Dsk.eZn hok ho i (some ⟨b,0,none⟩) (8*ws.length) (8*ws.length) (form ws) (bZh ws).symm (pts b (.row (Zx (form ws)) 5 m)) (fun H h=>?_) H hs).mono ?_
 ·have:=Cells.row h 0 (8*ws.length);rw[List.drop_zero,List.take_of_length_le (by rw[ZT,bZh];omega)]at this;exact this
 ·rintro v H' ⟨M,⟨rfl,rfl⟩,hM⟩;have hc:=gZw hl h0 h1;by_cases hf:d.fuse=1
  ·have hb:d.burns=true:=by unfold D.burns;exact decide_eq_true hf
   have e1:d.writeE i (8*ws.length)=8:=by
    unfold D.writeE;rw[if_neg (by rw[hc];simp),if_neg (by omega),hb];rfl
   have e2:d.writeD i (form ws)=D.dead d:=by
    unfold D.writeD;rw[if_neg (by rw[hc];simp),if_neg (by rw[bZh];omega),hb,if_pos rfl,eZP hf]
   rw[e1];rw[e2]at hM;exact⟨_,.inr ⟨hf,rfl,rfl⟩,hM⟩
  ·have hb:d.burns=false:=by unfold D.burns;exact decide_eq_false hf
   have e1:d.writeE i (8*ws.length)=0:=by
    unfold D.writeE;rw[if_neg (by rw[hc];simp),if_neg (by omega),hb];rfl
   have e2:d.writeD i (form ws)=D.pt d i ws:=by
    unfold D.writeD;rw[if_neg (by rw[hc];simp),if_neg (by rw[bZh];omega),hb];unfold D.wrote D.pt;rw[eZp hl hf];rfl
   rw[e1];rw[e2]at hM;exact⟨_,.inl ⟨hf,rfl,rfl⟩,hM⟩
theorem vZE {p dp ap:Nat}{d:D}{x:X}{cap peak:Int}{bufs:List (Nat×Nat×Option Addr)}{b rb m:Nat}{ws:List UInt64}(hok:Ok d)(hl:d.down=false)(ho:d.wr≤4611686018427387904)(i:Int)(h0:0≤i)(h1:i<d.sec)
  (hbm:(b,D.per d,some ⟨rb,0,none⟩)∈bufs) (hw:ws.length=D.per d):
  Tr Tryz.prog 145 #[.pointer (some ⟨p,0,none⟩),.int .i64 i,.pointer (some ⟨b,0,none⟩)] [pts p (ZP dp ap x),Dk dp d,Ar ap cap peak bufs,pts rb (.row (Zd ws) 84 m)] fun v M=>
   (d.fuse≠1∧v= .int .i64 0∧M=[pts p (ZP dp ap x),Dk dp (D.pt d i ws),Ar ap cap peak bufs,pts rb (.row (Zd ws) 84 m)])∨
   (d.fuse=1∧v= .int .i64 8∧M=[pts p (ZP dp ap x),Dk dp (D.dead d),Ar ap cap peak bufs,pts rb (.row (Zd ws) 84 m)]):=fun H hs=>by
 have hp:=Ok.per_le hok;have hcell:∀{L:List As} {H:Hp} (j:Nat),Sep L H→L[j]? =some (pts rb (.row (Zd ws) 84 m))→Cells H (some ⟨rb,0,none⟩) (Zd ws):=fun j hs hj=>by
  have:=Cells.row (hs.get j hj) 0 ws.length;rw[List.drop_zero,List.take_of_length_le (by rw[ZA];exact Nat.le_refl _)]at this;exact this
 apply dZf.ok;unfold dZf;simp only[HS];have put:∀(H:Hp) (K:Value→Hp→Prop),Sep [pts p (ZP dp ap x),Dk dp d,Ar ap cap peak bufs,pts rb (.row (Zd ws) 84 m)] H→
   (∀ b' H',Sep [pts p (ZP dp ap x),Dk dp d,Ar ap cap peak bufs,pts rb (.row (Zd ws) 84 m),pts b' (.row (Zx (form ws)) 5 (8*ws.length))] H'→K (.slice (some ⟨b',0,none⟩) (8*ws.length) (8*ws.length)) H')→
   Zc Tryz.prog 140 #[.slice (some ⟨rb,0,none⟩) (D.per d) (D.per d)] H K:=fun H K hs k=>by
  rw[← hw];refine(FormP.Put_ok (some ⟨rb,0,none⟩) ws.length ws.length ws rfl (by omega) H (hcell 3 hs rfl)).mono ?_;rintro v H' ⟨b',hb',rfl,rfl⟩;exact k b' _ (hs.new hb' _)
 have wr:∀(b':Nat) (H:Hp),Sep [pts p (ZP dp ap x),Dk dp d,Ar ap cap peak bufs,pts rb (.row (Zd ws) 84 m),pts b' (.row (Zx (form ws)) 5 (8*ws.length))] H→
   Zc Tryz.prog 53 #[.pointer (some ⟨dp,0,none⟩),.int .i64 i,.slice (some ⟨b',0,none⟩) (8*ws.length) (8*ws.length)] H fun v4 H3=>DI .i64 v4 fun x2=>∃ M,((d.fuse≠1∧(.int .i64 x2:Value)= .int .i64 0∧M=[pts p (ZP dp ap x),Dk dp (D.pt d i ws),Ar ap cap peak bufs,pts rb (.row (Zd ws) 84 m)])∨
    (d.fuse=1∧(.int .i64 x2:Value)= .int .i64 8∧M=[pts p (ZP dp ap x),Dk dp (D.dead d),Ar ap cap peak bufs,pts rb (.row (Zd ws) 84 m)]))∧Sep M H3:=fun b' H hs=>by
  refine(sZQ hok hl ho i h0 h1 ws hw b' (8*ws.length)).use hs [1,4] rfl rfl ?_;rintro _ _ H (⟨hf,rfl,rfl⟩|⟨hf,rfl,rfl⟩) hs
  ·exact⟨_,.inl ⟨hf,rfl,rfl⟩,hs.re [2,0,3,4] rfl⟩
  ·exact⟨_,.inr ⟨hf,rfl,rfl⟩,hs.re [2,0,3,4] rfl⟩
 refine⟨?_,?_⟩
 ·refine hs.ld 0 rfl rfl ?_;simp only[HV];refine Zc.use (eZD hs 2 rfl hbm) ?_
  try simp only[HV]
  refine put H _ hs fun b' H hs=>?_
  simp only[HV];exact wr b' H hs
 ·refine Zc.use (eZD hs 2 rfl hbm) ?_
  try simp only[HV]
  refine⟨?_,?_⟩
  ·refine hs.ld 0 rfl rfl ?_;simp only[HV];refine put H _ hs fun b' H hs=>?_
   simp only[HV];exact wr b' H hs
  ·refine put H _ hs fun b' H hs=>?_
   simp only[HV];refine hs.ld 0 rfl rfl ?_;simp only[HV];exact wr b' H hs
end Go.Proofs.YtahjgjaenegpgaaGreatDoor.Str
namespace Go.Proofs.YtahjgjaenegpgaaGreatDoor.Str
open Go Go.Hw Go.Form W Dsk Are
def D.rdG (d:D)(t:Nat):D:={ d with rd:=d.rd+t,fuse:=d.fuse-t}
theorem Ok.rdG {d:D}(h:Ok d)(t:Nat):Ok (D.rdG d t):=⟨h.sec,h.size,h.big,h.per,h.safe,h.cache,Nat.le_trans (Nat.sub_le _ _) h.fz⟩
theorem oZG (d:D):D.rdG d 0=d:=rfl
theorem oZF (d:D)(t:Nat):D.mr (D.rdG d t)=D.rdG d (t+1):=by
 unfold D.mr D.rdG;simp only[D.mk.injEq,true_and,and_true];omega
theorem Prog.rdG (S:Int→Prop){d:D}(h:Ok d)(hl:d.down=false){t:Nat}(hf:d.fuse=0∨t<d.fuse):Prog S d (D.rdG d t) t 0:=
 ⟨Ok.rdG h t,hl,rfl,by omega,rfl,rfl,rfl,rfl,fun _ _=>rfl,fun _ _=>rfl,rfl,rfl⟩
theorem cZz.rdG (S:Int→Prop){d:D}(h:Ok d)(hl:d.down=false){j:Nat}(hf:d.fuse=j+1):cZz S d (D.dead (D.rdG d j)):=
 (Prog.rdG S h hl (t:=j) (by omega)).dead (cZz.one S (Ok.rdG h j) (by show d.fuse-j=1;omega))
theorem kZs (K:Value→Hp→Prop){p dp ap:Nat}{d:D}{x:X}(hok:Ok d)(hl:d.down=false)(hx:On d x){cap peak:Int}{bufs:List (Nat×Nat×Option Addr)}{b rb mb:Nat}(hbm:∀ y∈bufs,y.1≠b){rl off0 fr0 mm vb:Nat}{el:TypeId}{xs:List Value}{A4:Option Addr}{n4 m4:Nat}{all:List (Nat×Nat×Nat)}(hn4:n4=all.length)(hn40:n4≤1000000000)(ho:d.rd≤4611686010000000000)
  (hK:∀ H,Sep [pts p (ZP dp ap x),Dk dp (D.rdG d n4),Ar ap cap peak bufs,pts rl (.row (setAt xs off0 (Zd (pws d x fr0 (all.map (·.2.2)).sum))) el mm)] H→d.fuse=0∨n4<d.fuse→K (.int .i64 0) H)
  (hK8:∀ j xs' H,j<n4→d.fuse=j+1→xs'.length=xs.length→Sep [pts p (ZP dp ap x),Dk dp (D.dead (D.rdG d j)),Ar ap cap peak bufs,pts rl (.row xs' el mm)] H→K (.int .i64 8) H):
  ∀(k fr n j off:Nat) (A:Option Addr) (m:Nat) (ws:List UInt64) (H:Hp),d.fuse=0∨j<d.fuse→n≤k→fr+n≤x.w→n≤m→all.drop j=pcs (D.per d) x.f k fr n→j≤n4→fr0+off=fr→((all.take j).map (·.2.2)).sum=off→off0+off+n≤xs.length→(0<n→A=some ⟨rl,off0+off,none⟩)→ws.length=D.per d→
   Sep [pts p (ZP dp ap x),Dk dp (D.rdG d j),Ar ap cap peak (bufs++[(b,D.per d,some ⟨rb,0,none⟩)]),pts rb (.row (Zd ws) 84 mb),Own 223 3 A4 n4 m4 (all.flatMap pcV),pts rl (.row (setAt xs off0 (Zd (pws d x fr0 off))) el mm),pts vb (.row [.pointer (some ⟨b,0,none⟩)] 206 1)] H→
   ZX.l9 K (k+1) (some ⟨p,0,none⟩) A n m (some ⟨b,0,none⟩) A4 n4 m4 (n4:Int) (j:Int) (some ⟨ap,0,none⟩) (some ⟨vb,0,none⟩) 1 1 H
 |k,fr,0,j,off,A,m,ws,H,hgo,hn,hf,hm,hall,hj,hoff,hsum,hlen,hA,hws,hs=>by
  unfold ZX.l9;have e:pcs (D.per d) x.f k fr 0=[]:=by cases k<;>simp[pcs]
  rw[e]at hall;have hjn:j=n4:=by
   have:=congrArg List.length hall;simp at this;omega
  subst hjn;refine Zm (by omega) ?_;have htake:all.take j=all:=List.take_of_length_le (by omega);rw[htake]at hsum;refine(cZw vb b (D.per d) (some ⟨rb,0,none⟩) hbm).use hs [2,6] rfl rfl ?_;rintro _ _ H ⟨rfl,rfl⟩ hs;refine hK H ?_ hgo;rw[hsum];exact hs.re [1,2,0,5] rfl
 |0,fr,n+1,j,off,A,m,ws,H,hgo,hn,hf,hm,hall,hj,hoff,hsum,hlen,hA,hws,hs=>by omega
 |k+1,fr,n+1,j,off,A,m,ws,H,hgo,hn,hf,hm,hall,hj,hoff,hsum,hlen,hA,hws,hs=>by
  have hp:=Ok.per_le hok;have hsec:=hok.sec;have hroom:x.s*D.per d≤1048576*512:=Nat.mul_le_mul (by have:=hx.fit;omega) (by omega);have h4:=hx.room;have hfit:=hx.fit;obtain rfl:=hA (by omega);have e:pcs (D.per d) x.f (k+1) fr (n+1)=(x.f+fr/D.per d,fr%D.per d,cN (D.per d) fr (n+1))::pcs (D.per d) x.f k (fr+cN (D.per d) fr (n+1)) (n+1-cN (D.per d) fr (n+1)):=by
   show(if n+1=0 then []else _)=_
   rw[if_neg (by omega)]
  rw[e]at hall;have hjlt:j<all.length:=by
   have:=congrArg List.length hall;simp at this;omega
  have hcle:=lZe (D.per d) fr (n+1);have hcpos:=jZe (per:=D.per d) (fr:=fr) (n:=n+1) (by omega) (by omega);have hcper:=nZ5 (per:=D.per d) (fr:=fr) (n:=n+1) (by omega);have hmod:=Nat.mod_lt fr (show 0<D.per d by omega);have hdiv:fr/D.per d<x.s:=by
   rw[Nat.div_lt_iff_lt_mul (by omega)];omega
  have hget:all[j]=(x.f+fr/D.per d,fr%D.per d,cN (D.per d) fr (n+1)):=by
   have:=List.drop_eq_getElem_cons hjlt;rw[this]at hall;exact(List.cons.inj hall).1
  have hrest:all.drop (j+1)=pcs (D.per d) x.f k (fr+cN (D.per d) fr (n+1)) (n+1-cN (D.per d) fr (n+1)):=by
   have:=List.drop_eq_getElem_cons hjlt;rw[this]at hall;exact(List.cons.inj hall).2
  generalize hcv:cN (D.per d) fr (n+1)=c at*;have hflat:∀(l:List (Nat×Nat×Nat)) (i:Nat) (hi:i<l.length),((l.flatMap pcV).drop (i*3)).take 3=pcV l[i]:=by
   intro l
   induction l with
   |nil=>intro i hi;simp at hi
   |cons y l ih=>
    intro i hi;rw[List.flatMap_cons];cases i with
    |zero=>simp[pcV]
    |succ i=>
     rw[show(i+1)*3=(pcV y).length+i*3 by simp[pcV];omega,List.drop_append];simp only[Nat.add_sub_cancel_left,List.getElem_cons_succ];rw[List.drop_eq_nil_of_le (by omega),List.nil_append];exact ih i (by simpa using hi)
  unfold ZX.l9;refine Zw (by omega) ?_;refine(hs.own 4 rfl).rdA (ys:=pcV all[j]) rfl (by omega) (hflat all j hjlt) ?_;rw[hget];refine hs.nw fun b2 H hs=>?_
  refine hs.stw 7 rfl rfl rfl rfl fun H hs=>?_;have hs:Sep [pts p (ZP dp ap x),Dk dp (D.rdG d j),Ar ap cap peak (bufs++[(b,D.per d,some ⟨rb,0,none⟩)]),pts rb (.row (Zd ws) 84 mb),Own 223 3 A4 n4 m4 (all.flatMap pcV),pts rl (.row (setAt xs off0 (Zd (pws d x fr0 off))) el mm),pts vb (.row [.pointer (some ⟨b,0,none⟩)] 206 1),
   pts b2 (.obj (.cells #[.int .i64 ((x.f+fr/D.per d:Nat):Int),.int .i64 ((fr%D.per d:Nat):Int),.int .i64 (c:Int)] 223))] H:=hs
  simp only[HS];refine hs.ld 7 rfl rfl ?_;simp only[HV];have hokj:=Ok.rdG hok j;refine(oZo (p:=p) (ap:=ap) (x:=x) (cap:=cap) (peak:=peak) (b:=b) (rb:=rb) (m:=mb) hokj hl (by show d.rd+j≤_;omega) ((x.f+fr/D.per d:Nat):Int) (Int.natCast_nonneg _) (Int.ofNat_lt.2 (by show _<d.sec;omega)) (bufs:=bufs++[(b,D.per d,some ⟨rb,0,none⟩)]) (List.mem_append_right _ (List.mem_singleton.2 rfl)) (xs:=Zd ws) (by rw[ZA];exact hws)).use hs [0,1,2,3] rfl rfl ?_;have hset:(setAt xs off0 (Zd (pws d x fr0 off))).length=xs.length:=cZS (by rw[ZA,eZe];omega);have hfz:(D.rdG d j).fuse=d.fuse-j:=rfl;rintro _ _ H (⟨hf1,rfl,rfl⟩|⟨hf1,rfl,rfl⟩) hs
  case inr=>
   simp only[HV];refine ZK (by decide) ?_;refine(cZw vb b (D.per d) (some ⟨rb,0,none⟩) hbm).use hs [2,6] rfl rfl ?_;rintro _ _ H ⟨rfl,rfl⟩ hs;exact hK8 j _ H (by omega) (by omega) hset (hs.re [1,2,0,5] rfl)
  rw[oZF]at hs;have hnow:D.now (D.rdG d j) ((x.f+fr/D.per d:Nat):Int)=d.now ((x.f+fr/D.per d:Nat):Int):=rfl;rw[hnow]at hs;have hwl:(aZS (d.now ((x.f+fr/D.per d:Nat):Int))).length=D.per d:=by rw[dZk,hok.now];rfl
  simp only[HV];refine ZB rfl ?_;refine hs.ld 7 rfl rfl ?_;simp only[HV];refine lZP rfl (by omega) ?_;refine aZc.use (eZD hs 2 rfl (List.mem_append_right _ (List.mem_singleton.2 rfl))) ?_;simp only[HV];refine hs.ld 7 rfl rfl ?_;simp only[HV];refine hZQ rfl (by omega) ?_;rw[oZN,lZO (by omega),Nat.zero_add];refine hs.cp 5 (k:=D.per d-fr%D.per d) (n:=c-0) (off:=off0+off) (ys:=Zd (pws d x fr c)) (by rfl) bZR rfl ?_ ?_ (fun y hy=>?_) fun H hs=>?_
  ·have hmin:Nat.min (D.per d-fr%D.per d) (c-0)=c:=Nat.min_eq_right (by omega);rw[hmin];show H.cells? ⟨rb,fr%D.per d,none⟩ 0 (c*1)=_
   rw[Nat.mul_one,gZ2 (hs.get 3 (b:=rb) (o:=.row (Zd (aZS (d.now ((x.f+fr/D.per d:Nat):Int)))) 84 mb) rfl) (fr%D.per d) c 0 (by rw[ZA,hwl];omega)];rw[← kZm hok x (fr:=fr) (k:=c) (by omega)];unfold Zd;rw[List.map_take,List.map_drop,Nat.add_zero]
  ·rw[ZA,eZe,hset];omega
  ·obtain⟨z,_,rfl⟩:=List.mem_map.1 hy;rfl
  simp only[HV];refine hs.ld 7 rfl rfl ?_;simp only[HV];refine hZQ rfl (by omega) ?_;rw[ZV (x:=(j:Int)+1) (by omega) (by omega)];have happ:setAt (setAt xs off0 (Zd (pws d x fr0 off))) (off0+off) (Zd (pws d x fr c))=setAt xs off0 (Zd (pws d x fr0 (off+c))):=by
   have hl:(Zd (pws d x fr0 off)).length=off:=by rw[ZA,eZe]
   have:=oZK (xs:=xs) (us:=Zd (pws d x fr0 off)) (bs:=Zd (pws d x fr c)) (off:=off0) (by rw[hl,ZA,eZe];omega);rw[hl]at this;rw[this,pZK,hoff];unfold Zd;rw[List.map_append]
  have hsum':((all.take (j+1)).map (·.2.2)).sum=off+c:=by
   rw[List.take_succ_eq_append_getElem hjlt,List.map_append,List.sum_append,hsum,hget];simp
  refine kZs K (rb:=rb) (mb:=mb) hok hl hx hbm hn4 hn40 ho hK hK8 k (fr+c) (n+1-c) (j+1) (off+c) _ (m-c) (aZS (d.now ((x.f+fr/D.per d:Nat):Int))) H (by omega) (by omega) (by omega) (by omega) hrest (by omega) (by omega) hsum' (by omega) (fun h0=>?_) hwl ?_
  ·rw[lZO (by omega),Nat.add_assoc]
  ·rw[← happ];exact hs.re [0,1,2,3,4,5,6] rfl
def uZy (p dp ap:Nat)(d:D)(x:X)(cap peak:Int)(bufs:List (Nat×Nat×Option Addr))(fr n:Nat)(xs:List Value)(off rl:Nat)(el:TypeId)(mm:Nat)(v:Value)(M:List As):Prop:=
 ((d.fuse=0∨(pcs (D.per d) x.f n fr n).length<d.fuse)∧v= .int .i64 0∧M=[pts p (ZP dp ap x),Dk dp (D.rdG d (pcs (D.per d) x.f n fr n).length),Ar ap cap (mx peak (ZN bufs+D.per d)) bufs,pts rl (.row (setAt xs off (Zd (pws d x fr n))) el mm)])∨
 (∃ j xs',j<(pcs (D.per d) x.f n fr n).length∧d.fuse=j+1∧xs'.length=xs.length∧v= .int .i64 8∧M=[pts p (ZP dp ap x),Dk dp (D.dead (D.rdG d j)),Ar ap cap (mx peak (ZN bufs+D.per d)) bufs,pts rl (.row xs' el mm)])
theorem kZA {p dp ap:Nat}{d:D}{x:X}{cap peak:Int}{bufs:List (Nat×Nat×Option Addr)}{rl off mm:Nat}{el:TypeId}{xs:List Value}(hok:Ok d)(hl:d.down=false)(hx:On d x)(ho:d.rd≤4611686010000000000)(fr n m:Nat)(hn:1≤n)(hf:fr+n≤x.w)(hm:n≤m)(hxl:off+n≤xs.length)(hcap:(D.per d:Int)≤cap-ZN bufs):
  Tr Tryz.prog 81 #[.pointer (some ⟨p,0,none⟩),.int .i64 fr,.slice (some ⟨rl,off,none⟩) n m] [pts p (ZP dp ap x),Dk dp d,Ar ap cap peak bufs,pts rl (.row xs el mm)] fun v M=>
   uZy p dp ap d x cap peak bufs fr n xs off rl el mm v M:=fun H hs=>by
 have hp:=Ok.per_le hok;have hsec:=hok.sec;have hroom:x.s*D.per d≤1048576*512:=Nat.mul_le_mul (by have:=hx.fit;omega) (by omega);have h4:=hx.room;have hpl:=dZo (D.per d) x.f n fr n;apply ZX.ok;unfold ZX;refine(mZ2 (dp:=dp) (ap:=ap) hok hx fr n hf).use hs [0,1] rfl rfl ?_;rintro _ _ H ⟨A4,m4,rfl,rfl⟩ hs;simp only[HV];refine ZB rfl (aZm (by omega) ?_);simp only[HS];have rest:∀(b rb:Nat) (H:Hp),(∀ y∈bufs,y.1≠b)→Sep [Ar ap cap (if ZN bufs+D.per d>peak then ZN bufs+D.per d else peak) (bufs++[(b,D.per d,some ⟨rb,0,none⟩)]),pts rb (.row (bZr (D.per d)) 84 (D.per d)),pts p (ZP dp ap x),Dk dp d,Own 223 3 A4 (pcs (D.per d) x.f n fr n).length m4 ((pcs (D.per d) x.f n fr n).flatMap pcV),pts rl (.row xs el mm)] H→
   ZX.j5 (fun v H'=>∃ M,uZy p dp ap d x cap peak bufs fr n xs off rl el mm v M∧Sep M H') (some ⟨p,0,none⟩) (some ⟨rl,off,none⟩) n m A4 (pcs (D.per d) x.f n fr n).length m4 (0:Int) (some ⟨b,0,none⟩) H:=fun b rb H hbm hs=>by
  unfold ZX.j5;refine ZB rfl ?_;simp only[HS];refine hs.ld 2 rfl rfl ?_;simp only[HV];refine hs.nw fun vb H hs=>?_
  refine⟨n+1,?_⟩;have hz:bZr (D.per d)=Zd (List.replicate (D.per d) 0):=by
   unfold bZr;rw[bZD];unfold Zd;rw[List.map_replicate];rfl
  refine kZs _ (p:=p) (dp:=dp) (ap:=ap) (d:=d) (x:=x) (cap:=cap) (peak:=mx peak (ZN bufs+D.per d)) (bufs:=bufs) (b:=b) (rb:=rb) (mb:=D.per d) (rl:=rl) (off0:=off) (fr0:=fr) (mm:=mm) (vb:=vb) (el:=el) (xs:=xs) hok hl hx hbm rfl (by omega) ho (fun H hs hgo=>?_) (fun j xs' H hj hfj hx' hs=>⟨_,.inr ⟨j,xs',hj,hfj,hx',rfl,rfl⟩,hs⟩) n fr n 0 0 _ m (List.replicate (D.per d) 0) H (by omega) (Nat.le_refl _) hf hm rfl (Nat.zero_le _) (by omega) rfl (by omega) (fun _=>rfl) (by simp) ?_
  ·rw[pZE _ _ (by omega) n fr n (Nat.le_refl _)]at hs;exact⟨_,.inl ⟨hgo,rfl,rfl⟩,hs⟩
  ·rw[← hz,show setAt xs off (Zd (pws d x fr 0))=xs from fZS xs off,oZG];exact hs.re [2,3,0,1,4,5,6] rfl
 have fresh:∀{L:List As} {H:Hp} (b rb:Nat) (pk:Int),Sep L H→L[0]? =some (Ar ap cap pk (bufs++[(b,D.per d,some ⟨rb,0,none⟩)]))→∀ y∈bufs,y.1≠b:=fun b rb pk hs h0 y hy e=>by
  obtain⟨mp,cl,tk,hA⟩:=Sep.ar hs 0 h0;have:=hA.bn;rw[List.map_append,List.nodup_append]at this;exact this.2.2 y.1 (List.mem_map_of_mem hy) b (by simp) e
 refine⟨?_,?_⟩
 ·refine hs.ld 0 rfl rfl ?_;simp only[HV];refine Zc.use (fZa hs 0 1 rfl rfl hok) ?_
  try simp only[HV]
  refine(eZZ (a:=ap) (cap:=cap) (peak:=peak) (bufs:=bufs) (n:=D.per d) (by omega) hcap).use hs [3] rfl rfl ?_;rintro _ _ H ⟨b,rb,rfl,rfl⟩ hs;simp only[HV];exact rest b rb H (fresh b rb _ hs rfl) (hs.re [0,1,2,3,4,5] rfl)
 ·refine Zc.use (fZa hs 0 1 rfl rfl hok) ?_
  try simp only[HV]
  refine hs.ld 0 rfl rfl ?_;simp only[HV];refine(eZZ (a:=ap) (cap:=cap) (peak:=peak) (bufs:=bufs) (n:=D.per d) (by omega) hcap).use hs [3] rfl rfl ?_;rintro _ _ H ⟨b,rb,rfl,rfl⟩ hs;simp only[HV];exact rest b rb H (fresh b rb _ hs rfl) (hs.re [0,1,2,3,4,5] rfl)
end Go.Proofs.YtahjgjaenegpgaaGreatDoor.Str
namespace Go.Proofs.YtahjgjaenegpgaaGreatDoor.Str
open Go Go.Hw Go.Form W Dsk Are
def dZx (per f k fr n:Nat):Nat:=((pcs per f k fr n).filter fun p=>decide (p.2.2<per)).length
def gZs (d:D)(s:Nat)(at':Nat)(src:List UInt64):D:=D.pt (if src.length<D.per d then D.mr d else d) s (eZg (aZS (d.now s)) at' src)
def eZh (d:D)(x:X):Nat→Nat→List UInt64→D
 |0,_,_=>d
 |k+1,fr,src=>if src=[]then d else eZh (gZs d (x.f+fr/D.per d) (fr%D.per d) (src.take (cN (D.per d) fr src.length))) x k (fr+cN (D.per d) fr src.length) (src.drop (cN (D.per d) fr src.length))
theorem nZi (d:D)(s at':Nat)(src:List UInt64):(gZs d s at' src).size=d.size∧(gZs d s at' src).sec=d.sec:=by
 unfold gZs;split<;>exact⟨rfl,rfl⟩
theorem uZj (d:D)(s at':Nat)(src:List UInt64):D.per (gZs d s at' src)=D.per d:=by unfold D.per;rw[(nZi d s at' src).1]
theorem uZi (d:D)(s at':Nat)(src:List UInt64):(gZs d s at' src).wr=d.wr+1∧(gZs d s at' src).rd=d.rd+(if src.length<D.per d then 1 else 0)∧(gZs d s at' src).sy=d.sy:=by
 unfold gZs;split
 ·exact⟨rfl,rfl,rfl⟩
 ·exact⟨rfl,rfl,rfl⟩
theorem jZI (K:Value→Hp→Prop){p dp ap:Nat}{x:X}{cap peak:Int}{bufs:List (Nat×Nat×Option Addr)}{b rb mb:Nat}(hbm:∀ y∈bufs,y.1≠b){vb:Nat}{R:As}{A4:Option Addr}{n4 m4:Nat}{all:List (Nat×Nat×Nat)}(hn4:n4=all.length)(hn40:n4≤1000000000){S:Int→Prop}(hS:∀ j:Nat,j<x.s→S ((x.f+j:Nat):Int)){d0:D}{R0 W0:Nat}
  (hK8:∀ d' H,cZz S d0 d'→d0.fuse≤R0+W0→Sep [pts p (ZP dp ap x),Dk dp d',Ar ap cap peak bufs,R] H→K (.int .i64 8) H):
  ∀(k fr j:Nat) (d:D) (A:Option Addr) (m:Nat) (src ws:List UInt64) (H:Hp) (r w:Nat),Prog S d0 d r w→r+(dZx (D.per d) x.f k fr src.length)=R0→w+(pcs (D.per d) x.f k fr src.length).length=W0→Ok d→On d x→d.rd+k≤4611686010000000000→d.wr+k≤4611686010000000000→src.length≤k→fr+src.length≤x.w→src.length≤m→all.drop j=pcs (D.per d) x.f k fr src.length→j≤n4→(∀ H,R H→Cells H A (Zd src))→ws.length=D.per d→
   (∀ H,Prog S d0 (eZh d x k fr src) R0 W0→Sep [pts p (ZP dp ap x),Dk dp (eZh d x k fr src),Ar ap cap peak bufs,R] H→K (.int .i64 0) H)→
   Sep [pts p (ZP dp ap x),Dk dp d,Ar ap cap peak (bufs++[(b,D.per d,some ⟨rb,0,none⟩)]),pts rb (.row (Zd ws) 84 mb),Own 223 3 A4 n4 m4 (all.flatMap pcV),R,pts vb (.row [.pointer (some ⟨b,0,none⟩)] 206 1)] H→
   ZD.l9 K (k+1) (some ⟨p,0,none⟩) A src.length m (some ⟨b,0,none⟩) A4 n4 m4 (n4:Int) (j:Int) (some ⟨ap,0,none⟩) (some ⟨vb,0,none⟩) 1 1 H
 |k,fr,j,d,A,m,[],ws,H,r,w,hpg,hR0,hW0,hok,hx,hrd,hwr,hn,hf,hm,hall,hj,hR,hws,hK,hs=>by
  unfold ZD.l9;have e:pcs (D.per d) x.f k fr ([]:List UInt64).length=[]:=by cases k<;>simp[pcs]
  have e2:eZh d x k fr []=d:=by cases k<;>simp[eZh]
  have e3:dZx (D.per d) x.f k fr ([]:List UInt64).length=0:=by unfold dZx;rw[e];rfl
  rw[e3]at hR0;rw[e]at hW0;rw[e]at hall;have hjn:j=n4:=by
   have:=congrArg List.length hall;simp at this;omega
  subst hjn;refine Zm (by omega) ?_;refine(cZw vb b (D.per d) (some ⟨rb,0,none⟩) hbm).use hs [2,6] rfl rfl ?_;rintro _ _ H ⟨rfl,rfl⟩ hs;refine hK H ?_ ?_
  ·rw[e2,←hR0,←hW0];exact hpg
  ·rw[e2];exact hs.re [1,2,0,5] rfl
 |0,fr,j,d,A,m,w0::src0,ws,H,r,w,hpg,hR0,hW0,hok,hx,hrd,hwr,hn,hf,hm,hall,hj,hR,hws,hK,hs=>by simp at hn
 |k+1,fr,j,d,A,m,w0::src0,ws,H,r,w,hpg,hR0,hW0,hok,hx,hrd,hwr,hn,hf,hm,hall,hj,hR,hws,hK,hs=>by
  generalize hsrc:w0::src0=src at*;have hne:src≠ []:=by rw[← hsrc];simp
  have hpos:0<src.length:=by rw[← hsrc];simp
  have hp:=Ok.per_le hok;have hsec:=hok.sec;have hroom:x.s*D.per d≤1048576*512:=Nat.mul_le_mul (by have:=hx.fit;omega) (by omega);have h4:=hx.room;have hfit:=hx.fit;have e:pcs (D.per d) x.f (k+1) fr src.length=(x.f+fr/D.per d,fr%D.per d,cN (D.per d) fr src.length)::pcs (D.per d) x.f k (fr+cN (D.per d) fr src.length) (src.length-cN (D.per d) fr src.length):=by
   show(if src.length=0 then []else _)=_
   rw[if_neg (by omega)]
  have ew:eZh d x (k+1) fr src=eZh (gZs d (x.f+fr/D.per d) (fr%D.per d) (src.take (cN (D.per d) fr src.length))) x k (fr+cN (D.per d) fr src.length) (src.drop (cN (D.per d) fr src.length)):=by
   show(if src=[]then d else _)=_
   rw[if_neg hne]
  have hdn:=hpg.down;rw[e]at hall;have hRs:dZx (D.per d) x.f (k+1) fr src.length=(if cN (D.per d) fr src.length<D.per d then 1 else 0)+dZx (D.per d) x.f k (fr+cN (D.per d) fr src.length) (src.length-cN (D.per d) fr src.length):=by
   unfold dZx;rw[e,List.filter_cons];by_cases hq:cN (D.per d) fr src.length<D.per d
   ·simp only[hq,decide_true,if_true,List.length_cons];omega
   ·simp only[hq,decide_false,Bool.false_eq_true,if_false];omega
  rw[hRs]at hR0;rw[e,List.length_cons]at hW0;rw[ew]at hK;have hjlt:j<all.length:=by
   have:=congrArg List.length hall;simp at this;omega
  have hcle:=lZe (D.per d) fr src.length;have hcpos:=jZe (per:=D.per d) (fr:=fr) (n:=src.length) (by omega) hpos;have hcper:=nZ5 (per:=D.per d) (fr:=fr) (n:=src.length) (by omega);have hmod:=Nat.mod_lt fr (show 0<D.per d by omega);have hdiv:fr/D.per d<x.s:=by
   rw[Nat.div_lt_iff_lt_mul (by omega)];omega
  have hget:all[j]=(x.f+fr/D.per d,fr%D.per d,cN (D.per d) fr src.length):=by
   have:=List.drop_eq_getElem_cons hjlt;rw[this]at hall;exact(List.cons.inj hall).1
  have hrest:all.drop (j+1)=pcs (D.per d) x.f k (fr+cN (D.per d) fr src.length) (src.length-cN (D.per d) fr src.length):=by
   have:=List.drop_eq_getElem_cons hjlt;rw[this]at hall;exact(List.cons.inj hall).2
  generalize hcv:cN (D.per d) fr src.length=c at*;have hflat:∀(l:List (Nat×Nat×Nat)) (i:Nat) (hi:i<l.length),((l.flatMap pcV).drop (i*3)).take 3=pcV l[i]:=by
   intro l
   induction l with
   |nil=>intro i hi;simp at hi
   |cons y l ih=>
    intro i hi;rw[List.flatMap_cons];cases i with
    |zero=>simp[pcV]
    |succ i=>
     rw[show(i+1)*3=(pcV y).length+i*3 by simp[pcV];omega,List.drop_append];simp only[Nat.add_sub_cancel_left,List.getElem_cons_succ];rw[List.drop_eq_nil_of_le (by omega),List.nil_append];exact ih i (by simpa using hi)
  have hsec1:((x.f+fr/D.per d:Nat):Int)<(d.sec:Int):=Int.ofNat_lt.2 (by omega);have htk:(src.take c).length=c:=by simp;omega
  have hwl:(aZS (d.now ((x.f+fr/D.per d:Nat):Int))).length=D.per d:=by rw[dZk,hok.now];rfl
  unfold ZD.l9;refine Zw (by omega) ?_;refine(hs.own 4 rfl).rdA (ys:=pcV all[j]) rfl (by omega) (hflat all j hjlt) ?_;rw[hget];refine hs.nw fun b2 H hs=>?_
  refine hs.stw 7 rfl rfl rfl rfl fun H hs=>?_;have hs:Sep [pts p (ZP dp ap x),Dk dp d,Ar ap cap peak (bufs++[(b,D.per d,some ⟨rb,0,none⟩)]),pts rb (.row (Zd ws) 84 mb),Own 223 3 A4 n4 m4 (all.flatMap pcV),R,pts vb (.row [.pointer (some ⟨b,0,none⟩)] 206 1),
   pts b2 (.obj (.cells #[.int .i64 ((x.f+fr/D.per d:Nat):Int),.int .i64 ((fr%D.per d:Nat):Int),.int .i64 (c:Int)] 223))] H:=hs
    -- behind the load, if there was one
  have join:∀(d1:D) (ws1:List UInt64) (H:Hp),(d1=if c<D.per d then D.mr d else d)→(c<D.per d→d.fuse≠1)→ws1.length=D.per d→(c<D.per d→ws1=aZS (d.now ((x.f+fr/D.per d:Nat):Int)))→
    Sep [pts p (ZP dp ap x),Dk dp d1,Ar ap cap peak (bufs++[(b,D.per d,some ⟨rb,0,none⟩)]),pts rb (.row (Zd ws1) 84 mb),Own 223 3 A4 n4 m4 (all.flatMap pcV),R,pts vb (.row [.pointer (some ⟨b,0,none⟩)] 206 1),
     pts b2 (.obj (.cells #[.int .i64 ((x.f+fr/D.per d:Nat):Int),.int .i64 ((fr%D.per d:Nat):Int),.int .i64 (c:Int)] 223))] H→
    ZD.j15 K (ZD.l9 K (k+1)) (some ⟨p,0,none⟩) A src.length m (some ⟨b,0,none⟩) ⟨b2,0,none⟩ A4 n4 m4 (n4:Int) (j:Int) (some ⟨ap,0,none⟩) (some ⟨vb,0,none⟩) 1 1 H:=fun d1 ws1 H hd1 hnf hw1 hwe hs=>by
   have hd1p:D.per d1=D.per d∧Ok d1∧d1.down=false∧d1.wr=d.wr∧d1.sec=d.sec∧Prog S d0 d1 (r+if c<D.per d then 1 else 0) w:=by
    rw[hd1];by_cases hlt:c<D.per d
    ·simp only[hlt,if_true];exact⟨by trivial,Ok.mr hok,hdn,by trivial,by trivial,hpg.trans (Prog.mr S hok hdn (hnf hlt))⟩
    ·simp only[hlt,if_false];exact⟨by trivial,hok,hdn,by trivial,by trivial,hpg⟩
   obtain⟨q1,q2,q3,q4,q5,q6⟩:=hd1p;have hwset:eZg ws1 (fr%D.per d) (src.take c)=eZg (aZS (d.now ((x.f+fr/D.per d:Nat):Int))) (fr%D.per d) (src.take c):=by
    by_cases hlt:c<D.per d
    ·rw[hwe hlt]
    ·have h0:fr%D.per d=0:=by omega
     unfold eZg;rw[h0,htk,List.drop_eq_nil_of_le (by omega),List.drop_eq_nil_of_le (by omega)];simp
   have hdisk:D.pt d1 ((x.f+fr/D.per d:Nat):Int) (eZg ws1 (fr%D.per d) (src.take c))=gZs d (x.f+fr/D.per d) (fr%D.per d) (src.take c):=by
    unfold gZs;rw[hwset,hd1,htk]
   unfold ZD.j15;simp only[HS];refine aZc.use (eZD hs 2 rfl (List.mem_append_right _ (List.mem_singleton.2 rfl))) ?_;simp only[HV];refine hs.ld 7 rfl rfl ?_;simp only[HV];refine hZQ rfl (by omega) ?_;refine hs.ld 7 rfl rfl ?_;simp only[HV];refine lZP rfl (by omega) ?_;rw[lZO (by omega),Nat.zero_add];have hcell:∀{L:List As} {H:Hp},Sep L H→L[5]? =some R→Cells H A (Zd src):=fun hs h5=>by
    obtain⟨H1,hR1,hle⟩:=hs.see 5 h5;exact(hR H1 hR1).le hle
   refine hs.cp 3 (b:=rb) (off:=fr%D.per d) (n:=D.per d-fr%D.per d) (k:=c-0) (xs:=Zd ws1) (e':=84) (m:=mb) (ys:=Zd (src.take c)) (by rfl) bZR rfl ?_ ?_ (fun y hy=>?_) fun H hs=>?_
   ·have hmin:Nat.min (c-0) (D.per d-fr%D.per d)=c-0:=Nat.min_eq_left (by omega);rw[hmin];have h1:=((hcell hs rfl).shift (m:=m) (l:=0) (by rw[ZA];omega)).take c;rw[List.drop_zero,show(Zd src).take c=Zd (src.take c) by unfold Zd;rw[List.map_take]]at h1;exact iZz h1 (by rw[ZA,htk];omega)
   ·rw[ZA,ZA,htk,hw1];omega
   ·obtain⟨z,_,rfl⟩:=List.mem_map.1 hy;rfl
   simp only[HV];rw[jZB]at hs;refine hs.ld 7 rfl rfl ?_;simp only[HV];have hs:Sep [pts p (ZP dp ap x),Dk dp d1,Ar ap cap peak (bufs++[(b,D.per d,some ⟨rb,0,none⟩)]),pts rb (.row (Zd (eZg ws1 (fr%D.per d) (src.take c))) 84 mb),Own 223 3 A4 n4 m4 (all.flatMap pcV),R,pts vb (.row [.pointer (some ⟨b,0,none⟩)] 206 1),
     pts b2 (.obj (.cells #[.int .i64 ((x.f+fr/D.per d:Nat):Int),.int .i64 ((fr%D.per d:Nat):Int),.int .i64 (c:Int)] 223))] H:=hs
   have hsl:(eZg ws1 (fr%D.per d) (src.take c)).length=D.per d:=by rw[kZX (by omega)];exact hw1
   refine(vZE (p:=p) (ap:=ap) (x:=x) (cap:=cap) (peak:=peak) (b:=b) (rb:=rb) (m:=mb) (d:=d1) (ws:=eZg ws1 (fr%D.per d) (src.take c)) q2 q3 (by omega) ((x.f+fr/D.per d:Nat):Int) (Int.natCast_nonneg _) (by rw[q5];exact hsec1) (bufs:=bufs++[(b,D.per d,some ⟨rb,0,none⟩)]) (by rw[q1];exact List.mem_append_right _ (List.mem_singleton.2 rfl)) (by rw[q1];exact hsl)).use hs [0,1,2,3] rfl rfl ?_;rintro _ _ H (⟨hf1,rfl,rfl⟩|⟨hf1,rfl,rfl⟩) hs
   case inr=>
    simp only[HV];refine ZK (by decide) ?_;refine(cZw vb b (D.per d) (some ⟨rb,0,none⟩) hbm).use hs [2,6] rfl rfl ?_;rintro _ _ H ⟨rfl,rfl⟩ hs;refine hK8 _ H (q6.dead (cZz.one S q2 hf1)) ?_ (hs.re [1,2,0,5] rfl);have z1:=q6.fuse;have z2:=q6.go;omega
   have hpg2:=q6.trans (Prog.pt S q2 q3 hf1 (i:=((x.f+fr/D.per d:Nat):Int)) (hS _ hdiv) (ws:=eZg ws1 (fr%D.per d) (src.take c)) (by rw[q1];exact hsl));rw[hdisk]at hpg2;rw[hdisk]at hs;simp only[HV];refine ZB rfl ?_;refine hs.ld 7 rfl rfl ?_;simp only[HV];refine hZQ rfl (by omega) ?_;rw[ZV (x:=(j:Int)+1) (by omega) (by omega)];have hcnt:=uZi d (x.f+fr/D.per d) (fr%D.per d) (src.take c);have hsz:=nZi d (x.f+fr/D.per d) (fr%D.per d) (src.take c);have hper:=uZj d (x.f+fr/D.per d) (fr%D.per d) (src.take c);have hdl:(src.drop c).length=src.length-c:=by simp
   rw[← hdl];refine jZI K (rb:=rb) (mb:=mb) hbm hn4 hn40 hS hK8 k (fr+c) (j+1) _ _ (m-c) (src.drop c) (eZg ws1 (fr%D.per d) (src.take c)) H _ _ hpg2 (by rw[hper,hdl];omega) (by rw[hper,hdl];omega) hpg2.ok ⟨hx.w1,hx.s1,by rw[hsz.2];exact hfit,by rw[hper];exact h4⟩ (by rw[hcnt.2.1];split<;>omega) (by rw[hcnt.1];omega) (by omega) (by omega) (by omega) (by rw[hper,hdl];exact hrest) (by omega) (fun H hRH=>?_) (by rw[hper];exact hsl) hK ?_
   ·have:=(hR H hRH).shift (m:=m) (l:=c) (by rw[ZA];omega);rw[show(Zd src).drop c=Zd (src.drop c) by unfold Zd;rw[List.map_drop]]at this;exact this
   ·rw[hper];exact hs.re [0,1,2,3,4,5,6] rfl
  simp only[HS];refine hs.ld 7 rfl rfl ?_;simp only[HV];refine aZc.use (fZa hs 0 1 rfl rfl hok) ?_;simp only[HV];by_cases hlt:c<D.per d
  ·refine Zw (by omega) ?_;refine hs.ld 7 rfl rfl ?_;simp only[HV];refine(oZo (p:=p) (ap:=ap) (x:=x) (cap:=cap) (peak:=peak) (b:=b) (rb:=rb) (m:=mb) hok hdn (by omega) ((x.f+fr/D.per d:Nat):Int) (Int.natCast_nonneg _) hsec1 (bufs:=bufs++[(b,D.per d,some ⟨rb,0,none⟩)]) (List.mem_append_right _ (List.mem_singleton.2 rfl)) (xs:=Zd ws) (by rw[ZA];exact hws)).use hs [0,1,2,3] rfl rfl ?_;rintro _ _ H (⟨hf1,rfl,rfl⟩|⟨hf1,rfl,rfl⟩) hs
   case inr=>
    simp only[HV];refine ZK (by decide) ?_;refine(cZw vb b (D.per d) (some ⟨rb,0,none⟩) hbm).use hs [2,6] rfl rfl ?_;rintro _ _ H ⟨rfl,rfl⟩ hs;refine hK8 _ H (hpg.dead (cZz.one S hok hf1)) ?_ (hs.re [1,2,0,5] rfl);have z1:=hpg.fuse;have z2:=hpg.go;rw[if_pos hlt]at hR0;omega
   simp only[HV];refine ZB rfl ?_;exact join (D.mr d) _ H (by rw[if_pos hlt]) (fun _=>hf1) hwl (fun _=>rfl) (hs.re [0,1,2,3,4,5,6,7] rfl)
  ·refine Zm (by omega) ?_;exact join d ws H (by rw[if_neg hlt]) (fun h=>absurd h hlt) hws (fun h=>absurd h hlt) hs
def sZR (p dp ap:Nat)(d:D)(x:X)(cap peak:Int)(bufs:List (Nat×Nat×Option Addr))(fr:Nat)(src:List UInt64)(R:As)(v:Value)(M:List As):Prop:=
 (Prog (fun i=>(x.f:Int)≤i∧i<((x.f+x.s:Nat):Int)) d (eZh d x src.length fr src) (dZx (D.per d) x.f src.length fr src.length) (pcs (D.per d) x.f src.length fr src.length).length∧
  v= .int .i64 0∧M=[pts p (ZP dp ap x),Dk dp (eZh d x src.length fr src),Ar ap cap (mx peak (ZN bufs+D.per d)) bufs,R])∨
 (∃ d',cZz (fun i=>(x.f:Int)≤i∧i<((x.f+x.s:Nat):Int)) d d'∧d.fuse≤dZx (D.per d) x.f src.length fr src.length+(pcs (D.per d) x.f src.length fr src.length).length∧
  v= .int .i64 8∧M=[pts p (ZP dp ap x),Dk dp d',Ar ap cap (mx peak (ZN bufs+D.per d)) bufs,R])
theorem jZc {p dp ap:Nat}{d:D}{x:X}{cap peak:Int}{bufs:List (Nat×Nat×Option Addr)}{R:As}{A:Option Addr}{n m:Nat}{src:List UInt64}(hok:Ok d)(hl:d.down=false)(hx:On d x)(ho:d.rd≤4611686000000000000∧d.wr≤4611686000000000000)(fr:Nat)(hn:n=src.length)(hn1:1≤n)(hf:fr+n≤x.w)(hm:n≤m)(hcap:(D.per d:Int)≤cap-ZN bufs)(hR:∀ H,R H→Cells H A (Zd src)):
  Tr Tryz.prog 97 #[.pointer (some ⟨p,0,none⟩),.int .i64 fr,.slice A n m] [pts p (ZP dp ap x),Dk dp d,Ar ap cap peak bufs,R] fun v M=>
   sZR p dp ap d x cap peak bufs fr src R v M:=fun H hs=>by
 subst hn;have hp:=Ok.per_le hok;have hsec:=hok.sec;have hroom:x.s*D.per d≤1048576*512:=Nat.mul_le_mul (by have:=hx.fit;omega) (by omega);have h4:=hx.room;have hpl:=dZo (D.per d) x.f src.length fr src.length;apply ZD.ok;unfold ZD;refine(mZ2 (dp:=dp) (ap:=ap) hok hx fr src.length hf).use hs [0,1] rfl rfl ?_;rintro _ _ H ⟨A4,m4,rfl,rfl⟩ hs;simp only[HV];refine ZB rfl (aZm (by omega) ?_);simp only[HS];have rest:∀(b rb:Nat) (H:Hp),(∀ y∈bufs,y.1≠b)→Sep [Ar ap cap (if ZN bufs+D.per d>peak then ZN bufs+D.per d else peak) (bufs++[(b,D.per d,some ⟨rb,0,none⟩)]),pts rb (.row (bZr (D.per d)) 84 (D.per d)),pts p (ZP dp ap x),Dk dp d,Own 223 3 A4 (pcs (D.per d) x.f src.length fr src.length).length m4 ((pcs (D.per d) x.f src.length fr src.length).flatMap pcV),R] H→
   ZD.j5 (fun v H'=>∃ M,sZR p dp ap d x cap peak bufs fr src R v M∧Sep M H') (some ⟨p,0,none⟩) A src.length m A4 (pcs (D.per d) x.f src.length fr src.length).length m4 (0:Int) (some ⟨b,0,none⟩) H:=fun b rb H hbm hs=>by
  unfold ZD.j5;refine ZB rfl ?_;simp only[HS];refine hs.ld 2 rfl rfl ?_;simp only[HV];refine hs.nw fun vb H hs=>?_
  refine⟨src.length+1,?_⟩;have hz:bZr (D.per d)=Zd (List.replicate (D.per d) 0):=by
   unfold bZr;rw[bZD];unfold Zd;rw[List.map_replicate];rfl
  refine jZI _ (p:=p) (dp:=dp) (ap:=ap) (x:=x) (cap:=cap) (peak:=mx peak (ZN bufs+D.per d)) (bufs:=bufs) (b:=b) (rb:=rb) (mb:=D.per d) (vb:=vb) (R:=R) (all:=pcs (D.per d) x.f src.length fr src.length) hbm rfl (by omega) (S:=fun i=>(x.f:Int)≤i∧i<((x.f+x.s:Nat):Int)) (fun j hj=>⟨by omega,by omega⟩) (d0:=d) (R0:=dZx (D.per d) x.f src.length fr src.length) (W0:=(pcs (D.per d) x.f src.length fr src.length).length) (fun d' H hd hfu hs=>⟨_,.inr ⟨d',hd,hfu,rfl,rfl⟩,hs⟩) src.length fr 0 d A m src (List.replicate (D.per d) 0) H 0 0 (Prog.refl _ hok hl) (Nat.zero_add _) (Nat.zero_add _) hok hx (by omega) (by omega) (Nat.le_refl _) hf hm rfl (Nat.zero_le _) hR (by simp) (fun H hpg hs=>⟨_,.inl ⟨hpg,rfl,rfl⟩,hs⟩) ?_;rw[← hz];exact hs.re [2,3,0,1,4,5,6] rfl
 have fresh:∀{L:List As} {H:Hp} (b rb:Nat) (pk:Int),Sep L H→L[0]? =some (Ar ap cap pk (bufs++[(b,D.per d,some ⟨rb,0,none⟩)]))→∀ y∈bufs,y.1≠b:=fun b rb pk hs h0 y hy e=>by
  obtain⟨mp,cl,tk,hA⟩:=Sep.ar hs 0 h0;have:=hA.bn;rw[List.map_append,List.nodup_append]at this;exact this.2.2 y.1 (List.mem_map_of_mem hy) b (by simp) e
 refine⟨?_,?_⟩
 ·refine hs.ld 0 rfl rfl ?_;simp only[HV];refine Zc.use (fZa hs 0 1 rfl rfl hok) ?_
  try simp only[HV]
  refine(eZZ (a:=ap) (cap:=cap) (peak:=peak) (bufs:=bufs) (n:=D.per d) (by omega) hcap).use hs [3] rfl rfl ?_;rintro _ _ H ⟨b,rb,rfl,rfl⟩ hs;simp only[HV];exact rest b rb H (fresh b rb _ hs rfl) (hs.re [0,1,2,3,4,5] rfl)
 ·refine Zc.use (fZa hs 0 1 rfl rfl hok) ?_
  try simp only[HV]
  refine hs.ld 0 rfl rfl ?_;simp only[HV];refine(eZZ (a:=ap) (cap:=cap) (peak:=peak) (bufs:=bufs) (n:=D.per d) (by omega) hcap).use hs [3] rfl rfl ?_;rintro _ _ H ⟨b,rb,rfl,rfl⟩ hs;simp only[HV];exact rest b rb H (fresh b rb _ hs rfl) (hs.re [0,1,2,3,4,5] rfl)
end Go.Proofs.YtahjgjaenegpgaaGreatDoor.Str
namespace Go.Proofs.YtahjgjaenegpgaaGreatDoor.Lib
open Go Go.Proofs Go.Shelf Go.RowKit Go.Maps Go.Sort
def kZv :Go.Shelf.Ren:=⟨fun|6=>68|8=>98|9=>99|11=>146|13=>148|12=>147|23=>193|24=>194|14=>184|15=>185|16=>186|17=>187|18=>188|19=>189|20=>190|21=>191|22=>192|25=>213|26=>214|27=>215|28=>216|29=>217|30=>218|31=>237|n=>n,fun|26=>3|28=>141|24=>89|0=>0|3=>3|37=>86|48=>91|50=>84|4=>4|40=>278|39=>277|45=>175|5=>5|9=>9|51=>303|55=>307|57=>328|58=>329|33=>180|n=>n,fun|n=>n⟩
theorem vZA :Go.Proofs.SlLaysZI.n6 Tryz.prog kZv where
 mixed:=by kernel_rfl
 f6 := ⟨ "slices.Sorted[int]", by decide, Tryz.func68.trans (congrArg some (by kernel_rfl))⟩
 f8 := ⟨ "slices.Collect[int]", by decide, Tryz.func98.trans (congrArg some (by kernel_rfl))⟩
 f11 := ⟨ "slices.AppendSeq[[]int,int]", by decide, Tryz.func146.trans (congrArg some (by kernel_rfl))⟩
 t0:=Tryz.underlying0
 a0:=Tryz.isAgg0
 z0:=Tryz.sizeOf0
 v0:=Tryz.zeroValue0
 t24:=Tryz.underlying89
 a24:=Tryz.isAgg89
 z24:=Tryz.sizeOf89
 v24:=Tryz.zeroValue89
 t26:=Tryz.underlying3
 a26:=Tryz.isAgg3
 z26:=Tryz.sizeOf3
 v26:=Tryz.zeroValue3
 t28:=Tryz.underlying141
 a28:=Tryz.isAgg141
 z28:=Tryz.sizeOf141
 v28:=Tryz.zeroValue141
 i26:=by kernel_rfl
def sZD :Go.Shelf.Ren:=⟨fun|5=>99|8=>148|7=>147|19=>193|20=>194|10=>184|11=>185|12=>186|13=>187|14=>188|15=>189|16=>190|17=>191|18=>192|30=>213|31=>214|32=>215|33=>216|34=>217|35=>218|40=>237|n=>n,fun|23=>89|25=>3|3=>3|32=>86|22=>89|0=>0|44=>91|46=>84|4=>4|36=>278|35=>277|41=>175|5=>5|9=>9|53=>303|57=>307|63=>328|64=>329|n=>n,fun|n=>n⟩
theorem uZC :Go.Proofs.SlLaysM.n5 Tryz.prog sZD where
 mixed:=by kernel_rfl
 f5 := ⟨ "slices.Sort[[]int,int]", by decide, Tryz.func99.trans (congrArg some (by kernel_rfl))⟩
 f7 := ⟨ "slices.pdqsortOrdered[int]", by decide, Tryz.func147.trans (congrArg some (by kernel_rfl))⟩
 f8:=Tryz.func148.trans (congrArg some (by kernel_rfl))
 f10 := ⟨ "slices.insertionSortOrdered[int]", by decide, Tryz.func184.trans (congrArg some (by kernel_rfl))⟩
 f11 := ⟨ "slices.heapSortOrdered[int]", by decide, Tryz.func185.trans (congrArg some (by kernel_rfl))⟩
 f12 := ⟨ "slices.breakPatternsOrdered[int]", by decide, Tryz.func186.trans (congrArg some (by kernel_rfl))⟩
 f13 := ⟨ "slices.choosePivotOrdered[int]", by decide, Tryz.func187.trans (congrArg some (by kernel_rfl))⟩
 f14 := ⟨ "slices.reverseRangeOrdered[int]", by decide, Tryz.func188.trans (congrArg some (by kernel_rfl))⟩
 f15 := ⟨ "slices.partialInsertionSortOrdered[int]", by decide, Tryz.func189.trans (congrArg some (by kernel_rfl))⟩
 f16 := ⟨ "cmp.Less[int]", by decide, Tryz.func190.trans (congrArg some (by kernel_rfl))⟩
 f17 := ⟨ "slices.partitionEqualOrdered[int]", by decide, Tryz.func191.trans (congrArg some (by kernel_rfl))⟩
 f18 := ⟨ "slices.partitionOrdered[int]", by decide, Tryz.func192.trans (congrArg some (by kernel_rfl))⟩
 f19:=Tryz.func193.trans (congrArg some (by kernel_rfl))
 f20:=Tryz.func194.trans (congrArg some (by kernel_rfl))
 f30 := ⟨ "slices.siftDownOrdered[int]", by decide, Tryz.func213.trans (congrArg some (by kernel_rfl))⟩
 f31:=Tryz.func214.trans (congrArg some (by kernel_rfl))
 f32:=Tryz.func215.trans (congrArg some (by kernel_rfl))
 f33 := ⟨ "slices.medianAdjacentOrdered[int]", by decide, Tryz.func216.trans (congrArg some (by kernel_rfl))⟩
 f34 := ⟨ "slices.medianOrdered[int]", by decide, Tryz.func217.trans (congrArg some (by kernel_rfl))⟩
 f35 := ⟨ "cmp.isNaN[int]", by decide, Tryz.func218.trans (congrArg some (by kernel_rfl))⟩
 f40 := ⟨ "slices.order2Ordered[int]", by decide, Tryz.func237.trans (congrArg some (by kernel_rfl))⟩
 t0:=Tryz.underlying0
 a0:=Tryz.isAgg0
 z0:=Tryz.sizeOf0
 v0:=Tryz.zeroValue0
 t3:=Tryz.underlying3
 a3:=Tryz.isAgg3
 z3:=Tryz.sizeOf3
 v3:=Tryz.zeroValue3
 t4:=Tryz.underlying4
 a4:=Tryz.isAgg4
 z4:=Tryz.sizeOf4
 v4:=Tryz.zeroValue4
 t5:=Tryz.underlying5
 a5:=Tryz.isAgg5
 z5:=Tryz.sizeOf5
 v5:=Tryz.zeroValue5
 t9:=Tryz.underlying9
 a9:=Tryz.isAgg9
 z9:=Tryz.sizeOf9
 v9:=Tryz.zeroValue9
 t22:=Tryz.underlying89
 a22:=Tryz.isAgg89
 z22:=Tryz.sizeOf89
 v22:=Tryz.zeroValue89
 t23:=Tryz.underlying89
 a23:=Tryz.isAgg89
 z23:=Tryz.sizeOf89
 v23:=Tryz.zeroValue89
 t25:=Tryz.underlying3
 a25:=Tryz.isAgg3
 z25:=Tryz.sizeOf3
 v25:=Tryz.zeroValue3
 t32:=Tryz.underlying86
 a32:=Tryz.isAgg86
 z32:=Tryz.sizeOf86
 v32:=Tryz.zeroValue86
 t35:=Tryz.underlying277
 a35:=Tryz.isAgg277
 z35:=Tryz.sizeOf277
 v35:=Tryz.zeroValue277
 t36:=Tryz.underlying278
 a36:=Tryz.isAgg278
 z36:=Tryz.sizeOf278
 v36:=Tryz.zeroValue278
 t41:=Tryz.underlying175
 a41:=Tryz.isAgg175
 z41:=Tryz.sizeOf175
 v41:=Tryz.zeroValue175
 t44:=Tryz.underlying91
 a44:=Tryz.isAgg91
 z44:=Tryz.sizeOf91
 v44:=Tryz.zeroValue91
 t46:=Tryz.underlying84
 a46:=Tryz.isAgg84
 z46:=Tryz.sizeOf84
 v46:=Tryz.zeroValue84
 t53:=Tryz.underlying303
 a53:=Tryz.isAgg303
 z53:=Tryz.sizeOf303
 v53:=Tryz.zeroValue303
 t57:=Tryz.underlying307
 a57:=Tryz.isAgg307
 z57:=Tryz.sizeOf307
 v57:=Tryz.zeroValue307
 t63:=Tryz.underlying328
 a63:=Tryz.isAgg328
 z63:=Tryz.sizeOf328
 v63:=Tryz.zeroValue328
 t64:=Tryz.underlying329
 a64:=Tryz.isAgg329
 z64:=Tryz.sizeOf329
 v64:=Tryz.zeroValue329
def hZ5 :Go.Shelf.Ren:=⟨fun|7=>69|10=>100|n=>n,fun|23=>41|26=>3|3=>9|28=>141|0=>0|27=>140|33=>180|4=>4|n=>n,fun|n=>n⟩
theorem kZh :Go.Proofs.SlLaysZI.n7 Tryz.prog hZ5 where
 mixed:=by kernel_rfl
 f7 := ⟨ "maps.Keys[map[int]string,int,string]", by decide, Tryz.func69.trans (congrArg some (by kernel_rfl))⟩
 f10 := ⟨ "maps.Keys[map[int]string,int,string]$1", by decide, Tryz.func100.trans (congrArg some (by kernel_rfl))⟩
 t0:=Tryz.underlying0
 a0:=Tryz.isAgg0
 z0:=Tryz.sizeOf0
 v0:=Tryz.zeroValue0
 t4:=Tryz.underlying4
 a4:=Tryz.isAgg4
 z4:=Tryz.sizeOf4
 v4:=Tryz.zeroValue4
 t23:=Tryz.underlying41
 a23:=Tryz.isAgg41
 z23:=Tryz.sizeOf41
 v23:=Tryz.zeroValue41
 t26:=Tryz.underlying3
 a26:=Tryz.isAgg3
 z26:=Tryz.sizeOf3
 v26:=Tryz.zeroValue3
 t27:=Tryz.underlying140
 a27:=Tryz.isAgg140
 z27:=Tryz.sizeOf140
 v27:=Tryz.zeroValue140
 t28:=Tryz.underlying141
 a28:=Tryz.isAgg141
 z28:=Tryz.sizeOf141
 v28:=Tryz.zeroValue141
 t33:=Tryz.underlying180
 a33:=Tryz.isAgg180
 z33:=Tryz.sizeOf180
 v33:=Tryz.zeroValue180
end Go.Proofs.YtahjgjaenegpgaaGreatDoor.Lib
namespace Go.Hw
open Go Go.Proofs Go.Proofs.YtahjgjaenegpgaaGreatDoor.Lib Go.RowKit Go.Maps Go.Sort Go.Shelf
open Go.WideElems (Fit rd rg)
theorem mZW :∀(N:Nat) (l:List Nat),l.Nodup→(∀ x∈l,x<N)→l.length≤N
 |0,[],_,_=>by simp
 |0,x::_,_,h=>absurd (h x (by simp)) (by omega)
 |N+1,l,hn,h=>by
  have:=mZW N (l.erase N) (hn.erase N) fun x hx=>by
   rw[hn.mem_erase_iff]at hx;have:=h x hx.2;have:=hx.1;omega
  rw[List.length_erase]at this;split at this<;>omega
structure KeysOf (m:Int→Option Value)(ks:List Int):Prop where
 up:ks.Pairwise (fun a b=>a<b)
 mem:∀ k,k∈ks↔(m k).isSome=true
theorem pZB {l:List (Int×Value×Nat)}{clock:Nat}{m:Int→Option Value}(h:OkK l clock m){N:Nat}(hd:∀ k,(m k).isSome=true→0≤k∧k<N):l.length≤N∧∀ x∈l,0≤x.1∧x.1<N:=by
 have hmem:∀ x∈l,0≤x.1∧x.1<N:=fun x hx=>by
  apply hd;rw[← h.get,kZI h.nd hx];rfl
 refine⟨?_,hmem⟩;have hn:((l.map (·.1)).map Int.toNat).Nodup:=by
  rw[List.nodup_iff_pairwise_ne,List.pairwise_map];have:=h.nd;rw[List.nodup_iff_pairwise_ne]at this;refine this.imp_of_mem ?_;intro a b ha hb hne e;obtain⟨x,hx,rfl⟩:=List.mem_map.1 ha;obtain⟨y,hy,rfl⟩:=List.mem_map.1 hb;have:=hmem x hx;have:=hmem y hy;omega
 have:=mZW N _ hn fun x hx=>by
  obtain⟨y,hy,rfl⟩:=List.mem_map.1 hx;obtain⟨z,hz,rfl⟩:=List.mem_map.1 hy;have:=hmem z hz;omega
 simpa using this
def rNo :Value→Option (DataW Unit×List MemPlace):=fun _=>some (.lit (.bool true),[])
theorem vZi {P:Program}{k:TypeId}(hk:P.underlying k=some (.int .i64)){l:List (Int×Value×Nat)}{clock:Nat}{m:Int→Option Value}(h:OkK l clock m){N:Nat}(hN:N≤1048576)(hd:∀ k,(m k).isSome=true→0≤k∧k<N):
  Fit P k rNo (l.map bZB).toArray clock∧(l.map bZB).map (rg P k rNo)=l.map fun x=>(Lit.int .i64 x.1,DataW.lit (.bool true)):=by
 obtain⟨h1,h2⟩:=pZB h hd;have hrd:∀ x∈l,rd P k rNo (bZB x)=some (Lit.int .i64 x.1,DataW.lit (.bool true)):=fun x hx=>by
  have:=h2 x hx;have hw:(Lit.int .i64 x.1).wf=true:=by
   have e:(Lit.int .i64 x.1).wf=decide (-9223372036854775808≤x.1∧x.1≤9223372036854775807):=by
    simp[Lit.wf,IntKind.min,IntKind.max,IntKind.bits,IntKind.signed]
   rw[e,decide_eq_true_eq];omega
  refine Go.WideElems.rd_mk (yv:=(DataW.lit (.bool true),[])) (kl:=Lit.int .i64 x.1) ?_ rfl;simp[keyOf,mapKey,hk,hw]
 refine⟨⟨?_,⟨fun x hx=>?_,?_,?_⟩,fun x hx=>?_⟩,?_⟩
 ·simp only[List.size_toArray,List.length_map];exact Nat.le_trans h1 (Nat.le_trans hN (by decide))
 ·obtain⟨y,hy,rfl⟩:=List.mem_map.1 hx;exact h.bl y hy
 ·have:=h.bn;simpa [List.map_map,Function.comp_def,bZB]using this
 ·rw[List.map_map];have:=h.nd;rw[List.nodup_iff_pairwise_ne,List.pairwise_map]at this⊢;exact this.imp fun hne e=>hne (by simpa [bZB]using e)
 ·obtain⟨y,hy,rfl⟩:=List.mem_map.1 hx;exact⟨_,hrd y hy⟩
 ·rw[List.map_map];exact List.map_congr_left fun x hx=>Go.WideElems.rg_of (hrd x hx)
theorem wZ4 (m:Nat):AnyZI.SortsIn Tryz.prog kZv Fence.wide m:=
 ⟨fun blk off cap ss W hH hblk hsz=>callsIn_wide.2 (AnyM.slices_Sort_int uZC blk off cap ss W hH hblk hsz),fun p cap W=>callsIn_wide.2 (AnyM.slices_Sort_int_none uZC p cap W)⟩
theorem oZ2 (r:Nat)(H:Hp):Zc Tryz.prog 69 #[.map (some r)] H fun v H'=>
  ∃ b,H b=none∧v= .func (.func 100) #[] #[.pointer (some ⟨b,0,none⟩)]∧H'=H.set b (.obj (.cells #[.map (some r)] 41)):=fun w hw=>by
 have c:CallsIn Fence.wide 5 Tryz.prog 69 #[.map (some r)] w fun e w'=>e= .returned (.func (.func 100) #[] #[.pointer (some ⟨w.heap.size,0,none⟩)])∧w'=w.alloc (.cells #[.map (some r)] 41):=
  AnyZI.keys_in kZh Fence.wide 5 trivial rfl (some r) w
 refine(callsIn_wide.1 c).mono ?_;rintro e w' ⟨rfl,rfl⟩;obtain⟨hn,hA⟩:=(At.refl hw).new (o:=.obj (.cells #[.map (some r)] 41)) (x:=.cells #[.map (some r)] 41) rfl;exact⟨_,_,rfl,⟨w.heap.size,hn,rfl,rfl⟩,hA⟩
theorem nZl {r b clock:Nat}{l:List (Int×Value×Nat)}{m:Int→Option Value}(hok:OkK l clock m){N:Nat}(hN:N≤1048576)(hd:∀ k,(m k).isSome=true→0≤k∧k<N)(H:Hp)(hr:H r=some (dZg l clock))(hb:H b=some (.obj (.cells #[.map (some r)] 41))):
  Zc Tryz.prog 68 #[.func (.func 100) #[] #[.pointer (some ⟨b,0,none⟩)]] H fun v H'=>
   ∃ ks,KeysOf m ks∧ks.length≤N∧((ks=[]∧v= .slice none 0 0∧H'=H)∨∃ b' cap,v= .slice (some ⟨b',0,none⟩) ks.length cap∧ks.length≤cap∧H b'=none∧H'=H.set b' (.row (ks.map (Value.int .i64)) 3 cap)):=fun w hw=>by
 have hu:Tryz.prog.underlying 3=some (.int .i64):=by kernel_rfl
 obtain⟨hfit,hrg⟩:=vZi (P:=Tryz.prog) (k:=3) hu hok hN hd;obtain⟨hlen,hmem⟩:=pZB hok hd;have hheap:=dZg.heap hr hw;have hbh:w.heap[b]? =some (.cells #[.map (some r)] 41 (0,0)):=by
  obtain⟨o,ho,hh⟩:=hw _ _ hb;cases hh;exact ho
 have hown:w.ownsMap Tryz.prog 3 rNo r l.length (.map ((((l.map bZB).toArray.toList).map (rg Tryz.prog 3 rNo)).foldr DataW.insert [])):=⟨_,clock,hheap,hfit,by simp,rfl⟩;rw[List.toList_toArray,hrg]at hown;have hperm:=Go.WideShapes.sorted_perm (l.map fun x=>(Lit.int .i64 x.1,(DataW.lit (.bool true):DataW Unit)));have hik:(intKeys (.map ((l.map fun x=>(Lit.int .i64 x.1,(DataW.lit (.bool true):DataW Unit))).foldr DataW.insert []))).Perm (l.map (·.1)):=by
  have:=hperm.map fun p=>intOf p.1
  rw[List.map_map]at this;exact this
 have hsize:Maps.size (DataW.map ((l.map fun x=>(Lit.int .i64 x.1,(DataW.lit (.bool true):DataW Unit))).foldr DataW.insert []))=l.length:=by
  have:=hperm.length_eq;rw[List.length_map]at this;exact this
 have hseq:SeqGives Fence.wide 2 Tryz.prog 100 #[.pointer (some ⟨b,0,none⟩)] encZ (fun ss=>ss.Perm (intKeys _)) (Maps.size _) w:=
  AnyZI.keys_gives (ρ:=hZ5) { kZh with} Fence.wide _ trivial rfl (by omega) b r l.length _ w (Array.getElem?_eq_some_iff.1 hbh).1 (by simp[World.cell?,hbh]) hown
 have cS:=AnyZI.sorted_in vZA Fence.wide 5 trivial trivial trivial trivial rfl (by omega) (wZ4 _) (enters_of Tryz.func99 (by kernel_rfl) rfl) 100 #[.pointer (some ⟨b,0,none⟩)] trivial (enters_of Tryz.func100 (by kernel_rfl) rfl) _ _ (by rw[hsize];exact Nat.le_trans hlen (Nat.le_trans hN (by decide))) (by rw[hsize];omega) w hseq;change CallsIn _ _ Tryz.prog 68 _ _ _ at cS;refine(callsIn_wide.1 cS).mono ?_;rintro e w' ⟨v,ss,rfl,hS,hrow,hnil,hbel⟩;have hp:(ss.mergeSort fun x y=>decide (x≤y)).Perm (l.map (·.1)):=(List.mergeSort_perm _ _).trans (hS.trans hik);have hks:KeysOf m (ss.mergeSort fun x y=>decide (x≤y)):=by
  refine⟨?_,fun k=>?_⟩
  ·have h1:=List.pairwise_mergeSort (le:=fun x y:Int=>decide (x≤y)) (fun a b c h1 h2=>by simp only[decide_eq_true_eq]at *;omega) (fun a b=>by simp only[Bool.or_eq_true,decide_eq_true_eq];omega) ss;have h2:(ss.mergeSort fun x y=>decide (x≤y)).Nodup:=hp.nodup_iff.2 hok.nd;rw[List.nodup_iff_pairwise_ne]at h2;refine(h1.and h2).imp ?_;rintro a b ⟨h3,h4⟩;simp only[decide_eq_true_eq]at h3;omega
  ·rw[hp.mem_iff,←hok.get];constructor
   ·intro hk;obtain⟨x,hx,rfl⟩:=List.mem_map.1 hk;rw[kZI hok.nd hx];rfl
   ·intro hk;cases hg:cZF l k with
    |none=>rw[hg]at hk;cases hk
    |some v=>
     obtain⟨b,hb⟩:=rZP hg;exact List.mem_map.2 ⟨_,hb,rfl⟩
 have hkl:(ss.mergeSort fun x y=>decide (x≤y)).length=ss.length:=List.length_mergeSort _;have hsl:ss.length≤N:=by
  rw[← hkl,hp.length_eq,List.length_map];exact hlen
 obtain⟨hxl,hcase⟩:=hrow;rcases hcase with⟨rfl,h0⟩|⟨g,cap,cur,rfl,hg,hgh,hnc,hcm,hcs,htk⟩
 ·have hss:ss=[]:=hnil.1 rfl;refine⟨_,H,rfl,⟨_,hks,by omega,.inl ⟨List.length_eq_zero_iff.1 (by rw[hkl,hss];rfl),rfl,rfl⟩⟩,?_⟩;exact⟨fun i o hi=>by
   obtain⟨o',h1,h2⟩:=hw i o hi;exact⟨o',(hbel.block i (Array.getElem?_eq_some_iff.1 h1).1).trans h1,h2⟩,hbel.size,hbel.os,hbel.tape,hbel.output,fun i hi h0=>⟨h0,hbel.block i hi⟩⟩
 ·have hgn:H g=none:=by
   cases hx:H g with
   |none=>rfl
   |some o=>
    obtain⟨o',h1,_⟩:=hw g o hx;have:=(Array.getElem?_eq_some_iff.1 h1).1;omega
  rw[Nat.mul_one]at hcs htk;refine⟨_,H.set g (.row ((ss.mergeSort fun x y=>decide (x≤y)).map (Value.int .i64)) 3 cap),rfl,⟨_,hks,by omega,.inr ⟨g,cap,by rw[hkl],by omega,hgn,rfl⟩⟩,?_⟩;refine⟨fun i o hi=>?_,hbel.size,hbel.os,hbel.tape,hbel.output,fun i hi h0=>⟨?_,hbel.block i hi⟩⟩
  ·by_cases hig:i=g
   ·subst hig;rw[Hp.set_same]at hi;cases hi;refine⟨_,hgh,cur.toList.drop ss.length,0,0,?_,?_,.inl rfl⟩
    ·rw[← htk,List.take_append_drop,Array.toArray_toList];rfl
    ·rw[← htk,List.take_append_drop,Array.length_toList];exact hcs
   ·rw[Hp.set_other _ _ hig]at hi;obtain⟨o',h1,h2⟩:=hw i o hi;exact⟨o',(hbel.block i (Array.getElem?_eq_some_iff.1 h1).1).trans h1,h2⟩
  ·rw[Hp.set_other _ _ (by omega)];exact h0
end Go.Hw
namespace Go.Proofs.YtahjgjaenegpgaaGreatDoor.Dsk
open Go Go.Hw Go.Form W
def Dom (d:D):Prop:=∀ k,(d.cache k).isSome=true→0≤k∧k<d.sec
theorem iZc (m:Int→Option (List UInt8))(k:Int):(bZy m k).isSome=(m k).isSome:=by unfold bZy;cases m k<;>rfl
theorem sZ5 {p:Nat}{d:D}(hok:Ok d)(hd:Dom d):Tr Tryz.prog 36 #[.pointer (some ⟨p,0,none⟩)] [Dk p d] fun v M=>
  ∃ ks A cap,KeysOf (bZy d.cache) ks∧ks.length≤d.sec∧v= .slice A ks.length cap∧M=[Dk p d,Own 3 1 A ks.length cap (ks.map (Value.int .i64))]:=fun H hs=>by
 have hsec:=hok.sec;obtain⟨r1,r2,r3,hs⟩:=Dk.open hs;apply dZZ.ok;unfold dZZ;simp only[HS];refine hs.ld 0 rfl rfl ?_;simp only[HV];refine(oZ2 r3 H).mono ?_;rintro _ _ ⟨b,hb,rfl,rfl⟩;have hs:=hs.new hb (.obj (.cells #[.map (some r3)] 41));obtain⟨H1,⟨l,clock,hr1,hgk⟩,hle⟩:=hs.see 3 rfl;refine(nZl hgk (N:=d.sec) (by omega) (fun k hk=>hd k (by rw[iZc]at hk;exact hk)) _ (hle _ _ hr1) (hs.get 4 rfl)).mono ?_;rintro _ _ ⟨ks,hks,hkl,⟨h0,rfl,rfl⟩|⟨b',cap,rfl,hcap,hn,rfl⟩⟩
 ·simp only[HV];subst h0;refine⟨_,⟨[],.none,0,hks,hkl,rfl,rfl⟩,?_⟩;have hs2:Sep (Own 3 1 .none 0 0 []::[pts p (iZg d r1 r2 r3),Mp r1 (bZy d.safe),Mp r2 (hZS d.tch),Mp r3 (bZy d.cache)]) _:=⟨fun _=>none,_,fun _ _ h=>(nomatch h),Hp.le_refl _,fun _=>.inl rfl,Own.none _ _ _,hs.re [0,1,2,3] rfl⟩;exact Dk.shut (hs2.re [1,2,3,4,0] rfl)
 ·simp only[HV];have hs2:=hs.new hn (.row (ks.map (Value.int .i64)) 3 cap);have hs3:=hs2.turn 5 (B:=Own 3 1 (some ⟨b',0,none⟩) ks.length cap (ks.map (Value.int .i64))) rfl fun H1 hH=>⟨by simp,.inr ⟨b',cap,rfl,hH,by omega⟩⟩
  exact⟨_,⟨ks,some ⟨b',0,none⟩,cap,hks,hkl,rfl,rfl⟩,Dk.shut (hs3.re [0,1,2,3,5] rfl)⟩
theorem lZX {p:Nat}{d:D}(n:Int):Tr Tryz.prog 14 #[.pointer (some ⟨p,7,none⟩),.int .i64 n] [Dk p d] fun v M=>v= .tuple #[]∧M=[Dk p { d with fuse:=n.toNat}]:=fun H hs=>by
 obtain⟨r1,r2,r3,hs⟩:=Dk.open hs;apply dZ4.ok;unfold dZ4;simp only[HS];rw[show(if(0:Int)>n then(0:Int)else n)=((n.toNat:Nat):Int) by split<;>omega];refine hs.st 0 rfl (by show 8<10;omega) rfl fun H hs=>?_;exact⟨_,⟨trivial,rfl⟩,Dk.shut (d:={ d with fuse:=n.toNat}) hs⟩
def eZ7 (c:Int→Option (List UInt8)):(Int→Option (List UInt8))→List Int→List Bool→(Int→Option (List UInt8))
 |s,k::ks,b::bs=>eZ7 c (if b then cZI s k ((c k).getD [])else s) ks bs
 |s,_,_=>s
def D.boot (d:D)(ks:List Int)(keep:List Bool):D:={ d with safe:=eZ7 d.cache d.safe ks keep,cache:=fun _=>none,down:=false}
def cZ4 (l:List Bool):List Value:=l.map Value.bool
theorem mZz (c s:Int→Option (List UInt8))(ks:List Int):eZ7 c s ks []=s:=by cases ks<;>rfl
theorem hZW (K:Value→Hp→Prop){p r1 r2 r3:Nat}{d:D}{A A4:Option Addr}{n4 m n m4:Nat}{all:List Int}{keepAll:List Bool}{R:As}(hR:∀ H,R H→Cells H A (cZ4 keepAll))(hn:n=keepAll.length)(hn4:n4=all.length)(hn40:n4≤1048576)(hall:∀ k∈all,(d.cache k).isSome=true)(sF:Int→Option (List UInt8))
  (hK:∀ H,Sep [pts p (iZg { d with down:=false} r1 r2 r3),Mp r1 (bZy sF),Mp r2 (hZS d.tch),Mp r3 (bZy fun _=>none),Own 3 1 A4 n4 m4 (all.map (Value.int .i64)),R] H→K (.int .i64 0) H):
  ∀(ks:List Int) (j:Nat) (s:Int→Option (List UInt8)) (H:Hp),all.drop j=ks→j≤n4→eZ7 d.cache s ks (keepAll.drop j)=sF→
   Sep [pts p (iZg d r1 r2 r3),Mp r1 (bZy s),Mp r2 (hZS d.tch),Mp r3 (bZy d.cache),Own 3 1 A4 n4 m4 (all.map (Value.int .i64)),R] H→
   aZD.l4 K (ks.length+1) (some ⟨p,0,none⟩) A n m A4 n4 m4 (n4:Int) (j:Int) H
 | [],j,s,H,hd,hj,hb,hs=>by
  have hjn:j=n4:=by
   have:=congrArg List.length hd;simp at this;omega
  subst hjn;unfold aZD.l4;refine Zm (by omega) ?_;simp only[HS];refine hs.ld 0 rfl rfl ?_;simp only[HV];refine hs.clearK hZw gZq 3 rfl fun H hs=>?_;refine hs.st 0 rfl (by show 7<10;omega) rfl fun H hs=>?_;have hb':s=sF:=hb;rw[hb']at hs;exact hK H hs
 |k::ks,j,s,H,hd,hj,hb,hs=>by
  have hjl:j<all.length:=by
   have:=congrArg List.length hd;simp at this;omega
  have hget:all[j]=k:=by
   have:=List.drop_eq_getElem_cons hjl;rw[this]at hd;exact(List.cons.inj hd).1
  have hrest:all.drop (j+1)=ks:=by
   have:=List.drop_eq_getElem_cons hjl;rw[this]at hd;exact(List.cons.inj hd).2
  have hkc:=hall k (by rw[← hget];exact List.getElem_mem _);unfold aZD.l4;refine Zw (by omega) ?_;refine(hs.own 4 rfl).rd1 (v:=.int .i64 k) rfl (by rw[List.getElem?_map,List.getElem?_eq_getElem hjl,hget];rfl) ?_;simp only[HV];by_cases hjk:j<n
  ·refine Zw (by omega) ?_;have hkl:j<keepAll.length:=by omega
   have hkd:keepAll.drop j=keepAll[j]::keepAll.drop (j+1):=List.drop_eq_getElem_cons hkl;rw[hkd]at hb;obtain⟨H1,hR1,hle⟩:=hs.see 5 (A:=R) rfl;refine((hR H1 hR1).le hle).read (v:=.bool keepAll[j]) (by unfold cZ4;rw[List.getElem?_map,List.getElem?_eq_getElem hkl];rfl) rfl (by unfold cZ4;rw[List.length_map];omega) ?_;simp only[HV];cases hbv:keepAll[j]with
   |true=>
    rw[hbv]at hb
    try simp only[HV]
    try simp only[HS]
    refine hs.ld 0 rfl rfl ?_;simp only[HV];refine hs.ld 0 rfl rfl ?_;simp only[HV];obtain⟨jz,hz1,hz2⟩:=qZ8;obtain⟨H1,⟨l,clock,hr1,hgk⟩,hle⟩:=hs.see 3 rfl;refine mZa hZw gZq hz1 hz2 (hle _ _ hr1) false ?_;rw[hgk.get];cases hck:d.cache k with
    |none=>rw[hck]at hkc;cases hkc
    |some bs=>
     rw[show bZy d.cache k=some (jZG bs) by unfold bZy;rw[hck];rfl];show DS (.string ⟨bs.toArray⟩) _
     simp only[HV];refine hs.upd hZw gZq 1 rfl fun H hs=>?_;rw[show(Value.string ⟨bs.toArray⟩)=jZG bs from rfl,oZT]at hs;rw[ZV (x:=(j:Int)+1) (by omega) (by omega)];refine hZW K hR hn hn4 hn40 hall sF hK ks (j+1) (cZI s k bs) H hrest (by omega) ?_ hs;rw[← hb];show _=eZ7 d.cache (if true then cZI s k ((d.cache k).getD [])else s) ks _
     rw[hck];rfl
   |false=>
    rw[hbv]at hb
    try simp only[HV]
    rw[ZV (x:=(j:Int)+1) (by omega) (by omega)];exact hZW K hR hn hn4 hn40 hall sF hK ks (j+1) s H hrest (by omega) hb hs
  ·refine Zm (by omega) ?_;rw[ZV (x:=(j:Int)+1) (by omega) (by omega)];rw[List.drop_eq_nil_of_le (by omega),mZz]at hb;refine hZW K hR hn hn4 hn40 hall sF hK ks (j+1) s H hrest (by omega) ?_ hs;rw[List.drop_eq_nil_of_le (by omega),mZz];exact hb
theorem uZJ {p:Nat}{d:D}(hok:Ok d)(hd:Dom d)(hdn:d.down=true)(A:Option Addr)(n m:Nat)(keep:List Bool)(hn:n=keep.length)(R:As)(hR:∀ H,R H→Cells H A (cZ4 keep)):
  Tr Tryz.prog 13 #[.pointer (some ⟨p,0,none⟩),.slice A n m] [Dk p d,R] fun v M=>∃ ks,KeysOf (bZy d.cache) ks∧v= .int .i64 0∧M=[Dk p (D.boot d ks keep),R]:=fun H hs=>by
 have hsec:=hok.sec;obtain⟨r1,r2,r3,hp⟩:=Dk.see hs 0 rfl;apply aZD.ok;unfold aZD;simp only[HS];refine bZt hp (v:=.bool d.down) rfl ?_;rw[hdn];simp only[HV];refine(sZ5 hok hd).use hs [0] rfl rfl ?_;rintro _ _ H ⟨ks,A4,cap,hks,hkl,rfl,rfl⟩ hs;simp only[HV];obtain⟨r1,r2,r3,hs⟩:=Dk.open hs;refine⟨ks.length+1,?_⟩;refine hZW _ (d:=d) (A4:=A4) (m4:=cap) (all:=ks) (keepAll:=keep) (R:=R) hR hn rfl (by omega) (fun k hk=>by have:=(hks.mem k).1 hk;rw[iZc]at this;exact this) (eZ7 d.cache d.safe ks keep) (fun H hs=>⟨_,⟨ks,hks,rfl,rfl⟩,?_⟩) ks 0 d.safe H rfl (Nat.zero_le _) rfl hs;exact Dk.shut (d:=D.boot d ks keep) (hs.re [0,1,2,3,5] rfl)
end Go.Proofs.YtahjgjaenegpgaaGreatDoor.Dsk
namespace Go.Proofs.YtahjgjaenegpgaaGreatDoor.Dsk
open Go Go.Hw Go.Form W
theorem kZD {c:Int→Option (List UInt8)}:∀(ks:List Int) (bs:List Bool) (s:Int→Option (List UInt8)),(∀ k∈ks,(c k).isSome=true)→∀ i,eZ7 c s ks bs i=s i∨((c i).isSome=true∧eZ7 c s ks bs i=c i)
 | [],bs,s,_,i=>.inl rfl
 |k::ks,[],s,_,i=>.inl rfl
 |k::ks,b::bs,s,hk,i=>by
  have ih:=kZD ks bs (if b then cZI s k ((c k).getD [])else s) (fun k hm=>hk k (by simp[hm])) i;show eZ7 c (if b then cZI s k ((c k).getD [])else s) ks bs i=s i∨_∧eZ7 c (if b then cZI s k ((c k).getD [])else s) ks bs i=c i
  rcases ih with h|h
  ·rw[h];cases b with
   |false=>exact .inl rfl
   |true=>
    by_cases e:i=k
    ·subst e;refine .inr ⟨hk i (by simp),?_⟩;have:=hk i (by simp);cases hc:c i with
     |none=>rw[hc]at this;cases this
     |some x=>simp[cZI]
    ·exact .inl (by simp[cZI,e])
  ·exact .inr h
theorem Ok.writeD {d:D}(h:Ok d)(i:Int)(bs:List UInt8):Ok (d.writeD i bs):=by
 unfold D.writeD;split
 ·exact h
 ·split
  ·exact h
  ·rename_i hl
   have hb:=Ok.burnt h;split
   ·exact hb
   ·unfold D.wrote;refine⟨hb.sec,hb.size,hb.big,hb.per,hb.safe,fun k b hk=>?_,hb.fz⟩;have hk':(if k=i then some bs else d.cache k)=some b:=hk;have hsz:d.burnt.size=d.size:=(cZd d).2.2.2.1;split at hk'
    ·cases hk';show bs.length=d.burnt.size;rw[hsz];omega
    ·show b.length=d.burnt.size;rw[hsz];exact h.cache k b hk'
theorem Dom.writeD {d:D}(h:Dom d)(i:Int)(bs:List UInt8):Dom (d.writeD i bs):=by
 have hbr:=cZd d;unfold D.writeD;split
 ·exact h
 ·rename_i hc
  split
  ·exact h
  ·split
   ·intro k hk;rw[hbr.2.2.2.2.2.2.1]at hk;rw[hbr.2.2.2.2.1];exact h k hk
   ·intro k hk;have hk':(if k=i then some bs else d.cache k).isSome=true:=hk;show 0≤k∧k<(d.burnt.sec:Int)
    rw[hbr.2.2.2.2.1];split at hk'
    ·rename_i e;subst e
     have:=rZC (d:=d) (i:=k) (by simpa using hc);omega
    ·exact h k hk'
theorem Ok.fused {d:D}(h:Ok d)(n:Nat)(hn:n≤9223372036854775807):Ok { d with fuse:=n}:=⟨h.sec,h.size,h.big,h.per,h.safe,h.cache,hn⟩
theorem Ok.boot {d:D}(h:Ok d){ks:List Int}(hk:KeysOf (bZy d.cache) ks)(keep:List Bool):Ok (D.boot d ks keep):=by
 refine⟨h.sec,h.size,h.big,h.per,fun k b hb=>?_,fun k b hb=>(by cases hb),h.fz⟩;have hb':eZ7 d.cache d.safe ks keep k=some b:=hb;rcases kZD ks keep d.safe (fun k hm=>by have:=(hk.mem k).1 hm;rw[iZc]at this;exact this) k with e|⟨_,e⟩
 ·rw[e]at hb';exact h.safe k b hb'
 ·rw[e]at hb';exact h.cache k b hb'
end Go.Proofs.YtahjgjaenegpgaaGreatDoor.Dsk
namespace Go.Proofs.YtahjgjaenegpgaaGreatDoor.Dsk
open Go Go.Hw Go.Form W
def eZA (s c:Int→Option (List UInt8)):Int→Option (List UInt8):=fun i=>match c i with|some b=>some b|none=>s i
theorem born_inj {l:List (Int×Value×Nat)}(h:(l.map (·.2.2)).Nodup){x y:Int×Value×Nat}(hx:x∈l)(hy:y∈l)(e:x.2.2=y.2.2):x=y:=by
 induction l with
 |nil=>simp at hx
 |cons z l ih=>
  simp only[List.map_cons,List.nodup_cons]at h;rcases List.mem_cons.1 hx with ex|hx'
  ·rcases List.mem_cons.1 hy with ey|hy'
   ·rw[ex,ey]
   ·exact absurd (by rw[← ex,e];exact List.mem_map_of_mem hy') h.1
  ·rcases List.mem_cons.1 hy with ey|hy'
   ·exact absurd (by rw[← ey,←e];exact List.mem_map_of_mem hx') h.1
   ·exact ih h.2 hx' hy'
theorem qZA (K:Value→Hp→Prop){r1 r2 it cl:Nat}{c s:Int→Option (List UInt8)}{l:List (Int×Value×Nat)}(hok:OkK l cl (bZy c))
  (hK:∀ H,Sep [Mp r1 (bZy (eZA s c)),pts r2 (dZg l cl)] H→K (.tuple #[]) H):
  ∀(t:Nat) (sj:Int→Option (List UInt8)) (seen:Array Nat) (last:Nat) (H:Hp),(bZT l seen).length≤t→(∀ x∈l,x.2.2<last)→(∀ i,(∀ x∈bZT l seen,x.1≠i)→sj i=eZA s c i)→
   Sep [Mp r1 (bZy sj),pts r2 (dZg l cl),pts it (eZr r2 cl seen last)] H→Zz.l1 K (t+1) (some r1) (.pointer (some ⟨it,0,none⟩)) H:=fun t=>by
 induction t with
 |zero=>
  intro sj seen last H ht hlast hsj hs;unfold Zz.l1;have h0:bZT l seen=[]:=List.length_eq_zero_iff.1 (by omega);refine rZ9 (hs.get 2 rfl) (hs.get 1 rfl) hok.bl hlast (fun x hx=>by rw[h0]at hx;simp at hx) (fun _=>?_);simp only[Ex,List.getElem?_toArray,List.getElem?_cons_zero,jZM,iZ6];refine hK H ?_;have:sj=eZA s c:=funext fun i=>hsj i (fun x hx=>by rw[h0]at hx;simp at hx)
  rw[← this];exact hs.re [0,1] rfl
 |succ t ih=>
  intro sj seen last H ht hlast hsj hs;unfold Zz.l1;refine rZ9 (hs.get 2 rfl) (hs.get 1 rfl) hok.bl hlast (fun x hx=>?_) (fun h0=>?_)
  ·simp only[Ex,List.getElem?_toArray,List.getElem?_cons_zero,jZM,nZO];have hxl:x∈l:=(List.mem_filter.1 hx).1;have hs:=hs.put 2 (eZr r2 cl (seen.push x.2.2) cl) rfl;refine uZ3 (hs.get 2 rfl) (hs.get 1 rfl) hxl (by simp) hok.bn ?_;simp only[Ex,List.getElem?_toArray,List.getElem?_cons_zero,List.getElem?_cons_succ];have hg:bZy c x.1=some x.2.1:=by rw[← hok.get,kZI hok.nd hxl]
   obtain⟨b,hcb,hxb⟩:∃ b,c x.1=some b∧x.2.1=jZG b:=by
    unfold bZy at hg;cases hc:c x.1 with
    |none=>rw[hc]at hg;cases hg
    |some b=>rw[hc]at hg;exact⟨b,rfl,(Option.some.inj hg).symm⟩
   rw[hxb];show DI .i64 (.int .i64 x.1) fun x1=>DS (.string ⟨b.toArray⟩) _
   simp only[HV];refine hs.upd hZw gZq 0 rfl fun H hs=>?_;rw[show(Value.string ⟨b.toArray⟩)=jZG b from rfl,oZT]at hs;have hlt:=qZ4 hx;refine ih (cZI sj x.1 b) (seen.push x.2.2) cl H (by omega) hok.bl (fun i hi=>?_) hs;by_cases e:i=x.1
   ·subst e;unfold eZA cZI;rw[hcb];simp
   ·unfold cZI;rw[if_neg e];refine hsj i fun y hy ey=>?_
    obtain⟨hyl,hys⟩:=List.mem_filter.1 hy;have hne:y.2.2≠x.2.2:=fun e2=>e (by rw[← ey,born_inj hok.bn hyl hxl e2])
    refine hi y (List.mem_filter.2 ⟨hyl,?_⟩) ey;rw[Array.contains_push];simp only[Bool.not_eq_true',Bool.or_eq_false_iff]at hys⊢;exact⟨hys,by simpa using hne⟩
  ·simp only[Ex,List.getElem?_toArray,List.getElem?_cons_zero,jZM,iZ6];refine hK H ?_;have:sj=eZA s c:=funext fun i=>hsj i (fun x hx=>by rw[h0]at hx;simp at hx)
   rw[← this];exact hs.re [0,1] rfl
theorem tZB (r1 r2:Nat)(s c:Int→Option (List UInt8)):Tr Tryz.prog 93 #[.map (some r1),.map (some r2)] [Mp r1 (bZy s),Mp r2 (bZy c)] fun v M=>
  v= .tuple #[]∧M=[Mp r1 (bZy (eZA s c)),Mp r2 (bZy c)]:=fun H hs=>by
 have hs0:=hs;obtain⟨H1,⟨l,clock,hr1,hok⟩,hle⟩:=hs.see 1 rfl;apply Zz.ok;unfold Zz;refine vZq gZq (hle _ _ hr1) fun it hit=>?_
 have hs1:Sep [Mp r1 (bZy s),pts r2 (dZg l clock)] H:=hs.turn' 1 rfl fun H2 hle2 hA=>by
  obtain⟨l2,clock2,h2,_⟩:=hA;have e1:=hle2 _ _ h2;have e2:=hle _ _ hr1;rw[e1]at e2;show H2 r2=some (dZg l clock)
  rw[h2,e2]
 have hs2:=hs1.new hit (eZr r2 clock #[] clock);refine⟨l.length+1,?_⟩;refine qZA _ (s:=s) hok (fun H hs=>⟨_,⟨rfl,rfl⟩,hs.turn 1 rfl fun H2 hA=>⟨l,clock,hA,hok⟩⟩) l.length s #[] clock _ ?_ hok.bl (fun i hi=>?_) hs2
 ·unfold bZT;exact List.length_filter_le _ _
 ·unfold eZA;have hn:c i=none:=by
   have:cZF l i=none:=mZI.2 fun x hx=>hi x (by unfold bZT;simp[hx])
   rw[hok.get]at this;unfold bZy at this;cases hc:c i with
   |none=>rfl
   |some b=>rw[hc]at this;cases this
  rw[hn]
def D.synced (d:D):D:={ d.burnt with sy:=d.sy+1,safe:=eZA d.safe d.cache,cache:=fun _=>none}
def D.syncE (d:D):Int:=if d.down then 8 else if d.burns then 8 else 0
def D.syncD (d:D):D:=if d.down then d else if d.burns then d.burnt else d.synced
theorem hZz {p:Nat}{d:D}(hok:Ok d)(ho:d.sy≤4611686018427387904):Tr Tryz.prog 55 #[.pointer (some ⟨p,0,none⟩)] [Dk p d] fun v M=>v= .int .i64 d.syncE∧M=[Dk p d.syncD]:=fun H hs=>by
 have hf:=hok.fz;obtain⟨r1,r2,r3,hp⟩:=Dk.see hs 0 rfl;apply eZl.ok;unfold eZl;simp only[HS];refine bZt hp (v:=.bool d.down) rfl ?_;simp only[HV];cases hdn:d.down with
 |true=>exact aZN rfl ⟨_,⟨by simp[D.syncE,hdn],by simp[D.syncD,hdn]⟩,hs⟩
 |false=>
  refine aZu rfl ?_;refine(kZE hf).use hs [0] rfl rfl ?_;rintro _ _ H ⟨rfl,rfl⟩ hs;simp only[HV];cases hb:d.burns with
  |true=>exact aZN rfl ⟨_,⟨by simp[D.syncE,hdn,hb],by simp[D.syncD,hdn,hb];rfl⟩,hs⟩
  |false=>
   refine aZu rfl ?_;have hbr:=cZd d;obtain⟨r1,r2,r3,hs⟩:=Dk.open hs
   try simp only[HS]
   refine hs.ld 0 rfl rfl ?_;simp only[HV];refine hs.st 0 rfl (by show 5<10;omega) rfl fun H hs=>?_;rw[hbr.2.2.1]at hs;rw[ZV (x:=(d.sy:Int)+1) (by omega) (by omega)]at hs;refine hs.ld 0 rfl rfl ?_;simp only[HV];refine hs.ld 0 rfl rfl ?_;simp only[HV];rw[hbr.2.2.2.2.2.1,hbr.2.2.2.2.2.2.1]at hs;refine(tZB r1 r3 d.safe d.cache).use hs [1,3] rfl rfl ?_;rintro _ _ H ⟨rfl,rfl⟩ hs
   try simp only[HV]
   refine hs.ld 2 rfl rfl ?_;simp only[HV];refine hs.clearK hZw gZq 1 rfl fun H hs=>?_;refine⟨_,⟨by simp[D.syncE,hdn,hb],by simp[D.syncD,hdn,hb];rfl⟩,?_⟩;exact Dk.shut (d:=d.synced) (r1:=r1) (r2:=r2) (r3:=r3) (hs.re [2,0,3,1] rfl)
end Go.Proofs.YtahjgjaenegpgaaGreatDoor.Dsk
namespace Go.Proofs.YtahjgjaenegpgaaGreatDoor.Dsk
open Go Go.Hw Go.Form W
structure Act where
 k:Int
 i:Int
 A:Option Addr
 n:Nat
 m:Nat
 b:List UInt8
 A':Option Addr
 n':Nat
 m':Nat
 ks:List Bool
def laidB (bs:List UInt8):List UInt8:=bs.take 32++List.replicate (32-bs.length) 0
theorem rZ0 (bs:List UInt8):(laidB bs).length=32:=by
 unfold laidB;rw[List.length_append,List.length_take,List.length_replicate];omega
end Go.Proofs.YtahjgjaenegpgaaGreatDoor.Dsk
namespace Go.Proofs.YtahjgjaenegpgaaGreatDoor.Dsk
open Go Go.Hw Go.Form W
structure Calm (d:D):Prop where
 down:d.down=false
 fuse:d.fuse=0
structure Next (d d':D):Prop where
 ok:Ok d'
 dom:Dom d'
 sec:d'.sec=d.sec
 size:d'.size=d.size
 rd:d'.rd≤d.rd+1
 wr:d'.wr≤d.wr+1
 sy:d'.sy≤d.sy+1
section
variable {d : D} (h : Ok d) (hd : Dom d)
include h hd
theorem Next.refl :Next d d:=⟨h,hd,rfl,rfl,by omega,by omega,by omega⟩
theorem Next.burnt :Next d d.burnt:=by
 have hb:=cZd d;refine⟨Ok.burnt h,fun k hk=>?_,hb.2.2.2.2.1,hb.2.2.2.1,by rw[hb.1];omega,by rw[hb.2.1];omega,by rw[hb.2.2.1];omega⟩;rw[hb.2.2.2.2.2.2.1]at hk;rw[hb.2.2.2.2.1];exact hd k hk
theorem Next.read :Next d { d.burnt with rd:=d.rd+1}:=by
 have hb:=Next.burnt h hd;exact⟨⟨hb.ok.sec,hb.ok.size,hb.ok.big,hb.ok.per,hb.ok.safe,hb.ok.cache,hb.ok.fz⟩,hb.dom,hb.sec,hb.size,Nat.le_refl _,hb.wr,hb.sy⟩
theorem Next.write (i:Int)(bs:List UInt8):Next d (d.writeD i bs):=by
 have hb:=cZd d;have h1:=Ok.writeD h i bs;have h2:=Dom.writeD hd i bs;have hn:=Next.burnt h hd;unfold D.writeD at h1 h2⊢;split
 ·exact Next.refl h hd
 ·rename_i c1
  rw[if_neg c1]at h1 h2;split
  ·exact Next.refl h hd
  ·rename_i c2
   rw[if_neg c2]at h1 h2;split
   ·exact hn
   ·rename_i c3
    rw[if_neg c3]at h1 h2;exact⟨h1,h2,hn.sec,hn.size,hn.rd,Nat.le_refl _,hn.sy⟩
theorem Next.sync :Next d d.syncD:=by
 have hn:=Next.burnt h hd;have hb:=cZd d;unfold D.syncD;split
 ·exact Next.refl h hd
 ·split
  ·exact hn
  ·refine⟨⟨hn.ok.sec,hn.ok.size,hn.ok.big,hn.ok.per,fun k b hk=>?_,fun k b hk=>(by cases hk),hn.ok.fz⟩,fun k hk=>(by cases hk),hn.sec,hn.size,hn.rd,hn.wr,Nat.le_refl _⟩;have hk':eZA d.safe d.cache k=some b:=hk;show b.length=d.burnt.size
   rw[hb.2.2.2.1];unfold eZA at hk';split at hk'
   ·rename_i b' hc;cases hk';exact h.cache k b hc
   ·exact h.safe k b hk'
end
def Eff (d d':D)(a:Act)(e:Int):Prop:=Calm d→a.k≤2→Calm d'∧d'.safe=d.safe∧
 ((0≤a.k∧a.k≤1∧e=0)→(0≤a.i∧a.i<d.sec)∧d'.cache=cZI d.cache a.i (laidB a.b))∧(¬ (0≤a.k∧a.k≤1∧e=0)→d'.cache=d.cache)
theorem Calm.burns {d:D}(h:Calm d):d.burns=false:=by unfold D.burns;rw[h.fuse];rfl
theorem Calm.burnt {d:D}(h:Calm d):d.burnt=d:=by unfold D.burnt;rw[if_pos h.fuse]
theorem Eff.same {d:D}{a:Act}{e:Int}(h:¬(0≤a.k∧a.k≤1∧e=0)):Eff d d a e:=fun hc _=>⟨hc,rfl,fun h'=>absurd h' h,fun _=>rfl⟩
theorem Eff.write {d:D}{a:Act}(hz:d.size=32)(hk:0≤a.k∧a.k≤1):Eff d (d.writeD a.i (laidB a.b)) a (d.writeE a.i 32):=fun hc _=>by
 have hl:=rZ0 a.b;by_cases h0:d.chk a.i=0
 ·have e1:d.writeE a.i 32=0:=by
   unfold D.writeE;rw[if_neg (by rw[h0];simp),if_neg (by omega),hc.burns];rfl
  have e2:d.writeD a.i (laidB a.b)=d.wrote a.i (laidB a.b):=by
   unfold D.writeD;rw[if_neg (by rw[h0];simp),if_neg (by omega),hc.burns];rfl
  rw[e1,e2];have hb:=hc.burnt;have hr:=rZC h0;unfold D.wrote;rw[hb];exact⟨⟨hc.down,hc.fuse⟩,rfl,fun _=>⟨⟨hr.1,hr.2.1⟩,rfl⟩,fun h=>absurd ⟨hk.1,hk.2,rfl⟩ h⟩
 ·have e1:d.writeE a.i 32=d.chk a.i:=by unfold D.writeE;rw[if_pos h0]
  have e2:d.writeD a.i (laidB a.b)=d:=by unfold D.writeD;rw[if_pos h0]
  rw[e1,e2];exact⟨hc,rfl,fun h=>absurd h.2.2 h0,fun _=>rfl⟩
theorem Eff.read {d:D}{a:Act}{e:Int}(hk:a.k=2):Eff d { d.burnt with rd:=d.rd+1} a e:=fun hc _=>by
 rw[hc.burnt];exact⟨⟨hc.down,hc.fuse⟩,rfl,fun h=>by omega,fun _=>rfl⟩
end Go.Proofs.YtahjgjaenegpgaaGreatDoor.Dsk
