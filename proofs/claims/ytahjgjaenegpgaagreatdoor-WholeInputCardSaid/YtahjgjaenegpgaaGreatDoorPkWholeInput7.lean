import Derived.Test.YtahjgjaenegpgaaGreatDoorProg
import Derived.Test.YtahjgjaenegpgaaGreatDoorPkWholeInput6
set_option maxRecDepth 100000
set_option linter.unusedVariables false
set_option linter.unusedSimpArgs false
set_option linter.unnecessarySimpa false
set_option linter.unusedSectionVars false
namespace Go.Proofs.YtahjgjaenegpgaaGreatDoor
open Tryz (prog)
namespace W
open Go Go.Hw
theorem dZG :prog.follows .mixedOrders=true:=by kernel_rfl
def aZw.l17 (K:Value→Hp→Prop):Nat→Option Addr→Option Addr→Addr→Int→Option Addr→Addr→Int→Option Addr→Option Addr→Nat→Nat→Option Addr→Option Addr→Nat→Nat→Hp→Prop
 |0,_,_,_,_,_,_,_,_,_,_,_,_,_,_,_,_=>False
 |k+1,p16,p17,a4,x46,p18,a5,x47,p19,A3,n3,m3,p20,A4,n4,m4,H=>
  let R17:=aZw.l17 K k
  LeI H ((a4.add 0).add 0) fun x48=>BIf (decide (x47<x48)) (HcS 125 #[.pointer p18] H fun A5 n5 m5 H21=>HcI 177 #[.pointer (some a5),.pointer p16,.pointer p17,.slice A5 n5 m5,.int .i64 x47] H21 fun x49 H22=>BIf (x49 !=0) (aZ1 prog 130 #[.pointer p19,.slice A3 n3 m3] H22 fun _ H25=>aZ1 prog 130 #[.pointer p20,.slice A4 n4 m4] H25 fun _ H26=>K (.tuple #[.int .u32 0,.int .i64 x49]) H26) (R17 p16 p17 a4 x46 p18 a5 (IntKind.i64.wrap (x47+x46)) p19 A3 n3 m3 p20 A4 n4 m4 H22)) (HcU 126 #[.pointer (some (a5.add 0))] H fun x50 H23=>aZ1 prog 130 #[.pointer p19,.slice A3 n3 m3] H23 fun _ H27=>aZ1 prog 130 #[.pointer p20,.slice A4 n4 m4] H27 fun _ H28=>K (.tuple #[.int .u32 x50,.int .i64 0]) H28)
def aZw.j16 (K:Value→Hp→Prop)(p11:Option Addr)(p12:Option Addr)(a2:Addr)(x45:Int)(p13:Option Addr)(a3:Addr)(p14:Option Addr)(A1:Option Addr)(n1:Nat)(m1:Nat)(p15:Option Addr)(A2:Option Addr)(n2:Nat)(m2:Nat)(H:Hp):Prop:=
 (∃ k,aZw.l17 K k p11 p12 a2 x45 p13 a3 0 p14 A1 n1 m1 p15 A2 n2 m2 H)
def aZw.q1 (l12:List Value)(H8:Hp)(p6:Option Addr)(K:Value→Hp→Prop)(p1:Option Addr)(p2:Option Addr)(b1:Nat)(x9:Int)(p4:Option Addr)(p3:Option Addr)(b3:Nat)(b2:Nat):Prop:=
 oZ1 l12.toArray.toList fun x16 x17 x18 x19 x20=>(Nw H8 (.obj (.cells #[.int .u32 0,.int .i64 0,.int .i64 x16,.int .i64 x17,.int .i64 x18,.int .i64 x19,.int .u64 x20,.pointer p6] 271)) fun b4 H9=>aZw.j16 K p1 p2 ⟨b1,0,none⟩ x9 p4 ⟨b4,0,none⟩ p3 (some ⟨b3,0,none⟩) 1 1 p3 (some ⟨b2,0,none⟩) 1 1 H9)
def aZw (p1:Option Addr)(p2:Option Addr)(x1:Int)(x2:Int)(x3:Int)(x4:Int)(x5:Int)(p3:Option Addr)(x6:Int)(H:Hp)(K:Value→Hp→Prop):Prop:=
 Nw H (.obj (.cells #[.int .i64 x1,.int .i64 x2,.int .i64 x3,.int .i64 x4,.int .u64 x5] 120)) fun b1 H1=>LdA H1 ⟨b1,0,none⟩ 5 fun l1=>HcI 173 #[.pointer p1,.pointer p2,.agg l1.toArray,.pointer p3] H1 fun x7 H2=>BIf (x7 !=0) (K (.tuple #[.int .u32 0,.int .i64 x7]) H2) (LdA H2 ((⟨b1,0,none⟩:Addr).add 0) 2 fun l2=>NN p3 fun a1=>QcI 166 #[.pointer (some (a1.add 0))] H2 fun x8=>Qz 174 #[.agg l2.toArray,.int .i64 x6,.int .i64 x8] H2 fun v3=>hZ0 v3 fun x9 c1=>(BIf (!c1) (K (.tuple #[.int .u32 0,.int .i64 6]) H2) (LeI H2 (((⟨b1,0,none⟩:Addr).add 0).add 1) fun x10=>Hz 128 #[.pointer p3,.int .i64 (IntKind.i64.wrap (x9*x10))] H2 fun v7 H3=>dZX v7 fun p4 x11=>(BIf (x11 !=0) (K (.tuple #[.int .u32 0,.int .i64 x11]) H3) (Nw H3 (.row [.pointer p4] 206 1) fun b2 H4=>LeI H4 (((⟨b1,0,none⟩:Addr).add 0).add 1) fun x12=>Hz 128 #[.pointer p3,.int .i64 x12] H4 fun v11 H5=>dZX v11 fun p5 x13=>(BIf (x13 !=0) (aZ1 prog 130 #[.pointer p3,.slice (some ⟨b2,0,none⟩) 1 1] H5 fun _ H24=>K (.tuple #[.int .u32 0,.int .i64 x13]) H24) (Nw H5 (.row [.pointer p5] 206 1) fun b3 H6=>(LdA H6 ⟨b1,0,none⟩ 5 fun l12=>LeI H6 (((⟨b1,0,none⟩:Addr).add 0).add 1) fun x14=>HcI 176 #[.int .u64 (IntKind.u64.wrap x14)] H6 fun x15 H7=>HcP 175 #[.int .i64 x15] H7 fun p6 H8=>aZw.q1 l12 H8 p6 K p1 p2 b1 x9 p4 p3 b3 b2)∧(LeI H6 (((⟨b1,0,none⟩:Addr).add 0).add 1) fun x21=>(LdA H6 ⟨b1,0,none⟩ 5 fun l18=>HcI 176 #[.int .u64 (IntKind.u64.wrap x21)] H6 fun x22 H10=>HcP 175 #[.int .i64 x22] H10 fun p7 H11=>aZw.q1 l18 H11 p7 K p1 p2 b1 x9 p4 p3 b3 b2)∧((LdA H6 ⟨b1,0,none⟩ 5 fun l24=>HcI 176 #[.int .u64 (IntKind.u64.wrap x21)] H6 fun x28 H13=>HcP 175 #[.int .i64 x28] H13 fun p8 H14=>aZw.q1 l24 H14 p8 K p1 p2 b1 x9 p4 p3 b3 b2)∧(HcI 176 #[.int .u64 (IntKind.u64.wrap x21)] H6 fun x34 H16=>(LdA H16 ⟨b1,0,none⟩ 5 fun l30=>HcP 175 #[.int .i64 x34] H16 fun p9 H17=>aZw.q1 l30 H17 p9 K p1 p2 b1 x9 p4 p3 b3 b2)∧(HcP 175 #[.int .i64 x34] H16 fun p10 H19=>LdA H19 ⟨b1,0,none⟩ 5 fun l36=>aZw.q1 l36 H19 p10 K p1 p2 b1 x9 p4 p3 b3 b2)))))))))))
def aZw.l17.L (K:Value→Hp→Prop)(k:Nat):Mid:=fun E D H=>
 eP E 0 fun p16=>eP E 1 fun p17=>eN E 7 fun a4=>eI E 13 .i64 fun x46=>eP E 15 fun p18=>eN E 17 fun a5=>eI E 18 .i64 fun x47=>cZz 130 D fun dc0 da0 D1=>aZa dc0 (Zr da0 fun u0da0 r0da0=>DP u0da0 fun p19=>Zr r0da0 fun u1da0 r1da0=>DSl u1da0 fun A3 n3 m3=>aZa r1da0 (cZz 130 D1 fun dc1 da1 D2=>aZa dc1 (Zr da1 fun u0da1 r0da1=>DP u0da1 fun p20=>Zr r0da1 fun u1da1 r1da1=>DSl u1da1 fun A4 n4 m4=>aZa r1da1 (Zt D2 (aZw.l17 K k p16 p17 a4 x46 p18 a5 x47 p19 A3 n3 m3 p20 A4 n4 m4 H)))))
def aZw.Λ17 (_:Value→Hp→Prop)(_R17:Option Addr→Option Addr→Addr→Int→Option Addr→Addr→Int→Option Addr→Option Addr→Nat→Nat→Option Addr→Option Addr→Nat→Nat→Hp→Prop):Zn:=Zn.none (fun i=>match Nat.beq i 15 with|true=>some ([],[0,0,2,6,14,30,62,127,255,511],0)|false=>none)
def aZw.Λ (K:Value→Hp→Prop):Zn:=⟨fun i=>match Nat.beq i 16 with|true=>some (fun E D H=>eP E 0 fun p11=>eP E 1 fun p12=>eN E 7 fun a2=>eI E 13 .i64 fun x45=>eP E 15 fun p13=>eN E 17 fun a3=>cZz 130 D fun dc0 da0 D1=>aZa dc0 (Zr da0 fun u0da0 r0da0=>DP u0da0 fun p14=>Zr r0da0 fun u1da0 r1da0=>DSl u1da0 fun A1 n1 m1=>aZa r1da0 (cZz 130 D1 fun dc1 da1 D2=>aZa dc1 (Zr da1 fun u0da1 r0da1=>DP u0da1 fun p15=>Zr r0da1 fun u1da1 r1da1=>DSl u1da1 fun A2 n2 m2=>aZa r1da1 (Zt D2 (aZw.j16 K p11 p12 a2 x45 p13 a3 p14 A1 n1 m1 p15 A2 n2 m2 H))))))|false=>none,fun i=>match Nat.beq i 17 with|true=>some (fun E D H=>∃ k,aZw.l17.L K k E D H)|false=>none,(fun i=>match Nat.beq i 15 with|true=>some ([],[0,0,2,6,14,30,62,127,255,511],0)|false=>none)⟩
theorem aZw.ok (p1:Option Addr)(p2:Option Addr)(x1:Int)(x2:Int)(x3:Int)(x4:Int)(x5:Int)(p3:Option Addr)(x6:Int)(H:Hp)(K:Value→Hp→Prop)(h:aZw p1 p2 x1 x2 x3 x4 x5 p3 x6 H K):Zc prog 132 #[.pointer p1,.pointer p2,.agg #[.int .i64 x1,.int .i64 x2,.int .i64 x3,.int .i64 x4,.int .u64 x5],.pointer p3,.int .i64 x6] H K:=
 Zq Tryz.func132 rfl (nbl rfl) (Zf (Λ:=(aZw.Λ K)) dZG _ _ _ _ _ (Eq.mp (by kernel_rfl) h) (Zb Za rfl (Zb (Zb Za rfl (Zb Za rfl (Zj (Zb Za rfl Zy) Zk))) rfl (Zb Za rfl (Zb (Zb Za rfl (Zj (Zb Za rfl Zy) Zk)) rfl (Zb Za rfl (Zb (Zb Za rfl (Zj (Zb Za rfl Zy) Zk)) rfl (Zb Za rfl (Zb Za rfl (Zb (Zb Za rfl (Zj (Zb Za rfl Zy) Zk)) rfl (Zb Za rfl (aZL Za rfl (fun E D H h=>by
   obtain⟨p11,e0,g2⟩:=GP h;obtain⟨p12,e1,g4⟩:=GP g2;obtain⟨a2,e7,g7⟩:=GN g4;obtain⟨x45,e13,g9⟩:=GI g7;obtain⟨p13,e15,g11⟩:=GP g9;obtain⟨a3,e17,g14⟩:=GN g11;obtain⟨dc0,da0,D1,rfl,g15⟩:=cZz.out g14;obtain⟨rfl,g16⟩:=aZa.out g15;obtain⟨u0da0,r0da0,rfl,g17⟩:=Zr.out g16;obtain⟨p14,rfl,g18⟩:=DP.out g17;obtain⟨u1da0,r1da0,rfl,g19⟩:=Zr.out g18;obtain⟨A1,n1,m1,rfl,g20⟩:=DSl.out g19;obtain⟨rfl,g21⟩:=aZa.out g20;obtain⟨dc1,da1,D2,rfl,g22⟩:=cZz.out g21;obtain⟨rfl,g23⟩:=aZa.out g22;obtain⟨u0da1,r0da1,rfl,g24⟩:=Zr.out g23;obtain⟨p15,rfl,g25⟩:=DP.out g24;obtain⟨u1da1,r1da1,rfl,g26⟩:=Zr.out g25;obtain⟨A2,n2,m2,rfl,g27⟩:=DSl.out g26;obtain⟨rfl,g28⟩:=aZa.out g27;obtain⟨rfl,h'⟩:=Zt.out g28;exact(Zf (Λ:=(aZw.Λ K)) dZG _ _ [(0,.pointer p11),(1,.pointer p12),(7,.pointer (some a2)),(13,.int .i64 x45),(15,.pointer p13),(17,.pointer (some a3))] [{ target:=.fn (.func 130) #[],args:=#[.pointer p14,.slice A1 n1 m1]},{ target:=.fn (.func 130) #[],args:=#[.pointer p15,.slice A2 n2 m2]}] H (Eq.mp (by kernel_rfl) h') (Zb (Zb Za rfl (Zu (aZc rfl (fun E D H h=>by
     refine Safe.loop' (aZw.l17.L K) (fun E D H h=>?_) (fun k E D H h=>?_) E D H h
     ·obtain⟨w0,e0,g1⟩:=DG.out h;obtain⟨p16,rfl,g2⟩:=DP.out g1;obtain⟨w1,e1,g3⟩:=DG.out g2;obtain⟨p17,rfl,g4⟩:=DP.out g3;obtain⟨w7,e7,g5⟩:=DG.out g4;obtain⟨pw7,rfl,g6⟩:=DP.out g5;obtain⟨a4,rfl,g7⟩:=NN.out g6;obtain⟨w13,e13,g8⟩:=DG.out g7;obtain⟨x46,rfl,g9⟩:=DI.out g8;obtain⟨w15,e15,g10⟩:=DG.out g9;obtain⟨p18,rfl,g11⟩:=DP.out g10;obtain⟨w17,e17,g12⟩:=DG.out g11;obtain⟨pw17,rfl,g13⟩:=DP.out g12;obtain⟨a5,rfl,g14⟩:=NN.out g13;obtain⟨w18,e18,g15⟩:=DG.out g14;obtain⟨x47,rfl,g16⟩:=DI.out g15;obtain⟨dc0,da0,D1,rfl,g17⟩:=cZz.out g16;obtain⟨rfl,g18⟩:=aZa.out g17;obtain⟨u0da0,r0da0,rfl,g19⟩:=Zr.out g18;obtain⟨p19,rfl,g20⟩:=DP.out g19;obtain⟨u1da0,r1da0,rfl,g21⟩:=Zr.out g20;obtain⟨A3,n3,m3,rfl,g22⟩:=DSl.out g21;obtain⟨rfl,g23⟩:=aZa.out g22;obtain⟨dc1,da1,D2,rfl,g24⟩:=cZz.out g23;obtain⟨rfl,g25⟩:=aZa.out g24;obtain⟨u0da1,r0da1,rfl,g26⟩:=Zr.out g25;obtain⟨p20,rfl,g27⟩:=DP.out g26;obtain⟨u1da1,r1da1,rfl,g28⟩:=Zr.out g27;obtain⟨A4,n4,m4,rfl,g29⟩:=DSl.out g28;obtain⟨rfl,g30⟩:=aZa.out g29;obtain⟨rfl,h'⟩:=Zt.out g30;exact h'
     ·obtain⟨p16,e0,g2⟩:=GP h;obtain⟨p17,e1,g4⟩:=GP g2;obtain⟨a4,e7,g7⟩:=GN g4;obtain⟨x46,e13,g9⟩:=GI g7;obtain⟨p18,e15,g11⟩:=GP g9;obtain⟨a5,e17,g14⟩:=GN g11;obtain⟨x47,e18,g16⟩:=GI g14;obtain⟨dc0,da0,D1,rfl,g17⟩:=cZz.out g16;obtain⟨rfl,g18⟩:=aZa.out g17;obtain⟨u0da0,r0da0,rfl,g19⟩:=Zr.out g18;obtain⟨p19,rfl,g20⟩:=DP.out g19;obtain⟨u1da0,r1da0,rfl,g21⟩:=Zr.out g20;obtain⟨A3,n3,m3,rfl,g22⟩:=DSl.out g21;obtain⟨rfl,g23⟩:=aZa.out g22;obtain⟨dc1,da1,D2,rfl,g24⟩:=cZz.out g23;obtain⟨rfl,g25⟩:=aZa.out g24;obtain⟨u0da1,r0da1,rfl,g26⟩:=Zr.out g25;obtain⟨p20,rfl,g27⟩:=DP.out g26;obtain⟨u1da1,r1da1,rfl,g28⟩:=Zr.out g27;obtain⟨A4,n4,m4,rfl,g29⟩:=DSl.out g28;obtain⟨rfl,g30⟩:=aZa.out g29;obtain⟨rfl,h'⟩:=Zt.out g30;exact(Zf (Λ:=(aZw.Λ17 K (aZw.l17 K k))) dZG _ _ [(0,.pointer p16),(1,.pointer p17),(7,.pointer (some a4)),(13,.int .i64 x46),(15,.pointer p18),(17,.pointer (some a5)),(18,.int .i64 x47)] [{ target:=.fn (.func 130) #[],args:=#[.pointer p19,.slice A3 n3 m3]},{ target:=.fn (.func 130) #[],args:=#[.pointer p20,.slice A4 n4 m4]}] H (Eq.mp (by kernel_rfl) h') (Zb (Zb Za rfl (Zj Zk ZT)) rfl (Zb (Zu (Zb Za rfl (Zb Za rfl (Zj (Zb Za rfl Zy) Zk)))) rfl Za))).weaken (Ze.cons e0 (Ze.cons e1 (Ze.cons e7 (Ze.cons e13 (Ze.cons e15 (Ze.cons e17 (Ze.cons e18 (Ze.nil _)))))))) (Hp.le_refl _))))) rfl (Zb Za rfl Zy))).weaken (Ze.cons e0 (Ze.cons e1 (Ze.cons e7 (Ze.cons e13 (Ze.cons e15 (Ze.cons e17 (Ze.nil _))))))) (Hp.le_refl _))))))))))))))
def fZK (p1:Option Addr)(p2:Option Addr)(x1:Int)(x2:Int)(x3:Int)(x4:Int)(x5:Int)(p3:Option Addr)(H:Hp)(K:Value→Hp→Prop):Prop:=
 Nw H (.obj (.cells #[.int .i64 x1,.int .i64 x2,.int .i64 x3,.int .i64 x4,.int .u64 x5] 120)) fun b1 H1=>BIf p1.isNone (K (.int .i64 1) H1) (BIf p2.isNone (K (.int .i64 1) H1) (BIf p3.isNone (K (.int .i64 1) H1) (LdA H1 ((⟨b1,0,none⟩:Addr).add 0) 2 fun l1=>QcB 168 #[.agg l1.toArray] H1 fun c1=>BIf (!c1) (K (.int .i64 19) H1) (QcI 80 #[.pointer p1] H1 fun x6=>LdA H1 ((⟨b1,0,none⟩:Addr).add 0) 2 fun l2=>QcI 169 #[.agg l2.toArray] H1 fun x7=>BIf (x6 !=x7) (K (.int .i64 19) H1) (QcI 80 #[.pointer p2] H1 fun x8=>LdA H1 ((⟨b1,0,none⟩:Addr).add 0) 2 fun l3=>QcI 169 #[.agg l3.toArray] H1 fun x9=>BIf (x8 !=x9) (K (.int .i64 19) H1) (LeI H1 ((⟨b1,0,none⟩:Addr).add 2) fun x10=>BIf (decide (x10<0)) (K (.int .i64 18) H1) (LeI H1 ((⟨b1,0,none⟩:Addr).add 2) fun x11=>BIf (decide (x11>1)) (K (.int .i64 18) H1) (LeI H1 ((⟨b1,0,none⟩:Addr).add 3) fun x12=>BIf (decide (x12<(-1))) (K (.int .i64 2) H1) (LeI H1 ((⟨b1,0,none⟩:Addr).add 3) fun x13=>BIf (decide (x13>32)) (K (.int .i64 2) H1) (K (.int .i64 0) H1))))))))))
theorem fZK.ok (p1:Option Addr)(p2:Option Addr)(x1:Int)(x2:Int)(x3:Int)(x4:Int)(x5:Int)(p3:Option Addr)(H:Hp)(K:Value→Hp→Prop)(h:fZK p1 p2 x1 x2 x3 x4 x5 p3 H K):Zc prog 173 #[.pointer p1,.pointer p2,.agg #[.int .i64 x1,.int .i64 x2,.int .i64 x3,.int .i64 x4,.int .u64 x5],.pointer p3] H K:=
 Zq Tryz.func173 rfl (nbl rfl) (Zf (Λ:=Zn.none (fun _=>none)) dZG _ _ _ _ _ (Eq.mp (by kernel_rfl) h) (Zs _ _ _ _ _))
def aZT.l4 (K:Value→Hp→Prop):Nat→Int→Int→Addr→Int→Hp→Prop
 |0,_,_,_,_,_=>False
 |k+1,x7,x8,a1,x9,H=>
  let R4:=aZT.l4 K k
  LeI H (a1.add 0) fun x10=>BIf (decide ((IntKind.i64.wrap (2*x9))≤x10)) (LeI H (a1.add 1) fun x11=>(x11≠0∧IntKind.i64=IntKind.i64∧BIf (decide ((IntKind.i64.wrap ((IntKind.i64.wrap (2*x9))+1))≤(IntKind.i64.wrap (Int.tdiv (IntKind.i64.wrap (x8-x7)) x11)))) (R4 x7 x8 a1 (IntKind.i64.wrap (x9*2)) H) (K (.tuple #[.int .i64 x9,.bool true]) H))) (K (.tuple #[.int .i64 x9,.bool true]) H)
def aZT (x1:Int)(x2:Int)(x3:Int)(x4:Int)(H:Hp)(K:Value→Hp→Prop):Prop:=
 Nw H (.obj (.cells #[.int .i64 x1,.int .i64 x2] 118)) fun b1 H1=>LdA H1 ⟨b1,0,none⟩ 2 fun l1=>HcB 168 #[.agg l1.toArray] H1 fun c1 H2=>BIf (!c1) (K (.tuple #[.int .i64 0,.bool false]) H2) (LeI H2 ((⟨b1,0,none⟩:Addr).add 1) fun x5=>BIf (decide (x5>1048576)) (K (.tuple #[.int .i64 0,.bool false]) H2) (BIf (decide (x3<4)) (K (.tuple #[.int .i64 0,.bool false]) H2) (BIf (decide (x3>512)) (K (.tuple #[.int .i64 0,.bool false]) H2) (BIf ((aZC .i64 x3 (IntKind.i64.wrap (x3-1))) !=0) (K (.tuple #[.int .i64 0,.bool false]) H2) (BIf (decide (x4<x3)) (K (.tuple #[.int .i64 0,.bool false]) H2) (LeI H2 ((⟨b1,0,none⟩:Addr).add 1) fun x6=>BIf (decide ((IntKind.i64.wrap (x4-x3))<(IntKind.i64.wrap (2*x6)))) (K (.tuple #[.int .i64 0,.bool false]) H2) ((∃ k,aZT.l4 K k x3 x4 ⟨b1,0,none⟩ 1 H2))))))))
def aZT.l4.L (K:Value→Hp→Prop)(k:Nat):Mid:=fun E D H=>
 eI E 1 .i64 fun x7=>eI E 2 .i64 fun x8=>eN E 3 fun a1=>eI E 6 .i64 fun x9=>Zt D (aZT.l4 K k x7 x8 a1 x9 H)
def aZT.Λ4 (_:Value→Hp→Prop)(_R4:Int→Int→Addr→Int→Hp→Prop):Zn:=Zn.none (fun _=>none)
def aZT.Λ (K:Value→Hp→Prop):Zn:=⟨fun i=>none,fun i=>match Nat.beq i 4 with|true=>some (fun E D H=>∃ k,aZT.l4.L K k E D H)|false=>none,(fun _=>none)⟩
theorem aZT.ok (x1:Int)(x2:Int)(x3:Int)(x4:Int)(H:Hp)(K:Value→Hp→Prop)(h:aZT x1 x2 x3 x4 H K):Zc prog 174 #[.agg #[.int .i64 x1,.int .i64 x2],.int .i64 x3,.int .i64 x4] H K:=
 Zq Tryz.func174 rfl (nbl rfl) (Zf (Λ:=(aZT.Λ K)) dZG _ _ _ _ _ (Eq.mp (by kernel_rfl) h) (Zb Za rfl (Zb (Zb Za rfl (Zj (Zb Za rfl Zy) Zk)) rfl (Zb Za rfl (Zb (Zu (aZc rfl (fun E D H h=>by
   refine Safe.loop' (aZT.l4.L K) (fun E D H h=>?_) (fun k E D H h=>?_) E D H h
   ·obtain⟨w1,e1,g1⟩:=DG.out h;obtain⟨x7,rfl,g2⟩:=DI.out g1;obtain⟨w2,e2,g3⟩:=DG.out g2;obtain⟨x8,rfl,g4⟩:=DI.out g3;obtain⟨w3,e3,g5⟩:=DG.out g4;obtain⟨pw3,rfl,g6⟩:=DP.out g5;obtain⟨a1,rfl,g7⟩:=NN.out g6;obtain⟨w6,e6,g8⟩:=DG.out g7;obtain⟨x9,rfl,g9⟩:=DI.out g8;obtain⟨rfl,h'⟩:=Zt.out g9;exact h'
   ·obtain⟨x7,e1,g2⟩:=GI h;obtain⟨x8,e2,g4⟩:=GI g2;obtain⟨a1,e3,g7⟩:=GN g4;obtain⟨x9,e6,g9⟩:=GI g7;obtain⟨rfl,h'⟩:=Zt.out g9;exact(Zf (Λ:=(aZT.Λ4 K (aZT.l4 K k))) dZG _ _ [(1,.int .i64 x7),(2,.int .i64 x8),(3,.pointer (some a1)),(6,.int .i64 x9)] [] H (Eq.mp (by kernel_rfl) h') (Zb (Zb Za rfl (Zj Zk ZT)) rfl (Zu Za))).weaken (Ze.cons e1 (Ze.cons e2 (Ze.cons e3 (Ze.cons e6 (Ze.nil _))))) (Hp.le_refl _)))) rfl (Zb Za rfl Zy))))))
def aZv.l6 (K:Value→Hp→Prop):Nat→Option Addr→Option Addr→Option Addr→Nat→Nat→Int→Int→Int→Hp→Prop
 |0,_,_,_,_,_,_,_,_,_=>False
 |k+1,p4,p5,A2,n2,m2,x4,x5,x6,H=>
  let R6:=aZv.l6 K k
  BIf (decide (x6<(n2:Int))) (slB n2 m2 (some x6) (some (IntKind.i64.wrap (x6+x5))) fun n3 n4=>(x5≠0∧IntKind.i64=IntKind.i64∧Hz 212 #[.pointer p4,.slice (slA A2 m2 n3 1) (n4-n3) (m2-n3),.int .i64 (IntKind.i64.wrap (x4+(IntKind.i64.wrap (Int.tdiv x6 x5))))] H fun v3 H2=>R6 p4 p5 A2 n2 m2 x4 x5 (IntKind.i64.wrap (x6+x5)) H2)) (NN p4 fun a2=>Hz 124 #[.pointer (some (a2.add 0)),.slice A2 n2 m2] H fun v4 H3=>HcI 97 #[.pointer p5,.int .i64 (IntKind.i64.wrap (x4*x5)),.slice A2 n2 m2] H3 fun x7 H4=>K (.int .i64 x7) H4)
def aZv (p1:Option Addr)(p2:Option Addr)(p3:Option Addr)(A1:Option Addr)(n1:Nat)(m1:Nat)(x1:Int)(H:Hp)(K:Value→Hp→Prop):Prop:=
 NN p1 fun a1=>LeI H (((a1.add 2).add 0).add 1) fun x2=>HcI 81 #[.pointer p2,.int .i64 (IntKind.i64.wrap (x1*x2)),.slice A1 n1 m1] H fun x3 H1=>BIf (x3 !=0) (K (.int .i64 x3) H1) ((∃ k,aZv.l6 K k p1 p3 A1 n1 m1 x1 x2 0 H1))
def aZv.l6.L (K:Value→Hp→Prop)(k:Nat):Mid:=fun E D H=>
 eP E 0 fun p4=>eP E 2 fun p5=>DG (E.get? 3) fun w3=>DSl w3 fun A2 n2 m2=>eI E 4 .i64 fun x4=>eI E 11 .i64 fun x5=>eI E 13 .i64 fun x6=>Zt D (aZv.l6 K k p4 p5 A2 n2 m2 x4 x5 x6 H)
def aZv.Λ6 (_:Value→Hp→Prop)(_R6:Option Addr→Option Addr→Option Addr→Nat→Nat→Int→Int→Int→Hp→Prop):Zn:=Zn.none (fun i=>match Nat.beq i 8 with|true=>some ([],[0,1,2,3,4,5,6,7,8,9,10,11],12)|false=>none)
def aZv.Λ (K:Value→Hp→Prop):Zn:=⟨fun i=>none,fun i=>match Nat.beq i 6 with|true=>some (fun E D H=>∃ k,aZv.l6.L K k E D H)|false=>none,(fun i=>match Nat.beq i 8 with|true=>some ([],[0,1,2,3,4,5,6,7,8,9,10,11],12)|false=>none)⟩
theorem aZv.ok (p1:Option Addr)(p2:Option Addr)(p3:Option Addr)(A1:Option Addr)(n1:Nat)(m1:Nat)(x1:Int)(H:Hp)(K:Value→Hp→Prop)(h:aZv p1 p2 p3 A1 n1 m1 x1 H K):Zc prog 177 #[.pointer p1,.pointer p2,.pointer p3,.slice A1 n1 m1,.int .i64 x1] H K:=
 Zq Tryz.func177 rfl (nbl rfl) (Zf (Λ:=(aZv.Λ K)) dZG _ _ _ _ _ (Eq.mp (by kernel_rfl) h) (Zb Za rfl (Zb Za rfl (Zb (Zb Za rfl (Zb Za rfl (Zj (Zb Za rfl Zy) Zk))) rfl (Zb (Zb Za rfl (Zu (aZc rfl (fun E D H h=>by
   refine Safe.loop' (aZv.l6.L K) (fun E D H h=>?_) (fun k E D H h=>?_) E D H h
   ·obtain⟨w0,e0,g1⟩:=DG.out h;obtain⟨p4,rfl,g2⟩:=DP.out g1;obtain⟨w2,e2,g3⟩:=DG.out g2;obtain⟨p5,rfl,g4⟩:=DP.out g3;obtain⟨w3,e3,g5⟩:=DG.out g4;obtain⟨A2,n2,m2,rfl,g6⟩:=DSl.out g5;obtain⟨w4,e4,g7⟩:=DG.out g6;obtain⟨x4,rfl,g8⟩:=DI.out g7;obtain⟨w11,e11,g9⟩:=DG.out g8;obtain⟨x5,rfl,g10⟩:=DI.out g9;obtain⟨w13,e13,g11⟩:=DG.out g10;obtain⟨x6,rfl,g12⟩:=DI.out g11;obtain⟨rfl,h'⟩:=Zt.out g12;exact h'
   ·obtain⟨p4,e0,g2⟩:=GP h;obtain⟨p5,e2,g4⟩:=GP g2;obtain⟨w3,e3,g5⟩:=DG.out g4;obtain⟨A2,n2,m2,rfl,g6⟩:=DSl.out g5;obtain⟨x4,e4,g8⟩:=GI g6;obtain⟨x5,e11,g10⟩:=GI g8;obtain⟨x6,e13,g12⟩:=GI g10;obtain⟨rfl,h'⟩:=Zt.out g12;exact(Zf (Λ:=(aZv.Λ6 K (aZv.l6 K k))) dZG _ _ [(0,.pointer p4),(2,.pointer p5),(3,.slice A2 n2 m2),(4,.int .i64 x4),(11,.int .i64 x5),(13,.int .i64 x6)] [] H (Eq.mp (by kernel_rfl) h') (Zb (Zb Za rfl (Zj Zk ZT)) rfl (Zb (Zu Za) rfl Za))).weaken (Ze.cons e0 (Ze.cons e2 (Ze.cons e3 (Ze.cons e4 (Ze.cons e11 (Ze.cons e13 (Ze.nil _))))))) (Hp.le_refl _))))) rfl (Zb Za rfl (Zb Za rfl Zy)))))))
def aZH.j4 (K:Value→Hp→Prop)(p3:Option Addr)(A4:Option Addr)(n4:Nat)(m4:Nat)(H:Hp):Prop:=
 NN p3 fun a6=>LeW H ((a6.add 2).add 4) fun x13=>HcS 236 #[.slice A4 n4 m4,.int .u64 x13] H fun A5 n5 m5 H6=>CpK prog 84 (.slice A4 n4 m4) (.slice A5 n5 m5) H6 fun v19 H7=>DI .i64 v19 fun x14=>K (.tuple #[]) H7
def aZH.q1 (A1:Option Addr)(n1:Nat)(m1:Nat)(x1:Int)(x5:Int)(x6:Int)(H1:Hp)(K:Value→Hp→Prop)(p1:Option Addr):Prop:=
 Hz 235 #[.slice A1 n1 m1,.agg #[.int .i64 1,.int .i64 (n1:Int),.int .i64 x1,.int .i64 0],.int .i64 x5,.int .i64 x6] H1 fun v7 H2=>dZF v7 fun A2 n2 m2 x7=>(CpK prog 84 (.slice A1 n1 m1) (.slice A2 n2 m2) H2 fun v15 H4=>DI .i64 v15 fun x11=>aZH.j4 K p1 A1 n1 m1 H4)
def aZH (p1:Option Addr)(A1:Option Addr)(n1:Nat)(m1:Nat)(x1:Int)(H:Hp)(K:Value→Hp→Prop):Prop:=
 NN p1 fun a1=>LeP H (a1.add 7) fun p2=>NN p1 fun a2=>LeI H ((a2.add 2).add 2) fun x2=>HcI 234 #[.pointer p2,.slice A1 n1 m1,.int .i64 x2] H fun x3 H1=>NN p1 fun a3=>LeI H1 ((a3.add 2).add 3) fun x4=>BIf (decide (x4≥0)) (NN p1 fun a4=>NN p1 fun a5=>(LeI H1 ((a4.add 2).add 3) fun x5=>LeI H1 ((a5.add 2).add 2) fun x6=>aZH.q1 A1 n1 m1 x1 x5 x6 H1 K p1)∧(LeI H1 ((a5.add 2).add 2) fun x8=>LeI H1 ((a4.add 2).add 3) fun x9=>aZH.q1 A1 n1 m1 x1 x9 x8 H1 K p1)) (aZH.j4 K p1 A1 n1 m1 H1)
def aZH.Λ (K:Value→Hp→Prop):Zn:=⟨fun i=>match Nat.beq i 4 with|true=>some (fun E D H=>eP E 0 fun p3=>DG (E.get? 1) fun w1=>DSl w1 fun A4 n4 m4=>Zt D (aZH.j4 K p3 A4 n4 m4 H))|false=>none,fun i=>none,(fun i=>match Nat.beq i 2 with|true=>some ([],[0,0,2,6,0,30,0,64,192,448,960,0,2048,6144,14336,30720,65535,131071,262143,262143,524287,2097151],0)|false=>match Nat.beq i 0 with|true=>some ([],[0,1,2,3,4,5,6,7,8,9],10)|false=>none)⟩
theorem aZH.ok (p1:Option Addr)(A1:Option Addr)(n1:Nat)(m1:Nat)(x1:Int)(H:Hp)(K:Value→Hp→Prop)(h:aZH p1 A1 n1 m1 x1 H K):Zc prog 212 #[.pointer p1,.slice A1 n1 m1,.int .i64 x1] H K:=
 Zq Tryz.func212 rfl (nbl rfl) (Zf (Λ:=(aZH.Λ K)) dZG _ _ _ _ _ (Eq.mp (by kernel_rfl) h) (Zb Za rfl (aZL (Zb Za rfl (Zj (Zb Za rfl Za) Zk)) rfl (fun E D H h=>by
   obtain⟨p3,e0,g2⟩:=GP h;obtain⟨w1,e1,g3⟩:=DG.out g2;obtain⟨A4,n4,m4,rfl,g4⟩:=DSl.out g3;obtain⟨rfl,h'⟩:=Zt.out g4;exact(Zf (Λ:=(aZH.Λ K)) dZG _ _ [(0,.pointer p3),(1,.slice A4 n4 m4)] [] H (Eq.mp (by kernel_rfl) h') Za).weaken (Ze.cons e0 (Ze.cons e1 (Ze.nil _))) (Hp.le_refl _)))))
end W
namespace Pas
open Go Go.Hw W Shp Gol Fft Ker
structure J where
 ea:Nat
 eb:Nat
 d:Bool
 tw:Int
 sh:UInt64
def J.a (j:J):Array Value:=#[.int .i64 ((2^j.ea:Nat):Int),.int .i64 ((2^j.eb:Nat):Int),.int .i64 (if j.d=true then 1 else 0),.int .i64 j.tw,.int .u64 (j.sh.toNat:Int)]
def tZt (j:J)(kp:Nat):List Value:=[.int .i64 ((2^j.ea:Nat):Int),.int .i64 ((2^j.eb:Nat):Int),.int .i64 (if j.d=true then 1 else 0),.int .i64 j.tw,.int .u64 (j.sh.toNat:Int),.pointer (some ⟨kp,0,none⟩)]
def cZd (s:Crc.W32)(k:Nat)(j:J)(kp:Nat):AO:=.obj (.cells (CrcP.iZB s k (tZt j kp)) 271)
def twL (j:J)(r:Nat)(l:List UInt64):List UInt64:=if 0≤j.tw then jZQ (pw (rtd j.d j.tw.toNat) r) l else l
def dZ2 (j:J)(r:Nat)(l:List UInt64):List UInt64:=eZJ (zw j.sh) (twL j r (eZr j.d j.eb l))
theorem vZl (j:J)(r:Nat)(l:List UInt64):(twL j r l).length=l.length:=by
 unfold twL;split
 ·exact jZt _ _
 ·rfl
theorem hZz (j:J)(r:Nat)(l:List UInt64):(dZ2 j r l).length=2^j.eb:=by unfold dZ2;rw[hZA,vZl,iZC]
theorem qZt {xs us bs:List Value}{off:Nat}(h:off+us.length≤xs.length)(hl:bs.length=us.length):setAt (setAt xs off us) off bs=setAt xs off bs:=by
 apply List.ext_getElem?;intro i;rw[bZT (by rw[cZK h];omega),bZT h,bZT (by omega)];by_cases h1:i<off
 ·rw[if_pos h1,if_pos h1,if_pos h1]
 ·rw[if_neg h1,if_neg h1,if_neg h1];by_cases h2:i<off+bs.length
  ·rw[if_pos h2,if_pos h2]
  ·rw[if_neg h2,if_neg h2,if_neg (by omega)]
theorem tZk (ws:List UInt64):∀ y∈Zd ws,y.oneCell'=true:=fun y hy=>by
 unfold Zd at hy;obtain⟨w,_,rfl⟩:=List.mem_map.1 hy;rfl
theorem rZS {e:TypeId}{A:Option Addr}{n m:Nat}{ws:List UInt64}{H:Hp}(h:Own e 1 A n m (Zd ws) H):Cells H A (Zd ws):=by
 obtain⟨h1,h2⟩:=h;rcases h2 with⟨rfl,rfl,rfl⟩|⟨b,mm,rfl,h4,_⟩
 ·rw[Nat.zero_mul]at h1;rw[List.length_eq_zero_iff.1 h1];exact Cells.nil _ _
 ·have:=Cells.row h4 0 (Zd ws).length;rw[List.drop_zero,List.take_of_length_le (Nat.le_refl _)]at this;exact this
section
variable {TT : As} {kp b off mm n m rn r : Nat} {s : Crc.W32} {sk : Nat} {j : J} {l : List UInt64} {xs : List Value} {e : TypeId}
theorem nZ8 {H:Hp}{L:List As}{i:Nat}(hs:Sep L H){ws us:List UInt64}(hi:L[i]? =some (pts b (.row (setAt xs off (Zd ws)) e mm)))(hw:ws.length=n)(hu:us.length=n)(hx:off+n≤xs.length){A:Option Addr}{m':Nat}(hc:Cells H A (Zd us)){K:Value→Hp→Prop}
  (kk:∀ H',Sep (L.set i (pts b (.row (setAt xs off (Zd us)) e mm))) H'→K (.int .i64 (n:Int)) H'):CpK prog 84 (.slice (some ⟨b,off,none⟩) n m) (.slice A n m') H K:=by
 refine hs.cp i (k:=n) (n:=n) (c:=m) (x:=.slice A n m') (ys:=Zd us) hi cZa rfl (by rw[show Nat.min n n=n from Nat.min_self n];exact jZp hc (by rw[Zz,hu])) (by rw[iZm (by omega),Zz,hu];exact hx) (tZk us) fun H' hs'=>?_
 rw[qZt (by rw[Zz];omega) (by rw[Zz,Zz,hu,hw])]at hs';rw[show Nat.min n n=n from Nat.min_self n];exact kk H' hs'
theorem vZt (hn:n=2^j.eb)(hb:j.eb≤20)(hx:off+n≤xs.length){ws:List UInt64}(hw:ws.length=n){L:List As}(K:Value→Hp→Prop)
  (hK:∀ H,Sep (pts rn (cZd s sk j kp)::pts b (.row (setAt xs off (Zd (eZJ (zw j.sh) ws))) e mm)::L) H→K (.tuple #[]) H) {H:Hp} (hs:Sep (pts rn (cZd s sk j kp)::pts b (.row (setAt xs off (Zd ws)) e mm)::L) H):
  aZH.j4 K (some ⟨rn,0,none⟩) (some ⟨b,off,none⟩) n m H:=by
 have h20:=aZY hb;unfold aZH.j4;simp only[aZ2];refine hs.ldg 0 rfl rfl ?_;simp only[HV];refine(sZP (n:=n) (m:=m) (R:=pts b (.row (setAt xs off (Zd ws)) e mm)) j.sh (fun H h=>jZl h (by omega)) hw (by omega)).use hs [1] rfl rfl ?_;rintro _ _ H ⟨r1,rfl,rfl⟩ hs;have hs:Sep (pts r1 (.row (Zd (eZJ (zw j.sh) ws)) 84 (n*1))::pts b (.row (setAt xs off (Zd ws)) e mm)::pts rn (cZd s sk j kp)::L) H:=by
  have:rest (pts rn (cZd s sk j kp)::pts b (.row (setAt xs off (Zd ws)) e mm)::L) [1]=pts rn (cZd s sk j kp)::L:=by
   have key:∀(L:List As) k,2≤k→rest.go [1] k L=L:=by
    intro L
    induction L with
    |nil=>intro k _;rfl
    |cons A L ih=>
     intro k hk;unfold rest.go;have:([1]:List Nat).contains k=false:=by simp;omega
     rw[this,ih (k+1) (by omega)]
   show pts rn (cZd s sk j kp)::rest.go [1] 2 L=_
   rw[key L 2 (Nat.le_refl _)]
  rw[this]at hs;exact hs
 simp only[HV];have hc:Cells H (some ⟨r1,0,none⟩) (Zd (eZJ (zw j.sh) ws)):=by
  have:=Cells.row (hs.get 0 rfl) 0 n;rw[List.drop_zero,List.take_of_length_le (by rw[Zz,hZA];omega)]at this;exact this
 refine nZ8 (m':=n) hs (i:=1) rfl hw (by rw[hZA];exact hw) hx hc fun H hs=>?_;simp only[HV];refine hK H ?_;have hs:=hs.tail;exact hs.swap
theorem vZu (hT:∀ H,TT H→T64 H)(hn:n=2^j.eb)(hb:j.eb≤20)(htw:j.tw≤32)(hr:r≤4294967295)(hl:l.length=n)(hm:n≤m)(hx:off+n≤xs.length)(hseg:setAt xs off (Zd l)=xs):
  Tr prog 212 #[.pointer (some ⟨rn,0,none⟩),.slice (some ⟨b,off,none⟩) n m,.int .i64 (r:Int)] [pts rn (cZd s sk j kp),pts b (.row xs e mm),Kn kp j.eb,TT] fun v M=>
   v= .tuple #[]∧M=[pts rn (cZd s sk j kp),pts b (.row (setAt xs off (Zd (dZ2 j r l))) e mm),Kn kp j.eb,TT]:=fun H hs=>by
 have h20:=aZY hb;apply aZH.ok;unfold aZH aZH.q1;simp only[aZ2];refine hs.ldf 0 rfl rfl ?_;simp only[HV];refine hs.ldg 0 rfl rfl ?_;simp only[HV];refine(sZM (kp:=kp) (m:=m) (mm:=mm) (e:=e) hT hb hn hl hx hseg j.d).use hs [1,2,3] rfl rfl ?_;rintro _ _ H ⟨rfl,rfl⟩ hs;simp only[HV];have hs:Sep [pts b (.row (setAt xs off (Zd (eZr j.d j.eb l))) e mm),Kn kp j.eb,TT,pts rn (cZd s sk j kp)] H:=hs;refine hs.ldg 3 rfl rfl ?_;simp only[HV];have hdl:(eZr j.d j.eb l).length=n:=by rw[iZC,hn]
 have fin:∀{ws:List UInt64} {H:Hp},ws.length=n→twL j r (eZr j.d j.eb l)=ws→Sep [pts b (.row (setAt xs off (Zd ws)) e mm),Kn kp j.eb,TT,pts rn (cZd s sk j kp)] H→
   aZH.j4 (fun v H'=>∃ M,(v= .tuple #[]∧M=[pts rn (cZd s sk j kp),pts b (.row (setAt xs off (Zd (dZ2 j r l))) e mm),Kn kp j.eb,TT])∧Sep M H') (some ⟨rn,0,none⟩) (some ⟨b,off,none⟩) n m H:=fun{ws} {H} hw he hs=>by
  refine vZt (s:=s) (sk:=sk) (kp:=kp) (mm:=mm) (e:=e) (L:=[Kn kp j.eb,TT]) hn hb hx hw _ (fun H hs=>⟨_,⟨rfl,rfl⟩,?_⟩) (hs.re [3,0,1,2] rfl);unfold dZ2;rw[he];exact hs
 by_cases ht:0≤j.tw
 ·refine Zv ht ?_;obtain⟨t,ht'⟩:=Int.eq_ofNat_of_zero_le ht;have hz:pw (rtd j.d j.tw.toNat) r=pw (rtd j.d t) r:=by rw[ht',Int.toNat_natCast]
  refine⟨?_,?_⟩
  all_goals
   refine hs.ldg 3 rfl rfl ?_;simp only[HV];refine hs.ldg 3 rfl rfl ?_;simp only[HV];rw[ht'];refine(uZu (n:=n) (m:=m) (k:=t) (r:=r) (l:=eZr j.d j.eb l) (R:=pts b (.row (setAt xs off (Zd (eZr j.d j.eb l))) e mm)) hT (fun H h=>jZl h (by omega)) hn hb hdl hm (by omega) hr j.d).use hs [0,2] rfl rfl ?_;rintro _ _ H ⟨A',m',rfl,rfl⟩ hs;simp only[HV];refine nZ8 (m':=m') hs (i:=1) rfl hdl (by rw[jZt];exact hdl) hx (rZS (hs.own 0 rfl)) fun H hs=>?_;simp only[HV];exact fin (by rw[jZt];exact hdl) (by unfold twL;rw[if_pos ht,hz]) (hs.re [1,3,2,4] rfl)
 ·exact Zl ht (fin hdl (by unfold twL;rw[if_neg ht]) hs)
end
end Pas
namespace Pas
open Go Go.Hw Go.Crc Go.Form W Shp Gol Fft Ker Str Dsk Are Trn
def eZ4 (j:J)(r:Nat)(ws:List UInt64)(i:Nat):List UInt64:=(List.range i).flatMap fun q=>dZ2 j (r+q) ((ws.drop (q*2^j.eb)).take (2^j.eb))
def eZ5 (j:J)(r:Nat)(ws:List UInt64)(i:Nat):List UInt64:=eZ4 j r ws i++ws.drop (i*2^j.eb)
theorem hZp (j:J)(r:Nat)(ws:List UInt64):∀ i,(eZ4 j r ws i).length=i*2^j.eb
 |0=>by simp[eZ4]
 |i+1=>by
  unfold eZ4;rw[List.range_succ,List.flatMap_append,List.length_append];have:=hZp j r ws i;unfold eZ4 at this;rw[this,Nat.succ_mul];simp[hZz]
theorem rZb (j:J)(r:Nat)(ws:List UInt64)(i:Nat):eZ4 j r ws (i+1)=eZ4 j r ws i++dZ2 j (r+i) ((ws.drop (i*2^j.eb)).take (2^j.eb)):=by
 unfold eZ4;rw[List.range_succ,List.flatMap_append];simp
theorem sZW {j:J}{r:Nat}{ws:List UInt64}{i nb:Nat}(hw:ws.length=nb*2^j.eb)(hi:i≤nb):(eZ5 j r ws i).length=nb*2^j.eb:=by
 unfold eZ5;have:i*2^j.eb≤nb*2^j.eb:=Nat.mul_le_mul_right _ hi;rw[List.length_append,hZp,List.length_drop];omega
theorem rZc (j:J)(r:Nat)(ws:List UInt64):eZ5 j r ws 0=ws:=by simp[eZ5,eZ4]
theorem pZx (a b c:List UInt64):dZ3 (a++b) a.length c=a++c++b.drop c.length:=by
 unfold dZ3;rw[List.take_left,←List.drop_drop,List.drop_left]
section
variable {TT : As} {kp rn p q dp ap bb mb : Nat} {s : W32} {sk : Nat} {j : J} {x y : X} {cap peak : Int} {bufs : List (Nat × Nat × Option Addr)}
theorem kZT (K:Value→Hp→Prop)(hT:∀ H,TT H→T64 H)(hb:j.eb≤20)(htw:j.tw≤32){nb r:Nat}(hr:r+nb≤4294967296)(hsz:nb*2^j.eb≤4294967296){ws:List UInt64}(hw:ws.length=nb*2^j.eb){L:List As}{n:Nat}(hn:n=nb*2^j.eb)
  (hK:∀ H,Sep (pts rn (cZd s sk j kp)::pts bb (.row (Zd (eZ4 j r ws nb)) 84 mb)::Kn kp j.eb::TT::L) H→aZv.l6 K 1 (some ⟨rn,0,none⟩) (some ⟨q,0,none⟩) (some ⟨bb,0,none⟩) n n (r:Int) ((2^j.eb:Nat):Int) (n:Int) H):
  ∀(t i:Nat) (z:Int) (H:Hp),z=((i*2^j.eb:Nat):Int)→i+t=nb→Sep (pts rn (cZd s sk j kp)::pts bb (.row (Zd (eZ5 j r ws i)) 84 mb)::Kn kp j.eb::TT::L) H→
   aZv.l6 K (t+1) (some ⟨rn,0,none⟩) (some ⟨q,0,none⟩) (some ⟨bb,0,none⟩) n n (r:Int) ((2^j.eb:Nat):Int) z H
 |0,i,_,H,rfl,hi,hs=>by
  obtain rfl:i=nb:=by omega
  rw[← hn];refine hK H ?_;unfold eZ5 at hs;rw[List.drop_eq_nil_of_le (by omega),List.append_nil]at hs;exact hs
 |t+1,i,_,H,rfl,hi,hs=>by
  have hc1:=pow_pos j.eb;have hse:(i+1)*2^j.eb=i*2^j.eb+2^j.eb:=Nat.succ_mul _ _;have h20:=aZY hb;have hi1:(i+1)*2^j.eb≤nb*2^j.eb:=Nat.mul_le_mul_right _ (by omega);have hi1':=hi1;rw[Nat.succ_mul]at hi1;unfold aZv.l6;refine Zv (by omega) ?_;rw[show IntKind.i64.wrap (((i*2^j.eb:Nat):Int)+((2^j.eb:Nat):Int))=(((i+1)*2^j.eb:Nat):Int) by rw[Nat.succ_mul,←Int.natCast_add,bZh (by omega)]];refine⟨by omega,by omega,by omega,by omega,?_⟩;rw[Int.toNat_natCast,Int.toNat_natCast];refine⟨by omega,by simp,?_⟩;rw[show Int.tdiv ((i*2^j.eb:Nat):Int) ((2^j.eb:Nat):Int)=((i*2^j.eb/2^j.eb:Nat):Int)from rfl,Nat.mul_div_cancel _ (by omega),bZh (n:=i) (by omega),←Int.natCast_add,bZh (n:=r+i) (by omega),
   lZt (by omega),show(i+1)*2^j.eb-i*2^j.eb=2^j.eb by rw[Nat.succ_mul];omega,Nat.zero_add]
  have hA:=hZp j r ws i;have hlen:=sZW (j:=j) (r:=r) hw (show i≤nb by omega);have hseg:setAt (Zd (eZ5 j r ws i)) (i*2^j.eb) (Zd ((ws.drop (i*2^j.eb)).take (2^j.eb)))=Zd (eZ5 j r ws i):=by
   rw[jZn];unfold eZ5;rw[← hA,pZx,hA,List.append_assoc];congr 2;rw[List.length_take,List.length_drop,Nat.min_eq_left (by omega)];exact List.take_append_drop _ _
  have hsl:((ws.drop (i*2^j.eb)).take (2^j.eb)).length=2^j.eb:=by rw[List.length_take,List.length_drop];omega
  have ht:=vZu (rn:=rn) (kp:=kp) (b:=bb) (off:=i*2^j.eb) (mm:=mb) (n:=2^j.eb) (m:=n-i*2^j.eb) (r:=r+i) (s:=s) (sk:=sk) (j:=j) (l:=(ws.drop (i*2^j.eb)).take (2^j.eb)) (xs:=Zd (eZ5 j r ws i)) (e:=84) hT rfl hb htw (by omega) hsl (by omega) (by rw[Zz,hlen];omega) hseg;have e0:sel (pts rn (cZd s sk j kp)::pts bb (.row (Zd (eZ5 j r ws i)) 84 mb)::Kn kp j.eb::TT::L) [0,1,2,3]=[pts rn (cZd s sk j kp),pts bb (.row (Zd (eZ5 j r ws i)) 84 mb),Kn kp j.eb,TT]:=rfl;refine ht.use hs [0,1,2,3] e0 rfl ?_;rintro _ _ H ⟨rfl,rfl⟩ hs;have erest:rest (pts rn (cZd s sk j kp)::pts bb (.row (Zd (eZ5 j r ws i)) 84 mb)::Kn kp j.eb::TT::L) [0,1,2,3]=L:=by
   have key:∀(L:List As) k,4≤k→rest.go [0,1,2,3] k L=L:=by
    intro L
    induction L with
    |nil=>intro k _;rfl
    |cons A L ih=>
     intro k hk;unfold rest.go;have:([0,1,2,3]:List Nat).contains k=false:=by simp;omega
     rw[this,ih (k+1) (by omega)]
   exact key L 4 (Nat.le_refl _)
  rw[erest]at hs;have hstep:setAt (Zd (eZ5 j r ws i)) (i*2^j.eb) (Zd (dZ2 j (r+i) ((ws.drop (i*2^j.eb)).take (2^j.eb))))=Zd (eZ5 j r ws (i+1)):=by
   rw[jZn];unfold eZ5;rw[← hA,pZx,hA,rZb,hZz,List.drop_drop,Nat.succ_mul]
  rw[hstep]at hs;exact kZT K hT hb htw hr hsz hw hn hK t (i+1) _ H rfl (by omega) hs
def vZT (rn p q dp ap kp bb:Nat)(s:W32)(sk:Nat)(j:J)(d:D)(x y:X)(r nb:Nat)(cap peak:Int)(bufs:List (Nat×Nat×Option Addr))(mb:Nat)(TT:As)(v:Value)(M:List As):Prop:=
 let n:=nb*2^j.eb
 let f:=r*2^j.eb
 let us:=eZ4 j r (pws d x f n) nb
 let t:=(pcs (D.per d) x.f n f n).length
 (Prog (inX y) d (dZ4 (D.rdG d t) y n f us) (t+dZl (D.per d) y.f n f n) (pcs (D.per d) y.f n f n).length∧v= .int .i64 0∧
  M=[pts rn (cZd (more s (form us)) (sk+8*n) j kp),pts bb (.row (Zd us) 84 mb),pts p (ZO dp ap x),pts q (ZO dp ap y),Dk dp (dZ4 (D.rdG d t) y n f us),Ar ap cap (mx peak (ZM bufs+D.per d)) bufs,Kn kp j.eb,TT])∨
 (∃ d',cZv (inX y) d d'∧d.fuse≤t+dZl (D.per d) y.f n f n+(pcs (D.per d) y.f n f n).length∧v= .int .i64 8∧
  M=[pts p (ZO dp ap x),pts q (ZO dp ap y),Dk dp d',Ar ap cap (mx peak (ZM bufs+D.per d)) bufs,TT])
set_option maxHeartbeats 1000000 in
theorem sZY {d:D}(hT:∀ H,TT H→T64 H)(hok:Ok d)(hl:d.down=false)(hx:On d x)(hy:On d y)(ho:d.rd≤4000000000000000000∧d.wr≤4000000000000000000)(hb:j.eb≤20)(htw:j.tw≤32){r nb:Nat}(hnb:1≤nb)(hr:r+nb≤4294967296)(hsz:nb*2^j.eb≤4294967296)
  (hfx:r*2^j.eb+nb*2^j.eb≤x.w) (hfy:r*2^j.eb+nb*2^j.eb≤y.w) (hxw:x.w≤4294967296) (hsk:sk≤1000000000000) (hcap:(D.per d:Int)≤cap-ZM bufs) (ws:List UInt64) (hws:ws.length=nb*2^j.eb):
  Tr prog 177 #[.pointer (some ⟨rn,0,none⟩),.pointer (some ⟨p,0,none⟩),.pointer (some ⟨q,0,none⟩),.slice (some ⟨bb,0,none⟩) (nb*2^j.eb) (nb*2^j.eb),.int .i64 (r:Int)]
   [pts rn (cZd s sk j kp),pts bb (.row (Zd ws) 84 mb),pts p (ZO dp ap x),pts q (ZO dp ap y),Dk dp d,Ar ap cap peak bufs,Kn kp j.eb,TT] (vZT rn p q dp ap kp bb s sk j d x y r nb cap peak bufs mb TT):=fun H hs=>by
 have hp:=Ok.per_le hok;have hc1:=pow_pos j.eb;have hn1:1*1≤nb*2^j.eb:=Nat.mul_le_mul hnb hc1;have hpl:=dZc (D.per d) x.f (nb*2^j.eb) (r*2^j.eb) (nb*2^j.eb);apply aZv.ok;unfold aZv;simp only[aZ2];rw[show(((⟨rn,0,none⟩:Addr).add 2).add 0).add 1=⟨rn,3,none⟩ by rw[Addr.add_zero,Addr.add_lit',Addr.add_lit']];refine hs.ld 0 rfl rfl ?_;simp only[HV];rw[← Int.natCast_mul,bZh (by omega)];refine(kZf (p:=p) (dp:=dp) (ap:=ap) (d:=d) (x:=x) (cap:=cap) (peak:=peak) (bufs:=bufs) (rl:=bb) (off:=0) (mm:=mb) (el:=84) (xs:=Zd ws) hok hl hx (by omega) (r*2^j.eb) (nb*2^j.eb) (nb*2^j.eb) (by omega) hfx (Nat.le_refl _) (by rw[Zz];omega) hcap).use hs [2,4,5,1] rfl rfl ?_;rintro v M H (⟨hgo,rfl,rfl⟩|⟨i,xs',hi,hfi,_,rfl,rfl⟩) hs
 case inr=>
  simp only[HV];refine ZL (by decide) ⟨_,.inr ⟨_,(cZv.rdG (fun _=>False) hok hl hfi).mono fun _ h=>h.elim,by omega,rfl,rfl⟩,hs.re [0,5,1,2,7] rfl⟩
 simp only[HV];refine ZB rfl ?_;rw[gZQ (by rw[Zz,Zz,dZ1,hws])]at hs;have hpg:=Prog.rdG (inX y) hok hl hgo;generalize ht:(pcs (D.per d) x.f (nb*2^j.eb) (r*2^j.eb) (nb*2^j.eb)).length=t at*;have hper:D.per (D.rdG d t)=D.per d:=rfl;refine⟨nb+1,?_⟩;refine kZT (q:=q) (s:=s) (sk:=sk) (kp:=kp) (mb:=mb) (L:=[pts p (ZO dp ap x),Dk dp (D.rdG d t),Ar ap cap (mx peak (ZM bufs+D.per d)) bufs,pts q (ZO dp ap y)]) _ hT hb htw hr hsz (ws:=pws d x (r*2^j.eb) (nb*2^j.eb)) (dZ1 _ _ _ _) rfl (fun H hs=>?_) nb 0 0 H (by rw[Nat.zero_mul];rfl) (by omega) ?_
 ·generalize hus:eZ4 j r (pws d x (r*2^j.eb) (nb*2^j.eb)) nb=us at*;have hul:us.length=nb*2^j.eb:=by rw[← hus];exact hZp _ _ _ _
  have hcell:∀ H,pts bb (.row (Zd us) 84 mb) H→Cells H (some ⟨bb,0,none⟩) (Zd us):=fun H h=>by
   have:=Cells.row h 0 us.length
   rwa [List.drop_zero,List.take_of_length_le (by rw[Zz];exact Nat.le_refl _)]at this
  unfold aZv.l6;refine Zl (Int.lt_irrefl _) ?_;simp only[aZ2,Addr.add_zero];refine CrcP.jZT hs 0 rfl (some ⟨bb,0,none⟩) (nb*2^j.eb) (nb*2^j.eb) us hul.symm ?_ (by omega) (by omega) fun H hs=>?_
  ·obtain⟨H1,h1,hle⟩:=hs.see 1 rfl;exact(hcell H1 h1).le hle
  have hs:Sep [pts rn (cZd (more s (form us)) (sk+8*(nb*2^j.eb)) j kp),pts bb (.row (Zd us) 84 mb),Kn kp j.eb,TT,pts p (ZO dp ap x),Dk dp (D.rdG d t),Ar ap cap (mx peak (ZM bufs+D.per d)) bufs,pts q (ZO dp ap y)] H:=hs;rw[← Int.natCast_mul,bZh (by omega)];refine(iZZ (p:=q) (dp:=dp) (ap:=ap) (d:=D.rdG d t) (x:=y) (cap:=cap) (peak:=mx peak (ZM bufs+D.per d)) (bufs:=bufs) (R:=pts bb (.row (Zd us) 84 mb)) (A:=some ⟨bb,0,none⟩) (n:=nb*2^j.eb) (m:=nb*2^j.eb) (src:=us) hpg.ok hpg.down (hy.prog hpg) ⟨by show d.rd+t≤_;omega,by show d.wr≤_;omega⟩ (r*2^j.eb) hul.symm (by omega) hfy (Nat.le_refl _) hcap hcell).use hs [7,5,6,1] rfl rfl ?_;rintro v M H (⟨hpg2,rfl,rfl⟩|⟨d',hd,hfu,rfl,rfl⟩) hs
  ·simp only[HV];rw[hul,hper,lZf]at hs;rw[hul,hper]at hpg2;have hpg3:=hpg.trans hpg2;rw[Nat.zero_add]at hpg3;subst hus;subst ht;exact⟨_,.inl ⟨hpg3,rfl,rfl⟩,hs.re [4,3,7,0,1,2,5,6] rfl⟩
  ·simp only[HV];rw[hper,lZf]at hs;rw[hul,hper]at hfu;subst hus;subst ht;refine⟨_,.inr ⟨d',hpg.dead hd,?_,rfl,rfl⟩,hs.re [7,0,1,2,6] rfl⟩;have h1:=hpg.fuse;have h2:=hpg.go;omega
 ·rw[rZc];exact hs.re [4,3,6,7,0,1,2,5] rfl
end
end Pas
namespace Trn
open Go Go.Hw Go.Crc Go.Form W Shp Str Dsk Are
theorem cZy.unique {r c per free:Int}{j j':Nat}(hr:1≤r)(h:cZy r c per free j)(h':cZy r c per free j'):j=j':=by
 have key:∀{a b:Nat},cZy r c per free a→cZy r c per free b→¬a<b:=fun{a b} ha hb hlt=>by
  have hp:2^(a+1)≤2^b:=aZY hlt;rw[Nat.pow_succ]at hp;have hz:=pow_pos a;have h1:=hb.le;have h2:=hb.fit;rcases ha.most with e|e
  ·omega
  ·have h3:2*((2^a:Nat):Int)≤((2^b:Nat):Int):=by omega
   have:=Int.mul_le_mul_of_nonneg_right h3 (show 0≤r by omega);omega
 have h1:=key h h';have h2:=key h' h;omega
theorem uZk (r c per free:Int)(hper: -9223372036854775808≤per∧per≤9223372036854775807)(hf:free≤9223372036854775807)(H:Hp)(hT:T64 H)(hg:dZz r c=true)(hp:cZJ per=true)(h1:per≤free)(h2:r≤free-per){j:Nat}(hj:cZy r c per free j):
  Zc prog 170 #[.agg #[.int .i64 r,.int .i64 c],.int .i64 per,.int .i64 free] H (RetE (.tuple #[.int .i64 ((2^j:Nat):Int),.bool true]) H):=
 (uZl r c per free hper hf H hT).mono fun v H' ⟨hq,e⟩=>by
  rcases hq with⟨h,_⟩|⟨_,j',hj',rfl⟩
  ·exact absurd ⟨hg,hp,h1,h2⟩ h
  ·obtain⟨ea,_,rfl,_⟩:=gZ9 hg;have:=pow_pos ea;rw[hj.unique (by omega) hj'];exact⟨rfl,e⟩
theorem cZy.ex {ea eb:Nat}{per free:Int}(hab:ea+eb≤32)(h:((2^ea:Nat):Int)≤free-per):∃ j,j≤eb∧cZy ((2^ea:Nat):Int) ((2^eb:Nat):Int) per free j:=by
 have key:∀ t j,j+t=eb→((2^j:Nat):Int)*((2^ea:Nat):Int)≤free-per→∃ j,j≤eb∧cZy ((2^ea:Nat):Int) ((2^eb:Nat):Int) per free j:=fun t=>by
  induction t with
  |zero=>intro j hj hf;exact⟨j,by omega,⟨by rw[show j=eb by omega];exact Int.le_refl _,hf,.inl (by rw[show j=eb by omega])⟩⟩
  |succ t ih=>
   intro j hj hf;by_cases hc:((2^(j+1):Nat):Int)*((2^ea:Nat):Int)≤free-per
   ·exact ih (j+1) (by omega) hc
   ·refine⟨j,by omega,⟨Int.ofNat_le.2 (aZY (by omega)),hf,.inr ?_⟩⟩;rw[show(2:Int)*((2^j:Nat):Int)=((2^(j+1):Nat):Int) by rw[Nat.pow_succ];omega];omega
 exact key eb 0 (by omega) (by rw[Nat.pow_zero];omega)
theorem cZy.ge {r:Int}{eb:Nat}{per free:Int}{j:Nat}(h:cZy r ((2^eb:Nat):Int) per free j):j≤eb:=by
 apply Nat.le_of_not_lt;intro hlt;have h1:=aZY (show eb+1≤j from hlt);rw[Nat.pow_succ]at h1;have:=h.le;have:=pow_pos eb;omega
section
variable {p q dp ap : Nat} {x y : X} {cap peak : Int} {bufs : List (Nat × Nat × Option Addr)} {TT : As}
theorem gZK {L:List As}{H:Hp}(hT:∀ H,TT H→T64 H)(hs:Sep L H)(i:Nat)(hi:L[i]? =some TT):T64 H:=by
 obtain⟨H1,h1,hle⟩:=hs.see i hi;exact(hT H1 h1).le hle
theorem div_pow {a b:Nat}(h:a≤b):2^b=2^b/2^a*2^a:=(Nat.div_mul_cancel (Nat.pow_dvd_pow 2 h)).symm
theorem nZy {d:D}{ea eb j:Nat}(hT:∀ H,TT H→T64 H)(hok:Ok d)(hl:d.down=false)(hx:On d x)(hy:On d y)(ho:d.rd≤2000000000000000000∧d.wr≤2000000000000000000)(hab:ea+eb≤32)(hxw:x.w=2^ea*2^eb)(hyw:y.w=2^ea*2^eb)(hdis:x.f+x.s≤y.f∨y.f+y.s≤x.f)
  (hper:cZJ (D.per d:Int)=true) (hcap:cap≤1000000000000) (hsum:0≤ZM bufs) (hj:cZy ((2^ea:Nat):Int) ((2^eb:Nat):Int) (D.per d) (cap-ZM bufs) j):
  Tr prog 131 #[.pointer (some ⟨p,0,none⟩),.pointer (some ⟨q,0,none⟩),.agg #[.int .i64 ((2^ea:Nat):Int),.int .i64 ((2^eb:Nat):Int)],.pointer (some ⟨ap,0,none⟩),.int .i64 (D.per d:Int)]
   [pts p (ZO dp ap x),pts q (ZO dp ap y),Dk dp d,Ar ap cap peak bufs,TT] fun v M=>∃ M0,qZr p q dp ap d x y (2^ea) (2^eb) (2^j) cap peak bufs v M0∧M=M0++[TT]:=fun H hs=>by
 have hp:=Ok.per_le hok;have hg:=hZP hab;have hsz:=size_le hab;have hr1:=pow_pos ea;have hc1:=pow_pos eb;have hb1:=pow_pos j;have hjb:=hj.ge;have hfit:=hj.fit;rw[← Int.natCast_mul]at hfit;have hbr:1*2^ea≤2^j*2^ea:=Nat.mul_le_mul_right _ hb1;have hbsz:2^j*2^ea≤2^ea*2^eb:=by
  rw[Nat.mul_comm];exact Nat.mul_le_mul_left _ (aZY hjb)
 have hS:hZW ((2^ea:Nat):Int) ((2^eb:Nat):Int)=((2^ea*2^eb:Nat):Int):=by
  unfold hZW;rw[if_pos hg,Int.natCast_mul]
 apply bZf.ok;unfold bZf;refine hs.nw fun sb H hs=>aZq rfl (aZq rfl (aZq rfl ?_))
 first|refine hs.ldw 5 rfl rfl ?_
 try simp only[HV]
 refine ZZ.use (bZW _ _ H (gZK hT hs 4 rfl)) ?_;rw[hg];simp only[HV];refine ZZ.use (gZp hs 0 rfl) ?_;simp only[HV]
 first|refine hs.ldw 5 rfl rfl ?_
 try simp only[HV]
 refine ZZ.use (jZD _ _ H (gZK hT hs 4 rfl)) ?_;rw[hS];simp only[HV];refine ZB (by rw[hxw]) ?_;refine ZZ.use (gZp hs 1 rfl) ?_;simp only[HV]
 first|refine hs.ldw 5 rfl rfl ?_
 try simp only[HV]
 refine ZZ.use (jZD _ _ H (gZK hT hs 4 rfl)) ?_;rw[hS];simp only[HV];refine ZB (by rw[hyw]) ?_
 first|refine hs.ldw 5 rfl rfl ?_
 try simp only[HV]
 simp only[aZ2,Addr.add_zero];refine ZZ.use (rZp hs 3 rfl) ?_;simp only[HV];refine ZZ.use (uZk _ _ _ _ ⟨by omega,by omega⟩ (by omega) H (gZK hT hs 4 rfl) hg hper (by omega) (by omega) hj) ?_;simp only[HV];refine hs.ld 5 (v:=.int .i64 ((2^ea:Nat):Int)) rfl rfl ?_;simp only[HV];rw[← Int.natCast_mul,bZh (by omega)];refine(eZM (a:=ap) (cap:=cap) (peak:=peak) (bufs:=bufs) (n:=2^j*2^ea) (by omega) (by omega)).use hs [3] rfl rfl ?_;rintro _ _ H ⟨bn,bb,rfl,rfl⟩ hs;simp only[HV];refine ZB rfl ?_;have hbm:∀ z∈bufs,z.1≠bn:=fun z hz e=>by
  obtain⟨mp,cl,tk,hA⟩:=Sep.ar hs 0 rfl;have:=hA.bn;rw[List.map_append,List.nodup_append]at this;exact this.2.2 z.1 (List.mem_map_of_mem hz) bn (by simp) e
 refine hs.nw fun vb H hs=>?_
 refine hs.ldw 6 rfl rfl ?_;simp only[HV];refine hs.nw fun rn H hs=>?_
 refine⟨2^eb/2^j+1,?_⟩;have hz:bZl (2^j*2^ea)=Zd (List.replicate (2^j*2^ea) 0):=by
  unfold bZl;rw[bZz];unfold Zd;rw[List.map_replicate];rfl
 rw[hz]at hs;have hsb:ZM (bufs++[(bn,2^j*2^ea,some ⟨bb,0,none⟩)])=ZM bufs+((2^j*2^ea:Nat):Int):=by
  rw[fZb];simp[ZM]
 have hpk:mx (mx peak (ZM bufs+((2^j*2^ea:Nat):Int))) (ZM (bufs++[(bn,2^j*2^ea,some ⟨bb,0,none⟩)])+D.per d)=mx peak (ZM bufs+((2^j*2^ea:Nat):Int)+D.per d):=by
  rw[hsb];generalize((2^j*2^ea:Nat):Int)=n at*;unfold mx;by_cases h1:ZM bufs+n>peak
  ·rw[if_pos h1,if_pos (by omega),if_pos (by omega)]
  ·rw[if_neg h1]
 have out:∀{v:Value} {d':D} {H:Hp},(∀{M},M=[pts p (ZO dp ap x),pts q (ZO dp ap y),Dk dp d',Ar ap cap (mx peak (ZM bufs+((2^j*2^ea:Nat):Int)+D.per d)) bufs]→qZr p q dp ap d x y (2^ea) (2^eb) (2^j) cap peak bufs v M)→
   Sep [pts p (ZO dp ap x),pts q (ZO dp ap y),Dk dp d',Ar ap cap (mx (mx peak (ZM bufs+((2^j*2^ea:Nat):Int))) (ZM (bufs++[(bn,2^j*2^ea,some ⟨bb,0,none⟩)])+D.per d)) bufs,TT] H→∃ M,(∃ M0,qZr p q dp ap d x y (2^ea) (2^eb) (2^j) cap peak bufs v M0∧M=M0++[TT])∧Sep M H:=fun h hs=>by
  rw[hpk]at hs;exact⟨_,⟨_,h rfl,rfl⟩,hs⟩
 have hkk:=kZw (p:=p) (q:=q) (dp:=dp) (ap:=ap) (rn:=rn) (bn:=bn) (bb:=bb) (sb:=sb) (vb:=vb) (x:=x) (y:=y) (cap:=cap) (peak:=mx peak (ZM bufs+((2^j*2^ea:Nat):Int))) (bufs:=bufs) (mb:=2^j*2^ea) (TT:=TT) (fun v H'=>∃ M,(∃ M0,qZr p q dp ap d x y (2^ea) (2^eb) (2^j) cap peak bufs v M0∧M=M0++[TT])∧Sep M H') hok hx hy ho hxw hyw hdis hb1 (div_pow hjb) hsz hr1 hc1 (by rw[hsb];omega) hbm rfl
  (fun d' H hI hs=>out (fun e=>.inl ⟨d',hI,rfl,e⟩) hs) (fun d' H hd hfu hs=>out (fun e=>.inr ⟨d',hd,hfu,rfl,e⟩) hs) (2^eb/2^j) 0 d _ (List.replicate (2^j*2^ea) 0) H (by omega)
  ⟨by simpa [rT,wT]using Prog.refl (inX y) hok hl,fun _ _=>rfl,fun k hk=>by simp at hk⟩ (by simp) rfl (.inl rfl)
 have e0:((0*2^j:Nat):Int)=0:=by rw[Nat.zero_mul];rfl
 rw[e0]at hkk;refine hkk ?_;have hs:=hs.re [6,8,1,2,3,4,0,7,5] rfl;unfold eZi;simp only[Nat.zero_mul,Nat.mul_zero,List.take_zero];exact hs
end
end Trn
namespace Pas
open Go Go.Hw Go.Crc Go.Form W Shp Gol Fft Ker Str Dsk Are Trn
structure dZK (ea q j:Nat):Prop where
 le:j≤ea
 fit:2^j+1≤q
 most:j=ea∨q<2*2^j+1
theorem dZK.unique {ea q j j':Nat}(h:dZK ea q j)(h':dZK ea q j'):j=j':=by
 have key:∀{a b:Nat},dZK ea q a→dZK ea q b→¬a<b:=fun{a b} ha hb hlt=>by
  have hp:2^(a+1)≤2^b:=aZY hlt;rw[Nat.pow_succ]at hp;have h1:=hb.le;have h2:=hb.fit;rcases ha.most with e|e
  ·omega
  ·omega
 have h1:=key h h';have h2:=key h' h;omega
theorem dZK.ex {ea q:Nat}(h:2≤q):∃ j,dZK ea q j:=by
 have key:∀ t j,j+t=ea→2^j+1≤q→∃ j,dZK ea q j:=fun t=>by
  induction t with
  |zero=>intro j hj hf;exact⟨j,by omega,hf,.inl (by omega)⟩
  |succ t ih=>
   intro j hj hf;by_cases hc:2^(j+1)+1≤q
   ·exact ih (j+1) (by omega) hc
   ·rw[Nat.pow_succ]at hc;exact⟨j,by omega,hf,.inr (by omega)⟩
 exact key ea 0 (by omega) (by rw[Nat.pow_zero];omega)
theorem oZb {a b:Nat}(h:2^a=2^b):a=b:=by
 rcases Nat.lt_trichotomy a b with h1|h1|h1
 ·have:=Nat.pow_lt_pow_right (show 1<2 by omega) h1;omega
 ·exact h1
 ·have:=Nat.pow_lt_pow_right (show 1<2 by omega) h1;omega
abbrev sZV (r c per free:Int):Prop:=dZz r c=true∧c≤1048576∧cZJ per=true∧per≤free∧2*c≤free-per
def pZ0 (r c per free:Int)(v:Value):Prop:=
 (¬sZV r c per free∧v= .tuple #[.int .i64 0,.bool false])∨
 (sZV r c per free∧∃ ea eb j:Nat,r=((2^ea:Nat):Int)∧c=((2^eb:Nat):Int)∧ea+eb≤32∧dZK ea ((free-per).toNat/2^eb) j∧v= .tuple #[.int .i64 ((2^j:Nat):Int),.bool true])
theorem sZX {r c per free:Int}{ea eb f:Nat}(hr:r=((2^ea:Nat):Int))(hc:c=((2^eb:Nat):Int))(hab:ea+eb≤32)(hf:free-per=(f:Int))(hf2:f≤9223372036854775807)(hfr:free-per≤9223372036854775807)(K:Value→Hp→Prop)(b1:Nat){L:List As}(i:Nat)
  (hi:L[i]? =some (pts b1 (.obj (.cells #[.int .i64 r,.int .i64 c] 118)))) {H:Hp} (hs:Sep L H) (hK:∀ j,dZK ea (f/2^eb) j→K (.tuple #[.int .i64 ((2^j:Nat):Int),.bool true]) H):
  ∀(t j:Nat),j+t=ea→2^j+1≤f/2^eb→aZT.l4 K (t+1) per free ⟨b1,0,none⟩ ((2^j:Nat):Int) H:=by
 have hc1:=pow_pos eb;intro t
 induction t with
 |zero=>
  intro j hj hfit;have hp2:=aZY (show j≤32 by omega);have hp1:=pow_pos j;unfold aZT.l4;rw[show(⟨b1,0,none⟩:Addr).add 0=⟨b1,0,none⟩from rfl];refine hs.ld i hi rfl ?_;simp only[HV];rw[ZU (x:=2*((2^j:Nat):Int)) (by omega) (by omega)];refine Zl ?_ (hK j ⟨by omega,hfit,.inl (by omega)⟩);rw[hr,show ea=j by omega];omega
 |succ t ih=>
  intro j hj hfit;have hp2:=aZY (show j+1≤32 by omega);have hp3:=aZY (show j+1≤ea by omega);have hp1:=pow_pos j;rw[Nat.pow_succ]at hp2 hp3;unfold aZT.l4;rw[show(⟨b1,0,none⟩:Addr).add 0=⟨b1,0,none⟩from rfl];refine hs.ld i hi rfl ?_;simp only[HV];rw[ZU (x:=2*((2^j:Nat):Int)) (by omega) (by omega)];refine Zv (by rw[hr];omega) ?_;refine hs.ldf i hi rfl ?_;simp only[HV];refine⟨by rw[hc];omega,trivial,?_⟩;rw[ZU (x:=free-per) (by omega) hfr];rw[show Int.tdiv (free-per) c=((f/2^eb:Nat):Int) by rw[hf,hc];rfl];have hdl:f/2^eb≤f:=Nat.div_le_self _ _;rw[bZh (by omega),ZU (x:=2*((2^j:Nat):Int)+1) (by omega) (by omega)];by_cases hc2:2*2^j+1≤f/2^eb
  ·refine Zv (by omega) ?_;rw[ZU (by omega) (by omega),show((2^j:Nat):Int)*2=((2^(j+1):Nat):Int) by rw[Nat.pow_succ];omega];exact ih (j+1) (by omega) (by rw[Nat.pow_succ];omega)
  ·exact Zl (by omega) (hK j ⟨by omega,hfit,.inr (by omega)⟩)
theorem sZD (r c per free:Int)(hper: -9223372036854775808≤per∧per≤9223372036854775807)(hf:free≤9223372036854775807)(H:Hp)(hT:T64 H):
  Zc prog 174 #[.agg #[.int .i64 r,.int .i64 c],.int .i64 per,.int .i64 free] H fun v H'=>pZ0 r c per free v∧H'=H:=by
 refine Zc.forget ?_;apply aZT.ok;unfold aZT;refine(Sep.start H).nw fun b1 H1 hs=>?_
 have out:∀{v:Value},pZ0 r c per free v→∃ H'',H''.le H1∧pZ0 r c per free v∧H''=H:=fun h=>⟨H,hs.ow 0 rfl,h,rfl⟩
 first|refine hs.ldw 1 rfl rfl ?_
 try simp only[HV]
 refine Zc.use (bZW r c H1 (hT.le (hs.ow 0 rfl))) ?_;simp only[HV];cases hg:dZz r c with
 |false=>exact aZI rfl (out (.inl ⟨fun h=>(by have h1:=h.1;rw[hg]at h1;cases h1),rfl⟩))
 |true=>
  refine aZq rfl ?_;obtain⟨ea,eb,hr,hc,hab,_,_⟩:=gZ9 hg;have he1:=pow_pos ea;have he2:=pow_pos eb;have he3:=aZY (show ea≤32 by omega);have he4:=aZY (show eb≤32 by omega)
  first|refine hs.ldf 1 rfl rfl ?_|refine hs.ldg 1 rfl rfl ?_
  try simp only[HV]
  by_cases h0:c>1048576
  ·exact Zv h0 (out (.inl ⟨fun h=>(by have:=h.2.1;omega),rfl⟩))
  refine Zl h0 ?_;by_cases h1:per<4
  ·exact Zv h1 (out (.inl ⟨fun h=>(by have:=eZW h.2.2.1;omega),rfl⟩))
  refine Zl h1 ?_;by_cases h2:per>512
  ·exact Zv h2 (out (.inl ⟨fun h=>(by have:=eZW h.2.2.1;omega),rfl⟩))
  refine Zl h2 ?_;have hpb:=lZT (p:=per) (by omega) (by omega);cases hp:cZJ per with
  |false=>exact ZL (fun h=>by rw[hpb.1 h]at hp;cases hp) (out (.inl ⟨fun h=>(by have h1:=h.2.2.1;rw[hp]at h1;cases h1),rfl⟩))
  |true=>
   refine ZB (hpb.2 hp) ?_;by_cases h3:free<per
   ·exact Zv h3 (out (.inl ⟨fun h=>(by omega),rfl⟩))
   refine Zl h3 ?_
   first|refine hs.ldf 1 rfl rfl ?_|refine hs.ldg 1 rfl rfl ?_
   try simp only[HV]
   rw[ZU (x:=free-per) (by omega) (by omega),ZU (x:=2*c) (by omega) (by omega)];by_cases h4:free-per<2*c
   ·exact Zv h4 (out (.inl ⟨fun h=>(by omega),rfl⟩))
   refine Zl h4 ?_;obtain⟨f,hfe⟩:=Int.eq_ofNat_of_zero_le (show 0≤free-per by omega);refine⟨ea+1,?_⟩;have h2q:2≤f/2^eb:=by rw[Nat.le_div_iff_mul_le (by omega)];omega
   exact sZX hr hc hab hfe (by omega) (by omega) (fun v H'=>∃ H'',H''.le H'∧pZ0 r c per free v∧H''=H) b1 1 rfl hs (fun j hj=>out (.inr ⟨⟨hg,by omega,hp,by omega,by omega⟩,ea,eb,j,hr,hc,hab,by rw[hfe,Int.toNat_natCast];exact hj,rfl⟩)) ea 0 (by omega) (by rw[Nat.pow_zero];omega)
theorem sZC {ea eb:Nat}(per free:Int)(hper: -9223372036854775808≤per∧per≤9223372036854775807)(hf:free≤9223372036854775807)(H:Hp)(hT:T64 H)(hab:ea+eb≤32)(h:sZV ((2^ea:Nat):Int) ((2^eb:Nat):Int) per free){j:Nat}(hj:dZK ea ((free-per).toNat/2^eb) j):
  Zc prog 174 #[.agg #[.int .i64 ((2^ea:Nat):Int),.int .i64 ((2^eb:Nat):Int)],.int .i64 per,.int .i64 free] H (RetE (.tuple #[.int .i64 ((2^j:Nat):Int),.bool true]) H):=
 (sZD _ _ per free hper hf H hT).mono fun v H' ⟨hq,e⟩=>by
  rcases hq with⟨h',_⟩|⟨_,ea',eb',j',h1,h2,_,hj',rfl⟩
  ·exact absurd h h'
  ·have e1:ea=ea':=oZb (show 2^ea=2^ea' by omega);have e2:eb=eb':=oZb (show 2^eb=2^eb' by omega);subst e1 e2;rw[hj.unique hj'];exact⟨rfl,e⟩
def eZ7 (r c dir tw:Int)(xw yw:Int):Int:=
 if dZz r c=true∧xw=r*c∧yw=r*c then(if dir<0∨dir>1 then 18 else if tw< -1∨tw>32 then 2 else 0)else 19
section
variable {L : List As} {H : Hp} {p q dp ap ap' : Nat} {x y : X}
theorem jZF (hs:Sep L H)(i:Nat)(hi:L[i]? =some (pts p (ZO dp ap x)))(k:Nat)(hk:L[k]? =some (pts q (ZO dp ap y)))(hT:T64 H)(r c dir tw sh:Int):
  Zc prog 173 #[.pointer (some ⟨p,0,none⟩),.pointer (some ⟨q,0,none⟩),.agg #[.int .i64 r,.int .i64 c,.int .i64 dir,.int .i64 tw,.int .u64 sh],.pointer (some ⟨ap',0,none⟩)] H (RetE (.int .i64 (eZ7 r c dir tw x.w y.w)) H):=Zc.ret (by
 have hp1:=hs.get i hi;have hq1:=hs.get k hk;apply fZK.ok;unfold fZK;refine(Sep.start H).nw fun b1 H1 hs=>?_
 have hs:Sep [own H,pts b1 (.obj (.cells #[.int .i64 r,.int .i64 c,.int .i64 dir,.int .i64 tw,.int .u64 sh] 120))] H1:=hs;have hle:=hs.ow 0 rfl;have out:∀{v:Value},v= .int .i64 (eZ7 r c dir tw x.w y.w)→Ret (.int .i64 (eZ7 r c dir tw x.w y.w)) H v H1:=fun h=>⟨h,hle⟩
 have hw:∀{b:Nat} {z:X},H b=some (ZO dp ap z)→Zc prog 80 #[.pointer (some ⟨b,0,none⟩)] H1 (RetE (.int .i64 (z.w:Int)) H1):=fun{b z} hb=>by
  have hsP:Sep [pts b (ZO dp ap z)] H1:=⟨H1,fun _=>none,Hp.le_refl _,fun _ _ h=>(nomatch h),fun _=>.inr rfl,hle _ _ hb,trivial⟩;exact gZp hsP 0 rfl
 refine aZq rfl (aZq rfl (aZq rfl ?_));simp only[Addr.add_zero];refine hs.lda 1 rfl (show 0+2≤5 by omega) ?_;refine ZZ.use (bZW r c H1 (hT.le hle)) ?_;simp only[HV];cases hg:dZz r c with
 |false=>
  refine aZI rfl (out ?_);unfold eZ7;rw[if_neg (fun h=>by rw[hg]at h;cases h.1)]
 |true=>
  refine aZq rfl ?_;refine ZZ.use (hw hp1) ?_;simp only[HV];refine hs.lda 1 rfl (show 0+2≤5 by omega) ?_;refine ZZ.use (jZD r c H1 (hT.le hle)) ?_;rw[show hZW r c=r*c by unfold hZW;rw[if_pos hg]];simp only[HV];by_cases h1:(x.w:Int)=r*c
  case neg=>
   refine ZL h1 (out ?_);unfold eZ7;rw[if_neg (fun h=>h1 h.2.1)]
  refine ZB h1 ?_;refine ZZ.use (hw hq1) ?_;simp only[HV];refine hs.lda 1 rfl (show 0+2≤5 by omega) ?_;refine ZZ.use (jZD r c H1 (hT.le hle)) ?_;rw[show hZW r c=r*c by unfold hZW;rw[if_pos hg]];simp only[HV];by_cases h2:(y.w:Int)=r*c
  case neg=>
   refine ZL h2 (out ?_);unfold eZ7;rw[if_neg (fun h=>h2 h.2.2)]
  refine ZB h2 ?_;have hc:eZ7 r c dir tw x.w y.w=if dir<0∨dir>1 then 18 else if tw< -1∨tw>32 then 2 else 0:=by
   unfold eZ7;rw[if_pos ⟨hg,h1,h2⟩]
  refine hs.ldf 1 rfl rfl ?_;simp only[HV];by_cases h3:dir<0
  ·exact Zv h3 (out (by rw[hc,if_pos (.inl h3)]))
  refine Zl h3 ?_;refine hs.ldf 1 rfl rfl ?_;simp only[HV];by_cases h4:dir>1
  ·exact Zv h4 (out (by rw[hc,if_pos (.inr h4)]))
  refine Zl h4 ?_;refine hs.ldf 1 rfl rfl ?_;simp only[HV];by_cases h5:tw< -1
  ·exact Zv h5 (out (by rw[hc,if_neg (by omega),if_pos (.inl h5)]))
  refine Zl h5 ?_;refine hs.ldf 1 rfl rfl ?_;simp only[HV];by_cases h6:tw>32
  ·exact Zv h6 (out (by rw[hc,if_neg (by omega),if_pos (.inr h6)]))
  refine Zl h6 (out (by rw[hc,if_neg (by omega),if_neg (by omega)])))
end
theorem vZM (k:Nat)(hk:k<64)(H:Hp)(hT:T64 H):Zc prog 176 #[.int .u64 ((2^k:Nat):Int)] H (RetE (.int .i64 (k:Int)) H):=by
 apply cZg.ok;unfold cZg;refine Zc.use (tZ1 k hk H hT) ?_;simp only[HV];exact RetE.mk _ _
def cZH (j:J)(d:D)(x:X)(m:Nat):List UInt64:=(List.range m).flatMap fun q=>dZ2 j q (pws d x (q*2^j.eb) (2^j.eb))
theorem jZi (j:J)(d:D)(x:X):∀ m,(cZH j d x m).length=m*2^j.eb
 |0=>by simp[cZH]
 |m+1=>by
  unfold cZH;rw[List.range_succ,List.flatMap_append,List.length_append];have:=jZi j d x m;unfold cZH at this;rw[this,Nat.succ_mul];simp[hZz]
theorem oZf {d:D}{x:X}{fr n a c:Nat}(h:a+c≤n):((pws d x fr n).drop a).take c=pws d x (fr+a) c:=by
 apply List.ext_getElem?;intro i;rw[List.getElem?_take];by_cases hi:i<c
 ·rw[if_pos hi,List.getElem?_drop,jZM (by omega),jZM hi,Nat.add_assoc]
 ·rw[if_neg hi,List.getElem?_eq_none (by rw[dZ1];omega)]
theorem wZc {d d':D}{x:X}{fr n:Nat}(h:∀ k,fr≤k→k<fr+n→pw d' x k=pw d x k):pws d' x fr n=pws d x fr n:=by
 unfold pws;apply List.map_congr_left;intro k hk;have:=List.mem_range.1 hk;exact h _ (by omega) (by omega)
theorem rZ4 {j:J}{d d':D}{x:X}(a b:Nat)(h:∀ k,k<x.w→pw d' x k=pw d x k)(hw:(a+b)*2^j.eb≤x.w):
  cZH j d x (a+b)=cZH j d x a++eZ4 j a (pws d' x (a*2^j.eb) (b*2^j.eb)) b:=by
 unfold cZH eZ4;rw[List.range_add,List.flatMap_append,List.flatMap_map];congr 1;have:∀(l:List Nat),(∀ q,q∈l→q<b)→l.flatMap (fun q=>dZ2 j (a+q) (pws d x ((a+q)*2^j.eb) (2^j.eb)))=l.flatMap fun q=>dZ2 j (a+q) (((pws d' x (a*2^j.eb) (b*2^j.eb)).drop (q*2^j.eb)).take (2^j.eb)):=fun l=>by
  induction l with
  |nil=>intro _;rfl
  |cons q l ih=>
   intro hq;have hqb:=hq q (by simp);have h1:(q+1)*2^j.eb≤b*2^j.eb:=Nat.mul_le_mul_right _ (by omega);have h2:(a+q+1)*2^j.eb≤(a+b)*2^j.eb:=Nat.mul_le_mul_right _ (by omega);rw[Nat.succ_mul]at h1 h2;rw[List.flatMap_cons,List.flatMap_cons,ih fun q' h'=>hq q' (by simp[h']),oZf h1,←Nat.add_mul,wZc (d:=d) (d':=d') (fr:=(a+q)*2^j.eb) (n:=2^j.eb) fun k h3 h4=>h k (by omega)]
 exact this _ fun q hq=>List.mem_range.1 hq
def rP (per f f' n m:Nat):Nat:=((List.range m).map fun i=>(pcs per f n (i*n) n).length+dZl per f' n (i*n) n).sum
def wP (per f' n m:Nat):Nat:=((List.range m).map fun i=>(pcs per f' n (i*n) n).length).sum
theorem lZX (per f f' n m:Nat):rP per f f' n (m+1)=rP per f f' n m+((pcs per f n (m*n) n).length+dZl per f' n (m*n) n):=by
 unfold rP;rw[List.range_succ,List.map_append,List.sum_append];simp
theorem lZ4 (per f' n m:Nat):wP per f' n (m+1)=wP per f' n m+(pcs per f' n (m*n) n).length:=by
 unfold wP;rw[List.range_succ,List.map_append,List.sum_append];simp
theorem uZ1 (per f f' n:Nat){i j:Nat}(h:i≤j):rP per f f' n i≤rP per f f' n j:=by
 induction h with
 |refl=>exact Nat.le_refl _
 |step h ih=>rw[lZX];omega
theorem vZq (per f' n:Nat){i j:Nat}(h:i≤j):wP per f' n i≤wP per f' n j:=by
 induction h with
 |refl=>exact Nat.le_refl _
 |step h ih=>rw[lZ4];omega
theorem qZn (per f f' n:Nat):∀ m,rP per f f' n m≤m*(2*n)
 |0=>by simp[rP]
 |m+1=>by
  rw[lZX,Nat.succ_mul];have h1:=qZn per f f' n m;have h2:=dZc per f n (m*n) n;have h3:=dZc per f' n (m*n) n;have h4:dZl per f' n (m*n) n≤(pcs per f' n (m*n) n).length:=List.length_filter_le _ _;omega
theorem qZH (per f' n:Nat):∀ m,wP per f' n m≤m*n
 |0=>by simp[wP]
 |m+1=>by
  rw[lZ4,Nat.succ_mul];have h1:=qZH per f' n m;have h3:=dZc per f' n (m*n) n;omega
structure pZW (d d':D)(x y:X)(j:J)(b m:Nat):Prop where
 pg:Prog (inX y) d d' (rP (D.per d) x.f y.f (b*2^j.eb) m) (wP (D.per d) y.f (b*2^j.eb) m)
 src:∀ k,k<x.w→pw d' x k=pw d x k
 dst:∀ k,k<m*b*2^j.eb→pw d' y k=((cZH j d x (m*b))[k]?).getD 0
def nZg (p q dp ap:Nat)(d:D)(x y:X)(j:J)(b:Nat)(cap peak:Int)(bufs:List (Nat×Nat×Option Addr))(v:Value)(M:List As):Prop:=
 (∃ d',pZW d d' x y j b (2^j.ea/b)∧v= .tuple #[.int .u32 ((sum (form (cZH j d x (2^j.ea)))).toNat:Int),.int .i64 0]∧
  M=[pts p (ZO dp ap x),pts q (ZO dp ap y),Dk dp d',Ar ap cap (mx peak (ZM bufs+(b*2^j.eb:Nat)+(2^j.eb:Nat)+D.per d)) bufs])∨
 (∃ d',cZv (inX y) d d'∧d.fuse≤rP (D.per d) x.f y.f (b*2^j.eb) (2^j.ea/b)+wP (D.per d) y.f (b*2^j.eb) (2^j.ea/b)∧v= .tuple #[.int .u32 0,.int .i64 8]∧
  M=[pts p (ZO dp ap x),pts q (ZO dp ap y),Dk dp d',Ar ap cap (mx peak (ZM bufs+(b*2^j.eb:Nat)+(2^j.eb:Nat)+D.per d)) bufs])
section
variable {p q dp ap rn bn bb bn2 bb2 sb v2 v3 kp : Nat} {x y : X} {cap peak : Int} {bufs : List (Nat × Nat × Option Addr)} {TT : As} {j : J} {mb : Nat}
def bZ3 (bufs:List (Nat×Nat×Option Addr))(bn n:Nat)(bb:Nat):List (Nat×Nat×Option Addr):=bufs++[(bn,n,some ⟨bb,0,none⟩)]
def nZf (rn p q dp ap bn bb bn2 bb2 sb v2 v3 kp:Nat)(d0 d':D)(x y:X)(j:J)(b m:Nat)(cap pk:Int)(bufs:List (Nat×Nat×Option Addr))(ws:List UInt64)(mb:Nat)(TT:As):List As:=
 [pts sb (.obj (.cells j.a 120)),pts rn (cZd (sum (form (cZH j d0 x (m*b)))) (8*(m*b*2^j.eb)) j kp),pts bb (.row (Zd ws) 84 mb),
  pts p (ZO dp ap x),pts q (ZO dp ap y),Dk dp d',Ar ap cap pk (bZ3 (bZ3 bufs bn (b*2^j.eb) bb) bn2 (2^j.eb) bb2),pts v2 (.row [.pointer (some ⟨bn,0,none⟩)] 206 1),pts v3 (.row [.pointer (some ⟨bn2,0,none⟩)] 206 1),Kn kp j.eb,TT]
set_option maxHeartbeats 1000000 in
theorem kZw (K:Value→Hp→Prop){d:D}{b:Nat}(hT:∀ H,TT H→T64 H)(hok:Ok d)(hx:On d x)(hy:On d y)(ho:d.rd≤2000000000000000000∧d.wr≤2000000000000000000)(hab:j.ea+j.eb≤32)(hb20:j.eb≤20)(htw:j.tw≤32)(hxw:x.w=2^j.ea*2^j.eb)(hyw:y.w=2^j.ea*2^j.eb)(hdis:x.f+x.s≤y.f∨y.f+y.s≤x.f)(hb1:1≤b)(hbd:2^j.ea=2^j.ea/b*b)
  (hcap:(D.per d:Int)≤cap-ZM (bZ3 (bZ3 bufs bn (b*2^j.eb) bb) bn2 (2^j.eb) bb2)) (hbm:∀ z∈bufs,z.1≠bn) (hbm2:∀ z∈bZ3 bufs bn (b*2^j.eb) bb,z.1≠bn2)
  {P1:Int} (hP1:P1=mx peak (ZM (bZ3 (bZ3 bufs bn (b*2^j.eb) bb) bn2 (2^j.eb) bb2)+D.per d))
  (hK:∀ d' H,pZW d d' x y j b (2^j.ea/b)→Sep [pts p (ZO dp ap x),pts q (ZO dp ap y),Dk dp d',Ar ap cap P1 bufs,TT] H→K (.tuple #[.int .u32 ((sum (form (cZH j d x (2^j.ea)))).toNat:Int),.int .i64 0]) H)
  (hK8:∀ d' H,cZv (inX y) d d'→d.fuse≤rP (D.per d) x.f y.f (b*2^j.eb) (2^j.ea/b)+wP (D.per d) y.f (b*2^j.eb) (2^j.ea/b)→Sep [pts p (ZO dp ap x),pts q (ZO dp ap y),Dk dp d',Ar ap cap P1 bufs,TT] H→K (.tuple #[.int .u32 0,.int .i64 8]) H):
  ∀(t m:Nat) (z:Int) (d':D) (pk:Int) (ws:List UInt64) (H:Hp),z=((m*b:Nat):Int)→m+t=2^j.ea/b→pZW d d' x y j b m→ws.length=b*2^j.eb→mx pk (ZM (bZ3 (bZ3 bufs bn (b*2^j.eb) bb) bn2 (2^j.eb) bb2)+D.per d)=P1→(m=0∨pk=P1)→Sep (nZf rn p q dp ap bn bb bn2 bb2 sb v2 v3 kp d d' x y j b m cap pk bufs ws mb TT) H→
   aZw.l17 K (t+1) (some ⟨p,0,none⟩) (some ⟨q,0,none⟩) ⟨sb,0,none⟩ (b:Int) (some ⟨bn,0,none⟩) ⟨rn,0,none⟩ z (some ⟨ap,0,none⟩) (some ⟨v3,0,none⟩) 1 1 (some ⟨ap,0,none⟩) (some ⟨v2,0,none⟩) 1 1 H:=fun t=>by
 have hp:=Ok.per_le hok;have hsz:=size_le hab;have hr1:=pow_pos j.ea;have hc1:=pow_pos j.eb;have hnb:2^j.ea/b≤2^j.ea:=Nat.div_le_self _ _;have hn1:1≤2^j.ea/b:=by
  have:2^j.ea/b≠0:=fun h0=>by rw[h0,Nat.zero_mul]at hbd;omega
  exact Nat.pos_of_ne_zero this
 have hcc:2^j.ea/b*(b*2^j.eb)=2^j.ea*2^j.eb:=by rw[← Nat.mul_assoc,←hbd]
 have hbr:b*2^j.eb≤2^j.ea*2^j.eb:=by rw[← hcc];exact Nat.le_mul_of_pos_left _ hn1
 have hbb:b≤2^j.ea:=by
  have:1*b≤2^j.ea/b*b:=Nat.mul_le_mul_right b hn1;omega
 have hbc1:1*2^j.eb≤b*2^j.eb:=Nat.mul_le_mul_right _ hb1;have hr32:=aZY (show j.ea≤32 by omega);have cnt:∀ m,m≤2^j.ea/b→m*(2*(b*2^j.eb))≤2*(2^j.ea*2^j.eb)∧m*(b*2^j.eb)≤2^j.ea*2^j.eb:=fun m hm=>by
  have:m*(b*2^j.eb)≤2^j.ea*2^j.eb:=by rw[← hcc];exact Nat.mul_le_mul_right _ hm
  refine⟨?_,this⟩;rw[Nat.mul_left_comm];omega
 have gives:∀{d':D} {H:Hp} {K':Hp→Prop},Sep [Ar ap cap P1 (bZ3 (bZ3 bufs bn (b*2^j.eb) bb) bn2 (2^j.eb) bb2),pts v3 (.row [.pointer (some ⟨bn2,0,none⟩)] 206 1),pts v2 (.row [.pointer (some ⟨bn,0,none⟩)] 206 1),pts p (ZO dp ap x),pts q (ZO dp ap y),Dk dp d',TT] H→
   (∀ H,Sep [pts p (ZO dp ap x),pts q (ZO dp ap y),Dk dp d',Ar ap cap P1 bufs,TT] H→K' H)→
   aZ1 prog 130 #[.pointer (some ⟨ap,0,none⟩),.slice (some ⟨v3,0,none⟩) 1 1] H fun _ H=>aZ1 prog 130 #[.pointer (some ⟨ap,0,none⟩),.slice (some ⟨v2,0,none⟩) 1 1] H fun _ H=>K' H:=fun hs k=>by
  refine(cZs v3 bn2 (2^j.eb) (some ⟨bb2,0,none⟩) hbm2).use hs [0,1] rfl rfl ?_;rintro _ _ H ⟨rfl,rfl⟩ hs;refine(cZs v2 bn (b*2^j.eb) (some ⟨bb,0,none⟩) hbm).use hs [0,1] rfl rfl ?_;rintro _ _ H ⟨rfl,rfl⟩ hs;exact k H (hs.re [1,2,3,0,4] rfl)
 induction t with
 |zero=>
  rintro m _ d' pk ws H rfl hm hI hws hpk hip hs;have hme:m=2^j.ea/b:=by omega
  subst hme;unfold nZf at hs;unfold aZw.l17;rw[show((⟨sb,0,none⟩:Addr).add 0).add 0=⟨sb,0,none⟩from rfl];refine hs.ld 0 rfl rfl ?_;simp only[HV];rw[← hbd];refine Zl (Int.lt_irrefl _) ?_;rw[Addr.add_zero];refine Zc.use (CrcP.oZX hs 1 rfl) ?_
  try simp only[HV]
  rw[← hbd];rw[hip.resolve_left (by omega)]at hs;exact gives (hs.re [6,8,7,3,4,5,10] rfl) fun H hs=>hK d' H hI hs
 |succ t ih=>
  rintro m _ d' pk ws H rfl hm hI hws hpk hip hs;have hmlt:m<2^j.ea/b:=by omega
  have hmb:(m+1)*b≤2^j.ea:=by
   have h1:(m+1)*b≤2^j.ea/b*b:=Nat.mul_le_mul_right b hmlt;omega
  have hmb':=hmb;rw[Nat.succ_mul]at hmb';have hper:D.per d'=D.per d:=hI.pg.per;have hxd:=hx.prog hI.pg;have hyd:=hy.prog hI.pg;have hrt:=qZn (D.per d) x.f y.f (b*2^j.eb) m;have hwt:=qZH (D.per d) y.f (b*2^j.eb) m;have hcnt:=cnt m (by omega);have hrd:=hI.pg.rd;have hwr:=hI.pg.wr;have hmr:(m*b+b)*2^j.eb≤2^j.ea*2^j.eb:=Nat.mul_le_mul_right _ hmb';have hmr':=hmr;rw[Nat.add_mul]at hmr;unfold nZf at hs;unfold aZw.l17;rw[show((⟨sb,0,none⟩:Addr).add 0).add 0=⟨sb,0,none⟩from rfl];refine hs.ld 0 rfl rfl ?_;simp only[HV];refine Zv (by omega) ?_;refine Zc.use (eZo hs 6 rfl (b:=bn) (n:=b*2^j.eb) (A:=some ⟨bb,0,none⟩) (by simp[bZ3])) ?_
  try simp only[HV]
  refine(sZY (rn:=rn) (p:=p) (q:=q) (dp:=dp) (ap:=ap) (kp:=kp) (bb:=bb) (mb:=mb) (s:=sum (form (cZH j d x (m*b)))) (sk:=8*(m*b*2^j.eb)) (j:=j) (x:=x) (y:=y) (cap:=cap) (peak:=pk) (bufs:=bZ3 (bZ3 bufs bn (b*2^j.eb) bb) bn2 (2^j.eb) bb2) (d:=d') (r:=m*b) (nb:=b) hT hI.pg.ok hI.pg.down hxd hyd (by omega) hb20 htw hb1 (by omega) (by omega) (by rw[hxw];exact hmr) (by rw[hyw];exact hmr) (by omega) (by omega) (by rw[hper];exact hcap) ws hws).use hs [1,2,3,4,5,6,9,10] rfl rfl ?_;rintro v M H hQ hs;unfold vZT at hQ;rw[hper]at hQ;simp only at hQ;have hPP:mx P1 (ZM (bZ3 (bZ3 bufs bn (b*2^j.eb) bb) bn2 (2^j.eb) bb2)+D.per d)=P1:=by rw[hP1,lZf]
  have hma:m*(b*2^j.eb)=m*b*2^j.eb:=(Nat.mul_assoc _ _ _).symm;have hrs:=lZX (D.per d) x.f y.f (b*2^j.eb) m;have hws':=lZ4 (D.per d) y.f (b*2^j.eb) m;rw[hma]at hrs hws';rcases hQ with⟨hpg2,rfl,rfl⟩|⟨d2,hdd,hfu,rfl,rfl⟩
  case inr=>
   simp only[HV];refine ZL (by decide) ?_;rw[hpk]at hs;refine gives (hs.re [3,7,6,0,1,2,4] rfl) fun H hs=>hK8 d2 H (hI.pg.dead hdd) ?_ hs
   have z1:=hI.pg.fuse;have z2:=hI.pg.go;have z3:=uZ1 (D.per d) x.f y.f (b*2^j.eb) (show m+1≤2^j.ea/b by omega);have z4:=vZq (D.per d) y.f (b*2^j.eb) (show m+1≤2^j.ea/b by omega);omega
  simp only[HV];refine ZB rfl ?_;generalize ht0:(pcs (D.per d) x.f (b*2^j.eb) (m*b*2^j.eb) (b*2^j.eb)).length=t0 at*;have hok1:Ok (D.rdG d' t0):=Ok.rdG hI.pg.ok t0;have hU:=rZ4 (j:=j) (d:=d) (d':=d') (x:=x) (m*b) b hI.src (by rw[hxw];exact hmr');have hul:(eZ4 j (m*b) (pws d' x (m*b*2^j.eb) (b*2^j.eb)) b).length=b*2^j.eb:=hZp _ _ _ _;generalize hus:eZ4 j (m*b) (pws d' x (m*b*2^j.eb) (b*2^j.eb)) b=us at*;have hpw:=fun k=>lZ5 y hok1 (m*b*2^j.eb) us k
  rw[hul]at hpw;have hpg3:=hI.pg.trans hpg2;rw[← hrs,←hws']at hpg3;have htk:m*b+b=(m+1)*b:=(Nat.succ_mul m b).symm;rw[htk]at hU;have hUl:=jZi j d x (m*b);have hI2:pZW d (dZ4 (D.rdG d' t0) y (b*2^j.eb) (m*b*2^j.eb) us) x y j b (m+1):=by
   refine⟨hpg3,fun k hk=>hpg3.pw hok hx (fun i hi=>?_) hk,fun k hk=>?_⟩
   ·unfold inX at hi;omega
   ·rw[hpw k];have hk2:k<m*b*2^j.eb+b*2^j.eb:=by
     rw[← htk,Nat.add_mul]at hk;exact hk
    rw[hU];by_cases h1:m*b*2^j.eb≤k
    ·rw[if_pos ⟨h1,hk2⟩,List.getElem?_append_right (by omega),hUl]
    ·rw[if_neg (by omega),List.getElem?_append_left (by omega)];exact hI.dst k (by omega)
  have hcs:more (sum (form (cZH j d x (m*b)))) (form us)=sum (form (cZH j d x ((m+1)*b))):=by
   rw[hU,hZ4];unfold sum;rw[more_append]
  have hsk:8*(m*b*2^j.eb)+8*(b*2^j.eb)=8*((m+1)*b*2^j.eb):=by rw[← htk,Nat.add_mul];omega
  rw[hcs,hsk,hpk]at hs;refine ih (m+1) _ _ P1 us H ?_ (by omega) hI2 hul hPP (.inr rfl) ?_
  ·rw[← Int.natCast_add,htk,bZh (by omega)]
  ·exact hs.re [8,0,1,2,3,4,5,9,10,6,7] rfl
end
theorem mx3 (p a b c:Int)(h1:a≤b)(h2:b≤c):mx (mx (mx p a) b) c=mx p c:=by
 have key:∀ p a b:Int,a≤b→mx (mx p a) b=mx p b:=fun p a b h=>by
  unfold mx;by_cases h1:a>p
  ·rw[if_pos h1];by_cases h2:b>a
   ·rw[if_pos h2,if_pos (by omega)]
   ·rw[if_neg h2,if_pos (by omega)];omega
  ·rw[if_neg h1]
 rw[key p a b h1,key p b c h2]
section
variable {p q dp ap : Nat} {x y : X} {cap peak : Int} {bufs : List (Nat × Nat × Option Addr)} {L : List As} {H : Hp} {TT : As} {j : J}
theorem pZ2 (hab:j.ea+j.eb≤32)(htw: -1≤j.tw∧j.tw≤32)(hxw:x.w=2^j.ea*2^j.eb)(hyw:y.w=2^j.ea*2^j.eb):eZ7 ((2^j.ea:Nat):Int) ((2^j.eb:Nat):Int) (if j.d=true then 1 else 0) j.tw x.w y.w=0:=by
 unfold eZ7;rw[if_pos ⟨hZP hab,by rw[hxw,Int.natCast_mul],by rw[hyw,Int.natCast_mul]⟩,if_neg (by cases j.d<;>decide),if_neg (by omega)]
set_option maxHeartbeats 1000000 in
theorem nZy {d:D}{jb:Nat}(hT:∀ H,TT H→T64 H)(hok:Ok d)(hl:d.down=false)(hx:On d x)(hy:On d y)(ho:d.rd≤2000000000000000000∧d.wr≤2000000000000000000)(hab:j.ea+j.eb≤32)(hb20:j.eb≤20)(htw: -1≤j.tw∧j.tw≤32)(hxw:x.w=2^j.ea*2^j.eb)(hyw:y.w=2^j.ea*2^j.eb)(hdis:x.f+x.s≤y.f∨y.f+y.s≤x.f)
  (hper:cZJ (D.per d:Int)=true) (hcap:cap≤1000000000000) (hsum:0≤ZM bufs) (hfr:(D.per d:Int)+2*(2^j.eb:Nat)≤cap-ZM bufs) (hj:dZK j.ea ((cap-ZM bufs-D.per d).toNat/2^j.eb) jb):
  Tr prog 132 #[.pointer (some ⟨p,0,none⟩),.pointer (some ⟨q,0,none⟩),.agg j.a,.pointer (some ⟨ap,0,none⟩),.int .i64 (D.per d:Int)]
   [pts p (ZO dp ap x),pts q (ZO dp ap y),Dk dp d,Ar ap cap peak bufs,TT] fun v M=>∃ M0,nZg p q dp ap d x y j (2^jb) cap peak bufs v M0∧M=M0++[TT]:=fun H hs=>by
 have hp:=Ok.per_le hok;have hsz:=size_le hab;have hr1:=pow_pos j.ea;have hc1:=pow_pos j.eb;have hc20:=aZY hb20;have hb1:=pow_pos jb;have hjb:=hj.le;have hfit:=hj.fit;have hbsz:2^jb*2^j.eb≤2^j.ea*2^j.eb:=Nat.mul_le_mul_right _ (aZY hjb);have hbc:1*2^j.eb≤2^jb*2^j.eb:=Nat.mul_le_mul_right _ hb1;have hroom:2^jb*2^j.eb+2^j.eb≤(cap-ZM bufs-D.per d).toNat:=by
  rw[Nat.le_div_iff_mul_le (by omega),Nat.add_mul,Nat.one_mul]at hfit;exact hfit
 have hroom':((2^jb*2^j.eb:Nat):Int)+((2^j.eb:Nat):Int)≤cap-ZM bufs-D.per d:=by omega
 apply aZw.ok;unfold aZw aZw.q1;refine hs.nw fun sb H hs=>?_
 have hs:Sep [pts p (ZO dp ap x),pts q (ZO dp ap y),Dk dp d,Ar ap cap peak bufs,TT,pts sb (.obj (.cells j.a 120))] H:=hs;refine hs.ldw 5 rfl rfl ?_;refine Zc.use (jZF (ap':=ap) hs 0 rfl 1 rfl (gZK hT hs 4 rfl) _ _ _ _ _) ?_;rw[pZ2 hab htw hxw hyw];simp only[HV];refine ZB rfl ?_;simp only[Addr.add_zero];refine hs.lda 5 rfl (show 0+2≤5 by omega) ?_;refine ZZ.use (rZp hs 3 rfl) ?_;simp only[HV];refine ZZ.use (sZC (ea:=j.ea) (eb:=j.eb) (D.per d) (cap-ZM bufs) ⟨by omega,by omega⟩ (by omega) H (gZK hT hs 4 rfl) hab ⟨hZP hab,by omega,hper,by omega,by omega⟩ hj) ?_;simp only[HV];refine hs.ldf 5 rfl rfl ?_;simp only[HV];rw[← Int.natCast_mul,bZh (by omega)];refine(eZM (a:=ap) (cap:=cap) (peak:=peak) (bufs:=bufs) (n:=2^jb*2^j.eb) (by omega) (by omega)).use hs [3] rfl rfl ?_;rintro _ _ H ⟨bn,bb,rfl,rfl⟩ hs;simp only[HV];refine ZB rfl ?_;have fresh:∀{L:List As} {H:Hp} {bufs:List (Nat×Nat×Option Addr)} {pk:Int} (b n rb:Nat),Sep L H→L[0]? =some (Ar ap cap pk (bufs++[(b,n,some ⟨rb,0,none⟩)]))→∀ z∈bufs,z.1≠b:=fun{L H bufs pk} b n rb hs h0 z hz e=>by
  obtain⟨mp,cl,tk,hA⟩:=Sep.ar hs 0 h0;have:=hA.bn;rw[List.map_append,List.nodup_append]at this;exact this.2.2 z.1 (List.mem_map_of_mem hz) b (by simp) e
 have hbm:∀ z∈bufs,z.1≠bn:=fresh bn _ bb hs rfl;refine hs.nw fun v2 H hs=>?_
 refine hs.ldf 6 rfl rfl ?_;simp only[HV];have hsb1:ZM (bufs++[(bn,2^jb*2^j.eb,some ⟨bb,0,none⟩)])=ZM bufs+((2^jb*2^j.eb:Nat):Int):=by
  rw[fZb];simp[ZM]
 refine(eZM (a:=ap) (cap:=cap) (bufs:=bufs++[(bn,2^jb*2^j.eb,some ⟨bb,0,none⟩)]) (n:=2^j.eb) (by omega) (by omega)).use hs [0] rfl rfl ?_;rintro _ _ H ⟨bn2,bb2,rfl,rfl⟩ hs;simp only[HV];refine ZB rfl ?_;have hbm2:∀ z∈bZ3 bufs bn (2^jb*2^j.eb) bb,z.1≠bn2:=fresh bn2 _ bb2 hs rfl;refine hs.nw fun v3 H hs=>?_
 have hsb2:ZM (bZ3 (bZ3 bufs bn (2^jb*2^j.eb) bb) bn2 (2^j.eb) bb2)=ZM bufs+((2^jb*2^j.eb:Nat):Int)+((2^j.eb:Nat):Int):=by
  unfold bZ3;rw[fZb,hsb1];simp[ZM]
  -- what is known from here on
 have hpk:mx (mx (mx peak (ZM bufs+((2^jb*2^j.eb:Nat):Int))) (ZM bufs+((2^jb*2^j.eb:Nat):Int)+((2^j.eb:Nat):Int))) (ZM (bZ3 (bZ3 bufs bn (2^jb*2^j.eb) bb) bn2 (2^j.eb) bb2)+D.per d)=mx peak (ZM bufs+((2^jb*2^j.eb:Nat):Int)+((2^j.eb:Nat):Int)+D.per d):=by
  rw[hsb2];exact mx3 _ _ _ _ (by omega) (by omega)
 rw[hsb1]at hs;have hs:Sep [Ar ap cap (mx (mx peak (ZM bufs+((2^jb*2^j.eb:Nat):Int))) (ZM bufs+((2^jb*2^j.eb:Nat):Int)+((2^j.eb:Nat):Int))) (bZ3 (bZ3 bufs bn (2^jb*2^j.eb) bb) bn2 (2^j.eb) bb2),pts bb2 (.row (bZl (2^j.eb)) 84 (2^j.eb)),pts bb (.row (bZl (2^jb*2^j.eb)) 84 (2^jb*2^j.eb)),
  pts p (ZO dp ap x),pts q (ZO dp ap y),Dk dp d,TT,pts sb (.obj (.cells j.a 120)),pts v2 (.row [.pointer (some ⟨bn,0,none⟩)] 206 1),pts v3 (.row [.pointer (some ⟨bn2,0,none⟩)] 206 1)] H:=hs
 have hz:bZl (2^jb*2^j.eb)=Zd (List.replicate (2^jb*2^j.eb) 0):=by
  unfold bZl;rw[bZz];unfold Zd;rw[List.map_replicate];rfl
 rw[hz]at hs;have fin:∀(kp:Nat) (H:Hp),Sep [Kn kp j.eb,Ar ap cap (mx (mx peak (ZM bufs+((2^jb*2^j.eb:Nat):Int))) (ZM bufs+((2^jb*2^j.eb:Nat):Int)+((2^j.eb:Nat):Int))) (bZ3 (bZ3 bufs bn (2^jb*2^j.eb) bb) bn2 (2^j.eb) bb2),pts bb2 (.row (bZl (2^j.eb)) 84 (2^j.eb)),pts bb (.row (Zd (List.replicate (2^jb*2^j.eb) 0)) 84 (2^jb*2^j.eb)),
   pts p (ZO dp ap x),pts q (ZO dp ap y),Dk dp d,TT,pts sb (.obj (.cells j.a 120)),pts v2 (.row [.pointer (some ⟨bn,0,none⟩)] 206 1),pts v3 (.row [.pointer (some ⟨bn2,0,none⟩)] 206 1)] H→
   Nw H (.obj (.cells #[.int .u32 0,.int .i64 0,.int .i64 ((2^j.ea:Nat):Int),.int .i64 ((2^j.eb:Nat):Int),.int .i64 (if j.d=true then 1 else 0),.int .i64 j.tw,.int .u64 (j.sh.toNat:Int),.pointer (some ⟨kp,0,none⟩)] 271)) fun b4 H9=>
    aZw.j16 (fun v H'=>∃ M,(∃ M0,nZg p q dp ap d x y j (2^jb) cap peak bufs v M0∧M=M0++[TT])∧Sep M H') (some ⟨p,0,none⟩) (some ⟨q,0,none⟩) ⟨sb,0,none⟩ ((2^jb:Nat):Int) (some ⟨bn,0,none⟩) ⟨b4,0,none⟩ (some ⟨ap,0,none⟩) (some ⟨v3,0,none⟩) 1 1 (some ⟨ap,0,none⟩) (some ⟨v2,0,none⟩) 1 1 H9:=fun kp H hs=>by
  refine hs.nw fun rn H hs=>?_
  unfold aZw.j16;refine⟨2^j.ea/2^jb+1,?_⟩;have out:∀{v:Value} {d':D} {H:Hp},(∀{M},M=[pts p (ZO dp ap x),pts q (ZO dp ap y),Dk dp d',Ar ap cap (mx peak (ZM bufs+((2^jb*2^j.eb:Nat):Int)+((2^j.eb:Nat):Int)+D.per d)) bufs]→nZg p q dp ap d x y j (2^jb) cap peak bufs v M)→
    Sep [pts p (ZO dp ap x),pts q (ZO dp ap y),Dk dp d',Ar ap cap (mx peak (ZM bufs+((2^jb*2^j.eb:Nat):Int)+((2^j.eb:Nat):Int)+D.per d)) bufs,TT] H→∃ M,(∃ M0,nZg p q dp ap d x y j (2^jb) cap peak bufs v M0∧M=M0++[TT])∧Sep M H:=fun h hs=>⟨_,⟨_,h rfl,rfl⟩,hs⟩
  refine kZw (p:=p) (q:=q) (dp:=dp) (ap:=ap) (rn:=rn) (bn:=bn) (bb:=bb) (bn2:=bn2) (bb2:=bb2) (sb:=sb) (v2:=v2) (v3:=v3) (kp:=kp) (x:=x) (y:=y) (cap:=cap) (bufs:=bufs) (TT:=TT) (j:=j) (mb:=2^jb*2^j.eb) (peak:=mx (mx peak (ZM bufs+((2^jb*2^j.eb:Nat):Int))) (ZM bufs+((2^jb*2^j.eb:Nat):Int)+((2^j.eb:Nat):Int))) _ hT hok hx hy ho hab hb20 htw.2 hxw hyw hdis hb1 (div_pow hjb) (by rw[hsb2];omega) hbm hbm2 hpk.symm
   (fun d' H hI hs=>out (fun e=>.inl ⟨d',hI,rfl,e⟩) hs) (fun d' H hd hfu hs=>out (fun e=>.inr ⟨d',hd,hfu,rfl,e⟩) hs) (2^j.ea/2^jb) 0 0 d _ (List.replicate (2^jb*2^j.eb) 0) H (by rw[Nat.zero_mul];rfl) (by omega)
   ⟨by simpa [rP,wP]using Prog.refl (inX y) hok hl,fun _ _=>rfl,fun k hk=>by simp at hk⟩ (by simp) hpk (.inl rfl) ?_
  have hs:=hs.re [8,11,3,4,5,6,1,9,10,0,7] rfl;unfold nZf;simp only[Nat.zero_mul,Nat.mul_zero];have e0:sum (form (cZH j d x 0))=0#32:=by
   show sum (form [])=0#32
   decide
  rw[e0];exact hs
 have tz:∀ H,T64 H→Zc prog 176 #[.int .u64 (IntKind.u64.wrap ((2^j.eb:Nat):Int))] H (RetE (.int .i64 (j.eb:Int)) H):=fun H hT=>by
  rw[cZj (by omega)];exact vZM j.eb (by omega) H hT
 refine⟨?_,?_⟩
 ·refine hs.ldw 7 rfl rfl ?_;refine hs.ldf 7 rfl rfl ?_;simp only[HV];refine Zc.use (tz H (gZK hT hs 6 rfl)) ?_;simp only[HV];refine(dZn j.eb hb20).use hs [] rfl rfl ?_;rintro _ _ H ⟨kp,rfl,rfl⟩ hs;simp only[HV];exact fin kp H hs
 refine hs.ldf 7 rfl rfl ?_;simp only[HV];refine⟨?_,?_,?_⟩
 ·refine hs.ldw 7 rfl rfl ?_;refine Zc.use (tz H (gZK hT hs 6 rfl)) ?_;simp only[HV];refine(dZn j.eb hb20).use hs [] rfl rfl ?_;rintro _ _ H ⟨kp,rfl,rfl⟩ hs;simp only[HV];exact fin kp H hs
 ·refine hs.ldw 7 rfl rfl ?_;refine Zc.use (tz H (gZK hT hs 6 rfl)) ?_;simp only[HV];refine(dZn j.eb hb20).use hs [] rfl rfl ?_;rintro _ _ H ⟨kp,rfl,rfl⟩ hs;simp only[HV];exact fin kp H hs
 refine Zc.use (tz H (gZK hT hs 6 rfl)) ?_;simp only[HV];refine⟨?_,?_⟩
 ·refine hs.ldw 7 rfl rfl ?_;refine(dZn j.eb hb20).use hs [] rfl rfl ?_;rintro _ _ H ⟨kp,rfl,rfl⟩ hs;simp only[HV];exact fin kp H hs
 ·refine(dZn j.eb hb20).use hs [] rfl rfl ?_;rintro _ _ H ⟨kp,rfl,rfl⟩ hs;simp only[HV];refine hs.ldw 8 rfl rfl ?_;exact fin kp H hs
end
end Pas
namespace Str
open Go Go.Hw Go.Form W Dsk Are
end Str
namespace Trn
open Go Go.Hw Go.Crc Go.Form W Shp Str Dsk Are
structure kZL (d:D)(k n:Nat):Prop where
 ok:Ok d
 down:d.down=false
 fuse:d.fuse=0
 cnt:d.rd≤100000000∧d.wr≤100000000
 sec:d.sec=2*k+1
 size:d.size=32
theorem kZL.per {d:D}{k n:Nat}(h:kZL d k n):D.per d=4:=by unfold D.per;rw[h.size]
theorem kZL.prog {S:Int→Prop}{d d':D}{k n r w:Nat}(h:kZL d k n)(hp:Prog S d d' r w)(hc:d'.rd≤100000000∧d'.wr≤100000000):kZL d' k n:=
 ⟨hp.ok,hp.down,by rw[hp.fuse,h.fuse];omega,hc,by rw[hp.sec,h.sec],by rw[hp.size,h.size]⟩
section
variable {A : Option Addr} {n m : Nat} {R : As}
end
theorem pZp {d:D}{x:X}{n:Nat}{f:Nat→UInt64}(h:∀ j,j<n→pw d x j=f j):pws d x 0 n=(List.range n).map f:=by
 unfold pws;apply List.map_congr_left;intro j hj;rw[Nat.zero_add];exact h j (List.mem_range.1 hj)
theorem rZZ (l:List UInt64):(List.range l.length).map (fun j=>(l[j]?).getD 0)=l:=by
 apply List.ext_getElem?;intro j;rw[List.getElem?_map];by_cases hj:j<l.length
 ·rw[List.getElem?_range hj,Option.map_some,List.getElem?_eq_getElem hj];rfl
 ·rw[List.getElem?_eq_none (by simp;omega),List.getElem?_eq_none (by omega)];rfl
section
variable {p q dp ap : Nat} {x y : X} {cap peak : Int} {TT : As}
end
section
variable {p q dp ap : Nat} {x y : X} {cap peak : Int} {bufs : List (Nat × Nat × Option Addr)} {L : List As} {H : Hp}
end
def trL (l:List UInt64)(rows cols:Nat):List UInt64:=(List.range (rows*cols)).map fun k=>(l[k%rows*cols+k/rows]?).getD 0
theorem lZ1 (l:List UInt64)(rows cols:Nat):(trL l rows cols).length=rows*cols:=by simp[trL]
def m1 (q:Nat):Nat:=if 1<q then q else 1
end Trn
namespace Pas
open Go Go.Hw Go.Crc Go.Form W Shp Gol Fft Ker Str Dsk Are Trn
section
variable {p q dp ap : Nat} {x y : X} {cap peak : Int} {TT : As} {j : J}
end
end Pas
namespace W
open Go Go.Hw
end W
namespace Pas
open Go Go.Hw Go.Crc Go.Form W Shp Gol Fft Ker Str Dsk Are Trn
theorem nZH (d:Bool)(k:Nat)(l:List UInt64){i:Nat}(h:i<2^k):(eZr d k l)[i]? =some (uw (dft (rtd d k) (2^k) (at' l) i)):=by
 unfold eZr;rw[List.getElem?_map,List.getElem?_range h];rfl
theorem oZl (z:Zp){l:List UInt64}{i:Nat}{w:UInt64}(h:l[i]? =some w):(eZJ z l)[i]? =some (uw (zw w*z)):=by
 unfold eZJ;rw[List.getElem?_map,h];rfl
theorem oZ7 {l:List UInt64}{i:Nat}{w:UInt64}(h:l[i]? =some w):at' l i=zw w:=by
 unfold at';rw[List.getD_eq_getElem?_getD,h];rfl
section
variable {R : As} {A : Option Addr} {n m : Nat} {l : List UInt64}
end
theorem rZ5 {j:J}{d:D}{x:X}{m:Nat}{l:List UInt64}(h:pws d x 0 (m*2^j.eb)=l):
  cZH j d x m=(List.range m).flatMap fun q=>dZ2 j q ((l.drop (q*2^j.eb)).take (2^j.eb)):=by
 unfold cZH;have:∀(r:List Nat),(∀ q,q∈r→q<m)→r.flatMap (fun q=>dZ2 j q (pws d x (q*2^j.eb) (2^j.eb)))=r.flatMap fun q=>dZ2 j q ((l.drop (q*2^j.eb)).take (2^j.eb)):=fun r=>by
  induction r with
  |nil=>intro _;rfl
  |cons q r ih=>
   intro hq;have hqb:=hq q (by simp);have h1:(q+1)*2^j.eb≤m*2^j.eb:=Nat.mul_le_mul_right _ (by omega);rw[Nat.succ_mul]at h1;rw[List.flatMap_cons,List.flatMap_cons,ih fun q' h'=>hq q' (by simp[h']),←h,oZf h1,Nat.zero_add]
 exact this _ fun q hq=>List.mem_range.1 hq
theorem mZl {f:Nat→List UInt64}{c:Nat}(hf:∀ q,(f q).length=c):∀(m q:Nat),q<m→(((List.range m).flatMap f).drop (q*c)).take c=f q
 |0,q,h=>by omega
 |m+1,q,h=>by
  have hl:∀ m,((List.range m).flatMap f).length=m*c:=fun m=>by
   induction m with
   |zero=>simp
   |succ m ih=>rw[List.range_succ,List.flatMap_append,List.length_append,ih,Nat.succ_mul];simp[hf]
  rw[List.range_succ,List.flatMap_append];have hs:List.flatMap f [m]=f m:=by simp
  rw[hs];by_cases e:q=m
  ·subst e;rw[List.drop_append,List.drop_eq_nil_of_le (by rw[hl];exact Nat.le_refl _),hl,Nat.sub_self,List.drop_zero,List.nil_append,List.take_of_length_le (by rw[hf];exact Nat.le_refl _)]
  ·have h1:(q+1)*c≤m*c:=Nat.mul_le_mul_right _ (by omega);rw[Nat.succ_mul]at h1;rw[List.drop_append_of_le_length (by rw[hl];omega),List.take_append_of_le_length (by rw[List.length_drop,hl];omega)];exact mZl hf m q (by omega)
section
variable {R : As} {A : Option Addr} {n m k : Nat} {l : List UInt64} {L : List As}
end
def lZz (j:J)(q:Nat)(l:List UInt64)(c:Nat):Zp:=dft (rtd j.d j.eb) (2^j.eb) (at' l) c*zw j.sh*(if 0≤j.tw then Fft.pw (rtd j.d j.tw.toNat) (q*c)else 1)
theorem rZ3 (j:J)(q:Nat)(l:List UInt64):dZ2 j q l=(List.range (2^j.eb)).map fun c=>uw (lZz j q l c):=by
 apply List.ext_getElem?;intro c;rw[List.getElem?_map];by_cases hc:c<2^j.eb
 ·rw[List.getElem?_range hc];have h1:=nZH j.d j.eb l hc;have h2:(twL j q (eZr j.d j.eb l))[c]? =some (uw (dft (rtd j.d j.eb) (2^j.eb) (at' l) c*(if 0≤j.tw then Fft.pw (rtd j.d j.tw.toNat) (q*c)else 1))):=by
   unfold twL;by_cases ht:0≤j.tw
   ·rw[if_pos ht,if_pos ht];unfold jZQ fZr;rw[List.getElem?_map,iZC,List.getElem?_range hc];show some (uw (at' (eZr j.d j.eb l) c*Fft.pw (Fft.pw (rtd j.d j.tw.toNat) q) c))=some _
    rw[oZ7 h1,nZm,←bZP]
   ·rw[if_neg ht,if_neg ht,h1];congr 2;grind
  unfold dZ2;rw[oZl _ h2,nZm];show some _=some _
  congr 2;unfold lZz;grind
 ·rw[List.getElem?_eq_none (by rw[hZz];omega),List.getElem?_eq_none (by simp;omega)];rfl
section
variable {R : As} {A : Option Addr} {n m b1 : Nat} {l : List UInt64} {j : J}
def dZk (j:J)(l:List UInt64)(m:Nat):List UInt64:=(List.range m).flatMap fun q=>dZ2 j q ((l.drop (q*2^j.eb)).take (2^j.eb))
end
end Pas
namespace Pln
open Go Go.Hw Shp Fft Ker Pas Str Dsk Trn
def trL (r c:Nat)(l:List UInt64):List UInt64:=(List.range (r*c)).map fun k=>l.getD (k%r*c+k/r) 0
theorem lZ1 (r c:Nat)(l:List UInt64):(trL r c l).length=r*c:=by simp[trL]
theorem pZJ {r c:Nat}(l:List UInt64){i j:Nat}(hi:i<r)(hj:j<c):(trL r c l).getD (j*r+i) 0=l.getD (i*c+j) 0:=by
 have h1:j*r+i<r*c:=by
  have:(j+1)*r≤c*r:=Nat.mul_le_mul_right _ hj;rw[Nat.succ_mul]at this;rw[Nat.mul_comm r c];omega
 have h2:(j*r+i)%r=i:=by rw[Nat.add_comm,Nat.add_mul_mod_self_right,Nat.mod_eq_of_lt hi]
 have h3:(j*r+i)/r=j:=by rw[Nat.add_comm,Nat.add_mul_div_right _ _ (by omega),Nat.div_eq_of_lt hi,Nat.zero_add]
 unfold trL;rw[List.getD_eq_getElem?_getD,List.getElem?_map,List.getElem?_range h1];show l.getD _ 0=_
 rw[h2,h3]
theorem sZh {r c:Nat}(l:List UInt64){i j:Nat}(hi:i<r)(hj:j<c):at' (trL r c l) (j*r+i)=at' l (i*c+j):=by
 unfold at';rw[pZJ l hi hj]
theorem vZj (d:D)(x:X)(r c:Nat):trW d x r c=trL r c (pws d x 0 (r*c)):=by
 unfold trW trL;apply List.map_congr_left;intro k hk;have hk:=List.mem_range.1 hk;have hr:0<r:=by
  rcases Nat.eq_zero_or_pos r with h|h
  ·rw[h,Nat.zero_mul]at hk;omega
  ·exact h
 have h1:k%r<r:=Nat.mod_lt _ hr;have h2:k/r<c:=Nat.div_lt_of_lt_mul hk;have h3:k%r*c+k/r<r*c:=by
  have:(k%r+1)*c≤r*c:=Nat.mul_le_mul_right _ h1;rw[Nat.succ_mul]at this;omega
 unfold trK;rw[List.getD_eq_getElem?_getD,jZM h3,Nat.zero_add];rfl
theorem qZJ (j:J)(d:D)(x:X)(m:Nat):cZH j d x m=dZk j (pws d x 0 (m*2^j.eb)) m:=rZ5 rfl
theorem mZO (j:J)(l:List UInt64){m q c:Nat}(hq:q<m)(hc:c<2^j.eb):(dZk j l m)[q*2^j.eb+c]? =some (uw (lZz j q ((l.drop (q*2^j.eb)).take (2^j.eb)) c)):=by
 have h:=mZl (f:=fun q=>dZ2 j q ((l.drop (q*2^j.eb)).take (2^j.eb))) (c:=2^j.eb) (fun q=>hZz j q _) m q hq;have e:(dZk j l m)[q*2^j.eb+c]? =(((dZk j l m).drop (q*2^j.eb)).take (2^j.eb))[c]? :=by
  rw[List.getElem?_take_of_lt hc,List.getElem?_drop]
 rw[e];show((((List.range m).flatMap fun q=>dZ2 j q ((l.drop (q*2^j.eb)).take (2^j.eb))).drop (q*2^j.eb)).take (2^j.eb))[c]? =_
 rw[h,rZ3,List.getElem?_map,List.getElem?_range hc];rfl
def wz (j:J)(q:Nat)(f:Nat→Zp)(c:Nat):Zp:=dft (rtd j.d j.eb) (2^j.eb) (fun i=>f (q*2^j.eb+i)) c*zw j.sh*(if 0≤j.tw then Fft.pw (rtd j.d j.tw.toNat) (q*c)else 1)
theorem oZA (j:J)(l:List UInt64)(q c:Nat):lZz j q ((l.drop (q*2^j.eb)).take (2^j.eb)) c=wz j q (at' l) c:=by
 unfold lZz wz;congr 2;refine hZN (fun i hi=>?_) c;unfold at';rw[List.getD_eq_getElem?_getD,List.getElem?_take_of_lt hi,List.getElem?_drop,←List.getD_eq_getElem?_getD]
theorem tZP (j:J)(l:List UInt64){m q c:Nat}(hq:q<m)(hc:c<2^j.eb):at' (dZk j l m) (q*2^j.eb+c)=wz j q (at' l) c:=by
 rw[oZ7 (mZO j l hq hc),nZm,oZA]
theorem tZQ (j:J)(l:List UInt64){m q c:Nat}(hq:q<m)(hc:c<2^j.eb):(dZk j l m).getD (q*2^j.eb+c) 0=uw (wz j q (at' l) c):=by
 rw[List.getD_eq_getElem?_getD,mZO j l hq hc,oZA];rfl
structure Pz where
 t:Bool
 j:J
 f:Nat
 o:Nat
def Pz.c (p:Pz):Array Value:=p.j.a++ #[.int .i64 (if p.t=true then 1 else 2),.int .i64 (p.f:Int),.int .i64 (p.o:Int)]
def Pz.ap (p:Pz)(l:List UInt64):List UInt64:=if p.t=true then trL (2^p.j.ea) (2^p.j.eb) l else dZk p.j l (2^p.j.ea)
def fZ9 (d:Bool)(k:Nat):UInt64:=if d=true then uw (Fft.pw half k)else 1
def oZq (d:Bool)(k:Nat):Pz:=⟨false,⟨0,k,d,-1,fZ9 d k⟩,0,3⟩
def fZ4 (d:Bool)(k:Nat):List Pz:=
 [⟨true,⟨k/2,k-k/2,false,-1,1⟩,0,1⟩,⟨false,⟨k-k/2,k/2,d,(k:Int),1⟩,1,2⟩,⟨true,⟨k-k/2,k/2,false,-1,1⟩,2,1⟩,
  ⟨false,⟨k/2,k-k/2,d,-1,fZ9 d k⟩,1,2⟩,⟨true,⟨k/2,k-k/2,false,-1,1⟩,2,3⟩]
def oZp (k per words:Nat):Bool:=decide (k≤20∧2*2^k+per≤words)
def bZO (d:Bool)(k per words:Nat):List Pz:=if oZp k per words=true then [oZq d k]else fZ4 d k
def bZn (k per:Nat):Nat:=2*2^((k+1)/2)+per
def apL (ps:List Pz)(l:List UInt64):List UInt64:=ps.foldl (fun l p=>p.ap l) l
theorem uZx (a b:List Pz)(l:List UInt64):apL (a++b) l=apL b (apL a l):=List.foldl_append
def tfL (d:Bool)(k:Nat)(l:List UInt64):List UInt64:=eZJ (zw (fZ9 d k)) (eZr d k l)
theorem pZI (d:Bool)(k:Nat)(l:List UInt64):(tfL d k l).length=2^k:=by unfold tfL;rw[hZA,iZC]
theorem tZy (d:Bool)(k:Nat)(l:List UInt64)(hl:l.length=2^k):(oZq d k).ap l=tfL d k l:=by
 show dZk ⟨0,k,d,-1,fZ9 d k⟩ l 1=_
 unfold dZk;rw[show List.range 1=[0]from rfl,List.flatMap_cons,List.flatMap_nil,List.append_nil,Nat.zero_mul,List.drop_zero];show dZ2 _ 0 (l.take (2^k))=_
 rw[List.take_of_length_le (by omega)];rfl
theorem uZQ (d:Bool)(k:Nat)(hk:k≤32)(l:List UInt64):apL (fZ4 d k) l=tfL d k l:=by
 obtain⟨a,ha⟩:∃ a,k/2=a:=⟨_,rfl⟩;obtain⟨b,hb⟩:∃ b,k-a=b:=⟨_,rfl⟩;have hab:a+b=k:=by omega
 have hka:k-b=a:=by omega
 have hkb:k-a=b:=by omega
 have hRC:2^a*2^b=2^k:=by rw[← Nat.pow_add,hab]
 have hpos:0<2^a:=Nat.two_pow_pos a;unfold fZ4 apL;simp only[List.foldl_cons,List.foldl_nil,ha,hb];show trL (2^a) (2^b) (dZk ⟨a,b,d,-1,fZ9 d k⟩ (trL (2^b) (2^a) (dZk ⟨b,a,d,(k:Int),1⟩ (trL (2^a) (2^b) l) (2^b))) (2^a))=_
 apply List.ext_getElem?;intro i;by_cases hi:i<2^k
 ·have hj:i%2^a<2^a:=Nat.mod_lt _ hpos;have hm:i/2^a<2^b:=Nat.div_lt_of_lt_mul (by rw[hRC];exact hi);have hij:i/2^a*2^a+i%2^a=i:=by rw[Nat.mul_comm];exact Nat.div_add_mod i (2^a)
  generalize hjj:i%2^a=j at hj hij;generalize hmm:i/2^a=m at hm hij;subst hij;have e1:=pZJ (r:=2^a) (c:=2^b) (dZk ⟨a,b,d,-1,fZ9 d k⟩ (trL (2^b) (2^a) (dZk ⟨b,a,d,(k:Int),1⟩ (trL (2^a) (2^b) l) (2^b))) (2^a)) hj hm;have e2:=tZQ ⟨a,b,d,-1,fZ9 d k⟩ (trL (2^b) (2^a) (dZk ⟨b,a,d,(k:Int),1⟩ (trL (2^a) (2^b) l) (2^b))) (m:=2^a) hj (c:=m) hm;have hlen:m*2^a+j<(trL (2^a) (2^b) (dZk ⟨a,b,d,-1,fZ9 d k⟩ (trL (2^b) (2^a) (dZk ⟨b,a,d,(k:Int),1⟩ (trL (2^a) (2^b) l) (2^b))) (2^a))).length:=by rw[lZ1,hRC];exact hi
  rw[List.getElem?_eq_getElem hlen];rw[List.getD_eq_getElem?_getD,List.getElem?_eq_getElem hlen]at e1;simp only[Option.getD_some]at e1;rw[e1,e2];have e3:tfL d k l=eZJ (zw (fZ9 d k)) (eZr d k l):=rfl;rw[e3,oZl _ (nZH d k l hi),nZm];congr 2;have hw:Fft.pw (rtd d k) (2^a*2^b)=1:=by rw[hRC];exact uZ7 d hk
  have hrows:=sZ5 hw (at' l) m j;rw[hRC]at hrows;rw[hrows];have hwa:Fft.pw (rtd d k) (2^a)=rtd d b:=by have:=pZu d hk (show b≤k by omega);rwa [hka]at this
  have hwb:Fft.pw (rtd d k) (2^b)=rtd d a:=by have:=pZu d hk (show a≤k by omega);rwa [hkb]at this
  rw[hwa,hwb];unfold wz;rw[if_neg (show ¬((0:Int)≤-1) by omega)];have key:dft (rtd d b) (2^b) (fun i=>at' (trL (2^b) (2^a) (dZk ⟨b,a,d,(k:Int),1⟩ (trL (2^a) (2^b) l) (2^b))) (j*2^b+i)) m=dft (rtd d b) (2^b) (fun c=>dft (rtd d a) (2^a) (fun r=>at' l (r*2^b+c)) j*Fft.pw (rtd d k) (c*j)) m:=by
   refine hZN (fun c hc=>?_) m;rw[sZh _ hc hj];have h2:=tZP ⟨b,a,d,(k:Int),1⟩ (trL (2^a) (2^b) l) (m:=2^b) hc (c:=j) hj;refine h2.trans ?_;unfold wz;rw[if_pos (Int.natCast_nonneg k)];have e1:zw 1=1:=by decide
   have h3:dft (rtd d a) (2^a) (fun i=>at' (trL (2^a) (2^b) l) (c*2^a+i)) j=dft (rtd d a) (2^a) (fun r=>at' l (r*2^b+c)) j:=
    hZN (fun r hr=>sZh l hr hc) j
   show dft (rtd d a) (2^a) (fun i=>at' (trL (2^a) (2^b) l) (c*2^a+i)) j*zw 1*Fft.pw (rtd d ((k:Int).toNat)) (c*j)=_
   rw[h3,e1,Int.toNat_natCast];grind
  show dft (rtd d b) (2^b) (fun i=>at' (trL (2^b) (2^a) (dZk ⟨b,a,d,(k:Int),1⟩ (trL (2^a) (2^b) l) (2^b))) (j*2^b+i)) m*zw (fZ9 d k)*1=_
  rw[key];grind
 ·rw[List.getElem?_eq_none (by rw[lZ1,hRC];omega),List.getElem?_eq_none (by rw[pZI];omega)]
theorem uZZ (d:Bool)(k per words:Nat)(hk:k≤32)(l:List UInt64)(hl:l.length=2^k):apL (bZO d k per words) l=tfL d k l:=by
 unfold bZO;split
 ·exact tZy d k l hl
 ·exact uZQ d k hk l
end Pln
namespace Sup
open Go Go.Hw Go.Form W Lay
theorem nZs (s:Int)(hs:0<aZj s)(H:Hp):Zc prog 148 #[.int .u64 s] H (RetE (.int .i64 (cZi s+1)) H):=by
 apply cZP.ok;unfold cZP;refine Zc.use (v:=.int .i64 (cZi s+1)) ?_ (RetE.mk _ _);apply aZy.ok;have:s=32∨s=64∨s=128∨s=256∨s=512∨s=1024∨s=2048∨s=4096:=by
  unfold aZj at hs
  repeat' split at hs
  all_goals omega
 unfold aZy;rcases this with rfl|rfl|rfl|rfl|rfl|rfl|rfl|rfl
 all_goals
  refine aZq rfl ?_;unfold aZy.j4;refine aZq rfl ?_;unfold aZy.j7
  first
   |(refine aZI rfl ⟨by decide,by decide,?_⟩;refine rZz (by decide) ?_;exact RetE.of rfl)
   |(refine aZq rfl ⟨by decide,?_⟩;refine rZz (by decide) ?_;exact RetE.of rfl)
def bZC (k:Nat)(s:Int):Nat:=4702392716946833408+k*65536+(cZi s).toNat
def gZa (k sec s ar:Int):List UInt64:=[UInt64.ofNat (bZC k.toNat s),UInt64.ofNat sec.toNat,UInt64.ofNat ar.toNat]
def gZW (k sec s ar:Int):List UInt64:=gZa k sec s ar++[UInt64.ofNat (Go.Crc.sum (form (gZa k sec s ar))).toNat]
def bZ1 (k sec s ar:Int):List UInt8:=form (gZW k sec s ar)++List.replicate (s.toNat-32) 0
theorem rZJ (s:Int):cZi s≤12:=by
 rcases hZk s with h|h<;>omega
theorem nZK (k:Nat)(sec s ar:Int)(hk:k≤65535)(hs:0<aZj s)(H:Hp):Zc prog 107 #[.agg (bZU k sec s ar)] H (RetE (.int .u64 ((UInt64.ofNat (bZC k s)).toNat:Int)) H):=by
 apply Zc.ret;apply fZp.ok;unfold fZp;simp only[HS];refine(Sep.start H).nw fun b1 H hs'=>?_
 have hs0:=hs;have hs:=hs';have h1:=hZk s;have h2:=iZi s
 first|refine hs.ld 1 rfl rfl ?_|refine hs.ld 2 rfl rfl ?_|refine hs.ld 3 rfl rfl ?_|refine hs.ld 4 rfl rfl ?_|refine hs.ld 5 rfl rfl ?_|refine hs.ld 6 rfl rfl ?_|refine hs.ld 7 rfl rfl ?_|refine hs.ld 8 rfl rfl ?_
 try simp only[HV]
 refine⟨by omega,?_⟩
 first|refine hs.ld 1 rfl rfl ?_|refine hs.ld 2 rfl rfl ?_|refine hs.ld 3 rfl rfl ?_|refine hs.ld 4 rfl rfl ?_|refine hs.ld 5 rfl rfl ?_|refine hs.ld 6 rfl rfl ?_|refine hs.ld 7 rfl rfl ?_|refine hs.ld 8 rfl rfl ?_
 try simp only[HV]
 rw[eZj (x:=s) (by omega) (by omega)];refine ZZ.use (nZs s hs0 H) ?_
 try simp only[HV]
 have h3:bZC k s<2^64:=by unfold bZC;omega
 rw[show cZi s+1-1=cZi s by omega,ZU (x:=cZi s) (by omega) (by omega),eZj (x:=cZi s) (by omega) (by omega),cZj (n:=k) (by omega)];rw[qZv (i:=(16:Int)) (n:=16) rfl (by omega),Nat.mod_eq_of_lt (by omega)];obtain⟨g,hg⟩:=Int.eq_ofNat_of_zero_le (show 0≤cZi s by omega);have h4:k*2^16<2^64:=by omega
 rw[show(4702392716946833408:Int)=((4702392716946833408:Nat):Int)from rfl,orN (by omega) h4,hg,orN (nZe (by omega) h4) (by omega)];have e1:∀ q,q=4702392716946833408→q|||k*2^16=q+k*2^16:=fun q hq=>by
  have h5:∀ p,p=1094861123→p*2^32=q:=fun p hp=>by omega
  have:=Nat.shiftLeft_add_eq_or_of_lt (show k*2^16<2^32 by omega) 1094861123;rw[Nat.shiftLeft_eq,h5 _ rfl]at this;exact this.symm
 have e2:∀ q,q=4702392716946833408+k*2^16→q|||g=q+g:=fun q hq=>by
  have h5:∀ p,p=1094861123*2^16+k→p*2^16=q:=fun p hp=>by omega
  have:=Nat.shiftLeft_add_eq_or_of_lt (show g<2^16 by omega) (1094861123*2^16+k);rw[Nat.shiftLeft_eq,h5 _ rfl]at this;exact this.symm
 have e3:4702392716946833408+k*2^16+g=bZC k s:=by unfold bZC;rw[hg];rfl
 rw[e1 _ rfl,e2 _ rfl,e3];rw[show(UInt64.ofNat (bZC k s)).toNat=bZC k s from UInt64.toNat_ofNat_of_lt' h3];exact hs.fin 0 rfl _
theorem iZO (k sec s ar:Int):(gZW k sec s ar).length=4:=rfl
theorem iZN (k sec s ar:Int)(hs:0<aZj s):((bZ1 k sec s ar).length:Int)=s:=by
 have h1:=hZk s;unfold bZ1;rw[List.length_append,bZb,iZO,List.length_replicate];have:4≤aZj s:=by
  rcases h1 with h|h
  ·rw[h.2.2.2.2];have:2^2≤2^(cZi s-3).toNat:=Nat.pow_le_pow_right (by omega) (by omega);omega
  ·omega
 omega
theorem cZa :bZo prog 84=some (1,8,some #[.int .u64 0]):=by kernel_rfl
theorem nZG :bZo prog 5=some (1,1,some #[.int .u8 0]):=by kernel_rfl
theorem nZw (k sec s ar:Int)(h:bZu k sec s ar=false)(H:Hp):Zc prog 94 #[.agg (bZU k sec s ar)] H (RetE (.tuple #[.slice none 0 0,.int .i64 1]) H):=by
 apply Zc.ret;apply eZn.ok;unfold eZn;refine(Sep.start H).nw fun b1 H hs=>?_
 first|refine hs.ldw 1 rfl rfl ?_|refine hs.ldw 2 rfl rfl ?_|refine hs.ldw 3 rfl rfl ?_|refine hs.ldw 4 rfl rfl ?_|refine hs.ldw 5 rfl rfl ?_|refine hs.ldw 6 rfl rfl ?_|refine hs.ldw 7 rfl rfl ?_|refine hs.ldw 8 rfl rfl ?_
 try simp only[HV]
 refine Zc.use (bZW k sec s ar H) ?_
 try simp only[HV]
 rw[h];exact hs.fin 0 rfl _
theorem eZL {x:Nat}(h:x<2^64):(UInt64.ofNat x).toNat=x:=UInt64.toNat_ofNat_of_lt' h
theorem Put_ok (k sec s ar:Int)(h:bZu k sec s ar=true)(hsec:sec≤9223372036854775807):Tr prog 94 #[.agg (bZU k sec s ar)] [] fun v M=>∃ b,v= .tuple #[.slice (some ⟨b,0,none⟩) s.toNat s.toNat,.int .i64 0]∧M=[pts b (.row (Zw (bZ1 k sec s ar)) 5 s.toNat)]:=fun H _=>by
 have hg:=h;unfold bZu at hg;simp only[decide_eq_true_eq]at hg;obtain⟨h1,h2,h3,h4,h5,h6⟩:=hg;obtain⟨kn,rfl⟩:=Int.eq_ofNat_of_zero_le h1;have hp:=iZi s;have hlog:=hZk s;have hlen:=iZN kn sec s ar h3;apply eZn.ok;unfold eZn;simp only[HS];refine(Sep.start H).nw fun b1 H hs=>?_
 first|refine hs.ldw 1 rfl rfl ?_|refine hs.ldw 2 rfl rfl ?_|refine hs.ldw 3 rfl rfl ?_|refine hs.ldw 4 rfl rfl ?_|refine hs.ldw 5 rfl rfl ?_|refine hs.ldw 6 rfl rfl ?_|refine hs.ldw 7 rfl rfl ?_|refine hs.ldw 8 rfl rfl ?_
 try simp only[HV]
 refine Zc.use (bZW kn sec s ar H) ?_
 try simp only[HV]
 rw[h];simp only[HV]
 first|refine hs.ldw 1 rfl rfl ?_|refine hs.ldw 2 rfl rfl ?_|refine hs.ldw 3 rfl rfl ?_|refine hs.ldw 4 rfl rfl ?_|refine hs.ldw 5 rfl rfl ?_|refine hs.ldw 6 rfl rfl ?_|refine hs.ldw 7 rfl rfl ?_|refine hs.ldw 8 rfl rfl ?_
 try simp only[HV]
 refine ZZ.use (nZK kn sec s ar (by omega) h3 H) ?_
 try simp only[HV]
 first|refine hs.ld 1 rfl rfl ?_|refine hs.ld 2 rfl rfl ?_|refine hs.ld 3 rfl rfl ?_|refine hs.ld 4 rfl rfl ?_|refine hs.ld 5 rfl rfl ?_|refine hs.ld 6 rfl rfl ?_|refine hs.ld 7 rfl rfl ?_|refine hs.ld 8 rfl rfl ?_
 try simp only[HV]
 first|refine hs.ld 1 rfl rfl ?_|refine hs.ld 2 rfl rfl ?_|refine hs.ld 3 rfl rfl ?_|refine hs.ld 4 rfl rfl ?_|refine hs.ld 5 rfl rfl ?_|refine hs.ld 6 rfl rfl ?_|refine hs.ld 7 rfl rfl ?_|refine hs.ld 8 rfl rfl ?_
 try simp only[HV]
 rw[eZj (x:=sec) (by omega) (by omega),eZj (x:=ar) (by omega) (by omega)];have hw:([.int .u64 ((UInt64.ofNat (bZC kn s)).toNat:Int),.int .u64 sec,.int .u64 ar]:List Value)=Zd (gZa kn sec s ar):=by
  unfold gZa Zd;simp only[List.map_cons,List.map_nil,Int.toNat_natCast];rw[eZL (x:=sec.toNat) (by omega),eZL (x:=ar.toNat) (by omega)];rw[show((sec.toNat:Nat):Int)=sec by omega,show((ar.toNat:Nat):Int)=ar by omega]
 rw[hw];refine hs.nw fun b2 H hs=>?_
 first|refine hs.ld 1 rfl rfl ?_|refine hs.ld 2 rfl rfl ?_|refine hs.ld 3 rfl rfl ?_|refine hs.ld 4 rfl rfl ?_|refine hs.ld 5 rfl rfl ?_|refine hs.ld 6 rfl rfl ?_|refine hs.ld 7 rfl rfl ?_|refine hs.ld 8 rfl rfl ?_
 try simp only[HV]
 refine hs.mks nZG rfl (n:=s.toNat) (m:=s.toNat) (by omega) (by omega) (Nat.le_refl _) (by omega) (by omega) fun bo H hs=>?_
 simp only[HV];have hc2:∀ H,H b2=some (.row (Zd (gZa kn sec s ar)) 84 3)→Cells H (some ⟨b2,0,none⟩) (Zd (gZa kn sec s ar)):=fun H hb=>Cells.row hb 0 3
 refine Zc.use (CrcP.iZu (some ⟨b2,0,none⟩) 3 3 (gZa kn sec s ar) rfl (by omega) H (hc2 H (hs.get 2 rfl))) ?_
 try simp only[HV]
 have hsum:=(Go.Crc.sum (form (gZa kn sec s ar))).isLt;rw[cZj (n:=(Go.Crc.sum (form (gZa kn sec s ar))).toNat) (by omega)];have hs:Sep [own _,pts b1 _,Own 84 1 (some ⟨b2,0,none⟩) 3 3 (Zd (gZa kn sec s ar)),pts bo (.row (aZG [.int .u8 0] s.toNat) 5 (s.toNat*1))] H:=hs.turn 2 rfl fun H1 hH=>⟨rfl,.inr ⟨b2,3,rfl,hH,by omega⟩⟩
 refine hs.app1 2 (by rfl) cZa (by omega) (by rfl) (by omega) (by omega) fun A' m' H hs=>?_
 simp only[HV];have hw4:Zd (gZa kn sec s ar)++[.int .u64 ((Go.Crc.sum (form (gZa kn sec s ar))).toNat:Int)]=Zd (gZW kn sec s ar):=by
  unfold gZW Zd;rw[List.map_append];congr 1;simp only[List.map_cons,List.map_nil];rw[eZL (by omega)]
 rw[hw4]at hs;have hc4:Cells H A' (Zd (gZW kn sec s ar)):=by
  obtain⟨_,h7⟩:=hs.own 2 rfl;rcases h7 with⟨_,h8,_⟩|⟨b,mm,rfl,h8,_⟩
  ·omega
  ·exact Cells.row h8 0 4
 refine(FormP.Put_ok A' 4 m' (gZW kn sec s ar) rfl (by omega) H hc4).mono ?_;rintro v H' ⟨b4,hb4,rfl,rfl⟩;have hs:=hs.new hb4 (.row (Zw (form (gZW kn sec s ar))) 5 (8*4));simp only[HV];have hf:(form (gZW kn sec s ar)).length=32:=by rw[bZb];rfl
 have hmin:Nat.min 32 s.toNat=32:=by
  have:4≤aZj s:=by
   rcases hlog with h|h
   ·rw[h.2.2.2.2];have:2^2≤2^(cZi s-3).toNat:=Nat.pow_le_pow_right (by omega) (by omega);omega
   ·omega
  exact Nat.min_eq_left (by omega)
 refine hs.cp 3 (k:=32) (n:=s.toNat) (ys:=Zw (form (gZW kn sec s ar))) (by rfl) nZG rfl ?_ ?_ (fun y hy=>?_) fun H hs=>?_
 ·rw[hmin];refine jZp ?_ (by rw[ZS,hf]);have:=Cells.row (hs.get 4 (b:=b4) (o:=.row (Zw (form (gZW kn sec s ar))) 5 (8*4)) rfl) 0 32;rw[List.drop_zero,List.take_of_length_le (by rw[ZS,hf];exact Nat.le_refl _)]at this;exact this
 ·rw[ZS,hf,bZM];rw[← hmin];simp;exact Nat.min_le_right _ _
 ·obtain⟨x,_,rfl⟩:=List.mem_map.1 hy;rfl
 simp only[HV];refine⟨_,⟨bo,rfl,rfl⟩,?_⟩;have hs:=hs.re [3] rfl;have e:setAt (aZG [.int .u8 0] s.toNat) 0 (Zw (form (gZW kn sec s ar)))=Zw (bZ1 kn sec s ar):=by
  unfold bZ1;rw[hZM,bZz];unfold setAt;rw[ZS,hf];simp[Zw]
 rw[e,Nat.mul_one]at hs;exact hs
theorem hZV (A:Option Addr)(n m:Nat)(H:Hp):Zc prog 102 #[.slice A n m] H (RetE (.bool (decide (0<aZj n))) H):=by
 apply eZR.ok;unfold eZR;refine Zc.use (jZA 0 n H) ?_
 try simp only[HV]
 unfold gZr;by_cases h:0<aZj n
 ·rw[if_pos (by omega)];exact RetE.of (by simp[h])
 ·rw[if_neg (by omega)];exact RetE.of (by simp[h])
def iZg (bs:List UInt8):Bool:=(bs.drop 32).all (· ==0)
theorem wZL (b:UInt8):((b.toNat:Int) !=0)= !(b==0):=by
 by_cases h:b=0
 ·subst h;rfl
 ·have:b.toNat≠0:=fun e=>h (UInt8.toNat_inj.1 (by rw[e];rfl))
  have h2:(b==0)=false:=by simpa using h
  rw[h2];simp;omega
theorem jZV (K:Value→Hp→Prop)(A:Option Addr)(n m:Nat)(bs:List UInt8)(hn:n=bs.length)(hm:n≤9000000000000000000)(H:Hp)(hb:Cells H A (Zw bs))(r:Bool)(hK:K (.bool (bs.all (· ==0))) H):∀ d j:Nat,j+d=n→(bs.take j).all (· ==0)=true→
  aZK.l2 K (d+1) A n m (n:Int) (j:Int) H
 |0,j,hj,h0=>by
  unfold aZK.l2;refine Zl (by omega) ?_;rw[List.take_of_length_le (by omega)]at h0;rw[h0]at hK;exact hK
 |d+1,j,hj,h0=>by
  unfold aZK.l2;refine Zv (by omega) ?_;have hlt:j<bs.length:=by omega
  refine hb.read (i:=j) (v:=.int .u8 (bs[j].toNat:Int)) (by rw[hZq,List.getElem?_eq_getElem hlt];rfl) rfl (by rw[ZS];omega) ?_;simp only[HV];rw[wZL];by_cases h:bs[j]=0
  ·refine aZq (by simp[h]) ?_;rw[ZU (by omega) (by omega)];refine jZV K A n m bs hn hm H hb r hK d (j+1) (by omega) ?_;rw[List.take_succ_eq_append_getElem hlt,List.all_append,h0];simp[h]
  ·refine aZI (by simp[h]) ?_;have:bs.all (· ==0)=false:=by
    rw[List.all_eq_false];exact⟨bs[j],List.getElem_mem hlt,by simpa using h⟩
   rw[this]at hK;exact hK
theorem rZd (A:Option Addr)(n m:Nat)(hnm:n≤m)(bs:List UInt8)(hn:n=bs.length)(h32:32≤n)(hm:n≤9000000000000000000)(H:Hp)(hb:Cells H A (Zw bs)):
  Zc prog 104 #[.slice A n m] H (RetE (.bool (iZg bs)) H):=by
 apply aZK.ok;unfold aZK;refine⟨by omega,by omega,n-32+1,?_⟩;have h1:=hb.shift (m:=m) (l:=32) (by rw[ZS];omega);rw[show(Zw bs).drop 32=Zw (bs.drop 32) by unfold Zw;rw[List.map_drop]]at h1;exact jZV _ _ (n-32) (m-32) (bs.drop 32) (by simp;omega) (by omega) H h1 true (RetE.mk _ _) (n-32) 0 (by omega) rfl
abbrev Sb :=Int×Int×Int×Int
def sbV (x:Sb):Array Value:=bZU x.1 x.2.1 x.2.2.1 x.2.2.2
def lZL (a b c:Nat):Nat:=(Go.Crc.sum (form [UInt64.ofNat a,UInt64.ofNat b,UInt64.ofNat c])).toNat
def eZt (bs:List UInt8):Sb:=(((ZC bs 0/65536%65536:Nat):Int),IntKind.i64.wrap (ZC bs 8:Nat),((bs.length:Nat):Int),IntKind.i64.wrap (ZC bs 16:Nat))
def aZ6 (bs:List UInt8):Sb×Int:=
 if aZj bs.length=0 then((0,0,0,0),15)
 else if ZC bs 0/4294967296≠1094861123∨iZg bs=false then((0,0,0,0),10)
 else if ZC bs 24≠lZL (ZC bs 0) (ZC bs 8) (ZC bs 16)then((0,0,0,0),9)
 else if bZu (eZt bs).1 (eZt bs).2.1 (eZt bs).2.2.1 (eZt bs).2.2.2=true∧((ZC bs 0%65536:Nat):Int)=cZi bs.length then(eZt bs,0)
 else((0,0,0,0),1)
theorem sZp (bs:List UInt8):([.int .u64 (ZC bs 0:Nat),.int .u64 (ZC bs 8:Nat),.int .u64 (ZC bs 16:Nat)]:List Value)=Zd [UInt64.ofNat (ZC bs 0),UInt64.ofNat (ZC bs 8),UInt64.ofNat (ZC bs 16)]:=by
 unfold Zd;simp only[List.map_cons,List.map_nil];rw[eZL (cZV bs 0),eZL (cZV bs 8),eZL (cZV bs 16)]
theorem uZA (a b c:Nat):lZL a b c<2^32:=(Go.Crc.sum _).isLt
theorem nZ0 {n:Int}(h:0<aZj n):n=((2^(cZi n).toNat:Nat):Int)∧5≤cZi n∧cZi n≤12:=by
 unfold aZj at h;unfold cZi
 repeat' split
 all_goals first|(subst_vars;refine⟨by decide,by decide,by decide⟩)|skip
 repeat' split at h
 all_goals omega
theorem sZa {t:Nat}(h:t≤62):aZN .i64 1 (t:Int)=((2^t:Nat):Int):=gZm h
theorem sZ9 {a:Nat}(ha:a<2^64)(hm:a/4294967296=1094861123){sec ar:Int}{n:Int}(hn:0<aZj n):
  (bZu ((a/65536%65536:Nat):Int) sec (aZN .i64 1 ((a%64:Nat):Int)) ar=true∧bZC (a/65536%65536) (aZN .i64 1 ((a%64:Nat):Int))=a∧aZN .i64 1 ((a%64:Nat):Int)=n)↔
   (bZu ((a/65536%65536:Nat):Int) sec n ar=true∧((a%65536:Nat):Int)=cZi n):=by
 obtain⟨h1,h2,h3⟩:=nZ0 hn;constructor
 ·rintro⟨g1,g2,g3⟩;rw[g3]at g1 g2;refine⟨g1,?_⟩;unfold bZC at g2;omega
 ·rintro⟨g1,g2⟩;obtain⟨t,ht⟩:=Int.eq_ofNat_of_zero_le (show 0≤cZi n by omega);have h64:a%64=t:=by omega
  have hv:aZN .i64 1 ((a%64:Nat):Int)=n:=by
   rw[h64,sZa (by omega),h1,ht];rfl
  rw[hv];refine⟨g1,?_,rfl⟩;unfold bZC;rw[ht]at g2⊢;have:(Int.toNat (t:Int))=t:=Int.toNat_natCast t;rw[this];omega
theorem hZf (K:Value→Hp→Prop)(d b1 b2:Nat)(A:Option Addr)(n m:Nat)(hnm:n≤m)(hm:n≤9000000000000000000)(bs:List UInt8)(hn:n=bs.length)(h32:32≤n)(H0 H:Hp)(hb:Cells H0 A (Zw bs))(c:Array Value)(hc:c.size=4)(z:Array Value)(e1 e2:TypeId)(i:Nat)(hi:i<4)
  (hs:Sep [own H0,pts b1 (.obj (.cells z e1)),pts b2 (.obj (.cells c e2))] H)
  (k:∀ H,Sep [own H0,pts b1 (.obj (.cells z e1)),pts b2 (.obj (.cells (c.setIfInBounds i (.int .u64 (ZC bs (8*i):Nat))) e2))] H→aZx.l5 K d A n m ⟨b1,0,none⟩ ⟨b2,0,none⟩ ((i+1:Nat):Int) H):
  aZx.l5 K (d+1) A n m ⟨b1,0,none⟩ ⟨b2,0,none⟩ (i:Int) H:=by
 conv=>unfold aZx.l5 aZx.l5.q1
 refine Zv (by omega) ?_;refine Zc.use (FormP.Word_ok A n m hnm hm bs hn i (by omega) H (hb.le (hs.ow 0 rfl))) ?_
 try simp only[HV]
 refine hs.stx 2 rfl (j:=i) rfl hi (by omega) rfl fun H hs=>?_;rw[ZU (x:=(i:Int)+1) (by omega) (by omega)];exact k H hs
theorem fZD (K:Value→Hp→Prop){L:List As}{H:Hp}(hs:Sep L H){b1:Nat}{z:Array Value}{e1:TypeId}(i:Nat)(hi:L[i]? =some (pts b1 (.obj (.cells z e1))))(hz:z.size=4)(e:Int)(y:Array Value)(hy:y.size=4)(hv:y.toList.all (fun v=>v.oneCell')=true)
  (hK:∀ H,Sep (L.set i (pts b1 (.obj (.cells y e1)))) H→K (.tuple #[.agg y,.int .i64 e]) H):StA H (⟨b1,0,none⟩:Addr) y 4 fun H3=>LdA H3 (⟨b1,0,none⟩:Addr) 4 fun l7=>K (.tuple #[.agg l7.toArray,.int .i64 e]) H3:=by
 refine hs.stw i hi hz hy hv fun H hs=>?_;have hlt:=(List.getElem?_eq_some_iff.1 hi).1;refine hs.ldw i (b:=b1) (c:=y) (e:=e1) (by rw[List.getElem?_set];simp[hlt]) hy ?_;rw[Array.toArray_toList];exact hK H hs
theorem hZ9 (A:Option Addr)(n m:Nat)(hnm:n≤m)(hm:n≤9000000000000000000)(bs:List UInt8)(hn:n=bs.length)(H:Hp)(hb:Cells H A (Zw bs)):
  Zc prog 71 #[.slice A n m] H (RetE (.tuple #[.agg (sbV (aZ6 bs).1),.int .i64 (aZ6 bs).2]) H):=by
 apply Zc.ret;apply aZx.ok;unfold aZx;refine(Sep.start H).nw fun b1 H' hs=>?_
 have fin:∀{L:List As} {H':Hp} (x:Sb) (e:Int),Sep L H'→L[0]? =some (own H)→aZ6 bs=(x,e)→Ret (.tuple #[.agg (sbV (aZ6 bs).1),.int .i64 (aZ6 bs).2]) H (.tuple #[.agg (sbV x),.int .i64 e]) H':=fun x e hs h0 he=>by
  rw[he];exact hs.fin 0 h0 _
 refine Zc.use (hZV A n m H') ?_
 try simp only[HV]
 by_cases hp:aZj (n:Int)=0
 ·refine aZI (by simp;omega) ?_;refine fZD _ hs 1 rfl rfl 15 _ rfl rfl fun H' hs=>fin (0,0,0,0) 15 hs rfl ?_
  unfold aZ6;rw[← hn,if_pos hp]
 refine aZq (by simp;omega) ?_;refine hs.nw fun b2 H' hs=>?_
 have hp':0<aZj (n:Int):=by omega
 have h32:32≤n:=by
  obtain⟨h1,h2,h3⟩:=nZ0 hp';have:2^5≤2^(cZi n).toNat:=Nat.pow_le_pow_right (by omega) (by omega);omega
 refine⟨5,?_⟩;refine hZf _ 4 b1 b2 A n m hnm hm bs hn h32 H H' hb _ rfl _ _ _ 0 (by omega) hs fun H' hs=>?_
 refine hZf _ 3 b1 b2 A n m hnm hm bs hn h32 H H' hb _ rfl _ _ _ 1 (by omega) hs fun H' hs=>?_
 refine hZf _ 2 b1 b2 A n m hnm hm bs hn h32 H H' hb _ rfl _ _ _ 2 (by omega) hs fun H' hs=>?_
 refine hZf _ 1 b1 b2 A n m hnm hm bs hn h32 H H' hb _ rfl _ _ _ 3 (by omega) hs fun H' hs=>?_
 have hs:Sep [own H,pts b1 (.obj (.cells #[.int .i64 0,.int .i64 0,.int .i64 0,.int .i64 0] 30)),pts b2 (.obj (.cells #[.int .u64 (ZC bs 0:Nat),.int .u64 (ZC bs 8:Nat),.int .u64 (ZC bs 16:Nat),.int .u64 (ZC bs 24:Nat)] 184))] H':=hs;have w0:=cZV bs 0;unfold aZx.l5 aZx.l5.q1;refine Zl (by omega) ?_;refine hs.ldx 2 rfl (j:=0) rfl (by omega) rfl ?_;simp only[HV];refine⟨by omega,?_⟩;refine hs.ldx 2 rfl (j:=0) rfl (by omega) rfl ?_;simp only[HV];rw[show aZC .u64 ((ZC bs 0:Nat):Int) 63=((ZC bs 0%64:Nat):Int) by rw[show(63:Int)=((63:Nat):Int)from rfl,lZK w0 (by omega),Nat.and_two_pow_sub_one_eq_mod _ 6]];refine⟨by omega,?_⟩;refine hs.ldx 2 rfl (j:=1) rfl (by omega) rfl ?_;simp only[HV];refine hs.ldx 2 rfl (j:=2) rfl (by omega) rfl ?_;simp only[HV];refine hs.nw fun b3 H' hs=>?_
 refine hs.stw 3 rfl rfl rfl rfl fun H' hs=>?_
 have e16:IntKind.i64.wrap (aZC .u64 (aZB .u64 ((ZC bs 0:Nat):Int) 16) 65535)=((ZC bs 0/65536%65536:Nat):Int):=by
  rw[hZB (i:=(16:Int)) (n:=16) rfl (by decide),show(65535:Int)=((65535:Nat):Int)from rfl,lZK (by omega) (by omega),Nat.and_two_pow_sub_one_eq_mod _ 16,bZh (by omega)]
 rw[e16]at hs;refine hs.ldx 2 rfl (j:=0) rfl (by omega) rfl ?_;simp only[HV];refine⟨by omega,?_⟩;rw[hZB (i:=(32:Int)) (n:=32) rfl (by decide)];by_cases hmg:ZC bs 0/4294967296=1094861123
 ·refine ZB (by omega) ?_;refine Zc.use (rZd A n m hnm bs hn h32 (by omega) H' (hb.le (hs.ow 0 rfl))) ?_
  try simp only[HV]
  by_cases hz:iZg bs=true
  ·refine aZq (by simp[hz]) ?_;refine hs.ldx 2 rfl (j:=3) rfl (by omega) rfl ?_;simp only[HV];refine⟨by omega,by omega,?_⟩;have hc3:=Cells.obj (hs.get 2 (b:=b2) (o:=.obj (.cells #[.int .u64 (ZC bs 0:Nat),.int .u64 (ZC bs 8:Nat),.int .u64 (ZC bs 16:Nat),.int .u64 (ZC bs 24:Nat)] 184)) rfl) 3;have hc3:Cells H' (some ⟨b2,0,none⟩) (Zd [UInt64.ofNat (ZC bs 0),UInt64.ofNat (ZC bs 8),UInt64.ofNat (ZC bs 16)]):=by
    rw[← sZp];exact hc3
   refine ZZ.use (CrcP.iZu (some ⟨b2,0,none⟩) 3 4 _ rfl (by omega) H' hc3) ?_;simp only[HV];have hcl:=uZA (ZC bs 0) (ZC bs 8) (ZC bs 16);rw[show(Go.Crc.sum (form [UInt64.ofNat (ZC bs 0),UInt64.ofNat (ZC bs 8),UInt64.ofNat (ZC bs 16)])).toNat=lZL (ZC bs 0) (ZC bs 8) (ZC bs 16)from rfl,cZj (by omega)];by_cases hcr:ZC bs 24=lZL (ZC bs 0) (ZC bs 8) (ZC bs 16)
   ·refine ZB (by omega) ?_;refine hs.ldw 3 rfl rfl ?_;have hiff:=sZ9 w0 hmg (sec:=IntKind.i64.wrap (ZC bs 8:Nat)) (ar:=IntKind.i64.wrap (ZC bs 16:Nat)) hp';have hno:¬(bZu (eZt bs).1 (eZt bs).2.1 (eZt bs).2.2.1 (eZt bs).2.2.2=true∧((ZC bs 0%65536:Nat):Int)=cZi bs.length)→aZ6 bs=((0,0,0,0),1):=fun h=>by
     unfold aZ6;rw[← hn,if_neg (by omega),if_neg (by simp[hmg,hz]),if_neg (by simp[hcr]),if_neg (by rw[hn];exact h)]
    have hyes:(bZu (eZt bs).1 (eZt bs).2.1 (eZt bs).2.2.1 (eZt bs).2.2.2=true∧((ZC bs 0%65536:Nat):Int)=cZi bs.length)→aZ6 bs=(eZt bs,0):=fun h=>by
     unfold aZ6;rw[← hn,if_neg (by omega),if_neg (by simp[hmg,hz]),if_neg (by simp[hcr]),if_pos (by rw[hn];exact h)]
    have hsb:eZt bs=(((ZC bs 0/65536%65536:Nat):Int),IntKind.i64.wrap (ZC bs 8:Nat),(n:Int),IntKind.i64.wrap (ZC bs 16:Nat)):=by unfold eZt;rw[hn]
    rw[hsb]at hno hyes;simp only at hno hyes;rw[← hn]at hno hyes;rw[← hiff]at hno hyes;refine ZZ.use (bZW ((ZC bs 0/65536%65536:Nat):Int) (IntKind.i64.wrap (ZC bs 8:Nat)) (aZN .i64 1 ((ZC bs 0%64:Nat):Int)) (IntKind.i64.wrap (ZC bs 16:Nat)) H') ?_;simp only[HV];by_cases hg:bZu ((ZC bs 0/65536%65536:Nat):Int) (IntKind.i64.wrap (ZC bs 8:Nat)) (aZN .i64 1 ((ZC bs 0%64:Nat):Int)) (IntKind.i64.wrap (ZC bs 16:Nat))=true
    ·refine aZq (by rw[hg];rfl) ?_;refine hs.ldw 3 rfl rfl ?_;have hg2:=hg;unfold bZu at hg2;simp only[decide_eq_true_eq]at hg2;refine ZZ.use (nZK (ZC bs 0/65536%65536) (IntKind.i64.wrap (ZC bs 8:Nat)) (aZN .i64 1 ((ZC bs 0%64:Nat):Int)) (IntKind.i64.wrap (ZC bs 16:Nat)) (by omega) hg2.2.2.1 H') ?_;simp only[HV];have hf64:bZC (ZC bs 0/65536%65536) (aZN .i64 1 ((ZC bs 0%64:Nat):Int))<2^64:=by
      have:=rZJ (aZN .i64 1 ((ZC bs 0%64:Nat):Int));unfold bZC;omega
     rw[eZL hf64];refine hs.ldx 2 rfl (j:=0) rfl (by omega) rfl ?_;simp only[HV];by_cases hf:bZC (ZC bs 0/65536%65536) (aZN .i64 1 ((ZC bs 0%64:Nat):Int))=ZC bs 0
     ·refine ZB (by omega) ?_;simp only[HS];refine hs.ld 3 rfl rfl ?_;simp only[HV];by_cases hv:aZN .i64 1 ((ZC bs 0%64:Nat):Int)=(n:Int)
      ·refine ZB hv ?_;refine hs.ldw 3 rfl rfl ?_;have hy:=hyes ⟨hg,hf,hv⟩;rw[hv];refine fZD _ hs 1 rfl rfl 0 _ rfl rfl fun H' hs=>fin _ 0 hs rfl hy
      ·refine ZL hv ?_;refine fZD _ hs 1 rfl rfl 1 _ rfl rfl fun H' hs=>fin (0,0,0,0) 1 hs rfl (hno fun h=>hv h.2.2)
     ·refine ZL (by omega) ?_;refine fZD _ hs 1 rfl rfl 1 _ rfl rfl fun H' hs=>fin (0,0,0,0) 1 hs rfl (hno fun h=>hf h.2.1)
    ·refine aZI (by rw[Bool.not_eq_true]at hg;rw[hg];rfl) ?_;refine fZD _ hs 1 rfl rfl 1 _ rfl rfl fun H' hs=>fin (0,0,0,0) 1 hs rfl (hno fun h=>hg h.1)
   ·refine ZL (by omega) ?_;refine fZD _ hs 1 rfl rfl 9 _ rfl rfl fun H' hs=>fin (0,0,0,0) 9 hs rfl ?_
    unfold aZ6;rw[← hn,if_neg (by omega),if_neg (by simp[hmg,hz]),if_pos hcr]
  ·refine aZI (by simp[hz]) ?_;refine fZD _ hs 1 rfl rfl 10 _ rfl rfl fun H' hs=>fin (0,0,0,0) 10 hs rfl ?_
   unfold aZ6;rw[← hn,if_neg (by omega),if_pos (.inr (by simpa using hz))]
 ·refine ZL (by omega) ?_;refine fZD _ hs 1 rfl rfl 10 _ rfl rfl fun H' hs=>fin (0,0,0,0) 10 hs rfl ?_
  unfold aZ6;rw[← hn,if_neg (by omega),if_pos (.inl hmg)]
theorem qZX (k sec s ar:Int)(H:Hp):Zc prog 73 #[.agg (bZU k sec s ar)] H (RetE (if bZu k sec s ar=true then .tuple #[.agg (cZ5 k.toNat (aZj s)),.int .i64 0]else .tuple #[.agg nZU,.int .i64 1]) H):=by
 apply Zc.ret;apply eZQ.ok;unfold eZQ;simp only[HS];refine(Sep.start H).nw fun b1 H' hs=>?_
 refine hs.nw fun b2 H' hs=>?_
 first|refine hs.ldw 1 rfl rfl ?_|refine hs.ldw 2 rfl rfl ?_|refine hs.ldw 3 rfl rfl ?_|refine hs.ldw 4 rfl rfl ?_|refine hs.ldw 5 rfl rfl ?_|refine hs.ldw 6 rfl rfl ?_|refine hs.ldw 7 rfl rfl ?_|refine hs.ldw 8 rfl rfl ?_
 try simp only[HV]
 refine Zc.use (bZW k sec s ar H') ?_
 try simp only[HV]
 by_cases h:bZu k sec s ar=true
 ·rw[if_pos h,h];simp only[HV];have hg:=h;unfold bZu at hg;simp only[decide_eq_true_eq]at hg
  first|refine hs.ld 1 rfl rfl ?_|refine hs.ld 2 rfl rfl ?_|refine hs.ld 3 rfl rfl ?_|refine hs.ld 4 rfl rfl ?_|refine hs.ld 5 rfl rfl ?_|refine hs.ld 6 rfl rfl ?_|refine hs.ld 7 rfl rfl ?_|refine hs.ld 8 rfl rfl ?_
  try simp only[HV]
  first|refine hs.ld 1 rfl rfl ?_|refine hs.ld 2 rfl rfl ?_|refine hs.ld 3 rfl rfl ?_|refine hs.ld 4 rfl rfl ?_|refine hs.ld 5 rfl rfl ?_|refine hs.ld 6 rfl rfl ?_|refine hs.ld 7 rfl rfl ?_|refine hs.ld 8 rfl rfl ?_
  try simp only[HV]
  first|refine hs.ld 1 rfl rfl ?_|refine hs.ld 2 rfl rfl ?_|refine hs.ld 3 rfl rfl ?_|refine hs.ld 4 rfl rfl ?_|refine hs.ld 5 rfl rfl ?_|refine hs.ld 6 rfl rfl ?_|refine hs.ld 7 rfl rfl ?_|refine hs.ld 8 rfl rfl ?_
  try simp only[HV]
  refine Zc.use (eZu k sec s H') ?_
  try simp only[HV]
  have:OfV k sec s=(cZ5 k.toNat (aZj s),0):=by unfold OfV;rw[if_pos (by omega),if_neg (by omega)]
  rw[this];refine hs.stw 2 rfl rfl rfl rfl fun H' hs=>?_
  refine hs.ldw 2 rfl rfl ?_;exact hs.fin 0 rfl _
 ·rw[Bool.not_eq_true]at h;rw[if_neg (by rw[h];simp),h];simp only[HV];refine hs.stw 2 rfl rfl rfl rfl fun H' hs=>?_
  refine hs.ldw 2 rfl rfl ?_;exact hs.fin 0 rfl _
end Sup
namespace Sup
open Go Go.Hw Go.Form W Lay Dsk
theorem kZo :∀ n,leN (List.replicate n 0)=0
 |0=>rfl
 |n+1=>by
  rw[List.replicate_succ];show(0:UInt8).toNat+256*leN (List.replicate n 0)=0
  rw[kZo n];rfl
theorem qZB (s:Nat)(hs:0<aZj s):aZ6 (List.replicate s 0)=((0,0,0,0),10):=by
 unfold aZ6;rw[List.length_replicate,if_neg (by omega),if_pos];left;have:ZC (List.replicate s 0) 0=0:=by
  unfold ZC;rw[List.drop_zero,List.take_replicate,kZo]
 rw[this];decide
def ofB (d:D)(sec s:Int):Bool:=decide (sec=d.sec∧s=d.size)
theorem nZd {L:List As}{H:Hp}{p:Nat}{d:D}(hs0:Sep L H)(i:Nat)(hi:L[i]? =some (Dk p d))(k sec s ar:Int):Zc prog 72 #[.pointer (some ⟨p,0,none⟩),.agg (bZU k sec s ar)] H (RetE (.bool (ofB d sec s)) H):=by
 apply Zc.ret;apply gZ6.ok;unfold gZ6;refine(Sep.start H).nw fun b1 H' hs=>?_
 have hle:=hs.ow 0 rfl;refine hs.ld 1 rfl rfl ?_;simp only[HV]
 try simp only[HS]
 refine ZZ.use (eZy (hs0.up hle) i hi) ?_;simp only[HV];by_cases h1:sec=d.sec
 ·refine ZY h1 (hs.ld 1 rfl rfl ?_);simp only[HV]
  try simp only[HS]
  refine ZZ.use (hZn (hs0.up hle) i hi) ?_;simp only[HV];have e:(s==(d.size:Int))=ofB d sec s:=by
   unfold ofB;by_cases h2:s=d.size
   ·simp[h1,h2]
   ·simp[h2]
  rw[e];exact hs.fin 0 rfl _
 ·refine aZd h1 ?_;have e:ofB d sec s=false:=by unfold ofB;simp[h1]
  rw[e];exact hs.fin 0 rfl _
def wrV (d:D)(k sec s ar:Int):Int×D:=
 if bZu k sec s ar=false∨ofB d sec s=false then(1,d)
 else if d.writeE 0 s.toNat≠0 then(d.writeE 0 s.toNat,d.writeD 0 (bZ1 k sec s ar))
 else((d.writeD 0 (bZ1 k sec s ar)).syncE,(d.writeD 0 (bZ1 k sec s ar)).syncD)
theorem rZ9 {p:Nat}{d:D}(hok:Ok d)(hb:d.wr≤1000000∧d.sy≤1000000)(k sec s ar:Int)(hsec:sec≤9223372036854775807):
  Tr prog 58 #[.pointer (some ⟨p,0,none⟩),.agg (bZU k sec s ar)] [Dk p d] fun v M=>v= .int .i64 (wrV d k sec s ar).1∧M=[Dk p (wrV d k sec s ar).2]:=fun H hs=>by
 apply fZo.ok;unfold fZo;refine hs.nw fun b1 H hs=>?_
 refine hs.ldw 1 rfl rfl ?_;cases hg:bZu k sec s ar with
 |false=>
  refine Zc.use (nZw k sec s ar hg H) ?_;simp only[HV];have e:wrV d k sec s ar=(1,d):=by unfold wrV;rw[if_pos (.inl hg)]
  rw[e];exact ZL (by omega) ⟨_,⟨rfl,rfl⟩,hs.re [0] rfl⟩
 |true=>
  refine(Put_ok k sec s ar hg hsec).use hs [] rfl rfl ?_;rintro _ _ H ⟨b,rfl,rfl⟩ hs;simp only[HV];refine ZB rfl ?_;have hs:Sep [pts b (.row (Zw (bZ1 k sec s ar)) 5 s.toNat),Dk p d,pts b1 (.obj (.cells (bZU k sec s ar) 30))] H:=hs;refine hs.ldw 2 rfl rfl ?_;refine Zc.use (nZd hs 1 rfl k sec s ar) ?_;simp only[HV];cases ho:ofB d sec s with
  |false=>
   have e:wrV d k sec s ar=(1,d):=by unfold wrV;rw[if_pos (.inr ho)]
   rw[e];exact aZI rfl ⟨_,⟨rfl,rfl⟩,hs.re [1] rfl⟩
  |true=>
   refine aZq rfl ?_;have hper:0<aZj s:=by
    unfold bZu at hg;simp only[decide_eq_true_eq]at hg;exact hg.2.2.1
   have hl:=iZN k sec s ar hper;refine(dZ9 (p:=p) (d:=d) hok (by omega) 0 (some ⟨b,0,none⟩) s.toNat s.toNat (bZ1 k sec s ar) (by omega) (pts b (.row (Zw (bZ1 k sec s ar)) 5 s.toNat)) (fun H h=>?_)).use hs [1,0] rfl rfl ?_
   ·have:=Cells.row h 0 s.toNat;rw[List.drop_zero,List.take_of_length_le (by rw[ZS];omega)]at this;exact this
   rintro _ _ H ⟨rfl,rfl⟩ hs;simp only[HV];by_cases he:d.writeE 0 s.toNat=0
   ·refine ZB he ?_;have e:wrV d k sec s ar=((d.writeD 0 (bZ1 k sec s ar)).syncE,(d.writeD 0 (bZ1 k sec s ar)).syncD):=by
     unfold wrV;rw[if_neg (by rw[hg,ho];simp),if_neg (by rw[he];simp)]
    have hsy:(d.writeD 0 (bZ1 k sec s ar)).sy=d.sy:=by
     have hbr:=bZ9 d;unfold D.writeD;split
     ·rfl
     ·split
      ·rfl
      ·split
       ·exact hbr.2.2.1
       ·exact hbr.2.2.1
    refine(hZj (p:=p) (d:=d.writeD 0 (bZ1 k sec s ar)) (Ok.writeD hok 0 _) (by rw[hsy];omega)).use hs [0] rfl rfl ?_;rintro _ _ H ⟨rfl,rfl⟩ hs;simp only[HV];rw[e];exact⟨_,⟨rfl,rfl⟩,hs.re [0] rfl⟩
   ·have e:wrV d k sec s ar=(d.writeE 0 s.toNat,d.writeD 0 (bZ1 k sec s ar)):=by
     unfold wrV;rw[if_neg (by rw[hg,ho];simp),if_pos he]
    rw[e];exact ZL he ⟨_,⟨rfl,rfl⟩,hs.re [0] rfl⟩
def rdV (d:D)(bs:List UInt8):Sb×Int:=
 if(aZ6 bs).2≠0 then((0,0,0,0),(aZ6 bs).2)else if ofB d (aZ6 bs).1.2.1 (aZ6 bs).1.2.2.1=true then((aZ6 bs).1,0)else((0,0,0,0),1)
theorem tZu {p:Nat}{d:D}(hok:Ok d)(ho:d.rd≤1000000)(hc:d.chk 0=0)(hb:d.burns=false):
  Tr prog 38 #[.pointer (some ⟨p,0,none⟩)] [Dk p d] fun v M=>v= .tuple #[.agg (sbV (rdV d (d.now 0)).1),.int .i64 (rdV d (d.now 0)).2]∧M=[Dk p { d.burnt with rd:=d.rd+1}]:=fun H hs=>by
 have hnow:=hok.now 0;have hsz:=hok.size;have hbr:=bZ9 d;apply dZZ.ok;unfold dZZ;refine hs.nw fun b1 H hs=>?_
 refine(jZC (p:=p) (d:=d) hok (by omega) 0).use hs [0] rfl rfl ?_;rintro _ _ H (⟨h,_⟩|⟨_,h,_⟩|⟨_,_,b,c,m,rfl,hcc,rfl⟩) hs
 ·exact absurd hc h
 ·rw[hb]at h;cases h
 ·simp only[HV];refine ZB rfl ?_;have hcell:Cells H (some ⟨b,0,none⟩) (Zw (d.now 0)):=by
   have:=Cells.row (hs.get 1 (b:=b) (o:=.row (Zw (d.now 0)) 5 m) rfl) 0 d.size;rw[List.drop_zero,List.take_of_length_le (by rw[ZS];omega)]at this;exact this
  refine Zc.use (hZ9 (some ⟨b,0,none⟩) d.size c hcc (by omega) (d.now 0) hnow.symm H hcell) ?_;simp only[HV];have hof:∀ x y,ofB { d.burnt with rd:=d.rd+1} x y=ofB d x y:=fun x y=>by
   unfold ofB;show decide (x=(d.burnt.sec:Int)∧y=(d.burnt.size:Int))=_
   rw[hbr.2.2.2.2.1,hbr.2.2.2.1]
  unfold rdV;generalize aZ6 (d.now 0)=tv at*;obtain⟨⟨k,sec,s,ar⟩,e⟩:=tv;have hs:Sep [Dk p { d.burnt with rd:=d.rd+1},pts b (.row (Zw (d.now 0)) 5 m),pts b1 (.obj (.cells (bZU 0 0 0 0) 30))] H:=hs;refine hs.nw fun b2 H hs=>?_
  refine hs.stw 3 (y:=bZU k sec s ar) rfl rfl rfl rfl fun H hs=>?_;have hs:Sep [Dk p { d.burnt with rd:=d.rd+1},pts b (.row (Zw (d.now 0)) 5 m),pts b1 (.obj (.cells (bZU 0 0 0 0) 30)),pts b2 (.obj (.cells (bZU k sec s ar) 30))] H:=hs;by_cases he:e=0
  ·refine ZB he ?_;refine hs.ldw 3 rfl rfl ?_;refine Zc.use (nZd hs 0 rfl k sec s ar) ?_;rw[hof];simp only[HV];cases hob:ofB d sec s with
   |false=>
    refine aZI rfl ?_;refine hs.stw 2 rfl rfl rfl rfl fun H hs=>?_;refine hs.ldw 2 rfl rfl ?_;refine⟨_,⟨?_,rfl⟩,hs.re [0] rfl⟩;rw[if_neg (by simpa using he),if_neg (by simp)];rfl
   |true=>
    refine aZq rfl ?_;refine hs.ldw 3 rfl rfl ?_;refine hs.stw 2 rfl rfl rfl rfl fun H hs=>?_;refine hs.ldw 2 rfl rfl ?_;refine⟨_,⟨?_,rfl⟩,hs.re [0] rfl⟩;rw[if_neg (by simpa using he),if_pos rfl];rfl
  ·refine ZL he ?_;refine hs.stw 2 rfl rfl rfl rfl fun H hs=>?_;refine hs.ldw 2 rfl rfl ?_;refine⟨_,⟨?_,rfl⟩,hs.re [0] rfl⟩;rw[if_pos (by simpa using he)];rfl
end Sup
namespace Eng
open Go Go.Hw Go.Form Dsk Str Rec Srt Rng Pln
structure Log (L:List R):Prop where
 u:∀ r∈L,r.u32
 g:∀ r∈L,r.good
 hd:∀ r,L[0]? =some r→r.s=1∧r.kd=1
 ch:∀ i a b,L[i]? =some a→L[i+1]? =some b→after a b
theorem Log.nil :Log []:=⟨fun _ h=>(by cases h),fun _ h=>(by cases h),fun _ h=>(by simp at h),fun _ _ _ h=>(by simp at h)⟩
theorem Log.snoc {L:List R}(h:Log L){r:R}(hg:r.good)(hu:r.u32)(hm:cZI L.getLast? r=true):Log (L++[r]):=by
 refine⟨fun x hx=>?_,fun x hx=>?_,fun x hx=>?_,fun i a b ha hb=>?_⟩
 ·rcases List.mem_append.1 hx with h1|h1
  ·exact h.u x h1
  ·rw[List.mem_singleton.1 h1];exact hu
 ·rcases List.mem_append.1 hx with h1|h1
  ·exact h.g x h1
  ·rw[List.mem_singleton.1 h1];exact hg
 ·cases L with
  |nil=>
   have:r=x:=by simpa using hx
   subst this;exact of_decide_eq_true hm
  |cons y L=>exact h.hd x (by simpa using hx)
 ·have hb2:=hb;rw[List.getElem?_append]at ha hb;have hlt:=(List.getElem?_eq_some_iff.1 hb2).1;rw[List.length_append,List.length_singleton]at hlt;rw[if_pos (by omega)]at ha;by_cases e:i+1<L.length
  ·rw[if_pos e]at hb;exact h.ch i a b ha hb
  ·rw[if_neg e]at hb;have e2:i+1-L.length=0:=by omega
   rw[e2]at hb;have:r=b:=by simpa using hb
   subst this;have hl:L.getLast? =some a:=by rw[List.getLast?_eq_getElem?,show L.length-1=i by omega];exact ha
   rw[hl]at hm;exact of_decide_eq_true hm
theorem Log.init {L:List R}{r:R}(h:Log (L++[r])):Log L∧r.good∧r.u32∧cZI L.getLast? r=true:=by
 refine⟨⟨fun x hx=>h.u x (List.mem_append_left _ hx),fun x hx=>h.g x (List.mem_append_left _ hx),fun x hx=>?_,fun i a b ha hb=>?_⟩,h.g r (by simp),h.u r (by simp),?_⟩
 ·exact h.hd x (by rw[List.getElem?_append_left (List.getElem?_eq_some_iff.1 hx).1];exact hx)
 ·exact h.ch i a b (by rw[List.getElem?_append_left (List.getElem?_eq_some_iff.1 ha).1];exact ha) (by rw[List.getElem?_append_left (List.getElem?_eq_some_iff.1 hb).1];exact hb)
 ·cases hl:L.getLast? with
  |none=>
   rw[List.getLast?_eq_none_iff]at hl;subst hl;exact decide_eq_true (h.hd r (by simp))
  |some a=>
   have hn:L≠ []:=fun e=>by rw[e]at hl;simp at hl
   have hp:=List.length_pos_iff.2 hn;rw[List.getLast?_eq_getElem?]at hl;refine decide_eq_true (h.ch (L.length-1) a r ?_ ?_)
   ·rw[List.getElem?_append_left (by omega)];exact hl
   ·rw[show L.length-1+1=L.length by omega,List.getElem?_append_right (Nat.le_refl _),Nat.sub_self];rfl
theorem Log.num {L:List R}(h:Log L):∀ i a,L[i]? =some a→a.s=i+1
 |0,a,ha=>(h.hd a ha).1
 |i+1,a,ha=>by
  have hlt:=(List.getElem?_eq_some_iff.1 ha).1;have hb:L[i]? =some L[i]:=List.getElem?_eq_getElem (by omega);have:=h.num i _ hb;have h2:=(h.ch i _ a hb ha).2.2.1;omega
theorem Log.last {L:List R}(h:Log L){r:R}(hr:L.getLast? =some r):r.good∧r.u32∧r.s=L.length:=by
 have hn:L≠ []:=fun e=>by rw[e]at hr;simp at hr
 have hp:=List.length_pos_iff.2 hn;have hm:r∈L:=List.mem_of_getLast? hr;rw[List.getLast?_eq_getElem?]at hr;have:=h.num _ _ hr;exact⟨h.g r hm,h.u r hm,by omega⟩
def lZm (size:Nat)(L:List R):Nat→List UInt8:=L.foldl (fun f r=>fun j=>if j=(r.s-1)%8 then r.form size else f j) (fun _=>List.replicate size 0)
theorem iZL (size:Nat)(L:List R)(r:R)(j:Nat):lZm size (L++[r]) j=if j=(r.s-1)%8 then r.form size else lZm size L j:=by
 unfold lZm;rw[List.foldl_append];rfl
def Ring (size:Nat)(L:List R)(c:Cn):Prop:=∀ i,i<8→c ((1+i:Nat):Int)=lZm size L i
theorem sZm (c:Cn)(k:Nat)(a b:List UInt8):bZB (bZB c k a) k b=bZB c k b:=funext fun i=>by
 unfold bZB;split<;>rfl
theorem vZn (c:Cn)(k:Nat):bZB c k (c k)=c:=funext fun i=>by
 unfold bZB;split
 ·rename_i h;rw[h]
 ·rfl
theorem jZR (c:Cn)(k:Nat)(b:List UInt8):bZB c k b k=b:=if_pos rfl
theorem iZp (c:Cn){k:Nat}(b:List UInt8){i:Int}(h:i≠k):bZB c k b i=c i:=if_neg h
theorem Ring.upd {size:Nat}{L:List R}{c:Cn}(h:Ring size L c)(r:R):Ring size (L++[r]) (bZB c (aZW 1 8 r.s) (r.form size)):=fun i hi=>by
 rw[iZL];unfold aZW;by_cases e:i=(r.s-1)%8
 ·rw[if_pos e,e,jZR]
 ·rw[if_neg e,iZp _ _ (by omega)];exact h i hi
theorem qZq {size:Nat}(hs:secB (size:Int)=true):(aZ6 (List.replicate size 0)).2≠0:=by
 unfold Rec.aZ6;rw[List.length_replicate,if_pos hs,if_neg]
 ·decide
 ·intro h;have:ZC (List.replicate size 0) 0=0:=by
   unfold ZC;rw[List.drop_zero,List.take_replicate,Sup.kZo]
  rw[this]at h;exact absurd h.1 (by decide)
theorem Ring.last {size:Nat}(hsec:secB (size:Int)=true):∀(n:Nat) {L:List R} {c:Cn},L.length=n→Log L→Ring size L c→lastC c 1 8=L.getLast?
 |0,L,c,hl,h,hr=>by
  have e:L=[]:=List.length_eq_zero_iff.1 hl;subst e;refine(iZ7 _).2 ?_;refine List.eq_nil_iff_forall_not_mem.2 fun x hx=>?_
  obtain⟨j,_,h2,h3⟩:=(hZl c 1 8 x 8 0).1 hx;rw[hr j (by omega),jZr]at h3;exact qZq hsec h3.1
 |n+1,L,c,hl,h,hr=>by
  have hn:L≠ []:=fun e=>by rw[e]at hl;simp at hl
  obtain⟨L',r,rfl⟩:∃ L' r,L=L'++[r]:=⟨L.dropLast,L.getLast hn,(List.dropLast_concat_getLast hn).symm⟩;obtain⟨h1,h2,h3,h4⟩:=h.init;have hsl:=hZD (f:=1) (n:=8) (s:=r.s) (by omega);have hk:aZW 1 8 r.s=1+(r.s-1)%8:=rfl;have hm:=Nat.mod_lt (r.s-1) (show 8>0 by omega)
  let c':Cn:=bZB c (aZW 1 8 r.s) (lZm size L' ((r.s-1)%8))
  have hr':Ring size L' c':=fun i hi=>by
   have:=hr i hi;rw[iZL]at this;show bZB c (aZW 1 8 r.s) _ _=_
   by_cases e:i=(r.s-1)%8
   ·subst e;rw[← hk,jZR]
   ·rw[iZp _ _ (by omega),this,if_neg e]
  have ih:=Ring.last hsec n (by simpa using hl) h1 hr';have hsz:=vZb hsec;have hup:=tZa (c:=c') (f:=1) (n:=8) (size:=size) (by omega) (by omega) hsec h2 h3 (by rw[ih];exact h4);have e:bZB c' (aZW 1 8 r.s) (r.form size)=c:=by
   show bZB (bZB c _ _) _ _=c
   rw[sZm];have:=hr ((r.s-1)%8) hm;rw[iZL,if_pos rfl,←hk]at this;rw[← this,vZn]
  rw[e]at hup;rw[hup,List.getLast?_append];rfl
def cw (c:Cn)(per f i:Nat):UInt64:=((aZO (c ((f+i/per:Nat):Int)))[i%per]?).getD 0
def cws (c:Cn)(per f n:Nat):List UInt64:=(List.range n).map (cw c per f)
theorem uZC (c:Cn)(per f n:Nat):(cws c per f n).length=n:=by simp[cws]
theorem wZE {d:D}{c:Cn}(h:∀ i,d.now i=c i)(x:X)(i:Nat):pw d x i=cw c (D.per d) x.f i:=by unfold pw cw;rw[h]
theorem gZl {d:D}{c:Cn}(h:∀ i,d.now i=c i)(x:X)(n:Nat):pws d x 0 n=cws c (D.per d) x.f n:=by
 unfold pws cws;apply List.map_congr_left;intro i _;rw[Nat.zero_add,wZE h]
theorem lZN {c c':Cn}{per f n s:Nat}(hp:1≤per)(hn:n≤s*per)(h:∀ i:Nat,i<s→c' ((f+i:Nat):Int)=c ((f+i:Nat):Int)):cws c' per f n=cws c per f n:=by
 unfold cws;apply List.map_congr_left;intro i hi;have hi:=List.mem_range.1 hi;have:i/per<s:=Nat.div_lt_of_lt_mul (by rw[Nat.mul_comm];omega);unfold cw;rw[h _ this]
def eZC (l:List UInt64):Nat:=(Go.Crc.sum (form l)).toNat
theorem oZ9 (l:List UInt64):eZC l<4294967296:=(Go.Crc.sum (form l)).isLt
structure Mn where
 most:Nat
 arena:Nat
 L:List R
 inp:List UInt64
def exX (most per i k:Nat):X:=⟨9+i*Lay.aZe most per,Lay.aZe k per,2^k⟩
def fZv (r:R):Bool:=decide (r.dir=1)
def aZ8 (m:Mn)(per:Nat)(r:R):List Pz:=bZO (fZv r) r.kk.toNat per m.arena
structure kZJ (m:Mn)(per:Nat)(c:Cn)(r:R):Prop where
 len:m.inp.length=2^r.kk.toNat
 can:∀ w∈m.inp,w.toNat<18446744069414584321
 sum:r.inp=eZC m.inp
 ws:cws c per 9 (2^r.kk.toNat)=m.inp
structure kZM (m:Mn)(per:Nat)(c:Cn)(r:R):Prop where
 ps:r.ps.toNat≤(aZ8 m per r).length
 ws:∀ p,(aZ8 m per r)[r.ps.toNat-1]? =some p→cws c per (9+p.o*Lay.aZe m.most per) (2^r.kk.toNat)=apL ((aZ8 m per r).take r.ps.toNat) m.inp
 sum:r.out=eZC (apL ((aZ8 m per r).take r.ps.toNat) m.inp)
structure Holds (sec size:Nat)(m:Mn)(c:Cn):Prop where
 sup:c 0=Sup.bZ1 m.most sec size m.arena
 good:Sup.bZu m.most sec size m.arena=true
 least:bZn m.most (size/8)≤m.arena
 log:Log m.L
 ring:Ring size m.L c
 kk:∀ r,m.L.getLast? =some r→r.kk≤m.most
 inp:∀ r,m.L.getLast? =some r→2≤r.kd→kZJ m (size/8) c r
 out:∀ r,m.L.getLast? =some r→r.kd=4→kZM m (size/8) c r
def lZD (size:Nat)(c:Cn):Prop:=c 0=List.replicate size 0
def wZN (sec size:Nat):Option Mn→Cn→Prop
 |none,c=>lZD size c
 |some m,c=>Holds sec size m c
end Eng
namespace Eng
open Go Go.Hw Go.Form Dsk Str Rec Srt Rng Pln Trn
theorem jZN {k p:Nat}(hp:1≤p):2^k≤Lay.aZe k p*p:=by
 have h1:=Nat.two_pow_pos k;have h2:=Nat.div_add_mod (2^k-1) p;have h3:=Nat.mod_lt (2^k-1) (show p>0 by omega);unfold Lay.aZe;rw[Nat.add_mul,Nat.mul_comm,Nat.one_mul];omega
theorem hZU {k m p:Nat}(h:k≤m):Lay.aZe k p≤Lay.aZe m p:=by
 have h1:2^k≤2^m:=Nat.pow_le_pow_right (by omega) h;unfold Lay.aZe;have:=Nat.div_le_div_right (c:=p) (show 2^k-1≤2^m-1 by omega);omega
theorem eZH {s:Nat}(h:0<Lay.aZj s):Lay.aZj s=s/8∧4≤s/8∧s/8≤512∧8*(s/8)=s:=by
 have:s=32∨s=64∨s=128∨s=256∨s=512∨s=1024∨s=2048∨s=4096:=by
  unfold Lay.aZj at h
  repeat' split at h
  all_goals omega
 rcases this with e|e|e|e|e|e|e|e<;>subst e<;>decide
theorem dZa {m sec s:Nat}{ar:Int}(h:Sup.bZu (m:Int) sec s ar=true):m≤32∧0<Lay.aZj s∧Lay.bZy m (s/8)≤sec∧1≤ar∧ar≤16777216:=by
 have h1:=of_decide_eq_true h;have h3:=h1.2.2.1;have h2:=eZH h3;rw[h2.1,Int.toNat_natCast]at h1;exact⟨by omega,h3,by omega,h1.2.2.2.2⟩
theorem pZa {c c':Cn}{per most i k:Nat}(hp:1≤per)(h:∀ j:Nat,j<Lay.aZe k per→c' ((9+i*Lay.aZe most per+j:Nat):Int)=c ((9+i*Lay.aZe most per+j:Nat):Int)):
  cws c' per (9+i*Lay.aZe most per) (2^k)=cws c per (9+i*Lay.aZe most per) (2^k):=lZN hp (jZN hp) h
theorem Holds.per {sec size:Nat}{m:Mn}{c:Cn}(h:Holds sec size m c):4≤size/8∧size/8≤512∧8*(size/8)=size:=(eZH (dZa h.good).2.1).2
theorem Holds.sam {sec size:Nat}{m:Mn}{c c':Cn}(h:Holds sec size m c)(h0:∀ i:Nat,i≤8→c' (i:Int)=c (i:Int))
  (h1:∀ r,m.L.getLast? =some r→2≤r.kd→∀ j:Nat,j<Lay.aZe r.kk.toNat (size/8)→c' ((9+j:Nat):Int)=c ((9+j:Nat):Int))
  (h2:∀ r,m.L.getLast? =some r→r.kd=4→∀ p,(aZ8 m (size/8) r)[r.ps.toNat-1]? =some p→∀ j:Nat,j<Lay.aZe r.kk.toNat (size/8)→c' ((9+p.o*Lay.aZe m.most (size/8)+j:Nat):Int)=c ((9+p.o*Lay.aZe m.most (size/8)+j:Nat):Int)):Holds sec size m c':=by
 have hp:=h.per;refine⟨(h0 0 (by omega)).trans h.sup,h.good,h.least,h.log,fun i hi=>(h0 (1+i) (by omega)).trans (h.ring i hi),h.kk,fun r hr hk=>?_,fun r hr hk=>?_⟩
 ·have q:=h.inp r hr hk;refine⟨q.len,q.can,q.sum,?_⟩;rw[lZN (f:=9) (by omega) (jZN (show 1≤size/8 by omega)) (h1 r hr hk)];exact q.ws
 ·have q:=h.out r hr hk;refine⟨q.ps,fun p hp'=>?_,q.sum⟩;rw[pZa (by omega) (h2 r hr hk p hp')];exact q.ws p hp'
theorem pZK {c:Cn}{s:Nat}{b:List UInt8}{j:Nat}(hj:9≤j):bZB c (aZW 1 8 s) b (j:Int)=c (j:Int):=by
 have:=hZD (f:=1) (n:=8) (s:=s) (by omega);exact iZp _ _ (by omega)
theorem kZJ.upd {m:Mn}{per:Nat}{c:Cn}{r:R}(h:kZJ m per c r)(hp:1≤per)(s:Nat)(b:List UInt8):kZJ m per (bZB c (aZW 1 8 s) b) r:=
 ⟨h.len,h.can,h.sum,by rw[lZN (f:=9) hp (jZN hp) (fun j _=>pZK (by omega))];exact h.ws⟩
theorem kZM.upd {m:Mn}{per:Nat}{c:Cn}{r:R}(h:kZM m per c r)(hp:1≤per)(s:Nat)(b:List UInt8):kZM m per (bZB c (aZW 1 8 s) b) r:=
 ⟨h.ps,fun p hp'=>by rw[pZa hp (fun j _=>pZK (by omega))];exact h.ws p hp',h.sum⟩
theorem Holds.app {sec size:Nat}{m:Mn}{c:Cn}(h:Holds sec size m c){r:R}(hg:r.good)(hu:r.u32)(hm:cZI m.L.getLast? r=true)(hkk:r.kk≤m.most)
  (hi:2≤r.kd→kZJ m (size/8) c r) (ho:r.kd=4→kZM m (size/8) c r):Holds sec size { m with L:=m.L++[r]} (bZB c (aZW 1 8 r.s) (r.form size)):=by
 have hp:=h.per;have hsl:=hZD (f:=1) (n:=8) (s:=r.s) (by omega);have hl:∀ x,(m.L++[r]).getLast? =some x→x=r:=fun x hx=>by
  rw[List.getLast?_append]at hx;have:r=x:=by simpa using hx
  exact this.symm
 refine⟨?_,h.good,h.least,h.log.snoc hg hu hm,h.ring.upd r,fun x hx=>?_,fun x hx hk=>?_,fun x hx hk=>?_⟩
 ·rw[iZp _ _ (by omega)];exact h.sup
 ·rw[hl x hx];exact hkk
 ·obtain rfl:=hl x hx;have q:=(hi hk).upd (show 1≤size/8 by omega) x.s (x.form size);exact⟨q.len,q.can,q.sum,q.ws⟩
 ·obtain rfl:=hl x hx;have q:=(ho hk).upd (show 1≤size/8 by omega) x.s (x.form size);exact⟨q.ps,q.ws,q.sum⟩
theorem Holds.target {sec size:Nat}{m:Mn}{c c':Cn}(h:Holds sec size m c){t k:Nat}(hk:k≤m.most)(ht:∀ r,m.L.getLast? =some r→2≤r.kd→t≠0)
  (ho:∀ r,m.L.getLast? =some r→r.kd=4→∀ p,(aZ8 m (size/8) r)[r.ps.toNat-1]? =some p→t≠p.o) (hs:Sam (inX (exX m.most (size/8) t k)) c c'):Holds sec size m c':=by
 have hp:=h.per;have hrk:Lay.aZe k (size/8)≤Lay.aZe m.most (size/8):=hZU hk;generalize hR:Lay.aZe m.most (size/8)=Rm at hrk;have ext:∀(i j:Nat) (r:R),m.L.getLast? =some r→i≠t→j<Lay.aZe r.kk.toNat (size/8)→c' ((9+i*Rm+j:Nat):Int)=c ((9+i*Rm+j:Nat):Int):=fun i j r hr hit hj=>by
  have h1:=h.kk r hr;have h2:=(h.log.last hr).1;have hkr:Lay.aZe r.kk.toNat (size/8)≤Rm:=by rw[← hR];exact hZU (by omega)
  apply hs;unfold inX exX;simp only[hR];rintro⟨a,b⟩;rcases Nat.lt_or_gt_of_ne hit with hlt|hlt
  ·have:(i+1)*Rm≤t*Rm:=Nat.mul_le_mul_right _ hlt;rw[Nat.succ_mul]at this;omega
  ·have:(t+1)*Rm≤i*Rm:=Nat.mul_le_mul_right _ hlt;rw[Nat.succ_mul]at this;omega
 refine h.sam (fun i hi=>hs _ ?_) (fun r hr hkd j hj=>?_) fun r hr hkd p hp' j hj=>?_
 ·unfold inX exX;rintro⟨a,b⟩;have:(0:Int)≤(t*Lay.aZe m.most (size/8):Nat):=Int.natCast_nonneg _;simp only at a;omega
 ·have:=ext 0 j r hr (fun e=>ht r hr hkd e.symm) hj;rw[Nat.zero_mul,Nat.add_zero]at this;exact this
 ·rw[hR];exact ext p.o j r hr (fun e=>ho r hr hkd p hp' e.symm) hj
def Mn.r (m:Mn):R:=m.L.getLast?.getD bZk
theorem Mn.r_some {m:Mn}{r:R}(h:m.L.getLast? =some r):m.r=r:=by unfold Mn.r;rw[h];rfl
theorem Mn.r_or (m:Mn):(m.L=[]∧m.r=bZk)∨m.L.getLast? =some m.r:=by
 cases h:m.L.getLast? with
 |none=>exact .inl ⟨List.getLast?_eq_none_iff.1 h,by unfold Mn.r;rw[h];rfl⟩
 |some r=>exact .inr (by rw[Mn.r_some h])
theorem Mn.r_kd {m:Mn}(h:m.r.kd≠0):m.L.getLast? =some m.r:=by
 rcases m.r_or with⟨_,e⟩|e
 ·rw[e]at h;exact absurd rfl h
 ·exact e
def Mn.add (m:Mn)(r:R):Mn:={ m with L:=m.L++[r]}
theorem Mn.add_r (m:Mn)(r:R):(m.add r).r=r:=by unfold Mn.r Mn.add;simp
theorem Mn.add_last (m:Mn)(r:R):(m.add r).L.getLast? =some r:=by unfold Mn.add;simp
structure Small (B:Nat)(m:Mn):Prop where
 len:m.L.length≤B
 ld:m.r.ld≤B
theorem Small.add {B:Nat}{m:Mn}(h:Small B m){r:R}(hr:r.ld≤B+1):Small (B+1) (m.add r):=⟨by unfold Mn.add;have:=h.len;simp;omega,by rw[Mn.add_r];exact hr⟩
def Mn.seq (m:Mn):Nat:=m.L.length+1
theorem Mn.seq_r {sec size:Nat}{m:Mn}{c:Cn}(h:Holds sec size m c):m.r.s+1=m.seq:=by
 rcases m.r_or with⟨e1,e2⟩|e
 ·rw[e2];unfold Mn.seq;rw[e1];rfl
 ·have:=(h.log.last e).2.2;unfold Mn.seq;omega
def cZp (m:Mn)(k:Nat):R:=⟨m.seq,1,k,0,0,m.r.ld+1,0,0⟩
def cZ6 (m:Mn)(k:Nat)(l:List UInt64):R:=⟨m.seq,2,k,0,0,m.r.ld,eZC l,0⟩
def cZo (m:Mn)(d:Bool):R:=⟨m.seq,3,m.r.kk,if d=true then 1 else 0,0,m.r.ld,m.r.inp,0⟩
def bZI (m:Mn)(per:Nat):R:=⟨m.seq,4,m.r.kk,m.r.dir,m.r.ps+1,m.r.ld,m.r.inp,eZC (apL ((aZ8 m per m.r).take (m.r.ps.toNat+1)) m.inp)⟩
section
variable {sec size : Nat} {m : Mn} {c : Cn} (h : Holds sec size m c) {B : Nat} (hs : Small B m) (hB : B ≤ 1000000)
include h hs hB
theorem vZr {k:Nat}(hk:k≤m.most):(cZp m k).good∧(cZp m k).u32∧cZI m.L.getLast? (cZp m k)=true∧Holds sec size (m.add (cZp m k)) (bZB c (aZW 1 8 m.seq) ((cZp m k).form size)):=by
 have hg:=dZa h.good;have hl:=hs.len;have hd:=hs.ld;have hsq:m.seq=m.L.length+1:=rfl;have g:(cZp m k).good:=⟨by show 1≤m.seq;omega,by show m.seq<_;omega,by show(0:Int)≤k;omega,by show(k:Int)≤32;omega,.inl rfl,.inl ⟨rfl,rfl,rfl,rfl,rfl⟩⟩;have u:(cZp m k).u32:=⟨by show m.r.ld+1<_;omega,by show 0<_;omega,by show 0<_;omega⟩;have may:cZI m.L.getLast? (cZp m k)=true:=by
  have hsr:=Mn.seq_r h;rcases m.r_or with⟨e1,e2⟩|e
  ·rw[e1];exact decide_eq_true ⟨by show m.seq=1;rw[hsq,e1];rfl,rfl⟩
  ·rw[e];exact decide_eq_true ⟨(h.log.last e).1,g,by show m.seq=_;omega,.inl rfl⟩
 exact⟨g,u,may,h.app g u may (by show(k:Int)≤m.most;omega) (fun h2=>absurd h2 (show ¬(2:Int)≤1 by omega)) (fun h4=>absurd h4 (show ¬(1:Int)=4 by omega))⟩
theorem uZP {k:Nat}(hk:m.r.kd=1)(hkk:m.r.kk=k){l:List UInt64}(hl:l.length=2^k)(hcan:∀ w∈l,w.toNat<18446744069414584321)(hw:cws c (size/8) 9 (2^k)=l):
  (cZ6 m k l).good∧(cZ6 m k l).u32∧cZI m.L.getLast? (cZ6 m k l)=true∧Holds sec size ({ m with inp:=l}.add (cZ6 m k l)) (bZB c (aZW 1 8 m.seq) ((cZ6 m k l).form size)):=by
 have hg:=dZa h.good;have hlen:=hs.len;have hd:=hs.ld;have hsq:m.seq=m.L.length+1:=rfl;have e:=Mn.r_kd (m:=m) (by omega);have hkm:=h.kk _ e;have hm:Holds sec size { m with inp:=l} c:=⟨h.sup,h.good,h.least,h.log,h.ring,h.kk,fun r hr h2=>by
  have e1:m.L.getLast? =some r:=hr;rw[e]at e1;cases e1;omega,fun r hr h4=>by
  have e1:m.L.getLast? =some r:=hr;rw[e]at e1;cases e1;omega⟩
 have g:(cZ6 m k l).good:=⟨by show 1≤m.seq;omega,by show m.seq<_;omega,by show(0:Int)≤k;omega,by show(k:Int)≤32;omega,.inl rfl,.inr (.inl ⟨rfl,rfl,rfl,rfl⟩)⟩;have u:(cZ6 m k l).u32:=⟨by show m.r.ld<_;omega,oZ9 l,by show 0<_;omega⟩;have may:cZI m.L.getLast? (cZ6 m k l)=true:=by
  have hsr:=Mn.seq_r h;rw[e];exact decide_eq_true ⟨(h.log.last e).1,g,by show m.seq=_;omega,.inr (.inl ⟨rfl,hk,rfl,hkk⟩)⟩
 exact⟨g,u,may,hm.app g u may (by show(k:Int)≤m.most;omega) (fun _=>⟨by show l.length=2^((k:Int).toNat);rw[Int.toNat_natCast];exact hl,hcan,rfl,by show cws c _ 9 (2^((k:Int).toNat))=l;rw[Int.toNat_natCast];exact hw⟩) (fun h4=>absurd h4 (show ¬(2:Int)=4 by omega))⟩
theorem vZi (hk:2≤m.r.kd)(d:Bool):(cZo m d).good∧(cZo m d).u32∧cZI m.L.getLast? (cZo m d)=true∧Holds sec size (m.add (cZo m d)) (bZB c (aZW 1 8 m.seq) ((cZo m d).form size)):=by
 have hg:=dZa h.good;have hlen:=hs.len;have hd:=hs.ld;have hsq:m.seq=m.L.length+1:=rfl;have e:=Mn.r_kd (m:=m) (by omega);have hkm:=h.kk _ e;have hr:=h.log.last e;have hi:=h.inp _ e hk;have g:(cZo m d).good:=⟨by show 1≤m.seq;omega,by show m.seq<_;omega,hr.1.2.2.1,hr.1.2.2.2.1,by show(if d=true then(1:Int)else 0)=0∨(if d=true then(1:Int)else 0)=1;cases d<;>simp,.inr (.inr (.inl ⟨rfl,rfl⟩))⟩;have u:(cZo m d).u32:=⟨by show m.r.ld<_;omega,hr.2.1.inp,by show 0<_;omega⟩;have may:cZI m.L.getLast? (cZo m d)=true:=by
  have hsr:=Mn.seq_r h;rw[e];exact decide_eq_true ⟨hr.1,g,by show m.seq=_;omega,.inr (.inr (.inl ⟨rfl,by omega,rfl,rfl,rfl,rfl⟩))⟩
 exact⟨g,u,may,h.app g u may hkm (fun _=>⟨hi.len,hi.can,hi.sum,hi.ws⟩) (fun h4=>absurd h4 (show ¬(3:Int)=4 by omega))⟩
end
theorem jZe (d:Bool)(k per words:Nat):1≤(bZO d k per words).length∧(bZO d k per words).length≤5:=by
 unfold bZO fZ4;split<;>simp
theorem lZi (d:Bool)(k per words:Nat):∀ i p,(bZO d k per words)[i]? =some p→(1≤p.o∧p.o≤3∧p.o≠p.f)∧(i=0→p.f=0)∧∀ q,(bZO d k per words)[i-1]? =some q→1≤i→p.f=q.o:=by
 intro i p hp;unfold bZO at hp⊢;split at hp
 ·rename_i hb
  rw[if_pos hb];rcases i with _|i
  ·cases hp;exact⟨⟨by show 1≤3;omega,by show 3≤3;omega,by show(3:Nat)≠0;omega⟩,fun _=>rfl,fun q _ h=>by omega⟩
  ·simp at hp
 ·rename_i hb
  rw[if_neg hb];unfold fZ4 at hp⊢;rcases i with _|_|_|_|_|i
  all_goals first|(cases hp;exact⟨⟨by simp,by simp,by simp⟩,fun h=>by first|rfl|omega,fun q hq h=>by first|omega|(cases hq;rfl)⟩)|simp at hp
theorem R.ps_nn {r:R}(h:r.good):0≤r.ps:=by
 obtain⟨_,_,_,_,_,h|h|h|h⟩:=h<;>omega
section
variable {sec size : Nat} {m : Mn} {c : Cn} (h : Holds sec size m c) {B : Nat} (hs : Small B m) (hB : B ≤ 1000000)
include h hs hB
theorem uZY (hk:3≤m.r.kd){p:Pz}(hp:(aZ8 m (size/8) m.r)[m.r.ps.toNat]? =some p)(hw:cws c (size/8) (9+p.o*Lay.aZe m.most (size/8)) (2^m.r.kk.toNat)=apL ((aZ8 m (size/8) m.r).take (m.r.ps.toNat+1)) m.inp):
  (bZI m (size/8)).good∧(bZI m (size/8)).u32∧cZI m.L.getLast? (bZI m (size/8))=true∧Holds sec size (m.add (bZI m (size/8))) (bZB c (aZW 1 8 m.seq) ((bZI m (size/8)).form size)):=by
 have hg:=dZa h.good;have hlen:=hs.len;have hd:=hs.ld;have hsq:m.seq=m.L.length+1:=rfl;have e:=Mn.r_kd (m:=m) (by omega);have hkm:=h.kk _ e;have hr:=h.log.last e;have hi:=h.inp _ e (by omega);have hps:=R.ps_nn hr.1;have hlt:=(List.getElem?_eq_some_iff.1 hp).1;have hl5:=(jZe (fZv m.r) m.r.kk.toNat (size/8) m.arena).2;have hl5:(aZ8 m (size/8) m.r).length≤5:=hl5;have g:(bZI m (size/8)).good:=⟨by show 1≤m.seq;omega,by show m.seq<_;omega,hr.1.2.2.1,hr.1.2.2.2.1,hr.1.2.2.2.2.1,.inr (.inr (.inr ⟨rfl,by show 1≤m.r.ps+1;omega,by show m.r.ps+1≤7;omega⟩))⟩;have u:(bZI m (size/8)).u32:=⟨by show m.r.ld<_;omega,hr.2.1.inp,oZ9 _⟩;have may:cZI m.L.getLast? (bZI m (size/8))=true:=by
  have hsr:=Mn.seq_r h;rw[e];exact decide_eq_true ⟨hr.1,g,by show m.seq=_;omega,.inr (.inr (.inr ⟨rfl,hk,rfl,rfl,rfl,rfl,rfl⟩))⟩
 have ept:(bZI m (size/8)).ps.toNat=m.r.ps.toNat+1:=by show(m.r.ps+1).toNat=_;omega
 have epl:aZ8 m (size/8) (bZI m (size/8))=aZ8 m (size/8) m.r:=rfl;refine⟨g,u,may,h.app g u may hkm (fun _=>⟨hi.len,hi.can,hi.sum,hi.ws⟩) fun _=>⟨?_,fun q hq=>?_,?_⟩⟩
 ·rw[ept,epl];omega
 ·rw[ept,epl,Nat.add_sub_cancel,hp]at hq;cases hq;rw[ept,epl];exact hw
 ·rw[ept,epl];rfl
theorem wZi (hk:3≤m.r.kd){p:Pz}(hp:(aZ8 m (size/8) m.r)[m.r.ps.toNat]? =some p):
  cws c (size/8) (9+p.f*Lay.aZe m.most (size/8)) (2^m.r.kk.toNat)=apL ((aZ8 m (size/8) m.r).take m.r.ps.toNat) m.inp∧(if m.r.ps=0 then m.r.inp else m.r.out)=eZC (apL ((aZ8 m (size/8) m.r).take m.r.ps.toNat) m.inp)∧
  (∀ q,m.r.kd=4→(aZ8 m (size/8) m.r)[m.r.ps.toNat-1]? =some q→p.o≠q.o):=by
 have e:=Mn.r_kd (m:=m) (by omega);have hr:=h.log.last e;have hi:=h.inp _ e (by omega);have ends:=lZi (fZv m.r) m.r.kk.toNat (size/8) m.arena _ p hp;have hps:=R.ps_nn hr.1;have h4:m.r.kd=3∧m.r.ps=0∨m.r.kd=4∧1≤m.r.ps:=by
  obtain⟨_,_,_,_,_,h|h|h|h⟩:=hr.1<;>omega
 rcases h4 with⟨k3,p0⟩|⟨k4,p1⟩
 ·have:m.r.ps.toNat=0:=by omega
  rw[this]at ends hp⊢;rw[ends.2.1 rfl,Nat.zero_mul,Nat.add_zero,if_pos p0];refine⟨hi.ws,hi.sum,fun q hq=>by omega⟩
 ·have ho:=h.out _ e k4;have hlt:=(List.getElem?_eq_some_iff.1 hp).1;have hq:(aZ8 m (size/8) m.r)[m.r.ps.toNat-1]? =some (aZ8 m (size/8) m.r)[m.r.ps.toNat-1]:=List.getElem?_eq_getElem (by omega);have hf:=ends.2.2 _ hq (by omega);rw[if_neg (by omega),hf];refine⟨ho.ws _ hq,ho.sum,fun q _ hq'=>?_⟩;rw[hq]at hq';cases hq';rw[← hf];exact ends.1.2.2
end
end Eng
namespace Str
open Go Go.Hw Go.Form W Dsk Are
section
variable {p q dp ap bp bq bt b rb mb : Nat} {d : D} {x y : X} {cap peak : Int} {bufs : List (Nat × Nat × Option Addr)} {ws : List UInt64}
end
structure tZY (d d':D)(x y:X)(i k:Nat):Prop where
 ok:Ok d'
 calm:Calm d'
 size:d'.size=d.size
 sec:d'.sec=d.sec
 rd:d'.rd≤d.rd+1000*i
 wr:d'.wr≤d.wr+1000*i
 src:∀ j,j<x.w→pw d' x j=pw d x j
 dst:∀ j,j<k→pw d' y j=pw d x j
theorem tZY.per {d d':D}{x y:X}{i k:Nat}(h:tZY d d' x y i k):D.per d'=D.per d:=by unfold D.per;rw[h.size]
theorem kZG {P:Program}{g:FuncId}{t:TypeId}{k:IntKind}{n:Int}{K:Value→Prop}(h:bZx P g=[t])(hu:P.underlying t=some (.int k))(hk:K (.int k n)):DR P (bZx P g) (.int k n) K:=by
 rw[h];show DT P t _ K
 unfold DT;rw[hu];simpa using hk
section
variable {p q dp ap bp bq bt b rb mb vb : Nat} {d : D} {x y : X} {cap peak P1 : Int} {bufs : List (Nat × Nat × Option Addr)}
theorem uZT {per left:Nat}{l:Int}(h:l=left):(if(per:Int)<l then(per:Int)else l)=((if per<left then per else left:Nat):Int):=by
 subst h;by_cases c:per<left
 ·rw[if_pos c,if_pos (by omega)]
 ·rw[if_neg c,if_neg (by omega)]
end
section
variable {p q dp ap : Nat} {d : D} {x y : X} {cap peak : Int} {bufs : List (Nat × Nat × Option Addr)}
end
theorem wZP (a b c d e:Value):((#[]++ #[a,b,c])++ #[d,e]:Array Value)=#[a,b,c,d,e]:=rfl
section
variable {p dp ap bp : Nat} {d : D} {x : X} {cap peak : Int} {bufs : List (Nat × Nat × Option Addr)} {B : As}
def kZZ (p dp ap bp b rb mb vb:Nat)(d:D)(x:X)(cap pk:Int)(bufs:List (Nat×Nat×Option Addr))(per:Nat)(ws:List UInt64)(B:As):List As:=
 [pts p (ZO dp ap x),Dk dp d,Ar ap cap pk (bufs++[(b,per,some ⟨rb,0,none⟩)]),pts rb (.row (Zd ws) 84 mb),pts bp (.obj (.cells #[.pointer (some ⟨p,0,none⟩)] 157)),B,pts vb (.row [.pointer (some ⟨b,0,none⟩)] 206 1)]
theorem oZL (K:Value→Hp→Prop)(f:FuncId)(C:Array Value)(hok:Ok d)(hcap:(D.per d:Int)≤cap-ZM bufs){H:Hp}
  (hs:Sep [pts p (ZO dp ap x),Dk dp d,Ar ap cap peak bufs,pts bp (.obj (.cells #[.pointer (some ⟨p,0,none⟩)] 157)),B] H)
  (k:∀ b rb vb H,(∀ z∈bufs,z.1≠b)→Sep (kZZ p dp ap bp b rb (D.per d) vb d x cap (mx peak (ZM bufs+D.per d)) bufs (D.per d) (List.replicate (D.per d) 0) B) H→
   ∃ t,ZQ.l6 K t (some ⟨p,0,none⟩) f #[] C (some ⟨b,0,none⟩) 0 (x.w:Int) (x.f:Int) (some ⟨ap,0,none⟩) (some ⟨vb,0,none⟩) 1 1 H):
  Zc prog 121 #[.pointer (some ⟨p,0,none⟩),.func (.func f) #[] C] H K:=by
 have hp:=Ok.per_le hok;apply ZQ.ok;unfold ZQ;simp only[HS];have rest:∀(b rb:Nat) (H:Hp),(∀ y∈bufs,y.1≠b)→Sep [Ar ap cap (if ZM bufs+D.per d>peak then ZM bufs+D.per d else peak) (bufs++[(b,D.per d,some ⟨rb,0,none⟩)]),pts rb (.row (bZl (D.per d)) 84 (D.per d)),pts p (ZO dp ap x),Dk dp d,pts bp (.obj (.cells #[.pointer (some ⟨p,0,none⟩)] 157)),B] H→
   ZQ.j2 K (some ⟨p,0,none⟩) f #[] C (some ⟨b,0,none⟩) 0 H:=fun b rb H hbm hs=>by
  unfold ZQ.j2;refine ZB rfl ?_;simp only[HS];refine hs.ld 2 rfl rfl ?_;simp only[HV];refine hs.nw fun vb H hs=>?_
  refine ZZ.use (gZp hs 2 rfl) ?_;simp only[HV];refine hs.ld 2 rfl rfl ?_;simp only[HV];have hz:bZl (D.per d)=Zd (List.replicate (D.per d) 0):=by
   unfold bZl;rw[bZz];unfold Zd;rw[List.map_replicate];rfl
  rw[hz]at hs;exact k b rb vb H hbm (hs.re [2,3,0,1,4,5,6] rfl)
 have fresh:∀{L:List As} {H:Hp} (b rb:Nat) (pk:Int),Sep L H→L[0]? =some (Ar ap cap pk (bufs++[(b,D.per d,some ⟨rb,0,none⟩)]))→∀ y∈bufs,y.1≠b:=fun b rb pk hs h0 y hy e=>by
  obtain⟨mp,cl,tk,hA⟩:=Sep.ar hs 0 h0;have:=hA.bn;rw[List.map_append,List.nodup_append]at this;exact this.2.2 y.1 (List.mem_map_of_mem hy) b (by simp) e
 refine⟨?_,?_⟩
 ·refine hs.ld 0 rfl rfl ?_;simp only[HV];refine Zc.use (eZX hs 0 1 rfl rfl hok) ?_
  try simp only[HV]
  refine(eZM (a:=ap) (cap:=cap) (peak:=peak) (bufs:=bufs) (n:=D.per d) (by omega) hcap).use hs [2] rfl rfl ?_;rintro _ _ H ⟨b,rb,rfl,rfl⟩ hs;simp only[HV];exact rest b rb H (fresh b rb _ hs rfl) hs
 ·refine Zc.use (eZX hs 0 1 rfl rfl hok) ?_
  try simp only[HV]
  refine hs.ld 0 rfl rfl ?_;simp only[HV];refine(eZM (a:=ap) (cap:=cap) (peak:=peak) (bufs:=bufs) (n:=D.per d) (by omega) hcap).use hs [2] rfl rfl ?_;rintro _ _ H ⟨b,rb,rfl,rfl⟩ hs;simp only[HV];exact rest b rb H (fresh b rb _ hs rfl) hs
end
section
variable {p dp ap bp bw b rb mb : Nat} {d : D} {x : X} {cap peak : Int} {bufs : List (Nat × Nat × Option Addr)}
end
section
variable {p dp ap bp bw b rb mb vb : Nat} {d : D} {x : X} {cap peak pk : Int} {bufs : List (Nat × Nat × Option Addr)}
end
end Str
end Go.Proofs.YtahjgjaenegpgaaGreatDoor
