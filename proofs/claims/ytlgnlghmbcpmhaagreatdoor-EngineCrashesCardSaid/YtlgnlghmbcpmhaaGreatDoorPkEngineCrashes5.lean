import Derived.Test.YtlgnlghmbcpmhaaGreatDoorProg
import Derived.Laws.Externs
import Derived.Test.YtlgnlghmbcpmhaaGreatDoorPkEngineCrashes4
set_option maxRecDepth 100000
set_option linter.unusedSimpArgs false
set_option linter.unusedVariables false
set_option linter.unnecessarySimpa false
set_option linter.unusedSectionVars false
open Go.IntKind (i64 u64)
namespace Go.Proofs.YtlgnlghmbcpmhaaGreatDoor
open Tryz (prog)
namespace Rec
open Go Go.Hw Go.Form Go.Crc W
def kM (n:Int):Bool:=decide ((Lay.pn 0 n).2=0)
theorem r8 (x:Int)(H:Hp):ae prog 222 #[I x] H (RetE (.bool (kM x)) H):=by
 apply iI.ok;unfold iI;refine ae.use (Lay.vf 0 x H) ?_;simp only[HV];refine⟨?_,rfl⟩;unfold kM;by_cases h:(Lay.pn 0 x).2=0
 .rw[decide_eq_true h,h];rfl
 .rw[decide_eq_false h,beq_eq_false_iff_ne.2 h]
def eH :R:=⟨0,0,0,0,0,0,0,0⟩
def CM (bs:List UInt8):List UInt64:=[UInt64.ofNat (aP bs 0),UInt64.ofNat (aP bs 8),UInt64.ofNat (aP bs 16)]
def dU (bs:List UInt8):R×Int:=
 if kM (bs.length:Int)=true then
  if aP bs 0/281474976710656=21061/\oR bs=true then
   if aP bs 24=eF 0 (pM (CM bs))then
    if(r6 (aP bs 0) (aP bs 8) (aP bs 16)).dc then(r6 (aP bs 0) (aP bs 8) (aP bs 16),0)else(eH,1)
   else(eH,9)
  else(eH,10)
 else(eH,15)
theorem iQ (bs:List UInt8)(o:Nat):aP bs o<2^64:=DV (by simp;omega)
set_option maxHeartbeats 1000000 in
theorem sA (A:OA)(n m:Nat)(bs:List UInt8)(hn:n=bs.length)(hnm:n<=m)(hbig:n<=1000000)(h32:kM (n:Int)=true->32<=n)(H:Hp)(hc:Cells H A (aD bs)):
  ae prog 157 #[.slice A n m] H (RetE (.tuple #[.agg (dU bs).1.c,I (dU bs).2]) H):=ae.ret (by
 apply gQ.ok;unfold gQ gQ.q1 dU;rw[<- hn];refine(Sep.start H).nw fun b1 H1 hs=>?_
 have hs:Sep [own H,af b1 (fw eH)] H1:=hs;refine ae.use (r8 n H1) ?_;simp only[HV];by_cases hsec:kM (n:Int)=true
 case neg=>
  rw[if_neg hsec,show kM (n:Int)=false by simpa using hsec];refine cV rfl ?_;refine hs.dW 1 rfl rfl rfl rfl fun H1 hs=>?_
  refine hs.bd 1 rfl rfl ?_;exact hs.fin 0 rfl _
 rw[if_pos hsec,hsec];refine bQ rfl ?_;refine(Mq (R:=own H) (fun H' h=>hc.le h) hn hnm (h32 hsec) hbig).use hs [0] rfl rfl ?_;rintro _ _ H1 ⟨A',m',hm',rfl,rfl⟩ hs;simp only[HV];have hA:Cells H1 A' (Gen.lD (u4 bs 4)):=by
  obtain⟨hl,h⟩:=hs.own 1 rfl;rcases h with⟨_,h0,_⟩|⟨b,mm,rfl,hb,_⟩
  .omega
  .have:=Cells.row hb 0 4;exact this
 have hw:u4 bs 4=[aP bs 0,aP bs 8,aP bs 16,aP bs 24]:=rfl;rw[hw]at hA hs;refine ae.use (Be A' 4 m' (aP bs 0) (aP bs 8) (aP bs 16) [aP bs 24] rfl (iQ _ _) (iQ _ _) (iQ _ _) H1 hA) ?_;simp only[HV];refine hs.nw fun b2 H1 hs=>?_
 refine hs.dW 3 rfl rfl rfl rfl fun H1 hs=>?_
 have hs:Sep [own H,bH 108 1 A' 4 m' (Gen.lD [aP bs 0,aP bs 8,aP bs 16,aP bs 24]),af b1 (fw eH),af b2 (fw (r6 (aP bs 0) (aP bs 8) (aP bs 16)))] H1:=hs;have hA:Cells H1 A' (Gen.lD [aP bs 0,aP bs 8,aP bs 16,aP bs 24]):=by
  obtain⟨hl,h⟩:=hs.own 1 rfl;rcases h with⟨_,h0,_⟩|⟨b,mm,rfl,hb,_⟩
  .omega
  .have:=Cells.row hb 0 4;exact this
 refine hA.read (i:=0) rfl rfl (by rw[Gen.pL];exact Nat.le_refl _) ?_;simp only[HV];refine⟨by decide,?_⟩;have s48:cT .u64 ((aP bs 0:Nat):Int) 48=((aP bs 0/281474976710656:Nat):Int):=rz (k:=.u64) (a:=aP bs 0) (i:=48) (n:=48) rfl (by decide);rw[s48];by_cases hmg:aP bs 0/281474976710656=21061
 case neg=>
  rw[if_neg (fun h=>hmg h.1)];refine aT (by omega) ?_;refine hs.dW 2 rfl rfl rfl rfl fun H1 hs=>?_
  refine hs.bd 2 rfl rfl ?_;exact hs.fin 0 rfl _
 refine aH (by omega) ?_;by_cases hno:oR bs=true
 case neg=>
  rw[if_neg (fun h=>hno h.2),show oR bs=false by simpa using hno];refine cV rfl ?_;refine hs.dW 2 rfl rfl rfl rfl fun H1 hs=>?_
  refine hs.bd 2 rfl rfl ?_;exact hs.fin 0 rfl _
 rw[if_pos ⟨hmg,hno⟩,hno];refine bQ rfl ?_;refine hA.read (i:=3) rfl rfl (by rw[Gen.pL];exact Nat.le_refl _) ?_;simp only[HV];refine yy (r:=3) rfl (by omega) ?_;have hU:Cells H1 (jk A' m' 0 1) (ah (CM bs)):=by
  have:=(hA.shift (m:=m') (l:=0) (by rw[Gen.pL];exact hm')).take 3;have e:ah (CM bs)=((Gen.lD [aP bs 0,aP bs 8,aP bs 16,aP bs 24]).drop 0).take 3:=by
   show [Value.int .u64 ((UInt64.ofNat (aP bs 0)).toNat:Int),Value.int .u64 ((UInt64.ofNat (aP bs 8)).toNat:Int),Value.int .u64 ((UInt64.ofNat (aP bs 16)).toNat:Int)]=_
   rw[UInt64.toNat_ofNat_of_lt' (iQ bs 0),UInt64.toNat_ofNat_of_lt' (iQ bs 8),UInt64.toNat_ofNat_of_lt' (iQ bs 16)];rfl
  rw[e];exact this
 refine bN.use (Ep (jk A' m' 0 1) 3 (m'-0) (CM bs) rfl (by omega) H1 hU) ?_;simp only[HV];by_cases hsl:aP bs 24=eF 0 (pM (CM bs))
 case neg=>
  rw[if_neg hsl];refine aT (by omega) ?_;refine hs.dW 2 rfl rfl rfl rfl fun H1 hs=>?_
  refine hs.bd 2 rfl rfl ?_;exact hs.fin 0 rfl _
 rw[if_pos hsl];refine aH (by omega) ?_;refine hs.bd 3 rfl rfl ?_;refine ae.use (fT (r6 (aP bs 0) (aP bs 8) (aP bs 16)) H1) ?_;simp only[HV];by_cases hg:(r6 (aP bs 0) (aP bs 8) (aP bs 16)).dc
 .rw[if_pos hg,decide_eq_true hg];refine bQ rfl ?_;refine hs.bd 3 rfl rfl ?_;refine hs.dW 2 rfl rfl rfl rfl fun H1 hs=>?_
  refine hs.bd 2 rfl rfl ?_;exact hs.fin 0 rfl _
 .rw[if_neg hg,decide_eq_false hg];refine cV rfl ?_;refine hs.dW 2 rfl rfl rfl rfl fun H1 hs=>?_
  refine hs.bd 2 rfl rfl ?_;exact hs.fin 0 rfl _)
end Rec
namespace W
open Go Go.Hw
theorem gT :prog.follows .mixedOrders=true:=by kernel_rfl
def kD (p1:OA)(H:Hp)(K:VK):Prop:=
 Nw H (Oq #[I 0,I 0,I 0,I 0] 45) fun b1 H1=>Hz 46 #[.pointer p1,I 0] H1 fun v1 H2=>kB v1 fun A1 n1 m1 x1=>(ao (x1 !=0) (bR H2 (O b1) #[I 0,I 0,I 0,I 0] 4 fun H3=>aJ H3 (O b1) 4 fun l9=>K (.tuple #[.agg l9.toArray,I x1]) H3) (Hz 139 #[.slice A1 n1 m1] H2 fun v4 H4=>o5 v4 fun y1 x2=>(Nw H4 (Oq #[I 0,I 0,I 0,I 0] 45) fun b2 H5=>bR H5 (O b2) y1 4 fun H6=>ao (x2 !=0) (bR H6 (O b1) #[I 0,I 0,I 0,I 0] 4 fun H7=>aJ H7 (O b1) 4 fun l10=>K (.tuple #[.agg l10.toArray,I x2]) H7) (aJ H6 (O b2) 4 fun l7=>fS 140 #[.pointer p1,.agg l7.toArray] H6 fun c1 H8=>ao (!c1) (bR H8 (O b1) #[I 0,I 0,I 0,I 0] 4 fun H9=>aJ H9 (O b1) 4 fun l11=>K (.tuple #[.agg l11.toArray,I 1]) H9) (aJ H8 (O b2) 4 fun l8=>bR H8 (O b1) l8.toArray 4 fun H10=>aJ H10 (O b1) 4 fun l12=>K (.tuple #[.agg l12.toArray,I 0]) H10)))))
theorem kD.ok p1 H K (h:kD p1 H K):ae prog 79 #[.pointer p1] H K:=
 cg gT Tryz.func79 rfl rfl h
def nz (p1:OA)(x1 x2 x3 x4:Int)(H:Hp)(K:VK):Prop:=
 Nw H (Oq #[I x1,I x2,I x3,I x4] 45) fun b1 H1=>aJ H1 (O b1) 4 fun l1=>Hz 184 #[.agg l1.toArray] H1 fun v1 H2=>kB v1 fun A1 n1 m1 x5=>(ao (x5 !=0) (K (I 1) H2) (aJ H2 (O b1) 4 fun l5=>fS 140 #[.pointer p1,.agg l5.toArray] H2 fun c1 H3=>ao (!c1) (K (I 1) H3) (cF 47 #[.pointer p1,I 0,.slice A1 n1 m1] H3 fun x6 H4=>ao (x6 !=0) (K (I x6) H4) (cF 127 #[.pointer p1] H4 fun x7 H5=>K (I x7) H5))))
theorem nz.ok p1 x1 x2 x3 x4 H K (h:nz p1 x1 x2 x3 x4 H K):ae prog 130 #[.pointer p1,.agg #[I x1,I x2,I x3,I x4]] H K:=
 cg gT Tryz.func130 rfl rfl h
def cK.l5.q1 (H9:Hp)(a1:Addr)(K:VK):Prop:=
 bR H9 a1 #[I 0,I 0,I 0,I 0] 4 fun H13=>aJ H13 a1 4 fun l11=>K (.tuple #[.agg l11.toArray,I 1]) H13
def cK.l5 (K:VK):Nat->OA->Nat->Nat->Addr->Addr->Int->Hp->Prop
 |0,_,_,_,_,_,_,_=>False
 |k+1,A2,n2,m2,a1,a2,x1,H=>
  let R5:=cK.l5 K k
  ao (decide (x1<4)) (Hz 192 #[.slice A2 n2 m2,I x1] H fun v2 H5=>pZ v2 fun x2 x3=>(cX x1 4 (St H5 ((a2.add (x1.toNat*1)).add 0) (U x2) fun H6=>R5 A2 n2 m2 a1 a2 (i64.wrap (x1+1)) H6))) (cX 0 4 (eo H (a2.add ((0:Int).toNat*1)) fun x4=>(0<=(16:Int)/\cX 0 4 (eo H (a2.add ((0:Int).toNat*1)) fun x5=>(0<=(cU .u64 x5 63)/\cX 1 4 (eo H (a2.add ((1:Int).toNat*1)) fun x6=>cX 2 4 (eo H (a2.add ((2:Int).toNat*1)) fun x7=>Nw H (Oq #[I 0,I 0,I 0,I 0] 45) fun b3 H7=>bR H7 (O b3) #[I (i64.wrap (cU .u64 (cT .u64 x4 16) 65535)),I (i64.wrap x6),I (dA .i64 1 (cU .u64 x5 63)),I (i64.wrap x7)] 4 fun H8=>cX 0 4 (eo H8 (a2.add ((0:Int).toNat*1)) fun x8=>(0<=(32:Int)/\ao ((cT .u64 x8 32) !=1094861123) (bR H8 a1 #[I 0,I 0,I 0,I 0] 4 fun H10=>aJ H10 a1 4 fun l8=>K (.tuple #[.agg l8.toArray,I 10]) H10) (fS 193 #[.slice A2 n2 m2] H8 fun c2 H9=>ao (!c2) (bR H9 a1 #[I 0,I 0,I 0,I 0] 4 fun H11=>aJ H11 a1 4 fun l9=>K (.tuple #[.agg l9.toArray,I 10]) H11) (cX 3 4 (eo H9 (a2.add ((3:Int).toNat*1)) fun x9=>mP 4 4 none (some 3) fun n3 n4=>N9 149 #[.slice (jk (some a2) 4 n3 1) (n4-n3) (4-n3)] H9 fun x10=>ao (x9 !=(u64.wrap x10)) (bR H9 a1 #[I 0,I 0,I 0,I 0] 4 fun H12=>aJ H12 a1 4 fun l10=>K (.tuple #[.agg l10.toArray,I 9]) H12) (aJ H9 (O b3) 4 fun l4=>JY 194 #[.agg l4.toArray] H9 fun c3=>ao (!c3) (cK.l5.q1 H9 a1 K) (aJ H9 (O b3) 4 fun l5=>tN 195 #[.agg l5.toArray] H9 fun x11=>cX 0 4 (eo H9 (a2.add ((0:Int).toNat*1)) fun x12=>ao (x11 !=x12) (cK.l5.q1 H9 a1 K) (aM H9 ((O b3).add 2) fun x13=>ao (x13 !=(n2:Int)) (cK.l5.q1 H9 a1 K) (aJ H9 (O b3) 4 fun l6=>bR H9 a1 l6.toArray 4 fun H16=>aJ H16 a1 4 fun l14=>K (.tuple #[.agg l14.toArray,I 0]) H16)))))))))))))))))
def cK (A1:OA)(n1 m1:Nat)(H:Hp)(K:VK):Prop:=
 Nw H (Oq #[I 0,I 0,I 0,I 0] 45) fun b1 H1=>fS 191 #[.slice A1 n1 m1] H1 fun c1 H2=>ao (!c1) (bR H2 (O b1) #[I 0,I 0,I 0,I 0] 4 fun H3=>aJ H3 (O b1) 4 fun l7=>K (.tuple #[.agg l7.toArray,I 15]) H3) (Nw H2 (Oq #[U 0,U 0,U 0,U 0] 295) fun b2 H4=>(∃ k,cK.l5 K k A1 n1 m1 (O b1) (O b2) 0 H4))
def cK.l5.L (K:VK)(k:Nat):dm:=fun E D H=>
 DG (E.get? 0) fun w0=>aF w0 fun A2 n2 m2=>eN E 2 fun a1=>eN E 4 fun a2=>eI E 13 .i64 fun x1=>az D (cK.l5 K k A2 n2 m2 a1 a2 x1 H)
def cK.Λ5 (_:VK)(_R5:OA->Nat->Nat->Addr->Addr->Int->Hp->Prop):aN:=aN.none (fun _=>none)
def cK.Λ (K:VK):aN:=⟨fun i=>none,fun i=>match Nat.beq i 5 with|true=>some (fun E D H=>∃ k,cK.l5.L K k E D H)|false=>none,(fun _=>none)⟩
theorem cK.ok A1 n1 m1 H K (h:cK A1 n1 m1 H K):ae prog 139 #[.slice A1 n1 m1] H K:=
 dX (Λ:=(cK.Λ K)) gT Tryz.func139 rfl rfl h (oC (fun E D H h=>by
   refine Safe.c0 (cK.l5.L K) (fun E D H h=>?_) (fun k E D H h=>?_) E D H h
   .obtain⟨w0,e0,g1⟩:=DG.out h;obtain⟨A2,n2,m2,rfl,g2⟩:=aF.out g1;obtain⟨w2,e2,g3⟩:=DG.out g2;obtain⟨pw2,rfl,g4⟩:=DP.out g3;obtain⟨a1,rfl,g5⟩:=NN.out g4;obtain⟨w4,e4,g6⟩:=DG.out g5;obtain⟨pw4,rfl,g7⟩:=DP.out g6;obtain⟨a2,rfl,g8⟩:=NN.out g7;obtain⟨w13,e13,g9⟩:=DG.out g8;obtain⟨x1,rfl,g10⟩:=DI.out g9;obtain⟨rfl,h'⟩:=az.out g10;exact h'
   .obtain⟨w0,e0,g1⟩:=DG.out h;obtain⟨A2,n2,m2,rfl,g2⟩:=aF.out g1;obtain⟨a1,e2,g5⟩:=GN g2;obtain⟨a2,e4,g8⟩:=GN g5;obtain⟨x1,e13,g10⟩:=GI g8;obtain⟨rfl,h'⟩:=az.out g10;exact cY (Λ:=(cK.Λ5 K (cK.l5 K k))) gT [] (ag.cons e0 (ag.cons e2 (ag.cons e4 (ag.cons e13 (ag.nil _))))) h' oN) oN)
def qt (p1:OA)(x1 x2 x3 x4:Int)(H:Hp)(K:VK):Prop:=
 Nw H (Oq #[I x1,I x2,I x3,I x4] 45) fun b1 H1=>aM H1 ((O b1).add 1) fun x5=>NN p1 fun a1=>fc 123 #[.pointer (some (a1.add 0))] H1 fun x6=>ao (x5==x6) (aM H1 ((O b1).add 2) fun x7=>NN p1 fun a2=>fc 124 #[.pointer (some (a2.add 0))] H1 fun x8=>K (.bool (x7==x8)) H1) (K (.bool false) H1)
theorem qt.ok p1 x1 x2 x3 x4 H K (h:qt p1 x1 x2 x3 x4 H K):ae prog 140 #[.pointer p1,.agg #[I x1,I x2,I x3,I x4]] H K:=
 cg gT Tryz.func140 rfl rfl h
def mv (x1 x2 x3 x4:Int)(H:Hp)(K:VK):Prop:=
 Nw H (Oq #[I x1,I x2,I x3,I x4] 45) fun b1 H1=>Nw H1 (Oq #[I 0,I 0,I 0,I 0,I 0,I 0,I 0,I 0,I 0,I 0,I 0,I 0,I 0,I 0,I 0,I 0,I 0] 153) fun b2 H2=>aJ H2 (O b1) 4 fun l1=>fS 194 #[.agg l1.toArray] H2 fun c1 H3=>ao (!c1) (bR H3 (O b2) #[I 0,I 0,I 0,I 0,I 0,I 0,I 0,I 0,I 0,I 0,I 0,I 0,I 0,I 0,I 0,I 0,I 0] 17 fun H4=>aJ H4 (O b2) 17 fun l5=>K (.tuple #[.agg l5.toArray,I 1]) H4) (aM H3 ((O b1).add 0) fun x5=>aM H3 ((O b1).add 1) fun x6=>aM H3 ((O b1).add 2) fun x7=>Hz 181 #[I x5,I x6,I x7] H3 fun v5 H5=>o5 v5 fun y1 x8=>(bR H5 (O b2) y1 17 fun H6=>aJ H6 (O b2) 17 fun l6=>K (.tuple #[.agg l6.toArray,I x8]) H6))
theorem mv.ok x1 x2 x3 x4 H K (h:mv x1 x2 x3 x4 H K):ae prog 141 #[.agg #[I x1,I x2,I x3,I x4]] H K:=
 cg gT Tryz.func141 rfl rfl h
def lv (x1 x2 x3 x4:Int)(H:Hp)(K:VK):Prop:=
 Nw H (Oq #[I x1,I x2,I x3,I x4] 45) fun b1 H1=>aJ H1 (O b1) 4 fun l1=>fS 194 #[.agg l1.toArray] H1 fun c1 H2=>ao (!c1) (K (.tuple #[.slice none 0 0,I 1]) H2) (aJ H2 (O b1) 4 fun l2=>tN 195 #[.agg l2.toArray] H2 fun x5=>aM H2 ((O b1).add 1) fun x6=>aM H2 ((O b1).add 3) fun x7=>Nw H2 (.row [U x5,U (u64.wrap x6),U (u64.wrap x7)] 108 3) fun b2 H3=>aM H3 ((O b1).add 2) fun x8=>lj prog 5 x8 x8 H3 fun v6 H4=>aF v6 fun A1 n1 m1=>zx 149 #[.slice (Oo b2) 3 3] H4 fun x9 H5=>Nw H5 (.row [U (u64.wrap x9)] 108 1) fun b3 H6=>gC prog 108 (.slice (Oo b2) 3 3) (.slice (Oo b3) 1 1) H6 fun v8 H7=>aF v8 fun A2 n2 m2=>jF 214 #[.slice A2 n2 m2] H7 fun A3 n3 m3 H8=>rI prog 5 (.slice A1 n1 m1) (.slice A3 n3 m3) H8 fun v10 H9=>DI .i64 v10 fun x10=>K (.tuple #[.slice A1 n1 m1,I 0]) H9)
theorem lv.ok x1 x2 x3 x4 H K (h:lv x1 x2 x3 x4 H K):ae prog 184 #[.agg #[I x1,I x2,I x3,I x4]] H K:=
 mY (fun i=>match Nat.beq i 3 with|true=>some ([],[0,1,2,3,4,5,6,7],8)|false=>none) gT Tryz.func184 rfl rfl h
def mw (A1:OA)(n1 m1:Nat)(H:Hp)(K:VK):Prop:=
 Hz 251 #[I 0,I (n1:Int)] H fun v1 H1=>ua v1 fun x1 x2=>(K (.bool (x2==0)) H1)
theorem mw.ok A1 n1 m1 H K (h:mw A1 n1 m1 H K):ae prog 191 #[.slice A1 n1 m1] H K:=
 cg gT Tryz.func191 rfl rfl h
def dh.l2 (K:VK):Nat->OA->Nat->Nat->Int->Int->Hp->Prop
 |0,_,_,_,_,_,_=>False
 |k+1,A2,n4,m2,x1,x2,H=>
  let R2:=dh.l2 K k
  ao (decide (x2<x1)) (cX x2 n4 (NN A2 fun a1=>JX H (a1.add (x2.toNat*1)) fun x3=>ao (x3 !=0) (K (.bool false) H) (R2 A2 n4 m2 x1 (i64.wrap (x2+1)) H))) (K (.bool true) H)
def dh (A1:OA)(n1 m1:Nat)(H:Hp)(K:VK):Prop:=
 mP n1 m1 (some 32) none fun n2 n3=>(∃ k,dh.l2 K k (jk A1 m1 n2 1) (n3-n2) (m1-n2) ((n3-n2:Nat):Int) 0 H)
def dh.l2.L (K:VK)(k:Nat):dm:=fun E D H=>
 DG (E.get? 6) fun w6=>aF w6 fun A2 n4 m2=>eI E 7 .i64 fun x1=>eI E 8 .i64 fun x2=>az D (dh.l2 K k A2 n4 m2 x1 x2 H)
def dh.Λ2 (_:VK)(_R2:OA->Nat->Nat->Int->Int->Hp->Prop):aN:=aN.none (fun _=>none)
def dh.Λ (K:VK):aN:=⟨fun i=>none,fun i=>match Nat.beq i 2 with|true=>some (fun E D H=>∃ k,dh.l2.L K k E D H)|false=>none,(fun _=>none)⟩
theorem dh.ok A1 n1 m1 H K (h:dh A1 n1 m1 H K):ae prog 193 #[.slice A1 n1 m1] H K:=
 dX (Λ:=(dh.Λ K)) gT Tryz.func193 rfl rfl h (oC (fun E D H h=>by
   refine Safe.c0 (dh.l2.L K) (fun E D H h=>?_) (fun k E D H h=>?_) E D H h
   .obtain⟨w6,e6,g1⟩:=DG.out h;obtain⟨A2,n4,m2,rfl,g2⟩:=aF.out g1;obtain⟨w7,e7,g3⟩:=DG.out g2;obtain⟨x1,rfl,g4⟩:=DI.out g3;obtain⟨w8,e8,g5⟩:=DG.out g4;obtain⟨x2,rfl,g6⟩:=DI.out g5;obtain⟨rfl,h'⟩:=az.out g6;exact h'
   .obtain⟨w6,e6,g1⟩:=DG.out h;obtain⟨A2,n4,m2,rfl,g2⟩:=aF.out g1;obtain⟨x1,e7,g4⟩:=GI g2;obtain⟨x2,e8,g6⟩:=GI g4;obtain⟨rfl,h'⟩:=az.out g6;exact cY (Λ:=(dh.Λ2 K (dh.l2 K k))) gT [] (ag.cons e6 (ag.cons e7 (ag.cons e8 (ag.nil _)))) h' oN) oN)
def oH (x1 x2 x3 x4:Int)(H:Hp)(K:VK):Prop:=
 Nw H (Oq #[I x1,I x2,I x3,I x4] 45) fun b1 H1=>aM H1 ((O b1).add 0) fun x5=>aM H1 ((O b1).add 1) fun x6=>aM H1 ((O b1).add 2) fun x7=>Hz 181 #[I x5,I x6,I x7] H1 fun v4 H2=>o5 v4 fun y1 x8=>(Nw H2 (Oq #[I 0,I 0,I 0,I 0,I 0,I 0,I 0,I 0,I 0,I 0,I 0,I 0,I 0,I 0,I 0,I 0,I 0] 153) fun b2 H3=>bR H3 (O b2) y1 17 fun H4=>ao (x8==0) (aM H4 ((O b1).add 3) fun x9=>ao (decide (x9>=1)) (aM H4 ((O b1).add 3) fun x10=>K (.bool (decide (x10<=(16777216:Int)))) H4) (K (.bool false) H4)) (K (.bool false) H4))
theorem oH.ok x1 x2 x3 x4 H K (h:oH x1 x2 x3 x4 H K):ae prog 194 #[.agg #[I x1,I x2,I x3,I x4]] H K:=
 cg gT Tryz.func194 rfl rfl h
def nC (x1 x2 x3 x4:Int)(H:Hp)(K:VK):Prop:=
 Nw H (Oq #[I x1,I x2,I x3,I x4] 45) fun b1 H1=>aM H1 ((O b1).add 0) fun x5=>(0<=(16:Int)/\aM H1 ((O b1).add 2) fun x6=>fc 227 #[U (u64.wrap x6)] H1 fun x7=>K (U (lP .u64 (lP .u64 4702392716946833408 (dA .u64 (u64.wrap x5) 16)) (u64.wrap (i64.wrap (x7-1))))) H1)
theorem nC.ok x1 x2 x3 x4 H K (h:nC x1 x2 x3 x4 H K):ae prog 195 #[.agg #[I x1,I x2,I x3,I x4]] H K:=
 cg gT Tryz.func195 rfl rfl h
theorem q7 :prog.follows .mixedOrders=true:=by kernel_rfl
def cv.l3 (K:VK):Nat->Int->Int->Int->Int->Hp->Prop
 |0,_,_,_,_,_=>False
 |k+1,x3,x4,x5,x6,H=>
  let R3:=cv.l3 K k
  ao (decide (x6<x3)) (R3 x3 x4 (i64.wrap (2*x5)) (i64.wrap (x6+1)) H) (((8:Int)≠0/\i64=i64/\ao (decide (x5<=(i64.wrap (Int.tdiv x4 8)))) (K (I 13) H) (((i64.wrap (Int.tdiv x4 8))≠0/\i64=i64/\K (I (i64.wrap (9+(i64.wrap (4*(i64.wrap (Int.tdiv x5 (i64.wrap (Int.tdiv x4 8))))))))) H))))
def cv (x1 x2:Int)(H:Hp)(K:VK):Prop:=
 (∃ k,cv.l3 K k x1 x2 1 0 H)
def cv.l3.L (K:VK)(k:Nat):dm:=fun E D H=>
 eI E 0 .i64 fun x3=>eI E 1 .i64 fun x4=>eI E 5 .i64 fun x5=>eI E 6 .i64 fun x6=>az D (cv.l3 K k x3 x4 x5 x6 H)
def cv.Λ3 (_:VK)(_R3:Int->Int->Int->Int->Hp->Prop):aN:=aN.none (fun _=>none)
def cv.Λ (K:VK):aN:=⟨fun i=>none,fun i=>match Nat.beq i 3 with|true=>some (fun E D H=>∃ k,cv.l3.L K k E D H)|false=>none,(fun _=>none)⟩
theorem cv.ok x1 x2 H K (h:cv x1 x2 H K):ae prog 107 #[I x1,I x2] H K:=
 dX (Λ:=(cv.Λ K)) q7 Tryz.func107 rfl rfl h (oC (fun E D H h=>by
   refine Safe.c0 (cv.l3.L K) (fun E D H h=>?_) (fun k E D H h=>?_) E D H h
   .obtain⟨w0,e0,g1⟩:=DG.out h;obtain⟨x3,rfl,g2⟩:=DI.out g1;obtain⟨w1,e1,g3⟩:=DG.out g2;obtain⟨x4,rfl,g4⟩:=DI.out g3;obtain⟨w5,e5,g5⟩:=DG.out g4;obtain⟨x5,rfl,g6⟩:=DI.out g5;obtain⟨w6,e6,g7⟩:=DG.out g6;obtain⟨x6,rfl,g8⟩:=DI.out g7;obtain⟨rfl,h'⟩:=az.out g8;exact h'
   .obtain⟨x3,e0,g2⟩:=GI h;obtain⟨x4,e1,g4⟩:=GI g2;obtain⟨x5,e5,g6⟩:=GI g4;obtain⟨x6,e6,g8⟩:=GI g6;obtain⟨rfl,h'⟩:=az.out g8;exact cY (Λ:=(cv.Λ3 K (cv.l3 K k))) q7 [] (ag.cons e0 (ag.cons e1 (ag.cons e5 (ag.cons e6 (ag.nil _))))) h' oN) oN)
end W
namespace Sup
open Go Go.Hw Go.Form W Lay
def fQ (k sec s ar:Int):Array Value:=#[I k,I sec,I s,I ar]
def fh (k sec s ar:Int):Bool:=decide (0<=k/\k<=32/\0<cc s/\(fI k.toNat (cc s):Int)<=sec/\1<=ar/\ar<=16777216)
theorem wm (k sec s:Int):(nP k sec s).1.size=17:=by
 unfold nP;split
 .split<;>rfl
 .rfl
theorem Dr (k sec s:Int):(nP k sec s).1.toList.all (fun v=>v.oneCell')=true:=by
 unfold nP;split
 .split<;>rfl
 .rfl
theorem fT (k sec s ar:Int)(H:Hp):ae prog 194 #[.agg (fQ k sec s ar)] H (RetE (.bool (fh k sec s ar)) H):=by
 apply ae.ret;apply oH.ok;unfold oH;simp only[HS];refine(Sep.start H).nw fun b1 H hs=>?_
 first|refine hs.ld 1 rfl rfl ?_|refine hs.ld 2 rfl rfl ?_|refine hs.ld 3 rfl rfl ?_|refine hs.ld 4 rfl rfl ?_|refine hs.ld 5 rfl rfl ?_|refine hs.ld 6 rfl rfl ?_|refine hs.ld 7 rfl rfl ?_|refine hs.ld 8 rfl rfl ?_
 try simp only[HV]
 first|refine hs.ld 1 rfl rfl ?_|refine hs.ld 2 rfl rfl ?_|refine hs.ld 3 rfl rfl ?_|refine hs.ld 4 rfl rfl ?_|refine hs.ld 5 rfl rfl ?_|refine hs.ld 6 rfl rfl ?_|refine hs.ld 7 rfl rfl ?_|refine hs.ld 8 rfl rfl ?_
 try simp only[HV]
 first|refine hs.ld 1 rfl rfl ?_|refine hs.ld 2 rfl rfl ?_|refine hs.ld 3 rfl rfl ?_|refine hs.ld 4 rfl rfl ?_|refine hs.ld 5 rfl rfl ?_|refine hs.ld 6 rfl rfl ?_|refine hs.ld 7 rfl rfl ?_|refine hs.ld 8 rfl rfl ?_
 try simp only[HV]
 refine ae.use (lF k sec s H) ?_
 try simp only[HV]
 refine hs.nw fun b2 H hs=>?_
 refine hs.dW 2 rfl rfl (wm _ _ _) (Dr _ _ _) fun H hs=>?_;have hr:=hs.fin 0 rfl (.bool (fh k sec s ar));by_cases h:0<=k/\k<=32/\0<cc s/\(fI k.toNat (cc s):Int)<=sec
 .have:(nP k sec s).2=0:=by unfold nP;rw[if_pos (by omega),if_neg (by omega)]
  rw[this];refine cV rfl ?_
  first|refine hs.ld 1 rfl rfl ?_|refine hs.ld 2 rfl rfl ?_|refine hs.ld 3 rfl rfl ?_|refine hs.ld 4 rfl rfl ?_|refine hs.ld 5 rfl rfl ?_|refine hs.ld 6 rfl rfl ?_|refine hs.ld 7 rfl rfl ?_|refine hs.ld 8 rfl rfl ?_
  try simp only[HV]
  by_cases h2:ar>=1
  .refine aC h2 ?_
   first|refine hs.ld 1 rfl rfl ?_|refine hs.ld 2 rfl rfl ?_|refine hs.ld 3 rfl rfl ?_|refine hs.ld 4 rfl rfl ?_|refine hs.ld 5 rfl rfl ?_|refine hs.ld 6 rfl rfl ?_|refine hs.ld 7 rfl rfl ?_|refine hs.ld 8 rfl rfl ?_
   try simp only[HV]
   have:decide (ar<=16777216)=fh k sec s ar:=by unfold fh;simp only[decide_eq_decide];omega
   rw[this];exact hr
  .refine aw h2 ?_;have:false=fh k sec s ar:=by unfold fh;symm;simp only[decide_eq_false_iff_not];omega
   rw[this];exact hr
 .refine bQ ?_ ?_
  .have:(nP k sec s).2=1\/(nP k sec s).2=7:=by
    unfold nP;split
    .rw[if_pos (by omega)];exact .inr rfl
    .exact .inl rfl
   rcases this with e|e<;>rw[e]<;>rfl
  .have:false=fh k sec s ar:=by unfold fh;symm;simp only[decide_eq_false_iff_not];omega
   rw[this];exact hr
def gB (s:Int):Int:=if s=32 then 5 else if s=64 then 6 else if s=128 then 7 else if s=256 then 8 else if s=512 then 9 else if s=1024 then 10 else if s=2048 then 11 else if s=4096 then 12 else -1
theorem qJ (s:Int):(0<cc s/\s=8*cc s/\5<=gB s/\gB s<=12/\cc s=2^(gB s-3).toNat)\/(cc s=0/\gB s=-1):=by
 unfold cc gB
 repeat' split
 all_goals first|(subst_vars;left;decide)|(right;exact⟨rfl,rfl⟩)
theorem Aa (K:VK)(k:Nat)(hk:k<=32)(s:Int)(hs:0<cc s)(H:Hp)(hK:K (I (fI k (cc s))) H):∀ d j:Nat,j+d=k->cv.l3 K (d+1) (k:Int) s ((2^j:Nat):Int) (j:Int) H
 |0,j,hj=>by
  obtain rfl:j=k:=by omega
  unfold cv.l3;refine aw (by omega) ⟨by decide,rfl,?_⟩;obtain⟨_,h1,h2,h3,h4⟩:0<cc s/\s=8*cc s/\5<=gB s/\gB s<=12/\cc s=2^(gB s-3).toNat:=by
   rcases qJ s with h|h
   .exact h
   .omega
  have hle:=sP s;have hp:=ze (k:=j) (by omega);have e1:i64.wrap (Int.tdiv s 8)=(cc s:Int):=by
   have:Int.tdiv s 8=(cc s:Int):=by
    conv=>lhs;rw[h1]
    exact Int.mul_tdiv_cancel_left _ (by omega)
   rw[this];exact ed
  rw[e1];have h2j:1<=2^j:=Nat.one_le_two_pow;by_cases hc:(2^j:Nat)<=cc s
  .refine aC (Int.ofNat_le.2 hc) ?_;have:fI j (cc s)=13:=by
    unfold fI bS;rw[Nat.div_eq_of_lt (by omega)]
   rw[this]at hK;exact hK
  .refine aw (fun h=>hc (Int.ofNat_le.1 h)) ⟨by omega,rfl,?_⟩;have hd:cc s∣2^j:=by
    rw[h4];refine Nat.pow_dvd_pow 2 ?_;rw[h4]at hc;have:=(Nat.pow_lt_pow_iff_right (a:=2) (by omega)).1 (Nat.lt_of_not_le hc);omega
   obtain⟨q,hq⟩:=hd;have hq1:1<=q:=by
    cases q with
    |zero=>rw[hq]at h2j;omega
    |succ q=>omega
   have hdiv:2^j/cc s=q:=by rw[hq];exact Nat.mul_div_cancel_left q hs
   have hroom:bS j (cc s)=q:=by
    unfold bS;have:2^j-1=cc s*(q-1)+(cc s-1):=by
     rw[hq];have:cc s*q=cc s*(q-1)+cc s:=by
      rw[<- Nat.mul_succ];congr 1;omega
     omega
    rw[this,Nat.mul_add_div hs,Nat.div_eq_of_lt (by omega)];omega
   have hqle:q<=2^j:=by rw[<- hdiv];exact Nat.div_le_self _ _
   have hp32:2^j<=2^32:=Nat.pow_le_pow_right (by omega) hk;rw[show Int.tdiv ((2^j:Nat):Int) (cc s:Int)=((2^j/cc s:Nat):Int)from rfl,hdiv,ed (n:=q),bu (x:=4*(q:Int)),bu (x:=9+4*(q:Int))];unfold fI at hK;rw[hroom]at hK;rw[show((9:Int)+4*(q:Int))=((9+4*q:Nat):Int) by omega];exact hK
 |d+1,j,hj=>by
  unfold cv.l3;have hp:2^j<=4294967296:=(Nat.pow_le_pow_right (by omega) (by omega):2^j<=2^32);have hnn:=Int.natCast_nonneg (2^j);have hp':((2^j:Nat):Int)<=4294967296:=by exact Int.ofNat_le.2 hp
  refine aC (by omega) ?_;rw[bu (x:=2*((2^j:Nat):Int)),bu (x:=(j:Int)+1)];have:=Aa K k hk s hs H hK d (j+1) (by omega);rw[show(2:Int)*((2^j:Nat):Int)=((2^(j+1):Nat):Int) by rw[Nat.pow_succ];omega];exact this
theorem Ge (k:Nat)(hk:k<=32)(s:Int)(hs:0<cc s)(H:Hp):ae prog 107 #[I k,I s] H (RetE (I (fI k (cc s))) H):=by
 apply cv.ok;exact⟨k+1,Aa _ k hk s hs H (RetE.mk _ _) k 0 (by omega)⟩
end Sup
namespace Rec
open Go Go.Hw Go.Form Go.Crc W FormP
theorem wZ (s:Int):kM s=true↔0<Lay.cc s:=by
 unfold kM Lay.pn;by_cases h:0<Lay.cc s
 .rw[if_pos ⟨by omega,by omega,h⟩];simp[h]
 .rw[if_neg (fun g=>h g.2.2)];simp[h]
theorem Lz {s:Int}(h:kM s=true):32<=s/\s<=4096:=by
 rw[wZ]at h;refine⟨Int.not_lt.1 fun g=>?_,Int.not_lt.1 fun g=>?_⟩
 .rw[Lay.tC g]at h;omega
 .rw[Lay.tA g]at h;omega
theorem Ns {p q:Nat}(hp:p<4294967296)(hq:q<4294967296):eF 0 [(p,32),(q,0)]=p*4294967296+q:=by
 show(0|||(p*2^32%2^64))|||(q*2^0%2^64)=_
 rw[Nat.zero_or,Nat.mod_eq_of_lt (by omega),Nat.pow_zero,Nat.mul_one,Nat.mod_eq_of_lt (by omega),Nat.mul_comm p,<-Nat.two_pow_add_eq_or_of_lt (i:=32) hq p]
theorem uD {w q:Nat}(k:Nat)(hw:2^k∣w)(hq:q<2^k):w|||q=w+q:=by
 obtain⟨t,rfl⟩:=hw;exact(Nat.two_pow_add_eq_or_of_lt hq t).symm
theorem Hi (r:R)(hg:r.dc):eF 0 r.p1=5928144484503126016+r.s:=by
 obtain⟨g1,g2,_⟩:=hg;show(0|||(21061*2^48%2^64))|||(r.s*2^0%2^64)=_
 rw[Nat.zero_or,Nat.pow_zero,Nat.mul_one,Nat.mod_eq_of_lt (show r.s<2^64 by omega),uD 48 ⟨21061,by decide⟩ (by omega)]
theorem MW (r:R)(hu:r.u32):eF 0 r.p3=r.da*4294967296+r.out:=Ns hu.da hu.out
theorem MV (r:R)(hg:r.dc)(hu:r.u32):eF 0 r.p2=r.ld*4294967296+r.ps.toNat*16777216+r.kk.toNat*65536+r.dir.toNat*256+r.kd.toNat:=by
 obtain⟨g1,g2,g3,g4,g5,g6⟩:=hg;have hu:=hu.ld;have h1:r.ps.toNat<256:=by omega
 have h2:r.kk.toNat<256:=by omega
 have h3:r.dir.toNat<256:=by omega
 have h4:r.kd.toNat<256:=by omega
 show((((0|||(r.ld*2^32%2^64))|||(r.ps.toNat*2^24%2^64))|||(r.kk.toNat*2^16%2^64))|||(r.dir.toNat*2^8%2^64))|||(r.kd.toNat*2^0%2^64)=_
 generalize r.ps.toNat=a at*;generalize r.kk.toNat=b at*;generalize r.dir.toNat=c at*;generalize r.kd.toNat=d at*;generalize r.ld=l at*;rw[Nat.zero_or,Nat.mod_eq_of_lt (show l*2^32<2^64 by omega),Nat.mod_eq_of_lt (show a*2^24<2^64 by omega),Nat.mod_eq_of_lt (show b*2^16<2^64 by omega),Nat.mod_eq_of_lt (show c*2^8<2^64 by omega),Nat.pow_zero,Nat.mul_one,Nat.mod_eq_of_lt (show d<2^64 by omega)];rw[uD 32 ⟨l,Nat.mul_comm _ _⟩ (show a*2^24<2^32 by omega),uD 24 ⟨l*256+a,by omega⟩ (show b*2^16<2^24 by omega),uD 16 ⟨(l*256+a)*256+b,by omega⟩ (show c*2^8<2^16 by omega),uD 8 ⟨((l*256+a)*256+b)*256+c,by omega⟩ (show d<2^8 by omega)]
structure R.wf (r:R):Prop where
 s:r.s<2^64
 kd: -9223372036854775808<=r.kd/\r.kd<=9223372036854775807
 kk: -9223372036854775808<=r.kk/\r.kk<=9223372036854775807
 dir: -9223372036854775808<=r.dir/\r.dir<=9223372036854775807
 ps: -9223372036854775808<=r.ps/\r.ps<=9223372036854775807
 u:r.u32
def R.form (r:R)(size:Nat):List UInt8:=Form.form r.w4++List.replicate (size-32) 0
theorem vm (r:R):(Form.form r.w4).length=32:=by rw[ec];rfl
theorem uI (r:R){size:Nat}(h:32<=size):(r.form size).length=size:=by
 unfold R.form;rw[List.length_append,vm,List.length_replicate];omega
theorem Cu (r:R)(size:Nat):oR (r.form size)=true:=by
 unfold oR R.form;refine decide_eq_true fun x hx=>?_
 rw[List.drop_append,vm,Nat.sub_self,List.drop_eq_nil_of_le (by rw[vm];exact Nat.le_refl _),List.nil_append,List.drop_zero]at hx;exact(List.mem_replicate.1 hx).2
theorem Ls (r:R)(hg:r.dc)(hu:r.u32):r6 (eF 0 r.p1) (eF 0 r.p2) (eF 0 r.p3)=r:=by
 rw[Hi r hg,MV r hg hu,MW r hu];obtain⟨g1,g2,g3,g4,g5,g6⟩:=hg;obtain⟨u1,u2,u3⟩:=hu;obtain⟨s,kd,kk,dir,ps,ld,da,out⟩:=r;simp only at*;unfold r6;congr 1<;>omega
theorem Dc (r:R)(size:Nat):aP (r.form size) 0=eF 0 r.p1/\aP (r.form size) 8=eF 0 r.p2/\aP (r.form size) 16=eF 0 r.p3/\aP (r.form size) 24=eF 0 (pM r.w3):=by
 have h4:r.w4.length=4:=rfl;have w0:=mL (l:=r.w4) (i:=0) (by omega) (List.replicate (size-32) 0);have w1:=mL (l:=r.w4) (i:=1) (by omega) (List.replicate (size-32) 0);have w2:=mL (l:=r.w4) (i:=2) (by omega) (List.replicate (size-32) 0);have w3:=mL (l:=r.w4) (i:=3) (by omega) (List.replicate (size-32) 0);refine⟨w0.trans ?_,w1.trans ?_,w2.trans ?_,w3.trans ?_⟩
 .exact UInt64.toNat_ofNat_of_lt' (k6 r.p1 0 (by decide))
 .exact UInt64.toNat_ofNat_of_lt' (k6 r.p2 0 (by decide))
 .exact UInt64.toNat_ofNat_of_lt' (k6 r.p3 0 (by decide))
 .exact UInt64.toNat_ofNat_of_lt' (k6 (pM r.w3) 0 (by decide))
theorem FE (r:R)(hg:r.dc)(hu:r.u32){size:Nat}(h32:32<=size)(hs:kM (size:Int)=true):dU (r.form size)=(r,0):=by
 obtain⟨w0,w1,w2,w3⟩:=Dc r size;have hU:CM (r.form size)=r.w3:=by
  unfold CM;rw[w0,w1,w2];rfl
 have hr:=Ls r hg hu;have hm:eF 0 r.p1/281474976710656=21061:=by
  have:=Hi r hg;have:=hg.1;have:=hg.2.1;omega
 unfold dU;rw[uI r h32,if_pos hs,hU,w0,w1,w2,w3,hr,if_pos ⟨hm,Cu r size⟩,if_pos rfl,if_pos hg]
end Rec
namespace Rng
open Go Go.Hw W Rec Srt Dsk
def bU (p:Nat)(f n w:Int):AO:=Oq #[I f,I n,I w,V p] 260
def yZ (d:D)(f n:Int):Bool:=decide (2<=n/\0<=f/\f<d.sec/\n<=d.sec-f)
def yN (p:Nat)(d:D)(f n w:Int)(v:Value)(M:List As):Prop:=
 (yZ d f n=true/\∃ b,v= .tuple #[V b,I 0]/\M=[Dk p d,af b (bU p f n w)])\/(yZ d f n=false/\v= .tuple #[.pointer none,I 2]/\M=[Dk p d])
theorem yN.yes {p:Nat}{d:D}{f n w:Int}(h:yZ d f n=true)(b:Nat):yN p d f n w (.tuple #[V b,I 0]) [Dk p d,af b (bU p f n w)]:=.inl ⟨h,b,rfl,rfl⟩
theorem yN.no {p:Nat}{d:D}{f n w:Int}(h:yZ d f n=false):yN p d f n w (.tuple #[.pointer none,I 2]) [Dk p d]:=.inr ⟨h,rfl,rfl⟩
theorem jH {p:Nat}{d:D}(hok:Ok d)(f n w:Int)(hf: -9223372036854775808<=f/\f<=9223372036854775807):
  Tr prog 142 #[V p,.agg #[I f,I n,I w]] [Dk p d] (yN p d f n w):=fun H hs=>by
 have hsec:=hok.sec;apply qq.ok;unfold qq;refine hs.nw fun b1 H hs=>?_
 have hs:Hw.Sep [Dk p d,af b1 (Oq #[I f,I n,I w] 150)] H:=hs;have bad:yZ d f n=false->∃ M,yN p d f n w (.tuple #[.pointer none,I 2]) M/\Hw.Sep M H:=fun h=>⟨_,.no h,hs.re [0] rfl⟩
 refine bQ rfl ?_;refine hs.cC 1 rfl rfl ?_;simp only[HV];by_cases h1:n<2
 .exact aC h1 (bad (decide_eq_false (by omega)))
 refine aw h1 ?_;refine hs.cC 1 rfl rfl ?_;simp only[HV];by_cases h2:f<0
 .exact aC h2 (bad (decide_eq_false (by omega)))
 refine aw h2 ?_;refine hs.cC 1 rfl rfl ?_;simp only[HV];refine bN.use (lO hs 0 rfl) ?_;simp only[HV];by_cases h3:f>=(d.sec:Int)
 .exact aC h3 (bad (decide_eq_false (by omega)))
 refine aw h3 ?_;refine hs.cC 1 rfl rfl ?_;simp only[HV];refine bN.use (lO hs 0 rfl) ?_;simp only[HV];refine hs.cC 1 rfl rfl ?_;simp only[HV];rw[bu (x:=(d.sec:Int)-f)];by_cases h4:n>(d.sec:Int)-f
 .exact aC h4 (bad (decide_eq_false (by omega)))
 refine aw h4 ?_
 first|refine hs.bd 1 rfl rfl ?_
 try simp only[HV]
 refine hs.nw fun b2 H hs=>?_
 exact⟨_,.yes (decide_eq_true (by omega)) b2,hs.re [0,2] rfl⟩
def dF (f n s:Nat):Nat:=f+(s-1)%n
theorem Et {L:List As}{H:Hp}(hs:Hw.Sep L H)(i:Nat){b p f n:Nat}{w:Int}(hi:L[i]? =some (af b (bU p f n w)))(hf:f<=1048576)(hn:1<=n)(hn2:n<=1048576)(s:Nat)(h1:1<=s)(h2:s<18446744073709551616):
  ae prog 158 #[V b,U (s:Int)] H (RetE (I (dF f n s:Int)) H):=by
 apply kU.ok;unfold kU;simp only[HS];refine hs.ld i hi rfl ?_;simp only[HV]
 try simp only[HS]
 refine hs.ld i hi rfl ?_;simp only[HV];have hm:(s-1)%n<n:=Nat.mod_lt _ (by omega);rw[fW,i7 (x:=(s:Int)-1),show(s:Int)-1=((s-1:Nat):Int) by omega,show Int.tmod ((s-1:Nat):Int) (n:Int)=(((s-1)%n:Nat):Int)from rfl,ed,bu];refine⟨by omega,by simp,?_⟩;unfold dF;exact RetE.of (by rw[Int.natCast_add])
def mK (f n:Nat)(bs:List UInt8)(i:Nat):List R:=if(dU bs).2=0/\dF f n (dU bs).1.s=f+i then [(dU bs).1]else []
def D.red (d:D):D:={ d.bC with rd:=d.rd+1}
theorem Ok.red {d:D}(hok:Ok d):Ok (D.red d):=⟨hok.bC.sec,hok.bC.size,hok.bC.lk,hok.bC.aa,hok.bC.safe,hok.bC.cache,hok.bC.fz⟩
def iK (f n:Nat):Nat->Nat->D->List R->Int×D×List R
 |0,_,d,acc=>(0,d,acc)
 |k+1,i,d,acc=>if d.kE ((f+i:Nat):Int)≠0 then(d.kE ((f+i:Nat):Int),d,[])else if d.dG=true then(8,d.bC,[])else iK f n k (i+1) (D.red d) (acc++mK f n (d.now ((f+i:Nat):Int)) i)
def xv (b p f n:Nat)(w:Int)(r:Int×D×List R)(v:Value)(M:List As):Prop:=
 ∃ A m,v= .tuple #[.slice A r.2.2.length m,I r.1]/\M=[Dk p r.2.1,af b (bU p f n w),bH 110 8 A r.2.2.length m (gJ (gj r.2.2 (r.2.2.length-1)))]/\r.2.2.length<=m
theorem FF {bs:List UInt8}(h:(dU bs).2=0):(dU bs).1.dc:=by
 unfold dU at h⊢;split at h
 .rename_i h1
  rw[if_pos h1];split at h
  .rename_i h2
   rw[if_pos h2];split at h
   .rename_i h3
    rw[if_pos h3];split at h
    .rename_i h4
     rw[if_pos h4];exact h4
    .cases h
   .cases h
  .cases h
 .cases h
theorem IT :eJ prog 110=some (8,56,some #[U 0,I 0,I 0,I 0,I 0,Ot 0,Ot 0,Ot 0]):=by kernel_rfl
theorem Fg {L:List As}{H:Hp}(h:Hw.Sep L H):Hw.Sep (L++[bH 110 8 none 0 0 []]) H:=by
 have:Hw.Sep (bH 110 8 none 0 0 []::L) H:=⟨fun _=>none,H,fun _ _ h=>(nomatch h),Hp.le_refl _,fun _=>.inl rfl,bH.none _ _ _,h⟩;exact Hw.Sep.perm (List.perm_append_comm (l₁:=[_])) this
theorem tY (b p f n:Nat)(w:Int)(hn:1<=n)(hfn:f+n<=1048576)(r:Int×D×List R)(hr12:r.1=0->r.2.2.length<=12):
  ∀(t i:Nat) (d:D) (acc:List R) (A:OA) (m:Nat) (H:Hp),i+t=n->Ok d->d.rd+t<=1000000->acc.length<=i->acc.length<=m->r=iK f n t i d acc->
   Hw.Sep [Dk p d,af b (bU p f n w),bH 110 8 A acc.length m (gJ acc)] H->
   bx.l2 (fun v H'=>∃ M,xv b p f n w r v M/\Hw.Sep M H') (t+1) (Oo b) A acc.length m (n:Int) (i:Int) H
 |0,i,d,acc,A,m,H,hi,hok,hrd,hacc,hm,hr,hs=>by
  unfold bx.l2;refine aw (by omega) ?_;have hr:r=(0,d,acc):=hr;have h12:=hr12 (by rw[hr]);rw[hr]at h12;refine(CY A acc.length m h12 acc rfl).use hs [2] rfl rfl ?_;rintro _ _ H1 ⟨rfl,rfl⟩ hs;rw[hr];exact⟨_,⟨A,m,rfl,rfl,hm⟩,hs.re [1,2,0] rfl⟩
 |t+1,i,d,acc,A,m,H,hi,hok,hrd,hacc,hm,hr,hs=>by
  unfold bx.l2;refine aC (by omega) ?_;have hj5:∀(H:Hp) (v:Value) (M:List As),Kf p d ((f+i:Nat):Int) v M->Hw.Sep (M++[af b (bU p f n w),bH 110 8 A acc.length m (gJ acc)]) H->
    eO v fun l1=>ay l1 fun v5 l2=>aF v5 fun A2 n2 m2=>ay l2 fun v6 l3=>DI .i64 v6 fun x5=>bK l3 (bx.j5 (fun v H'=>∃ M,xv b p f n w r v M/\Hw.Sep M H') (bx.l2 (fun v H'=>∃ M,xv b p f n w r v M/\Hw.Sep M H') (t+1)) (Oo b) A acc.length m (i:Int) A2 n2 m2 x5 (n:Int) (i:Int) H):=by
   rintro H _ _ (⟨hc,rfl,rfl⟩|⟨hc,hb,rfl,rfl⟩|⟨hc,hb,b2,c,mm,rfl,hcc,rfl⟩) hs
   .simp only[HV];unfold bx.j5;refine aT hc ?_;unfold iK at hr;rw[if_pos hc]at hr;rw[hr];have hs:=Fg hs;exact⟨_,⟨none,0,rfl,rfl,Nat.le_refl _⟩,hs.re [0,1,3] rfl⟩
   .simp only[HV];unfold bx.j5;refine aT (by decide) ?_;unfold iK at hr;rw[if_neg (by omega),if_pos hb]at hr;rw[hr];have hs:=Fg hs;exact⟨_,⟨none,0,rfl,rfl,Nat.le_refl _⟩,hs.re [0,1,3] rfl⟩
   .simp only[HV];unfold bx.j5;refine aH rfl ?_;have hs:Hw.Sep [Dk p (D.red d),af b2 (.row (aD (d.now ((f+i:Nat):Int))) 5 mm),af b (bU p f n w),bH 110 8 A acc.length m (gJ acc)] H:=hs;unfold iK at hr;rw[if_neg (by omega),if_neg (by simp[hb])]at hr;have hnow:=hok.now ((f+i:Nat):Int);have hsz:=hok.size;generalize d.now ((f+i:Nat):Int)=bs at*;have hcell:Cells H (Oo b2) (aD bs):=by
     have:=Cells.row (hs.get 1 (b:=b2) (o:=.row (aD bs) 5 mm) rfl) 0 d.size;rw[List.drop_zero,List.take_of_length_le (by rw[bz];omega)]at this;exact this
    refine ae.use (sA (Oo b2) d.size c bs hnow.symm hcc (by omega) (fun _=>hsz.1) H hcell) ?_;simp only[HV];have hg:=FF (bs:=bs);have hst:mK f n bs i=if(dU bs).2=0/\dF f n (dU bs).1.s=f+i then [(dU bs).1]else []:=rfl
    generalize dU bs=tv at*;obtain⟨q,e⟩:=tv;simp only at hg hst;refine hs.nw fun b3 H hs=>?_
    refine hs.dW 4 (y:=q.c) rfl rfl rfl (mI q) fun H hs=>?_;have hs:Hw.Sep [Dk p (D.red d),af b2 (.row (aD bs) 5 mm),af b (bU p f n w),bH 110 8 A acc.length m (gJ acc),af b3 (Oq q.c 110)] H:=hs;have hred:(D.red d).rd=d.rd+1:=rfl;have next:∀ H,mK f n bs i=[]->Hw.Sep [Dk p (D.red d),af b (bU p f n w),bH 110 8 A acc.length m (gJ acc)] H->
      bx.l2 (fun v H'=>∃ M,xv b p f n w r v M/\Hw.Sep M H') (t+1) (Oo b) A acc.length m (n:Int) (i64.wrap ((i:Int)+1)) H:=fun H h0 hs=>by
     rw[bu (x:=(i:Int)+1)];rw[h0,List.append_nil]at hr;exact tY b p f n w hn hfn r hr12 t (i+1) (D.red d) acc A m H (by omega) (Ok.red hok) (by rw[hred];omega) (by omega) hm hr hs
    by_cases he:e=0
    .have hgood:=hg he;obtain⟨s1,s2,_⟩:=hgood;refine aL he ?_;refine hs.cC 4 rfl rfl ?_;simp only[HV];refine bN.use (Et hs 2 rfl (by omega) hn (by omega) q.s s1 (by omega)) ?_;simp only[HV]
     try simp only[HS]
     refine hs.ld 2 rfl rfl ?_;simp only[HV];rw[bu (x:=(f:Int)+(i:Int))];by_cases hsl:dF f n q.s=f+i
     .refine aL (by omega) ?_;rw[if_pos ⟨he,hsl⟩]at hst;refine hs.bd 4 rfl rfl ?_;unfold R.c;simp only[HV];refine Gf (x:=fun b=>.slice (Oo b) 1 1) ?_;refine hs.Mr 3 rfl IT rfl (by omega) (by omega) rfl rfl (by omega) (by omega) fun A' m' H hs hcap=>?_
      have hm':=hcap _ _ _ rfl;simp only[HV];rw[bu (x:=(i:Int)+1)];rw[hst]at hr;have hlen:(acc++[q]).length=acc.length+1:=by simp
      have ih:=tY b p f n w hn hfn r hr12 t (i+1) (D.red d) (acc++[q]) A' m' H (by omega) (Ok.red hok) (by rw[hred];omega) (by omega) (by rw[hlen];exact hm') hr;rw[hlen]at ih;refine ih ?_;have e1:gJ (acc++[q])=gJ acc++q.c.toList:=by simp[gJ]
      rw[e1];exact hs.re [0,2,3] rfl
     .refine aK (by omega) ?_;rw[if_neg (fun h=>hsl h.2)]at hst;exact next H hst (hs.re [0,2,3] rfl)
    .refine aK he ?_;rw[if_neg (fun h=>he h.1)]at hst;exact next H hst (hs.re [0,2,3] rfl)
  try simp only[HS]
  have hw:i64.wrap ((f:Int)+(i:Int))=((f+i:Nat):Int):=by rw[bu];omega
  have hR:=vh (p:=p) (d:=d) hok (by omega) ((f+i:Nat):Int);refine⟨?_,?_⟩
  .refine hs.ld 1 rfl rfl ?_;simp only[HV]
   try simp only[HS]
   refine hs.ld 1 rfl rfl ?_;simp only[HV];rw[hw];refine hR.use hs [0] rfl rfl ?_;intro v M H1 hq hs;exact hj5 H1 v M hq hs
  .refine hs.ld 1 rfl rfl ?_;simp only[HV]
   try simp only[HS]
   refine hs.ld 1 rfl rfl ?_;simp only[HV];rw[hw];refine hR.use hs [0] rfl rfl ?_;intro v M H1 hq hs;exact hj5 H1 v M hq hs
theorem HU (f n:Nat)(bs:List UInt8)(i:Nat):(mK f n bs i).length<=1:=by unfold mK;split<;>simp
theorem uO (f n:Nat):∀(k i:Nat) (d:D) (acc:List R),(iK f n k i d acc).2.2.length<=acc.length+k
 |0,_,_,_=>Nat.le_refl _
 |k+1,i,d,acc=>by
  unfold iK;split
  .exact Nat.zero_le _
  .split
   .exact Nat.zero_le _
   .have h1:=uO f n k (i+1) (D.red d) (acc++mK f n (d.now ((f+i:Nat):Int)) i);have h2:=HU f n (d.now ((f+i:Nat):Int)) i;rw[List.length_append]at h1;omega
theorem Au (f n:Nat):∀(k i:Nat) (d:D) (acc:List R),(iK f n k i d acc).1≠0->(iK f n k i d acc).2.2=[]
 |0,_,_,_,h=>absurd rfl h
 |k+1,i,d,acc,h=>by
  unfold iK at h⊢;by_cases h1:d.kE ((f+i:Nat):Int)≠0
  .rw[if_pos h1]
  .rw[if_neg h1]at h⊢;by_cases h2:d.dG=true
   .rw[if_pos h2]
   .rw[if_neg h2]at h⊢;exact Au f n k (i+1) _ _ h
def dH (f n:Nat)(d:D):Int×D×List R:=iK f n n 0 d []
theorem KE {b p f n:Nat}{w:Int}{d:D}(hn:1<=n)(hfn:f+n<=1048576)(hok:Ok d)(hrd:d.rd+n<=1000000)(h12:(dH f n d).1=0->(dH f n d).2.2.length<=12):
  Tr prog 98 #[V b] [Dk p d,af b (bU p f n w)] (xv b p f n w (dH f n d)):=fun H hs=>by
 apply bx.ok;unfold bx
 try simp only[HS]
 refine hs.ld 1 rfl rfl ?_;simp only[HV];exact⟨n+1,tY b p f n w hn hfn _ h12 n 0 d [] none 0 H (by omega) hok hrd (Nat.le_refl _) (Nat.le_refl _) rfl (Fg hs)⟩
def k7 (r:Int×D×List R):Option R:=(gj r.2.2 (r.2.2.length-1)).getLast?
def JW (b p f n:Nat)(w:Int)(r:Int×D×List R)(v:Value)(M:List As):Prop:=
 v= .tuple #[.agg ((k7 r).getD eH).c,.bool (k7 r).isSome,I r.1]/\M=[Dk p r.2.1,af b (bU p f n w)]
theorem Dn {b p f n:Nat}{w:Int}{d:D}(hn:1<=n)(hfn:f+n<=1048576)(hok:Ok d)(hrd:d.rd+n<=1000000)(h12:(dH f n d).1=0->(dH f n d).2.2.length<=12):
  Tr prog 82 #[V b] [Dk p d,af b (bU p f n w)] (JW b p f n w (dH f n d)):=fun H hs=>by
 apply fN.ok;unfold fN fN.q1;refine hs.nw fun b1 H hs=>?_
 have herr:=Au f n n 0 d [];have hlen:=lV ((dH f n d).2.2.length-1) (dH f n d).2.2;refine(KE (b:=b) (p:=p) (w:=w) hn hfn hok hrd h12).use hs [0,1] rfl rfl ?_;rintro _ _ H1 ⟨A,m,rfl,rfl,_⟩ hs;change (dH f n d).1≠0->(dH f n d).2.2=[]at herr;unfold JW k7;generalize dH f n d=r at*;obtain⟨e,d',l⟩:=r;simp only at hlen herr h12 hs⊢;simp only[HV];have hs:Hw.Sep [Dk p d',af b (bU p f n w),bH 110 8 A l.length m (gJ (gj l (l.length-1))),af b1 (Oq #[U 0,I 0,I 0,I 0,I 0,Ot 0,Ot 0,Ot 0] 110)] H1:=hs;have zero:l=[]->∀ H,Hw.Sep [Dk p d',af b (bU p f n w),bH 110 8 A l.length m (gJ (gj l (l.length-1))),af b1 (Oq #[U 0,I 0,I 0,I 0,I 0,Ot 0,Ot 0,Ot 0] 110)] H->
   bR H (O b1) #[U 0,I 0,I 0,I 0,I 0,Ot 0,Ot 0,Ot 0] 8 fun H3=>aJ H3 (O b1) 8 fun l5=>∃ M,((Value.tuple #[.agg l5.toArray,.bool false,I e])= .tuple #[.agg (((gj l (l.length-1)).getLast?).getD eH).c,.bool ((gj l (l.length-1)).getLast?).isSome,I e]/\M=[Dk p d',af b (bU p f n w)])/\Hw.Sep M H3:=fun h0 H hs=>by
  subst h0;refine hs.dW 3 rfl rfl rfl rfl fun H hs=>hs.bd 3 rfl rfl ?_
  exact⟨_,⟨rfl,rfl⟩,hs.re [0,1] rfl⟩
 by_cases he:e≠0
 .refine aT he ?_;exact zero (herr he) _ hs
 .have he0:e=0:=by omega
  refine aH he0 ?_;by_cases hl:l=[]
  .refine aL (by rw[hl];rfl) ?_;exact zero hl _ hs
  .have hp:0<l.length:=List.length_pos_iff.2 hl;refine aK (by omega) ?_;have ei:i64.wrap ((l.length:Int)-1)=((l.length-1:Nat):Int):=by
    have h12':=h12 he0;rw[bu];omega
   rw[ei];have hlt:l.length-1<(gj l (l.length-1)).length:=by omega
   refine(hs.own 2 rfl).uG rfl (by omega) (rq _ (l.length-1) hlt) ?_;rw[Array.toArray_toList];refine hs.dW 3 rfl rfl rfl (mI _) fun H hs=>hs.bd 3 rfl rfl ?_
   rw[Array.toArray_toList];have hgl:(gj l (l.length-1)).getLast? =some (gj l (l.length-1))[l.length-1]:=by
    rw[List.getLast?_eq_getElem?,hlen,List.getElem?_eq_getElem hlt]
   rw[hgl,he0];exact⟨_,⟨rfl,rfl⟩,hs.re [0,1] rfl⟩
end Rng
namespace Rec
open Go Go.Hw Go.Form Go.Crc W FormP
theorem BA (r:R)(x:Int)(h:¬(r.dc/\kM x=true))(H:Hp):ae prog 241 #[.agg r.c,I x] H (RetE (.tuple #[.slice none 0 0,I 1]) H):=ae.ret (by
 apply kC.ok;unfold kC;refine(Sep.start H).nw fun b1 H1 hs=>?_
 have hs:Sep [own H,af b1 (fw r)] H1:=hs;refine hs.bd 1 rfl rfl ?_;refine ae.use (fT r H1) ?_;simp only[HV];by_cases hg:r.dc
 .rw[decide_eq_true hg];refine bQ rfl ?_;refine ae.use (r8 x H1) ?_;rw[show kM x=false by simpa using fun g=>h ⟨hg,g⟩];simp only[HV];exact hs.fin 0 rfl _
 .rw[decide_eq_false hg];exact cV rfl (hs.fin 0 rfl _))
theorem vt (r:R){size:Nat}(h32:32<=size):setAt (cZ [Value.int .u8 0] size) 0 (aD (Form.form r.w4))=aD (r.form size):=by
 rw[fm];unfold setAt R.form;rw[List.take_zero,List.nil_append,Nat.zero_add,bz,vm,List.drop_replicate];unfold aD;rw[List.map_append,List.map_replicate];rfl
end Rec
namespace Rng
open Go Go.Hw W Rec Srt Dsk
theorem Cz (f n:Nat):∀(k i:Nat) (d:D) (acc:List R),Ok d->Ok (iK f n k i d acc).2.1/\(iK f n k i d acc).2.1.wr=d.wr/\(iK f n k i d acc).2.1.sy=d.sy/\(iK f n k i d acc).2.1.size=d.size/\(iK f n k i d acc).2.1.sec=d.sec
 |0,_,d,_,h=>⟨h,rfl,rfl,rfl,rfl⟩
 |k+1,i,d,acc,h=>by
  have hb:=gr d;unfold iK;split
  .exact⟨h,rfl,rfl,rfl,rfl⟩
  .split
   .exact⟨h.bC,hb.2.1,hb.2.2.1,hb.2.2.2.1,hb.2.2.2.2.1⟩
   .obtain⟨h1,h2,h3,h4,h5⟩:=Cz f n k (i+1) (D.red d) (acc++mK f n (d.now ((f+i:Nat):Int)) i) (Ok.red h);exact⟨h1,h2.trans hb.2.1,h3.trans hb.2.2.1,h4.trans hb.2.2.2.1,h5.trans hb.2.2.2.2.1⟩
def zf (f n:Nat)(d:D)(r:R):Int×D:=
 if d.dx (dF f n r.s) d.size≠0 then(d.dx (dF f n r.s) d.size,d.bJ (dF f n r.s) (r.form d.size))
 else((d.bJ (dF f n r.s) (r.form d.size)).iM,(d.bJ (dF f n r.s) (r.form d.size)).fK)
def iv (q:Option R)(r:R):Bool:=match q with|some q=>decide (after q r)|none=>decide (r.s=1∧r.kd=1)
def mQ (f n:Nat)(d:D)(r:R):Int×D:=
 if ¬r.dc then(10,d)else if(dH f n d).1≠0 then((dH f n d).1,(dH f n d).2.1)
 else if iv (k7 (dH f n d)) r=false then(5,(dH f n d).2.1)else zf f n (dH f n d).2.1 r
def s9 (b p f n:Nat)(w:Int)(r:Int×D)(v:Value)(M:List As):Prop:=v= I r.1/\M=[Dk p r.2,af b (bU p f n w)]
theorem Nr {b p f n:Nat}{w:Int}(hn:1<=n)(hfn:f+n<=1048576){d:D}(hok:Ok d)(hw:d.wr<=1000000/\d.sy<=1000000)(r:R)(hg:r.dc)(b1 b2 mm:Nat)(H:Hp)
  (hs:Hw.Sep [Dk p d,af b (bU p f n w),af b1 (fw r),af b2 (.row (aD (r.form d.size)) 5 mm)] H):
  bj.j9 (fun v H'=>∃ M,s9 b p f n w (zf f n d r) v M/\Hw.Sep M H') (Oo b) (O b1) (Oo b2) d.size d.size H:=by
 unfold bj.j9;obtain⟨s1,s2,_⟩:=hg;have hsz:=hok.size
 try simp only[HS]
 refine hs.ld 1 rfl rfl ?_;simp only[HV];refine hs.ld 2 rfl rfl ?_;simp only[HV];refine bN.use (Et hs 1 rfl (by omega) hn (by omega) r.s s1 (by omega)) ?_;simp only[HV];have hl:=uI r hsz.1;refine(kV (p:=p) (d:=d) hok (by omega) (dF f n r.s:Int) (Oo b2) d.size d.size (r.form d.size) hl.symm (af b2 (.row (aD (r.form d.size)) 5 mm)) (fun H h=>?_)).use hs [0,3] rfl rfl ?_
 .have:=Cells.row h 0 d.size;rw[List.drop_zero,List.take_of_length_le (by rw[bz];omega)]at this;exact this
 rintro _ _ H1 ⟨rfl,rfl⟩ hs;have hs:Hw.Sep [Dk p (d.bJ (dF f n r.s) (r.form d.size)),af b2 (.row (aD (r.form d.size)) 5 mm),af b (bU p f n w),af b1 (fw r)] H1:=hs;unfold s9 zf;by_cases he:d.dx (dF f n r.s) d.size≠0
 .rw[if_pos he];simp only[HV];refine aT he ?_;exact⟨_,⟨by first|trivial|rfl,rfl⟩,hs.re [0,2] rfl⟩
 .rw[if_neg he];simp only[HV];refine aH (by omega) ?_
  try simp only[HS]
  refine hs.ld 2 rfl rfl ?_;simp only[HV];have hsy:(d.bJ (dF f n r.s) (r.form d.size)).sy=d.sy:=by
   have hbr:=gr d;unfold D.bJ;split
   .rfl
   .split
    .rfl
    .split
     .exact hbr.2.2.1
     .exact hbr.2.2.1
  refine(qI (p:=p) (d:=d.bJ (dF f n r.s) (r.form d.size)) (Ok.bJ hok _ _) (by rw[hsy];omega)).use hs [0] rfl rfl ?_;rintro _ _ H2 ⟨rfl,rfl⟩ hs;simp only[HV];exact⟨_,⟨by first|trivial|rfl,rfl⟩,hs.re [0,2] rfl⟩
theorem Np {K:VK}{p4:OA}{a4:Addr}{A:OA}{n m:Nat}{x:Int}{H:Hp}(hx:x≠0)(k:K (I 10) H):bj.j2 K p4 a4 A n m x H:=by
 unfold bj.j2;exact aT hx k
theorem Nq {b p f n:Nat}{w:Int}(hn:1<=n)(hfn:f+n<=1048576){d:D}(hok:Ok d)(hw:d.wr<=1000000/\d.sy<=1000000)(hrd:d.rd+n<=1000000)(h12:(dH f n d).1=0->(dH f n d).2.2.length<=12)(r:R)(hg:r.dc)(b1 b2 mm:Nat)(H:Hp)
  (hs:Hw.Sep [Dk p d,af b (bU p f n w),af b1 (fw r),af b2 (.row (aD (r.form d.size)) 5 mm)] H):
  bj.j2 (fun v H'=>∃ M,s9 b p f n w (mQ f n d r) v M/\Hw.Sep M H') (Oo b) (O b1) (Oo b2) d.size d.size 0 H:=by
 unfold bj.j2;refine aH rfl ?_;refine(Dn (b:=b) (p:=p) (w:=w) hn hfn hok hrd h12).use hs [0,1] rfl rfl ?_;rintro _ _ H1 ⟨rfl,rfl⟩ hs;obtain⟨hok',hwr',hsy',hsz',_⟩:=Cz f n n 0 d [] hok;have hok':Ok (dH f n d).2.1:=hok';have hwr':(dH f n d).2.1.wr=d.wr:=hwr';have hsy':(dH f n d).2.1.sy=d.sy:=hsy';have hsz':(dH f n d).2.1.size=d.size:=hsz';have hj9:=fun(b1 b2 mm:Nat) (H:Hp) hs=>Nr (b:=b) (p:=p) (w:=w) hn hfn hok' (by rw[hwr',hsy'];exact hw) r hg b1 b2 mm H hs
 have hap:mQ f n d r=if(dH f n d).1≠0 then((dH f n d).1,(dH f n d).2.1)else if iv (k7 (dH f n d)) r=false then(5,(dH f n d).2.1)else zf f n (dH f n d).2.1 r:=by
  unfold mQ;rw[if_neg (fun h=>h hg)]
 rw[hap];rw[hsz']at hj9;generalize k7 (dH f n d)=lq at*;generalize dH f n d=sc at*;obtain⟨e,d',l⟩:=sc;simp only at hj9 hs hok' hwr' hsy' hsz' h12⊢;simp only[HV];refine hs.nw fun b3 H hs=>?_
 refine hs.dW 4 (y:=(lq.getD eH).c) rfl rfl rfl (mI _) fun H hs=>?_;have hs:Hw.Sep [Dk p d',af b (bU p f n w),af b1 (fw r),af b2 (.row (aD (r.form d.size)) 5 mm),af b3 (Oq (lq.getD eH).c 110)] H:=hs;by_cases he:e≠0
 .refine aT he ?_;rw[if_pos he];exact⟨_,⟨rfl,rfl⟩,hs.re [0,1] rfl⟩
 refine aH (by omega) ?_;rw[if_neg he];cases lq with
 |some q=>
  refine cV rfl ?_;refine hs.bd 4 rfl rfl ?_;refine hs.bd 2 rfl rfl ?_;rw[Array.toArray_toList,Array.toArray_toList];refine ae.use (Im q r H) ?_;simp only[HV];by_cases ha:after q r
  .rw[decide_eq_true ha];refine bQ rfl (bQ rfl ?_);rw[if_neg (show ¬iv (some q) r=false by show ¬(decide (after q r)=false);rw[decide_eq_true ha];decide)];exact hj9 b1 b2 mm H (hs.re [0,1,2,3] rfl)
  .rw[decide_eq_false ha];refine cV rfl ?_;rw[if_pos (show iv (some q) r=false from decide_eq_false ha)];exact⟨_,⟨rfl,rfl⟩,hs.re [0,1] rfl⟩
 |none=>
  refine bQ rfl (cV rfl ?_);refine hs.cC 2 rfl rfl ?_;simp only[HV];by_cases h1:r.s=1
  .refine aH (by omega) ?_;refine hs.cC 2 rfl rfl ?_;simp only[HV];by_cases h2:r.kd=1
   .refine aH h2 ?_;rw[if_neg (show ¬iv none r=false by show ¬(decide (r.s=1/\r.kd=1)=false);rw[decide_eq_true ⟨h1,h2⟩];decide)];exact hj9 b1 b2 mm H (hs.re [0,1,2,3] rfl)
   .refine aT h2 ?_;rw[if_pos (show iv none r=false from decide_eq_false fun h=>h2 h.2)];exact⟨_,⟨rfl,rfl⟩,hs.re [0,1] rfl⟩
  .refine aT (by omega) ?_;rw[if_pos (show iv none r=false from decide_eq_false fun h=>h1 h.1)];exact⟨_,⟨rfl,rfl⟩,hs.re [0,1] rfl⟩
theorem FT {b p f n:Nat}{w:Int}(hn:1<=n)(hfn:f+n<=1048576){d:D}(hok:Ok d)(hw:d.wr<=1000000/\d.sy<=1000000)(hrd:d.rd+n<=1000000)(h12:(dH f n d).1=0->(dH f n d).2.2.length<=12)(hsec:kM (d.size:Int)=true)(r:R)(hu:r.u32):
  Tr prog 170 #[V b,.agg r.c] [Dk p d,af b (bU p f n w)] (s9 b p f n w (mQ f n d r)):=fun H hs=>by
 apply bj.ok;unfold bj bj.q1;have hsz:=hok.size;refine hs.nw fun b1 H hs=>?_
 have hs:Hw.Sep [Dk p d,af b (bU p f n w),af b1 (fw r)] H:=hs;have put:ae prog 241 #[.agg r.c,I (d.size:Int)] H fun v3 H3=>eO v3 fun l2=>ay l2 fun v4 l3=>aF v4 fun A1 n1 m1=>ay l3 fun v5 l4=>DI .i64 v5 fun x2=>bK l4 (bj.j2 (fun v H'=>∃ M,s9 b p f n w (mQ f n d r) v M/\Hw.Sep M H') (Oo b) (O b1) A1 n1 m1 x2 H3):=by
  by_cases hg:r.dc
  .have hneed:(Lay.pn 0 (d.size:Int)).2=0:=of_decide_eq_true hsec;refine(Ma r hg hu d.size hsz.1 hsz.2 hneed).use hs [] rfl rfl ?_;rintro _ _ H1 ⟨b2,rfl,rfl⟩ hs;rw[vt r hsz.1]at hs;simp only[HV];have hs:Hw.Sep [af b2 (.row (aD (r.form d.size)) 5 (d.size*1)),Dk p d,af b (bU p f n w),af b1 (fw r)] H1:=hs;exact Nq hn hfn hok hw hrd h12 r hg b1 b2 _ H1 (hs.re [1,2,3,0] rfl)
  .refine ae.use (BA r (d.size:Int) (fun h=>hg h.1) H) ?_;simp only[HV];refine Np (by decide) ?_;have:mQ f n d r=(10,d):=by unfold mQ;rw[if_pos hg]
   rw[this];exact⟨_,⟨rfl,rfl⟩,hs.re [0,1] rfl⟩
 have mO:∀{K:List Value->Prop},K r.c.toList->aJ H (O b1) 8 K:=fun k=>hs.bd 2 rfl rfl k
 have ldd:∀{K:Value->Prop},K (V p)->Ld H ((O b).add 3) K:=fun k=>hs.cC 1 rfl rfl k
 have hS:=qP hs 0 rfl;rw[dQ];refine⟨mO (ldd ?_),ldd ?_⟩
 .simp only[HV];refine ae.use hS ?_;simp only[HV];exact put
 .simp only[HV];refine⟨mO ?_,?_⟩
  .refine ae.use hS ?_;simp only[HV];exact put
  .refine ae.use hS ?_;simp only[HV];refine mO ?_;rw[Array.toArray_toList];exact put
def ti (f:Nat):Nat->Nat->D->Int×D
 |0,_,d=>(d.iM,d.fK)
 |k+1,i,d=>if d.dx ((f+i:Nat):Int) d.size≠0 then(d.dx ((f+i:Nat):Int) d.size,d.bJ ((f+i:Nat):Int) (List.replicate d.size 0))else ti f k (i+1) (d.bJ ((f+i:Nat):Int) (List.replicate d.size 0))
theorem AG (d:D)(i:Int)(bs:List UInt8):(d.bJ i bs).sy=d.sy/\(d.bJ i bs).wr<=d.wr+1/\(d.bJ i bs).size=d.size:=by
 have hbr:=gr d;unfold D.bJ;split
 .exact⟨rfl,by omega,rfl⟩
 .split
  .exact⟨rfl,by omega,rfl⟩
  .split
   .exact⟨hbr.2.2.1,by omega,hbr.2.2.2.1⟩
   .exact⟨hbr.2.2.1,Nat.le_refl _,hbr.2.2.2.1⟩
theorem mM (n:Nat):cZ [Value.int .u8 0] n=aD (List.replicate n 0):=by
 rw[fm];simp[aD]
theorem xf {b p f n:Nat}{w:Int}(hfn:f+n<=1048576)(r:Int×D):∀(t i:Nat) (d:D) (H:Hp),i+t=n->Ok d->d.wr+t<=1000000->d.sy<=1000000->r=ti f t i d->Hw.Sep [Dk p d,af b (bU p f n w)] H->
  bB.l2 (fun v H'=>∃ M,s9 b p f n w r v M/\Hw.Sep M H') (t+1) (Oo b) (n:Int) (i:Int) H
 |0,i,d,H,hi,hok,hwr,hsy,hr,hs=>by
  unfold bB.l2 bB.l2.q1;refine aw (by omega) ?_
  try simp only[HS]
  refine hs.ld 1 rfl rfl ?_;simp only[HV]
  try simp only[HS]
  refine(qI (p:=p) (d:=d) hok (by omega)).use hs [0] rfl rfl ?_;rintro _ _ H1 ⟨rfl,rfl⟩ hs;have hr:r=(d.iM,d.fK):=hr;rw[hr];simp only[HV];exact⟨_,⟨rfl,rfl⟩,hs⟩
 |t+1,i,d,H,hi,hok,hwr,hsy,hr,hs=>by
  unfold bB.l2 bB.l2.q1;refine aC (by omega) ?_;have hsz:=hok.size;have hw:=AG d ((f+i:Nat):Int) (List.replicate d.size 0);have hadd:i64.wrap ((f:Int)+(i:Int))=((f+i:Nat):Int):=by rw[bu];omega
  have rest:∀ H1,Hw.Sep [Dk p (d.bJ ((f+i:Nat):Int) (List.replicate d.size 0)),af b (bU p f n w)] H1->
    ao (d.dx ((f+i:Nat):Int) d.size !=0) (∃ M,s9 b p f n w r (I (d.dx ((f+i:Nat):Int) d.size)) M/\Hw.Sep M H1) (bB.l2 (fun v H'=>∃ M,s9 b p f n w r v M/\Hw.Sep M H') (t+1) (Oo b) (n:Int) (i64.wrap ((i:Int)+1)) H1):=fun H1 hs=>by
   unfold ti at hr;by_cases he:d.dx ((f+i:Nat):Int) d.size≠0
   .rw[if_pos he]at hr;refine aT he ?_;rw[hr];exact⟨_,⟨rfl,rfl⟩,hs⟩
   .rw[if_neg he]at hr;refine aH (by omega) ?_;rw[bu (x:=(i:Int)+1)];exact xf hfn r t (i+1) _ H1 (by omega) (Ok.bJ hok _ _) (by omega) (by omega) hr hs
  try simp only[HS]
  refine hs.ld 1 rfl rfl ?_;simp only[HV]
  try simp only[HS]
  refine bN.use (qP hs 0 rfl) ?_;simp only[HV]
  try simp only[HS]
  refine⟨?_,?_,?_⟩
  .refine hs.ld 1 rfl rfl ?_;simp only[HV]
   try simp only[HS]
   refine⟨?_,?_⟩
   .refine hs.ld 1 rfl rfl ?_;simp only[HV]
    try simp only[HS]
    rw[hadd];refine hs.q8 lA rfl (n:=d.size) (m:=d.size) rfl rfl (Nat.le_refl _) (by omega) (by omega) fun b2 H hs=>?_
    simp only[HV];rw[mM]at hs;have hs:Hw.Sep [Dk p d,af b (bU p f n w),af b2 (.row (aD (List.replicate d.size 0)) 5 (d.size*1))] H:=hs;refine(kV (p:=p) (d:=d) hok (by omega) ((f+i:Nat):Int) (Oo b2) d.size d.size (List.replicate d.size 0) (by rw[List.length_replicate]) (af b2 (.row (aD (List.replicate d.size 0)) 5 (d.size*1))) (fun H h=>?_)).use hs [0,2] rfl rfl ?_
    .have:=Cells.row h 0 d.size;rw[List.drop_zero,List.take_of_length_le (by rw[bz,List.length_replicate];omega)]at this;exact this
    rintro _ _ H1 ⟨rfl,rfl⟩ hs;simp only[HV];exact rest _ (hs.re [0,2] rfl)
   .refine hs.q8 lA rfl (n:=d.size) (m:=d.size) rfl rfl (Nat.le_refl _) (by omega) (by omega) fun b2 H hs=>?_
    simp only[HV];rw[mM]at hs;have hs:Hw.Sep [Dk p d,af b (bU p f n w),af b2 (.row (aD (List.replicate d.size 0)) 5 (d.size*1))] H:=hs;refine hs.ld 1 rfl rfl ?_;simp only[HV]
    try simp only[HS]
    rw[hadd];refine(kV (p:=p) (d:=d) hok (by omega) ((f+i:Nat):Int) (Oo b2) d.size d.size (List.replicate d.size 0) (by rw[List.length_replicate]) (af b2 (.row (aD (List.replicate d.size 0)) 5 (d.size*1))) (fun H h=>?_)).use hs [0,2] rfl rfl ?_
    .have:=Cells.row h 0 d.size;rw[List.drop_zero,List.take_of_length_le (by rw[bz,List.length_replicate];omega)]at this;exact this
    rintro _ _ H1 ⟨rfl,rfl⟩ hs;simp only[HV];exact rest _ (hs.re [0,2] rfl)
  .refine hs.ld 1 rfl rfl ?_;simp only[HV]
   try simp only[HS]
   rw[hadd];refine⟨?_,?_⟩
   .refine hs.ld 1 rfl rfl ?_;simp only[HV]
    try simp only[HS]
    refine hs.q8 lA rfl (n:=d.size) (m:=d.size) rfl rfl (Nat.le_refl _) (by omega) (by omega) fun b2 H hs=>?_
    simp only[HV];rw[mM]at hs;have hs:Hw.Sep [Dk p d,af b (bU p f n w),af b2 (.row (aD (List.replicate d.size 0)) 5 (d.size*1))] H:=hs;refine(kV (p:=p) (d:=d) hok (by omega) ((f+i:Nat):Int) (Oo b2) d.size d.size (List.replicate d.size 0) (by rw[List.length_replicate]) (af b2 (.row (aD (List.replicate d.size 0)) 5 (d.size*1))) (fun H h=>?_)).use hs [0,2] rfl rfl ?_
    .have:=Cells.row h 0 d.size;rw[List.drop_zero,List.take_of_length_le (by rw[bz,List.length_replicate];omega)]at this;exact this
    rintro _ _ H1 ⟨rfl,rfl⟩ hs;simp only[HV];exact rest _ (hs.re [0,2] rfl)
   .refine hs.q8 lA rfl (n:=d.size) (m:=d.size) rfl rfl (Nat.le_refl _) (by omega) (by omega) fun b2 H hs=>?_
    simp only[HV];rw[mM]at hs;have hs:Hw.Sep [Dk p d,af b (bU p f n w),af b2 (.row (aD (List.replicate d.size 0)) 5 (d.size*1))] H:=hs;refine hs.ld 1 rfl rfl ?_;simp only[HV]
    try simp only[HS]
    refine(kV (p:=p) (d:=d) hok (by omega) ((f+i:Nat):Int) (Oo b2) d.size d.size (List.replicate d.size 0) (by rw[List.length_replicate]) (af b2 (.row (aD (List.replicate d.size 0)) 5 (d.size*1))) (fun H h=>?_)).use hs [0,2] rfl rfl ?_
    .have:=Cells.row h 0 d.size;rw[List.drop_zero,List.take_of_length_le (by rw[bz,List.length_replicate];omega)]at this;exact this
    rintro _ _ H1 ⟨rfl,rfl⟩ hs;simp only[HV];exact rest _ (hs.re [0,2] rfl)
  .refine hs.q8 lA rfl (n:=d.size) (m:=d.size) rfl rfl (Nat.le_refl _) (by omega) (by omega) fun b2 H hs=>?_
   simp only[HV];rw[mM]at hs;have hs:Hw.Sep [Dk p d,af b (bU p f n w),af b2 (.row (aD (List.replicate d.size 0)) 5 (d.size*1))] H:=hs;refine hs.ld 1 rfl rfl ?_;simp only[HV]
   try simp only[HS]
   refine hs.ld 1 rfl rfl ?_;simp only[HV]
   try simp only[HS]
   rw[hadd];refine(kV (p:=p) (d:=d) hok (by omega) ((f+i:Nat):Int) (Oo b2) d.size d.size (List.replicate d.size 0) (by rw[List.length_replicate]) (af b2 (.row (aD (List.replicate d.size 0)) 5 (d.size*1))) (fun H h=>?_)).use hs [0,2] rfl rfl ?_
   .have:=Cells.row h 0 d.size;rw[List.drop_zero,List.take_of_length_le (by rw[bz,List.length_replicate];omega)]at this;exact this
   rintro _ _ H1 ⟨rfl,rfl⟩ hs;simp only[HV];exact rest _ (hs.re [0,2] rfl)
theorem Iu {b p f n:Nat}{w:Int}(hfn:f+n<=1048576){d:D}(hok:Ok d)(hwr:d.wr+n<=1000000)(hsy:d.sy<=1000000):
  Tr prog 128 #[V b] [Dk p d,af b (bU p f n w)] (s9 b p f n w (ti f n 0 d)):=fun H hs=>by
 apply bB.ok;unfold bB
 try simp only[HS]
 refine hs.ld 1 rfl rfl ?_;simp only[HV];exact⟨n+1,xf hfn _ n 0 d H (by omega) hok hwr hsy rfl hs⟩
structure Act where
 k:Int
 i:Int
 r:R
 A:OA
 n:Nat
 m:Nat
 ks:List Bool
 A':OA
 n':Nat
 m':Nat
 b:List UInt8
structure L9 (H:Hp)(a:Act):Prop where
 n:a.n=a.ks.length
 ks:Cells H a.A (lR a.ks)
 n':a.n'=a.b.length
 b:Cells H a.A' (aD a.b)
 i: -9223372036854775808<=a.i/\a.i<=9223372036854775807
 wf:a.r.wf
theorem L9.le {H H':Hp}{a:Act}(h:L9 H a)(k:H.le H'):L9 H' a:=⟨h.n,h.ks.le k,h.n',h.b.le k,h.i,h.wf⟩
def short (a:Act):Prop:=a.n<=20/\a.n'<=100
end Rng
namespace Rng
open Go Go.Hw Rec Srt Dsk
theorem uq (r:Int×D×List R):k7 r=none↔r.2.2=[]:=by
 unfold k7;rw[List.getLast?_eq_none_iff];constructor
 .intro h;have:=lV (r.2.2.length-1) r.2.2;rw[h]at this;exact List.length_eq_zero_iff.1 this.symm
 .intro h;rw[h];rfl
theorem zY {r:Int×D×List R}{q:R}(h:k7 r=some q):q∈r.2.2/\∀ x∈r.2.2,x.s<=q.s:=by
 unfold k7 at h;have hp:=GX r.2.2;have hs:=BZ r.2.2;generalize gj r.2.2 (r.2.2.length-1)=l at*;obtain⟨p,rfl⟩:=List.getLast?_eq_some_iff.1 h;refine⟨hp.mem_iff.1 (by simp),fun x hx=>?_⟩;have hx2:=hp.mem_iff.2 hx;rw[List.pairwise_append]at hs;rcases List.mem_append.1 hx2 with h1|h1
 .exact hs.2.2 x h1 q (by simp)
 .have:x=q:=by simpa using h1
  rw[this];exact Nat.le_refl _
theorem I0 {r:Int×D×List R}{q:R}(hq:q∈r.2.2)(hm:∀ x∈r.2.2,x.s<=q.s)(hd:∀ x∈r.2.2,x.s=q.s->x=q):k7 r=some q:=by
 cases h:k7 r with
 |none=>rw[(uq r).1 h]at hq;simp at hq
 |some y=>
  obtain⟨h1,h2⟩:=zY h;have:=h2 q hq;have:=hm y h1;rw[hd y h1 (by omega)]
end Rng
namespace Eng
open Go Go.Hw Go.Form Dsk Str Rec Srt Rng
def yz (c:Cn)(f n:Nat):Nat->Nat->List R
 |0,_=>[]
 |k+1,i=>mK f n (c ((f+i:Nat):Int)) i++yz c f n k (i+1)
def fp (c:Cn)(k:Nat)(b:List UInt8):Cn:=fun i=>if i=(k:Int)then b else c i
def jV (c:Cn)(f n:Nat):Option R:=k7 (0,(D.fresh 1 32),yz c f n n 0)
theorem B1 {d:D}{e:Int}{c:Cn}{f n:Nat}:k7 (e,d,yz c f n n 0)=jV c f n:=rfl
theorem qK (c:Cn)(f n:Nat)(x:R):∀ k i,x∈yz c f n k i↔∃ j,i<=j/\j<i+k/\x∈mK f n (c ((f+j:Nat):Int)) j
 |0,i=>by
  constructor
  .intro h;cases h
  .rintro⟨j,h1,h2,_⟩;omega
 |k+1,i=>by
  show x∈_++_↔_
  rw[List.mem_append,qK c f n x k (i+1)];constructor
  .rintro(h|⟨j,h1,h2,h3⟩)
   .exact⟨i,Nat.le_refl _,by omega,h⟩
   .exact⟨j,by omega,by omega,h3⟩
  .rintro⟨j,h1,h2,h3⟩;by_cases e:j=i
   .subst e;exact .inl h3
   .exact .inr ⟨j,by omega,by omega,h3⟩
theorem uX {f n:Nat}{bs:List UInt8}{i:Nat}{x:R}:x∈mK f n bs i↔(dU bs).2=0/\dF f n x.s=f+i/\x=(dU bs).1:=by
 unfold mK;split
 .rename_i h
  rw[List.mem_singleton];constructor
  .rintro rfl;exact⟨h.1,h.2,rfl⟩
  .rintro⟨_,_,h3⟩;exact h3
 .rename_i h
  constructor
  .intro h';cases h'
  .rintro⟨h1,h2,rfl⟩;exact absurd ⟨h1,h2⟩ h
theorem yq {d:D}{c:Cn}(h:Clean d c)(f n:Nat):∀(k i t:Nat) (acc:List R),f+i+k<=d.sec->d.aI=0\/t<d.aI->
  ((d.aI=0\/t+k<d.aI)/\iK f n k i (D.bO d t) acc=(0,D.bO d (t+k),acc++yz c f n k i))\/(∃ j,j<t+k/\d.aI=j+1/\iK f n k i (D.bO d t) acc=(8,D.dead (D.bO d j),[]))
 |0,i,t,acc,hf,hl=>.inl ⟨hl,by show(0,D.bO d t,acc)=_;rw[Nat.add_zero];show _=(0,D.bO d t,acc++[]);rw[List.append_nil]⟩
 |k+1,i,t,acc,hf,hl=>by
  have hc:=h.bO t;have hchk:(D.bO d t).kE ((f+i:Nat):Int)=0:=o9 hc.down (Int.natCast_nonneg _) (by show _<(d.sec:Int);omega);unfold iK;rw[if_neg (by rw[hchk];simp)];have hfu:(D.bO d t).aI=d.aI-t:=rfl;by_cases hb:d.aI-t=1
  .rw[if_pos (by unfold D.dG;simp[hfu,hb]),lS (by rw[hfu];exact hb)];exact .inr ⟨t,by omega,by omega,rfl⟩
  .rw[if_neg (by unfold D.dG;simp[hfu,hb])];have e:D.red (D.bO d t)=D.bO d (t+1):=by
    unfold D.red;rw[kX hc.down (by rw[hfu];exact hb)];exact Cs d t
   rw[e,hc.now];rcases yq h f n k (i+1) (t+1) (acc++mK f n (c ((f+i:Nat):Int)) i) (by omega) (by omega)with⟨h1,h2⟩|⟨j,h1,h2,h3⟩
   .refine .inl ⟨by omega,?_⟩;rw[h2,List.append_assoc,show t+1+k=t+(k+1) by omega];rfl
   .exact .inr ⟨j,by omega,h2,h3⟩
theorem wc {d:D}{c:Cn}(h:Clean d c)(f n:Nat)(hf:f+n<=d.sec):
  ((d.aI=0\/n<d.aI)/\dH f n d=(0,D.bO d n,yz c f n n 0))\/(∃ j,j<n/\d.aI=j+1/\dH f n d=(8,D.dead (D.bO d j),[])):=by
 rcases yq h f n n 0 0 [] (by omega) (by omega)with⟨h1,h2⟩|⟨j,h1,h2,h3⟩
 .rw[Nat.zero_add]at h1 h2;exact .inl ⟨h1,h2⟩
 .rw[Nat.zero_add]at h1;exact .inr ⟨j,h1,h2,h3⟩
theorem Prog.wrote {S:Int->Prop}{d:D}(h:Ok d)(hl:d.down=false)(hf:d.aI≠1){i:Int}(hi:S i){bs:List UInt8}(hb:bs.length=d.size):Prog S d (d.wrote i bs) 0 1:=by
 have hbt:=kX hl hf;have hbr:=gr d;unfold D.wrote;refine⟨⟨h.bC.sec,h.bC.size,h.bC.lk,h.bC.aa,h.bC.safe,fun k b hk=>?_,h.bC.fz⟩,?_,?_,by omega,hbr.2.2.2.2.1,hbr.2.2.2.1,hbr.2.2.2.2.2.1,hbr.2.2.1,fun k hk=>?_,fun k hk=>?_,hbr.1,rfl⟩
 .have hk':ig d.cache i bs k=some b:=hk;show b.length=d.bC.size
  rw[hbr.2.2.2.1];unfold ig at hk';split at hk'
  .cases hk';exact hb
  .exact h.cache k b hk'
 .show d.bC.down=false;rw[hbt];exact hl
 .show d.bC.aI=_;rw[hbt]
 .have hne:k≠i:=fun e=>hk (e▸hi)
  show ig d.cache i bs k=_
  unfold ig;rw[if_neg hne]
 .have hne:k≠i:=fun e=>hk (e▸hi)
  show rF d.ij i k=_
  unfold rF;rw[if_neg hne]
def qc (d:D)(k:Nat)(b:List UInt8):Int×D:=
 if d.dx k d.size≠0 then(d.dx k d.size,d.bJ k b)else((d.bJ k b).iM,(d.bJ k b).fK)
theorem uF {d:D}{c:Cn}(h:Clean d c)(k:Nat)(hk:k<d.sec)(b:List UInt8)(hb:b.length=d.size):
  ∃ d',(qc d k b=(0,d')/\fA d d' 0 1 1/\Clean d' (fp c k b))\/(qc d k b=(8,d')/\gp d d' 2/\Left d' fun c'=>c'=c\/c'=fp c k b):=by
 have hchk:d.kE (k:Int)=0:=o9 h.down (Int.natCast_nonneg _) (by omega);unfold qc;by_cases hf:d.aI=1
 .have hbn:d.dG=true:=by unfold D.dG;simp[hf]
  have e1:d.dx k d.size=8:=by unfold D.dx;rw[if_neg (by rw[hchk];simp),if_neg (by simp),hbn];rfl
  have e2:d.bJ k b=D.dead d:=by unfold D.bJ;rw[if_neg (by rw[hchk];simp),if_neg (by simp[hb]),hbn,lS hf];rfl
  rw[e1,e2,if_pos (by decide)];refine⟨_,.inr ⟨rfl,⟨Ok.dead h.ok,h.tQ,rfl,rfl,rfl,rfl,?_,Nat.le_refl _,Nat.le_refl _,Nat.le_refl _,by omega,by omega⟩,fun c' hc=>.inl (funext fun i=>?_)⟩⟩
  .show d.rd+d.wr+d.sy+1=_;omega
  .rcases hc i with e|e
   .exact e.trans (h.sat i)
   .exact e.trans (h.now i)
 .have hbn:d.dG=false:=by unfold D.dG;exact decide_eq_false hf
  have e1:d.dx k d.size=0:=by unfold D.dx;rw[if_neg (by rw[hchk];simp),if_neg (by simp),hbn];rfl
  have e2:d.bJ k b=d.wrote k b:=by unfold D.bJ;rw[if_neg (by rw[hchk];simp),if_neg (by simp[hb]),hbn];rfl
  rw[e1,e2,if_neg (by simp)];have p:=Prog.wrote (S:=fun i=>i=(k:Int)) h.ok h.down hf rfl hb;have hnow:(d.wrote k b).now=fp c k b:=funext fun i=>by
   unfold fp;by_cases hi:i=(k:Int)
   .rw[if_pos hi];show((ig d.cache k b i)).getD _=b
    unfold ig;rw[if_pos hi];rfl
   .rw[if_neg hi];exact(h.prog p i).2 hi
  rcases h.sync p (fun i hi=>⟨by omega,by omega⟩)with⟨s1,s2,s3⟩|⟨s1,s2,s3⟩
  .rw[hnow]at s3;exact⟨_,.inl ⟨by rw[s1],s2,s3⟩⟩
  .refine⟨_,.inr ⟨by rw[s1],s2,s3.mono fun c' hc=>?_⟩⟩;rw[hnow]at hc;by_cases hk':c' (k:Int)=c k
   .left
    funext i
    by_cases hi:i=(k:Int)
    .rw[hi];exact hk'
    .exact hc.2 i hi
   .right
    funext i
    by_cases hi:i=(k:Int)
    .rw[hi];exact(hc.1 _).resolve_left hk'
    .rw[hc.2 i hi];unfold fp;rw[if_neg hi]
theorem rB {f n s:Nat}(hn:1<=n:=by omega):f<=dF f n s/\dF f n s<f+n:=by
 have:=Nat.mod_lt (s-1) (show n>0 by omega);unfold dF;omega
theorem Gq {d:D}{c:Cn}(h:Clean d c){f n:Nat}(hn:1<=n)(hf:f+n<=d.sec)(r:R):
  (¬r.dc/\mQ f n d r=(10,d))\/
  (r.dc/\∃ d',mQ f n d r=(8,d')/\gp d d' n/\Left d' fun c'=>c'=c)\/
  (r.dc/\iv (jV c f n) r=false/\∃ d',mQ f n d r=(5,d')/\fA d d' n 0 0/\Clean d' c)\/
  (r.dc/\iv (jV c f n) r=true/\∃ d',mQ f n d r=(8,d')/\gp d d' (n+2)/\Left d' fun c'=>c'=c\/c'=fp c (dF f n r.s) (r.form d.size))\/
  (r.dc/\iv (jV c f n) r=true/\∃ d',mQ f n d r=(0,d')/\fA d d' n 1 1/\Clean d' (fp c (dF f n r.s) (r.form d.size))):=by
 by_cases hg:r.dc
 .right;have e0:mQ f n d r=if(dH f n d).1≠0 then((dH f n d).1,(dH f n d).2.1)else if iv (k7 (dH f n d)) r=false then(5,(dH f n d).2.1)else zf f n (dH f n d).2.1 r:=by
   unfold mQ;rw[if_neg (fun h=>h hg)]
  rcases wc h f n hf with⟨h1,h2⟩|⟨j,h1,h2,h3⟩
  .right;rw[h2,B1,if_neg (by simp)]at e0;have hw:=fA.bO h1;have hc:=h.bO n;cases hm:iv (jV c f n) r with
   |false=>
    left;rw[if_pos hm]at e0;exact⟨hg,rfl,_,e0,hw,hc⟩
   |true=>
    right;rw[if_neg (by rw[hm];simp)]at e0;have hsl:=rB (f:=f) (s:=r.s) hn;have hp:=uF hc (dF f n r.s) (by show _<d.sec;omega) (r.form d.size) (uI r h.ok.size.1);have e1:zf f n (D.bO d n) r=qc (D.bO d n) (dF f n r.s) (r.form d.size):=rfl;rw[e1]at e0;obtain⟨d',⟨e2,h4,h5⟩|⟨e2,h4,h5⟩⟩:=hp
    .exact .inr ⟨hg,rfl,d',e0.trans e2,by have:=hw.trans h4;simpa using this,h5⟩
    .exact .inl ⟨hg,rfl,d',e0.trans e2,by have:=hw.cut h4;simpa using this,h5⟩
  .left;rw[h3,if_pos (by show(8:Int)≠0;decide)]at e0;exact⟨hg,_,e0,gp.bO h h2 h1,Left.bO h j⟩
 .left;exact⟨hg,by unfold mQ;rw[if_pos hg]⟩
theorem I2 {c:Cn}{f n size:Nat}(hn:1<=n)(hsz:32<=size)(hsec:kM (size:Int)=true){r:R}(hg:r.dc)(hu:r.u32)(hm:iv (jV c f n) r=true):
  jV (fp c (dF f n r.s) (r.form size)) f n=some r:=by
 have hsl:=rB (f:=f) (s:=r.s) hn;have ht:=FE r hg hu hsz hsec;have hstand:∀ j,j<n->∀ x,x∈mK f n (fp c (dF f n r.s) (r.form size) ((f+j:Nat):Int)) j->x=r\/x∈yz c f n n 0:=fun j hj x hx=>by
  unfold fp at hx;by_cases e:((f+j:Nat):Int)=(dF f n r.s:Nat)
  .rw[if_pos e,uX,ht]at hx;exact .inl hx.2.2
  .rw[if_neg e]at hx;exact .inr ((qK c f n x n 0).2 ⟨j,Nat.zero_le _,by omega,hx⟩)
 have hless:∀ x∈yz c f n n 0,x.s<r.s:=fun x hx=>by
  unfold iv at hm;cases hq:jV c f n with
  |none=>
   have e:yz c f n n 0=[]:=(uq _).1 hq;rw[e]at hx;cases hx
  |some q=>
   rw[hq]at hm;have ha:after q r:=of_decide_eq_true hm;have:=(zY hq).2 x hx;have:=ha.2.2.1;omega
 refine I0 (q:=r) ?_ (fun x hx=>?_) fun x hx e=>?_
 .refine(qK _ f n r n 0).2 ⟨dF f n r.s-f,Nat.zero_le _,by omega,?_⟩;rw[show f+(dF f n r.s-f)=dF f n r.s by omega,uX];unfold fp;rw[if_pos rfl,ht];exact⟨rfl,by omega,rfl⟩
 .obtain⟨j,_,h2,h3⟩:=(qK _ f n x n 0).1 hx;rcases hstand j (by omega) x h3 with e|e
  .rw[e];exact Nat.le_refl _
  .exact Nat.le_of_lt (hless x e)
 .obtain⟨j,_,h2,h3⟩:=(qK _ f n x n 0).1 hx;rcases hstand j (by omega) x h3 with e'|e'
  .exact e'
  .have:=hless x e';omega
end Eng
namespace Fft
abbrev Zp :=Fin 18446744069414584321
def pw (x:Zp):Nat->Zp
 |0=>1
 |n+1=>pw x n*x
theorem lZ (x:Zp)(a:Nat):∀ b,pw x (a+b)=pw x a*pw x b
 |0=>by show pw x a=pw x a*1;grind
 |b+1=>by
  have ih:=lZ x a b;show pw x (a+b)*x=pw x a*(pw x b*x)
  grind
theorem oT :∀ n,pw 1 n=1
 |0=>rfl
 |n+1=>by show pw 1 n*1=1;rw[oT n];grind
theorem NZ (x:Zp):pw x 1=x:=by show 1*x=x;grind
theorem fD (x:Zp)(a:Nat):∀ b,pw x (a*b)=pw (pw x a) b
 |0=>rfl
 |b+1=>by
  rw[Nat.mul_succ,lZ,fD x a b];rfl
theorem xZ (x y:Zp):∀ n,pw (x*y) n=pw x n*pw y n
 |0=>by show(1:Zp)=1*1;grind
 |n+1=>by
  have ih:=xZ x y n;show pw (x*y) n*(x*y)=pw x n*x*(pw y n*y)
  grind
def sm (f:Nat->Zp):Nat->Zp
 |0=>0
 |n+1=>sm f n+f n
theorem nL {f g:Nat->Zp}:∀(n:Nat),(∀ i,i<n->f i=g i)->sm f n=sm g n
 |0,_=>rfl
 |n+1,h=>by
  show sm f n+f n=sm g n+g n
  rw[nL n fun i hi=>h i (by omega),h n (by omega)]
theorem CE (a:Zp)(f:Nat->Zp):∀ n,sm (fun i=>a*f i) n=a*sm f n
 |0=>by show(0:Zp)=a*0;grind
 |n+1=>by
  have ih:=CE a f n;show sm (fun i=>a*f i) n+a*f n=a*(sm f n+f n)
  grind
theorem Eu (f g:Nat->Zp):∀ n,sm (fun i=>f i+g i) n=sm f n+sm g n
 |0=>by show(0:Zp)=0+0;grind
 |n+1=>by
  have ih:=Eu f g n;show sm (fun i=>f i+g i) n+(f n+g n)=(sm f n+f n)+(sm g n+g n)
  grind
theorem Ez :∀ n,sm (fun _=>0) n=0
 |0=>rfl
 |n+1=>by show sm (fun _=>0) n+0=0;rw[Ez n];grind
theorem HO (f:Nat->Zp)(a:Nat):∀ b,sm f (a+b)=sm f a+sm (fun i=>f (a+i)) b
 |0=>by show sm f a=sm f a+0;grind
 |b+1=>by
  have ih:=HO f a b;show sm f (a+b)+f (a+b)=sm f a+(sm (fun i=>f (a+i)) b+f (a+b))
  grind
theorem Ew (f:Nat->Zp)(c:Nat):∀ r,sm f (r*c)=sm (fun i=>sm (fun j=>f (i*c+j)) c) r
 |0=>by rw[Nat.zero_mul];rfl
 |r+1=>by
  rw[Nat.succ_mul,HO,Ew f c r];rfl
theorem Ey (f:Nat->Nat->Zp)(m:Nat):∀ n,sm (fun i=>sm (fun j=>f i j) m) n=sm (fun j=>sm (fun i=>f i j) n) m
 |0=>by
  show(0:Zp)=sm (fun j=>0) m
  rw[Ez]
 |n+1=>by
  show sm (fun i=>sm (fun j=>f i j) m) n+sm (fun j=>f n j) m=sm (fun j=>sm (fun i=>f i j) n+f n j) m
  rw[Eu,Ey f m n]
theorem Ev (f:Nat->Zp):∀ n,sm f (2*n)=sm (fun i=>f (2*i)) n+sm (fun i=>f (2*i+1)) n
 |0=>by show(0:Zp)=0+0;grind
 |n+1=>by
  have ih:=Ev f n;show sm f (2*n)+f (2*n)+f (2*n+1)=(sm (fun i=>f (2*i)) n+f (2*n))+(sm (fun i=>f (2*i+1)) n+f (2*n+1))
  grind
def gS (w:Zp)(n:Nat)(l:Nat->Zp)(j:Nat):Zp:=sm (fun i=>l i*pw w (i*j)) n
theorem rU {w:Zp}{n:Nat}{l l':Nat->Zp}(h:∀ i,i<n->l i=l' i)(j:Nat):gS w n l j=gS w n l' j:=
 nL n fun i hi=>by rw[h i hi]
theorem zJ (w:Zp)(m:Nat)(l:Nat->Zp)(j:Nat):gS w (2*m) l j=gS (w*w) m (fun i=>l (2*i)) j+pw w j*gS (w*w) m (fun i=>l (2*i+1)) j:=by
 have hww:w*w=pw w 2:=by show w*w=1*w*w;grind
 have hp:∀ i,pw w (2*i*j)=pw (w*w) (i*j):=fun i=>by rw[hww,<-fD,Nat.mul_assoc]
 unfold gS;rw[Ev,<-CE];congr 1
 .exact nL m fun i _=>by rw[hp]
 .refine nL m fun i _=>?_
  rw[show(2*i+1)*j=2*i*j+j by rw[Nat.succ_mul],lZ,hp];grind
theorem xE {w:Zp}{m:Nat}(h:pw w m=1)(n:Nat)(l:Nat->Zp)(j:Nat):gS w n l (j+m)=gS w n l j:=
 nL n fun i _=>by
  have e:pw w (i*m)=1:=by rw[Nat.mul_comm,fD,h,oT]
  rw[Nat.mul_add,lZ,e];grind
theorem Mz (w:Zp)(m:Nat)(l:Nat->Zp)(j:Nat):gS w (2*m) l j=gS (w*w) m (fun i=>l (2*i)) j+gS (w*w) m (fun i=>l (2*i+1)) j*pw w j:=by
 rw[zJ];grind
theorem My {w:Zp}{m:Nat}(h:pw w m=-1)(l:Nat->Zp)(j:Nat):gS w (2*m) l (j+m)=gS (w*w) m (fun i=>l (2*i)) j-gS (w*w) m (fun i=>l (2*i+1)) j*pw w j:=by
 have h2:pw (w*w) m=1:=by rw[xZ,h];grind
 rw[zJ,xE h2,xE h2,lZ,h];grind
def rv :Nat->Nat->Nat
 |0,_=>0
 |k+1,x=>x%2*2^k+rv k (x/2)
theorem vx :∀ k x,rv k x<2^k
 |0,_=>Nat.one_pos
 |k+1,x=>by
  have h1:=vx k (x/2);have h2:x%2<2:=Nat.mod_lt _ (by omega);show x%2*2^k+rv k (x/2)<2^(k+1)
  rw[Nat.pow_succ];rcases(by omega:x%2=0\/x%2=1)with e|e<;>rw[e]<;>omega
def oV (w:Zp)(k:Nat)(l:Nat->Zp)(s p:Nat):Zp:=
 gS (pw w (2^(k-s))) (2^s) (fun t=>l (rv (k-s) (p/2^s)+t*2^(k-s))) (p%2^s)
theorem Jx (w:Zp)(k:Nat)(l:Nat->Zp)(p:Nat):oV w k l 0 p=l (rv k p):=by
 unfold oV gS;rw[Nat.pow_zero,Nat.div_one,Nat.mod_one,Nat.sub_zero];show 0+l (rv k p+0*2^k)*pw _ (0*0)=_
 rw[Nat.zero_mul,Nat.add_zero,Nat.mul_zero];show 0+l (rv k p)*1=_
 grind
theorem LF (w:Zp)(k:Nat)(l:Nat->Zp){p:Nat}(h:p<2^k):oV w k l k p=gS w (2^k) l p:=by
 unfold oV;rw[Nat.sub_self,Nat.pow_zero,NZ,Nat.mod_eq_of_lt h];refine rU (fun i _=>?_) p;show l (0+i*1)=l i
 rw[Nat.zero_add,Nat.mul_one]
theorem Jw (w:Zp)(k:Nat)(l:Nat->Zp){s:Nat}(hs:s<k)(hw:pw w (2^(k-1))=-1)(b i:Nat)(hi:i<2^s):
  oV w k l (s+1) (b*(2*2^s)+i)=oV w k l s (b*(2*2^s)+i)+oV w k l s (b*(2*2^s)+i+2^s)*pw w (i*2^(k-s-1))/\
  oV w k l (s+1) (b*(2*2^s)+i+2^s)=oV w k l s (b*(2*2^s)+i)-oV w k l s (b*(2*2^s)+i+2^s)*pw w (i*2^(k-s-1)):=by
 have hp:0<2^s:=Nat.pos_of_ne_zero (by have:=Nat.two_pow_pos s;omega);obtain⟨m,hm⟩:∃ m,k=s+1+m:=⟨k-s-1,by omega⟩;have e1:k-(s+1)=m:=by omega
 have e2:k-s=m+1:=by omega
 have e3:k-s-1=m:=by omega
  -- the words of both classes
 have a1:(b*(2*2^s)+i)/2^(s+1)=b:=by
  rw[Nat.pow_succ,Nat.mul_comm (2^s) 2,Nat.add_comm,Nat.add_mul_div_right _ _ (by omega),Nat.div_eq_of_lt (by omega),Nat.zero_add]
 have a2:(b*(2*2^s)+i)%2^(s+1)=i:=by
  rw[Nat.pow_succ,Nat.mul_comm (2^s) 2,Nat.add_comm,Nat.add_mul_mod_self_right,Nat.mod_eq_of_lt (by omega)]
 have a3:(b*(2*2^s)+i+2^s)/2^(s+1)=b:=by
  rw[Nat.pow_succ,Nat.mul_comm (2^s) 2,Nat.add_assoc,Nat.add_comm,Nat.add_mul_div_right _ _ (by omega),Nat.div_eq_of_lt (by omega),Nat.zero_add]
 have a4:(b*(2*2^s)+i+2^s)%2^(s+1)=i+2^s:=by
  rw[Nat.pow_succ,Nat.mul_comm (2^s) 2,Nat.add_assoc,Nat.add_comm,Nat.add_mul_mod_self_right,Nat.mod_eq_of_lt (by omega)]
 have hb:b*(2*2^s)=(2*b)*2^s:=by rw[Nat.mul_comm 2 b,Nat.mul_assoc]
 have b1:(b*(2*2^s)+i)/2^s=2*b:=by
  rw[hb,Nat.add_comm,Nat.add_mul_div_right _ _ hp,Nat.div_eq_of_lt hi,Nat.zero_add]
 have b2:(b*(2*2^s)+i)%2^s=i:=by
  rw[hb,Nat.add_comm,Nat.add_mul_mod_self_right,Nat.mod_eq_of_lt hi]
 have hb':b*(2*2^s)+i+2^s=i+(2*b+1)*2^s:=by rw[hb,Nat.add_mul (2*b) 1,Nat.one_mul];omega
 have b3:(b*(2*2^s)+i+2^s)/2^s=2*b+1:=by
  rw[hb',Nat.add_mul_div_right _ _ hp,Nat.div_eq_of_lt hi,Nat.zero_add]
 have b4:(b*(2*2^s)+i+2^s)%2^s=i:=by
  rw[hb',Nat.add_mul_mod_self_right,Nat.mod_eq_of_lt hi]
 have r1:rv (m+1) (2*b)=rv m b:=by
  show(2*b)%2*2^m+rv m ((2*b)/2)=_
  rw[show(2*b)%2=0 by omega,show(2*b)/2=b by omega];omega
 have r2:rv (m+1) (2*b+1)=rv m b+2^m:=by
  show(2*b+1)%2*2^m+rv m ((2*b+1)/2)=_
  rw[show(2*b+1)%2=1 by omega,show(2*b+1)/2=b by omega];omega
 have hww:pw w (2^m)*pw w (2^m)=pw w (2^(m+1)):=by
  rw[<- lZ];congr 1;rw[Nat.pow_succ];omega
 have hneg:pw (pw w (2^m)) (2^s)=-1:=by
  rw[<- fD,<-Nat.pow_add,show m+s=k-1 by omega,hw]
 have hpow:pw (pw w (2^m)) i=pw w (i*2^m):=by rw[<- fD,Nat.mul_comm]
 have c1:∀ t,rv m b+2*t*2^m=rv m b+t*2^(m+1):=fun t=>by rw[Nat.pow_succ,Nat.mul_comm (2^m) 2,<-Nat.mul_assoc,Nat.mul_comm t 2]
 have c2:∀ t,rv m b+(2*t+1)*2^m=rv m b+2^m+t*2^(m+1):=fun t=>by rw[Nat.succ_mul,Nat.pow_succ,Nat.mul_comm (2^m) 2,<-Nat.mul_assoc,Nat.mul_comm t 2];omega
 unfold oV;rw[a1,a2,a3,a4,b1,b2,b3,b4,e1,e3,e2,r1,r2,<-hww];rw[show 2^(s+1)=2*2^s by rw[Nat.pow_succ];omega];constructor
 .rw[Mz,hpow];simp only[c1,c2]
 .rw[My hneg,hpow];simp only[c1,c2]
theorem Hm :∀ n,pw (-1) (2*n)=1/\pw (-1) (2*n+1)=-1
 |0=>⟨rfl,by show(1:Zp)* -1=-1;grind⟩
 |n+1=>by
  obtain⟨h1,h2⟩:=Hm n;have e:pw (-1) (2*(n+1))=1:=by
   show pw (-1) (2*n+1)* -1=1
   rw[h2];grind
  exact⟨e,by show pw (-1) (2*(n+1))* -1=-1;rw[e];grind⟩
theorem IW {w:Zp}{R C:Nat}(hw:pw w (R*C)=1)(l:Nat->Zp)(m j:Nat):
  gS w (R*C) l (m*R+j)=gS (pw w R) C (fun c=>gS (pw w C) R (fun r=>l (r*C+c)) j*pw w (c*j)) m:=by
 have e1:∀ r c,pw w ((r*C+c)*(m*R+j))=pw (pw w C) (r*j)*pw w (c*j)*pw (pw w R) (c*m):=fun r c=>by
  rw[<- fD,<-fD,show(r*C+c)*(m*R+j)=(R*C)*(r*m)+(C*(r*j)+c*j+R*(c*m)) by grind,lZ,fD w (R*C),hw,oT,lZ,lZ];grind
 unfold gS;rw[Ew,Ey];refine nL C fun c _=>?_
 have e2:∀ r,l (r*C+c)*pw w ((r*C+c)*(m*R+j))=(pw w (c*j)*pw (pw w R) (c*m))*(l (r*C+c)*pw (pw w C) (r*j)):=fun r=>by rw[e1];grind
 simp only[e2];rw[CE];grind
def Kd :Nat->Zp->Nat->Zp
 |0,_,_=>1
 |f+1,x,n=>if n=0 then 1 else if n%2=1 then Kd f (x*x) (n/2)*x else Kd f (x*x) (n/2)
theorem Cq :∀(f:Nat) (x:Zp) (n:Nat),n<2^f->Kd f x n=pw x n
 |0,x,n,h=>by
  obtain rfl:n=0:=by simpa using h
  rfl
 |f+1,x,n,h=>by
  have hx:x*x=pw x 2:=by show x*x=1*x*x;grind
  unfold Kd;by_cases h0:n=0
  .rw[if_pos h0,h0];rfl
  .rw[if_neg h0,Cq f (x*x) (n/2) (by rw[Nat.pow_succ]at h;omega),hx,<-fD];by_cases h1:n%2=1
   .rw[if_pos h1];have e:n=2*(n/2)+1:=by omega
    show pw x (2*(n/2)+1)=pw x n
    rw[<- e]
   .rw[if_neg h1];have e:n=2*(n/2):=by omega
    rw[<- e]
theorem BV :pw 7 9223372034707292160=-1:=by
 rw[<- Cq 64 7 9223372034707292160 (by decide)];decide +kernel
def rt (k:Nat):Zp:=pw 7 (18446744069414584320/2^k)
theorem sO {k:Nat}(h:k<=32):18446744069414584320/2^k*2^k=18446744069414584320:=by
 refine Nat.div_mul_cancel ?_;refine Nat.dvd_trans (Nat.pow_dvd_pow 2 h) ?_;decide
theorem uM {k:Nat}(h:k<=32):pw (rt k) (2^k)=1:=by
 unfold rt;rw[<- fD,sO h];refine(congrArg (pw 7) (by decide:18446744069414584320=9223372034707292160*2)).trans ?_;rw[fD,BV];show(1:Zp)* -1* -1=1
 grind
theorem HE {k:Nat}(h:k<=32)(h0:0<k):pw (rt k) (2^(k-1))=-1:=by
 unfold rt;have e:=sO h;obtain⟨m,rfl⟩:∃ m,k=m+1:=⟨k-1,by omega⟩;rw[Nat.add_sub_cancel,<-fD];have:18446744069414584320/2^(m+1)*2^m=9223372034707292160:=by
  rw[Nat.pow_succ,<-Nat.mul_assoc]at e;rw[Nat.pow_succ];omega
 rw[this,BV]
theorem HF {k a:Nat}(h:k<=32)(ha:a<=k):pw (rt k) (2^(k-a))=rt a:=by
 unfold rt;rw[<- fD];congr 1;have e1:=sO h;have e2:=sO (k:=a) (by omega);have e3:2^k=2^(k-a)*2^a:=by rw[<- Nat.pow_add];congr 1;omega
 rw[e3,<-Nat.mul_assoc]at e1;have hp:=Nat.two_pow_pos a;rw[<- e3]at e1;exact Nat.eq_of_mul_eq_mul_right hp (e1.trans e2.symm)
def fk (d:Bool)(k:Nat):Zp:=match d with|false=>rt k|true=>pw (rt k) (2^k-1)
theorem M7 {k:Nat}(h:k<=32):rt k*pw (rt k) (2^k-1)=1:=by
 have e:pw (rt k) (2^k-1+1)=pw (rt k) (2^k-1)*rt k:=rfl;have hp:=Nat.two_pow_pos k;rw[show 2^k-1+1=2^k by omega,uM h]at e;grind
theorem Lv (d:Bool){k:Nat}(h:k<=32):pw (fk d k) (2^k)=1:=by
 cases d
 .exact uM h
 .show pw (pw (rt k) (2^k-1)) (2^k)=1
  rw[<- fD,Nat.mul_comm,fD,uM h,oT]
theorem Lu (d:Bool){k:Nat}(h:k<=32)(h0:0<k):pw (fk d k) (2^(k-1))=-1:=by
 cases d
 .exact HE h h0
 .show pw (pw (rt k) (2^k-1)) (2^(k-1))=-1
  rw[<- fD,Nat.mul_comm,fD,HE h h0];obtain⟨m,rfl⟩:∃ m,k=m+1:=⟨k-1,by omega⟩;have hp:=Nat.two_pow_pos m;rw[show 2^(m+1)-1=2*(2^m-1)+1 by rw[Nat.pow_succ];omega,(Hm _).2]
theorem El (d:Bool){k a:Nat}(h:k<=32)(ha:a<=k):pw (fk d k) (2^(k-a))=fk d a:=by
 cases d
 .exact HF h ha
 .show pw (pw (rt k) (2^k-1)) (2^(k-a))=pw (rt a) (2^a-1)
  rw[<- fD,Nat.mul_comm,fD,HF h ha];have e:2^k-1=(2^a)*(2^(k-a)-1)+(2^a-1):=by
   have hp:=Nat.two_pow_pos a;have hq:=Nat.two_pow_pos (k-a);have e3:2^k=2^a*2^(k-a):=by rw[<- Nat.pow_add];congr 1;omega
   rw[e3,Nat.mul_sub_one];have:2^a*1<=2^a*2^(k-a):=Nat.mul_le_mul_left _ hq;omega
  rw[e,lZ,fD,uM (by omega),oT];grind
def zp (a:Nat):Zp:=Fin.ofNat _ a
theorem CU (a:Nat):(zp a).val=a%18446744069414584321:=rfl
theorem nZ (z:Zp):zp z.val=z:=Fin.ext (Nat.mod_eq_of_lt z.isLt)
theorem Nk (a b:Nat):zp (a*b)=zp a*zp b:=Fin.ext (by
 rw[Fin.val_mul,CU,CU,CU,<-Nat.mul_mod])
theorem CT (a:Nat):∀ n,zp (a^n)=pw (zp a) n
 |0=>rfl
 |n+1=>by rw[Nat.pow_succ,Nk,CT a n];rfl
def zw (w:UInt64):Zp:=zp w.toNat
def uw (z:Zp):UInt64:=UInt64.ofNat z.val
theorem yD (z:Zp):(uw z).toNat=z.val:=UInt64.toNat_ofNat_of_lt' (by have:=z.isLt;show z.val<18446744073709551616;omega)
theorem vC (z:Zp):zw (uw z)=z:=by unfold zw;rw[yD,nZ]
theorem rG (z:Zp):((uw z).toNat:Int)=(z.val:Int):=by rw[yD]
def dq (l:List UInt64)(i:Nat):Zp:=zw (l.getD i 0)
theorem Gr {l:List UInt64}{i:Nat}(h:i<l.length):dq l i=zw l[i]:=by unfold dq;rw[List.getD_eq_getElem?_getD,List.getElem?_eq_getElem h];rfl
end Fft
namespace Fft
def swp (m:BitVec 64)(d:Nat)(x:BitVec 64):BitVec 64:=((x>>>d)&&&m)|||((x&&&m)<<<d)
def mg (m:BitVec 64)(d i:Nat):Nat:=if m.getLsbD i then i+d else i-d
def ND (m:BitVec 64)(d:Nat):Bool:=(List.range 64).all fun i=>if m.getLsbD i then decide (i+d<64)&&(decide (i<d)|| !m.getLsbD (i-d))else decide (d<=i)&&m.getLsbD (i-d)
theorem swp_get {m:BitVec 64}{d:Nat}(h:ND m d=true)(x:BitVec 64){i:Nat}(hi:i<64):(swp m d x).getLsbD i=x.getLsbD (mg m d i):=by
 have h1:=List.all_eq_true.1 h i (List.mem_range.2 hi);unfold swp mg;simp only[BitVec.getLsbD_or,BitVec.getLsbD_and,BitVec.getLsbD_ushiftRight,BitVec.getLsbD_shiftLeft];by_cases hm:m.getLsbD i=true
 .simp only[hm,if_true]at h1⊢;simp only[Bool.and_eq_true,decide_eq_true_eq,Bool.or_eq_true,Bool.not_eq_true']at h1;rcases h1.2 with h2|h2
  .rw[Nat.add_comm d i];simp[h2]
  .rw[Nat.add_comm d i,h2];simp
 .have hm':m.getLsbD i=false:=by simpa using hm
  simp only[hm',Bool.false_eq_true,if_false]at h1⊢;simp only[Bool.and_eq_true,decide_eq_true_eq]at h1;rw[h1.2];have:¬i<d:=by omega
  simp[hi,this]
def Bj (x:BitVec 64):BitVec 64:=
 let x:=swp 0x5555555555555555#64 1 x
 let x:=swp 0x3333333333333333#64 2 x
 let x:=swp 0x0f0f0f0f0f0f0f0f#64 4 x
 let x:=swp 0x00ff00ff00ff00ff#64 8 x
 let x:=swp 0x0000ffff0000ffff#64 16 x
 (x>>>32)|||(x<<<32)
theorem HA (x:BitVec 64){i:Nat}(hi:i<64):(Bj x).getLsbD i=x.getLsbD (63-i):=by
 unfold Bj;simp only[BitVec.getLsbD_or,BitVec.getLsbD_ushiftRight,BitVec.getLsbD_shiftLeft];have hb:(List.range 64).all (fun i=>decide (mg 0x0000ffff0000ffff#64 16 i<64)&&decide (mg 0x00ff00ff00ff00ff#64 8 (mg 0x0000ffff0000ffff#64 16 i)<64)&&decide (mg 0x0f0f0f0f0f0f0f0f#64 4 (mg 0x00ff00ff00ff00ff#64 8 (mg 0x0000ffff0000ffff#64 16 i))<64)&&decide (mg 0x3333333333333333#64 2 (mg 0x0f0f0f0f0f0f0f0f#64 4 (mg 0x00ff00ff00ff00ff#64 8 (mg 0x0000ffff0000ffff#64 16 i)))<64)&&
   decide (mg 0x5555555555555555#64 1 (mg 0x3333333333333333#64 2 (mg 0x0f0f0f0f0f0f0f0f#64 4 (mg 0x00ff00ff00ff00ff#64 8 (mg 0x0000ffff0000ffff#64 16 i))))=(if i<32 then 31-i else 95-i)))=true:=by decide +kernel
 have key:∀ j,j<64->(swp 0x0000ffff0000ffff#64 16 (swp 0x00ff00ff00ff00ff#64 8 (swp 0x0f0f0f0f0f0f0f0f#64 4 (swp 0x3333333333333333#64 2 (swp 0x5555555555555555#64 1 x))))).getLsbD j=x.getLsbD (if j<32 then 31-j else 95-j):=fun j hj=>by
  have:=List.all_eq_true.1 hb j (List.mem_range.2 hj);simp only[Bool.and_eq_true,decide_eq_true_eq]at this;obtain⟨⟨⟨⟨h1,h2⟩,h3⟩,h4⟩,h5⟩:=this;rw[swp_get (by decide +kernel) _ hj,swp_get (by decide +kernel) _ h1,swp_get (by decide +kernel) _ h2,swp_get (by decide +kernel) _ h3,swp_get (by decide +kernel) _ h4,h5]
 by_cases h:i<32
 .rw[key (32+i) (by omega),if_neg (by omega),show 95-(32+i)=63-i by omega];simp[h]
 .have hge:¬32+i<64:=by omega
  rw[BitVec.getLsbD_of_ge _ (32+i) (by omega),key (i-32) (by omega),if_pos (by omega),show 31-(i-32)=63-i by omega];simp[h,hi]
theorem yn :∀(k x j:Nat),(rv k x).testBit j=(decide (j<k)&&x.testBit (k-1-j))
 |0,x,j=>by simp[rv]
 |k+1,x,j=>by
  show(x%2*2^k+rv k (x/2)).testBit j=_
  have hlt:=vx k (x/2);rw[Nat.mul_comm,Nat.testBit_two_pow_mul_add _ hlt];by_cases h:j<k
  .rw[if_pos h,yn k (x/2) j,Nat.testBit_div_two];have:k-1-j+1=k+1-1-j:=by omega
   rw[this];have h2:j<k+1:=by omega
   simp[h,h2]
  .rw[if_neg h];by_cases e:j=k
   .subst e;rw[Nat.sub_self,Nat.testBit_zero,Nat.mod_mod];have:x.testBit (j+1-1-j)=x.testBit 0:=by rw[show j+1-1-j=0 by omega]
    rw[this,Nat.testBit_zero];simp
   .have:¬j<k+1:=by omega
    simp[this];have h3:j-k=(j-k-1)+1:=by omega
    rw[h3,Nat.testBit_succ];have:x%2/2=0:=by omega
    rw[this];simp
theorem M6 {k x:Nat}(hk:k<=32)(hx:x<2^k):(Bj (BitVec.ofNat 64 x)).toNat>>>(64-k)=rv k x:=by
 apply Nat.eq_of_testBit_eq;intro j;rw[Nat.testBit_shiftRight,BitVec.testBit_toNat,yn];by_cases h:j<k
 .rw[HA _ (by omega),BitVec.getLsbD_ofNat];have h1:63-(64-k+j)<64:=by omega
  have h2:63-(64-k+j)=k-1-j:=by omega
  simp[h,h2];intro _;omega
 .rw[BitVec.getLsbD_of_ge _ _ (by omega)];simp[h]
theorem Kh (k x:Nat)(hx:x<2^k):rv k (rv k x)=x:=by
 apply Nat.eq_of_testBit_eq;intro j;rw[yn,yn];by_cases h:j<k
 .have h1:k-1-j<k:=by omega
  have h2:k-1-(k-1-j)=j:=by omega
  simp[h,h1,h2]
 .simp[h];exact Nat.testBit_lt_two_pow (Nat.lt_of_lt_of_le hx (Nat.pow_le_pow_right (by omega) (by omega)))
def dn (h b i p:Nat):Bool:=decide (p<b*(2*h)+i\/(b*(2*h)+h<=p/\p<b*(2*h)+h+i))
def kQ (w:Zp)(k:Nat)(l:Nat->Zp)(s:Nat)(f:Nat->Bool):List UInt64:=(List.range (2^k)).map fun p=>uw (if f p=true then oV w k l (s+1) p else oV w k l s p)
theorem vz (w:Zp)(k:Nat)(l:Nat->Zp)(s:Nat)(f:Nat->Bool):(kQ w k l s f).length=2^k:=by simp[kQ]
theorem qL (w:Zp)(k:Nat)(l:Nat->Zp)(s:Nat)(f:Nat->Bool){p:Nat}(hp:p<2^k:=by omega):(kQ w k l s f)[p]? =some (uw (if f p=true then oV w k l (s+1) p else oV w k l s p)):=by
 unfold kQ;rw[List.getElem?_map,List.getElem?_range hp];rfl
theorem HR {w:Zp}{k:Nat}{l:Nat->Zp}{s:Nat}{f g:Nat->Bool}(h:∀ p,p<2^k->f p=g p):kQ w k l s f=kQ w k l s g:=by
 unfold kQ;apply List.map_congr_left;intro p hp;rw[h p (List.mem_range.1 hp)]
theorem KP (h b i:Nat)(hi:i<h):dn h b i (b*(2*h)+i)=false/\dn h b i (b*(2*h)+i+h)=false:=by
 unfold dn;exact⟨decide_eq_false (by omega),decide_eq_false (by omega)⟩
theorem Jt {w:Zp}{k:Nat}{l:Nat->Zp}{s b i:Nat}(h:Nat)(hi:i<h)(hp:b*(2*h)+i+h<2^k):
  ((kQ w k l s (dn h b i)).set (b*(2*h)+i) (uw (oV w k l (s+1) (b*(2*h)+i)))).set (b*(2*h)+i+h) (uw (oV w k l (s+1) (b*(2*h)+i+h)))=kQ w k l s (dn h b (i+1)):=by
 apply List.ext_getElem?;intro p;rw[List.getElem?_set,List.getElem?_set];simp only[List.length_set,vz];by_cases hlt:p<2^k
 .by_cases e1:b*(2*h)+i+h=p
  .subst e1;rw[if_pos rfl,if_pos hp,qL _ _ _ _ _ hlt,if_pos (show dn h b (i+1) _=true from decide_eq_true (by omega))]
  .rw[if_neg e1];by_cases e2:b*(2*h)+i=p
   .subst e2;rw[if_pos rfl,if_pos hlt,qL _ _ _ _ _ hlt,if_pos (show dn h b (i+1) _=true from decide_eq_true (by omega))]
   .rw[if_neg e2,qL _ _ _ _ _ hlt,qL _ _ _ _ _ hlt];have:dn h b i p=dn h b (i+1) p:=by
     unfold dn;rw[decide_eq_decide];omega
    rw[this]
 .rw[if_neg (by omega),if_neg (by omega),List.getElem?_eq_none (by rw[vz];omega),List.getElem?_eq_none (by rw[vz];omega)]
theorem Js {w:Zp}{k:Nat}{l:Nat->Zp}{s b:Nat}(h:Nat):kQ w k l s (dn h b h)=kQ w k l s (dn h (b+1) 0):=
 HR fun p _=>by
  unfold dn;rw[decide_eq_decide,Nat.add_mul b 1,Nat.one_mul];omega
theorem LD {w:Zp}{k:Nat}{l:Nat->Zp}{s b:Nat}(h h':Nat)(hb:2^k<=b*(2*h)):kQ w k l s (dn h b 0)=kQ w k l (s+1) (dn h' 0 0):=by
 unfold kQ;apply List.map_congr_left;intro p hp;have:=List.mem_range.1 hp;rw[if_pos (show dn h b 0 p=true from decide_eq_true (by omega)),if_neg (show ¬dn h' 0 0 p=true by unfold dn;simp)]
def iu (d:Bool)(k:Nat)(l:List UInt64):List UInt64:=(List.range (2^k)).map fun j=>uw (gS (fk d k) (2^k) (dq l) j)
theorem lU (d:Bool)(k:Nat)(l:List UInt64):(iu d k l).length=2^k:=by simp[iu]
theorem LC (d:Bool)(k:Nat)(l:List UInt64)(h:Nat):kQ (fk d k) k (dq l) k (dn h 0 0)=iu d k l:=by
 unfold kQ iu;apply List.map_congr_left;intro p hp;have:=List.mem_range.1 hp;rw[if_neg (show ¬dn h 0 0 p=true by unfold dn;simp),LF _ _ _ this]
def lh (k:Nat)(l:List UInt64):List UInt64:=(List.range (2^k)).map fun p=>l.getD (rv k p) 0
theorem Ju (w:Zp)(k:Nat)(l:List UInt64)(h:Nat):(lh k l).map (fun x=>uw (zw x))=kQ w k (dq l) 0 (dn h 0 0):=by
 unfold lh kQ;rw[List.map_map];apply List.map_congr_left;intro p hp;have:=List.mem_range.1 hp;rw[if_neg (show ¬dn h 0 0 p=true by unfold dn;simp),Jx];rfl
end Fft
namespace W
open Go Go.Hw
theorem nI :prog.follows .mixedOrders=true:=by kernel_rfl
def pE (x1:Int)(H:Hp)(K:VK):Prop:=
 ao (decide (x1<1)) (K (.tuple #[I 0,.bool false]) H) (ao (decide (x1>4294967296)) (K (.tuple #[I 0,.bool false]) H) (ao ((cU .i64 x1 (i64.wrap (x1-1))) !=0) (K (.tuple #[I 0,.bool false]) H) (cF 212 #[U (u64.wrap x1)] H fun x2 H1=>K (.tuple #[I x2,.bool true]) H1)))
theorem pE.ok x1 H K (h:pE x1 H K):ae prog 147 #[I x1] H K:=
 cg nI Tryz.func147 rfl rfl h
def du.l6 (K:VK):Nat->Int->OA->Nat->Nat->Int->Int->Int->Hp->Prop
 |0,_,_,_,_,_,_,_,_=>False
 |k+1,x3,A2,n2,m2,x4,x5,x6,H=>
  let R6:=du.l6 K k
  ao (decide (x6<x5)) (cX x6 n2 (NN A2 fun a1=>St H ((a1.add (x6.toNat*1)).add 0) (U x4) fun H2=>fe 120 #[U x4,U x3] H2 fun x7 H3=>R6 x3 A2 n2 m2 x7 x5 (i64.wrap (x6+1)) H3)) (K (.tuple #[.slice A2 n2 m2,I 0]) H)
def du (x1 x2:Int)(H:Hp)(K:VK):Prop:=
 ao (decide (x2<0)) (K (.tuple #[.slice none 0 0,I 1]) H) (ao (decide (x2>1048576)) (K (.tuple #[.slice none 0 0,I 1]) H) (lj prog 108 x2 x2 H fun v1 H1=>aF v1 fun A1 n1 m1=>(∃ k,du.l6 K k x1 A1 n1 m1 1 (n1:Int) 0 H1)))
def du.l6.L (K:VK)(k:Nat):dm:=fun E D H=>
 eI E 0 .u64 fun x3=>DG (E.get? 6) fun w6=>aF w6 fun A2 n2 m2=>eI E 7 .u64 fun x4=>eI E 18 .i64 fun x5=>eI E 19 .i64 fun x6=>az D (du.l6 K k x3 A2 n2 m2 x4 x5 x6 H)
def du.Λ6 (_:VK)(_R6:Int->OA->Nat->Nat->Int->Int->Int->Hp->Prop):aN:=aN.none (fun _=>none)
def du.Λ (K:VK):aN:=⟨fun i=>none,fun i=>match Nat.beq i 6 with|true=>some (fun E D H=>∃ k,du.l6.L K k E D H)|false=>none,(fun _=>none)⟩
theorem du.ok x1 x2 H K (h:du x1 x2 H K):ae prog 248 #[U x1,I x2] H K:=
 dX (Λ:=(du.Λ K)) nI Tryz.func248 rfl rfl h (oC (fun E D H h=>by
   refine Safe.c0 (du.l6.L K) (fun E D H h=>?_) (fun k E D H h=>?_) E D H h
   .obtain⟨w0,e0,g1⟩:=DG.out h;obtain⟨x3,rfl,g2⟩:=DI.out g1;obtain⟨w6,e6,g3⟩:=DG.out g2;obtain⟨A2,n2,m2,rfl,g4⟩:=aF.out g3;obtain⟨w7,e7,g5⟩:=DG.out g4;obtain⟨x4,rfl,g6⟩:=DI.out g5;obtain⟨w18,e18,g7⟩:=DG.out g6;obtain⟨x5,rfl,g8⟩:=DI.out g7;obtain⟨w19,e19,g9⟩:=DG.out g8;obtain⟨x6,rfl,g10⟩:=DI.out g9;obtain⟨rfl,h'⟩:=az.out g10;exact h'
   .obtain⟨x3,e0,g2⟩:=GI h;obtain⟨w6,e6,g3⟩:=DG.out g2;obtain⟨A2,n2,m2,rfl,g4⟩:=aF.out g3;obtain⟨x4,e7,g6⟩:=GI g4;obtain⟨x5,e18,g8⟩:=GI g6;obtain⟨x6,e19,g10⟩:=GI g8;obtain⟨rfl,h'⟩:=az.out g10;exact cY (Λ:=(du.Λ6 K (du.l6 K k))) nI [] (ag.cons e0 (ag.cons e6 (ag.cons e7 (ag.cons e18 (ag.cons e19 (ag.nil _)))))) h' oN) oN)
def pF (x1:Int)(H:Hp)(K:VK):Prop:=
 fS 348 #[I x1] H fun c1 H1=>ao (!c1) (K (.tuple #[U 0,I 1]) H1) (fe 349 #[I x1] H1 fun x2 H2=>K (.tuple #[U x2,I 0]) H2)
theorem pF.ok x1 H K (h:pF x1 H K):ae prog 310 #[I x1] H K:=
 cg nI Tryz.func310 rfl rfl h
def pD (x1:Int)(H:Hp)(K:VK):Prop:=
 fS 348 #[I x1] H fun c1 H1=>ao (!c1) (K (.tuple #[U 0,I 1]) H1) (fe 349 #[I x1] H1 fun x2 H2=>Hz 178 #[U x2] H2 fun v3 H3=>pZ v3 fun x3 x4=>(K (.tuple #[U x3,I x4]) H3))
theorem pD.ok x1 H K (h:pD x1 H K):ae prog 311 #[I x1] H K:=
 cg nI Tryz.func311 rfl rfl h
def pG (x1:Int)(H:Hp)(K:VK):Prop:=
 ao (decide (x1>=0)) (K (.bool (decide (x1<=(32:Int)))) H) (K (.bool false) H)
theorem pG.ok x1 H K (h:pG x1 H K):ae prog 348 #[I x1] H K:=
 cg nI Tryz.func348 rfl rfl h
def pH (x1:Int)(H:Hp)(K:VK):Prop:=
 (0<=(u64.wrap x1)/\fe 246 #[U 7,U (cT .u64 18446744069414584320 (u64.wrap x1))] H fun x2 H1=>K (U x2) H1)
theorem pH.ok x1 H K (h:pH x1 H K):ae prog 349 #[I x1] H K:=
 cg nI Tryz.func349 rfl rfl h
theorem nR :prog.follows .mixedOrders=true:=by kernel_rfl
def oB (x1:Int)(H:Hp)(K:VK):Prop:=
 Nw H (Oq #[I 0,I 0] 217) fun b1 H1=>fS 327 #[I x1] H1 fun c1 H2=>ao (!c1) (bR H2 (O b1) #[I 0,I 0] 2 fun H3=>aJ H3 (O b1) 2 fun l1=>K (.tuple #[.agg l1.toArray,I 1]) H3) (((2:Int)≠0/\i64=i64/\qg 328 #[I x1,I (i64.wrap (Int.tdiv x1 2))] H2 fun y1 H4=>bR H4 (O b1) y1 2 fun H5=>aJ H5 (O b1) 2 fun l2=>K (.tuple #[.agg l2.toArray,I 0]) H5))
theorem oB.ok x1 H K (h:oB x1 H K):ae prog 263 #[I x1] H K:=
 cg nR Tryz.func263 rfl rfl h
def mu (x1 x2:Int)(H:Hp)(K:VK):Prop:=
 Nw H (Oq #[I x1,I x2] 217) fun b1 H1=>Nw H1 (Oq #[I 0,I 0] 217) fun b2 H2=>aM H2 ((O b1).add 1) fun x3=>aM H2 ((O b1).add 0) fun x4=>bR H2 (O b2) #[I x3,I x4] 2 fun H3=>aJ H3 (O b2) 2 fun l1=>K (.agg l1.toArray) H3
theorem mu.ok x1 x2 H K (h:mu x1 x2 H K):ae prog 264 #[.agg #[I x1,I x2]] H K:=
 cg nR Tryz.func264 rfl rfl h
def oD (x1 x2:Int)(H:Hp)(K:VK):Prop:=
 Nw H (Oq #[I x1,I x2] 217) fun b1 H1=>aM H1 ((O b1).add 0) fun x3=>Hz 147 #[I x3] H1 fun v2 H2=>sf v2 fun x4 c1=>(aM H2 ((O b1).add 1) fun x5=>Hz 147 #[I x5] H2 fun v6 H3=>sf v6 fun x6 c2=>(ao c1 (ao c2 (K (.bool (decide ((i64.wrap (x4+x6))<=32))) H3) (K (.bool false) H3)) (K (.bool false) H3)))
theorem oD.ok x1 x2 H K (h:oD x1 x2 H K):ae prog 297 #[.agg #[I x1,I x2]] H K:=
 cg nR Tryz.func297 rfl rfl h
def oE (x1 x2:Int)(H:Hp)(K:VK):Prop:=
 Nw H (Oq #[I x1,I x2] 217) fun b1 H1=>aJ H1 (O b1) 2 fun l1=>fS 297 #[.agg l1.toArray] H1 fun c1 H2=>ao (!c1) (K (I 0) H2) (aM H2 ((O b1).add 0) fun x3=>aM H2 ((O b1).add 1) fun x4=>K (I (i64.wrap (x3*x4))) H2)
theorem oE.ok x1 x2 H K (h:oE x1 x2 H K):ae prog 298 #[.agg #[I x1,I x2]] H K:=
 cg nR Tryz.func298 rfl rfl h
def oF (x1:Int)(H:Hp)(K:VK):Prop:=
 ao (decide (x1>=0)) (K (.bool (decide (x1<=(32:Int)))) H) (K (.bool false) H)
theorem oF.ok x1 H K (h:oF x1 H K):ae prog 327 #[I x1] H K:=
 cg nR Tryz.func327 rfl rfl h
def ny (x1 x2:Int)(H:Hp)(K:VK):Prop:=
 Nw H (Oq #[I 0,I 0] 217) fun b1 H1=>(0<=(u64.wrap x2)/\(0<=(u64.wrap (i64.wrap (x1-x2)))/\bR H1 (O b1) #[I (dA .i64 1 (u64.wrap x2)),I (dA .i64 1 (u64.wrap (i64.wrap (x1-x2))))] 2 fun H2=>aJ H2 (O b1) 2 fun l1=>K (.agg l1.toArray) H2))
theorem ny.ok x1 x2 H K (h:ny x1 x2 H K):ae prog 328 #[I x1,I x2] H K:=
 cg nR Tryz.func328 rfl rfl h
theorem k8 :prog.follows .mixedOrders=true:=by kernel_rfl
def ck.l3 (K:VK):Nat->Int->Int->Int->Hp->Prop
 |0,_,_,_,_=>False
 |k+1,x2,x3,x4,H=>
  let R3:=ck.l3 K k
  ao (decide (x4<=(32:Int))) (ao (x2==x3) (K (I x4) H) (R3 x2 (i64.wrap (2*x3)) (i64.wrap (x4+1)) H)) (K (I (-1)) H)
def ck (x1:Int)(H:Hp)(K:VK):Prop:=
 (∃ k,ck.l3 K k x1 1 0 H)
def ck.l3.L (K:VK)(k:Nat):dm:=fun E D H=>
 eI E 0 .i64 fun x2=>eI E 3 .i64 fun x3=>eI E 4 .i64 fun x4=>az D (ck.l3 K k x2 x3 x4 H)
def ck.Λ3 (_:VK)(_R3:Int->Int->Int->Hp->Prop):aN:=aN.none (fun _=>none)
def ck.Λ (K:VK):aN:=⟨fun i=>none,fun i=>match Nat.beq i 3 with|true=>some (fun E D H=>∃ k,ck.l3.L K k E D H)|false=>none,(fun _=>none)⟩
theorem ck.ok x1 H K (h:ck x1 H K):ae prog 86 #[I x1] H K:=
 dX (Λ:=(ck.Λ K)) k8 Tryz.func86 rfl rfl h (oC (fun E D H h=>by
   refine Safe.c0 (ck.l3.L K) (fun E D H h=>?_) (fun k E D H h=>?_) E D H h
   .obtain⟨w0,e0,g1⟩:=DG.out h;obtain⟨x2,rfl,g2⟩:=DI.out g1;obtain⟨w3,e3,g3⟩:=DG.out g2;obtain⟨x3,rfl,g4⟩:=DI.out g3;obtain⟨w4,e4,g5⟩:=DG.out g4;obtain⟨x4,rfl,g6⟩:=DI.out g5;obtain⟨rfl,h'⟩:=az.out g6;exact h'
   .obtain⟨x2,e0,g2⟩:=GI h;obtain⟨x3,e3,g4⟩:=GI g2;obtain⟨x4,e4,g6⟩:=GI g4;obtain⟨rfl,h'⟩:=az.out g6;exact cY (Λ:=(ck.Λ3 K (ck.l3 K k))) k8 [] (ag.cons e0 (ag.cons e3 (ag.cons e4 (ag.nil _)))) h' oN) oN)
def cm.l3 (K:VK):Nat->Int->Int->Int->Hp->Prop
 |0,_,_,_,_=>False
 |k+1,x2,x3,x4,H=>
  let R3:=cm.l3 K k
  ao (decide (x4<x2)) (((2:Int)≠0/\u64=u64/\R3 x2 (u64.wrap (Int.tdiv x3 2)) (i64.wrap (x4+1)) H)) (fe 173 #[U 7,U x3] H fun x5 H1=>K (U x5) H1)
def cm (x1:Int)(H:Hp)(K:VK):Prop:=
 (∃ k,cm.l3 K k x1 18446744069414584320 0 H)
def cm.l3.L (K:VK)(k:Nat):dm:=fun E D H=>
 eI E 0 .i64 fun x2=>eI E 3 .u64 fun x3=>eI E 4 .i64 fun x4=>az D (cm.l3 K k x2 x3 x4 H)
def cm.Λ3 (_:VK)(_R3:Int->Int->Int->Hp->Prop):aN:=aN.none (fun _=>none)
def cm.Λ (K:VK):aN:=⟨fun i=>none,fun i=>match Nat.beq i 3 with|true=>some (fun E D H=>∃ k,cm.l3.L K k E D H)|false=>none,(fun _=>none)⟩
theorem cm.ok x1 H K (h:cm x1 H K):ae prog 242 #[I x1] H K:=
 dX (Λ:=(cm.Λ K)) k8 Tryz.func242 rfl rfl h (oC (fun E D H h=>by
   refine Safe.c0 (cm.l3.L K) (fun E D H h=>?_) (fun k E D H h=>?_) E D H h
   .obtain⟨w0,e0,g1⟩:=DG.out h;obtain⟨x2,rfl,g2⟩:=DI.out g1;obtain⟨w3,e3,g3⟩:=DG.out g2;obtain⟨x3,rfl,g4⟩:=DI.out g3;obtain⟨w4,e4,g5⟩:=DG.out g4;obtain⟨x4,rfl,g6⟩:=DI.out g5;obtain⟨rfl,h'⟩:=az.out g6;exact h'
   .obtain⟨x2,e0,g2⟩:=GI h;obtain⟨x3,e3,g4⟩:=GI g2;obtain⟨x4,e4,g6⟩:=GI g4;obtain⟨rfl,h'⟩:=az.out g6;exact cY (Λ:=(cm.Λ3 K (cm.l3 K k))) k8 [] (ag.cons e0 (ag.cons e3 (ag.cons e4 (ag.nil _)))) h' oN) oN)
end W
namespace Shp
open Go Go.Hw W
def db (i:Nat):Nat:=285870213051353865*2^i%18446744073709551616/288230376151711744
def Kr :List Nat:=(List.range 64).map fun j=>((List.range 64).find? fun i=>db i==j).getD 0
def JC :List Value:=Kr.map fun(n:Nat)=>Value.int .u8 (n:Int)
def T64 (H:Hp):Prop:=Cells H (Oo 2) JC
theorem T64.le {H H':Hp}(h:T64 H)(k:H.le H'):T64 H':=Cells.le h k
theorem IV :(List.range 64).all (fun k=>cT .u64 (u64.wrap ((cU .u64 ((2^k:Nat):Int) (u64.wrap (0-((2^k:Nat):Int))))*(285870213051353865:Int))) (58:Int)==(db k:Int)&&(decide (db k<64)&&(Kr[db k]? ==some k)))=true:=by decide +kernel
theorem J1 (k:Nat)(hk:k<64)(H:Hp)(hT:T64 H):ae prog 212 #[U ((2^k:Nat):Int)] H (RetE (I (k:Int)) H):=by
 apply gh.ok;unfold gh;have hp:(2:Nat)^k≠0:=Nat.ne_of_gt (Nat.pow_pos (by omega));refine aK (by omega) ⟨by decide,?_⟩;have ht:=List.all_eq_true.1 IV k (by simp;omega);simp only[Bool.and_eq_true,beq_iff_eq,decide_eq_true_eq]at ht;obtain⟨h1,h2,h3⟩:=ht;rw[h1];have hv:JC[db k]? =some (.int .u8 (k:Int)):=by
  unfold JC;rw[List.getElem?_map,h3];rfl
 refine Cells.read hT hv rfl (by decide) ?_;simp only[HV];rw[ed];exact RetE.mk _ _
def lg (n:Int):Option Nat:=(List.range 33).find? fun k=>n==((2^k:Nat):Int)
theorem kJ {n:Int}{k:Nat}(h:lg n=some k):k<=32/\n=((2^k:Nat):Int):=by
 have h1:=List.mem_of_find?_eq_some h;have h2:=List.find?_some h;simp only[beq_iff_eq]at h2;exact⟨by have:=List.mem_range.1 h1;omega,h2⟩
theorem I5 :(List.range 33).all (fun k=>lg ((2^k:Nat):Int)==some k)=true:=by decide +kernel
theorem sI {k:Nat}(hk:k<=32:=by omega):lg ((2^k:Nat):Int)=some k:=by
 have:=List.all_eq_true.1 I5 k (List.mem_range.2 (by omega));simpa using this
theorem pow_pos (k:Nat):1<=2^k:=Nat.pow_pos (by omega)
theorem dw {k m:Nat}(h:k<=m):2^k<=2^m:=Nat.pow_le_pow_right (by omega) h
theorem Nu {n:Int}(h:n<1):lg n=none:=by
 cases e:lg n with
 |none=>rfl
 |some k=>have:=(kJ e).2;have:=pow_pos k;omega
theorem Nt {n:Int}(h:n>4294967296):lg n=none:=by
 cases e:lg n with
 |none=>rfl
 |some k=>
  obtain⟨h1,h2⟩:=kJ e;have:=dw h1;rw[show 2^32=4294967296 by decide]at this;omega
theorem MN {m:Nat}(h1:1<=m)(h2:m<=4294967296):m&&&(m-1)=0↔lg (m:Int)≠none:=by
 rw[Nat.and_sub_one_eq_zero_iff_isPowerOfTwo (by omega)];constructor
 .rintro⟨k,rfl⟩;have hk:k<=32:=by
   apply Nat.le_of_not_lt;intro h;have:=dw (show 33<=k from h);rw[show 2^33=8589934592 by decide]at this;omega
  rw[sI hk];simp
 .intro h;cases e:lg (m:Int)with
  |none=>exact absurd e h
  |some k=>exact⟨k,Int.ofNat_inj.1 (kJ e).2⟩
def dM (n:Int):Value:=match lg n with|some k=>.tuple #[.int .i64 (k:Int),.bool true]|none=>.tuple #[.int .i64 0,.bool false]
theorem sx (n:Int)(H:Hp)(hT:T64 H):ae prog 147 #[I n] H (RetE (dM n) H):=by
 apply pE.ok;unfold pE;by_cases h1:n<1
 .refine aC h1 ?_;unfold dM;rw[Nu h1];exact RetE.mk _ _
 refine aw h1 ?_;by_cases h2:n>4294967296
 .refine aC h2 ?_;unfold dM;rw[Nt h2];exact RetE.mk _ _
 refine aw h2 ?_;obtain⟨m,rfl⟩:=Int.eq_ofNat_of_zero_le (show 0<=n by omega);rw[show((m:Int)-1)=((m-1:Nat):Int) by omega,bu,Lay.th (by omega) (by omega)];have hl:=MN (m:=m) (by omega) (by omega);unfold dM;cases e:lg (m:Int)with
 |none=>
  refine aT (fun h=>?_) (RetE.mk _ _);exact(hl.1 (Int.ofNat_inj.1 h)) e
 |some k=>
  refine aH (Int.ofNat_inj.2 (hl.2 (by rw[e];simp))) ?_;obtain⟨h3,h4⟩:=kJ e;rw[fW,h4];refine ae.use (J1 k (by omega) H hT) ?_
  try simp only[HV]
  exact RetE.mk _ _
def ru (n:Int):Int:=match lg n with|some k=>(k:Int)|none=>-1
theorem yg (n:Int)(H:Hp):∀(t k:Nat),k+t=33->(∀ j,j<k->n≠((2^j:Nat):Int))->ck.l3 (RetE (I (ru n)) H) (t+1) n ((2^k:Nat):Int) (k:Int) H
 |0,k,h,hk=>by
  unfold ck.l3;refine aw (by omega) ?_;unfold ru;cases e:lg n with
  |none=>exact RetE.mk _ _
  |some j=>exact absurd (kJ e).2 (hk j (by have:=(kJ e).1;omega))
 |t+1,k,h,hk=>by
  unfold ck.l3;refine aC (by omega) ?_;by_cases e:n=((2^k:Nat):Int)
  .refine aL e ?_;unfold ru;rw[e,sI];exact RetE.mk _ _
  .refine aK e ?_;have hp:=dw (show k<=32 by omega);rw[show 2^32=4294967296 by decide]at hp;rw[show(2:Int)*((2^k:Nat):Int)=((2^(k+1):Nat):Int) by rw[Nat.pow_succ];omega,ed (by rw[Nat.pow_succ];omega),bu (x:=(k:Int)+1)];exact yg n H t (k+1) (by omega) fun j hj=>by
    by_cases ej:j=k
    .rw[ej];exact e
    .exact hk j (by omega)
theorem Jf (n:Int)(H:Hp):ae prog 86 #[I n] H (RetE (I (ru n)) H):=by
 apply ck.ok;unfold ck;exact⟨34,yg n H 33 0 rfl fun j hj=>absurd hj (by omega)⟩
def jU (r c:Int):Bool:=match lg r,lg c with|some a,some b=>decide (a+b≤32)|_,_=>false
theorem qw {r c:Int}(h:jU r c=true):∃ a b:Nat,r=((2^a:Nat):Int)/\c=((2^b:Nat):Int)/\a+b<=32/\lg r=some a/\lg c=some b:=by
 unfold jU at h;split at h
 .rename_i a b ha hb
  exact⟨a,b,(kJ ha).2,(kJ hb).2,by simpa using h,ha,hb⟩
 .cases h
theorem rX {a b:Nat}(h:a+b<=32):jU ((2^a:Nat):Int) ((2^b:Nat):Int)=true:=by
 unfold jU;rw[sI,sI];simpa using h
theorem fT (r c:Int)(H:Hp)(hT:T64 H):ae prog 297 #[.agg #[I r,I c]] H (RetE (.bool (jU r c)) H):=by
 apply ae.ret;apply oD.ok;unfold oD;refine(Sep.start H).nw fun b1 H1 hs=>?_
 first|refine hs.cC 1 rfl rfl ?_|refine hs.kH 1 rfl rfl ?_
 try simp only[HV]
 refine ae.use (sx r H1 (hT.le (hs.ow 0 rfl))) ?_;unfold jU dM;cases ea:lg r with
 |none=>
  simp only[HV]
  first|refine hs.cC 1 rfl rfl ?_|refine hs.kH 1 rfl rfl ?_
  try simp only[HV]
  refine ae.use (sx c H1 (hT.le (hs.ow 0 rfl))) ?_;unfold dM;cases eb:lg c<;>simp only[HV]<;>exact hs.fin 0 rfl _
 |some a=>
  simp only[HV]
  first|refine hs.cC 1 rfl rfl ?_|refine hs.kH 1 rfl rfl ?_
  try simp only[HV]
  refine ae.use (sx c H1 (hT.le (hs.ow 0 rfl))) ?_;unfold dM;cases eb:lg c with
  |none=>simp only[HV];exact hs.fin 0 rfl _
  |some b=>
   simp only[HV];have h1:=(kJ ea).1;have h2:=(kJ eb).1;rw[bu];have:decide ((a:Int)+(b:Int)<=32)=decide (a+b<=32):=by
    by_cases h:a+b<=32
    .rw[decide_eq_true h,decide_eq_true (by omega)]
    .rw[decide_eq_false h,decide_eq_false (by omega)]
   rw[this];exact hs.fin 0 rfl _
theorem size_le {a b:Nat}(h:a+b<=32):2^a*2^b<=4294967296:=by
 rw[<- Nat.pow_add,show 4294967296=2^32 by decide];exact dw h
def sa (r c:Int):Int:=if jU r c=true then r*c else 0
theorem vi (r c:Int)(H:Hp)(hT:T64 H):ae prog 298 #[.agg #[I r,I c]] H (RetE (I (sa r c)) H):=by
 apply ae.ret;apply oE.ok;unfold oE;refine(Sep.start H).nw fun b1 H1 hs=>?_
 refine hs.bd 1 rfl rfl ?_;refine ae.use (fT r c H1 (hT.le (hs.ow 0 rfl))) ?_;simp only[HV];unfold sa;cases e:jU r c with
 |false=>exact cV rfl (hs.fin 0 rfl _)
 |true=>
  refine bQ rfl ?_
  first|refine hs.cC 1 rfl rfl ?_|refine hs.kH 1 rfl rfl ?_
  try simp only[HV]
  first|refine hs.cC 1 rfl rfl ?_|refine hs.kH 1 rfl rfl ?_
  try simp only[HV]
  obtain⟨a,b,rfl,rfl,h,_,_⟩:=qw e;have:=size_le h;rw[<- Int.natCast_mul,ed,if_pos trivial];exact hs.fin 0 rfl _
end Shp
namespace W
open Go Go.Hw
theorem jj :prog.follows .mixedOrders=true:=by kernel_rfl
def qm (x1 x2:Int)(H:Hp)(K:VK):Prop:=
 qg 180 #[U x1,U x2] H fun y1 H1=>fe 179 #[.agg y1] H1 fun x3 H2=>K (U x3) H2
theorem qm.ok x1 x2 H K (h:qm x1 x2 H K):ae prog 120 #[U x1,U x2] H K:=
 cg jj Tryz.func120 rfl rfl h
def rM (x1:Int)(H:Hp)(K:VK):Prop:=
 ao (decide (x1>=18446744069414584321)) (K (U (u64.wrap (x1-18446744069414584321))) H) (K (U x1) H)
theorem rM.ok x1 H K (h:rM x1 H K):ae prog 121 #[U x1] H K:=
 cg jj Tryz.func121 rfl rfl h
def qk (x1 x2:Int)(H:Hp)(K:VK):Prop:=
 fe 121 #[U x1] H fun x3 H1=>fe 121 #[U x2] H1 fun x4 H2=>Hz 249 #[.agg #[U 0,U x3],.agg #[U 0,U x4]] H2 fun v3 H3=>Mj v3 fun y1 x5=>(Nw H3 (Oq #[U 0,U 0] 284) fun b1 H4=>bR H4 (O b1) y1 2 fun H5=>aJ H5 (O b1) 2 fun l4=>fe 179 #[.agg l4.toArray] H5 fun x6 H6=>K (U x6) H6)
theorem qk.ok x1 x2 H K (h:qk x1 x2 H K):ae prog 177 #[U x1,U x2] H K:=
 cg jj Tryz.func177 rfl rfl h
def ql (x1:Int)(H:Hp)(K:VK):Prop:=
 fe 121 #[U x1] H fun x2 H1=>ao (x2==0) (K (.tuple #[U 0,I 13]) H1) (fe 246 #[U x1,U 18446744069414584319] H1 fun x3 H2=>K (.tuple #[U x3,I 0]) H2)
theorem ql.ok x1 H K (h:ql x1 H K):ae prog 178 #[U x1] H K:=
 cg jj Tryz.func178 rfl rfl h
def eS.j5 (K:VK)(x7 x8:Int)(H:Hp):=
 ao (decide ((u64.wrap (x8+(u64.wrap (x7*4294967295))))<(u64.wrap (x7*4294967295)))) (fe 121 #[U (u64.wrap ((u64.wrap (x8+(u64.wrap (x7*4294967295))))+4294967295))] H fun x9 H2=>K (U x9) H2) (fe 121 #[U (u64.wrap (x8+(u64.wrap (x7*4294967295))))] H fun x10 H3=>K (U x10) H3)
def eS (x1 x2:Int)(H:Hp)(K:VK):Prop:=
 Nw H (Oq #[U x1,U x2] 284) fun b1 H1=>eo H1 ((O b1).add 0) fun x3=>(0<=(32:Int)/\eo H1 ((O b1).add 0) fun x4=>eo H1 ((O b1).add 1) fun x5=>eo H1 ((O b1).add 1) fun x6=>ao (decide (x6<(cT .u64 x3 32))) (eS.j5 K (cU .u64 x4 4294967295) (u64.wrap ((u64.wrap (x5-(cT .u64 x3 32)))-4294967295)) H1) (eS.j5 K (cU .u64 x4 4294967295) (u64.wrap (x5-(cT .u64 x3 32))) H1))
def eS.Λ (K:VK):aN:=⟨fun i=>match Nat.beq i 5 with|true=>some (fun E D H=>eI E 4 .u64 fun x7=>eI E 5 .u64 fun x8=>az D (eS.j5 K x7 x8 H))|false=>none,fun i=>none,(fun _=>none)⟩
theorem eS.ok x1 x2 H K (h:eS x1 x2 H K):ae prog 179 #[.agg #[U x1,U x2]] H K:=
 dX (Λ:=(eS.Λ K)) jj Tryz.func179 rfl rfl h (oC (fun E D H h=>by
   obtain⟨x7,e4,g2⟩:=GI h;obtain⟨x8,e5,g4⟩:=GI g2;obtain⟨rfl,h'⟩:=az.out g4;exact cY (Λ:=(eS.Λ K)) jj [] (ag.cons e4 (ag.cons e5 (ag.nil _))) h' oN) oN)
def pv (x1:Int)(H:Hp)(K:VK):Prop:=
 K (.bool (decide (x1<18446744069414584321))) H
theorem pv.ok x1 H K (h:pv x1 H K):ae prog 211 #[U x1] H K:=
 cg jj Tryz.func211 rfl rfl h
def qo (x1 x2:Int)(H:Hp)(K:VK):Prop:=
 fe 309 #[U x2] H fun x3 H1=>fe 177 #[U x1,U x3] H1 fun x4 H2=>K (U x4) H2
theorem qo.ok x1 x2 H K (h:qo x1 x2 H K):ae prog 243 #[U x1,U x2] H K:=
 cg jj Tryz.func243 rfl rfl h
def et.l2 (K:VK):Nat->Int->Int->Int->Hp->Prop
 |0,_,_,_,_=>False
 |k+1,x4,x5,x6,H=>
  let R2:=et.l2 K k
  ao (decide (x4>0)) (ao ((cU .u64 x4 1)==1) (fe 120 #[U x5,U x6] H fun x7 H2=>fe 120 #[U x6,U x6] H2 fun x8 H3=>(0<=(1:Int)/\R2 (cT .u64 x4 1) x7 x8 H3)) (fe 120 #[U x6,U x6] H fun x9 H4=>(0<=(1:Int)/\R2 (cT .u64 x4 1) x5 x9 H4))) (K (U x5) H)
def et (x1 x2:Int)(H:Hp)(K:VK):Prop:=
 fe 121 #[U x1] H fun x3 H1=>(∃ k,et.l2 K k x2 1 x3 H1)
def et.l2.L (K:VK)(k:Nat):dm:=fun E D H=>
 eI E 1 .u64 fun x4=>eI E 5 .u64 fun x5=>eI E 6 .u64 fun x6=>az D (et.l2 K k x4 x5 x6 H)
def et.Λ2 (_:VK)(_R2:Int->Int->Int->Hp->Prop):aN:=aN.none (fun _=>none)
def et.Λ (K:VK):aN:=⟨fun i=>none,fun i=>match Nat.beq i 2 with|true=>some (fun E D H=>∃ k,et.l2.L K k E D H)|false=>none,(fun _=>none)⟩
theorem et.ok x1 x2 H K (h:et x1 x2 H K):ae prog 246 #[U x1,U x2] H K:=
 dX (Λ:=(et.Λ K)) jj Tryz.func246 rfl rfl h (oC (fun E D H h=>by
   refine Safe.c0 (et.l2.L K) (fun E D H h=>?_) (fun k E D H h=>?_) E D H h
   .obtain⟨w1,e1,g1⟩:=DG.out h;obtain⟨x4,rfl,g2⟩:=DI.out g1;obtain⟨w5,e5,g3⟩:=DG.out g2;obtain⟨x5,rfl,g4⟩:=DI.out g3;obtain⟨w6,e6,g5⟩:=DG.out g4;obtain⟨x6,rfl,g6⟩:=DI.out g5;obtain⟨rfl,h'⟩:=az.out g6;exact h'
   .obtain⟨x4,e1,g2⟩:=GI h;obtain⟨x5,e5,g4⟩:=GI g2;obtain⟨x6,e6,g6⟩:=GI g4;obtain⟨rfl,h'⟩:=az.out g6;exact cY (Λ:=(et.Λ2 K (et.l2 K k))) jj [] (ag.cons e1 (ag.cons e5 (ag.cons e6 (ag.nil _)))) h' oN) oN)
def qn (x1:Int)(H:Hp)(K:VK):Prop:=
 fe 121 #[U x1] H fun x2 H1=>ao (x2==0) (K (U 0) H1) (K (U (u64.wrap (18446744069414584321-x2))) H1)
theorem qn.ok x1 H K (h:qn x1 H K):ae prog 309 #[U x1] H K:=
 cg jj Tryz.func309 rfl rfl h
theorem Cc :prog.follows .mixedOrders=true:=by kernel_rfl
def qv (x1 x2:Int)(H:Hp)(K:VK):Prop:=
 Nw H (Oq #[U 0,U 0] 284) fun b1 H1=>Hz 250 #[U x1,U x2] H1 fun v1 H2=>BK v1 fun x3 x4=>(bR H2 (O b1) #[U x3,U x4] 2 fun H3=>aJ H3 (O b1) 2 fun l4=>K (.agg l4.toArray) H3)
theorem qv.ok x1 x2 H K (h:qv x1 x2 H K):ae prog 180 #[U x1,U x2] H K:=
 cg Cc Tryz.func180 rfl rfl h
def qu (x1 x2 x3 x4:Int)(H:Hp)(K:VK):Prop:=
 Nw H (Oq #[U x1,U x2] 284) fun b1 H1=>Nw H1 (Oq #[U x3,U x4] 284) fun b2 H2=>Nw H2 (Oq #[U 0,U 0] 284) fun b3 H3=>eo H3 ((O b1).add 1) fun x5=>eo H3 ((O b2).add 1) fun x6=>JV prog 312 #[U x5,U x6,U 0] H3 fun v3 H4=>BK v3 fun x7 x8=>(St H4 (((O b3).add 1).add 0) (U x7) fun H5=>eo H5 ((O b1).add 0) fun x9=>eo H5 ((O b2).add 0) fun x10=>JV prog 312 #[U x9,U x10,U x8] H5 fun v8 H6=>BK v8 fun x11 x12=>(St H6 (((O b3).add 0).add 0) (U x11) fun H7=>aJ H7 (O b3) 2 fun l7=>bR H7 (O b3) l7.toArray 2 fun H8=>aJ H8 (O b3) 2 fun l8=>K (.tuple #[.agg l8.toArray,U x12]) H8))
theorem qu.ok x1 x2 x3 x4 H K (h:qu x1 x2 x3 x4 H K):ae prog 249 #[.agg #[U x1,U x2],.agg #[U x3,U x4]] H K:=
 cg Cc Tryz.func249 rfl rfl h
theorem ic :prog.follows .mixedOrders=true:=by kernel_rfl
def kg (x1:Int)(H:Hp)(K:VK):Prop:=
 ((18446744069414584321:Int)≠0/\u64=u64/\K (U (Int.tmod x1 18446744069414584321)) H)
theorem kg.ok x1 H K (h:kg x1 H K):ae prog 67 #[U x1] H K:=
 cg ic Tryz.func67 rfl rfl h
def jI (x1 x2:Int)(H:Hp)(K:VK):Prop:=
 fe 67 #[U x1] H fun x3 H1=>fe 67 #[U x2] H1 fun x4 H2=>ao (decide (x3>=(u64.wrap (18446744069414584321-x4)))) (K (U (u64.wrap (x3-(u64.wrap (18446744069414584321-x4))))) H2) (K (U (u64.wrap (x3+x4))) H2)
theorem jI.ok x1 x2 H K (h:jI x1 x2 H K):ae prog 68 #[U x1,U x2] H K:=
 cg ic Tryz.func68 rfl rfl h
def cz.l3 (K:VK):Nat->Int->Int->Int->Hp->Prop
 |0,_,_,_,_=>False
 |k+1,x4,x5,x6,H=>
  let R3:=cz.l3 K k
  ao (decide (x5>0)) (((2:Int)≠0/\u64=u64/\ao ((Int.tmod x5 2)==1) (fe 68 #[U x6,U x4] H fun x7 H2=>fe 68 #[U x4,U x4] H2 fun x8 H3=>((2:Int)≠0/\u64=u64/\R3 x8 (u64.wrap (Int.tdiv x5 2)) x7 H3)) (fe 68 #[U x4,U x4] H fun x9 H4=>((2:Int)≠0/\u64=u64/\R3 x9 (u64.wrap (Int.tdiv x5 2)) x6 H4)))) (K (U x6) H)
def cz (x1 x2:Int)(H:Hp)(K:VK):Prop:=
 fe 67 #[U x1] H fun x3 H1=>(∃ k,cz.l3 K k x3 x2 0 H1)
def cz.l3.L (K:VK)(k:Nat):dm:=fun E D H=>
 eI E 0 .u64 fun x4=>eI E 1 .u64 fun x5=>eI E 5 .u64 fun x6=>az D (cz.l3 K k x4 x5 x6 H)
def cz.Λ3 (_:VK)(_R3:Int->Int->Int->Hp->Prop):aN:=aN.none (fun _=>none)
def cz.Λ (K:VK):aN:=⟨fun i=>none,fun i=>match Nat.beq i 3 with|true=>some (fun E D H=>∃ k,cz.l3.L K k E D H)|false=>none,(fun _=>none)⟩
theorem cz.ok x1 x2 H K (h:cz x1 x2 H K):ae prog 172 #[U x1,U x2] H K:=
 dX (Λ:=(cz.Λ K)) ic Tryz.func172 rfl rfl h (oC (fun E D H h=>by
   refine Safe.c0 (cz.l3.L K) (fun E D H h=>?_) (fun k E D H h=>?_) E D H h
   .obtain⟨w0,e0,g1⟩:=DG.out h;obtain⟨x4,rfl,g2⟩:=DI.out g1;obtain⟨w1,e1,g3⟩:=DG.out g2;obtain⟨x5,rfl,g4⟩:=DI.out g3;obtain⟨w5,e5,g5⟩:=DG.out g4;obtain⟨x6,rfl,g6⟩:=DI.out g5;obtain⟨rfl,h'⟩:=az.out g6;exact h'
   .obtain⟨x4,e0,g2⟩:=GI h;obtain⟨x5,e1,g4⟩:=GI g2;obtain⟨x6,e5,g6⟩:=GI g4;obtain⟨rfl,h'⟩:=az.out g6;exact cY (Λ:=(cz.Λ3 K (cz.l3 K k))) ic [] (ag.cons e0 (ag.cons e1 (ag.cons e5 (ag.nil _)))) h' oN) oN)
def cA.l3 (K:VK):Nat->Int->Int->Int->Hp->Prop
 |0,_,_,_,_=>False
 |k+1,x4,x5,x6,H=>
  let R3:=cA.l3 K k
  ao (decide (x5>0)) (((2:Int)≠0/\u64=u64/\ao ((Int.tmod x5 2)==1) (fe 172 #[U x6,U x4] H fun x7 H2=>fe 172 #[U x4,U x4] H2 fun x8 H3=>((2:Int)≠0/\u64=u64/\R3 x8 (u64.wrap (Int.tdiv x5 2)) x7 H3)) (fe 172 #[U x4,U x4] H fun x9 H4=>((2:Int)≠0/\u64=u64/\R3 x9 (u64.wrap (Int.tdiv x5 2)) x6 H4)))) (K (U x6) H)
def cA (x1 x2:Int)(H:Hp)(K:VK):Prop:=
 fe 67 #[U x1] H fun x3 H1=>(∃ k,cA.l3 K k x3 x2 1 H1)
def cA.l3.L (K:VK)(k:Nat):dm:=fun E D H=>
 eI E 0 .u64 fun x4=>eI E 1 .u64 fun x5=>eI E 5 .u64 fun x6=>az D (cA.l3 K k x4 x5 x6 H)
def cA.Λ3 (_:VK)(_R3:Int->Int->Int->Hp->Prop):aN:=aN.none (fun _=>none)
def cA.Λ (K:VK):aN:=⟨fun i=>none,fun i=>match Nat.beq i 3 with|true=>some (fun E D H=>∃ k,cA.l3.L K k E D H)|false=>none,(fun _=>none)⟩
theorem cA.ok x1 x2 H K (h:cA x1 x2 H K):ae prog 173 #[U x1,U x2] H K:=
 dX (Λ:=(cA.Λ K)) ic Tryz.func173 rfl rfl h (oC (fun E D H h=>by
   refine Safe.c0 (cA.l3.L K) (fun E D H h=>?_) (fun k E D H h=>?_) E D H h
   .obtain⟨w0,e0,g1⟩:=DG.out h;obtain⟨x4,rfl,g2⟩:=DI.out g1;obtain⟨w1,e1,g3⟩:=DG.out g2;obtain⟨x5,rfl,g4⟩:=DI.out g3;obtain⟨w5,e5,g5⟩:=DG.out g4;obtain⟨x6,rfl,g6⟩:=DI.out g5;obtain⟨rfl,h'⟩:=az.out g6;exact h'
   .obtain⟨x4,e0,g2⟩:=GI h;obtain⟨x5,e1,g4⟩:=GI g2;obtain⟨x6,e5,g6⟩:=GI g4;obtain⟨rfl,h'⟩:=az.out g6;exact cY (Λ:=(cA.Λ3 K (cA.l3 K k))) ic [] (ag.cons e0 (ag.cons e1 (ag.cons e5 (ag.nil _)))) h' oN) oN)
end W
namespace Gol
open Go Go.Hw W
theorem zu (x y c:Nat)(hc:c<=1){H:Hp}{K:VK}(k:K (.tuple #[U (((x+y+c)%18446744073709551616:Nat):Int),U (((x+y+c)/18446744073709551616:Nat):Int)]) H):
  JV prog 312 #[U (x:Int),U (y:Int),U (c:Int)] H K:=fun H0 w0 w hA=>by
 refine⟨.value _,H,w,?_,k,hA⟩;rw[run_callFunc_extern Tryz.func312 (by kernel_rfl) (by kernel_rfl) (by kernel_rfl) (e:=add64Entry) (by kernel_rfl),run_add64 (x:Int) (y:Int) (c:Int) (by omega) (by omega) (by omega) (by omega)];simp only[Result.andThen];congr 5<;>omega
theorem Bd {x:Nat}(hx:x<2^64):cU .u64 (x:Int) 4294967295=((x%4294967296:Nat):Int):=by
 rw[show(4294967295:Int)=((4294967295:Nat):Int)from rfl,yT hx,show 4294967295=2^32-1 from rfl,Nat.and_two_pow_sub_one_eq_mod]
theorem pO {x:Nat}:cT .u64 (x:Int) 32=((x/4294967296:Nat):Int):=by
 rw[rz (k:=.u64) (a:=x) (i:=32) (n:=32) rfl (by decide)]
theorem Fc {x y:Nat}(hx:x<4294967296)(hy:y<4294967296):u64.wrap ((x:Int)*(y:Int))=((x*y:Nat):Int):=by
 have:x*y<=4294967295*4294967295:=Nat.mul_le_mul (by omega) (by omega);rw[Nd,Nat.mod_eq_of_lt (by omega)]
theorem yS {x y:Nat}(h:x+y<18446744073709551616:=by omega):u64.wrap ((x:Int)+(y:Int))=((x+y:Nat):Int):=by
 rw[Nc,Nat.mod_eq_of_lt (by omega)]
theorem IB {a b:Nat}(ha:a<2^64)(hb:b<2^64)(H:Hp):ae prog 250 #[U (a:Int),U (b:Int)] H (RetE (.tuple #[U ((a*b/18446744073709551616:Nat):Int),U ((a*b%18446744073709551616:Nat):Int)]) H):=by
 apply kv.ok;unfold kv;refine⟨by decide,by decide,by decide,by decide,by decide,?_⟩;rw[Nd a b,pO (x:=a),pO (x:=b),Bd ha,Bd hb];have ea:a=4294967296*(a/4294967296)+a%4294967296:=by omega
 have eb:b=4294967296*(b/4294967296)+b%4294967296:=by omega
 have h1:a/4294967296<4294967296:=by omega
 have h2:b/4294967296<4294967296:=by omega
 have h3:a%4294967296<4294967296:=by omega
 have h4:b%4294967296<4294967296:=by omega
 have hab:a*b=18446744073709551616*((a/4294967296)*(b/4294967296))+4294967296*((a/4294967296)*(b%4294967296))+4294967296*((a%4294967296)*(b/4294967296))+(a%4294967296)*(b%4294967296):=by
  conv=>lhs;rw[ea,eb]
  rw[Nat.add_mul,Nat.mul_add,Nat.mul_add];rw[show 4294967296*(a/4294967296)*(4294967296*(b/4294967296))=18446744073709551616*((a/4294967296)*(b/4294967296)) by rw[Nat.mul_mul_mul_comm],
   show 4294967296*(a/4294967296)*(b%4294967296)=4294967296*((a/4294967296)*(b%4294967296)) by rw[Nat.mul_assoc],
   show a%4294967296*(4294967296*(b/4294967296))=4294967296*((a%4294967296)*(b/4294967296)) by rw[Nat.mul_left_comm]]
  omega
 rw[Fc h1 h2,Fc h1 h4,Fc h3 h4,Fc h3 h2];have k1:(a/4294967296)*(b/4294967296)<=4294967295*4294967295:=Nat.mul_le_mul (by omega) (by omega);have k2:(a/4294967296)*(b%4294967296)<=4294967295*4294967295:=Nat.mul_le_mul (by omega) (by omega);have k3:(a%4294967296)*(b/4294967296)<=4294967295*4294967295:=Nat.mul_le_mul (by omega) (by omega);have k4:(a%4294967296)*(b%4294967296)<=4294967295*4294967295:=Nat.mul_le_mul (by omega) (by omega);clear ea eb;generalize(a/4294967296)*(b/4294967296)=p11 at*;generalize(a/4294967296)*(b%4294967296)=p10 at*;generalize(a%4294967296)*(b/4294967296)=p01 at*;generalize(a%4294967296)*(b%4294967296)=p00 at*;rw[pO (x:=p00),yS (x:=p10) (y:=p00/4294967296),Bd (by omega),yS,pO,pO,yS,yS];refine⟨?_,rfl⟩;rw[hab];have:p11+(p10+p00/4294967296)/4294967296+((p10+p00/4294967296)%4294967296+p01)/4294967296=(18446744073709551616*p11+4294967296*p10+4294967296*p01+p00)/18446744073709551616:=by omega
 rw[this]
theorem lF {a:Nat}(ha:a<2^64)(H:Hp):ae prog 121 #[U (a:Int)] H (RetE (U ((a%18446744069414584321:Nat):Int)) H):=by
 apply rM.ok;unfold rM;by_cases h:a>=18446744069414584321
 .refine aC (by omega) ?_;rw[i7];refine⟨?_,rfl⟩;have:(a:Int)-18446744069414584321=((a%18446744069414584321:Nat):Int):=by omega
  rw[this]
 .refine aw (by omega) ⟨?_,rfl⟩;rw[Nat.mod_eq_of_lt (by omega)]
theorem zB {mid t:Nat}(hm:mid<4294967296)(ht:t<18446744073709551616){H:Hp}{K:VK}(k:K (U (((t+mid*4294967295)%18446744069414584321:Nat):Int)) H):eS.j5 K (mid:Int) (t:Int) H:=by
 unfold eS.j5;have em:u64.wrap ((mid:Int)*4294967295)=((mid*4294967295:Nat):Int):=by
  rw[i7];omega
 rw[em];by_cases h:t+mid*4294967295<18446744073709551616
 .rw[yS h];refine aw (by omega) ?_;refine ae.use (lF (by omega) H) ?_;simp only[HV];exact k
 .have e1:u64.wrap ((t:Int)+((mid*4294967295:Nat):Int))=((t+mid*4294967295-18446744073709551616:Nat):Int):=by
   rw[Nc];omega
  rw[e1];refine aC (by omega) ?_;rw[show(4294967295:Int)=((4294967295:Nat):Int)from rfl,yS];refine ae.use (lF (by omega) H) ?_;simp only[HV];have:(t+mid*4294967295-18446744073709551616+4294967295)%18446744069414584321=(t+mid*4294967295)%18446744069414584321:=by omega
  rw[this];exact k
theorem zC {hi lo:Nat}(hh:hi<2^64)(hl:lo<2^64)(H:Hp):ae prog 179 #[.agg #[U (hi:Int),U (lo:Int)]] H (RetE (U (((hi*18446744073709551616+lo)%18446744069414584321:Nat):Int)) H):=ae.ret (by
 apply eS.ok;unfold eS;refine(Sep.start H).nw fun b1 H1 hs=>?_
 first|refine hs.cC 1 rfl rfl ?_|refine hs.kH 1 rfl rfl ?_
 try simp only[HV]
 refine⟨by decide,?_⟩
 first|refine hs.cC 1 rfl rfl ?_|refine hs.kH 1 rfl rfl ?_
 try simp only[HV]
 first|refine hs.cC 1 rfl rfl ?_|refine hs.kH 1 rfl rfl ?_
 try simp only[HV]
 first|refine hs.cC 1 rfl rfl ?_|refine hs.kH 1 rfl rfl ?_
 try simp only[HV]
 rw[pO,Bd hh];by_cases h:lo<hi/4294967296
 .refine aC (by omega) ?_;have e1:u64.wrap (u64.wrap ((lo:Int)-((hi/4294967296:Nat):Int))-4294967295)=((lo+18446744069414584321-hi/4294967296:Nat):Int):=by
   rw[rE,rE];omega
  rw[e1];refine zB (by omega) (by omega) ?_;have:(lo+18446744069414584321-hi/4294967296+hi%4294967296*4294967295)%18446744069414584321=(hi*18446744073709551616+lo)%18446744069414584321:=by omega
  rw[this];exact hs.fin 0 rfl _
 .refine aw (by omega) ?_;have e1:u64.wrap ((lo:Int)-((hi/4294967296:Nat):Int))=((lo-hi/4294967296:Nat):Int):=by
   rw[rE];omega
  rw[e1];refine zB (by omega) (by omega) ?_;have:(lo-hi/4294967296+hi%4294967296*4294967295)%18446744069414584321=(hi*18446744073709551616+lo)%18446744069414584321:=by omega
  rw[this];exact hs.fin 0 rfl _)
theorem LO {a b:Nat}(ha:a<2^64)(hb:b<2^64)(H:Hp):ae prog 180 #[U (a:Int),U (b:Int)] H (RetE (.agg #[U ((a*b/18446744073709551616:Nat):Int),U ((a*b%18446744073709551616:Nat):Int)]) H):=ae.ret (by
 apply qv.ok;unfold qv;refine(Sep.start H).nw fun b1 H1 hs=>?_
 refine ae.use (IB ha hb H1) ?_;simp only[HV];refine hs.dW 1 rfl rfl rfl rfl fun H1 hs=>?_
 refine hs.bd 1 rfl rfl ?_;exact hs.fin 0 rfl _)
theorem pQ {a b:Nat}(ha:a<2^64)(hb:b<2^64)(H:Hp):ae prog 120 #[U (a:Int),U (b:Int)] H (RetE (U ((a*b%18446744069414584321:Nat):Int)) H):=by
 apply qm.ok;unfold qm;refine ae.use (LO ha hb H) ?_;simp only[HV];have hab:a*b<=18446744073709551615*18446744073709551615:=Nat.mul_le_mul (by omega) (by omega);generalize a*b=n at*;refine ae.use (zC (hi:=n/18446744073709551616) (lo:=n%18446744073709551616) (by omega) (by omega) H) ?_;simp only[HV];have:n/18446744073709551616*18446744073709551616+n%18446744073709551616=n:=by omega
 rw[this];exact RetE.mk _ _
theorem LN {a b:Nat}(ha:a<2^64)(hb:b<2^64)(H:Hp):ae prog 249 #[.agg #[U 0,U (a:Int)],.agg #[U 0,U (b:Int)]] H (RetE (.tuple #[.agg #[U (((a+b)/18446744073709551616:Nat):Int),U (((a+b)%18446744073709551616:Nat):Int)],U 0]) H):=ae.ret (by
 apply qu.ok;unfold qu;refine(Sep.start H).nw fun b1 H1 hs=>?_
 refine hs.nw fun b2 H1 hs=>?_
 refine hs.nw fun b3 H1 hs=>?_
 first|refine hs.cC 1 rfl rfl ?_|refine hs.kH 1 rfl rfl ?_
 try simp only[HV]
 first|refine hs.cC 2 rfl rfl ?_|refine hs.kH 2 rfl rfl ?_
 try simp only[HV]
 refine zu a b 0 (by omega) ?_;simp only[HV];refine hs.Ko 3 rfl (Nat.lt_of_sub_eq_succ rfl) rfl fun H1 hs=>?_
 first|refine hs.cC 1 rfl rfl ?_|refine hs.kH 1 rfl rfl ?_
 try simp only[HV]
 first|refine hs.cC 2 rfl rfl ?_|refine hs.kH 2 rfl rfl ?_
 try simp only[HV]
 refine zu 0 0 ((a+b+0)/18446744073709551616) (by omega) ?_;simp only[HV];refine hs.Ko 3 rfl (Nat.lt_of_sub_eq_succ rfl) rfl fun H1 hs=>?_
 refine hs.bd 3 rfl rfl ?_;refine hs.dW 3 rfl rfl rfl rfl fun H1 hs=>?_
 refine hs.bd 3 rfl rfl ?_;have e1:(0+0+(a+b+0)/18446744073709551616)%18446744073709551616=(a+b)/18446744073709551616:=by omega
 have e2:(0+0+(a+b+0)/18446744073709551616)/18446744073709551616=0:=by omega
 rw[e2];have hv:lG (.tuple #[.agg #[U (((0+0+(a+b+0)/18446744073709551616)%18446744073709551616:Nat):Int),U (((a+b+0)%18446744073709551616:Nat):Int)],U ((0:Nat):Int)]) H (.tuple #[.agg #[U (((0+0+(a+b+0)/18446744073709551616)%18446744073709551616:Nat):Int),U (((a+b+0)%18446744073709551616:Nat):Int)],U ((0:Nat):Int)]) H1:=hs.fin 0 rfl _;rw[e1]at hv;rw[e1];exact hv)
theorem xe {a b:Nat}(ha:a<2^64)(hb:b<2^64)(H:Hp):ae prog 177 #[U (a:Int),U (b:Int)] H (RetE (U (((a+b)%18446744069414584321:Nat):Int)) H):=ae.ret (by
 apply qk.ok;unfold qk;have hs:=Sep.start H;refine ae.use (lF ha H) ?_;simp only[HV];refine ae.use (lF hb H) ?_;simp only[HV];refine ae.use (LN (a:=a%18446744069414584321) (b:=b%18446744069414584321) (by omega) (by omega) H) ?_;simp only[HV];refine hs.nw fun b1 H1 hs=>?_
 refine hs.dW 1 rfl rfl rfl rfl fun H1 hs=>?_
 refine hs.bd 1 rfl rfl ?_;refine ae.use (zC (hi:=(a%18446744069414584321+b%18446744069414584321)/18446744073709551616) (lo:=(a%18446744069414584321+b%18446744069414584321)%18446744073709551616) (by omega) (by omega) H1) ?_;simp only[HV];have:((a%18446744069414584321+b%18446744069414584321)/18446744073709551616*18446744073709551616+(a%18446744069414584321+b%18446744069414584321)%18446744073709551616)%18446744069414584321=(a+b)%18446744069414584321:=by omega
 rw[this];exact hs.fin 0 rfl _)
theorem vQ (p x y q:Nat):(x%p+y%p*q)%p=(x+y*q)%p:=by
 rw[Nat.add_mod,Nat.mod_mod,Nat.mul_mod,Nat.mod_mod,<-Nat.mul_mod,<-Nat.add_mod]
theorem vR (p x y q:Nat):x%p*(y%p)^q%p=x*y^q%p:=by
 rw[Nat.mul_mod,Nat.mod_mod,<-Nat.pow_mod,<-Nat.mul_mod]
theorem uy (p x y q:Nat):x*(y%p)^q%p=x*y^q%p:=by
 rw[Nat.mul_mod,<-Nat.pow_mod,<-Nat.mul_mod]
theorem z8 (p x y:Nat):x%p*y%p=x*y%p:=by rw[Nat.mul_mod,Nat.mod_mod,<-Nat.mul_mod]
theorem ID (H:Hp):∀(f n out base:Nat),n<2^f->f<=64->out<18446744069414584321->base<18446744069414584321->et.l2 (RetE (U ((out*base^n%18446744069414584321:Nat):Int)) H) (f+1) (n:Int) (out:Int) (base:Int) H:=fun f=>by
 generalize hp:18446744069414584321=p
 induction f with
 |zero=>
  intro n out base hn hf ho hb;obtain rfl:n=0:=by omega
  unfold et.l2;refine aw (by omega) ?_;rw[Nat.pow_zero,Nat.mul_one,Nat.mod_eq_of_lt ho];exact RetE.mk _ _
 |succ f ih=>
  intro n out base hn hf ho hb;have hp0:0<p:=by omega
  have h64:2^(f+1)<=2^64:=Nat.pow_le_pow_right (by omega) hf;have hs:2^(f+1)=2*2^f:=by rw[Nat.pow_succ];omega
  have hn2:n/2<2^f:=by omega
  unfold et.l2;by_cases h0:n=0
  .subst h0;refine aw (by omega) ?_;rw[Nat.pow_zero,Nat.mul_one,Nat.mod_eq_of_lt ho];exact RetE.mk _ _
  refine aC (by omega) ?_;have hand:cU .u64 (n:Int) 1=((n%2:Nat):Int):=by
   rw[show(1:Int)=((1:Nat):Int)from rfl,yT,Nat.and_one_is_mod]
  have hshr:cT .u64 (n:Int) 1=((n/2:Nat):Int):=by
   rw[rz (k:=.u64) (a:=n) (i:=1) (n:=1) rfl (by decide)]
  rw[hand,hshr];have hq:=Nat.mod_lt (base*base) hp0;have hq2:=Nat.mod_lt (out*base) hp0;by_cases h1:n%2=1
  .refine aL (by omega) ?_;refine ae.use (pQ (a:=out) (b:=base) (by omega) (by omega) H) ?_;rw[hp];simp only[HV];refine ae.use (pQ (a:=base) (b:=base) (by omega) (by omega) H) ?_;rw[hp];simp only[HV];refine⟨by decide,?_⟩;have:=ih (n/2) (out*base%p) (base*base%p) hn2 (by omega) hq2 hq;rw[vR,show out*base*(base*base)^(n/2)=out*base^n by
    rw[<- Nat.pow_two,<-Nat.pow_mul,Nat.mul_assoc,<-Nat.pow_succ',Nat.succ_eq_add_one,show 2*(n/2)+1=n by omega]]at this
   exact this
  .refine aK (by omega) ?_;refine ae.use (pQ (a:=base) (b:=base) (by omega) (by omega) H) ?_;rw[hp];simp only[HV];refine⟨by decide,?_⟩;have:=ih (n/2) out (base*base%p) hn2 (by omega) ho hq;rw[uy,show out*(base*base)^(n/2)=out*base^n by
    rw[<- Nat.pow_two,<-Nat.pow_mul,show 2*(n/2)=n by omega]]at this
   exact this
theorem xq {a n:Nat}(ha:a<2^64)(hn:n<2^64)(H:Hp):ae prog 246 #[U (a:Int),U (n:Int)] H (RetE (U ((a^n%18446744069414584321:Nat):Int)) H):=by
 apply et.ok;unfold et;refine ae.use (lF ha H) ?_;simp only[HV];refine⟨65,?_⟩;have:=ID H 64 n 1 (a%18446744069414584321) hn (by omega) (by omega) (by omega);rw[Nat.one_mul,<-Nat.pow_mod]at this;exact this
def neg (a:Nat):Nat:=(18446744069414584321-a%18446744069414584321)%18446744069414584321
theorem L7 {a:Nat}(ha:a<2^64)(H:Hp):ae prog 309 #[U (a:Int)] H (RetE (U ((neg a:Nat):Int)) H):=by
 apply qn.ok;unfold qn neg;refine ae.use (lF ha H) ?_;simp only[HV];by_cases h:a%18446744069414584321=0
 .rw[h];exact aL rfl (RetE.mk _ _)
 .refine aK (by omega) ?_;rw[i7];have:(18446744069414584321:Int)-((a%18446744069414584321:Nat):Int)=(((18446744069414584321-a%18446744069414584321)%18446744069414584321:Nat):Int):=by omega
  rw[this];exact RetE.mk _ _
def sub (a b:Nat):Nat:=(a+neg b)%18446744069414584321
theorem Mg {a b:Nat}(ha:a<2^64)(hb:b<2^64)(H:Hp):ae prog 243 #[U (a:Int),U (b:Int)] H (RetE (U ((sub a b:Nat):Int)) H):=by
 apply qo.ok;unfold qo;refine ae.use (L7 hb H) ?_;simp only[HV];refine ae.use (xe (a:=a) (b:=neg b) ha (by unfold neg;omega) H) ?_;simp only[HV];exact RetE.mk _ _
def qa :Nat:=18446744069414584319
def wH (a:Nat):Nat:=a^qa%18446744069414584321
theorem KZ {a:Nat}(ha:a<2^64)(e:Nat)(he:e=18446744069414584319)(H:Hp):ae prog 246 #[U (a:Int),U (e:Int)] H (RetE (U ((a^e%18446744069414584321:Nat):Int)) H):=xq ha (by omega) H
theorem F9 {a:Nat}(ha:a<2^64)(h0:a%18446744069414584321≠0)(H:Hp):ae prog 178 #[U (a:Int)] H (RetE (.tuple #[U ((wH a:Nat):Int),I 0]) H):=by
 apply ql.ok;unfold ql;refine ae.use (lF ha H) ?_;simp only[HV];refine aK (by omega) ?_;have hP:ae prog 246 #[U (a:Int),U 18446744069414584319] H (RetE (U ((wH a:Nat):Int)) H):=by
  have h:=KZ ha qa rfl H;unfold wH;rw[show(18446744069414584319:Int)=((qa:Nat):Int)from rfl];exact h
 refine ae.use hP ?_;simp only[HV];exact RetE.mk _ _
theorem yi {a:Nat}(H:Hp):ae prog 67 #[U (a:Int)] H (RetE (U ((a%18446744069414584321:Nat):Int)) H):=by
 apply kg.ok;unfold kg;exact⟨by decide,by simp,RetE.mk _ _⟩
theorem vv {a b:Nat}(H:Hp):ae prog 68 #[U (a:Int),U (b:Int)] H (RetE (U (((a+b)%18446744069414584321:Nat):Int)) H):=by
 apply jI.ok;unfold jI;refine ae.use (yi (a:=a) H) ?_;simp only[HV];refine ae.use (yi (a:=b) H) ?_;simp only[HV];rw[i7 (x:=18446744069414584321-((b%18446744069414584321:Nat):Int))];by_cases h:((a%18446744069414584321:Nat):Int)>=18446744069414584321-((b%18446744069414584321:Nat):Int)
 .refine aC h ?_;rw[i7];have:((a%18446744069414584321:Nat):Int)-(18446744069414584321-((b%18446744069414584321:Nat):Int))=(((a+b)%18446744069414584321:Nat):Int):=by omega
  rw[this];exact RetE.mk _ _
 .refine aw h ?_;rw[i7];have:((a%18446744069414584321:Nat):Int)+((b%18446744069414584321:Nat):Int)=(((a+b)%18446744069414584321:Nat):Int):=by omega
  rw[this];exact RetE.mk _ _
theorem Ho (H:Hp):∀(f n out base:Nat),n<2^f->f<=64->out<18446744069414584321->cz.l3 (RetE (U (((out+base*n)%18446744069414584321:Nat):Int)) H) (f+1) (base:Int) (n:Int) (out:Int) H:=fun f=>by
 generalize hp:18446744069414584321=p
 induction f with
 |zero=>
  intro n out base hn hf ho;obtain rfl:n=0:=by omega
  unfold cz.l3;refine aw (by omega) ?_;rw[Nat.mul_zero,Nat.add_zero,Nat.mod_eq_of_lt ho];exact RetE.mk _ _
 |succ f ih=>
  intro n out base hn hf ho;have hp0:0<p:=by omega
  have h64:2^(f+1)<=2^64:=Nat.pow_le_pow_right (by omega) hf;have hs:2^(f+1)=2*2^f:=by rw[Nat.pow_succ];omega
  have hn2:n/2<2^f:=by omega
  unfold cz.l3;by_cases h0:n=0
  .subst h0;refine aw (by omega) ?_;rw[Nat.mul_zero,Nat.add_zero,Nat.mod_eq_of_lt ho];exact RetE.mk _ _
  refine aC (by omega) ⟨by decide,by simp,?_⟩;have hm:Int.tmod (n:Int) 2=((n%2:Nat):Int):=rfl;have hd:u64.wrap (Int.tdiv (n:Int) 2)=((n/2:Nat):Int):=by
   rw[show Int.tdiv (n:Int) 2=((n/2:Nat):Int)from rfl,fW]
  rw[hm,hd];have hq2:=Nat.mod_lt (out+base) hp0;by_cases h1:n%2=1
  .refine aL (by omega) ?_;refine ae.use (vv (a:=out) (b:=base) H) ?_;rw[hp];simp only[HV];refine ae.use (vv (a:=base) (b:=base) H) ?_;rw[hp];simp only[HV];refine⟨by decide,by simp,?_⟩;have:=ih (n/2) ((out+base)%p) ((base+base)%p) hn2 (by omega) hq2;rw[vQ,show out+base+(base+base)*(n/2)=out+base*n by
    rw[<- Nat.two_mul,Nat.mul_comm 2,Nat.mul_assoc,Nat.add_assoc,Nat.add_comm base,<-Nat.mul_succ,Nat.succ_eq_add_one,show 2*(n/2)+1=n by omega]]at this
   exact this
  .refine aK (by omega) ?_;refine ae.use (vv (a:=base) (b:=base) H) ?_;rw[hp];simp only[HV];refine⟨by decide,by simp,?_⟩;have:=ih (n/2) out ((base+base)%p) hn2 (by omega) ho;have e:=vQ p out (base+base) (n/2);rw[Nat.mod_eq_of_lt ho]at e;rw[e,show out+(base+base)*(n/2)=out+base*n by
    rw[<- Nat.two_mul,Nat.mul_comm 2,Nat.mul_assoc,show 2*(n/2)=n by omega]]at this
   exact this
theorem pd {a b:Nat}(hb:b<2^64)(H:Hp):ae prog 172 #[U (a:Int),U (b:Int)] H (RetE (U ((a*b%18446744069414584321:Nat):Int)) H):=by
 apply cz.ok;unfold cz;refine ae.use (yi (a:=a) H) ?_;simp only[HV];refine⟨65,?_⟩;have:=Ho H 64 b 0 (a%18446744069414584321) hb (by omega) (by omega);rw[Nat.zero_add,z8]at this;exact this
theorem Hr (H:Hp):∀(f n out base:Nat),n<2^f->f<=64->out<18446744069414584321->base<18446744069414584321->cA.l3 (RetE (U ((out*base^n%18446744069414584321:Nat):Int)) H) (f+1) (base:Int) (n:Int) (out:Int) H:=fun f=>by
 generalize hp:18446744069414584321=p
 induction f with
 |zero=>
  intro n out base hn hf ho hb;obtain rfl:n=0:=by omega
  unfold cA.l3;refine aw (by omega) ?_;rw[Nat.pow_zero,Nat.mul_one,Nat.mod_eq_of_lt ho];exact RetE.mk _ _
 |succ f ih=>
  intro n out base hn hf ho hb;have hp0:0<p:=by omega
  have h64:2^(f+1)<=2^64:=Nat.pow_le_pow_right (by omega) hf;have hs:2^(f+1)=2*2^f:=by rw[Nat.pow_succ];omega
  have hn2:n/2<2^f:=by omega
  unfold cA.l3;by_cases h0:n=0
  .subst h0;refine aw (by omega) ?_;rw[Nat.pow_zero,Nat.mul_one,Nat.mod_eq_of_lt ho];exact RetE.mk _ _
  refine aC (by omega) ⟨by decide,by simp,?_⟩;have hm:Int.tmod (n:Int) 2=((n%2:Nat):Int):=rfl;have hd:u64.wrap (Int.tdiv (n:Int) 2)=((n/2:Nat):Int):=by
   rw[show Int.tdiv (n:Int) 2=((n/2:Nat):Int)from rfl,fW]
  rw[hm,hd];have hq:=Nat.mod_lt (base*base) hp0;have hq2:=Nat.mod_lt (out*base) hp0;by_cases h1:n%2=1
  .refine aL (by omega) ?_;refine ae.use (pd (a:=out) (b:=base) (by omega) H) ?_;rw[hp];simp only[HV];refine ae.use (pd (a:=base) (b:=base) (by omega) H) ?_;rw[hp];simp only[HV];refine⟨by decide,by simp,?_⟩;have:=ih (n/2) (out*base%p) (base*base%p) hn2 (by omega) hq2 hq;rw[vR,show out*base*(base*base)^(n/2)=out*base^n by
    rw[<- Nat.pow_two,<-Nat.pow_mul,Nat.mul_assoc,<-Nat.pow_succ',Nat.succ_eq_add_one,show 2*(n/2)+1=n by omega]]at this
   exact this
  .refine aK (by omega) ?_;refine ae.use (pd (a:=base) (b:=base) (by omega) H) ?_;rw[hp];simp only[HV];refine⟨by decide,by simp,?_⟩;have:=ih (n/2) out (base*base%p) hn2 (by omega) ho hq;rw[uy,show out*(base*base)^(n/2)=out*base^n by
    rw[<- Nat.pow_two,<-Nat.pow_mul,show 2*(n/2)=n by omega]]at this
   exact this
theorem zi {a n:Nat}(hn:n<2^64)(H:Hp):ae prog 173 #[U (a:Int),U (n:Int)] H (RetE (U ((a^n%18446744069414584321:Nat):Int)) H):=by
 apply cA.ok;unfold cA;refine ae.use (yi (a:=a) H) ?_;simp only[HV];refine⟨65,?_⟩;have:=Hr H 64 n 1 (a%18446744069414584321) hn (by omega) (by omega) (by omega);rw[Nat.one_mul,<-Nat.pow_mod]at this;exact this
end Gol
end Go.Proofs.YtlgnlghmbcpmhaaGreatDoor
